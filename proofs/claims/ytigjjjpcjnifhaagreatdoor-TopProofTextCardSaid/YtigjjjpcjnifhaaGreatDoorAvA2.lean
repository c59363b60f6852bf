/- Chapter 23: the checker's answers; the laws' limits. -/
import Derived.Test.YtigjjjpcjnifhaaGreatDoorAvU6
import Derived.Test.YtigjjjpcjnifhaaGreatDoorAbZ
import Derived.Test.YtigjjjpcjnifhaaGreatDoorAbL3
import Derived.Test.YtigjjjpcjnifhaaGreatDoorAvC2
import Derived.Test.YtigjjjpcjnifhaaGreatDoorAbL2
import Derived.Test.YtigjjjpcjnifhaaGreatDoorRows
import Derived.Test.YtigjjjpcjnifhaaGreatDoorAbL4
set_option linter.unusedSimpArgs false
set_option linter.unusedVariables false
open Nat renaming le_refl→aP,zero_le→bk,reduceBEq→di
open Bool renaming true_and→c6,false_and→c7,and_eq_true→aZ
open List renaming mem_cons→bu,getD_eq_getElem?_getD→c8,getElem?_append_left→aT,length_append→bV,take_length→da,getElem_mem→cZ,of_mem_zip→db,getElem_of_mem→dc,mem_append→bW,mem_map→bw,mem_filter→de,map_cons→bA,nodup_cons→cX,nodup_append→cm,getElem?_eq_getElem→a8,all_eq_true→bC,any_eq_true→df,getElem_map→dj,mem_singleton→cp,set_set→dk,drop_eq_getElem_cons→dm,foldl_cons→cr,take_succ_eq_append_getElem→dp,foldl_append→dq,map_append→cU,map_nil→bZ,take_zero→dr,mem_of_mem_take→cS,map_take→cV,getElem_inj→du,ext_getElem→dw,getElem_set→dx,getElem_range→dy,take_append_drop→dz,mem_map_of_mem→dA
open Int renaming zero_sub→dh,toNat_natCast→dt,neg_neg→dv
open Option renaming getD_some→bm
namespace Go.Ab
open Go Go.Proofs
set_option maxRecDepth 20000
set_option maxHeartbeats 8000000
theorem AA (e:pK):∀(l:List gH) (s:n5),(jd e s l).2≤l.length
 |[],s=>by rw[wQ];exact aP _
 |t::l,s=>by
  unfold jd
  cases ig e s t with
  |none=>exact bk _
  |some s'=>exact Nat.succ_le_succ (AA e l s')
structure Lk (v:Int) (cl:List (List Int)) (syms:List (List Int)) (l:List gH):Prop where
 hv:0≤v∧v≤20000
 jq:∀c∈cl,e_ v c=true∧c.length≤1000
 len:cl.length≤1000
 HT:syms.length≤1000∧∀c∈syms,c.length≤1000
 hl:wS l≤900000∧∀t∈l,t.lits.length≤900
 YK:l.length≤20000
theorem Lk.ok {v:Int} {cl:List (List Int)} {syms:List (List Int)} {l:List gH} (h:Lk v cl syms l):nf 1000 (iB v cl):=⟨h.hv,h.jq,h.len⟩
theorem Lk.f {v:Int} {cl:List (List Int)} {syms:List (List Int)} {l:List gH} (h:Lk v cl syms l):TO v cl:=h.ok.f (by omega)
def Fp (n m:Nat):Int:=if n<m then 220 else 0
attribute [local irreducible] AW a_ ga ft AR fB fp fG fU canon l4 kd ox pA mN e_ jg hU jd ig
theorem IW (v:Int) (cl:List (List Int)) (syms:List (List Int)) (l:List gH) (h:Lk v cl syms l):
  Fn Tryz.prog 15 [H6 v cl,.pv (jm syms),.pv (steps l)] (.gM [e7 ((jd ⟨v,cl,syms⟩ (iB v cl) l).2:Nat),e7 (Fp (jd ⟨v,cl,syms⟩ (iB v cl) l).2 l.length)]):=by
 have hr:=KS v cl syms l h.ok h.HT h.hl
 have hle:=AA ⟨v,cl,syms⟩ l (iB v cl)
 have hl:=h.YK
 generalize jd ⟨v,cl,syms⟩ (iB v cl) l=R at hr hle ⊢
 by_cases fx:R.2<l.length
 ·rw[Fp,if_pos fx]
  refine Fn.enter (n:=27) Tryz.func15 rfl rfl rfl rfl rfl (by decide) fun g fE fD=>?_;(try refine nz ?_)
  (refine Da ?_;refine lj ?_;refine u_ ?_;refine zn ?_;refine a_.gtr rfl rfl rfl rfl rfl ?_;refine vD ?_;refine qN ?_;refine NI ?_;refine zs ?_;refine lq ?_;refine pZ ?_;refine lj ?_;refine AW.ret ?_;refine im ?_)
  (apply e9;(exact gn.two (.tmp rfl rfl) (.tmp rfl rfl));(refine Le.EM ?_;refine jO.cons ?_ ?_;refine Le.e7 ?_;(rfl);refine jO.cons ?_ ?_;refine Le.e7 ?_;(rfl);exact jO.nil))
 ·rw[Fp,if_neg fx]
  have he:R.2=l.length:=by omega
  rw[he] at hr ⊢
  refine Fn.enter (n:=27) Tryz.func15 rfl rfl rfl rfl rfl (by decide) fun g fE fD=>?_;(try refine nz ?_)
  (refine Da ?_;refine lj ?_;refine u_ ?_;refine zn ?_;refine a_.gtr rfl rfl rfl rfl rfl ?_;refine vD ?_;refine qN ?_;refine NI ?_;refine zs ?_;refine vD ?_;refine pZ ?_;refine zn ?_;refine lj ?_;refine AW.ret ?_)
  (apply e9;(exact gn.two (.tmp rfl rfl) (.tmp rfl rfl));(refine Le.EM ?_;refine jO.cons ?_ ?_;refine Le.e7 ?_;(rfl);refine jO.cons ?_ ?_;refine Le.e7 ?_;(rfl);exact jO.nil))
theorem Dy (v:Int) (cl:List (List Int)) (syms:List (List Int)) (l:List gH) (h:Lk v cl syms l):
  Fn Tryz.prog 11 [H6 v cl,.pv (jm syms),.pv (steps l)] (fu (decide ((jd ⟨v,cl,syms⟩ (iB v cl) l).2=l.length) && (jd ⟨v,cl,syms⟩ (iB v cl) l).1.ref)):=by
 have hr:=KS v cl syms l h.ok h.HT h.hl
 have hle:=AA ⟨v,cl,syms⟩ l (iB v cl)
 have hl:=h.YK
 generalize jd ⟨v,cl,syms⟩ (iB v cl) l=R at hr hle ⊢
 obtain⟨⟨sv,scl,rf⟩,n⟩:=R
 simp only at hr hle ⊢
 by_cases he:n=l.length
 ·have Vj:(n:Int)=l.length:=by omega
  rw[decide_eq_true he,c6]
  refine Fn.enter (n:=29) Tryz.func11 rfl rfl rfl rfl rfl (by decide) fun g fE fD=>?_;(try refine nz ?_)
  (refine Da ?_;refine tN ?_;refine zn ?_;refine G8 ?_;refine NI ?_;refine Ij ?_;refine zt ?_;refine a_.tt rfl rfl rfl ?_;refine zt ?_;refine a_.rh rfl rfl rfl ?_;refine zt ?_;refine a_.sr 59 4 5 1 rfl rfl rfl rfl ?_;refine nz ?_;refine zt ?_;refine zr ?_;refine zT ?_;refine kH ?_)
  (apply e9;(exact gn.one (.tmp rfl rfl));(refine Le.fu ?_;(rfl)))
 ·have Vj:¬(n:Int)=l.length:=by omega
  rw[decide_eq_false he,c7]
  refine Fn.enter (n:=29) Tryz.func11 rfl rfl rfl rfl rfl (by decide) fun g fE fD=>?_;(try refine nz ?_)
  (refine Da ?_;refine tN ?_;refine zn ?_;refine G8 ?_;refine NI ?_;refine Ij ?_;(iterate 4 refine a_.oW rfl rfl rfl rfl rfl rfl (by with_reducible assumption) ?_);refine zF ?_;refine kH ?_)
  (apply e9;(exact gn.one (.tmp rfl rfl));(refine Le.fu ?_;(rfl)))
end Go.Ab
/- Chapter 20:what a reason says;the levels' plain part. -/
namespace Go.Ab
open Go Go.Proofs
set_option maxRecDepth 20000
set_option maxHeartbeats 4000000
theorem o7 (tr:List Int):∀(c out r:List Int),fV tr c out=some r→(∀y∈out,y∈r)∧∀y∈c,y∉tr∧((-y)∈tr∨y∈r):=by
 intro c
 induction c with
 |nil=>intro out r h;simp only[fV,Option.some.injEq] at h;subst h;exact⟨fun y hy=>hy,by simp⟩
 |cons x c ih=>
  intro out r h
  unfold fV at h
  split at h
  ·cases h
  ·rename_i hx
   obtain⟨h1,h2⟩:=ih _ _ h
   refine⟨fun y hy=>?_,fun y hy=>?_⟩
   ·refine h1 y ?_
    split
    ·simp [hy]
    ·exact hy
   ·rcases bu.1 hy with rfl|hy
    ·refine⟨hx,?_⟩
     by_cases hn:(-y)∈tr
     ·exact .inl hn
     ·refine .inr (h1 y ?_)
      by_cases ho:y∈out
      ·rw[if_neg (by simp [ho])];exact ho
      ·rw[if_pos ⟨hn,ho⟩];simp
    ·exact h2 y hy
theorem zO {c tr:List Int} (h0:∀x∈c,x≠0) {x:Int} (h:(ib c tr).1=2) (hx:(ib c tr).2=x):fV tr c []=some [x]:=by
 rw[mH c tr h0] at h hx
 cases ho:fV tr c [] with
 |none=>rw[ho] at h;simp [qI] at h
 |some r=>
  rw[ho] at h hx
  match r,h,hx with
  |[],h,_=>simp [qI] at h
  |[y],_,hx=>simp [qI] at hx;rw[hx]
  |_::_::_,h,_=>simp [qI] at h
def Rj (cl:List (List Int)) (t:Tr):Prop:=∀k,k<t.1.length→0≤t.2.1.getD k 0→
 t.1.getD k 0∈cl.getD (t.2.1.getD k 0).toNat []∧∀y∈cl.getD (t.2.1.getD k 0).toNat [],y≠t.1.getD k 0→(-y)∈t.1.take k
theorem vM {α:Type} {l m:List α} {k:Nat} {d:α} (h:k<l.length):(l++m).getD k d=l.getD k d:=by
 simp [c8,aT h]
theorem Bd {α:Type} {l:List α} {x d:α}:(l++ [x]).getD l.length d=x:=by
 simp [c8]
theorem C2 {α:Type} {l m:List α} {k:Nat} (h:k≤l.length):(l++m).take k=l.take k:=by
 rw[List.take_append_of_le_length h]
theorem Rj.push {cl:List (List Int)} {t:Tr} (h:Rj cl t) (he:qH t) {x r:Int}
  (hn:0≤r→x∈cl.getD r.toNat []∧∀y∈cl.getD r.toNat [],y≠x→(-y)∈t.1):Rj cl (t.1++ [x],t.2.1++ [r],t.2.2):=by
 intro k hk hr
 have Vj:t.2.1.length=t.1.length:=he
 simp only[bV,List.length_singleton] at hk
 simp only at hr ⊢
 by_cases sd:k<t.1.length
 ·rw[vM aJ] at hr
  rw[vM sd,vM aJ,C2 aJ]
  exact h k sd hr
 ·have hk3:k=t.1.length:=by omega
  subst hk3
  have e1:(t.2.1++ [r]).getD t.1.length 0=r:=by rw[← Vj];exact Bd
  rw[e1] at hr ⊢
  rw[Bd,C2 (aP _),da]
  exact hn hr
theorem Rj.add {cl:List (List Int)} {t:Tr} (h:Rj cl t) (he:qH t) (x:Int):Rj cl (mC t x):=by
 unfold mC
 split
 ·exact h
 ·exact h.push he (fun h=>by omega)
end Go.Ab
/- Chapter 20:how the run ends,in plain terms. -/
namespace Go.Ab
open Go Go.Proofs
set_option maxRecDepth 20000
set_option maxHeartbeats 4000000
theorem tU (tr:List Int):∀(c:List Int) (left:Int),(iD tr c left).1=0∨(iD tr c left).1=1∨(iD tr c left).1=2:=by
 intro c
 induction c with
 |nil=>intro left;unfold iD;split<;>simp
 |cons x c ih=>intro left;unfold iD;split;exact .inl rfl;exact ih _
theorem xE (c tr:List Int):(ib c tr).1=0∨(ib c tr).1=1∨(ib c tr).1=2:=tU tr c 0
theorem rX (t:Tr):∀(cl:List (List Int)) (i:Nat),
  (∃j,∃h:j<cl.length,(ib cl[j] t.1).1=1∧kJ t i cl=((t.1,t.2.1,((i+j:Nat):Int)),false))∨
  (∃j,∃h:j<cl.length,(ib cl[j] t.1).1=2∧kJ t i cl=((t.1++ [(ib cl[j] t.1).2],t.2.1++ [((i+j:Nat):Int)],t.2.2),true))∨
  ((∀c∈cl,(ib c t.1).1=0)∧kJ t i cl=(t,false)):=by
 intro cl
 induction cl with
 |nil=>intro i;exact .inr (.inr ⟨by simp,rfl⟩)
 |cons c cl ih=>
  intro i
  unfold kJ
  rcases xE c t.1 with h|h|h
  ·rw[if_neg aJ,if_neg aJ]
   rcases ih (i+1) with ⟨j,hj,h1,h2⟩|⟨j,hj,h1,h2⟩|⟨h1,h2⟩
   ·refine .inl ⟨j+1,by simp;omega,by simpa using h1,?_⟩
    rw[show((i:Int)+1)=((i+1:Nat):Int) from by simp,h2,show i+1+j=i+(j+1) from by omega]
   ·refine .inr (.inl ⟨j+1,by simp;omega,by simpa using h1,?_⟩)
    rw[show((i:Int)+1)=((i+1:Nat):Int) from by simp,h2,show i+1+j=i+(j+1) from by omega]
    simp
   ·refine .inr (.inr ⟨?_,?_⟩)
    ·intro d hd
     rcases bu.1 hd with rfl|hd
     ·exact h
     ·exact h1 d hd
    ·rw[show((i:Int)+1)=((i+1:Nat):Int) from by simp,h2]
  ·rw[if_pos h]
   exact .inl ⟨0,by simp,by simpa using h,by simp⟩
  ·rw[if_neg aJ,if_pos h]
   exact .inr (.inl ⟨0,by simp,by simpa using h,by simp⟩)
theorem FU {vars:Int} {cl:List (List Int)} {assume:List Int} (hv:0≤vars) (jq:∀c∈cl,e_ vars c=true) (hw:e_ vars assume=true) (hc:gE assume=false)
  (I:Tr→Prop) (h0:I (iC assume))
  (hs:∀(t:Tr) (j:Nat) (h:j<cl.length) (x:Int),I t→pN vars t.1→qH t→fV t.1 cl[j] []=some [x]→x∈cl[j]→x∉t.1→(-x)∉t.1→I (t.1++ [x],t.2.1++ [(j:Int)],-1)):
  ∃t,I t∧pN vars t.1∧qH t∧t.2.2= -1∧lh cl t=(runM vars cl assume,false):=by
 have key:∀(m n:Nat) (t:Tr),(vars+1 - (n:Int)).toNat≤m→xG vars cl assume t n→I t→∃t,I t∧pN vars t.1∧qH t∧t.2.2= -1∧lh cl t=(runM vars cl assume,false):=by
  intro m
  induction m with
  |zero=>intro n t h1 h2 _;have:=h2.fuel hv;omega
  |succ m ih=>
   intro n t h1 h2 h3
   rcases rX t cl 0 with ⟨j,hj,h4,h5⟩|⟨j,hj,h4,h5⟩|⟨h4,h5⟩
   ·exact⟨t,h3,h2.dist,h2.even,h2.Ex,by rw[h2.stop hv h5];exact h5⟩
   ·have Ol:=fI (jq _ (cZ hj))
    have xW:=zO (fun x hx=>(Ol x hx).1) h4 rfl
    have hm:=oP t.1 cl[j] [] _ xW (by simp) (ib cl[j] t.1).2 (by simp)
    have jb:(ib cl[j] t.1).2∈cl[j]:=by simpa using hm.1
    have h6:=h2.go hv h5 (Ol _ jb) hm.2.1 hm.2.2
    refine ih (n+1) _ ?_ h6 ?_
    ·have:=h2.fuel hv;omega
    ·simpa using hs t j hj _ h3 h2.dist h2.even xW jb hm.2.1 hm.2.2
   ·exact⟨t,h3,h2.dist,h2.even,h2.Ex,by rw[h2.stop hv h5];exact h5⟩
 exact key _ 0 _ (aP _) (wg hv hw hc) h0
def MA (assume:List Int) (t:Tr):Prop:=(∀x∈assume,x∈t.1)∧∀p∈pr t,p.2<0→p.1∈assume
theorem QC {t:Tr} (h:qH t) (x r:Int) (k:Int):pr (t.1++ [x],t.2.1++ [r],k)=pr t++ [(x,r)]:=by
 unfold pr
 show(t.1++ [x]).zip (t.2.1++ [r])=_
 rw[List.zip_append h.symm]
 rfl
theorem JB (assume:List Int):MA assume (iC assume):=by
 refine⟨fun x hx=>(oY assume x).2 hx,fun p hp _=>?_⟩
 obtain⟨a,b⟩:=p
 exact(oY assume a).1 (db hp).1
theorem P1 {t:Tr} (h:qH t) {x:Int} (hx:x∈t.1):∃r,(x,r)∈pr t:=by
 obtain⟨k,hk,rfl⟩:=dc hx
 have sd:k<t.2.1.length:=by rw[h];exact hk
 refine⟨t.2.1[k],?_⟩
 have:(pr t)[k]'(by simp [pr];omega)=(t.1[k],t.2.1[k]):=by simp [pr]
 rw[← this]
 exact cZ _
theorem PL {assume:List Int} {t:Tr} (h:MA assume t) (he:qH t) (x:Int):x∈t.1↔x∈assume++(impl (pr t)).map (·.1):=by
 rw[bW,bw]
 constructor
 ·intro hx
  obtain⟨r,hr⟩:=P1 he hx
  by_cases h0:r<0
  ·exact .inl (h.2 _ hr h0)
  ·exact .inr ⟨(x,r),by unfold impl;rw[de];exact⟨hr,by simp;omega⟩,rfl⟩
 ·rintro(hx|⟨⟨a,b⟩,hp,rfl⟩)
  ·exact h.1 x hx
  ·unfold impl at hp
   rw[de] at hp
   exact(db hp.1).1
structure Fin (vars:Int) (cl:List (List Int)) (assume:List Int) (t:Tr):Prop where
 dist:pN vars t.1
 even:qH t
 mem:∀x,x∈t.1↔x∈assume++(impl (pr t)).map (·.1)
 fin:(t.2.2= -1∧∀c∈cl,(ib c t.1).1=0)∨∃j,∃h:j<cl.length,t.2.2=(j:Int)∧(ib cl[j] t.1).1=1
theorem y9 {vars:Int} {cl:List (List Int)} {assume:List Int} (hv:0≤vars) (jq:∀c∈cl,e_ vars c=true) (hw:e_ vars assume=true) (hc:gE assume=false):Fin vars cl assume (runM vars cl assume):=by
 obtain⟨t,h1,h2,h3,h4,h5⟩:=FU hv jq hw hc (MA assume) (JB assume) (by
  intro t j hj x h1 h2 h3 _ _ _ _
  refine⟨fun y hy=>bW.2 (.inl (h1.1 y hy)),fun p hp h0=>?_⟩
  rw[QC h3] at hp
  rcases bW.1 hp with hp|hp
  ·exact h1.2 p hp h0
  ·simp at hp;subst hp;simp at h0;omega)
 have hm:=PL h1 h3
 rcases rX t cl 0 with ⟨j,hj,h6,h7⟩|⟨j,hj,h6,h7⟩|⟨h6,h7⟩
 ·have e:runM vars cl assume=(t.1,t.2.1,(j:Int)):=by
   have h8:lh cl t=((t.1,t.2.1,((0+j:Nat):Int)),false):=h7
   rw[h5] at h8
   simpa using h8
  rw[e]
  exact⟨h2,h3,hm,.inr ⟨j,hj,rfl,h6⟩⟩
 ·have h8:lh cl t=(_,true):=h7
  rw[h5] at h8
  simp at h8
 ·have e:runM vars cl assume=t:=by
   have h8:lh cl t=(t,false):=h7
   rw[h5] at h8
   simpa using h8
  rw[e]
  exact⟨h2,h3,hm,.inl ⟨h4,h6⟩⟩
theorem GC {l:List Int} (h:(l.map Int.natAbs).Nodup) {x y:Int} (hx:x∈l) (hy:y∈l) (e:x.natAbs=y.natAbs):x=y:=by
 induction l with
 |nil=>cases hx
 |cons z l ih=>
  rw[bA,cX] at h
  rcases bu.1 hx with rfl|Ba<;>rcases bu.1 hy with rfl|ZE
  ·rfl
  ·exact absurd (e▸bw.2 ⟨y,ZE,rfl⟩) h.1
  ·exact absurd (e▸bw.2 ⟨x,Ba,rfl⟩) h.1
  ·exact ih h.2 Ba ZE
theorem pN.no {vars:Int} {l:List Int} (h:pN vars l) {x:Int} (hx:x∈l):(0 - x)∉l:=by
 intro hy
 have:=GC h.1 hx hy (by omega)
 have:=(h.2 x hx).1
 omega
end Go.Ab
/- Chapter 20:propagation grows with the formula and the assumptions,in plain terms. -/
namespace Go.Ab
open Go Go.Proofs
set_option maxRecDepth 20000
set_option maxHeartbeats 4000000
theorem xI (tr:List Int):∀(c out:List Int),fV tr c out=none→∃y∈c,y∈tr:=by
 intro c
 induction c with
 |nil=>intro out h;simp [fV] at h
 |cons x c ih=>
  intro out h
  unfold fV at h
  split at h
  ·rename_i hx;exact⟨x,by simp,hx⟩
  ·split at h
   ·obtain⟨y,h1,h2⟩:=ih _ h;exact⟨y,by simp [h1],h2⟩
   ·obtain⟨y,h1,h2⟩:=ih _ h;exact⟨y,by simp [h1],h2⟩
theorem vL (tr:List Int):∀(c out r:List Int),fV tr c out=some r→out.Nodup→r.Nodup:=by
 intro c
 induction c with
 |nil=>intro out r h ho;simp only[fV,Option.some.injEq] at h;exact h▸ho
 |cons x c ih=>
  intro out r h ho
  unfold fV at h
  split at h
  ·cases h
  ·split at h
   ·rename_i h2
    refine ih _ _ h ?_
    rw[cm]
    exact⟨ho,by simp,fun a ha b hb=>by simp at hb;subst hb;rintro rfl;exact h2.2 ha⟩
   ·exact ih _ _ h ho
theorem uA {vars:Int} {d T:List Int} (hT:pN vars T) (h0:∀x∈d,x≠0) (h:(ib d T).1=0) {x:Int} (hx:∀y∈d,y≠x→(-y)∈T):x∈T:=by
 rw[mH d T h0] at h
 cases ho:fV T d [] with
 |none=>
  obtain⟨y,h1,h2⟩:=xI T d [] ho
  by_cases e:y=x
  ·exact e▸h2
  ·have:=hx y h1 e
   exact absurd (by simpa using this) (hT.no h2)
 |some r=>
  have hm:=oP T d [] r ho (by simp)
  have hn:=vL T d [] r ho (by simp)
  have hr:∀y∈r,y=x:=by
   intro y hy
   have:=hm y hy
   by_cases e:y=x
   ·exact e
   ·exact absurd (hx y (by simpa using this.1) e) this.2.2
  rw[ho] at h
  rcases r with _|⟨a,_|⟨b,r⟩⟩
  ·simp [qI] at h
  ·simp [qI] at h
  ·have e1:=hr a (by simp)
   have e2:=hr b (by simp)
   rw[cX] at hn
   exact absurd (by rw[e1,e2];simp) hn.1
theorem B5 {vars:Int} {cl:List (List Int)} {assume:List Int} (hv:0≤vars) (jq:∀c∈cl,e_ vars c=true) (hw:e_ vars assume=true) (hc:gE assume=false)
  (I:List Int→Prop) (h0:I (iC assume).1)
  (hs:∀(t:List Int) (c:List Int) (x:Int),c∈cl→I t→pN vars t→fV t c []=some [x]→x∈c→x∉t→(-x)∉t→I (t++ [x])):I (runM vars cl assume).1:=by
 obtain⟨t,h1,h2,h3,h4,h5⟩:=FU hv jq hw hc (fun t=>I t.1) h0 (by
  intro t j hj x h1 h2 h3 h4 h5 h6 h7
  exact hs t.1 _ x (cZ hj) h1 h2 h4 h5 h6 h7)
 rcases rX t cl 0 with ⟨j,hj,h6,h7⟩|⟨j,hj,h6,h7⟩|⟨h6,h7⟩
 ·have h8:lh cl t=((t.1,t.2.1,((0+j:Nat):Int)),false):=h7
  rw[h5] at h8
  rw[(Prod.mk.inj h8).1]
  exact h1
 ·have h8:lh cl t=(_,true):=h7
  rw[h5] at h8
  simp at h8
 ·have h8:lh cl t=(t,false):=h7
  rw[h5] at h8
  rw[(Prod.mk.inj h8).1]
  exact h1
theorem w6 {c tr:List Int} (h0:∀x∈c,x≠0) (h:(ib c tr).1=1):∀y∈c,(-y)∈tr:=by
 rw[mH c tr h0] at h
 cases ho:fV tr c [] with
 |none=>rw[ho] at h;simp [qI] at h
 |some r=>
  rw[ho] at h
  rcases r with _|⟨a,_|⟨b,r⟩⟩
  ·intro y hy
   have:=(o7 tr c [] [] ho).2 y hy
   simpa using this.2
  ·simp [qI] at h
  ·simp [qI] at h
end Go.Ab
/- Chapter 20:assignments and what they satisfy. -/
namespace Go.Ab
open Go Go.Proofs
set_option maxRecDepth 20000
set_option maxHeartbeats 4000000
attribute [local irreducible] AW a_ ga ft fB fp fG
def jZ (v:List Bool) (x:Int):Bool:=if 0<x then v.getD (x - 1).toNat false else if x<0 then !(v.getD (0 - x - 1).toNat false) else false
def kT (v:List Bool) (c:List Int):Bool:=c.any (jZ v)
theorem CN {v:List Bool} {x:Int} (h:0<x) (h2:(x - 1).toNat<v.length):jZ v x=v[(x - 1).toNat]:=by
 unfold jZ;rw[if_pos h,c8,a8 h2];rfl
theorem IB {v:List Bool} {x:Int} (h:x<0) (h2:(0 - x - 1).toNat<v.length):jZ v x=!(v[(0 - x - 1).toNat]):=by
 unfold jZ;rw[if_neg aJ,if_pos h,c8,a8 h2];rfl
def allM (v:List Bool) (cl:List (List Int)):Bool:=cl.all (kT v)
def od (v:List Bool) (l:List Int):Bool:=l.all (jZ v)
end Go.Ab
/- Chapter 20:propagation is sound,in plain terms. -/
namespace Go.Ab
open Go Go.Proofs
set_option maxRecDepth 20000
set_option maxHeartbeats 4000000
theorem na (v:List Bool) {x:Int} (h:x≠0):jZ v (-x)=!(jZ v x):=by
 unfold jZ
 by_cases h0:0<x
 ·rw[if_neg aJ,if_pos aJ,if_pos h0,show 0 - -x - 1=x - 1 from by omega]
 ·rw[if_pos aJ,if_neg h0,if_pos aJ,show -x - 1=0 - x - 1 from by omega,Bool.not_not]
theorem AY {v:List Bool} {cl:List (List Int)} (h:allM v cl=true) {c:List Int} (hc:c∈cl):∃y∈c,jZ v y=true:=by
 unfold allM at h
 have:=bC.1 h c hc
 unfold kT at this
 exact df.1 this
theorem yt {vars:Int} {cl:List (List Int)} {assume:List Int} {v:List Bool} (hv:0≤vars) (jq:∀c∈cl,e_ vars c=true) (hw:e_ vars assume=true) (hc:gE assume=false)
  (h:allM v cl=true) (he:od v assume=true):(runM vars cl assume).2.2= -1∧∀x∈(runM vars cl assume).1,jZ v x=true:=by
 have hz:∀c∈cl,∀x∈c,x≠0:=fun c hc x hx=>(fI (jq c hc) x hx).1
 have h1:∀x∈(runM vars cl assume).1,jZ v x=true:=by
  refine B5 hv jq hw hc (fun t=>∀x∈t,jZ v x=true) (fun x hx=>?_) ?_
  ·exact bC.1 he x ((oY assume x).1 hx)
  ·intro t c x De hI _ xW X2 _ _
   intro y hy
   rcases bW.1 hy with hy|hy
   ·exact hI y hy
   ·simp at hy
    subst hy
    obtain⟨z,yP,HU⟩:=AY h De
    rcases((o7 t c [] [y] xW).2 z yP).2 with h3|h3
    ·have:=hI _ h3
     rw[na v (hz c De z yP),HU] at this
     simp at this
    ·simp at h3;exact h3▸HU
 refine⟨?_,h1⟩
 have wW:=y9 hv jq hw hc
 rcases wW.fin with ⟨h2,_⟩|⟨j,hj,_,h2⟩
 ·exact h2
 ·obtain⟨z,yP,HU⟩:=AY h (cZ hj)
  have h3:=h1 _ (w6 (hz _ (cZ hj)) h2 z yP)
  rw[na v (hz _ (cZ hj) z yP),HU] at h3
  simp at h3
theorem ur {v:List Bool} {l:List Int} (h0:∀x∈l,x≠0) (h:gE l=true):od v l=false:=by
 unfold gE at h
 rw[df] at h
 obtain⟨x,hx,tR⟩:=h
 have hx3:(0 - x)∈l:=by simpa using tR
 cases he:od v l with
 |false=>rfl
 |true=>
  have h1:=bC.1 he x hx
  have h2:=bC.1 he _ hx3
  rw[dh,na v (h0 x hx),h1] at h2
  simp at h2
theorem GI {vars:Int} {cl:List (List Int)} {assume c:List Int} {v:List Bool} (hv:0≤vars) (jq:∀c∈cl,e_ vars c=true) (hw:e_ vars assume=true) (YS:e_ vars c=true) (h:allM v cl=true):
  (hU vars cl c=true→kT v c=true)∧(od v assume=true→(wk vars cl assume).2= -1∧od v (wk vars cl assume).1=true):=by
 constructor
 ·intro hi
  cases ht:kT v c with
  |true=>rfl
  |false=>
   have De:∀x∈c,x≠0:=fun x hx=>(fI YS x hx).1
   have Qg:e_ vars (c.map fun x=>0 - x)=true:=by
    unfold e_
    rw[bC]
    intro y hy
    obtain⟨x,hx,rfl⟩:=bw.1 hy
    have:=fI YS x hx
    simp;omega
   have he:od v (c.map fun x=>0 - x)=true:=by
    unfold od
    rw[bC]
    intro y hy
    obtain⟨x,hx,rfl⟩:=bw.1 hy
    unfold kT at ht
    have:=List.any_eq_false.1 ht x hx
    rw[dh,na v (De x hx)]
    simpa using this
   cases rP:gE (c.map fun x=>0 - x) with
   |true=>
    have:=ur (v:=v) (fun y hy=>(fI Qg y hy).1) rP
    rw[he] at this;cases this
   |false=>
    have:=(yt hv jq Qg rP h he).1
    rw[hU,if_neg (by rw[rP];simp),this] at hi
    simp at hi
 ·intro he
  cases rP:gE assume with
  |true=>
   have:=ur (v:=v) (fun y hy=>(fI hw y hy).1) rP
   rw[he] at this;cases this
  |false=>
   have h1:=yt hv jq hw rP h he
   have wW:=y9 hv jq hw rP
   rw[wk,if_neg (by rw[rP];simp)]
   refine⟨h1.1,?_⟩
   unfold od
   rw[bC]
   exact fun x hx=>h1.2 x ((wW.mem x).2 (bW.2 (.inr hx)))
end Go.Ab
/- The laws through the layers:small formulas. -/
namespace Go.Ab
open Go Go.Proofs
open Nat (reduceAdd reduceSub)
set_option maxRecDepth 20000
set_option maxHeartbeats 8000000
attribute [local irreducible] AW a_ ga ft AR fB fp fG fU canon l4 kd ox pA mN jg hU jd ig
theorem uH (vars:Int) (l:List Int) (hv: -1000000≤vars∧vars≤1000000):Fn Tryz.prog 12 [e7 vars,.pv (ints l)] (fu (e_ vars l)):=by
 refine Fn.enter (n:=34) Tryz.func12 rfl rfl rfl rfl rfl (by decide) fun g fE fD=>?_;(try refine nz ?_)
 refine AW.kL 1 rfl fun hlen=>?_
 (refine zq ?_;refine Lj ?_;refine kh ?_;refine AW.block ?_)
 (refine nz ?_;apply AW.gP [0,1] [] (fun k:Nat=>([(5,e7 k)]:List (Nat×AV))) (fun k:Nat=>([]:List (Nat×Option Ob))) (fun k:Nat=>k≤l.length∧e_ vars (l.take k)=true) (fun k:Nat=>l.length - k) (0);(conv=>lhs;simp only[Nf.n7,Nf.all,di,reduceAdd,reduceSub]);(all_goals skip))
 ·exact⟨bk _,rfl⟩
 ·exact fy rfl (by(refine aC ?_;(iterate 2 refine aC ?_);exact trivial)) (by(exact trivial)) rfl
 rintro k ⟨hk,mL⟩
 by_cases fx:k<l.length
 ·have hs:=uD (vars:=vars) fx
  rw[mL,c6] at hs
  by_cases hb:l[k]≠0∧l[k]≤vars∧0 - vars≤l[k]
  ·obtain⟨b1,b2,b3⟩:=hb
   rw[decide_eq_true ⟨b1,b2,b3⟩] at hs
   have b4:¬l[k]<0 - vars:=by omega
   have b5:¬vars<l[k]:=by omega
   (refine NM ?_;refine aA ?_;refine Qx ?_;refine aA ?_;refine zy ?_;refine zr ?_;refine zy ?_;refine zm ?_;refine F6 ?_;(iterate 3 refine kO ?_);refine aA ?_;refine zy ?_;refine zr ?_;refine zy ?_;refine kO ?_;refine a_.sub rfl rfl rfl rfl rfl aJ ?_;refine zy ?_;refine zs ?_;refine zF ?_;refine F8 ?_;refine uc ?_;refine zj ?_;refine kh ?_)
   exact⟨k+1,⟨by omega,hs⟩,by omega,fy rfl (by(refine aC ?_;(iterate 2 refine aC ?_);exact trivial)) (by(exact trivial)) rfl⟩
  ·have hf:=xh fx hb
   rw[hf]
   by_cases b1:l[k]=0
   ·(refine NM ?_;refine aA ?_;refine zr ?_;refine Ij ?_;(iterate 6 refine a_.jR rfl rfl rfl rfl rfl rfl (by with_reducible assumption) ?_);refine zT ?_;refine zm ?_;(iterate 7 refine a_.gu rfl rfl rfl rfl rfl rfl rfl ?_);refine Bk ?_;refine oH ?_;refine zJ ?_)
    all_goals (apply e9;(exact gn.one (.tmp rfl rfl));(refine Le.fu ?_;(first|rfl)))
   ·by_cases b2:vars<l[k]
    ·(refine NM ?_;refine aA ?_;refine Qx ?_;refine aA ?_;refine zy ?_;refine zr ?_;refine zy ?_;refine zm ?_;refine F6 ?_;refine PX ?_;refine zT ?_;refine yW ?_;refine oH ?_;refine zJ ?_)
     all_goals (apply e9;(exact gn.one (.tmp rfl rfl));(refine Le.fu ?_;(first|rfl)))
    ·have b3:l[k]<0 - vars:=by omega
     (refine NM ?_;refine aA ?_;refine Qx ?_;refine aA ?_;refine zy ?_;refine zr ?_;refine zy ?_;refine zm ?_;refine F6 ?_;(iterate 3 refine kO ?_);refine aA ?_;refine zy ?_;refine zr ?_;refine zy ?_;refine kO ?_;refine a_.sub rfl rfl rfl rfl rfl aJ ?_;refine zy ?_;refine zs ?_;refine zF ?_;refine lq ?_;refine oH ?_;refine zJ ?_)
     all_goals (apply e9;(exact gn.one (.tmp rfl rfl));(refine Le.fu ?_;(first|rfl)))
 ·rw[iv (l:=l) aJ] at mL
  rw[mL]
  (refine CI ?_;(iterate 2 refine zm ?_);refine zn ?_;refine pW ?_;refine vj ?_;refine oH ?_)
  (apply e9;(exact gn.one (.tmp rfl rfl));(refine Le.fu ?_;(rfl)))
theorem Ea (vars:Int) (cl:List (List Int)):Fn Tryz.prog 8 [H6 vars cl] (fu (oJ vars cl)):=by
 by_cases h0:0≤vars∧vars≤20000∧(cl.length:Int)≤60000
 ·obtain⟨h1,h2,h3⟩:=h0
  have g1:¬vars<0:=by omega
  have g2:¬20000<vars:=by omega
  have g3:¬60000<(cl.length:Int):=by omega
  have e:oJ vars cl=cl.all (e_ vars):=by unfold oJ;rw[decide_eq_true ⟨h1,h2,h3⟩,c6]
  rw[e]
  refine Fn.enter (n:=36) Tryz.func8 rfl rfl rfl rfl rfl (by decide) fun g fE fD=>?_;(try refine nz ?_)
  (refine Ec ?_;refine zs ?_;refine DE ?_;refine F6 ?_;refine Ml ?_;refine vD ?_;refine qN ?_;refine kh ?_;refine AW.block ?_)
  (refine nz ?_;apply AW.gP [1] [0] (fun k:Nat=>([(3,e7 k)]:List (Nat×AV))) (fun k:Nat=>([]:List (Nat×Option Ob))) (fun k:Nat=>k≤cl.length∧(cl.take k).all (e_ vars)=true) (fun k:Nat=>cl.length - k) (0);(conv=>lhs;simp only[Nf.n7,Nf.all,di,reduceAdd,reduceSub]);(all_goals skip))
  ·exact⟨bk _,rfl⟩
  ·exact Ug
  rintro k ⟨hk,Cg⟩
  by_cases fx:k<cl.length
  ·have has:=vT (p:=e_ vars) fx
   rw[Cg,c6] at has
   have hw:=uH vars cl[k] (by omega)
   cases hc:e_ vars cl[k] with
   |true=>
    rw[hc] at has hw
    (refine mD ?_;refine pE ?_;refine F2 ?_;refine zo ?_;(with_reducible apply AW.gk);exact rfl;exact rfl;kernel_rfl;(with_reducible assumption);refine u7 ?_;refine pE ?_;refine zm ?_;refine aA ?_;refine zr ?_;refine zA (hw) ?_;refine xv ?_;refine zm ?_;refine a_.not rfl rfl rfl ?_;refine qO ?_;refine uc ?_;refine zj ?_;refine kh ?_)
    exact⟨k+1,⟨by omega,has⟩,by omega,fy rfl (by(refine aC ?_;refine aC ?_;exact trivial)) (by(refine⟨.box _ rfl ?_,?_⟩;(iterate 2 refine aC ?_);(iterate 2 exact trivial))) rfl⟩
   |false=>
    rw[hc] at hw
    rw[D2 (p:=e_ vars) fx hc]
    (refine mD ?_;refine pE ?_;refine F2 ?_;refine zo ?_;(with_reducible apply AW.gk);exact rfl;exact rfl;kernel_rfl;(with_reducible assumption);refine u7 ?_;refine pE ?_;refine zm ?_;refine aA ?_;refine zr ?_;refine zA (hw) ?_;refine xv ?_;refine zm ?_;refine a_.not rfl rfl rfl ?_;refine yW ?_;refine oH ?_;refine zJ ?_)
    (apply e9;(exact gn.one (.tmp rfl rfl));(refine Le.fu ?_;(rfl)))
  ·rw[iv (l:=cl) aJ] at Cg
   rw[Cg]
   (refine mD ?_;refine pE ?_;refine zn ?_;refine pW ?_;refine vj ?_;refine oH ?_)
   (apply e9;(exact gn.one (.tmp rfl rfl));(refine Le.fu ?_;(rfl)))
 ·have e:=Dl (vars:=vars) (cl:=cl) h0
  rw[e]
  by_cases h1:vars<0
  ·refine Fn.enter (n:=36) Tryz.func8 rfl rfl rfl rfl rfl (by decide) fun g fE fD=>?_;(try refine nz ?_)
   refine AW.vx 0 1 rfl rfl fun hlen=>?_
   (refine Ec ?_;refine zs ?_;refine R6 ?_;refine vc ?_)
   (apply e9;(exact gn.one (.tmp rfl rfl));(refine Le.fu ?_;(rfl)))
  ·by_cases h2:20000<vars
   ·refine Fn.enter (n:=36) Tryz.func8 rfl rfl rfl rfl rfl (by decide) fun g fE fD=>?_;(try refine nz ?_)
    refine AW.vx 0 1 rfl rfl fun hlen=>?_
    (refine Ec ?_;refine zs ?_;refine DE ?_;refine F6 ?_;refine zm ?_;refine Ms ?_;refine vc ?_)
    (apply e9;(exact gn.one (.tmp rfl rfl));(refine Le.fu ?_;(rfl)))
   ·have h3:60000<(cl.length:Int):=by omega
    refine Fn.enter (n:=36) Tryz.func8 rfl rfl rfl rfl rfl (by decide) fun g fE fD=>?_;(try refine nz ?_)
    refine AW.vx 0 1 rfl rfl fun hlen=>?_
    (refine Ec ?_;refine zs ?_;refine DE ?_;refine F6 ?_;refine Ml ?_;refine lq ?_;refine mF ?_;refine xL ?_)
    (apply e9;(exact gn.one (.tmp rfl rfl));(refine Le.fu ?_;(rfl)))
def ml (v:Int) (cl:List (List Int)):Bool:=decide (v≤8) && decide (cl.length≤40) && cl.all (fun c=>decide (c.length≤12)) && oJ v cl
theorem Hh (v:Int) (cl:List (List Int)):Fn Tryz.prog 6 [H6 v cl] (fu (ml v cl)):=by
 have Uf:=Ea v cl
 by_cases h1:v≤8
 ·by_cases h2:cl.length≤40
  ·have e1:ml v cl=(cl.all (fun c=>decide (c.length≤12)) && oJ v cl):=by unfold ml;rw[decide_eq_true h1,decide_eq_true h2];rfl
   rw[e1]
   refine Fn.enter (n:=29) Tryz.func6 rfl rfl rfl rfl rfl (by decide) fun g fE fD=>?_;(try refine nz ?_)
   (refine Ec ?_;refine a_.gtr rfl rfl rfl rfl rfl ?_;refine Ml ?_;refine vD ?_;refine qN ?_;refine kh ?_;refine AW.block ?_)
   (refine nz ?_;apply AW.gP [1] [0] (fun i:Nat=>([(3,e7 i)]:List (Nat×AV))) (fun i:Nat=>([]:List (Nat×Option Ob))) (fun i:Nat=>i≤cl.length∧(cl.take i).all (fun c=>decide (c.length≤12))=true) (fun i:Nat=>cl.length - i) (0);(conv=>lhs;simp only[Nf.n7,Nf.all,di,reduceAdd,reduceSub]);(all_goals skip))
   ·exact⟨bk _,rfl⟩
   ·exact Ug
   rintro i ⟨hi,Cg⟩
   by_cases fx:i<cl.length
   ·have has:=vT (p:=fun c:List Int=>decide (c.length≤12)) fx
    rw[Cg,c6] at has
    by_cases hc:cl[i].length≤12
    ·rw[decide_eq_true hc] at has
     (refine mD ?_;refine pE ?_;refine F2 ?_;refine mF ?_;refine pE ?_;refine zm ?_;refine aA ?_;refine zr ?_;refine zn ?_;refine a_.gtr rfl rfl rfl rfl rfl ?_;refine F8 ?_;refine uc ?_;refine zj ?_;refine kh ?_)
     exact⟨i+1,⟨by omega,has⟩,by omega,fy rfl (by(refine aC ?_;refine aC ?_;exact trivial)) (by(refine⟨.box _ rfl ?_,?_⟩;(iterate 2 refine aC ?_);(iterate 2 exact trivial))) rfl⟩
    ·rw[D2 (p:=fun c:List Int=>decide (c.length≤12)) fx (decide_eq_false hc),c7]
     (refine mD ?_;refine pE ?_;refine F2 ?_;refine mF ?_;refine pE ?_;refine zm ?_;refine aA ?_;refine zr ?_;refine zn ?_;refine a_.gtr rfl rfl rfl rfl rfl ?_;refine lq ?_;refine oH ?_;refine zJ ?_)
     (apply e9;(exact gn.one (.tmp rfl rfl));(refine Le.fu ?_;(rfl)))
   ·rw[iv (l:=cl) aJ] at Cg
    rw[Cg,c6]
    (refine mD ?_;refine pE ?_;refine zn ?_;refine pW ?_;refine vj ?_;refine mF ?_;refine zL ?_;refine nz ?_;refine zA (Uf) ?_;refine kH ?_)
    (apply e9;(exact gn.one (.tmp rfl rfl));(refine Le.fu ?_;(rfl)))
  ·have e1:ml v cl=false:=by unfold ml;rw[decide_eq_false h2];simp
   rw[e1]
   refine Fn.enter (n:=29) Tryz.func6 rfl rfl rfl rfl rfl (by decide) fun g fE fD=>?_;(try refine nz ?_)
   refine AW.vx 0 1 rfl rfl fun hlen=>?_
   (refine Ec ?_;refine a_.gtr rfl rfl rfl rfl rfl ?_;refine Ml ?_;refine lq ?_;refine mF ?_;refine xL ?_)
   (apply e9;(exact gn.one (.tmp rfl rfl));(refine Le.fu ?_;(rfl)))
 ·have e1:ml v cl=false:=by unfold ml;rw[decide_eq_false h1];simp
  rw[e1]
  refine Fn.enter (n:=29) Tryz.func6 rfl rfl rfl rfl rfl (by decide) fun g fE fD=>?_;(try refine nz ?_)
  (refine Ec ?_;refine a_.gtr rfl rfl rfl rfl rfl ?_;refine zm ?_;(iterate 4 refine a_.jR rfl rfl rfl rfl rfl rfl (by first|omega|decide) ?_);refine zT ?_;refine vc ?_)
  (apply e9;(exact gn.one (.tmp rfl rfl));(refine Le.fu ?_;(rfl)))
theorem AJ {v:Int} {cl:List (List Int)} (h:ml v cl=true):(0≤v∧v≤8)∧cl.length≤40∧∀c∈cl,e_ v c=true∧c.length≤12:=by
 unfold ml oJ at h
 simp only[aZ,decide_eq_true_eq,bC] at h
 obtain⟨⟨⟨a1,a2⟩,a3⟩,a4,a5⟩:=h
 exact⟨⟨a4.1,a1⟩,a2,fun c hc=>⟨a5 c hc,a3 c hc⟩⟩
end Go.Ab
/- A justified proof is sound,in plain terms. -/
namespace Go.Ab
open Go Go.Proofs
set_option maxRecDepth 20000
set_option maxHeartbeats 4000000
theorem yq {e:pK} {s s':n5} {t:gH} {l:List gH} (h:ig e s t=some s'):jd e s (t::l)=((jd e s' l).1,(jd e s' l).2+1):=by rw[jd,h]
theorem yi {a b:List Int}:canon a=canon b↔∀x,x∈a↔x∈b:=⟨fun h x=>by rw[← qw (zs:=a),h,qw],fun h=>BL h⟩
theorem sB {v w:List Bool} {x:Int} (h:x≤v.length∧0 - (v.length:Int)≤x):jZ (v++w) x=jZ v x:=by
 unfold jZ
 by_cases h1:0<x
 ·rw[if_pos h1,if_pos h1,c8,c8,aT aJ]
 ·rw[if_neg h1,if_neg h1]
  by_cases h2:x<0
  ·rw[if_pos h2,if_pos h2,c8,c8,aT aJ]
  ·rw[if_neg h2,if_neg h2]
theorem yg {v w:List Bool} {c:List Int} (h:e_ v.length c=true):kT (v++w) c=kT v c:=by
 have hb:=fI h
 unfold kT
 rw[Bool.eq_iff_iff,df,df]
 exact⟨fun⟨x,hx,g⟩=>⟨x,hx,by rwa [sB (by have:=hb x hx;omega)] at g⟩,fun⟨x,hx,g⟩=>⟨x,hx,by rwa [sB (by have:=hb x hx;omega)]⟩⟩
theorem Kf {v:List Bool} {b:Bool}:jZ (v++ [b]) ((v.length:Int)+1)=b:=by
 have e:((v.length:Int)+1 - 1).toNat=v.length:=by omega
 rw[CN aJ (by rw[e];simp)]
 simp only[e]
 simp
def Il (v:List Bool) (c:List Int):Bool:=(c.drop 1).all (jZ v)
def pR:List Bool→List gH→List Bool
 |v,[]=>v
 |v,t::l=>pR (if t.kind=3 then v++ [Il v t.lits] else v) l
def Bv:List Bool→List gH→Bool
 |_,[]=>true
 |v,t::l=>if t.kind=3 then Bv (v++ [Il v t.lits]) l else if t.kind=1∨t.kind=4 then kT v t.lits && Bv v l else Bv v l
theorem L3 {n:Int} {cl:List (List Int)} {sy:List Int} {v:List Bool} (jq:∀c∈cl,e_ n c=true) (hs:jg n cl sy=true) (hv:allM v cl=true):((sy.map (jZ v)).length:Int)=n∧allM (sy.map (jZ v)) cl=true∧∀x:Int,x≠0→x≤n→0 - n≤x→jZ (sy.map (jZ v)) x=jZ v (sI sy x):=by
 obtain⟨y1,y2⟩:=nJ hs
 have hz:=fI y2
 have key:∀x:Int,x≠0→x≤n→0 - n≤x→jZ (sy.map (jZ v)) x=jZ v (sI sy x):=by
  intro x h0 h1 h2
  by_cases hp:0<x
  ·have hl:(x - 1).toNat<sy.length:=by omega
   rw[CN hp (by simpa using hl)]
   unfold sI
   rw[if_pos hp,c8,a8 hl]
   simp
  ·have hl:(0 - x - 1).toNat<sy.length:=by omega
   have e:(-x - 1).toNat=(0 - x - 1).toNat:=by omega
   rw[IB aJ (by simpa using hl)]
   have e2:sy.getD (-x - 1).toNat 0=sy[(0 - x - 1).toNat]:=by rw[e,c8,a8 hl];rfl
   unfold sI
   rw[if_neg hp,e2,na v (hz _ (cZ hl)).1]
   simp only[dj]
 refine⟨by rw[List.length_map];exact y1,?_,key⟩
 unfold allM
 rw[bC]
 intro c hc
 have hsc:cl.all (Ei cl sy)=true:=by
  unfold jg at hs
  simp only[aZ] at hs
  exact hs.2
 obtain⟨d,hd,uV⟩:=df.1 (bC.1 hsc c hc)
 rw[decide_eq_true_eq,yi] at uV
 obtain⟨y,hy,hyt⟩:=AY hv hd
 have Hq:=(uV y).1 hy
 unfold mN at Hq
 obtain⟨x,hx,rfl⟩:=bw.1 Hq
 have Nq:=fI (jq c hc) x hx
 unfold kT
 rw[df]
 exact⟨x,hx,by rw[key x Nq.1 Nq.2.1 aJ];exact hyt⟩
structure rL (e:pK) (s:n5) (K:List gH):Prop where
 len:∀v:List Bool,(v.length:Int)=e.v0→allM v e.cl0=true→((pR v K).length:Int)=s.vars
 all:∀v:List Bool,(v.length:Int)=e.v0→allM v e.cl0=true→allM (pR v K) s.cl=true
 pre:∀v:List Bool,(v.length:Int)=e.v0→allM v e.cl0=true→∃w,pR v K=v++w
 yG:s.ref=true→∀v:List Bool,(v.length:Int)=e.v0→allM v e.cl0=true→False
theorem kg:∀(K:List gH) (v:List Bool) (t:gH),pR v (K++ [t])=if t.kind=3 then pR v K++ [Il (pR v K) t.lits] else pR v K
 |[],v,t=>rfl
 |u::K,v,t=>by
  rw[List.cons_append,pR,pR,kg K]
theorem F3 {v:List Bool} {cl:List (List Int)} {c:List Int} (h:allM v cl=true) (hc:kT v c=true):allM v (cl++ [c])=true:=by
 unfold allM at h ⊢
 rw[List.all_append,h];simp [hc]
theorem rL.sP {e:pK} {s:n5} {K:List gH} {t:gH} (h:rL e s K) (h3:t.kind≠3) (hT:∀v:List Bool,(v.length:Int)=e.v0→allM v e.cl0=true→kT (pR v K) t.lits=true):rL e (w9 s t.lits) (K++ [t]) where
 len:=fun v h1 h2=>by rw[kg,if_neg h3];exact h.len v h1 h2
 all:=fun v h1 h2=>by rw[kg,if_neg h3];exact F3 (h.all v h1 h2) (hT v h1 h2)
 pre:=fun v h1 h2=>by rw[kg,if_neg h3];exact h.pre v h1 h2
 yG:=fun hr v h1 h2=>by
  have xr:(s.ref||decide ((t.lits.length:Int)=0))=true:=hr
  rw[Bool.or_eq_true,decide_eq_true_eq] at xr
  rcases xr with xr|xr
  ·exact h.yG xr v h1 h2
  ·have:=hT v h1 h2
   have h0:t.lits=[]:=List.eq_nil_of_length_eq_zero (by omega)
   rw[h0] at this
   simp [kT] at this
theorem Ez {e:pK} {B:Nat} {s u:n5} {K:List gH} {t:gH} (Is:∀c∈e.cl0,e_ e.v0 c=true) (JI:0≤e.v0) (h:rL e s K) (C5:nf B s) (hs:ig e s t=some u):
  rL e u (K++ [t])∧∀v:List Bool,(v.length:Int)=e.v0→allM v e.cl0=true→(t.kind=1∨t.kind=4)→kT (pR v K) t.lits=true:=by
 by_cases k1:t.kind=1
 ·rw[Aj k1,ni] at hs
  split at hs
  ·rename_i c
   cases hs
   have hT:∀v:List Bool,(v.length:Int)=e.v0→allM v e.cl0=true→kT (pR v K) t.lits=true:=fun v h1 h2=>
    (GI (assume:=[]) C5.hv.1 (fun c hc=>(C5.jq c hc).1) rfl c.2.1 (h.all v h1 h2)).1 c.2.2
   exact⟨h.sP aJ hT,fun v h1 h2 _=>hT v h1 h2⟩
  ·cases hs
 by_cases k2:t.kind=2
 ·rw[Fm k2,lY] at hs
  split at hs
  ·cases hs
   have h3:¬t.kind=3:=by omega
   refine⟨⟨fun v h1 h2=>by rw[kg,if_neg h3];exact h.len v h1 h2,fun v h1 h2=>?_,fun v h1 h2=>by rw[kg,if_neg h3];exact h.pre v h1 h2,h.yG⟩,fun v _ _ hk=>by omega⟩
   rw[kg,if_neg h3]
   have:=h.all v h1 h2
   unfold allM at this ⊢
   rw[bC] at this ⊢
   exact fun c hc=>this c (List.mem_of_mem_eraseIdx hc)
  ·cases hs
 by_cases k3:t.kind=3
 ·rw[FN k3,kK] at hs
  split at hs
  ·rename_i c
   obtain⟨_,c2,c3,_,c5⟩:=c
   cases hs
   have hd:∀v:List Bool,(v.length:Int)=e.v0→allM v e.cl0=true→((pR v K).length:Int)=s.vars:=h.len
   refine⟨⟨fun v h1 h2=>?_,fun v h1 h2=>?_,fun v h1 h2=>?_,h.yG⟩,fun v _ _ hk=>by omega⟩
   ·rw[kg,if_pos k3,bV]
    have:=h.len v h1 h2
    show _=s.vars+1
    simp;omega
   ·rw[kg,if_pos k3]
    have hl:=h.len v h1 h2
    have ha:=h.all v h1 h2
    generalize pR v K=w at hl ha
    generalize t.lits.getD 0 0=g at c3
    have hg:g=(w.length:Int)+1:=by omega
    have hb:=fI c5
    unfold Il
    generalize t.lits.drop 1=r at c5 hb
    show allM _ (s.cl++defs g r)=true
    unfold allM at ha ⊢
    rw[bC] at ha ⊢
    intro c hc
    rcases bW.1 hc with hc|hc
    ·rw[yg (by rw[hl];exact(C5.jq c hc).1)]
     exact ha c hc
    ·have UN:∀x∈r,jZ (w++ [r.all (jZ w)]) x=jZ w x:=fun x hx=>sB (by have:=hb x hx;omega)
     have Cq:jZ (w++ [r.all (jZ w)]) g=r.all (jZ w):=by rw[hg];exact Kf
     have Wx:jZ (w++ [r.all (jZ w)]) (-g)=!(r.all (jZ w)):=by rw[na _ aJ,Cq]
     unfold kT
     rw[df]
     unfold defs at hc
     cases hr:r.all (jZ w) with
     |true=>
      rw[hr] at UN Cq Wx
      rcases bW.1 hc with hc|hc
      ·obtain⟨x,hx,rfl⟩:=bw.1 hc
       exact⟨x,by simp,by rw[UN x hx];exact bC.1 hr x hx⟩
      ·simp only[cp] at hc
       subst hc
       exact⟨g,by simp,Cq⟩
     |false=>
      rw[hr] at UN Cq Wx
      rcases bW.1 hc with hc|hc
      ·obtain⟨x,hx,rfl⟩:=bw.1 hc
       exact⟨-g,by simp,Wx⟩
      ·simp only[cp] at hc
       subst hc
       obtain⟨x,hx,Z3⟩:=List.all_eq_false.1 hr
       refine⟨-x,by simp only[bu,bw];exact .inr ⟨x,hx,rfl⟩,?_⟩
       rw[na _ (hb x hx).1,UN x hx]
       simpa using Z3
   ·obtain⟨w,hw⟩:=h.pre v h1 h2
    rw[kg,if_pos k3,hw]
    exact⟨w++ [Il (v++w) t.lits],by rw[List.append_assoc]⟩
  ·cases hs
 by_cases k4:t.kind=4
 ·rw[Fj k4,pj] at hs
  split at hs
  ·rename_i c
   obtain⟨c1,_,c3,c4⟩:=c
   cases hs
   generalize e.syms.getD t.sym.toNat []=sy at c3 c4
   obtain⟨d,hd,Tu⟩:=df.1 c4
   unfold lM at Tu
   rw[aZ,decide_eq_true_eq,yi] at Tu
   obtain⟨YX,Tu⟩:=Tu
   have hT:∀v:List Bool,(v.length:Int)=e.v0→allM v e.cl0=true→kT (pR v K) t.lits=true:=fun v h1 h2=>by
    obtain⟨g1,g2,g3⟩:=L3 Is c3 h2
    have hda:=h.all _ g1 g2
    obtain⟨w,hw⟩:=h.pre _ g1 g2
    obtain⟨w',j5⟩:=h.pre v h1 h2
    have ht:=bC.1 hda d hd
    rw[hw,yg (by rw[g1];exact YX)] at ht
    obtain⟨x,hx,Zq⟩:=df.1 ht
    have Nq:=fI YX x hx
    rw[g3 x Nq.1 Nq.2.1 aJ] at Zq
    have vG:sI sy x∈t.lits:=(Tu _).1 (by unfold mN;exact bw.2 ⟨x,hx,rfl⟩)
    have ON:=fI (nJ c3).2
    have xu:=(nJ c3).1
    have H2:sI sy x≤v.length∧0 - (v.length:Int)≤sI sy x:=by
     unfold sI
     split
     ·have hl:(x - 1).toNat<sy.length:=by omega
      rw[c8,a8 hl]
      have:=ON _ (cZ hl)
      simp only[bm]
      omega
     ·have hl:(-x - 1).toNat<sy.length:=by omega
      rw[c8,a8 hl]
      have:=ON _ (cZ hl)
      simp only[bm]
      omega
    unfold kT
    rw[df]
    exact⟨_,vG,by rw[j5,sB H2];exact Zq⟩
   exact⟨h.sP aJ hT,fun v h1 h2 _=>hT v h1 h2⟩
  ·cases hs
 rw[Ft k1 k2 k3 k4] at hs
 cases hs
theorem yH {e:pK} (Is:∀c∈e.cl0,e_ e.v0 c=true) (JI:0≤e.v0):∀(L:List gH) {B:Nat} {s:n5} {K:List gH},rL e s K→nf B s→(∀t∈L,t.lits.length≤900)→(jd e s L).2=L.length→
  (∀v:List Bool,(v.length:Int)=e.v0→allM v e.cl0=true→Bv (pR v K) L=true)∧((jd e s L).1.ref=true→∀v:List Bool,(v.length:Int)=e.v0→allM v e.cl0=true→False)
 |[],_,s,K,h,_,_,_=>by rw[wQ];exact⟨fun _ _ _=>rfl,h.yG⟩
 |t::L,B,s,K,h,C5,hl,hn=>by
  cases hs:ig e s t with
  |none=>rw[jd,hs] at hn;simp at hn
  |some u=>
   rw[yq hs] at hn ⊢
   obtain⟨hu,hT⟩:=Ez Is JI h C5 hs
   obtain⟨i1,i2⟩:=yH (e:=e) Is JI L hu (C5.step (hl t (by simp)) hs) (fun t ht=>hl t (by simp [ht])) (by simp at hn;exact hn)
   refine⟨fun v h1 h2=>?_,i2⟩
   have h5:=i1 v h1 h2
   rw[kg] at h5
   unfold Bv
   by_cases k3:t.kind=3
   ·rw[if_pos k3] at h5 ⊢
    exact h5
   ·rw[if_neg k3] at h5 ⊢
    split
    ·rename_i hk
     rw[hT v h1 h2 hk,h5];rfl
    ·exact h5
end Go.Ab
/- The solver:its state;values,pushes,decisions,walked. -/
namespace Go.Ab
open Go Go.Proofs
open Nat (reduceAdd reduceSub)
set_option maxRecDepth 20000
set_option maxHeartbeats 4000000
structure SR where
 value:List Int
 level:List Int
 reason:List Int
 marks:List Int
 low:Int
 head:Int
 added:Int
 broken:Bool
 hl:Nat→Value
 ll:Nat→List Int
 nc:Nat
 hc:Nat→Value
 cl:Nat→List Int
 nw:Nat
 hw:Nat→Value
 wl:Nat→List Int
 proof:List (List Int)
 model:List Int
 core:List Int
abbrev mI (l:List Int):List PV:=[.lit (.int .i64 1),.slice 1 (l.map encI),.lit (.int .i64 0)]
abbrev jX (l:List Int):PV:=.slice 1 (l.map encI)
abbrev hZ (s:SR):List AV:=[.own 1 3 1 (s.value.map encI),.own 2 3 1 (s.level.map encI),.own 3 3 1 (s.reason.map encI),.pv (.lit (s.hl 0)),.own 5 3 1 (s.marks.map encI),e7 s.low,.own 6 29 1 (gC s.nc s.hc),.own 8 29 1 (gC s.nw s.hw),e7 s.head,e7 s.added,fu s.broken,.own 10 65 3 (s.proof.map mI),e7 0,.pv (jX s.model),.pv (jX s.core)]
abbrev hX (s:SR):List (Nat×Option Ob):=[(0,some (.box (hZ s))),(1,some .row),(2,some .row),(3,some .row),(4,some (.ff 3 (kl s.hl s.ll))),(5,some .row),(6,some .row),(7,some (.ff 3 (kl s.hc s.cl))),(8,some .row),(9,some (.ff 3 (kl s.hw s.wl))),(10,some .row)]
def U8 (v:List Int) (x:Int):Int:=if x<0 then -(v.getD (-x).toNat 0) else v.getD x.toNat 0
def eW (x:Int):Int:=if x<0 then -2*x+1 else 2*x
attribute [local irreducible] gC AW a_ ga ft AR fB fp fG fU jw lA
theorem vq (x:Int) (hb: -1000000≤x∧x≤1000000):Fn Tryz.prog 81 [e7 x] (e7 (eW x)):=by
 unfold eW
 by_cases h:x<0
 ·rw[if_pos h]
  refine Fn.enter (n:=10) Tryz.func81 rfl rfl rfl rfl rfl (by decide) fun g fE fD=>?_;refine aB ?_
  (refine zq ?_;refine rW ?_;refine zs ?_;refine lq ?_;refine mj ?_;refine a_.mul rfl rfl rfl rfl rfl aJ ?_;refine zj ?_;refine xL ?_)
  (apply e9;(exact gn.one (.tmp rfl rfl));(refine Le.e7 ?_;(rfl)))
 ·rw[if_neg h]
  refine Fn.enter (n:=10) Tryz.func81 rfl rfl rfl rfl rfl (by decide) fun g fE fD=>?_;refine aB ?_
  (refine zq ?_;refine rW ?_;refine zs ?_;refine vD ?_;refine mj ?_;refine a_.mul rfl rfl rfl rfl rfl aJ ?_;refine kH ?_)
  (apply e9;(exact gn.one (.tmp rfl rfl));(refine Le.e7 ?_;(rfl)))
theorem fF {l:List Int} {n:Nat} (h:n<l.length):l.getD n 0=l[n]:=by simp [c8,h]
theorem OC (s:SR) (x:Int) (hb: -1000000≤x∧x≤1000000) (hx:x<s.value.length∧ -x<s.value.length) (hv:∀y∈s.value,-1≤y∧y≤1):mg Tryz.prog 48 11 (hX s) [.ptr 0 0,e7 x] (hX s) (e7 (U8 s.value x)):=by
 unfold U8
 by_cases h:x<0
 ·have fx:(-x).toNat<s.value.length:=by omega
  have hr:=hv _ (cZ fx)
  rw[if_pos h,fF fx]
  refine mg.enter (n:=23) Tryz.func48 rfl rfl rfl rfl rfl (by decide) rfl rfl fun g fE fD=>?_;refine qz ?_
  (refine zq ?_;refine rW ?_;refine zs ?_;refine lq ?_;refine jB ?_;refine ET ?_;refine iL ?_;refine a_.neg rfl rfl rfl aJ ?_;refine s8 ?_;refine au ?_;refine a_.neg rfl rfl rfl aJ ?_;refine xL ?_)
  (apply hY;((exact gn.one (.tmp rfl rfl)));((exact Bb));((exact J2));exact rfl)
 ·have fx:x.toNat<s.value.length:=by omega
  rw[if_neg h,fF fx]
  refine mg.enter (n:=23) Tryz.func48 rfl rfl rfl rfl rfl (by decide) rfl rfl fun g fE fD=>?_;refine qz ?_
  (refine zq ?_;refine rW ?_;refine zs ?_;refine vD ?_;refine jB ?_;refine ET ?_;refine iL ?_;refine s8 ?_;refine au ?_;refine kH ?_)
  (apply hY;((exact gn.one (.tmp rfl rfl)));((exact Bb));((exact J2));exact rfl)
end Go.Ab
/- The solver's trail:a literal made true,a decision,the least free variable,walked. -/
namespace Go.Ab
open Go Go.Proofs
open Nat (reduceAdd reduceSub)
set_option maxRecDepth 20000
set_option maxHeartbeats 4000000
def fm (x:Int):Nat:=(max x (-x)).toNat
def qP (x:Int):Int:=if x<0 then -1 else 1
def fL (s:SR) (x r:Int) (h:Value):SR:={s with value:=s.value.set (fm x) (qP x),level:=s.level.set (fm x) s.marks.length,reason:=s.reason.set (fm x) r,hl:=fb s.hl 0 h,ll:=fb s.ll 0 (s.ll 0++ [x])}
theorem iA (l:List Int) (i:Nat) (x:Int):(l.map encI).set i [PV.lit (.int .i64 x)]=(l.set i x).map encI:=by
 rw[List.map_set];rfl
attribute [local irreducible] gC AW a_ ga ft AR fB fp fG fU jw lA
theorem qC (s:SR) (x r:Int) (hb: -1000000≤x∧x≤1000000) (hx:x<s.value.length∧ -x<s.value.length) (h1:s.level.length=s.value.length) (h2:s.reason.length=s.value.length) (hl:(s.ll 0).length≤1000000) (hm:s.marks.length≤1000000):
  uo Tryz.prog 49 11 (hX s) [.ptr 0 0,e7 x,e7 r] (fun h:Value=>h.oneCell'=true) (fun h=>hX (fL s x r h)) (fun _=> .gM []):=by
 have hv:(max x (-x)).toNat<s.value.length:=by omega
 have JI:0≤max x (-x):=by omega
 by_cases h:x<0
 ·refine uo.enter (n:=53) Tryz.func49 rfl rfl rfl rfl rfl (by decide) rfl (fun _=>rfl) fun g fE fD=>?_;refine qz ?_
  (refine zq ?_;refine JZ ?_;refine sM ?_;refine ET ?_;refine iL ?_;refine s8 ?_;(with_reducible apply a_.gA);(iterate 4 exact rfl);exact ag;(iterate 3 exact rfl);refine rM ?_;refine mD ?_;refine zs ?_;refine lq ?_;refine qJ ?_;refine ET ?_;refine iL ?_;(with_reducible apply a_.vV);(iterate 7 exact rfl);omega;exact aa;(with_reducible apply a_.gA);(iterate 4 exact rfl);exact ag;(iterate 3 exact rfl);refine rM ?_;refine zo ?_;refine AW.gB [0,1,2,3,4,5,6,7,8,9,10] [11] rfl (by assumption) aI aI rfl ?_;show a_ .held _ _ _ [_,_,_,_,_,_,_,_,_,_,_] _ _;refine oF ?_;refine IJ ?_;refine oF ?_;refine zG ?_;refine s8 ?_;refine J4 ?_;intro k_ ja;refine J0 ?_;refine EX ?_;intro g_ c_ fk;(with_reducible apply a_.gA);(iterate 4 exact rfl);exact ag;(iterate 3 exact rfl);refine rz ?_;refine zq ?_;refine oF ?_;refine a_.b_ 92 2 2 rfl rfl rfl rfl ?_;refine Be ?_;refine s8 ?_;(with_reducible apply a_.gA);(iterate 4 exact rfl);exact ag;(iterate 3 exact rfl);refine rM ?_;refine AW.region ?_;refine zV ?_;refine a_.b_ 92 3 3 rfl rfl rfl rfl ?_;refine iL ?_;(with_reducible apply a_.nK);(iterate 5 exact rfl);exact ag;exact rfl;exact rfl;refine J0 ?_;(with_reducible apply a_.ma 4);exact rfl;exact rfl;exact ah;(iterate 8 exact rfl);omega;(intro v_ JN);refine JY ?_;refine a_.b_ 92 3 3 rfl rfl rfl rfl ?_;(with_reducible apply a_.gv);(iterate 5 exact rfl);exact ag;(iterate 3 exact rfl);(with_reducible assumption);refine J0 ?_;refine a_.nil ?_)
  (apply mQ (v_) (JN);((exact gn.none));((exact py));((refine⟨.box _ rfl ?_,?_⟩;(iterate 2 refine RF ?_);(iterate 2 refine W_ ?_);refine RF ?_;refine W_ ?_;(iterate 2 refine⟨.fh (by first|rfl|(simp only[fL,iA,fm,qP,dk,if_pos h])),?_⟩);refine W_ ?_;(iterate 2 refine⟨.ia (by first|rfl|(simp only[fL,iA,fm,qP,dk,if_pos h])),?_⟩);exact trivial;(iterate 3 refine aF ?_);refine Qj ?_;(iterate 2 refine aF ?_);refine Qj ?_;refine aF ?_;refine Qj ?_;exact zQ));exact rfl)
 ·refine uo.enter (n:=53) Tryz.func49 rfl rfl rfl rfl rfl (by decide) rfl (fun _=>rfl) fun g fE fD=>?_;refine qz ?_
  (refine zq ?_;refine JZ ?_;refine sM ?_;refine ET ?_;refine iL ?_;refine s8 ?_;(with_reducible apply a_.gA);(iterate 4 exact rfl);exact ag;(iterate 3 exact rfl);refine rM ?_;refine mD ?_;refine zs ?_;refine vD ?_;refine zo ?_;refine AW.gB [0,1,2,3,4,5,6,7,8,9,10] [11] rfl (by assumption) aI aI rfl ?_;show a_ .held _ _ _ [_,_,_,_,_,_,_,_,_,_,_] _ _;refine oF ?_;refine IJ ?_;refine oF ?_;refine zG ?_;refine s8 ?_;refine J4 ?_;intro k_ ja;refine J0 ?_;refine EX ?_;intro g_ c_ fk;(with_reducible apply a_.gA);(iterate 4 exact rfl);exact ag;(iterate 3 exact rfl);refine rz ?_;refine zq ?_;refine oF ?_;refine a_.b_ 92 2 2 rfl rfl rfl rfl ?_;refine Be ?_;refine s8 ?_;(with_reducible apply a_.gA);(iterate 4 exact rfl);exact ag;(iterate 3 exact rfl);refine rM ?_;refine AW.region ?_;refine zV ?_;refine a_.b_ 92 3 3 rfl rfl rfl rfl ?_;refine iL ?_;(with_reducible apply a_.nK);(iterate 5 exact rfl);exact ag;exact rfl;exact rfl;refine J0 ?_;(with_reducible apply a_.ma 4);exact rfl;exact rfl;exact ah;(iterate 8 exact rfl);omega;(intro v_ JN);refine JY ?_;refine a_.b_ 92 3 3 rfl rfl rfl rfl ?_;(with_reducible apply a_.gv);(iterate 5 exact rfl);exact ag;(iterate 3 exact rfl);(with_reducible assumption);refine J0 ?_;refine a_.nil ?_)
  (apply mQ (v_) (JN);((exact gn.none));((exact py));((refine⟨.box _ rfl ?_,?_⟩;(iterate 2 refine T5 ?_);(iterate 2 refine XQ ?_);refine T5 ?_;refine XQ ?_;(iterate 2 refine⟨.fh (by first|rfl|(simp only[fL,iA,fm,qP,dk,if_neg h])),?_⟩);refine XQ ?_;(iterate 2 refine⟨.ia (by first|rfl|(simp only[fL,iA,fm,qP,dk,if_neg h])),?_⟩);exact trivial;(iterate 3 refine aF ?_);refine Qn ?_;(iterate 2 refine aF ?_);refine Qn ?_;refine aF ?_;refine Qn ?_;exact zQ));exact rfl)
end Go.Ab
/- The solver's trail:decisions,the least free variable,going back,walked. -/
namespace Go.Ab
open Go Go.Proofs
open Nat (reduceAdd reduceSub)
set_option maxRecDepth 20000
set_option maxHeartbeats 4000000
def iq (s:SR):SR:={s with marks:=s.marks++ [((s.ll 0).length:Int)]}
def kE (v:List Int) (low:Nat):Nat:=low+((v.drop low).takeWhile fun x=>decide (x≠0)).length
theorem vU {v:List Int} {low:Nat} (h:¬low<v.length):kE v low=low:=by
 unfold kE
 rw[List.drop_eq_nil_of_le aJ];rfl
theorem tP {v:List Int} {low:Nat} (h:low<v.length) (h0:v[low]=0):kE v low=low:=by
 unfold kE
 rw[dm h,List.takeWhile_cons_of_neg (by simp [h0])];rfl
theorem tY {v:List Int} {low:Nat} (h:low<v.length) (h0:v[low]≠0):kE v low=kE v (low+1):=by
 unfold kE
 rw[dm h,List.takeWhile_cons_of_pos (by simp [h0])]
 simp only[List.length_cons];omega
theorem zz {v:List Int}:∀{n low:Nat},v.length - low=n→low≤v.length→low≤kE v low∧kE v low≤v.length
 |0,low,h,hl=>by rw[vU aJ];omega
 |n+1,low,h,hl=>by
  have fx:low<v.length:=by omega
  by_cases h0:v[low]=0
  ·rw[tP fx h0];omega
  ·rw[tY fx h0]
   have:=zz (v:=v) (n:=n) (low:=low+1) aJ (by omega)
   omega
def zeroV (v:List Int) (l:List Int):List Int:=l.foldl (fun v x=>v.set (fm x) 0) v
def pD (low:Int) (l:List Int):Int:=l.foldl (fun m x=>min m (max x (-x))) low
theorem gw (v:List Int):zeroV v []=v:=rfl
theorem gK (b:Int):pD b []=b:=rfl
theorem qx (l v:List Int):(zeroV v l).length=v.length:=by
 unfold zeroV
 induction l generalizing v with
 |nil=>rfl
 |cons x l ih=>rw[cr,ih];simp
theorem DQ {v l:List Int} {k:Nat} (h:k<l.length):zeroV v (l.take (k+1))=(zeroV v (l.take k)).set (fm l[k]) 0:=by
 unfold zeroV
 rw[dp h,dq];rfl
theorem GL {b:Int} {l:List Int} {k:Nat} (h:k<l.length):pD b (l.take (k+1))=min (pD b (l.take k)) (max l[k] (-l[k])):=by
 unfold pD
 rw[dp h,dq];rfl
theorem Jh {b:Int} {l:List Int} (hb:0≤b∧b≤1000000) (hl:∀x∈l,-1000000≤x∧x≤1000000):0≤pD b l∧pD b l≤1000000:=by
 unfold pD
 induction l generalizing b with
 |nil=>exact hb
 |cons x l ih=>
  have:=hl x (by simp)
  rw[cr]
  exact ih (by show 0≤min b (max x (-x))∧min b (max x (-x))≤_;omega) fun y hy=>hl y (by simp [hy])
def FF (s:SR) (lv:Nat):SR:={s with value:=zeroV s.value ((s.ll 0).drop (s.marks.getD lv 0).toNat),low:=pD s.low ((s.ll 0).drop (s.marks.getD lv 0).toNat),hl:=fb s.hl 0 (jn (s.marks.getD lv 0).toNat (s.hl 0)),ll:=fb s.ll 0 ((s.ll 0).take (s.marks.getD lv 0).toNat),marks:=s.marks.take lv}
attribute [local irreducible] gC AW a_ ga ft AR fB fp fG fU jw lA kE zeroV pD
theorem ES (s:SR) (hl:(s.ll 0).length≤1000000) (hm:s.marks.length≤1000000):mg Tryz.prog 57 11 (hX s) [.ptr 0 0,e7 0] (hX (iq s)) (.gM []):=by
 refine mg.enter (n:=23) Tryz.func57 rfl rfl rfl rfl rfl (by decide) rfl rfl fun g fE fD=>?_;refine qz ?_
 (refine zo ?_;refine AW.gB [0,1,2,3,4,5,6,7,8,9] [14] rfl (by assumption) aI aI rfl ?_;show a_ .held _ _ _ [_,_,_,_,_,_,_,_,_,_] _ _;refine UA ?_;intro k_ ja;refine J0 ?_;refine AR.fM (i:=10) rfl aI rfl ?_;intro g_ c_ gh;(with_reducible apply a_.nK);(iterate 5 exact rfl);exact ag;exact rfl;exact rfl;refine mV ?_;refine AR.fM (i:=11) rfl aI rfl ?_;intro g_ c_ gh;(with_reducible apply a_.fJ);exact rfl;exact ah;(iterate 9 exact rfl);exact aa;refine mV ?_;refine OZ ?_;intro g_ c_;show a_ .held _ _ _ [_,_] _ _;refine a_.fe rfl rfl rfl ?_;refine a_.b_ 92 4 4 rfl rfl rfl rfl ?_;refine J4 ?_;intro k_ ja;refine J0 ?_;refine vi ?_;intro g_ c_ fk;(with_reducible apply a_.gv);(iterate 5 exact rfl);exact ag;(iterate 3 exact rfl);(with_reducible assumption);refine rz ?_;refine zq ?_;refine zm ?_;refine a_.neq rfl rfl rfl rfl rfl ?_;refine Ot ?_)
 (apply lI;((exact gn.none));((exact py));((refine⟨.box _ rfl ?_,?_⟩;(iterate 2 refine TT ?_);(iterate 2 refine Yt ?_);refine TT ?_;refine Yt ?_;(iterate 2 refine⟨.fh (by first|rfl|(simp only[iq,cU,bA,bZ];rfl)),?_⟩);refine Yt ?_;(iterate 2 refine⟨.ia (by first|rfl|(simp only[iq,cU,bA,bZ];rfl)),?_⟩);exact trivial;(iterate 3 refine aF ?_);refine QZ ?_;(iterate 2 refine aF ?_);refine QZ ?_;refine aF ?_;refine QZ ?_;exact zQ));exact rfl)
theorem wq (s:SR) (x:Int) (h0:x≠0) (hb: -1000000≤x∧x≤1000000) (hx:x<s.value.length∧ -x<s.value.length) (h1:s.level.length=s.value.length) (h2:s.reason.length=s.value.length) (hl:(s.ll 0).length≤100000) (hm:s.marks.length≤100000):
  uo Tryz.prog 57 11 (hX s) [.ptr 0 0,e7 x] (fun h:Value=>h.oneCell'=true) (fun h=>hX (fL (iq s) x (-1) h)) (fun _=> .gM []):=by
 have hp:=qC (iq s) x (-1) hb hx h1 h2 (by show(s.ll 0).length≤_;omega) (by show(s.marks++_).length≤_;simp;omega)
 rw[show hX (iq s)=hX {iq s with marks:=s.marks++ [((s.ll 0).length:Int)]} from rfl] at hp
 simp only[hX,hZ,cU,bA,bZ] at hp
 refine uo.enter (n:=23) Tryz.func57 rfl rfl rfl rfl rfl (by decide) rfl (fun _=>rfl) fun g fE fD=>?_;refine qz ?_
 (refine zo ?_;refine AW.gB [0,1,2,3,4,5,6,7,8,9] [14] rfl (by assumption) aI aI rfl ?_;show a_ .held _ _ _ [_,_,_,_,_,_,_,_,_,_] _ _;refine UA ?_;intro k_ ja;refine J0 ?_;refine AR.fM (i:=10) rfl aI rfl ?_;intro g_ c_ gh;(with_reducible apply a_.nK);(iterate 5 exact rfl);exact ag;exact rfl;exact rfl;refine mV ?_;refine AR.fM (i:=11) rfl aI rfl ?_;intro g_ c_ gh;(with_reducible apply a_.fJ);exact rfl;exact ah;(iterate 9 exact rfl);exact aa;refine mV ?_;refine OZ ?_;intro g_ c_;show a_ .held _ _ _ [_,_] _ _;refine a_.fe rfl rfl rfl ?_;refine a_.b_ 92 4 4 rfl rfl rfl rfl ?_;refine J4 ?_;intro k_ ja;refine J0 ?_;refine vi ?_;intro g_ c_ fk;(with_reducible apply a_.gv);(iterate 5 exact rfl);exact ag;(iterate 3 exact rfl);(with_reducible assumption);refine rz ?_;refine zq ?_;refine zm ?_;refine a_.neq rfl rfl rfl rfl rfl ?_;refine lq ?_;refine qJ ?_;refine Eg ?_;(with_reducible apply a_.kc (hf:=hp));(with_reducible assumption);(iterate 3 exact rfl);exact aq;exact ak;(intro x_;exact rfl);exact rfl;exact al;(intro x_;exact al);(intro x_;exact rfl);exact rfl;(intro x_ pI);refine kA ?_;refine a_.nil ?_)
 (apply mQ (x_) (pI);((exact gn.none));((exact py));((exact Td));exact rfl)
theorem Mt (s:SR) (low:Nat) (hs:s.low=(low:Int)) (hle:low≤s.value.length) (hl:s.value.length≤1000000):
  mg Tryz.prog 58 11 (hX s) [.ptr 0 0] (hX {s with low:=(kE s.value low:Int)}) (e7 (if kE s.value low=s.value.length then 0 else (kE s.value low:Int))):=by
 simp only[hX,hZ,hs]
 have hb:=zz (v:=s.value) rfl hle
 refine mg.enter (n:=47) Tryz.func58 rfl rfl rfl rfl rfl (by decide) rfl rfl fun g fE fD=>?_;refine qz ?_
 (refine zq ?_;refine rD ?_;refine AW.block ?_)
 (refine J0 ?_;apply AW.gP [2,0,1000] [1,2,3,4,5,6,7,8,9,10] (fun k:Nat=>([]:List (Nat×AV))) (fun k:Nat=>([(0,some (.box [.own 1 3 1 ((s.value).map encI),.own 2 3 1 ((s.level).map encI),.own 3 3 1 ((s.reason).map encI),.pv (.lit (s.hl 0)),.own 5 3 1 ((s.marks).map encI),e7 ((k:Int)),.own 6 29 1 (gC s.nc s.hc),.own 8 29 1 (gC s.nw s.hw),e7 (s.head),e7 (s.added),fu (s.broken),.own 10 65 3 ((s.proof).map mI),e7 0,.pv (jX (s.model)),.pv (jX (s.core))]))]:List (Nat×Option Ob))) (fun k:Nat=>(k≤s.value.length∧kE s.value k=kE s.value low)) (fun k:Nat=>s.value.length - k) (low);(conv=>lhs;simp only[Nf.n7,Nf.all,di,reduceAdd,reduceSub]);(all_goals skip))
 ·exact⟨hle,rfl⟩
 ·exact fy rfl (by(refine aD ?_;(iterate 2 refine aC ?_);exact trivial)) (by(refine⟨.box _ rfl ?_,?_⟩;(iterate 3 refine aE ?_);refine aD ?_;refine aE ?_;refine aD ?_;(iterate 2 refine aE ?_);(iterate 3 refine aD ?_);refine aE ?_;refine aD ?_;(iterate 2 refine aG ?_);exact trivial;(iterate 3 refine aF ?_);refine aH ?_;(iterate 2 refine aF ?_);refine aH ?_;refine aF ?_;refine aH ?_;refine aF ?_;exact trivial)) rfl
 rintro k ⟨hk,hf⟩
 by_cases fx:k<s.value.length
 ·by_cases h0:s.value[k]=0
  ·have e:=tP fx h0
   rw[hf] at e
   have Wk:(decide (s.value[k]≠0))=false:=by simp [h0]
   have fZ:¬k=s.value.length:=by omega
   rw[e,if_neg fZ]
   ((iterate 2 refine zo ?_);(with_reducible apply AW.gk);exact rfl;exact rfl;kernel_rfl;(with_reducible assumption);refine KR ?_;refine zs ?_;refine zm ?_;refine Ux ?_;refine au ?_;refine zt ?_;refine a_.neq rfl rfl rfl rfl rfl ?_;refine zT ?_;refine zd ?_;refine vj ?_;(iterate 2 refine zo ?_);(with_reducible apply AW.gk);exact rfl;exact rfl;kernel_rfl;(with_reducible assumption);refine KR ?_;refine Cm ?_;refine jB ?_;refine oF ?_;refine a_.b_ 92 5 5 rfl rfl rfl rfl ?_;refine zb ?_;refine kH ?_)
   (apply hY;((exact gn.one (.tmp rfl rfl)));((exact Bb));((exact J2));exact rfl)
  ·have Wk:(decide (s.value[k]≠0))=true:=by simp [h0]
   have e:=tY fx h0
   ((iterate 2 refine zo ?_);(with_reducible apply AW.gk);exact rfl;exact rfl;kernel_rfl;(with_reducible assumption);refine KR ?_;refine zs ?_;refine zm ?_;refine Ux ?_;refine au ?_;refine zt ?_;refine a_.neq rfl rfl rfl rfl rfl ?_;refine zT ?_;refine lq ?_;refine FA ?_;refine AW.block ?_;refine qJ ?_;refine oF ?_;refine a_.b_ 92 5 5 rfl rfl rfl rfl ?_;refine zb ?_;refine zj ?_;refine a_.fe rfl rfl rfl ?_;refine a_.b_ 92 5 5 rfl rfl rfl rfl ?_;(with_reducible apply a_.gv);(iterate 5 exact rfl);exact ag;(iterate 3 exact rfl);(with_reducible assumption);refine J0 ?_;refine zu ?_)
   exact⟨k+1,⟨by omega,by rw[← e];exact hf⟩,by omega,fy rfl (by(refine aD ?_;(iterate 2 refine aC ?_);exact trivial)) (by(refine⟨.box _ rfl ?_,?_⟩;(iterate 3 refine aE ?_);refine aD ?_;refine aE ?_;refine aD ?_;(iterate 2 refine aE ?_);(iterate 3 refine aD ?_);refine aE ?_;refine aD ?_;(iterate 2 refine aG ?_);exact trivial;(iterate 3 refine aF ?_);refine aH ?_;(iterate 2 refine aF ?_);refine aH ?_;refine aF ?_;refine aH ?_;refine aF ?_;exact trivial)) rfl⟩
 ·have sd:k=s.value.length:=by omega
  have e:=vU (v:=s.value) (low:=k) fx
  rw[hf] at e
  rw[e,if_pos sd]
  ((iterate 2 refine zo ?_);(with_reducible apply AW.gk);exact rfl;exact rfl;kernel_rfl;(with_reducible assumption);refine KR ?_;refine zs ?_;refine zm ?_;(iterate 11 refine a_.oW rfl rfl rfl rfl rfl rfl (by first|omega|decide) ?_);refine zF ?_;refine zd ?_;refine AW.jV rfl rfl ?_;refine H8 ?_;(iterate 2 refine zo ?_);(with_reducible apply AW.gk);exact rfl;exact rfl;kernel_rfl;(with_reducible assumption);refine KR ?_;refine I3 ?_;refine jB ?_;refine xL ?_)
  (apply hY;((exact gn.one (.tmp rfl rfl)));((exact Bb));((exact J2));exact rfl)
theorem xi (s:SR) (lv:Int) (pk:(s.marks.length:Int)≤lv):mg Tryz.prog 47 11 (hX s) [.ptr 0 0,e7 lv] (hX s) (.gM []):=by
 refine mg.enter (n:=75) Tryz.func47 rfl rfl rfl rfl rfl (by decide) rfl rfl fun g fE fD=>?_;refine qz ?_
 (refine mD ?_;refine oF ?_;refine zG ?_;refine a_.geq rfl rfl rfl rfl rfl ?_;refine lq ?_;refine AW.ret ?_;refine im ?_)
 (apply hY;((exact gn.none));((exact py));((exact J2));exact rfl)
theorem K3 (s:SR) (lv:Nat) (pk:lv<s.marks.length) (hm:0≤s.marks[lv]∧s.marks[lv].toNat≤(s.ll 0).length) (hl:(s.ll 0).length≤1000000) (Rv:0≤s.low∧s.low≤1000000)
  (hx:∀x∈s.ll 0,(-1000000≤x∧x≤1000000)∧fm x<s.value.length):mg Tryz.prog 47 11 (hX s) [.ptr 0 0,e7 lv] (hX (FF s lv)) (.gM []):=by
 have Oz:s.marks.getD lv 0=s.marks[lv]:=fF pk
 have ql:(s.marks.getD lv 0).toNat≤(s.ll 0).length:=by rw[Oz];exact hm.2
 unfold FF
 rw[Oz]
 have A2:((s.ll 0).drop (s.marks[lv]).toNat).length=(s.ll 0).length - (s.marks[lv]).toNat:=List.length_drop
 simp only[hX,hZ]
 refine mg.enter (n:=75) Tryz.func47 rfl rfl rfl rfl rfl (by decide) rfl rfl fun g fE fD=>?_;refine qz ?_
 refine AW.Aq 4 rfl fun WL V4=>?_
 (refine mD ?_;refine oF ?_;refine zG ?_;refine a_.geq rfl rfl rfl rfl rfl ?_;refine vD ?_;(iterate 2 refine zo ?_);(with_reducible apply AW.gk);exact rfl;exact rfl;kernel_rfl;(with_reducible assumption);refine oF ?_;refine a_.b_ 92 3 3 rfl rfl rfl rfl ?_;refine zb ?_;refine oF ?_;refine a_.b_ 92 4 4 rfl rfl rfl rfl ?_;refine iL ?_;refine DO ?_;refine au ?_;(with_reducible apply a_.wD 4);(iterate 8 exact rfl);exact ab;exact ab;refine a_.Ad 4 rfl rfl rfl rfl rfl ?_;refine CX ?_)
 (refine J0 ?_;apply AW.gP [26,25,0,1,1000] [1,2,3,4,5,6,7,8,9,10] (fun k:Nat=>([(27,e7 k)]:List (Nat×AV))) (fun k:Nat=>([(0,some (.box [.own 1 3 1 ((zeroV s.value (((s.ll 0).drop (s.marks[lv]).toNat).take k)).map encI),.own 2 3 1 ((s.level).map encI),.own 3 3 1 ((s.reason).map encI),.pv (.lit (s.hl 0)),.own 5 3 1 ((s.marks).map encI),e7 (pD s.low (((s.ll 0).drop (s.marks[lv]).toNat).take k)),.own 6 29 1 (gC s.nc s.hc),.own 8 29 1 (gC s.nw s.hw),e7 (s.head),e7 (s.added),fu (s.broken),.own 10 65 3 ((s.proof).map mI),e7 0,.pv (jX (s.model)),.pv (jX (s.core))]))]:List (Nat×Option Ob))) (fun k:Nat=>k≤((s.ll 0).drop (s.marks[lv]).toNat).length) (fun k:Nat=>((s.ll 0).drop (s.marks[lv]).toNat).length - k) (0);(conv=>lhs;simp only[Nf.n7,Nf.all,di,reduceAdd,reduceSub]);(all_goals skip))
 ·exact bk _
 ·exact fy rfl (by(refine⟨.fh (by first|rfl|(simp only[dr,gw,gK])),?_⟩;refine⟨.fh (by first|rfl|(simp only[dr,gw,gK])),?_⟩;refine⟨.fh (by first|rfl|(simp only[dr,gw,gK])),?_⟩;refine aC ?_;refine⟨.fh (by first|rfl|(simp only[dr,gw,gK])),?_⟩;refine aC ?_;exact trivial)) (by(refine⟨.box _ rfl ?_,?_⟩;refine⟨.fj (by first|rfl|(simp only[dr,gw,gK])) rfl,?_⟩;refine⟨.fj (by first|rfl|(simp only[dr,gw,gK])) rfl,?_⟩;refine⟨.fj (by first|rfl|(simp only[dr,gw,gK])) rfl,?_⟩;refine⟨.fh (by first|rfl|(simp only[dr,gw,gK])),?_⟩;refine⟨.fj (by first|rfl|(simp only[dr,gw,gK])) rfl,?_⟩;refine⟨.fh (by first|rfl|(simp only[dr,gw,gK])),?_⟩;refine⟨.fj (by first|rfl|(simp only[dr,gw,gK])) rfl,?_⟩;refine⟨.fj (by first|rfl|(simp only[dr,gw,gK])) rfl,?_⟩;refine⟨.fh (by first|rfl|(simp only[dr,gw,gK])),?_⟩;refine⟨.fh (by first|rfl|(simp only[dr,gw,gK])),?_⟩;refine⟨.fh (by first|rfl|(simp only[dr,gw,gK])),?_⟩;refine⟨.fj (by first|rfl|(simp only[dr,gw,gK])) rfl,?_⟩;refine⟨.fh (by first|rfl|(simp only[dr,gw,gK])),?_⟩;refine⟨.ia (by first|rfl|(simp only[dr,gw,gK])),?_⟩;refine⟨.ia (by first|rfl|(simp only[dr,gw,gK])),?_⟩;exact trivial;(iterate 3 refine aF ?_);refine⟨.ff rfl (by first|rfl|(simp only[dr,gw,gK])),?_⟩;(iterate 2 refine aF ?_);refine⟨.ff rfl (by first|rfl|(simp only[dr,gw,gK])),?_⟩;refine aF ?_;refine⟨.ff rfl (by first|rfl|(simp only[dr,gw,gK])),?_⟩;refine aF ?_;exact trivial)) rfl
 rintro k hk
 have X9:=qx (((s.ll 0).drop (s.marks[lv]).toNat).take k) s.value
 by_cases DG:k<((s.ll 0).drop (s.marks[lv]).toNat).length
 ·have hz:=DQ (v:=s.value) DG
  have sc:=GL (b:=s.low) DG
  have Cq:((s.ll 0).drop (s.marks[lv]).toNat)[k]=(s.ll 0)[(s.marks[lv]).toNat+(k:Int).toNat]'(by simp only[dt];omega):=List.getElem_drop
  rw[Cq] at hz sc
  obtain⟨hr,NX⟩:=hx _ (cZ (show(s.marks[lv]).toNat+(k:Int).toNat<(s.ll 0).length by simp only[dt];omega))
  have nq:=Jh (b:=s.low) (l:=((s.ll 0).drop (s.marks[lv]).toNat).take k) Rv fun y hy=>(hx y (List.mem_of_mem_drop (cS hy))).1
  unfold fm at NX hz
  (refine zq ?_;refine pW ?_;refine J5 ?_;refine jB ?_;(with_reducible apply a_.vK 4);(iterate 8 exact rfl);exact ab;exact ab;refine aw ?_;refine sM ?_;refine JZ ?_;refine sM ?_;refine ET ?_;refine iL ?_;refine s8 ?_;(with_reducible apply a_.gA);(iterate 4 exact rfl);exact ag;(iterate 3 exact rfl);refine rM ?_;refine AW.region ?_;refine zV ?_;refine a_.b_ 92 5 5 rfl rfl rfl rfl ?_;refine iL ?_;refine a_.min2 rfl rfl rfl rfl rfl ?_;refine a_.fe rfl rfl rfl ?_;refine a_.b_ 92 5 5 rfl rfl rfl rfl ?_;(with_reducible apply a_.gv);(iterate 5 exact rfl);exact ag;(iterate 3 exact rfl);(with_reducible assumption);refine J0 ?_;refine GK ?_;refine yy ?_)
  exact⟨k+1,by omega,by omega,fy rfl (by(refine⟨.fh (by first|rfl|(rw[iA,hz])|(rw[sc])),?_⟩;refine⟨.fh (by first|rfl|(rw[iA,hz])|(rw[sc])),?_⟩;refine⟨.fh (by first|rfl|(rw[iA,hz])|(rw[sc])),?_⟩;refine aC ?_;refine⟨.fh (by first|rfl|(rw[iA,hz])|(rw[sc])),?_⟩;refine aC ?_;exact trivial)) (by(refine⟨.box _ rfl ?_,?_⟩;refine⟨.fj (by first|rfl|(rw[iA,hz])|(rw[sc])) rfl,?_⟩;refine⟨.fj (by first|rfl|(rw[iA,hz])|(rw[sc])) rfl,?_⟩;refine⟨.fj (by first|rfl|(rw[iA,hz])|(rw[sc])) rfl,?_⟩;refine⟨.fh (by first|rfl|(rw[iA,hz])|(rw[sc])),?_⟩;refine⟨.fj (by first|rfl|(rw[iA,hz])|(rw[sc])) rfl,?_⟩;refine⟨.fh (by first|rfl|(rw[iA,hz])|(rw[sc])),?_⟩;refine⟨.fj (by first|rfl|(rw[iA,hz])|(rw[sc])) rfl,?_⟩;refine⟨.fj (by first|rfl|(rw[iA,hz])|(rw[sc])) rfl,?_⟩;refine⟨.fh (by first|rfl|(rw[iA,hz])|(rw[sc])),?_⟩;refine⟨.fh (by first|rfl|(rw[iA,hz])|(rw[sc])),?_⟩;refine⟨.fh (by first|rfl|(rw[iA,hz])|(rw[sc])),?_⟩;refine⟨.fj (by first|rfl|(rw[iA,hz])|(rw[sc])) rfl,?_⟩;refine⟨.fh (by first|rfl|(rw[iA,hz])|(rw[sc])),?_⟩;refine⟨.ia (by first|rfl|(rw[iA,hz])|(rw[sc])),?_⟩;refine⟨.ia (by first|rfl|(rw[iA,hz])|(rw[sc])),?_⟩;exact trivial;(iterate 3 refine aF ?_);refine⟨.ff rfl (by first|rfl|(rw[iA,hz])|(rw[sc])),?_⟩;(iterate 2 refine aF ?_);refine⟨.ff rfl (by first|rfl|(rw[iA,hz])|(rw[sc])),?_⟩;refine aF ?_;refine⟨.ff rfl (by first|rfl|(rw[iA,hz])|(rw[sc])),?_⟩;refine aF ?_;exact trivial)) rfl⟩
 ·obtain rfl:k=((s.ll 0).drop (s.marks[lv]).toNat).length:=by omega
  rw[da]
  (refine uB ?_;refine zo ?_;refine AW.gB [0,1,2,3,4,5,6,7,8,9,10] [15] rfl (by assumption) aI aI rfl ?_;show a_ .held _ _ _ [_,_,_,_,_,_,_,_,_,_,_] _ _;refine zV ?_;refine a_.b_ 92 3 3 rfl rfl rfl rfl ?_;refine zb ?_;refine oF ?_;refine a_.b_ 92 4 4 rfl rfl rfl rfl ?_;refine iL ?_;refine DO ?_;refine J4 ?_;intro k_ ja;refine Ay ?_;intro g_ c_ gh;refine au ?_;refine J4 ?_;refine AR.iI [12,13,14] aI aI aI aI ?_;intro g_ c_;show a_ .held _ _ _ [_,_,_] _ _;(with_reducible apply a_.ub 4);(iterate 8 exact rfl);exact ab;exact ab;refine a_.fe rfl rfl rfl ?_;refine a_.b_ 92 3 3 rfl rfl rfl rfl ?_;refine J4 ?_;intro k_ ja;refine J0 ?_;refine AR.gY (i:=15) rfl aI rfl aI ?_;intro g_ c_ fk;(with_reducible apply a_.gv);(iterate 5 exact rfl);exact ag;(iterate 3 exact rfl);(with_reducible assumption);refine rz ?_;(with_reducible apply AW.uu 9 4 0 (s.marks.getD lv 0).toNat);exact rfl;omega;(rw[Oz]);refine aB ?_;refine AW.region ?_;refine zV ?_;refine a_.b_ 92 4 4 rfl rfl rfl rfl ?_;refine iL ?_;(with_reducible apply a_.Hb);(iterate 7 exact rfl);omega;exact aa;refine a_.fe rfl rfl rfl ?_;refine a_.b_ 92 4 4 rfl rfl rfl rfl ?_;(with_reducible apply a_.gv);(iterate 5 exact rfl);exact ag;(iterate 3 exact rfl);(with_reducible assumption);refine J0 ?_;refine a_.nil ?_)
  (apply lI;((exact gn.none));((exact py));((refine⟨.box _ rfl ?_,?_⟩;(iterate 2 refine Sp ?_);(iterate 2 refine P9 ?_);refine Sp ?_;refine P9 ?_;(iterate 2 refine⟨.fh (by first|rfl|(rw[cV];rfl)),?_⟩);refine P9 ?_;(iterate 2 refine⟨.ia (by first|rfl|(rw[cV];rfl)),?_⟩);exact trivial;(iterate 3 refine aF ?_);refine Pr ?_;(iterate 2 refine aF ?_);refine Pr ?_;refine aF ?_;refine Pr ?_;exact zQ));exact rfl)
end Go.Ab
/- The solver:going back to a level;a clause attached,walked. -/
namespace Go.Ab
open Go Go.Proofs
open Nat (reduceAdd reduceSub)
set_option maxRecDepth 20000
set_option maxHeartbeats 4000000
def FQ (s:SR):SR:={s with head:=min s.head ((s.ll 0).length:Int)}
def j_ (s:SR) (x:Int) (at':Nat) (h:Value):SR:={s with hw:=fb s.hw (eW x).toNat h,wl:=fb s.wl (eW x).toNat (s.wl (eW x).toNat++ [(at':Int)])}
structure AtI (s:SR) (x y:Int) (k:Nat) (hw:Nat→Value) (wl:Nat→List Int):Prop where
 le:k≤2
 i0:k=0→hw=s.hw∧wl=s.wl
 i1:k=1→∃h:Value,h.oneCell'=true∧hw=fb s.hw (eW x).toNat h∧wl=fb s.wl (eW x).toNat (s.wl (eW x).toNat++ [(s.nc:Int)])
 i2:k=2→∃h h':Value,h.oneCell'=true∧h'.oneCell'=true∧hw=fb (fb s.hw (eW x).toNat h) (eW y).toNat h'∧wl=fb (fb s.wl (eW x).toNat (s.wl (eW x).toNat++ [(s.nc:Int)])) (eW y).toNat (fb s.wl (eW x).toNat (s.wl (eW x).toNat++ [(s.nc:Int)]) (eW y).toNat++ [(s.nc:Int)])
attribute [local irreducible] gC AW a_ ga ft AR fB fp fG fU jw lA eW
theorem zR (s s1:SR) (lv:Int) (hb:mg Tryz.prog 47 11 (hX s) [.ptr 0 0,e7 lv] (hX s1) (.gM [])):mg Tryz.prog 51 11 (hX s) [.ptr 0 0,e7 lv] (hX (FQ s1)) (.gM []):=by
 simp only[hX,hZ] at hb ⊢
 refine mg.enter (n:=23) Tryz.func51 rfl rfl rfl rfl rfl (by decide) rfl rfl fun g fE fD=>?_;refine qz ?_
 (refine zq ?_;refine oz ?_;refine zX (hb) ?_;refine kA ?_;refine zd ?_;refine AW.gB [0,1,2,3,4,5,6,7,8,9,10,11,12,13] [14] rfl (by assumption) aI aI rfl ?_;show a_ .held _ _ _ [_,_,_,_,_,_,_,_,_,_,_,_,_,_] _ _;refine zV ?_;refine IG ?_;refine Eb ?_;refine Gk ?_;refine a_.min2 rfl rfl rfl rfl rfl ?_;refine a_.fe rfl rfl rfl ?_;refine a_.b_ 94 3 8 rfl rfl rfl rfl ?_;refine J4 ?_;intro k_ ja;refine J0 ?_;refine vi ?_;intro g_ c_ fk;(with_reducible apply a_.gv);(iterate 5 exact rfl);exact ag;(iterate 3 exact rfl);(with_reducible assumption);refine wz ?_)
 (apply lI;((exact gn.none));((exact py));((exact Td));exact rfl)
end Go.Ab
/- The solver:a step of the proof logged;the end of a search,walked. -/
namespace Go.Ab
open Go Go.Proofs
open Nat (reduceAdd reduceSub)
set_option maxRecDepth 20000
set_option maxHeartbeats 4000000
attribute [local irreducible] gC AW a_ ga ft AR fB fp fG fU jw lA
theorem tT (l:List Int) (hl:l.length≤1000000):Fn Tryz.prog 43 [.pv (jX l)] (.pv (jX l)):=by
 refine Fn.enter (n:=8) Tryz.func43 rfl rfl rfl rfl rfl (by decide) fun g fE fD=>?_;refine aB ?_
 (refine zq ?_;refine rW ?_;(focus ((with_reducible apply a_.rR);(iterate 6 exact rfl);all_goals intro r6));refine yW ?_;refine jB ?_;refine xL ?_;(all_goals skip);rotate_left;refine ti ?_;refine jB ?_;refine a_.Rm rfl rfl rfl rfl rfl ?_;refine J0 ?_;refine zm ?_;(with_reducible apply a_.fJ);exact rfl;exact ah;(iterate 9 exact rfl);exact aa;refine J0 ?_;refine tE ?_;(all_goals skip);rotate_left)
 ·obtain rfl:l=[]:=by simpa using r6
  (apply e9;(exact gn.one (.tmp rfl rfl));(exact Le.nil _))
 ·(apply e9;(exact gn.one (.tmp rfl rfl));(exact Le.own _ _ _ _ rfl))
theorem GB (s:SR) (l:List Int) (hl:l.length≤1000000) (hp:s.proof.length≤1000000):mg Tryz.prog 82 11 (hX s) [.ptr 0 0,.pv (jX l)] (hX {s with proof:=s.proof++ [l]}) (.gM []):=by
 have hc:=tT l hl
 simp only[hX,hZ]
 refine mg.enter (n:=16) Tryz.func82 rfl rfl rfl rfl rfl (by decide) rfl rfl fun g fE fD=>?_;refine qz ?_
 (refine AW.gB [0,1,2,3,4,5] [12] rfl (by assumption) aI aI rfl ?_;show a_ .held _ _ _ [_,_,_,_,_,_] _ _;refine zV ?_;refine a_.b_ 94 6 11 rfl rfl rfl rfl ?_;refine iL ?_;refine J4 ?_;intro k_ ja;refine J0 ?_;refine AR.fM (i:=6) rfl aI rfl ?_;intro g_ c_ gh;refine zP (hc) ?_;refine J4 ?_;refine Mq ?_;refine aB ?_;refine AR.fM (i:=8) rfl aI rfl ?_;intro g_ c_ gh;refine Jl ?_;refine AR.fM (i:=9) rfl aI rfl ?_;intro g_ c_ gh;(with_reducible apply a_.fJ);exact rfl;exact ah;(iterate 9 exact rfl);exact aa;refine mV ?_;refine AR.iI [10,11] aI aI aI aI ?_;intro g_ c_;show a_ .held _ _ _ [_,_] _ _;refine a_.fe rfl rfl rfl ?_;refine I1 ?_;intro k_ ja;refine J0 ?_;refine FX ?_;intro g_ c_ fk;(with_reducible apply a_.gv);(iterate 5 exact rfl);exact ag;(iterate 3 exact rfl);(with_reducible assumption);refine wz ?_)
 (apply lI;((exact gn.none));((exact py));((exact Y7));exact rfl)
theorem GD (hs:Nat→Value) (ls:Nat→List Int) (k:Nat) (hl:(ls k).length≤1000000) (h0:0<(ls k).length):mg Tryz.prog 43 11 [(7,some (.ff 3 (kl hs ls)))] [.pv (.lit (hs k))] [(7,some (.ff 3 (kl hs ls)))] (.pv (jX (ls k))):=by
 refine mg.enter (n:=8) Tryz.func43 rfl rfl rfl rfl rfl (by decide) rfl rfl fun g fE fD=>?_;refine qz ?_
 (refine zq ?_;refine rW ?_;(with_reducible apply a_.GJ 7);(iterate 7 exact rfl);omega;refine aB ?_;refine ti ?_;refine zq ?_;refine a_.Rm rfl rfl rfl rfl rfl ?_;refine J0 ?_;refine zm ?_;(with_reducible apply a_.BT 7);(iterate 11 exact rfl);(simp only[List.length_nil];omega);refine aB ?_;refine tE ?_)
 (apply hY;((exact gn.one (.tmp rfl rfl)));((refine⟨.z6 rfl (by first|with_reducible rfl|(rfl)),?_⟩;exact vw));((refine⟨.ff rfl (by first|with_reducible rfl|(rfl)),?_⟩;exact trivial));exact rfl)
theorem Ga (s:SR) (hl:(s.cl s.nc).length≤1000000) (hp:s.proof.length≤1000000) (h0:0<(s.cl s.nc).length):mg Tryz.prog 82 11 (hX s) [.ptr 0 0,.pv (.lit (s.hc s.nc))] (hX {s with proof:=s.proof++ [s.cl s.nc]}) (.gM []):=by
 have hc:=GD s.hc s.cl s.nc hl h0
 simp only[hX,hZ]
 refine mg.enter (n:=16) Tryz.func82 rfl rfl rfl rfl rfl (by decide) rfl rfl fun g fE fD=>?_;refine qz ?_
 (refine AW.gB [5] [6] rfl (by assumption) aI aI rfl ?_;show a_ .held _ _ _ [_] _ _;refine zm ?_;refine J4 ?_;intro k_ ja;refine J0 ?_;(refine AR.free 0 aI rfl rfl rfl (by first|exact fO.fC rfl rfl|exact fO.iu rfl rfl|exact fO.nilCheck rfl rfl) ?_);(refine AR.free 1 aI rfl rfl rfl (by first|exact fO.fC rfl rfl|exact fO.iu rfl rfl|exact fO.nilCheck rfl rfl) ?_);(refine AR.free 2 aI rfl rfl rfl (by first|exact fO.fC rfl rfl|exact fO.iu rfl rfl|exact fO.nilCheck rfl rfl) ?_);apply AR.cut [2,1,0,5,3,4,6,7,8];intro nA;apply AR.cut [2,1,0,5,3,4,6,7];intro qK;(refine AR.rS (i:=3) (j:=6) rfl aI rfl rfl aI ?_ ?_<;>intro g_ c_ fk);refine I1 ?_;(refine AR.rS (i:=4) (j:=6) rfl aI rfl rfl aI ?_ ?_<;>intro g_ c_ fk);refine zb ?_;refine vH ?_;intro g_ c_ fk;refine zX (hc) ?_;refine J1 ?_;refine mV ?_;refine Mq ?_;refine aB ?_;refine aB ?_;exact HE;refine zX (hc) ?_;refine J1 ?_;refine mV ?_;refine Mq ?_;refine aB ?_;(refine AR.zw (i:=4) (j:=8) rfl aI rfl rfl aI ?_ ?_<;>intro g_ c_ fk);refine zb ?_;refine J4 ?_;refine aB ?_;refine AR.meet qK aI (fun g_=>fy rfl ?_ ?_ rfl);(iterate 11 refine aC ?_);exact trivial;exact Ph;refine Jl ?_;refine KY ?_;intro g_ c_ fk;refine zb ?_;refine J4 ?_;refine aB ?_;exact x8;refine zX (hc) ?_;refine J1 ?_;refine mV ?_;refine Mq ?_;refine aB ?_;(refine AR.zw (i:=3) (j:=8) rfl aI rfl rfl aI ?_ ?_<;>intro g_ c_ fk);refine I1 ?_;(refine AR.zw (i:=4) (j:=8) rfl aI rfl rfl aI ?_ ?_<;>intro g_ c_ fk);refine zb ?_;refine J4 ?_;refine aB ?_;refine AR.meet qK aI (fun g_=>fy rfl ?_ ?_ rfl);(iterate 11 refine aC ?_);exact trivial;exact Ph;refine Jl ?_;refine KY ?_;intro g_ c_ fk;refine zb ?_;refine J4 ?_;refine aB ?_;exact Qs;refine Jl ?_;refine AR.gY (i:=3) rfl aI rfl aI ?_;intro g_ c_ fk;refine I1 ?_;refine KY ?_;intro g_ c_ fk;refine zb ?_;refine J4 ?_;refine aB ?_;exact Qs;refine Gf ?_;intro g_ c_ fk;refine Jl ?_;refine aB ?_;exact Qs;refine IF ?_;intro g_ c_ fk;(with_reducible apply a_.fJ);exact rfl;exact ah;(iterate 9 exact rfl);exact aa;refine mV ?_;refine AR.gY (i:=10) rfl aI rfl aI ?_;intro g_ c_ fk;refine tw ?_;refine EX ?_;intro g_ c_ fk;refine I1 ?_;refine FX ?_;intro g_ c_ fk;(with_reducible apply a_.gv);(iterate 5 exact rfl);exact ag;(iterate 3 exact rfl);(with_reducible assumption);refine wz ?_)
 (apply lI;((exact gn.none));((exact py));((exact Y7));exact rfl)
end Go.Ab
/- The solver's invariant,in plain terms:the trail. -/
namespace Go.Ab
open Go Go.Proofs
def lf (n:Nat) (L:List Int):List Int:=(List.range (n+1)).map fun v:Nat=>if (v:Int)∈L then 1 else if -(v:Int)∈L then -1 else 0
structure j1 (n:Nat) (L:List Int):Prop where
 xz:∀x∈L,x≠0∧ -(n:Int)≤x∧x≤n
 nd:(L.map fm).Nodup
theorem gJ (x:Int):fm (-x)=fm x:=by unfold fm;omega
theorem FY {x y:Int}:fm x=fm y↔x=y∨x= -y:=by unfold fm;omega
theorem jF {n:Nat} {x:Int} (h:x≠0∧ -(n:Int)≤x∧x≤n):1≤fm x∧fm x≤n:=by unfold fm;omega
theorem ki (n:Nat) (L:List Int):(lf n L).length=n+1:=by simp [lf]
theorem sF {n v:Nat} (L:List Int) (h:v≤n):(lf n L).getD v 0=if (v:Int)∈L then 1 else if -(v:Int)∈L then -1 else 0:=by
 unfold lf
 rw[c8,List.getElem?_map,List.getElem?_range aJ];rfl
theorem j1.once {n:Nat} {L:List Int} (h:j1 n L) {x y:Int} (hx:x∈L) (hy:y∈L) (hv:fm x=fm y):x=y:=by
 obtain⟨i,hi,rfl⟩:=dc hx
 obtain⟨j,hj,rfl⟩:=dc hy
 have:i=j:=(du h.nd (h₀:=by simpa using hi) (h₁:=by simpa using hj)).1 (by simpa using hv)
 subst this;rfl
theorem j1.nS {n:Nat} {L:List Int} (h:j1 n L) {x:Int} (hx:x∈L): -x∉L:=fun hn=>by
 have:=h.once hx hn (gJ x).symm
 have:=(h.xz x hx).1
 omega
theorem Jk {n:Nat} {L:List Int} {x:Int} (hx:x≠0∧ -(n:Int)≤x∧x≤n) (h:j1 n L):U8 (lf n L) x=if x∈L then 1 else if -x∈L then -1 else 0:=by
 unfold U8
 by_cases hn:x<0
 ·rw[if_pos hn,sF L aJ,show(((-x).toNat:Nat):Int)= -x by omega,dv]
  by_cases h1:x∈L
  ·rw[if_neg (h.nS h1),if_pos h1,if_pos h1];rfl
  ·by_cases h2: -x∈L
   ·rw[if_pos h2,if_neg h1,if_pos h2]
   ·rw[if_neg h2,if_neg h1,if_neg h1,if_neg h2];rfl
 ·rw[if_neg hn,sF L aJ,show((x.toNat:Nat):Int)=x by omega]
theorem B7 {n:Nat} {L:List Int}:∀y∈lf n L,-1≤y∧y≤1:=by
 intro y hy
 unfold lf at hy
 obtain⟨v,_,rfl⟩:=bw.1 hy
 split
 ·omega
 ·split<;>omega
theorem ue:∀(n:Nat) {l:List Nat},l.Nodup→(∀x∈l,1≤x∧x≤n)→l.length≤n:=by
 intro n
 induction n with
 |zero=>intro l _ h;cases l with|nil=>simp|cons x l=>have:=h x (by simp);omega
 |succ n ih=>
  intro l hn h
  have h1:=ih (l:=l.erase (n+1)) (hn.erase _) (fun x hx=>by
   have h2:=h x (List.mem_of_mem_erase hx)
   have h3:x≠n+1:=fun e=>by subst e;exact(List.Nodup.not_mem_erase hn) hx
   omega)
  have:=List.length_erase (a:=n+1) (l:=l)
  split at this<;>omega
theorem j1.len {n:Nat} {L:List Int} (h:j1 n L):L.length≤n:=by
 have:=ue n h.nd fun v hv=>by
  obtain⟨x,hx,rfl⟩:=bw.1 hv
  exact jF (h.xz x hx)
 simpa using this
theorem j1.push {n:Nat} {L:List Int} (h:j1 n L) {x:Int} (hx:x≠0∧ -(n:Int)≤x∧x≤n) (h1:x∉L) (h2: -x∉L):j1 n (L++ [x]) where
 xz:=fun y hy=>by
  rcases bW.1 hy with hy|hy
  ·exact h.xz y hy
  ·rw[cp.1 hy];exact hx
 nd:=by
  rw[cU,cm]
  refine⟨h.nd,by simp,fun v hv w hw=>?_⟩
  obtain⟨y,hy,rfl⟩:=bw.1 hv
  simp at hw
  subst hw
  intro e
  rcases FY.1 e with rfl|rfl
  ·exact h1 hy
  ·exact h2 hy
theorem yj {n:Nat} {L:List Int} {x:Int} (hx:x≠0∧ -(n:Int)≤x∧x≤n) (h1:x∉L) (h2: -x∉L):(lf n L).set (fm x) (qP x)=lf n (L++ [x]):=by
 apply dw (by simp [lf])
 intro v q1 q2
 have hv:v≤n:=by simp [lf] at q1;omega
 rw[dx]
 simp only[lf,dj,dy,bW,cp]
 unfold qP
 by_cases e:fm x=v
 ·rw[if_pos e]
  unfold fm at e
  by_cases hn:x<0
  ·have e1:x= -(v:Int):=by omega
   rw[if_pos hn,if_neg (fun h=>h.elim (fun h=>h2 (by rw[e1,dv];exact h)) (fun h=>by omega)),if_pos (.inr e1.symm)]
  ·have e1:x=(v:Int):=by omega
   rw[if_neg hn,if_pos (.inr e1.symm)]
 ·rw[if_neg e]
  unfold fm at e
  have e1:¬(v:Int)=x:=by omega
  have e2:¬ -(v:Int)=x:=by omega
  simp only[e1,e2,or_false]
theorem F5 {l:List Int} {v:List Int} {j:Nat} (hj:j<(zeroV v l).length):(zeroV v l)[j]=if j∈l.map fm then 0 else v[j]'(by rw[qx] at hj;exact hj):=by
 unfold zeroV at hj ⊢
 induction l generalizing v with
 |nil=>simp
 |cons x l ih=>
  simp only[cr] at hj ⊢
  rw[ih hj,dx]
  simp only[bA,bu]
  by_cases h1:j∈l.map fm
  ·rw[if_pos h1,if_pos (.inr h1)]
  ·rw[if_neg h1]
   by_cases h2:fm x=j
   ·rw[if_pos h2,if_pos (.inl h2.symm)]
   ·rw[if_neg h2,if_neg (fun h=>h.elim (fun h=>h2 h.symm) h1)]
theorem Gu {n:Nat} {L:List Int} (h:j1 n L) (m:Nat):zeroV (lf n L) (L.drop m)=lf n (L.take m):=by
 apply dw (by rw[qx];simp [lf])
 intro v q1 q2
 have hv:v≤n:=by simp [lf] at q2;omega
 rw[F5 q1]
 simp only[lf,dj,dy]
 have O3:∀y,y∈L↔y∈L.take m∨y∈L.drop m:=fun y=>by conv=>lhs;rw[← dz m L,bW]
 have Av:∀{y z},y∈L.take m→z∈L.drop m→fm y≠fm z:=fun {y z} hy hz e=>by
  have jy:=h.nd
  rw[← dz m L,cU,cm] at jy
  exact jy.2.2 _ (dA hy) _ (dA hz) e
 have Dd:fm (v:Int)=v:=by unfold fm;omega
 have yD:fm (-(v:Int))=v:=by unfold fm;omega
 by_cases h1:v∈(L.drop m).map fm
 ·rw[if_pos h1]
  obtain⟨z,hz,e⟩:=bw.1 h1
  rw[if_neg (fun hh=>Av hh hz (by rw[e,Dd])),if_neg (fun hh=>Av hh hz (by rw[e,yD]))]
 ·rw[if_neg h1]
  have g1:(v:Int)∉L.drop m:=fun hh=>h1 (bw.2 ⟨_,hh,Dd⟩)
  have g2: -(v:Int)∉L.drop m:=fun hh=>h1 (bw.2 ⟨_,hh,yD⟩)
  simp only[O3,g1,g2,or_false]
theorem j1.take {n:Nat} {L:List Int} (h:j1 n L) (m:Nat):j1 n (L.take m):=⟨fun x hx=>h.xz x (cS hx),by rw[cV];exact h.nd.sublist (List.take_sublist _ _)⟩
end Go.Ab
/- The solver's invariant,in plain terms:clauses,watches,levels,reasons. -/
namespace Go.Ab
open Go Go.Proofs
abbrev Lit (n:Nat) (x:Int):Prop:=x≠0∧ -(n:Int)≤x∧x≤n
abbrev c0 (c:List Int):Int:=c.getD 0 0
abbrev c1 (c:List Int):Int:=c.getD 1 0
def fi (s:SR) (x:Int):Int:=s.level.getD (fm x) 0
structure fW (n:Nat) (s:SR):Prop where
 hn:n≤20000
 iK:j1 n (s.ll 0)
 val:s.value=lf n (s.ll 0)
 lvl:s.level.length=n+1
 oG:s.reason.length=n+1
 hd:0≤s.head∧s.head≤((s.ll 0).length:Int)
 n3:∀m∈s.marks,0≤m∧m≤s.head
 mG:∀i (h:i<(s.ll 0).length),fi s (s.ll 0)[i]=(s.marks.countP fun m=>decide (m≤(i:Int)):Nat)
 cls:∀j,j<s.nc→2≤(s.cl j).length∧(s.cl j).Nodup∧∀x∈s.cl j,Lit n x
 fresh:∀j,s.nc≤j→s.cl j=[]∧s.hc j=.slice none 0 0
 nc:s.nc≤100000
 nw:s.nw=2*n+2
 wt:∀x,Lit n x→∀e∈s.wl (eW x).toNat,∃j:Nat,j<s.nc∧e=(j:Int)∧(c0 (s.cl j)=x∨c1 (s.cl j)=x)
 qU:∀k,(s.wl k).Nodup
 qX:∀j,j<s.nc→(j:Int)∈s.wl (eW (c0 (s.cl j))).toNat∧(j:Int)∈s.wl (eW (c1 (s.cl j))).toNat
 two:∀j,j<s.nc→∀w w',(w=c0 (s.cl j)∧w'=c1 (s.cl j))∨(w=c1 (s.cl j)∧w'=c0 (s.cl j))→ -w∈(s.ll 0).take s.head.toNat→w'∈s.ll 0∧fi s w'≤fi s w
 pB:s.marks.Pairwise (·≤·)
 qh:∀i (h:i<(s.ll 0).length),(s.reason.getD (fm (s.ll 0)[i]) 0= -1∧((i:Int)∈s.marks∨fi s (s.ll 0)[i]=0))∨∃j:Nat,j<s.nc∧s.reason.getD (fm (s.ll 0)[i]) 0=(j:Int)∧(s.ll 0)[i]∈s.cl j∧∀y∈s.cl j,y≠(s.ll 0)[i]→ -y∈(s.ll 0).take i
theorem ie {n:Nat} {x y:Int} (hx:Lit n x) (hy:Lit n y) (h:(eW x).toNat=(eW y).toNat):x=y:=by
 unfold eW at h;split at h<;>split at h<;>omega
theorem ix {n:Nat} {x:Int} (hx:Lit n x):0≤eW x∧(eW x).toNat<2*n+2:=by
 unfold eW;split<;>omega
structure lC (c d:List Int):Prop where
 len:d.length=c.length
 nd:c.Nodup→d.Nodup
 mem:∀x,x∈d↔x∈c
theorem j6 {c:List Int} (h:2≤c.length):c0 c∈c∧c1 c∈c:=by
 constructor
 ·rw[show c0 c=c[0] from fF aJ];exact cZ _
 ·rw[show c1 c=c[1] from fF aJ];exact cZ _
theorem swap_perm {c:List Int} {i k:Nat} (hi:i<c.length) (hk:k<c.length):((c.set i c[k]).set k c[i]).Perm c:=by
 by_cases e:i=k
 ·subst e;simp
 ·exact List.set_set_perm hi hk
theorem o4 {c:List Int} {i k:Nat} (hi:i<c.length) (hk:k<c.length):lC c ((c.set i c[k]).set k c[i]):=
 ⟨by simp,fun h=>(swap_perm hi hk).nodup_iff.2 h,fun x=>(swap_perm hi hk).mem_iff⟩
theorem fW.swap {n:Nat} {s:SR} (h:fW n s) {j:Nat} (hj:j<s.nc) {d:List Int} (hp:lC (s.cl j) d) (h0:c0 d=c1 (s.cl j)) (h1:c1 d=c0 (s.cl j)):fW n {s with cl:=fb s.cl j d} where
 hn:=h.hn
 iK:=h.iK
 val:=h.val
 lvl:=h.lvl
 oG:=h.oG
 hd:=h.hd
 n3:=h.n3
 pB:=h.pB
 mG:=h.mG
 cls:=fun k hk=>by
  show 2≤(fb s.cl j d k).length∧(fb s.cl j d k).Nodup∧∀x∈fb s.cl j d k,Lit n x
  by_cases e:k=j
  ·subst e
   rw[e8]
   obtain⟨q1,q2,q3⟩:=h.cls k hk
   exact⟨by rw[hp.len];exact q1,hp.nd q2,fun x hx=>q3 x ((hp.mem x).1 hx)⟩
  ·rw[fA _ _ e];exact h.cls k hk
 fresh:=fun k hk=>by
  have hk:s.nc≤k:=hk
  have:=h.fresh k hk
  exact⟨by show fb s.cl j d k=[];rw[fA _ _ aJ];exact this.1,this.2⟩
 nc:=h.nc
 nw:=h.nw
 wt:=fun x hx e he=>by
  obtain⟨k,hk,rfl,hw⟩:=h.wt x hx e he
  refine⟨k,hk,rfl,?_⟩
  show c0 (fb s.cl j d k)=x∨c1 (fb s.cl j d k)=x
  by_cases e:k=j
  ·subst e;rw[e8,h0,h1];exact hw.symm
  ·rw[fA _ _ e];exact hw
 qU:=h.qU
 qX:=fun k hk=>by
  show(k:Int)∈s.wl (eW (c0 (fb s.cl j d k))).toNat∧(k:Int)∈s.wl (eW (c1 (fb s.cl j d k))).toNat
  by_cases e:k=j
  ·subst e;rw[e8,h0,h1];exact(h.qX k hk).symm
  ·rw[fA _ _ e];exact h.qX k hk
 two:=fun k hk w w' hw=>by
  have hw:(w=c0 (fb s.cl j d k)∧w'=c1 (fb s.cl j d k))∨(w=c1 (fb s.cl j d k)∧w'=c0 (fb s.cl j d k)):=hw
  refine h.two k hk w w' ?_
  by_cases e:k=j
  ·subst e;rw[e8,h0,h1] at hw;exact hw.symm
  ·rw[fA _ _ e] at hw;exact hw
 qh:=fun i hi=>by
  rcases h.qh i hi with q|⟨k,q1,q2,q3,q4⟩
  ·exact .inl q
  ·refine .inr ⟨k,q1,q2,?_,?_⟩
   ·show(s.ll 0)[i]∈fb s.cl j d k
    by_cases e:k=j
    ·subst e;rw[e8];exact(hp.mem _).2 q3
    ·rw[fA _ _ e];exact q3
   ·show ∀y∈fb s.cl j d k,y≠(s.ll 0)[i]→ -y∈(s.ll 0).take i
    by_cases e:k=j
    ·subst e;rw[e8];exact fun y hy=>q4 y ((hp.mem y).1 hy)
    ·rw[fA _ _ e];exact q4
theorem fW.move {n:Nat} {s:SR} (h:fW n s) {j:Nat} (hj:j<s.nc) {d:List Int} {g y:Int} (hp:lC (s.cl j) d) (hg:c1 (s.cl j)=g) (hgf: -g∈s.ll 0) (h0:c0 d=c0 (s.cl j)) (h1:c1 d=y) (HR:y≠g) (Ql:y≠c0 (s.cl j)) (WT: -y∉s.ll 0) {E E':List Int} (hE:s.wl (eW g).toNat=E) (hE':∀e,e∈E'↔e∈E∧e≠(j:Int)) (jy:E'.Nodup) (hv:Nat→Value):
  fW n {s with cl:=fb s.cl j d,hw:=hv,wl:=fb (fb s.wl (eW y).toNat (s.wl (eW y).toNat++ [(j:Int)])) (eW g).toNat E'}:=by
 obtain⟨q1,q2,q3⟩:=h.cls j hj
 obtain⟨m0,m1⟩:=j6 q1
 have WU:y∈s.cl j:=by
  have:=(j6 (c:=d) (by rw[hp.len];exact q1)).2
  rw[h1] at this;exact(hp.mem y).1 this
 have xu:Lit n y:=q3 y WU
 have KW:Lit n g:=by rw[← hg];exact q3 _ m1
 have fZ:(eW y).toNat≠(eW g).toNat:=fun e=>HR (ie xu KW e)
 have h0l:Lit n (c0 (s.cl j)):=q3 _ m0
 have hg0:c0 (s.cl j)≠g:=fun e=>by
  rw[show c0 (s.cl j)=(s.cl j)[0] from fF aJ] at e
  rw[show c1 (s.cl j)=(s.cl j)[1] from fF aJ,← e] at hg
  have:=(du q2 (h₀:=by omega) (h₁:=by omega)).1 hg
  omega
 -- j is no watch of y yet
 have YP:(j:Int)∉s.wl (eW y).toNat:=fun hm=>by
  obtain⟨k,hk,e,hw⟩:=h.wt y xu _ hm
  have:k=j:=by omega
  subst this
  rcases hw with hw|hw
  ·exact Ql hw.symm
  ·exact HR (hw.symm.trans hg)
 have A5:∀x,Lit n x→∀e,e∈fb (fb s.wl (eW y).toNat (s.wl (eW y).toNat++ [(j:Int)])) (eW g).toNat E' (eW x).toNat↔if x=g then (e∈s.wl (eW g).toNat∧e≠(j:Int)) else if x=y then (e∈s.wl (eW y).toNat∨e=(j:Int)) else e∈s.wl (eW x).toNat:=by
  intro x hx e
  by_cases e1:x=g
  ·subst e1;rw[e8,if_pos rfl,hE' e,hE]
  ·rw[fA _ _ (fun q=>e1 (ie hx KW q)),if_neg e1]
   by_cases e2:x=y
   ·subst e2;rw[e8,if_pos rfl,bW,cp]
   ·rw[fA _ _ (fun q=>e2 (ie hx xu q)),if_neg e2]
 exact
  {hn:=h.hn,iK:=h.iK,val:=h.val,lvl:=h.lvl,oG:=h.oG,hd:=h.hd,n3:=h.n3,pB:=h.pB,mG:=h.mG
   cls:=fun k hk=>by
    show 2≤(fb s.cl j d k).length∧(fb s.cl j d k).Nodup∧∀x∈fb s.cl j d k,Lit n x
    by_cases e:k=j
    ·subst e
     rw[e8]
     exact⟨by rw[hp.len];exact q1,hp.nd q2,fun x hx=>q3 x ((hp.mem x).1 hx)⟩
    ·rw[fA _ _ e];exact h.cls k hk
   fresh:=fun k hk=>by
    have hk:s.nc≤k:=hk
    have:=h.fresh k hk
    exact⟨by show fb s.cl j d k=[];rw[fA _ _ aJ];exact this.1,this.2⟩
   nc:=h.nc,nw:=h.nw
   wt:=fun x hx e he=>by
    replace he:=(A5 x hx e).1 he
    show ∃k:Nat,k<s.nc∧e=(k:Int)∧(c0 (fb s.cl j d k)=x∨c1 (fb s.cl j d k)=x)
    by_cases e1:x=g
    ·rw[if_pos e1] at he
     subst e1
     obtain⟨k,hk,rfl,hw⟩:=h.wt x hx e he.1
     exact⟨k,hk,rfl,by rw[fA _ _ (by have:=he.2;omega)];exact hw⟩
    ·rw[if_neg e1] at he
     by_cases e2:x=y
     ·rw[if_pos e2] at he
      subst e2
      rcases he with he|rfl
      ·obtain⟨k,hk,rfl,hw⟩:=h.wt x hx e he
       have hkj:k≠j:=by rintro rfl;exact YP he
       exact⟨k,hk,rfl,by rw[fA _ _ hkj];exact hw⟩
      ·exact⟨j,hj,rfl,by rw[e8];exact .inr h1⟩
     ·rw[if_neg e2] at he
      obtain⟨k,hk,rfl,hw⟩:=h.wt x hx e he
      refine⟨k,hk,rfl,?_⟩
      by_cases e3:k=j
      ·subst e3
       rw[e8,h0,h1]
       rcases hw with hw|hw
       ·exact .inl hw
       ·exact absurd (hw.symm.trans hg) e1
      ·rw[fA _ _ e3];exact hw
   qU:=fun k=>by
    show(fb (fb s.wl (eW y).toNat (s.wl (eW y).toNat++ [(j:Int)])) (eW g).toNat E' k).Nodup
    by_cases e1:k=(eW g).toNat
    ·rw[e1,e8];exact jy
    ·rw[fA _ _ e1]
     by_cases e2:k=(eW y).toNat
     ·rw[e2,e8,cm]
      refine⟨h.qU _,by simp,fun a ha b hb=>?_⟩
      rw[cp.1 hb]
      rintro rfl
      exact YP ha
     ·rw[fA _ _ e2];exact h.qU k
   qX:=fun k hk=>by
    show(k:Int)∈fb (fb s.wl (eW y).toNat (s.wl (eW y).toNat++ [(j:Int)])) (eW g).toNat E' (eW (c0 (fb s.cl j d k))).toNat∧(k:Int)∈fb (fb s.wl (eW y).toNat (s.wl (eW y).toNat++ [(j:Int)])) (eW g).toNat E' (eW (c1 (fb s.cl j d k))).toNat
    have hk:k<s.nc:=hk
    by_cases e3:k=j
    ·subst e3
     rw[e8,h0,h1,A5 _ h0l,A5 _ xu,if_neg hg0,if_neg HR,if_neg (Ne.symm Ql),if_pos rfl]
     exact⟨(h.qX k hk).1,.inr rfl⟩
    ·rw[fA _ _ e3]
     obtain⟨p1,p2,p3⟩:=h.cls k hk
     obtain⟨n0,n1⟩:=j6 p1
     have gen:∀x,Lit n x→(k:Int)∈s.wl (eW x).toNat→(k:Int)∈fb (fb s.wl (eW y).toNat (s.wl (eW y).toNat++ [(j:Int)])) (eW g).toNat E' (eW x).toNat:=by
      intro x hx hm
      rw[A5 x hx]
      by_cases e1:x=g
      ·rw[if_pos e1];subst e1;exact⟨hm,by omega⟩
      ·rw[if_neg e1]
       by_cases e2:x=y
       ·rw[if_pos e2];subst e2;exact .inl hm
       ·rw[if_neg e2];exact hm
     exact⟨gen _ (p3 _ n0) (h.qX k hk).1,gen _ (p3 _ n1) (h.qX k hk).2⟩
   two:=fun k hk w w' hw jb=>by
    have hw:(w=c0 (fb s.cl j d k)∧w'=c1 (fb s.cl j d k))∨(w=c1 (fb s.cl j d k)∧w'=c0 (fb s.cl j d k)):=hw
    have jb: -w∈(s.ll 0).take s.head.toNat:=jb
    by_cases e:k=j
    ·subst e
     rw[e8,h0,h1] at hw
     rcases hw with ⟨rfl,rfl⟩|⟨rfl,rfl⟩
     ·have:=(h.two k hj _ _ (.inl ⟨rfl,rfl⟩) jb).1
      rw[hg] at this
      exact absurd hgf (h.iK.nS this)
     ·exact absurd (cS jb) WT
    ·rw[fA _ _ e] at hw;exact h.two k hk w w' hw jb
   qh:=fun i hi=>by
    rcases h.qh i hi with q|⟨k,q1,q2,q3,q4⟩
    ·exact .inl q
    ·refine .inr ⟨k,q1,q2,?_,?_⟩
     ·show(s.ll 0)[i]∈fb s.cl j d k
      by_cases e:k=j
      ·subst e;rw[e8];exact(hp.mem _).2 q3
      ·rw[fA _ _ e];exact q3
     ·show ∀y∈fb s.cl j d k,y≠(s.ll 0)[i]→ -y∈(s.ll 0).take i
      by_cases e:k=j
      ·subst e;rw[e8];exact fun y hy=>q4 y ((hp.mem y).1 hy)
      ·rw[fA _ _ e];exact q4}
end Go.Ab
