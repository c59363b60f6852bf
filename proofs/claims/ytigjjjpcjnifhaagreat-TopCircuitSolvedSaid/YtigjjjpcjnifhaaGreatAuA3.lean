/- Chapter 23: the checker's answers; the laws' limits. -/
import Derived.Test.YtigjjjpcjnifhaaGreatAuU6
import Derived.Test.YtigjjjpcjnifhaaGreatAbZ
import Derived.Test.YtigjjjpcjnifhaaGreatAbL3
import Derived.Test.YtigjjjpcjnifhaaGreatAuC2
import Derived.Test.YtigjjjpcjnifhaaGreatAbL2
import Derived.Test.YtigjjjpcjnifhaaGreatRows
import Derived.Test.YtigjjjpcjnifhaaGreatAbL4
set_option linter.unusedSimpArgs false
set_option linter.unusedVariables false
open Nat renaming le_refl→aP,zero_le→bm,reduceBEq→df,sub_self→dA
open Bool renaming true_and→cZ,and_eq_true→aZ
open List renaming mem_cons→bw,getD_eq_getElem?_getD→c6,getElem?_append_left→aT,take_append_of_le_length→cW,length_append→bW,length_singleton→c7,take_length→c8,getElem_mem→cY,of_mem_zip→c9,getElem_of_mem→da,mem_append→bX,mem_map→bx,mem_filter→db,map_cons→bB,nodup_cons→cX,nodup_append→cp,getElem?_eq_getElem→a8,all_eq_true→bD,any_eq_true→dc,getElem_map→dg,mem_singleton→cq,append_assoc→dh,set_set→di,drop_eq_getElem_cons→dj,foldl_cons→ct,take_succ_eq_append_getElem→dk,foldl_append→dm,map_append→cR,map_nil→b8,take_zero→dp,mem_of_mem_take→cQ,map_take→cS,getElem_inj→dr,ext_getElem→cN,getElem_set→du,getElem_range→dv,take_append_drop→dw,mem_map_of_mem→dx,getElem?_set→bH,length_set→cM,getElem_append_left→dy,getElem_append_right→dz,getElem_cons_zero→dB
open Int renaming zero_sub→de,toNat_natCast→dq,neg_neg→dt
open Option renaming getD_some→bn
namespace Go.Ab
open Go Go.Proofs
set_option maxRecDepth 20000
set_option maxHeartbeats 8000000
theorem GM (e:qO):∀(l:List gN) (s:o8),(jy e s l).2≤l.length
 |[],s=>by rw[yo];exact aP _
 |t::l,s=>by
  unfold jy
  cases iv e s t with
  |none=>exact bm _
  |some s'=>exact Nat.succ_le_succ (GM e l s')
structure NO (v:Int) (cl:List (List Int)) (syms:List (List Int)) (l:List gN):Prop where
 hv:0≤v∧v≤20000
 iX:∀c∈cl,e8 v c=true∧c.length≤1000
 len:cl.length≤1000
 Ld:syms.length≤1000∧∀c∈syms,c.length≤1000
 hl:wS l≤900000∧∀t∈l,t.lits.length≤900
 h20:l.length≤20000
theorem NO.ok {v:Int} {cl:List (List Int)} {syms:List (List Int)} {l:List gN} (h:NO v cl syms l):n8 1000 (jE v cl):=⟨h.hv,h.iX,h.len⟩
theorem NO.f {v:Int} {cl:List (List Int)} {syms:List (List Int)} {l:List gN} (h:NO v cl syms l):Um v cl:=h.ok.f (by omega)
attribute [local irreducible] AW a_ gr fz AR fH fv fM gk canon kf kG pA qs nK e8 jm ia jy iv
theorem xD (v:Int) (cl:List (List Int)) (syms:List (List Int)) (l:List gN) (h:NO v cl syms l):
  Fn Tryz.prog 15 [KA v cl,.pv (j3 syms),.pv (steps l)] (fq (decide ((jy ⟨v,cl,syms⟩ (jE v cl) l).2=l.length) && (jy ⟨v,cl,syms⟩ (jE v cl) l).1.ref)):=by
 have hr:=Rx v cl syms l h.ok h.Ld h.hl
 have hle:=GM ⟨v,cl,syms⟩ l (jE v cl)
 have hl:=h.h20
 generalize jy ⟨v,cl,syms⟩ (jE v cl) l=R at hr hle ⊢
 obtain⟨⟨sv,scl,rf⟩,n⟩:=R
 simp only at hr hle ⊢
 by_cases he:n=l.length
 ·have Yr:(n:Int)=l.length:=by omega
  rw[decide_eq_true he,cZ]
  refine Fn.enter (n:=29) Tryz.func15 rfl rfl rfl rfl rfl (by decide) fun g fp fl=>?_;(try refine nz ?_)
  (refine U8 ?_;refine zm ?_;refine zt ?_;refine a_.vz rfl rfl rfl ?_;refine zt ?_;refine a_.sU rfl rfl rfl ?_;refine zt ?_;refine a_.kQ 73 4 5 1 rfl rfl rfl rfl ?_;refine nz ?_;refine zt ?_;refine zr ?_;refine zT ?_;refine ku ?_)
  (apply eY;(exact gm.one (.tmp rfl rfl));(refine Le.fq ?_;(rfl)))
 ·have Yr:¬(n:Int)=l.length:=by omega
  rw[decide_eq_false he,Bool.false_and]
  refine Fn.enter (n:=29) Tryz.func15 rfl rfl rfl rfl rfl (by decide) fun g fp fl=>?_;(try refine nz ?_)
  (refine U8 ?_;refine zm ?_;(iterate 4 refine a_.mG rfl rfl rfl rfl rfl rfl (by with_reducible assumption) ?_);refine zF ?_;refine ku ?_)
  (apply eY;(exact gm.one (.tmp rfl rfl));(refine Le.fq ?_;(rfl)))
end Go.Ab
/- Chapter 20:what a reason says;the levels' plain part. -/
namespace Go.Ab
open Go Go.Proofs
set_option maxRecDepth 20000
set_option maxHeartbeats 4000000
theorem qa (tr:List Int):∀(c out r:List Int),fW tr c out=some r→(∀y∈out,y∈r)∧∀y∈c,y∉tr∧((-y)∈tr∨y∈r):=by
 intro c
 induction c with
 |nil=>intro out r h;simp only[fW,Option.some.injEq] at h;subst h;exact⟨fun y hy=>hy,by simp⟩
 |cons x c ih=>
  intro out r h
  unfold fW at h
  split at h
  ·cases h
  ·rename_i hx
   obtain⟨h1,h2⟩:=ih _ _ h
   refine⟨fun y hy=>?_,fun y hy=>?_⟩
   ·refine h1 y ?_
    split
    ·simp [hy]
    ·exact hy
   ·rcases bw.1 hy with rfl|hy
    ·refine⟨hx,?_⟩
     by_cases hn:(-y)∈tr
     ·exact .inl hn
     ·refine .inr (h1 y ?_)
      by_cases ho:y∈out
      ·rw[if_neg (by simp [ho])];exact ho
      ·rw[if_pos ⟨hn,ho⟩];simp
    ·exact h2 y hy
theorem Ba {c tr:List Int} (h0:∀x∈c,x≠0) {x:Int} (h:(iq c tr).1=2) (hx:(iq c tr).2=x):fW tr c []=some [x]:=by
 rw[nE c tr h0] at h hx
 cases ho:fW tr c [] with
 |none=>rw[ho] at h;simp [r9] at h
 |some r=>
  rw[ho] at h hx
  match r,h,hx with
  |[],h,_=>simp [r9] at h
  |[y],_,hx=>simp [r9] at hx;rw[hx]
  |_::_::_,h,_=>simp [r9] at h
def TA (cl:List (List Int)) (t:Tr):Prop:=∀k,k<t.1.length→0≤t.2.1.getD k 0→
 t.1.getD k 0∈cl.getD (t.2.1.getD k 0).toNat []∧∀y∈cl.getD (t.2.1.getD k 0).toNat [],y≠t.1.getD k 0→(-y)∈t.1.take k
theorem yK {α:Type} {l m:List α} {k:Nat} {d:α} (h:k<l.length):(l++m).getD k d=l.getD k d:=by
 simp [c6,aT h]
theorem Dz {α:Type} {l:List α} {x d:α}:(l++ [x]).getD l.length d=x:=by
 simp [c6]
theorem CT {α:Type} {l m:List α} {k:Nat} (h:k≤l.length):(l++m).take k=l.take k:=by
 rw[cW h]
theorem TA.push {cl:List (List Int)} {t:Tr} (h:TA cl t) (he:sf t) {x r:Int}
  (hn:0≤r→x∈cl.getD r.toNat []∧∀y∈cl.getD r.toNat [],y≠x→(-y)∈t.1):TA cl (t.1++ [x],t.2.1++ [r],t.2.2):=by
 intro k hk hr
 have Yr:t.2.1.length=t.1.length:=he
 simp only[bW,c7] at hk
 simp only at hr ⊢
 by_cases qh:k<t.1.length
 ·rw[yK aJ] at hr
  rw[yK qh,yK aJ,CT aJ]
  exact h k qh hr
 ·have hk3:k=t.1.length:=by omega
  subst hk3
  have e1:(t.2.1++ [r]).getD t.1.length 0=r:=by rw[← Yr];exact Dz
  rw[e1] at hr ⊢
  rw[Dz,CT (aP _),c8]
  exact hn hr
theorem TA.add {cl:List (List Int)} {t:Tr} (h:TA cl t) (he:sf t) (x:Int):TA cl (nA t x):=by
 unfold nA
 split
 ·exact h
 ·exact h.push he (fun h=>by omega)
end Go.Ab
/- Chapter 20:how the run ends,in plain terms. -/
namespace Go.Ab
open Go Go.Proofs
set_option maxRecDepth 20000
set_option maxHeartbeats 4000000
theorem vB (tr:List Int):∀(c:List Int) (left:Int),(iM tr c left).1=0∨(iM tr c left).1=1∨(iM tr c left).1=2:=by
 intro c
 induction c with
 |nil=>intro left;unfold iM;split<;>simp
 |cons x c ih=>intro left;unfold iM;split;exact .inl rfl;exact ih _
theorem zI (c tr:List Int):(iq c tr).1=0∨(iq c tr).1=1∨(iq c tr).1=2:=vB tr c 0
theorem s7 (t:Tr):∀(cl:List (List Int)) (i:Nat),
  (∃j,∃h:j<cl.length,(iq cl[j] t.1).1=1∧lj t i cl=((t.1,t.2.1,((i+j:Nat):Int)),false))∨
  (∃j,∃h:j<cl.length,(iq cl[j] t.1).1=2∧lj t i cl=((t.1++ [(iq cl[j] t.1).2],t.2.1++ [((i+j:Nat):Int)],t.2.2),true))∨
  ((∀c∈cl,(iq c t.1).1=0)∧lj t i cl=(t,false)):=by
 intro cl
 induction cl with
 |nil=>intro i;exact .inr (.inr ⟨by simp,rfl⟩)
 |cons c cl ih=>
  intro i
  unfold lj
  rcases zI c t.1 with h|h|h
  ·rw[if_neg aJ,if_neg aJ]
   rcases ih (i+1) with ⟨j,hj,h1,h2⟩|⟨j,hj,h1,h2⟩|⟨h1,h2⟩
   ·refine .inl ⟨j+1,by simp;omega,by simpa using h1,?_⟩
    rw[show((i:Int)+1)=((i+1:Nat):Int) from by simp,h2,show i+1+j=i+(j+1) from by omega]
   ·refine .inr (.inl ⟨j+1,by simp;omega,by simpa using h1,?_⟩)
    rw[show((i:Int)+1)=((i+1:Nat):Int) from by simp,h2,show i+1+j=i+(j+1) from by omega]
    simp
   ·refine .inr (.inr ⟨?_,?_⟩)
    ·intro d hd
     rcases bw.1 hd with rfl|hd
     ·exact h
     ·exact h1 d hd
    ·rw[show((i:Int)+1)=((i+1:Nat):Int) from by simp,h2]
  ·rw[if_pos h]
   exact .inl ⟨0,by simp,by simpa using h,by simp⟩
  ·rw[if_neg aJ,if_pos h]
   exact .inr (.inl ⟨0,by simp,by simpa using h,by simp⟩)
theorem Hm {vars:Int} {cl:List (List Int)} {assume:List Int} (hv:0≤vars) (iX:∀c∈cl,e8 vars c=true) (hw:e8 vars assume=true) (hc:gH assume=false)
  (I:Tr→Prop) (h0:I (iO assume))
  (hs:∀(t:Tr) (j:Nat) (h:j<cl.length) (x:Int),I t→ri vars t.1→sf t→fW t.1 cl[j] []=some [x]→x∈cl[j]→x∉t.1→(-x)∉t.1→I (t.1++ [x],t.2.1++ [(j:Int)],-1)):
  ∃t,I t∧ri vars t.1∧sf t∧t.2.2= -1∧l8 cl t=(runM vars cl assume,false):=by
 have key:∀(m n:Nat) (t:Tr),(vars+1 - (n:Int)).toNat≤m→zZ vars cl assume t n→I t→∃t,I t∧ri vars t.1∧sf t∧t.2.2= -1∧l8 cl t=(runM vars cl assume,false):=by
  intro m
  induction m with
  |zero=>intro n t h1 h2 _;have:=h2.fuel hv;omega
  |succ m ih=>
   intro n t h1 h2 h3
   rcases s7 t cl 0 with ⟨j,hj,h4,h5⟩|⟨j,hj,h4,h5⟩|⟨h4,h5⟩
   ·exact⟨t,h3,h2.dist,h2.even,h2.Fu,by rw[h2.stop hv h5];exact h5⟩
   ·have Qg:=fP (iX _ (cY hj))
    have uZ:=Ba (fun x hx=>(Qg x hx).1) h4 rfl
    have hm:=p6 t.1 cl[j] [] _ uZ (by simp) (iq cl[j] t.1).2 (by simp)
    have iT:(iq cl[j] t.1).2∈cl[j]:=by simpa using hm.1
    have h6:=h2.go hv h5 (Qg _ iT) hm.2.1 hm.2.2
    refine ih (n+1) _ ?_ h6 ?_
    ·have:=h2.fuel hv;omega
    ·simpa using hs t j hj _ h3 h2.dist h2.even uZ iT hm.2.1 hm.2.2
   ·exact⟨t,h3,h2.dist,h2.even,h2.Fu,by rw[h2.stop hv h5];exact h5⟩
 exact key _ 0 _ (aP _) (xL hv hw hc) h0
def MA (assume:List Int) (t:Tr):Prop:=(∀x∈assume,x∈t.1)∧∀p∈pr t,p.2<0→p.1∈assume
theorem SV {t:Tr} (h:sf t) (x r:Int) (k:Int):pr (t.1++ [x],t.2.1++ [r],k)=pr t++ [(x,r)]:=by
 unfold pr
 show(t.1++ [x]).zip (t.2.1++ [r])=_
 rw[List.zip_append h.symm]
 rfl
theorem MD (assume:List Int):MA assume (iO assume):=by
 refine⟨fun x hx=>(pO assume x).2 hx,fun p hp _=>?_⟩
 obtain⟨a,b⟩:=p
 exact(pO assume a).1 (c9 hp).1
theorem QH {t:Tr} (h:sf t) {x:Int} (hx:x∈t.1):∃r,(x,r)∈pr t:=by
 obtain⟨k,hk,rfl⟩:=da hx
 have qh:k<t.2.1.length:=by rw[h];exact hk
 refine⟨t.2.1[k],?_⟩
 have:(pr t)[k]'(by simp [pr];omega)=(t.1[k],t.2.1[k]):=by simp [pr]
 rw[← this]
 exact cY _
theorem QX {assume:List Int} {t:Tr} (h:MA assume t) (he:sf t) (x:Int):x∈t.1↔x∈assume++(impl (pr t)).map (·.1):=by
 rw[bX,bx]
 constructor
 ·intro hx
  obtain⟨r,hr⟩:=QH he hx
  by_cases h0:r<0
  ·exact .inl (h.2 _ hr h0)
  ·exact .inr ⟨(x,r),by unfold impl;rw[db];exact⟨hr,by simp;omega⟩,rfl⟩
 ·rintro(hx|⟨⟨a,b⟩,hp,rfl⟩)
  ·exact h.1 x hx
  ·unfold impl at hp
   rw[db] at hp
   exact(c9 hp.1).1
structure Fin (vars:Int) (cl:List (List Int)) (assume:List Int) (t:Tr):Prop where
 dist:ri vars t.1
 even:sf t
 mem:∀x,x∈t.1↔x∈assume++(impl (pr t)).map (·.1)
 fin:(t.2.2= -1∧∀c∈cl,(iq c t.1).1=0)∨∃j,∃h:j<cl.length,t.2.2=(j:Int)∧(iq cl[j] t.1).1=1
theorem BB {vars:Int} {cl:List (List Int)} {assume:List Int} (hv:0≤vars) (iX:∀c∈cl,e8 vars c=true) (hw:e8 vars assume=true) (hc:gH assume=false):Fin vars cl assume (runM vars cl assume):=by
 obtain⟨t,h1,h2,h3,h4,h5⟩:=Hm hv iX hw hc (MA assume) (MD assume) (by
  intro t j hj x h1 h2 h3 _ _ _ _
  refine⟨fun y hy=>bX.2 (.inl (h1.1 y hy)),fun p hp h0=>?_⟩
  rw[SV h3] at hp
  rcases bX.1 hp with hp|hp
  ·exact h1.2 p hp h0
  ·simp at hp;subst hp;simp at h0;omega)
 have hm:=QX h1 h3
 rcases s7 t cl 0 with ⟨j,hj,h6,h7⟩|⟨j,hj,h6,h7⟩|⟨h6,h7⟩
 ·have e:runM vars cl assume=(t.1,t.2.1,(j:Int)):=by
   have h8:l8 cl t=((t.1,t.2.1,((0+j:Nat):Int)),false):=h7
   rw[h5] at h8
   simpa using h8
  rw[e]
  exact⟨h2,h3,hm,.inr ⟨j,hj,rfl,h6⟩⟩
 ·have h8:l8 cl t=(_,true):=h7
  rw[h5] at h8
  simp at h8
 ·have e:runM vars cl assume=t:=by
   have h8:l8 cl t=(t,false):=h7
   rw[h5] at h8
   simpa using h8
  rw[e]
  exact⟨h2,h3,hm,.inl ⟨h4,h6⟩⟩
theorem I3 {l:List Int} (h:(l.map Int.natAbs).Nodup) {x y:Int} (hx:x∈l) (hy:y∈l) (e:x.natAbs=y.natAbs):x=y:=by
 induction l with
 |nil=>cases hx
 |cons z l ih=>
  rw[bB,cX] at h
  rcases bw.1 hx with rfl|Ct<;>rcases bw.1 hy with rfl|hy'
  ·rfl
  ·exact absurd (e▸bx.2 ⟨y,hy',rfl⟩) h.1
  ·exact absurd (e▸bx.2 ⟨x,Ct,rfl⟩) h.1
  ·exact ih h.2 Ct hy'
theorem ri.no {vars:Int} {l:List Int} (h:ri vars l) {x:Int} (hx:x∈l):(0 - x)∉l:=by
 intro hy
 have:=I3 h.1 hx hy (by omega)
 have:=(h.2 x hx).1
 omega
end Go.Ab
/- Chapter 20:propagation grows with the formula and the assumptions,in plain terms. -/
namespace Go.Ab
open Go Go.Proofs
set_option maxRecDepth 20000
set_option maxHeartbeats 4000000
theorem zV (tr:List Int):∀(c out:List Int),fW tr c out=none→∃y∈c,y∈tr:=by
 intro c
 induction c with
 |nil=>intro out h;simp [fW] at h
 |cons x c ih=>
  intro out h
  unfold fW at h
  split at h
  ·rename_i hx;exact⟨x,by simp,hx⟩
  ·split at h
   ·obtain⟨y,h1,h2⟩:=ih _ h;exact⟨y,by simp [h1],h2⟩
   ·obtain⟨y,h1,h2⟩:=ih _ h;exact⟨y,by simp [h1],h2⟩
theorem xE (tr:List Int):∀(c out r:List Int),fW tr c out=some r→out.Nodup→r.Nodup:=by
 intro c
 induction c with
 |nil=>intro out r h ho;simp only[fW,Option.some.injEq] at h;exact h▸ho
 |cons x c ih=>
  intro out r h ho
  unfold fW at h
  split at h
  ·cases h
  ·split at h
   ·rename_i h2
    refine ih _ _ h ?_
    rw[cp]
    exact⟨ho,by simp,fun a ha b hb=>by simp at hb;subst hb;rintro rfl;exact h2.2 ha⟩
   ·exact ih _ _ h ho
theorem v8 {vars:Int} {d T:List Int} (hT:ri vars T) (h0:∀x∈d,x≠0) (h:(iq d T).1=0) {x:Int} (hx:∀y∈d,y≠x→(-y)∈T):x∈T:=by
 rw[nE d T h0] at h
 cases ho:fW T d [] with
 |none=>
  obtain⟨y,h1,h2⟩:=zV T d [] ho
  by_cases e:y=x
  ·exact e▸h2
  ·have:=hx y h1 e
   exact absurd (by simpa using this) (hT.no h2)
 |some r=>
  have hm:=p6 T d [] r ho (by simp)
  have hn:=xE T d [] r ho (by simp)
  have hr:∀y∈r,y=x:=by
   intro y hy
   have:=hm y hy
   by_cases e:y=x
   ·exact e
   ·exact absurd (hx y (by simpa using this.1) e) this.2.2
  rw[ho] at h
  rcases r with _|⟨a,_|⟨b,r⟩⟩
  ·simp [r9] at h
  ·simp [r9] at h
  ·have e1:=hr a (by simp)
   have e2:=hr b (by simp)
   rw[cX] at hn
   exact absurd (by rw[e1,e2];simp) hn.1
theorem Em {vars:Int} {cl:List (List Int)} {assume:List Int} (hv:0≤vars) (iX:∀c∈cl,e8 vars c=true) (hw:e8 vars assume=true) (hc:gH assume=false)
  (I:List Int→Prop) (h0:I (iO assume).1)
  (hs:∀(t:List Int) (c:List Int) (x:Int),c∈cl→I t→ri vars t→fW t c []=some [x]→x∈c→x∉t→(-x)∉t→I (t++ [x])):I (runM vars cl assume).1:=by
 obtain⟨t,h1,h2,h3,h4,h5⟩:=Hm hv iX hw hc (fun t=>I t.1) h0 (by
  intro t j hj x h1 h2 h3 h4 h5 h6 h7
  exact hs t.1 _ x (cY hj) h1 h2 h4 h5 h6 h7)
 rcases s7 t cl 0 with ⟨j,hj,h6,h7⟩|⟨j,hj,h6,h7⟩|⟨h6,h7⟩
 ·have h8:l8 cl t=((t.1,t.2.1,((0+j:Nat):Int)),false):=h7
  rw[h5] at h8
  rw[(Prod.mk.inj h8).1]
  exact h1
 ·have h8:l8 cl t=(_,true):=h7
  rw[h5] at h8
  simp at h8
 ·have h8:l8 cl t=(t,false):=h7
  rw[h5] at h8
  rw[(Prod.mk.inj h8).1]
  exact h1
theorem yr {c tr:List Int} (h0:∀x∈c,x≠0) (h:(iq c tr).1=1):∀y∈c,(-y)∈tr:=by
 rw[nE c tr h0] at h
 cases ho:fW tr c [] with
 |none=>rw[ho] at h;simp [r9] at h
 |some r=>
  rw[ho] at h
  rcases r with _|⟨a,_|⟨b,r⟩⟩
  ·intro y hy
   have:=(qa tr c [] [] ho).2 y hy
   simpa using this.2
  ·simp [r9] at h
  ·simp [r9] at h
end Go.Ab
/- Chapter 20:assignments and what they satisfy. -/
namespace Go.Ab
open Go Go.Proofs
set_option maxRecDepth 20000
set_option maxHeartbeats 4000000
attribute [local irreducible] AW a_ gr fz fH fv fM
def jZ (v:List Bool) (x:Int):Bool:=if 0<x then v.getD (x - 1).toNat false else if x<0 then !(v.getD (0 - x - 1).toNat false) else false
def kU (v:List Bool) (c:List Int):Bool:=c.any (jZ v)
theorem Ec {v:List Bool} {x:Int} (h:0<x) (h2:(x - 1).toNat<v.length):jZ v x=v[(x - 1).toNat]:=by
 unfold jZ;rw[if_pos h,c6,a8 h2];rfl
theorem LJ {v:List Bool} {x:Int} (h:x<0) (h2:(0 - x - 1).toNat<v.length):jZ v x=!(v[(0 - x - 1).toNat]):=by
 unfold jZ;rw[if_neg aJ,if_pos h,c6,a8 h2];rfl
def allM (v:List Bool) (cl:List (List Int)):Bool:=cl.all (kU v)
def oO (v:List Bool) (l:List Int):Bool:=l.all (jZ v)
end Go.Ab
/- Chapter 20:propagation is sound,in plain terms. -/
namespace Go.Ab
open Go Go.Proofs
set_option maxRecDepth 20000
set_option maxHeartbeats 4000000
theorem od (v:List Bool) {x:Int} (h:x≠0):jZ v (-x)=!(jZ v x):=by
 unfold jZ
 by_cases h0:0<x
 ·rw[if_neg aJ,if_pos aJ,if_pos h0,show 0 - -x - 1=x - 1 from by omega]
 ·rw[if_pos aJ,if_neg h0,if_pos aJ,show -x - 1=0 - x - 1 from by omega,Bool.not_not]
theorem BZ {v:List Bool} {cl:List (List Int)} (h:allM v cl=true) {c:List Int} (hc:c∈cl):∃y∈c,jZ v y=true:=by
 unfold allM at h
 have:=bD.1 h c hc
 unfold kU at this
 exact dc.1 this
theorem As {vars:Int} {cl:List (List Int)} {assume:List Int} {v:List Bool} (hv:0≤vars) (iX:∀c∈cl,e8 vars c=true) (hw:e8 vars assume=true) (hc:gH assume=false)
  (h:allM v cl=true) (he:oO v assume=true):(runM vars cl assume).2.2= -1∧∀x∈(runM vars cl assume).1,jZ v x=true:=by
 have hz:∀c∈cl,∀x∈c,x≠0:=fun c hc x hx=>(fP (iX c hc) x hx).1
 have h1:∀x∈(runM vars cl assume).1,jZ v x=true:=by
  refine Em hv iX hw hc (fun t=>∀x∈t,jZ v x=true) (fun x hx=>?_) ?_
  ·exact bD.1 he x ((pO assume x).1 hx)
  ·intro t c x EF hI _ uZ X4 _ _
   intro y hy
   rcases bX.1 hy with hy|hy
   ·exact hI y hy
   ·simp at hy
    subst hy
    obtain⟨z,Bu,JG⟩:=BZ h EF
    rcases((qa t c [] [y] uZ).2 z Bu).2 with h3|h3
    ·have:=hI _ h3
     rw[od v (hz c EF z Bu),JG] at this
     simp at this
    ·simp at h3;exact h3▸JG
 refine⟨?_,h1⟩
 have yt:=BB hv iX hw hc
 rcases yt.fin with ⟨h2,_⟩|⟨j,hj,_,h2⟩
 ·exact h2
 ·obtain⟨z,Bu,JG⟩:=BZ h (cY hj)
  have h3:=h1 _ (yr (hz _ (cY hj)) h2 z Bu)
  rw[od v (hz _ (cY hj) z Bu),JG] at h3
  simp at h3
theorem vX {v:List Bool} {l:List Int} (h0:∀x∈l,x≠0) (h:gH l=true):oO v l=false:=by
 unfold gH at h
 rw[dc] at h
 obtain⟨x,hx,ve⟩:=h
 have hx3:(0 - x)∈l:=by simpa using ve
 cases he:oO v l with
 |false=>rfl
 |true=>
  have h1:=bD.1 he x hx
  have h2:=bD.1 he _ hx3
  rw[de,od v (h0 x hx),h1] at h2
  simp at h2
theorem IY {vars:Int} {cl:List (List Int)} {assume c:List Int} {v:List Bool} (hv:0≤vars) (iX:∀c∈cl,e8 vars c=true) (hw:e8 vars assume=true) (hwc:e8 vars c=true) (h:allM v cl=true):
  (ia vars cl c=true→kU v c=true)∧(oO v assume=true→(xH vars cl assume).2= -1∧oO v (xH vars cl assume).1=true):=by
 constructor
 ·intro hi
  cases ht:kU v c with
  |true=>rfl
  |false=>
   have EF:∀x∈c,x≠0:=fun x hx=>(fP hwc x hx).1
   have QZ:e8 vars (c.map fun x=>0 - x)=true:=by
    unfold e8
    rw[bD]
    intro y hy
    obtain⟨x,hx,rfl⟩:=bx.1 hy
    have:=fP hwc x hx
    simp;omega
   have he:oO v (c.map fun x=>0 - x)=true:=by
    unfold oO
    rw[bD]
    intro y hy
    obtain⟨x,hx,rfl⟩:=bx.1 hy
    unfold kU at ht
    have:=List.any_eq_false.1 ht x hx
    rw[de,od v (EF x hx)]
    simpa using this
   cases tF:gH (c.map fun x=>0 - x) with
   |true=>
    have:=vX (v:=v) (fun y hy=>(fP QZ y hy).1) tF
    rw[he] at this;cases this
   |false=>
    have:=(As hv iX QZ tF h he).1
    rw[ia,if_neg (by rw[tF];simp),this] at hi
    simp at hi
 ·intro he
  cases tF:gH assume with
  |true=>
   have:=vX (v:=v) (fun y hy=>(fP hw y hy).1) tF
   rw[he] at this;cases this
  |false=>
   have h1:=As hv iX hw tF h he
   have yt:=BB hv iX hw tF
   rw[xH,if_neg (by rw[tF];simp)]
   refine⟨h1.1,?_⟩
   unfold oO
   rw[bD]
   exact fun x hx=>h1.2 x ((yt.mem x).2 (bX.2 (.inr hx)))
end Go.Ab
/- The laws through the layers:small formulas. -/
namespace Go.Ab
open Go Go.Proofs
open Nat (reduceAdd reduceSub)
set_option maxRecDepth 20000
set_option maxHeartbeats 8000000
attribute [local irreducible] AW a_ gr fz AR fH fv fM gk canon kf kG pA qs nK jm ia jy iv
theorem Dn (vars:Int) (l:List Int) (hv: -1000000≤vars∧vars≤1000000):Fn Tryz.prog 7 [eU vars,.pv (ints l)] (fq (e8 vars l)):=by
 refine Fn.enter (n:=34) Tryz.func7 rfl rfl rfl rfl rfl (by decide) fun g fp fl=>?_;(try refine nz ?_)
 refine AW.jK 1 rfl fun hlen=>?_
 (refine zq ?_;refine kc ?_;refine iK ?_;refine wX ?_)
 (refine nz ?_;apply AW.gJ [0,1] [] (fun k:Nat=>([(5,eU k)]:List (Nat×AV))) (fun k:Nat=>([]:List (Nat×Option Ob))) (fun k:Nat=>k≤l.length∧e8 vars (l.take k)=true) (fun k:Nat=>l.length - k) (0);(conv=>lhs;simp only[Nf.ot,Nf.all,df,reduceAdd,reduceSub]);(all_goals skip))
 ·exact⟨bm _,rfl⟩
 ·exact fe rfl (by(refine aC ?_;(iterate 2 refine aC ?_);exact trivial)) (by(exact trivial)) rfl
 rintro k ⟨hk,jI⟩
 by_cases fy:k<l.length
 ·have hs:=vY (vars:=vars) fy
  rw[jI,cZ] at hs
  by_cases hb:l[k]≠0∧l[k]≤vars∧0 - vars≤l[k]
  ·obtain⟨b1,b2,b3⟩:=hb
   rw[decide_eq_true ⟨b1,b2,b3⟩] at hs
   have b4:¬l[k]<0 - vars:=by omega
   have b5:¬vars<l[k]:=by omega
   (refine Pc ?_;refine aA ?_;refine Kf ?_;refine xB ?_;refine qn ?_;refine aA ?_;refine uq ?_;refine zy ?_;refine zm ?_;refine vi ?_;refine xB ?_;refine qn ?_;refine aA ?_;refine uq ?_;refine zy ?_;refine qn ?_;refine a_.sub rfl rfl rfl rfl rfl aJ ?_;refine zy ?_;refine zs ?_;refine zF ?_;refine EM ?_;refine uH ?_;refine xx ?_)
   exact⟨k+1,⟨by omega,hs⟩,by omega,fe rfl (by(refine aC ?_;(iterate 2 refine aC ?_);exact trivial)) (by(exact trivial)) rfl⟩
  ·have hf:=yb fy hb
   rw[hf]
   by_cases b1:l[k]=0
   ·(refine Pc ?_;refine aA ?_;refine Kf ?_;refine zm ?_;(iterate 6 refine a_.kp rfl rfl rfl rfl rfl rfl (by with_reducible assumption) ?_);refine zT ?_;refine zm ?_;(iterate 7 refine a_.gE rfl rfl rfl rfl rfl rfl rfl ?_);refine A9 ?_;refine iK ?_;refine qR ?_)
    all_goals (apply eY;(exact gm.one (.tmp rfl rfl));(refine Le.fq ?_;(first|rfl)))
   ·by_cases b2:vars<l[k]
    ·(refine Pc ?_;refine aA ?_;refine Kf ?_;refine xB ?_;refine qn ?_;refine aA ?_;refine uq ?_;refine zy ?_;refine zm ?_;refine vi ?_;refine Ry ?_;refine zT ?_;refine oz ?_;refine qR ?_)
     all_goals (apply eY;(exact gm.one (.tmp rfl rfl));(refine Le.fq ?_;(first|rfl)))
    ·have b3:l[k]<0 - vars:=by omega
     (refine Pc ?_;refine aA ?_;refine Kf ?_;refine xB ?_;refine qn ?_;refine aA ?_;refine uq ?_;refine zy ?_;refine zm ?_;refine vi ?_;refine xB ?_;refine qn ?_;refine aA ?_;refine uq ?_;refine zy ?_;refine qn ?_;refine a_.sub rfl rfl rfl rfl rfl aJ ?_;refine zy ?_;refine zs ?_;refine zF ?_;refine jD ?_;refine iK ?_;refine qR ?_)
     all_goals (apply eY;(exact gm.one (.tmp rfl rfl));(refine Le.fq ?_;(first|rfl)))
 ·rw[gP (l:=l) aJ] at jI
  rw[jI]
  (refine FH ?_;refine tW ?_;refine iK ?_;refine ku ?_)
  (apply eY;(exact gm.one (.tmp rfl rfl));(refine Le.fq ?_;(rfl)))
theorem E_ (vars:Int) (cl:List (List Int)):Fn Tryz.prog 22 [KA vars cl] (fq (oU vars cl)):=by
 by_cases h0:0≤vars∧vars≤20000∧(cl.length:Int)≤60000
 ·obtain⟨h1,h2,h3⟩:=h0
  have g1:¬vars<0:=by omega
  have g2:¬20000<vars:=by omega
  have g3:¬60000<(cl.length:Int):=by omega
  have e:oU vars cl=cl.all (e8 vars):=by unfold oU;rw[decide_eq_true ⟨h1,h2,h3⟩,cZ]
  rw[e]
  refine Fn.enter (n:=36) Tryz.func22 rfl rfl rfl rfl rfl (by decide) fun g fp fl=>?_;(try refine nz ?_)
  (refine Sj ?_;refine zy ?_;refine a_.c_ 24 1 1 rfl rfl rfl rfl ?_;refine zS ?_;refine zn ?_;refine vi ?_;refine qx ?_;refine iK ?_;refine wX ?_)
  (refine nz ?_;apply AW.gJ [1] [0] (fun k:Nat=>([(3,eU k)]:List (Nat×AV))) (fun k:Nat=>([]:List (Nat×Option Ob))) (fun k:Nat=>k≤cl.length∧(cl.take k).all (e8 vars)=true) (fun k:Nat=>cl.length - k) (0);(conv=>lhs;simp only[Nf.ot,Nf.all,df,reduceAdd,reduceSub]);(all_goals skip))
  ·exact⟨bm _,rfl⟩
  ·exact fe rfl (by(refine aC ?_;refine aC ?_;exact trivial)) (by(refine⟨.box _ rfl ?_,?_⟩;(iterate 2 refine aC ?_);(iterate 2 exact trivial))) rfl
  rintro k ⟨hk,EE⟩
  by_cases fy:k<cl.length
  ·have has:=CO (p:=e8 vars) fy
   rw[EE,cZ] at has
   have hw:=Dn vars cl[k] (by omega)
   cases hc:e8 vars cl[k] with
   |true=>
    rw[hc] at has hw
    (refine sd ?_;refine KG ?_;refine Q6 ?_;refine zo ?_;(with_reducible apply AW.gb);exact rfl;exact rfl;kernel_rfl;(with_reducible assumption);refine vA ?_;refine vm ?_;refine zm ?_;refine aA ?_;refine zr ?_;refine zA (hw) ?_;refine rz ?_;refine zm ?_;refine a_.not rfl rfl rfl ?_;refine Ci ?_;refine uH ?_;refine xx ?_)
    exact⟨k+1,⟨by omega,has⟩,by omega,fe rfl (by(refine aC ?_;refine aC ?_;exact trivial)) (by(refine⟨.box _ rfl ?_,?_⟩;(iterate 2 refine aC ?_);(iterate 2 exact trivial))) rfl⟩
   |false=>
    rw[hc] at hw
    rw[KY (p:=e8 vars) fy hc]
    (refine sd ?_;refine KG ?_;refine Q6 ?_;refine zo ?_;(with_reducible apply AW.gb);exact rfl;exact rfl;kernel_rfl;(with_reducible assumption);refine vA ?_;refine vm ?_;refine zm ?_;refine aA ?_;refine zr ?_;refine zA (hw) ?_;refine rz ?_;refine zm ?_;refine a_.not rfl rfl rfl ?_;refine oz ?_;refine qR ?_)
    (apply eY;(exact gm.one (.tmp rfl rfl));(refine Le.fq ?_;(rfl)))
  ·rw[gP (l:=cl) aJ] at EE
   rw[EE]
   (refine sd ?_;refine KG ?_;refine tW ?_;refine iK ?_;refine ku ?_)
   (apply eY;(exact gm.one (.tmp rfl rfl));(refine Le.fq ?_;(rfl)))
 ·have e:=F4 (vars:=vars) (cl:=cl) h0
  rw[e]
  by_cases h1:vars<0
  ·refine Fn.enter (n:=36) Tryz.func22 rfl rfl rfl rfl rfl (by decide) fun g fp fl=>?_;(try refine nz ?_)
   refine AW.uB 0 1 rfl rfl fun hlen=>?_
   (refine ny ?_;refine kc ?_;refine iK ?_;refine vA ?_;refine zs ?_;refine zm ?_;refine O8 ?_;refine Na ?_;refine A9 ?_;refine iK ?_;refine qP ?_)
   (apply eY;(exact gm.one (.tmp rfl rfl));(refine Le.fq ?_;(rfl)))
  ·by_cases h2:20000<vars
   ·refine Fn.enter (n:=36) Tryz.func22 rfl rfl rfl rfl rfl (by decide) fun g fp fl=>?_;(try refine nz ?_)
    refine AW.uB 0 1 rfl rfl fun hlen=>?_
    (refine Sj ?_;refine OE ?_;refine oz ?_;refine qP ?_)
    (apply eY;(exact gm.one (.tmp rfl rfl));(refine Le.fq ?_;(rfl)))
   ·have h3:60000<(cl.length:Int):=by omega
    refine Fn.enter (n:=36) Tryz.func22 rfl rfl rfl rfl rfl (by decide) fun g fp fl=>?_;(try refine nz ?_)
    refine AW.uB 0 1 rfl rfl fun hlen=>?_
    (refine Sj ?_;refine zy ?_;refine a_.c_ 24 1 1 rfl rfl rfl rfl ?_;refine zS ?_;refine zn ?_;refine vi ?_;refine jD ?_;refine iK ?_;refine qP ?_)
    (apply eY;(exact gm.one (.tmp rfl rfl));(refine Le.fq ?_;(rfl)))
def MC (v:Int) (cl:List (List Int)):Bool:=decide (v≤8) && decide (cl.length≤40) && cl.all (fun c=>decide (c.length≤12)) && oU v cl
end Go.Ab
/- A justified proof is sound,in plain terms. -/
namespace Go.Ab
open Go Go.Proofs
set_option maxRecDepth 20000
set_option maxHeartbeats 4000000
theorem Ap {e:qO} {s s':o8} {t:gN} {l:List gN} (h:iv e s t=some s'):jy e s (t::l)=((jy e s' l).1,(jy e s' l).2+1):=by rw[jy,h]
theorem Al {a b:List Int}:canon a=canon b↔∀x,x∈a↔x∈b:=⟨fun h x=>by rw[← ki (zs:=a),h,ki],fun h=>De h⟩
theorem ug {v w:List Bool} {x:Int} (h:x≤v.length∧0 - (v.length:Int)≤x):jZ (v++w) x=jZ v x:=by
 unfold jZ
 by_cases h1:0<x
 ·rw[if_pos h1,if_pos h1,c6,c6,aT aJ]
 ·rw[if_neg h1,if_neg h1]
  by_cases h2:x<0
  ·rw[if_pos h2,if_pos h2,c6,c6,aT aJ]
  ·rw[if_neg h2,if_neg h2]
theorem AP {v w:List Bool} {c:List Int} (h:e8 v.length c=true):kU (v++w) c=kU v c:=by
 have hb:=fP h
 unfold kU
 rw[Bool.eq_iff_iff,dc,dc]
 exact⟨fun⟨x,hx,g⟩=>⟨x,hx,by rwa [ug (by have:=hb x hx;omega)] at g⟩,fun⟨x,hx,g⟩=>⟨x,hx,by rwa [ug (by have:=hb x hx;omega)]⟩⟩
theorem JN {v:List Bool} {b:Bool}:jZ (v++ [b]) ((v.length:Int)+1)=b:=by
 have e:((v.length:Int)+1 - 1).toNat=v.length:=by omega
 rw[Ec aJ (by rw[e];simp)]
 simp only[e]
 simp
def KJ (v:List Bool) (c:List Int):Bool:=(c.drop 1).all (jZ v)
def qY:List Bool→List gN→List Bool
 |v,[]=>v
 |v,t::l=>qY (if t.kind=3 then v++ [KJ v t.lits] else v) l
def Ef:List Bool→List gN→Bool
 |_,[]=>true
 |v,t::l=>if t.kind=3 then Ef (v++ [KJ v t.lits]) l else if t.kind=1∨t.kind=4 then kU v t.lits && Ef v l else Ef v l
theorem OJ {n:Int} {cl:List (List Int)} {sy:List Int} {v:List Bool} (iX:∀c∈cl,e8 n c=true) (hs:jm n cl sy=true) (hv:allM v cl=true):((sy.map (jZ v)).length:Int)=n∧allM (sy.map (jZ v)) cl=true∧∀x:Int,x≠0→x≤n→0 - n≤x→jZ (sy.map (jZ v)) x=jZ v (ub sy x):=by
 obtain⟨y1,y2⟩:=oI hs
 have hz:=fP y2
 have key:∀x:Int,x≠0→x≤n→0 - n≤x→jZ (sy.map (jZ v)) x=jZ v (ub sy x):=by
  intro x h0 h1 h2
  by_cases hp:0<x
  ·have hl:(x - 1).toNat<sy.length:=by omega
   rw[Ec hp (by simpa using hl)]
   unfold ub
   rw[if_pos hp,c6,a8 hl]
   simp
  ·have hl:(0 - x - 1).toNat<sy.length:=by omega
   have e:(-x - 1).toNat=(0 - x - 1).toNat:=by omega
   rw[LJ aJ (by simpa using hl)]
   have e2:sy.getD (-x - 1).toNat 0=sy[(0 - x - 1).toNat]:=by rw[e,c6,a8 hl];rfl
   unfold ub
   rw[if_neg hp,e2,od v (hz _ (cY hl)).1]
   simp only[dg]
 refine⟨by rw[List.length_map];exact y1,?_,key⟩
 unfold allM
 rw[bD]
 intro c hc
 have hsc:cl.all (Fp cl sy)=true:=by
  unfold jm at hs
  simp only[aZ] at hs
  exact hs.2
 obtain⟨d,hd,w8⟩:=dc.1 (bD.1 hsc c hc)
 rw[decide_eq_true_eq,Al] at w8
 obtain⟨y,hy,hyt⟩:=BZ hv hd
 have IC:=(w8 y).1 hy
 unfold nK at IC
 obtain⟨x,hx,rfl⟩:=bx.1 IC
 have Ph:=fP (iX c hc) x hx
 unfold kU
 rw[dc]
 exact⟨x,hx,by rw[key x Ph.1 Ph.2.1 aJ];exact hyt⟩
structure tx (e:qO) (s:o8) (K:List gN):Prop where
 len:∀v:List Bool,(v.length:Int)=e.v0→allM v e.cl0=true→((qY v K).length:Int)=s.vars
 all:∀v:List Bool,(v.length:Int)=e.v0→allM v e.cl0=true→allM (qY v K) s.cl=true
 pre:∀v:List Bool,(v.length:Int)=e.v0→allM v e.cl0=true→∃w,qY v K=v++w
 Ah:s.ref=true→∀v:List Bool,(v.length:Int)=e.v0→allM v e.cl0=true→False
theorem kD:∀(K:List gN) (v:List Bool) (t:gN),qY v (K++ [t])=if t.kind=3 then qY v K++ [KJ (qY v K) t.lits] else qY v K
 |[],v,t=>rfl
 |u::K,v,t=>by
  rw[List.cons_append,qY,qY,kD K]
theorem IP {v:List Bool} {cl:List (List Int)} {c:List Int} (h:allM v cl=true) (hc:kU v c=true):allM v (cl++ [c])=true:=by
 unfold allM at h ⊢
 rw[List.all_append,h];simp [hc]
theorem tx.sB {e:qO} {s:o8} {K:List gN} {t:gN} (h:tx e s K) (h3:t.kind≠3) (hT:∀v:List Bool,(v.length:Int)=e.v0→allM v e.cl0=true→kU (qY v K) t.lits=true):tx e (xC s t.lits) (K++ [t]) where
 len:=fun v h1 h2=>by rw[kD,if_neg h3];exact h.len v h1 h2
 all:=fun v h1 h2=>by rw[kD,if_neg h3];exact IP (h.all v h1 h2) (hT v h1 h2)
 pre:=fun v h1 h2=>by rw[kD,if_neg h3];exact h.pre v h1 h2
 Ah:=fun hr v h1 h2=>by
  have xn:(s.ref||decide ((t.lits.length:Int)=0))=true:=hr
  rw[Bool.or_eq_true,decide_eq_true_eq] at xn
  rcases xn with xn|xn
  ·exact h.Ah xn v h1 h2
  ·have:=hT v h1 h2
   have h0:t.lits=[]:=List.eq_nil_of_length_eq_zero (by omega)
   rw[h0] at this
   simp [kU] at this
theorem Fh {e:qO} {B:Nat} {s u:o8} {K:List gN} {t:gN} (KW:∀c∈e.cl0,e8 e.v0 c=true) (Ke:0≤e.v0) (h:tx e s K) (EB:n8 B s) (hs:iv e s t=some u):
  tx e u (K++ [t])∧∀v:List Bool,(v.length:Int)=e.v0→allM v e.cl0=true→(t.kind=1∨t.kind=4)→kU (qY v K) t.lits=true:=by
 by_cases k1:t.kind=1
 ·rw[Bo k1,n9] at hs
  split at hs
  ·rename_i c
   cases hs
   have hT:∀v:List Bool,(v.length:Int)=e.v0→allM v e.cl0=true→kU (qY v K) t.lits=true:=fun v h1 h2=>
    (IY (assume:=[]) EB.hv.1 (fun c hc=>(EB.iX c hc).1) rfl c.2.1 (h.all v h1 h2)).1 c.2.2
   exact⟨h.sB aJ hT,fun v h1 h2 _=>hT v h1 h2⟩
  ·cases hs
 by_cases k2:t.kind=2
 ·rw[GK k2,mD] at hs
  split at hs
  ·cases hs
   have h3:¬t.kind=3:=by omega
   refine⟨⟨fun v h1 h2=>by rw[kD,if_neg h3];exact h.len v h1 h2,fun v h1 h2=>?_,fun v h1 h2=>by rw[kD,if_neg h3];exact h.pre v h1 h2,h.Ah⟩,fun v _ _ hk=>by omega⟩
   rw[kD,if_neg h3]
   have:=h.all v h1 h2
   unfold allM at this ⊢
   rw[bD] at this ⊢
   exact fun c hc=>this c (List.mem_of_mem_eraseIdx hc)
  ·cases hs
 by_cases k3:t.kind=3
 ·rw[Ho k3,lE] at hs
  split at hs
  ·rename_i c
   obtain⟨_,c2,c3,_,c5⟩:=c
   cases hs
   have hd:∀v:List Bool,(v.length:Int)=e.v0→allM v e.cl0=true→((qY v K).length:Int)=s.vars:=h.len
   refine⟨⟨fun v h1 h2=>?_,fun v h1 h2=>?_,fun v h1 h2=>?_,h.Ah⟩,fun v _ _ hk=>by omega⟩
   ·rw[kD,if_pos k3,bW]
    have:=h.len v h1 h2
    show _=s.vars+1
    simp;omega
   ·rw[kD,if_pos k3]
    have hl:=h.len v h1 h2
    have ha:=h.all v h1 h2
    generalize qY v K=w at hl ha
    generalize t.lits.getD 0 0=g at c3
    have hg:g=(w.length:Int)+1:=by omega
    have hb:=fP c5
    unfold KJ
    generalize t.lits.drop 1=r at c5 hb
    show allM _ (s.cl++defs g r)=true
    unfold allM at ha ⊢
    rw[bD] at ha ⊢
    intro c hc
    rcases bX.1 hc with hc|hc
    ·rw[AP (by rw[hl];exact(EB.iX c hc).1)]
     exact ha c hc
    ·have Xg:∀x∈r,jZ (w++ [r.all (jZ w)]) x=jZ w x:=fun x hx=>ug (by have:=hb x hx;omega)
     have yh:jZ (w++ [r.all (jZ w)]) g=r.all (jZ w):=by rw[hg];exact JN
     have YK:jZ (w++ [r.all (jZ w)]) (-g)=!(r.all (jZ w)):=by rw[od _ aJ,yh]
     unfold kU
     rw[dc]
     unfold defs at hc
     cases hr:r.all (jZ w) with
     |true=>
      rw[hr] at Xg yh YK
      rcases bX.1 hc with hc|hc
      ·obtain⟨x,hx,rfl⟩:=bx.1 hc
       exact⟨x,by simp,by rw[Xg x hx];exact bD.1 hr x hx⟩
      ·simp only[cq] at hc
       subst hc
       exact⟨g,by simp,yh⟩
     |false=>
      rw[hr] at Xg yh YK
      rcases bX.1 hc with hc|hc
      ·obtain⟨x,hx,rfl⟩:=bx.1 hc
       exact⟨-g,by simp,YK⟩
      ·simp only[cq] at hc
       subst hc
       obtain⟨x,hx,hxf⟩:=List.all_eq_false.1 hr
       refine⟨-x,by simp only[bw,bx];exact .inr ⟨x,hx,rfl⟩,?_⟩
       rw[od _ (hb x hx).1,Xg x hx]
       simpa using hxf
   ·obtain⟨w,hw⟩:=h.pre v h1 h2
    rw[kD,if_pos k3,hw]
    exact⟨w++ [KJ (v++w) t.lits],by rw[dh]⟩
  ·cases hs
 by_cases k4:t.kind=4
 ·rw[GU k4,qg] at hs
  split at hs
  ·rename_i c
   obtain⟨c1,_,c3,c4⟩:=c
   cases hs
   generalize e.syms.getD t.sym.toNat []=sy at c3 c4
   obtain⟨d,hd,V4⟩:=dc.1 c4
   unfold mr at V4
   rw[aZ,decide_eq_true_eq,Al] at V4
   obtain⟨hdw,V4⟩:=V4
   have hT:∀v:List Bool,(v.length:Int)=e.v0→allM v e.cl0=true→kU (qY v K) t.lits=true:=fun v h1 h2=>by
    obtain⟨g1,g2,g3⟩:=OJ KW c3 h2
    have hda:=h.all _ g1 g2
    obtain⟨w,hw⟩:=h.pre _ g1 g2
    obtain⟨w',jf⟩:=h.pre v h1 h2
    have ht:=bD.1 hda d hd
    rw[hw,AP (by rw[g1];exact hdw)] at ht
    obtain⟨x,hx,hxt⟩:=dc.1 ht
    have Ph:=fP hdw x hx
    rw[g3 x Ph.1 Ph.2.1 aJ] at hxt
    have yH:ub sy x∈t.lits:=(V4 _).1 (by unfold nK;exact bx.2 ⟨x,hx,rfl⟩)
    have Qc:=fP (oI c3).2
    have y8:=(oI c3).1
    have Js:ub sy x≤v.length∧0 - (v.length:Int)≤ub sy x:=by
     unfold ub
     split
     ·have hl:(x - 1).toNat<sy.length:=by omega
      rw[c6,a8 hl]
      have:=Qc _ (cY hl)
      simp only[bn]
      omega
     ·have hl:(-x - 1).toNat<sy.length:=by omega
      rw[c6,a8 hl]
      have:=Qc _ (cY hl)
      simp only[bn]
      omega
    unfold kU
    rw[dc]
    exact⟨_,yH,by rw[jf,ug Js];exact hxt⟩
   exact⟨h.sB aJ hT,fun v h1 h2 _=>hT v h1 h2⟩
  ·cases hs
 rw[Hp k1 k2 k3 k4] at hs
 cases hs
theorem AH {e:qO} (KW:∀c∈e.cl0,e8 e.v0 c=true) (Ke:0≤e.v0):∀(L:List gN) {B:Nat} {s:o8} {K:List gN},tx e s K→n8 B s→(∀t∈L,t.lits.length≤900)→(jy e s L).2=L.length→
  (∀v:List Bool,(v.length:Int)=e.v0→allM v e.cl0=true→Ef (qY v K) L=true)∧((jy e s L).1.ref=true→∀v:List Bool,(v.length:Int)=e.v0→allM v e.cl0=true→False)
 |[],_,s,K,h,_,_,_=>by rw[yo];exact⟨fun _ _ _=>rfl,h.Ah⟩
 |t::L,B,s,K,h,EB,hl,hn=>by
  cases hs:iv e s t with
  |none=>rw[jy,hs] at hn;simp at hn
  |some u=>
   rw[Ap hs] at hn ⊢
   obtain⟨hu,hT⟩:=Fh KW Ke h EB hs
   obtain⟨i1,i2⟩:=AH (e:=e) KW Ke L hu (EB.step (hl t (by simp)) hs) (fun t ht=>hl t (by simp [ht])) (by simp at hn;exact hn)
   refine⟨fun v h1 h2=>?_,i2⟩
   have h5:=i1 v h1 h2
   rw[kD] at h5
   unfold Ef
   by_cases k3:t.kind=3
   ·rw[if_pos k3] at h5 ⊢
    exact h5
   ·rw[if_neg k3] at h5 ⊢
    split
    ·rename_i hk
     rw[hT v h1 h2 hk,h5];rfl
    ·exact h5
end Go.Ab
/- The solver:its state;values,pushes,decisions,walked. -/
namespace Go.Ab
open Go Go.Proofs
open Nat (reduceAdd reduceSub)
set_option maxRecDepth 20000
set_option maxHeartbeats 4000000
structure SR where
 value:List Int
 level:List Int
 reason:List Int
 marks:List Int
 low:Int
 head:Int
 added:Int
 broken:Bool
 hl:Nat→Value
 ll:Nat→List Int
 nc:Nat
 hc:Nat→Value
 cl:Nat→List Int
 nw:Nat
 hw:Nat→Value
 wl:Nat→List Int
 proof:List (List Int)
 model:List Int
 core:List Int
abbrev qv (l:List Int):List PV:=[.lit (.int .i64 1),.slice 1 (l.map encI),.lit (.int .i64 0)]
abbrev ke (l:List Int):PV:=.slice 1 (l.map encI)
abbrev ij (s:SR):List AV:=[.own 1 3 1 (s.value.map encI),.own 2 3 1 (s.level.map encI),.own 3 3 1 (s.reason.map encI),.pv (.lit (s.hl 0)),.own 5 3 1 (s.marks.map encI),eU s.low,.own 6 25 1 (gG s.nc s.hc),.own 8 25 1 (gG s.nw s.hw),eU s.head,eU s.added,fq s.broken,.own 10 44 3 (s.proof.map qv),eU 0,.pv (ke s.model),.pv (ke s.core)]
abbrev ie (s:SR):List (Nat×Option Ob):=[(0,some (.box (ij s))),(1,some .row),(2,some .row),(3,some .row),(4,some (.fb 3 (kK s.hl s.ll))),(5,some .row),(6,some .row),(7,some (.fb 3 (kK s.hc s.cl))),(8,some .row),(9,some (.fb 3 (kK s.hw s.wl))),(10,some .row)]
def Xk (v:List Int) (x:Int):Int:=if x<0 then -(v.getD (-x).toNat 0) else v.getD x.toNat 0
def eX (x:Int):Int:=if x<0 then -2*x+1 else 2*x
attribute [local irreducible] gG AW a_ gr fz AR fH fv fM gk lk me
theorem xt (x:Int) (hb: -1000000≤x∧x≤1000000):Fn Tryz.prog 92 [eU x] (eU (eX x)):=by
 unfold eX
 by_cases h:x<0
 ·rw[if_pos h]
  refine Fn.enter (n:=10) Tryz.func92 rfl rfl rfl rfl rfl (by decide) fun g fp fl=>?_;refine aB ?_
  (refine CB ?_;refine zs ?_;refine jD ?_;refine qw ?_;refine a_.mul rfl rfl rfl rfl rfl aJ ?_;refine zj ?_;refine qP ?_)
  (apply eY;(exact gm.one (.tmp rfl rfl));(refine Le.eU ?_;(rfl)))
 ·rw[if_neg h]
  refine Fn.enter (n:=10) Tryz.func92 rfl rfl rfl rfl rfl (by decide) fun g fp fl=>?_;refine aB ?_
  (refine CB ?_;refine zs ?_;refine uD ?_;refine qw ?_;refine a_.mul rfl rfl rfl rfl rfl aJ ?_;refine ku ?_)
  (apply eY;(exact gm.one (.tmp rfl rfl));(refine Le.eU ?_;(rfl)))
theorem fJ {l:List Int} {n:Nat} (h:n<l.length):l.getD n 0=l[n]:=by simp [c6,h]
theorem PB (s:SR) (x:Int) (hb: -1000000≤x∧x≤1000000) (hx:x<s.value.length∧ -x<s.value.length) (hv:∀y∈s.value,-1≤y∧y≤1):oP Tryz.prog 55 11 (ie s) [.ptr 0 0,eU x] (ie s) (eU (Xk s.value x)):=by
 unfold Xk
 by_cases h:x<0
 ·have fy:(-x).toNat<s.value.length:=by omega
  have hr:=hv _ (cY fy)
  rw[if_pos h,fJ fy]
  refine oP.enter (n:=23) Tryz.func55 rfl rfl rfl rfl rfl (by decide) rfl rfl fun g fp fl=>?_;refine s9 ?_
  (refine CB ?_;refine zs ?_;refine jD ?_;refine kJ ?_;refine HM ?_;refine a_.neg rfl rfl rfl aJ ?_;refine tw ?_;refine au ?_;refine a_.neg rfl rfl rfl aJ ?_;refine qP ?_)
  (apply iJ;((exact gm.one (.tmp rfl rfl)));((exact qA));((exact Q2));exact rfl)
 ·have fy:x.toNat<s.value.length:=by omega
  rw[if_neg h,fJ fy]
  refine oP.enter (n:=23) Tryz.func55 rfl rfl rfl rfl rfl (by decide) rfl rfl fun g fp fl=>?_;refine s9 ?_
  (refine CB ?_;refine zs ?_;refine uD ?_;refine kJ ?_;refine HM ?_;refine tw ?_;refine au ?_;refine ku ?_)
  (apply iJ;((exact gm.one (.tmp rfl rfl)));((exact qA));((exact Q2));exact rfl)
end Go.Ab
/- The solver's trail:a literal made true,a decision,the least free variable,walked. -/
namespace Go.Ab
open Go Go.Proofs
open Nat (reduceAdd reduceSub)
set_option maxRecDepth 20000
set_option maxHeartbeats 4000000
def fk (x:Int):Nat:=(max x (-x)).toNat
def sq (x:Int):Int:=if x<0 then -1 else 1
def fO (s:SR) (x r:Int) (h:Value):SR:={s with value:=s.value.set (fk x) (sq x),level:=s.level.set (fk x) s.marks.length,reason:=s.reason.set (fk x) r,hl:=e_ s.hl 0 h,ll:=e_ s.ll 0 (s.ll 0++ [x])}
theorem iG (l:List Int) (i:Nat) (x:Int):(l.map encI).set i [PV.lit (.int .i64 x)]=(l.set i x).map encI:=by
 rw[List.map_set];rfl
attribute [local irreducible] gG AW a_ gr fz AR fH fv fM gk lk me
theorem rQ (s:SR) (x r:Int) (hb: -1000000≤x∧x≤1000000) (hx:x<s.value.length∧ -x<s.value.length) (h1:s.level.length=s.value.length) (h2:s.reason.length=s.value.length) (hl:(s.ll 0).length≤1000000) (hm:s.marks.length≤1000000):
  vo Tryz.prog 56 11 (ie s) [.ptr 0 0,eU x,eU r] (fun h:Value=>h.oneCell'=true) (fun h=>ie (fO s x r h)) (fun _=> .gY []):=by
 have hv:(max x (-x)).toNat<s.value.length:=by omega
 have Ke:0≤max x (-x):=by omega
 by_cases h:x<0
 ·refine vo.enter (n:=53) Tryz.func56 rfl rfl rfl rfl rfl (by decide) rfl (fun _=>rfl) fun g fp fl=>?_;refine s9 ?_
  (refine zq ?_;refine JD ?_;refine qJ ?_;refine HM ?_;refine tw ?_;(with_reducible apply a_.gQ);(iterate 4 exact rfl);exact ag;(iterate 3 exact rfl);refine Q0 ?_;refine kW ?_;refine qE ?_;refine zs ?_;refine jD ?_;refine tu ?_;refine HM ?_;(with_reducible apply a_.yT);(iterate 7 exact rfl);omega;exact aa;(with_reducible apply a_.gQ);(iterate 4 exact rfl);exact ag;(iterate 3 exact rfl);refine Q0 ?_;refine kW ?_;refine AW.gg [0,1,2,3,4,5,6,7,8,9,10] [11] rfl (by assumption) aI aI rfl ?_;show a_ .held _ _ _ [_,_,_,_,_,_,_,_,_,_,_] _ _;refine pJ ?_;refine K9 ?_;refine pJ ?_;refine BT ?_;refine tw ?_;refine Q3 ?_;intro k_ iE;refine Q0 ?_;refine uo ?_;intro g_ b_ eT;(with_reducible apply a_.gQ);(iterate 4 exact rfl);exact ag;(iterate 3 exact rfl);refine s5 ?_;refine zq ?_;refine pJ ?_;refine a_.c_ 94 2 2 rfl rfl rfl rfl ?_;refine DP ?_;refine tw ?_;(with_reducible apply a_.gQ);(iterate 4 exact rfl);exact ag;(iterate 3 exact rfl);refine Q0 ?_;refine BG ?_;refine GW ?_;refine Fc ?_;refine zm ?_;(with_reducible apply a_.oE);(iterate 5 exact rfl);exact ag;exact rfl;exact rfl;refine Q0 ?_;(with_reducible apply a_.mL 4);exact rfl;exact rfl;exact ah;(iterate 8 exact rfl);omega;(intro v_ Kk);refine J5 ?_;refine a_.c_ 94 3 3 rfl rfl rfl rfl ?_;(with_reducible apply a_.gy);(iterate 5 exact rfl);exact ag;(iterate 3 exact rfl);(with_reducible assumption);refine Q0 ?_;refine a_.nil ?_)
  (apply nV (v_) (Kk);((exact gm.none));((exact qH));((refine⟨.box _ rfl ?_,?_⟩;(iterate 2 refine Ua ?_);(iterate 2 refine Rh ?_);refine Ua ?_;refine Rh ?_;(iterate 2 refine⟨.fm (by first|rfl|(simp only[fO,iG,fk,sq,di,if_pos h])),?_⟩);refine Rh ?_;(iterate 2 refine⟨.iz (by first|rfl|(simp only[fO,iG,fk,sq,di,if_pos h])),?_⟩);exact trivial;(iterate 3 refine aF ?_);refine Se ?_;(iterate 2 refine aF ?_);refine Se ?_;refine aF ?_;refine Se ?_;exact Bq));exact rfl)
 ·refine vo.enter (n:=53) Tryz.func56 rfl rfl rfl rfl rfl (by decide) rfl (fun _=>rfl) fun g fp fl=>?_;refine s9 ?_
  (refine zq ?_;refine JD ?_;refine qJ ?_;refine HM ?_;refine tw ?_;(with_reducible apply a_.gQ);(iterate 4 exact rfl);exact ag;(iterate 3 exact rfl);refine Q0 ?_;refine kW ?_;refine qE ?_;refine zs ?_;refine qx ?_;refine AW.gg [0,1,2,3,4,5,6,7,8,9,10] [11] rfl (by assumption) aI aI rfl ?_;show a_ .held _ _ _ [_,_,_,_,_,_,_,_,_,_,_] _ _;refine pJ ?_;refine K9 ?_;refine pJ ?_;refine BT ?_;refine tw ?_;refine Q3 ?_;intro k_ iE;refine Q0 ?_;refine uo ?_;intro g_ b_ eT;(with_reducible apply a_.gQ);(iterate 4 exact rfl);exact ag;(iterate 3 exact rfl);refine s5 ?_;refine zq ?_;refine pJ ?_;refine a_.c_ 94 2 2 rfl rfl rfl rfl ?_;refine DP ?_;refine tw ?_;(with_reducible apply a_.gQ);(iterate 4 exact rfl);exact ag;(iterate 3 exact rfl);refine Q0 ?_;refine BG ?_;refine GW ?_;refine Fc ?_;refine zm ?_;(with_reducible apply a_.oE);(iterate 5 exact rfl);exact ag;exact rfl;exact rfl;refine Q0 ?_;(with_reducible apply a_.mL 4);exact rfl;exact rfl;exact ah;(iterate 8 exact rfl);omega;(intro v_ Kk);refine J5 ?_;refine a_.c_ 94 3 3 rfl rfl rfl rfl ?_;(with_reducible apply a_.gy);(iterate 5 exact rfl);exact ag;(iterate 3 exact rfl);(with_reducible assumption);refine Q0 ?_;refine a_.nil ?_)
  (apply nV (v_) (Kk);((exact gm.none));((exact qH));((refine⟨.box _ rfl ?_,?_⟩;(iterate 2 refine V6 ?_);(iterate 2 refine Th ?_);refine V6 ?_;refine Th ?_;(iterate 2 refine⟨.fm (by first|rfl|(simp only[fO,iG,fk,sq,di,if_neg h])),?_⟩);refine Th ?_;(iterate 2 refine⟨.iz (by first|rfl|(simp only[fO,iG,fk,sq,di,if_neg h])),?_⟩);exact trivial;(iterate 3 refine aF ?_);refine Rs ?_;(iterate 2 refine aF ?_);refine Rs ?_;refine aF ?_;refine Rs ?_;exact Bq));exact rfl)
end Go.Ab
/- The solver's trail:decisions,the least free variable,going back,walked. -/
namespace Go.Ab
open Go Go.Proofs
open Nat (reduceAdd reduceSub)
set_option maxRecDepth 20000
set_option maxHeartbeats 4000000
def iA (s:SR):SR:={s with marks:=s.marks++ [((s.ll 0).length:Int)]}
def lq (v:List Int) (low:Nat):Nat:=low+((v.drop low).takeWhile fun x=>decide (x≠0)).length
theorem ym {v:List Int} {low:Nat} (h:¬low<v.length):lq v low=low:=by
 unfold lq
 rw[List.drop_eq_nil_of_le aJ];rfl
theorem uT {v:List Int} {low:Nat} (h:low<v.length) (h0:v[low]=0):lq v low=low:=by
 unfold lq
 rw[dj h,List.takeWhile_cons_of_neg (by simp [h0])];rfl
theorem vf {v:List Int} {low:Nat} (h:low<v.length) (h0:v[low]≠0):lq v low=lq v (low+1):=by
 unfold lq
 rw[dj h,List.takeWhile_cons_of_pos (by simp [h0])]
 simp only[List.length_cons];omega
theorem Br {v:List Int}:∀{n low:Nat},v.length - low=n→low≤v.length→low≤lq v low∧lq v low≤v.length
 |0,low,h,hl=>by rw[ym aJ];omega
 |n+1,low,h,hl=>by
  have fy:low<v.length:=by omega
  by_cases h0:v[low]=0
  ·rw[uT fy h0];omega
  ·rw[vf fy h0]
   have:=Br (v:=v) (n:=n) (low:=low+1) aJ (by omega)
   omega
def zeroV (v:List Int) (l:List Int):List Int:=l.foldl (fun v x=>v.set (fk x) 0) v
def qq (low:Int) (l:List Int):Int:=l.foldl (fun m x=>min m (max x (-x))) low
theorem gA (v:List Int):zeroV v []=v:=rfl
theorem gM (b:Int):qq b []=b:=rfl
theorem rX (l v:List Int):(zeroV v l).length=v.length:=by
 unfold zeroV
 induction l generalizing v with
 |nil=>rfl
 |cons x l ih=>rw[ct,ih];simp
theorem FO {v l:List Int} {k:Nat} (h:k<l.length):zeroV v (l.take (k+1))=(zeroV v (l.take k)).set (fk l[k]) 0:=by
 unfold zeroV
 rw[dk h,dm];rfl
theorem I8 {b:Int} {l:List Int} {k:Nat} (h:k<l.length):qq b (l.take (k+1))=min (qq b (l.take k)) (max l[k] (-l[k])):=by
 unfold qq
 rw[dk h,dm];rfl
theorem LP {b:Int} {l:List Int} (hb:0≤b∧b≤1000000) (hl:∀x∈l,-1000000≤x∧x≤1000000):0≤qq b l∧qq b l≤1000000:=by
 unfold qq
 induction l generalizing b with
 |nil=>exact hb
 |cons x l ih=>
  have:=hl x (by simp)
  rw[ct]
  exact ih (by show 0≤min b (max x (-x))∧min b (max x (-x))≤_;omega) fun y hy=>hl y (by simp [hy])
def Gz (s:SR) (lv:Nat):SR:={s with value:=zeroV s.value ((s.ll 0).drop (s.marks.getD lv 0).toNat),low:=qq s.low ((s.ll 0).drop (s.marks.getD lv 0).toNat),hl:=e_ s.hl 0 (jw (s.marks.getD lv 0).toNat (s.hl 0)),ll:=e_ s.ll 0 ((s.ll 0).take (s.marks.getD lv 0).toNat),marks:=s.marks.take lv}
attribute [local irreducible] gG AW a_ gr fz AR fH fv fM gk lk me lq zeroV qq
theorem F7 (s:SR) (hl:(s.ll 0).length≤1000000) (hm:s.marks.length≤1000000):oP Tryz.prog 64 11 (ie s) [.ptr 0 0,eU 0] (ie (iA s)) (.gY []):=by
 refine oP.enter (n:=23) Tryz.func64 rfl rfl rfl rfl rfl (by decide) rfl rfl fun g fp fl=>?_;refine s9 ?_
 (refine zo ?_;refine AW.gg [0,1,2,3,4,5,6,7,8,9] [14] rfl (by assumption) aI aI rfl ?_;show a_ .held _ _ _ [_,_,_,_,_,_,_,_,_,_] _ _;refine GW ?_;refine a_.c_ 94 4 4 rfl rfl rfl rfl ?_;refine zb ?_;refine pJ ?_;refine Gq ?_;refine Q3 ?_;intro k_ iE;refine Q0 ?_;refine AR.fA (i:=10) rfl aI rfl ?_;intro g_ b_ fU;(with_reducible apply a_.oE);(iterate 5 exact rfl);exact ag;exact rfl;exact rfl;refine oy ?_;refine AR.fA (i:=11) rfl aI rfl ?_;intro g_ b_ fU;(with_reducible apply a_.fD);exact rfl;exact ah;(iterate 9 exact rfl);exact aa;refine oy ?_;refine Sq ?_;intro g_ b_;show a_ .held _ _ _ [_,_] _ _;refine a_.fw rfl rfl rfl ?_;refine a_.c_ 94 4 4 rfl rfl rfl rfl ?_;refine Q3 ?_;intro k_ iE;refine Q0 ?_;refine wH ?_;intro g_ b_ eT;(with_reducible apply a_.gy);(iterate 5 exact rfl);exact ag;(iterate 3 exact rfl);(with_reducible assumption);refine s5 ?_;refine qE ?_;refine a_.neq rfl rfl rfl rfl rfl ?_;refine Ci ?_)
 (apply nR;((exact gm.none));((exact qH));((refine⟨.box _ rfl ?_,?_⟩;(iterate 2 refine TW ?_);(iterate 2 refine Rr ?_);refine TW ?_;refine Rr ?_;(iterate 2 refine⟨.fm (by first|rfl|(simp only[iA,cR,bB,b8];rfl)),?_⟩);refine Rr ?_;(iterate 2 refine⟨.iz (by first|rfl|(simp only[iA,cR,bB,b8];rfl)),?_⟩);exact trivial;(iterate 3 refine aF ?_);refine QE ?_;(iterate 2 refine aF ?_);refine QE ?_;refine aF ?_;refine QE ?_;exact Bq));exact rfl)
theorem yY (s:SR) (x:Int) (h0:x≠0) (hb: -1000000≤x∧x≤1000000) (hx:x<s.value.length∧ -x<s.value.length) (h1:s.level.length=s.value.length) (h2:s.reason.length=s.value.length) (hl:(s.ll 0).length≤100000) (hm:s.marks.length≤100000):
  vo Tryz.prog 64 11 (ie s) [.ptr 0 0,eU x] (fun h:Value=>h.oneCell'=true) (fun h=>ie (fO (iA s) x (-1) h)) (fun _=> .gY []):=by
 have hp:=rQ (iA s) x (-1) hb hx h1 h2 (by show(s.ll 0).length≤_;omega) (by show(s.marks++_).length≤_;simp;omega)
 rw[show ie (iA s)=ie {iA s with marks:=s.marks++ [((s.ll 0).length:Int)]} from rfl] at hp
 simp only[ie,ij,cR,bB,b8] at hp
 refine vo.enter (n:=23) Tryz.func64 rfl rfl rfl rfl rfl (by decide) rfl (fun _=>rfl) fun g fp fl=>?_;refine s9 ?_
 (refine zo ?_;refine AW.gg [0,1,2,3,4,5,6,7,8,9] [14] rfl (by assumption) aI aI rfl ?_;show a_ .held _ _ _ [_,_,_,_,_,_,_,_,_,_] _ _;refine GW ?_;refine a_.c_ 94 4 4 rfl rfl rfl rfl ?_;refine zb ?_;refine pJ ?_;refine Gq ?_;refine Q3 ?_;intro k_ iE;refine Q0 ?_;refine AR.fA (i:=10) rfl aI rfl ?_;intro g_ b_ fU;(with_reducible apply a_.oE);(iterate 5 exact rfl);exact ag;exact rfl;exact rfl;refine oy ?_;refine AR.fA (i:=11) rfl aI rfl ?_;intro g_ b_ fU;(with_reducible apply a_.fD);exact rfl;exact ah;(iterate 9 exact rfl);exact aa;refine oy ?_;refine Sq ?_;intro g_ b_;show a_ .held _ _ _ [_,_] _ _;refine a_.fw rfl rfl rfl ?_;refine a_.c_ 94 4 4 rfl rfl rfl rfl ?_;refine Q3 ?_;intro k_ iE;refine Q0 ?_;refine wH ?_;intro g_ b_ eT;(with_reducible apply a_.gy);(iterate 5 exact rfl);exact ag;(iterate 3 exact rfl);(with_reducible assumption);refine s5 ?_;refine qE ?_;refine a_.neq rfl rfl rfl rfl rfl ?_;refine jD ?_;refine tu ?_;refine Fo ?_;(with_reducible apply a_.kI (hf:=hp));(with_reducible assumption);(iterate 3 exact rfl);exact aq;exact ak;(intro x_;exact rfl);exact rfl;exact al;(intro x_;exact al);(intro x_;exact rfl);exact rfl;(intro x_ rL);refine k9 ?_;refine a_.nil ?_)
 (apply nV (x_) (rL);((exact gm.none));((exact qH));((exact LL));exact rfl)
theorem M7 (s:SR) (low:Nat) (hs:s.low=(low:Int)) (hle:low≤s.value.length) (hl:s.value.length≤1000000):
  oP Tryz.prog 65 11 (ie s) [.ptr 0 0] (ie {s with low:=(lq s.value low:Int)}) (eU (if lq s.value low=s.value.length then 0 else (lq s.value low:Int))):=by
 simp only[ie,ij,hs]
 have hb:=Br (v:=s.value) rfl hle
 refine oP.enter (n:=47) Tryz.func65 rfl rfl rfl rfl rfl (by decide) rfl rfl fun g fp fl=>?_;refine s9 ?_
 (refine zq ?_;refine kc ?_;refine AW.block ?_)
 (refine Q0 ?_;apply AW.gJ [2,0,1000] [1,2,3,4,5,6,7,8,9,10] (fun k:Nat=>([]:List (Nat×AV))) (fun k:Nat=>([(0,some (.box [.own 1 3 1 ((s.value).map encI),.own 2 3 1 ((s.level).map encI),.own 3 3 1 ((s.reason).map encI),.pv (.lit (s.hl 0)),.own 5 3 1 ((s.marks).map encI),eU ((k:Int)),.own 6 25 1 (gG s.nc s.hc),.own 8 25 1 (gG s.nw s.hw),eU (s.head),eU (s.added),fq (s.broken),.own 10 44 3 ((s.proof).map qv),eU 0,.pv (ke (s.model)),.pv (ke (s.core))]))]:List (Nat×Option Ob))) (fun k:Nat=>(k≤s.value.length∧lq s.value k=lq s.value low)) (fun k:Nat=>s.value.length - k) (low);(conv=>lhs;simp only[Nf.ot,Nf.all,df,reduceAdd,reduceSub]);(all_goals skip))
 ·exact⟨hle,rfl⟩
 ·exact fe rfl (by(refine aD ?_;(iterate 2 refine aC ?_);exact trivial)) (by(refine⟨.box _ rfl ?_,?_⟩;(iterate 3 refine aE ?_);refine aD ?_;refine aE ?_;refine aD ?_;(iterate 2 refine aE ?_);(iterate 3 refine aD ?_);refine aE ?_;refine aD ?_;(iterate 2 refine aG ?_);exact trivial;(iterate 3 refine aF ?_);refine aH ?_;(iterate 2 refine aF ?_);refine aH ?_;refine aF ?_;refine aH ?_;refine aF ?_;exact trivial)) rfl
 rintro k ⟨hk,hf⟩
 by_cases fy:k<s.value.length
 ·by_cases h0:s.value[k]=0
  ·have e:=uT fy h0
   rw[hf] at e
   have Zt:(decide (s.value[k]≠0))=false:=by simp [h0]
   have gn:¬k=s.value.length:=by omega
   rw[e,if_neg gn]
   ((iterate 2 refine zo ?_);(with_reducible apply AW.gb);exact rfl;exact rfl;kernel_rfl;(with_reducible assumption);refine V3 ?_;refine au ?_;refine zt ?_;refine a_.neq rfl rfl rfl rfl rfl ?_;refine zT ?_;refine zd ?_;refine tW ?_;(iterate 2 refine zo ?_);(with_reducible apply AW.gb);exact rfl;exact rfl;kernel_rfl;(with_reducible assumption);refine Nk ?_;refine a_.eql rfl rfl rfl rfl rfl ?_;refine uD ?_;refine kJ ?_;refine pJ ?_;refine a_.c_ 94 5 5 rfl rfl rfl rfl ?_;refine zb ?_;refine ku ?_)
   (apply iJ;((exact gm.one (.tmp rfl rfl)));((exact qA));((exact Q2));exact rfl)
  ·have Zt:(decide (s.value[k]≠0))=true:=by simp [h0]
   have e:=vf fy h0
   ((iterate 2 refine zo ?_);(with_reducible apply AW.gb);exact rfl;exact rfl;kernel_rfl;(with_reducible assumption);refine V3 ?_;refine au ?_;refine zt ?_;refine a_.neq rfl rfl rfl rfl rfl ?_;refine zT ?_;refine jD ?_;refine vH ?_;refine AW.block ?_;refine tu ?_;refine pJ ?_;refine a_.c_ 94 5 5 rfl rfl rfl rfl ?_;refine zb ?_;refine zj ?_;refine a_.fw rfl rfl rfl ?_;refine a_.c_ 94 5 5 rfl rfl rfl rfl ?_;(with_reducible apply a_.gy);(iterate 5 exact rfl);exact ag;(iterate 3 exact rfl);(with_reducible assumption);refine Q0 ?_;refine a_.nil ?_;refine yM ?_)
   exact⟨k+1,⟨by omega,by rw[← e];exact hf⟩,by omega,fe rfl (by(refine aD ?_;(iterate 2 refine aC ?_);exact trivial)) (by(refine⟨.box _ rfl ?_,?_⟩;(iterate 3 refine aE ?_);refine aD ?_;refine aE ?_;refine aD ?_;(iterate 2 refine aE ?_);(iterate 3 refine aD ?_);refine aE ?_;refine aD ?_;(iterate 2 refine aG ?_);exact trivial;(iterate 3 refine aF ?_);refine aH ?_;(iterate 2 refine aF ?_);refine aH ?_;refine aF ?_;refine aH ?_;refine aF ?_;exact trivial)) rfl⟩
 ·have qh:k=s.value.length:=by omega
  have e:=ym (v:=s.value) (low:=k) fy
  rw[hf] at e
  rw[e,if_pos qh]
  ((iterate 2 refine zo ?_);(with_reducible apply AW.gb);exact rfl;exact rfl;kernel_rfl;(with_reducible assumption);refine Nk ?_;refine zs ?_;refine zm ?_;(iterate 11 refine a_.mG rfl rfl rfl rfl rfl rfl (by first|omega|decide) ?_);refine zF ?_;refine zd ?_;refine AW.j8 rfl rfl ?_;refine I6 ?_;(iterate 2 refine zo ?_);(with_reducible apply AW.gb);exact rfl;exact rfl;kernel_rfl;(with_reducible assumption);refine Nk ?_;refine a_.eql rfl rfl rfl rfl rfl ?_;refine jD ?_;refine kJ ?_;refine qP ?_)
  (apply iJ;((exact gm.one (.tmp rfl rfl)));((exact qA));((exact Q2));exact rfl)
theorem xw (s:SR) (lv:Int) (tf:(s.marks.length:Int)≤lv):oP Tryz.prog 53 11 (ie s) [.ptr 0 0,eU lv] (ie s) (.gY []):=by
 refine oP.enter (n:=75) Tryz.func53 rfl rfl rfl rfl rfl (by decide) rfl rfl fun g fp fl=>?_;refine s9 ?_
 (refine sd ?_;refine pJ ?_;refine BT ?_;refine a_.geq rfl rfl rfl rfl rfl ?_;refine jD ?_;refine AW.ret ?_;refine gV ?_)
 (apply iJ;((exact gm.none));((exact qH));((exact Q2));exact rfl)
theorem Mi (s:SR) (lv:Nat) (tf:lv<s.marks.length) (hm:0≤s.marks[lv]∧s.marks[lv].toNat≤(s.ll 0).length) (hl:(s.ll 0).length≤1000000) (Tq:0≤s.low∧s.low≤1000000)
  (hx:∀x∈s.ll 0,(-1000000≤x∧x≤1000000)∧fk x<s.value.length):oP Tryz.prog 53 11 (ie s) [.ptr 0 0,eU lv] (ie (Gz s lv)) (.gY []):=by
 have PC:s.marks.getD lv 0=s.marks[lv]:=fJ tf
 have qM:(s.marks.getD lv 0).toNat≤(s.ll 0).length:=by rw[PC];exact hm.2
 unfold Gz
 rw[PC]
 have C9:((s.ll 0).drop (s.marks[lv]).toNat).length=(s.ll 0).length - (s.marks[lv]).toNat:=List.length_drop
 simp only[ie,ij]
 refine oP.enter (n:=75) Tryz.func53 rfl rfl rfl rfl rfl (by decide) rfl rfl fun g fp fl=>?_;refine s9 ?_
 refine AW.Cc 4 rfl fun YD X1=>?_
 (refine sd ?_;refine pJ ?_;refine BT ?_;refine a_.geq rfl rfl rfl rfl rfl ?_;refine uD ?_;(iterate 2 refine zo ?_);(with_reducible apply AW.gb);exact rfl;exact rfl;kernel_rfl;(with_reducible assumption);refine pJ ?_;refine Fc ?_;refine pJ ?_;refine a_.c_ 94 4 4 rfl rfl rfl rfl ?_;refine iY ?_;refine Dl ?_;refine au ?_;(with_reducible apply a_.yD 4);(iterate 8 exact rfl);exact ab;exact ab;refine a_.Cd 4 rfl rfl rfl rfl rfl ?_;refine zp ?_)
 (refine Q0 ?_;apply AW.gJ [26,25,0,1,1000] [1,2,3,4,5,6,7,8,9,10] (fun k:Nat=>([(27,eU k)]:List (Nat×AV))) (fun k:Nat=>([(0,some (.box [.own 1 3 1 ((zeroV s.value (((s.ll 0).drop (s.marks[lv]).toNat).take k)).map encI),.own 2 3 1 ((s.level).map encI),.own 3 3 1 ((s.reason).map encI),.pv (.lit (s.hl 0)),.own 5 3 1 ((s.marks).map encI),eU (qq s.low (((s.ll 0).drop (s.marks[lv]).toNat).take k)),.own 6 25 1 (gG s.nc s.hc),.own 8 25 1 (gG s.nw s.hw),eU (s.head),eU (s.added),fq (s.broken),.own 10 44 3 ((s.proof).map qv),eU 0,.pv (ke (s.model)),.pv (ke (s.core))]))]:List (Nat×Option Ob))) (fun k:Nat=>k≤((s.ll 0).drop (s.marks[lv]).toNat).length) (fun k:Nat=>((s.ll 0).drop (s.marks[lv]).toNat).length - k) (0);(conv=>lhs;simp only[Nf.ot,Nf.all,df,reduceAdd,reduceSub]);(all_goals skip))
 ·exact bm _
 ·exact fe rfl (by(refine⟨.fm (by first|rfl|(simp only[dp,gA,gM])),?_⟩;refine⟨.fm (by first|rfl|(simp only[dp,gA,gM])),?_⟩;refine⟨.fm (by first|rfl|(simp only[dp,gA,gM])),?_⟩;refine aC ?_;refine⟨.fm (by first|rfl|(simp only[dp,gA,gM])),?_⟩;refine aC ?_;exact trivial)) (by(refine⟨.box _ rfl ?_,?_⟩;refine⟨.ff (by first|rfl|(simp only[dp,gA,gM])) rfl,?_⟩;refine⟨.ff (by first|rfl|(simp only[dp,gA,gM])) rfl,?_⟩;refine⟨.ff (by first|rfl|(simp only[dp,gA,gM])) rfl,?_⟩;refine⟨.fm (by first|rfl|(simp only[dp,gA,gM])),?_⟩;refine⟨.ff (by first|rfl|(simp only[dp,gA,gM])) rfl,?_⟩;refine⟨.fm (by first|rfl|(simp only[dp,gA,gM])),?_⟩;refine⟨.ff (by first|rfl|(simp only[dp,gA,gM])) rfl,?_⟩;refine⟨.ff (by first|rfl|(simp only[dp,gA,gM])) rfl,?_⟩;refine⟨.fm (by first|rfl|(simp only[dp,gA,gM])),?_⟩;refine⟨.fm (by first|rfl|(simp only[dp,gA,gM])),?_⟩;refine⟨.fm (by first|rfl|(simp only[dp,gA,gM])),?_⟩;refine⟨.ff (by first|rfl|(simp only[dp,gA,gM])) rfl,?_⟩;refine⟨.fm (by first|rfl|(simp only[dp,gA,gM])),?_⟩;refine⟨.iz (by first|rfl|(simp only[dp,gA,gM])),?_⟩;refine⟨.iz (by first|rfl|(simp only[dp,gA,gM])),?_⟩;exact trivial;(iterate 3 refine aF ?_);refine⟨.fb rfl (by first|rfl|(simp only[dp,gA,gM])),?_⟩;(iterate 2 refine aF ?_);refine⟨.fb rfl (by first|rfl|(simp only[dp,gA,gM])),?_⟩;refine aF ?_;refine⟨.fb rfl (by first|rfl|(simp only[dp,gA,gM])),?_⟩;refine aF ?_;exact trivial)) rfl
 rintro k hk
 have Yh:=rX (((s.ll 0).drop (s.marks[lv]).toNat).take k) s.value
 by_cases Gr:k<((s.ll 0).drop (s.marks[lv]).toNat).length
 ·have hz:=FO (v:=s.value) Gr
  have tJ:=I8 (b:=s.low) Gr
  have yh:((s.ll 0).drop (s.marks[lv]).toNat)[k]=(s.ll 0)[(s.marks[lv]).toNat+(k:Int).toNat]'(by simp only[dq];omega):=List.getElem_drop
  rw[yh] at hz tJ
  obtain⟨hr,Jq⟩:=hx _ (cY (show(s.marks[lv]).toNat+(k:Int).toNat<(s.ll 0).length by simp only[dq];omega))
  have ox:=LP (b:=s.low) (l:=((s.ll 0).drop (s.marks[lv]).toNat).take k) Tq fun y hy=>(hx y (List.mem_of_mem_drop (cQ hy))).1
  unfold fk at Jq hz
  (refine zq ?_;refine zs ?_;refine kW ?_;refine Q6 ?_;refine kJ ?_;(with_reducible apply a_.xv 4);(iterate 8 exact rfl);exact ab;exact ab;refine aw ?_;refine qJ ?_;refine JD ?_;refine qJ ?_;refine HM ?_;refine tw ?_;(with_reducible apply a_.gQ);(iterate 4 exact rfl);exact ag;(iterate 3 exact rfl);refine Q0 ?_;refine BG ?_;refine GW ?_;refine a_.c_ 94 5 5 rfl rfl rfl rfl ?_;refine iY ?_;refine a_.min2 rfl rfl rfl rfl rfl ?_;refine a_.fw rfl rfl rfl ?_;refine a_.c_ 94 5 5 rfl rfl rfl rfl ?_;(with_reducible apply a_.gy);(iterate 5 exact rfl);exact ag;(iterate 3 exact rfl);(with_reducible assumption);refine Q0 ?_;refine Bt ?_)
  exact⟨k+1,by omega,by omega,fe rfl (by(refine⟨.fm (by first|rfl|(rw[iG,hz])|(rw[tJ])),?_⟩;refine⟨.fm (by first|rfl|(rw[iG,hz])|(rw[tJ])),?_⟩;refine⟨.fm (by first|rfl|(rw[iG,hz])|(rw[tJ])),?_⟩;refine aC ?_;refine⟨.fm (by first|rfl|(rw[iG,hz])|(rw[tJ])),?_⟩;refine aC ?_;exact trivial)) (by(refine⟨.box _ rfl ?_,?_⟩;refine⟨.ff (by first|rfl|(rw[iG,hz])|(rw[tJ])) rfl,?_⟩;refine⟨.ff (by first|rfl|(rw[iG,hz])|(rw[tJ])) rfl,?_⟩;refine⟨.ff (by first|rfl|(rw[iG,hz])|(rw[tJ])) rfl,?_⟩;refine⟨.fm (by first|rfl|(rw[iG,hz])|(rw[tJ])),?_⟩;refine⟨.ff (by first|rfl|(rw[iG,hz])|(rw[tJ])) rfl,?_⟩;refine⟨.fm (by first|rfl|(rw[iG,hz])|(rw[tJ])),?_⟩;refine⟨.ff (by first|rfl|(rw[iG,hz])|(rw[tJ])) rfl,?_⟩;refine⟨.ff (by first|rfl|(rw[iG,hz])|(rw[tJ])) rfl,?_⟩;refine⟨.fm (by first|rfl|(rw[iG,hz])|(rw[tJ])),?_⟩;refine⟨.fm (by first|rfl|(rw[iG,hz])|(rw[tJ])),?_⟩;refine⟨.fm (by first|rfl|(rw[iG,hz])|(rw[tJ])),?_⟩;refine⟨.ff (by first|rfl|(rw[iG,hz])|(rw[tJ])) rfl,?_⟩;refine⟨.fm (by first|rfl|(rw[iG,hz])|(rw[tJ])),?_⟩;refine⟨.iz (by first|rfl|(rw[iG,hz])|(rw[tJ])),?_⟩;refine⟨.iz (by first|rfl|(rw[iG,hz])|(rw[tJ])),?_⟩;exact trivial;(iterate 3 refine aF ?_);refine⟨.fb rfl (by first|rfl|(rw[iG,hz])|(rw[tJ])),?_⟩;(iterate 2 refine aF ?_);refine⟨.fb rfl (by first|rfl|(rw[iG,hz])|(rw[tJ])),?_⟩;refine aF ?_;refine⟨.fb rfl (by first|rfl|(rw[iG,hz])|(rw[tJ])),?_⟩;refine aF ?_;exact trivial)) rfl⟩
 ·obtain rfl:k=((s.ll 0).drop (s.marks[lv]).toNat).length:=by omega
  rw[c8]
  (refine Cp ?_;refine zo ?_;refine AW.gg [0,1,2,3,4,5,6,7,8,9,10] [15] rfl (by assumption) aI aI rfl ?_;show a_ .held _ _ _ [_,_,_,_,_,_,_,_,_,_,_] _ _;refine GW ?_;refine Fc ?_;refine pJ ?_;refine a_.c_ 94 4 4 rfl rfl rfl rfl ?_;refine iY ?_;refine Dl ?_;refine Q3 ?_;intro k_ iE;refine B5 ?_;intro g_ b_ fU;refine au ?_;refine Q3 ?_;refine AR.iP [12,13,14] aI aI aI aI ?_;intro g_ b_;show a_ .held _ _ _ [_,_,_] _ _;(with_reducible apply a_.uR 4);(iterate 8 exact rfl);exact ab;exact ab;refine a_.fw rfl rfl rfl ?_;refine a_.c_ 94 3 3 rfl rfl rfl rfl ?_;refine Q3 ?_;intro k_ iE;refine Q0 ?_;refine AR.im (i:=15) rfl aI rfl aI ?_;intro g_ b_ eT;(with_reducible apply a_.gy);(iterate 5 exact rfl);exact ag;(iterate 3 exact rfl);(with_reducible assumption);refine s5 ?_;(with_reducible apply AW.vZ 9 4 0 (s.marks.getD lv 0).toNat);exact rfl;omega;(rw[PC]);refine aB ?_;refine AW.region ?_;refine GW ?_;refine a_.c_ 94 4 4 rfl rfl rfl rfl ?_;refine iY ?_;(with_reducible apply a_.IS);(iterate 7 exact rfl);omega;exact aa;refine a_.fw rfl rfl rfl ?_;refine a_.c_ 94 4 4 rfl rfl rfl rfl ?_;(with_reducible apply a_.gy);(iterate 5 exact rfl);exact ag;(iterate 3 exact rfl);(with_reducible assumption);refine Q0 ?_;refine a_.nil ?_)
  (apply nR;((exact gm.none));((exact qH));((refine⟨.box _ rfl ?_,?_⟩;(iterate 2 refine Ut ?_);(iterate 2 refine Ro ?_);refine Ut ?_;refine Ro ?_;(iterate 2 refine⟨.fm (by first|rfl|(rw[cS];rfl)),?_⟩);refine Ro ?_;(iterate 2 refine⟨.iz (by first|rfl|(rw[cS];rfl)),?_⟩);exact trivial;(iterate 3 refine aF ?_);refine SX ?_;(iterate 2 refine aF ?_);refine SX ?_;refine aF ?_;refine SX ?_;exact Bq));exact rfl)
end Go.Ab
/- The solver:going back to a level;a clause attached,walked. -/
namespace Go.Ab
open Go Go.Proofs
open Nat (reduceAdd reduceSub)
set_option maxRecDepth 20000
set_option maxHeartbeats 4000000
def Gx (s:SR):SR:={s with head:=min s.head ((s.ll 0).length:Int)}
def kn (s:SR) (x:Int) (at':Nat) (h:Value):SR:={s with hw:=e_ s.hw (eX x).toNat h,wl:=e_ s.wl (eX x).toNat (s.wl (eX x).toNat++ [(at':Int)])}
structure AtI (s:SR) (x y:Int) (k:Nat) (hw:Nat→Value) (wl:Nat→List Int):Prop where
 le:k≤2
 i0:k=0→hw=s.hw∧wl=s.wl
 i1:k=1→∃h:Value,h.oneCell'=true∧hw=e_ s.hw (eX x).toNat h∧wl=e_ s.wl (eX x).toNat (s.wl (eX x).toNat++ [(s.nc:Int)])
 i2:k=2→∃h h':Value,h.oneCell'=true∧h'.oneCell'=true∧hw=e_ (e_ s.hw (eX x).toNat h) (eX y).toNat h'∧wl=e_ (e_ s.wl (eX x).toNat (s.wl (eX x).toNat++ [(s.nc:Int)])) (eX y).toNat (e_ s.wl (eX x).toNat (s.wl (eX x).toNat++ [(s.nc:Int)]) (eX y).toNat++ [(s.nc:Int)])
attribute [local irreducible] gG AW a_ gr fz AR fH fv fM gk lk me eX
theorem BL (s s1:SR) (lv:Int) (hb:oP Tryz.prog 53 11 (ie s) [.ptr 0 0,eU lv] (ie s1) (.gY [])):oP Tryz.prog 58 11 (ie s) [.ptr 0 0,eU lv] (ie (Gx s1)) (.gY []):=by
 simp only[ie,ij] at hb ⊢
 refine oP.enter (n:=23) Tryz.func58 rfl rfl rfl rfl rfl (by decide) rfl rfl fun g fp fl=>?_;refine s9 ?_
 (refine zq ?_;refine tN ?_;refine zX (hb) ?_;refine k9 ?_;refine zd ?_;refine AW.gg [0,1,2,3,4,5,6,7,8,9,10,11,12,13] [14] rfl (by assumption) aI aI rfl ?_;show a_ .held _ _ _ [_,_,_,_,_,_,_,_,_,_,_,_,_,_] _ _;refine GW ?_;refine MI ?_;refine wx ?_;refine Gq ?_;refine a_.min2 rfl rfl rfl rfl rfl ?_;refine a_.fw rfl rfl rfl ?_;refine a_.c_ 96 3 8 rfl rfl rfl rfl ?_;refine Q3 ?_;intro k_ iE;refine Q0 ?_;refine wH ?_;intro g_ b_ eT;(with_reducible apply a_.gy);(iterate 5 exact rfl);exact ag;(iterate 3 exact rfl);(with_reducible assumption);refine ya ?_)
 (apply nR;((exact gm.none));((exact qH));((exact LL));exact rfl)
end Go.Ab
/- The solver:a step of the proof logged;the end of a search,walked. -/
namespace Go.Ab
open Go Go.Proofs
open Nat (reduceAdd reduceSub)
set_option maxRecDepth 20000
set_option maxHeartbeats 4000000
attribute [local irreducible] gG AW a_ gr fz AR fH fv fM gk lk me
theorem vC (l:List Int) (hl:l.length≤1000000):Fn Tryz.prog 66 [.pv (ke l)] (.pv (ke l)):=by
 refine Fn.enter (n:=8) Tryz.func66 rfl rfl rfl rfl rfl (by decide) fun g fp fl=>?_;refine aB ?_
 (refine CB ?_;(focus ((with_reducible apply a_.tv);(iterate 6 exact rfl);all_goals intro oD));refine xj ?_;refine kJ ?_;refine qP ?_;(all_goals skip);rotate_left;refine nY ?_;refine kJ ?_;refine a_.TE rfl rfl rfl rfl rfl ?_;refine Q0 ?_;refine zm ?_;(with_reducible apply a_.fD);exact rfl;exact ah;(iterate 9 exact rfl);exact aa;refine Q0 ?_;refine xV ?_;(all_goals skip);rotate_left)
 ·obtain rfl:l=[]:=by simpa using oD
  (apply eY;(exact gm.one (.tmp rfl rfl));(exact Le.nil _))
 ·(apply eY;(exact gm.one (.tmp rfl rfl));(exact Le.own _ _ _ _ rfl))
theorem HW (s:SR) (l:List Int) (hl:l.length≤1000000) (hp:s.proof.length≤1000000):oP Tryz.prog 93 11 (ie s) [.ptr 0 0,.pv (ke l)] (ie {s with proof:=s.proof++ [l]}) (.gY []):=by
 have hc:=vC l hl
 simp only[ie,ij]
 refine oP.enter (n:=16) Tryz.func93 rfl rfl rfl rfl rfl (by decide) rfl rfl fun g fp fl=>?_;refine s9 ?_
 (refine AW.gg [0,1,2,3,4,5] [12] rfl (by assumption) aI aI rfl ?_;show a_ .held _ _ _ [_,_,_,_,_,_] _ _;refine GW ?_;refine a_.c_ 96 6 11 rfl rfl rfl rfl ?_;refine iY ?_;refine Q3 ?_;intro k_ iE;refine Q0 ?_;refine AR.fA (i:=6) rfl aI rfl ?_;intro g_ b_ fU;refine zP (hc) ?_;refine Q3 ?_;refine AR.free 7 aI rfl rfl rfl (fS.build 44 [0,1] rfl rfl rfl rfl rfl rfl rfl rfl) ?_;refine aB ?_;refine AR.fA (i:=8) rfl aI rfl ?_;intro g_ b_ fU;refine Mr ?_;refine AR.fA (i:=9) rfl aI rfl ?_;intro g_ b_ fU;(with_reducible apply a_.fD);exact rfl;exact ah;(iterate 9 exact rfl);exact aa;refine oy ?_;refine AR.iP [10,11] aI aI aI aI ?_;intro g_ b_;show a_ .held _ _ _ [_,_] _ _;refine a_.fw rfl rfl rfl ?_;refine Mh ?_;intro k_ iE;refine Q0 ?_;refine AM ?_;intro g_ b_ eT;(with_reducible apply a_.gy);(iterate 5 exact rfl);exact ag;(iterate 3 exact rfl);(with_reducible assumption);refine ya ?_)
 (apply nR;((exact gm.none));((exact qH));((exact UE));exact rfl)
theorem HX (hs:Nat→Value) (ls:Nat→List Int) (k:Nat) (hl:(ls k).length≤1000000) (h0:0<(ls k).length):oP Tryz.prog 66 11 [(7,some (.fb 3 (kK hs ls)))] [.pv (.lit (hs k))] [(7,some (.fb 3 (kK hs ls)))] (.pv (ke (ls k))):=by
 refine oP.enter (n:=8) Tryz.func66 rfl rfl rfl rfl rfl (by decide) rfl rfl fun g fp fl=>?_;refine s9 ?_
 (refine CB ?_;(with_reducible apply a_.HK 7);(iterate 7 exact rfl);omega;refine aB ?_;refine nY ?_;refine zq ?_;refine a_.TE rfl rfl rfl rfl rfl ?_;refine Q0 ?_;refine zm ?_;(with_reducible apply a_.Dy 7);(iterate 11 exact rfl);(simp only[List.length_nil];omega);refine aB ?_;refine xV ?_)
 (apply iJ;((exact gm.one (.tmp rfl rfl)));((refine⟨.B3 rfl (by first|with_reducible rfl|(rfl)),?_⟩;exact vM));((refine⟨.fb rfl (by first|with_reducible rfl|(rfl)),?_⟩;exact trivial));exact rfl)
theorem Ik (s:SR) (hl:(s.cl s.nc).length≤1000000) (hp:s.proof.length≤1000000) (h0:0<(s.cl s.nc).length):oP Tryz.prog 93 11 (ie s) [.ptr 0 0,.pv (.lit (s.hc s.nc))] (ie {s with proof:=s.proof++ [s.cl s.nc]}) (.gY []):=by
 have hc:=HX s.hc s.cl s.nc hl h0
 simp only[ie,ij]
 refine oP.enter (n:=16) Tryz.func93 rfl rfl rfl rfl rfl (by decide) rfl rfl fun g fp fl=>?_;refine s9 ?_
 (refine AW.gg [5] [6] rfl (by assumption) aI aI rfl ?_;show a_ .held _ _ _ [_] _ _;refine zm ?_;refine Q3 ?_;intro k_ iE;refine Q0 ?_;(refine AR.free 0 aI rfl rfl rfl (by first|exact fS.fN rfl rfl|exact fS.iD rfl rfl|exact fS.nilCheck rfl rfl) ?_);(refine AR.free 1 aI rfl rfl rfl (by first|exact fS.fN rfl rfl|exact fS.iD rfl rfl|exact fS.nilCheck rfl rfl) ?_);(refine AR.free 2 aI rfl rfl rfl (by first|exact fS.fN rfl rfl|exact fS.iD rfl rfl|exact fS.nilCheck rfl rfl) ?_);apply AR.cut [2,1,0,5,3,4,6,7,8];intro kv;apply AR.cut [2,1,0,5,3,4,6,7];intro ly;(refine AR.m_ (i:=3) (j:=6) rfl aI rfl rfl aI ?_ ?_<;>intro g_ b_ eT);refine Mh ?_;(refine AR.m_ (i:=4) (j:=6) rfl aI rfl rfl aI ?_ ?_<;>intro g_ b_ eT);refine zb ?_;refine xr ?_;intro g_ b_ eT;refine S7 ?_;refine aB ?_;refine aB ?_;exact ss;refine S7 ?_;refine aB ?_;(refine AR.fG (i:=4) (j:=8) rfl aI rfl rfl aI ?_ ?_<;>intro g_ b_ eT);refine n7 ?_;refine aB ?_;refine AR.meet ly aI (fun g_=>fe rfl ?_ ?_ rfl);exact E2;refine Ix ?_;exact trivial;refine Mr ?_;refine HL ?_;intro g_ b_ eT;refine n7 ?_;refine aB ?_;exact pE;refine S7 ?_;refine aB ?_;(refine AR.fG (i:=3) (j:=8) rfl aI rfl rfl aI ?_ ?_<;>intro g_ b_ eT);refine Mh ?_;(refine AR.fG (i:=4) (j:=8) rfl aI rfl rfl aI ?_ ?_<;>intro g_ b_ eT);refine n7 ?_;refine aB ?_;refine AR.meet ly aI (fun g_=>fe rfl ?_ ?_ rfl);exact E2;refine Ix ?_;exact trivial;refine Mr ?_;refine HL ?_;intro g_ b_ eT;refine n7 ?_;refine aB ?_;refine AR.meet kv aI (fun g_=>fe rfl ?_ ?_ rfl);exact FJ;exact DN;refine Mr ?_;refine AR.im (i:=3) rfl aI rfl aI ?_;intro g_ b_ eT;refine Mh ?_;refine HL ?_;intro g_ b_ eT;refine n7 ?_;refine aB ?_;refine AR.meet kv aI (fun g_=>fe rfl ?_ ?_ rfl);exact FJ;exact DN;refine vS ?_;intro g_ b_ eT;refine Mr ?_;refine aB ?_;refine AR.meet kv aI (fun g_=>fe rfl ?_ ?_ rfl);exact FJ;exact DN;refine wL ?_;intro g_ b_ eT;(with_reducible apply a_.fD);exact rfl;exact ah;(iterate 9 exact rfl);exact aa;refine oy ?_;refine yx ?_;intro g_ b_ eT;refine vy ?_;refine uo ?_;intro g_ b_ eT;refine Mh ?_;refine AM ?_;intro g_ b_ eT;(with_reducible apply a_.gy);(iterate 5 exact rfl);exact ag;(iterate 3 exact rfl);(with_reducible assumption);refine ya ?_)
 (apply nR;((exact gm.none));((exact qH));((exact UE));exact rfl)
end Go.Ab
/- The solver's invariant,in plain terms:the trail. -/
namespace Go.Ab
open Go Go.Proofs
def lX (n:Nat) (L:List Int):List Int:=(List.range (n+1)).map fun v:Nat=>if (v:Int)∈L then 1 else if -(v:Int)∈L then -1 else 0
structure kd (n:Nat) (L:List Int):Prop where
 zK:∀x∈L,x≠0∧ -(n:Int)≤x∧x≤n
 nd:(L.map fk).Nodup
theorem gO (x:Int):fk (-x)=fk x:=by unfold fk;omega
theorem G6 {x y:Int}:fk x=fk y↔x=y∨x= -y:=by unfold fk;omega
theorem jS {n:Nat} {x:Int} (h:x≠0∧ -(n:Int)≤x∧x≤n):1≤fk x∧fk x≤n:=by unfold fk;omega
theorem kE (n:Nat) (L:List Int):(lX n L).length=n+1:=by simp [lX]
theorem uw {n v:Nat} (L:List Int) (h:v≤n):(lX n L).getD v 0=if (v:Int)∈L then 1 else if -(v:Int)∈L then -1 else 0:=by
 unfold lX
 rw[c6,List.getElem?_map,List.getElem?_range aJ];rfl
theorem kd.once {n:Nat} {L:List Int} (h:kd n L) {x y:Int} (hx:x∈L) (hy:y∈L) (hv:fk x=fk y):x=y:=by
 obtain⟨i,hi,rfl⟩:=da hx
 obtain⟨j,hj,rfl⟩:=da hy
 have:i=j:=(dr h.nd (h₀:=by simpa using hi) (h₁:=by simpa using hj)).1 (by simpa using hv)
 subst this;rfl
theorem kd.oY {n:Nat} {L:List Int} (h:kd n L) {x:Int} (hx:x∈L): -x∉L:=fun hn=>by
 have:=h.once hx hn (gO x).symm
 have:=(h.zK x hx).1
 omega
theorem Lt {n:Nat} {L:List Int} {x:Int} (hx:x≠0∧ -(n:Int)≤x∧x≤n) (h:kd n L):Xk (lX n L) x=if x∈L then 1 else if -x∈L then -1 else 0:=by
 unfold Xk
 by_cases hn:x<0
 ·rw[if_pos hn,uw L aJ,show(((-x).toNat:Nat):Int)= -x by omega,dt]
  by_cases h1:x∈L
  ·rw[if_neg (h.oY h1),if_pos h1,if_pos h1];rfl
  ·by_cases h2: -x∈L
   ·rw[if_pos h2,if_neg h1,if_pos h2]
   ·rw[if_neg h2,if_neg h1,if_neg h1,if_neg h2];rfl
 ·rw[if_neg hn,uw L aJ,show((x.toNat:Nat):Int)=x by omega]
theorem Dm {n:Nat} {L:List Int}:∀y∈lX n L,-1≤y∧y≤1:=by
 intro y hy
 unfold lX at hy
 obtain⟨v,_,rfl⟩:=bx.1 hy
 split
 ·omega
 ·split<;>omega
theorem vb:∀(n:Nat) {l:List Nat},l.Nodup→(∀x∈l,1≤x∧x≤n)→l.length≤n:=by
 intro n
 induction n with
 |zero=>intro l _ h;cases l with|nil=>simp|cons x l=>have:=h x (by simp);omega
 |succ n ih=>
  intro l hn h
  have h1:=ih (l:=l.erase (n+1)) (hn.erase _) (fun x hx=>by
   have h2:=h x (List.mem_of_mem_erase hx)
   have h3:x≠n+1:=fun e=>by subst e;exact(List.Nodup.not_mem_erase hn) hx
   omega)
  have:=List.length_erase (a:=n+1) (l:=l)
  split at this<;>omega
theorem kd.len {n:Nat} {L:List Int} (h:kd n L):L.length≤n:=by
 have:=vb n h.nd fun v hv=>by
  obtain⟨x,hx,rfl⟩:=bx.1 hv
  exact jS (h.zK x hx)
 simpa using this
theorem kd.push {n:Nat} {L:List Int} (h:kd n L) {x:Int} (hx:x≠0∧ -(n:Int)≤x∧x≤n) (h1:x∉L) (h2: -x∉L):kd n (L++ [x]) where
 zK:=fun y hy=>by
  rcases bX.1 hy with hy|hy
  ·exact h.zK y hy
  ·rw[cq.1 hy];exact hx
 nd:=by
  rw[cR,cp]
  refine⟨h.nd,by simp,fun v hv w hw=>?_⟩
  obtain⟨y,hy,rfl⟩:=bx.1 hv
  simp at hw
  subst hw
  intro e
  rcases G6.1 e with rfl|rfl
  ·exact h1 hy
  ·exact h2 hy
theorem AS {n:Nat} {L:List Int} {x:Int} (hx:x≠0∧ -(n:Int)≤x∧x≤n) (h1:x∉L) (h2: -x∉L):(lX n L).set (fk x) (sq x)=lX n (L++ [x]):=by
 apply cN (by simp [lX])
 intro v q1 q2
 have hv:v≤n:=by simp [lX] at q1;omega
 rw[du]
 simp only[lX,dg,dv,bX,cq]
 unfold sq
 by_cases e:fk x=v
 ·rw[if_pos e]
  unfold fk at e
  by_cases hn:x<0
  ·have e1:x= -(v:Int):=by omega
   rw[if_pos hn,if_neg (fun h=>h.elim (fun h=>h2 (by rw[e1,dt];exact h)) (fun h=>by omega)),if_pos (.inr e1.symm)]
  ·have e1:x=(v:Int):=by omega
   rw[if_neg hn,if_pos (.inr e1.symm)]
 ·rw[if_neg e]
  unfold fk at e
  have e1:¬(v:Int)=x:=by omega
  have e2:¬ -(v:Int)=x:=by omega
  simp only[e1,e2,or_false]
theorem I4 {l:List Int} {v:List Int} {j:Nat} (hj:j<(zeroV v l).length):(zeroV v l)[j]=if j∈l.map fk then 0 else v[j]'(by rw[rX] at hj;exact hj):=by
 unfold zeroV at hj ⊢
 induction l generalizing v with
 |nil=>simp
 |cons x l ih=>
  simp only[ct] at hj ⊢
  rw[ih hj,du]
  simp only[bB,bw]
  by_cases h1:j∈l.map fk
  ·rw[if_pos h1,if_pos (.inr h1)]
  ·rw[if_neg h1]
   by_cases h2:fk x=j
   ·rw[if_pos h2,if_pos (.inl h2.symm)]
   ·rw[if_neg h2,if_neg (fun h=>h.elim (fun h=>h2 h.symm) h1)]
theorem Ij {n:Nat} {L:List Int} (h:kd n L) (m:Nat):zeroV (lX n L) (L.drop m)=lX n (L.take m):=by
 apply cN (by rw[rX];simp [lX])
 intro v q1 q2
 have hv:v≤n:=by simp [lX] at q2;omega
 rw[I4 q1]
 simp only[lX,dg,dv]
 have RK:∀y,y∈L↔y∈L.take m∨y∈L.drop m:=fun y=>by conv=>lhs;rw[← dw m L,bX]
 have B0:∀{y z},y∈L.take m→z∈L.drop m→fk y≠fk z:=fun {y z} hy hz e=>by
  have jg:=h.nd
  rw[← dw m L,cR,cp] at jg
  exact jg.2.2 _ (dx hy) _ (dx hz) e
 have Ew:fk (v:Int)=v:=by unfold fk;omega
 have Am:fk (-(v:Int))=v:=by unfold fk;omega
 by_cases h1:v∈(L.drop m).map fk
 ·rw[if_pos h1]
  obtain⟨z,hz,e⟩:=bx.1 h1
  rw[if_neg (fun hh=>B0 hh hz (by rw[e,Ew])),if_neg (fun hh=>B0 hh hz (by rw[e,Am]))]
 ·rw[if_neg h1]
  have g1:(v:Int)∉L.drop m:=fun hh=>h1 (bx.2 ⟨_,hh,Ew⟩)
  have g2: -(v:Int)∉L.drop m:=fun hh=>h1 (bx.2 ⟨_,hh,Am⟩)
  simp only[RK,g1,g2,or_false]
theorem kd.take {n:Nat} {L:List Int} (h:kd n L) (m:Nat):kd n (L.take m):=⟨fun x hx=>h.zK x (cQ hx),by rw[cS];exact h.nd.sublist (List.take_sublist _ _)⟩
end Go.Ab
/- The solver's invariant,in plain terms:clauses,watches,levels,reasons. -/
namespace Go.Ab
open Go Go.Proofs
abbrev Lit (n:Nat) (x:Int):Prop:=x≠0∧ -(n:Int)≤x∧x≤n
abbrev c0 (c:List Int):Int:=c.getD 0 0
abbrev c1 (c:List Int):Int:=c.getD 1 0
def fh (s:SR) (x:Int):Int:=s.level.getD (fk x) 0
structure fY (n:Nat) (s:SR):Prop where
 hn:n≤20000
 iU:kd n (s.ll 0)
 val:s.value=lX n (s.ll 0)
 lvl:s.level.length=n+1
 pH:s.reason.length=n+1
 hd:0≤s.head∧s.head≤((s.ll 0).length:Int)
 oW:∀m∈s.marks,0≤m∧m≤s.head
 nM:∀i (h:i<(s.ll 0).length),fh s (s.ll 0)[i]=(s.marks.countP fun m=>decide (m≤(i:Int)):Nat)
 cls:∀j,j<s.nc→2≤(s.cl j).length∧(s.cl j).Nodup∧∀x∈s.cl j,Lit n x
 fresh:∀j,s.nc≤j→s.cl j=[]∧s.hc j=.slice none 0 0
 nc:s.nc≤100000
 nw:s.nw=2*n+2
 wt:∀x,Lit n x→∀e∈s.wl (eX x).toNat,∃j:Nat,j<s.nc∧e=(j:Int)∧(c0 (s.cl j)=x∨c1 (s.cl j)=x)
 sJ:∀k,(s.wl k).Nodup
 sH:∀j,j<s.nc→(j:Int)∈s.wl (eX (c0 (s.cl j))).toNat∧(j:Int)∈s.wl (eX (c1 (s.cl j))).toNat
 two:∀j,j<s.nc→∀w w',(w=c0 (s.cl j)∧w'=c1 (s.cl j))∨(w=c1 (s.cl j)∧w'=c0 (s.cl j))→ -w∈(s.ll 0).take s.head.toNat→w'∈s.ll 0∧fh s w'≤fh s w
 qK:s.marks.Pairwise (·≤·)
 q7:∀i (h:i<(s.ll 0).length),(s.reason.getD (fk (s.ll 0)[i]) 0= -1∧((i:Int)∈s.marks∨fh s (s.ll 0)[i]=0))∨∃j:Nat,j<s.nc∧s.reason.getD (fk (s.ll 0)[i]) 0=(j:Int)∧(s.ll 0)[i]∈s.cl j∧∀y∈s.cl j,y≠(s.ll 0)[i]→ -y∈(s.ll 0).take i
theorem iw {n:Nat} {x y:Int} (hx:Lit n x) (hy:Lit n y) (h:(eX x).toNat=(eX y).toNat):x=y:=by
 unfold eX at h;split at h<;>split at h<;>omega
theorem gT {n:Nat} {x:Int} (hx:Lit n x):0≤eX x∧(eX x).toNat<2*n+2:=by
 unfold eX;split<;>omega
structure mb (c d:List Int):Prop where
 len:d.length=c.length
 nd:c.Nodup→d.Nodup
 mem:∀x,x∈d↔x∈c
theorem km {c:List Int} (h:2≤c.length):c0 c∈c∧c1 c∈c:=by
 constructor
 ·rw[show c0 c=c[0] from fJ aJ];exact cY _
 ·rw[show c1 c=c[1] from fJ aJ];exact cY _
theorem swap_perm {c:List Int} {i k:Nat} (hi:i<c.length) (hk:k<c.length):((c.set i c[k]).set k c[i]).Perm c:=by
 by_cases e:i=k
 ·subst e;simp
 ·exact List.set_set_perm hi hk
theorem pK {c:List Int} {i k:Nat} (hi:i<c.length) (hk:k<c.length):mb c ((c.set i c[k]).set k c[i]):=
 ⟨by simp,fun h=>(swap_perm hi hk).nodup_iff.2 h,fun x=>(swap_perm hi hk).mem_iff⟩
theorem fY.swap {n:Nat} {s:SR} (h:fY n s) {j:Nat} (hj:j<s.nc) {d:List Int} (hp:mb (s.cl j) d) (h0:c0 d=c1 (s.cl j)) (h1:c1 d=c0 (s.cl j)):fY n {s with cl:=e_ s.cl j d} where
 hn:=h.hn
 iU:=h.iU
 val:=h.val
 lvl:=h.lvl
 pH:=h.pH
 hd:=h.hd
 oW:=h.oW
 qK:=h.qK
 nM:=h.nM
 cls:=fun k hk=>by
  show 2≤(e_ s.cl j d k).length∧(e_ s.cl j d k).Nodup∧∀x∈e_ s.cl j d k,Lit n x
  by_cases e:k=j
  ·subst e
   rw[e7]
   obtain⟨q1,q2,q3⟩:=h.cls k hk
   exact⟨by rw[hp.len];exact q1,hp.nd q2,fun x hx=>q3 x ((hp.mem x).1 hx)⟩
  ·rw[fC _ _ e];exact h.cls k hk
 fresh:=fun k hk=>by
  have hk:s.nc≤k:=hk
  have:=h.fresh k hk
  exact⟨by show e_ s.cl j d k=[];rw[fC _ _ aJ];exact this.1,this.2⟩
 nc:=h.nc
 nw:=h.nw
 wt:=fun x hx e he=>by
  obtain⟨k,hk,rfl,hw⟩:=h.wt x hx e he
  refine⟨k,hk,rfl,?_⟩
  show c0 (e_ s.cl j d k)=x∨c1 (e_ s.cl j d k)=x
  by_cases e:k=j
  ·subst e;rw[e7,h0,h1];exact hw.symm
  ·rw[fC _ _ e];exact hw
 sJ:=h.sJ
 sH:=fun k hk=>by
  show(k:Int)∈s.wl (eX (c0 (e_ s.cl j d k))).toNat∧(k:Int)∈s.wl (eX (c1 (e_ s.cl j d k))).toNat
  by_cases e:k=j
  ·subst e;rw[e7,h0,h1];exact(h.sH k hk).symm
  ·rw[fC _ _ e];exact h.sH k hk
 two:=fun k hk w w' hw=>by
  have hw:(w=c0 (e_ s.cl j d k)∧w'=c1 (e_ s.cl j d k))∨(w=c1 (e_ s.cl j d k)∧w'=c0 (e_ s.cl j d k)):=hw
  refine h.two k hk w w' ?_
  by_cases e:k=j
  ·subst e;rw[e7,h0,h1] at hw;exact hw.symm
  ·rw[fC _ _ e] at hw;exact hw
 q7:=fun i hi=>by
  rcases h.q7 i hi with q|⟨k,q1,q2,q3,q4⟩
  ·exact .inl q
  ·refine .inr ⟨k,q1,q2,?_,?_⟩
   ·show(s.ll 0)[i]∈e_ s.cl j d k
    by_cases e:k=j
    ·subst e;rw[e7];exact(hp.mem _).2 q3
    ·rw[fC _ _ e];exact q3
   ·show ∀y∈e_ s.cl j d k,y≠(s.ll 0)[i]→ -y∈(s.ll 0).take i
    by_cases e:k=j
    ·subst e;rw[e7];exact fun y hy=>q4 y ((hp.mem y).1 hy)
    ·rw[fC _ _ e];exact q4
theorem fY.move {n:Nat} {s:SR} (h:fY n s) {j:Nat} (hj:j<s.nc) {d:List Int} {g y:Int} (hp:mb (s.cl j) d) (hg:c1 (s.cl j)=g) (hgf: -g∈s.ll 0) (h0:c0 d=c0 (s.cl j)) (h1:c1 d=y) (JC:y≠g) (SK:y≠c0 (s.cl j)) (Zc: -y∉s.ll 0) {E E':List Int} (hE:s.wl (eX g).toNat=E) (hE':∀e,e∈E'↔e∈E∧e≠(j:Int)) (jg:E'.Nodup) (hv:Nat→Value):
  fY n {s with cl:=e_ s.cl j d,hw:=hv,wl:=e_ (e_ s.wl (eX y).toNat (s.wl (eX y).toNat++ [(j:Int)])) (eX g).toNat E'}:=by
 obtain⟨q1,q2,q3⟩:=h.cls j hj
 obtain⟨m0,m1⟩:=km q1
 have Z0:y∈s.cl j:=by
  have:=(km (c:=d) (by rw[hp.len];exact q1)).2
  rw[h1] at this;exact(hp.mem y).1 this
 have y8:Lit n y:=q3 y Z0
 have Cu:Lit n g:=by rw[← hg];exact q3 _ m1
 have gn:(eX y).toNat≠(eX g).toNat:=fun e=>JC (iw y8 Cu e)
 have h0l:Lit n (c0 (s.cl j)):=q3 _ m0
 have hg0:c0 (s.cl j)≠g:=fun e=>by
  rw[show c0 (s.cl j)=(s.cl j)[0] from fJ aJ] at e
  rw[show c1 (s.cl j)=(s.cl j)[1] from fJ aJ,← e] at hg
  have:=(dr q2 (h₀:=by omega) (h₁:=by omega)).1 hg
  omega
 -- j is no watch of y yet
 have hjy:(j:Int)∉s.wl (eX y).toNat:=fun hm=>by
  obtain⟨k,hk,e,hw⟩:=h.wt y y8 _ hm
  have:k=j:=by omega
  subst this
  rcases hw with hw|hw
  ·exact SK hw.symm
  ·exact JC (hw.symm.trans hg)
 have Cs:∀x,Lit n x→∀e,e∈e_ (e_ s.wl (eX y).toNat (s.wl (eX y).toNat++ [(j:Int)])) (eX g).toNat E' (eX x).toNat↔if x=g then (e∈s.wl (eX g).toNat∧e≠(j:Int)) else if x=y then (e∈s.wl (eX y).toNat∨e=(j:Int)) else e∈s.wl (eX x).toNat:=by
  intro x hx e
  by_cases e1:x=g
  ·subst e1;rw[e7,if_pos rfl,hE' e,hE]
  ·rw[fC _ _ (fun q=>e1 (iw hx Cu q)),if_neg e1]
   by_cases e2:x=y
   ·subst e2;rw[e7,if_pos rfl,bX,cq]
   ·rw[fC _ _ (fun q=>e2 (iw hx y8 q)),if_neg e2]
 exact
  {hn:=h.hn,iU:=h.iU,val:=h.val,lvl:=h.lvl,pH:=h.pH,hd:=h.hd,oW:=h.oW,qK:=h.qK,nM:=h.nM
   cls:=fun k hk=>by
    show 2≤(e_ s.cl j d k).length∧(e_ s.cl j d k).Nodup∧∀x∈e_ s.cl j d k,Lit n x
    by_cases e:k=j
    ·subst e
     rw[e7]
     exact⟨by rw[hp.len];exact q1,hp.nd q2,fun x hx=>q3 x ((hp.mem x).1 hx)⟩
    ·rw[fC _ _ e];exact h.cls k hk
   fresh:=fun k hk=>by
    have hk:s.nc≤k:=hk
    have:=h.fresh k hk
    exact⟨by show e_ s.cl j d k=[];rw[fC _ _ aJ];exact this.1,this.2⟩
   nc:=h.nc,nw:=h.nw
   wt:=fun x hx e he=>by
    replace he:=(Cs x hx e).1 he
    show ∃k:Nat,k<s.nc∧e=(k:Int)∧(c0 (e_ s.cl j d k)=x∨c1 (e_ s.cl j d k)=x)
    by_cases e1:x=g
    ·rw[if_pos e1] at he
     subst e1
     obtain⟨k,hk,rfl,hw⟩:=h.wt x hx e he.1
     exact⟨k,hk,rfl,by rw[fC _ _ (by have:=he.2;omega)];exact hw⟩
    ·rw[if_neg e1] at he
     by_cases e2:x=y
     ·rw[if_pos e2] at he
      subst e2
      rcases he with he|rfl
      ·obtain⟨k,hk,rfl,hw⟩:=h.wt x hx e he
       have hkj:k≠j:=by rintro rfl;exact hjy he
       exact⟨k,hk,rfl,by rw[fC _ _ hkj];exact hw⟩
      ·exact⟨j,hj,rfl,by rw[e7];exact .inr h1⟩
     ·rw[if_neg e2] at he
      obtain⟨k,hk,rfl,hw⟩:=h.wt x hx e he
      refine⟨k,hk,rfl,?_⟩
      by_cases e3:k=j
      ·subst e3
       rw[e7,h0,h1]
       rcases hw with hw|hw
       ·exact .inl hw
       ·exact absurd (hw.symm.trans hg) e1
      ·rw[fC _ _ e3];exact hw
   sJ:=fun k=>by
    show(e_ (e_ s.wl (eX y).toNat (s.wl (eX y).toNat++ [(j:Int)])) (eX g).toNat E' k).Nodup
    by_cases e1:k=(eX g).toNat
    ·rw[e1,e7];exact jg
    ·rw[fC _ _ e1]
     by_cases e2:k=(eX y).toNat
     ·rw[e2,e7,cp]
      refine⟨h.sJ _,by simp,fun a ha b hb=>?_⟩
      rw[cq.1 hb]
      rintro rfl
      exact hjy ha
     ·rw[fC _ _ e2];exact h.sJ k
   sH:=fun k hk=>by
    show(k:Int)∈e_ (e_ s.wl (eX y).toNat (s.wl (eX y).toNat++ [(j:Int)])) (eX g).toNat E' (eX (c0 (e_ s.cl j d k))).toNat∧(k:Int)∈e_ (e_ s.wl (eX y).toNat (s.wl (eX y).toNat++ [(j:Int)])) (eX g).toNat E' (eX (c1 (e_ s.cl j d k))).toNat
    have hk:k<s.nc:=hk
    by_cases e3:k=j
    ·subst e3
     rw[e7,h0,h1,Cs _ h0l,Cs _ y8,if_neg hg0,if_neg JC,if_neg (Ne.symm SK),if_pos rfl]
     exact⟨(h.sH k hk).1,.inr rfl⟩
    ·rw[fC _ _ e3]
     obtain⟨p1,p2,p3⟩:=h.cls k hk
     obtain⟨n0,n1⟩:=km p1
     have gen:∀x,Lit n x→(k:Int)∈s.wl (eX x).toNat→(k:Int)∈e_ (e_ s.wl (eX y).toNat (s.wl (eX y).toNat++ [(j:Int)])) (eX g).toNat E' (eX x).toNat:=by
      intro x hx hm
      rw[Cs x hx]
      by_cases e1:x=g
      ·rw[if_pos e1];subst e1;exact⟨hm,by omega⟩
      ·rw[if_neg e1]
       by_cases e2:x=y
       ·rw[if_pos e2];subst e2;exact .inl hm
       ·rw[if_neg e2];exact hm
     exact⟨gen _ (p3 _ n0) (h.sH k hk).1,gen _ (p3 _ n1) (h.sH k hk).2⟩
   two:=fun k hk w w' hw iT=>by
    have hw:(w=c0 (e_ s.cl j d k)∧w'=c1 (e_ s.cl j d k))∨(w=c1 (e_ s.cl j d k)∧w'=c0 (e_ s.cl j d k)):=hw
    have iT: -w∈(s.ll 0).take s.head.toNat:=iT
    by_cases e:k=j
    ·subst e
     rw[e7,h0,h1] at hw
     rcases hw with ⟨rfl,rfl⟩|⟨rfl,rfl⟩
     ·have:=(h.two k hj _ _ (.inl ⟨rfl,rfl⟩) iT).1
      rw[hg] at this
      exact absurd hgf (h.iU.oY this)
     ·exact absurd (cQ iT) Zc
    ·rw[fC _ _ e] at hw;exact h.two k hk w w' hw iT
   q7:=fun i hi=>by
    rcases h.q7 i hi with q|⟨k,q1,q2,q3,q4⟩
    ·exact .inl q
    ·refine .inr ⟨k,q1,q2,?_,?_⟩
     ·show(s.ll 0)[i]∈e_ s.cl j d k
      by_cases e:k=j
      ·subst e;rw[e7];exact(hp.mem _).2 q3
      ·rw[fC _ _ e];exact q3
     ·show ∀y∈e_ s.cl j d k,y≠(s.ll 0)[i]→ -y∈(s.ll 0).take i
      by_cases e:k=j
      ·subst e;rw[e7];exact fun y hy=>q4 y ((hp.mem y).1 hy)
      ·rw[fC _ _ e];exact q4}
end Go.Ab
/- The solver's invariant,in plain terms:a literal pushed,a literal propagated,the kept watches. -/
namespace Go.Ab
open Go Go.Proofs
theorem ja {s:SR} {x r:Int} {h:Value} {y:Int} (gn:fk y≠fk x):fh (fO s x r h) y=fh s y:=by
 unfold fh fO
 simp only
 rw[c6,c6,bH,if_neg (Ne.symm gn)]
theorem nC {n:Nat} {s:SR} (hs:fY n s) {x r:Int} {h:Value} (hx:Lit n x):fh (fO s x r h) x=s.marks.length:=by
 unfold fh fO
 simp only
 have:=jS hx
 rw[c6,bH,if_pos rfl,if_pos (by rw[hs.lvl];omega)];rfl
theorem pN {n:Nat} {L:List Int} {x y:Int} (h1:x∉L) (h2: -x∉L) (hy:y∈L∨ -y∈L):fk y≠fk x:=fun e=>by
 rcases G6.1 e with rfl|rfl
 ·rcases hy with hy|hy
  ·exact h1 hy
  ·exact h2 hy
 ·rcases hy with hy|hy
  ·exact h2 hy
  ·rw[dt] at hy;exact h1 hy
theorem rN {l:List Int} {b:Int} (h:∀m∈l,m≤b):l.countP (fun m=>decide (m≤b))=l.length:=by
 rw[List.countP_eq_length]
 intro m hm
 simpa using h m hm
theorem fY.push {n:Nat} {s:SR} (hs:fY n s) {x r:Int} (h:Value) (hx:Lit n x) (h1:x∉s.ll 0) (h2: -x∉s.ll 0) (hr:(r= -1∧(((s.ll 0).length:Int)∈s.marks∨s.marks=[]))∨∃j:Nat,j<s.nc∧r=(j:Int)∧x∈s.cl j∧∀y∈s.cl j,y≠x→ -y∈s.ll 0):fY n (fO s x r h):=by
 have kY:(fO s x r h).ll 0=s.ll 0++ [x]:=by show e_ s.ll 0 (s.ll 0++ [x]) 0=_;exact e7 _ _ _
 have hold:∀{y},y∈s.ll 0∨ -y∈s.ll 0→fk y≠fk x:=fun hy=>pN (n:=n) h1 h2 hy
 have uG:∀{y},fk y≠fk x→(fO s x r h).reason.getD (fk y) 0=s.reason.getD (fk y) 0:=fun {y} hy=>by
  unfold fO
  simp only
  rw[c6,c6,bH,if_neg (Ne.symm hy)]
 have MW:s.head.toNat≤(s.ll 0).length:=by have:=hs.hd;omega
 exact
  {hn:=hs.hn
   iU:=by rw[kY];exact hs.iU.push hx h1 h2
   val:=by rw[kY];show s.value.set (fk x) (sq x)=_;rw[hs.val];exact AS hx h1 h2
   lvl:=by show(s.level.set _ _).length=_;rw[cM];exact hs.lvl
   pH:=by show(s.reason.set _ _).length=_;rw[cM];exact hs.pH
   hd:=by rw[kY];have:=hs.hd;simp only[bW,c7];exact⟨this.1,by show s.head≤_;omega⟩
   oW:=hs.oW
   qK:=hs.qK
   nM:=fun i hi=>by
    simp only[kY] at hi ⊢
    have jJ:i<(s.ll 0).length+1:=by simpa using hi
    by_cases e:i<(s.ll 0).length
    ·rw[dy e,ja (hold (.inl (cY e)))]
     exact hs.nM i e
    ·have e2:i=(s.ll 0).length:=by omega
     subst e2
     rw[dz (aP _)]
     simp only[dA,dB]
     rw[nC hs hx]
     show _=((s.marks.countP _:Nat):Int)
     rw[rN fun m hm=>by have:=hs.oW m hm;have:=hs.hd;omega]
   cls:=hs.cls,fresh:=hs.fresh,nc:=hs.nc,nw:=hs.nw,wt:=hs.wt,sJ:=hs.sJ,sH:=hs.sH
   two:=fun j hj w w' hw iT=>by
    have iT: -w∈((fO s x r h).ll 0).take s.head.toNat:=iT
    rw[kY,cW MW] at iT
    obtain⟨q1,q2⟩:=hs.two j hj w w' hw iT
    rw[kY,ja (hold (.inl q1)),ja (hold (.inr (cQ iT)))]
    exact⟨bX.2 (.inl q1),q2⟩
   q7:=fun i hi=>by
    simp only[kY] at hi ⊢
    have jJ:i<(s.ll 0).length+1:=by simpa using hi
    by_cases e:i<(s.ll 0).length
    ·rw[dy e,uG (hold (.inl (cY e))),cW aJ,ja (hold (.inl (cY e)))]
     exact hs.q7 i e
    ·have e2:i=(s.ll 0).length:=by omega
     subst e2
     rw[dz (aP _)]
     simp only[dA,dB]
     have e3:(fO s x r h).reason.getD (fk x) 0=r:=by
      have:=jS hx
      unfold fO
      simp only
      rw[c6,bH,if_pos rfl,if_pos (by rw[hs.pH];omega)];rfl
     rw[e3,cW (aP _),c8,nC hs hx]
     rcases hr with ⟨q1,q2⟩|q
     ·refine .inl ⟨q1,q2.imp id fun q=>?_⟩
      rw[q];rfl
     ·exact .inr q}
theorem fY.done {n:Nat} {s:SR} (hs:fY n s) (hh:s.head.toNat<(s.ll 0).length) {g:Int} (hg:g= -(s.ll 0)[s.head.toNat]) (hE:∀e∈s.wl (eX g).toNat,∃j:Nat,j<s.nc∧e=(j:Int)∧c1 (s.cl j)=g∧c0 (s.cl j)∈s.ll 0):fY n {s with head:=s.head+1}:=by
 have hh0:=hs.hd
 have Xf: -g∈s.ll 0:=by rw[hg,dt];exact cY hh
 have hlg:fh s g=s.marks.length:=by
  have e:fh s g=fh s (s.ll 0)[s.head.toNat]:=by unfold fh;rw[hg,gO]
  rw[e,hs.nM _ hh,rN fun m hm=>by have:=hs.oW m hm;omega]
 have hle:∀y∈s.ll 0,fh s y≤s.marks.length:=fun y hy=>by
  obtain⟨i,hi,rfl⟩:=da hy
  rw[hs.nM i hi]
  have:=List.countP_le_length (p:=fun m=>decide (m≤(i:Int))) (l:=s.marks)
  omega
 exact
  {hn:=hs.hn,iU:=hs.iU,val:=hs.val,lvl:=hs.lvl,pH:=hs.pH
   hd:=⟨by show 0≤s.head+1;omega,by show s.head+1≤((s.ll 0).length:Int);omega⟩
   oW:=fun m hm=>by have:=hs.oW m hm;exact⟨this.1,by show m≤s.head+1;omega⟩
   qK:=hs.qK
   nM:=hs.nM,cls:=hs.cls,fresh:=hs.fresh,nc:=hs.nc,nw:=hs.nw,wt:=hs.wt,sJ:=hs.sJ,sH:=hs.sH
   two:=fun j hj w w' hw iT=>by
    have iT: -w∈(s.ll 0).take (s.head+1).toNat:=iT
    rw[show(s.head+1).toNat=s.head.toNat+1 by omega,dk hh,bX,cq] at iT
    rcases iT with iT|iT
    ·exact hs.two j hj w w' hw iT
    ·have hwg:w=g:=by rw[hg,← iT,dt]
     subst hwg
     have yH:(j:Int)∈s.wl (eX w).toNat:=by
      rcases hw with ⟨e,_⟩|⟨e,_⟩
      ·rw[e];exact(hs.sH j hj).1
      ·rw[e];exact(hs.sH j hj).2
     obtain⟨k,hk,e,q1,q2⟩:=hE _ yH
     have:k=j:=by omega
     subst this
     have jf:w'=c0 (s.cl k):=by
      rcases hw with ⟨e1,e2⟩|⟨_,e2⟩
      ·exfalso
       obtain⟨p1,p2,_⟩:=hs.cls k hk
       rw[show c0 (s.cl k)=(s.cl k)[0] from fJ aJ] at e1
       rw[show c1 (s.cl k)=(s.cl k)[1] from fJ aJ,e1] at q1
       have:=(dr p2 (h₀:=by omega) (h₁:=by omega)).1 q1
       omega
      ·exact e2
     rw[jf]
     refine⟨q2,?_⟩
     show fh s (c0 (s.cl k))≤fh s w
     rw[hlg]
     exact hle _ q2
   q7:=hs.q7}
theorem uX {R:List Int} {m i:Nat} (hm:m≤i) (hi:i<R.length):(R.set m R[i]).take (m+1)++(R.set m R[i]).drop (i+1)=R.take m++R.drop i:=by
 rw[List.take_set,List.drop_set,if_pos aJ,dk aJ,List.set_append_right _ _ (by simp;omega)]
 simp only[List.length_take]
 rw[Nat.min_eq_left aJ,dA,List.set_cons_zero,dh,List.singleton_append,← dj hi]
theorem drop_one {A B:List Int} {x:Int} (h:(A++x::B).Nodup) (e:Int):e∈A++B↔e∈A++x::B∧e≠x:=by
 have h1:=cp.1 h
 have h2:=cX.1 h1.2.1
 simp only[bX,bw]
 constructor
 ·rintro(h3|h3)
  ·exact⟨.inl h3,fun e'=>h1.2.2 _ h3 x (by simp) e'⟩
  ·exact⟨.inr (.inr h3),fun e'=>h2.1 (e'▸h3)⟩
 ·rintro⟨h3|rfl|h3,h4⟩
  ·exact .inl h3
  ·exact absurd rfl h4
  ·exact .inr h3
theorem Fi {A B:List Int} {x:Int} (h:(A++x::B).Nodup):(A++B).Nodup:=h.sublist (List.Sublist.append_left (List.sublist_cons_self _ _) _)
end Go.Ab
