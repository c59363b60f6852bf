/- Chapter 23: the checker's answers; the laws' limits. -/
import Derived.Test.YtigjjjpcjnifhaaAtU6
import Derived.Test.YtigjjjpcjnifhaaAbZ
import Derived.Test.YtigjjjpcjnifhaaAbL3
import Derived.Test.YtigjjjpcjnifhaaAtC3
import Derived.Test.YtigjjjpcjnifhaaAbL2
import Derived.Test.YtigjjjpcjnifhaaRows
import Derived.Test.YtigjjjpcjnifhaaAbL4
set_option linter.unusedSimpArgs false
set_option linter.unusedVariables false
namespace Go.Ab
open Go Go.Proofs
set_option maxRecDepth 20000
set_option maxHeartbeats 8000000
theorem runC_le (e:EnM):∀(l:List StepM) (s:StM),(runC e s l).2≤l.length
 |[],s=>by rw[runC_nil];exact Nat.le_refl _
 |t::l,s=>by
  unfold runC
  cases stepC e s t with
  |none=>exact Nat.zero_le _
  |some s'=>exact Nat.succ_le_succ (runC_le e l s')
structure InC (v:Int) (cl:List (List Int)) (syms:List (List Int)) (l:List StepM):Prop where
 hv:0≤v∧v≤20000
 hcl:∀c∈cl,withinM v c=true∧c.length≤1000
 len:cl.length≤1000
 hsy:syms.length≤1000∧∀c∈syms,c.length≤1000
 hl:wS l≤900000∧∀t∈l,t.lits.length≤900
 h20:l.length≤20000
theorem InC.ok {v:Int} {cl:List (List Int)} {syms:List (List Int)} {l:List StepM} (h:InC v cl syms l):StOk 1000 (startC v cl):=⟨h.hv,h.hcl,h.len⟩
theorem InC.f {v:Int} {cl:List (List Int)} {syms:List (List Int)} {l:List StepM} (h:InC v cl syms l):FOk v cl:=h.ok.f (by omega)
attribute [local irreducible] AW AOps thenD inBlockD AR iterEnds roundEndsN inlEnds noGotoD canon sortL compL compZ metB imgL withinM symOk refImplM runC stepC
theorem refutes_fn (v:Int) (cl:List (List Int)) (syms:List (List Int)) (l:List StepM) (h:InC v cl syms l):
  Fn Try.prog 9 [fml v cl,.pv (intss syms),.pv (steps l)] (litB (decide ((runC ⟨v,cl,syms⟩ (startC v cl) l).2=l.length) && (runC ⟨v,cl,syms⟩ (startC v cl) l).1.ref)):=by
 have hr:=run_fn v cl syms l h.ok h.hsy h.hl
 have hle:=runC_le ⟨v,cl,syms⟩ l (startC v cl)
 have hl:=h.h20
 generalize runC ⟨v,cl,syms⟩ (startC v cl) l=R at hr hle ⊢
 obtain⟨⟨sv,scl,rf⟩,n⟩:=R
 simp only at hr hle ⊢
 by_cases he:n=l.length
 ·have he':(n:Int)=l.length:=by omega
  rw[decide_eq_true he,Bool.true_and]
  refine Fn.enter (n:=29) Try.func9 rfl rfl rfl rfl rfl (by decide) fun g hro_ hwt_=>?_;(try refine nz ?_)
  (refine Q155 ?_;refine zm ?_;refine Q184 ?_;refine AOps.eql rfl rfl rfl rfl rfl ?_;refine zm ?_;refine zt ?_;refine AOps.move_rptr rfl rfl rfl ?_;refine zt ?_;refine AOps.nilCheck_rptr rfl rfl rfl ?_;refine zt ?_;refine AOps.fieldAddr_rN 56 4 5 1 rfl rfl rfl rfl ?_;refine nz ?_;refine zt ?_;refine zr ?_;refine zT ?_;refine Q28 ?_)
  (apply ends_ret;(exact Res.one (.tmp rfl rfl));(refine Le.litB ?_;(rfl)))
 ·have he':¬(n:Int)=l.length:=by omega
  rw[decide_eq_false he,Bool.false_and]
  refine Fn.enter (n:=29) Try.func9 rfl rfl rfl rfl rfl (by decide) fun g hro_ hwt_=>?_;(try refine nz ?_)
  (refine Q155 ?_;refine zm ?_;refine Q184 ?_;refine AOps.eql rfl rfl rfl rfl rfl ?_;refine zm ?_;(iterate 4 refine AOps.guardTn rfl rfl rfl rfl rfl rfl (by with_reducible assumption) ?_);refine zF ?_;refine Q28 ?_)
  (apply ends_ret;(exact Res.one (.tmp rfl rfl));(refine Le.litB ?_;(rfl)))
end Go.Ab
/- Chapter 20:what a reason says;the levels' plain part. -/
namespace Go.Ab
open Go Go.Proofs
set_option maxRecDepth 20000
set_option maxHeartbeats 4000000
theorem openFrom_all (tr:List Int):∀(c out r:List Int),openFrom tr c out=some r→(∀y∈out,y∈r)∧∀y∈c,y∉tr∧((-y)∈tr∨y∈r):=by
 intro c
 induction c with
 |nil=>intro out r h;simp only[openFrom,Option.some.injEq] at h;subst h;exact⟨fun y hy=>hy,by simp⟩
 |cons x c ih=>
  intro out r h
  unfold openFrom at h
  split at h
  ·cases h
  ·rename_i hx
   obtain⟨h1,h2⟩:=ih _ _ h
   refine⟨fun y hy=>?_,fun y hy=>?_⟩
   ·refine h1 y ?_
    split
    ·simp [hy]
    ·exact hy
   ·rcases List.mem_cons.1 hy with rfl|hy
    ·refine⟨hx,?_⟩
     by_cases hn:(-y)∈tr
     ·exact .inl hn
     ·refine .inr (h1 y ?_)
      by_cases ho:y∈out
      ·rw[if_neg (by simp [ho])];exact ho
      ·rw[if_pos ⟨hn,ho⟩];simp
    ·exact h2 y hy
theorem statusM_unit {c tr:List Int} (h0:∀x∈c,x≠0) {x:Int} (h:(statusM c tr).1=2) (hx:(statusM c tr).2=x):openFrom tr c []=some [x]:=by
 rw[statusM_open c tr h0] at h hx
 cases ho:openFrom tr c [] with
 |none=>rw[ho] at h;simp [stOf] at h
 |some r=>
  rw[ho] at h hx
  match r,h,hx with
  |[],h,_=>simp [stOf] at h
  |[y],_,hx=>simp [stOf] at hx;rw[hx]
  |_::_::_,h,_=>simp [stOf] at h
def RsI (cl:List (List Int)) (t:Tr):Prop:=∀k,k<t.1.length→0≤t.2.1.getD k 0→
 t.1.getD k 0∈cl.getD (t.2.1.getD k 0).toNat []∧∀y∈cl.getD (t.2.1.getD k 0).toNat [],y≠t.1.getD k 0→(-y)∈t.1.take k
theorem getD_app {α:Type} {l m:List α} {k:Nat} {d:α} (h:k<l.length):(l++m).getD k d=l.getD k d:=by
 simp [List.getD_eq_getElem?_getD,List.getElem?_append_left h]
theorem getD_end {α:Type} {l:List α} {x d:α}:(l++ [x]).getD l.length d=x:=by
 simp [List.getD_eq_getElem?_getD]
theorem take_app {α:Type} {l m:List α} {k:Nat} (h:k≤l.length):(l++m).take k=l.take k:=by
 rw[List.take_append_of_le_length h]
theorem RsI.push {cl:List (List Int)} {t:Tr} (h:RsI cl t) (he:Even t) {x r:Int}
  (hn:0≤r→x∈cl.getD r.toNat []∧∀y∈cl.getD r.toNat [],y≠x→(-y)∈t.1):RsI cl (t.1++ [x],t.2.1++ [r],t.2.2):=by
 intro k hk hr
 have he':t.2.1.length=t.1.length:=he
 simp only[List.length_append,List.length_singleton] at hk
 simp only at hr ⊢
 by_cases hk2:k<t.1.length
 ·rw[getD_app (by omega)] at hr
  rw[getD_app hk2,getD_app (by omega),take_app (by omega)]
  exact h k hk2 hr
 ·have hk3:k=t.1.length:=by omega
  subst hk3
  have e1:(t.2.1++ [r]).getD t.1.length 0=r:=by rw[← he'];exact getD_end
  rw[e1] at hr ⊢
  rw[getD_end,take_app (Nat.le_refl _),List.take_length]
  exact hn hr
theorem RsI.add {cl:List (List Int)} {t:Tr} (h:RsI cl t) (he:Even t) (x:Int):RsI cl (addA t x):=by
 unfold addA
 split
 ·exact h
 ·exact h.push he (fun h=>by omega)
end Go.Ab
/- Chapter 20:how the run ends,in plain terms. -/
namespace Go.Ab
open Go Go.Proofs
set_option maxRecDepth 20000
set_option maxHeartbeats 4000000
theorem statusFrom_cases (tr:List Int):∀(c:List Int) (left:Int),(statusFrom tr c left).1=0∨(statusFrom tr c left).1=1∨(statusFrom tr c left).1=2:=by
 intro c
 induction c with
 |nil=>intro left;unfold statusFrom;split<;>simp
 |cons x c ih=>intro left;unfold statusFrom;split;exact .inl rfl;exact ih _
theorem statusM_cases (c tr:List Int):(statusM c tr).1=0∨(statusM c tr).1=1∨(statusM c tr).1=2:=statusFrom_cases tr c 0
theorem step_cases (t:Tr):∀(cl:List (List Int)) (i:Nat),
  (∃j,∃h:j<cl.length,(statusM cl[j] t.1).1=1∧stepFrom t i cl=((t.1,t.2.1,((i+j:Nat):Int)),false))∨
  (∃j,∃h:j<cl.length,(statusM cl[j] t.1).1=2∧stepFrom t i cl=((t.1++ [(statusM cl[j] t.1).2],t.2.1++ [((i+j:Nat):Int)],t.2.2),true))∨
  ((∀c∈cl,(statusM c t.1).1=0)∧stepFrom t i cl=(t,false)):=by
 intro cl
 induction cl with
 |nil=>intro i;exact .inr (.inr ⟨by simp,rfl⟩)
 |cons c cl ih=>
  intro i
  unfold stepFrom
  rcases statusM_cases c t.1 with h|h|h
  ·rw[if_neg (by omega),if_neg (by omega)]
   rcases ih (i+1) with ⟨j,hj,h1,h2⟩|⟨j,hj,h1,h2⟩|⟨h1,h2⟩
   ·refine .inl ⟨j+1,by simp;omega,by simpa using h1,?_⟩
    rw[show((i:Int)+1)=((i+1:Nat):Int) from by simp,h2,show i+1+j=i+(j+1) from by omega]
   ·refine .inr (.inl ⟨j+1,by simp;omega,by simpa using h1,?_⟩)
    rw[show((i:Int)+1)=((i+1:Nat):Int) from by simp,h2,show i+1+j=i+(j+1) from by omega]
    simp
   ·refine .inr (.inr ⟨?_,?_⟩)
    ·intro d hd
     rcases List.mem_cons.1 hd with rfl|hd
     ·exact h
     ·exact h1 d hd
    ·rw[show((i:Int)+1)=((i+1:Nat):Int) from by simp,h2]
  ·rw[if_pos h]
   exact .inl ⟨0,by simp,by simpa using h,by simp⟩
  ·rw[if_neg (by omega),if_pos h]
   exact .inr (.inl ⟨0,by simp,by simpa using h,by simp⟩)
theorem run_ind {vars:Int} {cl:List (List Int)} {assume:List Int} (hv:0≤vars) (hcl:∀c∈cl,withinM vars c=true) (hw:withinM vars assume=true) (hc:contraM assume=false)
  (I:Tr→Prop) (h0:I (startM assume))
  (hs:∀(t:Tr) (j:Nat) (h:j<cl.length) (x:Int),I t→Dist vars t.1→Even t→openFrom t.1 cl[j] []=some [x]→x∈cl[j]→x∉t.1→(-x)∉t.1→I (t.1++ [x],t.2.1++ [(j:Int)],-1)):
  ∃t,I t∧Dist vars t.1∧Even t∧t.2.2= -1∧stepM cl t=(runM vars cl assume,false):=by
 have key:∀(m n:Nat) (t:Tr),(vars+1 - (n:Int)).toNat≤m→RunI vars cl assume t n→I t→∃t,I t∧Dist vars t.1∧Even t∧t.2.2= -1∧stepM cl t=(runM vars cl assume,false):=by
  intro m
  induction m with
  |zero=>intro n t h1 h2 _;have:=h2.fuel hv;omega
  |succ m ih=>
   intro n t h1 h2 h3
   rcases step_cases t cl 0 with ⟨j,hj,h4,h5⟩|⟨j,hj,h4,h5⟩|⟨h4,h5⟩
   ·exact⟨t,h3,h2.dist,h2.even,h2.conf,by rw[h2.stop hv h5];exact h5⟩
   ·have hcj:=withinM_spec (hcl _ (List.getElem_mem hj))
    have hop:=statusM_unit (fun x hx=>(hcj x hx).1) h4 rfl
    have hm:=openFrom_mem t.1 cl[j] [] _ hop (by simp) (statusM cl[j] t.1).2 (by simp)
    have hin:(statusM cl[j] t.1).2∈cl[j]:=by simpa using hm.1
    have h6:=h2.go hv h5 (hcj _ hin) hm.2.1 hm.2.2
    refine ih (n+1) _ ?_ h6 ?_
    ·have:=h2.fuel hv;omega
    ·simpa using hs t j hj _ h3 h2.dist h2.even hop hin hm.2.1 hm.2.2
   ·exact⟨t,h3,h2.dist,h2.even,h2.conf,by rw[h2.stop hv h5];exact h5⟩
 exact key _ 0 _ (Nat.le_refl _) (start_runI hv hw hc) h0
def MA (assume:List Int) (t:Tr):Prop:=(∀x∈assume,x∈t.1)∧∀p∈pr t,p.2<0→p.1∈assume
theorem pr_add {t:Tr} (h:Even t) (x r:Int) (k:Int):pr (t.1++ [x],t.2.1++ [r],k)=pr t++ [(x,r)]:=by
 unfold pr
 show(t.1++ [x]).zip (t.2.1++ [r])=_
 rw[List.zip_append h.symm]
 rfl
theorem ma_start (assume:List Int):MA assume (startM assume):=by
 refine⟨fun x hx=>(startM_mem assume x).2 hx,fun p hp _=>?_⟩
 obtain⟨a,b⟩:=p
 exact(startM_mem assume a).1 (List.of_mem_zip hp).1
theorem mem_pr {t:Tr} (h:Even t) {x:Int} (hx:x∈t.1):∃r,(x,r)∈pr t:=by
 obtain⟨k,hk,rfl⟩:=List.getElem_of_mem hx
 have hk2:k<t.2.1.length:=by rw[h];exact hk
 refine⟨t.2.1[k],?_⟩
 have:(pr t)[k]'(by simp [pr];omega)=(t.1[k],t.2.1[k]):=by simp [pr]
 rw[← this]
 exact List.getElem_mem _
theorem ma_mem {assume:List Int} {t:Tr} (h:MA assume t) (he:Even t) (x:Int):x∈t.1↔x∈assume++(impl (pr t)).map (·.1):=by
 rw[List.mem_append,List.mem_map]
 constructor
 ·intro hx
  obtain⟨r,hr⟩:=mem_pr he hx
  by_cases h0:r<0
  ·exact .inl (h.2 _ hr h0)
  ·exact .inr ⟨(x,r),by unfold impl;rw[List.mem_filter];exact⟨hr,by simp;omega⟩,rfl⟩
 ·rintro(hx|⟨⟨a,b⟩,hp,rfl⟩)
  ·exact h.1 x hx
  ·unfold impl at hp
   rw[List.mem_filter] at hp
   exact(List.of_mem_zip hp.1).1
structure Fin (vars:Int) (cl:List (List Int)) (assume:List Int) (t:Tr):Prop where
 dist:Dist vars t.1
 even:Even t
 mem:∀x,x∈t.1↔x∈assume++(impl (pr t)).map (·.1)
 fin:(t.2.2= -1∧∀c∈cl,(statusM c t.1).1=0)∨∃j,∃h:j<cl.length,t.2.2=(j:Int)∧(statusM cl[j] t.1).1=1
theorem run_fin {vars:Int} {cl:List (List Int)} {assume:List Int} (hv:0≤vars) (hcl:∀c∈cl,withinM vars c=true) (hw:withinM vars assume=true) (hc:contraM assume=false):Fin vars cl assume (runM vars cl assume):=by
 obtain⟨t,h1,h2,h3,h4,h5⟩:=run_ind hv hcl hw hc (MA assume) (ma_start assume) (by
  intro t j hj x h1 h2 h3 _ _ _ _
  refine⟨fun y hy=>List.mem_append.2 (.inl (h1.1 y hy)),fun p hp h0=>?_⟩
  rw[pr_add h3] at hp
  rcases List.mem_append.1 hp with hp|hp
  ·exact h1.2 p hp h0
  ·simp at hp;subst hp;simp at h0;omega)
 have hm:=ma_mem h1 h3
 rcases step_cases t cl 0 with ⟨j,hj,h6,h7⟩|⟨j,hj,h6,h7⟩|⟨h6,h7⟩
 ·have e:runM vars cl assume=(t.1,t.2.1,(j:Int)):=by
   have h8:stepM cl t=((t.1,t.2.1,((0+j:Nat):Int)),false):=h7
   rw[h5] at h8
   simpa using h8
  rw[e]
  exact⟨h2,h3,hm,.inr ⟨j,hj,rfl,h6⟩⟩
 ·have h8:stepM cl t=(_,true):=h7
  rw[h5] at h8
  simp at h8
 ·have e:runM vars cl assume=t:=by
   have h8:stepM cl t=(t,false):=h7
   rw[h5] at h8
   simpa using h8
  rw[e]
  exact⟨h2,h3,hm,.inl ⟨h4,h6⟩⟩
theorem nodup_abs {l:List Int} (h:(l.map Int.natAbs).Nodup) {x y:Int} (hx:x∈l) (hy:y∈l) (e:x.natAbs=y.natAbs):x=y:=by
 induction l with
 |nil=>cases hx
 |cons z l ih=>
  rw[List.map_cons,List.nodup_cons] at h
  rcases List.mem_cons.1 hx with rfl|hx'<;>rcases List.mem_cons.1 hy with rfl|hy'
  ·rfl
  ·exact absurd (e▸List.mem_map.2 ⟨y,hy',rfl⟩) h.1
  ·exact absurd (e▸List.mem_map.2 ⟨x,hx',rfl⟩) h.1
  ·exact ih h.2 hx' hy'
theorem Dist.no {vars:Int} {l:List Int} (h:Dist vars l) {x:Int} (hx:x∈l):(0 - x)∉l:=by
 intro hy
 have:=nodup_abs h.1 hx hy (by omega)
 have:=(h.2 x hx).1
 omega
end Go.Ab
/- Chapter 20:propagation grows with the formula and the assumptions,in plain terms. -/
namespace Go.Ab
open Go Go.Proofs
set_option maxRecDepth 20000
set_option maxHeartbeats 4000000
theorem openFrom_none (tr:List Int):∀(c out:List Int),openFrom tr c out=none→∃y∈c,y∈tr:=by
 intro c
 induction c with
 |nil=>intro out h;simp [openFrom] at h
 |cons x c ih=>
  intro out h
  unfold openFrom at h
  split at h
  ·rename_i hx;exact⟨x,by simp,hx⟩
  ·split at h
   ·obtain⟨y,h1,h2⟩:=ih _ h;exact⟨y,by simp [h1],h2⟩
   ·obtain⟨y,h1,h2⟩:=ih _ h;exact⟨y,by simp [h1],h2⟩
theorem openFrom_nodup (tr:List Int):∀(c out r:List Int),openFrom tr c out=some r→out.Nodup→r.Nodup:=by
 intro c
 induction c with
 |nil=>intro out r h ho;simp only[openFrom,Option.some.injEq] at h;exact h▸ho
 |cons x c ih=>
  intro out r h ho
  unfold openFrom at h
  split at h
  ·cases h
  ·split at h
   ·rename_i h2
    refine ih _ _ h ?_
    rw[List.nodup_append]
    exact⟨ho,by simp,fun a ha b hb=>by simp at hb;subst hb;rintro rfl;exact h2.2 ha⟩
   ·exact ih _ _ h ho
theorem status_zero {vars:Int} {d T:List Int} (hT:Dist vars T) (h0:∀x∈d,x≠0) (h:(statusM d T).1=0) {x:Int} (hx:∀y∈d,y≠x→(-y)∈T):x∈T:=by
 rw[statusM_open d T h0] at h
 cases ho:openFrom T d [] with
 |none=>
  obtain⟨y,h1,h2⟩:=openFrom_none T d [] ho
  by_cases e:y=x
  ·exact e▸h2
  ·have:=hx y h1 e
   exact absurd (by simpa using this) (hT.no h2)
 |some r=>
  have hm:=openFrom_mem T d [] r ho (by simp)
  have hn:=openFrom_nodup T d [] r ho (by simp)
  have hr:∀y∈r,y=x:=by
   intro y hy
   have:=hm y hy
   by_cases e:y=x
   ·exact e
   ·exact absurd (hx y (by simpa using this.1) e) this.2.2
  rw[ho] at h
  rcases r with _|⟨a,_|⟨b,r⟩⟩
  ·simp [stOf] at h
  ·simp [stOf] at h
  ·have e1:=hr a (by simp)
   have e2:=hr b (by simp)
   rw[List.nodup_cons] at hn
   exact absurd (by rw[e1,e2];simp) hn.1
theorem run_ind1 {vars:Int} {cl:List (List Int)} {assume:List Int} (hv:0≤vars) (hcl:∀c∈cl,withinM vars c=true) (hw:withinM vars assume=true) (hc:contraM assume=false)
  (I:List Int→Prop) (h0:I (startM assume).1)
  (hs:∀(t:List Int) (c:List Int) (x:Int),c∈cl→I t→Dist vars t→openFrom t c []=some [x]→x∈c→x∉t→(-x)∉t→I (t++ [x])):I (runM vars cl assume).1:=by
 obtain⟨t,h1,h2,h3,h4,h5⟩:=run_ind hv hcl hw hc (fun t=>I t.1) h0 (by
  intro t j hj x h1 h2 h3 h4 h5 h6 h7
  exact hs t.1 _ x (List.getElem_mem hj) h1 h2 h4 h5 h6 h7)
 rcases step_cases t cl 0 with ⟨j,hj,h6,h7⟩|⟨j,hj,h6,h7⟩|⟨h6,h7⟩
 ·have h8:stepM cl t=((t.1,t.2.1,((0+j:Nat):Int)),false):=h7
  rw[h5] at h8
  rw[(Prod.mk.inj h8).1]
  exact h1
 ·have h8:stepM cl t=(_,true):=h7
  rw[h5] at h8
  simp at h8
 ·have h8:stepM cl t=(t,false):=h7
  rw[h5] at h8
  rw[(Prod.mk.inj h8).1]
  exact h1
theorem status_one {c tr:List Int} (h0:∀x∈c,x≠0) (h:(statusM c tr).1=1):∀y∈c,(-y)∈tr:=by
 rw[statusM_open c tr h0] at h
 cases ho:openFrom tr c [] with
 |none=>rw[ho] at h;simp [stOf] at h
 |some r=>
  rw[ho] at h
  rcases r with _|⟨a,_|⟨b,r⟩⟩
  ·intro y hy
   have:=(openFrom_all tr c [] [] ho).2 y hy
   simpa using this.2
  ·simp [stOf] at h
  ·simp [stOf] at h
end Go.Ab
/- Chapter 20:assignments and what they satisfy. -/
namespace Go.Ab
open Go Go.Proofs
set_option maxRecDepth 20000
set_option maxHeartbeats 4000000
attribute [local irreducible] AW AOps thenD inBlockD iterEnds roundEndsN inlEnds
def litT (v:List Bool) (x:Int):Bool:=if 0<x then v.getD (x - 1).toNat false else if x<0 then !(v.getD (0 - x - 1).toNat false) else false
def trueM (v:List Bool) (c:List Int):Bool:=c.any (litT v)
theorem litT_pos {v:List Bool} {x:Int} (h:0<x) (h2:(x - 1).toNat<v.length):litT v x=v[(x - 1).toNat]:=by
 unfold litT;rw[if_pos h,List.getD_eq_getElem?_getD,List.getElem?_eq_getElem h2];rfl
theorem litT_neg {v:List Bool} {x:Int} (h:x<0) (h2:(0 - x - 1).toNat<v.length):litT v x=!(v[(0 - x - 1).toNat]):=by
 unfold litT;rw[if_neg (by omega),if_pos h,List.getD_eq_getElem?_getD,List.getElem?_eq_getElem h2];rfl
def allM (v:List Bool) (cl:List (List Int)):Bool:=cl.all (trueM v)
def eachM (v:List Bool) (l:List Int):Bool:=l.all (litT v)
end Go.Ab
/- Chapter 20:propagation is sound,in plain terms. -/
namespace Go.Ab
open Go Go.Proofs
set_option maxRecDepth 20000
set_option maxHeartbeats 4000000
theorem litT_not (v:List Bool) {x:Int} (h:x≠0):litT v (-x)=!(litT v x):=by
 unfold litT
 by_cases h0:0<x
 ·rw[if_neg (by omega),if_pos (by omega),if_pos h0,show 0 - -x - 1=x - 1 from by omega]
 ·rw[if_pos (by omega),if_neg h0,if_pos (by omega),show -x - 1=0 - x - 1 from by omega,Bool.not_not]
theorem allM_at {v:List Bool} {cl:List (List Int)} (h:allM v cl=true) {c:List Int} (hc:c∈cl):∃y∈c,litT v y=true:=by
 unfold allM at h
 have:=List.all_eq_true.1 h c hc
 unfold trueM at this
 exact List.any_eq_true.1 this
theorem run_sound {vars:Int} {cl:List (List Int)} {assume:List Int} {v:List Bool} (hv:0≤vars) (hcl:∀c∈cl,withinM vars c=true) (hw:withinM vars assume=true) (hc:contraM assume=false)
  (h:allM v cl=true) (he:eachM v assume=true):(runM vars cl assume).2.2= -1∧∀x∈(runM vars cl assume).1,litT v x=true:=by
 have hz:∀c∈cl,∀x∈c,x≠0:=fun c hc x hx=>(withinM_spec (hcl c hc) x hx).1
 have h1:∀x∈(runM vars cl assume).1,litT v x=true:=by
  refine run_ind1 hv hcl hw hc (fun t=>∀x∈t,litT v x=true) (fun x hx=>?_) ?_
  ·exact List.all_eq_true.1 he x ((startM_mem assume x).1 hx)
  ·intro t c x hc0 hI _ hop hxc _ _
   intro y hy
   rcases List.mem_append.1 hy with hy|hy
   ·exact hI y hy
   ·simp at hy
    subst hy
    obtain⟨z,hz1,hz2⟩:=allM_at h hc0
    rcases((openFrom_all t c [] [y] hop).2 z hz1).2 with h3|h3
    ·have:=hI _ h3
     rw[litT_not v (hz c hc0 z hz1),hz2] at this
     simp at this
    ·simp at h3;exact h3▸hz2
 refine⟨?_,h1⟩
 have hfin:=run_fin hv hcl hw hc
 rcases hfin.fin with ⟨h2,_⟩|⟨j,hj,_,h2⟩
 ·exact h2
 ·obtain⟨z,hz1,hz2⟩:=allM_at h (List.getElem_mem hj)
  have h3:=h1 _ (status_one (hz _ (List.getElem_mem hj)) h2 z hz1)
  rw[litT_not v (hz _ (List.getElem_mem hj) z hz1),hz2] at h3
  simp at h3
theorem contra_each {v:List Bool} {l:List Int} (h0:∀x∈l,x≠0) (h:contraM l=true):eachM v l=false:=by
 unfold contraM at h
 rw[List.any_eq_true] at h
 obtain⟨x,hx,hx2⟩:=h
 have hx3:(0 - x)∈l:=by simpa using hx2
 cases he:eachM v l with
 |false=>rfl
 |true=>
  have h1:=List.all_eq_true.1 he x hx
  have h2:=List.all_eq_true.1 he _ hx3
  rw[Int.zero_sub,litT_not v (h0 x hx),h1] at h2
  simp at h2
theorem sound_law {vars:Int} {cl:List (List Int)} {assume c:List Int} {v:List Bool} (hv:0≤vars) (hcl:∀c∈cl,withinM vars c=true) (hw:withinM vars assume=true) (hwc:withinM vars c=true) (h:allM v cl=true):
  (refImplM vars cl c=true→trueM v c=true)∧(eachM v assume=true→(refPropM vars cl assume).2= -1∧eachM v (refPropM vars cl assume).1=true):=by
 constructor
 ·intro hi
  cases ht:trueM v c with
  |true=>rfl
  |false=>
   have hc0:∀x∈c,x≠0:=fun x hx=>(withinM_spec hwc x hx).1
   have hwn:withinM vars (c.map fun x=>0 - x)=true:=by
    unfold withinM
    rw[List.all_eq_true]
    intro y hy
    obtain⟨x,hx,rfl⟩:=List.mem_map.1 hy
    have:=withinM_spec hwc x hx
    simp;omega
   have he:eachM v (c.map fun x=>0 - x)=true:=by
    unfold eachM
    rw[List.all_eq_true]
    intro y hy
    obtain⟨x,hx,rfl⟩:=List.mem_map.1 hy
    unfold trueM at ht
    have:=List.any_eq_false.1 ht x hx
    rw[Int.zero_sub,litT_not v (hc0 x hx)]
    simpa using this
   cases hcon:contraM (c.map fun x=>0 - x) with
   |true=>
    have:=contra_each (v:=v) (fun y hy=>(withinM_spec hwn y hy).1) hcon
    rw[he] at this;cases this
   |false=>
    have:=(run_sound hv hcl hwn hcon h he).1
    rw[refImplM,if_neg (by rw[hcon];simp),this] at hi
    simp at hi
 ·intro he
  cases hcon:contraM assume with
  |true=>
   have:=contra_each (v:=v) (fun y hy=>(withinM_spec hw y hy).1) hcon
   rw[he] at this;cases this
  |false=>
   have h1:=run_sound hv hcl hw hcon h he
   have hfin:=run_fin hv hcl hw hcon
   rw[refPropM,if_neg (by rw[hcon];simp)]
   refine⟨h1.1,?_⟩
   unfold eachM
   rw[List.all_eq_true]
   exact fun x hx=>h1.2 x ((hfin.mem x).2 (List.mem_append.2 (.inr hx)))
end Go.Ab
/- The laws through the layers:small formulas. -/
namespace Go.Ab
open Go Go.Proofs
open Nat (reduceAdd reduceSub)
set_option maxRecDepth 20000
set_option maxHeartbeats 8000000
attribute [local irreducible] AW AOps thenD inBlockD AR iterEnds roundEndsN inlEnds noGotoD canon sortL compL compZ metB imgL symOk refImplM runC stepC
theorem within20_fn (vars:Int) (l:List Int) (hv: -1000000≤vars∧vars≤1000000):Fn Try.prog 10 [litI vars,.pv (ints l)] (litB (withinM vars l)):=by
 refine Fn.enter (n:=34) Try.func10 rfl rfl rfl rfl rfl (by decide) fun g hro_ hwt_=>?_;(try refine nz ?_)
 refine AW.len_map 1 rfl fun hlen=>?_
 (refine Q173 ?_;refine Q52 ?_;refine Q271 ?_)
 (refine nz ?_;apply AW.loopR [0,1] [] (fun k:Nat=>([(5,litI k)]:List (Nat×AV))) (fun k:Nat=>([]:List (Nat×Option Ob))) (fun k:Nat=>k≤l.length∧withinM vars (l.take k)=true) (fun k:Nat=>l.length - k) (0);(conv=>lhs;simp only[Nf.lpR,Nf.all,Nat.reduceBEq,reduceAdd,reduceSub]);(all_goals skip))
 ·exact⟨Nat.zero_le _,rfl⟩
 ·exact weak rfl (by(refine⟨.eq rfl rfl,?_⟩;(iterate 2 refine⟨.eq rfl rfl,?_⟩);exact trivial)) (by(exact trivial)) rfl
 rintro k ⟨hk,hno⟩
 by_cases hlt:k<l.length
 ·have hs:=within_snoc (vars:=vars) hlt
  rw[hno,Bool.true_and] at hs
  by_cases hb:l[k]≠0∧l[k]≤vars∧0 - vars≤l[k]
  ·obtain⟨b1,b2,b3⟩:=hb
   rw[decide_eq_true ⟨b1,b2,b3⟩] at hs
   have b4:¬l[k]<0 - vars:=by omega
   have b5:¬vars<l[k]:=by omega
   (refine Q254 ?_;(focus ((with_reducible apply AOps.index_map);(iterate 7 exact rfl);rotate_left;omega));refine Q280 ?_;(focus ((with_reducible apply AOps.index_map);(iterate 7 exact rfl);rotate_left;omega));refine zy ?_;refine zr ?_;refine zy ?_;refine zm ?_;refine Q62 ?_;(iterate 3 refine Q154 ?_);(focus ((with_reducible apply AOps.index_map);(iterate 7 exact rfl);rotate_left;omega));refine zy ?_;refine zr ?_;refine zy ?_;refine Q154 ?_;refine AOps.sub rfl rfl rfl rfl rfl (by omega) ?_;refine zy ?_;refine zs ?_;refine zF ?_;refine Q307 ?_;refine Q308 ?_)
   exact⟨k+1,⟨by omega,hs⟩,by omega,weak rfl (by(refine⟨.eq rfl rfl,?_⟩;(iterate 2 refine⟨.eq rfl rfl,?_⟩);exact trivial)) (by(exact trivial)) rfl⟩
  ·have hf:=withinM_no hlt hb
   rw[hf]
   by_cases b1:l[k]=0
   ·(refine Q254 ?_;(focus ((with_reducible apply AOps.index_map);(iterate 7 exact rfl);rotate_left;omega));refine zr ?_;refine AOps.eql rfl rfl rfl rfl rfl ?_;refine zm ?_;(iterate 6 refine AOps.guardFn rfl rfl rfl rfl rfl rfl (by with_reducible assumption) ?_);refine zT ?_;refine zm ?_;(iterate 7 refine AOps.guard_lf rfl rfl rfl rfl rfl rfl rfl ?_);refine AOps.pick_lt rfl rfl rfl rfl rfl rfl ?_;refine Q43 ?_;refine Q195 ?_;refine Q17 ?_)
    all_goals (apply ends_ret;(exact Res.one (.tmp rfl rfl));(refine Le.litB ?_;(first|rfl)))
   ·by_cases b2:vars<l[k]
    ·(refine Q254 ?_;(focus ((with_reducible apply AOps.index_map);(iterate 7 exact rfl);rotate_left;omega));refine Q280 ?_;(focus ((with_reducible apply AOps.index_map);(iterate 7 exact rfl);rotate_left;omega));refine zy ?_;refine zr ?_;refine zy ?_;refine zm ?_;refine Q62 ?_;refine zm ?_;(iterate 7 refine AOps.guardFn rfl rfl rfl rfl rfl rfl (by with_reducible assumption) ?_);refine zT ?_;refine Q43 ?_;refine Q195 ?_;refine Q17 ?_)
     all_goals (apply ends_ret;(exact Res.one (.tmp rfl rfl));(refine Le.litB ?_;(first|rfl)))
    ·have b3:l[k]<0 - vars:=by omega
     (refine Q254 ?_;(focus ((with_reducible apply AOps.index_map);(iterate 7 exact rfl);rotate_left;omega));refine Q280 ?_;(focus ((with_reducible apply AOps.index_map);(iterate 7 exact rfl);rotate_left;omega));refine zy ?_;refine zr ?_;refine zy ?_;refine zm ?_;refine Q62 ?_;(iterate 3 refine Q154 ?_);(focus ((with_reducible apply AOps.index_map);(iterate 7 exact rfl);rotate_left;omega));refine zy ?_;refine zr ?_;refine zy ?_;refine Q154 ?_;refine AOps.sub rfl rfl rfl rfl rfl (by omega) ?_;refine zy ?_;refine zs ?_;refine zF ?_;refine Q185 ?_;refine Q195 ?_;refine Q17 ?_)
     all_goals (apply ends_ret;(exact Res.one (.tmp rfl rfl));(refine Le.litB ?_;(first|rfl)))
 ·rw[take_all (l:=l) (by omega)] at hno
  rw[hno]
  (refine Q111 ?_;refine Q307 ?_;refine Q14 ?_;refine Q195 ?_)
  (apply ends_ret;(exact Res.one (.tmp rfl rfl));(refine Le.litB ?_;(rfl)))
theorem valid20_fn (vars:Int) (cl:List (List Int)):Fn Try.prog 16 [fml vars cl] (litB (validM vars cl)):=by
 by_cases h0:0≤vars∧vars≤20000∧(cl.length:Int)≤60000
 ·obtain⟨h1,h2,h3⟩:=h0
  have g1:¬vars<0:=by omega
  have g2:¬20000<vars:=by omega
  have g3:¬60000<(cl.length:Int):=by omega
  have e:validM vars cl=cl.all (withinM vars):=by unfold validM;rw[decide_eq_true ⟨h1,h2,h3⟩,Bool.true_and]
  rw[e]
  refine Fn.enter (n:=36) Try.func16 rfl rfl rfl rfl rfl (by decide) fun g hro_ hwt_=>?_;(try refine nz ?_)
  (refine Q155 ?_;refine Q80 ?_;refine zs ?_;refine Q227 ?_;refine Q62 ?_;refine Q203 ?_;refine Q116 ?_;refine zo ?_;refine Q52 ?_;refine Q271 ?_)
  (refine nz ?_;apply AW.loopR [1] [0] (fun k:Nat=>([(3,litI k)]:List (Nat×AV))) (fun k:Nat=>([]:List (Nat×Option Ob))) (fun k:Nat=>k≤cl.length∧(cl.take k).all (withinM vars)=true) (fun k:Nat=>cl.length - k) (0);(conv=>lhs;simp only[Nf.lpR,Nf.all,Nat.reduceBEq,reduceAdd,reduceSub]);(all_goals skip))
  ·exact⟨Nat.zero_le _,rfl⟩
  ·exact Q260
  rintro k ⟨hk,hal⟩
  by_cases hlt:k<cl.length
  ·have has:=all_snoc (p:=withinM vars) hlt
   rw[hal,Bool.true_and] at has
   have hw:=within20_fn vars cl[k] (by omega)
   cases hc:withinM vars cl[k] with
   |true=>
    rw[hc] at has hw
    (refine Q214 ?_;refine Q216 ?_;refine Q5 ?_;refine zo ?_;(with_reducible apply AW.regionQ);exact rfl;exact rfl;kernel_rfl;(with_reducible assumption);refine Q80 ?_;refine Q60 ?_;refine zm ?_;(focus ((with_reducible apply AOps.index_map);(iterate 7 exact rfl);rotate_left;omega));refine zr ?_;refine zA (hw) ?_;refine Q145 ?_;refine zm ?_;refine AOps.not rfl rfl rfl ?_;refine Q67 ?_;refine Q308 ?_)
    exact⟨k+1,⟨by omega,has⟩,by omega,weak rfl (by(refine⟨.eq rfl rfl,?_⟩;refine⟨.eq rfl rfl,?_⟩;exact trivial)) (by(refine⟨.box _ rfl ?_,?_⟩;(iterate 2 refine⟨.eq rfl rfl,?_⟩);(iterate 2 exact trivial))) rfl⟩
   |false=>
    rw[hc] at hw
    rw[all_no (p:=withinM vars) hlt hc]
    (refine Q214 ?_;refine Q216 ?_;refine Q5 ?_;refine zo ?_;(with_reducible apply AW.regionQ);exact rfl;exact rfl;kernel_rfl;(with_reducible assumption);refine Q80 ?_;refine Q60 ?_;refine zm ?_;(focus ((with_reducible apply AOps.index_map);(iterate 7 exact rfl);rotate_left;omega));refine zr ?_;refine zA (hw) ?_;refine Q145 ?_;refine zm ?_;refine AOps.not rfl rfl rfl ?_;refine Q43 ?_;refine Q195 ?_;refine Q17 ?_)
    (apply ends_ret;(exact Res.one (.tmp rfl rfl));(refine Le.litB ?_;(rfl)))
  ·rw[take_all (l:=cl) (by omega)] at hal
   rw[hal]
   (refine Q214 ?_;refine Q216 ?_;refine zk ?_;refine Q14 ?_;refine Q195 ?_)
   (apply ends_ret;(exact Res.one (.tmp rfl rfl));(refine Le.litB ?_;(rfl)))
 ·have e:=validM_out (vars:=vars) (cl:=cl) h0
  rw[e]
  by_cases h1:vars<0
  ·refine Fn.enter (n:=36) Try.func16 rfl rfl rfl rfl rfl (by decide) fun g hro_ hwt_=>?_;(try refine nz ?_)
   refine AW.len_agg 0 1 rfl rfl fun hlen=>?_
   (refine Q155 ?_;refine Q80 ?_;refine zs ?_;refine Q332 ?_;refine AOps.pick_lt rfl rfl rfl rfl rfl rfl ?_;refine Q93 ?_)
   (apply ends_ret;(exact Res.one (.tmp rfl rfl));(refine Le.litB ?_;(rfl)))
  ·by_cases h2:20000<vars
   ·refine Fn.enter (n:=36) Try.func16 rfl rfl rfl rfl rfl (by decide) fun g hro_ hwt_=>?_;(try refine nz ?_)
    refine AW.len_agg 0 1 rfl rfl fun hlen=>?_
    (refine Q155 ?_;refine Q80 ?_;refine zs ?_;refine Q227 ?_;refine Q62 ?_;refine zm ?_;refine Q199 ?_;refine Q93 ?_)
    (apply ends_ret;(exact Res.one (.tmp rfl rfl));(refine Le.litB ?_;(rfl)))
   ·have h3:60000<(cl.length:Int):=by omega
    refine Fn.enter (n:=36) Try.func16 rfl rfl rfl rfl rfl (by decide) fun g hro_ hwt_=>?_;(try refine nz ?_)
    refine AW.len_agg 0 1 rfl rfl fun hlen=>?_
    (refine Q155 ?_;refine Q80 ?_;refine zs ?_;refine Q227 ?_;refine Q62 ?_;refine Q203 ?_;refine Q185 ?_;refine Q52 ?_;refine Q153 ?_)
    (apply ends_ret;(exact Res.one (.tmp rfl rfl));(refine Le.litB ?_;(rfl)))
def smallT (v:Int) (cl:List (List Int)):Bool:=decide (v≤8) && decide (cl.length≤40) && cl.all (fun c=>decide (c.length≤12)) && validM v cl
theorem smallT_fn (v:Int) (cl:List (List Int)):Fn Try.prog 7 [fml v cl] (litB (smallT v cl)):=by
 have hva:=valid20_fn v cl
 by_cases h1:v≤8
 ·by_cases h2:cl.length≤40
  ·have e1:smallT v cl=(cl.all (fun c=>decide (c.length≤12)) && validM v cl):=by unfold smallT;rw[decide_eq_true h1,decide_eq_true h2];rfl
   rw[e1]
   refine Fn.enter (n:=29) Try.func7 rfl rfl rfl rfl rfl (by decide) fun g hro_ hwt_=>?_;(try refine nz ?_)
   (refine Q155 ?_;refine Q80 ?_;refine AOps.gtr rfl rfl rfl rfl rfl ?_;refine Q203 ?_;refine Q116 ?_;refine zo ?_;refine Q52 ?_;refine Q271 ?_)
   (refine nz ?_;apply AW.loopR [1] [0] (fun i:Nat=>([(3,litI i)]:List (Nat×AV))) (fun i:Nat=>([]:List (Nat×Option Ob))) (fun i:Nat=>i≤cl.length∧(cl.take i).all (fun c=>decide (c.length≤12))=true) (fun i:Nat=>cl.length - i) (0);(conv=>lhs;simp only[Nf.lpR,Nf.all,Nat.reduceBEq,reduceAdd,reduceSub]);(all_goals skip))
   ·exact⟨Nat.zero_le _,rfl⟩
   ·exact Q260
   rintro i ⟨hi,hal⟩
   by_cases hlt:i<cl.length
   ·have has:=all_snoc (p:=fun c:List Int=>decide (c.length≤12)) hlt
    rw[hal,Bool.true_and] at has
    by_cases hc:cl[i].length≤12
    ·rw[decide_eq_true hc] at has
     (refine Q214 ?_;refine Q216 ?_;refine Q5 ?_;refine Q52 ?_;refine Q60 ?_;refine zm ?_;(focus ((with_reducible apply AOps.index_map);(iterate 7 exact rfl);rotate_left;omega));refine zr ?_;refine zn ?_;refine AOps.gtr rfl rfl rfl rfl rfl ?_;refine Q307 ?_;refine Q308 ?_)
     exact⟨i+1,⟨by omega,has⟩,by omega,weak rfl (by(refine⟨.eq rfl rfl,?_⟩;refine⟨.eq rfl rfl,?_⟩;exact trivial)) (by(refine⟨.box _ rfl ?_,?_⟩;(iterate 2 refine⟨.eq rfl rfl,?_⟩);(iterate 2 exact trivial))) rfl⟩
    ·rw[all_no (p:=fun c:List Int=>decide (c.length≤12)) hlt (decide_eq_false hc),Bool.false_and]
     (refine Q214 ?_;refine Q216 ?_;refine Q5 ?_;refine Q52 ?_;refine Q60 ?_;refine zm ?_;(focus ((with_reducible apply AOps.index_map);(iterate 7 exact rfl);rotate_left;omega));refine zr ?_;refine zn ?_;refine AOps.gtr rfl rfl rfl rfl rfl ?_;refine Q185 ?_;refine Q195 ?_;refine Q17 ?_)
     (apply ends_ret;(exact Res.one (.tmp rfl rfl));(refine Le.litB ?_;(rfl)))
   ·rw[take_all (l:=cl) (by omega)] at hal
    rw[hal,Bool.true_and]
    (refine Q214 ?_;refine Q216 ?_;refine zk ?_;refine Q14 ?_;refine Q52 ?_;refine Q284 ?_;refine zA (hva) ?_;refine Q28 ?_)
    (apply ends_ret;(exact Res.one (.tmp rfl rfl));(refine Le.litB ?_;(rfl)))
  ·have e1:smallT v cl=false:=by unfold smallT;rw[decide_eq_false h2];simp
   rw[e1]
   refine Fn.enter (n:=29) Try.func7 rfl rfl rfl rfl rfl (by decide) fun g hro_ hwt_=>?_;(try refine nz ?_)
   refine AW.len_agg 0 1 rfl rfl fun hlen=>?_
   (refine Q155 ?_;refine Q80 ?_;refine AOps.gtr rfl rfl rfl rfl rfl ?_;refine Q203 ?_;refine Q185 ?_;refine Q52 ?_;refine Q153 ?_)
   (apply ends_ret;(exact Res.one (.tmp rfl rfl));(refine Le.litB ?_;(rfl)))
 ·have e1:smallT v cl=false:=by unfold smallT;rw[decide_eq_false h1];simp
  rw[e1]
  refine Fn.enter (n:=29) Try.func7 rfl rfl rfl rfl rfl (by decide) fun g hro_ hwt_=>?_;(try refine nz ?_)
  (refine Q155 ?_;refine Q80 ?_;refine AOps.gtr rfl rfl rfl rfl rfl ?_;refine zm ?_;(iterate 4 refine AOps.guardFn rfl rfl rfl rfl rfl rfl (by first|omega|decide) ?_);refine zT ?_;refine Q93 ?_)
  (apply ends_ret;(exact Res.one (.tmp rfl rfl));(refine Le.litB ?_;(rfl)))
theorem smallT_parts {v:Int} {cl:List (List Int)} (h:smallT v cl=true):(0≤v∧v≤8)∧cl.length≤40∧∀c∈cl,withinM v c=true∧c.length≤12:=by
 unfold smallT validM at h
 simp only[Bool.and_eq_true,decide_eq_true_eq,List.all_eq_true] at h
 obtain⟨⟨⟨a1,a2⟩,a3⟩,a4,a5⟩:=h
 exact⟨⟨a4.1,a1⟩,a2,fun c hc=>⟨a5 c hc,a3 c hc⟩⟩
end Go.Ab
/- A justified proof is sound,in plain terms. -/
namespace Go.Ab
open Go Go.Proofs
set_option maxRecDepth 20000
set_option maxHeartbeats 4000000
theorem runC_cons {e:EnM} {s s':StM} {t:StepM} {l:List StepM} (h:stepC e s t=some s'):runC e s (t::l)=((runC e s' l).1,(runC e s' l).2+1):=by rw[runC,h]
theorem canon_iff {a b:List Int}:canon a=canon b↔∀x,x∈a↔x∈b:=⟨fun h x=>by rw[← canon_mem (zs:=a),h,canon_mem],fun h=>canon_congr h⟩
theorem litT_app {v w:List Bool} {x:Int} (h:x≤v.length∧0 - (v.length:Int)≤x):litT (v++w) x=litT v x:=by
 unfold litT
 by_cases h1:0<x
 ·rw[if_pos h1,if_pos h1,List.getD_eq_getElem?_getD,List.getD_eq_getElem?_getD,List.getElem?_append_left (by omega)]
 ·rw[if_neg h1,if_neg h1]
  by_cases h2:x<0
  ·rw[if_pos h2,if_pos h2,List.getD_eq_getElem?_getD,List.getD_eq_getElem?_getD,List.getElem?_append_left (by omega)]
  ·rw[if_neg h2,if_neg h2]
theorem trueM_app {v w:List Bool} {c:List Int} (h:withinM v.length c=true):trueM (v++w) c=trueM v c:=by
 have hb:=withinM_spec h
 unfold trueM
 rw[Bool.eq_iff_iff,List.any_eq_true,List.any_eq_true]
 exact⟨fun⟨x,hx,g⟩=>⟨x,hx,by rwa [litT_app (by have:=hb x hx;omega)] at g⟩,fun⟨x,hx,g⟩=>⟨x,hx,by rwa [litT_app (by have:=hb x hx;omega)]⟩⟩
theorem litT_end {v:List Bool} {b:Bool}:litT (v++ [b]) ((v.length:Int)+1)=b:=by
 have e:((v.length:Int)+1 - 1).toNat=v.length:=by omega
 rw[litT_pos (by omega) (by rw[e];simp)]
 simp only[e]
 simp
def extB (v:List Bool) (c:List Int):Bool:=(c.drop 1).all (litT v)
def extN:List Bool→List StepM→List Bool
 |v,[]=>v
 |v,t::l=>extN (if t.kind=3 then v++ [extB v t.lits] else v) l
def extOk:List Bool→List StepM→Bool
 |_,[]=>true
 |v,t::l=>if t.kind=3 then extOk (v++ [extB v t.lits]) l else if t.kind=1∨t.kind=4 then trueM v t.lits && extOk v l else extOk v l
theorem sym_sat {n:Int} {cl:List (List Int)} {sy:List Int} {v:List Bool} (hcl:∀c∈cl,withinM n c=true) (hs:symOk n cl sy=true) (hv:allM v cl=true):((sy.map (litT v)).length:Int)=n∧allM (sy.map (litT v)) cl=true∧∀x:Int,x≠0→x≤n→0 - n≤x→litT (sy.map (litT v)) x=litT v (imgX sy x):=by
 obtain⟨y1,y2⟩:=symOk_facts hs
 have hz:=withinM_spec y2
 have key:∀x:Int,x≠0→x≤n→0 - n≤x→litT (sy.map (litT v)) x=litT v (imgX sy x):=by
  intro x h0 h1 h2
  by_cases hp:0<x
  ·have hl:(x - 1).toNat<sy.length:=by omega
   rw[litT_pos hp (by simpa using hl)]
   unfold imgX
   rw[if_pos hp,List.getD_eq_getElem?_getD,List.getElem?_eq_getElem hl]
   simp
  ·have hl:(0 - x - 1).toNat<sy.length:=by omega
   have e:(-x - 1).toNat=(0 - x - 1).toNat:=by omega
   rw[litT_neg (by omega) (by simpa using hl)]
   have e2:sy.getD (-x - 1).toNat 0=sy[(0 - x - 1).toNat]:=by rw[e,List.getD_eq_getElem?_getD,List.getElem?_eq_getElem hl];rfl
   unfold imgX
   rw[if_neg hp,e2,litT_not v (hz _ (List.getElem_mem hl)).1]
   simp only[List.getElem_map]
 refine⟨by rw[List.length_map];exact y1,?_,key⟩
 unfold allM
 rw[List.all_eq_true]
 intro c hc
 have hsc:cl.all (symC cl sy)=true:=by
  unfold symOk at hs
  simp only[Bool.and_eq_true] at hs
  exact hs.2
 obtain⟨d,hd,hdc⟩:=List.any_eq_true.1 (List.all_eq_true.1 hsc c hc)
 rw[decide_eq_true_eq,canon_iff] at hdc
 obtain⟨y,hy,hyt⟩:=allM_at hv hd
 have hyi:=(hdc y).1 hy
 unfold imgL at hyi
 obtain⟨x,hx,rfl⟩:=List.mem_map.1 hyi
 have hxb:=withinM_spec (hcl c hc) x hx
 unfold trueM
 rw[List.any_eq_true]
 exact⟨x,hx,by rw[key x hxb.1 hxb.2.1 (by omega)];exact hyt⟩
structure SoundC (e:EnM) (s:StM) (K:List StepM):Prop where
 len:∀v:List Bool,(v.length:Int)=e.v0→allM v e.cl0=true→((extN v K).length:Int)=s.vars
 all:∀v:List Bool,(v.length:Int)=e.v0→allM v e.cl0=true→allM (extN v K) s.cl=true
 pre:∀v:List Bool,(v.length:Int)=e.v0→allM v e.cl0=true→∃w,extN v K=v++w
 noref:s.ref=true→∀v:List Bool,(v.length:Int)=e.v0→allM v e.cl0=true→False
theorem extN_app:∀(K:List StepM) (v:List Bool) (t:StepM),extN v (K++ [t])=if t.kind=3 then extN v K++ [extB (extN v K) t.lits] else extN v K
 |[],v,t=>rfl
 |u::K,v,t=>by
  rw[List.cons_append,extN,extN,extN_app K]
theorem allM_snoc {v:List Bool} {cl:List (List Int)} {c:List Int} (h:allM v cl=true) (hc:trueM v c=true):allM v (cl++ [c])=true:=by
 unfold allM at h ⊢
 rw[List.all_append,h];simp [hc]
theorem SoundC.learn {e:EnM} {s:StM} {K:List StepM} {t:StepM} (h:SoundC e s K) (h3:t.kind≠3) (hT:∀v:List Bool,(v.length:Int)=e.v0→allM v e.cl0=true→trueM (extN v K) t.lits=true):SoundC e (addC s t.lits) (K++ [t]) where
 len:=fun v h1 h2=>by rw[extN_app,if_neg h3];exact h.len v h1 h2
 all:=fun v h1 h2=>by rw[extN_app,if_neg h3];exact allM_snoc (h.all v h1 h2) (hT v h1 h2)
 pre:=fun v h1 h2=>by rw[extN_app,if_neg h3];exact h.pre v h1 h2
 noref:=fun hr v h1 h2=>by
  have hr':(s.ref||decide ((t.lits.length:Int)=0))=true:=hr
  rw[Bool.or_eq_true,decide_eq_true_eq] at hr'
  rcases hr' with hr'|hr'
  ·exact h.noref hr' v h1 h2
  ·have:=hT v h1 h2
   have h0:t.lits=[]:=List.eq_nil_of_length_eq_zero (by omega)
   rw[h0] at this
   simp [trueM] at this
theorem sound_step {e:EnM} {B:Nat} {s u:StM} {K:List StepM} {t:StepM} (hcl0:∀c∈e.cl0,withinM e.v0 c=true) (hv0:0≤e.v0) (h:SoundC e s K) (hok:StOk B s) (hs:stepC e s t=some u):
  SoundC e u (K++ [t])∧∀v:List Bool,(v.length:Int)=e.v0→allM v e.cl0=true→(t.kind=1∨t.kind=4)→trueM (extN v K) t.lits=true:=by
 by_cases k1:t.kind=1
 ·rw[stepC_1 k1,learnC] at hs
  split at hs
  ·rename_i c
   cases hs
   have hT:∀v:List Bool,(v.length:Int)=e.v0→allM v e.cl0=true→trueM (extN v K) t.lits=true:=fun v h1 h2=>
    (sound_law (assume:=[]) hok.hv.1 (fun c hc=>(hok.hcl c hc).1) rfl c.2.1 (h.all v h1 h2)).1 c.2.2
   exact⟨h.learn (by omega) hT,fun v h1 h2 _=>hT v h1 h2⟩
  ·cases hs
 by_cases k2:t.kind=2
 ·rw[stepC_2 k2,removeC] at hs
  split at hs
  ·cases hs
   have h3:¬t.kind=3:=by omega
   refine⟨⟨fun v h1 h2=>by rw[extN_app,if_neg h3];exact h.len v h1 h2,fun v h1 h2=>?_,fun v h1 h2=>by rw[extN_app,if_neg h3];exact h.pre v h1 h2,h.noref⟩,fun v _ _ hk=>by omega⟩
   rw[extN_app,if_neg h3]
   have:=h.all v h1 h2
   unfold allM at this ⊢
   rw[List.all_eq_true] at this ⊢
   exact fun c hc=>this c (List.mem_of_mem_eraseIdx hc)
  ·cases hs
 by_cases k3:t.kind=3
 ·rw[stepC_3 k3,defineC] at hs
  split at hs
  ·rename_i c
   obtain⟨_,c2,c3,_,c5⟩:=c
   cases hs
   have hd:∀v:List Bool,(v.length:Int)=e.v0→allM v e.cl0=true→((extN v K).length:Int)=s.vars:=h.len
   refine⟨⟨fun v h1 h2=>?_,fun v h1 h2=>?_,fun v h1 h2=>?_,h.noref⟩,fun v _ _ hk=>by omega⟩
   ·rw[extN_app,if_pos k3,List.length_append]
    have:=h.len v h1 h2
    show _=s.vars+1
    simp;omega
   ·rw[extN_app,if_pos k3]
    have hl:=h.len v h1 h2
    have ha:=h.all v h1 h2
    generalize extN v K=w at hl ha
    generalize t.lits.getD 0 0=g at c3
    have hg:g=(w.length:Int)+1:=by omega
    have hb:=withinM_spec c5
    unfold extB
    generalize t.lits.drop 1=r at c5 hb
    show allM _ (s.cl++defs g r)=true
    unfold allM at ha ⊢
    rw[List.all_eq_true] at ha ⊢
    intro c hc
    rcases List.mem_append.1 hc with hc|hc
    ·rw[trueM_app (by rw[hl];exact(hok.hcl c hc).1)]
     exact ha c hc
    ·have hrx:∀x∈r,litT (w++ [r.all (litT w)]) x=litT w x:=fun x hx=>litT_app (by have:=hb x hx;omega)
     have hge:litT (w++ [r.all (litT w)]) g=r.all (litT w):=by rw[hg];exact litT_end
     have hgn:litT (w++ [r.all (litT w)]) (-g)=!(r.all (litT w)):=by rw[litT_not _ (by omega),hge]
     unfold trueM
     rw[List.any_eq_true]
     unfold defs at hc
     cases hr:r.all (litT w) with
     |true=>
      rw[hr] at hrx hge hgn
      rcases List.mem_append.1 hc with hc|hc
      ·obtain⟨x,hx,rfl⟩:=List.mem_map.1 hc
       exact⟨x,by simp,by rw[hrx x hx];exact List.all_eq_true.1 hr x hx⟩
      ·simp only[List.mem_singleton] at hc
       subst hc
       exact⟨g,by simp,hge⟩
     |false=>
      rw[hr] at hrx hge hgn
      rcases List.mem_append.1 hc with hc|hc
      ·obtain⟨x,hx,rfl⟩:=List.mem_map.1 hc
       exact⟨-g,by simp,hgn⟩
      ·simp only[List.mem_singleton] at hc
       subst hc
       obtain⟨x,hx,hxf⟩:=List.all_eq_false.1 hr
       refine⟨-x,by simp only[List.mem_cons,List.mem_map];exact .inr ⟨x,hx,rfl⟩,?_⟩
       rw[litT_not _ (hb x hx).1,hrx x hx]
       simpa using hxf
   ·obtain⟨w,hw⟩:=h.pre v h1 h2
    rw[extN_app,if_pos k3,hw]
    exact⟨w++ [extB (v++w) t.lits],by rw[List.append_assoc]⟩
  ·cases hs
 by_cases k4:t.kind=4
 ·rw[stepC_4 k4,symmC] at hs
  split at hs
  ·rename_i c
   obtain⟨c1,_,c3,c4⟩:=c
   cases hs
   generalize e.syms.getD t.sym.toNat []=sy at c3 c4
   obtain⟨d,hd,hdm⟩:=List.any_eq_true.1 c4
   unfold mapC at hdm
   rw[Bool.and_eq_true,decide_eq_true_eq,canon_iff] at hdm
   obtain⟨hdw,hdm⟩:=hdm
   have hT:∀v:List Bool,(v.length:Int)=e.v0→allM v e.cl0=true→trueM (extN v K) t.lits=true:=fun v h1 h2=>by
    obtain⟨g1,g2,g3⟩:=sym_sat hcl0 c3 h2
    have hda:=h.all _ g1 g2
    obtain⟨w,hw⟩:=h.pre _ g1 g2
    obtain⟨w',hw'⟩:=h.pre v h1 h2
    have ht:=List.all_eq_true.1 hda d hd
    rw[hw,trueM_app (by rw[g1];exact hdw)] at ht
    obtain⟨x,hx,hxt⟩:=List.any_eq_true.1 ht
    have hxb:=withinM_spec hdw x hx
    rw[g3 x hxb.1 hxb.2.1 (by omega)] at hxt
    have hmem:imgX sy x∈t.lits:=(hdm _).1 (by unfold imgL;exact List.mem_map.2 ⟨x,hx,rfl⟩)
    have hyb:=withinM_spec (symOk_facts c3).2
    have hyl:=(symOk_facts c3).1
    have him:imgX sy x≤v.length∧0 - (v.length:Int)≤imgX sy x:=by
     unfold imgX
     split
     ·have hl:(x - 1).toNat<sy.length:=by omega
      rw[List.getD_eq_getElem?_getD,List.getElem?_eq_getElem hl]
      have:=hyb _ (List.getElem_mem hl)
      simp only[Option.getD_some]
      omega
     ·have hl:(-x - 1).toNat<sy.length:=by omega
      rw[List.getD_eq_getElem?_getD,List.getElem?_eq_getElem hl]
      have:=hyb _ (List.getElem_mem hl)
      simp only[Option.getD_some]
      omega
    unfold trueM
    rw[List.any_eq_true]
    exact⟨_,hmem,by rw[hw',litT_app him];exact hxt⟩
   exact⟨h.learn (by omega) hT,fun v h1 h2 _=>hT v h1 h2⟩
  ·cases hs
 rw[stepC_5 k1 k2 k3 k4] at hs
 cases hs
theorem sound_run {e:EnM} (hcl0:∀c∈e.cl0,withinM e.v0 c=true) (hv0:0≤e.v0):∀(L:List StepM) {B:Nat} {s:StM} {K:List StepM},SoundC e s K→StOk B s→(∀t∈L,t.lits.length≤900)→(runC e s L).2=L.length→
  (∀v:List Bool,(v.length:Int)=e.v0→allM v e.cl0=true→extOk (extN v K) L=true)∧((runC e s L).1.ref=true→∀v:List Bool,(v.length:Int)=e.v0→allM v e.cl0=true→False)
 |[],_,s,K,h,_,_,_=>by rw[runC_nil];exact⟨fun _ _ _=>rfl,h.noref⟩
 |t::L,B,s,K,h,hok,hl,hn=>by
  cases hs:stepC e s t with
  |none=>rw[runC,hs] at hn;simp at hn
  |some u=>
   rw[runC_cons hs] at hn ⊢
   obtain⟨hu,hT⟩:=sound_step hcl0 hv0 h hok hs
   obtain⟨i1,i2⟩:=sound_run (e:=e) hcl0 hv0 L hu (hok.step (hl t (by simp)) hs) (fun t ht=>hl t (by simp [ht])) (by simp at hn;exact hn)
   refine⟨fun v h1 h2=>?_,i2⟩
   have h5:=i1 v h1 h2
   rw[extN_app] at h5
   unfold extOk
   by_cases k3:t.kind=3
   ·rw[if_pos k3] at h5 ⊢
    exact h5
   ·rw[if_neg k3] at h5 ⊢
    split
    ·rename_i hk
     rw[hT v h1 h2 hk,h5];rfl
    ·exact h5
end Go.Ab
/- The solver:its state;values,pushes,decisions,walked. -/
namespace Go.Ab
open Go Go.Proofs
open Nat (reduceAdd reduceSub)
set_option maxRecDepth 20000
set_option maxHeartbeats 4000000
structure SR where
 value:List Int
 level:List Int
 reason:List Int
 marks:List Int
 low:Int
 head:Int
 added:Int
 broken:Bool
 hl:Nat→Value
 ll:Nat→List Int
 nc:Nat
 hc:Nat→Value
 cl:Nat→List Int
 nw:Nat
 hw:Nat→Value
 wl:Nat→List Int
 proof:List (List Int)
 model:List Int
 core:List Int
abbrev encJ (l:List Int):List PV:=[.lit (.int .i64 1),.slice 1 (l.map encI),.lit (.int .i64 0)]
abbrev nums (l:List Int):PV:=.slice 1 (l.map encI)
abbrev SBox (s:SR):List AV:=[.own 1 3 1 (s.value.map encI),.own 2 3 1 (s.level.map encI),.own 3 3 1 (s.reason.map encI),.pv (.lit (s.hl 0)),.own 5 3 1 (s.marks.map encI),litI s.low,.own 6 28 1 (hrow s.nc s.hc),.own 8 28 1 (hrow s.nw s.hw),litI s.head,litI s.added,litB s.broken,.own 10 30 3 (s.proof.map encJ),litI 0,.pv (nums s.model),.pv (nums s.core)]
abbrev SOb (s:SR):List (Nat×Option Ob):=[(0,some (.box (SBox s))),(1,some .row),(2,some .row),(3,some .row),(4,some (.pool 3 (plI s.hl s.ll))),(5,some .row),(6,some .row),(7,some (.pool 3 (plI s.hc s.cl))),(8,some .row),(9,some (.pool 3 (plI s.hw s.wl))),(10,some .row)]
def ofI (v:List Int) (x:Int):Int:=if x<0 then -(v.getD (-x).toNat 0) else v.getD x.toNat 0
def idxI (x:Int):Int:=if x<0 then -2*x+1 else 2*x
attribute [local irreducible] hrow AW AOps thenD inBlockD AR iterEnds roundEndsN inlEnds noGotoD EndsX EndsQ
theorem idxS_fn (x:Int) (hb: -1000000≤x∧x≤1000000):Fn Try.prog 63 [litI x] (litI (idxI x)):=by
 unfold idxI
 by_cases h:x<0
 ·rw[if_pos h]
  refine Fn.enter (n:=10) Try.func63 rfl rfl rfl rfl rfl (by decide) fun g hro_ hwt_=>?_;(try (conv=>rhs;simp only[Nf.s1R,Nf.all,Nat.reduceBEq,reduceAdd,reduceSub]))
  (refine Q173 ?_;refine Q202 ?_;refine zs ?_;refine Q185 ?_;refine Q202 ?_;refine AOps.mul rfl rfl rfl rfl rfl (by omega) ?_;refine zj ?_;refine Q153 ?_)
  (apply ends_ret;(exact Res.one (.tmp rfl rfl));(refine Le.litI ?_;(rfl)))
 ·rw[if_neg h]
  refine Fn.enter (n:=10) Try.func63 rfl rfl rfl rfl rfl (by decide) fun g hro_ hwt_=>?_;(try (conv=>rhs;simp only[Nf.s1R,Nf.all,Nat.reduceBEq,reduceAdd,reduceSub]))
  (refine Q173 ?_;refine Q202 ?_;refine zs ?_;refine Q116 ?_;refine Q202 ?_;refine AOps.mul rfl rfl rfl rfl rfl (by omega) ?_;refine Q28 ?_)
  (apply ends_ret;(exact Res.one (.tmp rfl rfl));(refine Le.litI ?_;(rfl)))
theorem getD_get {l:List Int} {n:Nat} (h:n<l.length):l.getD n 0=l[n]:=by simp [List.getD_eq_getElem?_getD,h]
theorem of_fn (s:SR) (x:Int) (hb: -1000000≤x∧x≤1000000) (hx:x<s.value.length∧ -x<s.value.length) (hv:∀y∈s.value,-1≤y∧y≤1):FnX Try.prog 34 11 (SOb s) [.ptr 0 0,litI x] (SOb s) (litI (ofI s.value x)):=by
 unfold ofI
 by_cases h:x<0
 ·have hlt:(-x).toNat<s.value.length:=by omega
  have hr:=hv _ (List.getElem_mem hlt)
  rw[if_pos h,getD_get hlt]
  refine FnX.enter (n:=23) Try.func34 rfl rfl rfl rfl rfl (by decide) rfl rfl fun g hro_ hwt_=>?_;refine Q25 ?_
  (refine Q173 ?_;refine Q202 ?_;refine zs ?_;refine Q185 ?_;refine Q40 ?_;refine Q165 ?_;refine AOps.neg rfl rfl rfl (by omega) ?_;refine Q27 ?_;(focus ((with_reducible apply AOps.load_o1_mapI);(iterate 4 exact rfl);exact(fun h_=>by cases h_);rotate_left;(first|omega|exact Nat.zero_lt_one|(simp;done))));refine AOps.neg rfl rfl rfl (by omega) ?_;refine Q153 ?_)
  (apply endsX_ret;((exact Res.one (.tmp rfl rfl)));((exact Q76));((exact Q2));exact rfl)
 ·have hlt:x.toNat<s.value.length:=by omega
  rw[if_neg h,getD_get hlt]
  refine FnX.enter (n:=23) Try.func34 rfl rfl rfl rfl rfl (by decide) rfl rfl fun g hro_ hwt_=>?_;refine Q25 ?_
  (refine Q173 ?_;refine Q202 ?_;refine zs ?_;refine Q116 ?_;refine Q40 ?_;refine Q165 ?_;refine Q27 ?_;(focus ((with_reducible apply AOps.load_o1_mapI);(iterate 4 exact rfl);exact(fun h_=>by cases h_);rotate_left;(first|omega|exact Nat.zero_lt_one|(simp;done))));refine Q28 ?_)
  (apply endsX_ret;((exact Res.one (.tmp rfl rfl)));((exact Q76));((exact Q2));exact rfl)
end Go.Ab
/- The solver's trail:a literal made true,a decision,the least free variable,walked. -/
namespace Go.Ab
open Go Go.Proofs
open Nat (reduceAdd reduceSub)
set_option maxRecDepth 20000
set_option maxHeartbeats 4000000
def varN (x:Int):Nat:=(max x (-x)).toNat
def sgnI (x:Int):Int:=if x<0 then -1 else 1
def pushS (s:SR) (x r:Int) (h:Value):SR:={s with value:=s.value.set (varN x) (sgnI x),level:=s.level.set (varN x) s.marks.length,reason:=s.reason.set (varN x) r,hl:=fset s.hl 0 h,ll:=fset s.ll 0 (s.ll 0++ [x])}
theorem setI1 (l:List Int) (i:Nat) (x:Int):(l.map encI).set i [PV.lit (.int .i64 x)]=(l.set i x).map encI:=by
 rw[List.map_set];rfl
attribute [local irreducible] hrow AW AOps thenD inBlockD AR iterEnds roundEndsN inlEnds noGotoD EndsX EndsQ
theorem push_fn (s:SR) (x r:Int) (hb: -1000000≤x∧x≤1000000) (hx:x<s.value.length∧ -x<s.value.length) (h1:s.level.length=s.value.length) (h2:s.reason.length=s.value.length) (hl:(s.ll 0).length≤1000000) (hm:s.marks.length≤1000000):
  FnR Try.prog 35 11 (SOb s) [.ptr 0 0,litI x,litI r] (fun h:Value=>h.oneCell'=true) (fun h=>SOb (pushS s x r h)) (fun _=> .tup []):=by
 have hv:(max x (-x)).toNat<s.value.length:=by omega
 have hv0:0≤max x (-x):=by omega
 by_cases h:x<0
 ·refine FnR.enter (n:=53) Try.func35 rfl rfl rfl rfl rfl (by decide) rfl (fun _=>rfl) fun g hro_ hwt_=>?_;refine Q25 ?_
  (refine zq ?_;refine Q49 ?_;refine Q259 ?_;refine Q165 ?_;refine Q27 ?_;(with_reducible apply AOps.store_o1);(iterate 5 exact rfl);(first|exact rfl|assumption|exact o1_ _|exact o2_ _ _|exact o3_ _|exact o4_ _ _);exact rfl;exact rfl;refine Q206 ?_;refine Q214 ?_;refine zs ?_;refine Q185 ?_;refine Q177 ?_;refine Q165 ?_;(with_reducible apply AOps.index_ownI);(iterate 7 exact rfl);omega;(first|omega|(simp only[List.length_map,List.length_append,List.length_cons,List.length_nil,List.length_drop,List.length_take,List.length_set,List.length_range,chunk_len];omega));(with_reducible apply AOps.store_o1);(iterate 5 exact rfl);(first|exact rfl|assumption|exact o1_ _|exact o2_ _ _|exact o3_ _|exact o4_ _ _);exact rfl;exact rfl;refine Q206 ?_;refine zo ?_;refine AW.regionM [0,1,2,3,4,5,6,7,8,9,10] [11] rfl (by assumption) (by kernel_rfl) (by kernel_rfl) rfl ?_;show AOps .held _ _ _ [_,_,_,_,_,_,_,_,_,_,_] _ _;refine Q12 ?_;refine Q248 ?_;refine Q12 ?_;refine Q105 ?_;refine Q27 ?_;refine Q4 ?_;intro k_ hk_;refine Q0 ?_;refine Q164 ?_;intro g_ hgro_ hwt2_;(with_reducible apply AOps.store_o1);(iterate 5 exact rfl);(first|exact rfl|assumption|exact o1_ _|exact o2_ _ _|exact o3_ _|exact o4_ _ _);exact rfl;exact rfl;refine Q267 ?_;refine zq ?_;refine Q12 ?_;refine AOps.fieldAddrN 65 2 2 rfl rfl rfl rfl ?_;refine zb ?_;(iterate 2 refine zm ?_);refine Q27 ?_;(with_reducible apply AOps.store_o1);(iterate 5 exact rfl);(first|exact rfl|assumption|exact o1_ _|exact o2_ _ _|exact o3_ _|exact o4_ _ _);exact rfl;exact rfl;refine Q206 ?_;refine AW.region ?_;refine Q50 ?_;refine AOps.fieldAddrN 65 3 3 rfl rfl rfl rfl ?_;refine Q130 ?_;(with_reducible apply AOps.bs1);(iterate 5 exact rfl);(first|exact rfl|assumption|exact o1_ _|exact o2_ _ _|exact o3_ _|exact o4_ _ _);exact rfl;exact rfl;refine Q0 ?_;(with_reducible apply AOps.plI_append1 4);exact rfl;exact rfl;(first|exact .pv rfl|exact .own rfl|exact .nil rfl);(iterate 8 exact rfl);omega;(intro v_ hv_);refine Q306 ?_;refine AOps.fieldAddrN 65 3 3 rfl rfl rfl rfl ?_;(with_reducible apply AOps.store_b1);(iterate 5 exact rfl);(first|exact rfl|assumption|exact o1_ _|exact o2_ _ _|exact o3_ _|exact o4_ _ _);(iterate 3 exact rfl);(with_reducible assumption);refine Q0 ?_;refine AOps.nil ?_)
  (apply endsQ_nor (v_) (hv_);((exact Res.none));((exact Q161));((refine⟨.box _ rfl ?_,?_⟩;(iterate 2 refine Q222 ?_);(iterate 2 refine Q95 ?_);refine Q222 ?_;refine Q95 ?_;(iterate 2 refine⟨.litE (by first|rfl|(simp only[pushS,setI1,varN,sgnI,List.set_set,if_pos h])),?_⟩);refine Q95 ?_;(iterate 2 refine⟨.pvE (by first|rfl|(simp only[pushS,setI1,varN,sgnI,List.set_set,if_pos h])),?_⟩);exact trivial;(iterate 3 refine⟨.row rfl,?_⟩);refine Q221 ?_;(iterate 2 refine⟨.row rfl,?_⟩);refine Q221 ?_;refine⟨.row rfl,?_⟩;refine Q221 ?_;exact Q312));exact rfl)
 ·refine FnR.enter (n:=53) Try.func35 rfl rfl rfl rfl rfl (by decide) rfl (fun _=>rfl) fun g hro_ hwt_=>?_;refine Q25 ?_
  (refine zq ?_;refine Q49 ?_;refine Q259 ?_;refine Q165 ?_;refine Q27 ?_;(with_reducible apply AOps.store_o1);(iterate 5 exact rfl);(first|exact rfl|assumption|exact o1_ _|exact o2_ _ _|exact o3_ _|exact o4_ _ _);exact rfl;exact rfl;refine Q206 ?_;refine Q214 ?_;refine zs ?_;refine Q116 ?_;refine zo ?_;refine AW.regionM [0,1,2,3,4,5,6,7,8,9,10] [11] rfl (by assumption) (by kernel_rfl) (by kernel_rfl) rfl ?_;show AOps .held _ _ _ [_,_,_,_,_,_,_,_,_,_,_] _ _;refine Q12 ?_;refine Q248 ?_;refine Q12 ?_;refine Q105 ?_;refine Q27 ?_;refine Q4 ?_;intro k_ hk_;refine Q0 ?_;refine Q164 ?_;intro g_ hgro_ hwt2_;(with_reducible apply AOps.store_o1);(iterate 5 exact rfl);(first|exact rfl|assumption|exact o1_ _|exact o2_ _ _|exact o3_ _|exact o4_ _ _);exact rfl;exact rfl;refine Q267 ?_;refine zq ?_;refine Q12 ?_;refine AOps.fieldAddrN 65 2 2 rfl rfl rfl rfl ?_;refine zb ?_;(iterate 2 refine zm ?_);refine Q27 ?_;(with_reducible apply AOps.store_o1);(iterate 5 exact rfl);(first|exact rfl|assumption|exact o1_ _|exact o2_ _ _|exact o3_ _|exact o4_ _ _);exact rfl;exact rfl;refine Q206 ?_;refine AW.region ?_;refine Q50 ?_;refine AOps.fieldAddrN 65 3 3 rfl rfl rfl rfl ?_;refine Q130 ?_;(with_reducible apply AOps.bs1);(iterate 5 exact rfl);(first|exact rfl|assumption|exact o1_ _|exact o2_ _ _|exact o3_ _|exact o4_ _ _);exact rfl;exact rfl;refine Q0 ?_;(with_reducible apply AOps.plI_append1 4);exact rfl;exact rfl;(first|exact .pv rfl|exact .own rfl|exact .nil rfl);(iterate 8 exact rfl);omega;(intro v_ hv_);refine Q306 ?_;refine AOps.fieldAddrN 65 3 3 rfl rfl rfl rfl ?_;(with_reducible apply AOps.store_b1);(iterate 5 exact rfl);(first|exact rfl|assumption|exact o1_ _|exact o2_ _ _|exact o3_ _|exact o4_ _ _);(iterate 3 exact rfl);(with_reducible assumption);refine Q0 ?_;refine AOps.nil ?_)
  (apply endsQ_nor (v_) (hv_);((exact Res.none));((exact Q161));((refine⟨.box _ rfl ?_,?_⟩;(iterate 2 refine Q220 ?_);(iterate 2 refine Q90 ?_);refine Q220 ?_;refine Q90 ?_;(iterate 2 refine⟨.litE (by first|rfl|(simp only[pushS,setI1,varN,sgnI,List.set_set,if_neg h])),?_⟩);refine Q90 ?_;(iterate 2 refine⟨.pvE (by first|rfl|(simp only[pushS,setI1,varN,sgnI,List.set_set,if_neg h])),?_⟩);exact trivial;(iterate 3 refine⟨.row rfl,?_⟩);refine Q219 ?_;(iterate 2 refine⟨.row rfl,?_⟩);refine Q219 ?_;refine⟨.row rfl,?_⟩;refine Q219 ?_;exact Q312));exact rfl)
end Go.Ab
/- The solver's trail:decisions,the least free variable,going back,walked. -/
namespace Go.Ab
open Go Go.Proofs
open Nat (reduceAdd reduceSub)
set_option maxRecDepth 20000
set_option maxHeartbeats 4000000
def markS (s:SR):SR:={s with marks:=s.marks++ [((s.ll 0).length:Int)]}
def lowF (v:List Int) (low:Nat):Nat:=low+((v.drop low).takeWhile fun x=>decide (x≠0)).length
theorem lowF_end {v:List Int} {low:Nat} (h:¬low<v.length):lowF v low=low:=by
 unfold lowF
 rw[List.drop_eq_nil_of_le (by omega)];rfl
theorem lowF_zero {v:List Int} {low:Nat} (h:low<v.length) (h0:v[low]=0):lowF v low=low:=by
 unfold lowF
 rw[List.drop_eq_getElem_cons h,List.takeWhile_cons_of_neg (by simp [h0])];rfl
theorem lowF_next {v:List Int} {low:Nat} (h:low<v.length) (h0:v[low]≠0):lowF v low=lowF v (low+1):=by
 unfold lowF
 rw[List.drop_eq_getElem_cons h,List.takeWhile_cons_of_pos (by simp [h0])]
 simp only[List.length_cons];omega
theorem lowF_le {v:List Int}:∀{n low:Nat},v.length - low=n→low≤v.length→low≤lowF v low∧lowF v low≤v.length
 |0,low,h,hl=>by rw[lowF_end (by omega)];omega
 |n+1,low,h,hl=>by
  have hlt:low<v.length:=by omega
  by_cases h0:v[low]=0
  ·rw[lowF_zero hlt h0];omega
  ·rw[lowF_next hlt h0]
   have:=lowF_le (v:=v) (n:=n) (low:=low+1) (by omega) (by omega)
   omega
def zeroV (v:List Int) (l:List Int):List Int:=l.foldl (fun v x=>v.set (varN x) 0) v
def lowB (low:Int) (l:List Int):Int:=l.foldl (fun m x=>min m (max x (-x))) low
theorem zeroV_nil (v:List Int):zeroV v []=v:=rfl
theorem lowB_nil (b:Int):lowB b []=b:=rfl
theorem zeroV_len (l v:List Int):(zeroV v l).length=v.length:=by
 unfold zeroV
 induction l generalizing v with
 |nil=>rfl
 |cons x l ih=>rw[List.foldl_cons,ih];simp
theorem zeroV_next {v l:List Int} {k:Nat} (h:k<l.length):zeroV v (l.take (k+1))=(zeroV v (l.take k)).set (varN l[k]) 0:=by
 unfold zeroV
 rw[List.take_succ_eq_append_getElem h,List.foldl_append];rfl
theorem lowB_next {b:Int} {l:List Int} {k:Nat} (h:k<l.length):lowB b (l.take (k+1))=min (lowB b (l.take k)) (max l[k] (-l[k])):=by
 unfold lowB
 rw[List.take_succ_eq_append_getElem h,List.foldl_append];rfl
theorem lowB_rng {b:Int} {l:List Int} (hb:0≤b∧b≤1000000) (hl:∀x∈l,-1000000≤x∧x≤1000000):0≤lowB b l∧lowB b l≤1000000:=by
 unfold lowB
 induction l generalizing b with
 |nil=>exact hb
 |cons x l ih=>
  have:=hl x (by simp)
  rw[List.foldl_cons]
  exact ih (by show 0≤min b (max x (-x))∧min b (max x (-x))≤_;omega) fun y hy=>hl y (by simp [hy])
def backS (s:SR) (lv:Nat):SR:={s with value:=zeroV s.value ((s.ll 0).drop (s.marks.getD lv 0).toNat),low:=lowB s.low ((s.ll 0).drop (s.marks.getD lv 0).toNat),hl:=fset s.hl 0 (hdLen (s.marks.getD lv 0).toNat (s.hl 0)),ll:=fset s.ll 0 ((s.ll 0).take (s.marks.getD lv 0).toNat),marks:=s.marks.take lv}
attribute [local irreducible] hrow AW AOps thenD inBlockD AR iterEnds roundEndsN inlEnds noGotoD EndsX EndsQ lowF zeroV lowB
theorem decide0_fn (s:SR) (hl:(s.ll 0).length≤1000000) (hm:s.marks.length≤1000000):FnX Try.prog 43 11 (SOb s) [.ptr 0 0,litI 0] (SOb (markS s)) (.tup []):=by
 refine FnX.enter (n:=23) Try.func43 rfl rfl rfl rfl rfl (by decide) rfl rfl fun g hro_ hwt_=>?_;refine Q25 ?_
 (refine zo ?_;refine AW.regionM [0,1,2,3,4,5,6,7,8,9] [14] rfl (by assumption) (by kernel_rfl) (by kernel_rfl) rfl ?_;show AOps .held _ _ _ [_,_,_,_,_,_,_,_,_,_] _ _;refine Q329 ?_;intro k_ hk_;refine Q0 ?_;refine AR.step1M (i:=10) rfl (by kernel_rfl) rfl ?_;intro g_ hgro_ hw_;(with_reducible apply AOps.bs1);(iterate 5 exact rfl);(first|exact rfl|assumption|exact o1_ _|exact o2_ _ _|exact o3_ _|exact o4_ _ _);exact rfl;exact rfl;refine Q126 ?_;refine AR.step1M (i:=11) rfl (by kernel_rfl) rfl ?_;intro g_ hgro_ hw_;(with_reducible apply AOps.appendS);exact rfl;(first|exact .pv rfl|exact .own rfl|exact .nil rfl);(iterate 9 exact rfl);(first|omega|(simp only[List.length_map,List.length_append,List.length_cons,List.length_nil,List.length_drop,List.length_take,List.length_set,List.length_range,chunk_len];omega));refine Q126 ?_;refine Q295 ?_;intro g_ hgro_;show AOps .held _ _ _ [_,_] _ _;refine AOps.nilCheck_ptr rfl rfl rfl ?_;refine AOps.fieldAddrN 65 4 4 rfl rfl rfl rfl ?_;refine Q4 ?_;intro k_ hk_;refine Q0 ?_;refine Q114 ?_;intro g_ hgro_ hwt2_;(with_reducible apply AOps.store_b1);(iterate 5 exact rfl);(first|exact rfl|assumption|exact o1_ _|exact o2_ _ _|exact o3_ _|exact o4_ _ _);(iterate 3 exact rfl);(with_reducible assumption);refine Q267 ?_;refine zq ?_;refine zm ?_;refine AOps.neq rfl rfl rfl rfl rfl ?_;refine Q67 ?_;refine AW.skip ?_)
 (apply endsX_nor;((exact Res.none));((exact Q161));((refine⟨.box _ rfl ?_,?_⟩;(iterate 2 refine Q209 ?_);(iterate 2 refine Q85 ?_);refine Q209 ?_;refine Q85 ?_;(iterate 2 refine⟨.litE (by first|rfl|(simp only[markS,List.map_append,List.map_cons,List.map_nil];rfl)),?_⟩);refine Q85 ?_;(iterate 2 refine⟨.pvE (by first|rfl|(simp only[markS,List.map_append,List.map_cons,List.map_nil];rfl)),?_⟩);exact trivial;(iterate 3 refine⟨.row rfl,?_⟩);refine Q201 ?_;(iterate 2 refine⟨.row rfl,?_⟩);refine Q201 ?_;refine⟨.row rfl,?_⟩;refine Q201 ?_;exact Q312));exact rfl)
theorem decide1_fn (s:SR) (x:Int) (h0:x≠0) (hb: -1000000≤x∧x≤1000000) (hx:x<s.value.length∧ -x<s.value.length) (h1:s.level.length=s.value.length) (h2:s.reason.length=s.value.length) (hl:(s.ll 0).length≤100000) (hm:s.marks.length≤100000):
  FnR Try.prog 43 11 (SOb s) [.ptr 0 0,litI x] (fun h:Value=>h.oneCell'=true) (fun h=>SOb (pushS (markS s) x (-1) h)) (fun _=> .tup []):=by
 have hp:=push_fn (markS s) x (-1) hb hx h1 h2 (by show(s.ll 0).length≤_;omega) (by show(s.marks++_).length≤_;simp;omega)
 rw[show SOb (markS s)=SOb {markS s with marks:=s.marks++ [((s.ll 0).length:Int)]} from rfl] at hp
 simp only[SOb,SBox,List.map_append,List.map_cons,List.map_nil] at hp
 refine FnR.enter (n:=23) Try.func43 rfl rfl rfl rfl rfl (by decide) rfl (fun _=>rfl) fun g hro_ hwt_=>?_;refine Q25 ?_
 (refine zo ?_;refine AW.regionM [0,1,2,3,4,5,6,7,8,9] [14] rfl (by assumption) (by kernel_rfl) (by kernel_rfl) rfl ?_;show AOps .held _ _ _ [_,_,_,_,_,_,_,_,_,_] _ _;refine Q329 ?_;intro k_ hk_;refine Q0 ?_;refine AR.step1M (i:=10) rfl (by kernel_rfl) rfl ?_;intro g_ hgro_ hw_;(with_reducible apply AOps.bs1);(iterate 5 exact rfl);(first|exact rfl|assumption|exact o1_ _|exact o2_ _ _|exact o3_ _|exact o4_ _ _);exact rfl;exact rfl;refine Q126 ?_;refine AR.step1M (i:=11) rfl (by kernel_rfl) rfl ?_;intro g_ hgro_ hw_;(with_reducible apply AOps.appendS);exact rfl;(first|exact .pv rfl|exact .own rfl|exact .nil rfl);(iterate 9 exact rfl);(first|omega|(simp only[List.length_map,List.length_append,List.length_cons,List.length_nil,List.length_drop,List.length_take,List.length_set,List.length_range,chunk_len];omega));refine Q126 ?_;refine Q295 ?_;intro g_ hgro_;show AOps .held _ _ _ [_,_] _ _;refine AOps.nilCheck_ptr rfl rfl rfl ?_;refine AOps.fieldAddrN 65 4 4 rfl rfl rfl rfl ?_;refine Q4 ?_;intro k_ hk_;refine Q0 ?_;refine Q114 ?_;intro g_ hgro_ hwt2_;(with_reducible apply AOps.store_b1);(iterate 5 exact rfl);(first|exact rfl|assumption|exact o1_ _|exact o2_ _ _|exact o3_ _|exact o4_ _ _);(iterate 3 exact rfl);(with_reducible assumption);refine Q267 ?_;refine zq ?_;refine zm ?_;refine AOps.neq rfl rfl rfl rfl rfl ?_;refine Q185 ?_;refine Q177 ?_;refine Q336 ?_;(with_reducible apply AOps.callR (hf:=hp));(with_reducible assumption);(iterate 3 exact rfl);(repeat (first|exact trivial|refine⟨rfl,?_⟩));(repeat (first|exact .nil|(refine .cons ?_ ?_;(first|exact .eq rfl rfl|exact .nil _|exact .any _))));(intro x_;exact rfl);exact rfl;(repeat (first|exact trivial|refine⟨rfl,?_⟩|refine⟨obIds_set,?_⟩));(intro x_;(repeat (first|exact trivial|refine⟨rfl,?_⟩|refine⟨obIds_set,?_⟩)));(intro x_;exact rfl);exact rfl;(intro x_ hx_);refine Q87 ?_;refine AOps.nil ?_)
 (apply endsQ_nor (x_) (hx_);((exact Res.none));((exact Q161));((exact Q54));exact rfl)
theorem free_fn (s:SR) (low:Nat) (hs:s.low=(low:Int)) (hle:low≤s.value.length) (hl:s.value.length≤1000000):
  FnX Try.prog 44 11 (SOb s) [.ptr 0 0] (SOb {s with low:=(lowF s.value low:Int)}) (litI (if lowF s.value low=s.value.length then 0 else (lowF s.value low:Int))):=by
 simp only[SOb,SBox,hs]
 have hb:=lowF_le (v:=s.value) rfl hle
 refine FnX.enter (n:=47) Try.func44 rfl rfl rfl rfl rfl (by decide) rfl rfl fun g hro_ hwt_=>?_;refine Q25 ?_
 (refine Q173 ?_;refine AW.block ?_)
 (refine Q0 ?_;apply AW.loopR [2,0,1000] [1,2,3,4,5,6,7,8,9,10] (fun k:Nat=>([]:List (Nat×AV))) (fun k:Nat=>([(0,some (.box [.own 1 3 1 ((s.value).map encI),.own 2 3 1 ((s.level).map encI),.own 3 3 1 ((s.reason).map encI),.pv (.lit (s.hl 0)),.own 5 3 1 ((s.marks).map encI),litI ((k:Int)),.own 6 28 1 (hrow s.nc s.hc),.own 8 28 1 (hrow s.nw s.hw),litI (s.head),litI (s.added),litB (s.broken),.own 10 30 3 ((s.proof).map encJ),litI 0,.pv (nums (s.model)),.pv (nums (s.core))]))]:List (Nat×Option Ob))) (fun k:Nat=>(k≤s.value.length∧lowF s.value k=lowF s.value low)) (fun k:Nat=>s.value.length - k) (low);(conv=>lhs;simp only[Nf.lpR,Nf.all,Nat.reduceBEq,reduceAdd,reduceSub]);(all_goals skip))
 ·exact⟨hle,rfl⟩
 ·exact weak rfl (by(refine⟨.litE (by rfl),?_⟩;(iterate 2 refine⟨.eq rfl rfl,?_⟩);exact trivial)) (by(refine⟨.box _ rfl ?_,?_⟩;(iterate 3 refine⟨.ownE (by rfl) rfl,?_⟩);refine⟨.litE (by rfl),?_⟩;refine⟨.ownE (by rfl) rfl,?_⟩;refine⟨.litE (by rfl),?_⟩;(iterate 2 refine⟨.ownE (by rfl) rfl,?_⟩);(iterate 3 refine⟨.litE (by rfl),?_⟩);refine⟨.ownE (by rfl) rfl,?_⟩;refine⟨.litE (by rfl),?_⟩;(iterate 2 refine⟨.pvE (by rfl),?_⟩);exact trivial;(iterate 3 refine⟨.row rfl,?_⟩);refine⟨.pool rfl (by rfl),?_⟩;(iterate 2 refine⟨.row rfl,?_⟩);refine⟨.pool rfl (by rfl),?_⟩;refine⟨.row rfl,?_⟩;refine⟨.pool rfl (by rfl),?_⟩;refine⟨.row rfl,?_⟩;exact trivial)) rfl
 rintro k ⟨hk,hf⟩
 by_cases hlt:k<s.value.length
 ·by_cases h0:s.value[k]=0
  ·have e:=lowF_zero hlt h0
   rw[hf] at e
   have h0':(decide (s.value[k]≠0))=false:=by simp [h0]
   have hne:¬k=s.value.length:=by omega
   rw[e,if_neg hne]
   ((iterate 2 refine zo ?_);(with_reducible apply AW.regionQ);exact rfl;exact rfl;kernel_rfl;(with_reducible assumption);refine Q286 ?_;(focus ((with_reducible apply AOps.load_o1_mapI);(iterate 4 exact rfl);exact(fun h_=>by cases h_);rotate_left;(first|omega|exact Nat.zero_lt_one|(simp;done))));refine zt ?_;refine AOps.neq rfl rfl rfl rfl rfl ?_;refine zT ?_;refine Q307 ?_;refine Q14 ?_;(iterate 2 refine zo ?_);(with_reducible apply AW.regionQ);exact rfl;exact rfl;kernel_rfl;(with_reducible assumption);refine Q97 ?_;refine Q224 ?_;refine Q40 ?_;refine Q12 ?_;refine AOps.fieldAddrN 65 5 5 rfl rfl rfl rfl ?_;refine zb ?_;refine Q28 ?_)
   (apply endsX_ret;((exact Res.one (.tmp rfl rfl)));((exact Q76));((exact Q2));exact rfl)
  ·have h0':(decide (s.value[k]≠0))=true:=by simp [h0]
   have e:=lowF_next hlt h0
   ((iterate 2 refine zo ?_);(with_reducible apply AW.regionQ);exact rfl;exact rfl;kernel_rfl;(with_reducible assumption);refine Q286 ?_;(focus ((with_reducible apply AOps.load_o1_mapI);(iterate 4 exact rfl);exact(fun h_=>by cases h_);rotate_left;(first|omega|exact Nat.zero_lt_one|(simp;done))));refine zt ?_;refine AOps.neq rfl rfl rfl rfl rfl ?_;refine zT ?_;refine Q185 ?_;refine Q37 ?_;refine AW.block ?_;refine Q177 ?_;refine Q12 ?_;refine AOps.fieldAddrN 65 5 5 rfl rfl rfl rfl ?_;refine zb ?_;refine zj ?_;refine AOps.nilCheck_ptr rfl rfl rfl ?_;refine AOps.fieldAddrN 65 5 5 rfl rfl rfl rfl ?_;(with_reducible apply AOps.store_b1);(iterate 5 exact rfl);(first|exact rfl|assumption|exact o1_ _|exact o2_ _ _|exact o3_ _|exact o4_ _ _);(iterate 3 exact rfl);(with_reducible assumption);refine Q0 ?_;refine Q236 ?_)
   exact⟨k+1,⟨by omega,by rw[← e];exact hf⟩,by omega,weak rfl (by(refine⟨.litE (by rfl),?_⟩;(iterate 2 refine⟨.eq rfl rfl,?_⟩);exact trivial)) (by(refine⟨.box _ rfl ?_,?_⟩;(iterate 3 refine⟨.ownE (by rfl) rfl,?_⟩);refine⟨.litE (by rfl),?_⟩;refine⟨.ownE (by rfl) rfl,?_⟩;refine⟨.litE (by rfl),?_⟩;(iterate 2 refine⟨.ownE (by rfl) rfl,?_⟩);(iterate 3 refine⟨.litE (by rfl),?_⟩);refine⟨.ownE (by rfl) rfl,?_⟩;refine⟨.litE (by rfl),?_⟩;(iterate 2 refine⟨.pvE (by rfl),?_⟩);exact trivial;(iterate 3 refine⟨.row rfl,?_⟩);refine⟨.pool rfl (by rfl),?_⟩;(iterate 2 refine⟨.row rfl,?_⟩);refine⟨.pool rfl (by rfl),?_⟩;refine⟨.row rfl,?_⟩;refine⟨.pool rfl (by rfl),?_⟩;refine⟨.row rfl,?_⟩;exact trivial)) rfl⟩
 ·have hk2:k=s.value.length:=by omega
  have e:=lowF_end (v:=s.value) (low:=k) hlt
  rw[hf] at e
  rw[e,if_pos hk2]
  ((iterate 2 refine zo ?_);(with_reducible apply AW.regionQ);exact rfl;exact rfl;kernel_rfl;(with_reducible assumption);refine Q97 ?_;refine zs ?_;refine zm ?_;(iterate 11 refine AOps.guardTn rfl rfl rfl rfl rfl rfl (by first|omega|decide) ?_);refine zF ?_;refine Q67 ?_;refine Q14 ?_;(iterate 2 refine zo ?_);(with_reducible apply AW.regionQ);exact rfl;exact rfl;kernel_rfl;(with_reducible assumption);refine Q97 ?_;refine Q294 ?_;refine Q40 ?_;refine Q153 ?_)
  (apply endsX_ret;((exact Res.one (.tmp rfl rfl)));((exact Q76));((exact Q2));exact rfl)
theorem back0_fn (s:SR) (lv:Int) (hlv:(s.marks.length:Int)≤lv):FnX Try.prog 32 11 (SOb s) [.ptr 0 0,litI lv] (SOb s) (.tup []):=by
 refine FnX.enter (n:=75) Try.func32 rfl rfl rfl rfl rfl (by decide) rfl rfl fun g hro_ hwt_=>?_;refine Q25 ?_
 (refine Q214 ?_;refine Q12 ?_;refine Q105 ?_;refine AOps.geq rfl rfl rfl rfl rfl ?_;refine Q185 ?_;refine AW.ret ?_;refine thenD_ret ?_)
 (apply endsX_ret;((exact Res.none));((exact Q161));((exact Q2));exact rfl)
theorem back1_fn (s:SR) (lv:Nat) (hlv:lv<s.marks.length) (hm:0≤s.marks[lv]∧s.marks[lv].toNat≤(s.ll 0).length) (hl:(s.ll 0).length≤1000000) (hlw:0≤s.low∧s.low≤1000000)
  (hx:∀x∈s.ll 0,(-1000000≤x∧x≤1000000)∧varN x<s.value.length):FnX Try.prog 32 11 (SOb s) [.ptr 0 0,litI lv] (SOb (backS s lv)) (.tup []):=by
 have hgd:s.marks.getD lv 0=s.marks[lv]:=getD_get hlv
 have hm2:(s.marks.getD lv 0).toNat≤(s.ll 0).length:=by rw[hgd];exact hm.2
 unfold backS
 rw[hgd]
 have hdl:((s.ll 0).drop (s.marks[lv]).toNat).length=(s.ll 0).length - (s.marks[lv]).toNat:=List.length_drop
 simp only[SOb,SBox]
 refine FnX.enter (n:=75) Try.func32 rfl rfl rfl rfl rfl (by decide) rfl rfl fun g hro_ hwt_=>?_;refine Q25 ?_
 refine AW.plI_one 4 rfl fun o1_ o2_=>?_
 (refine Q214 ?_;refine Q12 ?_;refine Q105 ?_;refine AOps.geq rfl rfl rfl rfl rfl ?_;refine Q116 ?_;(iterate 2 refine zo ?_);(with_reducible apply AW.regionQ);exact rfl;exact rfl;kernel_rfl;(with_reducible assumption);refine Q12 ?_;refine AOps.fieldAddrN 65 3 3 rfl rfl rfl rfl ?_;refine zb ?_;refine Q12 ?_;refine AOps.fieldAddrN 65 4 4 rfl rfl rfl rfl ?_;refine Q130 ?_;refine Q112 ?_;(focus ((with_reducible apply AOps.load_o1_mapI);(iterate 4 exact rfl);exact(fun h_=>by cases h_);rotate_left;(first|omega|exact Nat.zero_lt_one|(simp;done))));refine AOps.plI_from 4 rfl rfl rfl rfl rfl rfl rfl rfl (by omega) (by omega) ?_;refine AOps.plI_len_from 4 rfl rfl rfl rfl rfl ?_;refine Q337 ?_)
 (refine Q0 ?_;apply AW.loopR [26,25,0,1,1000] [1,2,3,4,5,6,7,8,9,10] (fun k:Nat=>([(27,litI k)]:List (Nat×AV))) (fun k:Nat=>([(0,some (.box [.own 1 3 1 ((zeroV s.value (((s.ll 0).drop (s.marks[lv]).toNat).take k)).map encI),.own 2 3 1 ((s.level).map encI),.own 3 3 1 ((s.reason).map encI),.pv (.lit (s.hl 0)),.own 5 3 1 ((s.marks).map encI),litI (lowB s.low (((s.ll 0).drop (s.marks[lv]).toNat).take k)),.own 6 28 1 (hrow s.nc s.hc),.own 8 28 1 (hrow s.nw s.hw),litI (s.head),litI (s.added),litB (s.broken),.own 10 30 3 ((s.proof).map encJ),litI 0,.pv (nums (s.model)),.pv (nums (s.core))]))]:List (Nat×Option Ob))) (fun k:Nat=>k≤((s.ll 0).drop (s.marks[lv]).toNat).length) (fun k:Nat=>((s.ll 0).drop (s.marks[lv]).toNat).length - k) (0);(conv=>lhs;simp only[Nf.lpR,Nf.all,Nat.reduceBEq,reduceAdd,reduceSub]);(all_goals skip))
 ·exact Nat.zero_le _
 ·exact weak rfl (by(refine⟨.litE (by first|rfl|(simp only[List.take_zero,zeroV_nil,lowB_nil])),?_⟩;refine⟨.litE (by first|rfl|(simp only[List.take_zero,zeroV_nil,lowB_nil])),?_⟩;refine⟨.litE (by first|rfl|(simp only[List.take_zero,zeroV_nil,lowB_nil])),?_⟩;refine⟨.eq rfl rfl,?_⟩;refine⟨.litE (by first|rfl|(simp only[List.take_zero,zeroV_nil,lowB_nil])),?_⟩;refine⟨.eq rfl rfl,?_⟩;exact trivial)) (by(refine⟨.box _ rfl ?_,?_⟩;refine⟨.ownE (by first|rfl|(simp only[List.take_zero,zeroV_nil,lowB_nil])) rfl,?_⟩;refine⟨.ownE (by first|rfl|(simp only[List.take_zero,zeroV_nil,lowB_nil])) rfl,?_⟩;refine⟨.ownE (by first|rfl|(simp only[List.take_zero,zeroV_nil,lowB_nil])) rfl,?_⟩;refine⟨.litE (by first|rfl|(simp only[List.take_zero,zeroV_nil,lowB_nil])),?_⟩;refine⟨.ownE (by first|rfl|(simp only[List.take_zero,zeroV_nil,lowB_nil])) rfl,?_⟩;refine⟨.litE (by first|rfl|(simp only[List.take_zero,zeroV_nil,lowB_nil])),?_⟩;refine⟨.ownE (by first|rfl|(simp only[List.take_zero,zeroV_nil,lowB_nil])) rfl,?_⟩;refine⟨.ownE (by first|rfl|(simp only[List.take_zero,zeroV_nil,lowB_nil])) rfl,?_⟩;refine⟨.litE (by first|rfl|(simp only[List.take_zero,zeroV_nil,lowB_nil])),?_⟩;refine⟨.litE (by first|rfl|(simp only[List.take_zero,zeroV_nil,lowB_nil])),?_⟩;refine⟨.litE (by first|rfl|(simp only[List.take_zero,zeroV_nil,lowB_nil])),?_⟩;refine⟨.ownE (by first|rfl|(simp only[List.take_zero,zeroV_nil,lowB_nil])) rfl,?_⟩;refine⟨.litE (by first|rfl|(simp only[List.take_zero,zeroV_nil,lowB_nil])),?_⟩;refine⟨.pvE (by first|rfl|(simp only[List.take_zero,zeroV_nil,lowB_nil])),?_⟩;refine⟨.pvE (by first|rfl|(simp only[List.take_zero,zeroV_nil,lowB_nil])),?_⟩;exact trivial;(iterate 3 refine⟨.row rfl,?_⟩);refine⟨.pool rfl (by first|rfl|(simp only[List.take_zero,zeroV_nil,lowB_nil])),?_⟩;(iterate 2 refine⟨.row rfl,?_⟩);refine⟨.pool rfl (by first|rfl|(simp only[List.take_zero,zeroV_nil,lowB_nil])),?_⟩;refine⟨.row rfl,?_⟩;refine⟨.pool rfl (by first|rfl|(simp only[List.take_zero,zeroV_nil,lowB_nil])),?_⟩;refine⟨.row rfl,?_⟩;exact trivial)) rfl
 rintro k hk
 have hzl:=zeroV_len (((s.ll 0).drop (s.marks[lv]).toNat).take k) s.value
 by_cases hlt2:k<((s.ll 0).drop (s.marks[lv]).toNat).length
 ·have hz:=zeroV_next (v:=s.value) hlt2
  have hlo:=lowB_next (b:=s.low) hlt2
  have hge:((s.ll 0).drop (s.marks[lv]).toNat)[k]=(s.ll 0)[(s.marks[lv]).toNat+(k:Int).toNat]'(by simp only[Int.toNat_natCast];omega):=List.getElem_drop
  rw[hge] at hz hlo
  obtain⟨hr,hvn⟩:=hx _ (List.getElem_mem (show(s.marks[lv]).toNat+(k:Int).toNat<(s.ll 0).length by simp only[Int.toNat_natCast];omega))
  have hlr:=lowB_rng (b:=s.low) (l:=((s.ll 0).drop (s.marks[lv]).toNat).take k) hlw fun y hy=>(hx y (List.mem_of_mem_drop (List.mem_of_mem_take hy))).1
  unfold varN at hvn hz
  (refine Q266 ?_;refine Q5 ?_;refine Q40 ?_;refine AOps.plI_index_from 4 rfl rfl rfl rfl rfl rfl rfl rfl (by omega) (by omega) ?_;(focus ((with_reducible apply AOps.plI_load 4);(iterate 5 exact rfl);exact(fun h_=>by cases h_);rotate_left;omega));refine Q259 ?_;refine Q49 ?_;refine Q259 ?_;refine Q165 ?_;refine Q27 ?_;(with_reducible apply AOps.store_o1);(iterate 5 exact rfl);(first|exact rfl|assumption|exact o1_ _|exact o2_ _ _|exact o3_ _|exact o4_ _ _);exact rfl;exact rfl;refine Q206 ?_;refine AW.region ?_;refine Q50 ?_;refine AOps.fieldAddrN 65 5 5 rfl rfl rfl rfl ?_;refine Q130 ?_;refine AOps.min2 rfl rfl rfl rfl rfl ?_;refine AOps.nilCheck_ptr rfl rfl rfl ?_;refine AOps.fieldAddrN 65 5 5 rfl rfl rfl rfl ?_;(with_reducible apply AOps.store_b1);(iterate 5 exact rfl);(first|exact rfl|assumption|exact o1_ _|exact o2_ _ _|exact o3_ _|exact o4_ _ _);(iterate 3 exact rfl);(with_reducible assumption);refine Q0 ?_;refine Q225 ?_)
  exact⟨k+1,by omega,by omega,weak rfl (by(refine⟨.litE (by first|rfl|(rw[setI1,hz])|(rw[hlo])),?_⟩;refine⟨.litE (by first|rfl|(rw[setI1,hz])|(rw[hlo])),?_⟩;refine⟨.litE (by first|rfl|(rw[setI1,hz])|(rw[hlo])),?_⟩;refine⟨.eq rfl rfl,?_⟩;refine⟨.litE (by first|rfl|(rw[setI1,hz])|(rw[hlo])),?_⟩;refine⟨.eq rfl rfl,?_⟩;exact trivial)) (by(refine⟨.box _ rfl ?_,?_⟩;refine⟨.ownE (by first|rfl|(rw[setI1,hz])|(rw[hlo])) rfl,?_⟩;refine⟨.ownE (by first|rfl|(rw[setI1,hz])|(rw[hlo])) rfl,?_⟩;refine⟨.ownE (by first|rfl|(rw[setI1,hz])|(rw[hlo])) rfl,?_⟩;refine⟨.litE (by first|rfl|(rw[setI1,hz])|(rw[hlo])),?_⟩;refine⟨.ownE (by first|rfl|(rw[setI1,hz])|(rw[hlo])) rfl,?_⟩;refine⟨.litE (by first|rfl|(rw[setI1,hz])|(rw[hlo])),?_⟩;refine⟨.ownE (by first|rfl|(rw[setI1,hz])|(rw[hlo])) rfl,?_⟩;refine⟨.ownE (by first|rfl|(rw[setI1,hz])|(rw[hlo])) rfl,?_⟩;refine⟨.litE (by first|rfl|(rw[setI1,hz])|(rw[hlo])),?_⟩;refine⟨.litE (by first|rfl|(rw[setI1,hz])|(rw[hlo])),?_⟩;refine⟨.litE (by first|rfl|(rw[setI1,hz])|(rw[hlo])),?_⟩;refine⟨.ownE (by first|rfl|(rw[setI1,hz])|(rw[hlo])) rfl,?_⟩;refine⟨.litE (by first|rfl|(rw[setI1,hz])|(rw[hlo])),?_⟩;refine⟨.pvE (by first|rfl|(rw[setI1,hz])|(rw[hlo])),?_⟩;refine⟨.pvE (by first|rfl|(rw[setI1,hz])|(rw[hlo])),?_⟩;exact trivial;(iterate 3 refine⟨.row rfl,?_⟩);refine⟨.pool rfl (by first|rfl|(rw[setI1,hz])|(rw[hlo])),?_⟩;(iterate 2 refine⟨.row rfl,?_⟩);refine⟨.pool rfl (by first|rfl|(rw[setI1,hz])|(rw[hlo])),?_⟩;refine⟨.row rfl,?_⟩;refine⟨.pool rfl (by first|rfl|(rw[setI1,hz])|(rw[hlo])),?_⟩;refine⟨.row rfl,?_⟩;exact trivial)) rfl⟩
 ·obtain rfl:k=((s.ll 0).drop (s.marks[lv]).toNat).length:=by omega
  rw[List.take_length]
  (refine Q208 ?_;refine zo ?_;refine AW.regionM [0,1,2,3,4,5,6,7,8,9,10] [15] rfl (by assumption) (by kernel_rfl) (by kernel_rfl) rfl ?_;show AOps .held _ _ _ [_,_,_,_,_,_,_,_,_,_,_] _ _;refine Q50 ?_;refine AOps.fieldAddrN 65 3 3 rfl rfl rfl rfl ?_;refine zb ?_;refine Q12 ?_;refine AOps.fieldAddrN 65 4 4 rfl rfl rfl rfl ?_;refine Q130 ?_;refine Q112 ?_;refine Q4 ?_;intro k_ hk_;refine Q140 ?_;intro g_ hgro_ hw_;(focus ((with_reducible apply AOps.load_o1_mapI);(iterate 4 exact rfl);exact(fun h_=>by cases h_);rotate_left;(first|omega|exact Nat.zero_lt_one|(simp;done))));refine Q4 ?_;refine AR.readsM [12,13,14] (by kernel_rfl) (by kernel_rfl) (by kernel_rfl) (by kernel_rfl) ?_;intro g_ hgro_;show AOps .held _ _ _ [_,_,_] _ _;refine AOps.plI_slice 4 rfl rfl rfl rfl rfl rfl rfl rfl (by omega) (by omega) ?_;refine AOps.nilCheck_ptr rfl rfl rfl ?_;refine AOps.fieldAddrN 65 3 3 rfl rfl rfl rfl ?_;refine Q4 ?_;intro k_ hk_;refine Q0 ?_;refine AR.step1LM (i:=15) rfl (by kernel_rfl) rfl (by kernel_rfl) ?_;intro g_ hgro_ hwt2_;(with_reducible apply AOps.store_b1);(iterate 5 exact rfl);(first|exact rfl|assumption|exact o1_ _|exact o2_ _ _|exact o3_ _|exact o4_ _ _);(iterate 3 exact rfl);(with_reducible assumption);refine Q267 ?_;(with_reducible apply AW.plI_shrinkR 9 4 0 (s.marks.getD lv 0).toNat);exact rfl;omega;(rw[hgd]);(try (conv=>rhs;simp only[Nf.s1R,Nf.all,Nat.reduceBEq,reduceAdd,reduceSub]));refine AW.region ?_;refine Q50 ?_;refine AOps.fieldAddrN 65 4 4 rfl rfl rfl rfl ?_;refine Q130 ?_;(with_reducible apply AOps.slice_own);(iterate 7 exact rfl);omega;(first|omega|(simp only[List.length_map,List.length_append,List.length_cons,List.length_nil,List.length_drop,List.length_take,List.length_set,List.length_range,chunk_len];omega));refine AOps.nilCheck_ptr rfl rfl rfl ?_;refine AOps.fieldAddrN 65 4 4 rfl rfl rfl rfl ?_;(with_reducible apply AOps.store_b1);(iterate 5 exact rfl);(first|exact rfl|assumption|exact o1_ _|exact o2_ _ _|exact o3_ _|exact o4_ _ _);(iterate 3 exact rfl);(with_reducible assumption);refine Q0 ?_;refine AOps.nil ?_)
  (apply endsX_nor;((exact Res.none));((exact Q161));((refine⟨.box _ rfl ?_,?_⟩;(iterate 2 refine Q279 ?_);(iterate 2 refine Q121 ?_);refine Q279 ?_;refine Q121 ?_;(iterate 2 refine⟨.litE (by first|rfl|(rw[List.map_take];rfl)),?_⟩);refine Q121 ?_;(iterate 2 refine⟨.pvE (by first|rfl|(rw[List.map_take];rfl)),?_⟩);exact trivial;(iterate 3 refine⟨.row rfl,?_⟩);refine Q273 ?_;(iterate 2 refine⟨.row rfl,?_⟩);refine Q273 ?_;refine⟨.row rfl,?_⟩;refine Q273 ?_;exact Q312));exact rfl)
end Go.Ab
/- The solver:going back to a level;a clause attached,walked. -/
namespace Go.Ab
open Go Go.Proofs
open Nat (reduceAdd reduceSub)
set_option maxRecDepth 20000
set_option maxHeartbeats 4000000
def headS (s:SR):SR:={s with head:=min s.head ((s.ll 0).length:Int)}
def watchS (s:SR) (x:Int) (at':Nat) (h:Value):SR:={s with hw:=fset s.hw (idxI x).toNat h,wl:=fset s.wl (idxI x).toNat (s.wl (idxI x).toNat++ [(at':Int)])}
structure AtI (s:SR) (x y:Int) (k:Nat) (hw:Nat→Value) (wl:Nat→List Int):Prop where
 le:k≤2
 i0:k=0→hw=s.hw∧wl=s.wl
 i1:k=1→∃h:Value,h.oneCell'=true∧hw=fset s.hw (idxI x).toNat h∧wl=fset s.wl (idxI x).toNat (s.wl (idxI x).toNat++ [(s.nc:Int)])
 i2:k=2→∃h h':Value,h.oneCell'=true∧h'.oneCell'=true∧hw=fset (fset s.hw (idxI x).toNat h) (idxI y).toNat h'∧wl=fset (fset s.wl (idxI x).toNat (s.wl (idxI x).toNat++ [(s.nc:Int)])) (idxI y).toNat (fset s.wl (idxI x).toNat (s.wl (idxI x).toNat++ [(s.nc:Int)]) (idxI y).toNat++ [(s.nc:Int)])
attribute [local irreducible] hrow AW AOps thenD inBlockD AR iterEnds roundEndsN inlEnds noGotoD EndsX EndsQ idxI
theorem undo_fn (s s1:SR) (lv:Int) (hb:FnX Try.prog 32 11 (SOb s) [.ptr 0 0,litI lv] (SOb s1) (.tup [])):FnX Try.prog 37 11 (SOb s) [.ptr 0 0,litI lv] (SOb (headS s1)) (.tup []):=by
 simp only[SOb,SBox] at hb ⊢
 refine FnX.enter (n:=23) Try.func37 rfl rfl rfl rfl rfl (by decide) rfl rfl fun g hro_ hwt_=>?_;refine Q25 ?_
 (refine zq ?_;refine Q316 ?_;refine zX (hb) ?_;refine Q87 ?_;refine zd ?_;refine AW.regionM [0,1,2,3,4,5,6,7,8,9,10,11,12,13] [14] rfl (by assumption) (by kernel_rfl) (by kernel_rfl) rfl ?_;show AOps .held _ _ _ [_,_,_,_,_,_,_,_,_,_,_,_,_,_] _ _;refine Q50 ?_;refine Q309 ?_;refine Q78 ?_;refine Q251 ?_;refine AOps.min2 rfl rfl rfl rfl rfl ?_;refine AOps.nilCheck_ptr rfl rfl rfl ?_;refine AOps.fieldAddrN 67 3 8 rfl rfl rfl rfl ?_;refine Q4 ?_;intro k_ hk_;refine Q0 ?_;refine Q114 ?_;intro g_ hgro_ hwt2_;(with_reducible apply AOps.store_b1);(iterate 5 exact rfl);(first|exact rfl|assumption|exact o1_ _|exact o2_ _ _|exact o3_ _|exact o4_ _ _);(iterate 3 exact rfl);(with_reducible assumption);refine Q0 ?_;refine Q31 ?_)
 (apply endsX_nor;((exact Res.none));((exact Q161));((exact Q54));exact rfl)
end Go.Ab
/- The solver:a step of the proof logged;the end of a search,walked. -/
namespace Go.Ab
open Go Go.Proofs
open Nat (reduceAdd reduceSub)
set_option maxRecDepth 20000
set_option maxHeartbeats 4000000
attribute [local irreducible] hrow AW AOps thenD inBlockD AR iterEnds roundEndsN inlEnds noGotoD EndsX EndsQ
theorem cloneT_fn (l:List Int) (hl:l.length≤1000000):Fn Try.prog 45 [.pv (nums l)] (.pv (nums l)):=by
 refine Fn.enter (n:=8) Try.func45 rfl rfl rfl rfl rfl (by decide) fun g hro_ hwt_=>?_;(try (conv=>rhs;simp only[Nf.s1R,Nf.all,Nat.reduceBEq,reduceAdd,reduceSub]))
 (refine Q173 ?_;refine Q202 ?_;(focus ((with_reducible apply AOps.eqlNil);(iterate 6 exact rfl);all_goals intro hc_));refine Q43 ?_;refine Q40 ?_;refine Q153 ?_;(all_goals skip);rotate_left;refine Q67 ?_;refine Q37 ?_;refine Q40 ?_;refine AOps.bs0 rfl rfl rfl rfl rfl ?_;refine Q0 ?_;refine zm ?_;(with_reducible apply AOps.appendS);exact rfl;(first|exact .pv rfl|exact .own rfl|exact .nil rfl);(iterate 9 exact rfl);(first|omega|(simp only[List.length_map,List.length_append,List.length_cons,List.length_nil,List.length_drop,List.length_take,List.length_set,List.length_range,chunk_len];omega));refine Q0 ?_;refine Q269 ?_;(all_goals skip);rotate_left)
 ·obtain rfl:l=[]:=by simpa using hc_
  (apply ends_ret;(exact Res.one (.tmp rfl rfl));(exact Le.nil _))
 ·(apply ends_ret;(exact Res.one (.tmp rfl rfl));(exact Le.own _ _ _ _ rfl))
theorem learnT_fn (s:SR) (l:List Int) (hl:l.length≤1000000) (hp:s.proof.length≤1000000):FnX Try.prog 64 11 (SOb s) [.ptr 0 0,.pv (nums l)] (SOb {s with proof:=s.proof++ [l]}) (.tup []):=by
 have hc:=cloneT_fn l hl
 simp only[SOb,SBox]
 refine FnX.enter (n:=16) Try.func64 rfl rfl rfl rfl rfl (by decide) rfl rfl fun g hro_ hwt_=>?_;refine Q25 ?_
 (refine AW.regionM [0,1,2,3,4,5] [12] rfl (by assumption) (by kernel_rfl) (by kernel_rfl) rfl ?_;show AOps .held _ _ _ [_,_,_,_,_,_] _ _;refine Q50 ?_;refine AOps.fieldAddrN 67 6 11 rfl rfl rfl rfl ?_;refine Q130 ?_;refine Q4 ?_;intro k_ hk_;refine Q0 ?_;refine AR.step1M (i:=6) rfl (by kernel_rfl) rfl ?_;intro g_ hgro_ hw_;refine zP (hc) ?_;refine Q194 ?_;(try (conv=>rhs;simp only[Nf.s1R,Nf.all,Nat.reduceBEq,reduceAdd,reduceSub]));refine AR.step1M (i:=8) rfl (by kernel_rfl) rfl ?_;intro g_ hgro_ hw_;refine Q213 ?_;refine AR.step1M (i:=9) rfl (by kernel_rfl) rfl ?_;intro g_ hgro_ hw_;(with_reducible apply AOps.appendS);exact rfl;(first|exact .pv rfl|exact .own rfl|exact .nil rfl);(iterate 9 exact rfl);(first|omega|(simp only[List.length_map,List.length_append,List.length_cons,List.length_nil,List.length_drop,List.length_take,List.length_set,List.length_range,chunk_len];omega));refine Q126 ?_;refine AR.readsM [10,11] (by kernel_rfl) (by kernel_rfl) (by kernel_rfl) (by kernel_rfl) ?_;intro g_ hgro_;show AOps .held _ _ _ [_,_] _ _;refine AOps.nilCheck_ptr rfl rfl rfl ?_;refine Q300 ?_;intro k_ hk_;refine Q0 ?_;refine Q101 ?_;intro g_ hgro_ hwt2_;(with_reducible apply AOps.store_b1);(iterate 5 exact rfl);(first|exact rfl|assumption|exact o1_ _|exact o2_ _ _|exact o3_ _|exact o4_ _ _);(iterate 3 exact rfl);(with_reducible assumption);refine Q0 ?_;refine Q31 ?_)
 (apply endsX_nor;((exact Res.none));((exact Q161));((exact Q72));exact rfl)
theorem cloneP_fn (hs:Nat→Value) (ls:Nat→List Int) (k:Nat) (hl:(ls k).length≤1000000) (h0:0<(ls k).length):FnX Try.prog 45 11 [(7,some (.pool 3 (plI hs ls)))] [.pv (.lit (hs k))] [(7,some (.pool 3 (plI hs ls)))] (.pv (nums (ls k))):=by
 refine FnX.enter (n:=8) Try.func45 rfl rfl rfl rfl rfl (by decide) rfl rfl fun g hro_ hwt_=>?_;refine Q25 ?_
 (refine Q173 ?_;refine Q202 ?_;(with_reducible apply AOps.plI_eqnil 7);(iterate 7 exact rfl);omega;(try (conv=>rhs;simp only[Nf.s1R,Nf.all,Nat.reduceBEq,reduceAdd,reduceSub]));refine Q67 ?_;refine Q37 ?_;refine zq ?_;refine AOps.bs0 rfl rfl rfl rfl rfl ?_;refine Q0 ?_;refine zm ?_;(with_reducible apply AOps.append_pool 7);(iterate 11 exact rfl);(simp only[List.length_nil];omega);(try (conv=>rhs;simp only[Nf.s1R,Nf.all,Nat.reduceBEq,reduceAdd,reduceSub]));refine Q269 ?_)
 (apply endsX_ret;((exact Res.one (.tmp rfl rfl)));((refine⟨.freezeE rfl (by first|with_reducible rfl|(rfl)),?_⟩;exact Q33));((refine⟨.pool rfl (by first|with_reducible rfl|(rfl)),?_⟩;exact trivial));exact rfl)
theorem learnP_fn (s:SR) (hl:(s.cl s.nc).length≤1000000) (hp:s.proof.length≤1000000) (h0:0<(s.cl s.nc).length):FnX Try.prog 64 11 (SOb s) [.ptr 0 0,.pv (.lit (s.hc s.nc))] (SOb {s with proof:=s.proof++ [s.cl s.nc]}) (.tup []):=by
 have hc:=cloneP_fn s.hc s.cl s.nc hl h0
 simp only[SOb,SBox]
 refine FnX.enter (n:=16) Try.func64 rfl rfl rfl rfl rfl (by decide) rfl rfl fun g hro_ hwt_=>?_;refine Q25 ?_
 (refine AW.regionM [5] [6] rfl (by assumption) (by kernel_rfl) (by kernel_rfl) rfl ?_;show AOps .held _ _ _ [_] _ _;refine zm ?_;refine Q4 ?_;intro k_ hk_;refine Q0 ?_;(refine AR.free 0 (by kernel_rfl) rfl rfl rfl (by first|exact Frees.move_ptr rfl rfl|exact Frees.move_pv rfl rfl|exact Frees.nilCheck rfl rfl) ?_);(refine AR.free 1 (by kernel_rfl) rfl rfl rfl (by first|exact Frees.move_ptr rfl rfl|exact Frees.move_pv rfl rfl|exact Frees.nilCheck rfl rfl) ?_);(refine AR.free 2 (by kernel_rfl) rfl rfl rfl (by first|exact Frees.move_ptr rfl rfl|exact Frees.move_pv rfl rfl|exact Frees.nilCheck rfl rfl) ?_);apply AR.cut [2,1,0,5,3,4,6,7,8];intro hJ_0;apply AR.cut [2,1,0,5,3,4,6,7];intro hJ_1;(refine AR.step2L (i:=3) (j:=6) rfl (by kernel_rfl) rfl rfl (by kernel_rfl) ?_ ?_<;>intro g_ hgro_ hwt2_);refine Q300 ?_;(refine AR.step2L (i:=4) (j:=6) rfl (by kernel_rfl) rfl rfl (by kernel_rfl) ?_ ?_<;>intro g_ hgro_ hwt2_);refine zb ?_;refine Q102 ?_;intro g_ hgro_ hwt2_;refine zX (hc) ?_;refine Q87 ?_;refine Q194 ?_;(try (conv=>rhs;simp only[Nf.s1R,Nf.all,Nat.reduceBEq,reduceAdd,reduceSub]));(try (conv=>rhs;simp only[Nf.s1R,Nf.all,Nat.reduceBEq,reduceAdd,reduceSub]));exact Q244;refine zX (hc) ?_;refine Q87 ?_;refine Q194 ?_;(try (conv=>rhs;simp only[Nf.s1R,Nf.all,Nat.reduceBEq,reduceAdd,reduceSub]));(refine AR.step2LL (i:=4) (j:=8) rfl (by kernel_rfl) rfl rfl (by kernel_rfl) ?_ ?_<;>intro g_ hgro_ hwt2_);refine zb ?_;refine Q4 ?_;(try (conv=>rhs;simp only[Nf.s1R,Nf.all,Nat.reduceBEq,reduceAdd,reduceSub]));refine AR.meet hJ_1 (by kernel_rfl) (fun g_=>weak rfl ?_ ?_ rfl);(iterate 11 refine⟨.eq rfl rfl,?_⟩);exact trivial;exact Q10;refine Q213 ?_;refine Q285 ?_;intro g_ hgro_ hwt2_;refine zb ?_;refine Q4 ?_;(try (conv=>rhs;simp only[Nf.s1R,Nf.all,Nat.reduceBEq,reduceAdd,reduceSub]));exact Q162;refine zX (hc) ?_;refine Q87 ?_;refine Q194 ?_;(try (conv=>rhs;simp only[Nf.s1R,Nf.all,Nat.reduceBEq,reduceAdd,reduceSub]));(refine AR.step2LL (i:=3) (j:=8) rfl (by kernel_rfl) rfl rfl (by kernel_rfl) ?_ ?_<;>intro g_ hgro_ hwt2_);refine Q300 ?_;(refine AR.step2LL (i:=4) (j:=8) rfl (by kernel_rfl) rfl rfl (by kernel_rfl) ?_ ?_<;>intro g_ hgro_ hwt2_);refine zb ?_;refine Q4 ?_;(try (conv=>rhs;simp only[Nf.s1R,Nf.all,Nat.reduceBEq,reduceAdd,reduceSub]));refine AR.meet hJ_1 (by kernel_rfl) (fun g_=>weak rfl ?_ ?_ rfl);(iterate 11 refine⟨.eq rfl rfl,?_⟩);exact trivial;exact Q10;refine Q213 ?_;refine Q285 ?_;intro g_ hgro_ hwt2_;refine zb ?_;refine Q4 ?_;(try (conv=>rhs;simp only[Nf.s1R,Nf.all,Nat.reduceBEq,reduceAdd,reduceSub]));exact Q223;refine Q213 ?_;refine AR.step1LM (i:=3) rfl (by kernel_rfl) rfl (by kernel_rfl) ?_;intro g_ hgro_ hwt2_;refine Q300 ?_;refine Q285 ?_;intro g_ hgro_ hwt2_;refine zb ?_;refine Q4 ?_;(try (conv=>rhs;simp only[Nf.s1R,Nf.all,Nat.reduceBEq,reduceAdd,reduceSub]));exact Q223;refine Q187 ?_;intro g_ hgro_ hwt2_;refine Q213 ?_;(try (conv=>rhs;simp only[Nf.s1R,Nf.all,Nat.reduceBEq,reduceAdd,reduceSub]));exact Q223;refine Q242 ?_;intro g_ hgro_ hwt2_;(with_reducible apply AOps.appendS);exact rfl;(first|exact .pv rfl|exact .own rfl|exact .nil rfl);(iterate 9 exact rfl);(first|omega|(simp only[List.length_map,List.length_append,List.length_cons,List.length_nil,List.length_drop,List.length_take,List.length_set,List.length_range,chunk_len];omega));refine Q126 ?_;refine AR.step1LM (i:=10) rfl (by kernel_rfl) rfl (by kernel_rfl) ?_;intro g_ hgro_ hwt2_;refine Q135 ?_;refine Q164 ?_;intro g_ hgro_ hwt2_;refine Q300 ?_;refine Q101 ?_;intro g_ hgro_ hwt2_;(with_reducible apply AOps.store_b1);(iterate 5 exact rfl);(first|exact rfl|assumption|exact o1_ _|exact o2_ _ _|exact o3_ _|exact o4_ _ _);(iterate 3 exact rfl);(with_reducible assumption);refine Q0 ?_;refine Q31 ?_)
 (apply endsX_nor;((exact Res.none));((exact Q161));((exact Q72));exact rfl)
end Go.Ab
/- The solver's invariant,in plain terms:the trail. -/
namespace Go.Ab
open Go Go.Proofs
def valV (n:Nat) (L:List Int):List Int:=(List.range (n+1)).map fun v:Nat=>if (v:Int)∈L then 1 else if -(v:Int)∈L then -1 else 0
structure TrlOk (n:Nat) (L:List Int):Prop where
 rng:∀x∈L,x≠0∧ -(n:Int)≤x∧x≤n
 nd:(L.map varN).Nodup
theorem varN_neg (x:Int):varN (-x)=varN x:=by unfold varN;omega
theorem varN_eq {x y:Int}:varN x=varN y↔x=y∨x= -y:=by unfold varN;omega
theorem varN_rng {n:Nat} {x:Int} (h:x≠0∧ -(n:Int)≤x∧x≤n):1≤varN x∧varN x≤n:=by unfold varN;omega
theorem valV_len (n:Nat) (L:List Int):(valV n L).length=n+1:=by simp [valV]
theorem valV_get {n v:Nat} (L:List Int) (h:v≤n):(valV n L).getD v 0=if (v:Int)∈L then 1 else if -(v:Int)∈L then -1 else 0:=by
 unfold valV
 rw[List.getD_eq_getElem?_getD,List.getElem?_map,List.getElem?_range (by omega)];rfl
theorem TrlOk.once {n:Nat} {L:List Int} (h:TrlOk n L) {x y:Int} (hx:x∈L) (hy:y∈L) (hv:varN x=varN y):x=y:=by
 obtain⟨i,hi,rfl⟩:=List.getElem_of_mem hx
 obtain⟨j,hj,rfl⟩:=List.getElem_of_mem hy
 have:i=j:=(List.getElem_inj h.nd (h₀:=by simpa using hi) (h₁:=by simpa using hj)).1 (by simpa using hv)
 subst this;rfl
theorem TrlOk.no_neg {n:Nat} {L:List Int} (h:TrlOk n L) {x:Int} (hx:x∈L): -x∉L:=fun hn=>by
 have:=h.once hx hn (varN_neg x).symm
 have:=(h.rng x hx).1
 omega
theorem of_val {n:Nat} {L:List Int} {x:Int} (hx:x≠0∧ -(n:Int)≤x∧x≤n) (h:TrlOk n L):ofI (valV n L) x=if x∈L then 1 else if -x∈L then -1 else 0:=by
 unfold ofI
 by_cases hn:x<0
 ·rw[if_pos hn,valV_get L (by omega),show(((-x).toNat:Nat):Int)= -x by omega,Int.neg_neg]
  by_cases h1:x∈L
  ·rw[if_neg (h.no_neg h1),if_pos h1,if_pos h1];rfl
  ·by_cases h2: -x∈L
   ·rw[if_pos h2,if_neg h1,if_pos h2]
   ·rw[if_neg h2,if_neg h1,if_neg h1,if_neg h2];rfl
 ·rw[if_neg hn,valV_get L (by omega),show((x.toNat:Nat):Int)=x by omega]
theorem valV_rng {n:Nat} {L:List Int}:∀y∈valV n L,-1≤y∧y≤1:=by
 intro y hy
 unfold valV at hy
 obtain⟨v,_,rfl⟩:=List.mem_map.1 hy
 split
 ·omega
 ·split<;>omega
theorem nodup_leS:∀(n:Nat) {l:List Nat},l.Nodup→(∀x∈l,1≤x∧x≤n)→l.length≤n:=by
 intro n
 induction n with
 |zero=>intro l _ h;cases l with|nil=>simp|cons x l=>have:=h x (by simp);omega
 |succ n ih=>
  intro l hn h
  have h1:=ih (l:=l.erase (n+1)) (hn.erase _) (fun x hx=>by
   have h2:=h x (List.mem_of_mem_erase hx)
   have h3:x≠n+1:=fun e=>by subst e;exact(List.Nodup.not_mem_erase hn) hx
   omega)
  have:=List.length_erase (a:=n+1) (l:=l)
  split at this<;>omega
theorem TrlOk.len {n:Nat} {L:List Int} (h:TrlOk n L):L.length≤n:=by
 have:=nodup_leS n h.nd fun v hv=>by
  obtain⟨x,hx,rfl⟩:=List.mem_map.1 hv
  exact varN_rng (h.rng x hx)
 simpa using this
theorem TrlOk.push {n:Nat} {L:List Int} (h:TrlOk n L) {x:Int} (hx:x≠0∧ -(n:Int)≤x∧x≤n) (h1:x∉L) (h2: -x∉L):TrlOk n (L++ [x]) where
 rng:=fun y hy=>by
  rcases List.mem_append.1 hy with hy|hy
  ·exact h.rng y hy
  ·rw[List.mem_singleton.1 hy];exact hx
 nd:=by
  rw[List.map_append,List.nodup_append]
  refine⟨h.nd,by simp,fun v hv w hw=>?_⟩
  obtain⟨y,hy,rfl⟩:=List.mem_map.1 hv
  simp at hw
  subst hw
  intro e
  rcases varN_eq.1 e with rfl|rfl
  ·exact h1 hy
  ·exact h2 hy
theorem valV_push {n:Nat} {L:List Int} {x:Int} (hx:x≠0∧ -(n:Int)≤x∧x≤n) (h1:x∉L) (h2: -x∉L):(valV n L).set (varN x) (sgnI x)=valV n (L++ [x]):=by
 apply List.ext_getElem (by simp [valV])
 intro v q1 q2
 have hv:v≤n:=by simp [valV] at q1;omega
 rw[List.getElem_set]
 simp only[valV,List.getElem_map,List.getElem_range,List.mem_append,List.mem_singleton]
 unfold sgnI
 by_cases e:varN x=v
 ·rw[if_pos e]
  unfold varN at e
  by_cases hn:x<0
  ·have e1:x= -(v:Int):=by omega
   rw[if_pos hn,if_neg (fun h=>h.elim (fun h=>h2 (by rw[e1,Int.neg_neg];exact h)) (fun h=>by omega)),if_pos (.inr e1.symm)]
  ·have e1:x=(v:Int):=by omega
   rw[if_neg hn,if_pos (.inr e1.symm)]
 ·rw[if_neg e]
  unfold varN at e
  have e1:¬(v:Int)=x:=by omega
  have e2:¬ -(v:Int)=x:=by omega
  simp only[e1,e2,or_false]
theorem zeroV_get {l:List Int} {v:List Int} {j:Nat} (hj:j<(zeroV v l).length):(zeroV v l)[j]=if j∈l.map varN then 0 else v[j]'(by rw[zeroV_len] at hj;exact hj):=by
 unfold zeroV at hj ⊢
 induction l generalizing v with
 |nil=>simp
 |cons x l ih=>
  simp only[List.foldl_cons] at hj ⊢
  rw[ih hj,List.getElem_set]
  simp only[List.map_cons,List.mem_cons]
  by_cases h1:j∈l.map varN
  ·rw[if_pos h1,if_pos (.inr h1)]
  ·rw[if_neg h1]
   by_cases h2:varN x=j
   ·rw[if_pos h2,if_pos (.inl h2.symm)]
   ·rw[if_neg h2,if_neg (fun h=>h.elim (fun h=>h2 h.symm) h1)]
theorem valV_back {n:Nat} {L:List Int} (h:TrlOk n L) (m:Nat):zeroV (valV n L) (L.drop m)=valV n (L.take m):=by
 apply List.ext_getElem (by rw[zeroV_len];simp [valV])
 intro v q1 q2
 have hv:v≤n:=by simp [valV] at q2;omega
 rw[zeroV_get q1]
 simp only[valV,List.getElem_map,List.getElem_range]
 have hsplit:∀y,y∈L↔y∈L.take m∨y∈L.drop m:=fun y=>by conv=>lhs;rw[← List.take_append_drop m L,List.mem_append]
 have hdis:∀{y z},y∈L.take m→z∈L.drop m→varN y≠varN z:=fun {y z} hy hz e=>by
  have hnd:=h.nd
  rw[← List.take_append_drop m L,List.map_append,List.nodup_append] at hnd
  exact hnd.2.2 _ (List.mem_map_of_mem hy) _ (List.mem_map_of_mem hz) e
 have hv1:varN (v:Int)=v:=by unfold varN;omega
 have hv2:varN (-(v:Int))=v:=by unfold varN;omega
 by_cases h1:v∈(L.drop m).map varN
 ·rw[if_pos h1]
  obtain⟨z,hz,e⟩:=List.mem_map.1 h1
  rw[if_neg (fun hh=>hdis hh hz (by rw[e,hv1])),if_neg (fun hh=>hdis hh hz (by rw[e,hv2]))]
 ·rw[if_neg h1]
  have g1:(v:Int)∉L.drop m:=fun hh=>h1 (List.mem_map.2 ⟨_,hh,hv1⟩)
  have g2: -(v:Int)∉L.drop m:=fun hh=>h1 (List.mem_map.2 ⟨_,hh,hv2⟩)
  simp only[hsplit,g1,g2,or_false]
theorem TrlOk.take {n:Nat} {L:List Int} (h:TrlOk n L) (m:Nat):TrlOk n (L.take m):=⟨fun x hx=>h.rng x (List.mem_of_mem_take hx),by rw[List.map_take];exact h.nd.sublist (List.take_sublist _ _)⟩
end Go.Ab
/- The solver's invariant,in plain terms:clauses,watches,levels,reasons. -/
namespace Go.Ab
open Go Go.Proofs
abbrev Lit (n:Nat) (x:Int):Prop:=x≠0∧ -(n:Int)≤x∧x≤n
abbrev c0 (c:List Int):Int:=c.getD 0 0
abbrev c1 (c:List Int):Int:=c.getD 1 0
def levOf (s:SR) (x:Int):Int:=s.level.getD (varN x) 0
structure SInv (n:Nat) (s:SR):Prop where
 hn:n≤20000
 trl:TrlOk n (s.ll 0)
 val:s.value=valV n (s.ll 0)
 lvl:s.level.length=n+1
 rsn:s.reason.length=n+1
 hd:0≤s.head∧s.head≤((s.ll 0).length:Int)
 mrk:∀m∈s.marks,0≤m∧m≤s.head
 lev:∀i (h:i<(s.ll 0).length),levOf s (s.ll 0)[i]=(s.marks.countP fun m=>decide (m≤(i:Int)):Nat)
 cls:∀j,j<s.nc→2≤(s.cl j).length∧(s.cl j).Nodup∧∀x∈s.cl j,Lit n x
 fresh:∀j,s.nc≤j→s.cl j=[]∧s.hc j=.slice none 0 0
 nc:s.nc≤100000
 nw:s.nw=2*n+2
 wt:∀x,Lit n x→∀e∈s.wl (idxI x).toNat,∃j:Nat,j<s.nc∧e=(j:Int)∧(c0 (s.cl j)=x∨c1 (s.cl j)=x)
 wnd:∀k,(s.wl k).Nodup
 wto:∀j,j<s.nc→(j:Int)∈s.wl (idxI (c0 (s.cl j))).toNat∧(j:Int)∈s.wl (idxI (c1 (s.cl j))).toNat
 two:∀j,j<s.nc→∀w w',(w=c0 (s.cl j)∧w'=c1 (s.cl j))∨(w=c1 (s.cl j)∧w'=c0 (s.cl j))→ -w∈(s.ll 0).take s.head.toNat→w'∈s.ll 0∧levOf s w'≤levOf s w
 srt:s.marks.Pairwise (·≤·)
 rea:∀i (h:i<(s.ll 0).length),(s.reason.getD (varN (s.ll 0)[i]) 0= -1∧((i:Int)∈s.marks∨levOf s (s.ll 0)[i]=0))∨∃j:Nat,j<s.nc∧s.reason.getD (varN (s.ll 0)[i]) 0=(j:Int)∧(s.ll 0)[i]∈s.cl j∧∀y∈s.cl j,y≠(s.ll 0)[i]→ -y∈(s.ll 0).take i
theorem idxI_inj {n:Nat} {x y:Int} (hx:Lit n x) (hy:Lit n y) (h:(idxI x).toNat=(idxI y).toNat):x=y:=by
 unfold idxI at h;split at h<;>split at h<;>omega
theorem idxI_lt {n:Nat} {x:Int} (hx:Lit n x):0≤idxI x∧(idxI x).toNat<2*n+2:=by
 unfold idxI;split<;>omega
structure Perm2 (c d:List Int):Prop where
 len:d.length=c.length
 nd:c.Nodup→d.Nodup
 mem:∀x,x∈d↔x∈c
theorem c0_mem {c:List Int} (h:2≤c.length):c0 c∈c∧c1 c∈c:=by
 constructor
 ·rw[show c0 c=c[0] from getD_get (by omega)];exact List.getElem_mem _
 ·rw[show c1 c=c[1] from getD_get (by omega)];exact List.getElem_mem _
theorem swap_perm {c:List Int} {i k:Nat} (hi:i<c.length) (hk:k<c.length):((c.set i c[k]).set k c[i]).Perm c:=by
 by_cases e:i=k
 ·subst e;simp
 ·exact List.set_set_perm hi hk
theorem swap_perm2 {c:List Int} {i k:Nat} (hi:i<c.length) (hk:k<c.length):Perm2 c ((c.set i c[k]).set k c[i]):=
 ⟨by simp,fun h=>(swap_perm hi hk).nodup_iff.2 h,fun x=>(swap_perm hi hk).mem_iff⟩
theorem SInv.swap {n:Nat} {s:SR} (h:SInv n s) {j:Nat} (hj:j<s.nc) {d:List Int} (hp:Perm2 (s.cl j) d) (h0:c0 d=c1 (s.cl j)) (h1:c1 d=c0 (s.cl j)):SInv n {s with cl:=fset s.cl j d} where
 hn:=h.hn
 trl:=h.trl
 val:=h.val
 lvl:=h.lvl
 rsn:=h.rsn
 hd:=h.hd
 mrk:=h.mrk
 srt:=h.srt
 lev:=h.lev
 cls:=fun k hk=>by
  show 2≤(fset s.cl j d k).length∧(fset s.cl j d k).Nodup∧∀x∈fset s.cl j d k,Lit n x
  by_cases e:k=j
  ·subst e
   rw[fset_same]
   obtain⟨q1,q2,q3⟩:=h.cls k hk
   exact⟨by rw[hp.len];exact q1,hp.nd q2,fun x hx=>q3 x ((hp.mem x).1 hx)⟩
  ·rw[fset_ne _ _ e];exact h.cls k hk
 fresh:=fun k hk=>by
  have hk:s.nc≤k:=hk
  have:=h.fresh k hk
  exact⟨by show fset s.cl j d k=[];rw[fset_ne _ _ (by omega)];exact this.1,this.2⟩
 nc:=h.nc
 nw:=h.nw
 wt:=fun x hx e he=>by
  obtain⟨k,hk,rfl,hw⟩:=h.wt x hx e he
  refine⟨k,hk,rfl,?_⟩
  show c0 (fset s.cl j d k)=x∨c1 (fset s.cl j d k)=x
  by_cases e:k=j
  ·subst e;rw[fset_same,h0,h1];exact hw.symm
  ·rw[fset_ne _ _ e];exact hw
 wnd:=h.wnd
 wto:=fun k hk=>by
  show(k:Int)∈s.wl (idxI (c0 (fset s.cl j d k))).toNat∧(k:Int)∈s.wl (idxI (c1 (fset s.cl j d k))).toNat
  by_cases e:k=j
  ·subst e;rw[fset_same,h0,h1];exact(h.wto k hk).symm
  ·rw[fset_ne _ _ e];exact h.wto k hk
 two:=fun k hk w w' hw=>by
  have hw:(w=c0 (fset s.cl j d k)∧w'=c1 (fset s.cl j d k))∨(w=c1 (fset s.cl j d k)∧w'=c0 (fset s.cl j d k)):=hw
  refine h.two k hk w w' ?_
  by_cases e:k=j
  ·subst e;rw[fset_same,h0,h1] at hw;exact hw.symm
  ·rw[fset_ne _ _ e] at hw;exact hw
 rea:=fun i hi=>by
  rcases h.rea i hi with q|⟨k,q1,q2,q3,q4⟩
  ·exact .inl q
  ·refine .inr ⟨k,q1,q2,?_,?_⟩
   ·show(s.ll 0)[i]∈fset s.cl j d k
    by_cases e:k=j
    ·subst e;rw[fset_same];exact(hp.mem _).2 q3
    ·rw[fset_ne _ _ e];exact q3
   ·show ∀y∈fset s.cl j d k,y≠(s.ll 0)[i]→ -y∈(s.ll 0).take i
    by_cases e:k=j
    ·subst e;rw[fset_same];exact fun y hy=>q4 y ((hp.mem y).1 hy)
    ·rw[fset_ne _ _ e];exact q4
theorem SInv.move {n:Nat} {s:SR} (h:SInv n s) {j:Nat} (hj:j<s.nc) {d:List Int} {g y:Int} (hp:Perm2 (s.cl j) d) (hg:c1 (s.cl j)=g) (hgf: -g∈s.ll 0) (h0:c0 d=c0 (s.cl j)) (h1:c1 d=y) (hyg:y≠g) (hy0:y≠c0 (s.cl j)) (hyf: -y∉s.ll 0) {E E':List Int} (hE:s.wl (idxI g).toNat=E) (hE':∀e,e∈E'↔e∈E∧e≠(j:Int)) (hnd:E'.Nodup) (hv:Nat→Value):
  SInv n {s with cl:=fset s.cl j d,hw:=hv,wl:=fset (fset s.wl (idxI y).toNat (s.wl (idxI y).toNat++ [(j:Int)])) (idxI g).toNat E'}:=by
 obtain⟨q1,q2,q3⟩:=h.cls j hj
 obtain⟨m0,m1⟩:=c0_mem q1
 have hyc:y∈s.cl j:=by
  have:=(c0_mem (c:=d) (by rw[hp.len];exact q1)).2
  rw[h1] at this;exact(hp.mem y).1 this
 have hyl:Lit n y:=q3 y hyc
 have hgl:Lit n g:=by rw[← hg];exact q3 _ m1
 have hne:(idxI y).toNat≠(idxI g).toNat:=fun e=>hyg (idxI_inj hyl hgl e)
 have h0l:Lit n (c0 (s.cl j)):=q3 _ m0
 have hg0:c0 (s.cl j)≠g:=fun e=>by
  rw[show c0 (s.cl j)=(s.cl j)[0] from getD_get (by omega)] at e
  rw[show c1 (s.cl j)=(s.cl j)[1] from getD_get (by omega),← e] at hg
  have:=(List.getElem_inj q2 (h₀:=by omega) (h₁:=by omega)).1 hg
  omega
 -- j is no watch of y yet
 have hjy:(j:Int)∉s.wl (idxI y).toNat:=fun hm=>by
  obtain⟨k,hk,e,hw⟩:=h.wt y hyl _ hm
  have:k=j:=by omega
  subst this
  rcases hw with hw|hw
  ·exact hy0 hw.symm
  ·exact hyg (hw.symm.trans hg)
 have hwl:∀x,Lit n x→∀e,e∈fset (fset s.wl (idxI y).toNat (s.wl (idxI y).toNat++ [(j:Int)])) (idxI g).toNat E' (idxI x).toNat↔if x=g then (e∈s.wl (idxI g).toNat∧e≠(j:Int)) else if x=y then (e∈s.wl (idxI y).toNat∨e=(j:Int)) else e∈s.wl (idxI x).toNat:=by
  intro x hx e
  by_cases e1:x=g
  ·subst e1;rw[fset_same,if_pos rfl,hE' e,hE]
  ·rw[fset_ne _ _ (fun q=>e1 (idxI_inj hx hgl q)),if_neg e1]
   by_cases e2:x=y
   ·subst e2;rw[fset_same,if_pos rfl,List.mem_append,List.mem_singleton]
   ·rw[fset_ne _ _ (fun q=>e2 (idxI_inj hx hyl q)),if_neg e2]
 exact
  {hn:=h.hn,trl:=h.trl,val:=h.val,lvl:=h.lvl,rsn:=h.rsn,hd:=h.hd,mrk:=h.mrk,srt:=h.srt,lev:=h.lev
   cls:=fun k hk=>by
    show 2≤(fset s.cl j d k).length∧(fset s.cl j d k).Nodup∧∀x∈fset s.cl j d k,Lit n x
    by_cases e:k=j
    ·subst e
     rw[fset_same]
     exact⟨by rw[hp.len];exact q1,hp.nd q2,fun x hx=>q3 x ((hp.mem x).1 hx)⟩
    ·rw[fset_ne _ _ e];exact h.cls k hk
   fresh:=fun k hk=>by
    have hk:s.nc≤k:=hk
    have:=h.fresh k hk
    exact⟨by show fset s.cl j d k=[];rw[fset_ne _ _ (by omega)];exact this.1,this.2⟩
   nc:=h.nc,nw:=h.nw
   wt:=fun x hx e he=>by
    replace he:=(hwl x hx e).1 he
    show ∃k:Nat,k<s.nc∧e=(k:Int)∧(c0 (fset s.cl j d k)=x∨c1 (fset s.cl j d k)=x)
    by_cases e1:x=g
    ·rw[if_pos e1] at he
     subst e1
     obtain⟨k,hk,rfl,hw⟩:=h.wt x hx e he.1
     exact⟨k,hk,rfl,by rw[fset_ne _ _ (by have:=he.2;omega)];exact hw⟩
    ·rw[if_neg e1] at he
     by_cases e2:x=y
     ·rw[if_pos e2] at he
      subst e2
      rcases he with he|rfl
      ·obtain⟨k,hk,rfl,hw⟩:=h.wt x hx e he
       have hkj:k≠j:=by rintro rfl;exact hjy he
       exact⟨k,hk,rfl,by rw[fset_ne _ _ hkj];exact hw⟩
      ·exact⟨j,hj,rfl,by rw[fset_same];exact .inr h1⟩
     ·rw[if_neg e2] at he
      obtain⟨k,hk,rfl,hw⟩:=h.wt x hx e he
      refine⟨k,hk,rfl,?_⟩
      by_cases e3:k=j
      ·subst e3
       rw[fset_same,h0,h1]
       rcases hw with hw|hw
       ·exact .inl hw
       ·exact absurd (hw.symm.trans hg) e1
      ·rw[fset_ne _ _ e3];exact hw
   wnd:=fun k=>by
    show(fset (fset s.wl (idxI y).toNat (s.wl (idxI y).toNat++ [(j:Int)])) (idxI g).toNat E' k).Nodup
    by_cases e1:k=(idxI g).toNat
    ·rw[e1,fset_same];exact hnd
    ·rw[fset_ne _ _ e1]
     by_cases e2:k=(idxI y).toNat
     ·rw[e2,fset_same,List.nodup_append]
      refine⟨h.wnd _,by simp,fun a ha b hb=>?_⟩
      rw[List.mem_singleton.1 hb]
      rintro rfl
      exact hjy ha
     ·rw[fset_ne _ _ e2];exact h.wnd k
   wto:=fun k hk=>by
    show(k:Int)∈fset (fset s.wl (idxI y).toNat (s.wl (idxI y).toNat++ [(j:Int)])) (idxI g).toNat E' (idxI (c0 (fset s.cl j d k))).toNat∧(k:Int)∈fset (fset s.wl (idxI y).toNat (s.wl (idxI y).toNat++ [(j:Int)])) (idxI g).toNat E' (idxI (c1 (fset s.cl j d k))).toNat
    have hk:k<s.nc:=hk
    by_cases e3:k=j
    ·subst e3
     rw[fset_same,h0,h1,hwl _ h0l,hwl _ hyl,if_neg hg0,if_neg hyg,if_neg (Ne.symm hy0),if_pos rfl]
     exact⟨(h.wto k hk).1,.inr rfl⟩
    ·rw[fset_ne _ _ e3]
     obtain⟨p1,p2,p3⟩:=h.cls k hk
     obtain⟨n0,n1⟩:=c0_mem p1
     have gen:∀x,Lit n x→(k:Int)∈s.wl (idxI x).toNat→(k:Int)∈fset (fset s.wl (idxI y).toNat (s.wl (idxI y).toNat++ [(j:Int)])) (idxI g).toNat E' (idxI x).toNat:=by
      intro x hx hm
      rw[hwl x hx]
      by_cases e1:x=g
      ·rw[if_pos e1];subst e1;exact⟨hm,by omega⟩
      ·rw[if_neg e1]
       by_cases e2:x=y
       ·rw[if_pos e2];subst e2;exact .inl hm
       ·rw[if_neg e2];exact hm
     exact⟨gen _ (p3 _ n0) (h.wto k hk).1,gen _ (p3 _ n1) (h.wto k hk).2⟩
   two:=fun k hk w w' hw hin=>by
    have hw:(w=c0 (fset s.cl j d k)∧w'=c1 (fset s.cl j d k))∨(w=c1 (fset s.cl j d k)∧w'=c0 (fset s.cl j d k)):=hw
    have hin: -w∈(s.ll 0).take s.head.toNat:=hin
    by_cases e:k=j
    ·subst e
     rw[fset_same,h0,h1] at hw
     rcases hw with ⟨rfl,rfl⟩|⟨rfl,rfl⟩
     ·have:=(h.two k hj _ _ (.inl ⟨rfl,rfl⟩) hin).1
      rw[hg] at this
      exact absurd hgf (h.trl.no_neg this)
     ·exact absurd (List.mem_of_mem_take hin) hyf
    ·rw[fset_ne _ _ e] at hw;exact h.two k hk w w' hw hin
   rea:=fun i hi=>by
    rcases h.rea i hi with q|⟨k,q1,q2,q3,q4⟩
    ·exact .inl q
    ·refine .inr ⟨k,q1,q2,?_,?_⟩
     ·show(s.ll 0)[i]∈fset s.cl j d k
      by_cases e:k=j
      ·subst e;rw[fset_same];exact(hp.mem _).2 q3
      ·rw[fset_ne _ _ e];exact q3
     ·show ∀y∈fset s.cl j d k,y≠(s.ll 0)[i]→ -y∈(s.ll 0).take i
      by_cases e:k=j
      ·subst e;rw[fset_same];exact fun y hy=>q4 y ((hp.mem y).1 hy)
      ·rw[fset_ne _ _ e];exact q4}
end Go.Ab
/- The solver's invariant,in plain terms:a literal pushed,a literal propagated,the kept watches. -/
namespace Go.Ab
open Go Go.Proofs
theorem levOf_push {s:SR} {x r:Int} {h:Value} {y:Int} (hne:varN y≠varN x):levOf (pushS s x r h) y=levOf s y:=by
 unfold levOf pushS
 simp only
 rw[List.getD_eq_getElem?_getD,List.getD_eq_getElem?_getD,List.getElem?_set,if_neg (Ne.symm hne)]
theorem levOf_pushed {n:Nat} {s:SR} (hs:SInv n s) {x r:Int} {h:Value} (hx:Lit n x):levOf (pushS s x r h) x=s.marks.length:=by
 unfold levOf pushS
 simp only
 have:=varN_rng hx
 rw[List.getD_eq_getElem?_getD,List.getElem?_set,if_pos rfl,if_pos (by rw[hs.lvl];omega)];rfl
theorem var_ne {n:Nat} {L:List Int} {x y:Int} (h1:x∉L) (h2: -x∉L) (hy:y∈L∨ -y∈L):varN y≠varN x:=fun e=>by
 rcases varN_eq.1 e with rfl|rfl
 ·rcases hy with hy|hy
  ·exact h1 hy
  ·exact h2 hy
 ·rcases hy with hy|hy
  ·exact h2 hy
  ·rw[Int.neg_neg] at hy;exact h1 hy
theorem count_all {l:List Int} {b:Int} (h:∀m∈l,m≤b):l.countP (fun m=>decide (m≤b))=l.length:=by
 rw[List.countP_eq_length]
 intro m hm
 simpa using h m hm
theorem SInv.push {n:Nat} {s:SR} (hs:SInv n s) {x r:Int} (h:Value) (hx:Lit n x) (h1:x∉s.ll 0) (h2: -x∉s.ll 0) (hr:(r= -1∧(((s.ll 0).length:Int)∈s.marks∨s.marks=[]))∨∃j:Nat,j<s.nc∧r=(j:Int)∧x∈s.cl j∧∀y∈s.cl j,y≠x→ -y∈s.ll 0):SInv n (pushS s x r h):=by
 have hll:(pushS s x r h).ll 0=s.ll 0++ [x]:=by show fset s.ll 0 (s.ll 0++ [x]) 0=_;exact fset_same _ _ _
 have hold:∀{y},y∈s.ll 0∨ -y∈s.ll 0→varN y≠varN x:=fun hy=>var_ne (n:=n) h1 h2 hy
 have hrs:∀{y},varN y≠varN x→(pushS s x r h).reason.getD (varN y) 0=s.reason.getD (varN y) 0:=fun {y} hy=>by
  unfold pushS
  simp only
  rw[List.getD_eq_getElem?_getD,List.getD_eq_getElem?_getD,List.getElem?_set,if_neg (Ne.symm hy)]
 have hhd:s.head.toNat≤(s.ll 0).length:=by have:=hs.hd;omega
 exact
  {hn:=hs.hn
   trl:=by rw[hll];exact hs.trl.push hx h1 h2
   val:=by rw[hll];show s.value.set (varN x) (sgnI x)=_;rw[hs.val];exact valV_push hx h1 h2
   lvl:=by show(s.level.set _ _).length=_;rw[List.length_set];exact hs.lvl
   rsn:=by show(s.reason.set _ _).length=_;rw[List.length_set];exact hs.rsn
   hd:=by rw[hll];have:=hs.hd;simp only[List.length_append,List.length_singleton];exact⟨this.1,by show s.head≤_;omega⟩
   mrk:=hs.mrk
   srt:=hs.srt
   lev:=fun i hi=>by
    simp only[hll] at hi ⊢
    have hi':i<(s.ll 0).length+1:=by simpa using hi
    by_cases e:i<(s.ll 0).length
    ·rw[List.getElem_append_left e,levOf_push (hold (.inl (List.getElem_mem e)))]
     exact hs.lev i e
    ·have e2:i=(s.ll 0).length:=by omega
     subst e2
     rw[List.getElem_append_right (Nat.le_refl _)]
     simp only[Nat.sub_self,List.getElem_cons_zero]
     rw[levOf_pushed hs hx]
     show _=((s.marks.countP _:Nat):Int)
     rw[count_all fun m hm=>by have:=hs.mrk m hm;have:=hs.hd;omega]
   cls:=hs.cls,fresh:=hs.fresh,nc:=hs.nc,nw:=hs.nw,wt:=hs.wt,wnd:=hs.wnd,wto:=hs.wto
   two:=fun j hj w w' hw hin=>by
    have hin: -w∈((pushS s x r h).ll 0).take s.head.toNat:=hin
    rw[hll,List.take_append_of_le_length hhd] at hin
    obtain⟨q1,q2⟩:=hs.two j hj w w' hw hin
    rw[hll,levOf_push (hold (.inl q1)),levOf_push (hold (.inr (List.mem_of_mem_take hin)))]
    exact⟨List.mem_append.2 (.inl q1),q2⟩
   rea:=fun i hi=>by
    simp only[hll] at hi ⊢
    have hi':i<(s.ll 0).length+1:=by simpa using hi
    by_cases e:i<(s.ll 0).length
    ·rw[List.getElem_append_left e,hrs (hold (.inl (List.getElem_mem e))),List.take_append_of_le_length (by omega),levOf_push (hold (.inl (List.getElem_mem e)))]
     exact hs.rea i e
    ·have e2:i=(s.ll 0).length:=by omega
     subst e2
     rw[List.getElem_append_right (Nat.le_refl _)]
     simp only[Nat.sub_self,List.getElem_cons_zero]
     have e3:(pushS s x r h).reason.getD (varN x) 0=r:=by
      have:=varN_rng hx
      unfold pushS
      simp only
      rw[List.getD_eq_getElem?_getD,List.getElem?_set,if_pos rfl,if_pos (by rw[hs.rsn];omega)];rfl
     rw[e3,List.take_append_of_le_length (Nat.le_refl _),List.take_length,levOf_pushed hs hx]
     rcases hr with ⟨q1,q2⟩|q
     ·refine .inl ⟨q1,q2.imp id fun q=>?_⟩
      rw[q];rfl
     ·exact .inr q}
theorem SInv.done {n:Nat} {s:SR} (hs:SInv n s) (hh:s.head.toNat<(s.ll 0).length) {g:Int} (hg:g= -(s.ll 0)[s.head.toNat]) (hE:∀e∈s.wl (idxI g).toNat,∃j:Nat,j<s.nc∧e=(j:Int)∧c1 (s.cl j)=g∧c0 (s.cl j)∈s.ll 0):SInv n {s with head:=s.head+1}:=by
 have hh0:=hs.hd
 have hgm: -g∈s.ll 0:=by rw[hg,Int.neg_neg];exact List.getElem_mem hh
 have hlg:levOf s g=s.marks.length:=by
  have e:levOf s g=levOf s (s.ll 0)[s.head.toNat]:=by unfold levOf;rw[hg,varN_neg]
  rw[e,hs.lev _ hh,count_all fun m hm=>by have:=hs.mrk m hm;omega]
 have hle:∀y∈s.ll 0,levOf s y≤s.marks.length:=fun y hy=>by
  obtain⟨i,hi,rfl⟩:=List.getElem_of_mem hy
  rw[hs.lev i hi]
  have:=List.countP_le_length (p:=fun m=>decide (m≤(i:Int))) (l:=s.marks)
  omega
 exact
  {hn:=hs.hn,trl:=hs.trl,val:=hs.val,lvl:=hs.lvl,rsn:=hs.rsn
   hd:=⟨by show 0≤s.head+1;omega,by show s.head+1≤((s.ll 0).length:Int);omega⟩
   mrk:=fun m hm=>by have:=hs.mrk m hm;exact⟨this.1,by show m≤s.head+1;omega⟩
   srt:=hs.srt
   lev:=hs.lev,cls:=hs.cls,fresh:=hs.fresh,nc:=hs.nc,nw:=hs.nw,wt:=hs.wt,wnd:=hs.wnd,wto:=hs.wto
   two:=fun j hj w w' hw hin=>by
    have hin: -w∈(s.ll 0).take (s.head+1).toNat:=hin
    rw[show(s.head+1).toNat=s.head.toNat+1 by omega,List.take_succ_eq_append_getElem hh,List.mem_append,List.mem_singleton] at hin
    rcases hin with hin|hin
    ·exact hs.two j hj w w' hw hin
    ·have hwg:w=g:=by rw[hg,← hin,Int.neg_neg]
     subst hwg
     have hmem:(j:Int)∈s.wl (idxI w).toNat:=by
      rcases hw with ⟨e,_⟩|⟨e,_⟩
      ·rw[e];exact(hs.wto j hj).1
      ·rw[e];exact(hs.wto j hj).2
     obtain⟨k,hk,e,q1,q2⟩:=hE _ hmem
     have:k=j:=by omega
     subst this
     have hw':w'=c0 (s.cl k):=by
      rcases hw with ⟨e1,e2⟩|⟨_,e2⟩
      ·exfalso
       obtain⟨p1,p2,_⟩:=hs.cls k hk
       rw[show c0 (s.cl k)=(s.cl k)[0] from getD_get (by omega)] at e1
       rw[show c1 (s.cl k)=(s.cl k)[1] from getD_get (by omega),e1] at q1
       have:=(List.getElem_inj p2 (h₀:=by omega) (h₁:=by omega)).1 q1
       omega
      ·exact e2
     rw[hw']
     refine⟨q2,?_⟩
     show levOf s (c0 (s.cl k))≤levOf s w
     rw[hlg]
     exact hle _ q2
   rea:=hs.rea}
theorem keep_same {R:List Int} {m i:Nat} (hm:m≤i) (hi:i<R.length):(R.set m R[i]).take (m+1)++(R.set m R[i]).drop (i+1)=R.take m++R.drop i:=by
 rw[List.take_set,List.drop_set,if_pos (by omega),List.take_succ_eq_append_getElem (by omega),List.set_append_right _ _ (by simp;omega)]
 simp only[List.length_take]
 rw[Nat.min_eq_left (by omega),Nat.sub_self,List.set_cons_zero,List.append_assoc,List.singleton_append,← List.drop_eq_getElem_cons hi]
theorem drop_one {A B:List Int} {x:Int} (h:(A++x::B).Nodup) (e:Int):e∈A++B↔e∈A++x::B∧e≠x:=by
 have h1:=List.nodup_append.1 h
 have h2:=List.nodup_cons.1 h1.2.1
 simp only[List.mem_append,List.mem_cons]
 constructor
 ·rintro(h3|h3)
  ·exact⟨.inl h3,fun e'=>h1.2.2 _ h3 x (by simp) e'⟩
  ·exact⟨.inr (.inr h3),fun e'=>h2.1 (e'▸h3)⟩
 ·rintro⟨h3|rfl|h3,h4⟩
  ·exact .inl h3
  ·exact absurd rfl h4
  ·exact .inr h3
theorem drop_nodup {A B:List Int} {x:Int} (h:(A++x::B).Nodup):(A++B).Nodup:=h.sublist (List.Sublist.append_left (List.sublist_cons_self _ _) _)
end Go.Ab
