/- Chapter 23: the checker's answers; the laws' limits. -/
import Derived.Test.YtigjjjpcjnifhaaAtU6
import Derived.Test.YtigjjjpcjnifhaaAbZ
import Derived.Test.YtigjjjpcjnifhaaAbL3
import Derived.Test.YtigjjjpcjnifhaaAtC3
import Derived.Test.YtigjjjpcjnifhaaAbL2
import Derived.Test.YtigjjjpcjnifhaaRows
import Derived.Test.YtigjjjpcjnifhaaAbL4
set_option linter.unusedSimpArgs false
set_option linter.unusedVariables false
namespace Go.Ab
open Go Go.Proofs
set_option maxRecDepth 20000
set_option maxHeartbeats 8000000
theorem oM (e:j3):∀(l:List bu) (s:iB),(bX e s l).2≤l.length
 |[],s=>by rw[iS];exact Nat.le_refl _
 |t::l,s=>by
  unfold bX
  cases cm e s t with
  |none=>exact Nat.zero_le _
  |some s'=>exact Nat.succ_le_succ (oM e l s')
structure Ci (v:Int) (cl:List (List Int)) (syms:List (List Int)) (l:List bu):Prop where
 hv:0≤v∧v≤20000
 dO:∀c∈cl,ay v c=true∧c.length≤1000
 len:cl.length≤1000
 zW:syms.length≤1000∧∀c∈syms,c.length≤1000
 hl:wS l≤900000∧∀t∈l,t.lits.length≤900
 h20:l.length≤20000
theorem Ci.ok {v:Int} {cl:List (List Int)} {syms:List (List Int)} {l:List bu} (h:Ci v cl syms l):gU 1000 (ct v cl):=⟨h.hv,h.dO,h.len⟩
theorem Ci.f {v:Int} {cl:List (List Int)} {syms:List (List Int)} {l:List bu} (h:Ci v cl syms l):Ie v cl:=h.ok.f (by omega)
def rJ (n m:Nat):Int:=if n<m then 220 else 0
attribute [local irreducible] AW aa bM a8 AR bm a_ bs bT canon gO ed iR jS cL ay cN db bX cm
theorem uh (v:Int) (cl:List (List Int)) (syms:List (List Int)) (l:List bu) (h:Ci v cl syms l):
  Fn Try.prog 15 [Dg v cl,.pv (dy syms),.pv (steps l)] (.tup [aw ((bX ⟨v,cl,syms⟩ (ct v cl) l).2:Nat),aw (rJ (bX ⟨v,cl,syms⟩ (ct v cl) l).2 l.length)]):=by
 have hr:=Bd v cl syms l h.ok h.zW h.hl
 have hle:=oM ⟨v,cl,syms⟩ l (ct v cl)
 have hl:=h.h20
 generalize bX ⟨v,cl,syms⟩ (ct v cl) l=R at hr hle ⊢
 by_cases aP:R.2<l.length
 ·rw[rJ,if_pos aP]
  refine Fn.enter (n:=27) Try.func15 rfl rfl rfl rfl rfl (by decide) fun g aY aW=>?_;(try refine nz ?_)
  (refine I0 ?_;refine gG ?_;refine mc ?_;refine ju ?_;refine AW.ret ?_;refine cO ?_)
  (apply az;(exact bD.two (.tmp rfl rfl) (.tmp rfl rfl));(refine Le.Hs ?_;refine fu.cons ?_ ?_;refine Le.aw ?_;(rfl);refine fu.cons ?_ ?_;refine Le.aw ?_;(rfl);exact fu.nil))
 ·rw[rJ,if_neg aP]
  have he:R.2=l.length:=by omega
  rw[he] at hr ⊢
  refine Fn.enter (n:=27) Try.func15 rfl rfl rfl rfl rfl (by decide) fun g aY aW=>?_;(try refine nz ?_)
  (refine I0 ?_;refine hO ?_;refine mc ?_;refine zn ?_;refine ju ?_;refine AW.ret ?_)
  (apply az;(exact bD.two (.tmp rfl rfl) (.tmp rfl rfl));(refine Le.Hs ?_;refine fu.cons ?_ ?_;refine Le.aw ?_;(rfl);refine fu.cons ?_ ?_;refine Le.aw ?_;(rfl);exact fu.nil))
theorem xh (v:Int) (cl:List (List Int)) (syms:List (List Int)) (l:List bu) (h:Ci v cl syms l):
  Fn Try.prog 9 [Dg v cl,.pv (dy syms),.pv (steps l)] (aM (decide ((bX ⟨v,cl,syms⟩ (ct v cl) l).2=l.length) && (bX ⟨v,cl,syms⟩ (ct v cl) l).1.ref)):=by
 have hr:=Bd v cl syms l h.ok h.zW h.hl
 have hle:=oM ⟨v,cl,syms⟩ l (ct v cl)
 have hl:=h.h20
 generalize bX ⟨v,cl,syms⟩ (ct v cl) l=R at hr hle ⊢
 obtain⟨⟨sv,scl,rf⟩,n⟩:=R
 simp only at hr hle ⊢
 by_cases he:n=l.length
 ·have he':(n:Int)=l.length:=by omega
  rw[decide_eq_true he,Bool.true_and]
  refine Fn.enter (n:=29) Try.func9 rfl rfl rfl rfl rfl (by decide) fun g aY aW=>?_;(try refine nz ?_)
  (refine qY ?_;refine zm ?_;refine CM ?_;refine hO ?_;refine fV ?_;refine GD ?_;refine qP ?_;refine zt ?_;refine aa.nq rfl rfl rfl ?_;refine zt ?_;refine aa.k9 rfl rfl rfl ?_;refine zt ?_;refine aa.eB 56 4 5 1 rfl rfl rfl rfl ?_;refine nz ?_;refine zt ?_;refine zr ?_;refine zT ?_;refine e_ ?_)
  (apply az;(exact bD.one (.tmp rfl rfl));(refine Le.aM ?_;(rfl)))
 ·have he':¬(n:Int)=l.length:=by omega
  rw[decide_eq_false he,Bool.false_and]
  refine Fn.enter (n:=29) Try.func9 rfl rfl rfl rfl rfl (by decide) fun g aY aW=>?_;(try refine nz ?_)
  (refine qY ?_;refine zm ?_;refine CM ?_;refine hO ?_;refine fV ?_;refine GD ?_;refine qP ?_;(iterate 4 refine aa.jn rfl rfl rfl rfl rfl rfl (by with_reducible assumption) ?_);refine zF ?_;refine e_ ?_)
  (apply az;(exact bD.one (.tmp rfl rfl));(refine Le.aM ?_;(rfl)))
end Go.Ab
/- Chapter 20:what a reason says;the levels' plain part. -/
namespace Go.Ab
open Go Go.Proofs
set_option maxRecDepth 20000
set_option maxHeartbeats 4000000
theorem mw (tr:List Int):∀(c out r:List Int),bw tr c out=some r→(∀y∈out,y∈r)∧∀y∈c,y∉tr∧((-y)∈tr∨y∈r):=by
 intro c
 induction c with
 |nil=>intro out r h;simp only[bw,Option.some.injEq] at h;subst h;exact⟨fun y hy=>hy,by simp⟩
 |cons x c ih=>
  intro out r h
  unfold bw at h
  split at h
  ·cases h
  ·rename_i hx
   obtain⟨h1,h2⟩:=ih _ _ h
   refine⟨fun y hy=>?_,fun y hy=>?_⟩
   ·refine h1 y ?_
    split
    ·simp [hy]
    ·exact hy
   ·rcases List.mem_cons.1 hy with rfl|hy
    ·refine⟨hx,?_⟩
     by_cases hn:(-y)∈tr
     ·exact .inl hn
     ·refine .inr (h1 y ?_)
      by_cases ho:y∈out
      ·rw[if_neg (by simp [ho])];exact ho
      ·rw[if_pos ⟨hn,ho⟩];simp
    ·exact h2 y hy
theorem sA {c tr:List Int} (h0:∀x∈c,x≠0) {x:Int} (h:(cy c tr).1=2) (hx:(cy c tr).2=x):bw tr c []=some [x]:=by
 rw[jA c tr h0] at h hx
 cases ho:bw tr c [] with
 |none=>rw[ho] at h;simp [mC] at h
 |some r=>
  rw[ho] at h hx
  match r,h,hx with
  |[],h,_=>simp [mC] at h
  |[y],_,hx=>simp [mC] at hx;rw[hx]
  |_::_::_,h,_=>simp [mC] at h
def Ir (cl:List (List Int)) (t:Tr):Prop:=∀k,k<t.1.length→0≤t.2.1.getD k 0→
 t.1.getD k 0∈cl.getD (t.2.1.getD k 0).toNat []∧∀y∈cl.getD (t.2.1.getD k 0).toNat [],y≠t.1.getD k 0→(-y)∈t.1.take k
theorem pE {α:Type} {l m:List α} {k:Nat} {d:α} (h:k<l.length):(l++m).getD k d=l.getD k d:=by
 simp [List.getD_eq_getElem?_getD,List.getElem?_append_left h]
theorem u_ {α:Type} {l:List α} {x d:α}:(l++ [x]).getD l.length d=x:=by
 simp [List.getD_eq_getElem?_getD]
theorem vc {α:Type} {l m:List α} {k:Nat} (h:k≤l.length):(l++m).take k=l.take k:=by
 rw[List.take_append_of_le_length h]
theorem Ir.push {cl:List (List Int)} {t:Tr} (h:Ir cl t) (he:kL t) {x r:Int}
  (hn:0≤r→x∈cl.getD r.toNat []∧∀y∈cl.getD r.toNat [],y≠x→(-y)∈t.1):Ir cl (t.1++ [x],t.2.1++ [r],t.2.2):=by
 intro k hk hr
 have he':t.2.1.length=t.1.length:=he
 simp only[List.length_append,List.length_singleton] at hk
 simp only at hr ⊢
 by_cases hk2:k<t.1.length
 ·rw[pE (by omega)] at hr
  rw[pE hk2,pE (by omega),vc (by omega)]
  exact h k hk2 hr
 ·have hk3:k=t.1.length:=by omega
  subst hk3
  have e1:(t.2.1++ [r]).getD t.1.length 0=r:=by rw[← he'];exact u_
  rw[e1] at hr ⊢
  rw[u_,vc (Nat.le_refl _),List.take_length]
  exact hn hr
theorem Ir.add {cl:List (List Int)} {t:Tr} (h:Ir cl t) (he:kL t) (x:Int):Ir cl (gE t x):=by
 unfold gE
 split
 ·exact h
 ·exact h.push he (fun h=>by omega)
end Go.Ab
/- Chapter 20:how the run ends,in plain terms. -/
namespace Go.Ab
open Go Go.Proofs
set_option maxRecDepth 20000
set_option maxHeartbeats 4000000
theorem mS (tr:List Int):∀(c:List Int) (left:Int),(cE tr c left).1=0∨(cE tr c left).1=1∨(cE tr c left).1=2:=by
 intro c
 induction c with
 |nil=>intro left;unfold cE;split<;>simp
 |cons x c ih=>intro left;unfold cE;split;exact .inl rfl;exact ih _
theorem qE (c tr:List Int):(cy c tr).1=0∨(cy c tr).1=1∨(cy c tr).1=2:=mS tr c 0
theorem ln (t:Tr):∀(cl:List (List Int)) (i:Nat),
  (∃j,∃h:j<cl.length,(cy cl[j] t.1).1=1∧eN t i cl=((t.1,t.2.1,((i+j:Nat):Int)),false))∨
  (∃j,∃h:j<cl.length,(cy cl[j] t.1).1=2∧eN t i cl=((t.1++ [(cy cl[j] t.1).2],t.2.1++ [((i+j:Nat):Int)],t.2.2),true))∨
  ((∀c∈cl,(cy c t.1).1=0)∧eN t i cl=(t,false)):=by
 intro cl
 induction cl with
 |nil=>intro i;exact .inr (.inr ⟨by simp,rfl⟩)
 |cons c cl ih=>
  intro i
  unfold eN
  rcases qE c t.1 with h|h|h
  ·rw[if_neg (by omega),if_neg (by omega)]
   rcases ih (i+1) with ⟨j,hj,h1,h2⟩|⟨j,hj,h1,h2⟩|⟨h1,h2⟩
   ·refine .inl ⟨j+1,by simp;omega,by simpa using h1,?_⟩
    rw[show((i:Int)+1)=((i+1:Nat):Int) from by simp,h2,show i+1+j=i+(j+1) from by omega]
   ·refine .inr (.inl ⟨j+1,by simp;omega,by simpa using h1,?_⟩)
    rw[show((i:Int)+1)=((i+1:Nat):Int) from by simp,h2,show i+1+j=i+(j+1) from by omega]
    simp
   ·refine .inr (.inr ⟨?_,?_⟩)
    ·intro d hd
     rcases List.mem_cons.1 hd with rfl|hd
     ·exact h
     ·exact h1 d hd
    ·rw[show((i:Int)+1)=((i+1:Nat):Int) from by simp,h2]
  ·rw[if_pos h]
   exact .inl ⟨0,by simp,by simpa using h,by simp⟩
  ·rw[if_neg (by omega),if_pos h]
   exact .inr (.inl ⟨0,by simp,by simpa using h,by simp⟩)
theorem yg {vars:Int} {cl:List (List Int)} {assume:List Int} (hv:0≤vars) (dO:∀c∈cl,ay vars c=true) (hw:ay vars assume=true) (hc:b_ assume=false)
  (I:Tr→Prop) (h0:I (cD assume))
  (hs:∀(t:Tr) (j:Nat) (h:j<cl.length) (x:Int),I t→kN vars t.1→kL t→bw t.1 cl[j] []=some [x]→x∈cl[j]→x∉t.1→(-x)∉t.1→I (t.1++ [x],t.2.1++ [(j:Int)],-1)):
  ∃t,I t∧kN vars t.1∧kL t∧t.2.2= -1∧fj cl t=(runM vars cl assume,false):=by
 have key:∀(m n:Nat) (t:Tr),(vars+1 - (n:Int)).toNat≤m→qB vars cl assume t n→I t→∃t,I t∧kN vars t.1∧kL t∧t.2.2= -1∧fj cl t=(runM vars cl assume,false):=by
  intro m
  induction m with
  |zero=>intro n t h1 h2 _;have:=h2.fuel hv;omega
  |succ m ih=>
   intro n t h1 h2 h3
   rcases ln t cl 0 with ⟨j,hj,h4,h5⟩|⟨j,hj,h4,h5⟩|⟨h4,h5⟩
   ·exact⟨t,h3,h2.dist,h2.even,h2.vZ,by rw[h2.stop hv h5];exact h5⟩
   ·have F0:=aT (dO _ (List.getElem_mem hj))
    have qw:=sA (fun x hx=>(F0 x hx).1) h4 rfl
    have hm:=mB t.1 cl[j] [] _ qw (by simp) (cy cl[j] t.1).2 (by simp)
    have cZ:(cy cl[j] t.1).2∈cl[j]:=by simpa using hm.1
    have h6:=h2.go hv h5 (F0 _ cZ) hm.2.1 hm.2.2
    refine ih (n+1) _ ?_ h6 ?_
    ·have:=h2.fuel hv;omega
    ·simpa using hs t j hj _ h3 h2.dist h2.even qw cZ hm.2.1 hm.2.2
   ·exact⟨t,h3,h2.dist,h2.even,h2.vZ,by rw[h2.stop hv h5];exact h5⟩
 exact key _ 0 _ (Nat.le_refl _) (p7 hv hw hc) h0
def MA (assume:List Int) (t:Tr):Prop:=(∀x∈assume,x∈t.1)∧∀p∈pr t,p.2<0→p.1∈assume
theorem GJ {t:Tr} (h:kL t) (x r:Int) (k:Int):pr (t.1++ [x],t.2.1++ [r],k)=pr t++ [(x,r)]:=by
 unfold pr
 show(t.1++ [x]).zip (t.2.1++ [r])=_
 rw[List.zip_append h.symm]
 rfl
theorem CG (assume:List Int):MA assume (cD assume):=by
 refine⟨fun x hx=>(lD assume x).2 hx,fun p hp _=>?_⟩
 obtain⟨a,b⟩:=p
 exact(lD assume a).1 (List.of_mem_zip hp).1
theorem Ha {t:Tr} (h:kL t) {x:Int} (hx:x∈t.1):∃r,(x,r)∈pr t:=by
 obtain⟨k,hk,rfl⟩:=List.getElem_of_mem hx
 have hk2:k<t.2.1.length:=by rw[h];exact hk
 refine⟨t.2.1[k],?_⟩
 have:(pr t)[k]'(by simp [pr];omega)=(t.1[k],t.2.1[k]):=by simp [pr]
 rw[← this]
 exact List.getElem_mem _
theorem HM {assume:List Int} {t:Tr} (h:MA assume t) (he:kL t) (x:Int):x∈t.1↔x∈assume++(impl (pr t)).map (·.1):=by
 rw[List.mem_append,List.mem_map]
 constructor
 ·intro hx
  obtain⟨r,hr⟩:=Ha he hx
  by_cases h0:r<0
  ·exact .inl (h.2 _ hr h0)
  ·exact .inr ⟨(x,r),by unfold impl;rw[List.mem_filter];exact⟨hr,by simp;omega⟩,rfl⟩
 ·rintro(hx|⟨⟨a,b⟩,hp,rfl⟩)
  ·exact h.1 x hx
  ·unfold impl at hp
   rw[List.mem_filter] at hp
   exact(List.of_mem_zip hp.1).1
structure Fin (vars:Int) (cl:List (List Int)) (assume:List Int) (t:Tr):Prop where
 dist:kN vars t.1
 even:kL t
 mem:∀x,x∈t.1↔x∈assume++(impl (pr t)).map (·.1)
 fin:(t.2.2= -1∧∀c∈cl,(cy c t.1).1=0)∨∃j,∃h:j<cl.length,t.2.2=(j:Int)∧(cy cl[j] t.1).1=1
theorem xQ {vars:Int} {cl:List (List Int)} {assume:List Int} (hv:0≤vars) (dO:∀c∈cl,ay vars c=true) (hw:ay vars assume=true) (hc:b_ assume=false):Fin vars cl assume (runM vars cl assume):=by
 obtain⟨t,h1,h2,h3,h4,h5⟩:=yg hv dO hw hc (MA assume) (CG assume) (by
  intro t j hj x h1 h2 h3 _ _ _ _
  refine⟨fun y hy=>List.mem_append.2 (.inl (h1.1 y hy)),fun p hp h0=>?_⟩
  rw[GJ h3] at hp
  rcases List.mem_append.1 hp with hp|hp
  ·exact h1.2 p hp h0
  ·simp at hp;subst hp;simp at h0;omega)
 have hm:=HM h1 h3
 rcases ln t cl 0 with ⟨j,hj,h6,h7⟩|⟨j,hj,h6,h7⟩|⟨h6,h7⟩
 ·have e:runM vars cl assume=(t.1,t.2.1,(j:Int)):=by
   have h8:fj cl t=((t.1,t.2.1,((0+j:Nat):Int)),false):=h7
   rw[h5] at h8
   simpa using h8
  rw[e]
  exact⟨h2,h3,hm,.inr ⟨j,hj,rfl,h6⟩⟩
 ·have h8:fj cl t=(_,true):=h7
  rw[h5] at h8
  simp at h8
 ·have e:runM vars cl assume=t:=by
   have h8:fj cl t=(t,false):=h7
   rw[h5] at h8
   simpa using h8
  rw[e]
  exact⟨h2,h3,hm,.inl ⟨h4,h6⟩⟩
theorem Ai {l:List Int} (h:(l.map Int.natAbs).Nodup) {x y:Int} (hx:x∈l) (hy:y∈l) (e:x.natAbs=y.natAbs):x=y:=by
 induction l with
 |nil=>cases hx
 |cons z l ih=>
  rw[List.map_cons,List.nodup_cons] at h
  rcases List.mem_cons.1 hx with rfl|hx'<;>rcases List.mem_cons.1 hy with rfl|hy'
  ·rfl
  ·exact absurd (e▸List.mem_map.2 ⟨y,hy',rfl⟩) h.1
  ·exact absurd (e▸List.mem_map.2 ⟨x,hx',rfl⟩) h.1
  ·exact ih h.2 hx' hy'
theorem kN.no {vars:Int} {l:List Int} (h:kN vars l) {x:Int} (hx:x∈l):(0 - x)∉l:=by
 intro hy
 have:=Ai h.1 hx hy (by omega)
 have:=(h.2 x hx).1
 omega
end Go.Ab
/- Chapter 20:propagation grows with the formula and the assumptions,in plain terms. -/
namespace Go.Ab
open Go Go.Proofs
set_option maxRecDepth 20000
set_option maxHeartbeats 4000000
theorem CZ {vars:Int} {cl:List (List Int)} {assume:List Int} (hv:0≤vars) (dO:∀c∈cl,ay vars c=true) (hw:ay vars assume=true) (hc:b_ assume=false)
  (I:List Int→Prop) (h0:I (cD assume).1)
  (hs:∀(t:List Int) (c:List Int) (x:Int),c∈cl→I t→kN vars t→bw t c []=some [x]→x∈c→x∉t→(-x)∉t→I (t++ [x])):I (runM vars cl assume).1:=by
 obtain⟨t,h1,h2,h3,h4,h5⟩:=yg hv dO hw hc (fun t=>I t.1) h0 (by
  intro t j hj x h1 h2 h3 h4 h5 h6 h7
  exact hs t.1 _ x (List.getElem_mem hj) h1 h2 h4 h5 h6 h7)
 rcases ln t cl 0 with ⟨j,hj,h6,h7⟩|⟨j,hj,h6,h7⟩|⟨h6,h7⟩
 ·have h8:fj cl t=((t.1,t.2.1,((0+j:Nat):Int)),false):=h7
  rw[h5] at h8
  rw[(Prod.mk.inj h8).1]
  exact h1
 ·have h8:fj cl t=(_,true):=h7
  rw[h5] at h8
  simp at h8
 ·have h8:fj cl t=(t,false):=h7
  rw[h5] at h8
  rw[(Prod.mk.inj h8).1]
  exact h1
theorem wG {c tr:List Int} (h0:∀x∈c,x≠0) (h:(cy c tr).1=1):∀y∈c,(-y)∈tr:=by
 rw[jA c tr h0] at h
 cases ho:bw tr c [] with
 |none=>rw[ho] at h;simp [mC] at h
 |some r=>
  rw[ho] at h
  rcases r with _|⟨a,_|⟨b,r⟩⟩
  ·intro y hy
   have:=(mw tr c [] [] ho).2 y hy
   simpa using this.2
  ·simp [mC] at h
  ·simp [mC] at h
end Go.Ab
/- Chapter 20:assignments and what they satisfy. -/
namespace Go.Ab
open Go Go.Proofs
set_option maxRecDepth 20000
set_option maxHeartbeats 4000000
attribute [local irreducible] AW aa bM a8 bm a_ bs
def dS (v:List Bool) (x:Int):Bool:=if 0<x then v.getD (x - 1).toNat false else if x<0 then !(v.getD (0 - x - 1).toNat false) else false
def eh (v:List Bool) (c:List Int):Bool:=c.any (dS v)
theorem tG {v:List Bool} {x:Int} (h:0<x) (h2:(x - 1).toNat<v.length):dS v x=v[(x - 1).toNat]:=by
 unfold dS;rw[if_pos h,List.getD_eq_getElem?_getD,List.getElem?_eq_getElem h2];rfl
theorem B_ {v:List Bool} {x:Int} (h:x<0) (h2:(0 - x - 1).toNat<v.length):dS v x=!(v[(0 - x - 1).toNat]):=by
 unfold dS;rw[if_neg (by omega),if_pos h,List.getD_eq_getElem?_getD,List.getElem?_eq_getElem h2];rfl
def allM (v:List Bool) (cl:List (List Int)):Bool:=cl.all (eh v)
def j9 (v:List Bool) (l:List Int):Bool:=l.all (dS v)
end Go.Ab
/- Chapter 20:propagation is sound,in plain terms. -/
namespace Go.Ab
open Go Go.Proofs
set_option maxRecDepth 20000
set_option maxHeartbeats 4000000
theorem gT (v:List Bool) {x:Int} (h:x≠0):dS v (-x)=!(dS v x):=by
 unfold dS
 by_cases h0:0<x
 ·rw[if_neg (by omega),if_pos (by omega),if_pos h0,show 0 - -x - 1=x - 1 from by omega]
 ·rw[if_pos (by omega),if_neg h0,if_pos (by omega),show -x - 1=0 - x - 1 from by omega,Bool.not_not]
theorem sg {v:List Bool} {cl:List (List Int)} (h:allM v cl=true) {c:List Int} (hc:c∈cl):∃y∈c,dS v y=true:=by
 unfold allM at h
 have:=List.all_eq_true.1 h c hc
 unfold eh at this
 exact List.any_eq_true.1 this
theorem rD {vars:Int} {cl:List (List Int)} {assume:List Int} {v:List Bool} (hv:0≤vars) (dO:∀c∈cl,ay vars c=true) (hw:ay vars assume=true) (hc:b_ assume=false)
  (h:allM v cl=true) (he:j9 v assume=true):(runM vars cl assume).2.2= -1∧∀x∈(runM vars cl assume).1,dS v x=true:=by
 have hz:∀c∈cl,∀x∈c,x≠0:=fun c hc x hx=>(aT (dO c hc) x hx).1
 have h1:∀x∈(runM vars cl assume).1,dS v x=true:=by
  refine CZ hv dO hw hc (fun t=>∀x∈t,dS v x=true) (fun x hx=>?_) ?_
  ·exact List.all_eq_true.1 he x ((lD assume x).1 hx)
  ·intro t c x hc0 hI _ qw Np _ _
   intro y hy
   rcases List.mem_append.1 hy with hy|hy
   ·exact hI y hy
   ·simp at hy
    subst hy
    obtain⟨z,hz1,hz2⟩:=sg h hc0
    rcases((mw t c [] [y] qw).2 z hz1).2 with h3|h3
    ·have:=hI _ h3
     rw[gT v (hz c hc0 z hz1),hz2] at this
     simp at this
    ·simp at h3;exact h3▸hz2
 refine⟨?_,h1⟩
 have qv:=xQ hv dO hw hc
 rcases qv.fin with ⟨h2,_⟩|⟨j,hj,_,h2⟩
 ·exact h2
 ·obtain⟨z,hz1,hz2⟩:=sg h (List.getElem_mem hj)
  have h3:=h1 _ (wG (hz _ (List.getElem_mem hj)) h2 z hz1)
  rw[gT v (hz _ (List.getElem_mem hj) z hz1),hz2] at h3
  simp at h3
theorem n7 {v:List Bool} {l:List Int} (h0:∀x∈l,x≠0) (h:b_ l=true):j9 v l=false:=by
 unfold b_ at h
 rw[List.any_eq_true] at h
 obtain⟨x,hx,hx2⟩:=h
 have hx3:(0 - x)∈l:=by simpa using hx2
 cases he:j9 v l with
 |false=>rfl
 |true=>
  have h1:=List.all_eq_true.1 he x hx
  have h2:=List.all_eq_true.1 he _ hx3
  rw[Int.zero_sub,gT v (h0 x hx),h1] at h2
  simp at h2
theorem Ae {vars:Int} {cl:List (List Int)} {assume c:List Int} {v:List Bool} (hv:0≤vars) (dO:∀c∈cl,ay vars c=true) (hw:ay vars assume=true) (OU:ay vars c=true) (h:allM v cl=true):
  (db vars cl c=true→eh v c=true)∧(j9 v assume=true→(ql vars cl assume).2= -1∧j9 v (ql vars cl assume).1=true):=by
 constructor
 ·intro hi
  cases ht:eh v c with
  |true=>rfl
  |false=>
   have hc0:∀x∈c,x≠0:=fun x hx=>(aT OU x hx).1
   have Gh:ay vars (c.map fun x=>0 - x)=true:=by
    unfold ay
    rw[List.all_eq_true]
    intro y hy
    obtain⟨x,hx,rfl⟩:=List.mem_map.1 hy
    have:=aT OU x hx
    simp;omega
   have he:j9 v (c.map fun x=>0 - x)=true:=by
    unfold j9
    rw[List.all_eq_true]
    intro y hy
    obtain⟨x,hx,rfl⟩:=List.mem_map.1 hy
    unfold eh at ht
    have:=List.any_eq_false.1 ht x hx
    rw[Int.zero_sub,gT v (hc0 x hx)]
    simpa using this
   cases ud:b_ (c.map fun x=>0 - x) with
   |true=>
    have:=n7 (v:=v) (fun y hy=>(aT Gh y hy).1) ud
    rw[he] at this;cases this
   |false=>
    have:=(rD hv dO Gh ud h he).1
    rw[db,if_neg (by rw[ud];simp),this] at hi
    simp at hi
 ·intro he
  cases ud:b_ assume with
  |true=>
   have:=n7 (v:=v) (fun y hy=>(aT hw y hy).1) ud
   rw[he] at this;cases this
  |false=>
   have h1:=rD hv dO hw ud h he
   have qv:=xQ hv dO hw ud
   rw[ql,if_neg (by rw[ud];simp)]
   refine⟨h1.1,?_⟩
   unfold j9
   rw[List.all_eq_true]
   exact fun x hx=>h1.2 x ((qv.mem x).2 (List.mem_append.2 (.inr hx)))
end Go.Ab
/- The laws through the layers:small formulas. -/
namespace Go.Ab
open Go Go.Proofs
open Nat (reduceAdd reduceSub)
set_option maxRecDepth 20000
set_option maxHeartbeats 8000000
attribute [local irreducible] AW aa bM a8 AR bm a_ bs bT canon gO ed iR jS cL cN db bX cm
theorem kg (vars:Int) (l:List Int) (hv: -1000000≤vars∧vars≤1000000):Fn Try.prog 10 [aw vars,.pv (ints l)] (aM (ay vars l)):=by
 refine Fn.enter (n:=34) Try.func10 rfl rfl rfl rfl rfl (by decide) fun g aY aW=>?_;(try refine nz ?_)
 refine AW.d_ 1 rfl fun hlen=>?_
 (refine nM ?_;refine pY ?_)
 (refine nz ?_;apply AW.ck [0,1] [] (fun k:Nat=>([(5,aw k)]:List (Nat×AV))) (fun k:Nat=>([]:List (Nat×Option Ob))) (fun k:Nat=>k≤l.length∧ay vars (l.take k)=true) (fun k:Nat=>l.length - k) (0);(conv=>lhs;simp only[Nf.jJ,Nf.all,Nat.reduceBEq,reduceAdd,reduceSub]);(all_goals skip))
 ·exact⟨Nat.zero_le _,rfl⟩
 ·exact aN rfl (by(refine⟨.eq rfl rfl,?_⟩;(iterate 2 refine⟨.eq rfl rfl,?_⟩);exact trivial)) (by(exact trivial)) rfl
 rintro k ⟨hk,gB⟩
 by_cases aP:k<l.length
 ·have hs:=nS (vars:=vars) aP
  rw[gB,Bool.true_and] at hs
  by_cases hb:l[k]≠0∧l[k]≤vars∧0 - vars≤l[k]
  ·obtain⟨b1,b2,b3⟩:=hb
   rw[decide_eq_true ⟨b1,b2,b3⟩] at hs
   have b4:¬l[k]<0 - vars:=by omega
   have b5:¬vars<l[k]:=by omega
   (refine yS ?_;(focus ((with_reducible apply aa.ak);(iterate 7 exact rfl);rotate_left;omega));refine zr ?_;refine qP ?_;refine q7 ?_;(focus ((with_reducible apply aa.ak);(iterate 7 exact rfl);rotate_left;omega));refine zy ?_;refine zr ?_;refine zy ?_;refine zm ?_;refine lQ ?_;refine q7 ?_;(focus ((with_reducible apply aa.ak);(iterate 7 exact rfl);rotate_left;omega));refine zy ?_;refine zr ?_;refine nB ?_;refine aa.sub rfl rfl rfl rfl rfl (by omega) ?_;refine zy ?_;refine zs ?_;refine zF ?_;refine zd ?_;refine zk ?_;refine lN ?_;refine nz ?_;refine oA ?_)
   exact⟨k+1,⟨by omega,hs⟩,by omega,aN rfl (by(refine⟨.eq rfl rfl,?_⟩;(iterate 2 refine⟨.eq rfl rfl,?_⟩);exact trivial)) (by(exact trivial)) rfl⟩
  ·have hf:=o4 aP hb
   rw[hf]
   by_cases b1:l[k]=0
   ·(refine yS ?_;(focus ((with_reducible apply aa.ak);(iterate 7 exact rfl);rotate_left;omega));refine zr ?_;refine qP ?_;(iterate 6 refine aa.dK rfl rfl rfl rfl rfl rfl (by with_reducible assumption) ?_);refine zT ?_;refine zm ?_;(iterate 7 refine aa.bV rfl rfl rfl rfl rfl rfl rfl ?_);refine aa.cY rfl rfl rfl rfl rfl rfl ?_;refine kQ ?_;refine lP ?_)
    all_goals (apply az;(exact bD.one (.tmp rfl rfl));(refine Le.aM ?_;(first|rfl)))
   ·by_cases b2:vars<l[k]
    ·(refine yS ?_;(focus ((with_reducible apply aa.ak);(iterate 7 exact rfl);rotate_left;omega));refine zr ?_;refine qP ?_;refine q7 ?_;(focus ((with_reducible apply aa.ak);(iterate 7 exact rfl);rotate_left;omega));refine zy ?_;refine zr ?_;refine zy ?_;refine zm ?_;refine lQ ?_;refine EO ?_;refine zT ?_;refine kQ ?_;refine lP ?_)
     all_goals (apply az;(exact bD.one (.tmp rfl rfl));(refine Le.aM ?_;(first|rfl)))
    ·have b3:l[k]<0 - vars:=by omega
     (refine yS ?_;(focus ((with_reducible apply aa.ak);(iterate 7 exact rfl);rotate_left;omega));refine zr ?_;refine qP ?_;refine q7 ?_;(focus ((with_reducible apply aa.ak);(iterate 7 exact rfl);rotate_left;omega));refine zy ?_;refine zr ?_;refine zy ?_;refine zm ?_;refine lQ ?_;refine q7 ?_;(focus ((with_reducible apply aa.ak);(iterate 7 exact rfl);rotate_left;omega));refine zy ?_;refine zr ?_;refine nB ?_;refine aa.sub rfl rfl rfl rfl rfl (by omega) ?_;refine zy ?_;refine zs ?_;refine zF ?_;refine gG ?_;refine fV ?_;refine lP ?_)
     all_goals (apply az;(exact bD.one (.tmp rfl rfl));(refine Le.aM ?_;(first|rfl)))
 ·rw[cz (l:=l) (by omega)] at gB
  rw[gB]
  (refine E4 ?_;refine e_ ?_)
  (apply az;(exact bD.one (.tmp rfl rfl));(refine Le.aM ?_;(rfl)))
theorem vJ (vars:Int) (cl:List (List Int)):Fn Try.prog 16 [Dg vars cl] (aM (kj vars cl)):=by
 by_cases h0:0≤vars∧vars≤20000∧(cl.length:Int)≤60000
 ·obtain⟨h1,h2,h3⟩:=h0
  have g1:¬vars<0:=by omega
  have g2:¬20000<vars:=by omega
  have g3:¬60000<(cl.length:Int):=by omega
  have e:kj vars cl=cl.all (ay vars):=by unfold kj;rw[decide_eq_true ⟨h1,h2,h3⟩,Bool.true_and]
  rw[e]
  refine Fn.enter (n:=36) Try.func16 rfl rfl rfl rfl rfl (by decide) fun g aY aW=>?_;(try refine nz ?_)
  (refine qY ?_;refine ry ?_;refine zs ?_;refine zm ?_;refine xe ?_;refine lQ ?_;refine Eo ?_;refine hO ?_;refine iZ ?_;refine pY ?_)
  (refine nz ?_;apply AW.ck [1] [0] (fun k:Nat=>([(3,aw k)]:List (Nat×AV))) (fun k:Nat=>([]:List (Nat×Option Ob))) (fun k:Nat=>k≤cl.length∧(cl.take k).all (ay vars)=true) (fun k:Nat=>cl.length - k) (0);(conv=>lhs;simp only[Nf.jJ,Nf.all,Nat.reduceBEq,reduceAdd,reduceSub]);(all_goals skip))
  ·exact⟨Nat.zero_le _,rfl⟩
  ·exact Js
  rintro k ⟨hk,kO⟩
  by_cases aP:k<cl.length
  ·have has:=pZ (p:=ay vars) aP
   rw[kO,Bool.true_and] at has
   have hw:=kg vars cl[k] (by omega)
   cases hc:ay vars cl[k] with
   |true=>
    rw[hc] at has hw
    (refine im ?_;refine uL ?_;refine Q5 ?_;refine zo ?_;(with_reducible apply AW.bn);exact rfl;exact rfl;kernel_rfl;(with_reducible assumption);refine ry ?_;refine uV ?_;refine zm ?_;(focus ((with_reducible apply aa.ak);(iterate 7 exact rfl);rotate_left;omega));refine zr ?_;refine zA (hw) ?_;refine iw ?_;refine zm ?_;refine aa.not rfl rfl rfl ?_;refine oz ?_;refine nz ?_;refine oA ?_)
    exact⟨k+1,⟨by omega,has⟩,by omega,aN rfl (by(refine⟨.eq rfl rfl,?_⟩;refine⟨.eq rfl rfl,?_⟩;exact trivial)) (by(refine⟨.box _ rfl ?_,?_⟩;(iterate 2 refine⟨.eq rfl rfl,?_⟩);(iterate 2 exact trivial))) rfl⟩
   |false=>
    rw[hc] at hw
    rw[vH (p:=ay vars) aP hc]
    (refine im ?_;refine uL ?_;refine Q5 ?_;refine zo ?_;(with_reducible apply AW.bn);exact rfl;exact rfl;kernel_rfl;(with_reducible assumption);refine ry ?_;refine uV ?_;refine zm ?_;(focus ((with_reducible apply aa.ak);(iterate 7 exact rfl);rotate_left;omega));refine zr ?_;refine zA (hw) ?_;refine iw ?_;refine zm ?_;refine aa.not rfl rfl rfl ?_;refine kQ ?_;refine lP ?_)
    (apply az;(exact bD.one (.tmp rfl rfl));(refine Le.aM ?_;(rfl)))
  ·rw[cz (l:=cl) (by omega)] at kO
   rw[kO]
   (refine im ?_;refine uL ?_;refine zk ?_;refine vj ?_;refine fV ?_;refine e_ ?_)
   (apply az;(exact bD.one (.tmp rfl rfl));(refine Le.aM ?_;(rfl)))
 ·have e:=wu (vars:=vars) (cl:=cl) h0
  rw[e]
  by_cases h1:vars<0
  ·refine Fn.enter (n:=36) Try.func16 rfl rfl rfl rfl rfl (by decide) fun g aY aW=>?_;(try refine nz ?_)
   refine AW.oH 0 1 rfl rfl fun hlen=>?_
   (refine qY ?_;refine ry ?_;refine zs ?_;refine zm ?_;refine Hu ?_;refine zm ?_;refine DJ ?_;refine kQ ?_;refine mH ?_)
   (apply az;(exact bD.one (.tmp rfl rfl));(refine Le.aM ?_;(rfl)))
  ·by_cases h2:20000<vars
   ·refine Fn.enter (n:=36) Try.func16 rfl rfl rfl rfl rfl (by decide) fun g aY aW=>?_;(try refine nz ?_)
    refine AW.oH 0 1 rfl rfl fun hlen=>?_
    (refine qY ?_;refine ry ?_;refine zs ?_;refine zm ?_;refine xe ?_;refine lQ ?_;refine Dm ?_;refine kQ ?_;refine mH ?_)
    (apply az;(exact bD.one (.tmp rfl rfl));(refine Le.aM ?_;(rfl)))
   ·have h3:60000<(cl.length:Int):=by omega
    refine Fn.enter (n:=36) Try.func16 rfl rfl rfl rfl rfl (by decide) fun g aY aW=>?_;(try refine nz ?_)
    refine AW.oH 0 1 rfl rfl fun hlen=>?_
    (refine qY ?_;refine ry ?_;refine zs ?_;refine zm ?_;refine xe ?_;refine lQ ?_;refine Eo ?_;refine gG ?_;refine fV ?_;refine mH ?_)
    (apply az;(exact bD.one (.tmp rfl rfl));(refine Le.aM ?_;(rfl)))
def gn (v:Int) (cl:List (List Int)):Bool:=decide (v≤8) && decide (cl.length≤40) && cl.all (fun c=>decide (c.length≤12)) && kj v cl
theorem yE (v:Int) (cl:List (List Int)):Fn Try.prog 7 [Dg v cl] (aM (gn v cl)):=by
 have J0:=vJ v cl
 by_cases h1:v≤8
 ·by_cases h2:cl.length≤40
  ·have e1:gn v cl=(cl.all (fun c=>decide (c.length≤12)) && kj v cl):=by unfold gn;rw[decide_eq_true h1,decide_eq_true h2];rfl
   rw[e1]
   refine Fn.enter (n:=29) Try.func7 rfl rfl rfl rfl rfl (by decide) fun g aY aW=>?_;(try refine nz ?_)
   (refine qY ?_;refine ry ?_;refine yK ?_;refine Eo ?_;refine hO ?_;refine iZ ?_;refine pY ?_)
   (refine nz ?_;apply AW.ck [1] [0] (fun i:Nat=>([(3,aw i)]:List (Nat×AV))) (fun i:Nat=>([]:List (Nat×Option Ob))) (fun i:Nat=>i≤cl.length∧(cl.take i).all (fun c=>decide (c.length≤12))=true) (fun i:Nat=>cl.length - i) (0);(conv=>lhs;simp only[Nf.jJ,Nf.all,Nat.reduceBEq,reduceAdd,reduceSub]);(all_goals skip))
   ·exact⟨Nat.zero_le _,rfl⟩
   ·exact Js
   rintro i ⟨hi,kO⟩
   by_cases aP:i<cl.length
   ·have has:=pZ (p:=fun c:List Int=>decide (c.length≤12)) aP
    rw[kO,Bool.true_and] at has
    by_cases hc:cl[i].length≤12
    ·rw[decide_eq_true hc] at has
     (refine im ?_;refine uL ?_;refine Q5 ?_;refine fV ?_;refine uV ?_;refine zm ?_;(focus ((with_reducible apply aa.ak);(iterate 7 exact rfl);rotate_left;omega));refine zr ?_;refine CM ?_;refine zd ?_;refine zk ?_;refine lN ?_;refine nz ?_;refine oA ?_)
     exact⟨i+1,⟨by omega,has⟩,by omega,aN rfl (by(refine⟨.eq rfl rfl,?_⟩;refine⟨.eq rfl rfl,?_⟩;exact trivial)) (by(refine⟨.box _ rfl ?_,?_⟩;(iterate 2 refine⟨.eq rfl rfl,?_⟩);(iterate 2 exact trivial))) rfl⟩
    ·rw[vH (p:=fun c:List Int=>decide (c.length≤12)) aP (decide_eq_false hc),Bool.false_and]
     (refine im ?_;refine uL ?_;refine Q5 ?_;refine fV ?_;refine uV ?_;refine zm ?_;(focus ((with_reducible apply aa.ak);(iterate 7 exact rfl);rotate_left;omega));refine zr ?_;refine CM ?_;refine gG ?_;refine fV ?_;refine lP ?_)
     (apply az;(exact bD.one (.tmp rfl rfl));(refine Le.aM ?_;(rfl)))
   ·rw[cz (l:=cl) (by omega)] at kO
    rw[kO,Bool.true_and]
    (refine im ?_;refine uL ?_;refine zk ?_;refine vj ?_;refine fV ?_;refine oy ?_;refine zA (J0) ?_;refine e_ ?_)
    (apply az;(exact bD.one (.tmp rfl rfl));(refine Le.aM ?_;(rfl)))
  ·have e1:gn v cl=false:=by unfold gn;rw[decide_eq_false h2];simp
   rw[e1]
   refine Fn.enter (n:=29) Try.func7 rfl rfl rfl rfl rfl (by decide) fun g aY aW=>?_;(try refine nz ?_)
   refine AW.oH 0 1 rfl rfl fun hlen=>?_
   (refine qY ?_;refine ry ?_;refine yK ?_;refine Eo ?_;refine gG ?_;refine fV ?_;refine mH ?_)
   (apply az;(exact bD.one (.tmp rfl rfl));(refine Le.aM ?_;(rfl)))
 ·have e1:gn v cl=false:=by unfold gn;rw[decide_eq_false h1];simp
  rw[e1]
  refine Fn.enter (n:=29) Try.func7 rfl rfl rfl rfl rfl (by decide) fun g aY aW=>?_;(try refine nz ?_)
  (refine qY ?_;refine ry ?_;refine yK ?_;(iterate 4 refine aa.dK rfl rfl rfl rfl rfl rfl (by first|omega|decide) ?_);refine zT ?_;refine kQ ?_;refine mH ?_)
  (apply az;(exact bD.one (.tmp rfl rfl));(refine Le.aM ?_;(rfl)))
theorem r8 {v:Int} {cl:List (List Int)} (h:gn v cl=true):(0≤v∧v≤8)∧cl.length≤40∧∀c∈cl,ay v c=true∧c.length≤12:=by
 unfold gn kj at h
 simp only[Bool.and_eq_true,decide_eq_true_eq,List.all_eq_true] at h
 obtain⟨⟨⟨a1,a2⟩,a3⟩,a4,a5⟩:=h
 exact⟨⟨a4.1,a1⟩,a2,fun c hc=>⟨a5 c hc,a3 c hc⟩⟩
end Go.Ab
/- A justified proof is sound,in plain terms. -/
namespace Go.Ab
open Go Go.Proofs
set_option maxRecDepth 20000
set_option maxHeartbeats 4000000
theorem iW {e:j3} {s s':iB} {t:bu} {l:List bu} (h:cm e s t=some s'):bX e s (t::l)=((bX e s' l).1,(bX e s' l).2+1):=by rw[bX,h]
theorem rA {a b:List Int}:canon a=canon b↔∀x,x∈a↔x∈b:=⟨fun h x=>by rw[← kG (zs:=a),h,kG],fun h=>uB h⟩
theorem mn {v w:List Bool} {x:Int} (h:x≤v.length∧0 - (v.length:Int)≤x):dS (v++w) x=dS v x:=by
 unfold dS
 by_cases h1:0<x
 ·rw[if_pos h1,if_pos h1,List.getD_eq_getElem?_getD,List.getD_eq_getElem?_getD,List.getElem?_append_left (by omega)]
 ·rw[if_neg h1,if_neg h1]
  by_cases h2:x<0
  ·rw[if_pos h2,if_pos h2,List.getD_eq_getElem?_getD,List.getD_eq_getElem?_getD,List.getElem?_append_left (by omega)]
  ·rw[if_neg h2,if_neg h2]
theorem rV {v w:List Bool} {c:List Int} (h:ay v.length c=true):eh (v++w) c=eh v c:=by
 have hb:=aT h
 unfold eh
 rw[Bool.eq_iff_iff,List.any_eq_true,List.any_eq_true]
 exact⟨fun⟨x,hx,g⟩=>⟨x,hx,by rwa [mn (by have:=hb x hx;omega)] at g⟩,fun⟨x,hx,g⟩=>⟨x,hx,by rwa [mn (by have:=hb x hx;omega)]⟩⟩
theorem BF {v:List Bool} {b:Bool}:dS (v++ [b]) ((v.length:Int)+1)=b:=by
 have e:((v.length:Int)+1 - 1).toNat=v.length:=by omega
 rw[tG (by omega) (by rw[e];simp)]
 simp only[e]
 simp
def CX (v:List Bool) (c:List Int):Bool:=(c.drop 1).all (dS v)
def jO:List Bool→List bu→List Bool
 |v,[]=>v
 |v,t::l=>jO (if t.kind=3 then v++ [CX v t.lits] else v) l
def qh:List Bool→List bu→Bool
 |_,[]=>true
 |v,t::l=>if t.kind=3 then qh (v++ [CX v t.lits]) l else if t.kind=1∨t.kind=4 then eh v t.lits && qh v l else qh v l
theorem EE {n:Int} {cl:List (List Int)} {sy:List Int} {v:List Bool} (dO:∀c∈cl,ay n c=true) (hs:cN n cl sy=true) (hv:allM v cl=true):((sy.map (dS v)).length:Int)=n∧allM (sy.map (dS v)) cl=true∧∀x:Int,x≠0→x≤n→0 - n≤x→dS (sy.map (dS v)) x=dS v (iH sy x):=by
 obtain⟨y1,y2⟩:=ib hs
 have hz:=aT y2
 have key:∀x:Int,x≠0→x≤n→0 - n≤x→dS (sy.map (dS v)) x=dS v (iH sy x):=by
  intro x h0 h1 h2
  by_cases hp:0<x
  ·have hl:(x - 1).toNat<sy.length:=by omega
   rw[tG hp (by simpa using hl)]
   unfold iH
   rw[if_pos hp,List.getD_eq_getElem?_getD,List.getElem?_eq_getElem hl]
   simp
  ·have hl:(0 - x - 1).toNat<sy.length:=by omega
   have e:(-x - 1).toNat=(0 - x - 1).toNat:=by omega
   rw[B_ (by omega) (by simpa using hl)]
   have e2:sy.getD (-x - 1).toNat 0=sy[(0 - x - 1).toNat]:=by rw[e,List.getD_eq_getElem?_getD,List.getElem?_eq_getElem hl];rfl
   unfold iH
   rw[if_neg hp,e2,gT v (hz _ (List.getElem_mem hl)).1]
   simp only[List.getElem_map]
 refine⟨by rw[List.length_map];exact y1,?_,key⟩
 unfold allM
 rw[List.all_eq_true]
 intro c hc
 have PH:cl.all (wK cl sy)=true:=by
  unfold cN at hs
  simp only[Bool.and_eq_true] at hs
  exact hs.2
 obtain⟨d,hd,oa⟩:=List.any_eq_true.1 (List.all_eq_true.1 PH c hc)
 rw[decide_eq_true_eq,rA] at oa
 obtain⟨y,hy,Ri⟩:=sg hv hd
 have yF:=(oa y).1 hy
 unfold cL at yF
 obtain⟨x,hx,rfl⟩:=List.mem_map.1 yF
 have Dt:=aT (dO c hc) x hx
 unfold eh
 rw[List.any_eq_true]
 exact⟨x,hx,by rw[key x Dt.1 Dt.2.1 (by omega)];exact Ri⟩
structure lq (e:j3) (s:iB) (K:List bu):Prop where
 len:∀v:List Bool,(v.length:Int)=e.v0→allM v e.cl0=true→((jO v K).length:Int)=s.vars
 all:∀v:List Bool,(v.length:Int)=e.v0→allM v e.cl0=true→allM (jO v K) s.cl=true
 pre:∀v:List Bool,(v.length:Int)=e.v0→allM v e.cl0=true→∃w,jO v K=v++w
 noref:s.ref=true→∀v:List Bool,(v.length:Int)=e.v0→allM v e.cl0=true→False
theorem ef:∀(K:List bu) (v:List Bool) (t:bu),jO v (K++ [t])=if t.kind=3 then jO v K++ [CX (jO v K) t.lits] else jO v K
 |[],v,t=>rfl
 |u::K,v,t=>by
  rw[List.cons_append,jO,jO,ef K]
theorem zz {v:List Bool} {cl:List (List Int)} {c:List Int} (h:allM v cl=true) (hc:eh v c=true):allM v (cl++ [c])=true:=by
 unfold allM at h ⊢
 rw[List.all_append,h];simp [hc]
theorem lq.lW {e:j3} {s:iB} {K:List bu} {t:bu} (h:lq e s K) (h3:t.kind≠3) (hT:∀v:List Bool,(v.length:Int)=e.v0→allM v e.cl0=true→eh (jO v K) t.lits=true):lq e (qN s t.lits) (K++ [t]) where
 len:=fun v h1 h2=>by rw[ef,if_neg h3];exact h.len v h1 h2
 all:=fun v h1 h2=>by rw[ef,if_neg h3];exact zz (h.all v h1 h2) (hT v h1 h2)
 pre:=fun v h1 h2=>by rw[ef,if_neg h3];exact h.pre v h1 h2
 noref:=fun hr v h1 h2=>by
  have hr':(s.ref||decide ((t.lits.length:Int)=0))=true:=hr
  rw[Bool.or_eq_true,decide_eq_true_eq] at hr'
  rcases hr' with hr'|hr'
  ·exact h.noref hr' v h1 h2
  ·have:=hT v h1 h2
   have h0:t.lits=[]:=List.eq_nil_of_length_eq_zero (by omega)
   rw[h0] at this
   simp [eh] at this
theorem wH {e:j3} {B:Nat} {s u:iB} {K:List bu} {t:bu} (B7:∀c∈e.cl0,ay e.v0 c=true) (hv0:0≤e.v0) (h:lq e s K) (th:gU B s) (hs:cm e s t=some u):
  lq e u (K++ [t])∧∀v:List Bool,(v.length:Int)=e.v0→allM v e.cl0=true→(t.kind=1∨t.kind=4)→eh (jO v K) t.lits=true:=by
 by_cases k1:t.kind=1
 ·rw[sB k1,gV] at hs
  split at hs
  ·rename_i c
   cases hs
   have hT:∀v:List Bool,(v.length:Int)=e.v0→allM v e.cl0=true→eh (jO v K) t.lits=true:=fun v h1 h2=>
    (Ae (assume:=[]) th.hv.1 (fun c hc=>(th.dO c hc).1) rfl c.2.1 (h.all v h1 h2)).1 c.2.2
   exact⟨h.lW (by omega) hT,fun v h1 h2 _=>hT v h1 h2⟩
  ·cases hs
 by_cases k2:t.kind=2
 ·rw[yd k2,fS] at hs
  split at hs
  ·cases hs
   have h3:¬t.kind=3:=by omega
   refine⟨⟨fun v h1 h2=>by rw[ef,if_neg h3];exact h.len v h1 h2,fun v h1 h2=>?_,fun v h1 h2=>by rw[ef,if_neg h3];exact h.pre v h1 h2,h.noref⟩,fun v _ _ hk=>by omega⟩
   rw[ef,if_neg h3]
   have:=h.all v h1 h2
   unfold allM at this ⊢
   rw[List.all_eq_true] at this ⊢
   exact fun c hc=>this c (List.mem_of_mem_eraseIdx hc)
  ·cases hs
 by_cases k3:t.kind=3
 ·rw[xG k3,eQ] at hs
  split at hs
  ·rename_i c
   obtain⟨_,c2,c3,_,c5⟩:=c
   cases hs
   have hd:∀v:List Bool,(v.length:Int)=e.v0→allM v e.cl0=true→((jO v K).length:Int)=s.vars:=h.len
   refine⟨⟨fun v h1 h2=>?_,fun v h1 h2=>?_,fun v h1 h2=>?_,h.noref⟩,fun v _ _ hk=>by omega⟩
   ·rw[ef,if_pos k3,List.length_append]
    have:=h.len v h1 h2
    show _=s.vars+1
    simp;omega
   ·rw[ef,if_pos k3]
    have hl:=h.len v h1 h2
    have ha:=h.all v h1 h2
    generalize jO v K=w at hl ha
    generalize t.lits.getD 0 0=g at c3
    have hg:g=(w.length:Int)+1:=by omega
    have hb:=aT c5
    unfold CX
    generalize t.lits.drop 1=r at c5 hb
    show allM _ (s.cl++defs g r)=true
    unfold allM at ha ⊢
    rw[List.all_eq_true] at ha ⊢
    intro c hc
    rcases List.mem_append.1 hc with hc|hc
    ·rw[rV (by rw[hl];exact(th.dO c hc).1)]
     exact ha c hc
    ·have Lu:∀x∈r,dS (w++ [r.all (dS w)]) x=dS w x:=fun x hx=>mn (by have:=hb x hx;omega)
     have uc:dS (w++ [r.all (dS w)]) g=r.all (dS w):=by rw[hg];exact BF
     have NP:dS (w++ [r.all (dS w)]) (-g)=!(r.all (dS w)):=by rw[gT _ (by omega),uc]
     unfold eh
     rw[List.any_eq_true]
     unfold defs at hc
     cases hr:r.all (dS w) with
     |true=>
      rw[hr] at Lu uc NP
      rcases List.mem_append.1 hc with hc|hc
      ·obtain⟨x,hx,rfl⟩:=List.mem_map.1 hc
       exact⟨x,by simp,by rw[Lu x hx];exact List.all_eq_true.1 hr x hx⟩
      ·simp only[List.mem_singleton] at hc
       subst hc
       exact⟨g,by simp,uc⟩
     |false=>
      rw[hr] at Lu uc NP
      rcases List.mem_append.1 hc with hc|hc
      ·obtain⟨x,hx,rfl⟩:=List.mem_map.1 hc
       exact⟨-g,by simp,NP⟩
      ·simp only[List.mem_singleton] at hc
       subst hc
       obtain⟨x,hx,QX⟩:=List.all_eq_false.1 hr
       refine⟨-x,by simp only[List.mem_cons,List.mem_map];exact .inr ⟨x,hx,rfl⟩,?_⟩
       rw[gT _ (hb x hx).1,Lu x hx]
       simpa using QX
   ·obtain⟨w,hw⟩:=h.pre v h1 h2
    rw[ef,if_pos k3,hw]
    exact⟨w++ [CX (v++w) t.lits],by rw[List.append_assoc]⟩
  ·cases hs
 by_cases k4:t.kind=4
 ·rw[s7 k4,jc] at hs
  split at hs
  ·rename_i c
   obtain⟨c1,_,c3,c4⟩:=c
   cases hs
   generalize e.syms.getD t.sym.toNat []=sy at c3 c4
   obtain⟨d,hd,Ky⟩:=List.any_eq_true.1 c4
   unfold fq at Ky
   rw[Bool.and_eq_true,decide_eq_true_eq,rA] at Ky
   obtain⟨OZ,Ky⟩:=Ky
   have hT:∀v:List Bool,(v.length:Int)=e.v0→allM v e.cl0=true→eh (jO v K) t.lits=true:=fun v h1 h2=>by
    obtain⟨g1,g2,g3⟩:=EE B7 c3 h2
    have Ps:=h.all _ g1 g2
    obtain⟨w,hw⟩:=h.pre _ g1 g2
    obtain⟨w',hw'⟩:=h.pre v h1 h2
    have ht:=List.all_eq_true.1 Ps d hd
    rw[hw,rV (by rw[g1];exact OZ)] at ht
    obtain⟨x,hx,Oe⟩:=List.any_eq_true.1 ht
    have Dt:=aT OZ x hx
    rw[g3 x Dt.1 Dt.2.1 (by omega)] at Oe
    have pX:iH sy x∈t.lits:=(Ky _).1 (by unfold cL;exact List.mem_map.2 ⟨x,hx,rfl⟩)
    have FP:=aT (ib c3).2
    have qA:=(ib c3).1
    have Ap:iH sy x≤v.length∧0 - (v.length:Int)≤iH sy x:=by
     unfold iH
     split
     ·have hl:(x - 1).toNat<sy.length:=by omega
      rw[List.getD_eq_getElem?_getD,List.getElem?_eq_getElem hl]
      have:=FP _ (List.getElem_mem hl)
      simp only[Option.getD_some]
      omega
     ·have hl:(-x - 1).toNat<sy.length:=by omega
      rw[List.getD_eq_getElem?_getD,List.getElem?_eq_getElem hl]
      have:=FP _ (List.getElem_mem hl)
      simp only[Option.getD_some]
      omega
    unfold eh
    rw[List.any_eq_true]
    exact⟨_,pX,by rw[hw',mn Ap];exact Oe⟩
   exact⟨h.lW (by omega) hT,fun v h1 h2 _=>hT v h1 h2⟩
  ·cases hs
 rw[xw k1 k2 k3 k4] at hs
 cases hs
theorem nH {e:j3} (B7:∀c∈e.cl0,ay e.v0 c=true) (hv0:0≤e.v0):∀(L:List bu) {B:Nat} {s:iB} {K:List bu},lq e s K→gU B s→(∀t∈L,t.lits.length≤900)→(bX e s L).2=L.length→
  (∀v:List Bool,(v.length:Int)=e.v0→allM v e.cl0=true→qh (jO v K) L=true)∧((bX e s L).1.ref=true→∀v:List Bool,(v.length:Int)=e.v0→allM v e.cl0=true→False)
 |[],_,s,K,h,_,_,_=>by rw[iS];exact⟨fun _ _ _=>rfl,h.noref⟩
 |t::L,B,s,K,h,th,hl,hn=>by
  cases hs:cm e s t with
  |none=>rw[bX,hs] at hn;simp at hn
  |some u=>
   rw[iW hs] at hn ⊢
   obtain⟨hu,hT⟩:=wH B7 hv0 h th hs
   obtain⟨i1,i2⟩:=nH (e:=e) B7 hv0 L hu (th.step (hl t (by simp)) hs) (fun t ht=>hl t (by simp [ht])) (by simp at hn;exact hn)
   refine⟨fun v h1 h2=>?_,i2⟩
   have h5:=i1 v h1 h2
   rw[ef] at h5
   unfold qh
   by_cases k3:t.kind=3
   ·rw[if_pos k3] at h5 ⊢
    exact h5
   ·rw[if_neg k3] at h5 ⊢
    split
    ·rename_i hk
     rw[hT v h1 h2 hk,h5];rfl
    ·exact h5
end Go.Ab
/- The solver:its state;values,pushes,decisions,walked. -/
namespace Go.Ab
open Go Go.Proofs
open Nat (reduceAdd reduceSub)
set_option maxRecDepth 20000
set_option maxHeartbeats 4000000
structure SR where
 value:List Int
 level:List Int
 reason:List Int
 marks:List Int
 low:Int
 head:Int
 added:Int
 broken:Bool
 hl:Nat→Value
 ll:Nat→List Int
 nc:Nat
 hc:Nat→Value
 cl:Nat→List Int
 nw:Nat
 hw:Nat→Value
 wl:Nat→List Int
 proof:List (List Int)
 model:List Int
 core:List Int
abbrev jY (l:List Int):List PV:=[.lit (.int .i64 1),.slice 1 (l.map encI),.lit (.int .i64 0)]
abbrev dP (l:List Int):PV:=.slice 1 (l.map encI)
abbrev cg (s:SR):List AV:=[.own 1 3 1 (s.value.map encI),.own 2 3 1 (s.level.map encI),.own 3 3 1 (s.reason.map encI),.pv (.lit (s.hl 0)),.own 5 3 1 (s.marks.map encI),aw s.low,.own 6 28 1 (bK s.nc s.hc),.own 8 28 1 (bK s.nw s.hw),aw s.head,aw s.added,aM s.broken,.own 10 30 3 (s.proof.map jY),aw 0,.pv (dP s.model),.pv (dP s.core)]
abbrev cd (s:SR):List (Nat×Option Ob):=[(0,some (.box (cg s))),(1,some .row),(2,some .row),(3,some .row),(4,some (.pool 3 (ew s.hl s.ll))),(5,some .row),(6,some .row),(7,some (.pool 3 (ew s.hc s.cl))),(8,some .row),(9,some (.pool 3 (ew s.hw s.wl))),(10,some .row)]
def K7 (v:List Int) (x:Int):Int:=if x<0 then -(v.getD (-x).toNat 0) else v.getD x.toNat 0
def al (x:Int):Int:=if x<0 then -2*x+1 else 2*x
attribute [local irreducible] bK AW aa bM a8 AR bm a_ bs bT fm fw
theorem oT (x:Int) (hb: -1000000≤x∧x≤1000000):Fn Try.prog 63 [aw x] (aw (al x)):=by
 unfold al
 by_cases h:x<0
 ·rw[if_pos h]
  refine Fn.enter (n:=10) Try.func63 rfl rfl rfl rfl rfl (by decide) fun g aY aW=>?_;(try (conv=>rhs;simp only[Nf.cG,Nf.all,Nat.reduceBEq,reduceAdd,reduceSub]))
  (refine jD ?_;refine dk ?_;refine zs ?_;refine gG ?_;refine dk ?_;refine aa.mul rfl rfl rfl rfl rfl (by omega) ?_;refine zj ?_;refine mH ?_)
  (apply az;(exact bD.one (.tmp rfl rfl));(refine Le.aw ?_;(rfl)))
 ·rw[if_neg h]
  refine Fn.enter (n:=10) Try.func63 rfl rfl rfl rfl rfl (by decide) fun g aY aW=>?_;(try (conv=>rhs;simp only[Nf.cG,Nf.all,Nat.reduceBEq,reduceAdd,reduceSub]))
  (refine jD ?_;refine dk ?_;refine zs ?_;refine hO ?_;refine dk ?_;refine aa.mul rfl rfl rfl rfl rfl (by omega) ?_;refine e_ ?_)
  (apply az;(exact bD.one (.tmp rfl rfl));(refine Le.aw ?_;(rfl)))
theorem aQ {l:List Int} {n:Nat} (h:n<l.length):l.getD n 0=l[n]:=by simp [List.getD_eq_getElem?_getD,h]
theorem Fp (s:SR) (x:Int) (hb: -1000000≤x∧x≤1000000) (hx:x<s.value.length∧ -x<s.value.length) (hv:∀y∈s.value,-1≤y∧y≤1):jf Try.prog 34 11 (cd s) [.ptr 0 0,aw x] (cd s) (aw (K7 s.value x)):=by
 unfold K7
 by_cases h:x<0
 ·have aP:(-x).toNat<s.value.length:=by omega
  have hr:=hv _ (List.getElem_mem aP)
  rw[if_pos h,aQ aP]
  refine jf.enter (n:=23) Try.func34 rfl rfl rfl rfl rfl (by decide) rfl rfl fun g aY aW=>?_;refine mL ?_
  (refine jD ?_;refine dk ?_;refine zs ?_;refine gG ?_;refine dH ?_;refine yR ?_;refine aa.neg rfl rfl rfl (by omega) ?_;refine mD ?_;(focus ((with_reducible apply aa.aC);(iterate 4 exact rfl);exact(fun h_=>by cases h_);rotate_left;(first|omega|exact Nat.zero_lt_one|(simp;done))));refine aa.neg rfl rfl rfl (by omega) ?_;refine mH ?_)
  (apply c7;((exact bD.one (.tmp rfl rfl)));((exact tn));((exact Q2));exact rfl)
 ·have aP:x.toNat<s.value.length:=by omega
  rw[if_neg h,aQ aP]
  refine jf.enter (n:=23) Try.func34 rfl rfl rfl rfl rfl (by decide) rfl rfl fun g aY aW=>?_;refine mL ?_
  (refine jD ?_;refine dk ?_;refine zs ?_;refine hO ?_;refine dH ?_;refine yR ?_;refine mD ?_;(focus ((with_reducible apply aa.aC);(iterate 4 exact rfl);exact(fun h_=>by cases h_);rotate_left;(first|omega|exact Nat.zero_lt_one|(simp;done))));refine e_ ?_)
  (apply c7;((exact bD.one (.tmp rfl rfl)));((exact tn));((exact Q2));exact rfl)
end Go.Ab
/- The solver's trail:a literal made true,a decision,the least free variable,walked. -/
namespace Go.Ab
open Go Go.Proofs
open Nat (reduceAdd reduceSub)
set_option maxRecDepth 20000
set_option maxHeartbeats 4000000
def aF (x:Int):Nat:=(max x (-x)).toNat
def kJ (x:Int):Int:=if x<0 then -1 else 1
def a6 (s:SR) (x r:Int) (h:Value):SR:={s with value:=s.value.set (aF x) (kJ x),level:=s.level.set (aF x) s.marks.length,reason:=s.reason.set (aF x) r,hl:=aB s.hl 0 h,ll:=aB s.ll 0 (s.ll 0++ [x])}
theorem cC (l:List Int) (i:Nat) (x:Int):(l.map encI).set i [PV.lit (.int .i64 x)]=(l.set i x).map encI:=by
 rw[List.map_set];rfl
attribute [local irreducible] bK AW aa bM a8 AR bm a_ bs bT fm fw
theorem kA (s:SR) (x r:Int) (hb: -1000000≤x∧x≤1000000) (hx:x<s.value.length∧ -x<s.value.length) (h1:s.level.length=s.value.length) (h2:s.reason.length=s.value.length) (hl:(s.ll 0).length≤1000000) (hm:s.marks.length≤1000000):
  nf Try.prog 35 11 (cd s) [.ptr 0 0,aw x,aw r] (fun h:Value=>h.oneCell'=true) (fun h=>cd (a6 s x r h)) (fun _=> .tup []):=by
 have hv:(max x (-x)).toNat<s.value.length:=by omega
 have hv0:0≤max x (-x):=by omega
 by_cases h:x<0
 ·refine nf.enter (n:=53) Try.func35 rfl rfl rfl rfl rfl (by decide) rfl (fun _=>rfl) fun g aY aW=>?_;refine mL ?_
  (refine zq ?_;refine B6 ?_;refine eD ?_;refine dH ?_;refine yR ?_;refine mD ?_;(with_reducible apply aa.bI);(iterate 5 exact rfl);(first|exact rfl|assumption|exact dm _|exact dj _ _|exact dF _|exact dG _ _);exact rfl;exact rfl;refine gH ?_;refine im ?_;refine zs ?_;refine gG ?_;refine kM ?_;refine yR ?_;(with_reducible apply aa.oW);(iterate 7 exact rfl);omega;(first|omega|(simp only[List.length_map,List.length_append,List.length_cons,List.length_nil,List.length_drop,List.length_take,List.length_set,List.length_range,aE];omega));(with_reducible apply aa.bI);(iterate 5 exact rfl);(first|exact rfl|assumption|exact dm _|exact dj _ _|exact dF _|exact dG _ _);exact rfl;exact rfl;refine gH ?_;refine zo ?_;refine AW.bE [0,1,2,3,4,5,6,7,8,9,10] [11] rfl (by assumption) (by kernel_rfl) (by kernel_rfl) rfl ?_;show aa .held _ _ _ [_,_,_,_,_,_,_,_,_,_,_] _ _;refine jG ?_;refine Bo ?_;refine jG ?_;refine sM ?_;refine mD ?_;refine Q4 ?_;intro k_ cI;refine Q0 ?_;refine u7 ?_;intro g_ ag aH;(with_reducible apply aa.bI);(iterate 5 exact rfl);(first|exact rfl|assumption|exact dm _|exact dj _ _|exact dF _|exact dG _ _);exact rfl;exact rfl;refine l5 ?_;refine zq ?_;refine jG ?_;refine aa.ah 65 2 2 rfl rfl rfl rfl ?_;refine zb ?_;(iterate 2 refine zm ?_);refine mD ?_;(with_reducible apply aa.bI);(iterate 5 exact rfl);(first|exact rfl|assumption|exact dm _|exact dj _ _|exact dF _|exact dG _ _);exact rfl;exact rfl;refine gH ?_;refine AW.region ?_;refine zg ?_;refine aa.ah 65 3 3 rfl rfl rfl rfl ?_;refine cJ ?_;(with_reducible apply aa.il);(iterate 5 exact rfl);(first|exact rfl|assumption|exact dm _|exact dj _ _|exact dF _|exact dG _ _);exact rfl;exact rfl;refine Q0 ?_;(with_reducible apply aa.ga 4);exact rfl;exact rfl;(first|exact .pv rfl|exact .own rfl|exact .nil rfl);(iterate 8 exact rfl);omega;(intro v_ CD);refine B5 ?_;refine aa.ah 65 3 3 rfl rfl rfl rfl ?_;(with_reducible apply aa.bB);(iterate 5 exact rfl);(first|exact rfl|assumption|exact dm _|exact dj _ _|exact dF _|exact dG _ _);(iterate 3 exact rfl);(with_reducible assumption);refine Q0 ?_;refine aa.nil ?_)
  (apply gI (v_) (CD);((exact bD.none));((exact lR));((refine⟨.box _ rfl ?_,?_⟩;(iterate 2 refine I4 ?_);(iterate 2 refine LQ ?_);refine I4 ?_;refine LQ ?_;(iterate 2 refine⟨.ai (by first|rfl|(simp only[a6,cC,aF,kJ,List.set_set,if_pos h])),?_⟩);refine LQ ?_;(iterate 2 refine⟨.bz (by first|rfl|(simp only[a6,cC,aF,kJ,List.set_set,if_pos h])),?_⟩);exact trivial;(iterate 3 refine⟨.row rfl,?_⟩);refine G7 ?_;(iterate 2 refine⟨.row rfl,?_⟩);refine G7 ?_;refine⟨.row rfl,?_⟩;refine G7 ?_;exact vS));exact rfl)
 ·refine nf.enter (n:=53) Try.func35 rfl rfl rfl rfl rfl (by decide) rfl (fun _=>rfl) fun g aY aW=>?_;refine mL ?_
  (refine zq ?_;refine B6 ?_;refine eD ?_;refine dH ?_;refine yR ?_;refine mD ?_;(with_reducible apply aa.bI);(iterate 5 exact rfl);(first|exact rfl|assumption|exact dm _|exact dj _ _|exact dF _|exact dG _ _);exact rfl;exact rfl;refine gH ?_;refine im ?_;refine zs ?_;refine hO ?_;refine zo ?_;refine AW.bE [0,1,2,3,4,5,6,7,8,9,10] [11] rfl (by assumption) (by kernel_rfl) (by kernel_rfl) rfl ?_;show aa .held _ _ _ [_,_,_,_,_,_,_,_,_,_,_] _ _;refine jG ?_;refine Bo ?_;refine jG ?_;refine sM ?_;refine mD ?_;refine Q4 ?_;intro k_ cI;refine Q0 ?_;refine u7 ?_;intro g_ ag aH;(with_reducible apply aa.bI);(iterate 5 exact rfl);(first|exact rfl|assumption|exact dm _|exact dj _ _|exact dF _|exact dG _ _);exact rfl;exact rfl;refine l5 ?_;refine zq ?_;refine jG ?_;refine aa.ah 65 2 2 rfl rfl rfl rfl ?_;refine zb ?_;(iterate 2 refine zm ?_);refine mD ?_;(with_reducible apply aa.bI);(iterate 5 exact rfl);(first|exact rfl|assumption|exact dm _|exact dj _ _|exact dF _|exact dG _ _);exact rfl;exact rfl;refine gH ?_;refine AW.region ?_;refine zg ?_;refine aa.ah 65 3 3 rfl rfl rfl rfl ?_;refine cJ ?_;(with_reducible apply aa.il);(iterate 5 exact rfl);(first|exact rfl|assumption|exact dm _|exact dj _ _|exact dF _|exact dG _ _);exact rfl;exact rfl;refine Q0 ?_;(with_reducible apply aa.ga 4);exact rfl;exact rfl;(first|exact .pv rfl|exact .own rfl|exact .nil rfl);(iterate 8 exact rfl);omega;(intro v_ CD);refine B5 ?_;refine aa.ah 65 3 3 rfl rfl rfl rfl ?_;(with_reducible apply aa.bB);(iterate 5 exact rfl);(first|exact rfl|assumption|exact dm _|exact dj _ _|exact dF _|exact dG _ _);(iterate 3 exact rfl);(with_reducible assumption);refine Q0 ?_;refine aa.nil ?_)
  (apply gI (v_) (CD);((exact bD.none));((exact lR));((refine⟨.box _ rfl ?_,?_⟩;(iterate 2 refine KC ?_);(iterate 2 refine Mw ?_);refine KC ?_;refine Mw ?_;(iterate 2 refine⟨.ai (by first|rfl|(simp only[a6,cC,aF,kJ,List.set_set,if_neg h])),?_⟩);refine Mw ?_;(iterate 2 refine⟨.bz (by first|rfl|(simp only[a6,cC,aF,kJ,List.set_set,if_neg h])),?_⟩);exact trivial;(iterate 3 refine⟨.row rfl,?_⟩);refine G3 ?_;(iterate 2 refine⟨.row rfl,?_⟩);refine G3 ?_;refine⟨.row rfl,?_⟩;refine G3 ?_;exact vS));exact rfl)
end Go.Ab
/- The solver's trail:decisions,the least free variable,going back,walked. -/
namespace Go.Ab
open Go Go.Proofs
open Nat (reduceAdd reduceSub)
set_option maxRecDepth 20000
set_option maxHeartbeats 4000000
def cu (s:SR):SR:={s with marks:=s.marks++ [((s.ll 0).length:Int)]}
def eF (v:List Int) (low:Nat):Nat:=low+((v.drop low).takeWhile fun x=>decide (x≠0)).length
theorem pV {v:List Int} {low:Nat} (h:¬low<v.length):eF v low=low:=by
 unfold eF
 rw[List.drop_eq_nil_of_le (by omega)];rfl
theorem nk {v:List Int} {low:Nat} (h:low<v.length) (h0:v[low]=0):eF v low=low:=by
 unfold eF
 rw[List.drop_eq_getElem_cons h,List.takeWhile_cons_of_neg (by simp [h0])];rfl
theorem nG {v:List Int} {low:Nat} (h:low<v.length) (h0:v[low]≠0):eF v low=eF v (low+1):=by
 unfold eF
 rw[List.drop_eq_getElem_cons h,List.takeWhile_cons_of_pos (by simp [h0])]
 simp only[List.length_cons];omega
theorem r9 {v:List Int}:∀{n low:Nat},v.length - low=n→low≤v.length→low≤eF v low∧eF v low≤v.length
 |0,low,h,hl=>by rw[pV (by omega)];omega
 |n+1,low,h,hl=>by
  have aP:low<v.length:=by omega
  by_cases h0:v[low]=0
  ·rw[nk aP h0];omega
  ·rw[nG aP h0]
   have:=r9 (v:=v) (n:=n) (low:=low+1) (by omega) (by omega)
   omega
def zeroV (v:List Int) (l:List Int):List Int:=l.foldl (fun v x=>v.set (aF x) 0) v
def jN (low:Int) (l:List Int):Int:=l.foldl (fun m x=>min m (max x (-x))) low
theorem bC (v:List Int):zeroV v []=v:=rfl
theorem bO (b:Int):jN b []=b:=rfl
theorem kn (l v:List Int):(zeroV v l).length=v.length:=by
 unfold zeroV
 induction l generalizing v with
 |nil=>rfl
 |cons x l ih=>rw[List.foldl_cons,ih];simp
theorem wF {v l:List Int} {k:Nat} (h:k<l.length):zeroV v (l.take (k+1))=(zeroV v (l.take k)).set (aF l[k]) 0:=by
 unfold zeroV
 rw[List.take_succ_eq_append_getElem h,List.foldl_append];rfl
theorem yD {b:Int} {l:List Int} {k:Nat} (h:k<l.length):jN b (l.take (k+1))=min (jN b (l.take k)) (max l[k] (-l[k])):=by
 unfold jN
 rw[List.take_succ_eq_append_getElem h,List.foldl_append];rfl
theorem Ba {b:Int} {l:List Int} (hb:0≤b∧b≤1000000) (hl:∀x∈l,-1000000≤x∧x≤1000000):0≤jN b l∧jN b l≤1000000:=by
 unfold jN
 induction l generalizing b with
 |nil=>exact hb
 |cons x l ih=>
  have:=hl x (by simp)
  rw[List.foldl_cons]
  exact ih (by show 0≤min b (max x (-x))∧min b (max x (-x))≤_;omega) fun y hy=>hl y (by simp [hy])
def xL (s:SR) (lv:Nat):SR:={s with value:=zeroV s.value ((s.ll 0).drop (s.marks.getD lv 0).toNat),low:=jN s.low ((s.ll 0).drop (s.marks.getD lv 0).toNat),hl:=aB s.hl 0 (c_ (s.marks.getD lv 0).toNat (s.hl 0)),ll:=aB s.ll 0 ((s.ll 0).take (s.marks.getD lv 0).toNat),marks:=s.marks.take lv}
attribute [local irreducible] bK AW aa bM a8 AR bm a_ bs bT fm fw eF zeroV jN
theorem vL (s:SR) (hl:(s.ll 0).length≤1000000) (hm:s.marks.length≤1000000):jf Try.prog 43 11 (cd s) [.ptr 0 0,aw 0] (cd (cu s)) (.tup []):=by
 refine jf.enter (n:=23) Try.func43 rfl rfl rfl rfl rfl (by decide) rfl rfl fun g aY aW=>?_;refine mL ?_
 (refine zo ?_;refine AW.bE [0,1,2,3,4,5,6,7,8,9] [14] rfl (by assumption) (by kernel_rfl) (by kernel_rfl) rfl ?_;show aa .held _ _ _ [_,_,_,_,_,_,_,_,_,_] _ _;refine Jo ?_;intro k_ cI;refine Q0 ?_;refine AR.aS (i:=10) rfl (by kernel_rfl) rfl ?_;intro g_ ag bq;(with_reducible apply aa.il);(iterate 5 exact rfl);(first|exact rfl|assumption|exact dm _|exact dj _ _|exact dF _|exact dG _ _);exact rfl;exact rfl;refine dX ?_;refine AR.aS (i:=11) rfl (by kernel_rfl) rfl ?_;intro g_ ag bq;(with_reducible apply aa.aZ);exact rfl;(first|exact .pv rfl|exact .own rfl|exact .nil rfl);(iterate 9 exact rfl);(first|omega|(simp only[List.length_map,List.length_append,List.length_cons,List.length_nil,List.length_drop,List.length_take,List.length_set,List.length_range,aE];omega));refine dX ?_;refine Hk ?_;intro g_ ag;show aa .held _ _ _ [_,_] _ _;refine aa.aJ rfl rfl rfl ?_;refine aa.ah 65 4 4 rfl rfl rfl rfl ?_;refine Q4 ?_;intro k_ cI;refine Q0 ?_;refine oD ?_;intro g_ ag aH;(with_reducible apply aa.bB);(iterate 5 exact rfl);(first|exact rfl|assumption|exact dm _|exact dj _ _|exact dF _|exact dG _ _);(iterate 3 exact rfl);(with_reducible assumption);refine l5 ?_;refine lZ ?_;refine aa.neq rfl rfl rfl rfl rfl ?_;refine vx ?_;refine AW.skip ?_)
 (apply iL;((exact bD.none));((exact lR));((refine⟨.box _ rfl ?_,?_⟩;(iterate 2 refine Jb ?_);(iterate 2 refine MD ?_);refine Jb ?_;refine MD ?_;(iterate 2 refine⟨.ai (by first|rfl|(simp only[cu,List.map_append,List.map_cons,List.map_nil];rfl)),?_⟩);refine MD ?_;(iterate 2 refine⟨.bz (by first|rfl|(simp only[cu,List.map_append,List.map_cons,List.map_nil];rfl)),?_⟩);exact trivial;(iterate 3 refine⟨.row rfl,?_⟩);refine GM ?_;(iterate 2 refine⟨.row rfl,?_⟩);refine GM ?_;refine⟨.row rfl,?_⟩;refine GM ?_;exact vS));exact rfl)
theorem pw (s:SR) (x:Int) (h0:x≠0) (hb: -1000000≤x∧x≤1000000) (hx:x<s.value.length∧ -x<s.value.length) (h1:s.level.length=s.value.length) (h2:s.reason.length=s.value.length) (hl:(s.ll 0).length≤100000) (hm:s.marks.length≤100000):
  nf Try.prog 43 11 (cd s) [.ptr 0 0,aw x] (fun h:Value=>h.oneCell'=true) (fun h=>cd (a6 (cu s) x (-1) h)) (fun _=> .tup []):=by
 have hp:=kA (cu s) x (-1) hb hx h1 h2 (by show(s.ll 0).length≤_;omega) (by show(s.marks++_).length≤_;simp;omega)
 rw[show cd (cu s)=cd {cu s with marks:=s.marks++ [((s.ll 0).length:Int)]} from rfl] at hp
 simp only[cd,cg,List.map_append,List.map_cons,List.map_nil] at hp
 refine nf.enter (n:=23) Try.func43 rfl rfl rfl rfl rfl (by decide) rfl (fun _=>rfl) fun g aY aW=>?_;refine mL ?_
 (refine zo ?_;refine AW.bE [0,1,2,3,4,5,6,7,8,9] [14] rfl (by assumption) (by kernel_rfl) (by kernel_rfl) rfl ?_;show aa .held _ _ _ [_,_,_,_,_,_,_,_,_,_] _ _;refine Jo ?_;intro k_ cI;refine Q0 ?_;refine AR.aS (i:=10) rfl (by kernel_rfl) rfl ?_;intro g_ ag bq;(with_reducible apply aa.il);(iterate 5 exact rfl);(first|exact rfl|assumption|exact dm _|exact dj _ _|exact dF _|exact dG _ _);exact rfl;exact rfl;refine dX ?_;refine AR.aS (i:=11) rfl (by kernel_rfl) rfl ?_;intro g_ ag bq;(with_reducible apply aa.aZ);exact rfl;(first|exact .pv rfl|exact .own rfl|exact .nil rfl);(iterate 9 exact rfl);(first|omega|(simp only[List.length_map,List.length_append,List.length_cons,List.length_nil,List.length_drop,List.length_take,List.length_set,List.length_range,aE];omega));refine dX ?_;refine Hk ?_;intro g_ ag;show aa .held _ _ _ [_,_] _ _;refine aa.aJ rfl rfl rfl ?_;refine aa.ah 65 4 4 rfl rfl rfl rfl ?_;refine Q4 ?_;intro k_ cI;refine Q0 ?_;refine oD ?_;intro g_ ag aH;(with_reducible apply aa.bB);(iterate 5 exact rfl);(first|exact rfl|assumption|exact dm _|exact dj _ _|exact dF _|exact dG _ _);(iterate 3 exact rfl);(with_reducible assumption);refine l5 ?_;refine lZ ?_;refine aa.neq rfl rfl rfl rfl rfl ?_;refine gG ?_;refine kM ?_;refine zp ?_;(with_reducible apply aa.dZ (hf:=hp));(with_reducible assumption);(iterate 3 exact rfl);(repeat (first|exact trivial|refine⟨rfl,?_⟩));(repeat (first|exact .nil|(refine .cons ?_ ?_;(first|exact .eq rfl rfl|exact .nil _|exact .any _))));(intro x_;exact rfl);exact rfl;(repeat (first|exact trivial|refine⟨rfl,?_⟩|refine⟨aI,?_⟩));(intro x_;(repeat (first|exact trivial|refine⟨rfl,?_⟩|refine⟨aI,?_⟩)));(intro x_;exact rfl);exact rfl;(intro x_ jQ);refine fE ?_;refine aa.nil ?_)
 (apply gI (x_) (jQ);((exact bD.none));((exact lR));((exact Kw));exact rfl)
theorem Ek (s:SR) (low:Nat) (hs:s.low=(low:Int)) (hle:low≤s.value.length) (hl:s.value.length≤1000000):
  jf Try.prog 44 11 (cd s) [.ptr 0 0] (cd {s with low:=(eF s.value low:Int)}) (aw (if eF s.value low=s.value.length then 0 else (eF s.value low:Int))):=by
 simp only[cd,cg,hs]
 have hb:=r9 (v:=s.value) rfl hle
 refine jf.enter (n:=47) Try.func44 rfl rfl rfl rfl rfl (by decide) rfl rfl fun g aY aW=>?_;refine mL ?_
 (refine jD ?_;refine AW.block ?_)
 (refine Q0 ?_;apply AW.ck [2,0,1000] [1,2,3,4,5,6,7,8,9,10] (fun k:Nat=>([]:List (Nat×AV))) (fun k:Nat=>([(0,some (.box [.own 1 3 1 ((s.value).map encI),.own 2 3 1 ((s.level).map encI),.own 3 3 1 ((s.reason).map encI),.pv (.lit (s.hl 0)),.own 5 3 1 ((s.marks).map encI),aw ((k:Int)),.own 6 28 1 (bK s.nc s.hc),.own 8 28 1 (bK s.nw s.hw),aw (s.head),aw (s.added),aM (s.broken),.own 10 30 3 ((s.proof).map jY),aw 0,.pv (dP (s.model)),.pv (dP (s.core))]))]:List (Nat×Option Ob))) (fun k:Nat=>(k≤s.value.length∧eF s.value k=eF s.value low)) (fun k:Nat=>s.value.length - k) (low);(conv=>lhs;simp only[Nf.jJ,Nf.all,Nat.reduceBEq,reduceAdd,reduceSub]);(all_goals skip))
 ·exact⟨hle,rfl⟩
 ·exact aN rfl (by(refine⟨.ai (by rfl),?_⟩;(iterate 2 refine⟨.eq rfl rfl,?_⟩);exact trivial)) (by(refine⟨.box _ rfl ?_,?_⟩;(iterate 3 refine⟨.aj (by rfl) rfl,?_⟩);refine⟨.ai (by rfl),?_⟩;refine⟨.aj (by rfl) rfl,?_⟩;refine⟨.ai (by rfl),?_⟩;(iterate 2 refine⟨.aj (by rfl) rfl,?_⟩);(iterate 3 refine⟨.ai (by rfl),?_⟩);refine⟨.aj (by rfl) rfl,?_⟩;refine⟨.ai (by rfl),?_⟩;(iterate 2 refine⟨.bz (by rfl),?_⟩);exact trivial;(iterate 3 refine⟨.row rfl,?_⟩);refine⟨.pool rfl (by rfl),?_⟩;(iterate 2 refine⟨.row rfl,?_⟩);refine⟨.pool rfl (by rfl),?_⟩;refine⟨.row rfl,?_⟩;refine⟨.pool rfl (by rfl),?_⟩;refine⟨.row rfl,?_⟩;exact trivial)) rfl
 rintro k ⟨hk,hf⟩
 by_cases aP:k<s.value.length
 ·by_cases h0:s.value[k]=0
  ·have e:=nk aP h0
   rw[hf] at e
   have h0':(decide (s.value[k]≠0))=false:=by simp [h0]
   have br:¬k=s.value.length:=by omega
   rw[e,if_neg br]
   ((iterate 2 refine zo ?_);(with_reducible apply AW.bn);exact rfl;exact rfl;kernel_rfl;(with_reducible assumption);refine AL ?_;refine zs ?_;refine zm ?_;refine Kr ?_;(focus ((with_reducible apply aa.aC);(iterate 4 exact rfl);exact(fun h_=>by cases h_);rotate_left;(first|omega|exact Nat.zero_lt_one|(simp;done))));refine zt ?_;refine aa.neq rfl rfl rfl rfl rfl ?_;refine zT ?_;refine zd ?_;refine zk ?_;refine vj ?_;(iterate 2 refine zo ?_);(with_reducible apply AW.bn);exact rfl;exact rfl;kernel_rfl;(with_reducible assumption);refine AL ?_;refine wx ?_;refine dH ?_;refine jG ?_;refine aa.ah 65 5 5 rfl rfl rfl rfl ?_;refine zb ?_;refine e_ ?_)
   (apply c7;((exact bD.one (.tmp rfl rfl)));((exact tn));((exact Q2));exact rfl)
  ·have h0':(decide (s.value[k]≠0))=true:=by simp [h0]
   have e:=nG aP h0
   ((iterate 2 refine zo ?_);(with_reducible apply AW.bn);exact rfl;exact rfl;kernel_rfl;(with_reducible assumption);refine AL ?_;refine zs ?_;refine zm ?_;refine Kr ?_;(focus ((with_reducible apply aa.aC);(iterate 4 exact rfl);exact(fun h_=>by cases h_);rotate_left;(first|omega|exact Nat.zero_lt_one|(simp;done))));refine zt ?_;refine aa.neq rfl rfl rfl rfl rfl ?_;refine zT ?_;refine gG ?_;refine oc ?_;refine AW.block ?_;refine kM ?_;refine jG ?_;refine aa.ah 65 5 5 rfl rfl rfl rfl ?_;refine zb ?_;refine zj ?_;refine aa.aJ rfl rfl rfl ?_;refine aa.ah 65 5 5 rfl rfl rfl rfl ?_;(with_reducible apply aa.bB);(iterate 5 exact rfl);(first|exact rfl|assumption|exact dm _|exact dj _ _|exact dF _|exact dG _ _);(iterate 3 exact rfl);(with_reducible assumption);refine Q0 ?_;refine y8 ?_)
   exact⟨k+1,⟨by omega,by rw[← e];exact hf⟩,by omega,aN rfl (by(refine⟨.ai (by rfl),?_⟩;(iterate 2 refine⟨.eq rfl rfl,?_⟩);exact trivial)) (by(refine⟨.box _ rfl ?_,?_⟩;(iterate 3 refine⟨.aj (by rfl) rfl,?_⟩);refine⟨.ai (by rfl),?_⟩;refine⟨.aj (by rfl) rfl,?_⟩;refine⟨.ai (by rfl),?_⟩;(iterate 2 refine⟨.aj (by rfl) rfl,?_⟩);(iterate 3 refine⟨.ai (by rfl),?_⟩);refine⟨.aj (by rfl) rfl,?_⟩;refine⟨.ai (by rfl),?_⟩;(iterate 2 refine⟨.bz (by rfl),?_⟩);exact trivial;(iterate 3 refine⟨.row rfl,?_⟩);refine⟨.pool rfl (by rfl),?_⟩;(iterate 2 refine⟨.row rfl,?_⟩);refine⟨.pool rfl (by rfl),?_⟩;refine⟨.row rfl,?_⟩;refine⟨.pool rfl (by rfl),?_⟩;refine⟨.row rfl,?_⟩;exact trivial)) rfl⟩
 ·have hk2:k=s.value.length:=by omega
  have e:=pV (v:=s.value) (low:=k) aP
  rw[hf] at e
  rw[e,if_pos hk2]
  ((iterate 2 refine zo ?_);(with_reducible apply AW.bn);exact rfl;exact rfl;kernel_rfl;(with_reducible assumption);refine AL ?_;refine zs ?_;refine zm ?_;(iterate 11 refine aa.jn rfl rfl rfl rfl rfl rfl (by first|omega|decide) ?_);refine zF ?_;refine vx ?_;refine vj ?_;(iterate 2 refine zo ?_);(with_reducible apply AW.bn);exact rfl;exact rfl;kernel_rfl;(with_reducible assumption);refine AL ?_;refine Cw ?_;refine dH ?_;refine mH ?_)
  (apply c7;((exact bD.one (.tmp rfl rfl)));((exact tn));((exact Q2));exact rfl)
theorem qg (s:SR) (lv:Int) (lL:(s.marks.length:Int)≤lv):jf Try.prog 32 11 (cd s) [.ptr 0 0,aw lv] (cd s) (.tup []):=by
 refine jf.enter (n:=75) Try.func32 rfl rfl rfl rfl rfl (by decide) rfl rfl fun g aY aW=>?_;refine mL ?_
 (refine im ?_;refine jG ?_;refine sM ?_;refine aa.geq rfl rfl rfl rfl rfl ?_;refine gG ?_;refine AW.ret ?_;refine cO ?_)
 (apply c7;((exact bD.none));((exact lR));((exact Q2));exact rfl)
theorem Bz (s:SR) (lv:Nat) (lL:lv<s.marks.length) (hm:0≤s.marks[lv]∧s.marks[lv].toNat≤(s.ll 0).length) (hl:(s.ll 0).length≤1000000) (Il:0≤s.low∧s.low≤1000000)
  (hx:∀x∈s.ll 0,(-1000000≤x∧x≤1000000)∧aF x<s.value.length):jf Try.prog 32 11 (cd s) [.ptr 0 0,aw lv] (cd (xL s lv)) (.tup []):=by
 have FC:s.marks.getD lv 0=s.marks[lv]:=aQ lL
 have hm2:(s.marks.getD lv 0).toNat≤(s.ll 0).length:=by rw[FC];exact hm.2
 unfold xL
 rw[FC]
 have xT:((s.ll 0).drop (s.marks[lv]).toNat).length=(s.ll 0).length - (s.marks[lv]).toNat:=List.length_drop
 simp only[cd,cg]
 refine jf.enter (n:=75) Try.func32 rfl rfl rfl rfl rfl (by decide) rfl rfl fun g aY aW=>?_;refine mL ?_
 refine AW.tf 4 rfl fun dm dj=>?_
 (refine im ?_;refine jG ?_;refine sM ?_;refine aa.geq rfl rfl rfl rfl rfl ?_;refine hO ?_;(iterate 2 refine zo ?_);(with_reducible apply AW.bn);exact rfl;exact rfl;kernel_rfl;(with_reducible assumption);refine jG ?_;refine aa.ah 65 3 3 rfl rfl rfl rfl ?_;refine zb ?_;refine jG ?_;refine aa.ah 65 4 4 rfl rfl rfl rfl ?_;refine cJ ?_;refine wo ?_;(focus ((with_reducible apply aa.aC);(iterate 4 exact rfl);exact(fun h_=>by cases h_);rotate_left;(first|omega|exact Nat.zero_lt_one|(simp;done))));refine aa.qk 4 rfl rfl rfl rfl rfl rfl rfl rfl (by omega) (by omega) ?_;refine aa.tj 4 rfl rfl rfl rfl rfl ?_;refine zm ?_;refine pT ?_)
 (refine Q0 ?_;apply AW.ck [26,25,0,1,1000] [1,2,3,4,5,6,7,8,9,10] (fun k:Nat=>([(27,aw k)]:List (Nat×AV))) (fun k:Nat=>([(0,some (.box [.own 1 3 1 ((zeroV s.value (((s.ll 0).drop (s.marks[lv]).toNat).take k)).map encI),.own 2 3 1 ((s.level).map encI),.own 3 3 1 ((s.reason).map encI),.pv (.lit (s.hl 0)),.own 5 3 1 ((s.marks).map encI),aw (jN s.low (((s.ll 0).drop (s.marks[lv]).toNat).take k)),.own 6 28 1 (bK s.nc s.hc),.own 8 28 1 (bK s.nw s.hw),aw (s.head),aw (s.added),aM (s.broken),.own 10 30 3 ((s.proof).map jY),aw 0,.pv (dP (s.model)),.pv (dP (s.core))]))]:List (Nat×Option Ob))) (fun k:Nat=>k≤((s.ll 0).drop (s.marks[lv]).toNat).length) (fun k:Nat=>((s.ll 0).drop (s.marks[lv]).toNat).length - k) (0);(conv=>lhs;simp only[Nf.jJ,Nf.all,Nat.reduceBEq,reduceAdd,reduceSub]);(all_goals skip))
 ·exact Nat.zero_le _
 ·exact aN rfl (by(refine⟨.ai (by first|rfl|(simp only[List.take_zero,bC,bO])),?_⟩;refine⟨.ai (by first|rfl|(simp only[List.take_zero,bC,bO])),?_⟩;refine⟨.ai (by first|rfl|(simp only[List.take_zero,bC,bO])),?_⟩;refine⟨.eq rfl rfl,?_⟩;refine⟨.ai (by first|rfl|(simp only[List.take_zero,bC,bO])),?_⟩;refine⟨.eq rfl rfl,?_⟩;exact trivial)) (by(refine⟨.box _ rfl ?_,?_⟩;refine⟨.aj (by first|rfl|(simp only[List.take_zero,bC,bO])) rfl,?_⟩;refine⟨.aj (by first|rfl|(simp only[List.take_zero,bC,bO])) rfl,?_⟩;refine⟨.aj (by first|rfl|(simp only[List.take_zero,bC,bO])) rfl,?_⟩;refine⟨.ai (by first|rfl|(simp only[List.take_zero,bC,bO])),?_⟩;refine⟨.aj (by first|rfl|(simp only[List.take_zero,bC,bO])) rfl,?_⟩;refine⟨.ai (by first|rfl|(simp only[List.take_zero,bC,bO])),?_⟩;refine⟨.aj (by first|rfl|(simp only[List.take_zero,bC,bO])) rfl,?_⟩;refine⟨.aj (by first|rfl|(simp only[List.take_zero,bC,bO])) rfl,?_⟩;refine⟨.ai (by first|rfl|(simp only[List.take_zero,bC,bO])),?_⟩;refine⟨.ai (by first|rfl|(simp only[List.take_zero,bC,bO])),?_⟩;refine⟨.ai (by first|rfl|(simp only[List.take_zero,bC,bO])),?_⟩;refine⟨.aj (by first|rfl|(simp only[List.take_zero,bC,bO])) rfl,?_⟩;refine⟨.ai (by first|rfl|(simp only[List.take_zero,bC,bO])),?_⟩;refine⟨.bz (by first|rfl|(simp only[List.take_zero,bC,bO])),?_⟩;refine⟨.bz (by first|rfl|(simp only[List.take_zero,bC,bO])),?_⟩;exact trivial;(iterate 3 refine⟨.row rfl,?_⟩);refine⟨.pool rfl (by first|rfl|(simp only[List.take_zero,bC,bO])),?_⟩;(iterate 2 refine⟨.row rfl,?_⟩);refine⟨.pool rfl (by first|rfl|(simp only[List.take_zero,bC,bO])),?_⟩;refine⟨.row rfl,?_⟩;refine⟨.pool rfl (by first|rfl|(simp only[List.take_zero,bC,bO])),?_⟩;refine⟨.row rfl,?_⟩;exact trivial)) rfl
 rintro k hk
 have Ns:=kn (((s.ll 0).drop (s.marks[lv]).toNat).take k) s.value
 by_cases wm:k<((s.ll 0).drop (s.marks[lv]).toNat).length
 ·have hz:=wF (v:=s.value) wm
  have lT:=yD (b:=s.low) wm
  have uc:((s.ll 0).drop (s.marks[lv]).toNat)[k]=(s.ll 0)[(s.marks[lv]).toNat+(k:Int).toNat]'(by simp only[Int.toNat_natCast];omega):=List.getElem_drop
  rw[uc] at hz lT
  obtain⟨hr,Ff⟩:=hx _ (List.getElem_mem (show(s.marks[lv]).toNat+(k:Int).toNat<(s.ll 0).length by simp only[Int.toNat_natCast];omega))
  have ir:=Ba (b:=s.low) (l:=((s.ll 0).drop (s.marks[lv]).toNat).take k) Il fun y hy=>(hx y (List.mem_of_mem_drop (List.mem_of_mem_take hy))).1
  unfold aF at Ff hz
  (refine yz ?_;refine Q5 ?_;refine dH ?_;refine aa.qu 4 rfl rfl rfl rfl rfl rfl rfl rfl (by omega) (by omega) ?_;(focus ((with_reducible apply aa.ax 4);(iterate 5 exact rfl);exact(fun h_=>by cases h_);rotate_left;omega));refine eD ?_;refine dH ?_;refine B6 ?_;refine eD ?_;refine dH ?_;refine yR ?_;refine mD ?_;(with_reducible apply aa.bI);(iterate 5 exact rfl);(first|exact rfl|assumption|exact dm _|exact dj _ _|exact dF _|exact dG _ _);exact rfl;exact rfl;refine gH ?_;refine AW.region ?_;refine zg ?_;refine aa.ah 65 5 5 rfl rfl rfl rfl ?_;refine cJ ?_;refine aa.min2 rfl rfl rfl rfl rfl ?_;refine aa.aJ rfl rfl rfl ?_;refine aa.ah 65 5 5 rfl rfl rfl rfl ?_;(with_reducible apply aa.bB);(iterate 5 exact rfl);(first|exact rfl|assumption|exact dm _|exact dj _ _|exact dF _|exact dG _ _);(iterate 3 exact rfl);(with_reducible assumption);refine Q0 ?_;refine uj ?_)
  exact⟨k+1,by omega,by omega,aN rfl (by(refine⟨.ai (by first|rfl|(rw[cC,hz])|(rw[lT])),?_⟩;refine⟨.ai (by first|rfl|(rw[cC,hz])|(rw[lT])),?_⟩;refine⟨.ai (by first|rfl|(rw[cC,hz])|(rw[lT])),?_⟩;refine⟨.eq rfl rfl,?_⟩;refine⟨.ai (by first|rfl|(rw[cC,hz])|(rw[lT])),?_⟩;refine⟨.eq rfl rfl,?_⟩;exact trivial)) (by(refine⟨.box _ rfl ?_,?_⟩;refine⟨.aj (by first|rfl|(rw[cC,hz])|(rw[lT])) rfl,?_⟩;refine⟨.aj (by first|rfl|(rw[cC,hz])|(rw[lT])) rfl,?_⟩;refine⟨.aj (by first|rfl|(rw[cC,hz])|(rw[lT])) rfl,?_⟩;refine⟨.ai (by first|rfl|(rw[cC,hz])|(rw[lT])),?_⟩;refine⟨.aj (by first|rfl|(rw[cC,hz])|(rw[lT])) rfl,?_⟩;refine⟨.ai (by first|rfl|(rw[cC,hz])|(rw[lT])),?_⟩;refine⟨.aj (by first|rfl|(rw[cC,hz])|(rw[lT])) rfl,?_⟩;refine⟨.aj (by first|rfl|(rw[cC,hz])|(rw[lT])) rfl,?_⟩;refine⟨.ai (by first|rfl|(rw[cC,hz])|(rw[lT])),?_⟩;refine⟨.ai (by first|rfl|(rw[cC,hz])|(rw[lT])),?_⟩;refine⟨.ai (by first|rfl|(rw[cC,hz])|(rw[lT])),?_⟩;refine⟨.aj (by first|rfl|(rw[cC,hz])|(rw[lT])) rfl,?_⟩;refine⟨.ai (by first|rfl|(rw[cC,hz])|(rw[lT])),?_⟩;refine⟨.bz (by first|rfl|(rw[cC,hz])|(rw[lT])),?_⟩;refine⟨.bz (by first|rfl|(rw[cC,hz])|(rw[lT])),?_⟩;exact trivial;(iterate 3 refine⟨.row rfl,?_⟩);refine⟨.pool rfl (by first|rfl|(rw[cC,hz])|(rw[lT])),?_⟩;(iterate 2 refine⟨.row rfl,?_⟩);refine⟨.pool rfl (by first|rfl|(rw[cC,hz])|(rw[lT])),?_⟩;refine⟨.row rfl,?_⟩;refine⟨.pool rfl (by first|rfl|(rw[cC,hz])|(rw[lT])),?_⟩;refine⟨.row rfl,?_⟩;exact trivial)) rfl⟩
 ·obtain rfl:k=((s.ll 0).drop (s.marks[lv]).toNat).length:=by omega
  rw[List.take_length]
  (refine zq ?_;refine xB ?_;refine zo ?_;refine AW.bE [0,1,2,3,4,5,6,7,8,9,10] [15] rfl (by assumption) (by kernel_rfl) (by kernel_rfl) rfl ?_;show aa .held _ _ _ [_,_,_,_,_,_,_,_,_,_,_] _ _;refine zg ?_;refine aa.ah 65 3 3 rfl rfl rfl rfl ?_;refine zb ?_;refine jG ?_;refine aa.ah 65 4 4 rfl rfl rfl rfl ?_;refine cJ ?_;refine wo ?_;refine Q4 ?_;intro k_ cI;refine sX ?_;intro g_ ag bq;(focus ((with_reducible apply aa.aC);(iterate 4 exact rfl);exact(fun h_=>by cases h_);rotate_left;(first|omega|exact Nat.zero_lt_one|(simp;done))));refine Q4 ?_;refine AR.cU [12,13,14] (by kernel_rfl) (by kernel_rfl) (by kernel_rfl) (by kernel_rfl) ?_;intro g_ ag;show aa .held _ _ _ [_,_,_] _ _;refine aa.nK 4 rfl rfl rfl rfl rfl rfl rfl rfl (by omega) (by omega) ?_;refine aa.aJ rfl rfl rfl ?_;refine aa.ah 65 3 3 rfl rfl rfl rfl ?_;refine Q4 ?_;intro k_ cI;refine Q0 ?_;refine AR.cX (i:=15) rfl (by kernel_rfl) rfl (by kernel_rfl) ?_;intro g_ ag aH;(with_reducible apply aa.bB);(iterate 5 exact rfl);(first|exact rfl|assumption|exact dm _|exact dj _ _|exact dF _|exact dG _ _);(iterate 3 exact rfl);(with_reducible assumption);refine l5 ?_;(with_reducible apply AW.nQ 9 4 0 (s.marks.getD lv 0).toNat);exact rfl;omega;(rw[FC]);(try (conv=>rhs;simp only[Nf.cG,Nf.all,Nat.reduceBEq,reduceAdd,reduceSub]));refine AW.region ?_;refine zg ?_;refine aa.ah 65 4 4 rfl rfl rfl rfl ?_;refine cJ ?_;(with_reducible apply aa.Ak);(iterate 7 exact rfl);omega;(first|omega|(simp only[List.length_map,List.length_append,List.length_cons,List.length_nil,List.length_drop,List.length_take,List.length_set,List.length_range,aE];omega));refine aa.aJ rfl rfl rfl ?_;refine aa.ah 65 4 4 rfl rfl rfl rfl ?_;(with_reducible apply aa.bB);(iterate 5 exact rfl);(first|exact rfl|assumption|exact dm _|exact dj _ _|exact dF _|exact dG _ _);(iterate 3 exact rfl);(with_reducible assumption);refine Q0 ?_;refine aa.nil ?_)
  (apply iL;((exact bD.none));((exact lR));((refine⟨.box _ rfl ?_,?_⟩;(iterate 2 refine KB ?_);(iterate 2 refine GY ?_);refine KB ?_;refine GY ?_;(iterate 2 refine⟨.ai (by first|rfl|(rw[List.map_take];rfl)),?_⟩);refine GY ?_;(iterate 2 refine⟨.bz (by first|rfl|(rw[List.map_take];rfl)),?_⟩);exact trivial;(iterate 3 refine⟨.row rfl,?_⟩);refine GB ?_;(iterate 2 refine⟨.row rfl,?_⟩);refine GB ?_;refine⟨.row rfl,?_⟩;refine GB ?_;exact vS));exact rfl)
end Go.Ab
/- The solver:going back to a level;a clause attached,walked. -/
namespace Go.Ab
open Go Go.Proofs
open Nat (reduceAdd reduceSub)
set_option maxRecDepth 20000
set_option maxHeartbeats 4000000
def x7 (s:SR):SR:={s with head:=min s.head ((s.ll 0).length:Int)}
def dU (s:SR) (x:Int) (at':Nat) (h:Value):SR:={s with hw:=aB s.hw (al x).toNat h,wl:=aB s.wl (al x).toNat (s.wl (al x).toNat++ [(at':Int)])}
structure PN (s:SR) (x y:Int) (k:Nat) (hw:Nat→Value) (wl:Nat→List Int):Prop where
 le:k≤2
 i0:k=0→hw=s.hw∧wl=s.wl
 i1:k=1→∃h:Value,h.oneCell'=true∧hw=aB s.hw (al x).toNat h∧wl=aB s.wl (al x).toNat (s.wl (al x).toNat++ [(s.nc:Int)])
 i2:k=2→∃h h':Value,h.oneCell'=true∧h'.oneCell'=true∧hw=aB (aB s.hw (al x).toNat h) (al y).toNat h'∧wl=aB (aB s.wl (al x).toNat (s.wl (al x).toNat++ [(s.nc:Int)])) (al y).toNat (aB s.wl (al x).toNat (s.wl (al x).toNat++ [(s.nc:Int)]) (al y).toNat++ [(s.nc:Int)])
attribute [local irreducible] bK AW aa bM a8 AR bm a_ bs bT fm fw al
theorem sS (s s1:SR) (lv:Int) (hb:jf Try.prog 32 11 (cd s) [.ptr 0 0,aw lv] (cd s1) (.tup [])):jf Try.prog 37 11 (cd s) [.ptr 0 0,aw lv] (cd (x7 s1)) (.tup []):=by
 simp only[cd,cg] at hb ⊢
 refine jf.enter (n:=23) Try.func37 rfl rfl rfl rfl rfl (by decide) rfl rfl fun g aY aW=>?_;refine mL ?_
 (refine zq ?_;refine ly ?_;refine zX (hb) ?_;refine fE ?_;refine zd ?_;refine AW.bE [0,1,2,3,4,5,6,7,8,9,10,11,12,13] [14] rfl (by assumption) (by kernel_rfl) (by kernel_rfl) rfl ?_;show aa .held _ _ _ [_,_,_,_,_,_,_,_,_,_,_,_,_,_] _ _;refine zg ?_;refine C5 ?_;refine xf ?_;refine Ah ?_;refine aa.min2 rfl rfl rfl rfl rfl ?_;refine aa.aJ rfl rfl rfl ?_;refine aa.ah 67 3 8 rfl rfl rfl rfl ?_;refine Q4 ?_;intro k_ cI;refine Q0 ?_;refine oD ?_;intro g_ ag aH;(with_reducible apply aa.bB);(iterate 5 exact rfl);(first|exact rfl|assumption|exact dm _|exact dj _ _|exact dF _|exact dG _ _);(iterate 3 exact rfl);(with_reducible assumption);refine Q0 ?_;refine xt ?_)
 (apply iL;((exact bD.none));((exact lR));((exact Kw));exact rfl)
end Go.Ab
/- The solver:a step of the proof logged;the end of a search,walked. -/
namespace Go.Ab
open Go Go.Proofs
open Nat (reduceAdd reduceSub)
set_option maxRecDepth 20000
set_option maxHeartbeats 4000000
attribute [local irreducible] bK AW aa bM a8 AR bm a_ bs bT fm fw
theorem nr (l:List Int) (hl:l.length≤1000000):Fn Try.prog 45 [.pv (dP l)] (.pv (dP l)):=by
 refine Fn.enter (n:=8) Try.func45 rfl rfl rfl rfl rfl (by decide) fun g aY aW=>?_;(try (conv=>rhs;simp only[Nf.cG,Nf.all,Nat.reduceBEq,reduceAdd,reduceSub]))
 (refine jD ?_;refine dk ?_;(focus ((with_reducible apply aa.p6);(iterate 6 exact rfl);all_goals intro lC));refine rj ?_;refine dH ?_;refine mH ?_;(all_goals skip);rotate_left;refine vx ?_;refine oc ?_;refine dH ?_;refine aa.FR rfl rfl rfl rfl rfl ?_;refine Q0 ?_;refine zm ?_;(with_reducible apply aa.aZ);exact rfl;(first|exact .pv rfl|exact .own rfl|exact .nil rfl);(iterate 9 exact rfl);(first|omega|(simp only[List.length_map,List.length_append,List.length_cons,List.length_nil,List.length_drop,List.length_take,List.length_set,List.length_range,aE];omega));refine Q0 ?_;refine ot ?_;(all_goals skip);rotate_left)
 ·obtain rfl:l=[]:=by simpa using lC
  (apply az;(exact bD.one (.tmp rfl rfl));(exact Le.nil _))
 ·(apply az;(exact bD.one (.tmp rfl rfl));(exact Le.own _ _ _ _ rfl))
theorem Ad (s:SR) (l:List Int) (hl:l.length≤1000000) (hp:s.proof.length≤1000000):jf Try.prog 64 11 (cd s) [.ptr 0 0,.pv (dP l)] (cd {s with proof:=s.proof++ [l]}) (.tup []):=by
 have hc:=nr l hl
 simp only[cd,cg]
 refine jf.enter (n:=16) Try.func64 rfl rfl rfl rfl rfl (by decide) rfl rfl fun g aY aW=>?_;refine mL ?_
 (refine AW.bE [0,1,2,3,4,5] [12] rfl (by assumption) (by kernel_rfl) (by kernel_rfl) rfl ?_;show aa .held _ _ _ [_,_,_,_,_,_] _ _;refine zg ?_;refine aa.ah 67 6 11 rfl rfl rfl rfl ?_;refine cJ ?_;refine Q4 ?_;intro k_ cI;refine Q0 ?_;refine AR.aS (i:=6) rfl (by kernel_rfl) rfl ?_;intro g_ ag bq;refine zP (hc) ?_;refine Dq ?_;(try (conv=>rhs;simp only[Nf.cG,Nf.all,Nat.reduceBEq,reduceAdd,reduceSub]));refine AR.aS (i:=8) rfl (by kernel_rfl) rfl ?_;intro g_ ag bq;refine AF ?_;refine AR.aS (i:=9) rfl (by kernel_rfl) rfl ?_;intro g_ ag bq;(with_reducible apply aa.aZ);exact rfl;(first|exact .pv rfl|exact .own rfl|exact .nil rfl);(iterate 9 exact rfl);(first|omega|(simp only[List.length_map,List.length_append,List.length_cons,List.length_nil,List.length_drop,List.length_take,List.length_set,List.length_range,aE];omega));refine dX ?_;refine AR.cU [10,11] (by kernel_rfl) (by kernel_rfl) (by kernel_rfl) (by kernel_rfl) ?_;intro g_ ag;show aa .held _ _ _ [_,_] _ _;refine aa.aJ rfl rfl rfl ?_;refine AS ?_;intro k_ cI;refine Q0 ?_;refine mA ?_;intro g_ ag aH;(with_reducible apply aa.bB);(iterate 5 exact rfl);(first|exact rfl|assumption|exact dm _|exact dj _ _|exact dF _|exact dG _ _);(iterate 3 exact rfl);(with_reducible assumption);refine Q0 ?_;refine xt ?_)
 (apply iL;((exact bD.none));((exact lR));((exact OR));exact rfl)
theorem zE (hs:Nat→Value) (ls:Nat→List Int) (k:Nat) (hl:(ls k).length≤1000000) (h0:0<(ls k).length):jf Try.prog 45 11 [(7,some (.pool 3 (ew hs ls)))] [.pv (.lit (hs k))] [(7,some (.pool 3 (ew hs ls)))] (.pv (dP (ls k))):=by
 refine jf.enter (n:=8) Try.func45 rfl rfl rfl rfl rfl (by decide) rfl rfl fun g aY aW=>?_;refine mL ?_
 (refine jD ?_;refine dk ?_;(with_reducible apply aa.yP 7);(iterate 7 exact rfl);omega;(try (conv=>rhs;simp only[Nf.cG,Nf.all,Nat.reduceBEq,reduceAdd,reduceSub]));refine vx ?_;refine oc ?_;refine zq ?_;refine aa.FR rfl rfl rfl rfl rfl ?_;refine Q0 ?_;refine zm ?_;(with_reducible apply aa.tH 7);(iterate 11 exact rfl);(simp only[List.length_nil];omega);(try (conv=>rhs;simp only[Nf.cG,Nf.all,Nat.reduceBEq,reduceAdd,reduceSub]));refine ot ?_)
 (apply c7;((exact bD.one (.tmp rfl rfl)));((refine⟨.su rfl (by first|with_reducible rfl|(rfl)),?_⟩;exact rP));((refine⟨.pool rfl (by first|with_reducible rfl|(rfl)),?_⟩;exact trivial));exact rfl)
theorem Af (s:SR) (hl:(s.cl s.nc).length≤1000000) (hp:s.proof.length≤1000000) (h0:0<(s.cl s.nc).length):jf Try.prog 64 11 (cd s) [.ptr 0 0,.pv (.lit (s.hc s.nc))] (cd {s with proof:=s.proof++ [s.cl s.nc]}) (.tup []):=by
 have hc:=zE s.hc s.cl s.nc hl h0
 simp only[cd,cg]
 refine jf.enter (n:=16) Try.func64 rfl rfl rfl rfl rfl (by decide) rfl rfl fun g aY aW=>?_;refine mL ?_
 (refine AW.bE [5] [6] rfl (by assumption) (by kernel_rfl) (by kernel_rfl) rfl ?_;show aa .held _ _ _ [_] _ _;refine zm ?_;refine Q4 ?_;intro k_ cI;refine Q0 ?_;(refine AR.free 0 (by kernel_rfl) rfl rfl rfl (by first|exact bh.a7 rfl rfl|exact bh.cK rfl rfl|exact bh.nilCheck rfl rfl) ?_);(refine AR.free 1 (by kernel_rfl) rfl rfl rfl (by first|exact bh.a7 rfl rfl|exact bh.cK rfl rfl|exact bh.nilCheck rfl rfl) ?_);(refine AR.free 2 (by kernel_rfl) rfl rfl rfl (by first|exact bh.a7 rfl rfl|exact bh.cK rfl rfl|exact bh.nilCheck rfl rfl) ?_);apply AR.cut [2,1,0,5,3,4,6,7,8];intro iq;apply AR.cut [2,1,0,5,3,4,6,7];intro lM;(refine AR.sG (i:=3) (j:=6) rfl (by kernel_rfl) rfl rfl (by kernel_rfl) ?_ ?_<;>intro g_ ag aH);refine AS ?_;(refine AR.sG (i:=4) (j:=6) rfl (by kernel_rfl) rfl rfl (by kernel_rfl) ?_ ?_<;>intro g_ ag aH);refine zb ?_;refine p9 ?_;intro g_ ag aH;refine zX (hc) ?_;refine fE ?_;refine Dq ?_;(try (conv=>rhs;simp only[Nf.cG,Nf.all,Nat.reduceBEq,reduceAdd,reduceSub]));(try (conv=>rhs;simp only[Nf.cG,Nf.all,Nat.reduceBEq,reduceAdd,reduceSub]));exact wi;refine zX (hc) ?_;refine fE ?_;refine Dq ?_;(try (conv=>rhs;simp only[Nf.cG,Nf.all,Nat.reduceBEq,reduceAdd,reduceSub]));(refine AR.r6 (i:=4) (j:=8) rfl (by kernel_rfl) rfl rfl (by kernel_rfl) ?_ ?_<;>intro g_ ag aH);refine zb ?_;refine Q4 ?_;(try (conv=>rhs;simp only[Nf.cG,Nf.all,Nat.reduceBEq,reduceAdd,reduceSub]));refine AR.meet lM (by kernel_rfl) (fun g_=>aN rfl ?_ ?_ rfl);(iterate 11 refine⟨.eq rfl rfl,?_⟩);exact trivial;exact HB;refine AF ?_;refine Ei ?_;intro g_ ag aH;refine zb ?_;refine Q4 ?_;(try (conv=>rhs;simp only[Nf.cG,Nf.all,Nat.reduceBEq,reduceAdd,reduceSub]));exact ph;refine zX (hc) ?_;refine fE ?_;refine Dq ?_;(try (conv=>rhs;simp only[Nf.cG,Nf.all,Nat.reduceBEq,reduceAdd,reduceSub]));(refine AR.r6 (i:=3) (j:=8) rfl (by kernel_rfl) rfl rfl (by kernel_rfl) ?_ ?_<;>intro g_ ag aH);refine AS ?_;(refine AR.r6 (i:=4) (j:=8) rfl (by kernel_rfl) rfl rfl (by kernel_rfl) ?_ ?_<;>intro g_ ag aH);refine zb ?_;refine Q4 ?_;(try (conv=>rhs;simp only[Nf.cG,Nf.all,Nat.reduceBEq,reduceAdd,reduceSub]));refine AR.meet lM (by kernel_rfl) (fun g_=>aN rfl ?_ ?_ rfl);(iterate 11 refine⟨.eq rfl rfl,?_⟩);exact trivial;exact HB;refine AF ?_;refine Ei ?_;intro g_ ag aH;refine zb ?_;refine Q4 ?_;(try (conv=>rhs;simp only[Nf.cG,Nf.all,Nat.reduceBEq,reduceAdd,reduceSub]));exact GL;refine AF ?_;refine AR.cX (i:=3) rfl (by kernel_rfl) rfl (by kernel_rfl) ?_;intro g_ ag aH;refine AS ?_;refine Ei ?_;intro g_ ag aH;refine zb ?_;refine Q4 ?_;(try (conv=>rhs;simp only[Nf.cG,Nf.all,Nat.reduceBEq,reduceAdd,reduceSub]));exact GL;refine yt ?_;intro g_ ag aH;refine AF ?_;(try (conv=>rhs;simp only[Nf.cG,Nf.all,Nat.reduceBEq,reduceAdd,reduceSub]));exact GL;refine A4 ?_;intro g_ ag aH;(with_reducible apply aa.aZ);exact rfl;(first|exact .pv rfl|exact .own rfl|exact .nil rfl);(iterate 9 exact rfl);(first|omega|(simp only[List.length_map,List.length_append,List.length_cons,List.length_nil,List.length_drop,List.length_take,List.length_set,List.length_range,aE];omega));refine dX ?_;refine AR.cX (i:=10) rfl (by kernel_rfl) rfl (by kernel_rfl) ?_;intro g_ ag aH;refine nD ?_;refine u7 ?_;intro g_ ag aH;refine AS ?_;refine mA ?_;intro g_ ag aH;(with_reducible apply aa.bB);(iterate 5 exact rfl);(first|exact rfl|assumption|exact dm _|exact dj _ _|exact dF _|exact dG _ _);(iterate 3 exact rfl);(with_reducible assumption);refine Q0 ?_;refine xt ?_)
 (apply iL;((exact bD.none));((exact lR));((exact OR));exact rfl)
end Go.Ab
/- The solver's invariant,in plain terms:the trail. -/
namespace Go.Ab
open Go Go.Proofs
def fe (n:Nat) (L:List Int):List Int:=(List.range (n+1)).map fun v:Nat=>if (v:Int)∈L then 1 else if -(v:Int)∈L then -1 else 0
structure dT (n:Nat) (L:List Int):Prop where
 rng:∀x∈L,x≠0∧ -(n:Int)≤x∧x≤n
 nd:(L.map aF).Nodup
theorem bP (x:Int):aF (-x)=aF x:=by unfold aF;omega
theorem xD {x y:Int}:aF x=aF y↔x=y∨x= -y:=by unfold aF;omega
theorem dz {n:Nat} {x:Int} (h:x≠0∧ -(n:Int)≤x∧x≤n):1≤aF x∧aF x≤n:=by unfold aF;omega
theorem er (n:Nat) (L:List Int):(fe n L).length=n+1:=by simp [fe]
theorem me {n v:Nat} (L:List Int) (h:v≤n):(fe n L).getD v 0=if (v:Int)∈L then 1 else if -(v:Int)∈L then -1 else 0:=by
 unfold fe
 rw[List.getD_eq_getElem?_getD,List.getElem?_map,List.getElem?_range (by omega)];rfl
theorem dT.once {n:Nat} {L:List Int} (h:dT n L) {x y:Int} (hx:x∈L) (hy:y∈L) (hv:aF x=aF y):x=y:=by
 obtain⟨i,hi,rfl⟩:=List.getElem_of_mem hx
 obtain⟨j,hj,rfl⟩:=List.getElem_of_mem hy
 have:i=j:=(List.getElem_inj h.nd (h₀:=by simpa using hi) (h₁:=by simpa using hj)).1 (by simpa using hv)
 subst this;rfl
theorem dT.iy {n:Nat} {L:List Int} (h:dT n L) {x:Int} (hx:x∈L): -x∉L:=fun hn=>by
 have:=h.once hx hn (bP x).symm
 have:=(h.rng x hx).1
 omega
theorem BD {n:Nat} {L:List Int} {x:Int} (hx:x≠0∧ -(n:Int)≤x∧x≤n) (h:dT n L):K7 (fe n L) x=if x∈L then 1 else if -x∈L then -1 else 0:=by
 unfold K7
 by_cases hn:x<0
 ·rw[if_pos hn,me L (by omega),show(((-x).toNat:Nat):Int)= -x by omega,Int.neg_neg]
  by_cases h1:x∈L
  ·rw[if_neg (h.iy h1),if_pos h1,if_pos h1];rfl
  ·by_cases h2: -x∈L
   ·rw[if_pos h2,if_neg h1,if_pos h2]
   ·rw[if_neg h2,if_neg h1,if_neg h1,if_neg h2];rfl
 ·rw[if_neg hn,me L (by omega),show((x.toNat:Nat):Int)=x by omega]
theorem vf {n:Nat} {L:List Int}:∀y∈fe n L,-1≤y∧y≤1:=by
 intro y hy
 unfold fe at hy
 obtain⟨v,_,rfl⟩:=List.mem_map.1 hy
 split
 ·omega
 ·split<;>omega
theorem mV:∀(n:Nat) {l:List Nat},l.Nodup→(∀x∈l,1≤x∧x≤n)→l.length≤n:=by
 intro n
 induction n with
 |zero=>intro l _ h;cases l with|nil=>simp|cons x l=>have:=h x (by simp);omega
 |succ n ih=>
  intro l hn h
  have h1:=ih (l:=l.erase (n+1)) (hn.erase _) (fun x hx=>by
   have h2:=h x (List.mem_of_mem_erase hx)
   have h3:x≠n+1:=fun e=>by subst e;exact(List.Nodup.not_mem_erase hn) hx
   omega)
  have:=List.length_erase (a:=n+1) (l:=l)
  split at this<;>omega
theorem dT.len {n:Nat} {L:List Int} (h:dT n L):L.length≤n:=by
 have:=mV n h.nd fun v hv=>by
  obtain⟨x,hx,rfl⟩:=List.mem_map.1 hv
  exact dz (h.rng x hx)
 simpa using this
theorem dT.push {n:Nat} {L:List Int} (h:dT n L) {x:Int} (hx:x≠0∧ -(n:Int)≤x∧x≤n) (h1:x∉L) (h2: -x∉L):dT n (L++ [x]) where
 rng:=fun y hy=>by
  rcases List.mem_append.1 hy with hy|hy
  ·exact h.rng y hy
  ·rw[List.mem_singleton.1 hy];exact hx
 nd:=by
  rw[List.map_append,List.nodup_append]
  refine⟨h.nd,by simp,fun v hv w hw=>?_⟩
  obtain⟨y,hy,rfl⟩:=List.mem_map.1 hv
  simp at hw
  subst hw
  intro e
  rcases xD.1 e with rfl|rfl
  ·exact h1 hy
  ·exact h2 hy
theorem rQ {n:Nat} {L:List Int} {x:Int} (hx:x≠0∧ -(n:Int)≤x∧x≤n) (h1:x∉L) (h2: -x∉L):(fe n L).set (aF x) (kJ x)=fe n (L++ [x]):=by
 apply List.ext_getElem (by simp [fe])
 intro v q1 q2
 have hv:v≤n:=by simp [fe] at q1;omega
 rw[List.getElem_set]
 simp only[fe,List.getElem_map,List.getElem_range,List.mem_append,List.mem_singleton]
 unfold kJ
 by_cases e:aF x=v
 ·rw[if_pos e]
  unfold aF at e
  by_cases hn:x<0
  ·have e1:x= -(v:Int):=by omega
   rw[if_pos hn,if_neg (fun h=>h.elim (fun h=>h2 (by rw[e1,Int.neg_neg];exact h)) (fun h=>by omega)),if_pos (.inr e1.symm)]
  ·have e1:x=(v:Int):=by omega
   rw[if_neg hn,if_pos (.inr e1.symm)]
 ·rw[if_neg e]
  unfold aF at e
  have e1:¬(v:Int)=x:=by omega
  have e2:¬ -(v:Int)=x:=by omega
  simp only[e1,e2,or_false]
theorem Aa {l:List Int} {v:List Int} {j:Nat} (hj:j<(zeroV v l).length):(zeroV v l)[j]=if j∈l.map aF then 0 else v[j]'(by rw[kn] at hj;exact hj):=by
 unfold zeroV at hj ⊢
 induction l generalizing v with
 |nil=>simp
 |cons x l ih=>
  simp only[List.foldl_cons] at hj ⊢
  rw[ih hj,List.getElem_set]
  simp only[List.map_cons,List.mem_cons]
  by_cases h1:j∈l.map aF
  ·rw[if_pos h1,if_pos (.inr h1)]
  ·rw[if_neg h1]
   by_cases h2:aF x=j
   ·rw[if_pos h2,if_pos (.inl h2.symm)]
   ·rw[if_neg h2,if_neg (fun h=>h.elim (fun h=>h2 h.symm) h1)]
theorem yZ {n:Nat} {L:List Int} (h:dT n L) (m:Nat):zeroV (fe n L) (L.drop m)=fe n (L.take m):=by
 apply List.ext_getElem (by rw[kn];simp [fe])
 intro v q1 q2
 have hv:v≤n:=by simp [fe] at q2;omega
 rw[Aa q1]
 simp only[fe,List.getElem_map,List.getElem_range]
 have Gz:∀y,y∈L↔y∈L.take m∨y∈L.drop m:=fun y=>by conv=>lhs;rw[← List.take_append_drop m L,List.mem_append]
 have sY:∀{y z},y∈L.take m→z∈L.drop m→aF y≠aF z:=fun {y z} hy hz e=>by
  have dt:=h.nd
  rw[← List.take_append_drop m L,List.map_append,List.nodup_append] at dt
  exact dt.2.2 _ (List.mem_map_of_mem hy) _ (List.mem_map_of_mem hz) e
 have hv1:aF (v:Int)=v:=by unfold aF;omega
 have hv2:aF (-(v:Int))=v:=by unfold aF;omega
 by_cases h1:v∈(L.drop m).map aF
 ·rw[if_pos h1]
  obtain⟨z,hz,e⟩:=List.mem_map.1 h1
  rw[if_neg (fun hh=>sY hh hz (by rw[e,hv1])),if_neg (fun hh=>sY hh hz (by rw[e,hv2]))]
 ·rw[if_neg h1]
  have g1:(v:Int)∉L.drop m:=fun hh=>h1 (List.mem_map.2 ⟨_,hh,hv1⟩)
  have g2: -(v:Int)∉L.drop m:=fun hh=>h1 (List.mem_map.2 ⟨_,hh,hv2⟩)
  simp only[Gz,g1,g2,or_false]
theorem dT.take {n:Nat} {L:List Int} (h:dT n L) (m:Nat):dT n (L.take m):=⟨fun x hx=>h.rng x (List.mem_of_mem_take hx),by rw[List.map_take];exact h.nd.sublist (List.take_sublist _ _)⟩
end Go.Ab
/- The solver's invariant,in plain terms:clauses,watches,levels,reasons. -/
namespace Go.Ab
open Go Go.Proofs
abbrev Lit (n:Nat) (x:Int):Prop:=x≠0∧ -(n:Int)≤x∧x≤n
abbrev c0 (c:List Int):Int:=c.getD 0 0
abbrev c1 (c:List Int):Int:=c.getD 1 0
def aD (s:SR) (x:Int):Int:=s.level.getD (aF x) 0
structure bj (n:Nat) (s:SR):Prop where
 hn:n≤20000
 trl:dT n (s.ll 0)
 val:s.value=fe n (s.ll 0)
 lvl:s.level.length=n+1
 rsn:s.reason.length=n+1
 hd:0≤s.head∧s.head≤((s.ll 0).length:Int)
 mrk:∀m∈s.marks,0≤m∧m≤s.head
 lev:∀i (h:i<(s.ll 0).length),aD s (s.ll 0)[i]=(s.marks.countP fun m=>decide (m≤(i:Int)):Nat)
 cls:∀j,j<s.nc→2≤(s.cl j).length∧(s.cl j).Nodup∧∀x∈s.cl j,Lit n x
 fresh:∀j,s.nc≤j→s.cl j=[]∧s.hc j=.slice none 0 0
 nc:s.nc≤100000
 nw:s.nw=2*n+2
 wt:∀x,Lit n x→∀e∈s.wl (al x).toNat,∃j:Nat,j<s.nc∧e=(j:Int)∧(c0 (s.cl j)=x∨c1 (s.cl j)=x)
 wnd:∀k,(s.wl k).Nodup
 wto:∀j,j<s.nc→(j:Int)∈s.wl (al (c0 (s.cl j))).toNat∧(j:Int)∈s.wl (al (c1 (s.cl j))).toNat
 two:∀j,j<s.nc→∀w w',(w=c0 (s.cl j)∧w'=c1 (s.cl j))∨(w=c1 (s.cl j)∧w'=c0 (s.cl j))→ -w∈(s.ll 0).take s.head.toNat→w'∈s.ll 0∧aD s w'≤aD s w
 srt:s.marks.Pairwise (·≤·)
 rea:∀i (h:i<(s.ll 0).length),(s.reason.getD (aF (s.ll 0)[i]) 0= -1∧((i:Int)∈s.marks∨aD s (s.ll 0)[i]=0))∨∃j:Nat,j<s.nc∧s.reason.getD (aF (s.ll 0)[i]) 0=(j:Int)∧(s.ll 0)[i]∈s.cl j∧∀y∈s.cl j,y≠(s.ll 0)[i]→ -y∈(s.ll 0).take i
theorem cA {n:Nat} {x y:Int} (hx:Lit n x) (hy:Lit n y) (h:(al x).toNat=(al y).toNat):x=y:=by
 unfold al at h;split at h<;>split at h<;>omega
theorem da {n:Nat} {x:Int} (hx:Lit n x):0≤al x∧(al x).toNat<2*n+2:=by
 unfold al;split<;>omega
structure fz (c d:List Int):Prop where
 len:d.length=c.length
 nd:c.Nodup→d.Nodup
 mem:∀x,x∈d↔x∈c
theorem dW {c:List Int} (h:2≤c.length):c0 c∈c∧c1 c∈c:=by
 constructor
 ·rw[show c0 c=c[0] from aQ (by omega)];exact List.getElem_mem _
 ·rw[show c1 c=c[1] from aQ (by omega)];exact List.getElem_mem _
theorem swap_perm {c:List Int} {i k:Nat} (hi:i<c.length) (hk:k<c.length):((c.set i c[k]).set k c[i]).Perm c:=by
 by_cases e:i=k
 ·subst e;simp
 ·exact List.set_set_perm hi hk
theorem jm {c:List Int} {i k:Nat} (hi:i<c.length) (hk:k<c.length):fz c ((c.set i c[k]).set k c[i]):=
 ⟨by simp,fun h=>(swap_perm hi hk).nodup_iff.2 h,fun x=>(swap_perm hi hk).mem_iff⟩
theorem bj.swap {n:Nat} {s:SR} (h:bj n s) {j:Nat} (hj:j<s.nc) {d:List Int} (hp:fz (s.cl j) d) (h0:c0 d=c1 (s.cl j)) (h1:c1 d=c0 (s.cl j)):bj n {s with cl:=aB s.cl j d} where
 hn:=h.hn
 trl:=h.trl
 val:=h.val
 lvl:=h.lvl
 rsn:=h.rsn
 hd:=h.hd
 mrk:=h.mrk
 srt:=h.srt
 lev:=h.lev
 cls:=fun k hk=>by
  show 2≤(aB s.cl j d k).length∧(aB s.cl j d k).Nodup∧∀x∈aB s.cl j d k,Lit n x
  by_cases e:k=j
  ·subst e
   rw[ab]
   obtain⟨q1,q2,q3⟩:=h.cls k hk
   exact⟨by rw[hp.len];exact q1,hp.nd q2,fun x hx=>q3 x ((hp.mem x).1 hx)⟩
  ·rw[aO _ _ e];exact h.cls k hk
 fresh:=fun k hk=>by
  have hk:s.nc≤k:=hk
  have:=h.fresh k hk
  exact⟨by show aB s.cl j d k=[];rw[aO _ _ (by omega)];exact this.1,this.2⟩
 nc:=h.nc
 nw:=h.nw
 wt:=fun x hx e he=>by
  obtain⟨k,hk,rfl,hw⟩:=h.wt x hx e he
  refine⟨k,hk,rfl,?_⟩
  show c0 (aB s.cl j d k)=x∨c1 (aB s.cl j d k)=x
  by_cases e:k=j
  ·subst e;rw[ab,h0,h1];exact hw.symm
  ·rw[aO _ _ e];exact hw
 wnd:=h.wnd
 wto:=fun k hk=>by
  show(k:Int)∈s.wl (al (c0 (aB s.cl j d k))).toNat∧(k:Int)∈s.wl (al (c1 (aB s.cl j d k))).toNat
  by_cases e:k=j
  ·subst e;rw[ab,h0,h1];exact(h.wto k hk).symm
  ·rw[aO _ _ e];exact h.wto k hk
 two:=fun k hk w w' hw=>by
  have hw:(w=c0 (aB s.cl j d k)∧w'=c1 (aB s.cl j d k))∨(w=c1 (aB s.cl j d k)∧w'=c0 (aB s.cl j d k)):=hw
  refine h.two k hk w w' ?_
  by_cases e:k=j
  ·subst e;rw[ab,h0,h1] at hw;exact hw.symm
  ·rw[aO _ _ e] at hw;exact hw
 rea:=fun i hi=>by
  rcases h.rea i hi with q|⟨k,q1,q2,q3,q4⟩
  ·exact .inl q
  ·refine .inr ⟨k,q1,q2,?_,?_⟩
   ·show(s.ll 0)[i]∈aB s.cl j d k
    by_cases e:k=j
    ·subst e;rw[ab];exact(hp.mem _).2 q3
    ·rw[aO _ _ e];exact q3
   ·show ∀y∈aB s.cl j d k,y≠(s.ll 0)[i]→ -y∈(s.ll 0).take i
    by_cases e:k=j
    ·subst e;rw[ab];exact fun y hy=>q4 y ((hp.mem y).1 hy)
    ·rw[aO _ _ e];exact q4
theorem bj.move {n:Nat} {s:SR} (h:bj n s) {j:Nat} (hj:j<s.nc) {d:List Int} {g y:Int} (hp:fz (s.cl j) d) (hg:c1 (s.cl j)=g) (QY: -g∈s.ll 0) (h0:c0 d=c0 (s.cl j)) (h1:c1 d=y) (Ar:y≠g) (hy0:y≠c0 (s.cl j)) (Ng: -y∉s.ll 0) {E E':List Int} (hE:s.wl (al g).toNat=E) (hE':∀e,e∈E'↔e∈E∧e≠(j:Int)) (dt:E'.Nodup) (hv:Nat→Value):
  bj n {s with cl:=aB s.cl j d,hw:=hv,wl:=aB (aB s.wl (al y).toNat (s.wl (al y).toNat++ [(j:Int)])) (al g).toNat E'}:=by
 obtain⟨q1,q2,q3⟩:=h.cls j hj
 obtain⟨m0,m1⟩:=dW q1
 have NY:y∈s.cl j:=by
  have:=(dW (c:=d) (by rw[hp.len];exact q1)).2
  rw[h1] at this;exact(hp.mem y).1 this
 have qA:Lit n y:=q3 y NY
 have Bm:Lit n g:=by rw[← hg];exact q3 _ m1
 have br:(al y).toNat≠(al g).toNat:=fun e=>Ar (cA qA Bm e)
 have h0l:Lit n (c0 (s.cl j)):=q3 _ m0
 have hg0:c0 (s.cl j)≠g:=fun e=>by
  rw[show c0 (s.cl j)=(s.cl j)[0] from aQ (by omega)] at e
  rw[show c1 (s.cl j)=(s.cl j)[1] from aQ (by omega),← e] at hg
  have:=(List.getElem_inj q2 (h₀:=by omega) (h₁:=by omega)).1 hg
  omega
 -- j is no watch of y yet
 have Oy:(j:Int)∉s.wl (al y).toNat:=fun hm=>by
  obtain⟨k,hk,e,hw⟩:=h.wt y qA _ hm
  have:k=j:=by omega
  subst this
  rcases hw with hw|hw
  ·exact hy0 hw.symm
  ·exact Ar (hw.symm.trans hg)
 have p8:∀x,Lit n x→∀e,e∈aB (aB s.wl (al y).toNat (s.wl (al y).toNat++ [(j:Int)])) (al g).toNat E' (al x).toNat↔if x=g then (e∈s.wl (al g).toNat∧e≠(j:Int)) else if x=y then (e∈s.wl (al y).toNat∨e=(j:Int)) else e∈s.wl (al x).toNat:=by
  intro x hx e
  by_cases e1:x=g
  ·subst e1;rw[ab,if_pos rfl,hE' e,hE]
  ·rw[aO _ _ (fun q=>e1 (cA hx Bm q)),if_neg e1]
   by_cases e2:x=y
   ·subst e2;rw[ab,if_pos rfl,List.mem_append,List.mem_singleton]
   ·rw[aO _ _ (fun q=>e2 (cA hx qA q)),if_neg e2]
 exact
  {hn:=h.hn,trl:=h.trl,val:=h.val,lvl:=h.lvl,rsn:=h.rsn,hd:=h.hd,mrk:=h.mrk,srt:=h.srt,lev:=h.lev
   cls:=fun k hk=>by
    show 2≤(aB s.cl j d k).length∧(aB s.cl j d k).Nodup∧∀x∈aB s.cl j d k,Lit n x
    by_cases e:k=j
    ·subst e
     rw[ab]
     exact⟨by rw[hp.len];exact q1,hp.nd q2,fun x hx=>q3 x ((hp.mem x).1 hx)⟩
    ·rw[aO _ _ e];exact h.cls k hk
   fresh:=fun k hk=>by
    have hk:s.nc≤k:=hk
    have:=h.fresh k hk
    exact⟨by show aB s.cl j d k=[];rw[aO _ _ (by omega)];exact this.1,this.2⟩
   nc:=h.nc,nw:=h.nw
   wt:=fun x hx e he=>by
    replace he:=(p8 x hx e).1 he
    show ∃k:Nat,k<s.nc∧e=(k:Int)∧(c0 (aB s.cl j d k)=x∨c1 (aB s.cl j d k)=x)
    by_cases e1:x=g
    ·rw[if_pos e1] at he
     subst e1
     obtain⟨k,hk,rfl,hw⟩:=h.wt x hx e he.1
     exact⟨k,hk,rfl,by rw[aO _ _ (by have:=he.2;omega)];exact hw⟩
    ·rw[if_neg e1] at he
     by_cases e2:x=y
     ·rw[if_pos e2] at he
      subst e2
      rcases he with he|rfl
      ·obtain⟨k,hk,rfl,hw⟩:=h.wt x hx e he
       have QT:k≠j:=by rintro rfl;exact Oy he
       exact⟨k,hk,rfl,by rw[aO _ _ QT];exact hw⟩
      ·exact⟨j,hj,rfl,by rw[ab];exact .inr h1⟩
     ·rw[if_neg e2] at he
      obtain⟨k,hk,rfl,hw⟩:=h.wt x hx e he
      refine⟨k,hk,rfl,?_⟩
      by_cases e3:k=j
      ·subst e3
       rw[ab,h0,h1]
       rcases hw with hw|hw
       ·exact .inl hw
       ·exact absurd (hw.symm.trans hg) e1
      ·rw[aO _ _ e3];exact hw
   wnd:=fun k=>by
    show(aB (aB s.wl (al y).toNat (s.wl (al y).toNat++ [(j:Int)])) (al g).toNat E' k).Nodup
    by_cases e1:k=(al g).toNat
    ·rw[e1,ab];exact dt
    ·rw[aO _ _ e1]
     by_cases e2:k=(al y).toNat
     ·rw[e2,ab,List.nodup_append]
      refine⟨h.wnd _,by simp,fun a ha b hb=>?_⟩
      rw[List.mem_singleton.1 hb]
      rintro rfl
      exact Oy ha
     ·rw[aO _ _ e2];exact h.wnd k
   wto:=fun k hk=>by
    show(k:Int)∈aB (aB s.wl (al y).toNat (s.wl (al y).toNat++ [(j:Int)])) (al g).toNat E' (al (c0 (aB s.cl j d k))).toNat∧(k:Int)∈aB (aB s.wl (al y).toNat (s.wl (al y).toNat++ [(j:Int)])) (al g).toNat E' (al (c1 (aB s.cl j d k))).toNat
    have hk:k<s.nc:=hk
    by_cases e3:k=j
    ·subst e3
     rw[ab,h0,h1,p8 _ h0l,p8 _ qA,if_neg hg0,if_neg Ar,if_neg (Ne.symm hy0),if_pos rfl]
     exact⟨(h.wto k hk).1,.inr rfl⟩
    ·rw[aO _ _ e3]
     obtain⟨p1,p2,p3⟩:=h.cls k hk
     obtain⟨n0,n1⟩:=dW p1
     have gen:∀x,Lit n x→(k:Int)∈s.wl (al x).toNat→(k:Int)∈aB (aB s.wl (al y).toNat (s.wl (al y).toNat++ [(j:Int)])) (al g).toNat E' (al x).toNat:=by
      intro x hx hm
      rw[p8 x hx]
      by_cases e1:x=g
      ·rw[if_pos e1];subst e1;exact⟨hm,by omega⟩
      ·rw[if_neg e1]
       by_cases e2:x=y
       ·rw[if_pos e2];subst e2;exact .inl hm
       ·rw[if_neg e2];exact hm
     exact⟨gen _ (p3 _ n0) (h.wto k hk).1,gen _ (p3 _ n1) (h.wto k hk).2⟩
   two:=fun k hk w w' hw cZ=>by
    have hw:(w=c0 (aB s.cl j d k)∧w'=c1 (aB s.cl j d k))∨(w=c1 (aB s.cl j d k)∧w'=c0 (aB s.cl j d k)):=hw
    have cZ: -w∈(s.ll 0).take s.head.toNat:=cZ
    by_cases e:k=j
    ·subst e
     rw[ab,h0,h1] at hw
     rcases hw with ⟨rfl,rfl⟩|⟨rfl,rfl⟩
     ·have:=(h.two k hj _ _ (.inl ⟨rfl,rfl⟩) cZ).1
      rw[hg] at this
      exact absurd QY (h.trl.iy this)
     ·exact absurd (List.mem_of_mem_take cZ) Ng
    ·rw[aO _ _ e] at hw;exact h.two k hk w w' hw cZ
   rea:=fun i hi=>by
    rcases h.rea i hi with q|⟨k,q1,q2,q3,q4⟩
    ·exact .inl q
    ·refine .inr ⟨k,q1,q2,?_,?_⟩
     ·show(s.ll 0)[i]∈aB s.cl j d k
      by_cases e:k=j
      ·subst e;rw[ab];exact(hp.mem _).2 q3
      ·rw[aO _ _ e];exact q3
     ·show ∀y∈aB s.cl j d k,y≠(s.ll 0)[i]→ -y∈(s.ll 0).take i
      by_cases e:k=j
      ·subst e;rw[ab];exact fun y hy=>q4 y ((hp.mem y).1 hy)
      ·rw[aO _ _ e];exact q4}
end Go.Ab
