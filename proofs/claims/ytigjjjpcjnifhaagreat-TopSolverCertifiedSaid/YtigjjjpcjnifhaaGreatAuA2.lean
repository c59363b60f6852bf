/- Chapter 23: the checker's answers; the laws' limits. -/
import Derived.Test.YtigjjjpcjnifhaaGreatAuU6
import Derived.Test.YtigjjjpcjnifhaaGreatAbZ
import Derived.Test.YtigjjjpcjnifhaaGreatAbL3
import Derived.Test.YtigjjjpcjnifhaaGreatAuC3
import Derived.Test.YtigjjjpcjnifhaaGreatAbL2
import Derived.Test.YtigjjjpcjnifhaaGreatRows
import Derived.Test.YtigjjjpcjnifhaaGreatAbL4
set_option linter.unusedSimpArgs false
set_option linter.unusedVariables false
namespace Go.Ab
open Go Go.Proofs
set_option maxRecDepth 20000
set_option maxHeartbeats 8000000
theorem tU (e:kj):∀(l:List bT) (s:iT),(dc e s l).2≤l.length
 |[],s=>by rw[qw];exact Nat.le_refl _
 |t::l,s=>by
  unfold dc
  cases cC e s t with
  |none=>exact Nat.zero_le _
  |some s'=>exact Nat.succ_le_succ (tU e l s')
structure Ei (v:Int) (cl:List (List Int)) (syms:List (List Int)) (l:List bT):Prop where
 hv:0≤v∧v≤20000
 dq:∀c∈cl,ay v c=true∧c.length≤1000
 len:cl.length≤1000
 Bi:syms.length≤1000∧∀c∈syms,c.length≤1000
 hl:wS l≤900000∧∀t∈l,t.lits.length≤900
 h20:l.length≤20000
theorem Ei.ok {v:Int} {cl:List (List Int)} {syms:List (List Int)} {l:List bT} (h:Ei v cl syms l):ic 1000 (cM v cl):=⟨h.hv,h.dq,h.len⟩
theorem Ei.f {v:Int} {cl:List (List Int)} {syms:List (List Int)} {l:List bT} (h:Ei v cl syms l):KE v cl:=h.ok.f (by omega)
def yM (n m:Nat):Int:=if n<m then 220 else 0
attribute [local irreducible] AW aa bE aX AR bd aW bm bD canon hU eI iX kb gE ay df cr dc cC
theorem Dh (v:Int) (cl:List (List Int)) (syms:List (List Int)) (l:List bT) (h:Ei v cl syms l):
  Fn Tryz.prog 10 [w6 v cl,.pv (cV syms),.pv (steps l)] (.tup [al ((dc ⟨v,cl,syms⟩ (cM v cl) l).2:Nat),al (yM (dc ⟨v,cl,syms⟩ (cM v cl) l).2 l.length)]):=by
 have hr:=D1 v cl syms l h.ok h.Bi h.hl
 have hle:=tU ⟨v,cl,syms⟩ l (cM v cl)
 have hl:=h.h20
 generalize dc ⟨v,cl,syms⟩ (cM v cl) l=R at hr hle ⊢
 by_cases aM:R.2<l.length
 ·rw[yM,if_pos aM]
  refine Fn.enter (n:=27) Tryz.func10 rfl rfl rfl rfl rfl (by decide) fun g aU aT=>?_;(try refine nz ?_)
  (refine LP ?_;refine zc ?_;refine nV ?_;refine lx ?_;refine AW.ret ?_;refine bZ ?_)
  (apply ax;(exact bA.two (.tmp rfl rfl) (.tmp rfl rfl));(refine Le.Ja ?_;refine fH.cons ?_ ?_;refine Le.al ?_;(rfl);refine fH.cons ?_ ?_;refine Le.al ?_;(rfl);exact fH.nil))
 ·rw[yM,if_neg aM]
  have he:R.2=l.length:=by omega
  rw[he] at hr ⊢
  refine Fn.enter (n:=27) Tryz.func10 rfl rfl rfl rfl rfl (by decide) fun g aU aT=>?_;(try refine nz ?_)
  (refine LP ?_;refine lP ?_;refine d_ ?_;refine oV ?_;refine lx ?_;refine AW.ret ?_)
  (apply ax;(exact bA.two (.tmp rfl rfl) (.tmp rfl rfl));(refine Le.Ja ?_;refine fH.cons ?_ ?_;refine Le.al ?_;(rfl);refine fH.cons ?_ ?_;refine Le.al ?_;(rfl);exact fH.nil))
theorem qa (v:Int) (cl:List (List Int)) (syms:List (List Int)) (l:List bT) (h:Ei v cl syms l):
  Fn Tryz.prog 15 [w6 v cl,.pv (cV syms),.pv (steps l)] (aF (decide ((dc ⟨v,cl,syms⟩ (cM v cl) l).2=l.length) && (dc ⟨v,cl,syms⟩ (cM v cl) l).1.ref)):=by
 have hr:=D1 v cl syms l h.ok h.Bi h.hl
 have hle:=tU ⟨v,cl,syms⟩ l (cM v cl)
 have hl:=h.h20
 generalize dc ⟨v,cl,syms⟩ (cM v cl) l=R at hr hle ⊢
 obtain⟨⟨sv,scl,rf⟩,n⟩:=R
 simp only at hr hle ⊢
 by_cases he:n=l.length
 ·have he':(n:Int)=l.length:=by omega
  rw[decide_eq_true he,Bool.true_and]
  refine Fn.enter (n:=29) Tryz.func15 rfl rfl rfl rfl rfl (by decide) fun g aU aT=>?_;(try refine nz ?_)
  (refine tR ?_;refine oV ?_;refine wz ?_;refine lP ?_;refine JA ?_;refine zn ?_;refine aa.eql rfl rfl rfl rfl rfl ?_;refine zm ?_;refine zt ?_;refine aa.n7 rfl rfl rfl ?_;refine zt ?_;refine aa.lN rfl rfl rfl ?_;refine zt ?_;refine aa.gN 73 4 5 1 rfl rfl rfl rfl ?_;refine nz ?_;refine zt ?_;refine zr ?_;refine zT ?_;refine fL ?_)
  (apply ax;(exact bA.one (.tmp rfl rfl));(refine Le.aF ?_;(rfl)))
 ·have he':¬(n:Int)=l.length:=by omega
  rw[decide_eq_false he,Bool.false_and]
  refine Fn.enter (n:=29) Tryz.func15 rfl rfl rfl rfl rfl (by decide) fun g aU aT=>?_;(try refine nz ?_)
  (refine tR ?_;refine oV ?_;refine wz ?_;refine lP ?_;refine JA ?_;refine zn ?_;refine aa.eql rfl rfl rfl rfl rfl ?_;refine zm ?_;(iterate 4 refine aa.gG rfl rfl rfl rfl rfl rfl (by with_reducible assumption) ?_);refine zF ?_;refine fL ?_)
  (apply ax;(exact bA.one (.tmp rfl rfl));(refine Le.aF ?_;(rfl)))
end Go.Ab
/- Chapter 20:what a reason says;the levels' plain part. -/
namespace Go.Ab
open Go Go.Proofs
set_option maxRecDepth 20000
set_option maxHeartbeats 4000000
theorem jP (tr:List Int):∀(c out r:List Int),bp tr c out=some r→(∀y∈out,y∈r)∧∀y∈c,y∉tr∧((-y)∈tr∨y∈r):=by
 intro c
 induction c with
 |nil=>intro out r h;simp only[bp,Option.some.injEq] at h;subst h;exact⟨fun y hy=>hy,by simp⟩
 |cons x c ih=>
  intro out r h
  unfold bp at h
  split at h
  ·cases h
  ·rename_i hx
   obtain⟨h1,h2⟩:=ih _ _ h
   refine⟨fun y hy=>?_,fun y hy=>?_⟩
   ·refine h1 y ?_
    split
    ·simp [hy]
    ·exact hy
   ·rcases List.mem_cons.1 hy with rfl|hy
    ·refine⟨hx,?_⟩
     by_cases hn:(-y)∈tr
     ·exact .inl hn
     ·refine .inr (h1 y ?_)
      by_cases ho:y∈out
      ·rw[if_neg (by simp [ho])];exact ho
      ·rw[if_pos ⟨hn,ho⟩];simp
    ·exact h2 y hy
theorem ud {c tr:List Int} (h0:∀x∈c,x≠0) {x:Int} (h:(cz c tr).1=2) (hx:(cz c tr).2=x):bp tr c []=some [x]:=by
 rw[gP c tr h0] at h hx
 cases ho:bp tr c [] with
 |none=>rw[ho] at h;simp [lj] at h
 |some r=>
  rw[ho] at h hx
  match r,h,hx with
  |[],h,_=>simp [lj] at h
  |[y],_,hx=>simp [lj] at hx;rw[hx]
  |_::_::_,h,_=>simp [lj] at h
def JU (cl:List (List Int)) (t:Tr):Prop:=∀k,k<t.1.length→0≤t.2.1.getD k 0→
 t.1.getD k 0∈cl.getD (t.2.1.getD k 0).toNat []∧∀y∈cl.getD (t.2.1.getD k 0).toNat [],y≠t.1.getD k 0→(-y)∈t.1.take k
theorem qD {α:Type} {l m:List α} {k:Nat} {d:α} (h:k<l.length):(l++m).getD k d=l.getD k d:=by
 simp [List.getD_eq_getElem?_getD,List.getElem?_append_left h]
theorem vf {α:Type} {l:List α} {x d:α}:(l++ [x]).getD l.length d=x:=by
 simp [List.getD_eq_getElem?_getD]
theorem vM {α:Type} {l m:List α} {k:Nat} (h:k≤l.length):(l++m).take k=l.take k:=by
 rw[List.take_append_of_le_length h]
theorem JU.push {cl:List (List Int)} {t:Tr} (h:JU cl t) (he:lg t) {x r:Int}
  (hn:0≤r→x∈cl.getD r.toNat []∧∀y∈cl.getD r.toNat [],y≠x→(-y)∈t.1):JU cl (t.1++ [x],t.2.1++ [r],t.2.2):=by
 intro k hk hr
 have he':t.2.1.length=t.1.length:=he
 simp only[List.length_append,List.length_singleton] at hk
 simp only at hr ⊢
 by_cases hk2:k<t.1.length
 ·rw[qD (by omega)] at hr
  rw[qD hk2,qD (by omega),vM (by omega)]
  exact h k hk2 hr
 ·have hk3:k=t.1.length:=by omega
  subst hk3
  have e1:(t.2.1++ [r]).getD t.1.length 0=r:=by rw[← he'];exact vf
  rw[e1] at hr ⊢
  rw[vf,vM (Nat.le_refl _),List.take_length]
  exact hn hr
theorem JU.add {cl:List (List Int)} {t:Tr} (h:JU cl t) (he:lg t) (x:Int):JU cl (gI t x):=by
 unfold gI
 split
 ·exact h
 ·exact h.push he (fun h=>by omega)
end Go.Ab
/- Chapter 20:how the run ends,in plain terms. -/
namespace Go.Ab
open Go Go.Proofs
set_option maxRecDepth 20000
set_option maxHeartbeats 4000000
theorem nA (tr:List Int):∀(c:List Int) (left:Int),(cN tr c left).1=0∨(cN tr c left).1=1∨(cN tr c left).1=2:=by
 intro c
 induction c with
 |nil=>intro left;unfold cN;split<;>simp
 |cons x c ih=>intro left;unfold cN;split;exact .inl rfl;exact ih _
theorem rq (c tr:List Int):(cz c tr).1=0∨(cz c tr).1=1∨(cz c tr).1=2:=nA tr c 0
theorem l4 (t:Tr):∀(cl:List (List Int)) (i:Nat),
  (∃j,∃h:j<cl.length,(cz cl[j] t.1).1=1∧eY t i cl=((t.1,t.2.1,((i+j:Nat):Int)),false))∨
  (∃j,∃h:j<cl.length,(cz cl[j] t.1).1=2∧eY t i cl=((t.1++ [(cz cl[j] t.1).2],t.2.1++ [((i+j:Nat):Int)],t.2.2),true))∨
  ((∀c∈cl,(cz c t.1).1=0)∧eY t i cl=(t,false)):=by
 intro cl
 induction cl with
 |nil=>intro i;exact .inr (.inr ⟨by simp,rfl⟩)
 |cons c cl ih=>
  intro i
  unfold eY
  rcases rq c t.1 with h|h|h
  ·rw[if_neg (by omega),if_neg (by omega)]
   rcases ih (i+1) with ⟨j,hj,h1,h2⟩|⟨j,hj,h1,h2⟩|⟨h1,h2⟩
   ·refine .inl ⟨j+1,by simp;omega,by simpa using h1,?_⟩
    rw[show((i:Int)+1)=((i+1:Nat):Int) from by simp,h2,show i+1+j=i+(j+1) from by omega]
   ·refine .inr (.inl ⟨j+1,by simp;omega,by simpa using h1,?_⟩)
    rw[show((i:Int)+1)=((i+1:Nat):Int) from by simp,h2,show i+1+j=i+(j+1) from by omega]
    simp
   ·refine .inr (.inr ⟨?_,?_⟩)
    ·intro d hd
     rcases List.mem_cons.1 hd with rfl|hd
     ·exact h
     ·exact h1 d hd
    ·rw[show((i:Int)+1)=((i+1:Nat):Int) from by simp,h2]
  ·rw[if_pos h]
   exact .inl ⟨0,by simp,by simpa using h,by simp⟩
  ·rw[if_neg (by omega),if_pos h]
   exact .inr (.inl ⟨0,by simp,by simpa using h,by simp⟩)
theorem yC {vars:Int} {cl:List (List Int)} {assume:List Int} (hv:0≤vars) (dq:∀c∈cl,ay vars c=true) (hw:ay vars assume=true) (hc:bP assume=false)
  (I:Tr→Prop) (h0:I (cO assume))
  (hs:∀(t:Tr) (j:Nat) (h:j<cl.length) (x:Int),I t→ku vars t.1→lg t→bp t.1 cl[j] []=some [x]→x∈cl[j]→x∉t.1→(-x)∉t.1→I (t.1++ [x],t.2.1++ [(j:Int)],-1)):
  ∃t,I t∧ku vars t.1∧lg t∧t.2.2= -1∧fu cl t=(runM vars cl assume,false):=by
 have key:∀(m n:Nat) (t:Tr),(vars+1 - (n:Int)).toNat≤m→rT vars cl assume t n→I t→∃t,I t∧ku vars t.1∧lg t∧t.2.2= -1∧fu cl t=(runM vars cl assume,false):=by
  intro m
  induction m with
  |zero=>intro n t h1 h2 _;have:=h2.fuel hv;omega
  |succ m ih=>
   intro n t h1 h2 h3
   rcases l4 t cl 0 with ⟨j,hj,h4,h5⟩|⟨j,hj,h4,h5⟩|⟨h4,h5⟩
   ·exact⟨t,h3,h2.dist,h2.even,h2.xQ,by rw[h2.stop hv h5];exact h5⟩
   ·have Hu:=aY (dq _ (List.getElem_mem hj))
    have qA:=ud (fun x hx=>(Hu x hx).1) h4 rfl
    have hm:=jK t.1 cl[j] [] _ qA (by simp) (cz cl[j] t.1).2 (by simp)
    have cZ:(cz cl[j] t.1).2∈cl[j]:=by simpa using hm.1
    have h6:=h2.go hv h5 (Hu _ cZ) hm.2.1 hm.2.2
    refine ih (n+1) _ ?_ h6 ?_
    ·have:=h2.fuel hv;omega
    ·simpa using hs t j hj _ h3 h2.dist h2.even qA cZ hm.2.1 hm.2.2
   ·exact⟨t,h3,h2.dist,h2.even,h2.xQ,by rw[h2.stop hv h5];exact h5⟩
 exact key _ 0 _ (Nat.le_refl _) (qk hv hw hc) h0
def MA (assume:List Int) (t:Tr):Prop:=(∀x∈assume,x∈t.1)∧∀p∈pr t,p.2<0→p.1∈assume
theorem HN {t:Tr} (h:lg t) (x r:Int) (k:Int):pr (t.1++ [x],t.2.1++ [r],k)=pr t++ [(x,r)]:=by
 unfold pr
 show(t.1++ [x]).zip (t.2.1++ [r])=_
 rw[List.zip_append h.symm]
 rfl
theorem BV (assume:List Int):MA assume (cO assume):=by
 refine⟨fun x hx=>(jN assume x).2 hx,fun p hp _=>?_⟩
 obtain⟨a,b⟩:=p
 exact(jN assume a).1 (List.of_mem_zip hp).1
theorem HG {t:Tr} (h:lg t) {x:Int} (hx:x∈t.1):∃r,(x,r)∈pr t:=by
 obtain⟨k,hk,rfl⟩:=List.getElem_of_mem hx
 have hk2:k<t.2.1.length:=by rw[h];exact hk
 refine⟨t.2.1[k],?_⟩
 have:(pr t)[k]'(by simp [pr];omega)=(t.1[k],t.2.1[k]):=by simp [pr]
 rw[← this]
 exact List.getElem_mem _
theorem Hy {assume:List Int} {t:Tr} (h:MA assume t) (he:lg t) (x:Int):x∈t.1↔x∈assume++(impl (pr t)).map (·.1):=by
 rw[List.mem_append,List.mem_map]
 constructor
 ·intro hx
  obtain⟨r,hr⟩:=HG he hx
  by_cases h0:r<0
  ·exact .inl (h.2 _ hr h0)
  ·exact .inr ⟨(x,r),by unfold impl;rw[List.mem_filter];exact⟨hr,by simp;omega⟩,rfl⟩
 ·rintro(hx|⟨⟨a,b⟩,hp,rfl⟩)
  ·exact h.1 x hx
  ·unfold impl at hp
   rw[List.mem_filter] at hp
   exact(List.of_mem_zip hp.1).1
structure Fin (vars:Int) (cl:List (List Int)) (assume:List Int) (t:Tr):Prop where
 dist:ku vars t.1
 even:lg t
 mem:∀x,x∈t.1↔x∈assume++(impl (pr t)).map (·.1)
 fin:(t.2.2= -1∧∀c∈cl,(cz c t.1).1=0)∨∃j,∃h:j<cl.length,t.2.2=(j:Int)∧(cz cl[j] t.1).1=1
theorem tE {vars:Int} {cl:List (List Int)} {assume:List Int} (hv:0≤vars) (dq:∀c∈cl,ay vars c=true) (hw:ay vars assume=true) (hc:bP assume=false):Fin vars cl assume (runM vars cl assume):=by
 obtain⟨t,h1,h2,h3,h4,h5⟩:=yC hv dq hw hc (MA assume) (BV assume) (by
  intro t j hj x h1 h2 h3 _ _ _ _
  refine⟨fun y hy=>List.mem_append.2 (.inl (h1.1 y hy)),fun p hp h0=>?_⟩
  rw[HN h3] at hp
  rcases List.mem_append.1 hp with hp|hp
  ·exact h1.2 p hp h0
  ·simp at hp;subst hp;simp at h0;omega)
 have hm:=Hy h1 h3
 rcases l4 t cl 0 with ⟨j,hj,h6,h7⟩|⟨j,hj,h6,h7⟩|⟨h6,h7⟩
 ·have e:runM vars cl assume=(t.1,t.2.1,(j:Int)):=by
   have h8:fu cl t=((t.1,t.2.1,((0+j:Nat):Int)),false):=h7
   rw[h5] at h8
   simpa using h8
  rw[e]
  exact⟨h2,h3,hm,.inr ⟨j,hj,rfl,h6⟩⟩
 ·have h8:fu cl t=(_,true):=h7
  rw[h5] at h8
  simp at h8
 ·have e:runM vars cl assume=t:=by
   have h8:fu cl t=(t,false):=h7
   rw[h5] at h8
   simpa using h8
  rw[e]
  exact⟨h2,h3,hm,.inl ⟨h4,h6⟩⟩
theorem zh {l:List Int} (h:(l.map Int.natAbs).Nodup) {x y:Int} (hx:x∈l) (hy:y∈l) (e:x.natAbs=y.natAbs):x=y:=by
 induction l with
 |nil=>cases hx
 |cons z l ih=>
  rw[List.map_cons,List.nodup_cons] at h
  rcases List.mem_cons.1 hx with rfl|hx'<;>rcases List.mem_cons.1 hy with rfl|hy'
  ·rfl
  ·exact absurd (e▸List.mem_map.2 ⟨y,hy',rfl⟩) h.1
  ·exact absurd (e▸List.mem_map.2 ⟨x,hx',rfl⟩) h.1
  ·exact ih h.2 hx' hy'
theorem ku.no {vars:Int} {l:List Int} (h:ku vars l) {x:Int} (hx:x∈l):(0 - x)∉l:=by
 intro hy
 have:=zh h.1 hx hy (by omega)
 have:=(h.2 x hx).1
 omega
end Go.Ab
/- Chapter 20:propagation grows with the formula and the assumptions,in plain terms. -/
namespace Go.Ab
open Go Go.Proofs
set_option maxRecDepth 20000
set_option maxHeartbeats 4000000
theorem rA (tr:List Int):∀(c out:List Int),bp tr c out=none→∃y∈c,y∈tr:=by
 intro c
 induction c with
 |nil=>intro out h;simp [bp] at h
 |cons x c ih=>
  intro out h
  unfold bp at h
  split at h
  ·rename_i hx;exact⟨x,by simp,hx⟩
  ·split at h
   ·obtain⟨y,h1,h2⟩:=ih _ h;exact⟨y,by simp [h1],h2⟩
   ·obtain⟨y,h1,h2⟩:=ih _ h;exact⟨y,by simp [h1],h2⟩
theorem qv (tr:List Int):∀(c out r:List Int),bp tr c out=some r→out.Nodup→r.Nodup:=by
 intro c
 induction c with
 |nil=>intro out r h ho;simp only[bp,Option.some.injEq] at h;exact h▸ho
 |cons x c ih=>
  intro out r h ho
  unfold bp at h
  split at h
  ·cases h
  ·split at h
   ·rename_i h2
    refine ih _ _ h ?_
    rw[List.nodup_append]
    exact⟨ho,by simp,fun a ha b hb=>by simp at hb;subst hb;rintro rfl;exact h2.2 ha⟩
   ·exact ih _ _ h ho
theorem oA {vars:Int} {d T:List Int} (hT:ku vars T) (h0:∀x∈d,x≠0) (h:(cz d T).1=0) {x:Int} (hx:∀y∈d,y≠x→(-y)∈T):x∈T:=by
 rw[gP d T h0] at h
 cases ho:bp T d [] with
 |none=>
  obtain⟨y,h1,h2⟩:=rA T d [] ho
  by_cases e:y=x
  ·exact e▸h2
  ·have:=hx y h1 e
   exact absurd (by simpa using this) (hT.no h2)
 |some r=>
  have hm:=jK T d [] r ho (by simp)
  have hn:=qv T d [] r ho (by simp)
  have hr:∀y∈r,y=x:=by
   intro y hy
   have:=hm y hy
   by_cases e:y=x
   ·exact e
   ·exact absurd (hx y (by simpa using this.1) e) this.2.2
  rw[ho] at h
  rcases r with _|⟨a,_|⟨b,r⟩⟩
  ·simp [lj] at h
  ·simp [lj] at h
  ·have e1:=hr a (by simp)
   have e2:=hr b (by simp)
   rw[List.nodup_cons] at hn
   exact absurd (by rw[e1,e2];simp) hn.1
theorem uV {vars:Int} {cl:List (List Int)} {assume:List Int} (hv:0≤vars) (dq:∀c∈cl,ay vars c=true) (hw:ay vars assume=true) (hc:bP assume=false)
  (I:List Int→Prop) (h0:I (cO assume).1)
  (hs:∀(t:List Int) (c:List Int) (x:Int),c∈cl→I t→ku vars t→bp t c []=some [x]→x∈c→x∉t→(-x)∉t→I (t++ [x])):I (runM vars cl assume).1:=by
 obtain⟨t,h1,h2,h3,h4,h5⟩:=yC hv dq hw hc (fun t=>I t.1) h0 (by
  intro t j hj x h1 h2 h3 h4 h5 h6 h7
  exact hs t.1 _ x (List.getElem_mem hj) h1 h2 h4 h5 h6 h7)
 rcases l4 t cl 0 with ⟨j,hj,h6,h7⟩|⟨j,hj,h6,h7⟩|⟨h6,h7⟩
 ·have h8:fu cl t=((t.1,t.2.1,((0+j:Nat):Int)),false):=h7
  rw[h5] at h8
  rw[(Prod.mk.inj h8).1]
  exact h1
 ·have h8:fu cl t=(_,true):=h7
  rw[h5] at h8
  simp at h8
 ·have h8:fu cl t=(t,false):=h7
  rw[h5] at h8
  rw[(Prod.mk.inj h8).1]
  exact h1
theorem pB {c tr:List Int} (h0:∀x∈c,x≠0) (h:(cz c tr).1=1):∀y∈c,(-y)∈tr:=by
 rw[gP c tr h0] at h
 cases ho:bp tr c [] with
 |none=>rw[ho] at h;simp [lj] at h
 |some r=>
  rw[ho] at h
  rcases r with _|⟨a,_|⟨b,r⟩⟩
  ·intro y hy
   have:=(jP tr c [] [] ho).2 y hy
   simpa using this.2
  ·simp [lj] at h
  ·simp [lj] at h
end Go.Ab
/- Chapter 20:assignments and what they satisfy. -/
namespace Go.Ab
open Go Go.Proofs
set_option maxRecDepth 20000
set_option maxHeartbeats 4000000
attribute [local irreducible] AW aa bE aX bd aW bm
def dg (v:List Bool) (x:Int):Bool:=if 0<x then v.getD (x - 1).toNat false else if x<0 then !(v.getD (0 - x - 1).toNat false) else false
def cQ (v:List Bool) (c:List Int):Bool:=c.any (dg v)
theorem q8 {v:List Bool} {x:Int} (h:0<x) (h2:(x - 1).toNat<v.length):dg v x=v[(x - 1).toNat]:=by
 unfold dg;rw[if_pos h,List.getD_eq_getElem?_getD,List.getElem?_eq_getElem h2];rfl
theorem uw {v:List Bool} {x:Int} (h:x<0) (h2:(0 - x - 1).toNat<v.length):dg v x=!(v[(0 - x - 1).toNat]):=by
 unfold dg;rw[if_neg (by omega),if_pos h,List.getD_eq_getElem?_getD,List.getElem?_eq_getElem h2];rfl
theorem sz {v:List Bool} {c:List Int} {k:Nat} (hk:k<c.length) (h:dg v c[k]=true):cQ v c=true:=by
 unfold cQ;rw[List.any_eq_true];exact⟨c[k],List.getElem_mem hk,h⟩
theorem qd {v:List Bool} {c:List Int} {k:Nat} (hk:k<c.length) (h:cQ v (c.take k)=false) (h2:dg v c[k]=false):cQ v (c.take (k+1))=false:=by
 rw[aR hk];unfold cQ at*;rw[List.any_append,h];simp [h2]
def allM (v:List Bool) (cl:List (List Int)):Bool:=cl.all (cQ v)
theorem EJ {v:List Bool} {cl:List (List Int)} {k:Nat} (hk:k<cl.length) (h:cQ v cl[k]=false):allM v cl=false:=by
 unfold allM;rw[List.all_eq_false];exact⟨cl[k],List.getElem_mem hk,by simp [h]⟩
def eR (v:List Bool) (l:List Int):Bool:=l.all (dg v)
theorem BC {v:List Bool} {l:List Int} {k:Nat} (hk:k<l.length) (h:dg v l[k]=false):eR v l=false:=by
 unfold eR;rw[List.all_eq_false];exact⟨l[k],List.getElem_mem hk,by simp [h]⟩
theorem Ir {l:List Int} {k:Nat} (hk:k<l.length):(l.drop k).take 1=[l[k]]:=by
 rw[List.drop_eq_getElem_cons hk];rfl
end Go.Ab
/- Chapter 20:propagation is sound,in plain terms. -/
namespace Go.Ab
open Go Go.Proofs
set_option maxRecDepth 20000
set_option maxHeartbeats 4000000
theorem hO (v:List Bool) {x:Int} (h:x≠0):dg v (-x)=!(dg v x):=by
 unfold dg
 by_cases h0:0<x
 ·rw[if_neg (by omega),if_pos (by omega),if_pos h0,show 0 - -x - 1=x - 1 from by omega]
 ·rw[if_pos (by omega),if_neg h0,if_pos (by omega),show -x - 1=0 - x - 1 from by omega,Bool.not_not]
theorem tH {v:List Bool} {cl:List (List Int)} (h:allM v cl=true) {c:List Int} (hc:c∈cl):∃y∈c,dg v y=true:=by
 unfold allM at h
 have:=List.all_eq_true.1 h c hc
 unfold cQ at this
 exact List.any_eq_true.1 this
theorem sE {vars:Int} {cl:List (List Int)} {assume:List Int} {v:List Bool} (hv:0≤vars) (dq:∀c∈cl,ay vars c=true) (hw:ay vars assume=true) (hc:bP assume=false)
  (h:allM v cl=true) (he:eR v assume=true):(runM vars cl assume).2.2= -1∧∀x∈(runM vars cl assume).1,dg v x=true:=by
 have hz:∀c∈cl,∀x∈c,x≠0:=fun c hc x hx=>(aY (dq c hc) x hx).1
 have h1:∀x∈(runM vars cl assume).1,dg v x=true:=by
  refine uV hv dq hw hc (fun t=>∀x∈t,dg v x=true) (fun x hx=>?_) ?_
  ·exact List.all_eq_true.1 he x ((jN assume x).1 hx)
  ·intro t c x hc0 hI _ qA Nz _ _
   intro y hy
   rcases List.mem_append.1 hy with hy|hy
   ·exact hI y hy
   ·simp at hy
    subst hy
    obtain⟨z,hz1,hz2⟩:=tH h hc0
    rcases((jP t c [] [y] qA).2 z hz1).2 with h3|h3
    ·have:=hI _ h3
     rw[hO v (hz c hc0 z hz1),hz2] at this
     simp at this
    ·simp at h3;exact h3▸hz2
 refine⟨?_,h1⟩
 have ql:=tE hv dq hw hc
 rcases ql.fin with ⟨h2,_⟩|⟨j,hj,_,h2⟩
 ·exact h2
 ·obtain⟨z,hz1,hz2⟩:=tH h (List.getElem_mem hj)
  have h3:=h1 _ (pB (hz _ (List.getElem_mem hj)) h2 z hz1)
  rw[hO v (hz _ (List.getElem_mem hj) z hz1),hz2] at h3
  simp at h3
theorem oz {v:List Bool} {l:List Int} (h0:∀x∈l,x≠0) (h:bP l=true):eR v l=false:=by
 unfold bP at h
 rw[List.any_eq_true] at h
 obtain⟨x,hx,hx2⟩:=h
 have hx3:(0 - x)∈l:=by simpa using hx2
 cases he:eR v l with
 |false=>rfl
 |true=>
  have h1:=List.all_eq_true.1 he x hx
  have h2:=List.all_eq_true.1 he _ hx3
  rw[Int.zero_sub,hO v (h0 x hx),h1] at h2
  simp at h2
theorem AS {vars:Int} {cl:List (List Int)} {assume c:List Int} {v:List Bool} (hv:0≤vars) (dq:∀c∈cl,ay vars c=true) (hw:ay vars assume=true) (Qo:ay vars c=true) (h:allM v cl=true):
  (cr vars cl c=true→cQ v c=true)∧(eR v assume=true→(qh vars cl assume).2= -1∧eR v (qh vars cl assume).1=true):=by
 constructor
 ·intro hi
  cases ht:cQ v c with
  |true=>rfl
  |false=>
   have hc0:∀x∈c,x≠0:=fun x hx=>(aY Qo x hx).1
   have I8:ay vars (c.map fun x=>0 - x)=true:=by
    unfold ay
    rw[List.all_eq_true]
    intro y hy
    obtain⟨x,hx,rfl⟩:=List.mem_map.1 hy
    have:=aY Qo x hx
    simp;omega
   have he:eR v (c.map fun x=>0 - x)=true:=by
    unfold eR
    rw[List.all_eq_true]
    intro y hy
    obtain⟨x,hx,rfl⟩:=List.mem_map.1 hy
    unfold cQ at ht
    have:=List.any_eq_false.1 ht x hx
    rw[Int.zero_sub,hO v (hc0 x hx)]
    simpa using this
   cases lW:bP (c.map fun x=>0 - x) with
   |true=>
    have:=oz (v:=v) (fun y hy=>(aY I8 y hy).1) lW
    rw[he] at this;cases this
   |false=>
    have:=(sE hv dq I8 lW h he).1
    rw[cr,if_neg (by rw[lW];simp),this] at hi
    simp at hi
 ·intro he
  cases lW:bP assume with
  |true=>
   have:=oz (v:=v) (fun y hy=>(aY hw y hy).1) lW
   rw[he] at this;cases this
  |false=>
   have h1:=sE hv dq hw lW h he
   have ql:=tE hv dq hw lW
   rw[qh,if_neg (by rw[lW];simp)]
   refine⟨h1.1,?_⟩
   unfold eR
   rw[List.all_eq_true]
   exact fun x hx=>h1.2 x ((ql.mem x).2 (List.mem_append.2 (.inr hx)))
end Go.Ab
/- The laws through the layers:small formulas. -/
namespace Go.Ab
open Go Go.Proofs
open Nat (reduceAdd reduceSub)
set_option maxRecDepth 20000
set_option maxHeartbeats 8000000
attribute [local irreducible] AW aa bE aX AR bd aW bm bD canon hU eI iX kb gE df cr dc cC
theorem oC (vars:Int) (l:List Int) (hv: -1000000≤vars∧vars≤1000000):Fn Tryz.prog 7 [al vars,.pv (ints l)] (aF (ay vars l)):=by
 refine Fn.enter (n:=34) Tryz.func7 rfl rfl rfl rfl rfl (by decide) fun g aU aT=>?_;(try refine nz ?_)
 refine AW.cF 1 rfl fun hlen=>?_
 (refine j9 ?_;refine kn ?_)
 (refine nz ?_;apply AW.bM [0,1] [] (fun k:Nat=>([(5,al k)]:List (Nat×AV))) (fun k:Nat=>([]:List (Nat×Option Ob))) (fun k:Nat=>k≤l.length∧ay vars (l.take k)=true) (fun k:Nat=>l.length - k) (0);(conv=>lhs;simp only[Nf.gQ,Nf.all,Nat.reduceBEq,reduceAdd,reduceSub]);(all_goals skip))
 ·exact⟨Nat.zero_le _,rfl⟩
 ·exact GY
 rintro k ⟨hk,ew⟩
 by_cases aM:k<l.length
 ·have hs:=oI (vars:=vars) aM
  rw[ew,Bool.true_and] at hs
  by_cases hb:l[k]≠0∧l[k]≤vars∧0 - vars≤l[k]
  ·obtain⟨b1,b2,b3⟩:=hb
   rw[decide_eq_true ⟨b1,b2,b3⟩] at hs
   have b4:¬l[k]<0 - vars:=by omega
   have b5:¬vars<l[k]:=by omega
   (refine rQ ?_;(focus ((with_reducible apply aa.aj);(iterate 7 exact rfl);rotate_left;omega));refine zr ?_;refine aa.eql rfl rfl rfl rfl rfl ?_;refine rP ?_;refine iP ?_;(focus ((with_reducible apply aa.aj);(iterate 7 exact rfl);rotate_left;omega));refine zy ?_;refine zr ?_;refine zy ?_;refine zm ?_;refine Bq ?_;refine rP ?_;refine iP ?_;(focus ((with_reducible apply aa.aj);(iterate 7 exact rfl);rotate_left;omega));refine zy ?_;refine zr ?_;refine zy ?_;refine iP ?_;refine aa.sub rfl rfl rfl rfl rfl (by omega) ?_;refine zy ?_;refine zs ?_;refine zF ?_;refine zd ?_;refine rL ?_;refine lz ?_)
   exact⟨k+1,⟨by omega,hs⟩,by omega,aO rfl (by(refine⟨.eq rfl rfl,?_⟩;(iterate 2 refine⟨.eq rfl rfl,?_⟩);exact trivial)) (by(exact trivial)) rfl⟩
  ·have hf:=qF aM hb
   rw[hf]
   by_cases b1:l[k]=0
   ·(refine rQ ?_;(focus ((with_reducible apply aa.aj);(iterate 7 exact rfl);rotate_left;omega));refine zr ?_;refine aa.eql rfl rfl rfl rfl rfl ?_;refine zm ?_;(iterate 6 refine aa.db rfl rfl rfl rfl rfl rfl (by with_reducible assumption) ?_);refine zT ?_;refine zm ?_;(iterate 7 refine aa.bY rfl rfl rfl rfl rfl rfl rfl ?_);refine aa.bL rfl rfl rfl rfl rfl rfl ?_;refine e6 ?_;refine kf ?_)
    all_goals (apply ax;(exact bA.one (.tmp rfl rfl));(refine Le.aF ?_;(first|rfl)))
   ·by_cases b2:vars<l[k]
    ·(refine rQ ?_;(focus ((with_reducible apply aa.aj);(iterate 7 exact rfl);rotate_left;omega));refine zr ?_;refine aa.eql rfl rfl rfl rfl rfl ?_;refine rP ?_;refine iP ?_;(focus ((with_reducible apply aa.aj);(iterate 7 exact rfl);rotate_left;omega));refine zy ?_;refine zr ?_;refine zy ?_;refine zm ?_;refine Bq ?_;refine zm ?_;(iterate 7 refine aa.db rfl rfl rfl rfl rfl rfl (by with_reducible assumption) ?_);refine zT ?_;refine e6 ?_;refine kf ?_)
     all_goals (apply ax;(exact bA.one (.tmp rfl rfl));(refine Le.aF ?_;(first|rfl)))
    ·have b3:l[k]<0 - vars:=by omega
     (refine rQ ?_;(focus ((with_reducible apply aa.aj);(iterate 7 exact rfl);rotate_left;omega));refine zr ?_;refine aa.eql rfl rfl rfl rfl rfl ?_;refine rP ?_;refine iP ?_;(focus ((with_reducible apply aa.aj);(iterate 7 exact rfl);rotate_left;omega));refine zy ?_;refine zr ?_;refine zy ?_;refine zm ?_;refine Bq ?_;refine rP ?_;refine iP ?_;(focus ((with_reducible apply aa.aj);(iterate 7 exact rfl);rotate_left;omega));refine zy ?_;refine zr ?_;refine zy ?_;refine iP ?_;refine aa.sub rfl rfl rfl rfl rfl (by omega) ?_;refine zy ?_;refine zs ?_;refine zF ?_;refine zd ?_;refine zc ?_;refine d_ ?_;refine kf ?_)
     all_goals (apply ax;(exact bA.one (.tmp rfl rfl));(refine Le.aF ?_;(first|rfl)))
 ·rw[bK (l:=l) (by omega)] at ew
  rw[ew]
  (refine uN ?_)
  (apply ax;(exact bA.one (.tmp rfl rfl));(refine Le.aF ?_;(rfl)))
theorem xp (vars:Int) (cl:List (List Int)):Fn Tryz.prog 22 [w6 vars cl] (aF (jv vars cl)):=by
 by_cases h0:0≤vars∧vars≤20000∧(cl.length:Int)≤60000
 ·obtain⟨h1,h2,h3⟩:=h0
  have g1:¬vars<0:=by omega
  have g2:¬20000<vars:=by omega
  have g3:¬60000<(cl.length:Int):=by omega
  have e:jv vars cl=cl.all (ay vars):=by unfold jv;rw[decide_eq_true ⟨h1,h2,h3⟩,Bool.true_and]
  rw[e]
  refine Fn.enter (n:=36) Tryz.func22 rfl rfl rfl rfl rfl (by decide) fun g aU aT=>?_;(try refine nz ?_)
  (refine HL ?_;refine F6 ?_;refine lP ?_;refine jJ ?_;refine kn ?_)
  (refine nz ?_;apply AW.bM [1] [0] (fun k:Nat=>([(3,al k)]:List (Nat×AV))) (fun k:Nat=>([]:List (Nat×Option Ob))) (fun k:Nat=>k≤cl.length∧(cl.take k).all (ay vars)=true) (fun k:Nat=>cl.length - k) (0);(conv=>lhs;simp only[Nf.gQ,Nf.all,Nat.reduceBEq,reduceAdd,reduceSub]);(all_goals skip))
  ·exact⟨Nat.zero_le _,rfl⟩
  ·exact LS
  rintro k ⟨hk,oU⟩
  by_cases aM:k<cl.length
  ·have has:=pN (p:=ay vars) aM
   rw[oU,Bool.true_and] at has
   have hw:=oC vars cl[k] (by omega)
   cases hc:ay vars cl[k] with
   |true=>
    rw[hc] at has hw
    (refine z7 ?_;refine Q5 ?_;refine zo ?_;(with_reducible apply AW.bu);exact rfl;exact rfl;kernel_rfl;(with_reducible assumption);refine oJ ?_;refine rh ?_;refine zm ?_;(focus ((with_reducible apply aa.aj);(iterate 7 exact rfl);rotate_left;omega));refine zr ?_;refine zA (hw) ?_;refine oq ?_;refine tv ?_;refine kg ?_;refine lz ?_)
    exact⟨k+1,⟨by omega,has⟩,by omega,aO rfl (by(refine⟨.eq rfl rfl,?_⟩;refine⟨.eq rfl rfl,?_⟩;exact trivial)) (by(refine⟨.box _ rfl ?_,?_⟩;(iterate 2 refine⟨.eq rfl rfl,?_⟩);(iterate 2 exact trivial))) rfl⟩
   |false=>
    rw[hc] at hw
    rw[wP (p:=ay vars) aM hc]
    (refine z7 ?_;refine Q5 ?_;refine zo ?_;(with_reducible apply AW.bu);exact rfl;exact rfl;kernel_rfl;(with_reducible assumption);refine oJ ?_;refine rh ?_;refine zm ?_;(focus ((with_reducible apply aa.aj);(iterate 7 exact rfl);rotate_left;omega));refine zr ?_;refine zA (hw) ?_;refine oq ?_;refine tv ?_;refine e6 ?_;refine kf ?_)
    (apply ax;(exact bA.one (.tmp rfl rfl));(refine Le.aF ?_;(rfl)))
  ·rw[bK (l:=cl) (by omega)] at oU
   rw[oU]
   (refine z7 ?_;refine zk ?_;refine r8 ?_;refine d_ ?_;refine fL ?_)
   (apply ax;(exact bA.one (.tmp rfl rfl));(refine Le.aF ?_;(rfl)))
 ·have e:=wV (vars:=vars) (cl:=cl) h0
  rw[e]
  by_cases h1:vars<0
  ·refine Fn.enter (n:=36) Tryz.func22 rfl rfl rfl rfl rfl (by decide) fun g aU aT=>?_;(try refine nz ?_)
   refine AW.mr 0 1 rfl rfl fun hlen=>?_
   (refine tR ?_;refine oJ ?_;refine zs ?_;refine Ke ?_;refine e6 ?_;refine iM ?_)
   (apply ax;(exact bA.one (.tmp rfl rfl));(refine Le.aF ?_;(rfl)))
  ·by_cases h2:20000<vars
   ·refine Fn.enter (n:=36) Tryz.func22 rfl rfl rfl rfl rfl (by decide) fun g aU aT=>?_;(try refine nz ?_)
    refine AW.mr 0 1 rfl rfl fun hlen=>?_
    (refine HL ?_;refine FL ?_;refine e6 ?_;refine iM ?_)
    (apply ax;(exact bA.one (.tmp rfl rfl));(refine Le.aF ?_;(rfl)))
   ·have h3:60000<(cl.length:Int):=by omega
    refine Fn.enter (n:=36) Tryz.func22 rfl rfl rfl rfl rfl (by decide) fun g aU aT=>?_;(try refine nz ?_)
    refine AW.mr 0 1 rfl rfl fun hlen=>?_
    (refine HL ?_;refine F6 ?_;refine zc ?_;refine d_ ?_;refine iM ?_)
    (apply ax;(exact bA.one (.tmp rfl rfl));(refine Le.aF ?_;(rfl)))
def gy (v:Int) (cl:List (List Int)):Bool:=decide (v≤8) && decide (cl.length≤40) && cl.all (fun c=>decide (c.length≤12)) && jv v cl
theorem zf (v:Int) (cl:List (List Int)):Fn Tryz.prog 6 [w6 v cl] (aF (gy v cl)):=by
 have J7:=xp v cl
 by_cases h1:v≤8
 ·by_cases h2:cl.length≤40
  ·have e1:gy v cl=(cl.all (fun c=>decide (c.length≤12)) && jv v cl):=by unfold gy;rw[decide_eq_true h1,decide_eq_true h2];rfl
   rw[e1]
   refine Fn.enter (n:=29) Tryz.func6 rfl rfl rfl rfl rfl (by decide) fun g aU aT=>?_;(try refine nz ?_)
   (refine tR ?_;refine oJ ?_;refine qq ?_;refine F6 ?_;refine lP ?_;refine jJ ?_;refine kn ?_)
   (refine nz ?_;apply AW.bM [1] [0] (fun i:Nat=>([(3,al i)]:List (Nat×AV))) (fun i:Nat=>([]:List (Nat×Option Ob))) (fun i:Nat=>i≤cl.length∧(cl.take i).all (fun c=>decide (c.length≤12))=true) (fun i:Nat=>cl.length - i) (0);(conv=>lhs;simp only[Nf.gQ,Nf.all,Nat.reduceBEq,reduceAdd,reduceSub]);(all_goals skip))
   ·exact⟨Nat.zero_le _,rfl⟩
   ·exact LS
   rintro i ⟨hi,oU⟩
   by_cases aM:i<cl.length
   ·have has:=pN (p:=fun c:List Int=>decide (c.length≤12)) aM
    rw[oU,Bool.true_and] at has
    by_cases hc:cl[i].length≤12
    ·rw[decide_eq_true hc] at has
     (refine z7 ?_;refine Q5 ?_;refine d_ ?_;refine rh ?_;refine zm ?_;(focus ((with_reducible apply aa.aj);(iterate 7 exact rfl);rotate_left;omega));refine zr ?_;refine zn ?_;refine wz ?_;refine rL ?_;refine lz ?_)
     exact⟨i+1,⟨by omega,has⟩,by omega,aO rfl (by(refine⟨.eq rfl rfl,?_⟩;refine⟨.eq rfl rfl,?_⟩;exact trivial)) (by(refine⟨.box _ rfl ?_,?_⟩;(iterate 2 refine⟨.eq rfl rfl,?_⟩);(iterate 2 exact trivial))) rfl⟩
    ·rw[wP (p:=fun c:List Int=>decide (c.length≤12)) aM (decide_eq_false hc),Bool.false_and]
     (refine z7 ?_;refine Q5 ?_;refine d_ ?_;refine rh ?_;refine zm ?_;(focus ((with_reducible apply aa.aj);(iterate 7 exact rfl);rotate_left;omega));refine zr ?_;refine zn ?_;refine wz ?_;refine zc ?_;refine d_ ?_;refine kf ?_)
     (apply ax;(exact bA.one (.tmp rfl rfl));(refine Le.aF ?_;(rfl)))
   ·rw[bK (l:=cl) (by omega)] at oU
    rw[oU,Bool.true_and]
    (refine z7 ?_;refine zk ?_;refine r8 ?_;refine d_ ?_;refine zL ?_;refine nz ?_;refine zA (J7) ?_;refine fL ?_)
    (apply ax;(exact bA.one (.tmp rfl rfl));(refine Le.aF ?_;(rfl)))
  ·have e1:gy v cl=false:=by unfold gy;rw[decide_eq_false h2];simp
   rw[e1]
   refine Fn.enter (n:=29) Tryz.func6 rfl rfl rfl rfl rfl (by decide) fun g aU aT=>?_;(try refine nz ?_)
   refine AW.mr 0 1 rfl rfl fun hlen=>?_
   (refine tR ?_;refine oJ ?_;refine qq ?_;refine F6 ?_;refine zc ?_;refine d_ ?_;refine iM ?_)
   (apply ax;(exact bA.one (.tmp rfl rfl));(refine Le.aF ?_;(rfl)))
 ·have e1:gy v cl=false:=by unfold gy;rw[decide_eq_false h1];simp
  rw[e1]
  refine Fn.enter (n:=29) Tryz.func6 rfl rfl rfl rfl rfl (by decide) fun g aU aT=>?_;(try refine nz ?_)
  (refine tR ?_;refine oJ ?_;refine qq ?_;(iterate 4 refine aa.db rfl rfl rfl rfl rfl rfl (by first|omega|decide) ?_);refine zT ?_;refine e6 ?_;refine iM ?_)
  (apply ax;(exact bA.one (.tmp rfl rfl));(refine Le.aF ?_;(rfl)))
theorem tQ {v:Int} {cl:List (List Int)} (h:gy v cl=true):(0≤v∧v≤8)∧cl.length≤40∧∀c∈cl,ay v c=true∧c.length≤12:=by
 unfold gy jv at h
 simp only[Bool.and_eq_true,decide_eq_true_eq,List.all_eq_true] at h
 obtain⟨⟨⟨a1,a2⟩,a3⟩,a4,a5⟩:=h
 exact⟨⟨a4.1,a1⟩,a2,fun c hc=>⟨a5 c hc,a3 c hc⟩⟩
end Go.Ab
/- A justified proof is sound,in plain terms. -/
namespace Go.Ab
open Go Go.Proofs
set_option maxRecDepth 20000
set_option maxHeartbeats 4000000
theorem rX {e:kj} {s s':iT} {t:bT} {l:List bT} (h:cC e s t=some s'):dc e s (t::l)=((dc e s' l).1,(dc e s' l).2+1):=by rw[dc,h]
theorem r6 {a b:List Int}:canon a=canon b↔∀x,x∈a↔x∈b:=⟨fun h x=>by rw[← kV (zs:=a),h,kV],fun h=>vR h⟩
theorem mu {v w:List Bool} {x:Int} (h:x≤v.length∧0 - (v.length:Int)≤x):dg (v++w) x=dg v x:=by
 unfold dg
 by_cases h1:0<x
 ·rw[if_pos h1,if_pos h1,List.getD_eq_getElem?_getD,List.getD_eq_getElem?_getD,List.getElem?_append_left (by omega)]
 ·rw[if_neg h1,if_neg h1]
  by_cases h2:x<0
  ·rw[if_pos h2,if_pos h2,List.getD_eq_getElem?_getD,List.getD_eq_getElem?_getD,List.getElem?_append_left (by omega)]
  ·rw[if_neg h2,if_neg h2]
theorem sM {v w:List Bool} {c:List Int} (h:ay v.length c=true):cQ (v++w) c=cQ v c:=by
 have hb:=aY h
 unfold cQ
 rw[Bool.eq_iff_iff,List.any_eq_true,List.any_eq_true]
 exact⟨fun⟨x,hx,g⟩=>⟨x,hx,by rwa [mu (by have:=hb x hx;omega)] at g⟩,fun⟨x,hx,g⟩=>⟨x,hx,by rwa [mu (by have:=hb x hx;omega)]⟩⟩
theorem DI {v:List Bool} {b:Bool}:dg (v++ [b]) ((v.length:Int)+1)=b:=by
 have e:((v.length:Int)+1 - 1).toNat=v.length:=by omega
 rw[q8 (by omega) (by rw[e];simp)]
 simp only[e]
 simp
def BR (v:List Bool) (c:List Int):Bool:=(c.drop 1).all (dg v)
def kA:List Bool→List bT→List Bool
 |v,[]=>v
 |v,t::l=>kA (if t.kind=3 then v++ [BR v t.lits] else v) l
def vJ:List Bool→List bT→Bool
 |_,[]=>true
 |v,t::l=>if t.kind=3 then vJ (v++ [BR v t.lits]) l else if t.kind=1∨t.kind=4 then cQ v t.lits && vJ v l else vJ v l
theorem E_ {n:Int} {cl:List (List Int)} {sy:List Int} {v:List Bool} (dq:∀c∈cl,ay n c=true) (hs:df n cl sy=true) (hv:allM v cl=true):((sy.map (dg v)).length:Int)=n∧allM (sy.map (dg v)) cl=true∧∀x:Int,x≠0→x≤n→0 - n≤x→dg (sy.map (dg v)) x=dg v (mB sy x):=by
 obtain⟨y1,y2⟩:=iF hs
 have hz:=aY y2
 have key:∀x:Int,x≠0→x≤n→0 - n≤x→dg (sy.map (dg v)) x=dg v (mB sy x):=by
  intro x h0 h1 h2
  by_cases hp:0<x
  ·have hl:(x - 1).toNat<sy.length:=by omega
   rw[q8 hp (by simpa using hl)]
   unfold mB
   rw[if_pos hp,List.getD_eq_getElem?_getD,List.getElem?_eq_getElem hl]
   simp
  ·have hl:(0 - x - 1).toNat<sy.length:=by omega
   have e:(-x - 1).toNat=(0 - x - 1).toNat:=by omega
   rw[uw (by omega) (by simpa using hl)]
   have e2:sy.getD (-x - 1).toNat 0=sy[(0 - x - 1).toNat]:=by rw[e,List.getD_eq_getElem?_getD,List.getElem?_eq_getElem hl];rfl
   unfold mB
   rw[if_neg hp,e2,hO v (hz _ (List.getElem_mem hl)).1]
   simp only[List.getElem_map]
 refine⟨by rw[List.length_map];exact y1,?_,key⟩
 unfold allM
 rw[List.all_eq_true]
 intro c hc
 have Sd:cl.all (w9 cl sy)=true:=by
  unfold df at hs
  simp only[Bool.and_eq_true] at hs
  exact hs.2
 obtain⟨d,hd,oZ⟩:=List.any_eq_true.1 (List.all_eq_true.1 Sd c hc)
 rw[decide_eq_true_eq,r6] at oZ
 obtain⟨y,hy,QY⟩:=tH hv hd
 have zp:=(oZ y).1 hy
 unfold gE at zp
 obtain⟨x,hx,rfl⟩:=List.mem_map.1 zp
 have GJ:=aY (dq c hc) x hx
 unfold cQ
 rw[List.any_eq_true]
 exact⟨x,hx,by rw[key x GJ.1 GJ.2.1 (by omega)];exact QY⟩
structure lV (e:kj) (s:iT) (K:List bT):Prop where
 len:∀v:List Bool,(v.length:Int)=e.v0→allM v e.cl0=true→((kA v K).length:Int)=s.vars
 all:∀v:List Bool,(v.length:Int)=e.v0→allM v e.cl0=true→allM (kA v K) s.cl=true
 pre:∀v:List Bool,(v.length:Int)=e.v0→allM v e.cl0=true→∃w,kA v K=v++w
 noref:s.ref=true→∀v:List Bool,(v.length:Int)=e.v0→allM v e.cl0=true→False
theorem eG:∀(K:List bT) (v:List Bool) (t:bT),kA v (K++ [t])=if t.kind=3 then kA v K++ [BR (kA v K) t.lits] else kA v K
 |[],v,t=>rfl
 |u::K,v,t=>by
  rw[List.cons_append,kA,kA,eG K]
theorem Ah {v:List Bool} {cl:List (List Int)} {c:List Int} (h:allM v cl=true) (hc:cQ v c=true):allM v (cl++ [c])=true:=by
 unfold allM at h ⊢
 rw[List.all_append,h];simp [hc]
theorem lV.mL {e:kj} {s:iT} {K:List bT} {t:bT} (h:lV e s K) (h3:t.kind≠3) (hT:∀v:List Bool,(v.length:Int)=e.v0→allM v e.cl0=true→cQ (kA v K) t.lits=true):lV e (qx s t.lits) (K++ [t]) where
 len:=fun v h1 h2=>by rw[eG,if_neg h3];exact h.len v h1 h2
 all:=fun v h1 h2=>by rw[eG,if_neg h3];exact Ah (h.all v h1 h2) (hT v h1 h2)
 pre:=fun v h1 h2=>by rw[eG,if_neg h3];exact h.pre v h1 h2
 noref:=fun hr v h1 h2=>by
  have hr':(s.ref||decide ((t.lits.length:Int)=0))=true:=hr
  rw[Bool.or_eq_true,decide_eq_true_eq] at hr'
  rcases hr' with hr'|hr'
  ·exact h.noref hr' v h1 h2
  ·have:=hT v h1 h2
   have h0:t.lits=[]:=List.eq_nil_of_length_eq_zero (by omega)
   rw[h0] at this
   simp [cQ] at this
theorem wL {e:kj} {B:Nat} {s u:iT} {K:List bT} {t:bT} (CF:∀c∈e.cl0,ay e.v0 c=true) (hv0:0≤e.v0) (h:lV e s K) (wb:ic B s) (hs:cC e s t=some u):
  lV e u (K++ [t])∧∀v:List Bool,(v.length:Int)=e.v0→allM v e.cl0=true→(t.kind=1∨t.kind=4)→cQ (kA v K) t.lits=true:=by
 by_cases k1:t.kind=1
 ·rw[s9 k1,hY] at hs
  split at hs
  ·rename_i c
   cases hs
   have hT:∀v:List Bool,(v.length:Int)=e.v0→allM v e.cl0=true→cQ (kA v K) t.lits=true:=fun v h1 h2=>
    (AS (assume:=[]) wb.hv.1 (fun c hc=>(wb.dq c hc).1) rfl c.2.1 (h.all v h1 h2)).1 c.2.2
   exact⟨h.mL (by omega) hT,fun v h1 h2 _=>hT v h1 h2⟩
  ·cases hs
 by_cases k2:t.kind=2
 ·rw[yO k2,ga] at hs
  split at hs
  ·cases hs
   have h3:¬t.kind=3:=by omega
   refine⟨⟨fun v h1 h2=>by rw[eG,if_neg h3];exact h.len v h1 h2,fun v h1 h2=>?_,fun v h1 h2=>by rw[eG,if_neg h3];exact h.pre v h1 h2,h.noref⟩,fun v _ _ hk=>by omega⟩
   rw[eG,if_neg h3]
   have:=h.all v h1 h2
   unfold allM at this ⊢
   rw[List.all_eq_true] at this ⊢
   exact fun c hc=>this c (List.mem_of_mem_eraseIdx hc)
  ·cases hs
 by_cases k3:t.kind=3
 ·rw[yn k3,e9] at hs
  split at hs
  ·rename_i c
   obtain⟨_,c2,c3,_,c5⟩:=c
   cases hs
   have hd:∀v:List Bool,(v.length:Int)=e.v0→allM v e.cl0=true→((kA v K).length:Int)=s.vars:=h.len
   refine⟨⟨fun v h1 h2=>?_,fun v h1 h2=>?_,fun v h1 h2=>?_,h.noref⟩,fun v _ _ hk=>by omega⟩
   ·rw[eG,if_pos k3,List.length_append]
    have:=h.len v h1 h2
    show _=s.vars+1
    simp;omega
   ·rw[eG,if_pos k3]
    have hl:=h.len v h1 h2
    have ha:=h.all v h1 h2
    generalize kA v K=w at hl ha
    generalize t.lits.getD 0 0=g at c3
    have hg:g=(w.length:Int)+1:=by omega
    have hb:=aY c5
    unfold BR
    generalize t.lits.drop 1=r at c5 hb
    show allM _ (s.cl++defs g r)=true
    unfold allM at ha ⊢
    rw[List.all_eq_true] at ha ⊢
    intro c hc
    rcases List.mem_append.1 hc with hc|hc
    ·rw[sM (by rw[hl];exact(wb.dq c hc).1)]
     exact ha c hc
    ·have Na:∀x∈r,dg (w++ [r.all (dg w)]) x=dg w x:=fun x hx=>mu (by have:=hb x hx;omega)
     have tu:dg (w++ [r.all (dg w)]) g=r.all (dg w):=by rw[hg];exact DI
     have Ps:dg (w++ [r.all (dg w)]) (-g)=!(r.all (dg w)):=by rw[hO _ (by omega),tu]
     unfold cQ
     rw[List.any_eq_true]
     unfold defs at hc
     cases hr:r.all (dg w) with
     |true=>
      rw[hr] at Na tu Ps
      rcases List.mem_append.1 hc with hc|hc
      ·obtain⟨x,hx,rfl⟩:=List.mem_map.1 hc
       exact⟨x,by simp,by rw[Na x hx];exact List.all_eq_true.1 hr x hx⟩
      ·simp only[List.mem_singleton] at hc
       subst hc
       exact⟨g,by simp,tu⟩
     |false=>
      rw[hr] at Na tu Ps
      rcases List.mem_append.1 hc with hc|hc
      ·obtain⟨x,hx,rfl⟩:=List.mem_map.1 hc
       exact⟨-g,by simp,Ps⟩
      ·simp only[List.mem_singleton] at hc
       subst hc
       obtain⟨x,hx,SQ⟩:=List.all_eq_false.1 hr
       refine⟨-x,by simp only[List.mem_cons,List.mem_map];exact .inr ⟨x,hx,rfl⟩,?_⟩
       rw[hO _ (hb x hx).1,Na x hx]
       simpa using SQ
   ·obtain⟨w,hw⟩:=h.pre v h1 h2
    rw[eG,if_pos k3,hw]
    exact⟨w++ [BR (v++w) t.lits],by rw[List.append_assoc]⟩
  ·cases hs
 by_cases k4:t.kind=4
 ·rw[yN k4,jU] at hs
  split at hs
  ·rename_i c
   obtain⟨c1,_,c3,c4⟩:=c
   cases hs
   generalize e.syms.getD t.sym.toNat []=sy at c3 c4
   obtain⟨d,hd,J8⟩:=List.any_eq_true.1 c4
   unfold fO at J8
   rw[Bool.and_eq_true,decide_eq_true_eq,r6] at J8
   obtain⟨PY,J8⟩:=J8
   have hT:∀v:List Bool,(v.length:Int)=e.v0→allM v e.cl0=true→cQ (kA v K) t.lits=true:=fun v h1 h2=>by
    obtain⟨g1,g2,g3⟩:=E_ CF c3 h2
    have SA:=h.all _ g1 g2
    obtain⟨w,hw⟩:=h.pre _ g1 g2
    obtain⟨w',hw'⟩:=h.pre v h1 h2
    have ht:=List.all_eq_true.1 SA d hd
    rw[hw,sM (by rw[g1];exact PY)] at ht
    obtain⟨x,hx,QQ⟩:=List.any_eq_true.1 ht
    have GJ:=aY PY x hx
    rw[g3 x GJ.1 GJ.2.1 (by omega)] at QQ
    have pV:mB sy x∈t.lits:=(J8 _).1 (by unfold gE;exact List.mem_map.2 ⟨x,hx,rfl⟩)
    have Hf:=aY (iF c3).2
    have rj:=(iF c3).1
    have Br:mB sy x≤v.length∧0 - (v.length:Int)≤mB sy x:=by
     unfold mB
     split
     ·have hl:(x - 1).toNat<sy.length:=by omega
      rw[List.getD_eq_getElem?_getD,List.getElem?_eq_getElem hl]
      have:=Hf _ (List.getElem_mem hl)
      simp only[Option.getD_some]
      omega
     ·have hl:(-x - 1).toNat<sy.length:=by omega
      rw[List.getD_eq_getElem?_getD,List.getElem?_eq_getElem hl]
      have:=Hf _ (List.getElem_mem hl)
      simp only[Option.getD_some]
      omega
    unfold cQ
    rw[List.any_eq_true]
    exact⟨_,pV,by rw[hw',mu Br];exact QQ⟩
   exact⟨h.mL (by omega) hT,fun v h1 h2 _=>hT v h1 h2⟩
  ·cases hs
 rw[yE k1 k2 k3 k4] at hs
 cases hs
theorem r7 {e:kj} (CF:∀c∈e.cl0,ay e.v0 c=true) (hv0:0≤e.v0):∀(L:List bT) {B:Nat} {s:iT} {K:List bT},lV e s K→ic B s→(∀t∈L,t.lits.length≤900)→(dc e s L).2=L.length→
  (∀v:List Bool,(v.length:Int)=e.v0→allM v e.cl0=true→vJ (kA v K) L=true)∧((dc e s L).1.ref=true→∀v:List Bool,(v.length:Int)=e.v0→allM v e.cl0=true→False)
 |[],_,s,K,h,_,_,_=>by rw[qw];exact⟨fun _ _ _=>rfl,h.noref⟩
 |t::L,B,s,K,h,wb,hl,hn=>by
  cases hs:cC e s t with
  |none=>rw[dc,hs] at hn;simp at hn
  |some u=>
   rw[rX hs] at hn ⊢
   obtain⟨hu,hT⟩:=wL CF hv0 h wb hs
   obtain⟨i1,i2⟩:=r7 (e:=e) CF hv0 L hu (wb.step (hl t (by simp)) hs) (fun t ht=>hl t (by simp [ht])) (by simp at hn;exact hn)
   refine⟨fun v h1 h2=>?_,i2⟩
   have h5:=i1 v h1 h2
   rw[eG] at h5
   unfold vJ
   by_cases k3:t.kind=3
   ·rw[if_pos k3] at h5 ⊢
    exact h5
   ·rw[if_neg k3] at h5 ⊢
    split
    ·rename_i hk
     rw[hT v h1 h2 hk,h5];rfl
    ·exact h5
end Go.Ab
/- The solver:its state;values,pushes,decisions,walked. -/
namespace Go.Ab
open Go Go.Proofs
open Nat (reduceAdd reduceSub)
set_option maxRecDepth 20000
set_option maxHeartbeats 4000000
structure SR where
 value:List Int
 level:List Int
 reason:List Int
 marks:List Int
 low:Int
 head:Int
 added:Int
 broken:Bool
 hl:Nat→Value
 ll:Nat→List Int
 nc:Nat
 hc:Nat→Value
 cl:Nat→List Int
 nw:Nat
 hw:Nat→Value
 wl:Nat→List Int
 proof:List (List Int)
 model:List Int
 core:List Int
abbrev j6 (l:List Int):List PV:=[.lit (.int .i64 1),.slice 1 (l.map encI),.lit (.int .i64 0)]
abbrev ec (l:List Int):PV:=.slice 1 (l.map encI)
abbrev cv (s:SR):List AV:=[.own 1 3 1 (s.value.map encI),.own 2 3 1 (s.level.map encI),.own 3 3 1 (s.reason.map encI),.pv (.lit (s.hl 0)),.own 5 3 1 (s.marks.map encI),al s.low,.own 6 25 1 (bO s.nc s.hc),.own 8 25 1 (bO s.nw s.hw),al s.head,al s.added,aF s.broken,.own 10 44 3 (s.proof.map j6),al 0,.pv (ec s.model),.pv (ec s.core)]
abbrev cu (s:SR):List (Nat×Option Ob):=[(0,some (.box (cv s))),(1,some .row),(2,some .row),(3,some .row),(4,some (.pool 3 (eJ s.hl s.ll))),(5,some .row),(6,some .row),(7,some (.pool 3 (eJ s.hc s.cl))),(8,some .row),(9,some (.pool 3 (eJ s.hw s.wl))),(10,some .row)]
def M8 (v:List Int) (x:Int):Int:=if x<0 then -(v.getD (-x).toNat 0) else v.getD x.toNat 0
def aq (x:Int):Int:=if x<0 then -2*x+1 else 2*x
attribute [local irreducible] bO AW aa bE aX AR bd aW bm bD fy fI
theorem o9 (x:Int) (hb: -1000000≤x∧x≤1000000):Fn Tryz.prog 92 [al x] (al (aq x)):=by
 unfold aq
 by_cases h:x<0
 ·rw[if_pos h]
  refine Fn.enter (n:=10) Tryz.func92 rfl rfl rfl rfl rfl (by decide) fun g aU aT=>?_;(try (conv=>rhs;simp only[Nf.cP,Nf.all,Nat.reduceBEq,reduceAdd,reduceSub]))
  (refine jw ?_;refine ez ?_;refine iO ?_;refine zc ?_;refine ez ?_;refine aa.mul rfl rfl rfl rfl rfl (by omega) ?_;refine zj ?_;refine iM ?_)
  (apply ax;(exact bA.one (.tmp rfl rfl));(refine Le.al ?_;(rfl)))
 ·rw[if_neg h]
  refine Fn.enter (n:=10) Tryz.func92 rfl rfl rfl rfl rfl (by decide) fun g aU aT=>?_;(try (conv=>rhs;simp only[Nf.cP,Nf.all,Nat.reduceBEq,reduceAdd,reduceSub]))
  (refine jw ?_;refine ez ?_;refine iO ?_;refine lP ?_;refine ez ?_;refine aa.mul rfl rfl rfl rfl rfl (by omega) ?_;refine fL ?_)
  (apply ax;(exact bA.one (.tmp rfl rfl));(refine Le.al ?_;(rfl)))
theorem aZ {l:List Int} {n:Nat} (h:n<l.length):l.getD n 0=l[n]:=by simp [List.getD_eq_getElem?_getD,h]
theorem G5 (s:SR) (x:Int) (hb: -1000000≤x∧x≤1000000) (hx:x<s.value.length∧ -x<s.value.length) (hv:∀y∈s.value,-1≤y∧y≤1):jq Tryz.prog 55 11 (cu s) [.ptr 0 0,al x] (cu s) (al (M8 s.value x)):=by
 unfold M8
 by_cases h:x<0
 ·have aM:(-x).toNat<s.value.length:=by omega
  have hr:=hv _ (List.getElem_mem aM)
  rw[if_pos h,aZ aM]
  refine jq.enter (n:=23) Tryz.func55 rfl rfl rfl rfl rfl (by decide) rfl rfl fun g aU aT=>?_;refine nk ?_
  (refine jw ?_;refine ez ?_;refine iO ?_;refine zc ?_;refine dZ ?_;refine Q9 ?_;refine pR ?_;refine D4 ?_;refine nh ?_;(focus ((with_reducible apply aa.aD);(iterate 4 exact rfl);(focus (intro h_;cases h_;done));rotate_left;(first|omega|exact Nat.zero_lt_one|(simp;done))));refine aa.neg rfl rfl rfl (by omega) ?_;refine iM ?_)
  (apply di;((exact bA.one (.tmp rfl rfl)));((exact ui));((exact Q2));exact rfl)
 ·have aM:x.toNat<s.value.length:=by omega
  rw[if_neg h,aZ aM]
  refine jq.enter (n:=23) Tryz.func55 rfl rfl rfl rfl rfl (by decide) rfl rfl fun g aU aT=>?_;refine nk ?_
  (refine jw ?_;refine ez ?_;refine iO ?_;refine lP ?_;refine dZ ?_;refine Q9 ?_;refine pR ?_;refine zm ?_;refine nh ?_;(focus ((with_reducible apply aa.aD);(iterate 4 exact rfl);(focus (intro h_;cases h_;done));rotate_left;(first|omega|exact Nat.zero_lt_one|(simp;done))));refine fL ?_)
  (apply di;((exact bA.one (.tmp rfl rfl)));((exact ui));((exact Q2));exact rfl)
end Go.Ab
/- The solver's trail:a literal made true,a decision,the least free variable,walked. -/
namespace Go.Ab
open Go Go.Proofs
open Nat (reduceAdd reduceSub)
set_option maxRecDepth 20000
set_option maxHeartbeats 4000000
def aG (x:Int):Nat:=(max x (-x)).toNat
def ly (x:Int):Int:=if x<0 then -1 else 1
def a_ (s:SR) (x r:Int) (h:Value):SR:={s with value:=s.value.set (aG x) (ly x),level:=s.level.set (aG x) s.marks.length,reason:=s.reason.set (aG x) r,hl:=aC s.hl 0 h,ll:=aC s.ll 0 (s.ll 0++ [x])}
theorem cH (l:List Int) (i:Nat) (x:Int):(l.map encI).set i [PV.lit (.int .i64 x)]=(l.set i x).map encI:=by
 rw[List.map_set];rfl
attribute [local irreducible] bO AW aa bE aX AR bd aW bm bD fy fI
theorem kX (s:SR) (x r:Int) (hb: -1000000≤x∧x≤1000000) (hx:x<s.value.length∧ -x<s.value.length) (h1:s.level.length=s.value.length) (h2:s.reason.length=s.value.length) (hl:(s.ll 0).length≤1000000) (hm:s.marks.length≤1000000):
  n8 Tryz.prog 56 11 (cu s) [.ptr 0 0,al x,al r] (fun h:Value=>h.oneCell'=true) (fun h=>cu (a_ s x r h)) (fun _=> .tup []):=by
 have hv:(max x (-x)).toNat<s.value.length:=by omega
 have hv0:0≤max x (-x):=by omega
 by_cases h:x<0
 ·refine n8.enter (n:=53) Tryz.func56 rfl rfl rfl rfl rfl (by decide) rfl (fun _=>rfl) fun g aU aT=>?_;refine nk ?_
  (refine zq ?_;refine CZ ?_;refine mP ?_;refine Q9 ?_;refine pR ?_;refine zm ?_;refine nh ?_;(with_reducible apply aa.bQ);(iterate 4 exact rfl);(first|exact rfl|assumption|exact dy _|exact dz _ _|exact dO _|exact dP _ _);(iterate 3 exact rfl);refine gM ?_;refine jL ?_;refine iO ?_;refine zc ?_;refine lq ?_;refine Q9 ?_;refine pR ?_;refine zm ?_;(with_reducible apply aa.p7);(iterate 7 exact rfl);omega;(first|omega|(simp only[List.length_map,List.length_append,List.length_cons,List.length_nil,List.length_drop,List.length_take,List.length_set,List.length_range,aL];omega));(with_reducible apply aa.bQ);(iterate 4 exact rfl);(first|exact rfl|assumption|exact dy _|exact dz _ _|exact dO _|exact dP _ _);(iterate 3 exact rfl);refine gM ?_;refine zo ?_;refine AW.bN [0,1,2,3,4,5,6,7,8,9,10] [11] rfl (by assumption) (by kernel_rfl) (by kernel_rfl) rfl ?_;show aa .held _ _ _ [_,_,_,_,_,_,_,_,_,_,_] _ _;refine Q9 ?_;refine Dt ?_;refine Q9 ?_;refine tJ ?_;refine nh ?_;refine Q4 ?_;intro k_ cR;refine Q0 ?_;refine wK ?_;intro g_ ag aJ;(with_reducible apply aa.bQ);(iterate 4 exact rfl);(first|exact rfl|assumption|exact dy _|exact dz _ _|exact dO _|exact dP _ _);(iterate 3 exact rfl);refine mE ?_;refine zq ?_;refine Q9 ?_;refine aa.ah 94 2 2 rfl rfl rfl rfl ?_;refine zb ?_;(iterate 2 refine zm ?_);refine nh ?_;(with_reducible apply aa.bQ);(iterate 4 exact rfl);(first|exact rfl|assumption|exact dy _|exact dz _ _|exact dO _|exact dP _ _);(iterate 3 exact rfl);refine gM ?_;refine AW.region ?_;refine yd ?_;refine aa.ah 94 3 3 rfl rfl rfl rfl ?_;refine dX ?_;(with_reducible apply aa.iD);(iterate 5 exact rfl);(first|exact rfl|assumption|exact dy _|exact dz _ _|exact dO _|exact dP _ _);exact rfl;exact rfl;refine Q0 ?_;(with_reducible apply aa.gr 4);exact rfl;exact rfl;(first|exact .pv rfl|exact .own rfl|exact .nil rfl);(iterate 8 exact rfl);omega;(intro v_ DZ);refine Dj ?_;refine aa.ah 94 3 3 rfl rfl rfl rfl ?_;(with_reducible apply aa.bG);(iterate 5 exact rfl);(first|exact rfl|assumption|exact dy _|exact dz _ _|exact dO _|exact dP _ _);(iterate 3 exact rfl);(with_reducible assumption);refine Q0 ?_;refine aa.nil ?_)
  (apply gW (v_) (DZ);((exact bA.none));((exact mn));((refine⟨.box _ rfl ?_,?_⟩;(iterate 2 refine Mk ?_);(iterate 2 refine Nw ?_);refine Mk ?_;refine Nw ?_;(iterate 2 refine⟨.ai (by first|rfl|(simp only[a_,cH,aG,ly,List.set_set,if_pos h])),?_⟩);refine Nw ?_;(iterate 2 refine⟨.bF (by first|rfl|(simp only[a_,cH,aG,ly,List.set_set,if_pos h])),?_⟩);exact trivial;(iterate 3 refine⟨.row rfl,?_⟩);refine HD ?_;(iterate 2 refine⟨.row rfl,?_⟩);refine HD ?_;refine⟨.row rfl,?_⟩;refine HD ?_;exact wE));exact rfl)
 ·refine n8.enter (n:=53) Tryz.func56 rfl rfl rfl rfl rfl (by decide) rfl (fun _=>rfl) fun g aU aT=>?_;refine nk ?_
  (refine zq ?_;refine CZ ?_;refine mP ?_;refine Q9 ?_;refine pR ?_;refine zm ?_;refine nh ?_;(with_reducible apply aa.bQ);(iterate 4 exact rfl);(first|exact rfl|assumption|exact dy _|exact dz _ _|exact dO _|exact dP _ _);(iterate 3 exact rfl);refine gM ?_;refine jL ?_;refine iO ?_;refine lP ?_;refine zo ?_;refine AW.bN [0,1,2,3,4,5,6,7,8,9,10] [11] rfl (by assumption) (by kernel_rfl) (by kernel_rfl) rfl ?_;show aa .held _ _ _ [_,_,_,_,_,_,_,_,_,_,_] _ _;refine Q9 ?_;refine Dt ?_;refine Q9 ?_;refine tJ ?_;refine nh ?_;refine Q4 ?_;intro k_ cR;refine Q0 ?_;refine wK ?_;intro g_ ag aJ;(with_reducible apply aa.bQ);(iterate 4 exact rfl);(first|exact rfl|assumption|exact dy _|exact dz _ _|exact dO _|exact dP _ _);(iterate 3 exact rfl);refine mE ?_;refine zq ?_;refine Q9 ?_;refine aa.ah 94 2 2 rfl rfl rfl rfl ?_;refine zb ?_;(iterate 2 refine zm ?_);refine nh ?_;(with_reducible apply aa.bQ);(iterate 4 exact rfl);(first|exact rfl|assumption|exact dy _|exact dz _ _|exact dO _|exact dP _ _);(iterate 3 exact rfl);refine gM ?_;refine AW.region ?_;refine yd ?_;refine aa.ah 94 3 3 rfl rfl rfl rfl ?_;refine dX ?_;(with_reducible apply aa.iD);(iterate 5 exact rfl);(first|exact rfl|assumption|exact dy _|exact dz _ _|exact dO _|exact dP _ _);exact rfl;exact rfl;refine Q0 ?_;(with_reducible apply aa.gr 4);exact rfl;exact rfl;(first|exact .pv rfl|exact .own rfl|exact .nil rfl);(iterate 8 exact rfl);omega;(intro v_ DZ);refine Dj ?_;refine aa.ah 94 3 3 rfl rfl rfl rfl ?_;(with_reducible apply aa.bG);(iterate 5 exact rfl);(first|exact rfl|assumption|exact dy _|exact dz _ _|exact dO _|exact dP _ _);(iterate 3 exact rfl);(with_reducible assumption);refine Q0 ?_;refine aa.nil ?_)
  (apply gW (v_) (DZ);((exact bA.none));((exact mn));((refine⟨.box _ rfl ?_,?_⟩;(iterate 2 refine KW ?_);(iterate 2 refine Pa ?_);refine KW ?_;refine Pa ?_;(iterate 2 refine⟨.ai (by first|rfl|(simp only[a_,cH,aG,ly,List.set_set,if_neg h])),?_⟩);refine Pa ?_;(iterate 2 refine⟨.bF (by first|rfl|(simp only[a_,cH,aG,ly,List.set_set,if_neg h])),?_⟩);exact trivial;(iterate 3 refine⟨.row rfl,?_⟩);refine IQ ?_;(iterate 2 refine⟨.row rfl,?_⟩);refine IQ ?_;refine⟨.row rfl,?_⟩;refine IQ ?_;exact wE));exact rfl)
end Go.Ab
/- The solver's trail:decisions,the least free variable,going back,walked. -/
namespace Go.Ab
open Go Go.Proofs
open Nat (reduceAdd reduceSub)
set_option maxRecDepth 20000
set_option maxHeartbeats 4000000
def cE (s:SR):SR:={s with marks:=s.marks++ [((s.ll 0).length:Int)]}
def eT (v:List Int) (low:Nat):Nat:=low+((v.drop low).takeWhile fun x=>decide (x≠0)).length
theorem pF {v:List Int} {low:Nat} (h:¬low<v.length):eT v low=low:=by
 unfold eT
 rw[List.drop_eq_nil_of_le (by omega)];rfl
theorem nG {v:List Int} {low:Nat} (h:low<v.length) (h0:v[low]=0):eT v low=low:=by
 unfold eT
 rw[List.drop_eq_getElem_cons h,List.takeWhile_cons_of_neg (by simp [h0])];rfl
theorem nO {v:List Int} {low:Nat} (h:low<v.length) (h0:v[low]≠0):eT v low=eT v (low+1):=by
 unfold eT
 rw[List.drop_eq_getElem_cons h,List.takeWhile_cons_of_pos (by simp [h0])]
 simp only[List.length_cons];omega
theorem tY {v:List Int}:∀{n low:Nat},v.length - low=n→low≤v.length→low≤eT v low∧eT v low≤v.length
 |0,low,h,hl=>by rw[pF (by omega)];omega
 |n+1,low,h,hl=>by
  have aM:low<v.length:=by omega
  by_cases h0:v[low]=0
  ·rw[nG aM h0];omega
  ·rw[nO aM h0]
   have:=tY (v:=v) (n:=n) (low:=low+1) (by omega) (by omega)
   omega
def zeroV (v:List Int) (l:List Int):List Int:=l.foldl (fun v x=>v.set (aG x) 0) v
def j_ (low:Int) (l:List Int):Int:=l.foldl (fun m x=>min m (max x (-x))) low
theorem bH (v:List Int):zeroV v []=v:=rfl
theorem bW (b:Int):j_ b []=b:=rfl
theorem kY (l v:List Int):(zeroV v l).length=v.length:=by
 unfold zeroV
 induction l generalizing v with
 |nil=>rfl
 |cons x l ih=>rw[List.foldl_cons,ih];simp
theorem xJ {v l:List Int} {k:Nat} (h:k<l.length):zeroV v (l.take (k+1))=(zeroV v (l.take k)).set (aG l[k]) 0:=by
 unfold zeroV
 rw[List.take_succ_eq_append_getElem h,List.foldl_append];rfl
theorem zZ {b:Int} {l:List Int} {k:Nat} (h:k<l.length):j_ b (l.take (k+1))=min (j_ b (l.take k)) (max l[k] (-l[k])):=by
 unfold j_
 rw[List.take_succ_eq_append_getElem h,List.foldl_append];rfl
theorem Eb {b:Int} {l:List Int} (hb:0≤b∧b≤1000000) (hl:∀x∈l,-1000000≤x∧x≤1000000):0≤j_ b l∧j_ b l≤1000000:=by
 unfold j_
 induction l generalizing b with
 |nil=>exact hb
 |cons x l ih=>
  have:=hl x (by simp)
  rw[List.foldl_cons]
  exact ih (by show 0≤min b (max x (-x))∧min b (max x (-x))≤_;omega) fun y hy=>hl y (by simp [hy])
def yj (s:SR) (lv:Nat):SR:={s with value:=zeroV s.value ((s.ll 0).drop (s.marks.getD lv 0).toNat),low:=j_ s.low ((s.ll 0).drop (s.marks.getD lv 0).toNat),hl:=aC s.hl 0 (dk (s.marks.getD lv 0).toNat (s.hl 0)),ll:=aC s.ll 0 ((s.ll 0).take (s.marks.getD lv 0).toNat),marks:=s.marks.take lv}
attribute [local irreducible] bO AW aa bE aX AR bd aW bm bD fy fI eT zeroV j_
theorem xH (s:SR) (hl:(s.ll 0).length≤1000000) (hm:s.marks.length≤1000000):jq Tryz.prog 64 11 (cu s) [.ptr 0 0,al 0] (cu (cE s)) (.tup []):=by
 refine jq.enter (n:=23) Tryz.func64 rfl rfl rfl rfl rfl (by decide) rfl rfl fun g aU aT=>?_;refine nk ?_
 (refine zo ?_;refine AW.bN [0,1,2,3,4,5,6,7,8,9] [14] rfl (by assumption) (by kernel_rfl) (by kernel_rfl) rfl ?_;show aa .held _ _ _ [_,_,_,_,_,_,_,_,_,_] _ _;refine Ko ?_;intro k_ cR;refine Q0 ?_;refine AR.ba (i:=10) rfl (by kernel_rfl) rfl ?_;intro g_ ag bw;(with_reducible apply aa.iD);(iterate 5 exact rfl);(first|exact rfl|assumption|exact dy _|exact dz _ _|exact dO _|exact dP _ _);exact rfl;exact rfl;refine im ?_;refine AR.ba (i:=11) rfl (by kernel_rfl) rfl ?_;intro g_ ag bw;(with_reducible apply aa.bh);exact rfl;(first|exact .pv rfl|exact .own rfl|exact .nil rfl);(iterate 9 exact rfl);(first|omega|(simp only[List.length_map,List.length_append,List.length_cons,List.length_nil,List.length_drop,List.length_take,List.length_set,List.length_range,aL];omega));refine im ?_;refine H9 ?_;intro g_ ag;show aa .held _ _ _ [_,_] _ _;refine aa.aI rfl rfl rfl ?_;refine aa.ah 94 4 4 rfl rfl rfl rfl ?_;refine Q4 ?_;intro k_ cR;refine Q0 ?_;refine oK ?_;intro g_ ag aJ;(with_reducible apply aa.bG);(iterate 5 exact rfl);(first|exact rfl|assumption|exact dy _|exact dz _ _|exact dO _|exact dP _ _);(iterate 3 exact rfl);(with_reducible assumption);refine mE ?_;refine zq ?_;refine zm ?_;refine AA ?_;refine Ej ?_)
 (apply iY;((exact bA.none));((exact mn));((refine⟨.box _ rfl ?_,?_⟩;(iterate 2 refine Lu ?_);(iterate 2 refine Nk ?_);refine Lu ?_;refine Nk ?_;(iterate 2 refine⟨.ai (by first|rfl|(simp only[cE,List.map_append,List.map_cons,List.map_nil];rfl)),?_⟩);refine Nk ?_;(iterate 2 refine⟨.bF (by first|rfl|(simp only[cE,List.map_append,List.map_cons,List.map_nil];rfl)),?_⟩);exact trivial;(iterate 3 refine⟨.row rfl,?_⟩);refine I7 ?_;(iterate 2 refine⟨.row rfl,?_⟩);refine I7 ?_;refine⟨.row rfl,?_⟩;refine I7 ?_;exact wE));exact rfl)
theorem pS (s:SR) (x:Int) (h0:x≠0) (hb: -1000000≤x∧x≤1000000) (hx:x<s.value.length∧ -x<s.value.length) (h1:s.level.length=s.value.length) (h2:s.reason.length=s.value.length) (hl:(s.ll 0).length≤100000) (hm:s.marks.length≤100000):
  n8 Tryz.prog 64 11 (cu s) [.ptr 0 0,al x] (fun h:Value=>h.oneCell'=true) (fun h=>cu (a_ (cE s) x (-1) h)) (fun _=> .tup []):=by
 have hp:=kX (cE s) x (-1) hb hx h1 h2 (by show(s.ll 0).length≤_;omega) (by show(s.marks++_).length≤_;simp;omega)
 rw[show cu (cE s)=cu {cE s with marks:=s.marks++ [((s.ll 0).length:Int)]} from rfl] at hp
 simp only[cu,cv,List.map_append,List.map_cons,List.map_nil] at hp
 refine n8.enter (n:=23) Tryz.func64 rfl rfl rfl rfl rfl (by decide) rfl (fun _=>rfl) fun g aU aT=>?_;refine nk ?_
 (refine zo ?_;refine AW.bN [0,1,2,3,4,5,6,7,8,9] [14] rfl (by assumption) (by kernel_rfl) (by kernel_rfl) rfl ?_;show aa .held _ _ _ [_,_,_,_,_,_,_,_,_,_] _ _;refine Ko ?_;intro k_ cR;refine Q0 ?_;refine AR.ba (i:=10) rfl (by kernel_rfl) rfl ?_;intro g_ ag bw;(with_reducible apply aa.iD);(iterate 5 exact rfl);(first|exact rfl|assumption|exact dy _|exact dz _ _|exact dO _|exact dP _ _);exact rfl;exact rfl;refine im ?_;refine AR.ba (i:=11) rfl (by kernel_rfl) rfl ?_;intro g_ ag bw;(with_reducible apply aa.bh);exact rfl;(first|exact .pv rfl|exact .own rfl|exact .nil rfl);(iterate 9 exact rfl);(first|omega|(simp only[List.length_map,List.length_append,List.length_cons,List.length_nil,List.length_drop,List.length_take,List.length_set,List.length_range,aL];omega));refine im ?_;refine H9 ?_;intro g_ ag;show aa .held _ _ _ [_,_] _ _;refine aa.aI rfl rfl rfl ?_;refine aa.ah 94 4 4 rfl rfl rfl rfl ?_;refine Q4 ?_;intro k_ cR;refine Q0 ?_;refine oK ?_;intro g_ ag aJ;(with_reducible apply aa.bG);(iterate 5 exact rfl);(first|exact rfl|assumption|exact dy _|exact dz _ _|exact dO _|exact dP _ _);(iterate 3 exact rfl);(with_reducible assumption);refine mE ?_;refine zq ?_;refine zm ?_;refine AA ?_;refine zc ?_;refine lq ?_;refine A8 ?_;(with_reducible apply aa.eH (hf:=hp));(with_reducible assumption);(iterate 3 exact rfl);(repeat (first|exact trivial|refine⟨rfl,?_⟩));(repeat (first|exact .nil|(refine .cons ?_ ?_;(first|exact .eq rfl rfl|exact .nil _|exact .any _))));(intro x_;exact rfl);exact rfl;(repeat (first|exact trivial|refine⟨rfl,?_⟩|refine⟨aN,?_⟩));(intro x_;(repeat (first|exact trivial|refine⟨rfl,?_⟩|refine⟨aN,?_⟩)));(intro x_;exact rfl);exact rfl;(intro x_ kH);refine eV ?_;refine aa.nil ?_)
 (apply gW (x_) (kH);((exact bA.none));((exact mn));((exact Lp));exact rfl)
theorem Fy (s:SR) (low:Nat) (hs:s.low=(low:Int)) (hle:low≤s.value.length) (hl:s.value.length≤1000000):
  jq Tryz.prog 65 11 (cu s) [.ptr 0 0] (cu {s with low:=(eT s.value low:Int)}) (al (if eT s.value low=s.value.length then 0 else (eT s.value low:Int))):=by
 simp only[cu,cv,hs]
 have hb:=tY (v:=s.value) rfl hle
 refine jq.enter (n:=47) Tryz.func65 rfl rfl rfl rfl rfl (by decide) rfl rfl fun g aU aT=>?_;refine nk ?_
 (refine jw ?_;refine AW.block ?_)
 (refine Q0 ?_;apply AW.bM [2,0,1000] [1,2,3,4,5,6,7,8,9,10] (fun k:Nat=>([]:List (Nat×AV))) (fun k:Nat=>([(0,some (.box [.own 1 3 1 ((s.value).map encI),.own 2 3 1 ((s.level).map encI),.own 3 3 1 ((s.reason).map encI),.pv (.lit (s.hl 0)),.own 5 3 1 ((s.marks).map encI),al ((k:Int)),.own 6 25 1 (bO s.nc s.hc),.own 8 25 1 (bO s.nw s.hw),al (s.head),al (s.added),aF (s.broken),.own 10 44 3 ((s.proof).map j6),al 0,.pv (ec (s.model)),.pv (ec (s.core))]))]:List (Nat×Option Ob))) (fun k:Nat=>(k≤s.value.length∧eT s.value k=eT s.value low)) (fun k:Nat=>s.value.length - k) (low);(conv=>lhs;simp only[Nf.gQ,Nf.all,Nat.reduceBEq,reduceAdd,reduceSub]);(all_goals skip))
 ·exact⟨hle,rfl⟩
 ·exact aO rfl (by(refine⟨.ai (by rfl),?_⟩;(iterate 2 refine⟨.eq rfl rfl,?_⟩);exact trivial)) (by(refine⟨.box _ rfl ?_,?_⟩;(iterate 3 refine⟨.ak (by rfl) rfl,?_⟩);refine⟨.ai (by rfl),?_⟩;refine⟨.ak (by rfl) rfl,?_⟩;refine⟨.ai (by rfl),?_⟩;(iterate 2 refine⟨.ak (by rfl) rfl,?_⟩);(iterate 3 refine⟨.ai (by rfl),?_⟩);refine⟨.ak (by rfl) rfl,?_⟩;refine⟨.ai (by rfl),?_⟩;(iterate 2 refine⟨.bF (by rfl),?_⟩);exact trivial;(iterate 3 refine⟨.row rfl,?_⟩);refine⟨.pool rfl (by rfl),?_⟩;(iterate 2 refine⟨.row rfl,?_⟩);refine⟨.pool rfl (by rfl),?_⟩;refine⟨.row rfl,?_⟩;refine⟨.pool rfl (by rfl),?_⟩;refine⟨.row rfl,?_⟩;exact trivial)) rfl
 rintro k ⟨hk,hf⟩
 by_cases aM:k<s.value.length
 ·by_cases h0:s.value[k]=0
  ·have e:=nG aM h0
   rw[hf] at e
   have h0':(decide (s.value[k]≠0))=false:=by simp [h0]
   have bx:¬k=s.value.length:=by omega
   rw[e,if_neg bx]
   ((iterate 2 refine zo ?_);(with_reducible apply AW.bu);exact rfl;exact rfl;kernel_rfl;(with_reducible assumption);refine DE ?_;refine zs ?_;refine zm ?_;refine Mm ?_;(focus ((with_reducible apply aa.aD);(iterate 4 exact rfl);(focus (intro h_;cases h_;done));rotate_left;(first|omega|exact Nat.zero_lt_one|(simp;done))));refine zt ?_;refine aa.neq rfl rfl rfl rfl rfl ?_;refine zT ?_;refine zd ?_;refine zk ?_;refine r8 ?_;(iterate 2 refine zo ?_);(with_reducible apply AW.bu);exact rfl;exact rfl;kernel_rfl;(with_reducible assumption);refine DE ?_;refine lh ?_;refine lP ?_;refine dZ ?_;refine Q9 ?_;refine aa.ah 94 5 5 rfl rfl rfl rfl ?_;refine zb ?_;refine fL ?_)
   (apply di;((exact bA.one (.tmp rfl rfl)));((exact ui));((exact Q2));exact rfl)
  ·have h0':(decide (s.value[k]≠0))=true:=by simp [h0]
   have e:=nO aM h0
   ((iterate 2 refine zo ?_);(with_reducible apply AW.bu);exact rfl;exact rfl;kernel_rfl;(with_reducible assumption);refine DE ?_;refine zs ?_;refine zm ?_;refine Mm ?_;(focus ((with_reducible apply aa.aD);(iterate 4 exact rfl);(focus (intro h_;cases h_;done));rotate_left;(first|omega|exact Nat.zero_lt_one|(simp;done))));refine zt ?_;refine aa.neq rfl rfl rfl rfl rfl ?_;refine zT ?_;refine zd ?_;refine zc ?_;refine qi ?_;refine AW.block ?_;refine lq ?_;refine Q9 ?_;refine aa.ah 94 5 5 rfl rfl rfl rfl ?_;refine zb ?_;refine zj ?_;refine aa.aI rfl rfl rfl ?_;refine aa.ah 94 5 5 rfl rfl rfl rfl ?_;(with_reducible apply aa.bG);(iterate 5 exact rfl);(first|exact rfl|assumption|exact dy _|exact dz _ _|exact dO _|exact dP _ _);(iterate 3 exact rfl);(with_reducible assumption);refine Q0 ?_;refine Ag ?_)
   exact⟨k+1,⟨by omega,by rw[← e];exact hf⟩,by omega,aO rfl (by(refine⟨.ai (by rfl),?_⟩;(iterate 2 refine⟨.eq rfl rfl,?_⟩);exact trivial)) (by(refine⟨.box _ rfl ?_,?_⟩;(iterate 3 refine⟨.ak (by rfl) rfl,?_⟩);refine⟨.ai (by rfl),?_⟩;refine⟨.ak (by rfl) rfl,?_⟩;refine⟨.ai (by rfl),?_⟩;(iterate 2 refine⟨.ak (by rfl) rfl,?_⟩);(iterate 3 refine⟨.ai (by rfl),?_⟩);refine⟨.ak (by rfl) rfl,?_⟩;refine⟨.ai (by rfl),?_⟩;(iterate 2 refine⟨.bF (by rfl),?_⟩);exact trivial;(iterate 3 refine⟨.row rfl,?_⟩);refine⟨.pool rfl (by rfl),?_⟩;(iterate 2 refine⟨.row rfl,?_⟩);refine⟨.pool rfl (by rfl),?_⟩;refine⟨.row rfl,?_⟩;refine⟨.pool rfl (by rfl),?_⟩;refine⟨.row rfl,?_⟩;exact trivial)) rfl⟩
 ·have hk2:k=s.value.length:=by omega
  have e:=pF (v:=s.value) (low:=k) aM
  rw[hf] at e
  rw[e,if_pos hk2]
  ((iterate 2 refine zo ?_);(with_reducible apply AW.bu);exact rfl;exact rfl;kernel_rfl;(with_reducible assumption);refine DE ?_;refine zs ?_;refine zm ?_;(iterate 11 refine aa.gG rfl rfl rfl rfl rfl rfl (by first|omega|decide) ?_);refine zF ?_;refine zd ?_;refine AW.e8 rfl rfl ?_;refine r8 ?_;(iterate 2 refine zo ?_);(with_reducible apply AW.bu);exact rfl;exact rfl;kernel_rfl;(with_reducible assumption);refine DE ?_;refine lh ?_;refine zc ?_;refine dZ ?_;refine iM ?_)
  (apply di;((exact bA.one (.tmp rfl rfl)));((exact ui));((exact Q2));exact rfl)
theorem py (s:SR) (lv:Int) (l6:(s.marks.length:Int)≤lv):jq Tryz.prog 53 11 (cu s) [.ptr 0 0,al lv] (cu s) (.tup []):=by
 refine jq.enter (n:=75) Tryz.func53 rfl rfl rfl rfl rfl (by decide) rfl rfl fun g aU aT=>?_;refine nk ?_
 (refine jL ?_;refine Q9 ?_;refine tJ ?_;refine xT ?_;refine zc ?_;refine AW.ret ?_;refine bZ ?_)
 (apply di;((exact bA.none));((exact mn));((exact Q2));exact rfl)
theorem CR (s:SR) (lv:Nat) (l6:lv<s.marks.length) (hm:0≤s.marks[lv]∧s.marks[lv].toNat≤(s.ll 0).length) (hl:(s.ll 0).length≤1000000) (JN:0≤s.low∧s.low≤1000000)
  (hx:∀x∈s.ll 0,(-1000000≤x∧x≤1000000)∧aG x<s.value.length):jq Tryz.prog 53 11 (cu s) [.ptr 0 0,al lv] (cu (yj s lv)) (.tup []):=by
 have Hr:s.marks.getD lv 0=s.marks[lv]:=aZ l6
 have hm2:(s.marks.getD lv 0).toNat≤(s.ll 0).length:=by rw[Hr];exact hm.2
 unfold yj
 rw[Hr]
 have ye:((s.ll 0).drop (s.marks[lv]).toNat).length=(s.ll 0).length - (s.marks[lv]).toNat:=List.length_drop
 simp only[cu,cv]
 refine jq.enter (n:=75) Tryz.func53 rfl rfl rfl rfl rfl (by decide) rfl rfl fun g aU aT=>?_;refine nk ?_
 refine AW.tt 4 rfl fun dy dz=>?_
 (refine jL ?_;refine Q9 ?_;refine tJ ?_;refine xT ?_;refine lP ?_;(iterate 2 refine zo ?_);(with_reducible apply AW.bu);exact rfl;exact rfl;kernel_rfl;(with_reducible assumption);refine Q9 ?_;refine aa.ah 94 3 3 rfl rfl rfl rfl ?_;refine zb ?_;refine Q9 ?_;refine aa.ah 94 4 4 rfl rfl rfl rfl ?_;refine dX ?_;refine uu ?_;(focus ((with_reducible apply aa.aD);(iterate 4 exact rfl);(focus (intro h_;cases h_;done));rotate_left;(first|omega|exact Nat.zero_lt_one|(simp;done))));(with_reducible apply aa.p_ 4);(iterate 8 exact rfl);(first|(with_reducible assumption)|omega|(simp only[ab,List.length_set];omega));(first|(with_reducible assumption)|omega|(simp only[ab,List.length_set];omega));refine aa.sS 4 rfl rfl rfl rfl rfl ?_;refine zm ?_;refine lf ?_)
 (refine Q0 ?_;apply AW.bM [26,25,0,1,1000] [1,2,3,4,5,6,7,8,9,10] (fun k:Nat=>([(27,al k)]:List (Nat×AV))) (fun k:Nat=>([(0,some (.box [.own 1 3 1 ((zeroV s.value (((s.ll 0).drop (s.marks[lv]).toNat).take k)).map encI),.own 2 3 1 ((s.level).map encI),.own 3 3 1 ((s.reason).map encI),.pv (.lit (s.hl 0)),.own 5 3 1 ((s.marks).map encI),al (j_ s.low (((s.ll 0).drop (s.marks[lv]).toNat).take k)),.own 6 25 1 (bO s.nc s.hc),.own 8 25 1 (bO s.nw s.hw),al (s.head),al (s.added),aF (s.broken),.own 10 44 3 ((s.proof).map j6),al 0,.pv (ec (s.model)),.pv (ec (s.core))]))]:List (Nat×Option Ob))) (fun k:Nat=>k≤((s.ll 0).drop (s.marks[lv]).toNat).length) (fun k:Nat=>((s.ll 0).drop (s.marks[lv]).toNat).length - k) (0);(conv=>lhs;simp only[Nf.gQ,Nf.all,Nat.reduceBEq,reduceAdd,reduceSub]);(all_goals skip))
 ·exact Nat.zero_le _
 ·exact aO rfl (by(refine⟨.ai (by first|rfl|(simp only[List.take_zero,bH,bW])),?_⟩;refine⟨.ai (by first|rfl|(simp only[List.take_zero,bH,bW])),?_⟩;refine⟨.ai (by first|rfl|(simp only[List.take_zero,bH,bW])),?_⟩;refine⟨.eq rfl rfl,?_⟩;refine⟨.ai (by first|rfl|(simp only[List.take_zero,bH,bW])),?_⟩;refine⟨.eq rfl rfl,?_⟩;exact trivial)) (by(refine⟨.box _ rfl ?_,?_⟩;refine⟨.ak (by first|rfl|(simp only[List.take_zero,bH,bW])) rfl,?_⟩;refine⟨.ak (by first|rfl|(simp only[List.take_zero,bH,bW])) rfl,?_⟩;refine⟨.ak (by first|rfl|(simp only[List.take_zero,bH,bW])) rfl,?_⟩;refine⟨.ai (by first|rfl|(simp only[List.take_zero,bH,bW])),?_⟩;refine⟨.ak (by first|rfl|(simp only[List.take_zero,bH,bW])) rfl,?_⟩;refine⟨.ai (by first|rfl|(simp only[List.take_zero,bH,bW])),?_⟩;refine⟨.ak (by first|rfl|(simp only[List.take_zero,bH,bW])) rfl,?_⟩;refine⟨.ak (by first|rfl|(simp only[List.take_zero,bH,bW])) rfl,?_⟩;refine⟨.ai (by first|rfl|(simp only[List.take_zero,bH,bW])),?_⟩;refine⟨.ai (by first|rfl|(simp only[List.take_zero,bH,bW])),?_⟩;refine⟨.ai (by first|rfl|(simp only[List.take_zero,bH,bW])),?_⟩;refine⟨.ak (by first|rfl|(simp only[List.take_zero,bH,bW])) rfl,?_⟩;refine⟨.ai (by first|rfl|(simp only[List.take_zero,bH,bW])),?_⟩;refine⟨.bF (by first|rfl|(simp only[List.take_zero,bH,bW])),?_⟩;refine⟨.bF (by first|rfl|(simp only[List.take_zero,bH,bW])),?_⟩;exact trivial;(iterate 3 refine⟨.row rfl,?_⟩);refine⟨.pool rfl (by first|rfl|(simp only[List.take_zero,bH,bW])),?_⟩;(iterate 2 refine⟨.row rfl,?_⟩);refine⟨.pool rfl (by first|rfl|(simp only[List.take_zero,bH,bW])),?_⟩;refine⟨.row rfl,?_⟩;refine⟨.pool rfl (by first|rfl|(simp only[List.take_zero,bH,bW])),?_⟩;refine⟨.row rfl,?_⟩;exact trivial)) rfl
 rintro k hk
 have Pw:=kY (((s.ll 0).drop (s.marks[lv]).toNat).take k) s.value
 by_cases xV:k<((s.ll 0).drop (s.marks[lv]).toNat).length
 ·have hz:=xJ (v:=s.value) xV
  have mq:=zZ (b:=s.low) xV
  have tu:((s.ll 0).drop (s.marks[lv]).toNat)[k]=(s.ll 0)[(s.marks[lv]).toNat+(k:Int).toNat]'(by simp only[Int.toNat_natCast];omega):=List.getElem_drop
  rw[tu] at hz mq
  obtain⟨hr,Fx⟩:=hx _ (List.getElem_mem (show(s.marks[lv]).toNat+(k:Int).toNat<(s.ll 0).length by simp only[Int.toNat_natCast];omega))
  have iJ:=Eb (b:=s.low) (l:=((s.ll 0).drop (s.marks[lv]).toNat).take k) JN fun y hy=>(hx y (List.mem_of_mem_drop (List.mem_of_mem_take hy))).1
  unfold aG at Fx hz
  (refine zq ?_;refine iO ?_;refine zo ?_;refine Q5 ?_;refine dZ ?_;(with_reducible apply aa.qp 4);(iterate 8 exact rfl);(first|(with_reducible assumption)|omega|(simp only[ab,List.length_set];omega));(first|(with_reducible assumption)|omega|(simp only[ab,List.length_set];omega));(focus ((with_reducible apply aa.aA 4);(iterate 5 exact rfl);(focus (intro h_;cases h_;done));rotate_left;(first|(with_reducible assumption)|omega|(simp only[ab,List.length_set];omega))));refine mP ?_;refine CZ ?_;refine mP ?_;refine Q9 ?_;refine pR ?_;refine zm ?_;refine nh ?_;(with_reducible apply aa.bQ);(iterate 4 exact rfl);(first|exact rfl|assumption|exact dy _|exact dz _ _|exact dO _|exact dP _ _);(iterate 3 exact rfl);refine gM ?_;refine AW.region ?_;refine yd ?_;refine aa.ah 94 5 5 rfl rfl rfl rfl ?_;refine dX ?_;refine aa.min2 rfl rfl rfl rfl rfl ?_;refine aa.aI rfl rfl rfl ?_;refine aa.ah 94 5 5 rfl rfl rfl rfl ?_;(with_reducible apply aa.bG);(iterate 5 exact rfl);(first|exact rfl|assumption|exact dy _|exact dz _ _|exact dO _|exact dP _ _);(iterate 3 exact rfl);(with_reducible assumption);refine Q0 ?_;refine aa.nil ?_;refine jB ?_)
  exact⟨k+1,by omega,by omega,aO rfl (by(refine⟨.ai (by first|rfl|(rw[cH,hz])|(rw[mq])),?_⟩;refine⟨.ai (by first|rfl|(rw[cH,hz])|(rw[mq])),?_⟩;refine⟨.ai (by first|rfl|(rw[cH,hz])|(rw[mq])),?_⟩;refine⟨.eq rfl rfl,?_⟩;refine⟨.ai (by first|rfl|(rw[cH,hz])|(rw[mq])),?_⟩;refine⟨.eq rfl rfl,?_⟩;exact trivial)) (by(refine⟨.box _ rfl ?_,?_⟩;refine⟨.ak (by first|rfl|(rw[cH,hz])|(rw[mq])) rfl,?_⟩;refine⟨.ak (by first|rfl|(rw[cH,hz])|(rw[mq])) rfl,?_⟩;refine⟨.ak (by first|rfl|(rw[cH,hz])|(rw[mq])) rfl,?_⟩;refine⟨.ai (by first|rfl|(rw[cH,hz])|(rw[mq])),?_⟩;refine⟨.ak (by first|rfl|(rw[cH,hz])|(rw[mq])) rfl,?_⟩;refine⟨.ai (by first|rfl|(rw[cH,hz])|(rw[mq])),?_⟩;refine⟨.ak (by first|rfl|(rw[cH,hz])|(rw[mq])) rfl,?_⟩;refine⟨.ak (by first|rfl|(rw[cH,hz])|(rw[mq])) rfl,?_⟩;refine⟨.ai (by first|rfl|(rw[cH,hz])|(rw[mq])),?_⟩;refine⟨.ai (by first|rfl|(rw[cH,hz])|(rw[mq])),?_⟩;refine⟨.ai (by first|rfl|(rw[cH,hz])|(rw[mq])),?_⟩;refine⟨.ak (by first|rfl|(rw[cH,hz])|(rw[mq])) rfl,?_⟩;refine⟨.ai (by first|rfl|(rw[cH,hz])|(rw[mq])),?_⟩;refine⟨.bF (by first|rfl|(rw[cH,hz])|(rw[mq])),?_⟩;refine⟨.bF (by first|rfl|(rw[cH,hz])|(rw[mq])),?_⟩;exact trivial;(iterate 3 refine⟨.row rfl,?_⟩);refine⟨.pool rfl (by first|rfl|(rw[cH,hz])|(rw[mq])),?_⟩;(iterate 2 refine⟨.row rfl,?_⟩);refine⟨.pool rfl (by first|rfl|(rw[cH,hz])|(rw[mq])),?_⟩;refine⟨.row rfl,?_⟩;refine⟨.pool rfl (by first|rfl|(rw[cH,hz])|(rw[mq])),?_⟩;refine⟨.row rfl,?_⟩;exact trivial)) rfl⟩
 ·obtain rfl:k=((s.ll 0).drop (s.marks[lv]).toNat).length:=by omega
  rw[List.take_length]
  (refine zq ?_;refine yg ?_;refine zo ?_;refine AW.bN [0,1,2,3,4,5,6,7,8,9,10] [15] rfl (by assumption) (by kernel_rfl) (by kernel_rfl) rfl ?_;show aa .held _ _ _ [_,_,_,_,_,_,_,_,_,_,_] _ _;refine yd ?_;refine aa.ah 94 3 3 rfl rfl rfl rfl ?_;refine zb ?_;refine Q9 ?_;refine aa.ah 94 4 4 rfl rfl rfl rfl ?_;refine dX ?_;refine uu ?_;refine Q4 ?_;intro k_ cR;refine sR ?_;intro g_ ag bw;(focus ((with_reducible apply aa.aD);(iterate 4 exact rfl);(focus (intro h_;cases h_;done));rotate_left;(first|omega|exact Nat.zero_lt_one|(simp;done))));refine Q4 ?_;refine AR.c9 [12,13,14] (by kernel_rfl) (by kernel_rfl) (by kernel_rfl) (by kernel_rfl) ?_;intro g_ ag;show aa .held _ _ _ [_,_,_] _ _;(with_reducible apply aa.nM 4);(iterate 8 exact rfl);(first|(with_reducible assumption)|omega|(simp only[ab,List.length_set];omega));(first|(with_reducible assumption)|omega|(simp only[ab,List.length_set];omega));refine aa.aI rfl rfl rfl ?_;refine aa.ah 94 3 3 rfl rfl rfl rfl ?_;refine Q4 ?_;intro k_ cR;refine Q0 ?_;refine AR.cK (i:=15) rfl (by kernel_rfl) rfl (by kernel_rfl) ?_;intro g_ ag aJ;(with_reducible apply aa.bG);(iterate 5 exact rfl);(first|exact rfl|assumption|exact dy _|exact dz _ _|exact dO _|exact dP _ _);(iterate 3 exact rfl);(with_reducible assumption);refine mE ?_;(with_reducible apply AW.oH 9 4 0 (s.marks.getD lv 0).toNat);exact rfl;omega;(rw[Hr]);(try (conv=>rhs;simp only[Nf.cP,Nf.all,Nat.reduceBEq,reduceAdd,reduceSub]));refine AW.region ?_;refine yd ?_;refine aa.ah 94 4 4 rfl rfl rfl rfl ?_;refine dX ?_;(with_reducible apply aa.zH);(iterate 7 exact rfl);omega;(first|omega|(simp only[List.length_map,List.length_append,List.length_cons,List.length_nil,List.length_drop,List.length_take,List.length_set,List.length_range,aL];omega));refine aa.aI rfl rfl rfl ?_;refine aa.ah 94 4 4 rfl rfl rfl rfl ?_;(with_reducible apply aa.bG);(iterate 5 exact rfl);(first|exact rfl|assumption|exact dy _|exact dz _ _|exact dO _|exact dP _ _);(iterate 3 exact rfl);(with_reducible assumption);refine Q0 ?_;refine aa.nil ?_)
  (apply iY;((exact bA.none));((exact mn));((refine⟨.box _ rfl ?_,?_⟩;(iterate 2 refine LU ?_);(iterate 2 refine JB ?_);refine LU ?_;refine JB ?_;(iterate 2 refine⟨.ai (by first|rfl|(rw[List.map_take];rfl)),?_⟩);refine JB ?_;(iterate 2 refine⟨.bF (by first|rfl|(rw[List.map_take];rfl)),?_⟩);exact trivial;(iterate 3 refine⟨.row rfl,?_⟩);refine Hz ?_;(iterate 2 refine⟨.row rfl,?_⟩);refine Hz ?_;refine⟨.row rfl,?_⟩;refine Hz ?_;exact wE));exact rfl)
end Go.Ab
/- The solver:going back to a level;a clause attached,walked. -/
namespace Go.Ab
open Go Go.Proofs
open Nat (reduceAdd reduceSub)
set_option maxRecDepth 20000
set_option maxHeartbeats 4000000
def x8 (s:SR):SR:={s with head:=min s.head ((s.ll 0).length:Int)}
def er (s:SR) (x:Int) (at':Nat) (h:Value):SR:={s with hw:=aC s.hw (aq x).toNat h,wl:=aC s.wl (aq x).toNat (s.wl (aq x).toNat++ [(at':Int)])}
structure RK (s:SR) (x y:Int) (k:Nat) (hw:Nat→Value) (wl:Nat→List Int):Prop where
 le:k≤2
 i0:k=0→hw=s.hw∧wl=s.wl
 i1:k=1→∃h:Value,h.oneCell'=true∧hw=aC s.hw (aq x).toNat h∧wl=aC s.wl (aq x).toNat (s.wl (aq x).toNat++ [(s.nc:Int)])
 i2:k=2→∃h h':Value,h.oneCell'=true∧h'.oneCell'=true∧hw=aC (aC s.hw (aq x).toNat h) (aq y).toNat h'∧wl=aC (aC s.wl (aq x).toNat (s.wl (aq x).toNat++ [(s.nc:Int)])) (aq y).toNat (aC s.wl (aq x).toNat (s.wl (aq x).toNat++ [(s.nc:Int)]) (aq y).toNat++ [(s.nc:Int)])
attribute [local irreducible] bO AW aa bE aX AR bd aW bm bD fy fI aq
theorem s8 (s s1:SR) (lv:Int) (hb:jq Tryz.prog 53 11 (cu s) [.ptr 0 0,al lv] (cu s1) (.tup [])):jq Tryz.prog 58 11 (cu s) [.ptr 0 0,al lv] (cu (x8 s1)) (.tup []):=by
 simp only[cu,cv] at hb ⊢
 refine jq.enter (n:=23) Tryz.func58 rfl rfl rfl rfl rfl (by decide) rfl rfl fun g aU aT=>?_;refine nk ?_
 (refine zq ?_;refine kc ?_;refine zX (hb) ?_;refine eV ?_;refine zd ?_;refine AW.bN [0,1,2,3,4,5,6,7,8,9,10,11,12,13] [14] rfl (by assumption) (by kernel_rfl) (by kernel_rfl) rfl ?_;show aa .held _ _ _ [_,_,_,_,_,_,_,_,_,_,_,_,_,_] _ _;refine yd ?_;refine B9 ?_;refine xl ?_;refine zN ?_;refine aa.min2 rfl rfl rfl rfl rfl ?_;refine aa.aI rfl rfl rfl ?_;refine aa.ah 96 3 8 rfl rfl rfl rfl ?_;refine Q4 ?_;intro k_ cR;refine Q0 ?_;refine oK ?_;intro g_ ag aJ;(with_reducible apply aa.bG);(iterate 5 exact rfl);(first|exact rfl|assumption|exact dy _|exact dz _ _|exact dO _|exact dP _ _);(iterate 3 exact rfl);(with_reducible assumption);refine pM ?_)
 (apply iY;((exact bA.none));((exact mn));((exact Lp));exact rfl)
end Go.Ab
/- The solver:a step of the proof logged;the end of a search,walked. -/
namespace Go.Ab
open Go Go.Proofs
open Nat (reduceAdd reduceSub)
set_option maxRecDepth 20000
set_option maxHeartbeats 4000000
attribute [local irreducible] bO AW aa bE aX AR bd aW bm bD fy fI
theorem nT (l:List Int) (hl:l.length≤1000000):Fn Tryz.prog 66 [.pv (ec l)] (.pv (ec l)):=by
 refine Fn.enter (n:=8) Tryz.func66 rfl rfl rfl rfl rfl (by decide) fun g aU aT=>?_;(try (conv=>rhs;simp only[Nf.cP,Nf.all,Nat.reduceBEq,reduceAdd,reduceSub]))
 (refine jw ?_;refine ez ?_;(focus ((with_reducible apply aa.qO);(iterate 6 exact rfl);all_goals intro jW));refine wi ?_;refine dZ ?_;refine iM ?_;(all_goals skip);rotate_left;refine qJ ?_;refine dZ ?_;refine aa.JO rfl rfl rfl rfl rfl ?_;refine Q0 ?_;refine zm ?_;(with_reducible apply aa.bh);exact rfl;(first|exact .pv rfl|exact .own rfl|exact .nil rfl);(iterate 9 exact rfl);(first|omega|(simp only[List.length_map,List.length_append,List.length_cons,List.length_nil,List.length_drop,List.length_take,List.length_set,List.length_range,aL];omega));refine Q0 ?_;refine nN ?_;(all_goals skip);rotate_left)
 ·obtain rfl:l=[]:=by simpa using jW
  (apply ax;(exact bA.one (.tmp rfl rfl));(exact Le.nil _))
 ·(apply ax;(exact bA.one (.tmp rfl rfl));(exact Le.own _ _ _ _ rfl))
theorem A4 (s:SR) (l:List Int) (hl:l.length≤1000000) (hp:s.proof.length≤1000000):jq Tryz.prog 93 11 (cu s) [.ptr 0 0,.pv (ec l)] (cu {s with proof:=s.proof++ [l]}) (.tup []):=by
 have hc:=nT l hl
 simp only[cu,cv]
 refine jq.enter (n:=16) Tryz.func93 rfl rfl rfl rfl rfl (by decide) rfl rfl fun g aU aT=>?_;refine nk ?_
 (refine AW.bN [0,1,2,3,4,5] [12] rfl (by assumption) (by kernel_rfl) (by kernel_rfl) rfl ?_;show aa .held _ _ _ [_,_,_,_,_,_] _ _;refine yd ?_;refine aa.ah 96 6 11 rfl rfl rfl rfl ?_;refine dX ?_;refine Q4 ?_;intro k_ cR;refine Q0 ?_;refine AR.ba (i:=6) rfl (by kernel_rfl) rfl ?_;intro g_ ag bw;refine zP (hc) ?_;refine Q4 ?_;refine AR.free 7 (by kernel_rfl) rfl rfl rfl (bq.build 44 [0,1] rfl rfl rfl rfl rfl rfl rfl rfl) ?_;(try (conv=>rhs;simp only[Nf.cP,Nf.all,Nat.reduceBEq,reduceAdd,reduceSub]));refine AR.ba (i:=8) rfl (by kernel_rfl) rfl ?_;intro g_ ag bw;refine DL ?_;refine AR.ba (i:=9) rfl (by kernel_rfl) rfl ?_;intro g_ ag bw;(with_reducible apply aa.bh);exact rfl;(first|exact .pv rfl|exact .own rfl|exact .nil rfl);(iterate 9 exact rfl);(first|omega|(simp only[List.length_map,List.length_append,List.length_cons,List.length_nil,List.length_drop,List.length_take,List.length_set,List.length_range,aL];omega));refine im ?_;refine AR.c9 [10,11] (by kernel_rfl) (by kernel_rfl) (by kernel_rfl) (by kernel_rfl) ?_;intro g_ ag;show aa .held _ _ _ [_,_] _ _;refine aa.aI rfl rfl rfl ?_;refine CX ?_;intro k_ cR;refine Q0 ?_;refine mI ?_;intro g_ ag aJ;(with_reducible apply aa.bG);(iterate 5 exact rfl);(first|exact rfl|assumption|exact dy _|exact dz _ _|exact dO _|exact dP _ _);(iterate 3 exact rfl);(with_reducible assumption);refine pM ?_)
 (apply iY;((exact bA.none));((exact mn));((exact Qi));exact rfl)
theorem Ar (hs:Nat→Value) (ls:Nat→List Int) (k:Nat) (hl:(ls k).length≤1000000) (h0:0<(ls k).length):jq Tryz.prog 66 11 [(7,some (.pool 3 (eJ hs ls)))] [.pv (.lit (hs k))] [(7,some (.pool 3 (eJ hs ls)))] (.pv (ec (ls k))):=by
 refine jq.enter (n:=8) Tryz.func66 rfl rfl rfl rfl rfl (by decide) rfl rfl fun g aU aT=>?_;refine nk ?_
 (refine jw ?_;refine ez ?_;(with_reducible apply aa.Ac 7);(iterate 7 exact rfl);omega;(try (conv=>rhs;simp only[Nf.cP,Nf.all,Nat.reduceBEq,reduceAdd,reduceSub]));refine qJ ?_;refine zq ?_;refine aa.JO rfl rfl rfl rfl rfl ?_;refine Q0 ?_;refine zm ?_;(with_reducible apply aa.vD 7);(iterate 11 exact rfl);(simp only[List.length_nil];omega);(try (conv=>rhs;simp only[Nf.cP,Nf.all,Nat.reduceBEq,reduceAdd,reduceSub]));refine nN ?_)
 (apply di;((exact bA.one (.tmp rfl rfl)));((refine⟨.s5 rfl (by first|with_reducible rfl|(rfl)),?_⟩;exact sB));((refine⟨.pool rfl (by first|with_reducible rfl|(rfl)),?_⟩;exact trivial));exact rfl)
theorem AJ (s:SR) (hl:(s.cl s.nc).length≤1000000) (hp:s.proof.length≤1000000) (h0:0<(s.cl s.nc).length):jq Tryz.prog 93 11 (cu s) [.ptr 0 0,.pv (.lit (s.hc s.nc))] (cu {s with proof:=s.proof++ [s.cl s.nc]}) (.tup []):=by
 have hc:=Ar s.hc s.cl s.nc hl h0
 simp only[cu,cv]
 refine jq.enter (n:=16) Tryz.func93 rfl rfl rfl rfl rfl (by decide) rfl rfl fun g aU aT=>?_;refine nk ?_
 (refine AW.bN [5] [6] rfl (by assumption) (by kernel_rfl) (by kernel_rfl) rfl ?_;show aa .held _ _ _ [_] _ _;refine zm ?_;refine Q4 ?_;intro k_ cR;refine Q0 ?_;(refine AR.free 0 (by kernel_rfl) rfl rfl rfl (by first|exact bq.bc rfl rfl|exact bq.cU rfl rfl|exact bq.nilCheck rfl rfl) ?_);(refine AR.free 1 (by kernel_rfl) rfl rfl rfl (by first|exact bq.bc rfl rfl|exact bq.cU rfl rfl|exact bq.nilCheck rfl rfl) ?_);(refine AR.free 2 (by kernel_rfl) rfl rfl rfl (by first|exact bq.bc rfl rfl|exact bq.cU rfl rfl|exact bq.nilCheck rfl rfl) ?_);apply AR.cut [2,1,0,5,3,4,6,7,8];intro jt;apply AR.cut [2,1,0,5,3,4,6,7];intro nB;(refine AR.tX (i:=3) (j:=6) rfl (by kernel_rfl) rfl rfl (by kernel_rfl) ?_ ?_<;>intro g_ ag aJ);refine CX ?_;(refine AR.tX (i:=4) (j:=6) rfl (by kernel_rfl) rfl rfl (by kernel_rfl) ?_ ?_<;>intro g_ ag aJ);refine zb ?_;refine qQ ?_;intro g_ ag aJ;refine Jy ?_;(try (conv=>rhs;simp only[Nf.cP,Nf.all,Nat.reduceBEq,reduceAdd,reduceSub]));(try (conv=>rhs;simp only[Nf.cP,Nf.all,Nat.reduceBEq,reduceAdd,reduceSub]));exact Bc;refine Jy ?_;(try (conv=>rhs;simp only[Nf.cP,Nf.all,Nat.reduceBEq,reduceAdd,reduceSub]));(refine AR.tn (i:=4) (j:=8) rfl (by kernel_rfl) rfl rfl (by kernel_rfl) ?_ ?_<;>intro g_ ag aJ);refine zb ?_;refine Q4 ?_;(try (conv=>rhs;simp only[Nf.cP,Nf.all,Nat.reduceBEq,reduceAdd,reduceSub]));refine AR.meet nB (by kernel_rfl) (fun g_=>aO rfl ?_ ?_ rfl);(iterate 11 refine⟨.eq rfl rfl,?_⟩);exact trivial;exact HQ;refine DL ?_;refine EC ?_;intro g_ ag aJ;refine zb ?_;refine Q4 ?_;(try (conv=>rhs;simp only[Nf.cP,Nf.all,Nat.reduceBEq,reduceAdd,reduceSub]));exact rK;refine Jy ?_;(try (conv=>rhs;simp only[Nf.cP,Nf.all,Nat.reduceBEq,reduceAdd,reduceSub]));(refine AR.tn (i:=3) (j:=8) rfl (by kernel_rfl) rfl rfl (by kernel_rfl) ?_ ?_<;>intro g_ ag aJ);refine CX ?_;(refine AR.tn (i:=4) (j:=8) rfl (by kernel_rfl) rfl rfl (by kernel_rfl) ?_ ?_<;>intro g_ ag aJ);refine zb ?_;refine Q4 ?_;(try (conv=>rhs;simp only[Nf.cP,Nf.all,Nat.reduceBEq,reduceAdd,reduceSub]));refine AR.meet nB (by kernel_rfl) (fun g_=>aO rfl ?_ ?_ rfl);(iterate 11 refine⟨.eq rfl rfl,?_⟩);exact trivial;exact HQ;refine DL ?_;refine EC ?_;intro g_ ag aJ;refine zb ?_;refine Q4 ?_;(try (conv=>rhs;simp only[Nf.cP,Nf.all,Nat.reduceBEq,reduceAdd,reduceSub]));exact Jm;refine DL ?_;refine AR.cK (i:=3) rfl (by kernel_rfl) rfl (by kernel_rfl) ?_;intro g_ ag aJ;refine CX ?_;refine EC ?_;intro g_ ag aJ;refine zb ?_;refine Q4 ?_;(try (conv=>rhs;simp only[Nf.cP,Nf.all,Nat.reduceBEq,reduceAdd,reduceSub]));exact Jm;refine DW ?_;intro g_ ag aJ;refine DL ?_;(try (conv=>rhs;simp only[Nf.cP,Nf.all,Nat.reduceBEq,reduceAdd,reduceSub]));exact Jm;refine BZ ?_;intro g_ ag aJ;(with_reducible apply aa.bh);exact rfl;(first|exact .pv rfl|exact .own rfl|exact .nil rfl);(iterate 9 exact rfl);(first|omega|(simp only[List.length_map,List.length_append,List.length_cons,List.length_nil,List.length_drop,List.length_take,List.length_set,List.length_range,aL];omega));refine im ?_;refine AR.cK (i:=10) rfl (by kernel_rfl) rfl (by kernel_rfl) ?_;intro g_ ag aJ;refine nD ?_;refine wK ?_;intro g_ ag aJ;refine CX ?_;refine mI ?_;intro g_ ag aJ;(with_reducible apply aa.bG);(iterate 5 exact rfl);(first|exact rfl|assumption|exact dy _|exact dz _ _|exact dO _|exact dP _ _);(iterate 3 exact rfl);(with_reducible assumption);refine pM ?_)
 (apply iY;((exact bA.none));((exact mn));((exact Qi));exact rfl)
end Go.Ab
/- The solver's invariant,in plain terms:the trail. -/
namespace Go.Ab
open Go Go.Proofs
def fD (n:Nat) (L:List Int):List Int:=(List.range (n+1)).map fun v:Nat=>if (v:Int)∈L then 1 else if -(v:Int)∈L then -1 else 0
structure ee (n:Nat) (L:List Int):Prop where
 rng:∀x∈L,x≠0∧ -(n:Int)≤x∧x≤n
 nd:(L.map aG).Nodup
theorem bV (x:Int):aG (-x)=aG x:=by unfold aG;omega
theorem yB {x y:Int}:aG x=aG y↔x=y∨x= -y:=by unfold aG;omega
theorem dG {n:Nat} {x:Int} (h:x≠0∧ -(n:Int)≤x∧x≤n):1≤aG x∧aG x≤n:=by unfold aG;omega
theorem eC (n:Nat) (L:List Int):(fD n L).length=n+1:=by simp [fD]
theorem mA {n v:Nat} (L:List Int) (h:v≤n):(fD n L).getD v 0=if (v:Int)∈L then 1 else if -(v:Int)∈L then -1 else 0:=by
 unfold fD
 rw[List.getD_eq_getElem?_getD,List.getElem?_map,List.getElem?_range (by omega)];rfl
theorem ee.once {n:Nat} {L:List Int} (h:ee n L) {x y:Int} (hx:x∈L) (hy:y∈L) (hv:aG x=aG y):x=y:=by
 obtain⟨i,hi,rfl⟩:=List.getElem_of_mem hx
 obtain⟨j,hj,rfl⟩:=List.getElem_of_mem hy
 have:i=j:=(List.getElem_inj h.nd (h₀:=by simpa using hi) (h₁:=by simpa using hj)).1 (by simpa using hv)
 subst this;rfl
theorem ee.iS {n:Nat} {L:List Int} (h:ee n L) {x:Int} (hx:x∈L): -x∉L:=fun hn=>by
 have:=h.once hx hn (bV x).symm
 have:=(h.rng x hx).1
 omega
theorem DN {n:Nat} {L:List Int} {x:Int} (hx:x≠0∧ -(n:Int)≤x∧x≤n) (h:ee n L):M8 (fD n L) x=if x∈L then 1 else if -x∈L then -1 else 0:=by
 unfold M8
 by_cases hn:x<0
 ·rw[if_pos hn,mA L (by omega),show(((-x).toNat:Nat):Int)= -x by omega,Int.neg_neg]
  by_cases h1:x∈L
  ·rw[if_neg (h.iS h1),if_pos h1,if_pos h1];rfl
  ·by_cases h2: -x∈L
   ·rw[if_pos h2,if_neg h1,if_pos h2]
   ·rw[if_neg h2,if_neg h1,if_neg h1,if_neg h2];rfl
 ·rw[if_neg hn,mA L (by omega),show((x.toNat:Nat):Int)=x by omega]
theorem vN {n:Nat} {L:List Int}:∀y∈fD n L,-1≤y∧y≤1:=by
 intro y hy
 unfold fD at hy
 obtain⟨v,_,rfl⟩:=List.mem_map.1 hy
 split
 ·omega
 ·split<;>omega
theorem nH:∀(n:Nat) {l:List Nat},l.Nodup→(∀x∈l,1≤x∧x≤n)→l.length≤n:=by
 intro n
 induction n with
 |zero=>intro l _ h;cases l with|nil=>simp|cons x l=>have:=h x (by simp);omega
 |succ n ih=>
  intro l hn h
  have h1:=ih (l:=l.erase (n+1)) (hn.erase _) (fun x hx=>by
   have h2:=h x (List.mem_of_mem_erase hx)
   have h3:x≠n+1:=fun e=>by subst e;exact(List.Nodup.not_mem_erase hn) hx
   omega)
  have:=List.length_erase (a:=n+1) (l:=l)
  split at this<;>omega
theorem ee.len {n:Nat} {L:List Int} (h:ee n L):L.length≤n:=by
 have:=nH n h.nd fun v hv=>by
  obtain⟨x,hx,rfl⟩:=List.mem_map.1 hv
  exact dG (h.rng x hx)
 simpa using this
theorem ee.push {n:Nat} {L:List Int} (h:ee n L) {x:Int} (hx:x≠0∧ -(n:Int)≤x∧x≤n) (h1:x∉L) (h2: -x∉L):ee n (L++ [x]) where
 rng:=fun y hy=>by
  rcases List.mem_append.1 hy with hy|hy
  ·exact h.rng y hy
  ·rw[List.mem_singleton.1 hy];exact hx
 nd:=by
  rw[List.map_append,List.nodup_append]
  refine⟨h.nd,by simp,fun v hv w hw=>?_⟩
  obtain⟨y,hy,rfl⟩:=List.mem_map.1 hv
  simp at hw
  subst hw
  intro e
  rcases yB.1 e with rfl|rfl
  ·exact h1 hy
  ·exact h2 hy
theorem rY {n:Nat} {L:List Int} {x:Int} (hx:x≠0∧ -(n:Int)≤x∧x≤n) (h1:x∉L) (h2: -x∉L):(fD n L).set (aG x) (ly x)=fD n (L++ [x]):=by
 apply List.ext_getElem (by simp [fD])
 intro v q1 q2
 have hv:v≤n:=by simp [fD] at q1;omega
 rw[List.getElem_set]
 simp only[fD,List.getElem_map,List.getElem_range,List.mem_append,List.mem_singleton]
 unfold ly
 by_cases e:aG x=v
 ·rw[if_pos e]
  unfold aG at e
  by_cases hn:x<0
  ·have e1:x= -(v:Int):=by omega
   rw[if_pos hn,if_neg (fun h=>h.elim (fun h=>h2 (by rw[e1,Int.neg_neg];exact h)) (fun h=>by omega)),if_pos (.inr e1.symm)]
  ·have e1:x=(v:Int):=by omega
   rw[if_neg hn,if_pos (.inr e1.symm)]
 ·rw[if_neg e]
  unfold aG at e
  have e1:¬(v:Int)=x:=by omega
  have e2:¬ -(v:Int)=x:=by omega
  simp only[e1,e2,or_false]
theorem zI {l:List Int} {v:List Int} {j:Nat} (hj:j<(zeroV v l).length):(zeroV v l)[j]=if j∈l.map aG then 0 else v[j]'(by rw[kY] at hj;exact hj):=by
 unfold zeroV at hj ⊢
 induction l generalizing v with
 |nil=>simp
 |cons x l ih=>
  simp only[List.foldl_cons] at hj ⊢
  rw[ih hj,List.getElem_set]
  simp only[List.map_cons,List.mem_cons]
  by_cases h1:j∈l.map aG
  ·rw[if_pos h1,if_pos (.inr h1)]
  ·rw[if_neg h1]
   by_cases h2:aG x=j
   ·rw[if_pos h2,if_pos (.inl h2.symm)]
   ·rw[if_neg h2,if_neg (fun h=>h.elim (fun h=>h2 h.symm) h1)]
theorem y8 {n:Nat} {L:List Int} (h:ee n L) (m:Nat):zeroV (fD n L) (L.drop m)=fD n (L.take m):=by
 apply List.ext_getElem (by rw[kY];simp [fD])
 intro v q1 q2
 have hv:v≤n:=by simp [fD] at q2;omega
 rw[zI q1]
 simp only[fD,List.getElem_map,List.getElem_range]
 have Jh:∀y,y∈L↔y∈L.take m∨y∈L.drop m:=fun y=>by conv=>lhs;rw[← List.take_append_drop m L,List.mem_append]
 have tM:∀{y z},y∈L.take m→z∈L.drop m→aG y≠aG z:=fun {y z} hy hz e=>by
  have dB:=h.nd
  rw[← List.take_append_drop m L,List.map_append,List.nodup_append] at dB
  exact dB.2.2 _ (List.mem_map_of_mem hy) _ (List.mem_map_of_mem hz) e
 have hv1:aG (v:Int)=v:=by unfold aG;omega
 have hv2:aG (-(v:Int))=v:=by unfold aG;omega
 by_cases h1:v∈(L.drop m).map aG
 ·rw[if_pos h1]
  obtain⟨z,hz,e⟩:=List.mem_map.1 h1
  rw[if_neg (fun hh=>tM hh hz (by rw[e,hv1])),if_neg (fun hh=>tM hh hz (by rw[e,hv2]))]
 ·rw[if_neg h1]
  have g1:(v:Int)∉L.drop m:=fun hh=>h1 (List.mem_map.2 ⟨_,hh,hv1⟩)
  have g2: -(v:Int)∉L.drop m:=fun hh=>h1 (List.mem_map.2 ⟨_,hh,hv2⟩)
  simp only[Jh,g1,g2,or_false]
theorem ee.take {n:Nat} {L:List Int} (h:ee n L) (m:Nat):ee n (L.take m):=⟨fun x hx=>h.rng x (List.mem_of_mem_take hx),by rw[List.map_take];exact h.nd.sublist (List.take_sublist _ _)⟩
end Go.Ab
/- The solver's invariant,in plain terms:clauses,watches,levels,reasons. -/
namespace Go.Ab
open Go Go.Proofs
abbrev Lit (n:Nat) (x:Int):Prop:=x≠0∧ -(n:Int)≤x∧x≤n
abbrev c0 (c:List Int):Int:=c.getD 0 0
abbrev c1 (c:List Int):Int:=c.getD 1 0
def aE (s:SR) (x:Int):Int:=s.level.getD (aG x) 0
structure br (n:Nat) (s:SR):Prop where
 hn:n≤20000
 trl:ee n (s.ll 0)
 val:s.value=fD n (s.ll 0)
 lvl:s.level.length=n+1
 rsn:s.reason.length=n+1
 hd:0≤s.head∧s.head≤((s.ll 0).length:Int)
 mrk:∀m∈s.marks,0≤m∧m≤s.head
 lev:∀i (h:i<(s.ll 0).length),aE s (s.ll 0)[i]=(s.marks.countP fun m=>decide (m≤(i:Int)):Nat)
 cls:∀j,j<s.nc→2≤(s.cl j).length∧(s.cl j).Nodup∧∀x∈s.cl j,Lit n x
 fresh:∀j,s.nc≤j→s.cl j=[]∧s.hc j=.slice none 0 0
 nc:s.nc≤100000
 nw:s.nw=2*n+2
 wt:∀x,Lit n x→∀e∈s.wl (aq x).toNat,∃j:Nat,j<s.nc∧e=(j:Int)∧(c0 (s.cl j)=x∨c1 (s.cl j)=x)
 wnd:∀k,(s.wl k).Nodup
 wto:∀j,j<s.nc→(j:Int)∈s.wl (aq (c0 (s.cl j))).toNat∧(j:Int)∈s.wl (aq (c1 (s.cl j))).toNat
 two:∀j,j<s.nc→∀w w',(w=c0 (s.cl j)∧w'=c1 (s.cl j))∨(w=c1 (s.cl j)∧w'=c0 (s.cl j))→ -w∈(s.ll 0).take s.head.toNat→w'∈s.ll 0∧aE s w'≤aE s w
 srt:s.marks.Pairwise (·≤·)
 rea:∀i (h:i<(s.ll 0).length),(s.reason.getD (aG (s.ll 0)[i]) 0= -1∧((i:Int)∈s.marks∨aE s (s.ll 0)[i]=0))∨∃j:Nat,j<s.nc∧s.reason.getD (aG (s.ll 0)[i]) 0=(j:Int)∧(s.ll 0)[i]∈s.cl j∧∀y∈s.cl j,y≠(s.ll 0)[i]→ -y∈(s.ll 0).take i
theorem cB {n:Nat} {x y:Int} (hx:Lit n x) (hy:Lit n y) (h:(aq x).toNat=(aq y).toNat):x=y:=by
 unfold aq at h;split at h<;>split at h<;>omega
theorem cL {n:Nat} {x:Int} (hx:Lit n x):0≤aq x∧(aq x).toNat<2*n+2:=by
 unfold aq;split<;>omega
structure fF (c d:List Int):Prop where
 len:d.length=c.length
 nd:c.Nodup→d.Nodup
 mem:∀x,x∈d↔x∈c
theorem eo {c:List Int} (h:2≤c.length):c0 c∈c∧c1 c∈c:=by
 constructor
 ·rw[show c0 c=c[0] from aZ (by omega)];exact List.getElem_mem _
 ·rw[show c1 c=c[1] from aZ (by omega)];exact List.getElem_mem _
theorem swap_perm {c:List Int} {i k:Nat} (hi:i<c.length) (hk:k<c.length):((c.set i c[k]).set k c[i]).Perm c:=by
 by_cases e:i=k
 ·subst e;simp
 ·exact List.set_set_perm hi hk
theorem jM {c:List Int} {i k:Nat} (hi:i<c.length) (hk:k<c.length):fF c ((c.set i c[k]).set k c[i]):=
 ⟨by simp,fun h=>(swap_perm hi hk).nodup_iff.2 h,fun x=>(swap_perm hi hk).mem_iff⟩
theorem br.swap {n:Nat} {s:SR} (h:br n s) {j:Nat} (hj:j<s.nc) {d:List Int} (hp:fF (s.cl j) d) (h0:c0 d=c1 (s.cl j)) (h1:c1 d=c0 (s.cl j)):br n {s with cl:=aC s.cl j d} where
 hn:=h.hn
 trl:=h.trl
 val:=h.val
 lvl:=h.lvl
 rsn:=h.rsn
 hd:=h.hd
 mrk:=h.mrk
 srt:=h.srt
 lev:=h.lev
 cls:=fun k hk=>by
  show 2≤(aC s.cl j d k).length∧(aC s.cl j d k).Nodup∧∀x∈aC s.cl j d k,Lit n x
  by_cases e:k=j
  ·subst e
   rw[ab]
   obtain⟨q1,q2,q3⟩:=h.cls k hk
   exact⟨by rw[hp.len];exact q1,hp.nd q2,fun x hx=>q3 x ((hp.mem x).1 hx)⟩
  ·rw[aQ _ _ e];exact h.cls k hk
 fresh:=fun k hk=>by
  have hk:s.nc≤k:=hk
  have:=h.fresh k hk
  exact⟨by show aC s.cl j d k=[];rw[aQ _ _ (by omega)];exact this.1,this.2⟩
 nc:=h.nc
 nw:=h.nw
 wt:=fun x hx e he=>by
  obtain⟨k,hk,rfl,hw⟩:=h.wt x hx e he
  refine⟨k,hk,rfl,?_⟩
  show c0 (aC s.cl j d k)=x∨c1 (aC s.cl j d k)=x
  by_cases e:k=j
  ·subst e;rw[ab,h0,h1];exact hw.symm
  ·rw[aQ _ _ e];exact hw
 wnd:=h.wnd
 wto:=fun k hk=>by
  show(k:Int)∈s.wl (aq (c0 (aC s.cl j d k))).toNat∧(k:Int)∈s.wl (aq (c1 (aC s.cl j d k))).toNat
  by_cases e:k=j
  ·subst e;rw[ab,h0,h1];exact(h.wto k hk).symm
  ·rw[aQ _ _ e];exact h.wto k hk
 two:=fun k hk w w' hw=>by
  have hw:(w=c0 (aC s.cl j d k)∧w'=c1 (aC s.cl j d k))∨(w=c1 (aC s.cl j d k)∧w'=c0 (aC s.cl j d k)):=hw
  refine h.two k hk w w' ?_
  by_cases e:k=j
  ·subst e;rw[ab,h0,h1] at hw;exact hw.symm
  ·rw[aQ _ _ e] at hw;exact hw
 rea:=fun i hi=>by
  rcases h.rea i hi with q|⟨k,q1,q2,q3,q4⟩
  ·exact .inl q
  ·refine .inr ⟨k,q1,q2,?_,?_⟩
   ·show(s.ll 0)[i]∈aC s.cl j d k
    by_cases e:k=j
    ·subst e;rw[ab];exact(hp.mem _).2 q3
    ·rw[aQ _ _ e];exact q3
   ·show ∀y∈aC s.cl j d k,y≠(s.ll 0)[i]→ -y∈(s.ll 0).take i
    by_cases e:k=j
    ·subst e;rw[ab];exact fun y hy=>q4 y ((hp.mem y).1 hy)
    ·rw[aQ _ _ e];exact q4
theorem br.move {n:Nat} {s:SR} (h:br n s) {j:Nat} (hj:j<s.nc) {d:List Int} {g y:Int} (hp:fF (s.cl j) d) (hg:c1 (s.cl j)=g) (Re: -g∈s.ll 0) (h0:c0 d=c0 (s.cl j)) (h1:c1 d=y) (Bk:y≠g) (hy0:y≠c0 (s.cl j)) (NB: -y∉s.ll 0) {E E':List Int} (hE:s.wl (aq g).toNat=E) (hE':∀e,e∈E'↔e∈E∧e≠(j:Int)) (dB:E'.Nodup) (hv:Nat→Value):
  br n {s with cl:=aC s.cl j d,hw:=hv,wl:=aC (aC s.wl (aq y).toNat (s.wl (aq y).toNat++ [(j:Int)])) (aq g).toNat E'}:=by
 obtain⟨q1,q2,q3⟩:=h.cls j hj
 obtain⟨m0,m1⟩:=eo q1
 have O2:y∈s.cl j:=by
  have:=(eo (c:=d) (by rw[hp.len];exact q1)).2
  rw[h1] at this;exact(hp.mem y).1 this
 have rj:Lit n y:=q3 y O2
 have DQ:Lit n g:=by rw[← hg];exact q3 _ m1
 have bx:(aq y).toNat≠(aq g).toNat:=fun e=>Bk (cB rj DQ e)
 have h0l:Lit n (c0 (s.cl j)):=q3 _ m0
 have hg0:c0 (s.cl j)≠g:=fun e=>by
  rw[show c0 (s.cl j)=(s.cl j)[0] from aZ (by omega)] at e
  rw[show c1 (s.cl j)=(s.cl j)[1] from aZ (by omega),← e] at hg
  have:=(List.getElem_inj q2 (h₀:=by omega) (h₁:=by omega)).1 hg
  omega
 -- j is no watch of y yet
 have QS:(j:Int)∉s.wl (aq y).toNat:=fun hm=>by
  obtain⟨k,hk,e,hw⟩:=h.wt y rj _ hm
  have:k=j:=by omega
  subst this
  rcases hw with hw|hw
  ·exact hy0 hw.symm
  ·exact Bk (hw.symm.trans hg)
 have ug:∀x,Lit n x→∀e,e∈aC (aC s.wl (aq y).toNat (s.wl (aq y).toNat++ [(j:Int)])) (aq g).toNat E' (aq x).toNat↔if x=g then (e∈s.wl (aq g).toNat∧e≠(j:Int)) else if x=y then (e∈s.wl (aq y).toNat∨e=(j:Int)) else e∈s.wl (aq x).toNat:=by
  intro x hx e
  by_cases e1:x=g
  ·subst e1;rw[ab,if_pos rfl,hE' e,hE]
  ·rw[aQ _ _ (fun q=>e1 (cB hx DQ q)),if_neg e1]
   by_cases e2:x=y
   ·subst e2;rw[ab,if_pos rfl,List.mem_append,List.mem_singleton]
   ·rw[aQ _ _ (fun q=>e2 (cB hx rj q)),if_neg e2]
 exact
  {hn:=h.hn,trl:=h.trl,val:=h.val,lvl:=h.lvl,rsn:=h.rsn,hd:=h.hd,mrk:=h.mrk,srt:=h.srt,lev:=h.lev
   cls:=fun k hk=>by
    show 2≤(aC s.cl j d k).length∧(aC s.cl j d k).Nodup∧∀x∈aC s.cl j d k,Lit n x
    by_cases e:k=j
    ·subst e
     rw[ab]
     exact⟨by rw[hp.len];exact q1,hp.nd q2,fun x hx=>q3 x ((hp.mem x).1 hx)⟩
    ·rw[aQ _ _ e];exact h.cls k hk
   fresh:=fun k hk=>by
    have hk:s.nc≤k:=hk
    have:=h.fresh k hk
    exact⟨by show aC s.cl j d k=[];rw[aQ _ _ (by omega)];exact this.1,this.2⟩
   nc:=h.nc,nw:=h.nw
   wt:=fun x hx e he=>by
    replace he:=(ug x hx e).1 he
    show ∃k:Nat,k<s.nc∧e=(k:Int)∧(c0 (aC s.cl j d k)=x∨c1 (aC s.cl j d k)=x)
    by_cases e1:x=g
    ·rw[if_pos e1] at he
     subst e1
     obtain⟨k,hk,rfl,hw⟩:=h.wt x hx e he.1
     exact⟨k,hk,rfl,by rw[aQ _ _ (by have:=he.2;omega)];exact hw⟩
    ·rw[if_neg e1] at he
     by_cases e2:x=y
     ·rw[if_pos e2] at he
      subst e2
      rcases he with he|rfl
      ·obtain⟨k,hk,rfl,hw⟩:=h.wt x hx e he
       have SF:k≠j:=by rintro rfl;exact QS he
       exact⟨k,hk,rfl,by rw[aQ _ _ SF];exact hw⟩
      ·exact⟨j,hj,rfl,by rw[ab];exact .inr h1⟩
     ·rw[if_neg e2] at he
      obtain⟨k,hk,rfl,hw⟩:=h.wt x hx e he
      refine⟨k,hk,rfl,?_⟩
      by_cases e3:k=j
      ·subst e3
       rw[ab,h0,h1]
       rcases hw with hw|hw
       ·exact .inl hw
       ·exact absurd (hw.symm.trans hg) e1
      ·rw[aQ _ _ e3];exact hw
   wnd:=fun k=>by
    show(aC (aC s.wl (aq y).toNat (s.wl (aq y).toNat++ [(j:Int)])) (aq g).toNat E' k).Nodup
    by_cases e1:k=(aq g).toNat
    ·rw[e1,ab];exact dB
    ·rw[aQ _ _ e1]
     by_cases e2:k=(aq y).toNat
     ·rw[e2,ab,List.nodup_append]
      refine⟨h.wnd _,by simp,fun a ha b hb=>?_⟩
      rw[List.mem_singleton.1 hb]
      rintro rfl
      exact QS ha
     ·rw[aQ _ _ e2];exact h.wnd k
   wto:=fun k hk=>by
    show(k:Int)∈aC (aC s.wl (aq y).toNat (s.wl (aq y).toNat++ [(j:Int)])) (aq g).toNat E' (aq (c0 (aC s.cl j d k))).toNat∧(k:Int)∈aC (aC s.wl (aq y).toNat (s.wl (aq y).toNat++ [(j:Int)])) (aq g).toNat E' (aq (c1 (aC s.cl j d k))).toNat
    have hk:k<s.nc:=hk
    by_cases e3:k=j
    ·subst e3
     rw[ab,h0,h1,ug _ h0l,ug _ rj,if_neg hg0,if_neg Bk,if_neg (Ne.symm hy0),if_pos rfl]
     exact⟨(h.wto k hk).1,.inr rfl⟩
    ·rw[aQ _ _ e3]
     obtain⟨p1,p2,p3⟩:=h.cls k hk
     obtain⟨n0,n1⟩:=eo p1
     have gen:∀x,Lit n x→(k:Int)∈s.wl (aq x).toNat→(k:Int)∈aC (aC s.wl (aq y).toNat (s.wl (aq y).toNat++ [(j:Int)])) (aq g).toNat E' (aq x).toNat:=by
      intro x hx hm
      rw[ug x hx]
      by_cases e1:x=g
      ·rw[if_pos e1];subst e1;exact⟨hm,by omega⟩
      ·rw[if_neg e1]
       by_cases e2:x=y
       ·rw[if_pos e2];subst e2;exact .inl hm
       ·rw[if_neg e2];exact hm
     exact⟨gen _ (p3 _ n0) (h.wto k hk).1,gen _ (p3 _ n1) (h.wto k hk).2⟩
   two:=fun k hk w w' hw cZ=>by
    have hw:(w=c0 (aC s.cl j d k)∧w'=c1 (aC s.cl j d k))∨(w=c1 (aC s.cl j d k)∧w'=c0 (aC s.cl j d k)):=hw
    have cZ: -w∈(s.ll 0).take s.head.toNat:=cZ
    by_cases e:k=j
    ·subst e
     rw[ab,h0,h1] at hw
     rcases hw with ⟨rfl,rfl⟩|⟨rfl,rfl⟩
     ·have:=(h.two k hj _ _ (.inl ⟨rfl,rfl⟩) cZ).1
      rw[hg] at this
      exact absurd Re (h.trl.iS this)
     ·exact absurd (List.mem_of_mem_take cZ) NB
    ·rw[aQ _ _ e] at hw;exact h.two k hk w w' hw cZ
   rea:=fun i hi=>by
    rcases h.rea i hi with q|⟨k,q1,q2,q3,q4⟩
    ·exact .inl q
    ·refine .inr ⟨k,q1,q2,?_,?_⟩
     ·show(s.ll 0)[i]∈aC s.cl j d k
      by_cases e:k=j
      ·subst e;rw[ab];exact(hp.mem _).2 q3
      ·rw[aQ _ _ e];exact q3
     ·show ∀y∈aC s.cl j d k,y≠(s.ll 0)[i]→ -y∈(s.ll 0).take i
      by_cases e:k=j
      ·subst e;rw[ab];exact fun y hy=>q4 y ((hp.mem y).1 hy)
      ·rw[aQ _ _ e];exact q4}
end Go.Ab
