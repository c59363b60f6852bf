/- Simplification changes neither the outcome nor the least satisfying assignment, and a refutation of the simplified formula refutes the formula itself. No conditions. -/
import Derived.Test.YtigjjjpcjnifhaaGreatDoorAvNA2
import Derived.Test.YtigjjjpcjnifhaaGreatDoorAbZ
import Derived.Lib.ItoaNum
import Derived.Test.YtigjjjpcjnifhaaGreatDoorAbL4
import Derived.Test.YtigjjjpcjnifhaaGreatDoorAbL3
import Derived.Test.YtigjjjpcjnifhaaGreatDoorAbL2
import Derived.Test.YtigjjjpcjnifhaaGreatDoorAvC2
import Derived.Lib.AppendIntMem
import Derived.Test.YtigjjjpcjnifhaaGreatDoorRows
import Derived.Test.YtigjjjpcjnifhaaGreatDoorTie
import Derived.Test.YtigjjjpcjnifhaaGreatDoorCards
import Derived.SevenTiedAt
import Derived.LaidMore
import Derived.Stop.Joined
import Derived.Stop.LaidErr
import Derived.Lib.LaidTab
import Derived.ChangeMaps5
import Derived.WalkKit
import Derived.ProofKit
import Derived.OpenShut
import Derived.ChangeOld
import Derived.Below
set_option linter.unusedSimpArgs false
set_option linter.unusedVariables false
open Nat renaming strongRecOn→dK,mod_lt→bP,le_refl→aP,reduceBEq→di,zero_le→bm
open List renaming foldl_cons→ct,foldl_nil→dL,foldl_append→dq,mem_cons→bw,not_mem_nil→cy,mem_append→bX,mem_map→bx,length_cons→dM,any_eq_true→df,length_map→a6,getElem_mem→cZ,length_append→bW,map_append→cV,length_take→dI,all_eq_true→bD,getElem?_append_left→aT
open Bool renaming and_eq_true→aZ,false_or→cK
namespace Go.Ab.N19
open Go Go.Proofs Go.Ab
set_option maxRecDepth 20000
set_option maxHeartbeats 4000000
def HK (l:List UInt8):Nat:=l.foldl (fun n d=>10*n+(d.toNat - 48)) 0
theorem uT {k:Nat} (h:k<10):(UInt8.ofNat (48+k)).toNat=48+k:=by
 rw[UInt8.toNat_ofNat'];omega
theorem rR (u:Nat):HK (Lib.decDigits u)=u:=by
 induction u using dK with
 |_ u ih=>
  rw[Lib.decDigits]
  split
  ·rename_i h
   simp only[HK,ct,dL,uT h];omega
  ·rename_i h
   have:=ih (u / 10) (by omega)
   unfold HK at this ⊢
   rw[dq,this]
   simp only[ct,dL,uT (bP u (by omega:10>0))];omega
theorem yj (u:Nat):∀d∈Lib.decDigits u,48≤d.toNat∧d.toNat≤57:=by
 induction u using dK with
 |_ u ih=>
  rw[Lib.decDigits]
  split
  ·rename_i h
   intro d hd
   simp only[bw,cy,or_false] at hd
   subst hd
   rw[uT h];omega
  ·rename_i h
   intro d hd
   rcases bX.1 hd with hd|hd
   ·exact ih _ aJ d hd
   ·simp only[bw,cy,or_false] at hd
    subst hd
    rw[uT (bP u (by omega:10>0))]
    have:=bP u (by omega:10>0)
    omega
theorem PB (u:Nat):Lib.decDigits u≠ []:=by
 rw[Lib.decDigits]
 split<;>simp
theorem Jj {m n:Int} (h:Lib.itoa m=Lib.itoa n):m=n:=by
 unfold Lib.itoa at h
 have key:∀u v:Nat,45::Lib.decDigits u≠Lib.decDigits v:=fun u v e=>by
  have:=yj v 45 (by rw[← e];simp)
  have e45:(45:UInt8).toNat=45:=rfl
  omega
 by_cases h1:m<0
 ·rw[if_pos h1] at h
  by_cases h2:n<0
  ·rw[if_pos h2] at h
   have h3:=(List.cons.inj h).2
   have:=congrArg HK h3
   rw[rR,rR] at this
   omega
  ·rw[if_neg h2] at h
   exact absurd h (key _ _)
 ·rw[if_neg h1] at h
  by_cases h2:n<0
  ·rw[if_pos h2] at h
   exact absurd h.symm (key _ _)
  ·rw[if_neg h2] at h
   have:=congrArg HK h
   rw[rR,rR] at this
   omega
theorem xT (n:Int):Lib.itoa n≠ []∧∀d∈Lib.itoa n,d≠32:=by
 have key:∀u,∀d∈Lib.decDigits u,d≠32:=fun u d hd e=>by
  have:=yj u d hd
  rw[e] at this
  have e32:(32:UInt8).toNat=32:=rfl
  omega
 unfold Lib.itoa
 split
 ·refine⟨by simp,fun d hd=>?_⟩
  rcases bw.1 hd with h|h
  ·rw[h];decide
  ·exact key _ d h
 ·exact⟨PB _,key _⟩
def mh (sep:UInt8):List (List UInt8)→List UInt8
 |[]=>[]
 |[x]=>x
 |x::y::r=>x++sep::mh sep (y::r)
theorem IF {sep:UInt8}:∀{a b u v:List UInt8},(∀d∈a,d≠sep)→(∀d∈b,d≠sep)→a++sep::u=b++sep::v→a=b∧u=v
 |[],[],u,v,_,_,h=>⟨rfl,(List.cons.inj h).2⟩
 |[],y::b,u,v,_,hb,h=>absurd (List.cons.inj h).1.symm (hb y (by simp))
 |x::a,[],u,v,ha,_,h=>absurd (List.cons.inj h).1 (ha x (by simp))
 |x::a,y::b,u,v,ha,hb,h=>by
  obtain⟨h1,h2⟩:=List.cons.inj h
  obtain⟨h3,h4⟩:=IF (fun d hd=>ha d (by simp [hd])) (fun d hd=>hb d (by simp [hd])) h2
  exact⟨by rw[h1,h3],h4⟩
theorem Ha {sep:UInt8} {a b u:List UInt8} (ha:∀d∈a,d≠sep) (h:a=b++sep::u):False:=ha sep (by rw[h];simp) rfl
theorem A5 {sep:UInt8}:∀{a b:List (List UInt8)},(∀x∈a,x≠ []∧∀d∈x,d≠sep)→(∀x∈b,x≠ []∧∀d∈x,d≠sep)→mh sep a=mh sep b→a=b
 |[],[],_,_,_=>rfl
 |[],[y],_,hb,h=>absurd h.symm (hb y (by simp)).1
 |[],y::z::b,_,_,h=>by simp [mh] at h
 |[x],[],ha,_,h=>absurd h (ha x (by simp)).1
 |x::y::a,[],_,_,h=>by simp [mh] at h
 |[x],[y],_,_,h=>by simp only[mh] at h;rw[h]
 |[x],y::z::b,ha,_,h=>(Ha (ha x (by simp)).2 h).elim
 |x::y::a,[z],_,hb,h=>(Ha (hb z (by simp)).2 h.symm).elim
 |x::y::a,x'::y'::b,ha,hb,h=>by
  obtain⟨h1,h2⟩:=IF (ha x (by simp)).2 (hb x' (by simp)).2 h
  rw[h1,A5 (fun z hz=>ha z (by simp [hz])) (fun z hz=>hb z (by simp [hz])) h2]
noncomputable def L3 (c:List Int):List UInt8:=mh 32 ((iV c).map Lib.itoa)
noncomputable def mX (c:List Int):ByteArray:=⟨(L3 c).toArray⟩
theorem KO {c d:List Int} (h:mX c=mX d) (x:Int):x∈c↔x∈d:=by
 have h1:L3 c=L3 d:=by
  have:=congrArg (fun b:ByteArray=>b.data.toList) h
  simpa [mX] using this
 have h2:=A5 (fun w hw=>by obtain⟨n,_,rfl⟩:=bx.1 hw;exact xT n) (fun w hw=>by obtain⟨n,_,rfl⟩:=bx.1 hw;exact xT n) h1
 have h3:iV c=iV d:=(List.map_inj_right fun m n h=>Jj h).1 h2
 rw[← pF (zs:=c),h3,pF]
def vR (acc:List Int) (l:Int):List Int:=if l∈acc then acc else acc++ [l]
def nX (c:List Int):List Int:=c.foldl vR []
def Bo (c:List Int):Bool:=c.any fun l=>decide (-l∈c)
open Classical in
noncomputable def Ka (out:List (List Int)) (c:List Int):List (List Int):=if Bo (nX c)=true∨(out.any fun d=>decide (mX d=mX (nX c)))=true then out else out++ [nX c]
noncomputable def mc (cl:List (List Int)):List (List Int):=cl.foldl Ka []
theorem Ii {c:List Int} {k:Nat} (hk:k<c.length):nX (c.take (k+1))=vR (nX (c.take k)) c[k]:=by
 unfold nX
 rw[fw hk,dq];rfl
theorem Bd {cl:List (List Int)} {k:Nat} (hk:k<cl.length):mc (cl.take (k+1))=Ka (mc (cl.take k)) cl[k]:=by
 unfold mc
 rw[fw hk,dq];rfl
theorem Jm (c:List Int):∀(acc:List Int) (x:Int),x∈c.foldl vR acc↔x∈acc∨x∈c:=by
 induction c with
 |nil=>intro acc x;simp
 |cons y c ih=>
  intro acc x
  rw[ct,ih,vR]
  split
  ·rename_i h
   constructor
   ·rintro(h1|h1)
    ·exact .inl h1
    ·exact .inr (by simp [h1])
   ·rintro(h1|h1)
    ·exact .inl h1
    ·rcases bw.1 h1 with rfl|h1
     ·exact .inl h
     ·exact .inr h1
  ·simp [or_assoc]
theorem qd {c:List Int} {x:Int}:x∈nX c↔x∈c:=by unfold nX;rw[Jm];simp
theorem CP (c:List Int):∀acc:List Int,acc.Nodup→(c.foldl vR acc).Nodup:=by
 induction c with
 |nil=>intro acc h;exact h
 |cons y c ih=>
  intro acc h
  rw[ct]
  refine ih _ ?_
  unfold vR
  split
  ·exact h
  ·rename_i hy
   rw[List.nodup_append]
   exact⟨h,by simp,fun a ha b hb e=>by simp at hb;subst hb;subst e;exact hy ha⟩
theorem Fp (c:List Int):(nX c).Nodup:=CP c [] (by simp)
theorem LO (c:List Int):(nX c).length≤c.length:=by
 have key:∀(c acc:List Int),(c.foldl vR acc).length≤acc.length+c.length:=by
  intro c
  induction c with
  |nil=>intro acc;simp
  |cons y c ih=>
   intro acc
   rw[ct]
   have h1:=ih (vR acc y)
   have h2:(vR acc y).length≤acc.length+1:=by unfold vR;split<;>simp
   simp only[dM];omega
 have:=key c []
 unfold nX
 simpa using this
structure M_ (cl out:List (List Int)):Prop where
 len:out.length≤cl.length
 nodup:∀d∈out,d.Nodup
 opp:∀d∈out,Bo d=false
 src:∀d∈out,∃c∈cl,∀x,x∈d↔x∈c
 keys:out.Pairwise fun a b=>mX a≠mX b
 kept:∀c∈cl,Bo (nX c)=true∨∃d∈out,∀x,x∈d↔x∈c
theorem Dv (cl:List (List Int)):∀k,k≤cl.length→M_ (cl.take k) (mc (cl.take k))
 |0,_=>⟨aP _,(by intro d h;cases h),(by intro d h;cases h),(by intro d h;cases h),List.Pairwise.nil,(by intro c h;simp at h)⟩
 |k+1,hk=>by
  have ih:=Dv cl k (by omega)
  have fm:k<cl.length:=by omega
  rw[Bd fm,fw fm]
  generalize mc (cl.take k)=out at ih ⊢
  generalize cl.take k=pre at ih ⊢
  generalize cl[k]=c
  unfold Ka
  by_cases ho:Bo (nX c)=true
  ·rw[if_pos (.inl ho)]
   refine⟨by have:=ih.len;simp;omega,ih.nodup,ih.opp,fun d hd=>?_,ih.keys,fun e he=>?_⟩
   ·obtain⟨e,he,h⟩:=ih.src d hd
    exact⟨e,by simp [he],h⟩
   ·rcases bX.1 he with he|he
    ·exact ih.kept e he
    ·simp at he;subst he;exact .inl ho
  ·by_cases ha:(out.any fun d=>decide (mX d=mX (nX c)))=true
   ·rw[if_pos (.inr ha)]
    refine⟨by have:=ih.len;simp;omega,ih.nodup,ih.opp,fun d hd=>?_,ih.keys,fun e he=>?_⟩
    ·obtain⟨e,he,h⟩:=ih.src d hd
     exact⟨e,by simp [he],h⟩
    ·rcases bX.1 he with he|he
     ·exact ih.kept e he
     ·simp at he;subst he
      obtain⟨d,hd,h⟩:=df.1 ha
      exact .inr ⟨d,hd,fun x=>by rw[KO (by simpa using h) x,qd]⟩
   ·rw[if_neg (by rintro(h|h);exact ho h;exact ha h)]
    have fW:∀d∈out,mX d≠mX (nX c):=fun d hd e=>ha (df.2 ⟨d,hd,by simpa using e⟩)
    refine⟨by have:=ih.len;simp;omega,fun d hd=>?_,fun d hd=>?_,fun d hd=>?_,?_,fun e he=>?_⟩
    ·rcases bX.1 hd with hd|hd
     ·exact ih.nodup d hd
     ·simp at hd;subst hd;exact Fp c
    ·rcases bX.1 hd with hd|hd
     ·exact ih.opp d hd
     ·simp at hd;subst hd;simpa using ho
    ·rcases bX.1 hd with hd|hd
     ·obtain⟨e,he,h⟩:=ih.src d hd
      exact⟨e,by simp [he],h⟩
     ·simp at hd;subst hd
      exact⟨c,by simp,fun x=>qd⟩
    ·rw[List.pairwise_append]
     exact⟨ih.keys,by simp,fun a ha b hb=>by simp at hb;subst hb;exact fW a ha⟩
    ·rcases bX.1 he with he|he
     ·rcases ih.kept e he with h|⟨d,hd,h⟩
      ·exact .inl h
      ·exact .inr ⟨d,by simp [hd],h⟩
     ·simp at he;subst he
      exact .inr ⟨nX e,by simp,fun x=>qd⟩
theorem Af (cl:List (List Int)):M_ cl (mc cl):=by
 have:=Dv cl cl.length (aP _)
 rwa [List.take_length] at this
end Go.Ab.N19
/- A formula and its simplification,in plain terms:the same outcome;a refutation carries over. -/
namespace Go.Ab
open Go Go.Proofs
def p6 (F G:List (List Int)):Prop:=∀d∈G,∃c∈F,∀x,x∈d↔x∈c
theorem p6.app {F G:List (List Int)} (h:p6 F G) (P:List (List Int)):p6 (F++P) (G++P):=fun d hd=>by
 rcases bX.1 hd with q|q
 ·obtain⟨c,hc,e⟩:=h d q
  exact⟨c,bX.2 (.inl hc),e⟩
 ·exact⟨d,bX.2 (.inr q),fun _=>Iff.rfl⟩
theorem oe.cover {F G:List (List Int)} {A:Int→Prop} {x:Int} (h:oe G A x) (hF:p6 F G):oe F A x:=by
 induction h with
 |p8 h=>exact .p8 h
 | @unit d x hd hx _ ih=>
  obtain⟨c,hc,e⟩:=hF d hd
  exact .unit hc ((e x).1 hx) fun y hy fW=>ih y ((e y).2 hy) fW
theorem JV.cover {F G:List (List Int)} {c:List Int} (h:JV G c) (hF:p6 F G):JV F c:=by
 rcases h with ⟨d,hd,h⟩|h
 ·obtain⟨e,he,q⟩:=hF d hd
  exact .inl ⟨e,he,fun y hy=>(h y ((q y).2 hy)).cover hF⟩
 ·exact .inr h
theorem oX.cover {F G P:List (List Int)} (h:oX G P) (hF:p6 F G):oX F P:=fun i hi=>(h i hi).cover (hF.app _)
theorem kX.cover {F G:List (List Int)} {σ:Nat→Bool} (h:kX σ F) (hF:p6 F G):kX σ G:=fun d hd=>by
 obtain⟨c,hc,e⟩:=hF d hd
 obtain⟨x,hx,ht⟩:=h c hc
 exact⟨x,(e x).2 hx,ht⟩
theorem JH {c:List Int} (h:N19.Bo (N19.nX c)=true) (h0:∀x∈c,x≠0) (σ:Nat→Bool):∃x∈c,jx σ x:=by
 unfold N19.Bo at h
 obtain⟨x,hx,hn⟩:=df.1 h
 rw[decide_eq_true_eq] at hn
 have hx:=N19.qd.1 hx
 have hn:=N19.qd.1 hn
 by_cases e:jx σ x
 ·exact⟨x,hx,e⟩
 ·exact⟨-x,hn,(jx.neg (h0 x hx)).2 e⟩
theorem Jr {F:List (List Int)} (h0:∀c∈F,∀x∈c,x≠0) (σ:Nat→Bool):kX σ F↔kX σ (N19.mc F):=by
 have hs:=N19.Af F
 refine⟨fun h=>h.cover hs.src,fun h c hc=>?_⟩
 rcases hs.kept c hc with q|⟨d,hd,e⟩
 ·exact JH q (h0 c hc) σ
 ·obtain⟨x,hx,ht⟩:=h d hd
  exact⟨x,(e x).1 hx,ht⟩
theorem CQ (F:List (List Int)):p6 F (N19.mc F):=(N19.Af F).src
section
variable {n:Nat} {F:List (List Int)} {q r:Int×List Bool×List Int×List (List Int)}
theorem fv.TT (h:fv n (N19.mc F) [] r) (hF:∀c∈F,∀x∈c,Lit n x) (h2:r.1=2):Go.Ab.vr n F [] (jh r.2.2.2)=true:=by
 obtain⟨P,e,hc,_,_⟩:=h.core h2
 have kd:=h.UY
 have Am:r.2.2.1=[]:=by
  cases e2:r.2.2.1 with
  |nil=>rfl
  |cons x l=>
   have:=hc x (by rw[e2];simp)
   simp at this
 have PK:oX F r.2.2.2:=by
  obtain⟨t,h1,_,_,e⟩:=h
  rw[e]
  exact h1.sC.cover (CQ F)
 have hr:=tA (e:=⟨n,F,[]⟩) PK (fun c hc=>by
  rcases bX.1 hc with hc|hc
  ·exact hF c hc
  ·exact kd c hc) r.2.2.2.length 0 aJ (iE n F) rfl (by simp [iE])
 rw[List.drop_zero] at hr
 unfold Go.Ab.vr
 rw[hr.1,hr.2,aZ,decide_eq_true_eq]
 refine⟨by unfold jh;rw[a6],?_⟩
 rw[Bool.or_eq_true]
 right
 rw[df]
 exact⟨_,by rw[e];exact bX.2 (.inr (List.mem_singleton.2 rfl)),by rw[Am];rfl⟩
end
end Go.Ab
/- Chapter 19:the reference's circuits,walked. -/
namespace Go.Ab.N19
open Go Go.Proofs Go.Ab
set_option maxRecDepth 20000
set_option maxHeartbeats 4000000
attribute [local irreducible] AW a_ gb fq AR fz fk fJ fX
end Go.Ab.N19
/- slices' functions that take functions. -/
namespace Go.Ab.N19
open Go Go.Proofs Go.Ab
open Nat (reduceAdd reduceSub)
set_option maxRecDepth 20000
set_option maxHeartbeats 4000000
attribute [local irreducible] AW a_ gb fq AR fz fk fJ fX
def AB {α:Type} (p:α→Bool) (l:List α):Int:=if l.any p=true then (l.findIdx p:Nat) else -1
theorem Bn {α:Type} {p:α→Bool} {l:List α} {k:Nat} (hk:k<l.length) (h0:(l.take k).any p=false) (hp:p l[k]=true):AB p l=(k:Int):=by
 unfold AB
 rw[if_pos (df.2 ⟨l[k],cZ hk,hp⟩),List.findIdx_eq (by exact hk)|>.2 ⟨hp,fun j hj=>?_⟩]
 rw[List.any_eq_false] at h0
 simpa using h0 l[j] (List.mem_take_iff_getElem.2 ⟨j,by omega,rfl⟩)
theorem D6 {α:Type} {p:α→Bool} {l:List α} (h0:l.any p=false):AB p l= -1:=by
 unfold AB
 rw[if_neg (by rw[h0];simp)]
theorem El {α:Type} (p:α→Bool) (l:List α):decide (0≤AB p l)=l.any p:=by
 unfold AB
 cases l.any p with
 |true=>simp
 |false=>simp
theorem xR {α:Type} {p:α→Bool} {l:List α} {k:Nat} (hk:k<l.length):(l.take (k+1)).any p=((l.take k).any p||p l[k]):=by
 rw[fw hk,List.any_append];simp
abbrev vF (fx:FuncId) (vs us:Array Value):Value:=.func (.func fx) vs us
abbrev yc {α:Type} (p:α→Bool) (x:α):AV:=fh (p x)
theorem Gx (l:List Int) (p:Int→Bool) (fx:FuncId) (vs us:Array Value):ux (uQ Tryz.prog (vF fx vs us) eV (yc p) l) Tryz.prog 42 [.pv (ints l),.pv (.lit (vF fx vs us))] (eV (AB p l)):=by
 have nK:=uQ.stay (P:=Tryz.prog) (vF fx vs us) eV (yc p) l
 refine ux.enter nK (n:=19) Tryz.func42 rfl rfl rfl rfl rfl (by decide) fun g fD fB hT=>?_;(try refine nz ?_)
 refine AW.jE 0 rfl fun hlen=>?_
 (refine w6 ?_;refine n_ ?_)
 (refine nz ?_;apply AW.gN [7,0,1] [] (fun k:Nat=>([(8,eV k)]:List (Nat×AV))) (fun k:Nat=>([]:List (Nat×Option Ob))) (fun k:Nat=>k≤l.length∧(l.take k).any p=false) (fun k:Nat=>l.length - k) (0);(conv=>lhs;simp only[Nf.nN,Nf.all,di,reduceAdd,reduceSub]);(all_goals skip))
 ·exact⟨bm _,rfl⟩
 ·exact KX
 rintro k ⟨hk,kY⟩
 by_cases fm:k<l.length
 ·have hs:=xR (p:=p) fm
  rw[kY,cK] at hs
  cases hp:p l[k] with
  |true=>
   have hw:TB (fun w=>BH Tryz.prog (vF fx vs us) w (eV l[k]) (fh true)) g:=hp▸hT.WG (cZ fm)
   rw[Bn fm kY hp]
   (refine kA ?_;refine pB ?_;(iterate 3 refine zm ?_);refine aA ?_;refine zr ?_;(with_reducible apply a_.MQ (hT:=hw));(iterate 3 exact rfl);(first|exact .le (.pv _)|exact .box rfl rfl|exact .le (.own _ _ _ _ rfl)|exact .le (.nil _)|exact .le (.any _)|exact .le (.fV _)|(refine .le (.rn ?_);repeat (first|exact .nil|(refine .cons ?_ ?_;(first|exact .pv _|exact .own _ _ _ _ rfl|exact .nil _)))));exact rfl;exact rfl;exact(fun h_=>by cases h_);refine th ?_;refine ly ?_;refine zm ?_;refine kQ ?_;refine wu ?_)
   (apply e6;(exact gk.one (.tmp rfl rfl));(refine Le.eV ?_;(rfl)))
  |false=>
   have hw:TB (fun w=>BH Tryz.prog (vF fx vs us) w (eV l[k]) (fh false)) g:=hp▸hT.WG (cZ fm)
   rw[hp] at hs
   (refine kA ?_;refine pB ?_;(iterate 3 refine zm ?_);refine aA ?_;refine zr ?_;(with_reducible apply a_.MQ (hT:=hw));(iterate 3 exact rfl);(first|exact .le (.pv _)|exact .box rfl rfl|exact .le (.own _ _ _ _ rfl)|exact .le (.nil _)|exact .le (.any _)|exact .le (.fV _)|(refine .le (.rn ?_);repeat (first|exact .nil|(refine .cons ?_ ?_;(first|exact .pv _|exact .own _ _ _ _ rfl|exact .nil _)))));exact rfl;exact rfl;exact(fun h_=>by cases h_);refine rK ?_;refine oI ?_)
   exact QA
 ·rw[gC (l:=l) aJ] at kY
  rw[D6 kY]
  (refine lU ?_;refine lf ?_)
  (apply e6;(exact gk.one (.tmp rfl rfl));(refine Le.eV ?_;(rfl)))
theorem G7 (l:List Int) (p:Int→Bool) (fx:FuncId) (vs us:Array Value):ux (uQ Tryz.prog (vF fx vs us) eV (yc p) l) Tryz.prog 20 [.pv (ints l),.pv (.lit (vF fx vs us))] (fh (l.any p)):=by
 have nK:=uQ.stay (P:=Tryz.prog) (vF fx vs us) eV (yc p) l
 have hi:=Gx l p fx vs us
 rw[← El]
 refine ux.enter nK (n:=9) Tryz.func20 rfl rfl rfl rfl rfl (by decide) fun g fD fB hT=>?_;(try refine nz ?_)
 (refine zq ?_;refine pB ?_;(iterate 2 refine zm ?_);(with_reducible apply a_.D4 (hf:=hi));(first|(with_reducible assumption)|(refine TB.gs ?_ (by with_reducible assumption);with_reducible assumption)|(refine TB.gi ?_ (by with_reducible assumption);with_reducible assumption)|exact TB.none _);exact aj;exact rfl;exact rfl;exact(fun h_=>by cases h_);refine AL ?_)
 (apply e6;(exact gk.one (.tmp rfl rfl));(refine Le.fh ?_;(rfl)))
end Go.Ab.N19
/- Chapter 19:formulas:valid,satisfied. -/
namespace Go.Ab.N19
open Go Go.Proofs Go.Ab
set_option maxRecDepth 20000
set_option maxHeartbeats 4000000
attribute [local irreducible] AW a_ gb fq AR fz fk fJ fX
abbrev F7 (vars:Int) (cl:List (List Int)):AV:=.agg [eV vars,.pv (jj cl)]
def OQ (vars x:Int):Bool:=decide (x≠0∧x≤vars∧0 - vars≤x)
def eX (vars:Int) (l:List Int):Bool:=l.all (OQ vars)
def l8 (vars:Int) (cl:List (List Int)):Bool:=decide (0≤vars∧vars≤20000∧(cl.length:Int)≤60000) && cl.all (eX vars)
end Go.Ab.N19
/- Chapter 19:formulas:satisfied;the reference's comparisons. -/
namespace Go.Ab.N19
open Go Go.Proofs Go.Ab
set_option maxRecDepth 20000
set_option maxHeartbeats 4000000
attribute [local irreducible] AW a_ gb fq AR fz fk fJ fX
end Go.Ab.N19
/- Chapter 19:the needed gates,walked:a closure that calls itself. -/
namespace Go.Ab.N19
open Go Go.Proofs Go.Ab
set_option maxRecDepth 20000
set_option maxHeartbeats 4000000
attribute [local irreducible] AW a_ gb fq AR fz fk fJ fX kp
end Go.Ab.N19
/- Chapter 19:the needed gates,in order. -/
namespace Go.Ab.N19
open Go Go.Proofs Go.Ab
set_option maxRecDepth 20000
set_option maxHeartbeats 4000000
attribute [local irreducible] AW a_ gb fq AR fz fk fJ fX kp canon iV
end Go.Ab.N19
/- Chapter 19:the formula of a reference,walked. -/
namespace Go.Ab.N19
open Go Go.Proofs Go.RowKit Go.Ab
set_option maxRecDepth 20000
set_option maxHeartbeats 4000000
attribute [local irreducible] AW a_ gb fq AR fz fk fJ fX canon eQ
end Go.Ab.N19
/- Chapter 19:a reference's value,walked:the reference's Eval and the program's. -/
namespace Go.Ab.N19
open Go Go.Proofs Go.Ab
set_option maxRecDepth 20000
set_option maxHeartbeats 4000000
attribute [local irreducible] AW a_ gb fq AR fz fk fJ fX
theorem oZ.cases {gs:List iA} (hc:oZ gs) {i:Nat} (h:i<gs.length):(gs[i].k=0)∨(gs[i].k=1∧1≤gs[i].a∧gs[i].a≤8)∨(gs[i].k=2∧2≤gs[i].a∧gs[i].a<gs[i].b∧gs[i].b<2*(i:Int)):=by
 by_cases h0:i=0
 ·subst h0
  have:=hc.zero
  rw[List.getElem?_eq_getElem h] at this
  rw[Option.some.inj this]
  exact .inl rfl
 ·rcases hc.ok i h h0 with h1|h1
  ·exact .inr (.inl ⟨h1.1,h1.2.1,h1.2.2.1⟩)
  ·exact .inr (.inr ⟨h1.1,h1.2.1,h1.2.2.1,h1.2.2.2.1⟩)
end Go.Ab.N19
/- Chapter 19:the formula of a reference,walked. -/
namespace Go.Ab.N19
open Go Go.Proofs Go.RowKit Go.Ab
set_option maxRecDepth 20000
set_option maxHeartbeats 4000000
attribute [local irreducible] AW a_ gb fq AR fz fk fJ fX canon eQ xw EP
end Go.Ab.N19
/- Chapter 19:the extension of an assignment,walked. -/
namespace Go.Ab.N19
open Go Go.Proofs Go.RowKit Go.Ab
set_option maxRecDepth 20000
set_option maxHeartbeats 4000000
attribute [local irreducible] AW a_ gb fq AR fz fk fJ fX canon eQ xw EP
end Go.Ab.N19
/- Chapter 19:the names of numbers and clauses,walked. -/
namespace Go.Ab.N19
open Go Go.Proofs Go.RowKit Go.Ab
open Nat (reduceAdd reduceSub)
set_option maxRecDepth 20000
set_option maxHeartbeats 4000000
def FO (w:World):Prop:=Lib.TabIs Tryz.prog w "internal/strconv.uint64pow10" .u64 Lib.pow10Tab
theorem tc:OW FO:=fun w w' h hb=>Lib.tabBelow_of_tabIs h w' hb
def Mw (n:Int):ByteArray:=⟨(Lib.itoa n).toArray⟩
theorem y8:∀(k u:Nat),u<10 ^ k→(Lib.decDigits u).length≤k+1
 |0,u,h=>by
  have:u=0:=by omega
  subst this
  rw[Lib.decDigits];simp
 |k+1,u,h=>by
  rw[Lib.decDigits]
  split
  ·simp
  ·have:=y8 k (u / 10) (by rw[Nat.pow_succ] at h;omega)
   rw[bW];simp;omega
theorem Iu {n:Int} (h: -1000000000<n∧n<1000000000):(Lib.itoa n).length≤11:=by
 unfold Lib.itoa
 split
 ·have:=y8 9 n.natAbs (by omega)
  simp only[dM];omega
 ·have:=y8 9 n.toNat (by omega)
  omega
theorem H4 {n:Int} (h: -1000000000<n∧n<1000000000):ux FO Tryz.prog 32 [eV n] (yY (Mw n)) where
 enters:=enters_of Tryz.func32 rfl (by decide)
 calls:=by
  intro N w vals hT hN hs gf
  have hs:vals.size=1:=hs
  obtain⟨v0,rfl⟩:∃v0,vals= #[v0]:=by
   rcases vals with ⟨_|⟨v0,_|_⟩⟩<;>simp at hs
   exact⟨v0,rfl⟩
  have h0:=(gf 0 v0 _ rfl rfl).lit
  subst h0
  exact(Tryz.strconv_Itoa n aJ aJ w hT).mono fun e w' ⟨he,k,os,hw⟩=>⟨_,he,.pv (.lit _),hw▸Lib.below_grow w.heap.size w (aP _) k os⟩
abbrev H0 (s:ByteArray):PV:=.lit (.string s)
theorem vG:∀ws:List (List UInt8),Lib.join ws [32]=mh 32 ws
 |[]=>rfl
 |[x]=>by rw[Lib.join_one];rfl
 |x::y::r=>by
  rw[Lib.join_cons,mh,← vG (y::r),Lib.join_cons]
  simp [Lib.joinTail]
theorem x6 {m:Nat}:∀ws:List (List UInt8),(∀x∈ws,x.length≤m)→(mh 32 ws).length≤ws.length*(m+1)
 |[],_=>by simp [mh]
 |[x],h=>by have:=h x (by simp);simp [mh];omega
 |x::y::r,h=>by
  have h1:=h x (by simp)
  have h2:=x6 (y::r) fun z hz=>h z (by simp [hz])
  rw[mh,bW,dM,dM,Nat.succ_mul]
  omega
theorem LA (ws:List (List UInt8)) (hl:ws.length≤1000000) (hw:∀x∈ws,x.length≤11):Fn Tryz.prog 45 [.pv (.slice 1 (ws.map fun x=>[H0 ⟨x.toArray⟩])),yY ⟨#[32]⟩] (yY ⟨(mh 32 ws).toArray⟩) where
 enters:=enters_of Tryz.func45 rfl (by decide)
 calls:=by
  intro N w vals hN hs gf
  have hs:vals.size=2:=hs
  obtain⟨v0,v1,rfl⟩:∃v0 v1,vals= #[v0,v1]:=by
   rcases vals with ⟨_|⟨v0,_|⟨v1,_|_⟩⟩⟩<;>simp at hs
   exact⟨v0,v1,rfl⟩
  have h0:=gf 0 v0 _ rfl rfl
  have h1:=(gf 1 v1 _ rfl rfl).lit
  subst h1
  have h0:=h0.k9
  cases h0 with
  | @slice a len cap k e7 b off vs Fz mM hb ha hk hc hr=>
   rw[a6] at Fz
   subst Fz
   by_cases FJ:ws=[]
   ·subst FJ
    exact(Tryz.strings_Join_none a cap ⟨#[32]⟩ w).mono fun e w' ⟨he,hw⟩=>⟨_,he,.pv (.lit _),hw▸Below.refl _ _⟩
   ·have qh:=ha (by simpa using FJ)
    obtain⟨rfl,_,GQ⟩:=qh
    let xs:List ByteArray:=ws.map fun x=>⟨x.toArray⟩
    have sD:xs.length=ws.length:=by simp [xs]
    have J6:xs.map (·.data.toList)=ws:=by simp [xs,Function.comp_def]
    have lj:∀(j:Nat) x,xs[j]? =some x→w.cell? ⟨b,off+j,none⟩=some (.string x):=by
     intro j x hj
     have hp:cellAt (ws.map fun x=>[H0 ⟨x.toArray⟩]) j 0=some (H0 x):=by
      simp only[xs,List.getElem?_map,Option.map_eq_some_iff] at hj
      obtain⟨y,hy,rfl⟩:=hj
      simp [cellAt,encS,hy]
     have h2:=hr j 0 _ hp
     have h3:=(hc j 0 _ hp).1
     generalize vs j 0=u at h2 h3
     cases h2
     rw[Nat.mul_one,Nat.add_zero] at h3
     exact h3
    have e32:(⟨#[32]⟩:ByteArray).data.toList=[32]:=rfl
    have Fv:=x6 ws hw
    have hj:=Tryz.strings_Join b off cap xs ⟨#[32]⟩ w lj GQ aJ aJ (by rw[J6,e32,vG];omega)
    rw[J6,sD,e32,vG] at hj
    exact hj.mono fun e w' ⟨he,hb⟩=>⟨_,he,.pv (.lit _),hb⟩
attribute [local irreducible] AW a_ gb fq AR fz fk fJ fX canon eQ xw EP iV mh
theorem s7 (l:List Int) (hl:l.length≤1000000):J8 Tryz.prog 43 [.pv (ints l)] 3 1 (l.map nI):=by
 rw[show l.map nI=l.map encI from rfl]
 refine J8.enter (n:=8) Tryz.func43 rfl rfl rfl rfl rfl (by decide) fun g fD fB=>?_;(try refine nz ?_)
 by_cases h0:l=[]
 ·subst h0
  have e0:([]:List Int).length=0:=rfl
  (refine w6 ?_;(focus ((with_reducible apply a_.ri);(iterate 6 exact rfl);all_goals intro qq));refine wL ?_;(all_goals skip);rotate_left;refine E6 ?_;(with_reducible apply a_.fI);exact rfl;exact ah;(iterate 9 exact rfl);exact aa;refine nz ?_;refine tH ?_;(all_goals skip);rotate_left)
  all_goals ((first|(refine iU (gk.one (.tmp rfl rfl)) ?_)|(refine iU (gk.one (.cell1 rfl rfl rfl rfl)) ?_)|(refine mI (gk.one (.tmp rfl rfl)) ?_));(first|rfl|simp))
 ·have e0:0<l.length:=List.length_pos_iff.2 h0
  have e1:¬l.map encI=[]:=by simpa using h0
  clear h0
  (refine w6 ?_;(focus ((with_reducible apply a_.ri);(iterate 6 exact rfl);all_goals intro qq));refine wL ?_;(all_goals skip);rotate_left;refine E6 ?_;(with_reducible apply a_.fI);exact rfl;exact ah;(iterate 9 exact rfl);exact aa;refine nz ?_;refine tH ?_;(all_goals skip);rotate_left)
  ·exact absurd qq e1
  ·((first|(refine iU (gk.one (.tmp rfl rfl)) ?_)|(refine iU (gk.one (.cell1 rfl rfl rfl rfl)) ?_)|(refine mI (gk.one (.tmp rfl rfl)) ?_));(first|rfl|simp))
theorem LM (c:List Int) (l:List Int) (h:∀x∈c,-1000000000<x∧x<1000000000) (hs:∀x,x∈l↔x∈c):∀x∈l.map Lib.itoa,x.length≤11:=fun x hx=>by
 obtain⟨n,hn,rfl⟩:=bx.1 hx
 exact Iu (h n ((hs n).1 hn))
def By (x:Int):List PV:=[H0 (Mw x)]
theorem OR (c:List Int) (hl:c.length≤1000000) (h:∀x∈c,-1000000000<x∧x<1000000000):ux FO Tryz.prog 21 [.pv (ints c)] (yY (mX c)):=by
 have nK:=tc
 have iR:=s7 c (by omega)
 unfold mX L3
 have Mz:(iV c).length=c.length:=by simp [iV]
 have hw:=LM c (iV c) h (fun x=>pF)
 have hj:=LA ((iV c).map Lib.itoa) (by simp;omega) hw
 have QC:((iV c).map Lib.itoa).map (fun x=>[H0 ⟨x.toArray⟩])=(iV c).map By:=by rw[List.map_map];rfl
 rw[QC] at hj
 refine ux.enter nK (n:=25) Tryz.func21 rfl rfl rfl rfl rfl (by decide) fun g fD fB hT=>?_;(try refine nz ?_)
 (refine zq ?_;refine pB ?_;refine zm ?_;(with_reducible apply a_.NA (iR));exact HW (fun _=>⟨_,rfl⟩) _;exact aj;exact rfl;refine nz ?_;refine D3 ?_;refine ly ?_;refine a_.fT rfl rfl rfl ?_;(try refine nz ?_);refine a_.Ij (yl) [9,3,8] rfl ⟨rfl,rfl,rfl,trivial⟩ rfl rfl rfl ?_;(conv=>rhs;simp only[Nf.Ui,Nf.all,di,reduceAdd,reduceSub]);refine zd ?_;refine zq ?_;refine tg ?_;refine H8 ?_;refine zZ ?_)
 have hm:∀x,x∈iV c→x∈c:=fun x=>pF.1
 generalize iV c=L at Mz hw hj hm
 (refine nz ?_;apply AW.gN [12,11,2] [0] (fun k:Nat=>([(4,.own 1 9 1 ((L.take k).map By)),(13,eV k)]:List (Nat×AV))) (fun k:Nat=>([(1,some .row)]:List (Nat×Option Ob))) (fun k:Nat=>k≤L.length) (fun k:Nat=>L.length - k) (0);(conv=>lhs;simp only[Nf.nN,Nf.all,di,reduceAdd,reduceSub]);(all_goals skip))
 ·exact bm _
 ·exact fp rfl (by(refine⟨.jt _ _ _ rfl rfl,?_⟩;(iterate 4 refine aC ?_);exact trivial)) (by(refine⟨.iF rfl,?_⟩;refine aF ?_;exact trivial)) rfl
 rintro k hk
 by_cases fm:k<L.length
 ·have hi:=H4 (h _ (hm _ (cZ fm)))
  have kZ:(L.take (k+1)).map By=(L.take k).map By++ [By L[k]]:=by rw[fw fm,cV];rfl
  (refine EG ?_;refine GF ?_;refine au ?_;refine kM ?_;refine Fh ?_;refine zm ?_;(with_reducible apply a_.HY (hf:=hi));(first|(with_reducible assumption)|(refine TB.gs ?_ (by with_reducible assumption);with_reducible assumption)|(refine TB.gi ?_ (by with_reducible assumption);with_reducible assumption)|exact TB.none _);exact aj;exact rfl;refine uZ ?_;(with_reducible apply a_.fI);exact rfl;exact ah;(iterate 9 exact rfl);exact aa;refine nz ?_;refine yB ?_;refine oI ?_)
  exact⟨k+1,by omega,by omega,fp rfl (by(refine⟨.e9 (by first|rfl|(rw[kZ];rfl)) rfl,?_⟩;refine⟨.fQ (by first|rfl|(rw[kZ];rfl)),?_⟩;refine⟨.fQ (by first|rfl|(rw[kZ];rfl)),?_⟩;refine⟨.e9 (by first|rfl|(rw[kZ];rfl)) rfl,?_⟩;refine aC ?_;exact trivial)) (by(refine aF ?_;refine aF ?_;exact trivial)) rfl⟩
 ·rw[gC (l:=L) aJ]
  (refine lU ?_;refine ly ?_;refine a_.fT rfl rfl rfl ?_;refine zA (hj) ?_;refine kQ ?_)
  (apply e6;(exact gk.one (.tmp rfl rfl));(exact Le.pv _))
end Go.Ab.N19
/- Chapter 19:the simplification,walked. -/
namespace Go.Ab.N19
open Go Go.Proofs Go.RowKit Go.Ab
open Nat (reduceAdd reduceSub)
set_option maxRecDepth 20000
set_option maxHeartbeats 4000000
attribute [local irreducible] AW a_ gb fq AR fz fk fJ fX canon eQ xw EP iV mh mX uy
theorem Gr (l:List Int) (x:Int):Fn Tryz.prog 41 [.pv (ints l),eV x] (eV (AB (fun y=>decide (x=y)) l)):=by
 refine Fn.enter (n:=19) Tryz.func41 rfl rfl rfl rfl rfl (by decide) fun g fD fB=>?_;(try refine nz ?_)
 refine AW.jE 0 rfl fun hlen=>?_
 (refine w6 ?_;refine n_ ?_)
 (refine nz ?_;apply AW.gN [7,0,1] [] (fun k:Nat=>([(8,eV k)]:List (Nat×AV))) (fun k:Nat=>([]:List (Nat×Option Ob))) (fun k:Nat=>k≤l.length∧(l.take k).any (fun y=>decide (x=y))=false) (fun k:Nat=>l.length - k) (0);(conv=>lhs;simp only[Nf.nN,Nf.all,di,reduceAdd,reduceSub]);(all_goals skip))
 ·exact⟨bm _,rfl⟩
 ·exact KX
 rintro k ⟨hk,kY⟩
 by_cases fm:k<l.length
 ·have hs:=xR (p:=fun y=>decide (x=y)) fm
  rw[kY,cK] at hs
  by_cases hp:x=l[k]
  ·rw[Bn fm kY (decide_eq_true hp)]
   (refine kA ?_;refine pB ?_;(iterate 3 refine zm ?_);refine aA ?_;refine zr ?_;refine pN ?_;refine zc ?_;refine ly ?_;refine zm ?_;refine kQ ?_;refine wu ?_)
   (apply e6;(exact gk.one (.tmp rfl rfl));(refine Le.eV ?_;(rfl)))
  ·rw[decide_eq_false hp] at hs
   (refine kA ?_;refine pB ?_;(iterate 3 refine zm ?_);refine aA ?_;refine zr ?_;refine pN ?_;refine zk ?_;refine uB ?_;refine oI ?_)
   exact QA
 ·rw[gC (l:=l) aJ] at kY
  rw[D6 kY]
  (refine lU ?_;refine lf ?_)
  (apply e6;(exact gk.one (.tmp rfl rfl));(refine Le.eV ?_;(rfl)))
theorem any_eq (l:List Int) (x:Int):l.any (fun y=>decide (x=y))=decide (x∈l):=by
 rw[Bool.eq_iff_iff,df,decide_eq_true_iff]
 constructor
 ·rintro⟨y,hy,h⟩;have:=of_decide_eq_true h;subst this;exact hy
 ·intro h;exact⟨x,h,by simp⟩
theorem r6 (l:List Int) (x:Int):Fn Tryz.prog 18 [.pv (ints l),eV x] (fh (decide (x∈l))):=by
 have hi:=Gr l x
 rw[← any_eq,← El]
 refine Fn.enter (n:=9) Tryz.func18 rfl rfl rfl rfl rfl (by decide) fun g fD fB=>?_;(try refine nz ?_)
 (refine zq ?_;refine pB ?_;(iterate 2 refine zm ?_);refine zA (hi) ?_;refine AL ?_)
 (apply e6;(exact gk.one (.tmp rfl rfl));(refine Le.fh ?_;(rfl)))
theorem KA (d:List Int) (l:Int) (hl: -1000000000<l∧l<1000000000):Fn Tryz.prog 19 [eV l,.fV [ints d]] (fh (decide (-l∈d))):=by
 have hc:=r6 d (-l)
 refine Fn.enter (n:=8) Tryz.func19 rfl rfl rfl rfl rfl (by decide) fun g fD fB=>?_;(try refine nz ?_)
 (refine zq ?_;refine pB ?_;refine zr ?_;refine FR ?_;refine zA (hc) ?_;refine kQ ?_)
 (apply e6;(exact gk.one (.tmp rfl rfl));(refine Le.fh ?_;(rfl)))
structure Sk (cl:List (List Int)):Prop where
 num:cl.length≤100000
 len:∀c∈cl,c.length≤100000
 lit:∀c∈cl,∀x∈c,-1000000000<x∧x<1000000000
theorem LL (n:Int) (cl:List (List Int)) (h:Sk cl):ux FO Tryz.prog 7 [F7 n cl] (F7 n (mc cl)):=by
 have nK:=tc
 have Ye:=h.num
 refine ux.enter nK (n:=58) Tryz.func7 rfl rfl rfl rfl rfl (by decide) fun g fD fB hT=>?_;(try refine nz ?_)
 (refine zq ?_;refine Ee ?_;refine uI ?_;refine zd ?_;refine zq ?_;refine xB ?_;refine a_.Ag 24 [0] rfl rfl rfl rfl rfl rfl rfl rfl rfl ?_;refine nz ?_;refine a_.DU (t:=44) rfl ?_;refine nz ?_;refine uI ?_;refine zB ?_;refine nz ?_;refine a_.tZ rfl rfl rfl ?_;refine zd ?_;refine qw ?_;refine vB ?_;refine n_ ?_)
 (refine nz ?_;apply AW.gN [17,16,4,3,2] [1] (fun k:Nat=>([(18,eV k)]:List (Nat×AV))) (fun k:Nat=>([(3,some (.box [eV n,.own 4 29 1 ((mc (cl.take k)).map fun c=>[ints c])])),(2,some (.mp (uy ((mc (cl.take k)).map mX)))),(4,some .row)]:List (Nat×Option Ob))) (fun k:Nat=>k≤cl.length) (fun k:Nat=>cl.length - k) (0);(conv=>lhs;simp only[Nf.nN,Nf.all,di,reduceAdd,reduceSub]);(all_goals skip))
 ·exact bm _
 ·exact fp rfl (by(refine⟨.fQ (by first|rfl|(unfold mc;rfl)),?_⟩;refine⟨.fQ (by first|rfl|(unfold mc;rfl)),?_⟩;refine⟨.ib (by first|rfl|(unfold mc;rfl)),?_⟩;(iterate 3 refine aC ?_);exact trivial)) (by(refine⟨.box _ rfl ?_,?_⟩;refine⟨.fQ (by first|rfl|(unfold mc;rfl)),?_⟩;refine⟨.jt _ _ _ rfl rfl,?_⟩;exact trivial;refine⟨WO.S5 rfl (by unfold mc;rfl),?_⟩;refine⟨.iF rfl,?_⟩;refine⟨.box _ rfl ?_,?_⟩;refine⟨.fQ (by first|rfl|(unfold mc;rfl)),?_⟩;refine aC ?_;(iterate 2 exact trivial))) rfl
 rintro k hk
 have xj:=Dv cl k hk
 by_cases fm:k<cl.length
 ·have kZ:=Bd fm
  have Cn:=cZ fm
  have hlen:=h.len _ Cn
  have kd:=h.lit _ Cn
  generalize mc (cl.take k)=out at xj kZ ⊢
  have Xj:out.length≤k:=by have:=xj.len;rw[dI] at this;omega
  (refine EG ?_;refine aA ?_;refine zr ?_;refine pB ?_;refine uI ?_;refine zd ?_;refine nf ?_;refine n_ ?_)
  generalize cl[k]=c at hlen kd kZ ⊢
  (refine nz ?_;apply AW.gN [23,22,7,18,17,16,4,3,2] [3,2,4,1] (fun j:Nat=>([(24,eV j)]:List (Nat×AV))) (fun j:Nat=>([(5,some (.box [.own 6 3 1 ((nX (c.take j)).map encI)])),(6,some .row)]:List (Nat×Option Ob))) (fun j:Nat=>j≤c.length) (fun j:Nat=>c.length - j) (0);(conv=>lhs;simp only[Nf.nN,Nf.all,di,reduceAdd,reduceSub]);(all_goals skip))
  ·exact bm _
  ·exact fp rfl (by(refine⟨.fQ (by first|with_reducible rfl|(rfl)),?_⟩;refine⟨.fQ (by first|with_reducible rfl|(rfl)),?_⟩;refine⟨.ib (by first|with_reducible rfl|(rfl)),?_⟩;refine aC ?_;(iterate 2 refine⟨.fQ (by first|with_reducible rfl|(rfl)),?_⟩);refine⟨.ib (by first|with_reducible rfl|(rfl)),?_⟩;(iterate 3 refine aC ?_);exact trivial)) (by(refine⟨.box _ rfl ?_,?_⟩;refine⟨.jt _ _ _ rfl rfl,?_⟩;exact trivial;refine⟨.iF rfl,?_⟩;refine⟨.box _ rfl ?_,?_⟩;refine⟨.fQ (by first|with_reducible rfl|(rfl)),?_⟩;refine⟨.e9 (by first|with_reducible rfl|(rfl)) rfl,?_⟩;exact trivial;refine⟨WO.strs rfl,?_⟩;refine aF ?_;refine⟨.box _ rfl ?_,?_⟩;refine⟨.fQ (by first|with_reducible rfl|(rfl)),?_⟩;refine aC ?_;(iterate 2 exact trivial))) rfl
  rintro j hj
  have Ap:=LO (c.take j)
  have iR:(c.take j).length≤j:=by rw[dI];omega
  by_cases Fv:j<c.length
  ·have sK:=Ii Fv
   generalize nX (c.take j)=d at Ap sK ⊢
   have Jf:=r6 d c[j]
   unfold vR at sK
   by_cases hm:c[j]∈d
   ·rw[if_pos hm] at sK
    rw[decide_eq_true hm] at Jf
    (refine EG ?_;refine aA ?_;refine zr ?_;refine pB ?_;refine jf ?_;refine zA (Jf) ?_;refine a_.not rfl rfl rfl ?_;refine rK ?_;refine oI ?_)
    exact⟨j+1,by omega,by omega,fp rfl (by(refine⟨.fQ (by first|rfl|rw[sK]),?_⟩;refine⟨.fQ (by first|rfl|rw[sK]),?_⟩;refine⟨.ib (by first|rfl|rw[sK]),?_⟩;refine aC ?_;(iterate 2 refine⟨.fQ (by first|rfl|rw[sK]),?_⟩);refine⟨.ib (by first|rfl|rw[sK]),?_⟩;(iterate 3 refine aC ?_);exact trivial)) (by(refine⟨.box _ rfl ?_,?_⟩;refine⟨.e9 (by first|rfl|rw[sK]) rfl,?_⟩;exact trivial;refine aF ?_;refine⟨.box _ rfl ?_,?_⟩;refine⟨.fQ (by first|rfl|rw[sK]),?_⟩;refine⟨.e9 (by first|rfl|rw[sK]) rfl,?_⟩;exact trivial;refine⟨WO.strs rfl,?_⟩;refine aF ?_;refine⟨.box _ rfl ?_,?_⟩;refine⟨.fQ (by first|rfl|rw[sK]),?_⟩;refine aC ?_;(iterate 2 exact trivial))) rfl⟩
   ·rw[if_neg hm] at sK
    rw[decide_eq_false hm] at Jf
    (refine EG ?_;refine aA ?_;refine zr ?_;refine pB ?_;refine jf ?_;refine zA (Jf) ?_;refine a_.not rfl rfl rfl ?_;refine th ?_;refine AW.region ?_;refine nz ?_;refine jf ?_;refine uZ ?_;(with_reducible apply a_.fI);exact rfl;exact ah;(iterate 9 exact rfl);exact aa;refine nz ?_;refine DX ?_;refine xz ?_)
    exact⟨j+1,by omega,by omega,fp rfl (by(refine⟨.fQ (by first|rfl|(rw[sK,cV];rfl)),?_⟩;refine⟨.fQ (by first|rfl|(rw[sK,cV];rfl)),?_⟩;refine⟨.ib (by first|rfl|(rw[sK,cV];rfl)),?_⟩;refine aC ?_;refine⟨.fQ (by first|rfl|(rw[sK,cV];rfl)),?_⟩;refine⟨.fQ (by first|rfl|(rw[sK,cV];rfl)),?_⟩;refine⟨.ib (by first|rfl|(rw[sK,cV];rfl)),?_⟩;(iterate 3 refine aC ?_);exact trivial)) (by(refine⟨.box _ rfl ?_,?_⟩;refine⟨.e9 (by first|rfl|(rw[sK,cV];rfl)) rfl,?_⟩;exact trivial;refine aF ?_;refine⟨.box _ rfl ?_,?_⟩;refine⟨.fQ (by first|rfl|(rw[sK,cV];rfl)),?_⟩;refine⟨.e9 (by first|rfl|(rw[sK,cV];rfl)) rfl,?_⟩;exact trivial;refine⟨WO.strs rfl,?_⟩;refine aF ?_;refine⟨.box _ rfl ?_,?_⟩;refine⟨.fQ (by first|rfl|(rw[sK,cV];rfl)),?_⟩;refine aC ?_;(iterate 2 exact trivial))) rfl⟩
  ·rw[gC (l:=c) aJ] at Ap ⊢
   have Ms:=fun x=>(qd (c:=c) (x:=x)).1
   unfold Ka at kZ
   generalize nX c=d at Ap Ms kZ ⊢
   have hf:∀fx vs us,ux (uQ Tryz.prog (vF fx vs us) eV (yc fun l=>decide (-l∈d)) d) Tryz.prog 20 [.pv (ints d),.pv (.lit (vF fx vs us))] (fh (Bo d)):=fun fx vs us=>G7 d (fun l=>decide (-l∈d)) fx vs us
   have hc:∀x∈d,Fn Tryz.prog 19 [eV x,.fV [ints d]] (yc (fun l=>decide (-l∈d)) x):=fun x hx=>KA d x (kd x (Ms x hx))
   have NB:=OR d aJ (fun x hx=>kd x (Ms x hx))
   cases ho:Bo d with
   |true=>
    rw[if_pos (.inl ho)] at kZ
    rw[ho] at hf
    (refine NI ?_;(with_reducible apply a_.CZ (hf:=hf) (hc:=(fun x hx=>(hc x hx).Vi (T:=fun _=>True))) (hen:=enters_of Tryz.func19 rfl (by decide)));(first|(with_reducible assumption)|(refine TB.gs ?_ (by with_reducible assumption);with_reducible assumption)|(refine TB.gi ?_ (by with_reducible assumption);with_reducible assumption)|exact TB.none _);(intro X1 Xp WM;(repeat (first|exact .nil|apply lX.here|(apply lX.cons rfl;(first|exact .le (.pv _)|exact .box rfl rfl|exact .le (.own _ _ _ _ rfl)|exact .le (.nil _)|exact .le (.any _)|exact .le (.fV _)|(refine .le (.rn ?_);repeat (first|exact .nil|(refine .cons ?_ ?_;(first|exact .pv _|exact .own _ _ _ _ rfl|exact .nil _)))))))));exact rfl;exact rfl;(repeat (first|exact .nil|(refine .cons ?_ ?_;(first|exact .le (.pv _)|exact .box rfl rfl|exact .le (.own _ _ _ _ rfl)|exact .le (.nil _)|exact .le (.any _)|exact .le (.fV _)|(refine .le (.rn ?_);repeat (first|exact .nil|(refine .cons ?_ ?_;(first|exact .pv _|exact .own _ _ _ _ rfl|exact .nil _))))))));exact(fun _=>rfl);exact rfl;exact rfl;exact(fun h_=>by cases h_);refine zm ?_;(iterate 4 refine a_.gg rfl rfl rfl rfl rfl rfl rfl ?_);refine AK ?_;refine Ei ?_;refine oI ?_)
    exact W5
   |false=>
    rw[ho] at hf
    by_cases ha:(out.any fun e=>decide (mX e=mX d))=true
    ·rw[if_pos (.inr ha)] at kZ
     have Yw:true=true↔mX d∈out.map mX:=⟨fun _=>by
      obtain⟨e,he,h⟩:=df.1 ha
      exact bx.2 ⟨e,he,of_decide_eq_true h⟩,fun _=>rfl⟩
     (refine NI ?_;(with_reducible apply a_.CZ (hf:=hf) (hc:=(fun x hx=>(hc x hx).Vi (T:=fun _=>True))) (hen:=enters_of Tryz.func19 rfl (by decide)));(first|(with_reducible assumption)|(refine TB.gs ?_ (by with_reducible assumption);with_reducible assumption)|(refine TB.gi ?_ (by with_reducible assumption);with_reducible assumption)|exact TB.none _);(intro X1 Xp WM;(repeat (first|exact .nil|apply lX.here|(apply lX.cons rfl;(first|exact .le (.pv _)|exact .box rfl rfl|exact .le (.own _ _ _ _ rfl)|exact .le (.nil _)|exact .le (.any _)|exact .le (.fV _)|(refine .le (.rn ?_);repeat (first|exact .nil|(refine .cons ?_ ?_;(first|exact .pv _|exact .own _ _ _ _ rfl|exact .nil _)))))))));exact rfl;exact rfl;(repeat (first|exact .nil|(refine .cons ?_ ?_;(first|exact .le (.pv _)|exact .box rfl rfl|exact .le (.own _ _ _ _ rfl)|exact .le (.nil _)|exact .le (.any _)|exact .le (.fV _)|(refine .le (.rn ?_);repeat (first|exact .nil|(refine .cons ?_ ?_;(first|exact .pv _|exact .own _ _ _ _ rfl|exact .nil _))))))));exact(fun _=>rfl);exact rfl;exact rfl;exact(fun h_=>by cases h_);refine zm ?_;refine zl ?_;refine a_.p9 rfl rfl rfl ?_;refine Cw ?_;(with_reducible apply a_.D4 (hf:=NB));(first|(with_reducible assumption)|(refine TB.gs ?_ (by with_reducible assumption);with_reducible assumption)|(refine TB.gi ?_ (by with_reducible assumption);with_reducible assumption)|exact TB.none _);exact aj;exact rfl;exact rfl;exact(fun h_=>by cases h_);refine zl ?_;refine a_.wE rfl rfl rfl rfl rfl rfl (by with_reducible assumption) rfl rfl rfl ?_;refine a_.gO rfl rfl rfl rfl rfl rfl ?_;refine th ?_;refine Ei ?_;refine oI ?_)
     exact W5
    ·rw[if_neg (by rintro(h1|h1);rw[ho] at h1;cases h1;exact ha h1)] at kZ
     have ZB:¬mX d∈out.map mX:=fun h1=>by
      obtain⟨e,he,h2⟩:=bx.1 h1
      exact ha (df.2 ⟨e,he,decide_eq_true h2⟩)
     have Yw:false=true↔mX d∈out.map mX:=⟨fun h1=>(Bool.false_ne_true h1).elim,fun h1=>absurd h1 ZB⟩
     (refine NI ?_;(with_reducible apply a_.CZ (hf:=hf) (hc:=(fun x hx=>(hc x hx).Vi (T:=fun _=>True))) (hen:=enters_of Tryz.func19 rfl (by decide)));(first|(with_reducible assumption)|(refine TB.gs ?_ (by with_reducible assumption);with_reducible assumption)|(refine TB.gi ?_ (by with_reducible assumption);with_reducible assumption)|exact TB.none _);(intro X1 Xp WM;(repeat (first|exact .nil|apply lX.here|(apply lX.cons rfl;(first|exact .le (.pv _)|exact .box rfl rfl|exact .le (.own _ _ _ _ rfl)|exact .le (.nil _)|exact .le (.any _)|exact .le (.fV _)|(refine .le (.rn ?_);repeat (first|exact .nil|(refine .cons ?_ ?_;(first|exact .pv _|exact .own _ _ _ _ rfl|exact .nil _)))))))));exact rfl;exact rfl;(repeat (first|exact .nil|(refine .cons ?_ ?_;(first|exact .le (.pv _)|exact .box rfl rfl|exact .le (.own _ _ _ _ rfl)|exact .le (.nil _)|exact .le (.any _)|exact .le (.fV _)|(refine .le (.rn ?_);repeat (first|exact .nil|(refine .cons ?_ ?_;(first|exact .pv _|exact .own _ _ _ _ rfl|exact .nil _))))))));exact(fun _=>rfl);exact rfl;exact rfl;exact(fun h_=>by cases h_);refine zm ?_;refine zl ?_;refine a_.p9 rfl rfl rfl ?_;refine Cw ?_;(with_reducible apply a_.D4 (hf:=NB));(first|(with_reducible assumption)|(refine TB.gs ?_ (by with_reducible assumption);with_reducible assumption)|(refine TB.gi ?_ (by with_reducible assumption);with_reducible assumption)|exact TB.none _);exact aj;exact rfl;exact rfl;exact(fun h_=>by cases h_);refine zl ?_;refine a_.wE rfl rfl rfl rfl rfl rfl (by with_reducible assumption) rfl rfl rfl ?_;refine a_.gO rfl rfl rfl rfl rfl rfl ?_;refine se ?_;refine a_.p9 rfl rfl rfl ?_;refine zb ?_;(with_reducible apply a_.D4 (hf:=NB));(first|(with_reducible assumption)|(refine TB.gs ?_ (by with_reducible assumption);with_reducible assumption)|(refine TB.gi ?_ (by with_reducible assumption);with_reducible assumption)|exact TB.none _);exact aj;exact rfl;exact rfl;exact(fun h_=>by cases h_);refine a_.nL rfl rfl rfl rfl rfl rfl rfl rfl rfl rfl (by with_reducible assumption) (by with_reducible assumption) ?_;refine nz ?_;refine zd ?_;refine AW.region ?_;refine a_.c_ 24 1 1 rfl rfl rfl rfl ?_;(iterate 2 refine zb ?_);refine Pz ?_;refine uZ ?_;(with_reducible apply a_.fI);exact rfl;exact ah;(iterate 9 exact rfl);exact aa;refine nz ?_;refine a_.c_ 24 1 1 rfl rfl rfl rfl ?_;refine DX ?_;refine xz ?_)
     exact⟨k+1,by omega,by omega,fp rfl (by(refine⟨.fQ (by first|rfl|(rw[kZ,cV];rfl)),?_⟩;refine⟨.fQ (by first|rfl|(rw[kZ,cV];rfl)),?_⟩;refine⟨.ib (by first|rfl|(rw[kZ,cV];rfl)),?_⟩;(iterate 3 refine aC ?_);exact trivial)) (by(refine⟨.box _ rfl ?_,?_⟩;refine⟨.fQ (by first|rfl|(rw[kZ,cV];rfl)),?_⟩;refine⟨.e9 (by first|rfl|(rw[kZ,cV];rfl)) rfl,?_⟩;exact trivial;refine⟨WO.Nb rfl (by rw[kZ,cV];rfl),?_⟩;refine aF ?_;refine⟨.box _ rfl ?_,?_⟩;refine⟨.fQ (by first|rfl|(rw[kZ,cV];rfl)),?_⟩;refine aC ?_;(iterate 2 exact trivial))) rfl⟩
 ·rw[gC (l:=cl) aJ]
  (refine lU ?_;refine ly ?_;refine rq ?_;refine zB ?_;refine nz ?_;refine zd ?_;refine AW.ret ?_)
  (apply e6;(exact gk.one (.cell rfl rfl rfl rfl));(refine Le.rn ?_;refine lY.cons ?_ ?_;(with_reducible exact Le.pv _);refine lY.cons ?_ ?_;exact Le.own _ _ _ _ rfl;exact lY.nil))
end Go.Ab.N19
/- The laws through the layers:a formula and its simplification. -/
namespace Go.Ab
open Go Go.Proofs Go.RowKit
set_option maxRecDepth 20000
set_option maxHeartbeats 8000000
theorem Bp {n:Nat} {c:List Int} (h:c.Nodup) (hl:∀x∈c,Lit n x):c.length≤2*n+2:=by
 have:=jN (n:=2*n+2) (l:=c.map eQ) (by
  unfold List.Nodup
  rw[List.pairwise_map]
  exact h.imp_of_mem fun {a b} ha hb qh e=>qh (gU (hl a ha) (hl b hb) (by rw[e]))) fun v hv=>by
  obtain⟨a,ha,rfl⟩:=bx.1 hv
  have:=hY (hl a ha)
  omega
 simpa using this
attribute [local irreducible] AW a_ gb fq AR fz fk fJ fX canon iV j3 nP pf mr eX iM gR jg hO ma l8 N19.mc
theorem Gk (v:Int) (cl:List (List Int)):ux N19.FO Tryz.prog 3 [F7 v cl] (fh true):=by
 have nK:=N19.tc
 have hh:=I4
 have hs:=GC v cl
 cases e1:ma v cl with
 |false=>
  rw[e1] at hs
  refine ux.enter nK (n:=75) Tryz.func3 rfl rfl rfl rfl rfl (by decide) fun g fD fB hT=>?_;(try refine nz ?_)
  (refine zq ?_;refine Ee ?_;refine pB ?_;refine zA (hh) ?_;refine tg ?_;refine rq ?_;refine zA (hs) ?_;refine a_.not rfl rfl rfl ?_;refine th ?_;refine ly ?_;refine zm ?_;refine xv ?_)
  (apply e6;(exact gk.one (.tmp rfl rfl));(refine Le.fh ?_;(rfl)))
 |true=>
 rw[e1] at hs
 obtain⟨hv,XO,IJ⟩:=yC e1
 obtain⟨n,rfl⟩:∃n:Nat,v=n:=⟨v.toNat,by omega⟩
 have UT:n≤8:=by omega
 have kd:∀c∈cl,∀x∈c,Lit n x:=fun c hc x hx=>by
  have:=fE (IJ c hc).1 x hx
  exact⟨this.1,by omega,by omega⟩
 have xj:N19.Sk cl:=⟨by omega,fun c hc=>by have:=(IJ c hc).2;omega,fun c hc x hx=>by obtain⟨_,_,_⟩:=kd c hc x hx;omega⟩
 have R6:=N19.LL n cl xj
 have hS:=N19.Af cl
 have F2:=hS.len
 have Tx:∀d∈N19.mc cl,∀x∈d,Lit n x:=fun d hd x hx=>by
  obtain⟨c,hc,e⟩:=hS.src d hd
  exact kd c hc x ((e x).1 hx)
 have Xz:∀d∈N19.mc cl,d.length≤2*n+2:=fun d hd=>Bp (hS.nodup d hd) (Tx d hd)
 have hR:=fun r (h:fv n (N19.mc cl) [] r) h2=>h.TT kd h2
 have oY:=fun q r (h1:fv n cl [] q) (h2:fv n (N19.mc cl) [] r)=>h1.same h2 UT (by simp) fun σ=>Jr (fun c hc x hx=>(kd c hc x hx).1) σ
 clear hS
 generalize N19.mc cl=G at R6 F2 Tx Xz hR oY
 have kj:l8 n G=true:=by
  unfold l8
  rw[aZ]
  exact⟨decide_eq_true aJ,bD.2 fun c hc=>oE (Tx c hc)⟩
 have h5:=wx n G
 rw[kj] at h5
 have h6:=qo n cl [] aJ aJ (fun c hc=>⟨by have:=(IJ c hc).2;omega,kd c hc⟩) (by simp) (by simp)
 have h7:=qo n G [] aJ aJ (fun c hc=>⟨by have:=Xz c hc;omega,Tx c hc⟩) (by simp) (by simp)
 refine ux.enter nK (n:=75) Tryz.func3 rfl rfl rfl rfl rfl (by decide) fun g fD fB hT=>?_;(try refine nz ?_)
 (refine zq ?_;refine Ee ?_;refine pB ?_;refine zA (hh) ?_;refine tg ?_;refine rq ?_;refine zA (hs) ?_;refine a_.not rfl rfl rfl ?_;refine se ?_;refine rq ?_;(with_reducible apply a_.HY (hf:=R6));(first|(with_reducible assumption)|(refine TB.gs ?_ (by with_reducible assumption);with_reducible assumption)|(refine TB.gi ?_ (by with_reducible assumption);with_reducible assumption)|exact TB.none _);exact aj;exact rfl;refine uI ?_;refine zB ?_;refine nz ?_;refine zd ?_;refine yP ?_;refine rq ?_;refine zA (h5) ?_;refine B9 ?_;refine zl ?_;refine a_.c_ 24 0 0 rfl rfl rfl rfl ?_;refine Cw ?_;refine a_.c_ 24 0 0 rfl rfl rfl rfl ?_;refine Cw ?_;refine a_.neq rfl rfl rfl rfl rfl ?_;refine a_.gO rfl rfl rfl rfl rfl rfl ?_;refine lg ?_;refine Fo ?_;refine zy ?_;refine Fo ?_;refine Cc ?_;refine ph ?_;refine ly ?_;refine rq ?_;(with_reducible apply a_.jU (hf:=h6));(with_reducible assumption);(iterate 3 exact rfl);exact aq;exact ak;(intro x_;exact rfl);exact rfl;exact al;(intro x_;exact al);(intro x_;exact rfl);exact rfl;(intro x_ pq);refine LP ?_;refine AW.lq 8 ?_)
 obtain⟨k1,vals,core1,P1⟩:=x_
 have yV:=pq
 simp only at yV ⊢
 refine Stop.go ?_
 (refine ly ?_;refine rq ?_;(with_reducible apply a_.jU (hf:=h7));(with_reducible assumption);(iterate 3 exact rfl);exact aq;exact ak;(intro x_;exact rfl);exact rfl;exact al;(intro x_;exact al);(intro x_;exact rfl);exact rfl;(intro x_ pq);refine LP ?_;refine zo ?_;refine AW.lq 9 ?_)
 obtain⟨k2,vals2,core2,P2⟩:=x_
 have JS:=pq
 simp only at JS ⊢
 refine Stop.go ?_
 obtain⟨ek,ev⟩:=oY _ _ yV JS
 simp only at ek ev
 subst ek
 rcases yV.one UT with e|e
 ·simp only at e
  subst e
  rw[← ev rfl]
  have PH:=yV.Hs rfl
  have VD:=He vals (by have:=PH.1;simp only at this;omega)
  (refine ly ?_;(iterate 2 refine zm ?_);refine a_.neq rfl rfl rfl rfl rfl ?_;refine se ?_;(iterate 2 refine zm ?_);refine KD ?_;refine pd ?_;refine zm ?_;refine pd ?_;refine zA (VD) ?_;refine zl ?_;refine a_.gO rfl rfl rfl rfl rfl rfl ?_;refine zh ?_;refine QV ?_;refine kQ ?_)
  (apply e6;(exact gk.one (.tmp rfl rfl));(refine Le.fh ?_;(rfl)))
 ·simp only at e
  subst e
  have iJ:Lq n cl [] (jh P2):=JS.Xb UT (fun c hc=>⟨(IJ c hc).1,by have:=(IJ c hc).2;omega⟩) (by omega)
  have Po:Fn Tryz.prog 11 [F7 (n:Nat) cl,.pv (jj []),.pv (steps (jh P2))] (fh (vr n cl [] (jh P2))):=wb n cl [] (jh P2) iJ
  rw[hR _ JS rfl,show steps (jh P2)=PV.slice 3 (P2.map o_) from by rw[xL]] at Po
  (refine ly ?_;(iterate 2 refine zm ?_);refine a_.neq rfl rfl rfl rfl rfl ?_;refine se ?_;(iterate 2 refine zm ?_);refine QV ?_;refine zm ?_;refine KD ?_;refine pd ?_;refine rq ?_;refine pd ?_;refine zA (Po) ?_;refine zl ?_;refine a_.gO rfl rfl rfl rfl rfl rfl ?_;refine a_.jz rfl rfl rfl rfl rfl rfl ?_;refine kQ ?_)
  (apply e6;(exact gk.one (.tmp rfl rfl));(refine Le.fh ?_;(rfl)))
end Go.Ab
namespace Go.Proofs.YtigjjjpcjnifhaaGreatDoor.Law1
open Go Go.Ab Go.ChangeShapes Go.WideShapes Go.ChangeAt Go.RowKit
set_option linter.unusedVariables false
theorem own:ownKnob Tryz.prog.godebug=none:=by kernel_rfl
theorem laidOut:laidOutB Tryz.prog=true:=by kernel_rfl
theorem OU:Rd Tryz.prog 29 (fun l:List Int=>[ints l]) (fun _=>True):=
 Rd.map (Rd.slice (e:=3) (k:=1) (by':=8) Tryz.underlying29 aI (by decide) aI (by decide) (fun _=>rfl) (Rd.int Tryz.underlying3)) id (fun _=>rfl) (fun _ _=>trivial)
theorem Lo:Rd Tryz.prog 22 (fun l:List (List Int)=>[jj l]) (fun l=>l.length*24≤reachBytes):=
 Rd.map (Rd.slice (e:=29) (k:=1) (by':=24) Tryz.underlying22 aI (by decide) aI (by decide) (fun _=>rfl) OU) id (fun _=>rfl) (fun _ h=>h.1)
theorem Rc:Rd Tryz.prog 24 (fun p:Int×List (List Int)=>[.lit (.int .i64 p.1),jj p.2]) (fun _=>True):=
 Rd.map (Rd.struct (n:=2) Tryz.underlying24 aI (L5.cons (k:=1) (n:=1) rfl aI (Rd.int Tryz.underlying3) (L5.cons (k:=1) (n:=0) rfl aI Lo L5.nil))) (fun p=>(p.1,p.2.1)) (fun _=>rfl) (fun _ _=>trivial)
theorem Mc {N:Nat→Prop} {w:World} {v:Value} (h:RA (uU N) w v (fh true)):v=.bool true:=by
 cases h with
 |pv h=>cases h;rfl
noncomputable abbrev tf {H:Type}:List (String×DataW H):=[("math/bits.deBruijn32tab",Rows.laid_math_bits_deBruijn32tab),("math/bits.deBruijn64tab",Rows.laid_math_bits_deBruijn64tab),("internal/strconv.uint64pow10",Rows.laid_internal_strconv_uint64pow10)]
set_option maxRecDepth 100000 in
theorem I3 (os:Os) (args:Array Value):laidMetH Tryz.prog tf ((World.doorLaid Tryz.prog 72 os).forCall (fun _ _=>0) ⟨#[],args,[]⟩).memory:=
 laidMetH_of_parts3 (fuel:=8) (laidMet_of_run' 8 aI aI) aI aI
theorem Me {W:World} (h:laidMetH Tryz.prog tf W):Go.Ab.N19.FO W:=by
 have h1:laidMet Tryz.prog tf W:=h
 have h2:=h1.tail.tail
 exact Lib.tabIs_of_head (g:=1) (t:=160) (e:=145) (n:=20) (rest:=[]) aI aI Tryz.underlying160 Tryz.underlying145 aI aI ((show(Rows.laid_internal_strconv_uint64pow10:DataW Unit)=Lib.tabData .u64 Lib.pow10Tab by kernel_rfl)▸h2)
set_option maxRecDepth 100000 in
theorem lifted (os:Os) (started:os.Started) (H:Type) (enc:TypeId×Value→H):
  ReturnsInHanded {} Tryz.checked os 3 .any (fun w args=>(Rows.topSimplifiedSolvedSpec.pre enc Tryz.prog Tryz.f3 [] false w args∧laidMetH Tryz.prog tf w)∧sizedMet enc Tryz.prog Tryz.f3 (OpenSpec.ofChange Rows.topSimplifiedSolvedSpec) false w args) (Rows.topSimplifiedSolvedSpec.post enc Tryz.prog Tryz.f3 false true false false):=by
 refine returnsInHanded_of_change_and (C:=Tryz.checked) (X:=fun w _=>laidMetH Tryz.prog tf w) (fun _ _ _ hh h=>h.of_heap hh) own started aI Tryz.func3
  (ChangeSpec.witness_shaped (enc:=enc) (C:=Tryz.checked) (os:=os) (X:=fun w _=>laidMetH Tryz.prog tf w) false (World.doorLaid Tryz.prog 72 os) #[.agg #[.int .i64 0,.slice none 0 0]] 8 rfl (World.shaped_of_RefB aI aI) aI aI aI (I3 os _)) ?_
 intro W base args ds gs before M1 hW YZ mZ hL _
 have kj:∀(j:Nat) t v,Tryz.f3.params[j]? =some t→args[j]? =some v→Value.okWide Tryz.prog W .any base t v:=M1
 have ZQ:=hW
 obtain⟨p,q,SK,hV,rfl,hfz,jl⟩:=hW
 have hA:DataW.TrodAll enc Tryz.prog W 0 (fun _=>true) true Tryz.f3.params.toList args.toList ds p:=SK
 rw[Tryz.params3] at hA kj
 obtain⟨v0,vs0,d0,ds0,p0,q0,gf,rfl,rfl,h0,r0⟩:=trodAll_cons hA
 obtain⟨rfl,rfl,rfl⟩:=trodAll_nil r0
 obtain rfl:args= #[v0]:=by cases args;simp_all
 obtain⟨rfl,rfl⟩:=trodVars_none hV
 have wt:∀(j:Nat) (t:TypeId) (d:DataW H),[24][j]? =some t→[d0][j]? =some d→∀n∈d.weights Tryz.prog t,n≤reachBytes:=by
  intro j t d ht hd
  have hj:j<1:=(List.getElem?_eq_some_iff.1 ht).1
  refine AH mZ (j:=j) ?_ ?_
  ·rw[aT (by rw[Tryz.params3];exact hj),Tryz.params3];exact ht
  ·rw[aT (by simpa using hj)];exact hd
 obtain⟨XM,rfl⟩:=Ab.okWide_struct Tryz.underlying24 (kj 0 24 v0 rfl rfl)
 obtain⟨⟨x0,y0⟩,s0,o0⟩:=KU Rc h0 (wt 0 24 d0 rfl rfl) rfl
 have lt0:∀x∈p0,x.block<W.heap.size:=by obtain⟨m,hm⟩:=h0;exact DataW.trod_lt m _ _ _ hm
 clear SK M1
 refine((Gk x0 y0).calls (fun _=>True) W _ (Me hL) (fun _ _=>trivial) rfl ?_).mono fun e W' ⟨v,he,hv,bel⟩=>?_
 ·intro j v av hj Cg
  match j,hj,Cg with
  |0,hj,Cg=>cases hj;cases Cg;exact s0
  |j+1,hj,Cg=>simp at Cg
 ·obtain rfl:=Mc hv
  subst he
  exact⟨_,rfl,_,_,_,[],_,[],ZQ,trodAll_mk1 (shut_bool Tryz.underlying4 _),(trodAll_cons_mk (Below.trod laidOut aI (of_decide_eq_true aI) h0 bel lt0) trodAll_mk0),rfl,bel.frame _,fun h=>by cases h⟩
theorem over:Rows.topSimplifiedSolvedRow.holds Tryz.pinned (OpenSpec.ofChange Rows.topSimplifiedSolvedSpec):=
 OpenClaim.holds_of_wide 3 Tryz.f3 rfl rfl rfl rfl rfl rfl rfl ⟨rfl,rfl,rfl,rfl,rfl⟩ rfl rfl rfl rfl rfl aI Tryz.func3 aI
  (of_decide_eq_true aI) (by unfold Func.isWrapper;first|(rw[if_pos (by decide+kernel)];kernel_rfl)|(rw[if_neg (by decide+kernel)];exact⟨rfl,rfl⟩))
  (fun os started H enc _=>lifted os started H enc)
set_option maxRecDepth 100000 in
theorem proved:Rows.TopSimplifiedSolvedCardSaid:=
 Claim7.holds_tied_plain_at .later [] [.data,.data,.data] true (true, "413c5763cc29fa9ea638aeb67ac9107812e75eb4da15ed2fc118058f24398f9c") true
  over (fun _ h=>by cases h) aI (fun _ h=>by cases h) topSimplifiedSolved_row_tie rfl ⟨rfl,rfl⟩ aI rfl
  (fun f fn hf Zw=>by
   obtain rfl:f=3:=Option.some.inj ((show Tryz.prog.funcNamed "armature/armaturetop.TopSimplifiedSolved" =some 3 by kernel_rfl).symm.trans hf)|>.symm
   obtain rfl:fn=Tryz.f3:=(Option.some.inj (Tryz.func3.symm.trans Zw)).symm
   exact⟨by kernel_rfl,fun j t ht=>by
    rw[Tryz.params3] at ht
    have hm:t∈ [24]:=by simpa using Array.mem_of_getElem? ht
    have jO:([24].all fun u=>!Tryz.prog.wantsStandIn u)=true:=by kernel_rfl
    exact(show Tryz.prog.wantsStandIn t=false by simpa using bD.1 jO t hm)⟩)
  aI
#print axioms proved
end Go.Proofs.YtigjjjpcjnifhaaGreatDoor.Law1
