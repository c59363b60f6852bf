/- Pools: slices of a row, append, rows taken in, a new pool. -/
import Derived.Test.YtigjjjpcjnifhaaGreatDoorAbL3
import Derived.Test.YtigjjjpcjnifhaaGreatDoorAbL2
import Derived.LoopNIn
import Derived.WalkSmall
import Derived.Shelf.Strings.Builder1
import Derived.RecoverIn
import Derived.Laws.CopyRow
import Derived.Laws.IdiomCopy
set_option linter.unusedSimpArgs false
set_option linter.unusedVariables false
open Option renaming map_none→cP,map_some→bq,map_eq_some_iff→bg,isSome_iff_exists→cY
open Nat renaming mul_one→cH,le_refl→aP,add_zero→bd,ble→bx,beq→aL,blt→aY
open List renaming eq_nil_of_length_eq_zero→bj,length_map→a6,getElem?_of_mem→bz,length_drop→cQ,mem_of_mem_drop→bK,getElem?_drop→bE,getElem?_eq_some_iff→aW,getElem?_take→bD,append_nil→bs,length_append→bV,mem_append→bW,map_toArray→bn,map_cons→bA,map_nil→bZ,take_append_of_le_length→cR,take_of_length_le→cF,mem_of_mem_take→cS,getElem?_map→a7,mem_of_getElem?→aU,ext_getElem?→bX,getElem?_eq_getElem→a8,getElem?_eq_none→cD,map_map→cT,map_append→cU,map_take→cV,map_drop→cW,range→bc,mem_map→bw,cons_append→bt,nodup_cons→cX,mem_cons→bu,getElem?_append_left→aT,getElem?_append_right→aV,getElem_mem→cZ
open Array renaming getElem?_toList→bB,getElem?_eq_some_iff→aO
open Int renaming toNat_of_nonneg→b8
namespace Go.Ab
open Go Go.RowKit
variable {q:Md} {P:Program} {g:e6} {δ:DS} {κ:Kp} {a:Act} {w:World}
variable {ops:Array Oper} {rest:List Oper} {Q:Exit→DS→Prop} {dst:Option Nat} {ty:TypeId} {pos:String} {af:Array Edge} {gd:Option (Tmp×Bool)}
def kN (m:Nat):Value→Value
 |.slice (some ⟨b,o,x⟩) n c=> .slice (some (if c=m then ⟨b,o,x⟩ else ⟨b,o+m,x⟩)) (n - m) (c - m)
 |v=>v
theorem a_.EV {t e':TypeId} {x y:Operand} (i k m:Nat) {e:TypeId} {rows:kF} {H:Value} {ys:List Value} (ho:δ.ob i=some (.ff e rows)) (hk:rows k=(H,ys)) (hx:δ.ev x=.pv (.lit H)) (hy:δ.ev y=e7 m) (hm:m≤ys.length) (ht:P.underlying t=some (.slice e')) (hs:(P.info? e').map (·.size)=some 1)
  (kY:fq x=true) (kW:fq y=true) (hd:fR δ.n dst=true) (hK:a_ q P g ops rest Q (δ.eY dst (.pv (.lit (jn m H))))):a_ q P g ops (⟨dst,.slice t x none (some y) none,ty,pos,af,none⟩::rest) Q δ:=
 a_.iR _ hd (fun κ a w r=>by
  obtain⟨i0,jh,nU⟩:∃i0,P.info? e'=some i0∧i0.size=1:=by
   cases h:P.info? e' with
   |none=>rw[h] at hs;simp at hs
   |some i0=>rw[h] at hs;exact⟨i0,rfl,by simpa using hs⟩
  have h0:=gZ r ho k
  rw[hk] at h0
  simp only at h0
  have hv:a.eval x=H:=r.lit hx kY
  have uM:a.eval y=.int .i64 m:=r.lit hy kW
  obtain⟨a0,cap,hH,hle⟩:∃a0 cap,H=.slice a0 ys.length cap∧ys.length≤cap:=by
   rcases h0.2 with ⟨h1,h2⟩|⟨b,cap,cur,h1,_,_,hle,_⟩
   ·exact⟨none,0,by rw[h1,h2],by omega⟩
   ·exact⟨_,cap,h1,hle⟩
  subst hH
  refine⟨_,fun w' _=>?_,.pv (.lit _)⟩
  have Fu:∀w,(Instr.sliceBounds true ys.length cap none (some (.int .i64 (m:Int))) none).run P w=.ok (0,m,cap) w:=by
   intro w
   have e1:(0:Int)≤(m:Int)∧(m:Int)≤(cap:Int):=by omega
   simp [Instr.sliceBounds,Instr.sliceBound,asIntOf,e1]
   intro h0;exfalso;omega
  simp only[execOp,Instr.sliceAt,Instr.slice,run_underlying ht,hv,uM,Sem.run_bind,Result.andThen_ok,cP,bq,Fu,sizeOf,typeInfo,Sem.run_pure,jn]
  cases a0 with
  |none=>simp [jh,nU]
  |some ad=>
   simp [jh,nU]
   intro _
   cases ad;simp [Addr.add]) hK
theorem a_.GP {t e':TypeId} {x y:Operand} (i k m:Nat) {e:TypeId} {rows:kF} {H:Value} {ys:List Value} (ho:δ.ob i=some (.ff e rows)) (hk:rows k=(H,ys)) (hx:δ.ev x=.pv (.lit H)) (hy:δ.ev y=e7 m) (hm:m≤ys.length) (ht:P.underlying t=some (.slice e')) (hs:(P.info? e').map (·.size)=some 1)
  (kY:fq x=true) (kW:fq y=true) (hd:fR δ.n dst=true) (hK:a_ q P g ops rest Q (δ.eY dst (.pv (.lit (kN m H))))):a_ q P g ops (⟨dst,.slice t x (some y) none none,ty,pos,af,none⟩::rest) Q δ:=
 a_.iR _ hd (fun κ a w r=>by
  obtain⟨i0,jh,nU⟩:∃i0,P.info? e'=some i0∧i0.size=1:=by
   cases h:P.info? e' with
   |none=>rw[h] at hs;simp at hs
   |some i0=>rw[h] at hs;exact⟨i0,rfl,by simpa using hs⟩
  have h0:=gZ r ho k
  rw[hk] at h0
  simp only at h0
  have hv:a.eval x=H:=r.lit hx kY
  have uM:a.eval y=.int .i64 m:=r.lit hy kW
  have Fu:∀cap w,(Instr.sliceBounds true ys.length cap (some (.int .i64 (m:Int))) none none).run P w=.ok (m,ys.length,cap) w:=by
   intro cap w
   have e1:(0:Int)≤(m:Int)∧(m:Int)≤(ys.length:Int):=by omega
   simp [Instr.sliceBounds,Instr.sliceBound,asIntOf,e1]
   intro h0;exfalso;omega
  rcases h0.2 with ⟨h1,h2⟩|⟨b,cap,cur,h1,_,_,hle,_⟩
  ·subst h1
   refine⟨_,fun w' _=>?_,.pv (.lit _)⟩
   have US:=Fu 0 w'
   rw[h2] at US
   have Fz:m=0:=by omega
   subst Fz
   simp only[execOp,Instr.sliceAt,Instr.slice,run_underlying ht,hv,uM,Sem.run_bind,Result.andThen_ok,cP,bq,US,sizeOf,typeInfo,Sem.run_pure,kN]
   simp [jh,nU]
  ·subst h1
   refine⟨_,fun w' _=>?_,.pv (.lit _)⟩
   simp only[execOp,Instr.sliceAt,Instr.slice,run_underlying ht,hv,uM,Sem.run_bind,Result.andThen_ok,cP,bq,Fu,sizeOf,typeInfo,Sem.run_pure,kN]
   simp [jh,nU,Addr.add]
   by_cases h1:cap=m
   ·simp [h1]
   ·by_cases h2:m=0
    ·subst h2;simp [h1]
    ·simp [h1,h2]) hK
theorem a_.x6 {x:Operand} {t e':TypeId} (i k m:Nat) {e:TypeId} {rows:kF} {H:Value} {ys:List Value} (ho:δ.ob i=some (.ff e rows)) (hk:rows k=(H,ys)) (hx:δ.ev x=.pv (.lit (kN m H))) (ht:P.underlying t=some (.slice e')) (kY:fq x=true) (hd:fR δ.n dst=true)
  (hK:a_ q P g ops rest Q (δ.eY dst (e7 (ys.length - m:Nat)))):a_ q P g ops (⟨dst,.call {callee:=.builtin .len,args:= #[x],argTypes:= #[t]},ty,pos,af,none⟩::rest) Q δ:=
 a_.iR _ hd (fun κ a w r=>by
  have h0:=gZ r ho k
  rw[hk] at h0
  simp only at h0
  have hv:a.eval x=kN m H:=r.lit hx kY
  rcases h0.2 with ⟨h1,h2⟩|⟨b,cap,cur,h1,_⟩
  ·subst h1
   exact⟨_,fun w' _=>run_len_slice ht x a.eval none _ 0 (hv.trans (by simp [kN,h2])) w',.pv (.lit _)⟩
  ·subst h1
   exact⟨_,fun w' _=>run_len_slice ht x a.eval _ _ (cap - m) (hv.trans rfl) w',.pv (.lit _)⟩) hK
theorem a_.u6 {x y:Operand} {t e':TypeId} (i k m:Nat) {n:Nat} {ik:IntKind} {e:TypeId} {rows:kF} {H:Value} {ys:List Value} (ho:δ.ob i=some (.ff e rows)) (hk:rows k=(H,ys)) (hx:δ.ev x=.pv (.lit (kN m H))) (hy:δ.ev y=.pv (.lit (.int ik (n:Int)))) (hn:m+n<ys.length)
  (ht:P.underlying t=some (.slice e')) (hs:(P.info? e').map (·.size)=some 1) (kY:fq x=true) (kW:fq y=true) (hd:fR δ.n dst=true)
  (hK:a_ q P g ops rest Q (δ.eY dst (.pv (.lit (nt (m+n) H))))):a_ q P g ops (⟨dst,.indexAddr t x y,ty,pos,af,none⟩::rest) Q δ:=
 a_.iR _ hd (fun κ a w r=>by
  have h0:=gZ r ho k
  rw[hk] at h0
  simp only at h0
  have hv:a.eval x=kN m H:=r.lit hx kY
  rcases h0.2 with ⟨h1,h2⟩|⟨b,cap,cur,h1,_,_,hle,_⟩
  ·exfalso;omega
  ·subst h1
   have yD:a.eval x=.slice (some ⟨b,m,none⟩) (ys.length - m) (cap - m):=hv.trans (by simp [kN];omega)
   refine⟨_,fun w' _=>?_,.pv (.lit _)⟩
   have:=iE (dst:=dst) (ty:=ty) (pos:=pos) (af:=af) ht hs yD (r.lit hy kW) aJ w'
   rw[cH] at this
   simpa [nt] using this) hK
theorem DF {w w':World} {t ty e:TypeId} {i0:TypeInfo} {z:Value} {B n m xc:Nat} {xs Cl:List Value} {v v':Value} {xa:Option Addr} (ht:P.underlying t=some (.slice e)) (jh:P.info? e=some i0) (mE:i0.zero=some z) (ln:i0.size=1) (gD:w.ownsRow B e 1 v n xs) (nG:Cl.length=m*1)
  (fZ:m≠0→∃ad,xa=some ad∧∀j u,Cl[j]? =some u→w.cell? (ad.add j)=some u) (vk:∀u∈Cl,u.oneCell'=true) (sL:n+m≤maxLen) (hb:(n+m)*i0.bytes≤140737488355328)
  (fw:(Builtin.append_ #[t,t] ty #[v,.slice xa m xc]).run P w=.ok v' w'):∀b,v'.ownBlock=some b→v.ownBlock=some b∨w.heap.size≤b:=by
 intro b iU
 by_cases hm:m=0
 ·subst hm
  have zE:Cl=[]:=bj (by simpa using nG)
  subst zE
  rcases gD.2 with ⟨rfl,h0⟩|⟨b0,cap0,cur0,rfl,h4,h5,h6⟩
  ·have ov:(Builtin.append_ #[t,t] ty #[.slice none 0 0,.slice xa 0 xc]).run P w=.ok (.slice none 0 0) w:=by
    cases xa with
    |none=>exact jk ht jh gD
    |some ad=>simp [Builtin.append_,run_underlying ht,sizeOf,typeInfo,jh,Builtin.lenOf,Builtin.firstCells,loadCells,loadCellsFrom]
   rw[ov] at fw
   simp only[Result.ok.injEq] at fw
   rw[← fw.1] at iU;cases iU
  ·cases xa with
   |none=>
    have ov:=jk (P:=P) (c:=xc) (ty:=ty) ht jh gD
    rw[ov] at fw
    simp only[Result.ok.injEq] at fw
    rw[← fw.1] at iU;exact .inl iU
   |some ad=>
    have ov:=run_append_room (P:=P) w t ty e i0 ht jh b0 n cap0 cur0 h5 ad 0 xc [] (by simp) (by simp) (by simp) aJ (by rw[ln];simp [h6.2.2.1];exact h6.1)
    rw[ov] at fw
    simp only[Result.ok.injEq] at fw
    rw[← fw.1] at iU;cases iU;exact .inl rfl
 ·obtain⟨ad,rfl,hc⟩:=fZ hm
  rcases gD.2 with ⟨rfl,h0⟩|⟨b0,cap0,cur0,rfl,h4,h5,h6⟩
  ·have ov:=run_append_nil (P:=P) w t ty e i0 z ht jh mE ad m xc Cl (by rw[ln];exact nG) hc aJ (by simp only[maxLen] at sL;omega) (by have:m*i0.bytes≤(n+m)*i0.bytes:=Nat.mul_le_mul_right _ aJ;omega)
   rw[ov] at fw
   simp only[Result.ok.injEq] at fw
   rw[← fw.1] at iU;cases iU;exact .inr (aP _)
  ·by_cases ku:n+m≤cap0
   ·have ov:=run_append_room (P:=P) w t ty e i0 ht jh b0 n cap0 cur0 h5 ad m xc Cl (by rw[ln];exact nG) hc vk ku (by rw[ln,nG,h6.2.2.1];omega)
    rw[ov] at fw
    simp only[Result.ok.injEq] at fw
    rw[← fw.1] at iU;cases iU;exact .inl rfl
   ·have ov:=run_append_grow (P:=P) w t ty e i0 z ht jh mE ⟨b0,0,none⟩ n cap0 xs (by rw[ln];exact gD.1) (gD.cells (g:=b0) rfl) ad m xc Cl (by rw[ln];exact nG) hc aJ (by simp only[maxLen] at sL;omega) (growslice_fits aJ hb)
    rw[ov] at fw
    simp only[Result.ok.injEq] at fw
    rw[← fw.1] at iU;cases iU;exact .inr (aP _)
theorem KZ {C:Cx} {w:World} {v:Value} {us:List Value} (h:Src C w v 1 (us.map fun u=>[.lit u])):∃xa xc,v=.slice xa us.length xc∧(us.length≠0→∃ad,xa=some ad∧∀(j:Nat) (u:Value),us[j]? =some u→w.cell? (ad.add j)=some u)∧∀u∈us,u.oneCell'=true:=by
 obtain⟨lG,hk,xa,xc,hv,hx⟩:=h
 rw[a6] at hv
 have hc:∀(j:Nat) (u:Value),us[j]? =some u→cellAt (us.map fun u=>[PV.lit u]) j 0=some (.lit u):=fun j u hu=>by simp [cellAt,hu]
 refine⟨xa,xc,hv,fun h0=>?_,fun u hu=>?_⟩
 ·obtain⟨b,off,vs,rfl,h1⟩:=hx (by intro h;simp at h;exact h0 (by simp [h]))
  refine⟨_,rfl,fun j u hu=>?_⟩
  obtain⟨h2,_,h3⟩:=h1 j 0 _ (hc j u hu)
  have:vs j 0=u:=(RA.pv (C:=C) h3).lit
  rw[this,cH,bd] at h2
  rw[addr_add];exact h2
 ·obtain⟨j,hj⟩:=bz hu
  obtain⟨b,off,vs,rfl,h1⟩:=hx (by intro h;simp at h;subst h;simp at hu)
  obtain⟨_,h2,h3⟩:=h1 j 0 _ (hc j u hj)
  have:vs j 0=u:=(RA.pv (C:=C) h3).lit
  rw[← this];exact h2
inductive Hx (δ:DS) (x:Operand):List Value→Prop
 |src {us:List Value} {fc:List (List PV)} (h:qM δ x 1 fc) (he:fc=us.map fun u=>[.lit u]):Hx δ x us
 |tail {i k m:Nat} {e:TypeId} {rows:kF} {H:Value} {ys:List Value} (ho:δ.ob i=some (.ff e rows)) (hk:rows k=(H,ys)) (hm:m≤ys.length) (h:δ.ev x=.pv (.lit (kN m H))) (fZ:ys≠ []):Hx δ x (ys.drop m)
theorem Hx.at {x:Operand} {us:List Value} (h:Hx δ x us) (r:Rel g δ κ a w) (kY:fq x=true):∃xa xc,a.eval x=.slice xa us.length xc∧(us.length≠0→∃ad,xa=some ad∧∀(j:Nat) (u:Value),us[j]? =some u→w.cell? (ad.add j)=some u)∧∀u∈us,u.oneCell'=true:=by
 cases h with
 |src h he=>subst he;exact KZ (h.src r kY)
 | @tail i k m e rows H ys ho hk hm h fZ=>
  have h0:=gZ r ho k
  have yS:=((r.obj i _ ho).2.1 k).2.2.2
  rw[hk] at h0 yS
  simp only at h0 yS
  have hv:a.eval x=kN m H:=r.lit h kY
  rcases h0.2 with ⟨h1,h2⟩|⟨b,cap,cur,h1,_,h3,hle,_,n6,qu⟩
  ·exact absurd (bj h2) fZ
  ·subst h1
   rw[cH] at qu
   refine⟨_,_,by rw[hv,cQ];rfl,fun h4=>⟨_,rfl,fun j u hu=>?_⟩,fun u hu=>yS u (bK hu)⟩
   rw[cQ] at h4
   rw[if_neg aJ,addr_add,cell_of h3]
   rw[bE] at hu
   have fx:=(aW.1 hu).1
   rw[← qu,bD,if_pos fx] at hu
   rw[Nat.zero_add,← bB];exact hu
theorem a_.Uy {o:Oper} (hg:o.guard=none) (jy:jP o=true) (h:∀κ a w,Rel g δ κ a w→∃x v w' κ' δ',(execOp a.eval o).run P w=.ok x w'∧(x=.value v∨(x=.skip∧v=undef))∧Rel g δ' κ' (a.put o.dst v) w'∧a_ .plain P g ops rest Q δ'):a_ .plain P g ops (o::rest) Q δ:=by
 intro κ a w r
 show wpListIn _ _ P ops _ (o::rest) a w
 refine gV hg jy fun K oS=>?_
 unfold Oper.Ac
 obtain⟨x,v,w',κ',δ',h1,h2,h3,h4⟩:=h κ a w r
 rw[h1]
 rcases h2 with rfl|⟨rfl,rfl⟩
 ·rw[Oper.uponIn_value];exact oS _ _ (h4 _ _ _ h3)
 ·rw[Oper.uponIn_skip];exact oS _ _ (h4 _ _ _ h3)
theorem a_.Cw {s x:Operand} {t:TypeId} (i k:Nat) {bytes:Nat} {z:Value} {e:TypeId} {rows:kF} {H:Value} {ys us:List Value} (ho:δ.ob i=some (.ff e rows)) (hk:rows k=(H,ys)) (hs:δ.ev s=.pv (.lit H)) (hx:Hx δ x us)
  (ht:P.underlying t=some (.slice e)) (hi:(P.info? e).map (fun i=>(i.size,i.zero,i.bytes))=some (1,some z,bytes)) (yP:z.oneCell'=true) (sz:fq s=true) (kY:fq x=true) (hd:fR δ.n dst=true) (hb:(ys.length+us.length)*bytes≤140737488355328) (hl:ys.length+us.length≤140737488355328)
  (hK:∀v',a_ .plain P g ops rest Q ((δ.gm i (some (.ff e (nE rows k (v',ys++us))))).eY dst (.pv (.lit v')))):a_ .plain P g ops (⟨dst,.call {callee:=.builtin .append,args:= #[s,x],argTypes:= #[t,t]},ty,pos,af,none⟩::rest) Q δ:=by
 refine a_.Uy rfl rfl fun κ a w r=>?_
 obtain⟨i0,jh,ln,mE,x4⟩:∃i0,P.info? e=some i0∧i0.size=1∧i0.zero=some z∧i0.bytes=bytes:=by
  cases h:P.info? e with
  |none=>rw[h] at hi;simp at hi
  |some i0=>rw[h] at hi;simp at hi;exact⟨i0,rfl,hi.1,hi.2.1,hi.2.2⟩
 have h0:=gZ r ho k
 have yS:=((r.obj i _ ho).2.1 k).2.2.2
 rw[hk] at h0 yS
 simp only at h0 yS
 have hv:a.eval s=H:=r.lit hs sz
 obtain⟨xa,xc,xJ,fZ,vk⟩:=hx.at r kY
 have sL:ys.length+us.length≤maxLen:=by simp only[maxLen];omega
 obtain⟨v',w',fw,oB,lg⟩:∃v' w',(Builtin.append_ #[t,t] ty #[H,.slice xa us.length xc]).run P w=.ok v' w'∧w'.ownsRow g.B e 1 v' (ys.length+us.length) (ys++us)∧w.grownBy w' H.ownBlock:=by
  by_cases qc:us=[]
  ·subst qc
   cases xa with
   |none=>exact⟨H,w,jk ht jh h0,by simp only[List.length_nil,bd,bs];exact h0,⟨rfl,rfl,rfl,aP _,fun _ _ _=>rfl⟩⟩
   |some ad=>
    obtain⟨v',w',h2,h3,h4,_⟩:=run_append_own (P:=P) w g.B t ty e i0 z 1 bytes ht jh mE ln x4 (by rw[lK yP];rfl) aJ H ys.length ys h0 ad 0 xc [] (by simp) (by simp) (by simp) (by simpa using sL) (by simpa using hb) r.hB
    exact⟨v',w',h2,by simpa using h3,h4⟩
  ·obtain⟨ad,rfl,hc⟩:=fZ (by intro h;exact qc (bj h))
   obtain⟨v',w',h2,h3,h4,_⟩:=run_append_own (P:=P) w g.B t ty e i0 z 1 bytes ht jh mE ln x4 (by rw[lK yP];rfl) aJ H ys.length ys h0 ad us.length xc us (by simp) hc vk sL hb r.hB
   exact⟨v',w',h2,h3,h4⟩
 have uj:=DF ht jh mE ln h0 (by simp) fZ vk sL (by rw[x4];exact hb) fw
 have js:(rows k).1=H:=by rw[hk]
 obtain⟨κ',r',_⟩:=r.og ho (k:=k) (w':=w') (by rw[js];exact iw.grownBy lg) (v':=v') (ys:=ys++us) (by rw[bV];exact oB) (by rw[bV];exact hl) (fun u hu=>(bW.1 hu).elim (yS u) (vk u)) (by rw[js];exact uj)
 have Cf:(execOp a.eval ⟨dst,.call {callee:=.builtin .append,args:= #[s,x],argTypes:= #[t,t]},ty,pos,af,none⟩).run P w=.ok (.value v') w':=by
  simp only[execOp,resolve,invoke,builtin,Sem.run_bind,Sem.run_pure,Result.andThen_ok,bn,bA,bZ,hv,xJ,fw]
 exact⟨_,v',w',κ',_,Cf,.inl rfl,r'.eY (fv hd) (.pv (.lit _)),hK v'⟩
theorem a_.qm {s x:Operand} {t:TypeId} (i k m:Nat) {bytes:Nat} {z:Value} {e:TypeId} {rows:kF} {H:Value} {ys us:List Value} (ho:δ.ob i=some (.ff e rows)) (hk:rows k=(H,ys)) (hs:δ.ev s=.pv (.lit (jn m H))) (hx:Hx δ x us) (ku:m+us.length≤ys.length) (Qd:ys≠ [])
  (ht:P.underlying t=some (.slice e)) (hi:(P.info? e).map (fun i=>(i.size,i.zero,i.bytes))=some (1,some z,bytes)) (sz:fq s=true) (kY:fq x=true) (hd:fR δ.n dst=true)
  (hK:a_ .plain P g ops rest Q ((δ.gm i (some (.ff e (nE rows k (H,ys.take m++us++ys.drop (m+us.length)))))).eY dst (.pv (.lit (jn (m+us.length) H))))):a_ .plain P g ops (⟨dst,.call {callee:=.builtin .append,args:= #[s,x],argTypes:= #[t,t]},ty,pos,af,none⟩::rest) Q δ:=by
 refine a_.Uy rfl rfl fun κ a w r=>?_
 obtain⟨i0,jh,ln,mE,x4⟩:∃i0,P.info? e=some i0∧i0.size=1∧i0.zero=some z∧i0.bytes=bytes:=by
  cases h:P.info? e with
  |none=>rw[h] at hi;simp at hi
  |some i0=>rw[h] at hi;simp at hi;exact⟨i0,rfl,hi.1,hi.2.1,hi.2.2⟩
 have h0:=gZ r ho k
 have hl:=((r.obj i _ ho).2.1 k).2.1
 have yS:=((r.obj i _ ho).2.1 k).2.2.2
 rw[hk] at h0 yS hl
 simp only at h0 yS hl
 have hv:a.eval s=jn m H:=r.lit hs sz
 obtain⟨xa,xc,xJ,fZ,vk⟩:=hx.at r kY
 rcases h0.2 with ⟨h1,h2⟩|⟨b,cap,cur,h1,hB,h3,hle,FC,n6,qu⟩
 ·exact absurd (bj h2) Qd
 ·subst h1
  rw[cH] at n6 qu
  have hlen:(ys.take m++us++ys.drop (m+us.length)).length=ys.length:=by simp;omega
  obtain⟨w',fw,j5⟩:∃w',(Builtin.append_ #[t,t] ty #[.slice (some ⟨b,0,none⟩) m cap,.slice xa us.length xc]).run P w=.ok (.slice (some ⟨b,0,none⟩) (m+us.length) cap) w'∧(w'=w∧us=[]∨w'=w.setRow b (cur.toList.take m++us++cur.toList.drop (m+us.length)).toArray):=by
   by_cases qc:us=[]
   ·subst qc
    cases xa with
    |none=>exact⟨w,by simp [Builtin.append_,run_underlying ht,sizeOf,typeInfo,jh,Builtin.lenOf,Builtin.firstCells,storeCells];omega,.inl ⟨rfl,rfl⟩⟩
    |some ad=>
     have:=run_append_room (P:=P) w t ty e i0 ht jh b m cap cur h3 ad 0 xc [] (by simp) (by simp) (by simp) (by simp at ku;omega) (by rw[ln];simp at ku ⊢;omega)
     exact⟨_,this,.inr (by simp [ln])⟩
   ·obtain⟨ad,rfl,hc⟩:=fZ (by intro h;exact qc (bj h))
    have:=run_append_room (P:=P) w t ty e i0 ht jh b m cap cur h3 ad us.length xc us (by rw[ln];simp) hc vk aJ (by rw[ln];omega)
    exact⟨_,this,.inr (by simp [ln])⟩
  have js:(rows k).1.ownBlock=some b:=by rw[hk];rfl
  have sW:us=[]→ys.take m++us++ys.drop (m+us.length)=ys:=fun h=>by subst h;simp
  obtain⟨κ',r',_⟩:=r.og ho (k:=k) (w':=w') (by
    rcases j5 with ⟨rfl,_⟩|rfl
    ·exact⟨rfl,rfl,rfl,aP _,fun _ _ _=>rfl⟩
    ·rw[js];exact iw.setRow w b _) (v':=.slice (some ⟨b,0,none⟩) ys.length cap) (ys:=ys.take m++us++ys.drop (m+us.length))
   (by
    rw[hlen]
    refine⟨by rw[hlen];simp,.inr ?_⟩
    rcases j5 with ⟨rfl,h⟩|rfl
    ·exact⟨b,cap,cur,rfl,hB,h3,hle,FC,by rw[cH];exact n6,by rw[cH,sW h];exact qu⟩
    ·refine⟨b,cap,_,rfl,hB,setRow_heap _ _ _ _ _ _ h3,hle,FC,?_,?_⟩
     ·simp;omega
     ·have e1:cur.toList=ys++cur.toList.drop ys.length:=by have:=List.take_append_drop ys.length cur.toList;rw[qu] at this;exact this.symm
      generalize cur.toList.drop ys.length=tl at e1
      rw[cH,e1]
      simp only[cR (show m≤ys.length by omega),List.drop_append_of_le_length ku]
      rw[← List.append_assoc,cR (by rw[hlen];omega),cF (by rw[hlen];omega)])
   (by rw[hlen];exact hl)
   (fun v hv=>by
    rcases bW.1 hv with hv|hv
    ·rcases bW.1 hv with hv|hv
     ·exact yS v (cS hv)
     ·exact vk v hv
    ·exact yS v (bK hv))
   (fun b' iU=> .inl (by rw[js];exact iU))
  have Cf:(execOp a.eval ⟨dst,.call {callee:=.builtin .append,args:= #[s,x],argTypes:= #[t,t]},ty,pos,af,none⟩).run P w=.ok (.value (.slice (some ⟨b,0,none⟩) (m+us.length) cap)) w':=by
   simp only[execOp,resolve,invoke,builtin,Sem.run_bind,Sem.run_pure,Result.andThen_ok,bn,bA,bZ,hv,xJ,jn,fw]
  exact⟨_,_,w',κ',_,Cf,.inl rfl,r'.eY (fv hd) (.pv (.lit _)),hK⟩
end Go.Ab
/- Pools:a row of the walk's own taken in;a shorter slice;a new pool. -/
namespace Go.Ab
open Go Go.RowKit
variable {q:Md} {P:Program} {g:e6} {δ:DS} {κ:Kp} {a:Act} {w:World}
variable {ops:Array Oper} {rest:List Oper} {Q:Exit→DS→Prop}
theorem nY.HD {C C':Cx} {w w':World} {i j:Nat} {o:Ob} (G:kr (C.less i) w C' w') (hκ:C'.κ j=C.κ j) (hb:∀b,C.κ j=some b→w'.heap[b]? =w.heap[b]?) (hP:∀b,C.κ.F j b→b<w.heap.size→C'.κ.F j b∧w'.heap[b]? =w.heap[b]?) (h:nY C w j o):nY C' w' j (o.wR (AV.kill i)):=by
 cases o with
 |row=>
  intro b iU
  rw[hκ] at iU
  obtain⟨c,e,h1⟩:=h b iU
  exact⟨c,e,(hb b iU).trans h1⟩
 |box cs=>
  obtain⟨b,c,e,h1,h2,h3,h4⟩:=h
  refine⟨b,c,e,hκ.trans h1,(hb b h1).trans h2,by simpa using h3,fun k u av h5 h6=>?_⟩
  simp only[a7,bg] at h6
  obtain⟨av',h6,rfl⟩:=h6
  exact⟨(h4 k u av' h5 h6).1.kill G,(h4 k u av' h5 h6).2⟩
 |mp l=>
  obtain⟨b,es,clock,h1,h2,h3,h4⟩:=h
  refine⟨b,es,clock,hκ.trans h1,(hb b h1).trans h2,⟨h3.1,fun k e p h5 h6=>?_⟩,h4⟩
  exact⟨(h3.2 k e p h5 h6).1,G.ra ((h3.2 k e p h5 h6).2.less (h4.2 p (aU h6)))⟩
 |mpl l kk v=>
  obtain⟨b,es,clock,h1,h2,h3,h4⟩:=h
  refine⟨b,es,clock,hκ.trans h1,(hb b h1).trans h2,?_,h4⟩
  exact h3.last (fun u p hp h=>G.ra (h.less (h4.2 p hp))) (fun u h=>h.kill G)
 |it l seen=>
  obtain⟨b,h1,h2⟩:=h
  exact⟨b,hκ.trans h1,h2.mono G.size G.N (hb b h1)⟩
 |lit T vals=>
  obtain⟨b,h1,h2⟩:=h
  exact⟨b,hκ.trans h1,(hb b h1).trans h2⟩
 |ff e rows=>exact⟨hκ.trans h.1,fun k=>(h.2.1 k).goes G.B fun b _ hF fx=>hP b hF fx,h.2.2⟩
 |loop l tm ps jf body st=>
  obtain⟨b,lr,h1,h2,h3⟩:=h
  exact⟨b,lr,hκ.trans h1,(hb b h1).trans h2,h3⟩
theorem Rel.rF (r:Rel g δ κ a w) {i j k t:Nat} {e:TypeId} {rows:kF} {us:List Value} {fc:List (List PV)} (ho:δ.ob i=some (.ff e rows)) (hj:δ.ob j=some .row) (ht:δ.get t=.own j e 1 fc) (he:fc=us.map fun u=>[.lit u]) (hk:(rows k).1=.slice none 0 0):
  ∃v κ',Rel g (((δ.gF (AV.kill j)).gm i (some (.ff e (nE rows k (v,us))))).put t (.pv (.lit v))) κ' a w:=by
 subst he
 have r9:i≠j:=by rintro rfl;rw[ho] at hj;cases hj
 have nZ:δ.live j:=⟨_,hj⟩
 have yz:δ.live i:=⟨_,ho⟩
 have hv:=r.env t
 rw[ht] at hv
 have hv:=hv.iH
 generalize hve:g.val a t=v at hv
 obtain⟨A7,yr,Av⟩:=r.obj i _ ho
 obtain⟨xs,gD,Ib,X2⟩:=hv.row
 have lG:=hv.lim
 rw[a6] at gD lG
 have NY:xs=us:=by
  apply bX
  intro n
  by_cases hn:n<us.length
  ·obtain⟨u,h1,h2⟩:=X2 n 0 (.lit us[n]) (by simp [cellAt,hn])
   rw[cH,bd] at h1
   rw[h1,a8 hn]
   cases h2;rfl
  ·have:=gD.1
   rw[cD aJ,cD aJ]
 subst NY
 have PO:∀b,v.ownBlock=some b→κ j=some b:=fun b hb=>hv.vm b hb
 let κ':Kp:=⟨(gT κ j none).f,fun n b=>κ.F n b∨(n=i∧v.ownBlock=some b)⟩
 let δ1:=(δ.gF (AV.kill j)).gm i (some (.ff e (nE rows k (v,xs))))
 have js:∀n,δ1.ob n=if i=n then some (.ff e (nE rows k (v,xs))) else (δ.ob n).map (Ob.wR (AV.kill j)):=fun n=>by
  show((δ.gF (AV.kill j)).gm i _).ob n=_
  rw[jH,kb]
 have fS:∀n,δ1.live n↔δ.live n:=by
  intro n
  unfold DS.live
  rw[js]
  by_cases h:i=n
  ·subst h;simp [ho]
  ·rw[if_neg h];cases δ.ob n<;>simp
 have nq:∀n,δ1.lr n↔δ.lr n:=by
  intro n
  unfold DS.lr
  rw[js]
  by_cases h:i=n
  ·subst h;simp [ho]
  ·rw[if_neg h]
   cases δ.ob n with
   |none=>simp
   |some o=>cases o<;>simp [Ob.wR]
 have vy:∀n,δ.lb n→δ1.lb n:=by
  rintro n ⟨o,h1,h2⟩
  unfold DS.lb
  rw[js]
  by_cases h:i=n
  ·rw[if_pos h];exact⟨_,rfl,rfl⟩
  ·rw[if_neg h,h1];exact⟨_,rfl,by cases o<;>simp_all [Ob.wR,Ob.isRow]⟩
 have L7:∀n b,κ' n=some b→n≠j∧κ n=some b:=by
  intro n b h
  by_cases hn:j=n
  ·subst hn
   have:κ' j=none:=by show gT κ j none j=none;simp [gT]
   rw[this] at h;cases h
  ·have:κ' n=κ n:=by show gT κ j none n=κ n;simp [gT,hn]
   rw[this] at h
   exact⟨fun e=>hn e.symm,h⟩
 have N_:∀n,n≠j→κ' n=κ n:=fun n hn=>by show gT κ j none n=κ n;simp [gT,Ne.symm hn]
 have X7:∀n,δ.lb n→n≠j:=by
  rintro n ⟨o,h1,h2⟩ rfl
  rw[hj] at h1;cases h1;simp [Ob.isRow] at h2
 have U6:∀b,κ.Fs b→b<w.heap.size:=fun b hb=>r.fr.Fg hb
 have G:kr ((δ.cx g κ).less j) w (δ1.cx g κ') w:=
  {B:=rfl,size:=aP _
   N:=fun b _ h2=>⟨⟨⟨h2.1.1,by
    rintro⟨n,h3|⟨_,h3⟩⟩
    ·exact h2.1.2 ⟨n,h3⟩
    ·exact h2.2 j nZ (PO b h3)⟩,fun n hn e=>h2.2 n ((fS n).1 hn) (L7 n b e).2⟩,rfl⟩
   Lr:=fun n hn=>⟨(nq n).2 hn.1,N_ n hn.2,fun _ _=>rfl⟩
   Lb:=fun n hn=>⟨vy n hn,N_ n (X7 n hn)⟩}
 have R1:Rel g δ1 κ' a w:=
  {n:=r.n,dfr:=r.dfr
   env:=fun n=>by
    show RA _ w _ ((δ.gF (AV.kill j)).get n)
    rw[qd _ rfl];exact(r.env n).kill G
   obj:=fun n x h=>by
    rw[js] at h
    by_cases hn:i=n
    ·subst hn
     rw[if_pos rfl] at h
     cases h
     refine⟨(N_ i r9).trans A7,fun kk=>?_,fun k1 k2 b h2 h3=>?_⟩
     ·unfold nE
      by_cases lO:kk=k
      ·rw[if_pos lO];exact⟨gD,lG,fun b hb=> .inr ⟨rfl,hb⟩,Ib⟩
      ·rw[if_neg lO];exact(yr kk).goes rfl fun b _ h2 _=>⟨.inl h2,rfl⟩
     ·have fZ:∀kk b,(rows kk).1.ownBlock=some b→v.ownBlock=some b→False:=fun kk b h4 h5=>r.fr.nr nZ (PO b h5) ⟨i,(yr kk).2.2.1 b h4⟩
      unfold nE at h2 h3
      by_cases Dc:k1=k
      ·by_cases sd:k2=k
       ·rw[Dc,sd]
       ·rw[if_pos Dc] at h2
        rw[if_neg sd] at h3
        exact(fZ k2 b h3 h2).elim
      ·by_cases sd:k2=k
       ·rw[if_neg Dc] at h2
        rw[if_pos sd] at h3
        exact(fZ k1 b h2 h3).elim
       ·rw[if_neg Dc] at h2
        rw[if_neg sd] at h3
        exact Av k1 k2 b h2 h3
    ·rw[if_neg hn] at h
     cases f_:δ.ob n with
     |none=>rw[f_] at h;simp at h
     |some o=>
      rw[f_] at h
      simp only[bq,Option.some.injEq] at h
      subst h
      by_cases YA:n=j
      ·subst YA
       rw[hj] at f_
       cases f_
       intro b hb
       exact absurd rfl (L7 n b hb).1
      ·exact(r.obj n o f_).HD G (N_ n YA) (fun _ _=>rfl) fun b h2 _=>⟨.inl h2,rfl⟩
   inj:=fun n m b h1 h2 h3 h4=>r.inj n m b ((fS n).1 h1) ((fS m).1 h2) (L7 n b h3).2 (L7 m b h4).2
   lo:=fun n b h1 h2=>r.lo n b ((fS n).1 h1) (L7 n b h2).2
   nx:=fun n h=>r.nx n ((fS n).1 h)
   wt:=fun kk hk=>⟨(r.wt kk hk).1,fun n b h1 v7 h2=>(r.wt kk hk).2 n b ((fS n).1 h1) (v7.imp (nq n).1 id) (L7 n b h2).2⟩
   below:=r.below,hB:=r.hB,N0:=r.N0,km:=r.km
   fr:=by
    refine⟨fun b hb=>?_,fun n b hb=>?_⟩
    ·obtain⟨h2,h3,h4⟩:=r.fr.1 b hb
     exact⟨h2,h3,fun m hm e=>h4 m ((fS m).1 hm) (L7 m b e).2⟩
    ·rcases hb with h2|⟨rfl,h2⟩
     ·obtain⟨h4,h5,h6,h7,h8⟩:=r.fr.2 n b h2
      refine⟨h4,h5,h6,fun m hm e=>h7 m ((fS m).1 hm) (L7 m b e).2,fun m hm=>?_⟩
      rcases hm with hm|⟨rfl,hm⟩
      ·exact h8 m hm
      ·exact(r.fr.nr nZ (PO b hm) ⟨n,h2⟩).elim
     ·have Mz:=PO b h2
      obtain⟨h3,h4⟩:=r.lo j b nZ Mz
      refine⟨⟨h3,fun kk hk=>(r.wt kk hk).2 j b nZ (.inl hj) Mz⟩,h4,fun hf=>(r.fr.1 b hf).2.2 j nZ Mz,fun m hm e=>?_,fun m hm=>?_⟩
      ·obtain⟨h5,h6⟩:=L7 m b e
       exact h5 (r.inj m j b ((fS m).1 hm) nZ h6 Mz)
      ·rcases hm with hm|⟨rfl,_⟩
       ·exact(r.fr.nr nZ Mz ⟨m,hm⟩).elim
       ·rfl}
 exact⟨v,κ',R1.sP (by rw[hve];exact .pv (.lit _))⟩
theorem AW.rF {c:Code} (i j k t:Nat) {e:TypeId} {rows:kF} {us:List Value} {fc:List (List PV)} (ho:δ.ob i=some (.ff e rows)) (hj:δ.ob j=some .row) (ht:δ.get t=.own j e 1 fc) (he:fc=us.map fun u=>[.lit u]) (hk:(rows k).1=.slice none 0 0)
  (hK:∀v,AW P g c Q (((δ.gF (AV.kill j)).gm i (some (.ff e (nE rows k (v,us))))).put t (.pv (.lit v)))):AW P g c Q δ:=fun κ a w r=>by
 obtain⟨v,κ',r'⟩:=r.rF ho hj ht he hk
 exact hK v κ' a w r'
theorem AW.Bu {c:Code} (i k m:Nat) {e:TypeId} {rows:kF} {H:Value} {ys:List Value} (ho:δ.ob i=some (.ff e rows)) (hk:rows k=(H,ys)) (hm:m≤ys.length) (hK:AW P g c Q (δ.gm i (some (.ff e (nE rows k (jn m H,ys.take m)))))):AW P g c Q δ:=fun κ a w r=>by
 have h0:=gZ r ho k
 have hl:=((r.obj i _ ho).2.1 k).2.1
 have yS:=((r.obj i _ ho).2.1 k).2.2.2
 rw[hk] at h0 yS hl
 simp only at h0 yS hl
 have hlen:(ys.take m).length=m:=by simp;omega
 have gD:w.ownsRow g.B e 1 (jn m H) (ys.take m).length (ys.take m)∧∀b,(jn m H).ownBlock=some b→H.ownBlock=some b:=by
  rcases h0.2 with ⟨h1,h2⟩|⟨b,cap,cur,h1,hB,h3,hle,FC,n6,qu⟩
  ·subst h1
   obtain rfl:m=0:=by omega
   exact⟨⟨by simp,.inl ⟨rfl,by simp⟩⟩,fun b hb=>by cases hb⟩
  ·subst h1
   refine⟨⟨by simp,.inr ⟨b,cap,cur,by rw[hlen];rfl,hB,h3,by rw[hlen];omega,FC,n6,?_⟩⟩,fun b hb=>hb⟩
   rw[hlen,← qu,List.take_take,cH,cH,Nat.min_eq_left hm]
 obtain⟨κ',r',_⟩:=r.og ho (k:=k) (w':=w) ⟨rfl,rfl,rfl,aP _,fun _ _ _=>rfl⟩ gD.1 (by rw[hlen];omega) (fun u hu=>yS u (cS hu)) (fun b hb=> .inl (by rw[hk];exact gD.2 b hb))
 exact hK κ' a w r'
theorem Rel.xl (r:Rel g δ κ a w) (e:TypeId):Rel g (δ.fN (.ff e fun _=>(.slice none 0 0,[]))) (gT κ δ.nx none) a w:=by
 have nG:¬δ.live δ.nx:=fun h=>Nat.lt_irrefl _ (r.nx _ h)
 have fZ:∀i,δ.live i→δ.nx≠i:=fun i h e=>nG (e▸h)
 have fS:∀i,(δ.fN (.ff e fun _=>(.slice none 0 0,[]))).live i→i=δ.nx∨δ.live i:=by
  intro i ⟨o',h⟩
  rw[fY] at h
  by_cases e:δ.nx=i
  ·exact .inl e.symm
  ·rw[if_neg e] at h;exact .inr ⟨o',h⟩
 have oD:∀i b,(δ.fN (.ff e fun _=>(.slice none 0 0,[]))).live i→gT κ δ.nx none i=some b→δ.live i∧κ i=some b:=by
  intro i b hi h
  rcases fS i hi with rfl|hi
  ·simp [gT] at h
  ·simp only[gT,fZ i hi,if_false] at h;exact⟨hi,h⟩
 have G:kr (δ.cx g κ) w ((δ.fN (.ff e fun _=>(.slice none 0 0,[]))).cx g (gT κ δ.nx none)) w:=
  {B:=rfl,size:=aP _
   N:=fun b h1 h2=>⟨⟨h2.1,fun i hi e=>let ⟨h3,h4⟩:=oD i b hi e;h2.2 i h3 h4⟩,rfl⟩
   Lr:=fun i hi=>by
    have kq:=fZ i (DS.gI hi)
    refine⟨?_,by show gT _ _ _ i=κ i;simp [gT,kq],fun b hκ=>rfl⟩
    show(δ.fN _).ob i=_
    rw[fY,if_neg kq];exact hi
   Lb:=fun i hi=>by
    have kq:=fZ i (DS.lW hi)
    refine⟨?_,by show gT _ _ _ i=κ i;simp [gT,kq]⟩
    obtain⟨o',h1,h2⟩:=hi
    exact⟨o',by rw[fY,if_neg kq];exact h1,h2⟩}
 exact
  {n:=r.n,dfr:=r.dfr,env:=fun j=>G.ra (r.env j)
   obj:=fun i o' h=>by
    rw[fY] at h
    by_cases e:δ.nx=i
    ·rw[if_pos e] at h;cases h;subst e
     exact⟨by show gT _ _ _ _=_;simp [gT],fun k=>⟨w.ownsRow_nil _ _ _,by simp,fun b hb=>by simp [Value.ownBlock] at hb,fun u hu=>by simp at hu⟩,fun k k' b hb=>by simp [Value.ownBlock] at hb⟩
    ·rw[if_neg e] at h
     exact(r.obj i o' h).goes G (by show gT _ _ _ i=κ i;simp [gT,e]) (fun b hκ=>rfl) (fun b hF fx=>⟨hF,rfl⟩)
   inj:=fun i j b h1 h2 h3 h4=>let ⟨h5,h6⟩:=oD i b h1 h3;let ⟨h7,h8⟩:=oD j b h2 h4;r.inj i j b h5 h7 h6 h8
   lo:=fun i b h1 h2=>let ⟨h5,h6⟩:=oD i b h1 h2;r.lo i b h5 h6
   nx:=fun i h=>by
    show i<δ.nx+1
    rcases fS i h with rfl|h
    ·omega
    ·have:=r.nx i h;omega
   wt:=fun k hk=>⟨(r.wt k hk).1,fun i b hi kq hκ hb=>by
    obtain⟨h5,h6⟩:=oD i b hi hκ
    refine(r.wt k hk).2 i b h5 (kq.imp (fun h=>?_) id) h6 hb
    have h7:(δ.fN _).ob i=some .row:=h
    rw[fY,if_neg (fZ i h5)] at h7
    exact h7⟩
   below:=r.below,hB:=r.hB,N0:=r.N0,km:=r.km
   fr:=r.fr.sub fun i b h1 h2=>let ⟨h5,h6⟩:=oD i b h1 h2;⟨i,h5,h6⟩}
theorem AW.xl {c:Code} (e:TypeId) (hK:AW P g c Q (δ.fN (.ff e fun _=>(.slice none 0 0,[])))):AW P g c Q δ:=fun _ a w r=>hK _ a w (r.xl e)
end Go.Ab
/- Contracts with more than one outcome:of the caller's objects,and of the result,only a relation is told. -/
namespace Go.Ab
open Go Go.RowKit
variable {P:Program} {g:e6} {δ:DS} {κ:Kp} {a:Act} {w:World}
variable {ops:Array Oper} {rest:List Oper} {Q:Exit→DS→Prop} {dst:Option Nat} {ty:TypeId} {pos:String} {af:Array Edge}
abbrev uo {α:Type} (P:Program) (f:FuncId) (n0:Nat) (d_:List (Nat×Option Ob)) (args:List AV) (p:α→Prop) (eZ:α→List (Nat×Option Ob)) (r:α→AV):Prop:=
 sq (fun _=>True) P (fun(x:α) C w e=>p x∧Q3 (r x) C w e) f n0 d_ args eZ
def lA {α:Type} (P:Program) (rs:List ResultVar) (d_:List (Nat×Option Ob)) (p:α→Prop) (eZ:α→List (Nat×Option Ob)) (r:α→AV):Exit→DS→Prop
 |.normal,δ|.ret,δ=>∃x,p x∧∃v,gn P δ rs v∧WV δ (XF δ d_ (eZ x)) v (r x)∧WV δ (XF δ d_ (eZ x)) (δ.get 1000) (.agg (gL d_))∧oC δ (XF δ d_ (eZ x)) (eZ x)∧s5 δ.nx (eZ x)=true
 |_,_=>False
theorem gS {α:Type} {rs:List ResultVar} {d_:List (Nat×Option Ob)} {p:α→Prop} {eZ:α→List (Nat×Option Ob)} {r:α→AV} {v:AV} (x:α) (hp:p x) (h:gn P δ rs v) (hw:C_ δ (XF δ d_ (eZ x)) [v,δ.get 1000] [r x,.agg (gL d_)]) (ho:oC δ (XF δ d_ (eZ x)) (eZ x)) (hx:s5 δ.nx (eZ x)=true):lA P rs d_ p eZ r .ret δ:=⟨x,hp,v,h,hw.1,hw.2.1,ho,hx⟩
theorem mQ {α:Type} {rs:List ResultVar} {d_:List (Nat×Option Ob)} {p:α→Prop} {eZ:α→List (Nat×Option Ob)} {r:α→AV} {v:AV} (x:α) (hp:p x) (h:gn P δ rs v) (hw:C_ δ (XF δ d_ (eZ x)) [v,δ.get 1000] [r x,.agg (gL d_)]) (ho:oC δ (XF δ d_ (eZ x)) (eZ x)) (hx:s5 δ.nx (eZ x)=true):lA P rs d_ p eZ r .normal δ:=⟨x,hp,v,h,hw.1,hw.2.1,ho,hx⟩
theorem uo.enter {α:Type} {f:FuncId} {fn:Func} {c:Code} {rs:List ResultVar} {n n0:Nat} {d_:List (Nat×Option Ob)} {args:List AV} {p:α→Prop} {eZ:α→List (Nat×Option Ob)} {r:α→AV} (hf:P.funcs[f]? =some fn) (hb:fn.body=some c) (s6:fn.results=rs.toArray) (hn:fn.ntmps=n) (Cy:bx args.length n=true)
  (p6:bx n HS=true) (he:(fn.name== "runtime.NumGoroutine")=false) (tx:sJ d_ d_=true) (vk:∀x,s5 n0 (eZ x)=true)
  (h:∀g:e6,g.ro=none→g.wt=none→AW P g c (lA P rs d_ p eZ r) ⟨n,enum 0 args++ [(1000,.agg (gL d_))],d_,n0⟩):uo P f n0 d_ args p eZ r:=by
 refine sq.enter (Q:=lA P rs d_ p eZ r) hf hb hn Cy p6 he tx vk (fun g h1 h2 _=>h g h1 h2) fun g e δ' κ' a' w' R je xt hq r' hR=>?_
 have fin:(∃x,p x∧∃v,gn P δ' rs v∧WV δ' (XF δ' d_ (eZ x)) v (r x)∧WV δ' (XF δ' d_ (eZ x)) (δ'.get 1000) (.agg (gL d_))∧oC δ' (XF δ' d_ (eZ x)) (eZ x)∧s5 δ'.nx (eZ x)=true)→
   LeavesInM Fence.wide 0 P fn a'.tmps R a'.defers .returning w':=fun⟨x,VY,v,h1,hv,hp,ho,hx⟩=>
  leaves (g:=g) je xt s6 h1 r' fun w2 r2 u hu=>hR x hp ho hx _ _ r2 ⟨VY,u,rfl,hu.wv (δ:=δ') (δ':=XF δ' d_ (eZ x)) r2.lB r2.obj hv⟩
 cases e with
 |normal=>exact fin hq
 |ret=>exact fin hq
 |_=>exact hq.elim
theorem a_.kc {α:Type} {y:Operand} {f:FuncId} {xs:List Operand} {tys:Array TypeId} {first cap args:List AV} {n0:Nat} {d_:List (Nat×Option Ob)} {p:α→Prop} {eZ:α→List (Nat×Option Ob)} {r:α→AV} (je:g.wt=none) (hf:uo P f n0 d_ args p eZ r) (hy:δ.ev y=.jJ (.func f) first cap) (kW:fq y=true) (sz:xs.all fq=true)
  (kB:BW δ d_) (fX:uY (XS d_ n0).qg (XS d_ n0).pJ (first++xs.map δ.ev++cap) args) (hk:∀x,kf d_ (eZ x)=true) (CG:s5 n0 d_=true) (sA:mu (XS d_ n0).qg (XS d_ n0).pJ d_)
  (o6:∀x,mu (XS (eZ x) n0).qg (XS (eZ x) n0).pJ (eZ x)) (hr:∀x,(r x).ids (XS (eZ x) n0).qg (XS (eZ x) n0).pJ=true) (hd:fR δ.n dst=true)
  (hK:∀x,p x→a_ .plain P g ops rest Q ((δ.ij d_ (eZ x)).eY dst (r x))):
  a_ .plain P g ops (⟨dst,.call {callee:=.value y,args:=xs.toArray,argTypes:=tys},ty,pos,af,none⟩::rest) Q δ:=
 wj je (fun _ _=>trivial) hf hy kW sz kB fX hk CG sA o6 (fun x κ a w' C v hR hE uZ=>by
  obtain⟨hp,u,he,hu⟩:=hE
  cases he
  exact hK x hp _ _ _ (hR.eY (fv hd) (uZ (r x) hu (hr x)))) (fun _ C w' ch hE=>by obtain⟨_,u,he,_⟩:=hE;cases he) (fun _ C w' hE=>by obtain⟨_,u,he,_⟩:=hE;cases he)
end Go.Ab
/- Pools of numbers. -/
namespace Go.Ab
open Go Go.RowKit
variable {q:Md} {P:Program} {g:e6} {δ:DS} {κ:Kp} {a:Act} {w:World}
variable {ops:Array Oper} {rest:List Oper} {Q:Exit→DS→Prop} {dst:Option Nat} {ty:TypeId} {pos:String} {af:Array Edge} {gd:Option (Tmp×Bool)}
abbrev vI (x:Int):Value:=.int .i64 x
def fb {α:Type} (f:Nat→α) (k:Nat) (v:α):Nat→α:=fun j=>if j=k then v else f j
theorem e8 {α:Type} (f:Nat→α) (k:Nat) (v:α):fb f k v k=v:=by simp [fb]
theorem fA {α:Type} (f:Nat→α) {k j:Nat} (v:α) (h:j≠k):fb f k v j=f j:=by simp [fb,h]
theorem vn {α:Type} (f:Nat→α) (k:Nat):fb f k (f k)=f:=by funext j;unfold fb;split<;>simp_all
theorem jC {α:Type} (f:Nat→α) (k:Nat) (v u:α):fb (fb f k v) k u=fb f k u:=by funext j;unfold fb;split<;>rfl
def kl (hs:Nat→Value) (ls:Nat→List Int):kF:=fun k=>(hs k,(ls k).map vI)
theorem p9 (hs:Nat→Value) (ls:Nat→List Int) (k:Nat) (h:Value) (xs:List Int) {ys:List Value} (hy:ys=xs.map vI):nE (kl hs ls) k (h,ys)=kl (fb hs k h) (fb ls k xs):=by
 subst hy
 funext j
 unfold nE kl fb
 split<;>rfl
theorem tI (hs:Nat→Value) (ls:Nat→List Int) (k:Nat) (xs:List Int) {ys:List Value} (hy:ys=xs.map vI):nE (kl hs ls) k (hs k,ys)=kl hs (fb ls k xs):=by
 rw[p9 hs ls k _ xs hy,vn]
section
variable {i k:Nat} {e:TypeId} {hs:Nat→Value} {ls:Nat→List Int}
theorem a_.nL (i:Nat) {x:Operand} {t e':TypeId} (ho:δ.ob i=some (.ff e (kl hs ls))) (hx:δ.ev x=.pv (.lit (hs k))) (ht:P.underlying t=some (.slice e')) (kY:fq x=true) (hd:fR δ.n dst=true)
  (hK:a_ q P g ops rest Q (δ.eY dst (e7 ((ls k).length:Nat)))):a_ q P g ops (⟨dst,.call {callee:=.builtin .len,args:= #[x],argTypes:= #[t]},ty,pos,af,none⟩::rest) Q δ:=
 a_.JS i k ho rfl hx ht kY hd (by rw[a6];exact hK)
theorem a_.Ad (i:Nat) {x:Operand} {t e':TypeId} {m:Nat} (ho:δ.ob i=some (.ff e (kl hs ls))) (hx:δ.ev x=.pv (.lit (kN m (hs k)))) (ht:P.underlying t=some (.slice e')) (kY:fq x=true) (hd:fR δ.n dst=true)
  (hK:a_ q P g ops rest Q (δ.eY dst (e7 ((ls k).length - m:Nat)))):a_ q P g ops (⟨dst,.call {callee:=.builtin .len,args:= #[x],argTypes:= #[t]},ty,pos,af,none⟩::rest) Q δ:=
 a_.x6 i k m ho rfl hx ht kY hd (by rw[a6];exact hK)
theorem a_.fa (i:Nat) {x y:Operand} {t e':TypeId} {m:Int} (ho:δ.ob i=some (.ff e (kl hs ls))) (hx:δ.ev x=.pv (.lit (hs k))) (hy:δ.ev y=e7 m) (ht:P.underlying t=some (.slice e')) (xo:(P.info? e').map (·.size)=some 1) (kY:fq x=true) (kW:fq y=true) (hd:fR δ.n dst=true)
  (h0:0≤m) (hn:m.toNat<(ls k).length) (hK:a_ q P g ops rest Q (δ.eY dst (.pv (.lit (nt m.toNat (hs k)))))):a_ q P g ops (⟨dst,.indexAddr t x y,ty,pos,af,none⟩::rest) Q δ:=
 a_.El i k ho rfl hx (n:=m.toNat) (by rw[b8 h0];exact hy) (by rw[a6];exact hn) ht xo kY kW hd hK
theorem a_.vK (i:Nat) {x y:Operand} {t e':TypeId} {m:Int} {m0:Nat} (ho:δ.ob i=some (.ff e (kl hs ls))) (hx:δ.ev x=.pv (.lit (kN m0 (hs k)))) (hy:δ.ev y=e7 m) (ht:P.underlying t=some (.slice e')) (xo:(P.info? e').map (·.size)=some 1) (kY:fq x=true) (kW:fq y=true) (hd:fR δ.n dst=true)
  (h0:0≤m) (hn:m0+m.toNat<(ls k).length) (hK:a_ q P g ops rest Q (δ.eY dst (.pv (.lit (nt (m0+m.toNat) (hs k)))))):a_ q P g ops (⟨dst,.indexAddr t x y,ty,pos,af,none⟩::rest) Q δ:=
 a_.u6 i k m0 ho rfl hx (n:=m.toNat) (by rw[b8 h0];exact hy) (by rw[a6];exact hn) ht xo kY kW hd hK
theorem a_.sX (i:Nat) {x:Operand} {t:TypeId} {n:Nat} (ho:δ.ob i=some (.ff e (kl hs ls))) (hx:δ.ev x=.pv (.lit (nt n (hs k)))) (ht:jU P t=true) (kY:fq x=true) (hd:fR δ.n dst=true) (hq:q≠ .held)
  (hn:n<(ls k).length) (hK:a_ q P g ops rest Q (δ.eY dst (e7 (ls k)[n]))):a_ q P g ops (⟨dst,.load t x,ty,pos,af,none⟩::rest) Q δ:=
 a_.Hk i k ho rfl hx (u:=vI (ls k)[n]) (by rw[a7,a8 hn];rfl) ht kY hd hq hK
theorem a_.kR (i:Nat) {x y:Operand} {t:TypeId} {n:Nat} {v:Int} (ho:δ.ob i=some (.ff e (kl hs ls))) (hx:δ.ev x=.pv (.lit (nt n (hs k)))) (hy:δ.ev y=e7 v) (ht:(P.info? t).map (·.size)=some 1) (kY:fq x=true) (kW:fq y=true) (hd:fR δ.n dst=true)
  (hn:n<(ls k).length) (hK:a_ .plain P g ops rest Q ((δ.gm i (some (.ff e (kl hs (fb ls k ((ls k).set n v)))))).eY dst .any)):a_ .plain P g ops (⟨dst,.store t x y,ty,pos,af,none⟩::rest) Q δ:=
 a_.rK i k ho rfl hx (by rw[a6];exact hn) hy rfl ht kY kW hd (by rw[tI hs ls k ((ls k).set n v) (by rw[List.map_set])];exact hK)
theorem a_.ub (i:Nat) {t e':TypeId} {x y:Operand} {m:Int} (ho:δ.ob i=some (.ff e (kl hs ls))) (hx:δ.ev x=.pv (.lit (hs k))) (hy:δ.ev y=e7 m) (ht:P.underlying t=some (.slice e')) (xo:(P.info? e').map (·.size)=some 1) (kY:fq x=true) (kW:fq y=true) (hd:fR δ.n dst=true)
  (h0:0≤m) (hm:m.toNat≤(ls k).length) (hK:a_ q P g ops rest Q (δ.eY dst (.pv (.lit (jn m.toNat (hs k)))))):a_ q P g ops (⟨dst,.slice t x none (some y) none,ty,pos,af,none⟩::rest) Q δ:=
 a_.EV i k m.toNat ho rfl hx (by rw[b8 h0];exact hy) (by rw[a6];exact hm) ht xo kY kW hd hK
theorem a_.wD (i:Nat) {t e':TypeId} {x y:Operand} {m:Int} (ho:δ.ob i=some (.ff e (kl hs ls))) (hx:δ.ev x=.pv (.lit (hs k))) (hy:δ.ev y=e7 m) (ht:P.underlying t=some (.slice e')) (xo:(P.info? e').map (·.size)=some 1) (kY:fq x=true) (kW:fq y=true) (hd:fR δ.n dst=true)
  (h0:0≤m) (hm:m.toNat≤(ls k).length) (hK:a_ q P g ops rest Q (δ.eY dst (.pv (.lit (kN m.toNat (hs k)))))):a_ q P g ops (⟨dst,.slice t x (some y) none none,ty,pos,af,none⟩::rest) Q δ:=
 a_.GP i k m.toNat ho rfl hx (by rw[b8 h0];exact hy) (by rw[a6];exact hm) ht xo kY kW hd hK
theorem a_.DM (i:Nat) {x:Operand} {t e':TypeId} {m:Nat} (ho:δ.ob i=some (.ff e (kl hs ls))) (hx:δ.ev x=.pv (.lit (jn m (hs k)))) (ht:P.underlying t=some (.slice e')) (kY:fq x=true) (hd:fR δ.n dst=true) (hm:m≤(ls k).length)
  (hK:a_ q P g ops rest Q (δ.eY dst (e7 (m:Nat)))):a_ q P g ops (⟨dst,.call {callee:=.builtin .len,args:= #[x],argTypes:= #[t]},ty,pos,af,none⟩::rest) Q δ:=
 a_.iR _ hd (fun κ a w r=>by
  have h0:=gZ r ho k
  unfold kl at h0
  simp only[a6] at h0
  have hv:a.eval x=jn m (hs k):=r.lit hx kY
  rcases h0.2 with ⟨h1,h2⟩|⟨b,cap,cur,h1,_⟩
  ·rw[h1] at hv
   exact⟨_,fun w' _=>run_len_slice ht x a.eval none _ 0 hv w',.pv (.lit _)⟩
  ·rw[h1] at hv
   exact⟨_,fun w' _=>run_len_slice ht x a.eval _ _ cap hv w',.pv (.lit _)⟩) hK
theorem a_.zD (i:Nat) {x y:Operand} {t e':TypeId} {m:Int} {m0:Nat} (ho:δ.ob i=some (.ff e (kl hs ls))) (hx:δ.ev x=.pv (.lit (jn m0 (hs k)))) (hy:δ.ev y=e7 m) (ht:P.underlying t=some (.slice e')) (xo:(P.info? e').map (·.size)=some 1) (kY:fq x=true) (kW:fq y=true) (hd:fR δ.n dst=true)
  (h0:0≤m) (hn:m.toNat<m0) (Fz:m0≤(ls k).length) (hK:a_ q P g ops rest Q (δ.eY dst (.pv (.lit (nt m.toNat (hs k)))))):a_ q P g ops (⟨dst,.indexAddr t x y,ty,pos,af,none⟩::rest) Q δ:=
 a_.iR _ hd (fun κ a w r=>by
  have A0:=gZ r ho k
  unfold kl at A0
  simp only[a6] at A0
  have hv:a.eval x=jn m0 (hs k):=r.lit hx kY
  rcases A0.2 with ⟨h1,h2⟩|⟨b,cap,cur,h1,_⟩
  ·exfalso;omega
  ·rw[h1] at hv ⊢
   refine⟨_,fun w' _=>?_,.pv (.lit _)⟩
   have:=iE (dst:=dst) (ty:=ty) (pos:=pos) (af:=af) ht xo hv (n:=m.toNat) (by rw[b8 h0];exact r.lit hy kW) hn w'
   rw[cH] at this
   exact this) hK
theorem a_.DI (i:Nat) {s x:Operand} {t:TypeId} {bytes:Nat} {z:Value} {us:List Int} {fc:List (List PV)} (ho:δ.ob i=some (.ff e (kl hs ls))) (HX:δ.ev s=.pv (.lit (hs k))) (hx:qM δ x 1 fc) (he:fc=us.map fun u=>[.lit (vI u)]) (ht:P.underlying t=some (.slice e)) (hi:(P.info? e).map (fun i=>(i.size,i.zero,i.bytes))=some (1,some z,bytes)) (yP:z.oneCell'=true) (sz:fq s=true) (kY:fq x=true) (hd:fR δ.n dst=true)
  (Ie:bx bytes 64=true) (hl:(ls k).length+us.length≤1000000000) (hK:∀v',v'.oneCell'=true→a_ .plain P g ops rest Q ((δ.gm i (some (.ff e (kl (fb hs k v') (fb ls k (ls k++us)))))).eY dst (.pv (.lit v')))):a_ .plain P g ops (⟨dst,.call {callee:=.builtin .append,args:= #[s,x],argTypes:= #[t,t]},ty,pos,af,none⟩::rest) Q δ:=by
 have h64:bytes≤64:=by simpa using Ie
 refine a_.Cw i k ho rfl HX (us:=us.map vI) (.src hx (by rw[he,cT];rfl)) ht hi yP sz kY hd ?_ (by simp only[a6];omega) fun v'=>?_
 ·simp only[a6]
  have:((ls k).length+us.length)*bytes≤1000000000*64:=Nat.mul_le_mul hl h64
  omega
 ·rw[p9 hs ls k v' (ls k++us) (by rw[cU])]
  intro κ a w r
  refine hK v' ?_ κ a w r
  have h0:=gZ r (i:=i) (rows:=kl (fb hs k v') (fb ls k (ls k++us))) (e:=e) (by cases dst<;>exact(jH _ _ _ _).trans (if_pos rfl)) k
  unfold kl at h0
  simp only[e8] at h0
  rcases h0.2 with ⟨h1,_⟩|⟨b,cap,cur,h1,_⟩<;>rw[h1]<;>rfl
theorem a_.ma (i:Nat) {s x:Operand} {t:TypeId} {bytes:Nat} {z:Value} {u:Int} {fc:List (List PV)} (ho:δ.ob i=some (.ff e (kl hs ls))) (HX:δ.ev s=.pv (.lit (hs k))) (hx:qM δ x 1 fc) (he:fc=[[.lit (vI u)]]) (ht:P.underlying t=some (.slice e)) (hi:(P.info? e).map (fun i=>(i.size,i.zero,i.bytes))=some (1,some z,bytes)) (yP:z.oneCell'=true) (sz:fq s=true) (kY:fq x=true) (hd:fR δ.n dst=true)
  (Ie:bx bytes 64=true) (hl:(ls k).length+1≤1000000000) (hK:∀v',v'.oneCell'=true→a_ .plain P g ops rest Q ((δ.gm i (some (.ff e (kl (fb hs k v') (fb ls k (ls k++ [u])))))).eY dst (.pv (.lit v')))):a_ .plain P g ops (⟨dst,.call {callee:=.builtin .append,args:= #[s,x],argTypes:= #[t,t]},ty,pos,af,none⟩::rest) Q δ:=
 a_.DI i (us:=[u]) ho HX hx he ht hi yP sz kY hd Ie hl hK
theorem a_.xV (i m:Nat) {s x:Operand} {t:TypeId} {bytes:Nat} {z:Value} {us:List Int} {fc:List (List PV)} (ho:δ.ob i=some (.ff e (kl hs ls))) (HX:δ.ev s=.pv (.lit (jn m (hs k)))) (hx:qM δ x 1 fc) (he:fc=us.map fun u=>[.lit (vI u)]) (ht:P.underlying t=some (.slice e)) (hi:(P.info? e).map (fun i=>(i.size,i.zero,i.bytes))=some (1,some z,bytes)) (sz:fq s=true) (kY:fq x=true) (hd:fR δ.n dst=true)
  (ku:m+us.length≤(ls k).length) (fZ:ls k≠ []) (hK:a_ .plain P g ops rest Q ((δ.gm i (some (.ff e (kl hs (fb ls k ((ls k).take m++us++(ls k).drop (m+us.length))))))).eY dst (.pv (.lit (jn (m+us.length) (hs k)))))):a_ .plain P g ops (⟨dst,.call {callee:=.builtin .append,args:= #[s,x],argTypes:= #[t,t]},ty,pos,af,none⟩::rest) Q δ:=
 a_.qm i k m ho rfl HX (us:=us.map vI) (.src hx (by rw[he,cT];rfl)) (by simp only[a6];exact ku) (by simpa using fZ) ht hi sz kY hd (by
  rw[tI hs ls k ((ls k).take m++us++(ls k).drop (m+us.length)) (by simp [cV,cW]),a6];exact hK)
theorem a_.jE (i:Nat) {m:Nat} {s x:Operand} {t:TypeId} {bytes:Nat} {z:Value} {u:Int} {fc:List (List PV)} (ho:δ.ob i=some (.ff e (kl hs ls))) (HX:δ.ev s=.pv (.lit (jn m (hs k)))) (hx:qM δ x 1 fc) (he:fc=[[.lit (vI u)]]) (ht:P.underlying t=some (.slice e)) (hi:(P.info? e).map (fun i=>(i.size,i.zero,i.bytes))=some (1,some z,bytes)) (sz:fq s=true) (kY:fq x=true) (hd:fR δ.n dst=true)
  (ku:m+1≤(ls k).length) (hK:a_ .plain P g ops rest Q ((δ.gm i (some (.ff e (kl hs (fb ls k ((ls k).set m u)))))).eY dst (.pv (.lit (jn (m+1) (hs k)))))):a_ .plain P g ops (⟨dst,.call {callee:=.builtin .append,args:= #[s,x],argTypes:= #[t,t]},ty,pos,af,none⟩::rest) Q δ:=
 a_.xV i m (us:=[u]) ho HX hx he ht hi sz kY hd ku (by intro h;rw[h] at ku;simp at ku) (by
  have e1:(ls k).take m++ [u]++(ls k).drop (m+ [u].length)=(ls k).set m u:=by
   rw[List.set_eq_take_append_cons_drop,if_pos aJ];simp
  rw[e1];exact hK)
theorem a_.pf (i m m':Nat) {s x:Operand} {t:TypeId} {bytes:Nat} {z:Value} (ho:δ.ob i=some (.ff e (kl hs ls))) (HX:δ.ev s=.pv (.lit (jn m (hs k)))) (hx:δ.ev x=.pv (.lit (kN m' (hs k)))) (ht:P.underlying t=some (.slice e)) (hi:(P.info? e).map (fun i=>(i.size,i.zero,i.bytes))=some (1,some z,bytes)) (sz:fq s=true) (kY:fq x=true) (hd:fR δ.n dst=true)
  (ku:m≤m') (Yx:m'≤(ls k).length) (fZ:ls k≠ []) (hK:a_ .plain P g ops rest Q ((δ.gm i (some (.ff e (kl hs (fb ls k ((ls k).take m++(ls k).drop m'++(ls k).drop (m+((ls k).length - m')))))))).eY dst (.pv (.lit (jn (m+((ls k).length - m')) (hs k)))))):a_ .plain P g ops (⟨dst,.call {callee:=.builtin .append,args:= #[s,x],argTypes:= #[t,t]},ty,pos,af,none⟩::rest) Q δ:=
 a_.qm i k m ho rfl HX (us:=((ls k).map vI).drop m') (.tail ho rfl (by simp only[a6];exact Yx) hx (by simpa using fZ)) (by simp only[a6,cQ];omega) (by simpa using fZ) ht hi sz kY hd (by
  have e1:(((ls k).map vI).drop m').length=(ls k).length - m':=by simp
  rw[e1,tI hs ls k ((ls k).take m++(ls k).drop m'++(ls k).drop (m+((ls k).length - m'))) (by simp [cV,cW])];exact hK)
end
def gC (n:Nat) (h:Nat→Value):List (List PV):=(bc n).map fun j=>[.lit (h j)]
theorem k9 (n:Nat) (h:Nat→Value):(gC n h).length=n:=by simp [gC]
theorem Iy {n k:Nat} (h:Nat→Value) (hk:k<n):(gC n h)[k]? =some [.lit (h k)]:=by simp [gC,hk]
theorem fT {n k:Nat} (h:Nat→Value) (hk:k<n) (v:Value):(gC n h).set k [.lit v]=gC n (fb h k v):=by
 apply List.ext_getElem (by simp [gC])
 intro j h1 h2
 have hj:j<n:=by simpa [gC] using h1
 rw[List.getElem_set]
 simp only[gC,List.getElem_map,List.getElem_range]
 by_cases e:k=j
 ·subst e;rw[if_pos rfl,e8]
 ·rw[if_neg e,fA _ _ (Ne.symm e)]
theorem fz (n:Nat) (h:Nat→Value):gC n h++ [[.lit (h n)]]=gC (n+1) h:=by
 simp only[gC,List.range_succ,cU,bA,bZ]
theorem a_.k9 {x:Operand} {t e e':TypeId} {i n:Nat} {h:Nat→Value} (hx:δ.ev x=.own i e' 1 (gC n h)) (ht:P.underlying t=some (.slice e)) (ho:fq x=true) (hd:fR δ.n dst=true)
  (hK:a_ q P g ops rest Q (δ.eY dst (e7 (n:Nat)))):a_ q P g ops (⟨dst,.call {callee:=.builtin .len,args:= #[x],argTypes:= #[t]},ty,pos,af,none⟩::rest) Q δ:=
 a_.E6 hx ht ho hd (by rw[Go.Ab.k9];exact hK)
theorem a_.Ep {x y:Operand} {t e e':TypeId} {i n:Nat} {m:Int} {h:Nat→Value} (hx:δ.ev x=.own i e' 1 (gC n h)) (hy:δ.ev y=e7 m) (ht:P.underlying t=some (.slice e)) (hk:(P.info? e).map (·.size)=some 1) (ho:fq x=true) (f_:fq y=true) (hd:fR δ.n dst=true) (h0:0≤m) (hn:m.toNat<n)
  (hK:a_ q P g ops rest Q (δ.eY dst (.gN i e' 1 (gC n h) m.toNat))):a_ q P g ops (⟨dst,.indexAddr t x y,ty,pos,af,none⟩::rest) Q δ:=
 a_.qF (n:=m.toNat) hx (by rw[b8 h0];exact hy) (by rw[Go.Ab.k9];exact hn) ht hk ho f_ hd hK
theorem a_.jI {x:Operand} {t e:TypeId} {i n m:Nat} {h:Nat→Value} (hx:δ.ev x=.gN i e 1 (gC n h) m) (ht:jU P t=true) (ho:fq x=true) (hd:fR δ.n dst=true) (hq:q≠ .held) (hn:m<n)
  (hK:a_ q P g ops rest Q (δ.eY dst (.pv (.lit (h m))))):a_ q P g ops (⟨dst,.load t x,ty,pos,af,none⟩::rest) Q δ:=
 a_.E2 hq hx (Iy h hn) ht ho hd hK
theorem AW.ym {c:Code} (i j k t:Nat) {e:TypeId} {hs:Nat→Value} {ls:Nat→List Int} {us:List Int} {fc:List (List PV)} (ho:δ.ob i=some (.ff e (kl hs ls))) (hj:δ.ob j=some .row) (ht:δ.get t=.own j e 1 fc) (he:fc=us.map fun u=>[.lit (vI u)]) (hk:hs k=.slice none 0 0)
  (hK:∀v,v.oneCell'=true→AW P g c Q (((δ.gF (AV.kill j)).gm i (some (.ff e (kl (fb hs k v) (fb ls k us))))).put t (.pv (.lit v)))):AW P g c Q δ:=
 AW.rF i j k t (us:=us.map vI) ho hj ht (by rw[he,cT];rfl) hk fun v=>by
  rw[p9 hs ls k v us rfl]
  intro κ a w r
  refine hK v ?_ κ a w r
  have h0:=gZ r (i:=i) (rows:=kl (fb hs k v) (fb ls k us)) (e:=e) (by show((δ.gF (AV.kill j)).gm i _).ob i=_;rw[jH,if_pos rfl]) k
  unfold kl at h0
  simp only[e8] at h0
  rcases h0.2 with ⟨h1,_⟩|⟨b,cap,cur,h1,_⟩<;>rw[h1]<;>rfl
theorem AW.rV {c:Code} (i k m:Nat) {e:TypeId} {hs:Nat→Value} {ls:Nat→List Int} (ho:δ.ob i=some (.ff e (kl hs ls))) (hm:m≤(ls k).length) (hK:AW P g c Q (δ.gm i (some (.ff e (kl (fb hs k (jn m (hs k))) (fb ls k ((ls k).take m))))))):AW P g c Q δ:=
 AW.Bu i k m ho rfl (by rw[a6];exact hm) (by rw[p9 hs ls k _ ((ls k).take m) (by rw[cV])];exact hK)
theorem AW.Au {c:Code} (e:TypeId) (hK:AW P g c Q (δ.fN (.ff e (kl (fun _=> .slice none 0 0) fun _=>[])))):AW P g c Q δ:=AW.xl e hK
theorem AW.uu (id i k m:Nat) {b:Bool} {l:Array Oper} {e:TypeId} {hs:Nat→Value} {ls:Nat→List Int} (ho:δ.ob i=some (.ff e (kl hs ls))) (hm:m≤(ls k).length) (hK:AW P g (.region id l b) Q (δ.gm i (some (.ff e (kl (fb hs k (jn m (hs k))) (fb ls k ((ls k).take m))))))):AW P g (.region id l b) Q δ:=
 AW.rV i k m ho hm hK
theorem CB (r:Rel g δ κ a w) {i:Nat} {e:TypeId} {hs:Nat→Value} {ls:Nat→List Int} (ho:δ.ob i=some (.ff e (kl hs ls))) (k m:Nat):(hs k).oneCell'=true∧(jn m (hs k)).oneCell'=true:=by
 have h0:=gZ r ho k
 unfold kl at h0
 simp only at h0
 rcases h0.2 with ⟨h1,_⟩|⟨b,cap,cur,h1,_⟩<;>rw[h1]<;>exact⟨rfl,rfl⟩
theorem AW.Aq {c:Code} (i:Nat) {e:TypeId} {hs:Nat→Value} {ls:Nat→List Int} (ho:δ.ob i=some (.ff e (kl hs ls))) (hK:(∀k,(hs k).oneCell'=true)→(∀k m,(jn m (hs k)).oneCell'=true)→AW P g c Q δ):AW P g c Q δ:=fun κ a w r=>
 hK (fun k=>(CB r ho k 0).1) (fun k m=>(CB r ho k m).2) κ a w r
theorem WV.fh {δ δ':DS} {u v:Value} (h:u=v):WV δ δ' (.pv (.lit u)) (.pv (.lit v)):=.eq (by rw[h]) rfl
namespace Nf
variable {i n j:Nat} {c:List PV}
theorem Ty:AV.mx i n c .any=.any:=rfl
theorem Xb (p:PV):AV.mx i n c (.pv p)=.pv p:=rfl
theorem TE (a b:Nat):AV.mx i n c (.ptr a b)=.ptr a b:=rfl
theorem P6 (d:List PV):AV.mx i n c (.gp d)=.gp d:=rfl
theorem PA (a:Nat):AV.mx i n c (.gz a)=.gz a:=rfl
theorem Up (a:Nat):AV.mx i n c (.kZ a)=.kZ a:=rfl
theorem TL (e fc):AV.mx i n c (.own j e 1 fc)=bif aL i j then .own j e 1 (fc.set n c) else .own j e 1 fc:=rfl
theorem O7 (e fc):AV.mx i n c (.own j e 3 fc)=bif aL i j then .any else .own j e 3 fc:=rfl
theorem Q5 (e k fc m):AV.mx i n c (.gN j e k fc m)=bif aL i j then .any else .gN j e k fc m:=rfl
theorem R5 (cs:List AV):AV.mx i n c (.agg cs)=.agg (lM (AV.mx i n c) cs):=by
 show AV.agg (AV.DK (rO i n c) cs)=_
 rw[AV.jG]
 congr 1
 induction cs with
 |nil=>rfl
 |cons a r ih=>rw[bA,ih];rfl
theorem S6 (cs:List AV):AV.mx i n c (.gM cs)=.gM (lM (AV.mx i n c) cs):=by
 show AV.gM (AV.DK (rO i n c) cs)=_
 rw[AV.jG]
 congr 1
 induction cs with
 |nil=>rfl
 |cons a r ih=>rw[bA,ih];rfl
set_option linter.defProp false in
def VA:=And.intro @Ty (And.intro @Xb (And.intro @TE (And.intro @P6 (And.intro @PA (And.intro @Up (And.intro @TL (And.intro @O7 (And.intro @Q5 (And.intro @R5 @S6)))))))))
end Nf
end Go.Ab
/- An index into an own row of any form. -/
namespace Go.Ab
open Go Go.RowKit
variable {q:Md} {P:Program} {g:e6} {δ:DS} {ops:Array Oper} {rest:List Oper} {Q:Exit→DS→Prop} {dst:Option Nat} {ty:TypeId} {pos:String} {af:Array Edge}
theorem a_.vV {x y:Operand} {t e e':TypeId} {i k:Nat} {m:Int} {fc:List (List PV)} (hx:δ.ev x=.own i e' k fc) (hy:δ.ev y=e7 m)
  (ht:P.underlying t=some (.slice e)) (hk:(P.info? e).map (·.size)=some k) (ho:fq x=true) (f_:fq y=true) (hd:fR δ.n dst=true) (h0:0≤m) (hn:m.toNat<fc.length)
  (hK:a_ q P g ops rest Q (δ.eY dst (.gN i e' k fc m.toNat))):a_ q P g ops (⟨dst,.indexAddr t x y,ty,pos,af,none⟩::rest) Q δ:=
 a_.qF (n:=m.toNat) hx (by rw[hy];show e7 m=e7 _;rw[b8 h0]) hn ht hk ho f_ hd hK
end Go.Ab
/- Pools of numbers:a row forgotten;a row appended to a row of the walk's own. -/
namespace Go.Ab
open Go Go.RowKit
variable {q:Md} {P:Program} {g:e6} {δ:DS} {κ:Kp} {a:Act} {w:World} {Q:Exit→DS→Prop}
variable {ops:Array Oper} {rest:List Oper} {dst:Option Nat} {ty:TypeId} {pos:String} {af:Array Edge} {gd:Option (Tmp×Bool)}
theorem AW.KF {c:Code} (i k:Nat) {e:TypeId} {hs:Nat→Value} {ls:Nat→List Int} (ho:δ.ob i=some (.ff e (kl hs ls))) (hK:AW P g c Q (δ.gm i (some (.ff e (kl (fb hs k (.slice none 0 0)) (fb ls k [])))))):AW P g c Q δ:=fun κ a w r=>by
 obtain⟨κ',r',_⟩:=r.og ho (k:=k) (w':=w) ⟨rfl,rfl,rfl,aP _,fun _ _ _=>rfl⟩ (v':=.slice none 0 0) (ys:=[]) ⟨by simp,.inl ⟨rfl,by simp⟩⟩ (by simp) (fun u hu=>by simp at hu) (fun b hb=>by cases hb)
 rw[p9 hs ls k _ [] (ys:=[]) rfl] at r'
 exact hK κ' a w r'
theorem Jw (r:Rel g δ κ a w) {i k:Nat} {e:TypeId} {hs:Nat→Value} {ls:Nat→List Int} (ho:δ.ob i=some (.ff e (kl hs ls))) {x:Operand} (hx:δ.ev x=.pv (.lit (hs k))) (kY:fq x=true):Src (δ.cx g κ) w (a.eval x) 1 ((ls k).map fun u=>[.lit (vI u)]):=by
 have h0:=gZ r ho k
 have hl:=((r.obj i _ ho).2.1 k).2.1
 unfold kl at h0 hl
 simp only[a6] at h0 hl
 have hv:a.eval x=hs k:=r.lit hx kY
 refine⟨by simpa using hl,fun c hc=>by obtain⟨u,_,rfl⟩:=bw.1 hc;rfl,?_⟩
 rw[a6]
 rcases h0.2 with ⟨h1,h2⟩|⟨b,cap,cur,h1,_,h3,hle,_,n6,qu⟩
 ·exact⟨none,0,by rw[hv,h1,h2],fun fZ=>absurd (by rw[bj h2];rfl) fZ⟩
 ·refine⟨_,_,by rw[hv,h1],fun fZ=>⟨b,0,fun i _=>vI ((ls k).getD i 0),rfl,fun i j p hp=>?_⟩⟩
  rw[cH] at qu
  obtain⟨hi,hj⟩:i<(ls k).length∧j=0∧True:=by
   unfold cellAt at hp
   simp only[a7] at hp
   cases hq:(ls k)[i]? with
   |none=>rw[hq] at hp;simp at hp
   |some u=>
    refine⟨(aW.1 hq).1,?_,trivial⟩
    rw[hq] at hp
    cases j with
    |zero=>rfl
    |succ j=>simp at hp
  obtain⟨rfl,_⟩:=hj
  have Rz:p=.lit (vI (ls k)[i]):=by
   unfold cellAt at hp
   simp only[a7,a8 hi] at hp
   simpa using hp.symm
  subst Rz
  have hg:(ls k).getD i 0=(ls k)[i]:=by simp [List.getD_eq_getElem?_getD,hi]
  refine⟨?_,rfl,?_⟩
  ·rw[cell_of h3,← bB]
   show cur.toList[0+i*1+0]? =some (vI ((ls k).getD i 0))
   rw[hg,show 0+i*1+0=i by omega]
   have:=congrArg (·[i]?) qu
   simp only[bD,if_pos hi,a7,a8 hi] at this
   simpa using this
  ·show RP _ _ (vI ((ls k).getD i 0)) _
   rw[hg];exact .lit _
theorem a_.BT (i0:Nat) {s x:Operand} {t e e0:TypeId} {i bytes k:Nat} {z:Value} {fc:List (List PV)} {hs:Nat→Value} {ls:Nat→List Int} (Z0:δ.ob i0=some (.ff e0 (kl hs ls))) (HX:δ.ev s=.own i e 1 fc) (hx:δ.ev x=.pv (.lit (hs k))) (hr:δ.ob i=some .row) (ht:P.underlying t=some (.slice e))
  (hi:(P.info? e).map (fun i=>(i.size,i.zero,i.bytes))=some (1,some z,bytes)) (Ie:bx bytes 64=true) (mh:aL z.cells.size 1=true) (ho:fq s=true) (f_:fq x=true) (hd:fR δ.n dst=true)
  (hl:fc.length+(ls k).length≤1000000000000) (hK:a_ .plain P g ops rest Q ((δ.gF (AV.kill i)).eY dst (.own i e 1 (fc++(ls k).map fun u=>[.lit (vI u)])))):
  a_ .plain P g ops (⟨dst,.call {callee:=.builtin .append,args:= #[s,x],argTypes:= #[t,t]},ty,pos,af,none⟩::rest) Q δ:=
 a_.qA rfl rfl (fun κ a w r=>by
  obtain⟨v',w',κ',h1,h2,h3⟩:=qi (ty:=ty) r hr (r.ra HX ho).iH (Jw r Z0 hx f_) ht hi (Nat.eq_of_beq_eq_true mh) (by simp) (y4 Ie (by rw[a6];exact hl)) (by rw[a6];omega)
  exact .inl ⟨_,_,_,_,nX h1,.inl rfl,h2.eY (fv hd) (.own h3)⟩) hK
theorem a_.GJ (i:Nat) {x y:Operand} {t e e' t':TypeId} {k:Nat} {hs:Nat→Value} {ls:Nat→List Int} (ho:δ.ob i=some (.ff e' (kl hs ls))) (hx:δ.ev x=.pv (.lit (hs k))) (hy:δ.ev y=.pv (.lit (.slice none 0 0))) (ht:P.underlying t=some (.slice e)) (kY:fq x=true) (kW:fq y=true) (hd:fR δ.n dst=true) (fZ:0<(ls k).length)
  (hK:a_ q P g ops rest Q (δ.eY dst (fu false))):a_ q P g ops (⟨dst,.binOp .eql t x y t',ty,pos,af,none⟩::rest) Q δ:=
 a_.iR _ hd (fun κ a w r=>by
  have h0:=gZ r ho k
  unfold kl at h0
  simp only[a6] at h0
  have hv:a.eval x=hs k:=r.lit hx kY
  have h2:=r.lit hy kW
  rcases h0.2 with ⟨_,h3⟩|⟨b,cap,cur,h1,_⟩
  ·exfalso;omega
  ·refine⟨.bool false,fun w' _=>?_,.pv (.lit _)⟩
   have:=ry ht x y (some ⟨b,0,none⟩) (ls k).length cap w'
   rw[h1] at hv
   simp only[execOp,hv,h2]
   simp only[Sem.run_bind,this,Result.andThen_ok] at*
   first|rfl|simp [this]) hK
end Go.Ab
/- A row of the walk's own with elements is not nil. -/
namespace Go.Ab
open Go Go.RowKit
variable {q:Md} {P:Program} {g:e6} {δ:DS} {κ:Kp} {a:Act} {w:World} {Q:Exit→DS→Prop}
variable {ops:Array Oper} {rest:List Oper} {dst:Option Nat} {ty:TypeId} {pos:String} {af:Array Edge} {gd:Option (Tmp×Bool)}
theorem a_.Gr {x y:Operand} {t e e' t':TypeId} {i k:Nat} {fc:List (List PV)} (hx:δ.ev x=.own i e' k fc) (hy:δ.ev y=.pv (.lit (.slice none 0 0))) (ht:P.underlying t=some (.slice e)) (kY:fq x=true) (kW:fq y=true) (hd:fR δ.n dst=true) (fZ:0<fc.length)
  (hK:a_ q P g ops rest Q (δ.eY dst (fu false))):a_ q P g ops (⟨dst,.binOp .eql t x y t',ty,pos,af,none⟩::rest) Q δ:=
 a_.iR _ hd (fun κ a w r=>by
  obtain⟨xs,⟨_,gD⟩,_⟩:=(r.ra hx kY).iH.row
  have h2:=r.lit hy kW
  rcases gD with ⟨_,h3⟩|⟨b,cap,cur,h1,_⟩
  ·exfalso;omega
  ·refine⟨.bool false,fun w' _=>?_,.pv (.lit _)⟩
   have:=ry ht x y (some ⟨b,0,none⟩) fc.length cap w'
   simp only[execOp,h1,h2]
   simp only[Sem.run_bind,this,Result.andThen_ok] at*
   first|rfl|simp [this]) hK
end Go.Ab
/- Contracts of functions that panic;an own panic. -/
namespace Go.Ab
open Go Go.RowKit
variable {q:Md} {P:Program} {g:e6} {δ:DS} {κ:Kp} {a:Act} {w:World}
variable {ops:Array Oper} {rest:List Oper} {Q:Exit→DS→Prop} {dst:Option Nat} {ty:TypeId} {pos:String} {af:Array Edge}
theorem LA (je:g.wt=none) (xt:g.base=[]) {fn:Func} {ch:List PanicEntry} {R:Ending→World→Prop}:∀{a:Act} {w:World},Rel g δ κ a w→
  (∀w2,Rel g δ κ {a with defers:=[]} w2→R (.panicked ch) w2)→LeavesInM Fence.wide 0 P fn a.tmps R a.defers (.panicking ch) w:=by
 intro a w r hR
 obtain⟨ms,h1,h2,h3⟩:=r.dfr
 rw[xt,bs] at h1
 rw[h1]
 induction ms generalizing a w with
 |nil=>
  have ra:Rel g δ κ {a with defers:=[]} w:={r with dfr:=⟨[],by rw[xt];rfl,h2,h3⟩,km:=fun d hd=>by cases hd}
  exact hR w ra
 |cons m ms ih=>
  refine⟨by simp,.inl ⟨m,_,rfl,run_takeDeferred (h3 m (by simp)).2,?_⟩⟩
  have hm:=h3 m (by simp)
  rw[bt] at h2
  have jy:=cX.1 h2
  have uO:∀k∈ms++g.mks,g.B≤k∧(w.putObj m (.deferred none)).heap[k]? =some (.deferred (some [])):=fun k hk=>
   ⟨(h3 k (by simp only[bt,bu];exact .inr hk)).1,by rw[World.putObj_heap_other (by intro e;subst e;exact jy.1 hk)];exact(h3 k (by simp only[bt,bu];exact .inr hk)).2⟩
  have hd:GO g {a with defers:=ms.map fun r=>({target:=.collected r,args:= #[]}:Deferred)} (w.putObj m (.deferred none)):=⟨ms,by rw[xt,bs],jy.2,uO⟩
  have r2:=r.shut je hm.1 hm.2 (a':={a with defers:=ms.map fun r=>({target:=.collected r,args:= #[]}:Deferred)}) rfl (fun d hd=>by rw[h1];exact bw.2 (let ⟨x,hx,e⟩:=bw.1 hd;⟨x,by simp [hx],e⟩)) (r.km {target:=.collected m,args:= #[]} (by rw[h1];exact bw.2 ⟨m,by simp,rfl⟩) m rfl) hd
  exact ih (a:={a with defers:=ms.map fun r=>({target:=.collected r,args:= #[]}:Deferred)}) r2 (fun w2 r3=>hR w2 r3) rfl jy.2 uO
theorem ZA.enter {T:World→Prop} {t:TypeId} {f:FuncId} {fn:Func} {c:Code} {n n0:Nat} {d_ eZ:List (Nat×Option Ob)} {args:List AV} (hf:P.funcs[f]? =some fn) (hb:fn.body=some c) (hn:fn.ntmps=n) (Cy:bx args.length n=true)
  (p6:bx n HS=true) (he:(fn.name== "runtime.NumGoroutine")=false) (tx:sJ d_ d_=true) (vk:s5 n0 eZ=true)
  (h:∀g:e6,g.ro=none→g.wt=none→TB T g→AW P g c (Oo t d_ eZ) ⟨n,enum 0 args++ [(1000,.agg (gL d_))],d_,n0⟩):ZA T P t f n0 d_ args eZ:=by
 refine sq.enter (Q:=Oo t d_ eZ) hf hb hn Cy p6 he tx (fun _=>vk) h fun g e δ' κ' a' w' R je xt hq r' hR=>?_
 cases e with
 |panic ch=>
  obtain⟨h1,h2,h3,h4⟩:=hq
  exact LA (g:=g) je xt r' fun w2 r2=>hR () h2 h3 h4 _ _ r2 ⟨ch,rfl,h1⟩
 |_=>exact hq.elim
theorem WV.EO {δ δ':DS} {cs ds:List AV} (h:C_ δ δ' cs ds):WV δ δ' (.agg cs) (.agg ds):=by
 have key:∀{cs ds:List AV},C_ δ δ' cs ds→cs.length=ds.length∧∀(j:Nat) (c d:AV),cs[j]? =some c→ds[j]? =some d→WV δ δ' c d:=by
  intro cs
  induction cs with
  |nil=>
   intro ds h
   cases ds with
   |nil=>exact⟨rfl,fun j c d h1=>by simp at h1⟩
   |cons d ds=>exact h.elim
  |cons c cs ih=>
   intro ds h
   cases ds with
   |nil=>exact h.elim
   |cons d ds=>
    obtain⟨h1,h2⟩:=h
    obtain⟨h3,h4⟩:=ih h2
    refine⟨by simp [h3],fun j c' d' h5 h6=>?_⟩
    cases j with
    |zero=>simp at h5 h6;subst h5;subst h6;exact h1
    |succ j=>exact h4 j c' d' (by simpa using h5) (by simpa using h6)
 exact .agg (key h).1 (key h).2
variable {k:Wt} {late:List Nat} {l:List Oper} {dn:List Nat} {QD:Exit→DS→Prop}
end Go.Ab
/- A strings.Builder's own steps:a variable told by its very cells and its type,pointers through unsafe.Pointer,pointers held against nil and themselves;String. -/
namespace Go.Ab
open Go Go.RowKit
variable {q:Md} {P:Program} {g:e6} {δ:DS} {κ:Kp} {a:Act} {w:World}
variable {ops:Array Oper} {rest:List Oper} {Q:Exit→DS→Prop} {dst:Option Nat} {ty:TypeId} {pos:String} {af:Array Edge} {gd:Option (Tmp×Bool)}
theorem Rel.Kv (r:Rel g δ κ a w) {u:Value} {i off:Nat} {T:TypeId} {vals:Array Value} (h:RA (δ.cx g κ) w u (.ptr i off)) (ho:δ.ob i=some (.lit T vals)):
  ∃b,u=.pointer (some ⟨b,off,none⟩)∧κ i=some b∧w.heap[b]? =some (.cells vals T (0,0)):=by
 cases h with
 | @ptr _ _ b hl hκ=>
  obtain⟨b',h1,h2⟩:=r.obj i _ ho
  have:b'=b:=by have:=h1.symm.trans hκ;simpa using this
  subst this
  exact⟨b',rfl,h1,h2⟩
theorem a_.KG {x:Operand} {t T:TypeId} {i off:Nat} {vals:Array Value} {v:Value} (hx:δ.ev x=.ptr i off) (hb:δ.ob i=some (.lit T vals)) (hv:vals.toList[off]? =some v) (ht:jU P t=true) (ho:fq x=true) (hd:fR δ.n dst=true)
  (hK:a_ q P g ops rest Q (δ.eY dst (.pv (.lit v)))):a_ q P g ops (⟨dst,.load t x,ty,pos,af,none⟩::rest) Q δ:=
 a_.iR _ hd (fun κ a w r=>by
  obtain⟨b,h1,h2,h3⟩:=r.Kv (r.ra hx ho) hb
  exact⟨v,fun w' j5=>jW ht h1 ((j5.cell (ad:=⟨b,off,none⟩) (aO.1 h3).1 (r.Ao ⟨_,hb,rfl⟩ h2)).trans (by rw[cell_of h3,← bB,hv])),.pv (.lit _)⟩) hK
theorem iQ.EN {e:TypeId} {z:Value} {vals:Array Value} (hz:(P.info? e).bind (·.zero)=some z) (hl:z.cells=vals) (hd:fR δ.n dst=true):
  iQ P g ⟨dst,.alloc e,ty,pos,af,gd⟩ δ ((δ.fN (.lit e vals)).eY dst (.ptr δ.nx 0)):=by
 intro κ a w r
 have fw:(execOp a.eval ⟨dst,.alloc e,ty,pos,af,gd⟩).run P w=.ok (.value (.pointer (some ⟨w.heap.size,0,none⟩))) (w.alloc (.cells vals e)):=by
  cases hi:P.info? e with
  |none=>rw[hi] at hz;simp at hz
  |some i=>rw[hi] at hz;simp at hz;simp [execOp,Instr.alloc,zeroValue,typeInfo,hi,hz,newVar,newRow,hl]
 obtain⟨r',G⟩:=r.grow (.lit e vals) (.cells vals e) (fun C G hκ=>⟨w.heap.size,hκ,heap_alloc_new w _⟩)
 refine .inl ⟨_,_,_,_,fw,.inl rfl,r'.eY (fv hd) ?_⟩
 exact .ptr ⟨_,by show(δ.fN _).ob _=_;rw[fY,if_pos rfl],rfl⟩ (by show gT _ _ _ _=_;simp [gT])
theorem a_.EN {e:TypeId} {z:Value} {vals:Array Value} (hz:(P.info? e).bind (·.zero)=some z) (hl:z.cells=vals) (hd:fR δ.n dst=true)
  (hK:a_ .plain P g ops rest Q ((δ.fN (.lit e vals)).eY dst (.ptr δ.nx 0))):a_ .plain P g ops (⟨dst,.alloc e,ty,pos,af,none⟩::rest) Q δ:=a_.qA rfl rfl (iQ.EN hz hl hd) hK
theorem AW.yO {c:Code} (h:AW P g c Q (δ.fN .row)):AW P g c Q δ:=fun κ a w r=>by
 obtain⟨r1,_⟩:=r.yO
 exact h _ _ _ r1
theorem a_.yO {l:List Oper} (h:a_ .plain P g ops l Q (δ.fN .row)):a_ .plain P g ops l Q δ:=fun κ a w r=>by
 obtain⟨r1,_⟩:=r.yO
 exact h _ _ _ r1
theorem Aa (op:BinOp) (t:TypeId) (x y:Operand) (u v:Option Addr) (w:World):(eqGuard op t x y (.pointer u) (.pointer v)).run P w=.ok () w:=by
 unfold eqGuard
 cases op<;>simp [Sem.run,pure,Sem.bind,bind]
theorem p8 {tp te:TypeId} (u:Option Addr) (hp:P.underlying tp=some (.pointer te)) (Qr:(P.info? te).isSome=true) (w:World):(Go.binOp .eql tp (.pointer u) (.pointer none)).run P w=.ok (.bool u.isNone) w:=by
 obtain⟨j,hj⟩:=cY.1 Qr
 have h:∀d:Nat,(Op.equalIn (d+1) tp (.pointer u) (.pointer none)).run P w=.ok u.isNone w:=fun d=>by
  cases u<;>simp [Op.equalIn,run_underlying hp,sizeOf,typeInfo,hj]
 simp only[Go.binOp]
 simp [Op.equal,Op.maxDepth,h 9999]
theorem a_.T4 {x y:Operand} {t te t':TypeId} (hx:δ.ev x=.pv (.lit (.pointer none))) (hy:δ.ev y=.pv (.lit (.pointer none))) (hp:P.underlying t=some (.pointer te)) (Qr:(P.info? te).isSome=true) (ho:fq x=true) (f_:fq y=true) (hd:fR δ.n dst=true)
  (hK:a_ q P g ops rest Q (δ.eY dst (fu true))):a_ q P g ops (⟨dst,.binOp .eql t x y t',ty,pos,af,none⟩::rest) Q δ:=
 a_.bin hx hy ho f_ (fun w=>by rw[Sem.run_bind,Aa,Result.andThen_ok,p8 none hp Qr];rfl) hd hK
theorem a_.OP {x y:Operand} {t te t':TypeId} {i off:Nat} (hx:δ.ev x=.ptr i off) (hy:δ.ev y=.pv (.lit (.pointer none))) (hp:P.underlying t=some (.pointer te)) (Qr:(P.info? te).isSome=true) (ho:fq x=true) (f_:fq y=true) (hd:fR δ.n dst=true)
  (hK:a_ q P g ops rest Q (δ.eY dst (fu false))):a_ q P g ops (⟨dst,.binOp .eql t x y t',ty,pos,af,none⟩::rest) Q δ:=
 a_.iR _ hd (fun κ a w r=>⟨.bool false,fun w' _=>by
  have h1:=r.ra hx ho
  have h2:=r.lit hy f_
  generalize hv:a.eval x=v at h1
  cases h1 with
  | @ptr _ _ b hl hκ=>
   have:=p8 (P:=P) (some ⟨b,off,none⟩) hp Qr w'
   simp only[execOp,hv,h2,Sem.run_bind,Aa,Result.andThen_ok,this]
   rfl,.pv (.lit _)⟩) hK
theorem a_.RH {x y:Operand} {t te t':TypeId} {i off:Nat} (hx:δ.ev x=.ptr i off) (hy:δ.ev y=.ptr i off) (hp:P.underlying t=some (.pointer te)) (Qr:(P.info? te).isSome=true) (ho:fq x=true) (f_:fq y=true) (hd:fR δ.n dst=true)
  (hK:a_ q P g ops rest Q (δ.eY dst (fu false))):a_ q P g ops (⟨dst,.binOp .neq t x y t',ty,pos,af,none⟩::rest) Q δ:=
 a_.iR _ hd (fun κ a w r=>⟨.bool false,fun w' _=>by
  obtain⟨j,hj⟩:=cY.1 Qr
  have h1:=r.ra hx ho
  have h2:=r.ra hy f_
  generalize hv:a.eval x=v at h1
  generalize hu:a.eval y=u at h2
  cases h1 with
  | @ptr _ _ b hl hκ=>
   cases h2 with
   | @ptr _ _ b' WS xp=>
    have e:b=b':=Option.some.inj (hκ.symm.trans xp)
    subst e
    have:=Lib.run_neq_ptr_same (P:=P) w' ⟨b,off,none⟩ hp hj
    simp only[execOp,hv,hu,Sem.run_bind,Aa,Result.andThen_ok,this]
    rfl,.pv (.lit _)⟩) hK
theorem BB {b:Nat} {c:Array Value} {e:TypeId} (h:w.heap[b]? =some (.cells c e (0,0))):w.shape? b=some (e,c.size):=by simp [World.shape?,h]
theorem a_.Kh {x:Operand} {s d t T:TypeId} {i:Nat} {vals:Array Value} (hx:δ.ev x=.ptr i 0) (hb:δ.ob i=some (.lit T vals)) (hs:P.underlying s=some (.pointer t)) (tv:P.underlying d=some .unsafePointer) (ht:((P.info? t).map fun i=>aY 0 i.size)=some true) (h0:aY 0 vals.size=true) (ho:fq x=true) (hd:fR δ.n dst=true)
  (hK:a_ .plain P g ops rest Q (δ.eY dst (.ptr i 0))):a_ .plain P g ops (⟨dst,.convert s d x,ty,pos,af,none⟩::rest) Q δ:=
 a_.qA rfl rfl (fun κ a w r=>by
  obtain⟨j,hj,hjs⟩:∃j,P.info? t=some j∧j.size≠0:=by
   cases h:P.info? t with
   |none=>rw[h] at ht;simp at ht
   |some j=>rw[h] at ht;simp at ht;exact⟨j,rfl,by omega⟩
  obtain⟨b,h1,h2,h3⟩:=r.Kv (r.ra hx ho) hb
  have hr:=Lib.run_to_unsafe (P:=P) w ⟨b,0,none⟩ hs tv hj hjs (BB h3) (by simpa using h0)
  refine .inl ⟨.value (.pointer (some ⟨b,0,none⟩)),_,w,_,?_,.inl rfl,r.eY (fv hd) (by rw[← h1];exact r.ra hx ho)⟩
  simp only[execOp,h1,Sem.run_bind,hr,Result.andThen_ok]
  rfl) hK
theorem a_.DB {x:Operand} {s d t T:TypeId} {i:Nat} {vals:Array Value} (hx:δ.ev x=.ptr i 0) (hb:δ.ob i=some (.lit T vals)) (hs:P.underlying s=some .unsafePointer) (tv:P.underlying d=some (.pointer t)) (ht:(P.info? t).isSome=true) (hl:liesAt P P.depth T (vals.size / P.cellsOf T) 0 t 1=true) (ho:fq x=true) (hd:fR δ.n dst=true)
  (hK:a_ .plain P g ops rest Q (δ.eY dst (.ptr i 0))):a_ .plain P g ops (⟨dst,.convert s d x,ty,pos,af,none⟩::rest) Q δ:=
 a_.qA rfl rfl (fun κ a w r=>by
  obtain⟨j,hj⟩:=cY.1 ht
  obtain⟨b,h1,h2,h3⟩:=r.Kv (r.ra hx ho) hb
  have hr:=Lib.run_from_unsafe (P:=P) w ⟨b,0,none⟩ hs tv hj (BB h3) hl
  refine .inl ⟨.value (.pointer (some ⟨b,0,none⟩)),_,w,_,?_,.inl rfl,r.eY (fv hd) (by rw[← h1];exact r.ra hx ho)⟩
  simp only[execOp,h1,Sem.run_bind,hr,Result.andThen_ok]
  rfl) hK
theorem a_.IP {f:FuncId} {fn:Func} {x:Operand} {tys:Array TypeId} {v:AV} (hf:P.funcs[f]? =some fn) (SK:(fn.name== "runtime.NumGoroutine")=false) (YJ:fn.body.isNone=true) (hn:Extern.findNext fn=none) (he:Extern.find fn=some Extern.AbiNoEscape.same) (hx:δ.ev x=v) (ho:fq x=true) (hd:fR δ.n dst=true)
  (hK:a_ .plain P g ops rest Q (δ.eY dst v)):a_ .plain P g ops (⟨dst,.call {callee:=.value (.func f),args:= #[x],argTypes:=tys},ty,pos,af,none⟩::rest) Q δ:=
 a_.qA rfl rfl (fun κ a w r=>by
  have hr:=run_callFunc_extern hf SK YJ hn he #[a.eval x] w
  rw[Lib.run_noEscape,Result.andThen_ok] at hr
  have key:∀ρ:Operand→Value,ρ (.func f)=.func (.func f) #[] #[]→(callFunc f #[ρ x]).run P w=.ok (.value (ρ x)) w→(execOp ρ ⟨dst,.call {callee:=.value (.func f),args:= #[x],argTypes:=tys},ty,pos,af,none⟩).run P w=.ok (.value (ρ x)) w:=by
   intro ρ h1 h2
   simp [execOp,resolve,Deferred.ofValue,invoke,h1,h2]
  exact .inl ⟨.value (a.eval x),_,w,_,key _ rfl hr,.inl rfl,r.eY (fv hd) (r.ra hx ho)⟩) hK
inductive Bl:List Value→List AV→Prop
 |nil:Bl [] []
 |cons {v:Value} {vs:List Value} {l:List AV} (h:Bl vs l):Bl (v::vs) (.pv (.lit v)::l)
theorem Bl.eq {vs:List Value} {l:List AV} (h:Bl vs l):vs.map (fun u=> .pv (.lit u))=l:=by
 induction h with
 |nil=>rfl
 |cons h ih=>rw[bA,ih]
theorem iQ.tQ {x y:Operand} {t T:TypeId} {i off:Nat} {vals:Array Value} {v:AV} (hx:δ.ev x=.ptr i off) (hy:δ.ev y=v) (hb:δ.ob i=some (.lit T vals)) (fx:aY off vals.size=true) (iT:vals.toList.all (·.oneCell')=true) (ht:(P.info? t).map (·.size)=some 1) (h1:v.one=true) (ho:fq x=true) (f_:fq y=true) (hd:fR δ.n dst=true) (Es:g.nF i):
  iQ P g ⟨dst,.store t x y,ty,pos,af,gd⟩ δ ((δ.gm i (some (.box ((vals.toList.map fun u=> .pv (.lit u)).set off v)))).eY dst .any):=by
 intro κ a w r
 obtain⟨b,hv,hκ,h3⟩:=r.Kv (r.ra hx ho) hb
 have Kx:off<vals.size:=by simpa using fx
 have uM:=r.ra hy f_
 have nH:=uM.one h1
 have fw:(execOp a.eval ⟨dst,.store t x y,ty,pos,af,gd⟩).run P w=.ok .skip (w.setCell ⟨b,off,none⟩ (a.eval y)):=by
  obtain⟨i0,jh,ln⟩:∃i0,P.info? t=some i0∧i0.size=1:=by
   cases h:P.info? t with
   |none=>rw[h] at ht;simp at ht
   |some i0=>rw[h] at ht;exact⟨i0,rfl,by simpa using ht⟩
  have hc:w.cell? ⟨b,off,none⟩=some vals[off]:=by rw[cell_of h3,Array.getElem?_eq_getElem aJ]
  have jc:(store ⟨b,off,none⟩ (a.eval y)).run P w=.ok () (w.setCell ⟨b,off,none⟩ (a.eval y)):=by
   rw[run_store P w _ _ _ nH,hc];simp [mX h3]
  simp [execOp,Instr.storeAt,Instr.sureAddr,storeVar,hv,lK nH,sizeOf,typeInfo,jh,ln,storeCells,addr_add,jc]
 obtain⟨r',G⟩:=r.modify (o':=.box ((vals.toList.map fun u=> .pv (.lit u)).set off v)) hb rfl rfl hκ Es (iw.setCell w ⟨b,off,none⟩ (a.eval y)) (by simp [World.setCell]) (fun C Pl G=>⟨b,_,T,by rw[Pl];exact hκ,kp h3 _,by simp,fun j u av h6 h7=>by
  rw[Array.getElem?_setIfInBounds] at h6
  rw[List.getElem?_set] at h7
  by_cases ej:off=j
  ·rw[if_pos ej] at h6 h7
   rw[if_pos aJ] at h6
   rw[if_pos (by simp;omega)] at h7
   cases h6;cases h7
   exact⟨G.ra uM,nH⟩
  ·rw[if_neg ej] at h6 h7
   simp only[a7,bg] at h7
   obtain⟨z,h8,rfl⟩:=h7
   rw[bB] at h8
   rw[h6] at h8
   cases h8
   exact⟨.pv (.lit _),(List.all_eq_true.1 iT) _ (aU (by rw[bB];exact h6))⟩⟩)
 exact .inl ⟨_,_,_,_,fw,.inr ⟨rfl,rfl⟩,r'.eY (fv hd) (.any _)⟩
theorem a_.tQ {x y:Operand} {t T:TypeId} {i off:Nat} {vals:Array Value} {v:AV} {cs:List AV} (hx:δ.ev x=.ptr i off) (hy:δ.ev y=v) (hb:δ.ob i=some (.lit T vals)) (n6:Bl vals.toList cs) (fx:aY off vals.size=true) (iT:vals.toList.all (·.oneCell')=true) (ht:(P.info? t).map (·.size)=some 1) (h1:v.one=true) (ho:fq x=true) (f_:fq y=true) (hd:fR δ.n dst=true) (je:g.wt=none)
  (hK:a_ .plain P g ops rest Q ((δ.gm i (some (.box (cs.set off v)))).eY dst .any)):a_ .plain P g ops (⟨dst,.store t x y,ty,pos,af,none⟩::rest) Q δ:=a_.qA rfl rfl (iQ.tQ hx hy hb fx iT ht h1 ho f_ hd (j4 je i)) (by rw[n6.eq];exact hK)
end Go.Ab
/- strings.Builder's String over objects. -/
set_option maxHeartbeats 1000000
set_option maxRecDepth 100000
namespace Go.Ab
open Go Go.RowKit Go.Proofs Go.Shelf
variable {P:Program} {ρ:Ren}
theorem AK (w:World) (p:Addr) (n k:Nat) (h:p.block≠k):(w.freeze p n).heap[k]? =w.heap[k]?:=by
 unfold World.freeze
 split
 ·rfl
 ·simp only[Array.getElem?_modify]
  rw[if_neg h]
theorem qn (w:World) (p:Addr) (n:Nat):(w.freeze p n).heap.size=w.heap.size:=by
 unfold World.freeze
 split
 ·rfl
 ·simp
theorem Ho (L:Lays.n169 P ρ) (X:Builder.Extra P ρ) {T:TypeId} {B b:Nat} {p v:Value} (l:List UInt8) (w:World) (H_:w.heap[b]? =some (.cells #[p,v] T (0,0))) (gD:w.ownsRow B (ρ.t 5) 1 v l.length (Lib.byteCells l)) (h0:l≠ []):
  Calls P (ρ.f 169) #[.pointer (some ⟨b,0,none⟩)] w fun e w'=>e=.returned (.string ⟨l.toArray⟩)∧∃g,v.ownBlock=some g∧w'=w.drew.freeze ⟨g,0,none⟩ l.length:=by
 have s9:l.length≠0:=by simpa using h0
 obtain⟨g,cap,cur,rfl,hbg,hg,yh,FC,n6,Zl⟩:∃g cap cur,v=.slice (some ⟨g,0,none⟩) l.length cap∧B≤g∧w.heap[g]? =some (.cells cur (ρ.t 5) (0,0))∧l.length≤cap∧cap≤maxLen∧cur.size=cap*1∧cur.toList.take (l.length*1)=Lib.byteCells l:=by
  rcases gD.2 with ⟨_,hz⟩|⟨g,cap,cur,hv,r⟩
  ·exact absurd hz s9
  ·exact⟨g,cap,cur,hv,r⟩
 have c1:w.drew.cell? ⟨b,1,none⟩=some (.slice (some ⟨g,0,none⟩) l.length cap):=by
  have:w.drew.heap[b]? =some (.cells #[p,.slice (some ⟨g,0,none⟩) l.length cap] T (0,0)):=H_
  rw[Lib.cell_of_heap this];rfl
 have hSD:(Builtin.unsafeSliceData_ #[(ρ.t 37)] (ρ.t 127) #[.slice (some ⟨g,0,none⟩) l.length cap]).run P w.drew=.ok (.pointer (some ⟨g,0,none⟩)) w.drew:=
  Lib.run_unsafeSliceData_row _ _ _ _ _ _ (by omega)
 have hUS:(Builtin.unsafeString_ #[(ρ.t 127),(ρ.t 3)] (ρ.t 9) #[.pointer (some ⟨g,0,none⟩),.int .i64 l.length]).run P w.drew=.ok (.string ⟨l.toArray⟩) (w.drew.freeze ⟨g,0,none⟩ l.length):=by
  refine Lib.run_unsafeString_row w.drew (ρ.t 127) (ρ.t 3) (ρ.t 9) (ρ.t 5) L.t127 X.cellsByte g cur.size (by have hg':w.drew.heap[g]? =some (.cells cur (ρ.t 5) (0,0)):=hg;simp [World.shape?,hg']) l h0 aJ (by unfold maxLen at FC;omega) ?_
  intro j x hx
  exact gD.cells (g:=g) rfl j (.int .u8 x.toNat) (by simp [Lib.byteCells,hx])
 have mixed:=L.mixed
 have t72:=L.t72;have a72:=L.a72;have z72:=L.z72;have v72:=L.v72;have u72:=run_underlying L.t72
 have t70:=L.t70;have a70:=L.a70;have z70:=L.z70;have v70:=L.v70;have u70:=run_underlying L.t70
 have t37:=L.t37;have a37:=L.a37;have z37:=L.z37;have v37:=L.v37;have u37:=run_underlying L.t37
 have t127:=L.t127;have a127:=L.a127;have z127:=L.z127;have v127:=L.v127;have u127:=run_underlying L.t127
 have t3:=L.t3;have a3:=L.a3;have z3:=L.z3;have v3:=L.v3;have u3:=run_underlying L.t3
 have t9:=L.t9;have a9:=L.a9;have z9:=L.z9;have v9:=L.v9;have u9:=run_underlying L.t9
 have t5:=X.t5;have a5:=X.a5;have z5:=X.z5;have v5:=X.v5;have u5:=run_underlying X.t5
 go_enter L.f169,Body.n169_ntmps ρ
 go_wp2
 go_region_o
 all_goals (go_wp2;go_ret;exact⟨rfl,g,rfl,rfl⟩)
theorem sE {C:Cx} {w:World} {v:Value} {i:Nat} {e:TypeId} {l:List UInt8} (h:jv C w v i e 1 (il l)):w.ownsRow C.B e 1 v l.length (Lib.byteCells l):=by
 obtain⟨xs,h1,h2,h3⟩:=h.row
 rw[nv] at h1
 have:xs=Lib.byteCells l:=by
  have hl:xs.length=l.length:=by simpa using h1.1
  apply bX
  intro j
  unfold Lib.byteCells
  rw[a7]
  cases hb:l[j]? with
  |none=>rw[cD];rfl;rw[List.getElem?_eq_none_iff] at hb;omega
  |some b=>
   obtain⟨u,h4,h5⟩:=h3 j 0 (.lit (.int .u8 b.toNat)) (by unfold cellAt il;rw[a7,hb];rfl)
   simp only[cH,bd] at h4
   rw[h4]
   cases h5
   rfl
 rw[← this]
 exact h1
theorem Dz (L:Lays.n169 P ρ) (X:Builder.Extra P ρ) (i j n0:Nat) (r9:i≠j) (hi:i<n0) (hj:j<n0) (l:List UInt8) (h0:l≠ []) (OL:∀vals w,(callFunc (ρ.f 169) vals).run P w=.ok (.enter (ρ.f 169) vals) w):
  mg P (ρ.f 169) n0 [(i,some (.box [.ptr i 0,.own j (ρ.t 5) 1 (il l)])),(j,some .row)] [.ptr i 0] [(i,some (.box [.any,.any])),(j,some .row)] (iO ⟨l.toArray⟩):=by
 refine⟨OL,fun g κ w vals yf je _ r hs fX=>?_⟩
 have hs:vals.size=1:=hs
 obtain⟨v0,rfl⟩:∃v0,vals= #[v0]:=by
  rcases vals with ⟨_|⟨v0,_|_⟩⟩<;>simp at hs
  exact⟨v0,rfl⟩
 have Rr:(XS [(i,some (.box [.ptr i 0,.own j (ρ.t 5) 1 (il l)])),(j,some .row)] n0).ob i=some (.box [.ptr i 0,.own j (ρ.t 5) 1 (il l)]):=by
  show fg _ _=_
  rw[fl,if_pos rfl]
 have MD:(XS [(i,some (.box [.ptr i 0,.own j (ρ.t 5) 1 (il l)])),(j,some .row)] n0).ob j=some .row:=by
  show fg _ _=_
  rw[fl,if_neg r9,fl,if_pos rfl]
 obtain⟨b,c,e,rfl,hκ,h3,h4,h5⟩:=r.box (fX 0 v0 _ rfl rfl) Rr
 have h4:c.size=2:=h4
 obtain⟨p,v,rfl⟩:∃p v,c= #[p,v]:=by
  rcases c with ⟨_|⟨p,_|⟨v,_|_⟩⟩⟩<;>simp at h4
  exact⟨p,v,rfl⟩
 have hv:=(h5 1 v _ rfl rfl).1.iH
 have h51:=(h5 0 p _ rfl rfl).2
 have h52:=(h5 1 v _ rfl rfl).2
 refine(Ho L X l w h3 (sE hv) h0).mono ?_
 rintro en w' ⟨rfl,gb,O6,rfl⟩
 have Mz:κ j=some gb:=hv.vm gb O6
 have nZ:(XS [(i,some (.box [.ptr i 0,.own j (ρ.t 5) 1 (il l)])),(j,some .row)] n0).live j:=⟨_,MD⟩
 have yz:(XS [(i,some (.box [.ptr i 0,.own j (ρ.t 5) 1 (il l)])),(j,some .row)] n0).live i:=⟨_,Rr⟩
 have fZ:gb≠b:=fun e=>r9 (r.inj i j b yz nZ hκ (e▸Mz))
 have hgB:=r.lo j gb nZ Mz
 have lH:∀k,gb≠k→(w.drew.freeze ⟨gb,0,none⟩ l.length).heap[k]? =w.heap[k]?:=fun k hk=>AK _ _ _ _ hk
 have gC:∃cur,w.heap[gb]? =some (.cells cur (ρ.t 5) (0,0)):=by
  rcases(sE hv).2 with ⟨rfl,_⟩|⟨g',cap,cur,rfl,_,hg,_⟩
  ·simp [Value.ownBlock] at O6
  ·simp only[Value.ownBlock,Option.some.injEq] at O6
   subst O6
   exact⟨cur,hg⟩
 obtain⟨cur,XG⟩:=gC
 let eZ:List (Nat×Option Ob):=[(i,some (.box [.any,.any])),(j,some .row)]
 have Sg:∀k o,(XS eZ n0).ob k=some o→(k=i∧o=.box [.any,.any])∨(k=j∧o=.row):=by
  intro k o h
  have h:fg eZ k=some o:=h
  rw[fl] at h
  by_cases e1:i=k
  ·rw[if_pos e1] at h;cases h;exact .inl ⟨e1.symm,rfl⟩
  ·rw[if_neg e1,fl] at h
   by_cases e2:j=k
   ·rw[if_pos e2] at h;cases h;exact .inr ⟨e2.symm,rfl⟩
   ·rw[if_neg e2] at h;cases h
 have xp:∀k,gT κ j none k=if j=k then none else κ k:=fun k=>rfl
 have rH:∀k bb,(XS eZ n0).live k→gT κ j none k=some bb→k=i∧κ i=some bb:=by
  rintro k bb ⟨o,h⟩ e
  rw[xp] at e
  rcases Sg k o h with ⟨rfl,_⟩|⟨rfl,_⟩
  ·rw[if_neg (Ne.symm r9)] at e;exact⟨rfl,e⟩
  ·rw[if_pos rfl] at e;cases e
 refine⟨(),gT κ j none,⟨_,rfl,.pv (.lit _)⟩,?_,fun k bb hp hk=>?_⟩
 ·exact
   {n:=rfl
    dfr:=by
     obtain⟨rs,e1,e2,e3⟩:=r.dfr
     refine⟨rs,e1,e2,fun k hk=>⟨(e3 k hk).1,?_⟩⟩
     rw[lH k (by rintro rfl;have:=(e3 _ hk).2;rw[XG] at this;cases this)]
     exact(e3 k hk).2
    env:=fun k=> .any _
    obj:=fun k o h=>by
     rcases Sg k o h with ⟨rfl,rfl⟩|⟨rfl,rfl⟩
     ·refine⟨b, #[p,v],e,by show gT κ j none k=_;rw[xp,if_neg (Ne.symm r9)];exact hκ,(lH b fZ).trans h3,rfl,fun m u av h6 h7=>?_⟩
      match m,h6,h7 with
      |0,h6,h7=>simp at h6 h7;subst h6;subst h7;exact⟨.any _,h51⟩
      |1,h6,h7=>simp at h6 h7;subst h6;subst h7;exact⟨.any _,h52⟩
      |m+2,h6,h7=>simp at h7
     ·intro bb vA
      have vA:gT κ k none k=some bb:=vA
      rw[xp,if_pos rfl] at vA
      cases vA
    inj:=fun k k' bb h1 h2 h3 h4=>by rw[(rH k bb h1 h3).1,(rH k' bb h2 h4).1]
    lo:=fun k bb h1 h2=>by
     obtain⟨rfl,h6⟩:=rH k bb h1 h2
     have:=r.lo k bb yz h6
     exact⟨this.1,by rw[qn];exact this.2⟩
    nx:=fun k ⟨o,h⟩=>by rcases Sg k o h with ⟨rfl,_⟩|⟨rfl,_⟩<;>assumption
    wt:=fun k hk=>by rw[je] at hk;cases hk
    below:=Lib.below_freeze (Below.drew r.below) (p:=⟨gb,0,none⟩) hgB.1 _
    hB:=by rw[qn];exact r.hB
    N0:=r.N0
    fr:=by
     refine⟨fun bb vA=>?_,fun x bb vA=>?_⟩
     ·obtain⟨h1,h2,h3⟩:=r.fr.1 bb vA
      refine⟨h1,(lH bb fun e=>h3 j nZ (e▸Mz)).trans h2,fun k hk e=>?_⟩
      obtain⟨rfl,h6⟩:=rH k bb hk e
      exact h3 k yz h6
     ·obtain⟨h1,h2,h3,h4,h5⟩:=r.fr.2 x bb vA
      refine⟨h1,by rw[qn];exact h2,h3,fun k hk e=>?_,h5⟩
      obtain⟨rfl,h6⟩:=rH k bb hk e
      exact h4 k yz h6
    km:=fun d hd=>by cases hd}
 ·have:k=i:=by
   rcases hp with hp|hp
   ·simp only[gL,bu,AV.ptr.injEq,List.not_mem_nil,or_false] at hp
    exact hp.1
   ·simp [gL] at hp
  subst this
  rw[xp,if_neg (Ne.symm r9)]
  exact hk
end Go.Ab
/- A function that defers a closure over two of its variables,which recovers. -/
namespace Go.Ab
open Go Go.RowKit
variable {P:Program} {g:e6} {δ:DS} {κ:Kp} {a:Act} {w:World} {Q:Exit→DS→Prop}
def Ze (P:Program) (g:e6) (c:Code) (R:Exit→Act→World→Prop) (δ:DS):Prop:=∀κ a w,Rel g δ κ a w→c.wpIn (Fw g.ro) 0 P R a w
theorem Ze.of {c:Code} {R:Exit→Act→World→Prop} (h:AW P g c Q δ) (hR:∀e a w,lift g Q e a w→R e a w):Ze P g c R δ:=fun κ a w r=>wpIn_mono (h κ a w r) hR
def Vz (P:Program) (g:e6) (c:Code) (R:Exit→Act→World→Prop) (δ:DS):Prop:=∀κ a w,a.defers=[]→Rel g δ κ a w→c.wpIn (Fw g.ro) 0 P R a w
def Rt (P:Program) (g:e6) (ops:Array Oper) (l:List Oper) (c:Code) (R:Exit→Act→World→Prop) (δ:DS):Prop:=∀κ a w,a.defers=[]→Rel g δ κ a w→wpListIn (Fw g.ro) 0 P ops (Exit.then (c.wpIn (Fw g.ro) 0 P R) R) l a w
theorem Vz.region {id:Nat} {l:List Oper} {c:Code} {R:Exit→Act→World→Prop} (h:Rt P g l.toArray l c R δ):Vz P g (.seq (.region id l.toArray false) c) R δ:=
 fun κ a w ha r=>wpIn_seq (wpIn_region_lit (h κ a w ha r))
theorem Rt.nil {ops:Array Oper} {c:Code} {R:Exit→Act→World→Prop} (h:Vz P g c R δ):Rt P g ops [] c R δ:=fun κ a w ha r=>by
 unfold wpListIn
 exact h κ a w ha r
theorem Rt.qA {ops:Array Oper} {o:Oper} {rest:List Oper} {c:Code} {R:Exit→Act→World→Prop} {δ':DS} (hg:o.guard=none) (jy:jP o=true) (h:iQ P g o δ δ') (hc:∀(a:Act) (w:World) f vals,(execOp a.eval o).run P w≠ .ok (.enter f vals) w) (hK:Rt P g ops rest c R δ'):Rt P g ops (o::rest) c R δ:=by
 intro κ a w ha r
 refine gV hg jy fun K oS=>?_
 unfold Oper.Ac
 rcases h κ a w r with ⟨x,v,w',κ',fw,hx,r'⟩|⟨f,vals,fw,_⟩
 ·rw[fw]
  rcases hx with rfl|⟨rfl,rfl⟩
  ·simp only[Oper.uponIn]
   exact oS _ _ (hK κ' _ _ (by cases o.dst<;>exact ha) r')
  ·simp only[Oper.uponIn]
   exact oS _ _ (hK κ' _ _ (by cases o.dst<;>exact ha) r')
 ·exact absurd fw (hc _ _ _ _)
theorem DJ (je:g.wt=none) {fn:Func} {u:FrameMode} (hu:u≠ .run) {R:Ending→World→Prop}:∀{a:Act} {w:World},Rel g δ κ a w→
  (∀w2,Rel g δ κ {a with defers:=g.base} w2→LeavesInM Fence.wide 0 P fn a.tmps R g.base u w2)→LeavesInM Fence.wide 0 P fn a.tmps R a.defers u w:=by
 intro a w r hR
 obtain⟨ms,h1,h2,h3⟩:=r.dfr
 rw[h1]
 induction ms generalizing a w with
 |nil=>
  have ra:Rel g δ κ {a with defers:=g.base} w:={r with dfr:=⟨[],rfl,h2,h3⟩,km:=fun d hd=>r.km d (by rw[h1];exact hd)}
  exact hR w ra
 |cons m ms ih=>
  refine⟨hu,.inl ⟨m,_,rfl,run_takeDeferred (h3 m (by simp)).2,?_⟩⟩
  have hm:=h3 m (by simp)
  rw[bt] at h2
  have jy:=cX.1 h2
  have uO:∀k∈ms++g.mks,g.B≤k∧(w.putObj m (.deferred none)).heap[k]? =some (.deferred (some [])):=fun k hk=>
   ⟨(h3 k (by simp only[bt,bu];exact .inr hk)).1,by rw[World.putObj_heap_other (by intro e;subst e;exact jy.1 hk)];exact(h3 k (by simp only[bt,bu];exact .inr hk)).2⟩
  have hd:GO g {a with defers:=(ms.map fun r=>({target:=.collected r,args:= #[]}:Deferred))++g.base} (w.putObj m (.deferred none)):=⟨ms,rfl,jy.2,uO⟩
  have r2:=r.shut je hm.1 hm.2 (a':={a with defers:=(ms.map fun r=>({target:=.collected r,args:= #[]}:Deferred))++g.base}) rfl (fun d hd=>by rw[h1,bA,bt];exact List.mem_cons_of_mem _ hd) (r.km {target:=.collected m,args:= #[]} (by rw[h1];simp) m rfl) hd
  exact ih (a:={a with defers:=(ms.map fun r=>({target:=.collected r,args:= #[]}:Deferred))++g.base}) r2 (fun w2 r3=>hR w2 r3) rfl jy.2 uO
end Go.Ab
/- Functions of four results whose outcome is told by a relation. -/
namespace Go.Ab
open Go Go.RowKit
variable {P:Program} {g:e6} {δ:DS} {κ:Kp} {a:Act} {w:World}
inductive BO (P:Program) (δ:DS):List ResultVar→AV→Prop
 |four {r1 r2 r3 r4:ResultVar} {v1 v2 v3 v4:AV} (h1:oh P δ r1 v1) (h2:oh P δ r2 v2) (h3:oh P δ r3 v3) (h4:oh P δ r4 v4):BO P δ [r1,r2,r3,r4] (.gM [v1,v2,v3,v4])
theorem N3 {C:Cx} {w:World} {u1 u2 u3 u4:Value} {v1 v2 v3 v4:AV} (h1:RA C w u1 v1) (h2:RA C w u2 v2) (h3:RA C w u3 v3) (h4:RA C w u4 v4):RA C w (.tuple #[u1,u2,u3,u4]) (.gM [v1,v2,v3,v4]):=by
 refine .gM rfl fun j u c k1 k2=>?_
 match j with
 |0=>simp at k1 k2;subst k1;subst k2;exact h1
 |1=>simp at k1 k2;subst k1;subst k2;exact h2
 |2=>simp at k1 k2;subst k1;subst k2;exact h3
 |3=>simp at k1 k2;subst k1;subst k2;exact h4
 |j+4=>simp at k2
theorem BO.run {fn:Func} {rs:List ResultVar} (s6:fn.results=rs.toArray) {v:AV} (h:BO P δ rs v) (r:Rel g δ κ a w):∃u,(results fn a.tmps).run P w=.ok u w∧RA (δ.cx g κ) w u v:=by
 rw[vR (P:=P),s6]
 cases h with
 |four h1 h2 h3 h4=>
  obtain⟨u1,h1,k1⟩:=h1.run r
  obtain⟨u2,h2,k2⟩:=h2.run r
  obtain⟨u3,h3,k3⟩:=h3.run r
  obtain⟨u4,h4,k4⟩:=h4.run r
  exact⟨.tuple #[u1,u2,u3,u4],by simp [Array.mapM_eq_foldlM,h1,h2,h3,h4],N3 k1 k2 k3 k4⟩
theorem Ma (je:g.wt=none) (xt:g.base=[]) {fn:Func} {rs:List ResultVar} (s6:fn.results=rs.toArray) {v:AV} (h:BO P δ rs v) {R:Ending→World→Prop} {a:Act} {w:World} (r:Rel g δ κ a w)
  (hR:∀w2,Rel g δ κ {a with defers:=[]} w2→∀u,RA (δ.cx g κ) w2 u v→R (.returned u) w2):LeavesInM Fence.wide 0 P fn a.tmps R a.defers .returning w:=by
 refine DJ je (by simp) r fun w2 r2=>?_
 rw[xt]
 rw[xt] at r2
 obtain⟨u,h4,h5⟩:=h.run s6 r2
 exact⟨u,h4,hR w2 r2 u h5⟩
def zi {α:Type} (P:Program) (rs:List ResultVar) (d_:List (Nat×Option Ob)) (p:α→Prop) (eZ:α→List (Nat×Option Ob)) (r:α→AV):Exit→DS→Prop
 |.normal,δ|.ret,δ=>∃x,p x∧∃v,BO P δ rs v∧WV δ (XF δ d_ (eZ x)) v (r x)∧WV δ (XF δ d_ (eZ x)) (δ.get 1000) (.agg (gL d_))∧oC δ (XF δ d_ (eZ x)) (eZ x)∧s5 δ.nx (eZ x)=true
 |_,_=>False
theorem Eh {α:Type} {rs:List ResultVar} {d_:List (Nat×Option Ob)} {p:α→Prop} {eZ:α→List (Nat×Option Ob)} {r:α→AV} {v:AV} (x:α) (hp:p x) (h:BO P δ rs v) (hw:C_ δ (XF δ d_ (eZ x)) [v,δ.get 1000] [r x,.agg (gL d_)]) (ho:oC δ (XF δ d_ (eZ x)) (eZ x)) (hx:s5 δ.nx (eZ x)=true):zi P rs d_ p eZ r .ret δ:=⟨x,hp,v,h,hw.1,hw.2.1,ho,hx⟩
theorem uo.Qf {α:Type} {f:FuncId} {fn:Func} {c:Code} {rs:List ResultVar} {n n0:Nat} {d_:List (Nat×Option Ob)} {args:List AV} {p:α→Prop} {eZ:α→List (Nat×Option Ob)} {r:α→AV} (hf:P.funcs[f]? =some fn) (hb:fn.body=some c) (s6:fn.results=rs.toArray) (hn:fn.ntmps=n) (Cy:bx args.length n=true)
  (p6:bx n HS=true) (he:(fn.name== "runtime.NumGoroutine")=false) (tx:sJ d_ d_=true) (vk:∀x,s5 n0 (eZ x)=true)
  (h:∀g:e6,g.ro=none→g.wt=none→AW P g c (zi P rs d_ p eZ r) ⟨n,enum 0 args++ [(1000,.agg (gL d_))],d_,n0⟩):uo P f n0 d_ args p eZ r:=by
 refine sq.enter (Q:=zi P rs d_ p eZ r) hf hb hn Cy p6 he tx vk (fun g h1 h2 _=>h g h1 h2) fun g e δ' κ' a' w' R je xt hq r' hR=>?_
 have fin:(∃x,p x∧∃v,BO P δ' rs v∧WV δ' (XF δ' d_ (eZ x)) v (r x)∧WV δ' (XF δ' d_ (eZ x)) (δ'.get 1000) (.agg (gL d_))∧oC δ' (XF δ' d_ (eZ x)) (eZ x)∧s5 δ'.nx (eZ x)=true)→
   LeavesInM Fence.wide 0 P fn a'.tmps R a'.defers .returning w':=fun⟨x,VY,v,h1,hv,hp,ho,hx⟩=>
  Ma (g:=g) je xt s6 h1 r' fun w2 r2 u hu=>hR x hp ho hx _ _ r2 ⟨VY,u,rfl,hu.wv (δ:=δ') (δ':=XF δ' d_ (eZ x)) r2.lB r2.obj hv⟩
 cases e with
 |normal=>exact fin hq
 |ret=>exact fin hq
 |_=>exact hq.elim
end Go.Ab
/- Equality of structs of three whole numbers. -/
namespace Go.Ab
open Go Go.RowKit
variable {q:Md} {P:Program} {g:e6} {δ:DS} {κ:Kp} {a:Act} {w:World}
variable {ops:Array Oper} {rest:List Oper} {Q:Exit→DS→Prop} {dst:Option Nat} {ty:TypeId} {pos:String} {af:Array Edge}
end Go.Ab
/- The builtin copy into a row of the walk's own,of one-cell elements. -/
namespace Go.Ab
open Go Go.RowKit
variable {P:Program} {g:e6} {δ:DS} {κ:Kp} {a:Act} {w:World}
variable {ops:Array Oper} {rest:List Oper} {Q:Exit→DS→Prop} {dst:Option Nat} {ty:TypeId} {pos:String} {af:Array Edge} {gd:Option (Tmp×Bool)}
def copied {α:Type} (src fc:List α):List α:=src.take (min src.length fc.length)++fc.drop (min src.length fc.length)
theorem oM {α:Type} (src fc:List α):(copied src fc).length=fc.length:=by unfold copied;simp;omega
theorem Df {α:Type} {src fc:List α} {i:Nat} (h:i<fc.length):(copied src fc)[i]? =if i<src.length then src[i]? else fc[i]?:=by
 unfold copied
 by_cases hi:i<src.length
 ·rw[if_pos hi,aT (by simp;omega),bD,if_pos aJ]
 ·rw[if_neg hi,aV (by simp;omega),bE]
  congr 1
  simp;omega
theorem iQ.copy {dT sT elem:TypeId} (ts:List Nat) {x y:Operand} {i:Nat} {e:TypeId} {fc src:List (List PV)} (hx:δ.ev x=.own i e 1 fc) (hy:δ.ev y=.pv (.slice 1 src)) (tq:yn δ (.own i e 1 fc) ts) (hr:δ.ob i=some .row)
  (hu:P.underlying dT=some (.slice elem)) (ny:(P.info? elem).map (·.size)=some 1) (ho:fq x=true) (f_:fq y=true) (hd:fR δ.n dst=true):
  iQ P g ⟨dst,.call {callee:=.builtin .copy,args:= #[x,y],argTypes:= #[dT,sT]},ty,pos,af,none⟩ δ ((jQ (δ.gF (AV.kill i)) (.own i e 1 (copied src fc)) ts).eY dst (e7 (min src.length fc.length:Nat))):=by
 intro κ a w r
 left
 have xJ:=(r.ra hx ho).iH
 have uM:=(r.ra hy f_).lP
 have rU:fR (jQ (δ.gF (AV.kill i)) (.own i e 1 (copied src fc)) ts).n dst=true:=by rw[CW];exact hd
 have lH:∀t∈ts,jv (δ.cx g κ) w (g.val a t) i e 1 fc:=fun t ht=>by
  have:=r.env t
  rw[qD tq t ht] at this
  exact this.iH
 have nq:((δ.gF (AV.kill i)).cx g κ).Lr i:=by
  show(δ.gF (AV.kill i)).ob i=some .row
  rw[kb,hr];rfl
 obtain⟨n,hn⟩:∃n,n=min src.length fc.length:=⟨_,rfl⟩
 generalize Y3:a.eval y=yv at uM
 cases uM with
 | @slice sa len scap _ _ sb soff vs hl n_ hb ha hk hc OR=>
  subst hl
  have SU:n=0→(∃v w',(execOp a.eval ⟨dst,.call {callee:=.builtin .copy,args:= #[x,y],argTypes:= #[dT,sT]},ty,pos,af,none⟩).run P w=.ok (.value v) w'∧Rel g ((jQ (δ.gF (AV.kill i)) (.own i e 1 (copied src fc)) ts).eY dst (e7 (n:Nat))) κ (a.put dst v) w'):=by
   intro h0
   obtain⟨xs0,ZG⟩:=xJ.row
   obtain⟨sa',sc',Lq⟩:=xJ.inv
   have fw:=run_copy_none (P:=P) w dT sT ty elem sa' sa fc.length sc' src.length scap hu ny (show Nat.min src.length fc.length=0 by show min src.length fc.length=0;omega)
   refine⟨goInt 0,w,?_,?_⟩
   ·simp [execOp,resolve,invoke,builtin,Lq,Y3,fw,Result.andThen]
   ·obtain⟨rk,G⟩:=r.row hr (κ':=κ) (w':=w) (fun _ _=>rfl) ⟨rfl,rfl,rfl,aP _,fun _ _ _=>rfl⟩ (fun b iU=>by
     obtain⟨c,e',h1⟩:=r.obj i .row hr b iU
     exact⟨.inl iU,(aO.1 h1).1,c,e',h1⟩) (AV.kill i) rfl (fun G v av h=>h.kill G)
    have Wv:copied src fc=fc:=by unfold copied;rw[← hn,h0];simp
    have ra:Rel g (jQ (δ.gF (AV.kill i)) (.own i e 1 (copied src fc)) ts) κ a w:=rk.pV ts fun t ht=>by
     have h1:=lH t ht
     rw[Wv]
     obtain⟨xs,h3,h4,h5⟩:=h1.row
     exact .own ⟨nq,h1.lim,h1.hk,h1.vm,xs,h3,h4,fun i' j p hp=>let ⟨u,h6,h7⟩:=h5 i' j p hp;⟨u,h6,G.rp (C:=(δ.cx g κ).less i) h7⟩⟩
    rw[h0]
    exact ra.eY (fv rU) (by rw[mW];exact .pv (.lit _))
  rw[← hn]
  by_cases h0:n=0
  ·obtain⟨v,w',h1,h2⟩:=SU h0
   exact⟨_,v,w',κ,h1,.inl rfl,h2⟩
  ·obtain⟨xs,⟨uP,gD⟩,nH,mw⟩:=xJ.row
   rw[cH] at uP
   rcases gD with ⟨_,hz⟩|⟨b,cap,c,hv,hB,H_,hcp,nC,n6,qu⟩
   ·omega
   ·have hκ:κ i=some b:=xJ.vm b (by rw[hv];rfl)
    rw[cH] at n6 qu
    obtain⟨hsa,hNb,hsb⟩:=ha (by rintro rfl;simp at hn;omega)
    subst hsa
    obtain⟨cs,TH⟩:∃cs,cs=(bc n).map fun j=>vs j 0:=⟨_,rfl⟩
    have jq:cs.length=n:=by rw[TH];simp
    have Rf:∀j,j<n→cs[j]? =some (vs j 0):=fun j hj=>by rw[TH,a7,List.getElem?_range hj];rfl
    have Na:∀j,j<n→∃p,cellAt src j 0=some p:=fun j hj=>by
     have n8:j<src.length:=by omega
     have:=hk _ (cZ n8)
     have h1:0<src[j].length:=by omega
     exact⟨src[j][0],by simp [cellAt,a8 n8,a8 h1]⟩
    have fw:=run_copy_row (P:=P) w dT sT ty elem b 0 fc.length cap ⟨sb,soff,none⟩ src.length scap c e cs hu ny H_ (by rw[jq];exact hn) (fun j v hj=>by
      have M7:j<n:=by have:=(aW.1 hj).1;omega
      rw[Rf j M7] at hj
      cases hj
      obtain⟨p,hp⟩:=Na j M7
      have:=(hc j 0 p hp).1
      rw[addr_add]
      simpa using this) aJ (fun v Oa=>by
      obtain⟨j,hj⟩:=bz Oa
      have M7:j<n:=by have:=(aW.1 hj).1;omega
      rw[Rf j M7] at hj
      cases hj
      obtain⟨p,hp⟩:=Na j M7
      exact(hc j 0 p hp).2)
    obtain⟨nw,zE⟩:∃nw:List Value,nw=c.toList.take 0++cs++c.toList.drop (0+cs.length):=⟨_,rfl⟩
    have Sl:nw=cs++c.toList.drop n:=by rw[zE,jq];simp
    rw[← zE] at fw
    have hh:(w.setRow b nw.toArray).heap[b]? =some (.cells nw.toArray e (0,0)):=setRow_heap w b c nw.toArray e (0,0) H_
    have hT:iw w (w.setRow b nw.toArray) (κ i):=by
     rw[hκ]
     exact⟨rfl,rfl,rfl,by simp [World.setRow],fun k _ fZ=>setRow_other w b k _ (fun e'=>fZ (by rw[e']))⟩
    obtain⟨rk,G⟩:=r.row hr (κ':=κ) (fun _ _=>rfl) hT (fun b' iU=>by
     obtain rfl:b=b':=Option.some.inj (hκ.symm.trans iU)
     exact⟨.inl hκ,(aO.1 hh).1,_,_,hh⟩) (AV.kill i) rfl (fun G v av h=>h.kill G)
    have hxn:nw.take fc.length=cs++xs.drop n:=by
     rw[Sl,List.take_append,jq]
     congr 1
     ·exact cF (by omega)
     ·rw[← qu,List.drop_take]
    have ra:Rel g (jQ (δ.gF (AV.kill i)) (.own i e 1 (copied src fc)) ts) κ a (w.setRow b nw.toArray):=rk.pV ts fun t ht=>by
     obtain⟨h1,h2,h3,h4,xs',⟨Uh,oB⟩,_,_⟩:=lH t ht
     refine .own ⟨nq,by rw[oM];exact h2,fun d uT=>?_,h4,cs++xs.drop n,⟨?_,?_⟩,fun u SY=>?_,fun i' j p hp=>?_⟩
     ·unfold copied at uT
      rcases bW.1 uT with uT|uT
      ·exact hk d (cS uT)
      ·exact h3 d (bK uT)
     ·rw[oM,cH];simp;omega
     ·rw[oM]
      rcases oB with ⟨hn',hz⟩|⟨b',cap',c',Oa,Zz,Qe,WG,Kn,WY,V9⟩
      ·omega
      ·have xp:κ i=some b':=h4 b' (by rw[Oa];rfl)
       obtain rfl:b=b':=Option.some.inj (hκ.symm.trans xp)
       rw[H_] at Qe
       simp only[Option.some.injEq,Obj.cells.injEq] at Qe
       obtain⟨rfl,_⟩:=Qe
       have A4:nw.length=c.size:=by rw[Sl];simp;omega
       refine .inr ⟨b,cap',nw.toArray,Oa,Zz,hh,WG,Kn,by simp;omega,?_⟩
       rw[cH,List.toList_toArray];exact hxn
     ·rcases bW.1 SY with SY|SY
      ·obtain⟨j,hj⟩:=bz SY
       have M7:j<n:=by have:=(aW.1 hj).1;omega
       rw[Rf j M7] at hj
       cases hj
       obtain⟨p,hp⟩:=Na j M7
       exact(hc j 0 p hp).2
      ·exact nH u (bK SY)
     ·have uq:i'<fc.length:=by
       unfold cellAt at hp
       cases hq:(copied src fc)[i']? with
       |none=>rw[hq] at hp;simp at hp
       |some q=>have:=(aW.1 hq).1;rw[oM] at this;exact this
      have mq:cellAt (if i'<src.length then src else fc) i' j=some p:=by
       unfold cellAt at hp ⊢
       rw[Df uq] at hp
       split at hp
       ·rename_i h;rw[if_pos h];exact hp
       ·rename_i h;rw[if_neg h];exact hp
      by_cases UK:i'<src.length
      ·rw[if_pos UK] at mq
       have Qc:j=0:=by
        unfold cellAt at mq
        rw[a8 UK] at mq
        have h6:=hk _ (cZ UK)
        have:=(aW.1 mq).1
        omega
       subst Qc
       have jb:i'<n:=by omega
       refine⟨vs i' 0,?_,G.rp (C:=(δ.cx g κ).less i) (OR i' 0 p mq)⟩
       rw[cH,bd,aT aJ,Rf i' jb]
      ·rw[if_neg UK] at mq
       obtain⟨u,h6,h7⟩:=mw i' j p mq
       have Qc:j=0:=by
        unfold cellAt at mq
        rw[a8 uq] at mq
        have h8:=xJ.hk _ (cZ uq)
        have:=(aW.1 mq).1
        omega
       subst Qc
       refine⟨u,?_,G.rp (C:=(δ.cx g κ).less i) h7⟩
       rw[cH,bd] at h6 ⊢
       rw[aV aJ,bE,jq,← h6]
       congr 1;omega
    refine⟨.value (goInt n),goInt n,w.setRow b nw.toArray,κ,?_,.inl rfl,ra.eY (fv rU) (by rw[mW];exact .pv (.lit _))⟩
    rw[jq] at fw
    simp [execOp,resolve,invoke,builtin,hv,Y3,fw,Result.andThen]
theorem a_.copy {dT sT elem:TypeId} (ts:List Nat) {x y:Operand} {i:Nat} {e:TypeId} {fc src:List (List PV)} (hx:δ.ev x=.own i e 1 fc) (hy:δ.ev y=.pv (.slice 1 src)) (tq:yn δ (.own i e 1 fc) ts) (hr:δ.ob i=some .row)
  (hu:P.underlying dT=some (.slice elem)) (ny:(P.info? elem).map (·.size)=some 1) (ho:fq x=true) (f_:fq y=true) (hd:fR δ.n dst=true)
  (hK:a_ .plain P g ops rest Q ((jQ (δ.gF (AV.kill i)) (.own i e 1 (copied src fc)) ts).eY dst (e7 (min src.length fc.length:Nat)))):
  a_ .plain P g ops (⟨dst,.call {callee:=.builtin .copy,args:= #[x,y],argTypes:= #[dT,sT]},ty,pos,af,none⟩::rest) Q δ:=a_.qA rfl rfl (iQ.copy ts hx hy tq hr hu ny ho f_ hd) hK
end Go.Ab
/- Sets of strings:maps from strings to true. -/
namespace Go.Ab
open Go Go.RowKit
variable {q:Md} {P:Program} {g:e6} {δ:DS} {κ:Kp} {a:Act} {w:World}
variable {gd:Option (Tmp×Bool)} {ops:Array Oper} {rest:List Oper} {Q:Exit→DS→Prop} {dst:Option Nat} {ty:TypeId} {pos:String} {af:Array Edge}
def Zf (l:List ByteArray):List (Value×AV):=l.map fun s=>(.string s,fu true)
theorem WO.strs {δ δ':DS} {i:Nat} {l:List ByteArray} (h:δ.ob i=some (.mp (Zf l))):WO δ δ' i (.mp (Zf l)):=.mp h fun p hp=>by
 obtain⟨x,_,rfl⟩:=bw.1 hp
 rfl
end Go.Ab
/- An interface value held against nil for equality. -/
namespace Go.Ab
open Go Go.RowKit
variable {q:Md} {P:Program} {g:e6} {δ:DS}
variable {ops:Array Oper} {rest:List Oper} {Q:Exit→DS→Prop} {dst:Option Nat} {ty:TypeId} {pos:String} {af:Array Edge}
theorem G_ {t:TypeId} {ms:Array (String×TypeId)} (ht:P.underlying t=some (.interface ms)) (w:World):(Go.binOp .eql t .nilIface .nilIface).run P w=.ok (.bool true) w:=by
 have h:∀d:Nat,(Op.equalIn (d+1) t .nilIface .nilIface).run P w=.ok true w:=fun d=>by simp [Op.equalIn,run_underlying ht]
 simp only[Go.binOp]
 simp [Op.equal,Op.maxDepth,h 9999]
theorem a_.RS {x:Operand} {c:Value} {t t':TypeId} {ms:Array (String×TypeId)} (hx:δ.ev x=.pv (.lit .nilIface)) (hc:c=.nilIface) (ht:P.underlying t=some (.interface ms)) (ho:fq x=true) (hd:fR δ.n dst=true)
  (hK:a_ q P g ops rest Q (δ.eY dst (fu true))):a_ q P g ops (⟨dst,.binOp .eql t x (.const c) t',ty,pos,af,none⟩::rest) Q δ:=
 a_.bin hx (by subst hc;rfl) ho rfl (fun w=>by
  rw[Sem.run_bind,eqGuard_nil_constR]
  exact G_ ht w) hd hK
end Go.Ab
