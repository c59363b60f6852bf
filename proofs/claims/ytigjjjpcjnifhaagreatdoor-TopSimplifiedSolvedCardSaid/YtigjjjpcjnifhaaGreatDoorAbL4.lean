/- Pools: slices of a row, append, rows taken in, a new pool. -/
import Derived.Test.YtigjjjpcjnifhaaGreatDoorAbL3
import Derived.Test.YtigjjjpcjnifhaaGreatDoorAbL2
import Derived.LoopNIn
import Derived.WalkSmall
import Derived.Shelf.Strings.Builder1
import Derived.RecoverIn
import Derived.Laws.CopyRow
import Derived.Laws.IdiomCopy
set_option linter.unusedSimpArgs false
set_option linter.unusedVariables false
open Option renaming map_none→cQ,map_some→br
open Nat renaming mul_one→cI,le_refl→aP,add_zero→bd,ble→bz,beq→aL
open List renaming eq_nil_of_length_eq_zero→bj,length_map→a6,getElem?_of_mem→bA,length_drop→cR,mem_of_mem_drop→bL,getElem?_drop→bF,getElem?_eq_some_iff→aW,getElem?_take→bE,append_nil→bt,length_append→bW,mem_append→bX,map_toArray→bp,map_cons→bB,map_nil→b8,take_append_of_le_length→cS,take_of_length_le→cG,mem_of_mem_take→cT,getElem?_map→a7,mem_of_getElem?→aU,getElem?_eq_getElem→a8,getElem?_eq_none→cE,map_map→cU,map_append→cV,map_take→cW,map_drop→cX,range→bc,mem_map→bx,cons_append→bu,nodup_cons→cY,mem_cons→bw,getElem?_append_left→aT,getElem?_append_right→aV,getElem_mem→cZ
open Array renaming getElem?_toList→bC,getElem?_eq_some_iff→aO,getElem?_push→cA
open Int renaming toNat_of_nonneg→b9
namespace Go.Ab
open Go Go.RowKit
variable {q:Md} {P:Program} {g:eR} {δ:DS} {κ:Kp} {a:Act} {w:World}
variable {ops:Array Oper} {rest:List Oper} {Q:Exit→DS→Prop} {dst:Option Nat} {ty:TypeId} {pos:String} {af:Array Edge} {gd:Option (Tmp×Bool)}
def kz (m:Nat):Value→Value
 |.slice (some ⟨b,o,x⟩) n c=> .slice (some (if c=m then ⟨b,o,x⟩ else ⟨b,o+m,x⟩)) (n - m) (c - m)
 |v=>v
theorem a_.De {t e':TypeId} {x y:Operand} (i k m:Nat) {e:TypeId} {rows:kf} {H:Value} {ys:List Value} (ho:δ.ob i=some (.e8 e rows)) (hk:rows k=(H,ys)) (hx:δ.ev x=.pv (.lit H)) (hy:δ.ev y=eV m) (hm:m≤ys.length) (ht:P.underlying t=some (.slice e')) (hs:(P.info? e').map (·.size)=some 1)
  (kH:ff x=true) (kv:ff y=true) (hd:fO δ.n dst=true) (hK:a_ q P g ops rest Q (δ.eS dst (.pv (.lit (iY m H))))):a_ q P g ops (⟨dst,.slice t x none (some y) none,ty,pos,af,none⟩::rest) Q δ:=
 a_.jc _ hd (fun κ a w r=>by
  obtain⟨i0,ju,nE⟩:∃i0,P.info? e'=some i0∧i0.size=1:=by
   cases h:P.info? e' with
   |none=>rw[h] at hs;simp at hs
   |some i0=>rw[h] at hs;exact⟨i0,rfl,by simpa using hs⟩
  have h0:=gS r ho k
  rw[hk] at h0
  simp only at h0
  have hv:a.eval x=H:=r.lit hx kH
  have vW:a.eval y=.int .i64 m:=r.lit hy kv
  obtain⟨a0,cap,hH,hle⟩:∃a0 cap,H=.slice a0 ys.length cap∧ys.length≤cap:=by
   rcases h0.2 with ⟨h1,h2⟩|⟨b,cap,cur,h1,_,_,hle,_⟩
   ·exact⟨none,0,by rw[h1,h2],by omega⟩
   ·exact⟨_,cap,h1,hle⟩
  subst hH
  refine⟨_,fun w' _=>?_,.pv (.lit _)⟩
  have Ec:∀w,(Instr.sliceBounds true ys.length cap none (some (.int .i64 (m:Int))) none).run P w=.ok (0,m,cap) w:=by
   intro w
   have e1:(0:Int)≤(m:Int)∧(m:Int)≤(cap:Int):=by omega
   simp [Instr.sliceBounds,Instr.sliceBound,asIntOf,e1]
   intro h0;exfalso;omega
  simp only[execOp,Instr.sliceAt,Instr.slice,run_underlying ht,hv,vW,Sem.run_bind,Result.andThen_ok,cQ,br,Ec,sizeOf,typeInfo,Sem.run_pure,iY]
  cases a0 with
  |none=>simp [ju,nE]
  |some ad=>
   simp [ju,nE]
   intro _
   cases ad;simp [Addr.add]) hK
theorem a_.Ga {t e':TypeId} {x y:Operand} (i k m:Nat) {e:TypeId} {rows:kf} {H:Value} {ys:List Value} (ho:δ.ob i=some (.e8 e rows)) (hk:rows k=(H,ys)) (hx:δ.ev x=.pv (.lit H)) (hy:δ.ev y=eV m) (hm:m≤ys.length) (ht:P.underlying t=some (.slice e')) (hs:(P.info? e').map (·.size)=some 1)
  (kH:ff x=true) (kv:ff y=true) (hd:fO δ.n dst=true) (hK:a_ q P g ops rest Q (δ.eS dst (.pv (.lit (kz m H))))):a_ q P g ops (⟨dst,.slice t x (some y) none none,ty,pos,af,none⟩::rest) Q δ:=
 a_.jc _ hd (fun κ a w r=>by
  obtain⟨i0,ju,nE⟩:∃i0,P.info? e'=some i0∧i0.size=1:=by
   cases h:P.info? e' with
   |none=>rw[h] at hs;simp at hs
   |some i0=>rw[h] at hs;exact⟨i0,rfl,by simpa using hs⟩
  have h0:=gS r ho k
  rw[hk] at h0
  simp only at h0
  have hv:a.eval x=H:=r.lit hx kH
  have vW:a.eval y=.int .i64 m:=r.lit hy kv
  have Ec:∀cap w,(Instr.sliceBounds true ys.length cap (some (.int .i64 (m:Int))) none none).run P w=.ok (m,ys.length,cap) w:=by
   intro cap w
   have e1:(0:Int)≤(m:Int)∧(m:Int)≤(ys.length:Int):=by omega
   simp [Instr.sliceBounds,Instr.sliceBound,asIntOf,e1]
   intro h0;exfalso;omega
  rcases h0.2 with ⟨h1,h2⟩|⟨b,cap,cur,h1,_,_,hle,_⟩
  ·subst h1
   refine⟨_,fun w' _=>?_,.pv (.lit _)⟩
   have TF:=Ec 0 w'
   rw[h2] at TF
   have EY:m=0:=by omega
   subst EY
   simp only[execOp,Instr.sliceAt,Instr.slice,run_underlying ht,hv,vW,Sem.run_bind,Result.andThen_ok,cQ,br,TF,sizeOf,typeInfo,Sem.run_pure,kz]
   simp [ju,nE]
  ·subst h1
   refine⟨_,fun w' _=>?_,.pv (.lit _)⟩
   simp only[execOp,Instr.sliceAt,Instr.slice,run_underlying ht,hv,vW,Sem.run_bind,Result.andThen_ok,cQ,br,Ec,sizeOf,typeInfo,Sem.run_pure,kz]
   simp [ju,nE,Addr.add]
   by_cases h1:cap=m
   ·simp [h1]
   ·by_cases h2:m=0
    ·subst h2;simp [h1]
    ·simp [h1,h2]) hK
theorem a_.xe {x:Operand} {t e':TypeId} (i k m:Nat) {e:TypeId} {rows:kf} {H:Value} {ys:List Value} (ho:δ.ob i=some (.e8 e rows)) (hk:rows k=(H,ys)) (hx:δ.ev x=.pv (.lit (kz m H))) (ht:P.underlying t=some (.slice e')) (kH:ff x=true) (hd:fO δ.n dst=true)
  (hK:a_ q P g ops rest Q (δ.eS dst (eV (ys.length - m:Nat)))):a_ q P g ops (⟨dst,.call {callee:=.builtin .len,args:= #[x],argTypes:= #[t]},ty,pos,af,none⟩::rest) Q δ:=
 a_.jc _ hd (fun κ a w r=>by
  have h0:=gS r ho k
  rw[hk] at h0
  simp only at h0
  have hv:a.eval x=kz m H:=r.lit hx kH
  rcases h0.2 with ⟨h1,h2⟩|⟨b,cap,cur,h1,_⟩
  ·subst h1
   exact⟨_,fun w' _=>run_len_slice ht x a.eval none _ 0 (hv.trans (by simp [kz,h2])) w',.pv (.lit _)⟩
  ·subst h1
   exact⟨_,fun w' _=>run_len_slice ht x a.eval _ _ (cap - m) (hv.trans rfl) w',.pv (.lit _)⟩) hK
theorem a_.uv {x y:Operand} {t e':TypeId} (i k m:Nat) {n:Nat} {ik:IntKind} {e:TypeId} {rows:kf} {H:Value} {ys:List Value} (ho:δ.ob i=some (.e8 e rows)) (hk:rows k=(H,ys)) (hx:δ.ev x=.pv (.lit (kz m H))) (hy:δ.ev y=.pv (.lit (.int ik (n:Int)))) (hn:m+n<ys.length)
  (ht:P.underlying t=some (.slice e')) (hs:(P.info? e').map (·.size)=some 1) (kH:ff x=true) (kv:ff y=true) (hd:fO δ.n dst=true)
  (hK:a_ q P g ops rest Q (δ.eS dst (.pv (.lit (mO (m+n) H))))):a_ q P g ops (⟨dst,.indexAddr t x y,ty,pos,af,none⟩::rest) Q δ:=
 a_.jc _ hd (fun κ a w r=>by
  have h0:=gS r ho k
  rw[hk] at h0
  simp only at h0
  have hv:a.eval x=kz m H:=r.lit hx kH
  rcases h0.2 with ⟨h1,h2⟩|⟨b,cap,cur,h1,_,_,hle,_⟩
  ·exfalso;omega
  ·subst h1
   have x5:a.eval x=.slice (some ⟨b,m,none⟩) (ys.length - m) (cap - m):=hv.trans (by simp [kz];omega)
   refine⟨_,fun w' _=>?_,.pv (.lit _)⟩
   have:=iq (dst:=dst) (ty:=ty) (pos:=pos) (af:=af) ht hs x5 (r.lit hy kv) aJ w'
   rw[cI] at this
   simpa [mO] using this) hK
theorem C0 {w w':World} {t ty e:TypeId} {i0:TypeInfo} {z:Value} {B n m xc:Nat} {xs Bw:List Value} {v v':Value} {xa:Option Addr} (ht:P.underlying t=some (.slice e)) (ju:P.info? e=some i0) (nv:i0.zero=some z) (l5:i0.size=1) (gF:w.ownsRow B e 1 v n xs) (nA:Bw.length=m*1)
  (fW:m≠0→∃ad,xa=some ad∧∀j u,Bw[j]? =some u→w.cell? (ad.add j)=some u) (uA:∀u∈Bw,u.oneCell'=true) (yh:n+m≤maxLen) (hb:(n+m)*i0.bytes≤140737488355328)
  (fu:(Builtin.append_ #[t,t] ty #[v,.slice xa m xc]).run P w=.ok v' w'):∀b,v'.ownBlock=some b→v.ownBlock=some b∨w.heap.size≤b:=by
 intro b ja
 by_cases hm:m=0
 ·subst hm
  have zD:Bw=[]:=bj (by simpa using nA)
  subst zD
  rcases gF.2 with ⟨rfl,h0⟩|⟨b0,cap0,cur0,rfl,h4,h5,h6⟩
  ·have qy:(Builtin.append_ #[t,t] ty #[.slice none 0 0,.slice xa 0 xc]).run P w=.ok (.slice none 0 0) w:=by
    cases xa with
    |none=>exact iS ht ju gF
    |some ad=>simp [Builtin.append_,run_underlying ht,sizeOf,typeInfo,ju,Builtin.lenOf,Builtin.firstCells,loadCells,loadCellsFrom]
   rw[qy] at fu
   simp only[Result.ok.injEq] at fu
   rw[← fu.1] at ja;cases ja
  ·cases xa with
   |none=>
    have qy:=iS (P:=P) (c:=xc) (ty:=ty) ht ju gF
    rw[qy] at fu
    simp only[Result.ok.injEq] at fu
    rw[← fu.1] at ja;exact .inl ja
   |some ad=>
    have qy:=run_append_room (P:=P) w t ty e i0 ht ju b0 n cap0 cur0 h5 ad 0 xc [] (by simp) (by simp) (by simp) aJ (by rw[l5];simp [h6.2.2.1];exact h6.1)
    rw[qy] at fu
    simp only[Result.ok.injEq] at fu
    rw[← fu.1] at ja;cases ja;exact .inl rfl
 ·obtain⟨ad,rfl,hc⟩:=fW hm
  rcases gF.2 with ⟨rfl,h0⟩|⟨b0,cap0,cur0,rfl,h4,h5,h6⟩
  ·have qy:=run_append_nil (P:=P) w t ty e i0 z ht ju nv ad m xc Bw (by rw[l5];exact nA) hc aJ (by simp only[maxLen] at yh;omega) (by have:m*i0.bytes≤(n+m)*i0.bytes:=Nat.mul_le_mul_right _ aJ;omega)
   rw[qy] at fu
   simp only[Result.ok.injEq] at fu
   rw[← fu.1] at ja;cases ja;exact .inr (aP _)
  ·by_cases kD:n+m≤cap0
   ·have qy:=run_append_room (P:=P) w t ty e i0 ht ju b0 n cap0 cur0 h5 ad m xc Bw (by rw[l5];exact nA) hc uA kD (by rw[l5,nA,h6.2.2.1];omega)
    rw[qy] at fu
    simp only[Result.ok.injEq] at fu
    rw[← fu.1] at ja;cases ja;exact .inl rfl
   ·have qy:=run_append_grow (P:=P) w t ty e i0 z ht ju nv ⟨b0,0,none⟩ n cap0 xs (by rw[l5];exact gF.1) (gF.cells (g:=b0) rfl) ad m xc Bw (by rw[l5];exact nA) hc aJ (by simp only[maxLen] at yh;omega) (growslice_fits aJ hb)
    rw[qy] at fu
    simp only[Result.ok.injEq] at fu
    rw[← fu.1] at ja;cases ja;exact .inr (aP _)
theorem Hr {C:Cx} {w:World} {v:Value} {us:List Value} (h:Src C w v 1 (us.map fun u=>[.lit u])):∃xa xc,v=.slice xa us.length xc∧(us.length≠0→∃ad,xa=some ad∧∀(j:Nat) (u:Value),us[j]? =some u→w.cell? (ad.add j)=some u)∧∀u∈us,u.oneCell'=true:=by
 obtain⟨mb,hk,xa,xc,hv,hx⟩:=h
 rw[a6] at hv
 have hc:∀(j:Nat) (u:Value),us[j]? =some u→cellAt (us.map fun u=>[PV.lit u]) j 0=some (.lit u):=fun j u hu=>by simp [cellAt,hu]
 refine⟨xa,xc,hv,fun h0=>?_,fun u hu=>?_⟩
 ·obtain⟨b,off,vs,rfl,h1⟩:=hx (by intro h;simp at h;exact h0 (by simp [h]))
  refine⟨_,rfl,fun j u hu=>?_⟩
  obtain⟨h2,_,h3⟩:=h1 j 0 _ (hc j u hu)
  have:vs j 0=u:=(RA.pv (C:=C) h3).lit
  rw[this,cI,bd] at h2
  rw[addr_add];exact h2
 ·obtain⟨j,hj⟩:=bA hu
  obtain⟨b,off,vs,rfl,h1⟩:=hx (by intro h;simp at h;subst h;simp at hu)
  obtain⟨_,h2,h3⟩:=h1 j 0 _ (hc j u hj)
  have:vs j 0=u:=(RA.pv (C:=C) h3).lit
  rw[← this];exact h2
inductive Fa (δ:DS) (x:Operand):List Value→Prop
 |src {us:List Value} {e7:List (List PV)} (h:qv δ x 1 e7) (he:e7=us.map fun u=>[.lit u]):Fa δ x us
 |tail {i k m:Nat} {e:TypeId} {rows:kf} {H:Value} {ys:List Value} (ho:δ.ob i=some (.e8 e rows)) (hk:rows k=(H,ys)) (hm:m≤ys.length) (h:δ.ev x=.pv (.lit (kz m H))) (fW:ys≠ []):Fa δ x (ys.drop m)
theorem Fa.at {x:Operand} {us:List Value} (h:Fa δ x us) (r:Rel g δ κ a w) (kH:ff x=true):∃xa xc,a.eval x=.slice xa us.length xc∧(us.length≠0→∃ad,xa=some ad∧∀(j:Nat) (u:Value),us[j]? =some u→w.cell? (ad.add j)=some u)∧∀u∈us,u.oneCell'=true:=by
 cases h with
 |src h he=>subst he;exact Hr (h.src r kH)
 | @tail i k m e rows H ys ho hk hm h fW=>
  have h0:=gS r ho k
  have xX:=((r.obj i _ ho).2.1 k).2.2.2
  rw[hk] at h0 xX
  simp only at h0 xX
  have hv:a.eval x=kz m H:=r.lit h kH
  rcases h0.2 with ⟨h1,h2⟩|⟨b,cap,cur,h1,_,h3,hle,_,pk,rL⟩
  ·exact absurd (bj h2) fW
  ·subst h1
   rw[cI] at rL
   refine⟨_,_,by rw[hv,cR];rfl,fun h4=>⟨_,rfl,fun j u hu=>?_⟩,fun u hu=>xX u (bL hu)⟩
   rw[cR] at h4
   rw[if_neg aJ,addr_add,cell_of h3]
   rw[bF] at hu
   have fm:=(aW.1 hu).1
   rw[← rL,bE,if_pos fm] at hu
   rw[Nat.zero_add,← bC];exact hu
theorem a_.QG {o:Oper} (hg:o.guard=none) (jl:jC o=true) (h:∀κ a w,Rel g δ κ a w→∃x v w' κ' δ',(execOp a.eval o).run P w=.ok x w'∧(x=.value v∨(x=.skip∧v=undef))∧Rel g δ' κ' (a.put o.dst v) w'∧a_ .plain P g ops rest Q δ'):a_ .plain P g ops (o::rest) Q δ:=by
 intro κ a w r
 show wpListIn _ _ P ops _ (o::rest) a w
 refine gw hg jl fun K nb=>?_
 unfold Oper.wW
 obtain⟨x,v,w',κ',δ',h1,h2,h3,h4⟩:=h κ a w r
 rw[h1]
 rcases h2 with rfl|⟨rfl,rfl⟩
 ·rw[Oper.uponIn_value];exact nb _ _ (h4 _ _ _ h3)
 ·rw[Oper.uponIn_skip];exact nb _ _ (h4 _ _ _ h3)
theorem a_.Ay {s x:Operand} {t:TypeId} (i k:Nat) {bytes:Nat} {z:Value} {e:TypeId} {rows:kf} {H:Value} {ys us:List Value} (ho:δ.ob i=some (.e8 e rows)) (hk:rows k=(H,ys)) (hs:δ.ev s=.pv (.lit H)) (hx:Fa δ x us)
  (ht:P.underlying t=some (.slice e)) (hi:(P.info? e).map (fun i=>(i.size,i.zero,i.bytes))=some (1,some z,bytes)) (Ae:z.oneCell'=true) (rX:ff s=true) (kH:ff x=true) (hd:fO δ.n dst=true) (hb:(ys.length+us.length)*bytes≤140737488355328) (hl:ys.length+us.length≤140737488355328)
  (hK:∀v',a_ .plain P g ops rest Q ((δ.ga i (some (.e8 e (nh rows k (v',ys++us))))).eS dst (.pv (.lit v')))):a_ .plain P g ops (⟨dst,.call {callee:=.builtin .append,args:= #[s,x],argTypes:= #[t,t]},ty,pos,af,none⟩::rest) Q δ:=by
 refine a_.QG rfl rfl fun κ a w r=>?_
 obtain⟨i0,ju,l5,nv,Br⟩:∃i0,P.info? e=some i0∧i0.size=1∧i0.zero=some z∧i0.bytes=bytes:=by
  cases h:P.info? e with
  |none=>rw[h] at hi;simp at hi
  |some i0=>rw[h] at hi;simp at hi;exact⟨i0,rfl,hi.1,hi.2.1,hi.2.2⟩
 have h0:=gS r ho k
 have xX:=((r.obj i _ ho).2.1 k).2.2.2
 rw[hk] at h0 xX
 simp only at h0 xX
 have hv:a.eval s=H:=r.lit hs rX
 obtain⟨xa,xc,xo,fW,uA⟩:=hx.at r kH
 have yh:ys.length+us.length≤maxLen:=by simp only[maxLen];omega
 obtain⟨v',w',fu,qM,qQ⟩:∃v' w',(Builtin.append_ #[t,t] ty #[H,.slice xa us.length xc]).run P w=.ok v' w'∧w'.ownsRow g.B e 1 v' (ys.length+us.length) (ys++us)∧w.grownBy w' H.ownBlock:=by
  by_cases pO:us=[]
  ·subst pO
   cases xa with
   |none=>exact⟨H,w,iS ht ju h0,by simp only[List.length_nil,bd,bt];exact h0,⟨rfl,rfl,rfl,aP _,fun _ _ _=>rfl⟩⟩
   |some ad=>
    obtain⟨v',w',h2,h3,h4,_⟩:=run_append_own (P:=P) w g.B t ty e i0 z 1 bytes ht ju nv l5 Br (by rw[mK Ae];rfl) aJ H ys.length ys h0 ad 0 xc [] (by simp) (by simp) (by simp) (by simpa using yh) (by simpa using hb) r.hB
    exact⟨v',w',h2,by simpa using h3,h4⟩
  ·obtain⟨ad,rfl,hc⟩:=fW (by intro h;exact pO (bj h))
   obtain⟨v',w',h2,h3,h4,_⟩:=run_append_own (P:=P) w g.B t ty e i0 z 1 bytes ht ju nv l5 Br (by rw[mK Ae];rfl) aJ H ys.length ys h0 ad us.length xc us (by simp) hc uA yh hb r.hB
   exact⟨v',w',h2,h3,h4⟩
 have vk:=C0 ht ju nv l5 h0 (by simp) fW uA yh (by rw[Br];exact hb) fu
 have iQ:(rows k).1=H:=by rw[hk]
 obtain⟨κ',r',_⟩:=r.nW ho (k:=k) (w':=w') (by rw[iQ];exact ir.grownBy qQ) (v':=v') (ys:=ys++us) (by rw[bW];exact qM) (by rw[bW];exact hl) (fun u hu=>(bX.1 hu).elim (xX u) (uA u)) (by rw[iQ];exact vk)
 have Bh:(execOp a.eval ⟨dst,.call {callee:=.builtin .append,args:= #[s,x],argTypes:= #[t,t]},ty,pos,af,none⟩).run P w=.ok (.value v') w':=by
  simp only[execOp,resolve,invoke,builtin,Sem.run_bind,Sem.run_pure,Result.andThen_ok,bp,bB,b8,hv,xo,fu]
 exact⟨_,v',w',κ',_,Bh,.inl rfl,r'.eS (fi hd) (.pv (.lit _)),hK v'⟩
theorem a_.pI {s x:Operand} {t:TypeId} (i k m:Nat) {bytes:Nat} {z:Value} {e:TypeId} {rows:kf} {H:Value} {ys us:List Value} (ho:δ.ob i=some (.e8 e rows)) (hk:rows k=(H,ys)) (hs:δ.ev s=.pv (.lit (iY m H))) (hx:Fa δ x us) (kD:m+us.length≤ys.length) (NS:ys≠ [])
  (ht:P.underlying t=some (.slice e)) (hi:(P.info? e).map (fun i=>(i.size,i.zero,i.bytes))=some (1,some z,bytes)) (rX:ff s=true) (kH:ff x=true) (hd:fO δ.n dst=true)
  (hK:a_ .plain P g ops rest Q ((δ.ga i (some (.e8 e (nh rows k (H,ys.take m++us++ys.drop (m+us.length)))))).eS dst (.pv (.lit (iY (m+us.length) H))))):a_ .plain P g ops (⟨dst,.call {callee:=.builtin .append,args:= #[s,x],argTypes:= #[t,t]},ty,pos,af,none⟩::rest) Q δ:=by
 refine a_.QG rfl rfl fun κ a w r=>?_
 obtain⟨i0,ju,l5,nv,Br⟩:∃i0,P.info? e=some i0∧i0.size=1∧i0.zero=some z∧i0.bytes=bytes:=by
  cases h:P.info? e with
  |none=>rw[h] at hi;simp at hi
  |some i0=>rw[h] at hi;simp at hi;exact⟨i0,rfl,hi.1,hi.2.1,hi.2.2⟩
 have h0:=gS r ho k
 have hl:=((r.obj i _ ho).2.1 k).2.1
 have xX:=((r.obj i _ ho).2.1 k).2.2.2
 rw[hk] at h0 xX hl
 simp only at h0 xX hl
 have hv:a.eval s=iY m H:=r.lit hs rX
 obtain⟨xa,xc,xo,fW,uA⟩:=hx.at r kH
 rcases h0.2 with ⟨h1,h2⟩|⟨b,cap,cur,h1,hB,h3,hle,Cn,pk,rL⟩
 ·exact absurd (bj h2) NS
 ·subst h1
  rw[cI] at pk rL
  have hlen:(ys.take m++us++ys.drop (m+us.length)).length=ys.length:=by simp;omega
  obtain⟨w',fu,iP⟩:∃w',(Builtin.append_ #[t,t] ty #[.slice (some ⟨b,0,none⟩) m cap,.slice xa us.length xc]).run P w=.ok (.slice (some ⟨b,0,none⟩) (m+us.length) cap) w'∧(w'=w∧us=[]∨w'=w.setRow b (cur.toList.take m++us++cur.toList.drop (m+us.length)).toArray):=by
   by_cases pO:us=[]
   ·subst pO
    cases xa with
    |none=>exact⟨w,by simp [Builtin.append_,run_underlying ht,sizeOf,typeInfo,ju,Builtin.lenOf,Builtin.firstCells,storeCells];omega,.inl ⟨rfl,rfl⟩⟩
    |some ad=>
     have:=run_append_room (P:=P) w t ty e i0 ht ju b m cap cur h3 ad 0 xc [] (by simp) (by simp) (by simp) (by simp at kD;omega) (by rw[l5];simp at kD ⊢;omega)
     exact⟨_,this,.inr (by simp [l5])⟩
   ·obtain⟨ad,rfl,hc⟩:=fW (by intro h;exact pO (bj h))
    have:=run_append_room (P:=P) w t ty e i0 ht ju b m cap cur h3 ad us.length xc us (by rw[l5];simp) hc uA aJ (by rw[l5];omega)
    exact⟨_,this,.inr (by simp [l5])⟩
  have iQ:(rows k).1.ownBlock=some b:=by rw[hk];rfl
  have oY:us=[]→ys.take m++us++ys.drop (m+us.length)=ys:=fun h=>by subst h;simp
  obtain⟨κ',r',_⟩:=r.nW ho (k:=k) (w':=w') (by
    rcases iP with ⟨rfl,_⟩|rfl
    ·exact⟨rfl,rfl,rfl,aP _,fun _ _ _=>rfl⟩
    ·rw[iQ];exact ir.setRow w b _) (v':=.slice (some ⟨b,0,none⟩) ys.length cap) (ys:=ys.take m++us++ys.drop (m+us.length))
   (by
    rw[hlen]
    refine⟨by rw[hlen];simp,.inr ?_⟩
    rcases iP with ⟨rfl,h⟩|rfl
    ·exact⟨b,cap,cur,rfl,hB,h3,hle,Cn,by rw[cI];exact pk,by rw[cI,oY h];exact rL⟩
    ·refine⟨b,cap,_,rfl,hB,setRow_heap _ _ _ _ _ _ h3,hle,Cn,?_,?_⟩
     ·simp;omega
     ·have e1:cur.toList=ys++cur.toList.drop ys.length:=by have:=List.take_append_drop ys.length cur.toList;rw[rL] at this;exact this.symm
      generalize cur.toList.drop ys.length=tl at e1
      rw[cI,e1]
      simp only[cS (show m≤ys.length by omega),List.drop_append_of_le_length kD]
      rw[← List.append_assoc,cS (by rw[hlen];omega),cG (by rw[hlen];omega)])
   (by rw[hlen];exact hl)
   (fun v hv=>by
    rcases bX.1 hv with hv|hv
    ·rcases bX.1 hv with hv|hv
     ·exact xX v (cT hv)
     ·exact uA v hv
    ·exact xX v (bL hv))
   (fun b' ja=> .inl (by rw[iQ];exact ja))
  have Bh:(execOp a.eval ⟨dst,.call {callee:=.builtin .append,args:= #[s,x],argTypes:= #[t,t]},ty,pos,af,none⟩).run P w=.ok (.value (.slice (some ⟨b,0,none⟩) (m+us.length) cap)) w':=by
   simp only[execOp,resolve,invoke,builtin,Sem.run_bind,Sem.run_pure,Result.andThen_ok,bp,bB,b8,hv,xo,iY,fu]
  exact⟨_,_,w',κ',_,Bh,.inl rfl,r'.eS (fi hd) (.pv (.lit _)),hK⟩
end Go.Ab
/- Pools:a row of the walk's own taken in;a shorter slice;a new pool. -/
namespace Go.Ab
open Go Go.RowKit
variable {q:Md} {P:Program} {g:eR} {δ:DS} {κ:Kp} {a:Act} {w:World}
variable {ops:Array Oper} {rest:List Oper} {Q:Exit→DS→Prop}
theorem nG.E1 {C C':Cx} {w w':World} {i j:Nat} {o:Ob} (G:j4 (C.less i) w C' w') (hκ:C'.κ j=C.κ j) (hb:∀b,C.κ j=some b→w'.heap[b]? =w.heap[b]?) (hP:∀b,C.κ.F j b→b<w.heap.size→C'.κ.F j b∧w'.heap[b]? =w.heap[b]?) (h:nG C w j o):nG C' w' j (o.wo (AV.kill i)):=by
 cases o with
 |row=>
  intro b ja
  rw[hκ] at ja
  obtain⟨c,e,h1⟩:=h b ja
  exact⟨c,e,(hb b ja).trans h1⟩
 |box cs=>
  obtain⟨b,c,e,h1,h2,h3,h4⟩:=h
  refine⟨b,c,e,hκ.trans h1,(hb b h1).trans h2,by simpa using h3,fun k u av h5 h6=>?_⟩
  simp only[a7,Option.map_eq_some_iff] at h6
  obtain⟨av',h6,rfl⟩:=h6
  exact⟨(h4 k u av' h5 h6).1.kill G,(h4 k u av' h5 h6).2⟩
 |mp l=>
  obtain⟨b,es,clock,h1,h2,h3,h4⟩:=h
  refine⟨b,es,clock,hκ.trans h1,(hb b h1).trans h2,⟨h3.1,fun k e p h5 h6=>?_⟩,h4⟩
  exact⟨(h3.2 k e p h5 h6).1,G.ra ((h3.2 k e p h5 h6).2.less (h4.2 p (aU h6)))⟩
 |mpl l kk v=>
  obtain⟨b,es,clock,h1,h2,h3,h4⟩:=h
  refine⟨b,es,clock,hκ.trans h1,(hb b h1).trans h2,?_,h4⟩
  exact h3.last (fun u p hp h=>G.ra (h.less (h4.2 p hp))) (fun u h=>h.kill G)
 |it l seen=>
  obtain⟨b,h1,h2⟩:=h
  exact⟨b,hκ.trans h1,h2.mono G.size G.N (hb b h1)⟩
 |lit T vals=>
  obtain⟨b,h1,h2⟩:=h
  exact⟨b,hκ.trans h1,(hb b h1).trans h2⟩
 |e8 e rows=>exact⟨hκ.trans h.1,fun k=>(h.2.1 k).goes G.B fun b _ hF fm=>hP b hF fm,h.2.2⟩
 |loop l tm ps iK body st=>
  obtain⟨b,lr,h1,h2,h3⟩:=h
  exact⟨b,lr,hκ.trans h1,(hb b h1).trans h2,h3⟩
theorem Rel.qX (r:Rel g δ κ a w) {i j k t:Nat} {e:TypeId} {rows:kf} {us:List Value} {e7:List (List PV)} (ho:δ.ob i=some (.e8 e rows)) (hj:δ.ob j=some .row) (ht:δ.get t=.own j e 1 e7) (he:e7=us.map fun u=>[.lit u]) (hk:(rows k).1=.slice none 0 0):
  ∃v κ',Rel g (((δ.gG (AV.kill j)).ga i (some (.e8 e (nh rows k (v,us))))).put t (.pv (.lit v))) κ' a w:=by
 subst he
 have va:i≠j:=by rintro rfl;rw[ho] at hj;cases hj
 have qz:δ.live j:=⟨_,hj⟩
 have Ct:δ.live i:=⟨_,ho⟩
 have hv:=r.env t
 rw[ht] at hv
 have hv:=hv.iW
 generalize Y3:g.val a t=v at hv
 obtain⟨Cq,xZ,yz⟩:=r.obj i _ ho
 obtain⟨xs,gF,GN,Wi⟩:=hv.row
 have mb:=hv.lim
 rw[a6] at gF mb
 have J6:xs=us:=by
  apply List.ext_getElem?
  intro n
  by_cases hn:n<us.length
  ·obtain⟨u,h1,h2⟩:=Wi n 0 (.lit us[n]) (by simp [cellAt,hn])
   rw[cI,bd] at h1
   rw[h1,a8 hn]
   cases h2;rfl
  ·have:=gF.1
   rw[cE aJ,cE aJ]
 subst J6
 have Np:∀b,v.ownBlock=some b→κ j=some b:=fun b hb=>hv.wI b hb
 let κ':Kp:=⟨(gY κ j none).f,fun n b=>κ.F n b∨(n=i∧v.ownBlock=some b)⟩
 let δ1:=(δ.gG (AV.kill j)).ga i (some (.e8 e (nh rows k (v,xs))))
 have iQ:∀n,δ1.ob n=if i=n then some (.e8 e (nh rows k (v,xs))) else (δ.ob n).map (Ob.wo (AV.kill j)):=fun n=>by
  show((δ.gG (AV.kill j)).ga i _).ob n=_
  rw[jw,j_]
 have fM:∀n,δ1.live n↔δ.live n:=by
  intro n
  unfold DS.live
  rw[iQ]
  by_cases h:i=n
  ·subst h;simp [ho]
  ·rw[if_neg h];cases δ.ob n<;>simp
 have m_:∀n,δ1.lr n↔δ.lr n:=by
  intro n
  unfold DS.lr
  rw[iQ]
  by_cases h:i=n
  ·subst h;simp [ho]
  ·rw[if_neg h]
   cases δ.ob n with
   |none=>simp
   |some o=>cases o<;>simp [Ob.wo]
 have u7:∀n,δ.lb n→δ1.lb n:=by
  rintro n ⟨o,h1,h2⟩
  unfold DS.lb
  rw[iQ]
  by_cases h:i=n
  ·rw[if_pos h];exact⟨_,rfl,rfl⟩
  ·rw[if_neg h,h1];exact⟨_,rfl,by cases o<;>simp_all [Ob.wo,Ob.ln]⟩
 have K2:∀n b,κ' n=some b→n≠j∧κ n=some b:=by
  intro n b h
  by_cases hn:j=n
  ·subst hn
   have:κ' j=none:=by show gY κ j none j=none;simp [gY]
   rw[this] at h;cases h
  ·have:κ' n=κ n:=by show gY κ j none n=κ n;simp [gY,hn]
   rw[this] at h
   exact⟨fun e=>hn e.symm,h⟩
 have P6:∀n,n≠j→κ' n=κ n:=fun n hn=>by show gY κ j none n=κ n;simp [gY,Ne.symm hn]
 have V3:∀n,δ.lb n→n≠j:=by
  rintro n ⟨o,h1,h2⟩ rfl
  rw[hj] at h1;cases h1;simp [Ob.ln] at h2
 have Tt:∀b,κ.Fs b→b<w.heap.size:=fun b hb=>r.fr.EB hb
 have G:j4 ((δ.cx g κ).less j) w (δ1.cx g κ') w:=
  {B:=rfl,size:=aP _
   N:=fun b _ h2=>⟨⟨⟨h2.1.1,by
    rintro⟨n,h3|⟨_,h3⟩⟩
    ·exact h2.1.2 ⟨n,h3⟩
    ·exact h2.2 j qz (Np b h3)⟩,fun n hn e=>h2.2 n ((fM n).1 hn) (K2 n b e).2⟩,rfl⟩
   Lr:=fun n hn=>⟨(m_ n).2 hn.1,P6 n hn.2,fun _ _=>rfl⟩
   Lb:=fun n hn=>⟨u7 n hn,P6 n (V3 n hn)⟩}
 have R1:Rel g δ1 κ' a w:=
  {n:=r.n,dfr:=r.dfr
   env:=fun n=>by
    show RA _ w _ ((δ.gG (AV.kill j)).get n)
    rw[pL _ rfl];exact(r.env n).kill G
   obj:=fun n x h=>by
    rw[iQ] at h
    by_cases hn:i=n
    ·subst hn
     rw[if_pos rfl] at h
     cases h
     refine⟨(P6 i va).trans Cq,fun kk=>?_,fun k1 k2 b h2 h3=>?_⟩
     ·unfold nh
      by_cases lV:kk=k
      ·rw[if_pos lV];exact⟨gF,mb,fun b hb=> .inr ⟨rfl,hb⟩,GN⟩
      ·rw[if_neg lV];exact(xZ kk).goes rfl fun b _ h2 _=>⟨.inl h2,rfl⟩
     ·have fW:∀kk b,(rows kk).1.ownBlock=some b→v.ownBlock=some b→False:=fun kk b h4 h5=>r.fr.mP qz (Np b h5) ⟨i,(xZ kk).2.2.1 b h4⟩
      unfold nh at h2 h3
      by_cases EJ:k1=k
      ·by_cases rE:k2=k
       ·rw[EJ,rE]
       ·rw[if_pos EJ] at h2
        rw[if_neg rE] at h3
        exact(fW k2 b h3 h2).elim
      ·by_cases rE:k2=k
       ·rw[if_neg EJ] at h2
        rw[if_pos rE] at h3
        exact(fW k1 b h2 h3).elim
       ·rw[if_neg EJ] at h2
        rw[if_neg rE] at h3
        exact yz k1 k2 b h2 h3
    ·rw[if_neg hn] at h
     cases fZ:δ.ob n with
     |none=>rw[fZ] at h;simp at h
     |some o=>
      rw[fZ] at h
      simp only[br,Option.some.injEq] at h
      subst h
      by_cases XP:n=j
      ·subst XP
       rw[hj] at fZ
       cases fZ
       intro b hb
       exact absurd rfl (K2 n b hb).1
      ·exact(r.obj n o fZ).E1 G (P6 n XP) (fun _ _=>rfl) fun b h2 _=>⟨.inl h2,rfl⟩
   inj:=fun n m b h1 h2 h3 h4=>r.inj n m b ((fM n).1 h1) ((fM m).1 h2) (K2 n b h3).2 (K2 m b h4).2
   lo:=fun n b h1 h2=>r.lo n b ((fM n).1 h1) (K2 n b h2).2
   nx:=fun n h=>r.nx n ((fM n).1 h)
   wt:=fun kk hk=>⟨(r.wt kk hk).1,fun n b h1 vM h2=>(r.wt kk hk).2 n b ((fM n).1 h1) (vM.imp (m_ n).1 id) (K2 n b h2).2⟩
   below:=r.below,hB:=r.hB,N0:=r.N0,kc:=r.kc
   fr:=by
    refine⟨fun b hb=>?_,fun n b hb=>?_⟩
    ·obtain⟨h2,h3,h4⟩:=r.fr.1 b hb
     exact⟨h2,h3,fun m hm e=>h4 m ((fM m).1 hm) (K2 m b e).2⟩
    ·rcases hb with h2|⟨rfl,h2⟩
     ·obtain⟨h4,h5,h6,h7,h8⟩:=r.fr.2 n b h2
      refine⟨h4,h5,h6,fun m hm e=>h7 m ((fM m).1 hm) (K2 m b e).2,fun m hm=>?_⟩
      rcases hm with hm|⟨rfl,hm⟩
      ·exact h8 m hm
      ·exact(r.fr.mP qz (Np b hm) ⟨n,h2⟩).elim
     ·have Ta:=Np b h2
      obtain⟨h3,h4⟩:=r.lo j b qz Ta
      refine⟨⟨h3,fun kk hk=>(r.wt kk hk).2 j b qz (.inl hj) Ta⟩,h4,fun hf=>(r.fr.1 b hf).2.2 j qz Ta,fun m hm e=>?_,fun m hm=>?_⟩
      ·obtain⟨h5,h6⟩:=K2 m b e
       exact h5 (r.inj m j b ((fM m).1 hm) qz h6 Ta)
      ·rcases hm with hm|⟨rfl,_⟩
       ·exact(r.fr.mP qz Ta ⟨m,hm⟩).elim
       ·rfl}
 exact⟨v,κ',R1.rI (by rw[Y3];exact .pv (.lit _))⟩
theorem AW.qX {c:Code} (i j k t:Nat) {e:TypeId} {rows:kf} {us:List Value} {e7:List (List PV)} (ho:δ.ob i=some (.e8 e rows)) (hj:δ.ob j=some .row) (ht:δ.get t=.own j e 1 e7) (he:e7=us.map fun u=>[.lit u]) (hk:(rows k).1=.slice none 0 0)
  (hK:∀v,AW P g c Q (((δ.gG (AV.kill j)).ga i (some (.e8 e (nh rows k (v,us))))).put t (.pv (.lit v)))):AW P g c Q δ:=fun κ a w r=>by
 obtain⟨v,κ',r'⟩:=r.qX ho hj ht he hk
 exact hK v κ' a w r'
theorem AW.B0 {c:Code} (i k m:Nat) {e:TypeId} {rows:kf} {H:Value} {ys:List Value} (ho:δ.ob i=some (.e8 e rows)) (hk:rows k=(H,ys)) (hm:m≤ys.length) (hK:AW P g c Q (δ.ga i (some (.e8 e (nh rows k (iY m H,ys.take m)))))):AW P g c Q δ:=fun κ a w r=>by
 have h0:=gS r ho k
 have hl:=((r.obj i _ ho).2.1 k).2.1
 have xX:=((r.obj i _ ho).2.1 k).2.2.2
 rw[hk] at h0 xX hl
 simp only at h0 xX hl
 have hlen:(ys.take m).length=m:=by simp;omega
 have gF:w.ownsRow g.B e 1 (iY m H) (ys.take m).length (ys.take m)∧∀b,(iY m H).ownBlock=some b→H.ownBlock=some b:=by
  rcases h0.2 with ⟨h1,h2⟩|⟨b,cap,cur,h1,hB,h3,hle,Cn,pk,rL⟩
  ·subst h1
   obtain rfl:m=0:=by omega
   exact⟨⟨by simp,.inl ⟨rfl,by simp⟩⟩,fun b hb=>by cases hb⟩
  ·subst h1
   refine⟨⟨by simp,.inr ⟨b,cap,cur,by rw[hlen];rfl,hB,h3,by rw[hlen];omega,Cn,pk,?_⟩⟩,fun b hb=>hb⟩
   rw[hlen,← rL,List.take_take,cI,cI,Nat.min_eq_left hm]
 obtain⟨κ',r',_⟩:=r.nW ho (k:=k) (w':=w) ⟨rfl,rfl,rfl,aP _,fun _ _ _=>rfl⟩ gF.1 (by rw[hlen];omega) (fun u hu=>xX u (cT hu)) (fun b hb=> .inl (by rw[hk];exact gF.2 b hb))
 exact hK κ' a w r'
theorem Rel.wO (r:Rel g δ κ a w) (e:TypeId):Rel g (δ.fK (.e8 e fun _=>(.slice none 0 0,[]))) (gY κ δ.nx none) a w:=by
 have nA:¬δ.live δ.nx:=fun h=>Nat.lt_irrefl _ (r.nx _ h)
 have fW:∀i,δ.live i→δ.nx≠i:=fun i h e=>nA (e▸h)
 have fM:∀i,(δ.fK (.e8 e fun _=>(.slice none 0 0,[]))).live i→i=δ.nx∨δ.live i:=by
  intro i ⟨o',h⟩
  rw[fU] at h
  by_cases e:δ.nx=i
  ·exact .inl e.symm
  ·rw[if_neg e] at h;exact .inr ⟨o',h⟩
 have n8:∀i b,(δ.fK (.e8 e fun _=>(.slice none 0 0,[]))).live i→gY κ δ.nx none i=some b→δ.live i∧κ i=some b:=by
  intro i b hi h
  rcases fM i hi with rfl|hi
  ·simp [gY] at h
  ·simp only[gY,fW i hi,if_false] at h;exact⟨hi,h⟩
 have G:j4 (δ.cx g κ) w ((δ.fK (.e8 e fun _=>(.slice none 0 0,[]))).cx g (gY κ δ.nx none)) w:=
  {B:=rfl,size:=aP _
   N:=fun b h1 h2=>⟨⟨h2.1,fun i hi e=>let ⟨h3,h4⟩:=n8 i b hi e;h2.2 i h3 h4⟩,rfl⟩
   Lr:=fun i hi=>by
    have kb:=fW i (DS.gA hi)
    refine⟨?_,by show gY _ _ _ i=κ i;simp [gY,kb],fun b hκ=>rfl⟩
    show(δ.fK _).ob i=_
    rw[fU,if_neg kb];exact hi
   Lb:=fun i hi=>by
    have kb:=fW i (DS.lI hi)
    refine⟨?_,by show gY _ _ _ i=κ i;simp [gY,kb]⟩
    obtain⟨o',h1,h2⟩:=hi
    exact⟨o',by rw[fU,if_neg kb];exact h1,h2⟩}
 exact
  {n:=r.n,dfr:=r.dfr,env:=fun j=>G.ra (r.env j)
   obj:=fun i o' h=>by
    rw[fU] at h
    by_cases e:δ.nx=i
    ·rw[if_pos e] at h;cases h;subst e
     exact⟨by show gY _ _ _ _=_;simp [gY],fun k=>⟨w.ownsRow_nil _ _ _,by simp,fun b hb=>by simp [Value.ownBlock] at hb,fun u hu=>by simp at hu⟩,fun k k' b hb=>by simp [Value.ownBlock] at hb⟩
    ·rw[if_neg e] at h
     exact(r.obj i o' h).goes G (by show gY _ _ _ i=κ i;simp [gY,e]) (fun b hκ=>rfl) (fun b hF fm=>⟨hF,rfl⟩)
   inj:=fun i j b h1 h2 h3 h4=>let ⟨h5,h6⟩:=n8 i b h1 h3;let ⟨h7,h8⟩:=n8 j b h2 h4;r.inj i j b h5 h7 h6 h8
   lo:=fun i b h1 h2=>let ⟨h5,h6⟩:=n8 i b h1 h2;r.lo i b h5 h6
   nx:=fun i h=>by
    show i<δ.nx+1
    rcases fM i h with rfl|h
    ·omega
    ·have:=r.nx i h;omega
   wt:=fun k hk=>⟨(r.wt k hk).1,fun i b hi kb hκ hb=>by
    obtain⟨h5,h6⟩:=n8 i b hi hκ
    refine(r.wt k hk).2 i b h5 (kb.imp (fun h=>?_) id) h6 hb
    have h7:(δ.fK _).ob i=some .row:=h
    rw[fU,if_neg (fW i h5)] at h7
    exact h7⟩
   below:=r.below,hB:=r.hB,N0:=r.N0,kc:=r.kc
   fr:=r.fr.sub fun i b h1 h2=>let ⟨h5,h6⟩:=n8 i b h1 h2;⟨i,h5,h6⟩}
theorem AW.wO {c:Code} (e:TypeId) (hK:AW P g c Q (δ.fK (.e8 e fun _=>(.slice none 0 0,[])))):AW P g c Q δ:=fun _ a w r=>hK _ a w (r.wO e)
end Go.Ab
/- Contracts with more than one outcome:of the caller's objects,and of the result,only a relation is told. -/
namespace Go.Ab
open Go Go.RowKit
variable {P:Program} {g:eR} {δ:DS} {κ:Kp} {a:Act} {w:World}
variable {ops:Array Oper} {rest:List Oper} {Q:Exit→DS→Prop} {dst:Option Nat} {ty:TypeId} {pos:String} {af:Array Edge}
abbrev tP {α:Type} (P:Program) (f:FuncId) (n0:Nat) (d_:List (Nat×Option Ob)) (args:List AV) (p:α→Prop) (eU:α→List (Nat×Option Ob)) (r:α→AV):Prop:=
 rU (fun _=>True) P (fun(x:α) C w e=>p x∧OA (r x) C w e) f n0 d_ args eU
def lh {α:Type} (P:Program) (rs:List ResultVar) (d_:List (Nat×Option Ob)) (p:α→Prop) (eU:α→List (Nat×Option Ob)) (r:α→AV):Exit→DS→Prop
 |.normal,δ|.ret,δ=>∃x,p x∧∃v,gk P δ rs v∧WV δ (XF δ d_ (eU x)) v (r x)∧WV δ (XF δ d_ (eU x)) (δ.get 1000) (.agg (gI d_))∧oc δ (XF δ d_ (eU x)) (eU x)∧sG δ.nx (eU x)=true
 |_,_=>False
theorem gL {α:Type} {rs:List ResultVar} {d_:List (Nat×Option Ob)} {p:α→Prop} {eU:α→List (Nat×Option Ob)} {r:α→AV} {v:AV} (x:α) (hp:p x) (h:gk P δ rs v) (hw:Dk δ (XF δ d_ (eU x)) [v,δ.get 1000] [r x,.agg (gI d_)]) (ho:oc δ (XF δ d_ (eU x)) (eU x)) (hx:sG δ.nx (eU x)=true):lh P rs d_ p eU r .ret δ:=⟨x,hp,v,h,hw.1,hw.2.1,ho,hx⟩
theorem mF {α:Type} {rs:List ResultVar} {d_:List (Nat×Option Ob)} {p:α→Prop} {eU:α→List (Nat×Option Ob)} {r:α→AV} {v:AV} (x:α) (hp:p x) (h:gk P δ rs v) (hw:Dk δ (XF δ d_ (eU x)) [v,δ.get 1000] [r x,.agg (gI d_)]) (ho:oc δ (XF δ d_ (eU x)) (eU x)) (hx:sG δ.nx (eU x)=true):lh P rs d_ p eU r .normal δ:=⟨x,hp,v,h,hw.1,hw.2.1,ho,hx⟩
theorem tP.enter {α:Type} {f:FuncId} {fn:Func} {c:Code} {rs:List ResultVar} {n n0:Nat} {d_:List (Nat×Option Ob)} {args:List AV} {p:α→Prop} {eU:α→List (Nat×Option Ob)} {r:α→AV} (hf:P.funcs[f]? =some fn) (hb:fn.body=some c) (sI:fn.results=rs.toArray) (hn:fn.ntmps=n) (Cb:bz args.length n=true)
  (pH:bz n HS=true) (he:(fn.name== "runtime.NumGoroutine")=false) (tI:sr d_ d_=true) (uA:∀x,sG n0 (eU x)=true)
  (h:∀g:eR,g.ro=none→g.wt=none→AW P g c (lh P rs d_ p eU r) ⟨n,enum 0 args++ [(1000,.agg (gI d_))],d_,n0⟩):tP P f n0 d_ args p eU r:=by
 refine rU.enter (Q:=lh P rs d_ p eU r) hf hb hn Cb pH he tI uA (fun g h1 h2 _=>h g h1 h2) fun g e δ' κ' a' w' R i_ wZ hq r' hR=>?_
 have fin:(∃x,p x∧∃v,gk P δ' rs v∧WV δ' (XF δ' d_ (eU x)) v (r x)∧WV δ' (XF δ' d_ (eU x)) (δ'.get 1000) (.agg (gI d_))∧oc δ' (XF δ' d_ (eU x)) (eU x)∧sG δ'.nx (eU x)=true)→
   LeavesInM Fence.wide 0 P fn a'.tmps R a'.defers .returning w':=fun⟨x,VL,v,h1,hv,hp,ho,hx⟩=>
  leaves (g:=g) i_ wZ sI h1 r' fun w2 r2 u hu=>hR x hp ho hx _ _ r2 ⟨VL,u,rfl,hu.wv (δ:=δ') (δ':=XF δ' d_ (eU x)) r2.lu r2.obj hv⟩
 cases e with
 |normal=>exact fin hq
 |ret=>exact fin hq
 |_=>exact hq.elim
theorem a_.jU {α:Type} {y:Operand} {f:FuncId} {xs:List Operand} {tys:Array TypeId} {first cap args:List AV} {n0:Nat} {d_:List (Nat×Option Ob)} {p:α→Prop} {eU:α→List (Nat×Option Ob)} {r:α→AV} (i_:g.wt=none) (hf:tP P f n0 d_ args p eU r) (hy:δ.ev y=.jk (.func f) first cap) (kv:ff y=true) (rX:xs.all ff=true)
  (kg:BX δ d_) (gf:uk (XS d_ n0).qu (XS d_ n0).qc (first++xs.map δ.ev++cap) args) (hk:∀x,j2 d_ (eU x)=true) (Bc:sG n0 d_=true) (sf:mj (XS d_ n0).qu (XS d_ n0).qc d_)
  (oO:∀x,mj (XS (eU x) n0).qu (XS (eU x) n0).qc (eU x)) (hr:∀x,(r x).ids (XS (eU x) n0).qu (XS (eU x) n0).qc=true) (hd:fO δ.n dst=true)
  (hK:∀x,p x→a_ .plain P g ops rest Q ((δ.hU d_ (eU x)).eS dst (r x))):
  a_ .plain P g ops (⟨dst,.call {callee:=.value y,args:=xs.toArray,argTypes:=tys},ty,pos,af,none⟩::rest) Q δ:=
 wF i_ (fun _ _=>trivial) hf hy kv rX kg gf hk Bc sf oO (fun x κ a w' C v hR hE sJ=>by
  obtain⟨hp,u,he,hu⟩:=hE
  cases he
  exact hK x hp _ _ _ (hR.eS (fi hd) (sJ (r x) hu (hr x)))) (fun _ C w' ch hE=>by obtain⟨_,u,he,_⟩:=hE;cases he) (fun _ C w' hE=>by obtain⟨_,u,he,_⟩:=hE;cases he)
end Go.Ab
/- Pools of numbers. -/
namespace Go.Ab
open Go Go.RowKit
variable {q:Md} {P:Program} {g:eR} {δ:DS} {κ:Kp} {a:Act} {w:World}
variable {ops:Array Oper} {rest:List Oper} {Q:Exit→DS→Prop} {dst:Option Nat} {ty:TypeId} {pos:String} {af:Array Edge} {gd:Option (Tmp×Bool)}
abbrev vI (x:Int):Value:=.int .i64 x
def eZ {α:Type} (f:Nat→α) (k:Nat) (v:α):Nat→α:=fun j=>if j=k then v else f j
theorem eW {α:Type} (f:Nat→α) (k:Nat) (v:α):eZ f k v k=v:=by simp [eZ]
theorem ft {α:Type} (f:Nat→α) {k j:Nat} (v:α) (h:j≠k):eZ f k v j=f j:=by simp [eZ,h]
theorem vd {α:Type} (f:Nat→α) (k:Nat):eZ f k (f k)=f:=by funext j;unfold eZ;split<;>simp_all
theorem jr {α:Type} (f:Nat→α) (k:Nat) (v u:α):eZ (eZ f k v) k u=eZ f k u:=by funext j;unfold eZ;split<;>rfl
def j9 (hs:Nat→Value) (ls:Nat→List Int):kf:=fun k=>(hs k,(ls k).map vI)
theorem pU (hs:Nat→Value) (ls:Nat→List Int) (k:Nat) (h:Value) (xs:List Int) {ys:List Value} (hy:ys=xs.map vI):nh (j9 hs ls) k (h,ys)=j9 (eZ hs k h) (eZ ls k xs):=by
 subst hy
 funext j
 unfold nh j9 eZ
 split<;>rfl
theorem tB (hs:Nat→Value) (ls:Nat→List Int) (k:Nat) (xs:List Int) {ys:List Value} (hy:ys=xs.map vI):nh (j9 hs ls) k (hs k,ys)=j9 hs (eZ ls k xs):=by
 rw[pU hs ls k _ xs hy,vd]
section
variable {i k:Nat} {e:TypeId} {hs:Nat→Value} {ls:Nat→List Int}
theorem a_.ny (i:Nat) {x:Operand} {t e':TypeId} (ho:δ.ob i=some (.e8 e (j9 hs ls))) (hx:δ.ev x=.pv (.lit (hs k))) (ht:P.underlying t=some (.slice e')) (kH:ff x=true) (hd:fO δ.n dst=true)
  (hK:a_ q P g ops rest Q (δ.eS dst (eV ((ls k).length:Nat)))):a_ q P g ops (⟨dst,.call {callee:=.builtin .len,args:= #[x],argTypes:= #[t]},ty,pos,af,none⟩::rest) Q δ:=
 a_.Hm i k ho rfl hx ht kH hd (by rw[a6];exact hK)
theorem a_.yI (i:Nat) {x:Operand} {t e':TypeId} {m:Nat} (ho:δ.ob i=some (.e8 e (j9 hs ls))) (hx:δ.ev x=.pv (.lit (kz m (hs k)))) (ht:P.underlying t=some (.slice e')) (kH:ff x=true) (hd:fO δ.n dst=true)
  (hK:a_ q P g ops rest Q (δ.eS dst (eV ((ls k).length - m:Nat)))):a_ q P g ops (⟨dst,.call {callee:=.builtin .len,args:= #[x],argTypes:= #[t]},ty,pos,af,none⟩::rest) Q δ:=
 a_.xe i k m ho rfl hx ht kH hd (by rw[a6];exact hK)
theorem a_.eY (i:Nat) {x y:Operand} {t e':TypeId} {m:Int} (ho:δ.ob i=some (.e8 e (j9 hs ls))) (hx:δ.ev x=.pv (.lit (hs k))) (hy:δ.ev y=eV m) (ht:P.underlying t=some (.slice e')) (yV:(P.info? e').map (·.size)=some 1) (kH:ff x=true) (kv:ff y=true) (hd:fO δ.n dst=true)
  (h0:0≤m) (hn:m.toNat<(ls k).length) (hK:a_ q P g ops rest Q (δ.eS dst (.pv (.lit (mO m.toNat (hs k)))))):a_ q P g ops (⟨dst,.indexAddr t x y,ty,pos,af,none⟩::rest) Q δ:=
 a_.DL i k ho rfl hx (n:=m.toNat) (by rw[b9 h0];exact hy) (by rw[a6];exact hn) ht yV kH kv hd hK
theorem a_.wz (i:Nat) {x y:Operand} {t e':TypeId} {m:Int} {m0:Nat} (ho:δ.ob i=some (.e8 e (j9 hs ls))) (hx:δ.ev x=.pv (.lit (kz m0 (hs k)))) (hy:δ.ev y=eV m) (ht:P.underlying t=some (.slice e')) (yV:(P.info? e').map (·.size)=some 1) (kH:ff x=true) (kv:ff y=true) (hd:fO δ.n dst=true)
  (h0:0≤m) (hn:m0+m.toNat<(ls k).length) (hK:a_ q P g ops rest Q (δ.eS dst (.pv (.lit (mO (m0+m.toNat) (hs k)))))):a_ q P g ops (⟨dst,.indexAddr t x y,ty,pos,af,none⟩::rest) Q δ:=
 a_.uv i k m0 ho rfl hx (n:=m.toNat) (by rw[b9 h0];exact hy) (by rw[a6];exact hn) ht yV kH kv hd hK
theorem a_.sq (i:Nat) {x:Operand} {t:TypeId} {n:Nat} (ho:δ.ob i=some (.e8 e (j9 hs ls))) (hx:δ.ev x=.pv (.lit (mO n (hs k)))) (ht:jW P t=true) (kH:ff x=true) (hd:fO δ.n dst=true) (hq:q≠ .held)
  (hn:n<(ls k).length) (hK:a_ q P g ops rest Q (δ.eS dst (eV (ls k)[n]))):a_ q P g ops (⟨dst,.load t x,ty,pos,af,none⟩::rest) Q δ:=
 a_.F0 i k ho rfl hx (u:=vI (ls k)[n]) (by rw[a7,a8 hn];rfl) ht kH hd hq hK
theorem a_.kG (i:Nat) {x y:Operand} {t:TypeId} {n:Nat} {v:Int} (ho:δ.ob i=some (.e8 e (j9 hs ls))) (hx:δ.ev x=.pv (.lit (mO n (hs k)))) (hy:δ.ev y=eV v) (ht:(P.info? t).map (·.size)=some 1) (kH:ff x=true) (kv:ff y=true) (hd:fO δ.n dst=true)
  (hn:n<(ls k).length) (hK:a_ .plain P g ops rest Q ((δ.ga i (some (.e8 e (j9 hs (eZ ls k ((ls k).set n v)))))).eS dst .any)):a_ .plain P g ops (⟨dst,.store t x y,ty,pos,af,none⟩::rest) Q δ:=
 a_.q9 i k ho rfl hx (by rw[a6];exact hn) hy rfl ht kH kv hd (by rw[tB hs ls k ((ls k).set n v) (by rw[List.map_set])];exact hK)
theorem a_.tt (i:Nat) {t e':TypeId} {x y:Operand} {m:Int} (ho:δ.ob i=some (.e8 e (j9 hs ls))) (hx:δ.ev x=.pv (.lit (hs k))) (hy:δ.ev y=eV m) (ht:P.underlying t=some (.slice e')) (yV:(P.info? e').map (·.size)=some 1) (kH:ff x=true) (kv:ff y=true) (hd:fO δ.n dst=true)
  (h0:0≤m) (hm:m.toNat≤(ls k).length) (hK:a_ q P g ops rest Q (δ.eS dst (.pv (.lit (iY m.toNat (hs k)))))):a_ q P g ops (⟨dst,.slice t x none (some y) none,ty,pos,af,none⟩::rest) Q δ:=
 a_.De i k m.toNat ho rfl hx (by rw[b9 h0];exact hy) (by rw[a6];exact hm) ht yV kH kv hd hK
theorem a_.wm (i:Nat) {t e':TypeId} {x y:Operand} {m:Int} (ho:δ.ob i=some (.e8 e (j9 hs ls))) (hx:δ.ev x=.pv (.lit (hs k))) (hy:δ.ev y=eV m) (ht:P.underlying t=some (.slice e')) (yV:(P.info? e').map (·.size)=some 1) (kH:ff x=true) (kv:ff y=true) (hd:fO δ.n dst=true)
  (h0:0≤m) (hm:m.toNat≤(ls k).length) (hK:a_ q P g ops rest Q (δ.eS dst (.pv (.lit (kz m.toNat (hs k)))))):a_ q P g ops (⟨dst,.slice t x (some y) none none,ty,pos,af,none⟩::rest) Q δ:=
 a_.Ga i k m.toNat ho rfl hx (by rw[b9 h0];exact hy) (by rw[a6];exact hm) ht yV kH kv hd hK
theorem a_.DM (i:Nat) {x:Operand} {t e':TypeId} {m:Nat} (ho:δ.ob i=some (.e8 e (j9 hs ls))) (hx:δ.ev x=.pv (.lit (iY m (hs k)))) (ht:P.underlying t=some (.slice e')) (kH:ff x=true) (hd:fO δ.n dst=true) (hm:m≤(ls k).length)
  (hK:a_ q P g ops rest Q (δ.eS dst (eV (m:Nat)))):a_ q P g ops (⟨dst,.call {callee:=.builtin .len,args:= #[x],argTypes:= #[t]},ty,pos,af,none⟩::rest) Q δ:=
 a_.jc _ hd (fun κ a w r=>by
  have h0:=gS r ho k
  unfold j9 at h0
  simp only[a6] at h0
  have hv:a.eval x=iY m (hs k):=r.lit hx kH
  rcases h0.2 with ⟨h1,h2⟩|⟨b,cap,cur,h1,_⟩
  ·rw[h1] at hv
   exact⟨_,fun w' _=>run_len_slice ht x a.eval none _ 0 hv w',.pv (.lit _)⟩
  ·rw[h1] at hv
   exact⟨_,fun w' _=>run_len_slice ht x a.eval _ _ cap hv w',.pv (.lit _)⟩) hK
theorem a_.yS (i:Nat) {x y:Operand} {t e':TypeId} {m:Int} {m0:Nat} (ho:δ.ob i=some (.e8 e (j9 hs ls))) (hx:δ.ev x=.pv (.lit (iY m0 (hs k)))) (hy:δ.ev y=eV m) (ht:P.underlying t=some (.slice e')) (yV:(P.info? e').map (·.size)=some 1) (kH:ff x=true) (kv:ff y=true) (hd:fO δ.n dst=true)
  (h0:0≤m) (hn:m.toNat<m0) (EY:m0≤(ls k).length) (hK:a_ q P g ops rest Q (δ.eS dst (.pv (.lit (mO m.toNat (hs k)))))):a_ q P g ops (⟨dst,.indexAddr t x y,ty,pos,af,none⟩::rest) Q δ:=
 a_.jc _ hd (fun κ a w r=>by
  have Ar:=gS r ho k
  unfold j9 at Ar
  simp only[a6] at Ar
  have hv:a.eval x=iY m0 (hs k):=r.lit hx kH
  rcases Ar.2 with ⟨h1,h2⟩|⟨b,cap,cur,h1,_⟩
  ·exfalso;omega
  ·rw[h1] at hv ⊢
   refine⟨_,fun w' _=>?_,.pv (.lit _)⟩
   have:=iq (dst:=dst) (ty:=ty) (pos:=pos) (af:=af) ht yV hv (n:=m.toNat) (by rw[b9 h0];exact r.lit hy kv) hn w'
   rw[cI] at this
   exact this) hK
theorem a_.DJ (i:Nat) {s x:Operand} {t:TypeId} {bytes:Nat} {z:Value} {us:List Int} {e7:List (List PV)} (ho:δ.ob i=some (.e8 e (j9 hs ls))) (GX:δ.ev s=.pv (.lit (hs k))) (hx:qv δ x 1 e7) (he:e7=us.map fun u=>[.lit (vI u)]) (ht:P.underlying t=some (.slice e)) (hi:(P.info? e).map (fun i=>(i.size,i.zero,i.bytes))=some (1,some z,bytes)) (Ae:z.oneCell'=true) (rX:ff s=true) (kH:ff x=true) (hd:fO δ.n dst=true)
  (Jk:bz bytes 64=true) (hl:(ls k).length+us.length≤1000000000) (hK:∀v',v'.oneCell'=true→a_ .plain P g ops rest Q ((δ.ga i (some (.e8 e (j9 (eZ hs k v') (eZ ls k (ls k++us)))))).eS dst (.pv (.lit v')))):a_ .plain P g ops (⟨dst,.call {callee:=.builtin .append,args:= #[s,x],argTypes:= #[t,t]},ty,pos,af,none⟩::rest) Q δ:=by
 have YA:bytes≤64:=by simpa using Jk
 refine a_.Ay i k ho rfl GX (us:=us.map vI) (.src hx (by rw[he,cU];rfl)) ht hi Ae rX kH hd ?_ (by simp only[a6];omega) fun v'=>?_
 ·simp only[a6]
  have:((ls k).length+us.length)*bytes≤1000000000*64:=Nat.mul_le_mul hl YA
  omega
 ·rw[pU hs ls k v' (ls k++us) (by rw[cV])]
  intro κ a w r
  refine hK v' ?_ κ a w r
  have h0:=gS r (i:=i) (rows:=j9 (eZ hs k v') (eZ ls k (ls k++us))) (e:=e) (by cases dst<;>exact(jw _ _ _ _).trans (if_pos rfl)) k
  unfold j9 at h0
  simp only[eW] at h0
  rcases h0.2 with ⟨h1,_⟩|⟨b,cap,cur,h1,_⟩<;>rw[h1]<;>rfl
theorem a_.lO (i:Nat) {s x:Operand} {t:TypeId} {bytes:Nat} {z:Value} {u:Int} {e7:List (List PV)} (ho:δ.ob i=some (.e8 e (j9 hs ls))) (GX:δ.ev s=.pv (.lit (hs k))) (hx:qv δ x 1 e7) (he:e7=[[.lit (vI u)]]) (ht:P.underlying t=some (.slice e)) (hi:(P.info? e).map (fun i=>(i.size,i.zero,i.bytes))=some (1,some z,bytes)) (Ae:z.oneCell'=true) (rX:ff s=true) (kH:ff x=true) (hd:fO δ.n dst=true)
  (Jk:bz bytes 64=true) (hl:(ls k).length+1≤1000000000) (hK:∀v',v'.oneCell'=true→a_ .plain P g ops rest Q ((δ.ga i (some (.e8 e (j9 (eZ hs k v') (eZ ls k (ls k++ [u])))))).eS dst (.pv (.lit v')))):a_ .plain P g ops (⟨dst,.call {callee:=.builtin .append,args:= #[s,x],argTypes:= #[t,t]},ty,pos,af,none⟩::rest) Q δ:=
 a_.DJ i (us:=[u]) ho GX hx he ht hi Ae rX kH hd Jk hl hK
theorem a_.xu (i m:Nat) {s x:Operand} {t:TypeId} {bytes:Nat} {z:Value} {us:List Int} {e7:List (List PV)} (ho:δ.ob i=some (.e8 e (j9 hs ls))) (GX:δ.ev s=.pv (.lit (iY m (hs k)))) (hx:qv δ x 1 e7) (he:e7=us.map fun u=>[.lit (vI u)]) (ht:P.underlying t=some (.slice e)) (hi:(P.info? e).map (fun i=>(i.size,i.zero,i.bytes))=some (1,some z,bytes)) (rX:ff s=true) (kH:ff x=true) (hd:fO δ.n dst=true)
  (kD:m+us.length≤(ls k).length) (fW:ls k≠ []) (hK:a_ .plain P g ops rest Q ((δ.ga i (some (.e8 e (j9 hs (eZ ls k ((ls k).take m++us++(ls k).drop (m+us.length))))))).eS dst (.pv (.lit (iY (m+us.length) (hs k)))))):a_ .plain P g ops (⟨dst,.call {callee:=.builtin .append,args:= #[s,x],argTypes:= #[t,t]},ty,pos,af,none⟩::rest) Q δ:=
 a_.pI i k m ho rfl GX (us:=us.map vI) (.src hx (by rw[he,cU];rfl)) (by simp only[a6];exact kD) (by simpa using fW) ht hi rX kH hd (by
  rw[tB hs ls k ((ls k).take m++us++(ls k).drop (m+us.length)) (by simp [cW,cX]),a6];exact hK)
theorem a_.js (i:Nat) {m:Nat} {s x:Operand} {t:TypeId} {bytes:Nat} {z:Value} {u:Int} {e7:List (List PV)} (ho:δ.ob i=some (.e8 e (j9 hs ls))) (GX:δ.ev s=.pv (.lit (iY m (hs k)))) (hx:qv δ x 1 e7) (he:e7=[[.lit (vI u)]]) (ht:P.underlying t=some (.slice e)) (hi:(P.info? e).map (fun i=>(i.size,i.zero,i.bytes))=some (1,some z,bytes)) (rX:ff s=true) (kH:ff x=true) (hd:fO δ.n dst=true)
  (kD:m+1≤(ls k).length) (hK:a_ .plain P g ops rest Q ((δ.ga i (some (.e8 e (j9 hs (eZ ls k ((ls k).set m u)))))).eS dst (.pv (.lit (iY (m+1) (hs k)))))):a_ .plain P g ops (⟨dst,.call {callee:=.builtin .append,args:= #[s,x],argTypes:= #[t,t]},ty,pos,af,none⟩::rest) Q δ:=
 a_.xu i m (us:=[u]) ho GX hx he ht hi rX kH hd kD (by intro h;rw[h] at kD;simp at kD) (by
  have e1:(ls k).take m++ [u]++(ls k).drop (m+ [u].length)=(ls k).set m u:=by
   rw[List.set_eq_take_append_cons_drop,if_pos aJ];simp
  rw[e1];exact hK)
theorem a_.o5 (i m m':Nat) {s x:Operand} {t:TypeId} {bytes:Nat} {z:Value} (ho:δ.ob i=some (.e8 e (j9 hs ls))) (GX:δ.ev s=.pv (.lit (iY m (hs k)))) (hx:δ.ev x=.pv (.lit (kz m' (hs k)))) (ht:P.underlying t=some (.slice e)) (hi:(P.info? e).map (fun i=>(i.size,i.zero,i.bytes))=some (1,some z,bytes)) (rX:ff s=true) (kH:ff x=true) (hd:fO δ.n dst=true)
  (kD:m≤m') (Xy:m'≤(ls k).length) (fW:ls k≠ []) (hK:a_ .plain P g ops rest Q ((δ.ga i (some (.e8 e (j9 hs (eZ ls k ((ls k).take m++(ls k).drop m'++(ls k).drop (m+((ls k).length - m')))))))).eS dst (.pv (.lit (iY (m+((ls k).length - m')) (hs k)))))):a_ .plain P g ops (⟨dst,.call {callee:=.builtin .append,args:= #[s,x],argTypes:= #[t,t]},ty,pos,af,none⟩::rest) Q δ:=
 a_.pI i k m ho rfl GX (us:=((ls k).map vI).drop m') (.tail ho rfl (by simp only[a6];exact Xy) hx (by simpa using fW)) (by simp only[a6,cR];omega) (by simpa using fW) ht hi rX kH hd (by
  have e1:(((ls k).map vI).drop m').length=(ls k).length - m':=by simp
  rw[e1,tB hs ls k ((ls k).take m++(ls k).drop m'++(ls k).drop (m+((ls k).length - m'))) (by simp [cW,cX])];exact hK)
end
def gx (n:Nat) (h:Nat→Value):List (List PV):=(bc n).map fun j=>[.lit (h j)]
theorem k8 (n:Nat) (h:Nat→Value):(gx n h).length=n:=by simp [gx]
theorem HU {n k:Nat} (h:Nat→Value) (hk:k<n):(gx n h)[k]? =some [.lit (h k)]:=by simp [gx,hk]
theorem fN {n k:Nat} (h:Nat→Value) (hk:k<n) (v:Value):(gx n h).set k [.lit v]=gx n (eZ h k v):=by
 apply List.ext_getElem (by simp [gx])
 intro j h1 h2
 have hj:j<n:=by simpa [gx] using h1
 rw[List.getElem_set]
 simp only[gx,List.getElem_map,List.getElem_range]
 by_cases e:k=j
 ·subst e;rw[if_pos rfl,eW]
 ·rw[if_neg e,ft _ _ (Ne.symm e)]
theorem fl (n:Nat) (h:Nat→Value):gx n h++ [[.lit (h n)]]=gx (n+1) h:=by
 simp only[gx,List.range_succ,cV,bB,b8]
theorem a_.k8 {x:Operand} {t e e':TypeId} {i n:Nat} {h:Nat→Value} (hx:δ.ev x=.own i e' 1 (gx n h)) (ht:P.underlying t=some (.slice e)) (ho:ff x=true) (hd:fO δ.n dst=true)
  (hK:a_ q P g ops rest Q (δ.eS dst (eV (n:Nat)))):a_ q P g ops (⟨dst,.call {callee:=.builtin .len,args:= #[x],argTypes:= #[t]},ty,pos,af,none⟩::rest) Q δ:=
 a_.EF hx ht ho hd (by rw[Go.Ab.k8];exact hK)
theorem a_.Cl {x y:Operand} {t e e':TypeId} {i n:Nat} {m:Int} {h:Nat→Value} (hx:δ.ev x=.own i e' 1 (gx n h)) (hy:δ.ev y=eV m) (ht:P.underlying t=some (.slice e)) (hk:(P.info? e).map (·.size)=some 1) (ho:ff x=true) (fZ:ff y=true) (hd:fO δ.n dst=true) (h0:0≤m) (hn:m.toNat<n)
  (hK:a_ q P g ops rest Q (δ.eS dst (.gJ i e' 1 (gx n h) m.toNat))):a_ q P g ops (⟨dst,.indexAddr t x y,ty,pos,af,none⟩::rest) Q δ:=
 a_.qj (n:=m.toNat) hx (by rw[b9 h0];exact hy) (by rw[Go.Ab.k8];exact hn) ht hk ho fZ hd hK
theorem a_.jv {x:Operand} {t e:TypeId} {i n m:Nat} {h:Nat→Value} (hx:δ.ev x=.gJ i e 1 (gx n h) m) (ht:jW P t=true) (ho:ff x=true) (hd:fO δ.n dst=true) (hq:q≠ .held) (hn:m<n)
  (hK:a_ q P g ops rest Q (δ.eS dst (.pv (.lit (h m))))):a_ q P g ops (⟨dst,.load t x,ty,pos,af,none⟩::rest) Q δ:=
 a_.Ea hq hx (HU h hn) ht ho hd hK
theorem AW.xM {c:Code} (i j k t:Nat) {e:TypeId} {hs:Nat→Value} {ls:Nat→List Int} {us:List Int} {e7:List (List PV)} (ho:δ.ob i=some (.e8 e (j9 hs ls))) (hj:δ.ob j=some .row) (ht:δ.get t=.own j e 1 e7) (he:e7=us.map fun u=>[.lit (vI u)]) (hk:hs k=.slice none 0 0)
  (hK:∀v,v.oneCell'=true→AW P g c Q (((δ.gG (AV.kill j)).ga i (some (.e8 e (j9 (eZ hs k v) (eZ ls k us))))).put t (.pv (.lit v)))):AW P g c Q δ:=
 AW.qX i j k t (us:=us.map vI) ho hj ht (by rw[he,cU];rfl) hk fun v=>by
  rw[pU hs ls k v us rfl]
  intro κ a w r
  refine hK v ?_ κ a w r
  have h0:=gS r (i:=i) (rows:=j9 (eZ hs k v) (eZ ls k us)) (e:=e) (by show((δ.gG (AV.kill j)).ga i _).ob i=_;rw[jw,if_pos rfl]) k
  unfold j9 at h0
  simp only[eW] at h0
  rcases h0.2 with ⟨h1,_⟩|⟨b,cap,cur,h1,_⟩<;>rw[h1]<;>rfl
theorem AW.rm {c:Code} (i k m:Nat) {e:TypeId} {hs:Nat→Value} {ls:Nat→List Int} (ho:δ.ob i=some (.e8 e (j9 hs ls))) (hm:m≤(ls k).length) (hK:AW P g c Q (δ.ga i (some (.e8 e (j9 (eZ hs k (iY m (hs k))) (eZ ls k ((ls k).take m))))))):AW P g c Q δ:=
 AW.B0 i k m ho rfl (by rw[a6];exact hm) (by rw[pU hs ls k _ ((ls k).take m) (by rw[cW])];exact hK)
theorem AW.zI {c:Code} (e:TypeId) (hK:AW P g c Q (δ.fK (.e8 e (j9 (fun _=> .slice none 0 0) fun _=>[])))):AW P g c Q δ:=AW.wO e hK
theorem AW.ug (id i k m:Nat) {b:Bool} {l:Array Oper} {e:TypeId} {hs:Nat→Value} {ls:Nat→List Int} (ho:δ.ob i=some (.e8 e (j9 hs ls))) (hm:m≤(ls k).length) (hK:AW P g (.region id l b) Q (δ.ga i (some (.e8 e (j9 (eZ hs k (iY m (hs k))) (eZ ls k ((ls k).take m))))))):AW P g (.region id l b) Q δ:=
 AW.rm i k m ho hm hK
theorem B6 (r:Rel g δ κ a w) {i:Nat} {e:TypeId} {hs:Nat→Value} {ls:Nat→List Int} (ho:δ.ob i=some (.e8 e (j9 hs ls))) (k m:Nat):(hs k).oneCell'=true∧(iY m (hs k)).oneCell'=true:=by
 have h0:=gS r ho k
 unfold j9 at h0
 simp only at h0
 rcases h0.2 with ⟨h1,_⟩|⟨b,cap,cur,h1,_⟩<;>rw[h1]<;>exact⟨rfl,rfl⟩
theorem AW.yT {c:Code} (i:Nat) {e:TypeId} {hs:Nat→Value} {ls:Nat→List Int} (ho:δ.ob i=some (.e8 e (j9 hs ls))) (hK:(∀k,(hs k).oneCell'=true)→(∀k m,(iY m (hs k)).oneCell'=true)→AW P g c Q δ):AW P g c Q δ:=fun κ a w r=>
 hK (fun k=>(B6 r ho k 0).1) (fun k m=>(B6 r ho k m).2) κ a w r
theorem WV.fg {δ δ':DS} {u v:Value} (h:u=v):WV δ δ' (.pv (.lit u)) (.pv (.lit v)):=.eq (by rw[h]) rfl
namespace Nf
variable {i n j:Nat} {c:List PV}
theorem Sb:AV.mg i n c .any=.any:=rfl
theorem Wp (p:PV):AV.mg i n c (.pv p)=.pv p:=rfl
theorem SP (a b:Nat):AV.mg i n c (.ptr a b)=.ptr a b:=rfl
theorem Nq (d:List PV):AV.mg i n c (.fV d)=.fV d:=rfl
theorem NC (a:Nat):AV.mg i n c (.gq a)=.gq a:=rfl
theorem Qd (a:Nat):AV.mg i n c (.kO a)=.kO a:=rfl
theorem RY (e e7):AV.mg i n c (.own j e 1 e7)=bif aL i j then .own j e 1 (e7.set n c) else .own j e 1 e7:=rfl
theorem ON (e e7):AV.mg i n c (.own j e 3 e7)=bif aL i j then .any else .own j e 3 e7:=rfl
theorem OE (e k e7 m):AV.mg i n c (.gJ j e k e7 m)=bif aL i j then .any else .gJ j e k e7 m:=rfl
theorem RM (cs:List AV):AV.mg i n c (.agg cs)=.agg (lD (AV.mg i n c) cs):=by
 show AV.agg (AV.Cp (q6 i n c) cs)=_
 rw[AV.jo]
 congr 1
 induction cs with
 |nil=>rfl
 |cons a r ih=>rw[bB,ih];rfl
theorem Ss (cs:List AV):AV.mg i n c (.gX cs)=.gX (lD (AV.mg i n c) cs):=by
 show AV.gX (AV.Cp (q6 i n c) cs)=_
 rw[AV.jo]
 congr 1
 induction cs with
 |nil=>rfl
 |cons a r ih=>rw[bB,ih];rfl
set_option linter.defProp false in
def Vj:=And.intro @Sb (And.intro @Wp (And.intro @SP (And.intro @Nq (And.intro @NC (And.intro @Qd (And.intro @RY (And.intro @ON (And.intro @OE (And.intro @RM @Ss)))))))))
end Nf
end Go.Ab
/- An index into an own row of any form. -/
namespace Go.Ab
open Go Go.RowKit
variable {q:Md} {P:Program} {g:eR} {δ:DS} {ops:Array Oper} {rest:List Oper} {Q:Exit→DS→Prop} {dst:Option Nat} {ty:TypeId} {pos:String} {af:Array Edge}
theorem a_.wJ {x y:Operand} {t e e':TypeId} {i k:Nat} {m:Int} {e7:List (List PV)} (hx:δ.ev x=.own i e' k e7) (hy:δ.ev y=eV m)
  (ht:P.underlying t=some (.slice e)) (hk:(P.info? e).map (·.size)=some k) (ho:ff x=true) (fZ:ff y=true) (hd:fO δ.n dst=true) (h0:0≤m) (hn:m.toNat<e7.length)
  (hK:a_ q P g ops rest Q (δ.eS dst (.gJ i e' k e7 m.toNat))):a_ q P g ops (⟨dst,.indexAddr t x y,ty,pos,af,none⟩::rest) Q δ:=
 a_.qj (n:=m.toNat) hx (by rw[hy];show eV m=eV _;rw[b9 h0]) hn ht hk ho fZ hd hK
end Go.Ab
/- Pools of numbers:a row forgotten;a row appended to a row of the walk's own. -/
namespace Go.Ab
open Go Go.RowKit
variable {q:Md} {P:Program} {g:eR} {δ:DS} {κ:Kp} {a:Act} {w:World} {Q:Exit→DS→Prop}
variable {ops:Array Oper} {rest:List Oper} {dst:Option Nat} {ty:TypeId} {pos:String} {af:Array Edge} {gd:Option (Tmp×Bool)}
theorem AW.Jq {c:Code} (i k:Nat) {e:TypeId} {hs:Nat→Value} {ls:Nat→List Int} (ho:δ.ob i=some (.e8 e (j9 hs ls))) (hK:AW P g c Q (δ.ga i (some (.e8 e (j9 (eZ hs k (.slice none 0 0)) (eZ ls k [])))))):AW P g c Q δ:=fun κ a w r=>by
 obtain⟨κ',r',_⟩:=r.nW ho (k:=k) (w':=w) ⟨rfl,rfl,rfl,aP _,fun _ _ _=>rfl⟩ (v':=.slice none 0 0) (ys:=[]) ⟨by simp,.inl ⟨rfl,by simp⟩⟩ (by simp) (fun u hu=>by simp at hu) (fun b hb=>by cases hb)
 rw[pU hs ls k _ [] (ys:=[]) rfl] at r'
 exact hK κ' a w r'
theorem HL (r:Rel g δ κ a w) {i k:Nat} {e:TypeId} {hs:Nat→Value} {ls:Nat→List Int} (ho:δ.ob i=some (.e8 e (j9 hs ls))) {x:Operand} (hx:δ.ev x=.pv (.lit (hs k))) (kH:ff x=true):Src (δ.cx g κ) w (a.eval x) 1 ((ls k).map fun u=>[.lit (vI u)]):=by
 have h0:=gS r ho k
 have hl:=((r.obj i _ ho).2.1 k).2.1
 unfold j9 at h0 hl
 simp only[a6] at h0 hl
 have hv:a.eval x=hs k:=r.lit hx kH
 refine⟨by simpa using hl,fun c hc=>by obtain⟨u,_,rfl⟩:=bx.1 hc;rfl,?_⟩
 rw[a6]
 rcases h0.2 with ⟨h1,h2⟩|⟨b,cap,cur,h1,_,h3,hle,_,pk,rL⟩
 ·exact⟨none,0,by rw[hv,h1,h2],fun fW=>absurd (by rw[bj h2];rfl) fW⟩
 ·refine⟨_,_,by rw[hv,h1],fun fW=>⟨b,0,fun i _=>vI ((ls k).getD i 0),rfl,fun i j p hp=>?_⟩⟩
  rw[cI] at rL
  obtain⟨hi,hj⟩:i<(ls k).length∧j=0∧True:=by
   unfold cellAt at hp
   simp only[a7] at hp
   cases hq:(ls k)[i]? with
   |none=>rw[hq] at hp;simp at hp
   |some u=>
    refine⟨(aW.1 hq).1,?_,trivial⟩
    rw[hq] at hp
    cases j with
    |zero=>rfl
    |succ j=>simp at hp
  obtain⟨rfl,_⟩:=hj
  have PO:p=.lit (vI (ls k)[i]):=by
   unfold cellAt at hp
   simp only[a7,a8 hi] at hp
   simpa using hp.symm
  subst PO
  have hg:(ls k).getD i 0=(ls k)[i]:=by simp [List.getD_eq_getElem?_getD,hi]
  refine⟨?_,rfl,?_⟩
  ·rw[cell_of h3,← bC]
   show cur.toList[0+i*1+0]? =some (vI ((ls k).getD i 0))
   rw[hg,show 0+i*1+0=i by omega]
   have:=congrArg (·[i]?) rL
   simp only[bE,if_pos hi,a7,a8 hi] at this
   simpa using this
  ·show RP _ _ (vI ((ls k).getD i 0)) _
   rw[hg];exact .lit _
theorem a_.BU (i0:Nat) {s x:Operand} {t e e0:TypeId} {i bytes k:Nat} {z:Value} {e7:List (List PV)} {hs:Nat→Value} {ls:Nat→List Int} (YN:δ.ob i0=some (.e8 e0 (j9 hs ls))) (GX:δ.ev s=.own i e 1 e7) (hx:δ.ev x=.pv (.lit (hs k))) (hr:δ.ob i=some .row) (ht:P.underlying t=some (.slice e))
  (hi:(P.info? e).map (fun i=>(i.size,i.zero,i.bytes))=some (1,some z,bytes)) (Jk:bz bytes 64=true) (l7:aL z.cells.size 1=true) (ho:ff s=true) (fZ:ff x=true) (hd:fO δ.n dst=true)
  (hl:e7.length+(ls k).length≤1000000000000) (hK:a_ .plain P g ops rest Q ((δ.gG (AV.kill i)).eS dst (.own i e 1 (e7++(ls k).map fun u=>[.lit (vI u)])))):
  a_ .plain P g ops (⟨dst,.call {callee:=.builtin .append,args:= #[s,x],argTypes:= #[t,t]},ty,pos,af,none⟩::rest) Q δ:=
 a_.r_ rfl rfl (fun κ a w r=>by
  obtain⟨v',w',κ',h1,h2,h3⟩:=pG (ty:=ty) r hr (r.ra GX ho).iW (HL r YN hx fZ) ht hi (Nat.eq_of_beq_eq_true l7) (by simp) (xO Jk (by rw[a6];exact hl)) (by rw[a6];omega)
  exact .inl ⟨_,_,_,_,nB h1,.inl rfl,h2.eS (fi hd) (.own h3)⟩) hK
theorem a_.FA (i:Nat) {x y:Operand} {t e e' t':TypeId} {k:Nat} {hs:Nat→Value} {ls:Nat→List Int} (ho:δ.ob i=some (.e8 e' (j9 hs ls))) (hx:δ.ev x=.pv (.lit (hs k))) (hy:δ.ev y=.pv (.lit (.slice none 0 0))) (ht:P.underlying t=some (.slice e)) (kH:ff x=true) (kv:ff y=true) (hd:fO δ.n dst=true) (fW:0<(ls k).length)
  (hK:a_ q P g ops rest Q (δ.eS dst (fh false))):a_ q P g ops (⟨dst,.binOp .eql t x y t',ty,pos,af,none⟩::rest) Q δ:=
 a_.jc _ hd (fun κ a w r=>by
  have h0:=gS r ho k
  unfold j9 at h0
  simp only[a6] at h0
  have hv:a.eval x=hs k:=r.lit hx kH
  have h2:=r.lit hy kv
  rcases h0.2 with ⟨_,h3⟩|⟨b,cap,cur,h1,_⟩
  ·exfalso;omega
  ·refine⟨.bool false,fun w' _=>?_,.pv (.lit _)⟩
   have:=ru ht x y (some ⟨b,0,none⟩) (ls k).length cap w'
   rw[h1] at hv
   simp only[execOp,hv,h2]
   simp only[Sem.run_bind,this,Result.andThen_ok] at*
   first|rfl|simp [this]) hK
end Go.Ab
/- A row of the walk's own with elements is not nil. -/
namespace Go.Ab
open Go Go.RowKit
variable {q:Md} {P:Program} {g:eR} {δ:DS} {κ:Kp} {a:Act} {w:World} {Q:Exit→DS→Prop}
variable {ops:Array Oper} {rest:List Oper} {dst:Option Nat} {ty:TypeId} {pos:String} {af:Array Edge} {gd:Option (Tmp×Bool)}
theorem a_.Fk {x y:Operand} {t e e' t':TypeId} {i k:Nat} {e7:List (List PV)} (hx:δ.ev x=.own i e' k e7) (hy:δ.ev y=.pv (.lit (.slice none 0 0))) (ht:P.underlying t=some (.slice e)) (kH:ff x=true) (kv:ff y=true) (hd:fO δ.n dst=true) (fW:0<e7.length)
  (hK:a_ q P g ops rest Q (δ.eS dst (fh false))):a_ q P g ops (⟨dst,.binOp .eql t x y t',ty,pos,af,none⟩::rest) Q δ:=
 a_.jc _ hd (fun κ a w r=>by
  obtain⟨xs,⟨_,gF⟩,_⟩:=(r.ra hx kH).iW.row
  have h2:=r.lit hy kv
  rcases gF with ⟨_,h3⟩|⟨b,cap,cur,h1,_⟩
  ·exfalso;omega
  ·refine⟨.bool false,fun w' _=>?_,.pv (.lit _)⟩
   have:=ru ht x y (some ⟨b,0,none⟩) e7.length cap w'
   simp only[execOp,h1,h2]
   simp only[Sem.run_bind,this,Result.andThen_ok] at*
   first|rfl|simp [this]) hK
end Go.Ab
/- Contracts of functions that panic;an own panic. -/
namespace Go.Ab
open Go Go.RowKit
variable {q:Md} {P:Program} {g:eR} {δ:DS} {κ:Kp} {a:Act} {w:World}
variable {ops:Array Oper} {rest:List Oper} {Q:Exit→DS→Prop} {dst:Option Nat} {ty:TypeId} {pos:String} {af:Array Edge}
theorem Mq (i_:g.wt=none) (wZ:g.base=[]) {fn:Func} {ch:List PanicEntry} {R:Ending→World→Prop}:∀{a:Act} {w:World},Rel g δ κ a w→
  (∀w2,Rel g δ κ {a with defers:=[]} w2→R (.panicked ch) w2)→LeavesInM Fence.wide 0 P fn a.tmps R a.defers (.panicking ch) w:=by
 intro a w r hR
 obtain⟨ms,h1,h2,h3⟩:=r.dfr
 rw[wZ,bt] at h1
 rw[h1]
 induction ms generalizing a w with
 |nil=>
  have ra:Rel g δ κ {a with defers:=[]} w:={r with dfr:=⟨[],by rw[wZ];rfl,h2,h3⟩,kc:=fun d hd=>by cases hd}
  exact hR w ra
 |cons m ms ih=>
  refine⟨by simp,.inl ⟨m,_,rfl,run_takeDeferred (h3 m (by simp)).2,?_⟩⟩
  have hm:=h3 m (by simp)
  rw[bu] at h2
  have jl:=cY.1 h2
  have tU:∀k∈ms++g.mks,g.B≤k∧(w.putObj m (.deferred none)).heap[k]? =some (.deferred (some [])):=fun k hk=>
   ⟨(h3 k (by simp only[bu,bw];exact .inr hk)).1,by rw[World.putObj_heap_other (by intro e;subst e;exact jl.1 hk)];exact(h3 k (by simp only[bu,bw];exact .inr hk)).2⟩
  have hd:Fe g {a with defers:=ms.map fun r=>({target:=.collected r,args:= #[]}:Deferred)} (w.putObj m (.deferred none)):=⟨ms,by rw[wZ,bt],jl.2,tU⟩
  have r2:=r.shut i_ hm.1 hm.2 (a':={a with defers:=ms.map fun r=>({target:=.collected r,args:= #[]}:Deferred)}) rfl (fun d hd=>by rw[h1];exact bx.2 (let ⟨x,hx,e⟩:=bx.1 hd;⟨x,by simp [hx],e⟩)) (r.kc {target:=.collected m,args:= #[]} (by rw[h1];exact bx.2 ⟨m,by simp,rfl⟩) m rfl) hd
  exact ih (a:={a with defers:=ms.map fun r=>({target:=.collected r,args:= #[]}:Deferred)}) r2 (fun w2 r3=>hR w2 r3) rfl jl.2 tU
theorem W9.enter {T:World→Prop} {t:TypeId} {f:FuncId} {fn:Func} {c:Code} {n n0:Nat} {d_ eU:List (Nat×Option Ob)} {args:List AV} (hf:P.funcs[f]? =some fn) (hb:fn.body=some c) (hn:fn.ntmps=n) (Cb:bz args.length n=true)
  (pH:bz n HS=true) (he:(fn.name== "runtime.NumGoroutine")=false) (tI:sr d_ d_=true) (uA:sG n0 eU=true)
  (h:∀g:eR,g.ro=none→g.wt=none→TB T g→AW P g c (MH t d_ eU) ⟨n,enum 0 args++ [(1000,.agg (gI d_))],d_,n0⟩):W9 T P t f n0 d_ args eU:=by
 refine rU.enter (Q:=MH t d_ eU) hf hb hn Cb pH he tI (fun _=>uA) h fun g e δ' κ' a' w' R i_ wZ hq r' hR=>?_
 cases e with
 |panic ch=>
  obtain⟨h1,h2,h3,h4⟩:=hq
  exact Mq (g:=g) i_ wZ r' fun w2 r2=>hR () h2 h3 h4 _ _ r2 ⟨ch,rfl,h1⟩
 |_=>exact hq.elim
theorem WV.rn {δ δ':DS} {cs ds:List AV} (h:Dk δ δ' cs ds):WV δ δ' (.agg cs) (.agg ds):=by
 have key:∀{cs ds:List AV},Dk δ δ' cs ds→cs.length=ds.length∧∀(j:Nat) (c d:AV),cs[j]? =some c→ds[j]? =some d→WV δ δ' c d:=by
  intro cs
  induction cs with
  |nil=>
   intro ds h
   cases ds with
   |nil=>exact⟨rfl,fun j c d h1=>by simp at h1⟩
   |cons d ds=>exact h.elim
  |cons c cs ih=>
   intro ds h
   cases ds with
   |nil=>exact h.elim
   |cons d ds=>
    obtain⟨h1,h2⟩:=h
    obtain⟨h3,h4⟩:=ih h2
    refine⟨by simp [h3],fun j c' d' h5 h6=>?_⟩
    cases j with
    |zero=>simp at h5 h6;subst h5;subst h6;exact h1
    |succ j=>exact h4 j c' d' (by simpa using h5) (by simpa using h6)
 exact .agg (key h).1 (key h).2
variable {k:Wt} {late:List Nat} {l:List Oper} {dn:List Nat} {QD:Exit→DS→Prop}
end Go.Ab
/- A strings.Builder's own steps:a variable told by its very cells and its type,pointers through unsafe.Pointer,pointers held against nil and themselves;String. -/
namespace Go.Ab
open Go Go.RowKit
variable {q:Md} {P:Program} {g:eR} {δ:DS} {κ:Kp} {a:Act} {w:World}
variable {ops:Array Oper} {rest:List Oper} {Q:Exit→DS→Prop} {dst:Option Nat} {ty:TypeId} {pos:String} {af:Array Edge} {gd:Option (Tmp×Bool)}
theorem AW.BF {c:Code} (h:AW P g c Q (δ.fK .row)):AW P g c Q δ:=fun κ a w r=>by
 obtain⟨r1,_⟩:=r.BF
 exact h _ _ _ r1
theorem a_.BF {l:List Oper} (h:a_ .plain P g ops l Q (δ.fK .row)):a_ .plain P g ops l Q δ:=fun κ a w r=>by
 obtain⟨r1,_⟩:=r.BF
 exact h _ _ _ r1
theorem Kq (op:BinOp) (t:TypeId) (x y:Operand) (u v:Option Addr) (w:World):(eqGuard op t x y (.pointer u) (.pointer v)).run P w=.ok () w:=by
 unfold eqGuard
 cases op<;>simp [Sem.run,pure,Sem.bind,bind]
theorem vS {tp te:TypeId} (u:Option Addr) (hp:P.underlying tp=some (.pointer te)) (TI:(P.info? te).isSome=true) (w:World):(Go.binOp .eql tp (.pointer u) (.pointer none)).run P w=.ok (.bool u.isNone) w:=by
 obtain⟨j,hj⟩:=Option.isSome_iff_exists.1 TI
 have h:∀d:Nat,(Op.equalIn (d+1) tp (.pointer u) (.pointer none)).run P w=.ok u.isNone w:=fun d=>by
  cases u<;>simp [Op.equalIn,run_underlying hp,sizeOf,typeInfo,hj]
 simp only[Go.binOp]
 simp [Op.equal,Op.maxDepth,h 9999]
theorem a_.Qw {x y:Operand} {t te t':TypeId} {i off:Nat} (hx:δ.ev x=.ptr i off) (hy:δ.ev y=.pv (.lit (.pointer none))) (hp:P.underlying t=some (.pointer te)) (TI:(P.info? te).isSome=true) (ho:ff x=true) (fZ:ff y=true) (hd:fO δ.n dst=true)
  (hK:a_ q P g ops rest Q (δ.eS dst (fh false))):a_ q P g ops (⟨dst,.binOp .eql t x y t',ty,pos,af,none⟩::rest) Q δ:=
 a_.jc _ hd (fun κ a w r=>⟨.bool false,fun w' _=>by
  have h1:=r.ra hx ho
  have h2:=r.lit hy fZ
  generalize hv:a.eval x=v at h1
  cases h1 with
  | @ptr _ _ b hl hκ=>
   have:=vS (P:=P) (some ⟨b,off,none⟩) hp TI w'
   simp only[execOp,hv,h2,Sem.run_bind,Kq,Result.andThen_ok,this]
   rfl,.pv (.lit _)⟩) hK
inductive JA:List Value→List AV→Prop
 |nil:JA [] []
 |cons {v:Value} {vs:List Value} {l:List AV} (h:JA vs l):JA (v::vs) (.pv (.lit v)::l)
theorem JA.eq {vs:List Value} {l:List AV} (h:JA vs l):vs.map (fun u=> .pv (.lit u))=l:=by
 induction h with
 |nil=>rfl
 |cons h ih=>rw[bB,ih]
end Go.Ab
/- strings.Builder's String over objects. -/
set_option maxHeartbeats 1000000
set_option maxRecDepth 100000
namespace Go.Ab
open Go Go.RowKit Go.Proofs Go.Shelf
variable {P:Program} {ρ:Ren}
end Go.Ab
/- A function that defers a closure over two of its variables,which recovers. -/
namespace Go.Ab
open Go Go.RowKit
variable {P:Program} {g:eR} {δ:DS} {κ:Kp} {a:Act} {w:World} {Q:Exit→DS→Prop}
def WW (P:Program) (g:eR) (c:Code) (R:Exit→Act→World→Prop) (δ:DS):Prop:=∀κ a w,Rel g δ κ a w→c.wpIn (Fw g.ro) 0 P R a w
theorem WW.of {c:Code} {R:Exit→Act→World→Prop} (h:AW P g c Q δ) (hR:∀e a w,lift g Q e a w→R e a w):WW P g c R δ:=fun κ a w r=>wpIn_mono (h κ a w r) hR
def Vg (P:Program) (g:eR) (c:Code) (R:Exit→Act→World→Prop) (δ:DS):Prop:=∀κ a w,a.defers=[]→Rel g δ κ a w→c.wpIn (Fw g.ro) 0 P R a w
def P4 (P:Program) (g:eR) (ops:Array Oper) (l:List Oper) (c:Code) (R:Exit→Act→World→Prop) (δ:DS):Prop:=∀κ a w,a.defers=[]→Rel g δ κ a w→wpListIn (Fw g.ro) 0 P ops (Exit.then (c.wpIn (Fw g.ro) 0 P R) R) l a w
theorem Vg.region {id:Nat} {l:List Oper} {c:Code} {R:Exit→Act→World→Prop} (h:P4 P g l.toArray l c R δ):Vg P g (.seq (.region id l.toArray false) c) R δ:=
 fun κ a w ha r=>wpIn_seq (wpIn_region_lit (h κ a w ha r))
theorem P4.nil {ops:Array Oper} {c:Code} {R:Exit→Act→World→Prop} (h:Vg P g c R δ):P4 P g ops [] c R δ:=fun κ a w ha r=>by
 unfold wpListIn
 exact h κ a w ha r
theorem P4.r_ {ops:Array Oper} {o:Oper} {rest:List Oper} {c:Code} {R:Exit→Act→World→Prop} {δ':DS} (hg:o.guard=none) (jl:jC o=true) (h:iO P g o δ δ') (hc:∀(a:Act) (w:World) f vals,(execOp a.eval o).run P w≠ .ok (.enter f vals) w) (hK:P4 P g ops rest c R δ'):P4 P g ops (o::rest) c R δ:=by
 intro κ a w ha r
 refine gw hg jl fun K nb=>?_
 unfold Oper.wW
 rcases h κ a w r with ⟨x,v,w',κ',fu,hx,r'⟩|⟨f,vals,fu,_⟩
 ·rw[fu]
  rcases hx with rfl|⟨rfl,rfl⟩
  ·simp only[Oper.uponIn]
   exact nb _ _ (hK κ' _ _ (by cases o.dst<;>exact ha) r')
  ·simp only[Oper.uponIn]
   exact nb _ _ (hK κ' _ _ (by cases o.dst<;>exact ha) r')
 ·exact absurd fu (hc _ _ _ _)
theorem C3 (i_:g.wt=none) {fn:Func} {u:FrameMode} (hu:u≠ .run) {R:Ending→World→Prop}:∀{a:Act} {w:World},Rel g δ κ a w→
  (∀w2,Rel g δ κ {a with defers:=g.base} w2→LeavesInM Fence.wide 0 P fn a.tmps R g.base u w2)→LeavesInM Fence.wide 0 P fn a.tmps R a.defers u w:=by
 intro a w r hR
 obtain⟨ms,h1,h2,h3⟩:=r.dfr
 rw[h1]
 induction ms generalizing a w with
 |nil=>
  have ra:Rel g δ κ {a with defers:=g.base} w:={r with dfr:=⟨[],rfl,h2,h3⟩,kc:=fun d hd=>r.kc d (by rw[h1];exact hd)}
  exact hR w ra
 |cons m ms ih=>
  refine⟨hu,.inl ⟨m,_,rfl,run_takeDeferred (h3 m (by simp)).2,?_⟩⟩
  have hm:=h3 m (by simp)
  rw[bu] at h2
  have jl:=cY.1 h2
  have tU:∀k∈ms++g.mks,g.B≤k∧(w.putObj m (.deferred none)).heap[k]? =some (.deferred (some [])):=fun k hk=>
   ⟨(h3 k (by simp only[bu,bw];exact .inr hk)).1,by rw[World.putObj_heap_other (by intro e;subst e;exact jl.1 hk)];exact(h3 k (by simp only[bu,bw];exact .inr hk)).2⟩
  have hd:Fe g {a with defers:=(ms.map fun r=>({target:=.collected r,args:= #[]}:Deferred))++g.base} (w.putObj m (.deferred none)):=⟨ms,rfl,jl.2,tU⟩
  have r2:=r.shut i_ hm.1 hm.2 (a':={a with defers:=(ms.map fun r=>({target:=.collected r,args:= #[]}:Deferred))++g.base}) rfl (fun d hd=>by rw[h1,bB,bu];exact List.mem_cons_of_mem _ hd) (r.kc {target:=.collected m,args:= #[]} (by rw[h1];simp) m rfl) hd
  exact ih (a:={a with defers:=(ms.map fun r=>({target:=.collected r,args:= #[]}:Deferred))++g.base}) r2 (fun w2 r3=>hR w2 r3) rfl jl.2 tU
end Go.Ab
/- Functions of four results whose outcome is told by a relation. -/
namespace Go.Ab
open Go Go.RowKit
variable {P:Program} {g:eR} {δ:DS} {κ:Kp} {a:Act} {w:World}
inductive BE (P:Program) (δ:DS):List ResultVar→AV→Prop
 |four {r1 r2 r3 r4:ResultVar} {v1 v2 v3 v4:AV} (h1:nV P δ r1 v1) (h2:nV P δ r2 v2) (h3:nV P δ r3 v3) (h4:nV P δ r4 v4):BE P δ [r1,r2,r3,r4] (.gX [v1,v2,v3,v4])
theorem Mk {C:Cx} {w:World} {u1 u2 u3 u4:Value} {v1 v2 v3 v4:AV} (h1:RA C w u1 v1) (h2:RA C w u2 v2) (h3:RA C w u3 v3) (h4:RA C w u4 v4):RA C w (.tuple #[u1,u2,u3,u4]) (.gX [v1,v2,v3,v4]):=by
 refine .gX rfl fun j u c k1 k2=>?_
 match j with
 |0=>simp at k1 k2;subst k1;subst k2;exact h1
 |1=>simp at k1 k2;subst k1;subst k2;exact h2
 |2=>simp at k1 k2;subst k1;subst k2;exact h3
 |3=>simp at k1 k2;subst k1;subst k2;exact h4
 |j+4=>simp at k2
theorem BE.run {fn:Func} {rs:List ResultVar} (sI:fn.results=rs.toArray) {v:AV} (h:BE P δ rs v) (r:Rel g δ κ a w):∃u,(results fn a.tmps).run P w=.ok u w∧RA (δ.cx g κ) w u v:=by
 rw[vg (P:=P),sI]
 cases h with
 |four h1 h2 h3 h4=>
  obtain⟨u1,h1,k1⟩:=h1.run r
  obtain⟨u2,h2,k2⟩:=h2.run r
  obtain⟨u3,h3,k3⟩:=h3.run r
  obtain⟨u4,h4,k4⟩:=h4.run r
  exact⟨.tuple #[u1,u2,u3,u4],by simp [Array.mapM_eq_foldlM,h1,h2,h3,h4],Mk k1 k2 k3 k4⟩
theorem K8 (i_:g.wt=none) (wZ:g.base=[]) {fn:Func} {rs:List ResultVar} (sI:fn.results=rs.toArray) {v:AV} (h:BE P δ rs v) {R:Ending→World→Prop} {a:Act} {w:World} (r:Rel g δ κ a w)
  (hR:∀w2,Rel g δ κ {a with defers:=[]} w2→∀u,RA (δ.cx g κ) w2 u v→R (.returned u) w2):LeavesInM Fence.wide 0 P fn a.tmps R a.defers .returning w:=by
 refine C3 i_ (by simp) r fun w2 r2=>?_
 rw[wZ]
 rw[wZ] at r2
 obtain⟨u,h4,h5⟩:=h.run sI r2
 exact⟨u,h4,hR w2 r2 u h5⟩
def y9 {α:Type} (P:Program) (rs:List ResultVar) (d_:List (Nat×Option Ob)) (p:α→Prop) (eU:α→List (Nat×Option Ob)) (r:α→AV):Exit→DS→Prop
 |.normal,δ|.ret,δ=>∃x,p x∧∃v,BE P δ rs v∧WV δ (XF δ d_ (eU x)) v (r x)∧WV δ (XF δ d_ (eU x)) (δ.get 1000) (.agg (gI d_))∧oc δ (XF δ d_ (eU x)) (eU x)∧sG δ.nx (eU x)=true
 |_,_=>False
theorem CO {α:Type} {rs:List ResultVar} {d_:List (Nat×Option Ob)} {p:α→Prop} {eU:α→List (Nat×Option Ob)} {r:α→AV} {v:AV} (x:α) (hp:p x) (h:BE P δ rs v) (hw:Dk δ (XF δ d_ (eU x)) [v,δ.get 1000] [r x,.agg (gI d_)]) (ho:oc δ (XF δ d_ (eU x)) (eU x)) (hx:sG δ.nx (eU x)=true):y9 P rs d_ p eU r .ret δ:=⟨x,hp,v,h,hw.1,hw.2.1,ho,hx⟩
theorem tP.Oq {α:Type} {f:FuncId} {fn:Func} {c:Code} {rs:List ResultVar} {n n0:Nat} {d_:List (Nat×Option Ob)} {args:List AV} {p:α→Prop} {eU:α→List (Nat×Option Ob)} {r:α→AV} (hf:P.funcs[f]? =some fn) (hb:fn.body=some c) (sI:fn.results=rs.toArray) (hn:fn.ntmps=n) (Cb:bz args.length n=true)
  (pH:bz n HS=true) (he:(fn.name== "runtime.NumGoroutine")=false) (tI:sr d_ d_=true) (uA:∀x,sG n0 (eU x)=true)
  (h:∀g:eR,g.ro=none→g.wt=none→AW P g c (y9 P rs d_ p eU r) ⟨n,enum 0 args++ [(1000,.agg (gI d_))],d_,n0⟩):tP P f n0 d_ args p eU r:=by
 refine rU.enter (Q:=y9 P rs d_ p eU r) hf hb hn Cb pH he tI uA (fun g h1 h2 _=>h g h1 h2) fun g e δ' κ' a' w' R i_ wZ hq r' hR=>?_
 have fin:(∃x,p x∧∃v,BE P δ' rs v∧WV δ' (XF δ' d_ (eU x)) v (r x)∧WV δ' (XF δ' d_ (eU x)) (δ'.get 1000) (.agg (gI d_))∧oc δ' (XF δ' d_ (eU x)) (eU x)∧sG δ'.nx (eU x)=true)→
   LeavesInM Fence.wide 0 P fn a'.tmps R a'.defers .returning w':=fun⟨x,VL,v,h1,hv,hp,ho,hx⟩=>
  K8 (g:=g) i_ wZ sI h1 r' fun w2 r2 u hu=>hR x hp ho hx _ _ r2 ⟨VL,u,rfl,hu.wv (δ:=δ') (δ':=XF δ' d_ (eU x)) r2.lu r2.obj hv⟩
 cases e with
 |normal=>exact fin hq
 |ret=>exact fin hq
 |_=>exact hq.elim
end Go.Ab
/- Equality of structs of three whole numbers. -/
namespace Go.Ab
open Go Go.RowKit
variable {q:Md} {P:Program} {g:eR} {δ:DS} {κ:Kp} {a:Act} {w:World}
variable {ops:Array Oper} {rest:List Oper} {Q:Exit→DS→Prop} {dst:Option Nat} {ty:TypeId} {pos:String} {af:Array Edge}
end Go.Ab
/- The builtin copy into a row of the walk's own,of one-cell elements. -/
namespace Go.Ab
open Go Go.RowKit
variable {P:Program} {g:eR} {δ:DS} {κ:Kp} {a:Act} {w:World}
variable {ops:Array Oper} {rest:List Oper} {Q:Exit→DS→Prop} {dst:Option Nat} {ty:TypeId} {pos:String} {af:Array Edge} {gd:Option (Tmp×Bool)}
def copied {α:Type} (src e7:List α):List α:=src.take (min src.length e7.length)++e7.drop (min src.length e7.length)
theorem oq {α:Type} (src e7:List α):(copied src e7).length=e7.length:=by unfold copied;simp;omega
theorem DO {α:Type} {src e7:List α} {i:Nat} (h:i<e7.length):(copied src e7)[i]? =if i<src.length then src[i]? else e7[i]?:=by
 unfold copied
 by_cases hi:i<src.length
 ·rw[if_pos hi,aT (by simp;omega),bE,if_pos aJ]
 ·rw[if_neg hi,aV (by simp;omega),bF]
  congr 1
  simp;omega
theorem iO.copy {dT sT elem:TypeId} (ts:List Nat) {x y:Operand} {i:Nat} {e:TypeId} {e7 src:List (List PV)} (hx:δ.ev x=.own i e 1 e7) (hy:δ.ev y=.pv (.slice 1 src)) (sZ:yw δ (.own i e 1 e7) ts) (hr:δ.ob i=some .row)
  (hu:P.underlying dT=some (.slice elem)) (mZ:(P.info? elem).map (·.size)=some 1) (ho:ff x=true) (fZ:ff y=true) (hd:fO δ.n dst=true):
  iO P g ⟨dst,.call {callee:=.builtin .copy,args:= #[x,y],argTypes:= #[dT,sT]},ty,pos,af,none⟩ δ ((jD (δ.gG (AV.kill i)) (.own i e 1 (copied src e7)) ts).eS dst (eV (min src.length e7.length:Nat))):=by
 intro κ a w r
 left
 have xo:=(r.ra hx ho).iW
 have vW:=(r.ra hy fZ).k9
 have qR:fO (jD (δ.gG (AV.kill i)) (.own i e 1 (copied src e7)) ts).n dst=true:=by rw[Bl];exact hd
 have mU:∀t∈ts,jy (δ.cx g κ) w (g.val a t) i e 1 e7:=fun t ht=>by
  have:=r.env t
  rw[qf sZ t ht] at this
  exact this.iW
 have m_:((δ.gG (AV.kill i)).cx g κ).Lr i:=by
  show(δ.gG (AV.kill i)).ob i=some .row
  rw[j_,hr];rfl
 obtain⟨n,hn⟩:∃n,n=min src.length e7.length:=⟨_,rfl⟩
 generalize XT:a.eval y=yv at vW
 cases vW with
 | @slice sa len scap _ _ sb soff vs hl mM hb ha hk hc MK=>
  subst hl
  have Rl:n=0→(∃v w',(execOp a.eval ⟨dst,.call {callee:=.builtin .copy,args:= #[x,y],argTypes:= #[dT,sT]},ty,pos,af,none⟩).run P w=.ok (.value v) w'∧Rel g ((jD (δ.gG (AV.kill i)) (.own i e 1 (copied src e7)) ts).eS dst (eV (n:Nat))) κ (a.put dst v) w'):=by
   intro h0
   obtain⟨xs0,Xe⟩:=xo.row
   obtain⟨sa',sc',J0⟩:=xo.inv
   have fu:=run_copy_none (P:=P) w dT sT ty elem sa' sa e7.length sc' src.length scap hu mZ (show Nat.min src.length e7.length=0 by show min src.length e7.length=0;omega)
   refine⟨goInt 0,w,?_,?_⟩
   ·simp [execOp,resolve,invoke,builtin,J0,XT,fu,Result.andThen]
   ·obtain⟨rk,G⟩:=r.row hr (κ':=κ) (w':=w) (fun _ _=>rfl) ⟨rfl,rfl,rfl,aP _,fun _ _ _=>rfl⟩ (fun b ja=>by
     obtain⟨c,e',h1⟩:=r.obj i .row hr b ja
     exact⟨.inl ja,(aO.1 h1).1,c,e',h1⟩) (AV.kill i) rfl (fun G v av h=>h.kill G)
    have U2:copied src e7=e7:=by unfold copied;rw[← hn,h0];simp
    have ra:Rel g (jD (δ.gG (AV.kill i)) (.own i e 1 (copied src e7)) ts) κ a w:=rk.pC ts fun t ht=>by
     have h1:=mU t ht
     rw[U2]
     obtain⟨xs,h3,h4,h5⟩:=h1.row
     exact .own ⟨m_,h1.lim,h1.hk,h1.wI,xs,h3,h4,fun i' j p hp=>let ⟨u,h6,h7⟩:=h5 i' j p hp;⟨u,h6,G.rp (C:=(δ.cx g κ).less i) h7⟩⟩
    rw[h0]
    exact ra.eS (fi qR) (by rw[mD];exact .pv (.lit _))
  rw[← hn]
  by_cases h0:n=0
  ·obtain⟨v,w',h1,h2⟩:=Rl h0
   exact⟨_,v,w',κ,h1,.inl rfl,h2⟩
  ·obtain⟨xs,⟨sD,gF⟩,o9,lj⟩:=xo.row
   rw[cI] at sD
   rcases gF with ⟨_,hz⟩|⟨b,cap,c,hv,hB,GQ,hcp,nk,pk,rL⟩
   ·omega
   ·have hκ:κ i=some b:=xo.wI b (by rw[hv];rfl)
    rw[cI] at pk rL
    obtain⟨VD,hNb,hsb⟩:=ha (by rintro rfl;simp at hn;omega)
    subst VD
    obtain⟨cs,R5⟩:∃cs,cs=(bc n).map fun j=>vs j 0:=⟨_,rfl⟩
    have iR:cs.length=n:=by rw[R5];simp
    have PG:∀j,j<n→cs[j]? =some (vs j 0):=fun j hj=>by rw[R5,a7,List.getElem?_range hj];rfl
    have PS:∀j,j<n→∃p,cellAt src j 0=some p:=fun j hj=>by
     have ng:j<src.length:=by omega
     have:=hk _ (cZ ng)
     have h1:0<src[j].length:=by omega
     exact⟨src[j][0],by simp [cellAt,a8 ng,a8 h1]⟩
    have fu:=run_copy_row (P:=P) w dT sT ty elem b 0 e7.length cap ⟨sb,soff,none⟩ src.length scap c e cs hu mZ GQ (by rw[iR];exact hn) (fun j v hj=>by
      have Lk:j<n:=by have:=(aW.1 hj).1;omega
      rw[PG j Lk] at hj
      cases hj
      obtain⟨p,hp⟩:=PS j Lk
      have:=(hc j 0 p hp).1
      rw[addr_add]
      simpa using this) aJ (fun v MB=>by
      obtain⟨j,hj⟩:=bA MB
      have Lk:j<n:=by have:=(aW.1 hj).1;omega
      rw[PG j Lk] at hj
      cases hj
      obtain⟨p,hp⟩:=PS j Lk
      exact(hc j 0 p hp).2)
    obtain⟨nw,zD⟩:∃nw:List Value,nw=c.toList.take 0++cs++c.toList.drop (0+cs.length):=⟨_,rfl⟩
    have QE:nw=cs++c.toList.drop n:=by rw[zD,iR];simp
    rw[← zD] at fu
    have hh:(w.setRow b nw.toArray).heap[b]? =some (.cells nw.toArray e (0,0)):=setRow_heap w b c nw.toArray e (0,0) GQ
    have hT:ir w (w.setRow b nw.toArray) (κ i):=by
     rw[hκ]
     exact⟨rfl,rfl,rfl,by simp [World.setRow],fun k _ fW=>setRow_other w b k _ (fun e'=>fW (by rw[e']))⟩
    obtain⟨rk,G⟩:=r.row hr (κ':=κ) (fun _ _=>rfl) hT (fun b' ja=>by
     obtain rfl:b=b':=Option.some.inj (hκ.symm.trans ja)
     exact⟨.inl hκ,(aO.1 hh).1,_,_,hh⟩) (AV.kill i) rfl (fun G v av h=>h.kill G)
    have ZU:nw.take e7.length=cs++xs.drop n:=by
     rw[QE,List.take_append,iR]
     congr 1
     ·exact cG (by omega)
     ·rw[← rL,List.drop_take]
    have ra:Rel g (jD (δ.gG (AV.kill i)) (.own i e 1 (copied src e7)) ts) κ a (w.setRow b nw.toArray):=rk.pC ts fun t ht=>by
     obtain⟨h1,h2,h3,h4,xs',⟨SH,qM⟩,_,_⟩:=mU t ht
     refine .own ⟨m_,by rw[oq];exact h2,fun d uH=>?_,h4,cs++xs.drop n,⟨?_,?_⟩,fun u N9=>?_,fun i' j p hp=>?_⟩
     ·unfold copied at uH
      rcases bX.1 uH with uH|uH
      ·exact hk d (cT uH)
      ·exact h3 d (bL uH)
     ·rw[oq,cI];simp;omega
     ·rw[oq]
      rcases qM with ⟨hn',hz⟩|⟨b',cap',c',MB,X2,Pp,Ve,Hk,Wx,UG⟩
      ·omega
      ·have Da:κ i=some b':=h4 b' (by rw[MB];rfl)
       obtain rfl:b=b':=Option.some.inj (hκ.symm.trans Da)
       rw[GQ] at Pp
       simp only[Option.some.injEq,Obj.cells.injEq] at Pp
       obtain⟨rfl,_⟩:=Pp
       have Aq:nw.length=c.size:=by rw[QE];simp;omega
       refine .inr ⟨b,cap',nw.toArray,MB,X2,hh,Ve,Hk,by simp;omega,?_⟩
       rw[cI,List.toList_toArray];exact ZU
     ·rcases bX.1 N9 with N9|N9
      ·obtain⟨j,hj⟩:=bA N9
       have Lk:j<n:=by have:=(aW.1 hj).1;omega
       rw[PG j Lk] at hj
       cases hj
       obtain⟨p,hp⟩:=PS j Lk
       exact(hc j 0 p hp).2
      ·exact o9 u (bL N9)
     ·have t_:i'<e7.length:=by
       unfold cellAt at hp
       cases hq:(copied src e7)[i']? with
       |none=>rw[hq] at hp;simp at hp
       |some q=>have:=(aW.1 hq).1;rw[oq] at this;exact this
      have l9:cellAt (if i'<src.length then src else e7) i' j=some p:=by
       unfold cellAt at hp ⊢
       rw[DO t_] at hp
       split at hp
       ·rename_i h;rw[if_pos h];exact hp
       ·rename_i h;rw[if_neg h];exact hp
      by_cases Tj:i'<src.length
      ·rw[if_pos Tj] at l9
       have PA:j=0:=by
        unfold cellAt at l9
        rw[a8 Tj] at l9
        have h6:=hk _ (cZ Tj)
        have:=(aW.1 l9).1
        omega
       subst PA
       have iJ:i'<n:=by omega
       refine⟨vs i' 0,?_,G.rp (C:=(δ.cx g κ).less i) (MK i' 0 p l9)⟩
       rw[cI,bd,aT aJ,PG i' iJ]
      ·rw[if_neg Tj] at l9
       obtain⟨u,h6,h7⟩:=lj i' j p l9
       have PA:j=0:=by
        unfold cellAt at l9
        rw[a8 t_] at l9
        have h8:=xo.hk _ (cZ t_)
        have:=(aW.1 l9).1
        omega
       subst PA
       refine⟨u,?_,G.rp (C:=(δ.cx g κ).less i) h7⟩
       rw[cI,bd] at h6 ⊢
       rw[aV aJ,bF,iR,← h6]
       congr 1;omega
    refine⟨.value (goInt n),goInt n,w.setRow b nw.toArray,κ,?_,.inl rfl,ra.eS (fi qR) (by rw[mD];exact .pv (.lit _))⟩
    rw[iR] at fu
    simp [execOp,resolve,invoke,builtin,hv,XT,fu,Result.andThen]
theorem a_.copy {dT sT elem:TypeId} (ts:List Nat) {x y:Operand} {i:Nat} {e:TypeId} {e7 src:List (List PV)} (hx:δ.ev x=.own i e 1 e7) (hy:δ.ev y=.pv (.slice 1 src)) (sZ:yw δ (.own i e 1 e7) ts) (hr:δ.ob i=some .row)
  (hu:P.underlying dT=some (.slice elem)) (mZ:(P.info? elem).map (·.size)=some 1) (ho:ff x=true) (fZ:ff y=true) (hd:fO δ.n dst=true)
  (hK:a_ .plain P g ops rest Q ((jD (δ.gG (AV.kill i)) (.own i e 1 (copied src e7)) ts).eS dst (eV (min src.length e7.length:Nat)))):
  a_ .plain P g ops (⟨dst,.call {callee:=.builtin .copy,args:= #[x,y],argTypes:= #[dT,sT]},ty,pos,af,none⟩::rest) Q δ:=a_.r_ rfl rfl (iO.copy ts hx hy sZ hr hu mZ ho fZ hd) hK
theorem HW {α:Type} {f:α→List PV} (hf:∀x,∃u,f x=[.lit u]) (l:List α):∀c∈l.map f,∀p∈c,∃u,p=PV.lit u:=by
 intro c hc p hp
 obtain⟨x,_,rfl⟩:=bx.1 hc
 obtain⟨u,hu⟩:=hf x
 rw[hu] at hp
 simp at hp
 exact⟨u,hp⟩
theorem a_.NA {f:FuncId} {xs:List Operand} {tys:Array TypeId} {args:List AV} {e:TypeId} {k:Nat} {e7:List (List PV)} (hf:J8 P f args e k e7) (kd:∀c∈e7,∀p∈c,∃u,p=PV.lit u) (gf:oC true δ xs args) (hd:fO δ.n dst=true)
  (hK:a_ .plain P g ops rest Q ((δ.fK .row).eS dst (.own δ.nx e k e7))):a_ .plain P g ops (⟨dst,.call {callee:=.value (.func f),args:=xs.toArray,argTypes:=tys},ty,pos,af,none⟩::rest) Q δ:=by
 intro κ a w r0
 show wpListIn _ _ P ops _ (_::rest) a w
 refine gw rfl rfl fun K nb=>?_
 unfold Oper.wW
 rw[iB (f:=f) rfl hf.enters,Oper.uponIn_enter]
 refine⟨fun h=>by simp at h,(ia (hf.calls (fun _=>True) w _ (fun _ _=>trivial) (by simp [gf.len]) (gf.J1 r0 (fun _ _ _=>trivial) (fun _ _ _ _ _=>trivial)))).mono ?_⟩
 rintro en w' ⟨v,rfl,hb,hv⟩
 have Cv:∀b,v.ownBlock=some b→w.heap.size≤b∧b<w'.heap.size∧∃c e,w'.heap[b]? =some (.cells c e (0,0)):=by
  intro b Mj
  obtain⟨xs,⟨_,gF⟩,_⟩:=hv.row
  rcases gF with ⟨rfl,_⟩|⟨b0,cap,cur,rfl,h1,h2,_⟩
  ·cases Mj
  ·cases Mj
   exact⟨h1,(aO.1 h2).1,cur,e,h2⟩
 obtain⟨r1,G⟩:=r0.Jw hb v.ownBlock Cv
 refine nb _ _ (hK _ _ _ (r1.eS (fi hd) (.own ?_)))
 obtain⟨xs,⟨sD,gF⟩,h1,hx⟩:=hv.row
 refine⟨by show(δ.fK .row).ob _=_;rw[fU,if_pos rfl],hv.lim,hv.hk,fun b Mj=>by show gY _ _ _ _=_;simp [gY,Mj],xs,⟨sD,?_⟩,h1,fun i' j p hp=>?_⟩
 ·rcases gF with h|⟨b0,cap,cur,h2,h3,h4⟩
  ·exact .inl h
  ·exact .inr ⟨b0,cap,cur,h2,Nat.le_trans r0.hB h3,h4⟩
 ·obtain⟨u,hu,hr⟩:=hx i' j p hp
  refine⟨u,hu,?_⟩
  unfold cellAt at hp
  cases hq:e7[i']? with
  |none=>rw[hq] at hp;simp at hp
  |some q=>
   rw[hq] at hp
   obtain⟨u',N9⟩:=kd q (aU hq) p (aU hp)
   subst N9
   cases hr
   exact .lit _
end Go.Ab
/- Sets of strings:maps from strings to true. -/
namespace Go.Ab
open Go Go.RowKit
variable {q:Md} {P:Program} {g:eR} {δ:DS} {κ:Kp} {a:Act} {w:World}
variable {gd:Option (Tmp×Bool)} {ops:Array Oper} {rest:List Oper} {Q:Exit→DS→Prop} {dst:Option Nat} {ty:TypeId} {pos:String} {af:Array Edge}
def uy (l:List ByteArray):List (Value×AV):=l.map fun s=>(.string s,fh true)
theorem yG (l:List ByteArray) (s:ByteArray):uy (l++ [s])=uy l++ [(.string s,fh true)]:=by simp [uy]
theorem kR.Du {C:Cx} {w:World} {es:Array MapEntry} {l:List ByteArray} (h:kR C w es (uy l)):es.size=l.length∧∀(j:Nat) (e:MapEntry) (s:ByteArray),es[j]? =some e→l[j]? =some s→e.key=.string s∧e.val=.bool true:=by
 refine⟨by simpa [uy] using h.1,fun j e s h1 h2=>?_⟩
 obtain⟨h3,h4⟩:=h.2 j e (.string s,fh true) h1 (by simp [uy,h2])
 exact⟨h3,h4.lit⟩
theorem Bx {C:Cx} {w:World} {es:Array MapEntry} {l:List ByteArray} (h:kR C w es (uy l)):∀x∈es.toList,MapKept.IsKey .string x.key:=by
 intro x hx
 obtain⟨h1,h2⟩:=h.Du
 obtain⟨j,hj⟩:=bA hx
 have ng:es[j]? =some x:=by simpa using hj
 have fm:j<l.length:=by rw[← h1];exact(aO.1 ng).1
 rw[(h2 j x _ ng (a8 fm)).1]
 simp [MapKept.IsKey]
theorem a_.wE {x y:Operand} {t kt et:TypeId} {i:Nat} {l:List ByteArray} {s:ByteArray} {v:Bool} (hx:δ.ev x=.gq i) (iQ:δ.ob i=some (.mp (uy l))) (hy:δ.ev y=yY s) (ht:P.underlying t=some (.map kt et)) (hk:P.underlying kt=some .string) (hz:(P.info? et).bind (·.zero)=some (.bool false))
  (hv:v=true↔s∈l) (ho:ff x=true) (fZ:ff y=true) (hd:fO δ.n dst=true) (hK:a_ q P g ops rest Q (δ.eS dst (fh v))):a_ q P g ops (⟨dst,.lookup t x y false,ty,pos,af,none⟩::rest) Q δ:=
 a_.jc _ hd (fun κ a w r=>by
  obtain⟨b,es,clock,h1,h2,h3,h4,h5,z_⟩:=r.PR (r.ra hx ho) iQ
  obtain⟨h6,h7⟩:=h4.Du
  have hb:∀w',kB δ κ w w'→w'.heap[b]? =some (.map es clock):=fun w' iP=>(iP b (iv h3) (r.y6 ⟨_,iQ,rfl⟩ h2)).trans h3
  have My:MapKept.IsKey .string (.string s):=by simp [MapKept.IsKey]
  have HG:∀(e:Bool) (w:World),(Instr.checkKey e (9999+1) kt (.string s)).run P w=.ok () w:=fun e w=>MapKept.run_checkKey hk My e 9999
  have Ai:∀w,(zeroValue et).run P w=.ok (.bool false) w:=fun w=>by
   cases hi:P.info? et with
   |none=>rw[hi] at hz;simp at hz
   |some i=>rw[hi] at hz;simp at hz;simp [zeroValue,typeInfo,hi,hz]
  refine⟨.bool v,fun w' iP=>?_,.pv (.lit _)⟩
  have x7:=hb w' iP
  rcases MapKept.findNow_spec My es.toList 0 (Bx h4) with ⟨h8,h9⟩|⟨j,e,h8,h9,ub⟩
  ·have hf:v=false:=by
    cases v with
    |false=>rfl
    |true=>
     obtain⟨j,hj⟩:=bA (hv.1 rfl)
     have fm:j<es.size:=by rw[h6];exact(aW.1 hj).1
     have he:=Array.getElem?_eq_getElem fm
     exact absurd (h7 j _ s he hj).1 (h9 _ (aU (i:=j) (by simp)))
   subst hf
   have RC:(Instr.findKey kt (.string s) es.toList).run P w'=.ok none w':=MapKept.run_findKey hk h8
   simp [execOp,r.lit hy fZ,h1,Instr.lookup,run_underlying ht,MapKept.run_getObj_map x7,HG,RC,Ai]
  ·have Rq:es[j]? =some e:=by simpa using h9
   have fm:j<l.length:=by rw[← h6];exact(aO.1 Rq).1
   obtain⟨q7,Ce⟩:=h7 j e _ Rq (a8 fm)
   rw[ub] at q7
   cases q7
   have hf:v=true:=hv.2 (cZ fm)
   subst hf
   have RC:(Instr.findKey kt (.string l[j]) es.toList).run P w'=.ok (some (0+j,e.val)) w':=MapKept.run_findKey hk h8
   simp [execOp,r.lit hy fZ,h1,Instr.lookup,run_underlying ht,MapKept.run_getObj_map x7,HG,RC,Ce]) hK
theorem iO.nL {x y z:Operand} {t kt et:TypeId} {i:Nat} {l:List ByteArray} {s:ByteArray} (hx:δ.ev x=.gq i) (iQ:δ.ob i=some (.mp (uy l))) (hy:δ.ev y=yY s) (hz:δ.ev z=fh true) (ht:P.underlying t=some (.map kt et)) (hk:P.underlying kt=some .string)
  (ho:ff x=true) (fZ:ff y=true) (oA:ff z=true) (hd:fO δ.n dst=true) (CJ:g.ni i) (hn:s∉l):
  iO P g ⟨dst,.mapUpdate t x y z,ty,pos,af,gd⟩ δ ((δ.ga i (some (.mp (uy (l++ [s]))))).eS dst .any):=by
 intro κ a w r
 obtain⟨b,es,clock,h1,h2,h3,h4,h5,z_⟩:=r.PR (r.ra hx ho) iQ
 obtain⟨h6,h7⟩:=h4.Du
 have My:MapKept.IsKey .string (.string s):=by simp [MapKept.IsKey]
 have HG:∀e,(Instr.checkKey e (9999+1) kt (.string s)).run P w=.ok () w:=fun e=>MapKept.run_checkKey hk My e 9999
 rcases MapKept.findNow_spec My es.toList 0 (Bx h4) with ⟨h8,h9⟩|⟨j,e,h8,h9,ub⟩
 ·have RC:(Instr.findKey kt (.string s) es.toList).run P w=.ok none w:=MapKept.run_findKey hk h8
  have fu:(execOp a.eval ⟨dst,.mapUpdate t x y z,ty,pos,af,gd⟩).run P w=.ok .skip {w with heap:=w.heap.setIfInBounds b (.map (es.push {key:=.string s,val:=.bool true,born:=clock}) (clock+1))}:=by
   simp [execOp,r.lit hy fZ,r.lit hz oA,h1,Instr.mapUpdate,run_underlying ht,MapKept.run_getObj_map h3,HG,RC,MapKept.run_setObj_map _ h3]
  obtain⟨r',G⟩:=r.modify (o':=.mp (uy (l++ [s]))) iQ rfl rfl h2 CJ (ir.rT w b (.map (es.push {key:=.string s,val:=.bool true,born:=clock}) (clock+1))) (by simp) (fun C hC G=>by
   refine⟨b,_,_,by rw[hC];exact h2,kV h3,⟨by rw[yG];simp [h6,uy],fun j e p q7 Ce=>?_⟩,⟨by simp [h5.1],fun j e q7=>?_⟩,fun p hp=>?_⟩
   ·rw[yG] at Ce
    rw[cA] at q7
    by_cases hj:j=es.size
    ·rw[if_pos hj] at q7
     cases q7
     rw[aV (by simp [uy];omega)] at Ce
     have e0:j - (uy l).length=0:=by simp [uy];omega
     rw[e0] at Ce
     simp at Ce
     subst Ce
     exact⟨rfl,.pv (.lit _)⟩
    ·rw[if_neg hj] at q7
     have fm:j<es.size:=(aO.1 q7).1
     rw[aT (by simp [uy];omega)] at Ce
     obtain⟨W4,V0⟩:=h4.2 j e p q7 Ce
     exact⟨W4,G.ra V0⟩
   ·rw[cA] at q7
    by_cases hj:j=es.size
    ·rw[if_pos hj] at q7;cases q7;rw[hj];exact h5.1
    ·rw[if_neg hj] at q7;exact h5.2 j e q7
   ·rw[yG] at hp
    rcases bX.1 hp with hp|hp
    ·exact z_ p hp
    ·simp at hp;subst hp;rfl)
  exact .inl ⟨_,_,_,_,fu,.inr ⟨rfl,rfl⟩,r'.eS (fi hd) (.any _)⟩
 ·exfalso
  have Rq:es[j]? =some e:=by simpa using h9
  have fm:j<l.length:=by rw[← h6];exact(aO.1 Rq).1
  obtain⟨q7,_⟩:=h7 j e _ Rq (a8 fm)
  rw[ub] at q7
  cases q7
  exact hn (cZ fm)
theorem a_.nL {x y z:Operand} {t kt et:TypeId} {i:Nat} {l:List ByteArray} {s:ByteArray} (hx:δ.ev x=.gq i) (iQ:δ.ob i=some (.mp (uy l))) (hy:δ.ev y=yY s) (hz:δ.ev z=fh true) (ht:P.underlying t=some (.map kt et)) (hk:P.underlying kt=some .string)
  (ho:ff x=true) (fZ:ff y=true) (oA:ff z=true) (hd:fO δ.n dst=true) (i_:g.wt=none) (hn:s∉l)
  (hK:a_ .plain P g ops rest Q ((δ.ga i (some (.mp (uy (l++ [s]))))).eS dst .any)):a_ .plain P g ops (⟨dst,.mapUpdate t x y z,ty,pos,af,none⟩::rest) Q δ:=
 a_.r_ rfl rfl (iO.nL hx iQ hy hz ht hk ho fZ oA hd (jM i_ i) hn) hK
theorem WO.strs {δ δ':DS} {i:Nat} {l:List ByteArray} (h:δ.ob i=some (.mp (uy l))):WO δ δ' i (.mp (uy l)):=.mp h fun p hp=>by
 obtain⟨x,_,rfl⟩:=bx.1 hp
 rfl
theorem WO.Nb {δ δ':DS} {i:Nat} {l l':List ByteArray} (h:δ.ob i=some (.mp (uy l))) (he:l=l'):WO δ δ' i (.mp (uy l')):=he▸ .strs h
theorem WO.S5 {δ δ':DS} {i:Nat} {l:List ByteArray} (h:δ.ob i=some (.mp (jL []))) (he:l=[]):WO δ δ' i (.mp (uy l)):=by
 subst he
 exact .mp h fun p hp=>by cases hp
end Go.Ab
