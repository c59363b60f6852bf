/- Pools: slices of a row, append, rows taken in, a new pool. -/
import Derived.Test.YtigjjjpcjnifhaaGreatAbL3
import Derived.Test.YtigjjjpcjnifhaaGreatAbL2
import Derived.LoopNIn
import Derived.WalkSmall
import Derived.Shelf.Strings.Builder1
import Derived.RecoverIn
set_option linter.unusedSimpArgs false
set_option linter.unusedVariables false
namespace Go.Ab
open Go Go.RowKit
variable {q:Md} {P:Program} {g:au} {δ:DS} {κ:Kp} {a:Act} {w:World}
variable {ops:Array Oper} {rest:List Oper} {Q:Exit→DS→Prop} {dst:Option Nat} {ty:TypeId} {pos:String} {af:Array Edge} {gd:Option (Tmp×Bool)}
def fa (m:Nat):Value→Value
 |.slice (some ⟨b,o,x⟩) n c=> .slice (some (if c=m then ⟨b,o,x⟩ else ⟨b,o+m,x⟩)) (n - m) (c - m)
 |v=>v
theorem aa.xn {t e':TypeId} {x y:Operand} (i k m:Nat) {e:TypeId} {rows:eU} {H:Value} {ys:List Value} (ho:δ.ob i=some (.pool e rows)) (hk:rows k=(H,ys)) (hx:δ.ev x=.pv (.lit H)) (hy:δ.ev y=al m) (hm:m≤ys.length) (ht:P.underlying t=some (.slice e')) (hs:(P.info? e').map (·.size)=some 1)
  (fg:aK x=true) (fb:aK y=true) (hd:bn δ.n dst=true) (hK:aa q P g ops rest Q (δ.aw dst (.pv (.lit (dk m H))))):aa q P g ops (⟨dst,.slice t x none (some y) none,ty,pos,af,none⟩::rest) Q δ:=
 aa.dA _ hd (fun κ a w r=>by
  obtain⟨i0,dF,hk0⟩:∃i0,P.info? e'=some i0∧i0.size=1:=by
   cases h:P.info? e' with
   |none=>rw[h] at hs;simp at hs
   |some i0=>rw[h] at hs;exact⟨i0,rfl,by simpa using hs⟩
  have h0:=ct r ho k
  rw[hk] at h0
  simp only at h0
  have hv:a.eval x=H:=r.lit hx fg
  have sa:a.eval y=.int .i64 m:=r.lit hy fb
  obtain⟨a0,cap,hH,hle⟩:∃a0 cap,H=.slice a0 ys.length cap∧ys.length≤cap:=by
   rcases h0.2 with ⟨h1,h2⟩|⟨b,cap,cur,h1,_,_,hle,_⟩
   ·exact⟨none,0,by rw[h1,h2],by omega⟩
   ·exact⟨_,cap,h1,hle⟩
  subst hH
  refine⟨_,fun w' _=>?_,.pv (.lit _)⟩
  have hb1:∀w,(Instr.sliceBounds true ys.length cap none (some (.int .i64 (m:Int))) none).run P w=.ok (0,m,cap) w:=by
   intro w
   have e1:(0:Int)≤(m:Int)∧(m:Int)≤(cap:Int):=by omega
   simp [Instr.sliceBounds,Instr.sliceBound,asIntOf,e1]
   intro h0;exfalso;omega
  simp only[execOp,Instr.sliceAt,Instr.slice,run_underlying ht,hv,sa,Sem.run_bind,Result.andThen_ok,Option.map_none,Option.map_some,hb1,sizeOf,typeInfo,Sem.run_pure,dk]
  cases a0 with
  |none=>simp [dF,hk0]
  |some ad=>
   simp [dF,hk0]
   intro _
   cases ad;simp [Addr.add]) hK
theorem aa.AU {t e':TypeId} {x y:Operand} (i k m:Nat) {e:TypeId} {rows:eU} {H:Value} {ys:List Value} (ho:δ.ob i=some (.pool e rows)) (hk:rows k=(H,ys)) (hx:δ.ev x=.pv (.lit H)) (hy:δ.ev y=al m) (hm:m≤ys.length) (ht:P.underlying t=some (.slice e')) (hs:(P.info? e').map (·.size)=some 1)
  (fg:aK x=true) (fb:aK y=true) (hd:bn δ.n dst=true) (hK:aa q P g ops rest Q (δ.aw dst (.pv (.lit (fa m H))))):aa q P g ops (⟨dst,.slice t x (some y) none none,ty,pos,af,none⟩::rest) Q δ:=
 aa.dA _ hd (fun κ a w r=>by
  obtain⟨i0,dF,hk0⟩:∃i0,P.info? e'=some i0∧i0.size=1:=by
   cases h:P.info? e' with
   |none=>rw[h] at hs;simp at hs
   |some i0=>rw[h] at hs;exact⟨i0,rfl,by simpa using hs⟩
  have h0:=ct r ho k
  rw[hk] at h0
  simp only at h0
  have hv:a.eval x=H:=r.lit hx fg
  have sa:a.eval y=.int .i64 m:=r.lit hy fb
  have hb1:∀cap w,(Instr.sliceBounds true ys.length cap (some (.int .i64 (m:Int))) none none).run P w=.ok (m,ys.length,cap) w:=by
   intro cap w
   have e1:(0:Int)≤(m:Int)∧(m:Int)≤(ys.length:Int):=by omega
   simp [Instr.sliceBounds,Instr.sliceBound,asIntOf,e1]
   intro h0;exfalso;omega
  rcases h0.2 with ⟨h1,h2⟩|⟨b,cap,cur,h1,_,_,hle,_⟩
  ·subst h1
   refine⟨_,fun w' _=>?_,.pv (.lit _)⟩
   have hb2:=hb1 0 w'
   rw[h2] at hb2
   have hm0:m=0:=by omega
   subst hm0
   simp only[execOp,Instr.sliceAt,Instr.slice,run_underlying ht,hv,sa,Sem.run_bind,Result.andThen_ok,Option.map_none,Option.map_some,hb2,sizeOf,typeInfo,Sem.run_pure,fa]
   simp [dF,hk0]
  ·subst h1
   refine⟨_,fun w' _=>?_,.pv (.lit _)⟩
   simp only[execOp,Instr.sliceAt,Instr.slice,run_underlying ht,hv,sa,Sem.run_bind,Result.andThen_ok,Option.map_none,Option.map_some,hb1,sizeOf,typeInfo,Sem.run_pure,fa]
   simp [dF,hk0,Addr.add]
   by_cases h1:cap=m
   ·simp [h1]
   ·by_cases h2:m=0
    ·subst h2;simp [h1]
    ·simp [h1,h2]) hK
theorem aa.ry {x:Operand} {t e':TypeId} (i k m:Nat) {e:TypeId} {rows:eU} {H:Value} {ys:List Value} (ho:δ.ob i=some (.pool e rows)) (hk:rows k=(H,ys)) (hx:δ.ev x=.pv (.lit (fa m H))) (ht:P.underlying t=some (.slice e')) (fg:aK x=true) (hd:bn δ.n dst=true)
  (hK:aa q P g ops rest Q (δ.aw dst (al (ys.length - m:Nat)))):aa q P g ops (⟨dst,.call {callee:=.builtin .len,args:= #[x],argTypes:= #[t]},ty,pos,af,none⟩::rest) Q δ:=
 aa.dA _ hd (fun κ a w r=>by
  have h0:=ct r ho k
  rw[hk] at h0
  simp only at h0
  have hv:a.eval x=fa m H:=r.lit hx fg
  rcases h0.2 with ⟨h1,h2⟩|⟨b,cap,cur,h1,_⟩
  ·subst h1
   exact⟨_,fun w' _=>run_len_slice ht x a.eval none _ 0 (hv.trans (by simp [fa,h2])) w',.pv (.lit _)⟩
  ·subst h1
   exact⟨_,fun w' _=>run_len_slice ht x a.eval _ _ (cap - m) (hv.trans rfl) w',.pv (.lit _)⟩) hK
theorem aa.oW {x y:Operand} {t e':TypeId} (i k m:Nat) {n:Nat} {ik:IntKind} {e:TypeId} {rows:eU} {H:Value} {ys:List Value} (ho:δ.ob i=some (.pool e rows)) (hk:rows k=(H,ys)) (hx:δ.ev x=.pv (.lit (fa m H))) (hy:δ.ev y=.pv (.lit (.int ik (n:Int)))) (hn:m+n<ys.length)
  (ht:P.underlying t=some (.slice e')) (hs:(P.info? e').map (·.size)=some 1) (fg:aK x=true) (fb:aK y=true) (hd:bn δ.n dst=true)
  (hK:aa q P g ops rest Q (δ.aw dst (.pv (.lit (ig (m+n) H))))):aa q P g ops (⟨dst,.indexAddr t x y,ty,pos,af,none⟩::rest) Q δ:=
 aa.dA _ hd (fun κ a w r=>by
  have h0:=ct r ho k
  rw[hk] at h0
  simp only at h0
  have hv:a.eval x=fa m H:=r.lit hx fg
  rcases h0.2 with ⟨h1,h2⟩|⟨b,cap,cur,h1,_,_,hle,_⟩
  ·exfalso;omega
  ·subst h1
   have hv2:a.eval x=.slice (some ⟨b,m,none⟩) (ys.length - m) (cap - m):=hv.trans (by simp [fa];omega)
   refine⟨_,fun w' _=>?_,.pv (.lit _)⟩
   have:=cT (dst:=dst) (ty:=ty) (pos:=pos) (af:=af) ht hs hv2 (r.lit hy fb) (by omega) w'
   rw[Nat.mul_one] at this
   simpa [ig] using this) hK
theorem xv {w w':World} {t ty e:TypeId} {i0:TypeInfo} {z:Value} {B n m xc:Nat} {xs nws:List Value} {v v':Value} {xa:Option Addr} (ht:P.underlying t=some (.slice e)) (dF:P.info? e=some i0) (hz0:i0.zero=some z) (hs0:i0.size=1) (cp:w.ownsRow B e 1 v n xs) (iy:nws.length=m*1)
  (bx:m≠0→∃ad,xa=some ad∧∀j u,nws[j]? =some u→w.cell? (ad.add j)=some u) (hn1:∀u∈nws,u.oneCell'=true) (sK:n+m≤maxLen) (hb:(n+m)*i0.bytes≤140737488355328)
  (aV:(Builtin.append_ #[t,t] ty #[v,.slice xa m xc]).run P w=.ok v' w'):∀b,v'.ownBlock=some b→v.ownBlock=some b∨w.heap.size≤b:=by
 intro b hb'
 by_cases hm:m=0
 ·subst hm
  have wj:nws=[]:=List.eq_nil_of_length_eq_zero (by simpa using iy)
  subst wj
  rcases cp.2 with ⟨rfl,h0⟩|⟨b0,cap0,cur0,rfl,h4,h5,h6⟩
  ·have hr2:(Builtin.append_ #[t,t] ty #[.slice none 0 0,.slice xa 0 xc]).run P w=.ok (.slice none 0 0) w:=by
    cases xa with
    |none=>exact dh ht dF cp
    |some ad=>simp [Builtin.append_,run_underlying ht,sizeOf,typeInfo,dF,Builtin.lenOf,Builtin.firstCells,loadCells,loadCellsFrom]
   rw[hr2] at aV
   simp only[Result.ok.injEq] at aV
   rw[← aV.1] at hb';cases hb'
  ·cases xa with
   |none=>
    have hr2:=dh (P:=P) (c:=xc) (ty:=ty) ht dF cp
    rw[hr2] at aV
    simp only[Result.ok.injEq] at aV
    rw[← aV.1] at hb';exact .inl hb'
   |some ad=>
    have hr2:=run_append_room (P:=P) w t ty e i0 ht dF b0 n cap0 cur0 h5 ad 0 xc [] (by simp) (by simp) (by simp) (by omega) (by rw[hs0];simp [h6.2.2.1];exact h6.1)
    rw[hr2] at aV
    simp only[Result.ok.injEq] at aV
    rw[← aV.1] at hb';cases hb';exact .inl rfl
 ·obtain⟨ad,rfl,hc⟩:=bx hm
  rcases cp.2 with ⟨rfl,h0⟩|⟨b0,cap0,cur0,rfl,h4,h5,h6⟩
  ·have hr2:=run_append_nil (P:=P) w t ty e i0 z ht dF hz0 ad m xc nws (by rw[hs0];exact iy) hc (by omega) (by simp only[maxLen] at sK;omega) (by have:m*i0.bytes≤(n+m)*i0.bytes:=Nat.mul_le_mul_right _ (by omega);omega)
   rw[hr2] at aV
   simp only[Result.ok.injEq] at aV
   rw[← aV.1] at hb';cases hb';exact .inr (Nat.le_refl _)
  ·by_cases ff:n+m≤cap0
   ·have hr2:=run_append_room (P:=P) w t ty e i0 ht dF b0 n cap0 cur0 h5 ad m xc nws (by rw[hs0];exact iy) hc hn1 ff (by rw[hs0,iy,h6.2.2.1];omega)
    rw[hr2] at aV
    simp only[Result.ok.injEq] at aV
    rw[← aV.1] at hb';cases hb';exact .inl rfl
   ·have hr2:=run_append_grow (P:=P) w t ty e i0 z ht dF hz0 ⟨b0,0,none⟩ n cap0 xs (by rw[hs0];exact cp.1) (cp.cells (g:=b0) rfl) ad m xc nws (by rw[hs0];exact iy) hc (by omega) (by simp only[maxLen] at sK;omega) (growslice_fits (by omega) hb)
    rw[hr2] at aV
    simp only[Result.ok.injEq] at aV
    rw[← aV.1] at hb';cases hb';exact .inr (Nat.le_refl _)
theorem Cd {C:Cx} {w:World} {v:Value} {us:List Value} (h:Src C w v 1 (us.map fun u=>[.lit u])):∃xa xc,v=.slice xa us.length xc∧(us.length≠0→∃ad,xa=some ad∧∀(j:Nat) (u:Value),us[j]? =some u→w.cell? (ad.add j)=some u)∧∀u∈us,u.oneCell'=true:=by
 obtain⟨gw,hk,xa,xc,hv,hx⟩:=h
 rw[List.length_map] at hv
 have hc:∀(j:Nat) (u:Value),us[j]? =some u→cellAt (us.map fun u=>[PV.lit u]) j 0=some (.lit u):=fun j u hu=>by simp [cellAt,hu]
 refine⟨xa,xc,hv,fun h0=>?_,fun u hu=>?_⟩
 ·obtain⟨b,off,vs,rfl,h1⟩:=hx (by intro h;simp at h;exact h0 (by simp [h]))
  refine⟨_,rfl,fun j u hu=>?_⟩
  obtain⟨h2,_,h3⟩:=h1 j 0 _ (hc j u hu)
  have:vs j 0=u:=(RA.pv (C:=C) h3).lit
  rw[this,Nat.mul_one,Nat.add_zero] at h2
  rw[dH];exact h2
 ·obtain⟨j,hj⟩:=List.getElem?_of_mem hu
  obtain⟨b,off,vs,rfl,h1⟩:=hx (by intro h;simp at h;subst h;simp at hu)
  obtain⟨_,h2,h3⟩:=h1 j 0 _ (hc j u hj)
  have:vs j 0=u:=(RA.pv (C:=C) h3).lit
  rw[← this];exact h2
inductive y9 (δ:DS) (x:Operand):List Value→Prop
 |src {us:List Value} {els:List (List PV)} (h:ln δ x 1 els) (he:els=us.map fun u=>[.lit u]):y9 δ x us
 |tail {i k m:Nat} {e:TypeId} {rows:eU} {H:Value} {ys:List Value} (ho:δ.ob i=some (.pool e rows)) (hk:rows k=(H,ys)) (hm:m≤ys.length) (h:δ.ev x=.pv (.lit (fa m H))) (bx:ys≠ []):y9 δ x (ys.drop m)
theorem y9.at {x:Operand} {us:List Value} (h:y9 δ x us) (r:Rel g δ κ a w) (fg:aK x=true):∃xa xc,a.eval x=.slice xa us.length xc∧(us.length≠0→∃ad,xa=some ad∧∀(j:Nat) (u:Value),us[j]? =some u→w.cell? (ad.add j)=some u)∧∀u∈us,u.oneCell'=true:=by
 cases h with
 |src h he=>subst he;exact Cd (h.src r fg)
 | @tail i k m e rows H ys ho hk hm h bx=>
  have h0:=ct r ho k
  have h1c:=((r.obj i _ ho).2.1 k).2.2.2
  rw[hk] at h0 h1c
  simp only at h0 h1c
  have hv:a.eval x=fa m H:=r.lit h fg
  rcases h0.2 with ⟨h1,h2⟩|⟨b,cap,cur,h1,_,h3,hle,_,kG,ot⟩
  ·exact absurd (List.eq_nil_of_length_eq_zero h2) bx
  ·subst h1
   rw[Nat.mul_one] at ot
   refine⟨_,_,by rw[hv,List.length_drop];rfl,fun h4=>⟨_,rfl,fun j u hu=>?_⟩,fun u hu=>h1c u (List.mem_of_mem_drop hu)⟩
   rw[List.length_drop] at h4
   rw[if_neg (by omega),dH,cell_of h3]
   rw[List.getElem?_drop] at hu
   have aM:=(List.getElem?_eq_some_iff.1 hu).1
   rw[← ot,List.getElem?_take,if_pos aM] at hu
   rw[Nat.zero_add,← Array.getElem?_toList];exact hu
theorem aa.Lj {o:Oper} (hg:o.guard=none) (dB:dQ o=true) (h:∀κ a w,Rel g δ κ a w→∃x v w' κ' δ',(execOp a.eval o).run P w=.ok x w'∧(x=.value v∨(x=.skip∧v=undef))∧Rel g δ' κ' (a.put o.dst v) w'∧aa .plain P g ops rest Q δ'):aa .plain P g ops (o::rest) Q δ:=by
 intro κ a w r
 show wpListIn _ _ P ops _ (o::rest) a w
 refine b8 hg dB fun K hK'=>?_
 unfold Oper.sr
 obtain⟨x,v,w',κ',δ',h1,h2,h3,h4⟩:=h κ a w r
 rw[h1]
 rcases h2 with rfl|⟨rfl,rfl⟩
 ·rw[Oper.uponIn_value];exact hK' _ _ (h4 _ _ _ h3)
 ·rw[Oper.uponIn_skip];exact hK' _ _ (h4 _ _ _ h3)
theorem aa.vi {s x:Operand} {t:TypeId} (i k:Nat) {bytes:Nat} {z:Value} {e:TypeId} {rows:eU} {H:Value} {ys us:List Value} (ho:δ.ob i=some (.pool e rows)) (hk:rows k=(H,ys)) (hs:δ.ev s=.pv (.lit H)) (hx:y9 δ x us)
  (ht:P.underlying t=some (.slice e)) (hi:(P.info? e).map (fun i=>(i.size,i.zero,i.bytes))=some (1,some z,bytes)) (hz1:z.oneCell'=true) (mD:aK s=true) (fg:aK x=true) (hd:bn δ.n dst=true) (hb:(ys.length+us.length)*bytes≤140737488355328) (hl:ys.length+us.length≤140737488355328)
  (hK:∀v',aa .plain P g ops rest Q ((δ.bB i (some (.pool e (ir rows k (v',ys++us))))).aw dst (.pv (.lit v')))):aa .plain P g ops (⟨dst,.call {callee:=.builtin .append,args:= #[s,x],argTypes:= #[t,t]},ty,pos,af,none⟩::rest) Q δ:=by
 refine aa.Lj rfl rfl fun κ a w r=>?_
 obtain⟨i0,dF,hs0,hz0,hb0⟩:∃i0,P.info? e=some i0∧i0.size=1∧i0.zero=some z∧i0.bytes=bytes:=by
  cases h:P.info? e with
  |none=>rw[h] at hi;simp at hi
  |some i0=>rw[h] at hi;simp at hi;exact⟨i0,rfl,hi.1,hi.2.1,hi.2.2⟩
 have h0:=ct r ho k
 have h1c:=((r.obj i _ ho).2.1 k).2.2.2
 rw[hk] at h0 h1c
 simp only at h0 h1c
 have hv:a.eval s=H:=r.lit hs mD
 obtain⟨xa,xc,xi,bx,hn1⟩:=hx.at r fg
 have sK:ys.length+us.length≤maxLen:=by simp only[maxLen];omega
 obtain⟨v',w',aV,oo,lJ⟩:∃v' w',(Builtin.append_ #[t,t] ty #[H,.slice xa us.length xc]).run P w=.ok v' w'∧w'.ownsRow g.B e 1 v' (ys.length+us.length) (ys++us)∧w.grownBy w' H.ownBlock:=by
  by_cases ko:us=[]
  ·subst ko
   cases xa with
   |none=>exact⟨H,w,dh ht dF h0,by simp only[List.length_nil,Nat.add_zero,List.append_nil];exact h0,⟨rfl,rfl,rfl,Nat.le_refl _,fun _ _ _=>rfl⟩⟩
   |some ad=>
    obtain⟨v',w',h2,h3,h4,_⟩:=run_append_own (P:=P) w g.B t ty e i0 z 1 bytes ht dF hz0 hs0 hb0 (by rw[gZ hz1];rfl) (by omega) H ys.length ys h0 ad 0 xc [] (by simp) (by simp) (by simp) (by simpa using sK) (by simpa using hb) r.hB
    exact⟨v',w',h2,by simpa using h3,h4⟩
  ·obtain⟨ad,rfl,hc⟩:=bx (by intro h;exact ko (List.eq_nil_of_length_eq_zero h))
   obtain⟨v',w',h2,h3,h4,_⟩:=run_append_own (P:=P) w g.B t ty e i0 z 1 bytes ht dF hz0 hs0 hb0 (by rw[gZ hz1];rfl) (by omega) H ys.length ys h0 ad us.length xc us (by simp) hc hn1 sK hb r.hB
   exact⟨v',w',h2,h3,h4⟩
 have qc:=xv ht dF hz0 hs0 h0 (by simp) bx hn1 sK (by rw[hb0];exact hb) aV
 have dJ:(rows k).1=H:=by rw[hk]
 obtain⟨κ',r',_⟩:=r.iZ ho (k:=k) (w':=w') (by rw[dJ];exact c7.grownBy lJ) (v':=v') (ys:=ys++us) (by rw[List.length_append];exact oo) (by rw[List.length_append];exact hl) (fun u hu=>(List.mem_append.1 hu).elim (h1c u) (hn1 u)) (by rw[dJ];exact qc)
 have uE:(execOp a.eval ⟨dst,.call {callee:=.builtin .append,args:= #[s,x],argTypes:= #[t,t]},ty,pos,af,none⟩).run P w=.ok (.value v') w':=by
  simp only[execOp,resolve,invoke,builtin,Sem.run_bind,Sem.run_pure,Result.andThen_ok,List.map_toArray,List.map_cons,List.map_nil,hv,xi,aV]
 exact⟨_,v',w',κ',_,uE,.inl rfl,r'.aw (aS hd) (.pv (.lit _)),hK v'⟩
theorem aa.kp {s x:Operand} {t:TypeId} (i k m:Nat) {bytes:Nat} {z:Value} {e:TypeId} {rows:eU} {H:Value} {ys us:List Value} (ho:δ.ob i=some (.pool e rows)) (hk:rows k=(H,ys)) (hs:δ.ev s=.pv (.lit (dk m H))) (hx:y9 δ x us) (ff:m+us.length≤ys.length) (IP:ys≠ [])
  (ht:P.underlying t=some (.slice e)) (hi:(P.info? e).map (fun i=>(i.size,i.zero,i.bytes))=some (1,some z,bytes)) (mD:aK s=true) (fg:aK x=true) (hd:bn δ.n dst=true)
  (hK:aa .plain P g ops rest Q ((δ.bB i (some (.pool e (ir rows k (H,ys.take m++us++ys.drop (m+us.length)))))).aw dst (.pv (.lit (dk (m+us.length) H))))):aa .plain P g ops (⟨dst,.call {callee:=.builtin .append,args:= #[s,x],argTypes:= #[t,t]},ty,pos,af,none⟩::rest) Q δ:=by
 refine aa.Lj rfl rfl fun κ a w r=>?_
 obtain⟨i0,dF,hs0,hz0,hb0⟩:∃i0,P.info? e=some i0∧i0.size=1∧i0.zero=some z∧i0.bytes=bytes:=by
  cases h:P.info? e with
  |none=>rw[h] at hi;simp at hi
  |some i0=>rw[h] at hi;simp at hi;exact⟨i0,rfl,hi.1,hi.2.1,hi.2.2⟩
 have h0:=ct r ho k
 have hl:=((r.obj i _ ho).2.1 k).2.1
 have h1c:=((r.obj i _ ho).2.1 k).2.2.2
 rw[hk] at h0 h1c hl
 simp only at h0 h1c hl
 have hv:a.eval s=dk m H:=r.lit hs mD
 obtain⟨xa,xc,xi,bx,hn1⟩:=hx.at r fg
 rcases h0.2 with ⟨h1,h2⟩|⟨b,cap,cur,h1,hB,h3,hle,Bo,kG,ot⟩
 ·exact absurd (List.eq_nil_of_length_eq_zero h2) IP
 ·subst h1
  rw[Nat.mul_one] at kG ot
  have hlen:(ys.take m++us++ys.drop (m+us.length)).length=ys.length:=by simp;omega
  obtain⟨w',aV,hw'⟩:∃w',(Builtin.append_ #[t,t] ty #[.slice (some ⟨b,0,none⟩) m cap,.slice xa us.length xc]).run P w=.ok (.slice (some ⟨b,0,none⟩) (m+us.length) cap) w'∧(w'=w∧us=[]∨w'=w.setRow b (cur.toList.take m++us++cur.toList.drop (m+us.length)).toArray):=by
   by_cases ko:us=[]
   ·subst ko
    cases xa with
    |none=>exact⟨w,by simp [Builtin.append_,run_underlying ht,sizeOf,typeInfo,dF,Builtin.lenOf,Builtin.firstCells,storeCells];omega,.inl ⟨rfl,rfl⟩⟩
    |some ad=>
     have:=run_append_room (P:=P) w t ty e i0 ht dF b m cap cur h3 ad 0 xc [] (by simp) (by simp) (by simp) (by simp at ff;omega) (by rw[hs0];simp at ff ⊢;omega)
     exact⟨_,this,.inr (by simp [hs0])⟩
   ·obtain⟨ad,rfl,hc⟩:=bx (by intro h;exact ko (List.eq_nil_of_length_eq_zero h))
    have:=run_append_room (P:=P) w t ty e i0 ht dF b m cap cur h3 ad us.length xc us (by rw[hs0];simp) hc hn1 (by omega) (by rw[hs0];omega)
    exact⟨_,this,.inr (by simp [hs0])⟩
  have dJ:(rows k).1.ownBlock=some b:=by rw[hk];rfl
  have mT:us=[]→ys.take m++us++ys.drop (m+us.length)=ys:=fun h=>by subst h;simp
  obtain⟨κ',r',_⟩:=r.iZ ho (k:=k) (w':=w') (by
    rcases hw' with ⟨rfl,_⟩|rfl
    ·exact⟨rfl,rfl,rfl,Nat.le_refl _,fun _ _ _=>rfl⟩
    ·rw[dJ];exact c7.setRow w b _) (v':=.slice (some ⟨b,0,none⟩) ys.length cap) (ys:=ys.take m++us++ys.drop (m+us.length))
   (by
    rw[hlen]
    refine⟨by rw[hlen];simp,.inr ?_⟩
    rcases hw' with ⟨rfl,h⟩|rfl
    ·exact⟨b,cap,cur,rfl,hB,h3,hle,Bo,by rw[Nat.mul_one];exact kG,by rw[Nat.mul_one,mT h];exact ot⟩
    ·refine⟨b,cap,_,rfl,hB,setRow_heap _ _ _ _ _ _ h3,hle,Bo,?_,?_⟩
     ·simp;omega
     ·have e1:cur.toList=ys++cur.toList.drop ys.length:=by have:=List.take_append_drop ys.length cur.toList;rw[ot] at this;exact this.symm
      generalize cur.toList.drop ys.length=tl at e1
      rw[Nat.mul_one,e1]
      simp only[List.take_append_of_le_length (show m≤ys.length by omega),List.drop_append_of_le_length ff]
      rw[← List.append_assoc,List.take_append_of_le_length (by rw[hlen];omega),List.take_of_length_le (by rw[hlen];omega)])
   (by rw[hlen];exact hl)
   (fun v hv=>by
    rcases List.mem_append.1 hv with hv|hv
    ·rcases List.mem_append.1 hv with hv|hv
     ·exact h1c v (List.mem_of_mem_take hv)
     ·exact hn1 v hv
    ·exact h1c v (List.mem_of_mem_drop hv))
   (fun b' hb'=> .inl (by rw[dJ];exact hb'))
  have uE:(execOp a.eval ⟨dst,.call {callee:=.builtin .append,args:= #[s,x],argTypes:= #[t,t]},ty,pos,af,none⟩).run P w=.ok (.value (.slice (some ⟨b,0,none⟩) (m+us.length) cap)) w':=by
   simp only[execOp,resolve,invoke,builtin,Sem.run_bind,Sem.run_pure,Result.andThen_ok,List.map_toArray,List.map_cons,List.map_nil,hv,xi,dk,aV]
  exact⟨_,_,w',κ',_,uE,.inl rfl,r'.aw (aS hd) (.pv (.lit _)),hK⟩
end Go.Ab
/- Pools:a row of the walk's own taken in;a shorter slice;a new pool. -/
namespace Go.Ab
open Go Go.RowKit
variable {q:Md} {P:Program} {g:au} {δ:DS} {κ:Kp} {a:Act} {w:World}
variable {ops:Array Oper} {rest:List Oper} {Q:Exit→DS→Prop}
theorem iR.AX {C C':Cx} {w w':World} {i j:Nat} {o:Ob} (G:eD (C.less i) w C' w') (hκ:C'.κ j=C.κ j) (hb:∀b,C.κ j=some b→w'.heap[b]? =w.heap[b]?) (hP:∀b,C.κ.F j b→b<w.heap.size→C'.κ.F j b∧w'.heap[b]? =w.heap[b]?) (h:iR C w j o):iR C' w' j (o.qB (AV.kill i)):=by
 cases o with
 |row=>
  intro b hb'
  rw[hκ] at hb'
  obtain⟨c,e,h1⟩:=h b hb'
  exact⟨c,e,(hb b hb').trans h1⟩
 |box cs=>
  obtain⟨b,c,e,h1,h2,h3,h4⟩:=h
  refine⟨b,c,e,hκ.trans h1,(hb b h1).trans h2,by simpa using h3,fun k u av h5 h6=>?_⟩
  simp only[List.getElem?_map,Option.map_eq_some_iff] at h6
  obtain⟨av',h6,rfl⟩:=h6
  exact⟨(h4 k u av' h5 h6).1.kill G,(h4 k u av' h5 h6).2⟩
 |mp l=>
  obtain⟨b,es,clock,h1,h2,h3,h4⟩:=h
  refine⟨b,es,clock,hκ.trans h1,(hb b h1).trans h2,⟨h3.1,fun k e p h5 h6=>?_⟩,h4⟩
  exact⟨(h3.2 k e p h5 h6).1,G.ra ((h3.2 k e p h5 h6).2.less (h4.2 p (List.mem_of_getElem? h6)))⟩
 |mpl l kk v=>
  obtain⟨b,es,clock,h1,h2,h3,h4⟩:=h
  refine⟨b,es,clock,hκ.trans h1,(hb b h1).trans h2,?_,h4⟩
  exact h3.last (fun u p hp h=>G.ra (h.less (h4.2 p hp))) (fun u h=>h.kill G)
 |it l seen=>
  obtain⟨b,h1,h2⟩:=h
  exact⟨b,hκ.trans h1,h2.mono G.size G.N (hb b h1)⟩
 |lit T vals=>
  obtain⟨b,h1,h2⟩:=h
  exact⟨b,hκ.trans h1,(hb b h1).trans h2⟩
 |pool e rows=>exact⟨hκ.trans h.1,fun k=>(h.2.1 k).fp G.B fun b _ hF aM=>hP b hF aM,h.2.2⟩
 |loop l tm ps asg body st=>
  obtain⟨b,lr,h1,h2,h3⟩:=h
  exact⟨b,lr,hκ.trans h1,(hb b h1).trans h2,h3⟩
theorem Rel.lS (r:Rel g δ κ a w) {i j k t:Nat} {e:TypeId} {rows:eU} {us:List Value} {els:List (List PV)} (ho:δ.ob i=some (.pool e rows)) (hj:δ.ob j=some .row) (ht:δ.get t=.own j e 1 els) (he:els=us.map fun u=>[.lit u]) (hk:(rows k).1=.slice none 0 0):
  ∃v κ',Rel g (((δ.cw (AV.kill j)).bB i (some (.pool e (ir rows k (v,us))))).put t (.pv (.lit v))) κ' a w:=by
 subst he
 have o_:i≠j:=by rintro rfl;rw[ho] at hj;cases hj
 have kL:δ.live j:=⟨_,hj⟩
 have wk:δ.live i:=⟨_,ho⟩
 have hv:=r.env t
 rw[ht] at hv
 have hv:=hv.dU
 generalize RF:g.val a t=v at hv
 obtain⟨hκi,sC,tM⟩:=r.obj i _ ho
 obtain⟨xs,cp,hx1,Nz⟩:=hv.row
 have gw:=hv.lim
 rw[List.length_map] at cp gw
 have ID:xs=us:=by
  apply List.ext_getElem?
  intro n
  by_cases hn:n<us.length
  ·obtain⟨u,h1,h2⟩:=Nz n 0 (.lit us[n]) (by simp [cellAt,hn])
   rw[Nat.mul_one,Nat.add_zero] at h1
   rw[h1,List.getElem?_eq_getElem hn]
   cases h2;rfl
  ·have:=cp.1
   rw[List.getElem?_eq_none (by omega),List.getElem?_eq_none (by omega)]
 subst ID
 have Jp:∀b,v.ownBlock=some b→κ j=some b:=fun b hb=>hv.blk b hb
 let κ':Kp:=⟨(cA κ j none).f,fun n b=>κ.F n b∨(n=i∧v.ownBlock=some b)⟩
 let δ1:=(δ.cw (AV.kill j)).bB i (some (.pool e (ir rows k (v,xs))))
 have dJ:∀n,δ1.ob n=if i=n then some (.pool e (ir rows k (v,xs))) else (δ.ob n).map (Ob.qB (AV.kill j)):=fun n=>by
  show((δ.cw (AV.kill j)).bB i _).ob n=_
  rw[dD,e_]
 have bj:∀n,δ1.live n↔δ.live n:=by
  intro n
  unfold DS.live
  rw[dJ]
  by_cases h:i=n
  ·subst h;simp [ho]
  ·rw[if_neg h];cases δ.ob n<;>simp
 have iJ:∀n,δ1.lr n↔δ.lr n:=by
  intro n
  unfold DS.lr
  rw[dJ]
  by_cases h:i=n
  ·subst h;simp [ho]
  ·rw[if_neg h]
   cases δ.ob n with
   |none=>simp
   |some o=>cases o<;>simp [Ob.qB]
 have o6:∀n,δ.lb n→δ1.lb n:=by
  rintro n ⟨o,h1,h2⟩
  unfold DS.lb
  rw[dJ]
  by_cases h:i=n
  ·rw[if_pos h];exact⟨_,rfl,rfl⟩
  ·rw[if_neg h,h1];exact⟨_,rfl,by cases o<;>simp_all [Ob.qB,Ob.fJ]⟩
 have hκs:∀n b,κ' n=some b→n≠j∧κ n=some b:=by
  intro n b h
  by_cases hn:j=n
  ·subst hn
   have:κ' j=none:=by show cA κ j none j=none;simp [cA]
   rw[this] at h;cases h
  ·have:κ' n=κ n:=by show cA κ j none n=κ n;simp [cA,hn]
   rw[this] at h
   exact⟨fun e=>hn e.symm,h⟩
 have hκo:∀n,n≠j→κ' n=κ n:=fun n hn=>by show cA κ j none n=κ n;simp [cA,Ne.symm hn]
 have OP:∀n,δ.lb n→n≠j:=by
  rintro n ⟨o,h1,h2⟩ rfl
  rw[hj] at h1;cases h1;simp [Ob.fJ] at h2
 have hFl:∀b,κ.Fs b→b<w.heap.size:=fun b hb=>r.fr.yb hb
 have G:eD ((δ.cx g κ).less j) w (δ1.cx g κ') w:=
  {B:=rfl,size:=Nat.le_refl _
   N:=fun b _ h2=>⟨⟨⟨h2.1.1,by
    rintro⟨n,h3|⟨_,h3⟩⟩
    ·exact h2.1.2 ⟨n,h3⟩
    ·exact h2.2 j kL (Jp b h3)⟩,fun n hn e=>h2.2 n ((bj n).1 hn) (hκs n b e).2⟩,rfl⟩
   Lr:=fun n hn=>⟨(iJ n).2 hn.1,hκo n hn.2,fun _ _=>rfl⟩
   Lb:=fun n hn=>⟨o6 n hn,hκo n (OP n hn)⟩}
 have R1:Rel g δ1 κ' a w:=
  {n:=r.n,dfr:=r.dfr
   env:=fun n=>by
    show RA _ w _ ((δ.cw (AV.kill j)).get n)
    rw[kz _ rfl];exact(r.env n).kill G
   obj:=fun n x h=>by
    rw[dJ] at h
    by_cases hn:i=n
    ·subst hn
     rw[if_pos rfl] at h
     cases h
     refine⟨(hκo i o_).trans hκi,fun kk=>?_,fun k1 k2 b h2 h3=>?_⟩
     ·unfold ir
      by_cases hk':kk=k
      ·rw[if_pos hk'];exact⟨cp,gw,fun b hb=> .inr ⟨rfl,hb⟩,hx1⟩
      ·rw[if_neg hk'];exact(sC kk).fp rfl fun b _ h2 _=>⟨.inl h2,rfl⟩
     ·have bx:∀kk b,(rows kk).1.ownBlock=some b→v.ownBlock=some b→False:=fun kk b h4 h5=>r.fr.ib kL (Jp b h5) ⟨i,(sC kk).2.2.1 b h4⟩
      unfold ir at h2 h3
      by_cases hk1:k1=k
      ·by_cases hk2:k2=k
       ·rw[hk1,hk2]
       ·rw[if_pos hk1] at h2
        rw[if_neg hk2] at h3
        exact(bx k2 b h3 h2).elim
      ·by_cases hk2:k2=k
       ·rw[if_neg hk1] at h2
        rw[if_pos hk2] at h3
        exact(bx k1 b h2 h3).elim
       ·rw[if_neg hk1] at h2
        rw[if_neg hk2] at h3
        exact tM k1 k2 b h2 h3
    ·rw[if_neg hn] at h
     cases ho':δ.ob n with
     |none=>rw[ho'] at h;simp at h
     |some o=>
      rw[ho'] at h
      simp only[Option.map_some,Option.some.injEq] at h
      subst h
      by_cases Qf:n=j
      ·subst Qf
       rw[hj] at ho'
       cases ho'
       intro b hb
       exact absurd rfl (hκs n b hb).1
      ·exact(r.obj n o ho').AX G (hκo n Qf) (fun _ _=>rfl) fun b h2 _=>⟨.inl h2,rfl⟩
   inj:=fun n m b h1 h2 h3 h4=>r.inj n m b ((bj n).1 h1) ((bj m).1 h2) (hκs n b h3).2 (hκs m b h4).2
   lo:=fun n b h1 h2=>r.lo n b ((bj n).1 h1) (hκs n b h2).2
   nx:=fun n h=>r.nx n ((bj n).1 h)
   wt:=fun kk hk=>⟨(r.wt kk hk).1,fun n b h1 pH h2=>(r.wt kk hk).2 n b ((bj n).1 h1) (pH.imp (iJ n).1 id) (hκs n b h2).2⟩
   below:=r.below,hB:=r.hB,N0:=r.N0,mkf:=r.mkf
   fr:=by
    refine⟨fun b hb=>?_,fun n b hb=>?_⟩
    ·obtain⟨h2,h3,h4⟩:=r.fr.1 b hb
     exact⟨h2,h3,fun m hm e=>h4 m ((bj m).1 hm) (hκs m b e).2⟩
    ·rcases hb with h2|⟨rfl,h2⟩
     ·obtain⟨h4,h5,h6,h7,h8⟩:=r.fr.2 n b h2
      refine⟨h4,h5,h6,fun m hm e=>h7 m ((bj m).1 hm) (hκs m b e).2,fun m hm=>?_⟩
      rcases hm with hm|⟨rfl,hm⟩
      ·exact h8 m hm
      ·exact(r.fr.ib kL (Jp b hm) ⟨n,h2⟩).elim
     ·have hκj:=Jp b h2
      obtain⟨h3,h4⟩:=r.lo j b kL hκj
      refine⟨⟨h3,fun kk hk=>(r.wt kk hk).2 j b kL (.inl hj) hκj⟩,h4,fun hf=>(r.fr.1 b hf).2.2 j kL hκj,fun m hm e=>?_,fun m hm=>?_⟩
      ·obtain⟨h5,h6⟩:=hκs m b e
       exact h5 (r.inj m j b ((bj m).1 hm) kL h6 hκj)
      ·rcases hm with hm|⟨rfl,_⟩
       ·exact(r.fr.ib kL hκj ⟨m,hm⟩).elim
       ·rfl}
 exact⟨v,κ',R1.mL (by rw[RF];exact .pv (.lit _))⟩
theorem AW.lS {c:Code} (i j k t:Nat) {e:TypeId} {rows:eU} {us:List Value} {els:List (List PV)} (ho:δ.ob i=some (.pool e rows)) (hj:δ.ob j=some .row) (ht:δ.get t=.own j e 1 els) (he:els=us.map fun u=>[.lit u]) (hk:(rows k).1=.slice none 0 0)
  (hK:∀v,AW P g c Q (((δ.cw (AV.kill j)).bB i (some (.pool e (ir rows k (v,us))))).put t (.pv (.lit v)))):AW P g c Q δ:=fun κ a w r=>by
 obtain⟨v,κ',r'⟩:=r.lS ho hj ht he hk
 exact hK v κ' a w r'
theorem AW.vt {c:Code} (i k m:Nat) {e:TypeId} {rows:eU} {H:Value} {ys:List Value} (ho:δ.ob i=some (.pool e rows)) (hk:rows k=(H,ys)) (hm:m≤ys.length) (hK:AW P g c Q (δ.bB i (some (.pool e (ir rows k (dk m H,ys.take m)))))):AW P g c Q δ:=fun κ a w r=>by
 have h0:=ct r ho k
 have hl:=((r.obj i _ ho).2.1 k).2.1
 have h1c:=((r.obj i _ ho).2.1 k).2.2.2
 rw[hk] at h0 h1c hl
 simp only at h0 h1c hl
 have hlen:(ys.take m).length=m:=by simp;omega
 have cp:w.ownsRow g.B e 1 (dk m H) (ys.take m).length (ys.take m)∧∀b,(dk m H).ownBlock=some b→H.ownBlock=some b:=by
  rcases h0.2 with ⟨h1,h2⟩|⟨b,cap,cur,h1,hB,h3,hle,Bo,kG,ot⟩
  ·subst h1
   obtain rfl:m=0:=by omega
   exact⟨⟨by simp,.inl ⟨rfl,by simp⟩⟩,fun b hb=>by cases hb⟩
  ·subst h1
   refine⟨⟨by simp,.inr ⟨b,cap,cur,by rw[hlen];rfl,hB,h3,by rw[hlen];omega,Bo,kG,?_⟩⟩,fun b hb=>hb⟩
   rw[hlen,← ot,List.take_take,Nat.mul_one,Nat.mul_one,Nat.min_eq_left hm]
 obtain⟨κ',r',_⟩:=r.iZ ho (k:=k) (w':=w) ⟨rfl,rfl,rfl,Nat.le_refl _,fun _ _ _=>rfl⟩ cp.1 (by rw[hlen];omega) (fun u hu=>h1c u (List.mem_of_mem_take hu)) (fun b hb=> .inl (by rw[hk];exact cp.2 b hb))
 exact hK κ' a w r'
theorem Rel.qo (r:Rel g δ κ a w) (e:TypeId):Rel g (δ.bf (.pool e fun _=>(.slice none 0 0,[]))) (cA κ δ.nx none) a w:=by
 have iy:¬δ.live δ.nx:=fun h=>Nat.lt_irrefl _ (r.nx _ h)
 have bx:∀i,δ.live i→δ.nx≠i:=fun i h e=>iy (e▸h)
 have bj:∀i,(δ.bf (.pool e fun _=>(.slice none 0 0,[]))).live i→i=δ.nx∨δ.live i:=by
  intro i ⟨o',h⟩
  rw[bt] at h
  by_cases e:δ.nx=i
  ·exact .inl e.symm
  ·rw[if_neg e] at h;exact .inr ⟨o',h⟩
 have jf:∀i b,(δ.bf (.pool e fun _=>(.slice none 0 0,[]))).live i→cA κ δ.nx none i=some b→δ.live i∧κ i=some b:=by
  intro i b hi h
  rcases bj i hi with rfl|hi
  ·simp [cA] at h
  ·simp only[cA,bx i hi,if_false] at h;exact⟨hi,h⟩
 have G:eD (δ.cx g κ) w ((δ.bf (.pool e fun _=>(.slice none 0 0,[]))).cx g (cA κ δ.nx none)) w:=
  {B:=rfl,size:=Nat.le_refl _
   N:=fun b h1 h2=>⟨⟨h2.1,fun i hi e=>let ⟨h3,h4⟩:=jf i b hi e;h2.2 i h3 h4⟩,rfl⟩
   Lr:=fun i hi=>by
    have hi':=bx i (DS.bU hi)
    refine⟨?_,by show cA _ _ _ i=κ i;simp [cA,hi'],fun b hκ=>rfl⟩
    show(δ.bf _).ob i=_
    rw[bt,if_neg hi'];exact hi
   Lb:=fun i hi=>by
    have hi':=bx i (DS.fX hi)
    refine⟨?_,by show cA _ _ _ i=κ i;simp [cA,hi']⟩
    obtain⟨o',h1,h2⟩:=hi
    exact⟨o',by rw[bt,if_neg hi'];exact h1,h2⟩}
 exact
  {n:=r.n,dfr:=r.dfr,env:=fun j=>G.ra (r.env j)
   obj:=fun i o' h=>by
    rw[bt] at h
    by_cases e:δ.nx=i
    ·rw[if_pos e] at h;cases h;subst e
     exact⟨by show cA _ _ _ _=_;simp [cA],fun k=>⟨w.ownsRow_nil _ _ _,by simp,fun b hb=>by simp [Value.ownBlock] at hb,fun u hu=>by simp at hu⟩,fun k k' b hb=>by simp [Value.ownBlock] at hb⟩
    ·rw[if_neg e] at h
     exact(r.obj i o' h).fp G (by show cA _ _ _ i=κ i;simp [cA,e]) (fun b hκ=>rfl) (fun b hF aM=>⟨hF,rfl⟩)
   inj:=fun i j b h1 h2 h3 h4=>let ⟨h5,h6⟩:=jf i b h1 h3;let ⟨h7,h8⟩:=jf j b h2 h4;r.inj i j b h5 h7 h6 h8
   lo:=fun i b h1 h2=>let ⟨h5,h6⟩:=jf i b h1 h2;r.lo i b h5 h6
   nx:=fun i h=>by
    show i<δ.nx+1
    rcases bj i h with rfl|h
    ·omega
    ·have:=r.nx i h;omega
   wt:=fun k hk=>⟨(r.wt k hk).1,fun i b hi hi' hκ hb=>by
    obtain⟨h5,h6⟩:=jf i b hi hκ
    refine(r.wt k hk).2 i b h5 (hi'.imp (fun h=>?_) id) h6 hb
    have h7:(δ.bf _).ob i=some .row:=h
    rw[bt,if_neg (bx i h5)] at h7
    exact h7⟩
   below:=r.below,hB:=r.hB,N0:=r.N0,mkf:=r.mkf
   fr:=r.fr.sub fun i b h1 h2=>let ⟨h5,h6⟩:=jf i b h1 h2;⟨i,h5,h6⟩}
theorem AW.qo {c:Code} (e:TypeId) (hK:AW P g c Q (δ.bf (.pool e fun _=>(.slice none 0 0,[])))):AW P g c Q δ:=fun _ a w r=>hK _ a w (r.qo e)
end Go.Ab
/- Contracts with more than one outcome:of the caller's objects,and of the result,only a relation is told. -/
namespace Go.Ab
open Go Go.RowKit
variable {P:Program} {g:au} {δ:DS} {κ:Kp} {a:Act} {w:World}
variable {ops:Array Oper} {rest:List Oper} {Q:Exit→DS→Prop} {dst:Option Nat} {ty:TypeId} {pos:String} {af:Array Edge}
abbrev n8 {α:Type} (P:Program) (f:FuncId) (n0:Nat) (objs0:List (Nat×Option Ob)) (args:List AV) (p:α→Prop) (objs1:α→List (Nat×Option Ob)) (r:α→AV):Prop:=
 mV (fun _=>True) P (fun(x:α) C w e=>p x∧IS (r x) C w e) f n0 objs0 args objs1
def fI {α:Type} (P:Program) (rs:List ResultVar) (objs0:List (Nat×Option Ob)) (p:α→Prop) (objs1:α→List (Nat×Option Ob)) (r:α→AV):Exit→DS→Prop
 |.normal,δ|.ret,δ=>∃x,p x∧∃v,bA P δ rs v∧WV δ (XF δ objs0 (objs1 x)) v (r x)∧WV δ (XF δ objs0 (objs1 x)) (δ.get 1000) (.agg (b9 objs0))∧ja δ (XF δ objs0 (objs1 x)) (objs1 x)∧nf δ.nx (objs1 x)=true
 |_,_=>False
theorem cg {α:Type} {rs:List ResultVar} {objs0:List (Nat×Option Ob)} {p:α→Prop} {objs1:α→List (Nat×Option Ob)} {r:α→AV} {v:AV} (x:α) (hp:p x) (h:bA P δ rs v) (hw:xx δ (XF δ objs0 (objs1 x)) [v,δ.get 1000] [r x,.agg (b9 objs0)]) (ho:ja δ (XF δ objs0 (objs1 x)) (objs1 x)) (hx:nf δ.nx (objs1 x)=true):fI P rs objs0 p objs1 r .ret δ:=⟨x,hp,v,h,hw.1,hw.2.1,ho,hx⟩
theorem gW {α:Type} {rs:List ResultVar} {objs0:List (Nat×Option Ob)} {p:α→Prop} {objs1:α→List (Nat×Option Ob)} {r:α→AV} {v:AV} (x:α) (hp:p x) (h:bA P δ rs v) (hw:xx δ (XF δ objs0 (objs1 x)) [v,δ.get 1000] [r x,.agg (b9 objs0)]) (ho:ja δ (XF δ objs0 (objs1 x)) (objs1 x)) (hx:nf δ.nx (objs1 x)=true):fI P rs objs0 p objs1 r .normal δ:=⟨x,hp,v,h,hw.1,hw.2.1,ho,hx⟩
theorem n8.enter {α:Type} {f:FuncId} {fn:Func} {c:Code} {rs:List ResultVar} {n n0:Nat} {objs0:List (Nat×Option Ob)} {args:List AV} {p:α→Prop} {objs1:α→List (Nat×Option Ob)} {r:α→AV} (hf:P.funcs[f]? =some fn) (hb:fn.body=some c) (ni:fn.results=rs.toArray) (hn:fn.ntmps=n) (vQ:Nat.ble args.length n=true)
  (kv:Nat.ble n HS=true) (he:(fn.name== "runtime.NumGoroutine")=false) (nr:na objs0 objs0=true) (hn1:∀x,nf n0 (objs1 x)=true)
  (h:∀g:au,g.ro=none→g.wt=none→AW P g c (fI P rs objs0 p objs1 r) ⟨n,enum 0 args++ [(1000,.agg (b9 objs0))],objs0,n0⟩):n8 P f n0 objs0 args p objs1 r:=by
 refine mV.enter (Q:=fI P rs objs0 p objs1 r) hf hb hn vQ kv he nr hn1 (fun g h1 h2 _=>h g h1 h2) fun g e δ' κ' a' w' R du rm hq r' hR=>?_
 have fin:(∃x,p x∧∃v,bA P δ' rs v∧WV δ' (XF δ' objs0 (objs1 x)) v (r x)∧WV δ' (XF δ' objs0 (objs1 x)) (δ'.get 1000) (.agg (b9 objs0))∧ja δ' (XF δ' objs0 (objs1 x)) (objs1 x)∧nf δ'.nx (objs1 x)=true)→
   LeavesInM Fence.wide 0 P fn a'.tmps R a'.defers .returning w':=fun⟨x,OR,v,h1,hv,hp,ho,hx⟩=>
  leaves (g:=g) du rm ni h1 r' fun w2 r2 u hu=>hR x hp ho hx _ _ r2 ⟨OR,u,rfl,hu.wv (δ:=δ') (δ':=XF δ' objs0 (objs1 x)) r2.fG r2.obj hv⟩
 cases e with
 |normal=>exact fin hq
 |ret=>exact fin hq
 |_=>exact hq.elim
theorem aa.eH {α:Type} {y:Operand} {f:FuncId} {xs:List Operand} {tys:Array TypeId} {first cap args:List AV} {n0:Nat} {objs0:List (Nat×Option Ob)} {p:α→Prop} {objs1:α→List (Nat×Option Ob)} {r:α→AV} (du:g.wt=none) (hf:n8 P f n0 objs0 args p objs1 r) (hy:δ.ev y=.clo (.func f) first cap) (fb:aK y=true) (mD:xs.all aK=true)
  (eW:uO δ objs0) (bS:oS (XS objs0 n0).lu (XS objs0 n0).kZ (first++xs.map δ.ev++cap) args) (hk:∀x,eA objs0 (objs1 x)=true) (hn0:nf n0 objs0=true) (mQ:gC (XS objs0 n0).lu (XS objs0 n0).kZ objs0)
  (jS:∀x,gC (XS (objs1 x) n0).lu (XS (objs1 x) n0).kZ (objs1 x)) (hr:∀x,(r x).ids (XS (objs1 x) n0).lu (XS (objs1 x) n0).kZ=true) (hd:bn δ.n dst=true)
  (hK:∀x,p x→aa .plain P g ops rest Q ((δ.cD objs0 (objs1 x)).aw dst (r x))):
  aa .plain P g ops (⟨dst,.call {callee:=.value y,args:=xs.toArray,argTypes:=tys},ty,pos,af,none⟩::rest) Q δ:=
 qy du (fun _ _=>trivial) hf hy fb mD eW bS hk hn0 mQ jS (fun x κ a w' C v hR hE ng=>by
  obtain⟨hp,u,he,hu⟩:=hE
  cases he
  exact hK x hp _ _ _ (hR.aw (aS hd) (ng (r x) hu (hr x)))) (fun _ C w' ch hE=>by obtain⟨_,u,he,_⟩:=hE;cases he) (fun _ C w' hE=>by obtain⟨_,u,he,_⟩:=hE;cases he)
end Go.Ab
/- Pools of numbers. -/
namespace Go.Ab
open Go Go.RowKit
variable {q:Md} {P:Program} {g:au} {δ:DS} {κ:Kp} {a:Act} {w:World}
variable {ops:Array Oper} {rest:List Oper} {Q:Exit→DS→Prop} {dst:Option Nat} {ty:TypeId} {pos:String} {af:Array Edge} {gd:Option (Tmp×Bool)}
abbrev vI (x:Int):Value:=.int .i64 x
def aC {α:Type} (f:Nat→α) (k:Nat) (v:α):Nat→α:=fun j=>if j=k then v else f j
theorem ab {α:Type} (f:Nat→α) (k:Nat) (v:α):aC f k v k=v:=by simp [aC]
theorem aQ {α:Type} (f:Nat→α) {k j:Nat} (v:α) (h:j≠k):aC f k v j=f j:=by simp [aC,h]
theorem pj {α:Type} (f:Nat→α) (k:Nat):aC f k (f k)=f:=by funext j;unfold aC;split<;>simp_all
theorem dC {α:Type} (f:Nat→α) (k:Nat) (v u:α):aC (aC f k v) k u=aC f k u:=by funext j;unfold aC;split<;>rfl
def eJ (hs:Nat→Value) (ls:Nat→List Int):eU:=fun k=>(hs k,(ls k).map vI)
theorem kB (hs:Nat→Value) (ls:Nat→List Int) (k:Nat) (h:Value) (xs:List Int) {ys:List Value} (hy:ys=xs.map vI):ir (eJ hs ls) k (h,ys)=eJ (aC hs k h) (aC ls k xs):=by
 subst hy
 funext j
 unfold ir eJ aC
 split<;>rfl
theorem n3 (hs:Nat→Value) (ls:Nat→List Int) (k:Nat) (xs:List Int) {ys:List Value} (hy:ys=xs.map vI):ir (eJ hs ls) k (hs k,ys)=eJ hs (aC ls k xs):=by
 rw[kB hs ls k _ xs hy,pj]
section
variable {i k:Nat} {e:TypeId} {hs:Nat→Value} {ls:Nat→List Int}
theorem aa.iB (i:Nat) {x:Operand} {t e':TypeId} (ho:δ.ob i=some (.pool e (eJ hs ls))) (hx:δ.ev x=.pv (.lit (hs k))) (ht:P.underlying t=some (.slice e')) (fg:aK x=true) (hd:bn δ.n dst=true)
  (hK:aa q P g ops rest Q (δ.aw dst (al ((ls k).length:Nat)))):aa q P g ops (⟨dst,.call {callee:=.builtin .len,args:= #[x],argTypes:= #[t]},ty,pos,af,none⟩::rest) Q δ:=
 aa.Da i k ho rfl hx ht fg hd (by rw[List.length_map];exact hK)
theorem aa.sS (i:Nat) {x:Operand} {t e':TypeId} {m:Nat} (ho:δ.ob i=some (.pool e (eJ hs ls))) (hx:δ.ev x=.pv (.lit (fa m (hs k)))) (ht:P.underlying t=some (.slice e')) (fg:aK x=true) (hd:bn δ.n dst=true)
  (hK:aa q P g ops rest Q (δ.aw dst (al ((ls k).length - m:Nat)))):aa q P g ops (⟨dst,.call {callee:=.builtin .len,args:= #[x],argTypes:= #[t]},ty,pos,af,none⟩::rest) Q δ:=
 aa.ry i k m ho rfl hx ht fg hd (by rw[List.length_map];exact hK)
theorem aa.aB (i:Nat) {x y:Operand} {t e':TypeId} {m:Int} (ho:δ.ob i=some (.pool e (eJ hs ls))) (hx:δ.ev x=.pv (.lit (hs k))) (hy:δ.ev y=al m) (ht:P.underlying t=some (.slice e')) (hs1:(P.info? e').map (·.size)=some 1) (fg:aK x=true) (fb:aK y=true) (hd:bn δ.n dst=true)
  (h0:0≤m) (hn:m.toNat<(ls k).length) (hK:aa q P g ops rest Q (δ.aw dst (.pv (.lit (ig m.toNat (hs k)))))):aa q P g ops (⟨dst,.indexAddr t x y,ty,pos,af,none⟩::rest) Q δ:=
 aa.xE i k ho rfl hx (n:=m.toNat) (by rw[Int.toNat_of_nonneg h0];exact hy) (by rw[List.length_map];exact hn) ht hs1 fg fb hd hK
theorem aa.qp (i:Nat) {x y:Operand} {t e':TypeId} {m:Int} {m0:Nat} (ho:δ.ob i=some (.pool e (eJ hs ls))) (hx:δ.ev x=.pv (.lit (fa m0 (hs k)))) (hy:δ.ev y=al m) (ht:P.underlying t=some (.slice e')) (hs1:(P.info? e').map (·.size)=some 1) (fg:aK x=true) (fb:aK y=true) (hd:bn δ.n dst=true)
  (h0:0≤m) (hn:m0+m.toNat<(ls k).length) (hK:aa q P g ops rest Q (δ.aw dst (.pv (.lit (ig (m0+m.toNat) (hs k)))))):aa q P g ops (⟨dst,.indexAddr t x y,ty,pos,af,none⟩::rest) Q δ:=
 aa.oW i k m0 ho rfl hx (n:=m.toNat) (by rw[Int.toNat_of_nonneg h0];exact hy) (by rw[List.length_map];exact hn) ht hs1 fg fb hd hK
theorem aa.aA (i:Nat) {x:Operand} {t:TypeId} {n:Nat} (ho:δ.ob i=some (.pool e (eJ hs ls))) (hx:δ.ev x=.pv (.lit (ig n (hs k)))) (ht:eu P t=true) (fg:aK x=true) (hd:bn δ.n dst=true) (hq:q≠ .held)
  (hn:n<(ls k).length) (hK:aa q P g ops rest Q (δ.aw dst (al (ls k)[n]))):aa q P g ops (⟨dst,.load t x,ty,pos,af,none⟩::rest) Q δ:=
 aa.A5 i k ho rfl hx (u:=vI (ls k)[n]) (by rw[List.getElem?_map,List.getElem?_eq_getElem hn];rfl) ht fg hd hq hK
theorem aa.fh (i:Nat) {x y:Operand} {t:TypeId} {n:Nat} {v:Int} (ho:δ.ob i=some (.pool e (eJ hs ls))) (hx:δ.ev x=.pv (.lit (ig n (hs k)))) (hy:δ.ev y=al v) (ht:(P.info? t).map (·.size)=some 1) (fg:aK x=true) (fb:aK y=true) (hd:bn δ.n dst=true)
  (hn:n<(ls k).length) (hK:aa .plain P g ops rest Q ((δ.bB i (some (.pool e (eJ hs (aC ls k ((ls k).set n v)))))).aw dst .any)):aa .plain P g ops (⟨dst,.store t x y,ty,pos,af,none⟩::rest) Q δ:=
 aa.mc i k ho rfl hx (by rw[List.length_map];exact hn) hy rfl ht fg fb hd (by rw[n3 hs ls k ((ls k).set n v) (by rw[List.map_set])];exact hK)
theorem aa.nM (i:Nat) {t e':TypeId} {x y:Operand} {m:Int} (ho:δ.ob i=some (.pool e (eJ hs ls))) (hx:δ.ev x=.pv (.lit (hs k))) (hy:δ.ev y=al m) (ht:P.underlying t=some (.slice e')) (hs1:(P.info? e').map (·.size)=some 1) (fg:aK x=true) (fb:aK y=true) (hd:bn δ.n dst=true)
  (h0:0≤m) (hm:m.toNat≤(ls k).length) (hK:aa q P g ops rest Q (δ.aw dst (.pv (.lit (dk m.toNat (hs k)))))):aa q P g ops (⟨dst,.slice t x none (some y) none,ty,pos,af,none⟩::rest) Q δ:=
 aa.xn i k m.toNat ho rfl hx (by rw[Int.toNat_of_nonneg h0];exact hy) (by rw[List.length_map];exact hm) ht hs1 fg fb hd hK
theorem aa.p_ (i:Nat) {t e':TypeId} {x y:Operand} {m:Int} (ho:δ.ob i=some (.pool e (eJ hs ls))) (hx:δ.ev x=.pv (.lit (hs k))) (hy:δ.ev y=al m) (ht:P.underlying t=some (.slice e')) (hs1:(P.info? e').map (·.size)=some 1) (fg:aK x=true) (fb:aK y=true) (hd:bn δ.n dst=true)
  (h0:0≤m) (hm:m.toNat≤(ls k).length) (hK:aa q P g ops rest Q (δ.aw dst (.pv (.lit (fa m.toNat (hs k)))))):aa q P g ops (⟨dst,.slice t x (some y) none none,ty,pos,af,none⟩::rest) Q δ:=
 aa.AU i k m.toNat ho rfl hx (by rw[Int.toNat_of_nonneg h0];exact hy) (by rw[List.length_map];exact hm) ht hs1 fg fb hd hK
theorem aa.xY (i:Nat) {x:Operand} {t e':TypeId} {m:Nat} (ho:δ.ob i=some (.pool e (eJ hs ls))) (hx:δ.ev x=.pv (.lit (dk m (hs k)))) (ht:P.underlying t=some (.slice e')) (fg:aK x=true) (hd:bn δ.n dst=true) (hm:m≤(ls k).length)
  (hK:aa q P g ops rest Q (δ.aw dst (al (m:Nat)))):aa q P g ops (⟨dst,.call {callee:=.builtin .len,args:= #[x],argTypes:= #[t]},ty,pos,af,none⟩::rest) Q δ:=
 aa.dA _ hd (fun κ a w r=>by
  have h0:=ct r ho k
  unfold eJ at h0
  simp only[List.length_map] at h0
  have hv:a.eval x=dk m (hs k):=r.lit hx fg
  rcases h0.2 with ⟨h1,h2⟩|⟨b,cap,cur,h1,_⟩
  ·rw[h1] at hv
   exact⟨_,fun w' _=>run_len_slice ht x a.eval none _ 0 hv w',.pv (.lit _)⟩
  ·rw[h1] at hv
   exact⟨_,fun w' _=>run_len_slice ht x a.eval _ _ cap hv w',.pv (.lit _)⟩) hK
theorem aa.tO (i:Nat) {x y:Operand} {t e':TypeId} {m:Int} {m0:Nat} (ho:δ.ob i=some (.pool e (eJ hs ls))) (hx:δ.ev x=.pv (.lit (dk m0 (hs k)))) (hy:δ.ev y=al m) (ht:P.underlying t=some (.slice e')) (hs1:(P.info? e').map (·.size)=some 1) (fg:aK x=true) (fb:aK y=true) (hd:bn δ.n dst=true)
  (h0:0≤m) (hn:m.toNat<m0) (hm0:m0≤(ls k).length) (hK:aa q P g ops rest Q (δ.aw dst (.pv (.lit (ig m.toNat (hs k)))))):aa q P g ops (⟨dst,.indexAddr t x y,ty,pos,af,none⟩::rest) Q δ:=
 aa.dA _ hd (fun κ a w r=>by
  have h00:=ct r ho k
  unfold eJ at h00
  simp only[List.length_map] at h00
  have hv:a.eval x=dk m0 (hs k):=r.lit hx fg
  rcases h00.2 with ⟨h1,h2⟩|⟨b,cap,cur,h1,_⟩
  ·exfalso;omega
  ·rw[h1] at hv ⊢
   refine⟨_,fun w' _=>?_,.pv (.lit _)⟩
   have:=cT (dst:=dst) (ty:=ty) (pos:=pos) (af:=af) ht hs1 hv (n:=m.toNat) (by rw[Int.toNat_of_nonneg h0];exact r.lit hy fb) hn w'
   rw[Nat.mul_one] at this
   exact this) hK
theorem aa.wO (i:Nat) {s x:Operand} {t:TypeId} {bytes:Nat} {z:Value} {us:List Int} {els:List (List PV)} (ho:δ.ob i=some (.pool e (eJ hs ls))) (Bp:δ.ev s=.pv (.lit (hs k))) (hx:ln δ x 1 els) (he:els=us.map fun u=>[.lit (vI u)]) (ht:P.underlying t=some (.slice e)) (hi:(P.info? e).map (fun i=>(i.size,i.zero,i.bytes))=some (1,some z,bytes)) (hz1:z.oneCell'=true) (mD:aK s=true) (fg:aK x=true) (hd:bn δ.n dst=true)
  (CB:Nat.ble bytes 64=true) (hl:(ls k).length+us.length≤1000000000) (hK:∀v',v'.oneCell'=true→aa .plain P g ops rest Q ((δ.bB i (some (.pool e (eJ (aC hs k v') (aC ls k (ls k++us)))))).aw dst (.pv (.lit v')))):aa .plain P g ops (⟨dst,.call {callee:=.builtin .append,args:= #[s,x],argTypes:= #[t,t]},ty,pos,af,none⟩::rest) Q δ:=by
 have h64:bytes≤64:=by simpa using CB
 refine aa.vi i k ho rfl Bp (us:=us.map vI) (.src hx (by rw[he,List.map_map];rfl)) ht hi hz1 mD fg hd ?_ (by simp only[List.length_map];omega) fun v'=>?_
 ·simp only[List.length_map]
  have:((ls k).length+us.length)*bytes≤1000000000*64:=Nat.mul_le_mul hl h64
  omega
 ·rw[kB hs ls k v' (ls k++us) (by rw[List.map_append])]
  intro κ a w r
  refine hK v' ?_ κ a w r
  have h0:=ct r (i:=i) (rows:=eJ (aC hs k v') (aC ls k (ls k++us))) (e:=e) (by cases dst<;>exact(dD _ _ _ _).trans (if_pos rfl)) k
  unfold eJ at h0
  simp only[ab] at h0
  rcases h0.2 with ⟨h1,_⟩|⟨b,cap,cur,h1,_⟩<;>rw[h1]<;>rfl
theorem aa.gr (i:Nat) {s x:Operand} {t:TypeId} {bytes:Nat} {z:Value} {u:Int} {els:List (List PV)} (ho:δ.ob i=some (.pool e (eJ hs ls))) (Bp:δ.ev s=.pv (.lit (hs k))) (hx:ln δ x 1 els) (he:els=[[.lit (vI u)]]) (ht:P.underlying t=some (.slice e)) (hi:(P.info? e).map (fun i=>(i.size,i.zero,i.bytes))=some (1,some z,bytes)) (hz1:z.oneCell'=true) (mD:aK s=true) (fg:aK x=true) (hd:bn δ.n dst=true)
  (CB:Nat.ble bytes 64=true) (hl:(ls k).length+1≤1000000000) (hK:∀v',v'.oneCell'=true→aa .plain P g ops rest Q ((δ.bB i (some (.pool e (eJ (aC hs k v') (aC ls k (ls k++ [u])))))).aw dst (.pv (.lit v')))):aa .plain P g ops (⟨dst,.call {callee:=.builtin .append,args:= #[s,x],argTypes:= #[t,t]},ty,pos,af,none⟩::rest) Q δ:=
 aa.wO i (us:=[u]) ho Bp hx he ht hi hz1 mD fg hd CB hl hK
theorem aa.rO (i m:Nat) {s x:Operand} {t:TypeId} {bytes:Nat} {z:Value} {us:List Int} {els:List (List PV)} (ho:δ.ob i=some (.pool e (eJ hs ls))) (Bp:δ.ev s=.pv (.lit (dk m (hs k)))) (hx:ln δ x 1 els) (he:els=us.map fun u=>[.lit (vI u)]) (ht:P.underlying t=some (.slice e)) (hi:(P.info? e).map (fun i=>(i.size,i.zero,i.bytes))=some (1,some z,bytes)) (mD:aK s=true) (fg:aK x=true) (hd:bn δ.n dst=true)
  (ff:m+us.length≤(ls k).length) (bx:ls k≠ []) (hK:aa .plain P g ops rest Q ((δ.bB i (some (.pool e (eJ hs (aC ls k ((ls k).take m++us++(ls k).drop (m+us.length))))))).aw dst (.pv (.lit (dk (m+us.length) (hs k)))))):aa .plain P g ops (⟨dst,.call {callee:=.builtin .append,args:= #[s,x],argTypes:= #[t,t]},ty,pos,af,none⟩::rest) Q δ:=
 aa.kp i k m ho rfl Bp (us:=us.map vI) (.src hx (by rw[he,List.map_map];rfl)) (by simp only[List.length_map];exact ff) (by simpa using bx) ht hi mD fg hd (by
  rw[n3 hs ls k ((ls k).take m++us++(ls k).drop (m+us.length)) (by simp [List.map_take,List.map_drop]),List.length_map];exact hK)
theorem aa.dN (i:Nat) {m:Nat} {s x:Operand} {t:TypeId} {bytes:Nat} {z:Value} {u:Int} {els:List (List PV)} (ho:δ.ob i=some (.pool e (eJ hs ls))) (Bp:δ.ev s=.pv (.lit (dk m (hs k)))) (hx:ln δ x 1 els) (he:els=[[.lit (vI u)]]) (ht:P.underlying t=some (.slice e)) (hi:(P.info? e).map (fun i=>(i.size,i.zero,i.bytes))=some (1,some z,bytes)) (mD:aK s=true) (fg:aK x=true) (hd:bn δ.n dst=true)
  (ff:m+1≤(ls k).length) (hK:aa .plain P g ops rest Q ((δ.bB i (some (.pool e (eJ hs (aC ls k ((ls k).set m u)))))).aw dst (.pv (.lit (dk (m+1) (hs k)))))):aa .plain P g ops (⟨dst,.call {callee:=.builtin .append,args:= #[s,x],argTypes:= #[t,t]},ty,pos,af,none⟩::rest) Q δ:=
 aa.rO i m (us:=[u]) ho Bp hx he ht hi mD fg hd ff (by intro h;rw[h] at ff;simp at ff) (by
  have e1:(ls k).take m++ [u]++(ls k).drop (m+ [u].length)=(ls k).set m u:=by
   rw[List.set_eq_take_append_cons_drop,if_pos (by omega)];simp
  rw[e1];exact hK)
theorem aa.jV (i m m':Nat) {s x:Operand} {t:TypeId} {bytes:Nat} {z:Value} (ho:δ.ob i=some (.pool e (eJ hs ls))) (Bp:δ.ev s=.pv (.lit (dk m (hs k)))) (hx:δ.ev x=.pv (.lit (fa m' (hs k)))) (ht:P.underlying t=some (.slice e)) (hi:(P.info? e).map (fun i=>(i.size,i.zero,i.bytes))=some (1,some z,bytes)) (mD:aK s=true) (fg:aK x=true) (hd:bn δ.n dst=true)
  (ff:m≤m') (hm':m'≤(ls k).length) (bx:ls k≠ []) (hK:aa .plain P g ops rest Q ((δ.bB i (some (.pool e (eJ hs (aC ls k ((ls k).take m++(ls k).drop m'++(ls k).drop (m+((ls k).length - m')))))))).aw dst (.pv (.lit (dk (m+((ls k).length - m')) (hs k)))))):aa .plain P g ops (⟨dst,.call {callee:=.builtin .append,args:= #[s,x],argTypes:= #[t,t]},ty,pos,af,none⟩::rest) Q δ:=
 aa.kp i k m ho rfl Bp (us:=((ls k).map vI).drop m') (.tail ho rfl (by simp only[List.length_map];exact hm') hx (by simpa using bx)) (by simp only[List.length_map,List.length_drop];omega) (by simpa using bx) ht hi mD fg hd (by
  have e1:(((ls k).map vI).drop m').length=(ls k).length - m':=by simp
  rw[e1,n3 hs ls k ((ls k).take m++(ls k).drop m'++(ls k).drop (m+((ls k).length - m'))) (by simp [List.map_take,List.map_drop])];exact hK)
end
def bO (n:Nat) (h:Nat→Value):List (List PV):=(List.range n).map fun j=>[.lit (h j)]
theorem fz (n:Nat) (h:Nat→Value):(bO n h).length=n:=by simp [bO]
theorem Cg {n k:Nat} (h:Nat→Value) (hk:k<n):(bO n h)[k]? =some [.lit (h k)]:=by simp [bO,hk]
theorem bk {n k:Nat} (h:Nat→Value) (hk:k<n) (v:Value):(bO n h).set k [.lit v]=bO n (aC h k v):=by
 apply List.ext_getElem (by simp [bO])
 intro j h1 h2
 have hj:j<n:=by simpa [bO] using h1
 rw[List.getElem_set]
 simp only[bO,List.getElem_map,List.getElem_range]
 by_cases e:k=j
 ·subst e;rw[if_pos rfl,ab]
 ·rw[if_neg e,aQ _ _ (Ne.symm e)]
theorem aP (n:Nat) (h:Nat→Value):bO n h++ [[.lit (h n)]]=bO (n+1) h:=by
 simp only[bO,List.range_succ,List.map_append,List.map_cons,List.map_nil]
theorem aa.fz {x:Operand} {t e e':TypeId} {i n:Nat} {h:Nat→Value} (hx:δ.ev x=.own i e' 1 (bO n h)) (ht:P.underlying t=some (.slice e)) (ho:aK x=true) (hd:bn δ.n dst=true)
  (hK:aa q P g ops rest Q (δ.aw dst (al (n:Nat)))):aa q P g ops (⟨dst,.call {callee:=.builtin .len,args:= #[x],argTypes:= #[t]},ty,pos,af,none⟩::rest) Q δ:=
 aa.yF hx ht ho hd (by rw[Go.Ab.fz];exact hK)
theorem aa.w8 {x y:Operand} {t e e':TypeId} {i n:Nat} {m:Int} {h:Nat→Value} (hx:δ.ev x=.own i e' 1 (bO n h)) (hy:δ.ev y=al m) (ht:P.underlying t=some (.slice e)) (hk:(P.info? e).map (·.size)=some 1) (ho:aK x=true) (ho':aK y=true) (hd:bn δ.n dst=true) (h0:0≤m) (hn:m.toNat<n)
  (hK:aa q P g ops rest Q (δ.aw dst (.optr i e' 1 (bO n h) m.toNat))):aa q P g ops (⟨dst,.indexAddr t x y,ty,pos,af,none⟩::rest) Q δ:=
 aa.kW (n:=m.toNat) hx (by rw[Int.toNat_of_nonneg h0];exact hy) (by rw[Go.Ab.fz];exact hn) ht hk ho ho' hd hK
theorem aa.dK {x:Operand} {t e:TypeId} {i n m:Nat} {h:Nat→Value} (hx:δ.ev x=.optr i e 1 (bO n h) m) (ht:eu P t=true) (ho:aK x=true) (hd:bn δ.n dst=true) (hq:q≠ .held) (hn:m<n)
  (hK:aa q P g ops rest Q (δ.aw dst (.pv (.lit (h m))))):aa q P g ops (⟨dst,.load t x,ty,pos,af,none⟩::rest) Q δ:=
 aa.yZ hq hx (Cg h hn) ht ho hd hK
theorem AW.rZ {c:Code} (i j k t:Nat) {e:TypeId} {hs:Nat→Value} {ls:Nat→List Int} {us:List Int} {els:List (List PV)} (ho:δ.ob i=some (.pool e (eJ hs ls))) (hj:δ.ob j=some .row) (ht:δ.get t=.own j e 1 els) (he:els=us.map fun u=>[.lit (vI u)]) (hk:hs k=.slice none 0 0)
  (hK:∀v,v.oneCell'=true→AW P g c Q (((δ.cw (AV.kill j)).bB i (some (.pool e (eJ (aC hs k v) (aC ls k us))))).put t (.pv (.lit v)))):AW P g c Q δ:=
 AW.lS i j k t (us:=us.map vI) ho hj ht (by rw[he,List.map_map];rfl) hk fun v=>by
  rw[kB hs ls k v us rfl]
  intro κ a w r
  refine hK v ?_ κ a w r
  have h0:=ct r (i:=i) (rows:=eJ (aC hs k v) (aC ls k us)) (e:=e) (by show((δ.cw (AV.kill j)).bB i _).ob i=_;rw[dD,if_pos rfl]) k
  unfold eJ at h0
  simp only[ab] at h0
  rcases h0.2 with ⟨h1,_⟩|⟨b,cap,cur,h1,_⟩<;>rw[h1]<;>rfl
theorem AW.ml {c:Code} (i k m:Nat) {e:TypeId} {hs:Nat→Value} {ls:Nat→List Int} (ho:δ.ob i=some (.pool e (eJ hs ls))) (hm:m≤(ls k).length) (hK:AW P g c Q (δ.bB i (some (.pool e (eJ (aC hs k (dk m (hs k))) (aC ls k ((ls k).take m))))))):AW P g c Q δ:=
 AW.vt i k m ho rfl (by rw[List.length_map];exact hm) (by rw[kB hs ls k _ ((ls k).take m) (by rw[List.map_take])];exact hK)
theorem AW.s6 {c:Code} (e:TypeId) (hK:AW P g c Q (δ.bf (.pool e (eJ (fun _=> .slice none 0 0) fun _=>[])))):AW P g c Q δ:=AW.qo e hK
theorem AW.oH (id i k m:Nat) {b:Bool} {l:Array Oper} {e:TypeId} {hs:Nat→Value} {ls:Nat→List Int} (ho:δ.ob i=some (.pool e (eJ hs ls))) (hm:m≤(ls k).length) (hK:AW P g (.region id l b) Q (δ.bB i (some (.pool e (eJ (aC hs k (dk m (hs k))) (aC ls k ((ls k).take m))))))):AW P g (.region id l b) Q δ:=
 AW.ml i k m ho hm hK
theorem vl (r:Rel g δ κ a w) {i:Nat} {e:TypeId} {hs:Nat→Value} {ls:Nat→List Int} (ho:δ.ob i=some (.pool e (eJ hs ls))) (k m:Nat):(hs k).oneCell'=true∧(dk m (hs k)).oneCell'=true:=by
 have h0:=ct r ho k
 unfold eJ at h0
 simp only at h0
 rcases h0.2 with ⟨h1,_⟩|⟨b,cap,cur,h1,_⟩<;>rw[h1]<;>exact⟨rfl,rfl⟩
theorem AW.tt {c:Code} (i:Nat) {e:TypeId} {hs:Nat→Value} {ls:Nat→List Int} (ho:δ.ob i=some (.pool e (eJ hs ls))) (hK:(∀k,(hs k).oneCell'=true)→(∀k m,(dk m (hs k)).oneCell'=true)→AW P g c Q δ):AW P g c Q δ:=fun κ a w r=>
 hK (fun k=>(vl r ho k 0).1) (fun k m=>(vl r ho k m).2) κ a w r
theorem WV.ai {δ δ':DS} {u v:Value} (h:u=v):WV δ δ' (.pv (.lit u)) (.pv (.lit v)):=.eq (by rw[h]) rfl
namespace Nf
variable {i n j:Nat} {c:List PV}
theorem MB:AV.gD i n c .any=.any:=rfl
theorem Pq (p:PV):AV.gD i n c (.pv p)=.pv p:=rfl
theorem KQ (a b:Nat):AV.gD i n c (.ptr a b)=.ptr a b:=rfl
theorem Je (d:List PV):AV.gD i n c (.rptr d)=.rptr d:=rfl
theorem IK (a:Nat):AV.gD i n c (.mapr a)=.mapr a:=rfl
theorem KN (a:Nat):AV.gD i n c (.yld a)=.yld a:=rfl
theorem Lt (e els):AV.gD i n c (.own j e 1 els)=bif Nat.beq i j then .own j e 1 (els.set n c) else .own j e 1 els:=rfl
theorem Ip (e els):AV.gD i n c (.own j e 3 els)=bif Nat.beq i j then .any else .own j e 3 els:=rfl
theorem I3 (e k els m):AV.gD i n c (.optr j e k els m)=bif Nat.beq i j then .any else .optr j e k els m:=rfl
theorem LF (cs:List AV):AV.gD i n c (.agg cs)=.agg (fO (AV.gD i n c) cs):=by
 show AV.agg (AV.xI (lX i n c) cs)=_
 rw[AV.dI]
 congr 1
 induction cs with
 |nil=>rfl
 |cons a r ih=>rw[List.map_cons,ih];rfl
theorem Lc (cs:List AV):AV.gD i n c (.tup cs)=.tup (fO (AV.gD i n c) cs):=by
 show AV.tup (AV.xI (lX i n c) cs)=_
 rw[AV.dI]
 congr 1
 induction cs with
 |nil=>rfl
 |cons a r ih=>rw[List.map_cons,ih];rfl
set_option linter.defProp false in
def cP:=And.intro @MB (And.intro @Pq (And.intro @KQ (And.intro @Je (And.intro @IK (And.intro @KN (And.intro @Lt (And.intro @Ip (And.intro @I3 (And.intro @LF @Lc)))))))))
end Nf
end Go.Ab
/- An index into an own row of any form. -/
namespace Go.Ab
open Go Go.RowKit
variable {q:Md} {P:Program} {g:au} {δ:DS} {ops:Array Oper} {rest:List Oper} {Q:Exit→DS→Prop} {dst:Option Nat} {ty:TypeId} {pos:String} {af:Array Edge}
theorem aa.p7 {x y:Operand} {t e e':TypeId} {i k:Nat} {m:Int} {els:List (List PV)} (hx:δ.ev x=.own i e' k els) (hy:δ.ev y=al m)
  (ht:P.underlying t=some (.slice e)) (hk:(P.info? e).map (·.size)=some k) (ho:aK x=true) (ho':aK y=true) (hd:bn δ.n dst=true) (h0:0≤m) (hn:m.toNat<els.length)
  (hK:aa q P g ops rest Q (δ.aw dst (.optr i e' k els m.toNat))):aa q P g ops (⟨dst,.indexAddr t x y,ty,pos,af,none⟩::rest) Q δ:=
 aa.kW (n:=m.toNat) hx (by rw[hy];show al m=al _;rw[Int.toNat_of_nonneg h0]) hn ht hk ho ho' hd hK
end Go.Ab
/- Pools of numbers:a row forgotten;a row appended to a row of the walk's own. -/
namespace Go.Ab
open Go Go.RowKit
variable {q:Md} {P:Program} {g:au} {δ:DS} {κ:Kp} {a:Act} {w:World} {Q:Exit→DS→Prop}
variable {ops:Array Oper} {rest:List Oper} {dst:Option Nat} {ty:TypeId} {pos:String} {af:Array Edge} {gd:Option (Tmp×Bool)}
theorem AW.CN {c:Code} (i k:Nat) {e:TypeId} {hs:Nat→Value} {ls:Nat→List Int} (ho:δ.ob i=some (.pool e (eJ hs ls))) (hK:AW P g c Q (δ.bB i (some (.pool e (eJ (aC hs k (.slice none 0 0)) (aC ls k [])))))):AW P g c Q δ:=fun κ a w r=>by
 obtain⟨κ',r',_⟩:=r.iZ ho (k:=k) (w':=w) ⟨rfl,rfl,rfl,Nat.le_refl _,fun _ _ _=>rfl⟩ (v':=.slice none 0 0) (ys:=[]) ⟨by simp,.inl ⟨rfl,by simp⟩⟩ (by simp) (fun u hu=>by simp at hu) (fun b hb=>by cases hb)
 rw[kB hs ls k _ [] (ys:=[]) rfl] at r'
 exact hK κ' a w r'
theorem B_ (r:Rel g δ κ a w) {i k:Nat} {e:TypeId} {hs:Nat→Value} {ls:Nat→List Int} (ho:δ.ob i=some (.pool e (eJ hs ls))) {x:Operand} (hx:δ.ev x=.pv (.lit (hs k))) (fg:aK x=true):Src (δ.cx g κ) w (a.eval x) 1 ((ls k).map fun u=>[.lit (vI u)]):=by
 have h0:=ct r ho k
 have hl:=((r.obj i _ ho).2.1 k).2.1
 unfold eJ at h0 hl
 simp only[List.length_map] at h0 hl
 have hv:a.eval x=hs k:=r.lit hx fg
 refine⟨by simpa using hl,fun c hc=>by obtain⟨u,_,rfl⟩:=List.mem_map.1 hc;rfl,?_⟩
 rw[List.length_map]
 rcases h0.2 with ⟨h1,h2⟩|⟨b,cap,cur,h1,_,h3,hle,_,kG,ot⟩
 ·exact⟨none,0,by rw[hv,h1,h2],fun bx=>absurd (by rw[List.eq_nil_of_length_eq_zero h2];rfl) bx⟩
 ·refine⟨_,_,by rw[hv,h1],fun bx=>⟨b,0,fun i _=>vI ((ls k).getD i 0),rfl,fun i j p hp=>?_⟩⟩
  rw[Nat.mul_one] at ot
  obtain⟨hi,hj⟩:i<(ls k).length∧j=0∧True:=by
   unfold cellAt at hp
   simp only[List.getElem?_map] at hp
   cases hq:(ls k)[i]? with
   |none=>rw[hq] at hp;simp at hp
   |some u=>
    refine⟨(List.getElem?_eq_some_iff.1 hq).1,?_,trivial⟩
    rw[hq] at hp
    cases j with
    |zero=>rfl
    |succ j=>simp at hp
  obtain⟨rfl,_⟩:=hj
  have hp2:p=.lit (vI (ls k)[i]):=by
   unfold cellAt at hp
   simp only[List.getElem?_map,List.getElem?_eq_getElem hi] at hp
   simpa using hp.symm
  subst hp2
  have hg:(ls k).getD i 0=(ls k)[i]:=by simp [List.getD_eq_getElem?_getD,hi]
  refine⟨?_,rfl,?_⟩
  ·rw[cell_of h3,← Array.getElem?_toList]
   show cur.toList[0+i*1+0]? =some (vI ((ls k).getD i 0))
   rw[hg,show 0+i*1+0=i by omega]
   have:=congrArg (·[i]?) ot
   simp only[List.getElem?_take,if_pos hi,List.getElem?_map,List.getElem?_eq_getElem hi] at this
   simpa using this
  ·show RP _ _ (vI ((ls k).getD i 0)) _
   rw[hg];exact .lit _
theorem aa.vD (i0:Nat) {s x:Operand} {t e e0:TypeId} {i bytes k:Nat} {z:Value} {els:List (List PV)} {hs:Nat→Value} {ls:Nat→List Int} (ho0:δ.ob i0=some (.pool e0 (eJ hs ls))) (Bp:δ.ev s=.own i e 1 els) (hx:δ.ev x=.pv (.lit (hs k))) (hr:δ.ob i=some .row) (ht:P.underlying t=some (.slice e))
  (hi:(P.info? e).map (fun i=>(i.size,i.zero,i.bytes))=some (1,some z,bytes)) (CB:Nat.ble bytes 64=true) (gz:Nat.beq z.cells.size 1=true) (ho:aK s=true) (ho':aK x=true) (hd:bn δ.n dst=true)
  (hl:els.length+(ls k).length≤1000000000000) (hK:aa .plain P g ops rest Q ((δ.cw (AV.kill i)).aw dst (.own i e 1 (els++(ls k).map fun u=>[.lit (vI u)])))):
  aa .plain P g ops (⟨dst,.call {callee:=.builtin .append,args:= #[s,x],argTypes:= #[t,t]},ty,pos,af,none⟩::rest) Q δ:=
 aa.n9 rfl rfl (fun κ a w r=>by
  obtain⟨v',w',κ',h1,h2,h3⟩:=kC (ty:=ty) r hr (r.ra Bp ho).dU (B_ r ho0 hx ho') ht hi (Nat.eq_of_beq_eq_true gz) (by simp) (sf CB (by rw[List.length_map];exact hl)) (by rw[List.length_map];omega)
  exact .inl ⟨_,_,_,_,iK h1,.inl rfl,h2.aw (aS hd) (.own h3)⟩) hK
theorem aa.Ac (i:Nat) {x y:Operand} {t e e' t':TypeId} {k:Nat} {hs:Nat→Value} {ls:Nat→List Int} (ho:δ.ob i=some (.pool e' (eJ hs ls))) (hx:δ.ev x=.pv (.lit (hs k))) (hy:δ.ev y=.pv (.lit (.slice none 0 0))) (ht:P.underlying t=some (.slice e)) (fg:aK x=true) (fb:aK y=true) (hd:bn δ.n dst=true) (bx:0<(ls k).length)
  (hK:aa q P g ops rest Q (δ.aw dst (aF false))):aa q P g ops (⟨dst,.binOp .eql t x y t',ty,pos,af,none⟩::rest) Q δ:=
 aa.dA _ hd (fun κ a w r=>by
  have h0:=ct r ho k
  unfold eJ at h0
  simp only[List.length_map] at h0
  have hv:a.eval x=hs k:=r.lit hx fg
  have h2:=r.lit hy fb
  rcases h0.2 with ⟨_,h3⟩|⟨b,cap,cur,h1,_⟩
  ·exfalso;omega
  ·refine⟨.bool false,fun w' _=>?_,.pv (.lit _)⟩
   have:=lU ht x y (some ⟨b,0,none⟩) (ls k).length cap w'
   rw[h1] at hv
   simp only[execOp,hv,h2]
   simp only[Sem.run_bind,this,Result.andThen_ok] at*
   first|rfl|simp [this]) hK
end Go.Ab
/- A row of the walk's own with elements is not nil. -/
namespace Go.Ab
open Go Go.RowKit
variable {q:Md} {P:Program} {g:au} {δ:DS} {κ:Kp} {a:Act} {w:World} {Q:Exit→DS→Prop}
variable {ops:Array Oper} {rest:List Oper} {dst:Option Nat} {ty:TypeId} {pos:String} {af:Array Edge} {gd:Option (Tmp×Bool)}
theorem aa.AF {x y:Operand} {t e e' t':TypeId} {i k:Nat} {els:List (List PV)} (hx:δ.ev x=.own i e' k els) (hy:δ.ev y=.pv (.lit (.slice none 0 0))) (ht:P.underlying t=some (.slice e)) (fg:aK x=true) (fb:aK y=true) (hd:bn δ.n dst=true) (bx:0<els.length)
  (hK:aa q P g ops rest Q (δ.aw dst (aF false))):aa q P g ops (⟨dst,.binOp .eql t x y t',ty,pos,af,none⟩::rest) Q δ:=
 aa.dA _ hd (fun κ a w r=>by
  obtain⟨xs,⟨_,cp⟩,_⟩:=(r.ra hx fg).dU.row
  have h2:=r.lit hy fb
  rcases cp with ⟨_,h3⟩|⟨b,cap,cur,h1,_⟩
  ·exfalso;omega
  ·refine⟨.bool false,fun w' _=>?_,.pv (.lit _)⟩
   have:=lU ht x y (some ⟨b,0,none⟩) els.length cap w'
   simp only[execOp,h1,h2]
   simp only[Sem.run_bind,this,Result.andThen_ok] at*
   first|rfl|simp [this]) hK
end Go.Ab
/- Contracts of functions that panic;an own panic. -/
namespace Go.Ab
open Go Go.RowKit
variable {q:Md} {P:Program} {g:au} {δ:DS} {κ:Kp} {a:Act} {w:World}
variable {ops:Array Oper} {rest:List Oper} {Q:Exit→DS→Prop} {dst:Option Nat} {ty:TypeId} {pos:String} {af:Array Edge}
theorem FT (du:g.wt=none) (rm:g.base=[]) {fn:Func} {ch:List PanicEntry} {R:Ending→World→Prop}:∀{a:Act} {w:World},Rel g δ κ a w→
  (∀w2,Rel g δ κ {a with defers:=[]} w2→R (.panicked ch) w2)→LeavesInM Fence.wide 0 P fn a.tmps R a.defers (.panicking ch) w:=by
 intro a w r hR
 obtain⟨ms,h1,h2,h3⟩:=r.dfr
 rw[rm,List.append_nil] at h1
 rw[h1]
 induction ms generalizing a w with
 |nil=>
  have ra:Rel g δ κ {a with defers:=[]} w:={r with dfr:=⟨[],by rw[rm];rfl,h2,h3⟩,mkf:=fun d hd=>by cases hd}
  exact hR w ra
 |cons m ms ih=>
  refine⟨by simp,.inl ⟨m,_,rfl,run_takeDeferred (h3 m (by simp)).2,?_⟩⟩
  have hm:=h3 m (by simp)
  rw[List.cons_append] at h2
  have dB:=List.nodup_cons.1 h2
  have og:∀k∈ms++g.mks,g.B≤k∧(w.putObj m (.deferred none)).heap[k]? =some (.deferred (some [])):=fun k hk=>
   ⟨(h3 k (by simp only[List.cons_append,List.mem_cons];exact .inr hk)).1,by rw[World.putObj_heap_other (by intro e;subst e;exact dB.1 hk)];exact(h3 k (by simp only[List.cons_append,List.mem_cons];exact .inr hk)).2⟩
  have hd:zS g {a with defers:=ms.map fun r=>({target:=.collected r,args:= #[]}:Deferred)} (w.putObj m (.deferred none)):=⟨ms,by rw[rm,List.append_nil],dB.2,og⟩
  have r2:=r.shut du hm.1 hm.2 (a':={a with defers:=ms.map fun r=>({target:=.collected r,args:= #[]}:Deferred)}) rfl (fun d hd=>by rw[h1];exact List.mem_map.2 (let ⟨x,hx,e⟩:=List.mem_map.1 hd;⟨x,by simp [hx],e⟩)) (r.mkf {target:=.collected m,args:= #[]} (by rw[h1];exact List.mem_map.2 ⟨m,by simp,rfl⟩) m rfl) hd
  exact ih (a:={a with defers:=ms.map fun r=>({target:=.collected r,args:= #[]}:Deferred)}) r2 (fun w2 r3=>hR w2 r3) rfl dB.2 og
theorem Qv.enter {T:World→Prop} {t:TypeId} {f:FuncId} {fn:Func} {c:Code} {n n0:Nat} {objs0 objs1:List (Nat×Option Ob)} {args:List AV} (hf:P.funcs[f]? =some fn) (hb:fn.body=some c) (hn:fn.ntmps=n) (vQ:Nat.ble args.length n=true)
  (kv:Nat.ble n HS=true) (he:(fn.name== "runtime.NumGoroutine")=false) (nr:na objs0 objs0=true) (hn1:nf n0 objs1=true)
  (h:∀g:au,g.ro=none→g.wt=none→TB T g→AW P g c (GP t objs0 objs1) ⟨n,enum 0 args++ [(1000,.agg (b9 objs0))],objs0,n0⟩):Qv T P t f n0 objs0 args objs1:=by
 refine mV.enter (Q:=GP t objs0 objs1) hf hb hn vQ kv he nr (fun _=>hn1) h fun g e δ' κ' a' w' R du rm hq r' hR=>?_
 cases e with
 |panic ch=>
  obtain⟨h1,h2,h3,h4⟩:=hq
  exact FT (g:=g) du rm r' fun w2 r2=>hR () h2 h3 h4 _ _ r2 ⟨ch,rfl,h1⟩
 |_=>exact hq.elim
theorem WV.mb {δ δ':DS} {cs ds:List AV} (h:xx δ δ' cs ds):WV δ δ' (.agg cs) (.agg ds):=by
 have key:∀{cs ds:List AV},xx δ δ' cs ds→cs.length=ds.length∧∀(j:Nat) (c d:AV),cs[j]? =some c→ds[j]? =some d→WV δ δ' c d:=by
  intro cs
  induction cs with
  |nil=>
   intro ds h
   cases ds with
   |nil=>exact⟨rfl,fun j c d h1=>by simp at h1⟩
   |cons d ds=>exact h.elim
  |cons c cs ih=>
   intro ds h
   cases ds with
   |nil=>exact h.elim
   |cons d ds=>
    obtain⟨h1,h2⟩:=h
    obtain⟨h3,h4⟩:=ih h2
    refine⟨by simp [h3],fun j c' d' h5 h6=>?_⟩
    cases j with
    |zero=>simp at h5 h6;subst h5;subst h6;exact h1
    |succ j=>exact h4 j c' d' (by simpa using h5) (by simpa using h6)
 exact .agg (key h).1 (key h).2
variable {k:Wt} {late:List Nat} {l:List Oper} {dn:List Nat} {QD:Exit→DS→Prop}
end Go.Ab
/- A strings.Builder's own steps:a variable told by its very cells and its type,pointers through unsafe.Pointer,pointers held against nil and themselves;String. -/
namespace Go.Ab
open Go Go.RowKit
variable {q:Md} {P:Program} {g:au} {δ:DS} {κ:Kp} {a:Act} {w:World}
variable {ops:Array Oper} {rest:List Oper} {Q:Exit→DS→Prop} {dst:Option Nat} {ty:TypeId} {pos:String} {af:Array Edge} {gd:Option (Tmp×Bool)}
theorem AW.u9 {c:Code} (h:AW P g c Q (δ.bf .row)):AW P g c Q δ:=fun κ a w r=>by
 obtain⟨r1,_⟩:=r.u9
 exact h _ _ _ r1
theorem aa.u9 {l:List Oper} (h:aa .plain P g ops l Q (δ.bf .row)):aa .plain P g ops l Q δ:=fun κ a w r=>by
 obtain⟨r1,_⟩:=r.u9
 exact h _ _ _ r1
theorem FO (op:BinOp) (t:TypeId) (x y:Operand) (u v:Option Addr) (w:World):(eqGuard op t x y (.pointer u) (.pointer v)).run P w=.ok () w:=by
 unfold eqGuard
 cases op<;>simp [Sem.run,pure,Sem.bind,bind]
theorem pA {tp te:TypeId} (u:Option Addr) (hp:P.underlying tp=some (.pointer te)) (N7:(P.info? te).isSome=true) (w:World):(Go.binOp .eql tp (.pointer u) (.pointer none)).run P w=.ok (.bool u.isNone) w:=by
 obtain⟨j,hj⟩:=Option.isSome_iff_exists.1 N7
 have h:∀d:Nat,(Op.equalIn (d+1) tp (.pointer u) (.pointer none)).run P w=.ok u.isNone w:=fun d=>by
  cases u<;>simp [Op.equalIn,run_underlying hp,sizeOf,typeInfo,hj]
 simp only[Go.binOp]
 simp [Op.equal,Op.maxDepth,h 9999]
theorem aa.Mx {x y:Operand} {t te t':TypeId} {i off:Nat} (hx:δ.ev x=.ptr i off) (hy:δ.ev y=.pv (.lit (.pointer none))) (hp:P.underlying t=some (.pointer te)) (N7:(P.info? te).isSome=true) (ho:aK x=true) (ho':aK y=true) (hd:bn δ.n dst=true)
  (hK:aa q P g ops rest Q (δ.aw dst (aF false))):aa q P g ops (⟨dst,.binOp .eql t x y t',ty,pos,af,none⟩::rest) Q δ:=
 aa.dA _ hd (fun κ a w r=>⟨.bool false,fun w' _=>by
  have h1:=r.ra hx ho
  have h2:=r.lit hy ho'
  generalize hv:a.eval x=v at h1
  cases h1 with
  | @ptr _ _ b hl hκ=>
   have:=pA (P:=P) (some ⟨b,off,none⟩) hp N7 w'
   simp only[execOp,hv,h2,Sem.run_bind,FO,Result.andThen_ok,this]
   rfl,.pv (.lit _)⟩) hK
inductive DV:List Value→List AV→Prop
 |nil:DV [] []
 |cons {v:Value} {vs:List Value} {l:List AV} (h:DV vs l):DV (v::vs) (.pv (.lit v)::l)
theorem DV.eq {vs:List Value} {l:List AV} (h:DV vs l):vs.map (fun u=> .pv (.lit u))=l:=by
 induction h with
 |nil=>rfl
 |cons h ih=>rw[List.map_cons,ih]
end Go.Ab
/- strings.Builder's String over objects. -/
set_option maxHeartbeats 1000000
set_option maxRecDepth 100000
namespace Go.Ab
open Go Go.RowKit Go.Proofs Go.Shelf
variable {P:Program} {ρ:Ren}
end Go.Ab
/- A function that defers a closure over two of its variables,which recovers. -/
namespace Go.Ab
open Go Go.RowKit
variable {P:Program} {g:au} {δ:DS} {κ:Kp} {a:Act} {w:World} {Q:Exit→DS→Prop}
def Qk (P:Program) (g:au) (c:Code) (R:Exit→Act→World→Prop) (δ:DS):Prop:=∀κ a w,Rel g δ κ a w→c.wpIn (Fw g.ro) 0 P R a w
theorem Qk.of {c:Code} {R:Exit→Act→World→Prop} (h:AW P g c Q δ) (hR:∀e a w,lift g Q e a w→R e a w):Qk P g c R δ:=fun κ a w r=>wpIn_mono (h κ a w r) hR
def NC (P:Program) (g:au) (c:Code) (R:Exit→Act→World→Prop) (δ:DS):Prop:=∀κ a w,a.defers=[]→Rel g δ κ a w→c.wpIn (Fw g.ro) 0 P R a w
def JW (P:Program) (g:au) (ops:Array Oper) (l:List Oper) (c:Code) (R:Exit→Act→World→Prop) (δ:DS):Prop:=∀κ a w,a.defers=[]→Rel g δ κ a w→wpListIn (Fw g.ro) 0 P ops (Exit.then (c.wpIn (Fw g.ro) 0 P R) R) l a w
theorem NC.region {id:Nat} {l:List Oper} {c:Code} {R:Exit→Act→World→Prop} (h:JW P g l.toArray l c R δ):NC P g (.seq (.region id l.toArray false) c) R δ:=
 fun κ a w ha r=>wpIn_seq (wpIn_region_lit (h κ a w ha r))
theorem JW.nil {ops:Array Oper} {c:Code} {R:Exit→Act→World→Prop} (h:NC P g c R δ):JW P g ops [] c R δ:=fun κ a w ha r=>by
 unfold wpListIn
 exact h κ a w ha r
theorem JW.n9 {ops:Array Oper} {o:Oper} {rest:List Oper} {c:Code} {R:Exit→Act→World→Prop} {δ':DS} (hg:o.guard=none) (dB:dQ o=true) (h:dv P g o δ δ') (hc:∀(a:Act) (w:World) f vals,(execOp a.eval o).run P w≠ .ok (.enter f vals) w) (hK:JW P g ops rest c R δ'):JW P g ops (o::rest) c R δ:=by
 intro κ a w ha r
 refine b8 hg dB fun K hK'=>?_
 unfold Oper.sr
 rcases h κ a w r with ⟨x,v,w',κ',aV,hx,r'⟩|⟨f,vals,aV,_⟩
 ·rw[aV]
  rcases hx with rfl|⟨rfl,rfl⟩
  ·simp only[Oper.uponIn]
   exact hK' _ _ (hK κ' _ _ (by cases o.dst<;>exact ha) r')
  ·simp only[Oper.uponIn]
   exact hK' _ _ (hK κ' _ _ (by cases o.dst<;>exact ha) r')
 ·exact absurd aV (hc _ _ _ _)
theorem xK (du:g.wt=none) {fn:Func} {u:FrameMode} (hu:u≠ .run) {R:Ending→World→Prop}:∀{a:Act} {w:World},Rel g δ κ a w→
  (∀w2,Rel g δ κ {a with defers:=g.base} w2→LeavesInM Fence.wide 0 P fn a.tmps R g.base u w2)→LeavesInM Fence.wide 0 P fn a.tmps R a.defers u w:=by
 intro a w r hR
 obtain⟨ms,h1,h2,h3⟩:=r.dfr
 rw[h1]
 induction ms generalizing a w with
 |nil=>
  have ra:Rel g δ κ {a with defers:=g.base} w:={r with dfr:=⟨[],rfl,h2,h3⟩,mkf:=fun d hd=>r.mkf d (by rw[h1];exact hd)}
  exact hR w ra
 |cons m ms ih=>
  refine⟨hu,.inl ⟨m,_,rfl,run_takeDeferred (h3 m (by simp)).2,?_⟩⟩
  have hm:=h3 m (by simp)
  rw[List.cons_append] at h2
  have dB:=List.nodup_cons.1 h2
  have og:∀k∈ms++g.mks,g.B≤k∧(w.putObj m (.deferred none)).heap[k]? =some (.deferred (some [])):=fun k hk=>
   ⟨(h3 k (by simp only[List.cons_append,List.mem_cons];exact .inr hk)).1,by rw[World.putObj_heap_other (by intro e;subst e;exact dB.1 hk)];exact(h3 k (by simp only[List.cons_append,List.mem_cons];exact .inr hk)).2⟩
  have hd:zS g {a with defers:=(ms.map fun r=>({target:=.collected r,args:= #[]}:Deferred))++g.base} (w.putObj m (.deferred none)):=⟨ms,rfl,dB.2,og⟩
  have r2:=r.shut du hm.1 hm.2 (a':={a with defers:=(ms.map fun r=>({target:=.collected r,args:= #[]}:Deferred))++g.base}) rfl (fun d hd=>by rw[h1,List.map_cons,List.cons_append];exact List.mem_cons_of_mem _ hd) (r.mkf {target:=.collected m,args:= #[]} (by rw[h1];simp) m rfl) hd
  exact ih (a:={a with defers:=(ms.map fun r=>({target:=.collected r,args:= #[]}:Deferred))++g.base}) r2 (fun w2 r3=>hR w2 r3) rfl dB.2 og
end Go.Ab
/- Functions of four results whose outcome is told by a relation. -/
namespace Go.Ab
open Go Go.RowKit
variable {P:Program} {g:au} {δ:DS} {κ:Kp} {a:Act} {w:World}
inductive uD (P:Program) (δ:DS):List ResultVar→AV→Prop
 |four {r1 r2 r3 r4:ResultVar} {v1 v2 v3 v4:AV} (h1:ji P δ r1 v1) (h2:ji P δ r2 v2) (h3:ji P δ r3 v3) (h4:ji P δ r4 v4):uD P δ [r1,r2,r3,r4] (.tup [v1,v2,v3,v4])
theorem Fc {C:Cx} {w:World} {u1 u2 u3 u4:Value} {v1 v2 v3 v4:AV} (h1:RA C w u1 v1) (h2:RA C w u2 v2) (h3:RA C w u3 v3) (h4:RA C w u4 v4):RA C w (.tuple #[u1,u2,u3,u4]) (.tup [v1,v2,v3,v4]):=by
 refine .tup rfl fun j u c k1 k2=>?_
 match j with
 |0=>simp at k1 k2;subst k1;subst k2;exact h1
 |1=>simp at k1 k2;subst k1;subst k2;exact h2
 |2=>simp at k1 k2;subst k1;subst k2;exact h3
 |3=>simp at k1 k2;subst k1;subst k2;exact h4
 |j+4=>simp at k2
theorem uD.run {fn:Func} {rs:List ResultVar} (ni:fn.results=rs.toArray) {v:AV} (h:uD P δ rs v) (r:Rel g δ κ a w):∃u,(results fn a.tmps).run P w=.ok u w∧RA (δ.cx g κ) w u v:=by
 rw[pC (P:=P),ni]
 cases h with
 |four h1 h2 h3 h4=>
  obtain⟨u1,h1,k1⟩:=h1.run r
  obtain⟨u2,h2,k2⟩:=h2.run r
  obtain⟨u3,h3,k3⟩:=h3.run r
  obtain⟨u4,h4,k4⟩:=h4.run r
  exact⟨.tuple #[u1,u2,u3,u4],by simp [Array.mapM_eq_foldlM,h1,h2,h3,h4],Fc k1 k2 k3 k4⟩
theorem E5 (du:g.wt=none) (rm:g.base=[]) {fn:Func} {rs:List ResultVar} (ni:fn.results=rs.toArray) {v:AV} (h:uD P δ rs v) {R:Ending→World→Prop} {a:Act} {w:World} (r:Rel g δ κ a w)
  (hR:∀w2,Rel g δ κ {a with defers:=[]} w2→∀u,RA (δ.cx g κ) w2 u v→R (.returned u) w2):LeavesInM Fence.wide 0 P fn a.tmps R a.defers .returning w:=by
 refine xK du (by simp) r fun w2 r2=>?_
 rw[rm]
 rw[rm] at r2
 obtain⟨u,h4,h5⟩:=h.run ni r2
 exact⟨u,h4,hR w2 r2 u h5⟩
def tg {α:Type} (P:Program) (rs:List ResultVar) (objs0:List (Nat×Option Ob)) (p:α→Prop) (objs1:α→List (Nat×Option Ob)) (r:α→AV):Exit→DS→Prop
 |.normal,δ|.ret,δ=>∃x,p x∧∃v,uD P δ rs v∧WV δ (XF δ objs0 (objs1 x)) v (r x)∧WV δ (XF δ objs0 (objs1 x)) (δ.get 1000) (.agg (b9 objs0))∧ja δ (XF δ objs0 (objs1 x)) (objs1 x)∧nf δ.nx (objs1 x)=true
 |_,_=>False
theorem xe {α:Type} {rs:List ResultVar} {objs0:List (Nat×Option Ob)} {p:α→Prop} {objs1:α→List (Nat×Option Ob)} {r:α→AV} {v:AV} (x:α) (hp:p x) (h:uD P δ rs v) (hw:xx δ (XF δ objs0 (objs1 x)) [v,δ.get 1000] [r x,.agg (b9 objs0)]) (ho:ja δ (XF δ objs0 (objs1 x)) (objs1 x)) (hx:nf δ.nx (objs1 x)=true):tg P rs objs0 p objs1 r .ret δ:=⟨x,hp,v,h,hw.1,hw.2.1,ho,hx⟩
theorem n8.Js {α:Type} {f:FuncId} {fn:Func} {c:Code} {rs:List ResultVar} {n n0:Nat} {objs0:List (Nat×Option Ob)} {args:List AV} {p:α→Prop} {objs1:α→List (Nat×Option Ob)} {r:α→AV} (hf:P.funcs[f]? =some fn) (hb:fn.body=some c) (ni:fn.results=rs.toArray) (hn:fn.ntmps=n) (vQ:Nat.ble args.length n=true)
  (kv:Nat.ble n HS=true) (he:(fn.name== "runtime.NumGoroutine")=false) (nr:na objs0 objs0=true) (hn1:∀x,nf n0 (objs1 x)=true)
  (h:∀g:au,g.ro=none→g.wt=none→AW P g c (tg P rs objs0 p objs1 r) ⟨n,enum 0 args++ [(1000,.agg (b9 objs0))],objs0,n0⟩):n8 P f n0 objs0 args p objs1 r:=by
 refine mV.enter (Q:=tg P rs objs0 p objs1 r) hf hb hn vQ kv he nr hn1 (fun g h1 h2 _=>h g h1 h2) fun g e δ' κ' a' w' R du rm hq r' hR=>?_
 have fin:(∃x,p x∧∃v,uD P δ' rs v∧WV δ' (XF δ' objs0 (objs1 x)) v (r x)∧WV δ' (XF δ' objs0 (objs1 x)) (δ'.get 1000) (.agg (b9 objs0))∧ja δ' (XF δ' objs0 (objs1 x)) (objs1 x)∧nf δ'.nx (objs1 x)=true)→
   LeavesInM Fence.wide 0 P fn a'.tmps R a'.defers .returning w':=fun⟨x,OR,v,h1,hv,hp,ho,hx⟩=>
  E5 (g:=g) du rm ni h1 r' fun w2 r2 u hu=>hR x hp ho hx _ _ r2 ⟨OR,u,rfl,hu.wv (δ:=δ') (δ':=XF δ' objs0 (objs1 x)) r2.fG r2.obj hv⟩
 cases e with
 |normal=>exact fin hq
 |ret=>exact fin hq
 |_=>exact hq.elim
end Go.Ab
/- Equality of structs of three whole numbers. -/
namespace Go.Ab
open Go Go.RowKit
variable {q:Md} {P:Program} {g:au} {δ:DS} {κ:Kp} {a:Act} {w:World}
variable {ops:Array Oper} {rest:List Oper} {Q:Exit→DS→Prop} {dst:Option Nat} {ty:TypeId} {pos:String} {af:Array Edge}
end Go.Ab
