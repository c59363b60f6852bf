/- Pools: slices of a row, append, rows taken in, a new pool. -/
import Derived.Test.YtigjjjpcjnifhaaAbL3
import Derived.Test.YtigjjjpcjnifhaaAbL2
import Derived.LoopNIn
import Derived.WalkSmall
import Derived.Shelf.Strings.Builder1
import Derived.RecoverIn
set_option linter.unusedSimpArgs false
set_option linter.unusedVariables false
namespace Go.Ab
open Go Go.RowKit
variable {q:Md} {P:Program} {g:ar} {δ:DS} {κ:Kp} {a:Act} {w:World}
variable {ops:Array Oper} {rest:List Oper} {Q:Exit→DS→Prop} {dst:Option Nat} {ty:TypeId} {pos:String} {af:Array Edge} {gd:Option (Tmp×Bool)}
def eR (m:Nat):Value→Value
 |.slice (some ⟨b,o,x⟩) n c=> .slice (some (if c=m then ⟨b,o,x⟩ else ⟨b,o+m,x⟩)) (n - m) (c - m)
 |v=>v
theorem aa.wC {t e':TypeId} {x y:Operand} (i k m:Nat) {e:TypeId} {rows:eL} {H:Value} {ys:List Value} (ho:δ.ob i=some (.pool e rows)) (hk:rows k=(H,ys)) (hx:δ.ev x=.pv (.lit H)) (hy:δ.ev y=aw m) (hm:m≤ys.length) (ht:P.underlying t=some (.slice e')) (hs:(P.info? e').map (·.size)=some 1)
  (fa:aK x=true) (e8:aK y=true) (hd:bk δ.n dst=true) (hK:aa q P g ops rest Q (δ.au dst (.pv (.lit (c_ m H))))):aa q P g ops (⟨dst,.slice t x none (some y) none,ty,pos,af,none⟩::rest) Q δ:=
 aa.dq _ hd (fun κ a w r=>by
  obtain⟨i0,dA,hk0⟩:∃i0,P.info? e'=some i0∧i0.size=1:=by
   cases h:P.info? e' with
   |none=>rw[h] at hs;simp at hs
   |some i0=>rw[h] at hs;exact⟨i0,rfl,by simpa using hs⟩
  have h0:=cb r ho k
  rw[hk] at h0
  simp only at h0
  have hv:a.eval x=H:=r.lit hx fa
  have rN:a.eval y=.int .i64 m:=r.lit hy e8
  obtain⟨a0,cap,hH,hle⟩:∃a0 cap,H=.slice a0 ys.length cap∧ys.length≤cap:=by
   rcases h0.2 with ⟨h1,h2⟩|⟨b,cap,cur,h1,_,_,hle,_⟩
   ·exact⟨none,0,by rw[h1,h2],by omega⟩
   ·exact⟨_,cap,h1,hle⟩
  subst hH
  refine⟨_,fun w' _=>?_,.pv (.lit _)⟩
  have hb1:∀w,(Instr.sliceBounds true ys.length cap none (some (.int .i64 (m:Int))) none).run P w=.ok (0,m,cap) w:=by
   intro w
   have e1:(0:Int)≤(m:Int)∧(m:Int)≤(cap:Int):=by omega
   simp [Instr.sliceBounds,Instr.sliceBound,asIntOf,e1]
   intro h0;exfalso;omega
  simp only[execOp,Instr.sliceAt,Instr.slice,run_underlying ht,hv,rN,Sem.run_bind,Result.andThen_ok,Option.map_none,Option.map_some,hb1,sizeOf,typeInfo,Sem.run_pure,c_]
  cases a0 with
  |none=>simp [dA,hk0]
  |some ad=>
   simp [dA,hk0]
   intro _
   cases ad;simp [Addr.add]) hK
theorem aa.zU {t e':TypeId} {x y:Operand} (i k m:Nat) {e:TypeId} {rows:eL} {H:Value} {ys:List Value} (ho:δ.ob i=some (.pool e rows)) (hk:rows k=(H,ys)) (hx:δ.ev x=.pv (.lit H)) (hy:δ.ev y=aw m) (hm:m≤ys.length) (ht:P.underlying t=some (.slice e')) (hs:(P.info? e').map (·.size)=some 1)
  (fa:aK x=true) (e8:aK y=true) (hd:bk δ.n dst=true) (hK:aa q P g ops rest Q (δ.au dst (.pv (.lit (eR m H))))):aa q P g ops (⟨dst,.slice t x (some y) none none,ty,pos,af,none⟩::rest) Q δ:=
 aa.dq _ hd (fun κ a w r=>by
  obtain⟨i0,dA,hk0⟩:∃i0,P.info? e'=some i0∧i0.size=1:=by
   cases h:P.info? e' with
   |none=>rw[h] at hs;simp at hs
   |some i0=>rw[h] at hs;exact⟨i0,rfl,by simpa using hs⟩
  have h0:=cb r ho k
  rw[hk] at h0
  simp only at h0
  have hv:a.eval x=H:=r.lit hx fa
  have rN:a.eval y=.int .i64 m:=r.lit hy e8
  have hb1:∀cap w,(Instr.sliceBounds true ys.length cap (some (.int .i64 (m:Int))) none none).run P w=.ok (m,ys.length,cap) w:=by
   intro cap w
   have e1:(0:Int)≤(m:Int)∧(m:Int)≤(ys.length:Int):=by omega
   simp [Instr.sliceBounds,Instr.sliceBound,asIntOf,e1]
   intro h0;exfalso;omega
  rcases h0.2 with ⟨h1,h2⟩|⟨b,cap,cur,h1,_,_,hle,_⟩
  ·subst h1
   refine⟨_,fun w' _=>?_,.pv (.lit _)⟩
   have hb2:=hb1 0 w'
   rw[h2] at hb2
   have hm0:m=0:=by omega
   subst hm0
   simp only[execOp,Instr.sliceAt,Instr.slice,run_underlying ht,hv,rN,Sem.run_bind,Result.andThen_ok,Option.map_none,Option.map_some,hb2,sizeOf,typeInfo,Sem.run_pure,eR]
   simp [dA,hk0]
  ·subst h1
   refine⟨_,fun w' _=>?_,.pv (.lit _)⟩
   simp only[execOp,Instr.sliceAt,Instr.slice,run_underlying ht,hv,rN,Sem.run_bind,Result.andThen_ok,Option.map_none,Option.map_some,hb1,sizeOf,typeInfo,Sem.run_pure,eR]
   simp [dA,hk0,Addr.add]
   by_cases h1:cap=m
   ·simp [h1]
   ·by_cases h2:m=0
    ·subst h2;simp [h1]
    ·simp [h1,h2]) hK
theorem aa.q6 {x:Operand} {t e':TypeId} (i k m:Nat) {e:TypeId} {rows:eL} {H:Value} {ys:List Value} (ho:δ.ob i=some (.pool e rows)) (hk:rows k=(H,ys)) (hx:δ.ev x=.pv (.lit (eR m H))) (ht:P.underlying t=some (.slice e')) (fa:aK x=true) (hd:bk δ.n dst=true)
  (hK:aa q P g ops rest Q (δ.au dst (aw (ys.length - m:Nat)))):aa q P g ops (⟨dst,.call {callee:=.builtin .len,args:= #[x],argTypes:= #[t]},ty,pos,af,none⟩::rest) Q δ:=
 aa.dq _ hd (fun κ a w r=>by
  have h0:=cb r ho k
  rw[hk] at h0
  simp only at h0
  have hv:a.eval x=eR m H:=r.lit hx fa
  rcases h0.2 with ⟨h1,h2⟩|⟨b,cap,cur,h1,_⟩
  ·subst h1
   exact⟨_,fun w' _=>run_len_slice ht x a.eval none _ 0 (hv.trans (by simp [eR,h2])) w',.pv (.lit _)⟩
  ·subst h1
   exact⟨_,fun w' _=>run_len_slice ht x a.eval _ _ (cap - m) (hv.trans rfl) w',.pv (.lit _)⟩) hK
theorem aa.n8 {x y:Operand} {t e':TypeId} (i k m:Nat) {n:Nat} {ik:IntKind} {e:TypeId} {rows:eL} {H:Value} {ys:List Value} (ho:δ.ob i=some (.pool e rows)) (hk:rows k=(H,ys)) (hx:δ.ev x=.pv (.lit (eR m H))) (hy:δ.ev y=.pv (.lit (.int ik (n:Int)))) (hn:m+n<ys.length)
  (ht:P.underlying t=some (.slice e')) (hs:(P.info? e').map (·.size)=some 1) (fa:aK x=true) (e8:aK y=true) (hd:bk δ.n dst=true)
  (hK:aa q P g ops rest Q (δ.au dst (.pv (.lit (gP (m+n) H))))):aa q P g ops (⟨dst,.indexAddr t x y,ty,pos,af,none⟩::rest) Q δ:=
 aa.dq _ hd (fun κ a w r=>by
  have h0:=cb r ho k
  rw[hk] at h0
  simp only at h0
  have hv:a.eval x=eR m H:=r.lit hx fa
  rcases h0.2 with ⟨h1,h2⟩|⟨b,cap,cur,h1,_,_,hle,_⟩
  ·exfalso;omega
  ·subst h1
   have hv2:a.eval x=.slice (some ⟨b,m,none⟩) (ys.length - m) (cap - m):=hv.trans (by simp [eR];omega)
   refine⟨_,fun w' _=>?_,.pv (.lit _)⟩
   have:=cH (dst:=dst) (ty:=ty) (pos:=pos) (af:=af) ht hs hv2 (r.lit hy e8) (by omega) w'
   rw[Nat.mul_one] at this
   simpa [gP] using this) hK
theorem wZ {w w':World} {t ty e:TypeId} {i0:TypeInfo} {z:Value} {B n m xc:Nat} {xs nws:List Value} {v v':Value} {xa:Option Addr} (ht:P.underlying t=some (.slice e)) (dA:P.info? e=some i0) (hz0:i0.zero=some z) (hs0:i0.size=1) (b8:w.ownsRow B e 1 v n xs) (hY:nws.length=m*1)
  (br:m≠0→∃ad,xa=some ad∧∀j u,nws[j]? =some u→w.cell? (ad.add j)=some u) (hn1:∀u∈nws,u.oneCell'=true) (rE:n+m≤maxLen) (hb:(n+m)*i0.bytes≤140737488355328)
  (aR:(Builtin.append_ #[t,t] ty #[v,.slice xa m xc]).run P w=.ok v' w'):∀b,v'.ownBlock=some b→v.ownBlock=some b∨w.heap.size≤b:=by
 intro b hb'
 by_cases hm:m=0
 ·subst hm
  have vp:nws=[]:=List.eq_nil_of_length_eq_zero (by simpa using hY)
  subst vp
  rcases b8.2 with ⟨rfl,h0⟩|⟨b0,cap0,cur0,rfl,h4,h5,h6⟩
  ·have hr2:(Builtin.append_ #[t,t] ty #[.slice none 0 0,.slice xa 0 xc]).run P w=.ok (.slice none 0 0) w:=by
    cases xa with
    |none=>exact c8 ht dA b8
    |some ad=>simp [Builtin.append_,run_underlying ht,sizeOf,typeInfo,dA,Builtin.lenOf,Builtin.firstCells,loadCells,loadCellsFrom]
   rw[hr2] at aR
   simp only[Result.ok.injEq] at aR
   rw[← aR.1] at hb';cases hb'
  ·cases xa with
   |none=>
    have hr2:=c8 (P:=P) (c:=xc) (ty:=ty) ht dA b8
    rw[hr2] at aR
    simp only[Result.ok.injEq] at aR
    rw[← aR.1] at hb';exact .inl hb'
   |some ad=>
    have hr2:=run_append_room (P:=P) w t ty e i0 ht dA b0 n cap0 cur0 h5 ad 0 xc [] (by simp) (by simp) (by simp) (by omega) (by rw[hs0];simp [h6.2.2.1];exact h6.1)
    rw[hr2] at aR
    simp only[Result.ok.injEq] at aR
    rw[← aR.1] at hb';cases hb';exact .inl rfl
 ·obtain⟨ad,rfl,hc⟩:=br hm
  rcases b8.2 with ⟨rfl,h0⟩|⟨b0,cap0,cur0,rfl,h4,h5,h6⟩
  ·have hr2:=run_append_nil (P:=P) w t ty e i0 z ht dA hz0 ad m xc nws (by rw[hs0];exact hY) hc (by omega) (by simp only[maxLen] at rE;omega) (by have:m*i0.bytes≤(n+m)*i0.bytes:=Nat.mul_le_mul_right _ (by omega);omega)
   rw[hr2] at aR
   simp only[Result.ok.injEq] at aR
   rw[← aR.1] at hb';cases hb';exact .inr (Nat.le_refl _)
  ·by_cases eV:n+m≤cap0
   ·have hr2:=run_append_room (P:=P) w t ty e i0 ht dA b0 n cap0 cur0 h5 ad m xc nws (by rw[hs0];exact hY) hc hn1 eV (by rw[hs0,hY,h6.2.2.1];omega)
    rw[hr2] at aR
    simp only[Result.ok.injEq] at aR
    rw[← aR.1] at hb';cases hb';exact .inl rfl
   ·have hr2:=run_append_grow (P:=P) w t ty e i0 z ht dA hz0 ⟨b0,0,none⟩ n cap0 xs (by rw[hs0];exact b8.1) (b8.cells (g:=b0) rfl) ad m xc nws (by rw[hs0];exact hY) hc (by omega) (by simp only[maxLen] at rE;omega) (growslice_fits (by omega) hb)
    rw[hr2] at aR
    simp only[Result.ok.injEq] at aR
    rw[← aR.1] at hb';cases hb';exact .inr (Nat.le_refl _)
theorem Az {C:Cx} {w:World} {v:Value} {us:List Value} (h:Src C w v 1 (us.map fun u=>[.lit u])):∃xa xc,v=.slice xa us.length xc∧(us.length≠0→∃ad,xa=some ad∧∀(j:Nat) (u:Value),us[j]? =some u→w.cell? (ad.add j)=some u)∧∀u∈us,u.oneCell'=true:=by
 obtain⟨gi,hk,xa,xc,hv,hx⟩:=h
 rw[List.length_map] at hv
 have hc:∀(j:Nat) (u:Value),us[j]? =some u→cellAt (us.map fun u=>[PV.lit u]) j 0=some (.lit u):=fun j u hu=>by simp [cellAt,hu]
 refine⟨xa,xc,hv,fun h0=>?_,fun u hu=>?_⟩
 ·obtain⟨b,off,vs,rfl,h1⟩:=hx (by intro h;simp at h;exact h0 (by simp [h]))
  refine⟨_,rfl,fun j u hu=>?_⟩
  obtain⟨h2,_,h3⟩:=h1 j 0 _ (hc j u hu)
  have:vs j 0=u:=(RA.pv (C:=C) h3).lit
  rw[this,Nat.mul_one,Nat.add_zero] at h2
  rw[dw];exact h2
 ·obtain⟨j,hj⟩:=List.getElem?_of_mem hu
  obtain⟨b,off,vs,rfl,h1⟩:=hx (by intro h;simp at h;subst h;simp at hu)
  obtain⟨_,h2,h3⟩:=h1 j 0 _ (hc j u hj)
  have:vs j 0=u:=(RA.pv (C:=C) h3).lit
  rw[← this];exact h2
inductive yw (δ:DS) (x:Operand):List Value→Prop
 |src {us:List Value} {els:List (List PV)} (h:kP δ x 1 els) (he:els=us.map fun u=>[.lit u]):yw δ x us
 |tail {i k m:Nat} {e:TypeId} {rows:eL} {H:Value} {ys:List Value} (ho:δ.ob i=some (.pool e rows)) (hk:rows k=(H,ys)) (hm:m≤ys.length) (h:δ.ev x=.pv (.lit (eR m H))) (br:ys≠ []):yw δ x (ys.drop m)
theorem yw.at {x:Operand} {us:List Value} (h:yw δ x us) (r:Rel g δ κ a w) (fa:aK x=true):∃xa xc,a.eval x=.slice xa us.length xc∧(us.length≠0→∃ad,xa=some ad∧∀(j:Nat) (u:Value),us[j]? =some u→w.cell? (ad.add j)=some u)∧∀u∈us,u.oneCell'=true:=by
 cases h with
 |src h he=>subst he;exact Az (h.src r fa)
 | @tail i k m e rows H ys ho hk hm h br=>
  have h0:=cb r ho k
  have h1c:=((r.obj i _ ho).2.1 k).2.2.2
  rw[hk] at h0 h1c
  simp only at h0 h1c
  have hv:a.eval x=eR m H:=r.lit h fa
  rcases h0.2 with ⟨h1,h2⟩|⟨b,cap,cur,h1,_,h3,hle,_,jU,n4⟩
  ·exact absurd (List.eq_nil_of_length_eq_zero h2) br
  ·subst h1
   rw[Nat.mul_one] at n4
   refine⟨_,_,by rw[hv,List.length_drop];rfl,fun h4=>⟨_,rfl,fun j u hu=>?_⟩,fun u hu=>h1c u (List.mem_of_mem_drop hu)⟩
   rw[List.length_drop] at h4
   rw[if_neg (by omega),dw,cell_of h3]
   rw[List.getElem?_drop] at hu
   have aP:=(List.getElem?_eq_some_iff.1 hu).1
   rw[← n4,List.getElem?_take,if_pos aP] at hu
   rw[Nat.zero_add,← Array.getElem?_toList];exact hu
theorem aa.IE {o:Oper} (hg:o.guard=none) (dt:dI o=true) (h:∀κ a w,Rel g δ κ a w→∃x v w' κ' δ',(execOp a.eval o).run P w=.ok x w'∧(x=.value v∨(x=.skip∧v=undef))∧Rel g δ' κ' (a.put o.dst v) w'∧aa .plain P g ops rest Q δ'):aa .plain P g ops (o::rest) Q δ:=by
 intro κ a w r
 show wpListIn _ _ P ops _ (o::rest) a w
 refine cr hg dt fun K hK'=>?_
 unfold Oper.uT
 obtain⟨x,v,w',κ',δ',h1,h2,h3,h4⟩:=h κ a w r
 rw[h1]
 rcases h2 with rfl|⟨rfl,rfl⟩
 ·rw[Oper.uponIn_value];exact hK' _ _ (h4 _ _ _ h3)
 ·rw[Oper.uponIn_skip];exact hK' _ _ (h4 _ _ _ h3)
theorem aa.ub {s x:Operand} {t:TypeId} (i k:Nat) {bytes:Nat} {z:Value} {e:TypeId} {rows:eL} {H:Value} {ys us:List Value} (ho:δ.ob i=some (.pool e rows)) (hk:rows k=(H,ys)) (hs:δ.ev s=.pv (.lit H)) (hx:yw δ x us)
  (ht:P.underlying t=some (.slice e)) (hi:(P.info? e).map (fun i=>(i.size,i.zero,i.bytes))=some (1,some z,bytes)) (hz1:z.oneCell'=true) (l9:aK s=true) (fa:aK x=true) (hd:bk δ.n dst=true) (hb:(ys.length+us.length)*bytes≤140737488355328) (hl:ys.length+us.length≤140737488355328)
  (hK:∀v',aa .plain P g ops rest Q ((δ.bx i (some (.pool e (hU rows k (v',ys++us))))).au dst (.pv (.lit v')))):aa .plain P g ops (⟨dst,.call {callee:=.builtin .append,args:= #[s,x],argTypes:= #[t,t]},ty,pos,af,none⟩::rest) Q δ:=by
 refine aa.IE rfl rfl fun κ a w r=>?_
 obtain⟨i0,dA,hs0,hz0,hb0⟩:∃i0,P.info? e=some i0∧i0.size=1∧i0.zero=some z∧i0.bytes=bytes:=by
  cases h:P.info? e with
  |none=>rw[h] at hi;simp at hi
  |some i0=>rw[h] at hi;simp at hi;exact⟨i0,rfl,hi.1,hi.2.1,hi.2.2⟩
 have h0:=cb r ho k
 have h1c:=((r.obj i _ ho).2.1 k).2.2.2
 rw[hk] at h0 h1c
 simp only at h0 h1c
 have hv:a.eval s=H:=r.lit hs l9
 obtain⟨xa,xc,wQ,br,hn1⟩:=hx.at r fa
 have rE:ys.length+us.length≤maxLen:=by simp only[maxLen];omega
 obtain⟨v',w',aR,nY,kZ⟩:∃v' w',(Builtin.append_ #[t,t] ty #[H,.slice xa us.length xc]).run P w=.ok v' w'∧w'.ownsRow g.B e 1 v' (ys.length+us.length) (ys++us)∧w.grownBy w' H.ownBlock:=by
  by_cases j1:us=[]
  ·subst j1
   cases xa with
   |none=>exact⟨H,w,c8 ht dA h0,by simp only[List.length_nil,Nat.add_zero,List.append_nil];exact h0,⟨rfl,rfl,rfl,Nat.le_refl _,fun _ _ _=>rfl⟩⟩
   |some ad=>
    obtain⟨v',w',h2,h3,h4,_⟩:=run_append_own (P:=P) w g.B t ty e i0 z 1 bytes ht dA hz0 hs0 hb0 (by rw[gJ hz1];rfl) (by omega) H ys.length ys h0 ad 0 xc [] (by simp) (by simp) (by simp) (by simpa using rE) (by simpa using hb) r.hB
    exact⟨v',w',h2,by simpa using h3,h4⟩
  ·obtain⟨ad,rfl,hc⟩:=br (by intro h;exact j1 (List.eq_nil_of_length_eq_zero h))
   obtain⟨v',w',h2,h3,h4,_⟩:=run_append_own (P:=P) w g.B t ty e i0 z 1 bytes ht dA hz0 hs0 hb0 (by rw[gJ hz1];rfl) (by omega) H ys.length ys h0 ad us.length xc us (by simp) hc hn1 rE hb r.hB
   exact⟨v',w',h2,h3,h4⟩
 have pf:=wZ ht dA hz0 hs0 h0 (by simp) br hn1 rE (by rw[hb0];exact hb) aR
 have dx:(rows k).1=H:=by rw[hk]
 obtain⟨κ',r',_⟩:=r.iG ho (k:=k) (w':=w') (by rw[dx];exact cS.grownBy kZ) (v':=v') (ys:=ys++us) (by rw[List.length_append];exact nY) (by rw[List.length_append];exact hl) (fun u hu=>(List.mem_append.1 hu).elim (h1c u) (hn1 u)) (by rw[dx];exact pf)
 have ui:(execOp a.eval ⟨dst,.call {callee:=.builtin .append,args:= #[s,x],argTypes:= #[t,t]},ty,pos,af,none⟩).run P w=.ok (.value v') w':=by
  simp only[execOp,resolve,invoke,builtin,Sem.run_bind,Sem.run_pure,Result.andThen_ok,List.map_toArray,List.map_cons,List.map_nil,hv,wQ,aR]
 exact⟨_,v',w',κ',_,ui,.inl rfl,r'.au (aU hd) (.pv (.lit _)),hK v'⟩
theorem aa.kh {s x:Operand} {t:TypeId} (i k m:Nat) {bytes:Nat} {z:Value} {e:TypeId} {rows:eL} {H:Value} {ys us:List Value} (ho:δ.ob i=some (.pool e rows)) (hk:rows k=(H,ys)) (hs:δ.ev s=.pv (.lit (c_ m H))) (hx:yw δ x us) (eV:m+us.length≤ys.length) (Gm:ys≠ [])
  (ht:P.underlying t=some (.slice e)) (hi:(P.info? e).map (fun i=>(i.size,i.zero,i.bytes))=some (1,some z,bytes)) (l9:aK s=true) (fa:aK x=true) (hd:bk δ.n dst=true)
  (hK:aa .plain P g ops rest Q ((δ.bx i (some (.pool e (hU rows k (H,ys.take m++us++ys.drop (m+us.length)))))).au dst (.pv (.lit (c_ (m+us.length) H))))):aa .plain P g ops (⟨dst,.call {callee:=.builtin .append,args:= #[s,x],argTypes:= #[t,t]},ty,pos,af,none⟩::rest) Q δ:=by
 refine aa.IE rfl rfl fun κ a w r=>?_
 obtain⟨i0,dA,hs0,hz0,hb0⟩:∃i0,P.info? e=some i0∧i0.size=1∧i0.zero=some z∧i0.bytes=bytes:=by
  cases h:P.info? e with
  |none=>rw[h] at hi;simp at hi
  |some i0=>rw[h] at hi;simp at hi;exact⟨i0,rfl,hi.1,hi.2.1,hi.2.2⟩
 have h0:=cb r ho k
 have hl:=((r.obj i _ ho).2.1 k).2.1
 have h1c:=((r.obj i _ ho).2.1 k).2.2.2
 rw[hk] at h0 h1c hl
 simp only at h0 h1c hl
 have hv:a.eval s=c_ m H:=r.lit hs l9
 obtain⟨xa,xc,wQ,br,hn1⟩:=hx.at r fa
 rcases h0.2 with ⟨h1,h2⟩|⟨b,cap,cur,h1,hB,h3,hle,Da,jU,n4⟩
 ·exact absurd (List.eq_nil_of_length_eq_zero h2) Gm
 ·subst h1
  rw[Nat.mul_one] at jU n4
  have hlen:(ys.take m++us++ys.drop (m+us.length)).length=ys.length:=by simp;omega
  obtain⟨w',aR,hw'⟩:∃w',(Builtin.append_ #[t,t] ty #[.slice (some ⟨b,0,none⟩) m cap,.slice xa us.length xc]).run P w=.ok (.slice (some ⟨b,0,none⟩) (m+us.length) cap) w'∧(w'=w∧us=[]∨w'=w.setRow b (cur.toList.take m++us++cur.toList.drop (m+us.length)).toArray):=by
   by_cases j1:us=[]
   ·subst j1
    cases xa with
    |none=>exact⟨w,by simp [Builtin.append_,run_underlying ht,sizeOf,typeInfo,dA,Builtin.lenOf,Builtin.firstCells,storeCells];omega,.inl ⟨rfl,rfl⟩⟩
    |some ad=>
     have:=run_append_room (P:=P) w t ty e i0 ht dA b m cap cur h3 ad 0 xc [] (by simp) (by simp) (by simp) (by simp at eV;omega) (by rw[hs0];simp at eV ⊢;omega)
     exact⟨_,this,.inr (by simp [hs0])⟩
   ·obtain⟨ad,rfl,hc⟩:=br (by intro h;exact j1 (List.eq_nil_of_length_eq_zero h))
    have:=run_append_room (P:=P) w t ty e i0 ht dA b m cap cur h3 ad us.length xc us (by rw[hs0];simp) hc hn1 (by omega) (by rw[hs0];omega)
    exact⟨_,this,.inr (by simp [hs0])⟩
  have dx:(rows k).1.ownBlock=some b:=by rw[hk];rfl
  have l6:us=[]→ys.take m++us++ys.drop (m+us.length)=ys:=fun h=>by subst h;simp
  obtain⟨κ',r',_⟩:=r.iG ho (k:=k) (w':=w') (by
    rcases hw' with ⟨rfl,_⟩|rfl
    ·exact⟨rfl,rfl,rfl,Nat.le_refl _,fun _ _ _=>rfl⟩
    ·rw[dx];exact cS.setRow w b _) (v':=.slice (some ⟨b,0,none⟩) ys.length cap) (ys:=ys.take m++us++ys.drop (m+us.length))
   (by
    rw[hlen]
    refine⟨by rw[hlen];simp,.inr ?_⟩
    rcases hw' with ⟨rfl,h⟩|rfl
    ·exact⟨b,cap,cur,rfl,hB,h3,hle,Da,by rw[Nat.mul_one];exact jU,by rw[Nat.mul_one,l6 h];exact n4⟩
    ·refine⟨b,cap,_,rfl,hB,setRow_heap _ _ _ _ _ _ h3,hle,Da,?_,?_⟩
     ·simp;omega
     ·have e1:cur.toList=ys++cur.toList.drop ys.length:=by have:=List.take_append_drop ys.length cur.toList;rw[n4] at this;exact this.symm
      generalize cur.toList.drop ys.length=tl at e1
      rw[Nat.mul_one,e1]
      simp only[List.take_append_of_le_length (show m≤ys.length by omega),List.drop_append_of_le_length eV]
      rw[← List.append_assoc,List.take_append_of_le_length (by rw[hlen];omega),List.take_of_length_le (by rw[hlen];omega)])
   (by rw[hlen];exact hl)
   (fun v hv=>by
    rcases List.mem_append.1 hv with hv|hv
    ·rcases List.mem_append.1 hv with hv|hv
     ·exact h1c v (List.mem_of_mem_take hv)
     ·exact hn1 v hv
    ·exact h1c v (List.mem_of_mem_drop hv))
   (fun b' hb'=> .inl (by rw[dx];exact hb'))
  have ui:(execOp a.eval ⟨dst,.call {callee:=.builtin .append,args:= #[s,x],argTypes:= #[t,t]},ty,pos,af,none⟩).run P w=.ok (.value (.slice (some ⟨b,0,none⟩) (m+us.length) cap)) w':=by
   simp only[execOp,resolve,invoke,builtin,Sem.run_bind,Sem.run_pure,Result.andThen_ok,List.map_toArray,List.map_cons,List.map_nil,hv,wQ,c_,aR]
  exact⟨_,_,w',κ',_,ui,.inl rfl,r'.au (aU hd) (.pv (.lit _)),hK⟩
end Go.Ab
/- Pools:a row of the walk's own taken in;a shorter slice;a new pool. -/
namespace Go.Ab
open Go Go.RowKit
variable {q:Md} {P:Program} {g:ar} {δ:DS} {κ:Kp} {a:Act} {w:World}
variable {ops:Array Oper} {rest:List Oper} {Q:Exit→DS→Prop}
theorem iA.zZ {C C':Cx} {w w':World} {i j:Nat} {o:Ob} (G:ez (C.less i) w C' w') (hκ:C'.κ j=C.κ j) (hb:∀b,C.κ j=some b→w'.heap[b]? =w.heap[b]?) (hP:∀b,C.κ.F j b→b<w.heap.size→C'.κ.F j b∧w'.heap[b]? =w.heap[b]?) (h:iA C w j o):iA C' w' j (o.pM (AV.kill i)):=by
 cases o with
 |row=>
  intro b hb'
  rw[hκ] at hb'
  obtain⟨c,e,h1⟩:=h b hb'
  exact⟨c,e,(hb b hb').trans h1⟩
 |box cs=>
  obtain⟨b,c,e,h1,h2,h3,h4⟩:=h
  refine⟨b,c,e,hκ.trans h1,(hb b h1).trans h2,by simpa using h3,fun k u av h5 h6=>?_⟩
  simp only[List.getElem?_map,Option.map_eq_some_iff] at h6
  obtain⟨av',h6,rfl⟩:=h6
  exact⟨(h4 k u av' h5 h6).1.kill G,(h4 k u av' h5 h6).2⟩
 |mp l=>
  obtain⟨b,es,clock,h1,h2,h3,h4⟩:=h
  refine⟨b,es,clock,hκ.trans h1,(hb b h1).trans h2,⟨h3.1,fun k e p h5 h6=>?_⟩,h4⟩
  exact⟨(h3.2 k e p h5 h6).1,G.ra ((h3.2 k e p h5 h6).2.less (h4.2 p (List.mem_of_getElem? h6)))⟩
 |mpl l kk v=>
  obtain⟨b,es,clock,h1,h2,h3,h4⟩:=h
  refine⟨b,es,clock,hκ.trans h1,(hb b h1).trans h2,?_,h4⟩
  exact h3.last (fun u p hp h=>G.ra (h.less (h4.2 p hp))) (fun u h=>h.kill G)
 |it l seen=>
  obtain⟨b,h1,h2⟩:=h
  exact⟨b,hκ.trans h1,h2.mono G.size G.N (hb b h1)⟩
 |lit T vals=>
  obtain⟨b,h1,h2⟩:=h
  exact⟨b,hκ.trans h1,(hb b h1).trans h2⟩
 |pool e rows=>exact⟨hκ.trans h.1,fun k=>(h.2.1 k).e7 G.B fun b _ hF aP=>hP b hF aP,h.2.2⟩
 |loop l tm ps asg body st=>
  obtain⟨b,lr,h1,h2,h3⟩:=h
  exact⟨b,lr,hκ.trans h1,(hb b h1).trans h2,h3⟩
theorem Rel.lS (r:Rel g δ κ a w) {i j k t:Nat} {e:TypeId} {rows:eL} {us:List Value} {els:List (List PV)} (ho:δ.ob i=some (.pool e rows)) (hj:δ.ob j=some .row) (ht:δ.get t=.own j e 1 els) (he:els=us.map fun u=>[.lit u]) (hk:(rows k).1=.slice none 0 0):
  ∃v κ',Rel g (((δ.cj (AV.kill j)).bx i (some (.pool e (hU rows k (v,us))))).put t (.pv (.lit v))) κ' a w:=by
 subst he
 have oJ:i≠j:=by rintro rfl;rw[ho] at hj;cases hj
 have kR:δ.live j:=⟨_,hj⟩
 have vT:δ.live i:=⟨_,ho⟩
 have hv:=r.env t
 rw[ht] at hv
 have hv:=hv.dM
 generalize Re:g.val a t=v at hv
 obtain⟨hκi,ru,sY⟩:=r.obj i _ ho
 obtain⟨xs,b8,hx1,Np⟩:=hv.row
 have gi:=hv.lim
 rw[List.length_map] at b8 gi
 have GN:xs=us:=by
  apply List.ext_getElem?
  intro n
  by_cases hn:n<us.length
  ·obtain⟨u,h1,h2⟩:=Np n 0 (.lit us[n]) (by simp [cellAt,hn])
   rw[Nat.mul_one,Nat.add_zero] at h1
   rw[h1,List.getElem?_eq_getElem hn]
   cases h2;rfl
  ·have:=b8.1
   rw[List.getElem?_eq_none (by omega),List.getElem?_eq_none (by omega)]
 subst GN
 have Hz:∀b,v.ownBlock=some b→κ j=some b:=fun b hb=>hv.blk b hb
 let κ':Kp:=⟨(cp κ j none).f,fun n b=>κ.F n b∨(n=i∧v.ownBlock=some b)⟩
 let δ1:=(δ.cj (AV.kill j)).bx i (some (.pool e (hU rows k (v,xs))))
 have dx:∀n,δ1.ob n=if i=n then some (.pool e (hU rows k (v,xs))) else (δ.ob n).map (Ob.pM (AV.kill j)):=fun n=>by
  show((δ.cj (AV.kill j)).bx i _).ob n=_
  rw[du,eO]
 have bf:∀n,δ1.live n↔δ.live n:=by
  intro n
  unfold DS.live
  rw[dx]
  by_cases h:i=n
  ·subst h;simp [ho]
  ·rw[if_neg h];cases δ.ob n<;>simp
 have ir:∀n,δ1.lr n↔δ.lr n:=by
  intro n
  unfold DS.lr
  rw[dx]
  by_cases h:i=n
  ·subst h;simp [ho]
  ·rw[if_neg h]
   cases δ.ob n with
   |none=>simp
   |some o=>cases o<;>simp [Ob.pM]
 have oF:∀n,δ.lb n→δ1.lb n:=by
  rintro n ⟨o,h1,h2⟩
  unfold DS.lb
  rw[dx]
  by_cases h:i=n
  ·rw[if_pos h];exact⟨_,rfl,rfl⟩
  ·rw[if_neg h,h1];exact⟨_,rfl,by cases o<;>simp_all [Ob.pM,Ob.fy]⟩
 have hκs:∀n b,κ' n=some b→n≠j∧κ n=some b:=by
  intro n b h
  by_cases hn:j=n
  ·subst hn
   have:κ' j=none:=by show cp κ j none j=none;simp [cp]
   rw[this] at h;cases h
  ·have:κ' n=κ n:=by show cp κ j none n=κ n;simp [cp,hn]
   rw[this] at h
   exact⟨fun e=>hn e.symm,h⟩
 have hκo:∀n,n≠j→κ' n=κ n:=fun n hn=>by show cp κ j none n=κ n;simp [cp,Ne.symm hn]
 have MM:∀n,δ.lb n→n≠j:=by
  rintro n ⟨o,h1,h2⟩ rfl
  rw[hj] at h1;cases h1;simp [Ob.fy] at h2
 have hFl:∀b,κ.Fs b→b<w.heap.size:=fun b hb=>r.fr.xV hb
 have G:ez ((δ.cx g κ).less j) w (δ1.cx g κ') w:=
  {B:=rfl,size:=Nat.le_refl _
   N:=fun b _ h2=>⟨⟨⟨h2.1.1,by
    rintro⟨n,h3|⟨_,h3⟩⟩
    ·exact h2.1.2 ⟨n,h3⟩
    ·exact h2.2 j kR (Hz b h3)⟩,fun n hn e=>h2.2 n ((bf n).1 hn) (hκs n b e).2⟩,rfl⟩
   Lr:=fun n hn=>⟨(ir n).2 hn.1,hκo n hn.2,fun _ _=>rfl⟩
   Lb:=fun n hn=>⟨oF n hn,hκo n (MM n hn)⟩}
 have R1:Rel g δ1 κ' a w:=
  {n:=r.n,dfr:=r.dfr
   env:=fun n=>by
    show RA _ w _ ((δ.cj (AV.kill j)).get n)
    rw[j4 _ rfl];exact(r.env n).kill G
   obj:=fun n x h=>by
    rw[dx] at h
    by_cases hn:i=n
    ·subst hn
     rw[if_pos rfl] at h
     cases h
     refine⟨(hκo i oJ).trans hκi,fun kk=>?_,fun k1 k2 b h2 h3=>?_⟩
     ·unfold hU
      by_cases hk':kk=k
      ·rw[if_pos hk'];exact⟨b8,gi,fun b hb=> .inr ⟨rfl,hb⟩,hx1⟩
      ·rw[if_neg hk'];exact(ru kk).e7 rfl fun b _ h2 _=>⟨.inl h2,rfl⟩
     ·have br:∀kk b,(rows kk).1.ownBlock=some b→v.ownBlock=some b→False:=fun kk b h4 h5=>r.fr.gS kR (Hz b h5) ⟨i,(ru kk).2.2.1 b h4⟩
      unfold hU at h2 h3
      by_cases hk1:k1=k
      ·by_cases hk2:k2=k
       ·rw[hk1,hk2]
       ·rw[if_pos hk1] at h2
        rw[if_neg hk2] at h3
        exact(br k2 b h3 h2).elim
      ·by_cases hk2:k2=k
       ·rw[if_neg hk1] at h2
        rw[if_pos hk2] at h3
        exact(br k1 b h2 h3).elim
       ·rw[if_neg hk1] at h2
        rw[if_neg hk2] at h3
        exact sY k1 k2 b h2 h3
    ·rw[if_neg hn] at h
     cases ho':δ.ob n with
     |none=>rw[ho'] at h;simp at h
     |some o=>
      rw[ho'] at h
      simp only[Option.map_some,Option.some.injEq] at h
      subst h
      by_cases N4:n=j
      ·subst N4
       rw[hj] at ho'
       cases ho'
       intro b hb
       exact absurd rfl (hκs n b hb).1
      ·exact(r.obj n o ho').zZ G (hκo n N4) (fun _ _=>rfl) fun b h2 _=>⟨.inl h2,rfl⟩
   inj:=fun n m b h1 h2 h3 h4=>r.inj n m b ((bf n).1 h1) ((bf m).1 h2) (hκs n b h3).2 (hκs m b h4).2
   lo:=fun n b h1 h2=>r.lo n b ((bf n).1 h1) (hκs n b h2).2
   nx:=fun n h=>r.nx n ((bf n).1 h)
   wt:=fun kk hk=>⟨(r.wt kk hk).1,fun n b h1 o8 h2=>(r.wt kk hk).2 n b ((bf n).1 h1) (o8.imp (ir n).1 id) (hκs n b h2).2⟩
   below:=r.below,hB:=r.hB,N0:=r.N0,mkf:=r.mkf
   fr:=by
    refine⟨fun b hb=>?_,fun n b hb=>?_⟩
    ·obtain⟨h2,h3,h4⟩:=r.fr.1 b hb
     exact⟨h2,h3,fun m hm e=>h4 m ((bf m).1 hm) (hκs m b e).2⟩
    ·rcases hb with h2|⟨rfl,h2⟩
     ·obtain⟨h4,h5,h6,h7,h8⟩:=r.fr.2 n b h2
      refine⟨h4,h5,h6,fun m hm e=>h7 m ((bf m).1 hm) (hκs m b e).2,fun m hm=>?_⟩
      rcases hm with hm|⟨rfl,hm⟩
      ·exact h8 m hm
      ·exact(r.fr.gS kR (Hz b hm) ⟨n,h2⟩).elim
     ·have hκj:=Hz b h2
      obtain⟨h3,h4⟩:=r.lo j b kR hκj
      refine⟨⟨h3,fun kk hk=>(r.wt kk hk).2 j b kR (.inl hj) hκj⟩,h4,fun hf=>(r.fr.1 b hf).2.2 j kR hκj,fun m hm e=>?_,fun m hm=>?_⟩
      ·obtain⟨h5,h6⟩:=hκs m b e
       exact h5 (r.inj m j b ((bf m).1 hm) kR h6 hκj)
      ·rcases hm with hm|⟨rfl,_⟩
       ·exact(r.fr.gS kR hκj ⟨m,hm⟩).elim
       ·rfl}
 exact⟨v,κ',R1.lW (by rw[Re];exact .pv (.lit _))⟩
theorem AW.lS {c:Code} (i j k t:Nat) {e:TypeId} {rows:eL} {us:List Value} {els:List (List PV)} (ho:δ.ob i=some (.pool e rows)) (hj:δ.ob j=some .row) (ht:δ.get t=.own j e 1 els) (he:els=us.map fun u=>[.lit u]) (hk:(rows k).1=.slice none 0 0)
  (hK:∀v,AW P g c Q (((δ.cj (AV.kill j)).bx i (some (.pool e (hU rows k (v,us))))).put t (.pv (.lit v)))):AW P g c Q δ:=fun κ a w r=>by
 obtain⟨v,κ',r'⟩:=r.lS ho hj ht he hk
 exact hK v κ' a w r'
theorem AW.uN {c:Code} (i k m:Nat) {e:TypeId} {rows:eL} {H:Value} {ys:List Value} (ho:δ.ob i=some (.pool e rows)) (hk:rows k=(H,ys)) (hm:m≤ys.length) (hK:AW P g c Q (δ.bx i (some (.pool e (hU rows k (c_ m H,ys.take m)))))):AW P g c Q δ:=fun κ a w r=>by
 have h0:=cb r ho k
 have hl:=((r.obj i _ ho).2.1 k).2.1
 have h1c:=((r.obj i _ ho).2.1 k).2.2.2
 rw[hk] at h0 h1c hl
 simp only at h0 h1c hl
 have hlen:(ys.take m).length=m:=by simp;omega
 have b8:w.ownsRow g.B e 1 (c_ m H) (ys.take m).length (ys.take m)∧∀b,(c_ m H).ownBlock=some b→H.ownBlock=some b:=by
  rcases h0.2 with ⟨h1,h2⟩|⟨b,cap,cur,h1,hB,h3,hle,Da,jU,n4⟩
  ·subst h1
   obtain rfl:m=0:=by omega
   exact⟨⟨by simp,.inl ⟨rfl,by simp⟩⟩,fun b hb=>by cases hb⟩
  ·subst h1
   refine⟨⟨by simp,.inr ⟨b,cap,cur,by rw[hlen];rfl,hB,h3,by rw[hlen];omega,Da,jU,?_⟩⟩,fun b hb=>hb⟩
   rw[hlen,← n4,List.take_take,Nat.mul_one,Nat.mul_one,Nat.min_eq_left hm]
 obtain⟨κ',r',_⟩:=r.iG ho (k:=k) (w':=w) ⟨rfl,rfl,rfl,Nat.le_refl _,fun _ _ _=>rfl⟩ b8.1 (by rw[hlen];omega) (fun u hu=>h1c u (List.mem_of_mem_take hu)) (fun b hb=> .inl (by rw[hk];exact b8.2 b hb))
 exact hK κ' a w r'
theorem Rel.pF (r:Rel g δ κ a w) (e:TypeId):Rel g (δ.ba (.pool e fun _=>(.slice none 0 0,[]))) (cp κ δ.nx none) a w:=by
 have hY:¬δ.live δ.nx:=fun h=>Nat.lt_irrefl _ (r.nx _ h)
 have br:∀i,δ.live i→δ.nx≠i:=fun i h e=>hY (e▸h)
 have bf:∀i,(δ.ba (.pool e fun _=>(.slice none 0 0,[]))).live i→i=δ.nx∨δ.live i:=by
  intro i ⟨o',h⟩
  rw[bp] at h
  by_cases e:δ.nx=i
  ·exact .inl e.symm
  ·rw[if_neg e] at h;exact .inr ⟨o',h⟩
 have ja:∀i b,(δ.ba (.pool e fun _=>(.slice none 0 0,[]))).live i→cp κ δ.nx none i=some b→δ.live i∧κ i=some b:=by
  intro i b hi h
  rcases bf i hi with rfl|hi
  ·simp [cp] at h
  ·simp only[cp,br i hi,if_false] at h;exact⟨hi,h⟩
 have G:ez (δ.cx g κ) w ((δ.ba (.pool e fun _=>(.slice none 0 0,[]))).cx g (cp κ δ.nx none)) w:=
  {B:=rfl,size:=Nat.le_refl _
   N:=fun b h1 h2=>⟨⟨h2.1,fun i hi e=>let ⟨h3,h4⟩:=ja i b hi e;h2.2 i h3 h4⟩,rfl⟩
   Lr:=fun i hi=>by
    have hi':=br i (DS.bN hi)
    refine⟨?_,by show cp _ _ _ i=κ i;simp [cp,hi'],fun b hκ=>rfl⟩
    show(δ.ba _).ob i=_
    rw[bp,if_neg hi'];exact hi
   Lb:=fun i hi=>by
    have hi':=br i (DS.fU hi)
    refine⟨?_,by show cp _ _ _ i=κ i;simp [cp,hi']⟩
    obtain⟨o',h1,h2⟩:=hi
    exact⟨o',by rw[bp,if_neg hi'];exact h1,h2⟩}
 exact
  {n:=r.n,dfr:=r.dfr,env:=fun j=>G.ra (r.env j)
   obj:=fun i o' h=>by
    rw[bp] at h
    by_cases e:δ.nx=i
    ·rw[if_pos e] at h;cases h;subst e
     exact⟨by show cp _ _ _ _=_;simp [cp],fun k=>⟨w.ownsRow_nil _ _ _,by simp,fun b hb=>by simp [Value.ownBlock] at hb,fun u hu=>by simp at hu⟩,fun k k' b hb=>by simp [Value.ownBlock] at hb⟩
    ·rw[if_neg e] at h
     exact(r.obj i o' h).e7 G (by show cp _ _ _ i=κ i;simp [cp,e]) (fun b hκ=>rfl) (fun b hF aP=>⟨hF,rfl⟩)
   inj:=fun i j b h1 h2 h3 h4=>let ⟨h5,h6⟩:=ja i b h1 h3;let ⟨h7,h8⟩:=ja j b h2 h4;r.inj i j b h5 h7 h6 h8
   lo:=fun i b h1 h2=>let ⟨h5,h6⟩:=ja i b h1 h2;r.lo i b h5 h6
   nx:=fun i h=>by
    show i<δ.nx+1
    rcases bf i h with rfl|h
    ·omega
    ·have:=r.nx i h;omega
   wt:=fun k hk=>⟨(r.wt k hk).1,fun i b hi hi' hκ hb=>by
    obtain⟨h5,h6⟩:=ja i b hi hκ
    refine(r.wt k hk).2 i b h5 (hi'.imp (fun h=>?_) id) h6 hb
    have h7:(δ.ba _).ob i=some .row:=h
    rw[bp,if_neg (br i h5)] at h7
    exact h7⟩
   below:=r.below,hB:=r.hB,N0:=r.N0,mkf:=r.mkf
   fr:=r.fr.sub fun i b h1 h2=>let ⟨h5,h6⟩:=ja i b h1 h2;⟨i,h5,h6⟩}
theorem AW.pF {c:Code} (e:TypeId) (hK:AW P g c Q (δ.ba (.pool e fun _=>(.slice none 0 0,[])))):AW P g c Q δ:=fun _ a w r=>hK _ a w (r.pF e)
end Go.Ab
/- Contracts with more than one outcome:of the caller's objects,and of the result,only a relation is told. -/
namespace Go.Ab
open Go Go.RowKit
variable {P:Program} {g:ar} {δ:DS} {κ:Kp} {a:Act} {w:World}
variable {ops:Array Oper} {rest:List Oper} {Q:Exit→DS→Prop} {dst:Option Nat} {ty:TypeId} {pos:String} {af:Array Edge}
abbrev nf {α:Type} (P:Program) (f:FuncId) (n0:Nat) (objs0:List (Nat×Option Ob)) (args:List AV) (p:α→Prop) (objs1:α→List (Nat×Option Ob)) (r:α→AV):Prop:=
 lX (fun _=>True) P (fun(x:α) C w e=>p x∧Hn (r x) C w e) f n0 objs0 args objs1
def fw {α:Type} (P:Program) (rs:List ResultVar) (objs0:List (Nat×Option Ob)) (p:α→Prop) (objs1:α→List (Nat×Option Ob)) (r:α→AV):Exit→DS→Prop
 |.normal,δ|.ret,δ=>∃x,p x∧∃v,bD P δ rs v∧WV δ (XF δ objs0 (objs1 x)) v (r x)∧WV δ (XF δ objs0 (objs1 x)) (δ.get 1000) (.agg (bS objs0))∧iU δ (XF δ objs0 (objs1 x)) (objs1 x)∧mF δ.nx (objs1 x)=true
 |_,_=>False
theorem bW {α:Type} {rs:List ResultVar} {objs0:List (Nat×Option Ob)} {p:α→Prop} {objs1:α→List (Nat×Option Ob)} {r:α→AV} {v:AV} (x:α) (hp:p x) (h:bD P δ rs v) (hw:vW δ (XF δ objs0 (objs1 x)) [v,δ.get 1000] [r x,.agg (bS objs0)]) (ho:iU δ (XF δ objs0 (objs1 x)) (objs1 x)) (hx:mF δ.nx (objs1 x)=true):fw P rs objs0 p objs1 r .ret δ:=⟨x,hp,v,h,hw.1,hw.2.1,ho,hx⟩
theorem gI {α:Type} {rs:List ResultVar} {objs0:List (Nat×Option Ob)} {p:α→Prop} {objs1:α→List (Nat×Option Ob)} {r:α→AV} {v:AV} (x:α) (hp:p x) (h:bD P δ rs v) (hw:vW δ (XF δ objs0 (objs1 x)) [v,δ.get 1000] [r x,.agg (bS objs0)]) (ho:iU δ (XF δ objs0 (objs1 x)) (objs1 x)) (hx:mF δ.nx (objs1 x)=true):fw P rs objs0 p objs1 r .normal δ:=⟨x,hp,v,h,hw.1,hw.2.1,ho,hx⟩
theorem nf.enter {α:Type} {f:FuncId} {fn:Func} {c:Code} {rs:List ResultVar} {n n0:Nat} {objs0:List (Nat×Option Ob)} {args:List AV} {p:α→Prop} {objs1:α→List (Nat×Option Ob)} {r:α→AV} (hf:P.funcs[f]? =some fn) (hb:fn.body=some c) (mE:fn.results=rs.toArray) (hn:fn.ntmps=n) (uE:Nat.ble args.length n=true)
  (ka:Nat.ble n HS=true) (he:(fn.name== "runtime.NumGoroutine")=false) (nm:mm objs0 objs0=true) (hn1:∀x,mF n0 (objs1 x)=true)
  (h:∀g:ar,g.ro=none→g.wt=none→AW P g c (fw P rs objs0 p objs1 r) ⟨n,enum 0 args++ [(1000,.agg (bS objs0))],objs0,n0⟩):nf P f n0 objs0 args p objs1 r:=by
 refine lX.enter (Q:=fw P rs objs0 p objs1 r) hf hb hn uE ka he nm hn1 (fun g h1 h2 _=>h g h1 h2) fun g e δ' κ' a' w' R dg qy hq r' hR=>?_
 have fin:(∃x,p x∧∃v,bD P δ' rs v∧WV δ' (XF δ' objs0 (objs1 x)) v (r x)∧WV δ' (XF δ' objs0 (objs1 x)) (δ'.get 1000) (.agg (bS objs0))∧iU δ' (XF δ' objs0 (objs1 x)) (objs1 x)∧mF δ'.nx (objs1 x)=true)→
   LeavesInM Fence.wide 0 P fn a'.tmps R a'.defers .returning w':=fun⟨x,MI,v,h1,hv,hp,ho,hx⟩=>
  leaves (g:=g) dg qy mE h1 r' fun w2 r2 u hu=>hR x hp ho hx _ _ r2 ⟨MI,u,rfl,hu.wv (δ:=δ') (δ':=XF δ' objs0 (objs1 x)) r2.fv r2.obj hv⟩
 cases e with
 |normal=>exact fin hq
 |ret=>exact fin hq
 |_=>exact hq.elim
theorem aa.dZ {α:Type} {y:Operand} {f:FuncId} {xs:List Operand} {tys:Array TypeId} {first cap args:List AV} {n0:Nat} {objs0:List (Nat×Option Ob)} {p:α→Prop} {objs1:α→List (Nat×Option Ob)} {r:α→AV} (dg:g.wt=none) (hf:nf P f n0 objs0 args p objs1 r) (hy:δ.ev y=.clo (.func f) first cap) (e8:aK y=true) (l9:xs.all aK=true)
  (eE:uS δ objs0) (b9:n_ (XS objs0 n0).kK (XS objs0 n0).kE (first++xs.map δ.ev++cap) args) (hk:∀x,eu objs0 (objs1 x)=true) (hn0:mF n0 objs0=true) (mg:gr (XS objs0 n0).kK (XS objs0 n0).kE objs0)
  (jl:∀x,gr (XS (objs1 x) n0).kK (XS (objs1 x) n0).kE (objs1 x)) (hr:∀x,(r x).ids (XS (objs1 x) n0).kK (XS (objs1 x) n0).kE=true) (hd:bk δ.n dst=true)
  (hK:∀x,p x→aa .plain P g ops rest Q ((δ.cq objs0 (objs1 x)).au dst (r x))):
  aa .plain P g ops (⟨dst,.call {callee:=.value y,args:=xs.toArray,argTypes:=tys},ty,pos,af,none⟩::rest) Q δ:=
 pH dg (fun _ _=>trivial) hf hy e8 l9 eE b9 hk hn0 mg jl (fun x κ a w' C v hR hE oo=>by
  obtain⟨hp,u,he,hu⟩:=hE
  cases he
  exact hK x hp _ _ _ (hR.au (aU hd) (oo (r x) hu (hr x)))) (fun _ C w' ch hE=>by obtain⟨_,u,he,_⟩:=hE;cases he) (fun _ C w' hE=>by obtain⟨_,u,he,_⟩:=hE;cases he)
end Go.Ab
/- Pools of numbers. -/
namespace Go.Ab
open Go Go.RowKit
variable {q:Md} {P:Program} {g:ar} {δ:DS} {κ:Kp} {a:Act} {w:World}
variable {ops:Array Oper} {rest:List Oper} {Q:Exit→DS→Prop} {dst:Option Nat} {ty:TypeId} {pos:String} {af:Array Edge} {gd:Option (Tmp×Bool)}
abbrev vI (x:Int):Value:=.int .i64 x
def aB {α:Type} (f:Nat→α) (k:Nat) (v:α):Nat→α:=fun j=>if j=k then v else f j
theorem ab {α:Type} (f:Nat→α) (k:Nat) (v:α):aB f k v k=v:=by simp [aB]
theorem aO {α:Type} (f:Nat→α) {k j:Nat} (v:α) (h:j≠k):aB f k v j=f j:=by simp [aB,h]
theorem oP {α:Type} (f:Nat→α) (k:Nat):aB f k (f k)=f:=by funext j;unfold aB;split<;>simp_all
theorem dB {α:Type} (f:Nat→α) (k:Nat) (v u:α):aB (aB f k v) k u=aB f k u:=by funext j;unfold aB;split<;>rfl
def ew (hs:Nat→Value) (ls:Nat→List Int):eL:=fun k=>(hs k,(ls k).map vI)
theorem kf (hs:Nat→Value) (ls:Nat→List Int) (k:Nat) (h:Value) (xs:List Int) {ys:List Value} (hy:ys=xs.map vI):hU (ew hs ls) k (h,ys)=ew (aB hs k h) (aB ls k xs):=by
 subst hy
 funext j
 unfold hU ew aB
 split<;>rfl
theorem nN (hs:Nat→Value) (ls:Nat→List Int) (k:Nat) (xs:List Int) {ys:List Value} (hy:ys=xs.map vI):hU (ew hs ls) k (hs k,ys)=ew hs (aB ls k xs):=by
 rw[kf hs ls k _ xs hy,oP]
section
variable {i k:Nat} {e:TypeId} {hs:Nat→Value} {ls:Nat→List Int}
theorem aa.ig (i:Nat) {x:Operand} {t e':TypeId} (ho:δ.ob i=some (.pool e (ew hs ls))) (hx:δ.ev x=.pv (.lit (hs k))) (ht:P.underlying t=some (.slice e')) (fa:aK x=true) (hd:bk δ.n dst=true)
  (hK:aa q P g ops rest Q (δ.au dst (aw ((ls k).length:Nat)))):aa q P g ops (⟨dst,.call {callee:=.builtin .len,args:= #[x],argTypes:= #[t]},ty,pos,af,none⟩::rest) Q δ:=
 aa.BO i k ho rfl hx ht fa hd (by rw[List.length_map];exact hK)
theorem aa.tj (i:Nat) {x:Operand} {t e':TypeId} {m:Nat} (ho:δ.ob i=some (.pool e (ew hs ls))) (hx:δ.ev x=.pv (.lit (eR m (hs k)))) (ht:P.underlying t=some (.slice e')) (fa:aK x=true) (hd:bk δ.n dst=true)
  (hK:aa q P g ops rest Q (δ.au dst (aw ((ls k).length - m:Nat)))):aa q P g ops (⟨dst,.call {callee:=.builtin .len,args:= #[x],argTypes:= #[t]},ty,pos,af,none⟩::rest) Q δ:=
 aa.q6 i k m ho rfl hx ht fa hd (by rw[List.length_map];exact hK)
theorem aa.aA (i:Nat) {x y:Operand} {t e':TypeId} {m:Int} (ho:δ.ob i=some (.pool e (ew hs ls))) (hx:δ.ev x=.pv (.lit (hs k))) (hy:δ.ev y=aw m) (ht:P.underlying t=some (.slice e')) (hs1:(P.info? e').map (·.size)=some 1) (fa:aK x=true) (e8:aK y=true) (hd:bk δ.n dst=true)
  (h0:0≤m) (hn:m.toNat<(ls k).length) (hK:aa q P g ops rest Q (δ.au dst (.pv (.lit (gP m.toNat (hs k)))))):aa q P g ops (⟨dst,.indexAddr t x y,ty,pos,af,none⟩::rest) Q δ:=
 aa.w8 i k ho rfl hx (n:=m.toNat) (by rw[Int.toNat_of_nonneg h0];exact hy) (by rw[List.length_map];exact hn) ht hs1 fa e8 hd hK
theorem aa.qu (i:Nat) {x y:Operand} {t e':TypeId} {m:Int} {m0:Nat} (ho:δ.ob i=some (.pool e (ew hs ls))) (hx:δ.ev x=.pv (.lit (eR m0 (hs k)))) (hy:δ.ev y=aw m) (ht:P.underlying t=some (.slice e')) (hs1:(P.info? e').map (·.size)=some 1) (fa:aK x=true) (e8:aK y=true) (hd:bk δ.n dst=true)
  (h0:0≤m) (hn:m0+m.toNat<(ls k).length) (hK:aa q P g ops rest Q (δ.au dst (.pv (.lit (gP (m0+m.toNat) (hs k)))))):aa q P g ops (⟨dst,.indexAddr t x y,ty,pos,af,none⟩::rest) Q δ:=
 aa.n8 i k m0 ho rfl hx (n:=m.toNat) (by rw[Int.toNat_of_nonneg h0];exact hy) (by rw[List.length_map];exact hn) ht hs1 fa e8 hd hK
theorem aa.ax (i:Nat) {x:Operand} {t:TypeId} {n:Nat} (ho:δ.ob i=some (.pool e (ew hs ls))) (hx:δ.ev x=.pv (.lit (gP n (hs k)))) (ht:eb P t=true) (fa:aK x=true) (hd:bk δ.n dst=true) (hq:q≠ .held)
  (hn:n<(ls k).length) (hK:aa q P g ops rest Q (δ.au dst (aw (ls k)[n]))):aa q P g ops (⟨dst,.load t x,ty,pos,af,none⟩::rest) Q δ:=
 aa.zM i k ho rfl hx (u:=vI (ls k)[n]) (by rw[List.getElem?_map,List.getElem?_eq_getElem hn];rfl) ht fa hd hq hK
theorem aa.eU (i:Nat) {x y:Operand} {t:TypeId} {n:Nat} {v:Int} (ho:δ.ob i=some (.pool e (ew hs ls))) (hx:δ.ev x=.pv (.lit (gP n (hs k)))) (hy:δ.ev y=aw v) (ht:(P.info? t).map (·.size)=some 1) (fa:aK x=true) (e8:aK y=true) (hd:bk δ.n dst=true)
  (hn:n<(ls k).length) (hK:aa .plain P g ops rest Q ((δ.bx i (some (.pool e (ew hs (aB ls k ((ls k).set n v)))))).au dst .any)):aa .plain P g ops (⟨dst,.store t x y,ty,pos,af,none⟩::rest) Q δ:=
 aa.lJ i k ho rfl hx (by rw[List.length_map];exact hn) hy rfl ht fa e8 hd (by rw[nN hs ls k ((ls k).set n v) (by rw[List.map_set])];exact hK)
theorem aa.nK (i:Nat) {t e':TypeId} {x y:Operand} {m:Int} (ho:δ.ob i=some (.pool e (ew hs ls))) (hx:δ.ev x=.pv (.lit (hs k))) (hy:δ.ev y=aw m) (ht:P.underlying t=some (.slice e')) (hs1:(P.info? e').map (·.size)=some 1) (fa:aK x=true) (e8:aK y=true) (hd:bk δ.n dst=true)
  (h0:0≤m) (hm:m.toNat≤(ls k).length) (hK:aa q P g ops rest Q (δ.au dst (.pv (.lit (c_ m.toNat (hs k)))))):aa q P g ops (⟨dst,.slice t x none (some y) none,ty,pos,af,none⟩::rest) Q δ:=
 aa.wC i k m.toNat ho rfl hx (by rw[Int.toNat_of_nonneg h0];exact hy) (by rw[List.length_map];exact hm) ht hs1 fa e8 hd hK
theorem aa.qk (i:Nat) {t e':TypeId} {x y:Operand} {m:Int} (ho:δ.ob i=some (.pool e (ew hs ls))) (hx:δ.ev x=.pv (.lit (hs k))) (hy:δ.ev y=aw m) (ht:P.underlying t=some (.slice e')) (hs1:(P.info? e').map (·.size)=some 1) (fa:aK x=true) (e8:aK y=true) (hd:bk δ.n dst=true)
  (h0:0≤m) (hm:m.toNat≤(ls k).length) (hK:aa q P g ops rest Q (δ.au dst (.pv (.lit (eR m.toNat (hs k)))))):aa q P g ops (⟨dst,.slice t x (some y) none none,ty,pos,af,none⟩::rest) Q δ:=
 aa.zU i k m.toNat ho rfl hx (by rw[Int.toNat_of_nonneg h0];exact hy) (by rw[List.length_map];exact hm) ht hs1 fa e8 hd hK
theorem aa.xo (i:Nat) {x:Operand} {t e':TypeId} {m:Nat} (ho:δ.ob i=some (.pool e (ew hs ls))) (hx:δ.ev x=.pv (.lit (c_ m (hs k)))) (ht:P.underlying t=some (.slice e')) (fa:aK x=true) (hd:bk δ.n dst=true) (hm:m≤(ls k).length)
  (hK:aa q P g ops rest Q (δ.au dst (aw (m:Nat)))):aa q P g ops (⟨dst,.call {callee:=.builtin .len,args:= #[x],argTypes:= #[t]},ty,pos,af,none⟩::rest) Q δ:=
 aa.dq _ hd (fun κ a w r=>by
  have h0:=cb r ho k
  unfold ew at h0
  simp only[List.length_map] at h0
  have hv:a.eval x=c_ m (hs k):=r.lit hx fa
  rcases h0.2 with ⟨h1,h2⟩|⟨b,cap,cur,h1,_⟩
  ·rw[h1] at hv
   exact⟨_,fun w' _=>run_len_slice ht x a.eval none _ 0 hv w',.pv (.lit _)⟩
  ·rw[h1] at hv
   exact⟨_,fun w' _=>run_len_slice ht x a.eval _ _ cap hv w',.pv (.lit _)⟩) hK
theorem aa.sL (i:Nat) {x y:Operand} {t e':TypeId} {m:Int} {m0:Nat} (ho:δ.ob i=some (.pool e (ew hs ls))) (hx:δ.ev x=.pv (.lit (c_ m0 (hs k)))) (hy:δ.ev y=aw m) (ht:P.underlying t=some (.slice e')) (hs1:(P.info? e').map (·.size)=some 1) (fa:aK x=true) (e8:aK y=true) (hd:bk δ.n dst=true)
  (h0:0≤m) (hn:m.toNat<m0) (hm0:m0≤(ls k).length) (hK:aa q P g ops rest Q (δ.au dst (.pv (.lit (gP m.toNat (hs k)))))):aa q P g ops (⟨dst,.indexAddr t x y,ty,pos,af,none⟩::rest) Q δ:=
 aa.dq _ hd (fun κ a w r=>by
  have h00:=cb r ho k
  unfold ew at h00
  simp only[List.length_map] at h00
  have hv:a.eval x=c_ m0 (hs k):=r.lit hx fa
  rcases h00.2 with ⟨h1,h2⟩|⟨b,cap,cur,h1,_⟩
  ·exfalso;omega
  ·rw[h1] at hv ⊢
   refine⟨_,fun w' _=>?_,.pv (.lit _)⟩
   have:=cH (dst:=dst) (ty:=ty) (pos:=pos) (af:=af) ht hs1 hv (n:=m.toNat) (by rw[Int.toNat_of_nonneg h0];exact r.lit hy e8) hn w'
   rw[Nat.mul_one] at this
   exact this) hK
theorem aa.wz (i:Nat) {s x:Operand} {t:TypeId} {bytes:Nat} {z:Value} {us:List Int} {els:List (List PV)} (ho:δ.ob i=some (.pool e (ew hs ls))) (Aq:δ.ev s=.pv (.lit (hs k))) (hx:kP δ x 1 els) (he:els=us.map fun u=>[.lit (vI u)]) (ht:P.underlying t=some (.slice e)) (hi:(P.info? e).map (fun i=>(i.size,i.zero,i.bytes))=some (1,some z,bytes)) (hz1:z.oneCell'=true) (l9:aK s=true) (fa:aK x=true) (hd:bk δ.n dst=true)
  (Bs:Nat.ble bytes 64=true) (hl:(ls k).length+us.length≤1000000000) (hK:∀v',v'.oneCell'=true→aa .plain P g ops rest Q ((δ.bx i (some (.pool e (ew (aB hs k v') (aB ls k (ls k++us)))))).au dst (.pv (.lit v')))):aa .plain P g ops (⟨dst,.call {callee:=.builtin .append,args:= #[s,x],argTypes:= #[t,t]},ty,pos,af,none⟩::rest) Q δ:=by
 have h64:bytes≤64:=by simpa using Bs
 refine aa.ub i k ho rfl Aq (us:=us.map vI) (.src hx (by rw[he,List.map_map];rfl)) ht hi hz1 l9 fa hd ?_ (by simp only[List.length_map];omega) fun v'=>?_
 ·simp only[List.length_map]
  have:((ls k).length+us.length)*bytes≤1000000000*64:=Nat.mul_le_mul hl h64
  omega
 ·rw[kf hs ls k v' (ls k++us) (by rw[List.map_append])]
  intro κ a w r
  refine hK v' ?_ κ a w r
  have h0:=cb r (i:=i) (rows:=ew (aB hs k v') (aB ls k (ls k++us))) (e:=e) (by cases dst<;>exact(du _ _ _ _).trans (if_pos rfl)) k
  unfold ew at h0
  simp only[ab] at h0
  rcases h0.2 with ⟨h1,_⟩|⟨b,cap,cur,h1,_⟩<;>rw[h1]<;>rfl
theorem aa.ga (i:Nat) {s x:Operand} {t:TypeId} {bytes:Nat} {z:Value} {u:Int} {els:List (List PV)} (ho:δ.ob i=some (.pool e (ew hs ls))) (Aq:δ.ev s=.pv (.lit (hs k))) (hx:kP δ x 1 els) (he:els=[[.lit (vI u)]]) (ht:P.underlying t=some (.slice e)) (hi:(P.info? e).map (fun i=>(i.size,i.zero,i.bytes))=some (1,some z,bytes)) (hz1:z.oneCell'=true) (l9:aK s=true) (fa:aK x=true) (hd:bk δ.n dst=true)
  (Bs:Nat.ble bytes 64=true) (hl:(ls k).length+1≤1000000000) (hK:∀v',v'.oneCell'=true→aa .plain P g ops rest Q ((δ.bx i (some (.pool e (ew (aB hs k v') (aB ls k (ls k++ [u])))))).au dst (.pv (.lit v')))):aa .plain P g ops (⟨dst,.call {callee:=.builtin .append,args:= #[s,x],argTypes:= #[t,t]},ty,pos,af,none⟩::rest) Q δ:=
 aa.wz i (us:=[u]) ho Aq hx he ht hi hz1 l9 fa hd Bs hl hK
theorem aa.qJ (i m:Nat) {s x:Operand} {t:TypeId} {bytes:Nat} {z:Value} {us:List Int} {els:List (List PV)} (ho:δ.ob i=some (.pool e (ew hs ls))) (Aq:δ.ev s=.pv (.lit (c_ m (hs k)))) (hx:kP δ x 1 els) (he:els=us.map fun u=>[.lit (vI u)]) (ht:P.underlying t=some (.slice e)) (hi:(P.info? e).map (fun i=>(i.size,i.zero,i.bytes))=some (1,some z,bytes)) (l9:aK s=true) (fa:aK x=true) (hd:bk δ.n dst=true)
  (eV:m+us.length≤(ls k).length) (br:ls k≠ []) (hK:aa .plain P g ops rest Q ((δ.bx i (some (.pool e (ew hs (aB ls k ((ls k).take m++us++(ls k).drop (m+us.length))))))).au dst (.pv (.lit (c_ (m+us.length) (hs k)))))):aa .plain P g ops (⟨dst,.call {callee:=.builtin .append,args:= #[s,x],argTypes:= #[t,t]},ty,pos,af,none⟩::rest) Q δ:=
 aa.kh i k m ho rfl Aq (us:=us.map vI) (.src hx (by rw[he,List.map_map];rfl)) (by simp only[List.length_map];exact eV) (by simpa using br) ht hi l9 fa hd (by
  rw[nN hs ls k ((ls k).take m++us++(ls k).drop (m+us.length)) (by simp [List.map_take,List.map_drop]),List.length_map];exact hK)
theorem aa.dv (i:Nat) {m:Nat} {s x:Operand} {t:TypeId} {bytes:Nat} {z:Value} {u:Int} {els:List (List PV)} (ho:δ.ob i=some (.pool e (ew hs ls))) (Aq:δ.ev s=.pv (.lit (c_ m (hs k)))) (hx:kP δ x 1 els) (he:els=[[.lit (vI u)]]) (ht:P.underlying t=some (.slice e)) (hi:(P.info? e).map (fun i=>(i.size,i.zero,i.bytes))=some (1,some z,bytes)) (l9:aK s=true) (fa:aK x=true) (hd:bk δ.n dst=true)
  (eV:m+1≤(ls k).length) (hK:aa .plain P g ops rest Q ((δ.bx i (some (.pool e (ew hs (aB ls k ((ls k).set m u)))))).au dst (.pv (.lit (c_ (m+1) (hs k)))))):aa .plain P g ops (⟨dst,.call {callee:=.builtin .append,args:= #[s,x],argTypes:= #[t,t]},ty,pos,af,none⟩::rest) Q δ:=
 aa.qJ i m (us:=[u]) ho Aq hx he ht hi l9 fa hd eV (by intro h;rw[h] at eV;simp at eV) (by
  have e1:(ls k).take m++ [u]++(ls k).drop (m+ [u].length)=(ls k).set m u:=by
   rw[List.set_eq_take_append_cons_drop,if_pos (by omega)];simp
  rw[e1];exact hK)
theorem aa.jK (i m m':Nat) {s x:Operand} {t:TypeId} {bytes:Nat} {z:Value} (ho:δ.ob i=some (.pool e (ew hs ls))) (Aq:δ.ev s=.pv (.lit (c_ m (hs k)))) (hx:δ.ev x=.pv (.lit (eR m' (hs k)))) (ht:P.underlying t=some (.slice e)) (hi:(P.info? e).map (fun i=>(i.size,i.zero,i.bytes))=some (1,some z,bytes)) (l9:aK s=true) (fa:aK x=true) (hd:bk δ.n dst=true)
  (eV:m≤m') (hm':m'≤(ls k).length) (br:ls k≠ []) (hK:aa .plain P g ops rest Q ((δ.bx i (some (.pool e (ew hs (aB ls k ((ls k).take m++(ls k).drop m'++(ls k).drop (m+((ls k).length - m')))))))).au dst (.pv (.lit (c_ (m+((ls k).length - m')) (hs k)))))):aa .plain P g ops (⟨dst,.call {callee:=.builtin .append,args:= #[s,x],argTypes:= #[t,t]},ty,pos,af,none⟩::rest) Q δ:=
 aa.kh i k m ho rfl Aq (us:=((ls k).map vI).drop m') (.tail ho rfl (by simp only[List.length_map];exact hm') hx (by simpa using br)) (by simp only[List.length_map,List.length_drop];omega) (by simpa using br) ht hi l9 fa hd (by
  have e1:(((ls k).map vI).drop m').length=(ls k).length - m':=by simp
  rw[e1,nN hs ls k ((ls k).take m++(ls k).drop m'++(ls k).drop (m+((ls k).length - m'))) (by simp [List.map_take,List.map_drop])];exact hK)
end
def bK (n:Nat) (h:Nat→Value):List (List PV):=(List.range n).map fun j=>[.lit (h j)]
theorem ff (n:Nat) (h:Nat→Value):(bK n h).length=n:=by simp [bK]
theorem Cc {n k:Nat} (h:Nat→Value) (hk:k<n):(bK n h)[k]? =some [.lit (h k)]:=by simp [bK,hk]
theorem bg {n k:Nat} (h:Nat→Value) (hk:k<n) (v:Value):(bK n h).set k [.lit v]=bK n (aB h k v):=by
 apply List.ext_getElem (by simp [bK])
 intro j h1 h2
 have hj:j<n:=by simpa [bK] using h1
 rw[List.getElem_set]
 simp only[bK,List.getElem_map,List.getElem_range]
 by_cases e:k=j
 ·subst e;rw[if_pos rfl,ab]
 ·rw[if_neg e,aO _ _ (Ne.symm e)]
theorem aL (n:Nat) (h:Nat→Value):bK n h++ [[.lit (h n)]]=bK (n+1) h:=by
 simp only[bK,List.range_succ,List.map_append,List.map_cons,List.map_nil]
theorem aa.ff {x:Operand} {t e e':TypeId} {i n:Nat} {h:Nat→Value} (hx:δ.ev x=.own i e' 1 (bK n h)) (ht:P.underlying t=some (.slice e)) (ho:aK x=true) (hd:bk δ.n dst=true)
  (hK:aa q P g ops rest Q (δ.au dst (aw (n:Nat)))):aa q P g ops (⟨dst,.call {callee:=.builtin .len,args:= #[x],argTypes:= #[t]},ty,pos,af,none⟩::rest) Q δ:=
 aa.ya hx ht ho hd (by rw[Go.Ab.ff];exact hK)
theorem aa.vC {x y:Operand} {t e e':TypeId} {i n:Nat} {m:Int} {h:Nat→Value} (hx:δ.ev x=.own i e' 1 (bK n h)) (hy:δ.ev y=aw m) (ht:P.underlying t=some (.slice e)) (hk:(P.info? e).map (·.size)=some 1) (ho:aK x=true) (ho':aK y=true) (hd:bk δ.n dst=true) (h0:0≤m) (hn:m.toNat<n)
  (hK:aa q P g ops rest Q (δ.au dst (.optr i e' 1 (bK n h) m.toNat))):aa q P g ops (⟨dst,.indexAddr t x y,ty,pos,af,none⟩::rest) Q δ:=
 aa.kF (n:=m.toNat) hx (by rw[Int.toNat_of_nonneg h0];exact hy) (by rw[Go.Ab.ff];exact hn) ht hk ho ho' hd hK
theorem aa.dE {x:Operand} {t e:TypeId} {i n m:Nat} {h:Nat→Value} (hx:δ.ev x=.optr i e 1 (bK n h) m) (ht:eb P t=true) (ho:aK x=true) (hd:bk δ.n dst=true) (hq:q≠ .held) (hn:m<n)
  (hK:aa q P g ops rest Q (δ.au dst (.pv (.lit (h m))))):aa q P g ops (⟨dst,.load t x,ty,pos,af,none⟩::rest) Q δ:=
 aa.x4 hq hx (Cc h hn) ht ho hd hK
theorem AW.q_ {c:Code} (i j k t:Nat) {e:TypeId} {hs:Nat→Value} {ls:Nat→List Int} {us:List Int} {els:List (List PV)} (ho:δ.ob i=some (.pool e (ew hs ls))) (hj:δ.ob j=some .row) (ht:δ.get t=.own j e 1 els) (he:els=us.map fun u=>[.lit (vI u)]) (hk:hs k=.slice none 0 0)
  (hK:∀v,v.oneCell'=true→AW P g c Q (((δ.cj (AV.kill j)).bx i (some (.pool e (ew (aB hs k v) (aB ls k us))))).put t (.pv (.lit v)))):AW P g c Q δ:=
 AW.lS i j k t (us:=us.map vI) ho hj ht (by rw[he,List.map_map];rfl) hk fun v=>by
  rw[kf hs ls k v us rfl]
  intro κ a w r
  refine hK v ?_ κ a w r
  have h0:=cb r (i:=i) (rows:=ew (aB hs k v) (aB ls k us)) (e:=e) (by show((δ.cj (AV.kill j)).bx i _).ob i=_;rw[du,if_pos rfl]) k
  unfold ew at h0
  simp only[ab] at h0
  rcases h0.2 with ⟨h1,_⟩|⟨b,cap,cur,h1,_⟩<;>rw[h1]<;>rfl
theorem AW.lK {c:Code} (i k m:Nat) {e:TypeId} {hs:Nat→Value} {ls:Nat→List Int} (ho:δ.ob i=some (.pool e (ew hs ls))) (hm:m≤(ls k).length) (hK:AW P g c Q (δ.bx i (some (.pool e (ew (aB hs k (c_ m (hs k))) (aB ls k ((ls k).take m))))))):AW P g c Q δ:=
 AW.uN i k m ho rfl (by rw[List.length_map];exact hm) (by rw[kf hs ls k _ ((ls k).take m) (by rw[List.map_take])];exact hK)
theorem AW.sI {c:Code} (e:TypeId) (hK:AW P g c Q (δ.ba (.pool e (ew (fun _=> .slice none 0 0) fun _=>[])))):AW P g c Q δ:=AW.pF e hK
theorem AW.nQ (id i k m:Nat) {b:Bool} {l:Array Oper} {e:TypeId} {hs:Nat→Value} {ls:Nat→List Int} (ho:δ.ob i=some (.pool e (ew hs ls))) (hm:m≤(ls k).length) (hK:AW P g (.region id l b) Q (δ.bx i (some (.pool e (ew (aB hs k (c_ m (hs k))) (aB ls k ((ls k).take m))))))):AW P g (.region id l b) Q δ:=
 AW.lK i k m ho hm hK
theorem uD (r:Rel g δ κ a w) {i:Nat} {e:TypeId} {hs:Nat→Value} {ls:Nat→List Int} (ho:δ.ob i=some (.pool e (ew hs ls))) (k m:Nat):(hs k).oneCell'=true∧(c_ m (hs k)).oneCell'=true:=by
 have h0:=cb r ho k
 unfold ew at h0
 simp only at h0
 rcases h0.2 with ⟨h1,_⟩|⟨b,cap,cur,h1,_⟩<;>rw[h1]<;>exact⟨rfl,rfl⟩
theorem AW.tf {c:Code} (i:Nat) {e:TypeId} {hs:Nat→Value} {ls:Nat→List Int} (ho:δ.ob i=some (.pool e (ew hs ls))) (hK:(∀k,(hs k).oneCell'=true)→(∀k m,(c_ m (hs k)).oneCell'=true)→AW P g c Q δ):AW P g c Q δ:=fun κ a w r=>
 hK (fun k=>(uD r ho k 0).1) (fun k m=>(uD r ho k m).2) κ a w r
theorem WV.ai {δ δ':DS} {u v:Value} (h:u=v):WV δ δ' (.pv (.lit u)) (.pv (.lit v)):=.eq (by rw[h]) rfl
namespace Nf
variable {i n j:Nat} {c:List PV}
theorem KT:AV.gq i n c .any=.any:=rfl
theorem Me (p:PV):AV.gq i n c (.pv p)=.pv p:=rfl
theorem Jn (a b:Nat):AV.gq i n c (.ptr a b)=.ptr a b:=rfl
theorem Hl (d:List PV):AV.gq i n c (.rptr d)=.rptr d:=rfl
theorem GP (a:Nat):AV.gq i n c (.mapr a)=.mapr a:=rfl
theorem K2 (a:Nat):AV.gq i n c (.yld a)=.yld a:=rfl
theorem I7 (e els):AV.gq i n c (.own j e 1 els)=bif Nat.beq i j then .own j e 1 (els.set n c) else .own j e 1 els:=rfl
theorem Hg (e els):AV.gq i n c (.own j e 3 els)=bif Nat.beq i j then .any else .own j e 3 els:=rfl
theorem He (e k els m):AV.gq i n c (.optr j e k els m)=bif Nat.beq i j then .any else .optr j e k els m:=rfl
theorem KX (cs:List AV):AV.gq i n c (.agg cs)=.agg (fq (AV.gq i n c) cs):=by
 show AV.agg (AV.xd (lG i n c) cs)=_
 rw[AV.dC]
 congr 1
 induction cs with
 |nil=>rfl
 |cons a r ih=>rw[List.map_cons,ih];rfl
theorem K4 (cs:List AV):AV.gq i n c (.tup cs)=.tup (fq (AV.gq i n c) cs):=by
 show AV.tup (AV.xd (lG i n c) cs)=_
 rw[AV.dC]
 congr 1
 induction cs with
 |nil=>rfl
 |cons a r ih=>rw[List.map_cons,ih];rfl
set_option linter.defProp false in
def cG:=And.intro @KT (And.intro @Me (And.intro @Jn (And.intro @Hl (And.intro @GP (And.intro @K2 (And.intro @I7 (And.intro @Hg (And.intro @He (And.intro @KX @K4)))))))))
end Nf
end Go.Ab
/- An index into an own row of any form. -/
namespace Go.Ab
open Go Go.RowKit
variable {q:Md} {P:Program} {g:ar} {δ:DS} {ops:Array Oper} {rest:List Oper} {Q:Exit→DS→Prop} {dst:Option Nat} {ty:TypeId} {pos:String} {af:Array Edge}
theorem aa.oW {x y:Operand} {t e e':TypeId} {i k:Nat} {m:Int} {els:List (List PV)} (hx:δ.ev x=.own i e' k els) (hy:δ.ev y=aw m)
  (ht:P.underlying t=some (.slice e)) (hk:(P.info? e).map (·.size)=some k) (ho:aK x=true) (ho':aK y=true) (hd:bk δ.n dst=true) (h0:0≤m) (hn:m.toNat<els.length)
  (hK:aa q P g ops rest Q (δ.au dst (.optr i e' k els m.toNat))):aa q P g ops (⟨dst,.indexAddr t x y,ty,pos,af,none⟩::rest) Q δ:=
 aa.kF (n:=m.toNat) hx (by rw[hy];show aw m=aw _;rw[Int.toNat_of_nonneg h0]) hn ht hk ho ho' hd hK
end Go.Ab
/- Pools of numbers:a row forgotten;a row appended to a row of the walk's own. -/
namespace Go.Ab
open Go Go.RowKit
variable {q:Md} {P:Program} {g:ar} {δ:DS} {κ:Kp} {a:Act} {w:World} {Q:Exit→DS→Prop}
variable {ops:Array Oper} {rest:List Oper} {dst:Option Nat} {ty:TypeId} {pos:String} {af:Array Edge} {gd:Option (Tmp×Bool)}
theorem AW.CF {c:Code} (i k:Nat) {e:TypeId} {hs:Nat→Value} {ls:Nat→List Int} (ho:δ.ob i=some (.pool e (ew hs ls))) (hK:AW P g c Q (δ.bx i (some (.pool e (ew (aB hs k (.slice none 0 0)) (aB ls k [])))))):AW P g c Q δ:=fun κ a w r=>by
 obtain⟨κ',r',_⟩:=r.iG ho (k:=k) (w':=w) ⟨rfl,rfl,rfl,Nat.le_refl _,fun _ _ _=>rfl⟩ (v':=.slice none 0 0) (ys:=[]) ⟨by simp,.inl ⟨rfl,by simp⟩⟩ (by simp) (fun u hu=>by simp at hu) (fun b hb=>by cases hb)
 rw[kf hs ls k _ [] (ys:=[]) rfl] at r'
 exact hK κ' a w r'
theorem B1 (r:Rel g δ κ a w) {i k:Nat} {e:TypeId} {hs:Nat→Value} {ls:Nat→List Int} (ho:δ.ob i=some (.pool e (ew hs ls))) {x:Operand} (hx:δ.ev x=.pv (.lit (hs k))) (fa:aK x=true):Src (δ.cx g κ) w (a.eval x) 1 ((ls k).map fun u=>[.lit (vI u)]):=by
 have h0:=cb r ho k
 have hl:=((r.obj i _ ho).2.1 k).2.1
 unfold ew at h0 hl
 simp only[List.length_map] at h0 hl
 have hv:a.eval x=hs k:=r.lit hx fa
 refine⟨by simpa using hl,fun c hc=>by obtain⟨u,_,rfl⟩:=List.mem_map.1 hc;rfl,?_⟩
 rw[List.length_map]
 rcases h0.2 with ⟨h1,h2⟩|⟨b,cap,cur,h1,_,h3,hle,_,jU,n4⟩
 ·exact⟨none,0,by rw[hv,h1,h2],fun br=>absurd (by rw[List.eq_nil_of_length_eq_zero h2];rfl) br⟩
 ·refine⟨_,_,by rw[hv,h1],fun br=>⟨b,0,fun i _=>vI ((ls k).getD i 0),rfl,fun i j p hp=>?_⟩⟩
  rw[Nat.mul_one] at n4
  obtain⟨hi,hj⟩:i<(ls k).length∧j=0∧True:=by
   unfold cellAt at hp
   simp only[List.getElem?_map] at hp
   cases hq:(ls k)[i]? with
   |none=>rw[hq] at hp;simp at hp
   |some u=>
    refine⟨(List.getElem?_eq_some_iff.1 hq).1,?_,trivial⟩
    rw[hq] at hp
    cases j with
    |zero=>rfl
    |succ j=>simp at hp
  obtain⟨rfl,_⟩:=hj
  have hp2:p=.lit (vI (ls k)[i]):=by
   unfold cellAt at hp
   simp only[List.getElem?_map,List.getElem?_eq_getElem hi] at hp
   simpa using hp.symm
  subst hp2
  have hg:(ls k).getD i 0=(ls k)[i]:=by simp [List.getD_eq_getElem?_getD,hi]
  refine⟨?_,rfl,?_⟩
  ·rw[cell_of h3,← Array.getElem?_toList]
   show cur.toList[0+i*1+0]? =some (vI ((ls k).getD i 0))
   rw[hg,show 0+i*1+0=i by omega]
   have:=congrArg (·[i]?) n4
   simp only[List.getElem?_take,if_pos hi,List.getElem?_map,List.getElem?_eq_getElem hi] at this
   simpa using this
  ·show RP _ _ (vI ((ls k).getD i 0)) _
   rw[hg];exact .lit _
theorem aa.tH (i0:Nat) {s x:Operand} {t e e0:TypeId} {i bytes k:Nat} {z:Value} {els:List (List PV)} {hs:Nat→Value} {ls:Nat→List Int} (ho0:δ.ob i0=some (.pool e0 (ew hs ls))) (Aq:δ.ev s=.own i e 1 els) (hx:δ.ev x=.pv (.lit (hs k))) (hr:δ.ob i=some .row) (ht:P.underlying t=some (.slice e))
  (hi:(P.info? e).map (fun i=>(i.size,i.zero,i.bytes))=some (1,some z,bytes)) (Bs:Nat.ble bytes 64=true) (fD:Nat.beq z.cells.size 1=true) (ho:aK s=true) (ho':aK x=true) (hd:bk δ.n dst=true)
  (hl:els.length+(ls k).length≤1000000000000) (hK:aa .plain P g ops rest Q ((δ.cj (AV.kill i)).au dst (.own i e 1 (els++(ls k).map fun u=>[.lit (vI u)])))):
  aa .plain P g ops (⟨dst,.call {callee:=.builtin .append,args:= #[s,x],argTypes:= #[t,t]},ty,pos,af,none⟩::rest) Q δ:=
 aa.mI rfl rfl (fun κ a w r=>by
  obtain⟨v',w',κ',h1,h2,h3⟩:=kb (ty:=ty) r hr (r.ra Aq ho).dM (B1 r ho0 hx ho') ht hi (Nat.eq_of_beq_eq_true fD) (by simp) (rC Bs (by rw[List.length_map];exact hl)) (by rw[List.length_map];omega)
  exact .inl ⟨_,_,_,_,iE h1,.inl rfl,h2.au (aU hd) (.own h3)⟩) hK
theorem aa.yP (i:Nat) {x y:Operand} {t e e' t':TypeId} {k:Nat} {hs:Nat→Value} {ls:Nat→List Int} (ho:δ.ob i=some (.pool e' (ew hs ls))) (hx:δ.ev x=.pv (.lit (hs k))) (hy:δ.ev y=.pv (.lit (.slice none 0 0))) (ht:P.underlying t=some (.slice e)) (fa:aK x=true) (e8:aK y=true) (hd:bk δ.n dst=true) (br:0<(ls k).length)
  (hK:aa q P g ops rest Q (δ.au dst (aM false))):aa q P g ops (⟨dst,.binOp .eql t x y t',ty,pos,af,none⟩::rest) Q δ:=
 aa.dq _ hd (fun κ a w r=>by
  have h0:=cb r ho k
  unfold ew at h0
  simp only[List.length_map] at h0
  have hv:a.eval x=hs k:=r.lit hx fa
  have h2:=r.lit hy e8
  rcases h0.2 with ⟨_,h3⟩|⟨b,cap,cur,h1,_⟩
  ·exfalso;omega
  ·refine⟨.bool false,fun w' _=>?_,.pv (.lit _)⟩
   have:=lH ht x y (some ⟨b,0,none⟩) (ls k).length cap w'
   rw[h1] at hv
   simp only[execOp,hv,h2]
   simp only[Sem.run_bind,this,Result.andThen_ok] at*
   first|rfl|simp [this]) hK
end Go.Ab
/- A row of the walk's own with elements is not nil. -/
namespace Go.Ab
open Go Go.RowKit
variable {q:Md} {P:Program} {g:ar} {δ:DS} {κ:Kp} {a:Act} {w:World} {Q:Exit→DS→Prop}
variable {ops:Array Oper} {rest:List Oper} {dst:Option Nat} {ty:TypeId} {pos:String} {af:Array Edge} {gd:Option (Tmp×Bool)}
theorem aa.zD {x y:Operand} {t e e' t':TypeId} {i k:Nat} {els:List (List PV)} (hx:δ.ev x=.own i e' k els) (hy:δ.ev y=.pv (.lit (.slice none 0 0))) (ht:P.underlying t=some (.slice e)) (fa:aK x=true) (e8:aK y=true) (hd:bk δ.n dst=true) (br:0<els.length)
  (hK:aa q P g ops rest Q (δ.au dst (aM false))):aa q P g ops (⟨dst,.binOp .eql t x y t',ty,pos,af,none⟩::rest) Q δ:=
 aa.dq _ hd (fun κ a w r=>by
  obtain⟨xs,⟨_,b8⟩,_⟩:=(r.ra hx fa).dM.row
  have h2:=r.lit hy e8
  rcases b8 with ⟨_,h3⟩|⟨b,cap,cur,h1,_⟩
  ·exfalso;omega
  ·refine⟨.bool false,fun w' _=>?_,.pv (.lit _)⟩
   have:=lH ht x y (some ⟨b,0,none⟩) els.length cap w'
   simp only[execOp,h1,h2]
   simp only[Sem.run_bind,this,Result.andThen_ok] at*
   first|rfl|simp [this]) hK
end Go.Ab
/- Contracts of functions that panic;an own panic. -/
namespace Go.Ab
open Go Go.RowKit
variable {q:Md} {P:Program} {g:ar} {δ:DS} {κ:Kp} {a:Act} {w:World}
variable {ops:Array Oper} {rest:List Oper} {Q:Exit→DS→Prop} {dst:Option Nat} {ty:TypeId} {pos:String} {af:Array Edge}
theorem Eh (dg:g.wt=none) (qy:g.base=[]) {fn:Func} {ch:List PanicEntry} {R:Ending→World→Prop}:∀{a:Act} {w:World},Rel g δ κ a w→
  (∀w2,Rel g δ κ {a with defers:=[]} w2→R (.panicked ch) w2)→LeavesInM Fence.wide 0 P fn a.tmps R a.defers (.panicking ch) w:=by
 intro a w r hR
 obtain⟨ms,h1,h2,h3⟩:=r.dfr
 rw[qy,List.append_nil] at h1
 rw[h1]
 induction ms generalizing a w with
 |nil=>
  have ra:Rel g δ κ {a with defers:=[]} w:={r with dfr:=⟨[],by rw[qy];rfl,h2,h3⟩,mkf:=fun d hd=>by cases hd}
  exact hR w ra
 |cons m ms ih=>
  refine⟨by simp,.inl ⟨m,_,rfl,run_takeDeferred (h3 m (by simp)).2,?_⟩⟩
  have hm:=h3 m (by simp)
  rw[List.cons_append] at h2
  have dt:=List.nodup_cons.1 h2
  have n3:∀k∈ms++g.mks,g.B≤k∧(w.putObj m (.deferred none)).heap[k]? =some (.deferred (some [])):=fun k hk=>
   ⟨(h3 k (by simp only[List.cons_append,List.mem_cons];exact .inr hk)).1,by rw[World.putObj_heap_other (by intro e;subst e;exact dt.1 hk)];exact(h3 k (by simp only[List.cons_append,List.mem_cons];exact .inr hk)).2⟩
  have hd:zf g {a with defers:=ms.map fun r=>({target:=.collected r,args:= #[]}:Deferred)} (w.putObj m (.deferred none)):=⟨ms,by rw[qy,List.append_nil],dt.2,n3⟩
  have r2:=r.shut dg hm.1 hm.2 (a':={a with defers:=ms.map fun r=>({target:=.collected r,args:= #[]}:Deferred)}) rfl (fun d hd=>by rw[h1];exact List.mem_map.2 (let ⟨x,hx,e⟩:=List.mem_map.1 hd;⟨x,by simp [hx],e⟩)) (r.mkf {target:=.collected m,args:= #[]} (by rw[h1];exact List.mem_map.2 ⟨m,by simp,rfl⟩) m rfl) hd
  exact ih (a:={a with defers:=ms.map fun r=>({target:=.collected r,args:= #[]}:Deferred)}) r2 (fun w2 r3=>hR w2 r3) rfl dt.2 n3
theorem Oa.enter {T:World→Prop} {t:TypeId} {f:FuncId} {fn:Func} {c:Code} {n n0:Nat} {objs0 objs1:List (Nat×Option Ob)} {args:List AV} (hf:P.funcs[f]? =some fn) (hb:fn.body=some c) (hn:fn.ntmps=n) (uE:Nat.ble args.length n=true)
  (ka:Nat.ble n HS=true) (he:(fn.name== "runtime.NumGoroutine")=false) (nm:mm objs0 objs0=true) (hn1:mF n0 objs1=true)
  (h:∀g:ar,g.ro=none→g.wt=none→TB T g→AW P g c (FW t objs0 objs1) ⟨n,enum 0 args++ [(1000,.agg (bS objs0))],objs0,n0⟩):Oa T P t f n0 objs0 args objs1:=by
 refine lX.enter (Q:=FW t objs0 objs1) hf hb hn uE ka he nm (fun _=>hn1) h fun g e δ' κ' a' w' R dg qy hq r' hR=>?_
 cases e with
 |panic ch=>
  obtain⟨h1,h2,h3,h4⟩:=hq
  exact Eh (g:=g) dg qy r' fun w2 r2=>hR () h2 h3 h4 _ _ r2 ⟨ch,rfl,h1⟩
 |_=>exact hq.elim
theorem WV.uJ {δ δ':DS} {cs ds:List AV} (h:vW δ δ' cs ds):WV δ δ' (.agg cs) (.agg ds):=by
 have key:∀{cs ds:List AV},vW δ δ' cs ds→cs.length=ds.length∧∀(j:Nat) (c d:AV),cs[j]? =some c→ds[j]? =some d→WV δ δ' c d:=by
  intro cs
  induction cs with
  |nil=>
   intro ds h
   cases ds with
   |nil=>exact⟨rfl,fun j c d h1=>by simp at h1⟩
   |cons d ds=>exact h.elim
  |cons c cs ih=>
   intro ds h
   cases ds with
   |nil=>exact h.elim
   |cons d ds=>
    obtain⟨h1,h2⟩:=h
    obtain⟨h3,h4⟩:=ih h2
    refine⟨by simp [h3],fun j c' d' h5 h6=>?_⟩
    cases j with
    |zero=>simp at h5 h6;subst h5;subst h6;exact h1
    |succ j=>exact h4 j c' d' (by simpa using h5) (by simpa using h6)
 exact .agg (key h).1 (key h).2
variable {k:Wt} {late:List Nat} {l:List Oper} {dn:List Nat} {QD:Exit→DS→Prop}
end Go.Ab
/- A strings.Builder's own steps:a variable told by its very cells and its type,pointers through unsafe.Pointer,pointers held against nil and themselves;String. -/
namespace Go.Ab
open Go Go.RowKit
variable {q:Md} {P:Program} {g:ar} {δ:DS} {κ:Kp} {a:Act} {w:World}
variable {ops:Array Oper} {rest:List Oper} {Q:Exit→DS→Prop} {dst:Option Nat} {ty:TypeId} {pos:String} {af:Array Edge} {gd:Option (Tmp×Bool)}
theorem AW.uO {c:Code} (h:AW P g c Q (δ.ba .row)):AW P g c Q δ:=fun κ a w r=>by
 obtain⟨r1,_⟩:=r.uO
 exact h _ _ _ r1
theorem aa.uO {l:List Oper} (h:aa .plain P g ops l Q (δ.ba .row)):aa .plain P g ops l Q δ:=fun κ a w r=>by
 obtain⟨r1,_⟩:=r.uO
 exact h _ _ _ r1
theorem D5 (op:BinOp) (t:TypeId) (x y:Operand) (u v:Option Addr) (w:World):(eqGuard op t x y (.pointer u) (.pointer v)).run P w=.ok () w:=by
 unfold eqGuard
 cases op<;>simp [Sem.run,pure,Sem.bind,bind]
theorem pW {tp te:TypeId} (u:Option Addr) (hp:P.underlying tp=some (.pointer te)) (LK:(P.info? te).isSome=true) (w:World):(Go.binOp .eql tp (.pointer u) (.pointer none)).run P w=.ok (.bool u.isNone) w:=by
 obtain⟨j,hj⟩:=Option.isSome_iff_exists.1 LK
 have h:∀d:Nat,(Op.equalIn (d+1) tp (.pointer u) (.pointer none)).run P w=.ok u.isNone w:=fun d=>by
  cases u<;>simp [Op.equalIn,run_underlying hp,sizeOf,typeInfo,hj]
 simp only[Go.binOp]
 simp [Op.equal,Op.maxDepth,h 9999]
theorem aa.Kl {x y:Operand} {t te t':TypeId} {i off:Nat} (hx:δ.ev x=.ptr i off) (hy:δ.ev y=.pv (.lit (.pointer none))) (hp:P.underlying t=some (.pointer te)) (LK:(P.info? te).isSome=true) (ho:aK x=true) (ho':aK y=true) (hd:bk δ.n dst=true)
  (hK:aa q P g ops rest Q (δ.au dst (aM false))):aa q P g ops (⟨dst,.binOp .eql t x y t',ty,pos,af,none⟩::rest) Q δ:=
 aa.dq _ hd (fun κ a w r=>⟨.bool false,fun w' _=>by
  have h1:=r.ra hx ho
  have h2:=r.lit hy ho'
  generalize hv:a.eval x=v at h1
  cases h1 with
  | @ptr _ _ b hl hκ=>
   have:=pW (P:=P) (some ⟨b,off,none⟩) hp LK w'
   simp only[execOp,hv,h2,Sem.run_bind,D5,Result.andThen_ok,this]
   rfl,.pv (.lit _)⟩) hK
inductive By:List Value→List AV→Prop
 |nil:By [] []
 |cons {v:Value} {vs:List Value} {l:List AV} (h:By vs l):By (v::vs) (.pv (.lit v)::l)
theorem By.eq {vs:List Value} {l:List AV} (h:By vs l):vs.map (fun u=> .pv (.lit u))=l:=by
 induction h with
 |nil=>rfl
 |cons h ih=>rw[List.map_cons,ih]
end Go.Ab
/- strings.Builder's String over objects. -/
set_option maxHeartbeats 1000000
set_option maxRecDepth 100000
namespace Go.Ab
open Go Go.RowKit Go.Proofs Go.Shelf
variable {P:Program} {ρ:Ren}
end Go.Ab
/- A function that defers a closure over two of its variables,which recovers. -/
namespace Go.Ab
open Go Go.RowKit
variable {P:Program} {g:ar} {δ:DS} {κ:Kp} {a:Act} {w:World} {Q:Exit→DS→Prop}
def OW (P:Program) (g:ar) (c:Code) (R:Exit→Act→World→Prop) (δ:DS):Prop:=∀κ a w,Rel g δ κ a w→c.wpIn (Fw g.ro) 0 P R a w
theorem OW.of {c:Code} {R:Exit→Act→World→Prop} (h:AW P g c Q δ) (hR:∀e a w,lift g Q e a w→R e a w):OW P g c R δ:=fun κ a w r=>wpIn_mono (h κ a w r) hR
def LD (P:Program) (g:ar) (c:Code) (R:Exit→Act→World→Prop) (δ:DS):Prop:=∀κ a w,a.defers=[]→Rel g δ κ a w→c.wpIn (Fw g.ro) 0 P R a w
def H9 (P:Program) (g:ar) (ops:Array Oper) (l:List Oper) (c:Code) (R:Exit→Act→World→Prop) (δ:DS):Prop:=∀κ a w,a.defers=[]→Rel g δ κ a w→wpListIn (Fw g.ro) 0 P ops (Exit.then (c.wpIn (Fw g.ro) 0 P R) R) l a w
theorem LD.region {id:Nat} {l:List Oper} {c:Code} {R:Exit→Act→World→Prop} (h:H9 P g l.toArray l c R δ):LD P g (.seq (.region id l.toArray false) c) R δ:=
 fun κ a w ha r=>wpIn_seq (wpIn_region_lit (h κ a w ha r))
theorem H9.nil {ops:Array Oper} {c:Code} {R:Exit→Act→World→Prop} (h:LD P g c R δ):H9 P g ops [] c R δ:=fun κ a w ha r=>by
 unfold wpListIn
 exact h κ a w ha r
theorem H9.mI {ops:Array Oper} {o:Oper} {rest:List Oper} {c:Code} {R:Exit→Act→World→Prop} {δ':DS} (hg:o.guard=none) (dt:dI o=true) (h:c9 P g o δ δ') (hc:∀(a:Act) (w:World) f vals,(execOp a.eval o).run P w≠ .ok (.enter f vals) w) (hK:H9 P g ops rest c R δ'):H9 P g ops (o::rest) c R δ:=by
 intro κ a w ha r
 refine cr hg dt fun K hK'=>?_
 unfold Oper.uT
 rcases h κ a w r with ⟨x,v,w',κ',aR,hx,r'⟩|⟨f,vals,aR,_⟩
 ·rw[aR]
  rcases hx with rfl|⟨rfl,rfl⟩
  ·simp only[Oper.uponIn]
   exact hK' _ _ (hK κ' _ _ (by cases o.dst<;>exact ha) r')
  ·simp only[Oper.uponIn]
   exact hK' _ _ (hK κ' _ _ (by cases o.dst<;>exact ha) r')
 ·exact absurd aR (hc _ _ _ _)
theorem wh (dg:g.wt=none) {fn:Func} {u:FrameMode} (hu:u≠ .run) {R:Ending→World→Prop}:∀{a:Act} {w:World},Rel g δ κ a w→
  (∀w2,Rel g δ κ {a with defers:=g.base} w2→LeavesInM Fence.wide 0 P fn a.tmps R g.base u w2)→LeavesInM Fence.wide 0 P fn a.tmps R a.defers u w:=by
 intro a w r hR
 obtain⟨ms,h1,h2,h3⟩:=r.dfr
 rw[h1]
 induction ms generalizing a w with
 |nil=>
  have ra:Rel g δ κ {a with defers:=g.base} w:={r with dfr:=⟨[],rfl,h2,h3⟩,mkf:=fun d hd=>r.mkf d (by rw[h1];exact hd)}
  exact hR w ra
 |cons m ms ih=>
  refine⟨hu,.inl ⟨m,_,rfl,run_takeDeferred (h3 m (by simp)).2,?_⟩⟩
  have hm:=h3 m (by simp)
  rw[List.cons_append] at h2
  have dt:=List.nodup_cons.1 h2
  have n3:∀k∈ms++g.mks,g.B≤k∧(w.putObj m (.deferred none)).heap[k]? =some (.deferred (some [])):=fun k hk=>
   ⟨(h3 k (by simp only[List.cons_append,List.mem_cons];exact .inr hk)).1,by rw[World.putObj_heap_other (by intro e;subst e;exact dt.1 hk)];exact(h3 k (by simp only[List.cons_append,List.mem_cons];exact .inr hk)).2⟩
  have hd:zf g {a with defers:=(ms.map fun r=>({target:=.collected r,args:= #[]}:Deferred))++g.base} (w.putObj m (.deferred none)):=⟨ms,rfl,dt.2,n3⟩
  have r2:=r.shut dg hm.1 hm.2 (a':={a with defers:=(ms.map fun r=>({target:=.collected r,args:= #[]}:Deferred))++g.base}) rfl (fun d hd=>by rw[h1,List.map_cons,List.cons_append];exact List.mem_cons_of_mem _ hd) (r.mkf {target:=.collected m,args:= #[]} (by rw[h1];simp) m rfl) hd
  exact ih (a:={a with defers:=(ms.map fun r=>({target:=.collected r,args:= #[]}:Deferred))++g.base}) r2 (fun w2 r3=>hR w2 r3) rfl dt.2 n3
end Go.Ab
/- Functions of four results whose outcome is told by a relation. -/
namespace Go.Ab
open Go Go.RowKit
variable {P:Program} {g:ar} {δ:DS} {κ:Kp} {a:Act} {w:World}
inductive vd (P:Program) (δ:DS):List ResultVar→AV→Prop
 |four {r1 r2 r3 r4:ResultVar} {v1 v2 v3 v4:AV} (h1:iP P δ r1 v1) (h2:iP P δ r2 v2) (h3:iP P δ r3 v3) (h4:iP P δ r4 v4):vd P δ [r1,r2,r3,r4] (.tup [v1,v2,v3,v4])
theorem Ey {C:Cx} {w:World} {u1 u2 u3 u4:Value} {v1 v2 v3 v4:AV} (h1:RA C w u1 v1) (h2:RA C w u2 v2) (h3:RA C w u3 v3) (h4:RA C w u4 v4):RA C w (.tuple #[u1,u2,u3,u4]) (.tup [v1,v2,v3,v4]):=by
 refine .tup rfl fun j u c k1 k2=>?_
 match j with
 |0=>simp at k1 k2;subst k1;subst k2;exact h1
 |1=>simp at k1 k2;subst k1;subst k2;exact h2
 |2=>simp at k1 k2;subst k1;subst k2;exact h3
 |3=>simp at k1 k2;subst k1;subst k2;exact h4
 |j+4=>simp at k2
theorem vd.run {fn:Func} {rs:List ResultVar} (mE:fn.results=rs.toArray) {v:AV} (h:vd P δ rs v) (r:Rel g δ κ a w):∃u,(results fn a.tmps).run P w=.ok u w∧RA (δ.cx g κ) w u v:=by
 rw[pO (P:=P),mE]
 cases h with
 |four h1 h2 h3 h4=>
  obtain⟨u1,h1,k1⟩:=h1.run r
  obtain⟨u2,h2,k2⟩:=h2.run r
  obtain⟨u3,h3,k3⟩:=h3.run r
  obtain⟨u4,h4,k4⟩:=h4.run r
  exact⟨.tuple #[u1,u2,u3,u4],by simp [Array.mapM_eq_foldlM,h1,h2,h3,h4],Ey k1 k2 k3 k4⟩
theorem Ex (dg:g.wt=none) (qy:g.base=[]) {fn:Func} {rs:List ResultVar} (mE:fn.results=rs.toArray) {v:AV} (h:vd P δ rs v) {R:Ending→World→Prop} {a:Act} {w:World} (r:Rel g δ κ a w)
  (hR:∀w2,Rel g δ κ {a with defers:=[]} w2→∀u,RA (δ.cx g κ) w2 u v→R (.returned u) w2):LeavesInM Fence.wide 0 P fn a.tmps R a.defers .returning w:=by
 refine wh dg (by simp) r fun w2 r2=>?_
 rw[qy]
 rw[qy] at r2
 obtain⟨u,h4,h5⟩:=h.run mE r2
 exact⟨u,h4,hR w2 r2 u h5⟩
def se {α:Type} (P:Program) (rs:List ResultVar) (objs0:List (Nat×Option Ob)) (p:α→Prop) (objs1:α→List (Nat×Option Ob)) (r:α→AV):Exit→DS→Prop
 |.normal,δ|.ret,δ=>∃x,p x∧∃v,vd P δ rs v∧WV δ (XF δ objs0 (objs1 x)) v (r x)∧WV δ (XF δ objs0 (objs1 x)) (δ.get 1000) (.agg (bS objs0))∧iU δ (XF δ objs0 (objs1 x)) (objs1 x)∧mF δ.nx (objs1 x)=true
 |_,_=>False
theorem vQ {α:Type} {rs:List ResultVar} {objs0:List (Nat×Option Ob)} {p:α→Prop} {objs1:α→List (Nat×Option Ob)} {r:α→AV} {v:AV} (x:α) (hp:p x) (h:vd P δ rs v) (hw:vW δ (XF δ objs0 (objs1 x)) [v,δ.get 1000] [r x,.agg (bS objs0)]) (ho:iU δ (XF δ objs0 (objs1 x)) (objs1 x)) (hx:mF δ.nx (objs1 x)=true):se P rs objs0 p objs1 r .ret δ:=⟨x,hp,v,h,hw.1,hw.2.1,ho,hx⟩
theorem nf.HL {α:Type} {f:FuncId} {fn:Func} {c:Code} {rs:List ResultVar} {n n0:Nat} {objs0:List (Nat×Option Ob)} {args:List AV} {p:α→Prop} {objs1:α→List (Nat×Option Ob)} {r:α→AV} (hf:P.funcs[f]? =some fn) (hb:fn.body=some c) (mE:fn.results=rs.toArray) (hn:fn.ntmps=n) (uE:Nat.ble args.length n=true)
  (ka:Nat.ble n HS=true) (he:(fn.name== "runtime.NumGoroutine")=false) (nm:mm objs0 objs0=true) (hn1:∀x,mF n0 (objs1 x)=true)
  (h:∀g:ar,g.ro=none→g.wt=none→AW P g c (se P rs objs0 p objs1 r) ⟨n,enum 0 args++ [(1000,.agg (bS objs0))],objs0,n0⟩):nf P f n0 objs0 args p objs1 r:=by
 refine lX.enter (Q:=se P rs objs0 p objs1 r) hf hb hn uE ka he nm hn1 (fun g h1 h2 _=>h g h1 h2) fun g e δ' κ' a' w' R dg qy hq r' hR=>?_
 have fin:(∃x,p x∧∃v,vd P δ' rs v∧WV δ' (XF δ' objs0 (objs1 x)) v (r x)∧WV δ' (XF δ' objs0 (objs1 x)) (δ'.get 1000) (.agg (bS objs0))∧iU δ' (XF δ' objs0 (objs1 x)) (objs1 x)∧mF δ'.nx (objs1 x)=true)→
   LeavesInM Fence.wide 0 P fn a'.tmps R a'.defers .returning w':=fun⟨x,MI,v,h1,hv,hp,ho,hx⟩=>
  Ex (g:=g) dg qy mE h1 r' fun w2 r2 u hu=>hR x hp ho hx _ _ r2 ⟨MI,u,rfl,hu.wv (δ:=δ') (δ':=XF δ' objs0 (objs1 x)) r2.fv r2.obj hv⟩
 cases e with
 |normal=>exact fin hq
 |ret=>exact fin hq
 |_=>exact hq.elim
end Go.Ab
