/- A callee that takes one value out of a row of one-cell values in place: Go's slices.Delete. -/
import Derived.Test.YtigjjjpcjnifhaaGreatAbL3
import Derived.Lib.AppendStr
import Derived.Test.YtigjjjpcjnifhaaGreatAbL2
import Derived.LoopNIn
import Derived.WalkSmall
import Derived.Shelf.Strings.Builder1
import Derived.RecoverIn
import Derived.Laws.CopyRow
import Derived.Laws.IdiomCopy
set_option linter.unusedSimpArgs false
set_option linter.unusedVariables false
open Array renaming getElem?_modify→cA,getElem?_eq_some_iff→aO,getElem?_toList→bC,getElem?_eq_getElem→aN
open List renaming ext_getElem→cN,getElem?_append_left→aT,length_take→cO,getElem?_take→bE,getElem?_append_right→aV,getElem?_drop→bF,take_of_length_le→cJ,append_nil→bt,getElem?_eq_none→cH,getElem?_eq_getElem→a8,mem_append→bX,mem_of_mem_take→cQ,mem_of_mem_drop→bL,mem_of_getElem?→aU,getElem?_eq_some_iff→aW,map_append→cR,map_take→cS,map_drop→cT,length_set→cM,eq_nil_of_length_eq_zero→bk,length_map→a6,getElem?_of_mem→bA,length_drop→cV,length_append→bW,map_toArray→bp,map_cons→bB,map_nil→b8,take_append_of_le_length→cW,getElem?_map→a7,map_map→cB,range→bc,mem_map→bx,cons_append→bu,nodup_cons→cX,mem_cons→bw,getElem_mem→cY
open Nat renaming min_eq_left→cP,mul_one→cK,zero_add→ba,add_zero→bd,lt_of_lt_of_le→aK,le_trans→aQ,le_refl→aP,ble→bz,beq→aL,eq_of_beq_eq_true→aM,blt→aY
open Option renaming map_none→cU,map_some→br
open Int renaming toNat_of_nonneg→b9
open Bool renaming and_eq_true→aZ
namespace Go.Ab
open Go Go.RowKit
variable {P:Program} {g:eZ} {δ:DS} {κ:Kp} {a:Act} {w:World}
structure Tk (P:Program) (f:FuncId) (z:Value):Prop where
 enters:∀vals w,(callFunc f vals).run P w=.ok (.enter f vals) w
 calls:∀(b cap i:Nat) (us:List Value) (w:World),Sort.Holds (fun u:Value=>u) w b 0 us.toArray→(∀u∈us,u.oneCell'=true)→us.length≤cap→cap≤maxLen→i<us.length→
  Calls P f #[.slice (some ⟨b,0,none⟩) us.length cap,.int .i64 i,.int .i64 (i+1)] w fun e w'=>e=.returned (.slice (some ⟨b,0,none⟩) (us.length - 1) cap)∧
   ∃n,w'=Sort.putRow (fun u:Value=>u) (Sort.ahead w n) b 0 (us.take i++us.drop (i+1)++ [z]).toArray
theorem A8 {w:World} {b n:Nat} {c:Array Value} {e:TypeId} {d:Array Value} (h:w.heap[b]? =some (.cells c e (0,0))):
  (Sort.putRow (fun u:Value=>u) (Sort.ahead w n) b 0 d).heap[b]? =some (.cells (Sort.putCells (fun u:Value=>u) 0 d c) e (0,0)):=by
 unfold Sort.putRow Sort.mapBlock Sort.ahead
 simp only
 rw[cA,if_pos rfl,h]
 rfl
theorem zN (w:World) (b n:Nat) (d:Array Value):iL w (Sort.putRow (fun u:Value=>u) (Sort.ahead w n) b 0 d) (some b):=
 ⟨rfl,rfl,rfl,by simp [Sort.putRow,Sort.mapBlock,Sort.ahead],fun k hk gn=>by
  unfold Sort.putRow Sort.mapBlock Sort.ahead
  simp only
  rw[cA,if_neg (fun e=>gn (by rw[e]))]⟩
theorem yF {c:Array Value} {d:List Value} {m:Nat} (hc:d.length≤c.size) (hm:m≤d.length):(Sort.putCells (fun u:Value=>u) 0 d.toArray c).toList.take m=d.take m:=by
 apply cN
 ·simp [Sort.putCells];omega
 ·intro j h1 h2
  have hj:j<d.length:=by simp at h2;omega
  simp [Sort.putCells,hj]
theorem Az {α:Type} {l:List α} {i j:Nat}:(l.take i++l.drop (i+1))[j]? =if j<i then l[j]? else l[j+1]?:=by
 by_cases h:i≤l.length
 ·by_cases hj:j<i
  ·rw[if_pos hj,aT (by rw[cO];omega),bE,if_pos hj]
  ·rw[if_neg hj,aV (by rw[cO];omega),cO,cP h,bF]
   congr 1;omega
 ·have h1:l.take i=l:=cJ (by omega)
  have h2:l.drop (i+1)=[]:=List.drop_eq_nil_of_le (by omega)
  rw[h1,h2,bt]
  by_cases hj:j<i
  ·rw[if_pos hj]
  ·rw[if_neg hj,cH aJ,cH aJ]
variable {ops:Array Oper} {rest:List Oper} {Q:Exit→DS→Prop} {dst:Option Nat} {ty:TypeId} {pos:String} {af:Array Edge} {gd:Option (Tmp×Bool)}
theorem iV.Sw {f:FuncId} {zv:Value} {x y z:Operand} {tys:Array TypeId} (hf:Tk P f zv) {r i:Nat} {e:TypeId} {fa:List (List PV)} {m:Int} (hx:δ.ev x=.own r e 1 fa) (hy:δ.ev y=eU (i:Nat)) (hz:δ.ev z=eU m) (hr:δ.ob r=some .row)
  (ho:fj x=true) (ga:fj y=true) (o_:fj z=true) (hd:fT δ.n dst=true) (hm:m=(i:Int)+1) (hi:i<fa.length):
  iV P g ⟨dst,.call {callee:=.value (.func f),args:= #[x,y,z],argTypes:=tys},ty,pos,af,none⟩ δ ((δ.gU (AV.kill r)).eW dst (.own r e 1 (fa.take i++fa.drop (i+1)))):=by
 subst hm
 intro κ a w rl
 right
 have zY:=(rl.ra hx ho).jv
 have yN:a.eval y=.int .i64 (i:Nat):=rl.lit hy ga
 have To:a.eval z=.int .i64 ((i:Int)+1):=rl.lit hz o_
 have fF:=jt (dst:=dst) (ty:=ty) (pos:=pos) (af:=af) (xs:= #[x,y,z]) (tys:=tys) (ρ:=a.eval) (x:=.func f) (f:=f) rfl hf.enters w
 have nk:fa.length≤140737488355328:=zY.lim
 refine⟨f, #[a.eval x,a.eval y,a.eval z],by simpa using fF,?_⟩
 obtain⟨xs,⟨hl,gR⟩,qp,mj⟩:=zY.row
 rw[cK] at hl
 rcases gR with ⟨_,h0⟩|⟨b,cap,c,hv,hB,hb,oX,oC,pI,tA⟩
 ·exfalso;omega
 ·have hκ:κ r=some b:=zY.x8 b (by rw[hv];rfl)
  rw[hv,yN,To]
  have V1:b<w.heap.size:=(aO.1 hb).1
  rw[cK] at pI tA
  have hold:Sort.Holds (fun u:Value=>u) w b 0 xs.toArray:=by
   intro j hj
   have oB:j<xs.length:=by simpa using hj
   refine⟨?_,by rw[ba];exact py hb _⟩
   rw[ba,cell_of hb]
   have h1:(c.toList.take fa.length)[j]? =xs[j]?:=by rw[tA]
   rw[bE,if_pos aJ,bC,a8 oB] at h1
   rw[h1]
   simp [oB]
  rw[← hl]
  refine(hf.calls b cap i xs w hold qp aJ oC aJ).mono fun e' w' ⟨he,n,jf⟩=>?_
  obtain⟨d,wR⟩:∃d,d=xs.take i++xs.drop (i+1):=⟨_,rfl⟩
  have C9:d.length=xs.length - 1:=by rw[wR];simp;omega
  rw[← wR] at jf
  have hh:w'.heap[b]? =some (.cells (Sort.putCells (fun u:Value=>u) 0 (d++ [zv]).toArray c) e (0,0)):=by rw[jf];exact A8 hb
  have nQ:(Sort.putCells (fun u:Value=>u) 0 (d++ [zv]).toArray c).size=c.size:=by simp [Sort.putCells]
  have KP:=yF (c:=c) (d:=d++ [zv]) (m:=d.length) (by simp;omega) (by simp)
  rw[List.take_left] at KP
  obtain⟨rk,G⟩:=rl.row hr (κ':=κ) (w':=w') (fun _ _=>rfl) (by rw[hκ,jf];exact zN _ _ _ _) (fun b' jn=>by
   obtain rfl:b=b':=Option.some.inj (hκ.symm.trans jn)
   exact⟨.inl hκ,(aO.1 hh).1,_,_,hh⟩) (AV.kill r) rfl (fun G v av h=>h.kill G)
  have JL:(fa.take i++fa.drop (i+1)).length=d.length:=by rw[C9];simp;omega
  refine⟨_,κ,he,rk.eW (ft hd) (.own ⟨?_,by omega,fun c hc=>?_,fun b' jn=>?_,d,⟨by rw[cK];exact JL.symm,.inr ⟨b,cap,_,?_,hB,hh,?_,oC,?_,?_⟩⟩,fun u hu=>?_,fun i' j p hp=>?_⟩)⟩
  ·show(δ.gU (AV.kill r)).ob r=some .row
   rw[kR,hr];rfl
  ·rcases bX.1 hc with hc|hc
   ·exact zY.hk c (cQ hc)
   ·exact zY.hk c (bL hc)
  ·cases jn;exact hκ
  ·rw[JL,C9]
  ·rw[JL];omega
  ·rw[nQ,cK];exact pI
  ·rw[JL,cK];exact KP
  ·rw[wR] at hu
   rcases bX.1 hu with hu|hu
   ·exact qp u (cQ hu)
   ·exact qp u (bL hu)
  ·have mZ:cellAt fa (if i'<i then i' else i'+1) j=some p:=by
    unfold cellAt at hp ⊢
    rw[Az] at hp
    split at hp
    ·rename_i h;rw[if_pos h];exact hp
    ·rename_i h;rw[if_neg h];exact hp
   obtain⟨u,hu,Qr⟩:=mj _ j p mZ
   have hj:j=0:=by
    unfold cellAt at mZ
    rw[Option.bind_eq_some_iff] at mZ
    obtain⟨c,FB,S_⟩:=mZ
    have:=zY.hk c (aU FB)
    have:=(aW.1 S_).1
    omega
   subst hj
   refine⟨u,?_,G.rp (C:=(δ.cx g κ).less r) Qr⟩
   rw[cK,bd] at hu ⊢
   rw[wR,Az]
   split at hu
   ·rename_i h;rw[if_pos h];exact hu
   ·rename_i h;rw[if_neg h];exact hu
theorem a_.Sw {f:FuncId} {zv:Value} {x y z:Operand} {tys:Array TypeId} (hf:Tk P f zv) {α:Type} {h:α→List PV} {l:List α} {r i:Nat} {e:TypeId} {m:Int} (hx:δ.ev x=.own r e 1 (l.map h)) (hy:δ.ev y=eU (i:Nat)) (hz:δ.ev z=eU m) (hr:δ.ob r=some .row)
  (ho:fj x=true) (ga:fj y=true) (o_:fj z=true) (hd:fT δ.n dst=true) (hm:m=(i:Int)+1) (hi:i<l.length) (hK:a_ .plain P g ops rest Q ((δ.gU (AV.kill r)).eW dst (.own r e 1 ((l.eraseIdx i).map h)))):
  a_ .plain P g ops (⟨dst,.call {callee:=.value (.func f),args:= #[x,y,z],argTypes:=tys},ty,pos,af,none⟩::rest) Q δ:=
 a_.s6 rfl rfl (iV.Sw hf hx hy hz hr ho ga o_ hd hm (by simpa using hi)) (by
  have e1:(l.map h).take i++(l.map h).drop (i+1)=(l.eraseIdx i).map h:=by rw[List.eraseIdx_eq_take_drop_succ,cR,cS,cT]
  rw[e1];exact hK)
end Go.Ab
/- Eight values laid out. -/
namespace Go.Ab
open Go Go.RowKit
variable {q:Md} {P:Program} {g:eZ} {δ:DS} {κ:Kp} {a:Act} {w:World}
variable {ops:Array Oper} {rest:List Oper} {Q:Exit→DS→Prop} {dst:Option Nat} {ty:TypeId} {pos:String} {af:Array Edge}
end Go.Ab
/- Values of interface type,type switches;a string appended to a row of bytes. -/
namespace Go.Ab
open Go Go.RowKit
variable {q:Md} {P:Program} {g:eZ} {δ:DS} {κ:Kp} {a:Act} {w:World}
variable {ops:Array Oper} {rest:List Oper} {Q:Exit→DS→Prop} {dst:Option Nat} {ty:TypeId} {pos:String} {af:Array Edge}
section ints
variable {x y:Operand} {t t':TypeId} {m n:Int} {k:IntKind} (hx:δ.ev x=.pv (.lit (.int k m))) (hy:δ.ev y=.pv (.lit (.int k n))) (ho:fj x=true) (ga:fj y=true) (hd:fT δ.n dst=true)
include hx hy ho ga hd
end ints
end Go.Ab
/- The last bit of a number turned;objects renumbered ahead of a region. -/
namespace Go.Ab
open Go Go.RowKit
variable {P:Program} {g:eZ} {δ:DS} {q:Md}
variable {ops:Array Oper} {rest:List Oper} {Q:Exit→DS→Prop} {dst:Option Nat} {ty:TypeId} {pos:String} {af:Array Edge}
end Go.Ab
/- Any number of values of one cell laid out. -/
namespace Go.Ab
open Go Go.RowKit
variable {q:Md} {P:Program} {g:eZ} {δ:DS} {κ:Kp} {a:Act} {w:World}
variable {ops:Array Oper} {rest:List Oper} {Q:Exit→DS→Prop} {dst:Option Nat} {ty:TypeId} {pos:String} {af:Array Edge}
inductive T0 (δ:DS):Nat→List (Nat×Operand)→List PV→Prop
 |nil {i:Nat}:T0 δ i [] []
 |cons {i:Nat} {x:Operand} {p:PV} {ps:List PV} {r:List (Nat×Operand)} (h:δ.ev x=.pv p) (h1:AV.one (.pv p)=true) (ho:fj x=true) (hr:T0 δ (i+1) r ps):T0 δ i ((i,x)::r) (p::ps)
theorem T0.ok {δ:DS} {i:Nat} {parts:List (Nat×Operand)} {ps:List PV} (h:T0 δ i parts ps):parts.all (fun p=>fj p.2)=true:=by
 induction h with
 |nil=>rfl
 |cons h h1 ho hr ih=>simp [ho,ih]
end Go.Ab
/- Pools:rows of one-cell values,reached by slices that are told whole. -/
namespace Go.Ab
open Go Go.RowKit
variable {q:Md} {P:Program} {g:eZ} {δ:DS} {κ:Kp} {a:Act} {w:World}
variable {ops:Array Oper} {rest:List Oper} {Q:Exit→DS→Prop} {dst:Option Nat} {ty:TypeId} {pos:String} {af:Array Edge} {gd:Option (Tmp×Bool)}
abbrev lA:=Nat→Value×List Value
def oF (rows:lA) (k:Nat) (p:Value×List Value):lA:=fun j=>if j=k then p else rows j
def jw (m:Nat):Value→Value
 |.slice a _ c=> .slice a m c
 |v=>v
def n_ (n:Nat):Value→Value
 |.slice (some ⟨b,o,x⟩) _ _=> .pointer (some ⟨b,o+n,x⟩)
 |v=>v
theorem sR {w:World} {B:Nat} {e:TypeId} {v:Value} {n:Nat} {xs:List Value} (h:w.ownsRow B e 1 v n xs) {b:Nat} (hb:v.ownBlock=some b):∃cur,w.heap[b]? =some (.cells cur e (0,0))∧B≤b:=by
 rcases h.2 with ⟨rfl,_⟩|⟨b',cap,cur,rfl,h1,h2,_⟩
 ·cases hb
 ·cases hb;exact⟨cur,h2,h1⟩
theorem DS.LS {δ:DS} {i:Nat} {o o':Ob} (ho:δ.ob i=some o) (j:Nat):(δ.gu i (some o')).live j↔δ.live j:=by
 unfold DS.live
 rw[jW]
 by_cases e:i=j
 ·subst e;simp [ho]
 ·simp [e]
theorem Rel.pc (r:Rel g δ κ a w) {i:Nat} {e:TypeId} {rows:lA} (ho:δ.ob i=some (.fb e rows)) {k:Nat} {w':World} (t:iL w w' (rows k).1.ownBlock) {v':Value} {ys:List Value}
  (gR:w'.ownsRow g.B e 1 v' ys.length ys) (hl:ys.length≤140737488355328) (h1:∀u∈ys,u.oneCell'=true) (tj:∀b,v'.ownBlock=some b→(rows k).1.ownBlock=some b∨w.heap.size≤b):
  ∃κ',Rel g (δ.gu i (some (.fb e (oF rows k (v',ys))))) κ' a w'∧kC (δ.cx g κ) w ((δ.gu i (some (.fb e (oF rows k (v',ys))))).cx g κ') w':=by
 obtain⟨EO,AX,B0⟩:=r.obj i _ ho
 have hi:δ.live i:=⟨_,ho⟩
 have hF:∀kk b,(rows kk).1.ownBlock=some b→κ.F i b:=fun kk b hb=>(AX kk).2.2.1 b hb
 have Xn:∀b,κ.Fs b→b<w.heap.size:=fun b hb=>r.fr.Hh hb
 have fV:=fun j=>DS.LS (o':=.fb e (oF rows k (v',ys))) ho j
 have ox:∀j,(δ.gu i (some (.fb e (oF rows k (v',ys))))).lr j↔δ.lr j:=by
  intro j
  unfold DS.lr
  rw[jW]
  by_cases e':i=j
  ·subst e';rw[if_pos rfl,ho];simp
  ·simp [e']
 have xf:∀j,δ.lb j→(δ.gu i (some (.fb e (oF rows k (v',ys))))).lb j:=by
  rintro j ⟨o,h2,h3⟩
  unfold DS.lb
  rw[jW]
  by_cases e':i=j
  ·subst e';rw[if_pos rfl];exact⟨_,rfl,rfl⟩
  ·rw[if_neg e'];exact⟨o,h2,h3⟩
 have pg:∀b,b<w.heap.size→¬(rows k).1.ownBlock=some b→w'.heap[b]? =w.heap[b]?:=fun b h2 h3=>t.block b h2 h3
 have WT:∀b,b<w.heap.size→¬κ.Fs b→w'.heap[b]? =w.heap[b]?:=fun b h2 h3=>pg b h2 fun h4=>h3 ⟨i,hF k b h4⟩
 have hv'lt:∀b,v'.ownBlock=some b→b<w'.heap.size∧g.B≤b:=fun b hb=>let ⟨_,h2,h3⟩:=sR gR hb;⟨je h2,h3⟩
 let κ':Kp:=⟨κ.f,fun j b=>κ.F j b∨(j=i∧v'.ownBlock=some b)⟩
 have hold:∀j b,κ'.F j b→b<w.heap.size→κ.F j b:=by
  rintro j b (h2|⟨rfl,h2⟩) h3
  ·exact h2
  ·rcases tj b h2 with h4|h4
   ·exact hF k b h4
   ·omega
 have G:kC (δ.cx g κ) w ((δ.gu i (some (.fb e (oF rows k (v',ys))))).cx g κ') w':=
  {B:=rfl,size:=t.size
   N:=fun b h2 h3=>⟨⟨⟨h3.1.1,fun⟨j,hj⟩=>h3.1.2 ⟨j,hold j b hj h2⟩⟩,fun j hj=>h3.2 j ((fV j).1 hj)⟩,WT b h2 h3.1.2⟩
   Lr:=fun j hj=>⟨(ox j).2 hj,rfl,fun b hb=>WT b (r.lo j b (DS.gK hj) hb).2 (r.fr.oh (DS.gK hj) hb)⟩
   Lb:=fun j hj=>⟨xf j hj,rfl⟩}
 refine⟨κ',?_,G⟩
 exact
  {n:=r.n
   dfr:=r.dfr.lJ fun b _ hb=>pg b (je hb) fun h2=>by
    obtain⟨cur,h3,_⟩:=sR (AX k).1 h2
    rw[hb] at h3;cases h3
   env:=fun j=>G.ra (r.env j)
   obj:=fun j x h=>by
    rw[jW] at h
    by_cases e':i=j
    ·subst e'
     rw[if_pos rfl] at h
     cases h
     refine⟨EO,fun kk=>?_,fun k1 k2 b h2 h3=>?_⟩
     ·unfold oF
      by_cases hk:kk=k
      ·rw[if_pos hk];exact⟨gR,hl,fun b hb=> .inr ⟨rfl,hb⟩,h1⟩
      ·rw[if_neg hk]
       exact(AX kk).lJ rfl fun b hb h2 h3=>⟨.inl h2,pg b h3 fun h4=>hk (B0 kk k b hb h4)⟩
     ·unfold oF at h2 h3
      by_cases GN:k1=k
      ·by_cases qh:k2=k
       ·rw[GN,qh]
       ·rw[if_pos GN] at h2
        rw[if_neg qh] at h3
        rcases tj b h2 with h4|h4
        ·exact GN.trans (B0 k k2 b h4 h3)
        ·exact absurd (Xn b ⟨i,hF k2 b h3⟩) (by omega)
      ·by_cases qh:k2=k
       ·rw[if_neg GN] at h2
        rw[if_pos qh] at h3
        rcases tj b h3 with h4|h4
        ·exact(B0 k1 k b h2 h4).trans qh.symm
        ·exact absurd (Xn b ⟨i,hF k1 b h2⟩) (by omega)
       ·rw[if_neg GN] at h2
        rw[if_neg qh] at h3
        exact B0 k1 k2 b h2 h3
    ·rw[if_neg e'] at h
     exact(r.obj j x h).lJ G rfl (fun b hb=>WT b (r.lo j b ⟨x,h⟩ hb).2 (r.fr.oh ⟨x,h⟩ hb)) fun b h2 h3=>⟨.inl h2,pg b h3 fun h4=>e' ((r.fr.2 j b h2).2.2.2.2 i (hF k b h4))⟩
   inj:=fun i' j b h2 h3=>r.inj i' j b ((fV i').1 h2) ((fV j).1 h3)
   lo:=fun j b h2 h3=>by have:=r.lo j b ((fV j).1 h2) h3;exact⟨this.1,aK this.2 t.size⟩
   nx:=fun j h=>r.nx j ((fV j).1 h)
   wt:=fun kk hk=>⟨fun b hb=>⟨((r.wt kk hk).1 b hb).1,(pg b (sG ((r.wt kk hk).1 b hb)) (fun h4=>(r.fr.2 i b (hF k b h4)).1.2 kk hk hb)).trans ((r.wt kk hk).1 b hb).2⟩,fun j b hj uI=>(r.wt kk hk).2 j b ((fV j).1 hj) (uI.imp (ox j).1 id)⟩
   below:=r.tb t (fun b hb=>(r.fr.2 i b (hF k b hb)).1.1)
   hB:=aQ r.hB t.size
   N0:=r.N0
   kZ:=r.kZ
   fr:=by
    refine⟨fun b hb=>?_,fun j b hb=>?_⟩
    ·obtain⟨h2,h3,h4⟩:=r.fr.1 b hb
     refine⟨h2,(WT b (r.fr.Cr hb) fun⟨j,hj⟩=>(r.fr.2 j b hj).2.2.1 hb).trans h3,fun j hj=>h4 j ((fV j).1 hj)⟩
    ·have Vv:κ.F j b∨(j=i∧v'.ownBlock=some b∧w.heap.size≤b):=by
      rcases hb with h2|⟨rfl,h2⟩
      ·exact .inl h2
      ·rcases tj b h2 with h3|h3
       ·exact .inl (hF k b h3)
       ·exact .inr ⟨rfl,h2,h3⟩
     rcases Vv with h2|⟨rfl,h2,h3⟩
     ·obtain⟨h4,h5,h6,h7,h8⟩:=r.fr.2 j b h2
      exact⟨h4,aK h5 t.size,h6,fun j' oB=>h7 j' ((fV j').1 oB),fun j' oB=>h8 j' (hold j' b oB h5)⟩
     ·refine⟨⟨(hv'lt b h2).2,fun kk hk hb=>by have:=sG ((r.wt kk hk).1 b hb);omega⟩,(hv'lt b h2).1,fun h4=>?_,fun j' oB h4=>?_,fun j' oB=>?_⟩
      ·have:=r.fr.Cr h4;omega
      ·have:=r.lo j' b ((fV j').1 oB) h4;omega
      ·rcases oB with h4|⟨rfl,_⟩
       ·have:=Xn b ⟨j',h4⟩;omega
       ·rfl}
theorem ib (r:Rel g δ κ a w) {i:Nat} {e:TypeId} {rows:lA} (ho:δ.ob i=some (.fb e rows)) (k:Nat):w.ownsRow g.B e 1 (rows k).1 (rows k).2.length (rows k).2:=((r.obj i _ ho).2.1 k).1
theorem NC (r:Rel g δ κ a w) {i:Nat} {e:TypeId} {rows:lA} (ho:δ.ob i=some (.fb e rows)) {k b:Nat} (hb:(rows k).1.ownBlock=some b):b<w.heap.size∧∀j,δ.lr j→κ j≠some b:=by
 have hF:=((r.obj i _ ho).2.1 k).2.2.1 b hb
 exact⟨r.fr.Hh ⟨i,hF⟩,fun j hj e=>r.fr.oh (DS.gK hj) e ⟨i,hF⟩⟩
theorem a_.Mn {x:Operand} {t e':TypeId} (i k:Nat) {e:TypeId} {rows:lA} {H:Value} {ys:List Value} (ho:δ.ob i=some (.fb e rows)) (hk:rows k=(H,ys)) (hx:δ.ev x=.pv (.lit H)) (ht:P.underlying t=some (.slice e')) (lL:fj x=true) (hd:fT δ.n dst=true)
  (hK:a_ q P g ops rest Q (δ.eW dst (eU (ys.length:Nat)))):a_ q P g ops (⟨dst,.call {callee:=.builtin .len,args:= #[x],argTypes:= #[t]},ty,pos,af,none⟩::rest) Q δ:=
 a_.jG _ hd (fun κ a w r=>by
  have h0:=ib r ho k
  rw[hk] at h0
  simp only at h0
  have hv:a.eval x=H:=r.lit hx lL
  rcases h0.2 with ⟨h1,h2⟩|⟨b,cap,cur,h1,_⟩
  ·exact⟨_,fun w' _=>run_len_slice ht x a.eval none _ 0 (hv.trans (by rw[h1,h2])) w',.pv (.lit _)⟩
  ·exact⟨_,fun w' _=>run_len_slice ht x a.eval _ _ cap (hv.trans h1) w',.pv (.lit _)⟩) hK
theorem a_.F8 {x y:Operand} {t e':TypeId} (i k:Nat) {n:Nat} {ik:IntKind} {e:TypeId} {rows:lA} {H:Value} {ys:List Value} (ho:δ.ob i=some (.fb e rows)) (hk:rows k=(H,ys)) (hx:δ.ev x=.pv (.lit H)) (hy:δ.ev y=.pv (.lit (.int ik (n:Int)))) (hn:n<ys.length)
  (ht:P.underlying t=some (.slice e')) (hs:(P.info? e').map (·.size)=some 1) (lL:fj x=true) (kS:fj y=true) (hd:fT δ.n dst=true)
  (hK:a_ q P g ops rest Q (δ.eW dst (.pv (.lit (n_ n H))))):a_ q P g ops (⟨dst,.indexAddr t x y,ty,pos,af,none⟩::rest) Q δ:=
 a_.jG _ hd (fun κ a w r=>by
  have h0:=ib r ho k
  rw[hk] at h0
  simp only at h0
  have hv:a.eval x=H:=r.lit hx lL
  rcases h0.2 with ⟨h1,h2⟩|⟨b,cap,cur,h1,_⟩
  ·exfalso;omega
  ·subst h1
   refine⟨_,fun w' _=>?_,.pv (.lit _)⟩
   have:=iR (dst:=dst) (ty:=ty) (pos:=pos) (af:=af) ht hs hv (r.lit hy kS) hn w'
   rw[cK] at this
   exact this) hK
theorem a_.Ja {x:Operand} {t:TypeId} (i k:Nat) {n:Nat} {e:TypeId} {rows:lA} {H u:Value} {ys:List Value} (ho:δ.ob i=some (.fb e rows)) (hk:rows k=(H,ys)) (hx:δ.ev x=.pv (.lit (n_ n H))) (hu:ys[n]? =some u)
  (ht:ju P t=true) (lL:fj x=true) (hd:fT δ.n dst=true) (hq:q≠ .held) (hK:a_ q P g ops rest Q (δ.eW dst (.pv (.lit u)))):a_ q P g ops (⟨dst,.load t x,ty,pos,af,none⟩::rest) Q δ:=
 a_.QP _ hq rfl rfl hd (fun κ a w r=>by
  have h0:=ib r ho k
  have fy:=fun b hb=>NC r ho (k:=k) (b:=b) hb
  rw[hk] at h0 fy
  simp only at h0 fy
  have hv:a.eval x=n_ n H:=r.lit hx lL
  have nG:n<ys.length:=(aW.1 hu).1
  have Zt:=h0
  rcases h0.2 with ⟨h1,h2⟩|⟨b,cap,cur,h1,_⟩
  ·exfalso;omega
  ·subst h1
   have h3:=Zt.cellAt (n*1) (by omega)
   rw[cK] at h3
   have Am:a.eval x=.pointer (some ⟨b,n,none⟩):=hv.trans (by simp [n_])
   obtain⟨h4,h5⟩:=fy b rfl
   exact⟨u,fun w' jf=>lD ht Am ((jf.cell (p:=⟨b,n,none⟩) h4).trans (h3.trans hu)),.pv (.lit _)⟩) hK
theorem iV.tz {x y:Operand} {t:TypeId} (i k:Nat) {n:Nat} {e:TypeId} {rows:lA} {H u:Value} {ys:List Value} (ho:δ.ob i=some (.fb e rows)) (hk:rows k=(H,ys)) (hx:δ.ev x=.pv (.lit (n_ n H))) (hn:n<ys.length) (hy:δ.ev y=.pv (.lit u))
  (hu:u.oneCell'=true) (ht:(P.info? t).map (·.size)=some 1) (lL:fj x=true) (kS:fj y=true) (hd:fT δ.n dst=true):
  iV P g ⟨dst,.store t x y,ty,pos,af,gd⟩ δ ((δ.gu i (some (.fb e (oF rows k (H,ys.set n u))))).eW dst .any):=by
 intro κ a w r
 have h0:=ib r ho k
 have hl:=((r.obj i _ ho).2.1 k).2.1
 have Ar:=((r.obj i _ ho).2.1 k).2.2.2
 rw[hk] at h0 hl Ar
 simp only at h0 hl Ar
 have hv:a.eval x=n_ n H:=r.lit hx lL
 have yN:a.eval y=u:=r.lit hy kS
 rcases h0.2 with ⟨h1,h2⟩|⟨b,cap,cur,h1,hB,h3,hle,Jp,pI,tA⟩
 ·exfalso;omega
 ·subst h1
  have Am:a.eval x=.pointer (some ⟨b,n,none⟩):=hv.trans (by simp [n_])
  have fF:(execOp a.eval ⟨dst,.store t x y,ty,pos,af,gd⟩).run P w=.ok .skip (w.setCell ⟨b,n,none⟩ u):=by
   obtain⟨i0,jM,mW⟩:∃i0,P.info? t=some i0∧i0.size=1:=by
    cases h:P.info? t with
    |none=>rw[h] at ht;simp at ht
    |some i0=>rw[h] at ht;exact⟨i0,rfl,by simpa using ht⟩
   have hc:w.cell? ⟨b,n,none⟩=some (cur[n]'(by omega)):=by rw[cell_of h3,aN aJ]
   have i_:(store ⟨b,n,none⟩ u).run P w=.ok () (w.setCell ⟨b,n,none⟩ u):=by
    rw[run_store P w _ _ _ hu,hc];simp [py h3]
   simp [execOp,Instr.storeAt,Instr.sureAddr,storeVar,Am,yN,nP hu,sizeOf,typeInfo,jM,mW,storeCells,jr,i_]
  have jh:(rows k).1.ownBlock=some b:=by rw[hk];rfl
  obtain⟨κ',r',_⟩:=r.pc ho (k:=k) (w':=w.setCell ⟨b,n,none⟩ u) (by rw[jh];exact iL.setCell w ⟨b,n,none⟩ u) (v':=.slice (some ⟨b,0,none⟩) ys.length cap) (ys:=ys.set n u)
   (by
    rw[cM]
    refine⟨by simp,.inr ⟨b,cap,_,rfl,hB,l4 h3 _,hle,Jp,by simpa using pI,?_⟩⟩
    rw[cK] at tA ⊢
    rw[Array.toList_setIfInBounds,List.take_set,tA])
   (by rw[cM];exact hl)
   (fun v hv=>by
    rcases List.mem_or_eq_of_mem_set hv with hv|rfl
    ·exact Ar v hv
    ·exact hu)
   (fun b' jn=> .inl (by rw[jh];exact jn))
  exact .inl ⟨_,_,_,κ',fF,.inr ⟨rfl,rfl⟩,r'.eW (ft hd) (.any _)⟩
theorem a_.tz {x y:Operand} {t:TypeId} (i k:Nat) {n:Nat} {e:TypeId} {rows:lA} {H u:Value} {ys:List Value} (ho:δ.ob i=some (.fb e rows)) (hk:rows k=(H,ys)) (hx:δ.ev x=.pv (.lit (n_ n H))) (hn:n<ys.length) (hy:δ.ev y=.pv (.lit u))
  (hu:u.oneCell'=true) (ht:(P.info? t).map (·.size)=some 1) (lL:fj x=true) (kS:fj y=true) (hd:fT δ.n dst=true) (hK:a_ .plain P g ops rest Q ((δ.gu i (some (.fb e (oF rows k (H,ys.set n u))))).eW dst .any)):
  a_ .plain P g ops (⟨dst,.store t x y,ty,pos,af,none⟩::rest) Q δ:=a_.s6 rfl rfl (iV.tz i k ho hk hx hn hy hu ht lL kS hd) hK
end Go.Ab
/- Pools:slices of a row,append,rows taken in,a new pool. -/
namespace Go.Ab
open Go Go.RowKit
variable {q:Md} {P:Program} {g:eZ} {δ:DS} {κ:Kp} {a:Act} {w:World}
variable {ops:Array Oper} {rest:List Oper} {Q:Exit→DS→Prop} {dst:Option Nat} {ty:TypeId} {pos:String} {af:Array Edge} {gd:Option (Tmp×Bool)}
def lI (m:Nat):Value→Value
 |.slice (some ⟨b,o,x⟩) n c=> .slice (some (if c=m then ⟨b,o,x⟩ else ⟨b,o+m,x⟩)) (n - m) (c - m)
 |v=>v
theorem a_.Gf {t e':TypeId} {x y:Operand} (i k m:Nat) {e:TypeId} {rows:lA} {H:Value} {ys:List Value} (ho:δ.ob i=some (.fb e rows)) (hk:rows k=(H,ys)) (hx:δ.ev x=.pv (.lit H)) (hy:δ.ev y=eU m) (hm:m≤ys.length) (ht:P.underlying t=some (.slice e')) (hs:(P.info? e').map (·.size)=some 1)
  (lL:fj x=true) (kS:fj y=true) (hd:fT δ.n dst=true) (hK:a_ q P g ops rest Q (δ.eW dst (.pv (.lit (jw m H))))):a_ q P g ops (⟨dst,.slice t x none (some y) none,ty,pos,af,none⟩::rest) Q δ:=
 a_.jG _ hd (fun κ a w r=>by
  obtain⟨i0,jM,og⟩:∃i0,P.info? e'=some i0∧i0.size=1:=by
   cases h:P.info? e' with
   |none=>rw[h] at hs;simp at hs
   |some i0=>rw[h] at hs;exact⟨i0,rfl,by simpa using hs⟩
  have h0:=ib r ho k
  rw[hk] at h0
  simp only at h0
  have hv:a.eval x=H:=r.lit hx lL
  have yN:a.eval y=.int .i64 m:=r.lit hy kS
  obtain⟨a0,cap,hH,hle⟩:∃a0 cap,H=.slice a0 ys.length cap∧ys.length≤cap:=by
   rcases h0.2 with ⟨h1,h2⟩|⟨b,cap,cur,h1,_,_,hle,_⟩
   ·exact⟨none,0,by rw[h1,h2],by omega⟩
   ·exact⟨_,cap,h1,hle⟩
  subst hH
  refine⟨_,fun w' _=>?_,.pv (.lit _)⟩
  have Hi:∀w,(Instr.sliceBounds true ys.length cap none (some (.int .i64 (m:Int))) none).run P w=.ok (0,m,cap) w:=by
   intro w
   have e1:(0:Int)≤(m:Int)∧(m:Int)≤(cap:Int):=by omega
   simp [Instr.sliceBounds,Instr.sliceBound,asIntOf,e1]
   intro h0;exfalso;omega
  simp only[execOp,Instr.sliceAt,Instr.slice,run_underlying ht,hv,yN,Sem.run_bind,Result.andThen_ok,cU,br,Hi,sizeOf,typeInfo,Sem.run_pure,jw]
  cases a0 with
  |none=>simp [jM,og]
  |some ad=>
   simp [jM,og]
   intro _
   cases ad;simp [Addr.add]) hK
theorem a_.Ih {t e':TypeId} {x y:Operand} (i k m:Nat) {e:TypeId} {rows:lA} {H:Value} {ys:List Value} (ho:δ.ob i=some (.fb e rows)) (hk:rows k=(H,ys)) (hx:δ.ev x=.pv (.lit H)) (hy:δ.ev y=eU m) (hm:m≤ys.length) (ht:P.underlying t=some (.slice e')) (hs:(P.info? e').map (·.size)=some 1)
  (lL:fj x=true) (kS:fj y=true) (hd:fT δ.n dst=true) (hK:a_ q P g ops rest Q (δ.eW dst (.pv (.lit (lI m H))))):a_ q P g ops (⟨dst,.slice t x (some y) none none,ty,pos,af,none⟩::rest) Q δ:=
 a_.jG _ hd (fun κ a w r=>by
  obtain⟨i0,jM,og⟩:∃i0,P.info? e'=some i0∧i0.size=1:=by
   cases h:P.info? e' with
   |none=>rw[h] at hs;simp at hs
   |some i0=>rw[h] at hs;exact⟨i0,rfl,by simpa using hs⟩
  have h0:=ib r ho k
  rw[hk] at h0
  simp only at h0
  have hv:a.eval x=H:=r.lit hx lL
  have yN:a.eval y=.int .i64 m:=r.lit hy kS
  have Hi:∀cap w,(Instr.sliceBounds true ys.length cap (some (.int .i64 (m:Int))) none none).run P w=.ok (m,ys.length,cap) w:=by
   intro cap w
   have e1:(0:Int)≤(m:Int)∧(m:Int)≤(ys.length:Int):=by omega
   simp [Instr.sliceBounds,Instr.sliceBound,asIntOf,e1]
   intro h0;exfalso;omega
  rcases h0.2 with ⟨h1,h2⟩|⟨b,cap,cur,h1,_,_,hle,_⟩
  ·subst h1
   refine⟨_,fun w' _=>?_,.pv (.lit _)⟩
   have W3:=Hi 0 w'
   rw[h2] at W3
   have He:m=0:=by omega
   subst He
   simp only[execOp,Instr.sliceAt,Instr.slice,run_underlying ht,hv,yN,Sem.run_bind,Result.andThen_ok,cU,br,W3,sizeOf,typeInfo,Sem.run_pure,lI]
   simp [jM,og]
  ·subst h1
   refine⟨_,fun w' _=>?_,.pv (.lit _)⟩
   simp only[execOp,Instr.sliceAt,Instr.slice,run_underlying ht,hv,yN,Sem.run_bind,Result.andThen_ok,cU,br,Hi,sizeOf,typeInfo,Sem.run_pure,lI]
   simp [jM,og,Addr.add]
   by_cases h1:cap=m
   ·simp [h1]
   ·by_cases h2:m=0
    ·subst h2;simp [h1]
    ·simp [h1,h2]) hK
theorem a_.zi {x:Operand} {t e':TypeId} (i k m:Nat) {e:TypeId} {rows:lA} {H:Value} {ys:List Value} (ho:δ.ob i=some (.fb e rows)) (hk:rows k=(H,ys)) (hx:δ.ev x=.pv (.lit (lI m H))) (ht:P.underlying t=some (.slice e')) (lL:fj x=true) (hd:fT δ.n dst=true)
  (hK:a_ q P g ops rest Q (δ.eW dst (eU (ys.length - m:Nat)))):a_ q P g ops (⟨dst,.call {callee:=.builtin .len,args:= #[x],argTypes:= #[t]},ty,pos,af,none⟩::rest) Q δ:=
 a_.jG _ hd (fun κ a w r=>by
  have h0:=ib r ho k
  rw[hk] at h0
  simp only at h0
  have hv:a.eval x=lI m H:=r.lit hx lL
  rcases h0.2 with ⟨h1,h2⟩|⟨b,cap,cur,h1,_⟩
  ·subst h1
   exact⟨_,fun w' _=>run_len_slice ht x a.eval none _ 0 (hv.trans (by simp [lI,h2])) w',.pv (.lit _)⟩
  ·subst h1
   exact⟨_,fun w' _=>run_len_slice ht x a.eval _ _ (cap - m) (hv.trans rfl) w',.pv (.lit _)⟩) hK
theorem a_.wF {x y:Operand} {t e':TypeId} (i k m:Nat) {n:Nat} {ik:IntKind} {e:TypeId} {rows:lA} {H:Value} {ys:List Value} (ho:δ.ob i=some (.fb e rows)) (hk:rows k=(H,ys)) (hx:δ.ev x=.pv (.lit (lI m H))) (hy:δ.ev y=.pv (.lit (.int ik (n:Int)))) (hn:m+n<ys.length)
  (ht:P.underlying t=some (.slice e')) (hs:(P.info? e').map (·.size)=some 1) (lL:fj x=true) (kS:fj y=true) (hd:fT δ.n dst=true)
  (hK:a_ q P g ops rest Q (δ.eW dst (.pv (.lit (n_ (m+n) H))))):a_ q P g ops (⟨dst,.indexAddr t x y,ty,pos,af,none⟩::rest) Q δ:=
 a_.jG _ hd (fun κ a w r=>by
  have h0:=ib r ho k
  rw[hk] at h0
  simp only at h0
  have hv:a.eval x=lI m H:=r.lit hx lL
  rcases h0.2 with ⟨h1,h2⟩|⟨b,cap,cur,h1,_,_,hle,_⟩
  ·exfalso;omega
  ·subst h1
   have Am:a.eval x=.slice (some ⟨b,m,none⟩) (ys.length - m) (cap - m):=hv.trans (by simp [lI];omega)
   refine⟨_,fun w' _=>?_,.pv (.lit _)⟩
   have:=iR (dst:=dst) (ty:=ty) (pos:=pos) (af:=af) ht hs Am (r.lit hy kS) aJ w'
   rw[cK] at this
   simpa [n_] using this) hK
theorem FD {w w':World} {t ty e:TypeId} {i0:TypeInfo} {z:Value} {B n m xc:Nat} {xs Dr:List Value} {v v':Value} {xa:Option Addr} (ht:P.underlying t=some (.slice e)) (jM:P.info? e=some i0) (oH:i0.zero=some z) (mW:i0.size=1) (gR:w.ownsRow B e 1 v n xs) (nG:Dr.length=m*1)
  (gn:m≠0→∃ad,xa=some ad∧∀j u,Dr[j]? =some u→w.cell? (ad.add j)=some u) (ux:∀u∈Dr,u.oneCell'=true) (y6:n+m≤maxLen) (hb:(n+m)*i0.bytes≤140737488355328)
  (fF:(Builtin.append_ #[t,t] ty #[v,.slice xa m xc]).run P w=.ok v' w'):∀b,v'.ownBlock=some b→v.ownBlock=some b∨w.heap.size≤b:=by
 intro b jn
 by_cases hm:m=0
 ·subst hm
  have BP:Dr=[]:=bk (by simpa using nG)
  subst BP
  rcases gR.2 with ⟨rfl,h0⟩|⟨b0,cap0,cur0,rfl,h4,h5,h6⟩
  ·have r_:(Builtin.append_ #[t,t] ty #[.slice none 0 0,.slice xa 0 xc]).run P w=.ok (.slice none 0 0) w:=by
    cases xa with
    |none=>exact jq ht jM gR
    |some ad=>simp [Builtin.append_,run_underlying ht,sizeOf,typeInfo,jM,Builtin.lenOf,Builtin.firstCells,loadCells,loadCellsFrom]
   rw[r_] at fF
   simp only[Result.ok.injEq] at fF
   rw[← fF.1] at jn;cases jn
  ·cases xa with
   |none=>
    have r_:=jq (P:=P) (c:=xc) (ty:=ty) ht jM gR
    rw[r_] at fF
    simp only[Result.ok.injEq] at fF
    rw[← fF.1] at jn;exact .inl jn
   |some ad=>
    have r_:=run_append_room (P:=P) w t ty e i0 ht jM b0 n cap0 cur0 h5 ad 0 xc [] (by simp) (by simp) (by simp) aJ (by rw[mW];simp [h6.2.2.1];exact h6.1)
    rw[r_] at fF
    simp only[Result.ok.injEq] at fF
    rw[← fF.1] at jn;cases jn;exact .inl rfl
 ·obtain⟨ad,rfl,hc⟩:=gn hm
  rcases gR.2 with ⟨rfl,h0⟩|⟨b0,cap0,cur0,rfl,h4,h5,h6⟩
  ·have r_:=run_append_nil (P:=P) w t ty e i0 z ht jM oH ad m xc Dr (by rw[mW];exact nG) hc aJ (by simp only[maxLen] at y6;omega) (by have:m*i0.bytes≤(n+m)*i0.bytes:=Nat.mul_le_mul_right _ aJ;omega)
   rw[r_] at fF
   simp only[Result.ok.injEq] at fF
   rw[← fF.1] at jn;cases jn;exact .inr (aP _)
  ·by_cases lQ:n+m≤cap0
   ·have r_:=run_append_room (P:=P) w t ty e i0 ht jM b0 n cap0 cur0 h5 ad m xc Dr (by rw[mW];exact nG) hc ux lQ (by rw[mW,nG,h6.2.2.1];omega)
    rw[r_] at fF
    simp only[Result.ok.injEq] at fF
    rw[← fF.1] at jn;cases jn;exact .inl rfl
   ·have r_:=run_append_grow (P:=P) w t ty e i0 z ht jM oH ⟨b0,0,none⟩ n cap0 xs (by rw[mW];exact gR.1) (gR.cells (g:=b0) rfl) ad m xc Dr (by rw[mW];exact nG) hc aJ (by simp only[maxLen] at y6;omega) (growslice_fits aJ hb)
    rw[r_] at fF
    simp only[Result.ok.injEq] at fF
    rw[← fF.1] at jn;cases jn;exact .inr (aP _)
theorem Lv {C:Cx} {w:World} {v:Value} {us:List Value} (h:Src C w v 1 (us.map fun u=>[.lit u])):∃xa xc,v=.slice xa us.length xc∧(us.length≠0→∃ad,xa=some ad∧∀(j:Nat) (u:Value),us[j]? =some u→w.cell? (ad.add j)=some u)∧∀u∈us,u.oneCell'=true:=by
 obtain⟨nk,hk,xa,xc,hv,hx⟩:=h
 rw[a6] at hv
 have hc:∀(j:Nat) (u:Value),us[j]? =some u→cellAt (us.map fun u=>[PV.lit u]) j 0=some (.lit u):=fun j u hu=>by simp [cellAt,hu]
 refine⟨xa,xc,hv,fun h0=>?_,fun u hu=>?_⟩
 ·obtain⟨b,off,vs,rfl,h1⟩:=hx (by intro h;simp at h;exact h0 (by simp [h]))
  refine⟨_,rfl,fun j u hu=>?_⟩
  obtain⟨h2,_,h3⟩:=h1 j 0 _ (hc j u hu)
  have:vs j 0=u:=(RA.pv (C:=C) h3).lit
  rw[this,cK,bd] at h2
  rw[jr];exact h2
 ·obtain⟨j,hj⟩:=bA hu
  obtain⟨b,off,vs,rfl,h1⟩:=hx (by intro h;simp at h;subst h;simp at hu)
  obtain⟨_,h2,h3⟩:=h1 j 0 _ (hc j u hj)
  have:vs j 0=u:=(RA.pv (C:=C) h3).lit
  rw[← this];exact h2
inductive Ir (δ:DS) (x:Operand):List Value→Prop
 |src {us:List Value} {fa:List (List PV)} (h:qy δ x 1 fa) (he:fa=us.map fun u=>[.lit u]):Ir δ x us
 |tail {i k m:Nat} {e:TypeId} {rows:lA} {H:Value} {ys:List Value} (ho:δ.ob i=some (.fb e rows)) (hk:rows k=(H,ys)) (hm:m≤ys.length) (h:δ.ev x=.pv (.lit (lI m H))) (gn:ys≠ []):Ir δ x (ys.drop m)
theorem Ir.at {x:Operand} {us:List Value} (h:Ir δ x us) (r:Rel g δ κ a w) (lL:fj x=true):∃xa xc,a.eval x=.slice xa us.length xc∧(us.length≠0→∃ad,xa=some ad∧∀(j:Nat) (u:Value),us[j]? =some u→w.cell? (ad.add j)=some u)∧∀u∈us,u.oneCell'=true:=by
 cases h with
 |src h he=>subst he;exact Lv (h.src r lL)
 | @tail i k m e rows H ys ho hk hm h gn=>
  have h0:=ib r ho k
  have Ar:=((r.obj i _ ho).2.1 k).2.2.2
  rw[hk] at h0 Ar
  simp only at h0 Ar
  have hv:a.eval x=lI m H:=r.lit h lL
  rcases h0.2 with ⟨h1,h2⟩|⟨b,cap,cur,h1,_,h3,hle,_,pI,tA⟩
  ·exact absurd (bk h2) gn
  ·subst h1
   rw[cK] at tA
   refine⟨_,_,by rw[hv,cV];rfl,fun h4=>⟨_,rfl,fun j u hu=>?_⟩,fun u hu=>Ar u (bL hu)⟩
   rw[cV] at h4
   rw[if_neg aJ,jr,cell_of h3]
   rw[bF] at hu
   have fy:=(aW.1 hu).1
   rw[← tA,bE,if_pos fy] at hu
   rw[ba,← bC];exact hu
theorem a_.Uc {o:Oper} (hg:o.guard=none) (jg:ka o=true) (h:∀κ a w,Rel g δ κ a w→∃x v w' κ' δ',(execOp a.eval o).run P w=.ok x w'∧(x=.value v∨(x=.skip∧v=undef))∧Rel g δ' κ' (a.put o.dst v) w'∧a_ .plain P g ops rest Q δ'):a_ .plain P g ops (o::rest) Q δ:=by
 intro κ a w r
 show wpListIn _ _ P ops _ (o::rest) a w
 refine gF hg jg fun K oA=>?_
 unfold Oper.y9
 obtain⟨x,v,w',κ',δ',h1,h2,h3,h4⟩:=h κ a w r
 rw[h1]
 rcases h2 with rfl|⟨rfl,rfl⟩
 ·rw[Oper.uponIn_value];exact oA _ _ (h4 _ _ _ h3)
 ·rw[Oper.uponIn_skip];exact oA _ _ (h4 _ _ _ h3)
theorem a_.DO {s x:Operand} {t:TypeId} (i k:Nat) {bytes:Nat} {z:Value} {e:TypeId} {rows:lA} {H:Value} {ys us:List Value} (ho:δ.ob i=some (.fb e rows)) (hk:rows k=(H,ys)) (hs:δ.ev s=.pv (.lit H)) (hx:Ir δ x us)
  (ht:P.underlying t=some (.slice e)) (hi:(P.info? e).map (fun i=>(i.size,i.zero,i.bytes))=some (1,some z,bytes)) (Bu:z.oneCell'=true) (qt:fj s=true) (lL:fj x=true) (hd:fT δ.n dst=true) (hb:(ys.length+us.length)*bytes≤140737488355328) (hl:ys.length+us.length≤140737488355328)
  (hK:∀v',a_ .plain P g ops rest Q ((δ.gu i (some (.fb e (oF rows k (v',ys++us))))).eW dst (.pv (.lit v')))):a_ .plain P g ops (⟨dst,.call {callee:=.builtin .append,args:= #[s,x],argTypes:= #[t,t]},ty,pos,af,none⟩::rest) Q δ:=by
 refine a_.Uc rfl rfl fun κ a w r=>?_
 obtain⟨i0,jM,mW,oH,CG⟩:∃i0,P.info? e=some i0∧i0.size=1∧i0.zero=some z∧i0.bytes=bytes:=by
  cases h:P.info? e with
  |none=>rw[h] at hi;simp at hi
  |some i0=>rw[h] at hi;simp at hi;exact⟨i0,rfl,hi.1,hi.2.1,hi.2.2⟩
 have h0:=ib r ho k
 have Ar:=((r.obj i _ ho).2.1 k).2.2.2
 rw[hk] at h0 Ar
 simp only at h0 Ar
 have hv:a.eval s=H:=r.lit hs qt
 obtain⟨xa,xc,zY,gn,ux⟩:=hx.at r lL
 have y6:ys.length+us.length≤maxLen:=by simp only[maxLen];omega
 obtain⟨v',w',fF,sQ,sF⟩:∃v' w',(Builtin.append_ #[t,t] ty #[H,.slice xa us.length xc]).run P w=.ok v' w'∧w'.ownsRow g.B e 1 v' (ys.length+us.length) (ys++us)∧w.grownBy w' H.ownBlock:=by
  by_cases q8:us=[]
  ·subst q8
   cases xa with
   |none=>exact⟨H,w,jq ht jM h0,by simp only[List.length_nil,bd,bt];exact h0,⟨rfl,rfl,rfl,aP _,fun _ _ _=>rfl⟩⟩
   |some ad=>
    obtain⟨v',w',h2,h3,h4,_⟩:=run_append_own (P:=P) w g.B t ty e i0 z 1 bytes ht jM oH mW CG (by rw[nP Bu];rfl) aJ H ys.length ys h0 ad 0 xc [] (by simp) (by simp) (by simp) (by simpa using y6) (by simpa using hb) r.hB
    exact⟨v',w',h2,by simpa using h3,h4⟩
  ·obtain⟨ad,rfl,hc⟩:=gn (by intro h;exact q8 (bk h))
   obtain⟨v',w',h2,h3,h4,_⟩:=run_append_own (P:=P) w g.B t ty e i0 z 1 bytes ht jM oH mW CG (by rw[nP Bu];rfl) aJ H ys.length ys h0 ad us.length xc us (by simp) hc ux y6 hb r.hB
   exact⟨v',w',h2,h3,h4⟩
 have tj:=FD ht jM oH mW h0 (by simp) gn ux y6 (by rw[CG];exact hb) fF
 have jh:(rows k).1=H:=by rw[hk]
 obtain⟨κ',r',_⟩:=r.pc ho (k:=k) (w':=w') (by rw[jh];exact iL.grownBy sF) (v':=v') (ys:=ys++us) (by rw[bW];exact sQ) (by rw[bW];exact hl) (fun u hu=>(bX.1 hu).elim (Ar u) (ux u)) (by rw[jh];exact tj)
 have Dd:(execOp a.eval ⟨dst,.call {callee:=.builtin .append,args:= #[s,x],argTypes:= #[t,t]},ty,pos,af,none⟩).run P w=.ok (.value v') w':=by
  simp only[execOp,resolve,invoke,builtin,Sem.run_bind,Sem.run_pure,Result.andThen_ok,bp,bB,b8,hv,zY,fF]
 exact⟨_,v',w',κ',_,Dd,.inl rfl,r'.eW (ft hd) (.pv (.lit _)),hK v'⟩
theorem a_.rE {s x:Operand} {t:TypeId} (i k m:Nat) {bytes:Nat} {z:Value} {e:TypeId} {rows:lA} {H:Value} {ys us:List Value} (ho:δ.ob i=some (.fb e rows)) (hk:rows k=(H,ys)) (hs:δ.ev s=.pv (.lit (jw m H))) (hx:Ir δ x us) (lQ:m+us.length≤ys.length) (Ru:ys≠ [])
  (ht:P.underlying t=some (.slice e)) (hi:(P.info? e).map (fun i=>(i.size,i.zero,i.bytes))=some (1,some z,bytes)) (qt:fj s=true) (lL:fj x=true) (hd:fT δ.n dst=true)
  (hK:a_ .plain P g ops rest Q ((δ.gu i (some (.fb e (oF rows k (H,ys.take m++us++ys.drop (m+us.length)))))).eW dst (.pv (.lit (jw (m+us.length) H))))):a_ .plain P g ops (⟨dst,.call {callee:=.builtin .append,args:= #[s,x],argTypes:= #[t,t]},ty,pos,af,none⟩::rest) Q δ:=by
 refine a_.Uc rfl rfl fun κ a w r=>?_
 obtain⟨i0,jM,mW,oH,CG⟩:∃i0,P.info? e=some i0∧i0.size=1∧i0.zero=some z∧i0.bytes=bytes:=by
  cases h:P.info? e with
  |none=>rw[h] at hi;simp at hi
  |some i0=>rw[h] at hi;simp at hi;exact⟨i0,rfl,hi.1,hi.2.1,hi.2.2⟩
 have h0:=ib r ho k
 have hl:=((r.obj i _ ho).2.1 k).2.1
 have Ar:=((r.obj i _ ho).2.1 k).2.2.2
 rw[hk] at h0 Ar hl
 simp only at h0 Ar hl
 have hv:a.eval s=jw m H:=r.lit hs qt
 obtain⟨xa,xc,zY,gn,ux⟩:=hx.at r lL
 rcases h0.2 with ⟨h1,h2⟩|⟨b,cap,cur,h1,hB,h3,hle,Jp,pI,tA⟩
 ·exact absurd (bk h2) Ru
 ·subst h1
  rw[cK] at pI tA
  have hlen:(ys.take m++us++ys.drop (m+us.length)).length=ys.length:=by simp;omega
  obtain⟨w',fF,jf⟩:∃w',(Builtin.append_ #[t,t] ty #[.slice (some ⟨b,0,none⟩) m cap,.slice xa us.length xc]).run P w=.ok (.slice (some ⟨b,0,none⟩) (m+us.length) cap) w'∧(w'=w∧us=[]∨w'=w.setRow b (cur.toList.take m++us++cur.toList.drop (m+us.length)).toArray):=by
   by_cases q8:us=[]
   ·subst q8
    cases xa with
    |none=>exact⟨w,by simp [Builtin.append_,run_underlying ht,sizeOf,typeInfo,jM,Builtin.lenOf,Builtin.firstCells,storeCells];omega,.inl ⟨rfl,rfl⟩⟩
    |some ad=>
     have:=run_append_room (P:=P) w t ty e i0 ht jM b m cap cur h3 ad 0 xc [] (by simp) (by simp) (by simp) (by simp at lQ;omega) (by rw[mW];simp at lQ ⊢;omega)
     exact⟨_,this,.inr (by simp [mW])⟩
   ·obtain⟨ad,rfl,hc⟩:=gn (by intro h;exact q8 (bk h))
    have:=run_append_room (P:=P) w t ty e i0 ht jM b m cap cur h3 ad us.length xc us (by rw[mW];simp) hc ux aJ (by rw[mW];omega)
    exact⟨_,this,.inr (by simp [mW])⟩
  have jh:(rows k).1.ownBlock=some b:=by rw[hk];rfl
  have tU:us=[]→ys.take m++us++ys.drop (m+us.length)=ys:=fun h=>by subst h;simp
  obtain⟨κ',r',_⟩:=r.pc ho (k:=k) (w':=w') (by
    rcases jf with ⟨rfl,_⟩|rfl
    ·exact⟨rfl,rfl,rfl,aP _,fun _ _ _=>rfl⟩
    ·rw[jh];exact iL.setRow w b _) (v':=.slice (some ⟨b,0,none⟩) ys.length cap) (ys:=ys.take m++us++ys.drop (m+us.length))
   (by
    rw[hlen]
    refine⟨by rw[hlen];simp,.inr ?_⟩
    rcases jf with ⟨rfl,h⟩|rfl
    ·exact⟨b,cap,cur,rfl,hB,h3,hle,Jp,by rw[cK];exact pI,by rw[cK,tU h];exact tA⟩
    ·refine⟨b,cap,_,rfl,hB,setRow_heap _ _ _ _ _ _ h3,hle,Jp,?_,?_⟩
     ·simp;omega
     ·have e1:cur.toList=ys++cur.toList.drop ys.length:=by have:=List.take_append_drop ys.length cur.toList;rw[tA] at this;exact this.symm
      generalize cur.toList.drop ys.length=tl at e1
      rw[cK,e1]
      simp only[cW (show m≤ys.length by omega),List.drop_append_of_le_length lQ]
      rw[← List.append_assoc,cW (by rw[hlen];omega),cJ (by rw[hlen];omega)])
   (by rw[hlen];exact hl)
   (fun v hv=>by
    rcases bX.1 hv with hv|hv
    ·rcases bX.1 hv with hv|hv
     ·exact Ar v (cQ hv)
     ·exact ux v hv
    ·exact Ar v (bL hv))
   (fun b' jn=> .inl (by rw[jh];exact jn))
  have Dd:(execOp a.eval ⟨dst,.call {callee:=.builtin .append,args:= #[s,x],argTypes:= #[t,t]},ty,pos,af,none⟩).run P w=.ok (.value (.slice (some ⟨b,0,none⟩) (m+us.length) cap)) w':=by
   simp only[execOp,resolve,invoke,builtin,Sem.run_bind,Sem.run_pure,Result.andThen_ok,bp,bB,b8,hv,zY,jw,fF]
  exact⟨_,_,w',κ',_,Dd,.inl rfl,r'.eW (ft hd) (.pv (.lit _)),hK⟩
end Go.Ab
/- Pools:a row of the walk's own taken in;a shorter slice;a new pool. -/
namespace Go.Ab
open Go Go.RowKit
variable {q:Md} {P:Program} {g:eZ} {δ:DS} {κ:Kp} {a:Act} {w:World}
variable {ops:Array Oper} {rest:List Oper} {Q:Exit→DS→Prop}
theorem oT.IM {C C':Cx} {w w':World} {i j:Nat} {o:Ob} (G:kC (C.less i) w C' w') (hκ:C'.κ j=C.κ j) (hb:∀b,C.κ j=some b→w'.heap[b]? =w.heap[b]?) (hP:∀b,C.κ.F j b→b<w.heap.size→C'.κ.F j b∧w'.heap[b]? =w.heap[b]?) (h:oT C w j o):oT C' w' j (o.xS (AV.kill i)):=by
 cases o with
 |row=>
  intro b jn
  rw[hκ] at jn
  obtain⟨c,e,h1⟩:=h b jn
  exact⟨c,e,(hb b jn).trans h1⟩
 |box cs=>
  obtain⟨b,c,e,h1,h2,h3,h4⟩:=h
  refine⟨b,c,e,hκ.trans h1,(hb b h1).trans h2,by simpa using h3,fun k u av h5 h6=>?_⟩
  simp only[a7,Option.map_eq_some_iff] at h6
  obtain⟨av',h6,rfl⟩:=h6
  exact⟨(h4 k u av' h5 h6).1.kill G,(h4 k u av' h5 h6).2⟩
 |mp l=>
  obtain⟨b,es,clock,h1,h2,h3,h4⟩:=h
  refine⟨b,es,clock,hκ.trans h1,(hb b h1).trans h2,⟨h3.1,fun k e p h5 h6=>?_⟩,h4⟩
  exact⟨(h3.2 k e p h5 h6).1,G.ra ((h3.2 k e p h5 h6).2.less (h4.2 p (aU h6)))⟩
 |mpl l kk v=>
  obtain⟨b,es,clock,h1,h2,h3,h4⟩:=h
  refine⟨b,es,clock,hκ.trans h1,(hb b h1).trans h2,?_,h4⟩
  exact h3.last (fun u p hp h=>G.ra (h.less (h4.2 p hp))) (fun u h=>h.kill G)
 |it l seen=>
  obtain⟨b,h1,h2⟩:=h
  exact⟨b,hκ.trans h1,h2.mono G.size G.N (hb b h1)⟩
 |lit T vals=>
  obtain⟨b,h1,h2⟩:=h
  exact⟨b,hκ.trans h1,(hb b h1).trans h2⟩
 |fb e rows=>exact⟨hκ.trans h.1,fun k=>(h.2.1 k).lJ G.B fun b _ hF fy=>hP b hF fy,h.2.2⟩
 |loop l tm ps ji body st=>
  obtain⟨b,lr,h1,h2,h3⟩:=h
  exact⟨b,lr,hκ.trans h1,(hb b h1).trans h2,h3⟩
theorem Rel.tk (r:Rel g δ κ a w) {i j k t:Nat} {e:TypeId} {rows:lA} {us:List Value} {fa:List (List PV)} (ho:δ.ob i=some (.fb e rows)) (hj:δ.ob j=some .row) (ht:δ.get t=.own j e 1 fa) (he:fa=us.map fun u=>[.lit u]) (hk:(rows k).1=.slice none 0 0):
  ∃v κ',Rel g (((δ.gU (AV.kill j)).gu i (some (.fb e (oF rows k (v,us))))).put t (.pv (.lit v))) κ' a w:=by
 subst he
 have v7:i≠j:=by rintro rfl;rw[ho] at hj;cases hj
 have sc:δ.live j:=⟨_,hj⟩
 have EG:δ.live i:=⟨_,ho⟩
 have hv:=r.env t
 rw[ht] at hv
 have hv:=hv.jv
 generalize hve:g.val a t=v at hv
 obtain⟨EO,AX,B0⟩:=r.obj i _ ho
 obtain⟨xs,gR,JA,X4⟩:=hv.row
 have nk:=hv.lim
 rw[a6] at gR nk
 have R2:xs=us:=by
  apply List.ext_getElem?
  intro n
  by_cases hn:n<us.length
  ·obtain⟨u,h1,h2⟩:=X4 n 0 (.lit us[n]) (by simp [cellAt,hn])
   rw[cK,bd] at h1
   rw[h1,a8 hn]
   cases h2;rfl
  ·have:=gR.1
   rw[cH aJ,cH aJ]
 subst R2
 have QC:∀b,v.ownBlock=some b→κ j=some b:=fun b hb=>hv.x8 b hb
 let κ':Kp:=⟨(ig κ j none).f,fun n b=>κ.F n b∨(n=i∧v.ownBlock=some b)⟩
 let δ1:=(δ.gU (AV.kill j)).gu i (some (.fb e (oF rows k (v,xs))))
 have jh:∀n,δ1.ob n=if i=n then some (.fb e (oF rows k (v,xs))) else (δ.ob n).map (Ob.xS (AV.kill j)):=fun n=>by
  show((δ.gU (AV.kill j)).gu i _).ob n=_
  rw[jW,kR]
 have fV:∀n,δ1.live n↔δ.live n:=by
  intro n
  unfold DS.live
  rw[jh]
  by_cases h:i=n
  ·subst h;simp [ho]
  ·rw[if_neg h];cases δ.ob n<;>simp
 have ox:∀n,δ1.lr n↔δ.lr n:=by
  intro n
  unfold DS.lr
  rw[jh]
  by_cases h:i=n
  ·subst h;simp [ho]
  ·rw[if_neg h]
   cases δ.ob n with
   |none=>simp
   |some o=>cases o<;>simp [Ob.xS]
 have xf:∀n,δ.lb n→δ1.lb n:=by
  rintro n ⟨o,h1,h2⟩
  unfold DS.lb
  rw[jh]
  by_cases h:i=n
  ·rw[if_pos h];exact⟨_,rfl,rfl⟩
  ·rw[if_neg h,h1];exact⟨_,rfl,by cases o<;>simp_all [Ob.xS,Ob.mc]⟩
 have OR:∀n b,κ' n=some b→n≠j∧κ n=some b:=by
  intro n b h
  by_cases hn:j=n
  ·subst hn
   have:κ' j=none:=by show ig κ j none j=none;simp [ig]
   rw[this] at h;cases h
  ·have:κ' n=κ n:=by show ig κ j none n=κ n;simp [ig,hn]
   rw[this] at h
   exact⟨fun e=>hn e.symm,h⟩
 have TK:∀n,n≠j→κ' n=κ n:=fun n hn=>by show ig κ j none n=κ n;simp [ig,Ne.symm hn]
 have YM:∀n,δ.lb n→n≠j:=by
  rintro n ⟨o,h1,h2⟩ rfl
  rw[hj] at h1;cases h1;simp [Ob.mc] at h2
 have Xn:∀b,κ.Fs b→b<w.heap.size:=fun b hb=>r.fr.Hh hb
 have G:kC ((δ.cx g κ).less j) w (δ1.cx g κ') w:=
  {B:=rfl,size:=aP _
   N:=fun b _ h2=>⟨⟨⟨h2.1.1,by
    rintro⟨n,h3|⟨_,h3⟩⟩
    ·exact h2.1.2 ⟨n,h3⟩
    ·exact h2.2 j sc (QC b h3)⟩,fun n hn e=>h2.2 n ((fV n).1 hn) (OR n b e).2⟩,rfl⟩
   Lr:=fun n hn=>⟨(ox n).2 hn.1,TK n hn.2,fun _ _=>rfl⟩
   Lb:=fun n hn=>⟨xf n hn,TK n (YM n hn)⟩}
 have R1:Rel g δ1 κ' a w:=
  {n:=r.n,dfr:=r.dfr
   env:=fun n=>by
    show RA _ w _ ((δ.gU (AV.kill j)).get n)
    rw[rm _ rfl];exact(r.env n).kill G
   obj:=fun n x h=>by
    rw[jh] at h
    by_cases hn:i=n
    ·subst hn
     rw[if_pos rfl] at h
     cases h
     refine⟨(TK i v7).trans EO,fun kk=>?_,fun k1 k2 b h2 h3=>?_⟩
     ·unfold oF
      by_cases mo:kk=k
      ·rw[if_pos mo];exact⟨gR,nk,fun b hb=> .inr ⟨rfl,hb⟩,JA⟩
      ·rw[if_neg mo];exact(AX kk).lJ rfl fun b _ h2 _=>⟨.inl h2,rfl⟩
     ·have gn:∀kk b,(rows kk).1.ownBlock=some b→v.ownBlock=some b→False:=fun kk b h4 h5=>r.fr.oh sc (QC b h5) ⟨i,(AX kk).2.2.1 b h4⟩
      unfold oF at h2 h3
      by_cases GN:k1=k
      ·by_cases qh:k2=k
       ·rw[GN,qh]
       ·rw[if_pos GN] at h2
        rw[if_neg qh] at h3
        exact(gn k2 b h3 h2).elim
      ·by_cases qh:k2=k
       ·rw[if_neg GN] at h2
        rw[if_pos qh] at h3
        exact(gn k1 b h2 h3).elim
       ·rw[if_neg GN] at h2
        rw[if_neg qh] at h3
        exact B0 k1 k2 b h2 h3
    ·rw[if_neg hn] at h
     cases ga:δ.ob n with
     |none=>rw[ga] at h;simp at h
     |some o=>
      rw[ga] at h
      simp only[br,Option.some.injEq] at h
      subst h
      by_cases hnj:n=j
      ·subst hnj
       rw[hj] at ga
       cases ga
       intro b hb
       exact absurd rfl (OR n b hb).1
      ·exact(r.obj n o ga).IM G (TK n hnj) (fun _ _=>rfl) fun b h2 _=>⟨.inl h2,rfl⟩
   inj:=fun n m b h1 h2 h3 h4=>r.inj n m b ((fV n).1 h1) ((fV m).1 h2) (OR n b h3).2 (OR m b h4).2
   lo:=fun n b h1 h2=>r.lo n b ((fV n).1 h1) (OR n b h2).2
   nx:=fun n h=>r.nx n ((fV n).1 h)
   wt:=fun kk hk=>⟨(r.wt kk hk).1,fun n b h1 uI h2=>(r.wt kk hk).2 n b ((fV n).1 h1) (uI.imp (ox n).1 id) (OR n b h2).2⟩
   below:=r.below,hB:=r.hB,N0:=r.N0,kZ:=r.kZ
   fr:=by
    refine⟨fun b hb=>?_,fun n b hb=>?_⟩
    ·obtain⟨h2,h3,h4⟩:=r.fr.1 b hb
     exact⟨h2,h3,fun m hm e=>h4 m ((fV m).1 hm) (OR m b e).2⟩
    ·rcases hb with h2|⟨rfl,h2⟩
     ·obtain⟨h4,h5,h6,h7,h8⟩:=r.fr.2 n b h2
      refine⟨h4,h5,h6,fun m hm e=>h7 m ((fV m).1 hm) (OR m b e).2,fun m hm=>?_⟩
      rcases hm with hm|⟨rfl,hm⟩
      ·exact h8 m hm
      ·exact(r.fr.oh sc (QC b hm) ⟨n,h2⟩).elim
     ·have TS:=QC b h2
      obtain⟨h3,h4⟩:=r.lo j b sc TS
      refine⟨⟨h3,fun kk hk=>(r.wt kk hk).2 j b sc (.inl hj) TS⟩,h4,fun hf=>(r.fr.1 b hf).2.2 j sc TS,fun m hm e=>?_,fun m hm=>?_⟩
      ·obtain⟨h5,h6⟩:=OR m b e
       exact h5 (r.inj m j b ((fV m).1 hm) sc h6 TS)
      ·rcases hm with hm|⟨rfl,_⟩
       ·exact(r.fr.oh sc TS ⟨m,hm⟩).elim
       ·rfl}
 exact⟨v,κ',R1.sB (by rw[hve];exact .pv (.lit _))⟩
theorem AW.tk {c:Code} (i j k t:Nat) {e:TypeId} {rows:lA} {us:List Value} {fa:List (List PV)} (ho:δ.ob i=some (.fb e rows)) (hj:δ.ob j=some .row) (ht:δ.get t=.own j e 1 fa) (he:fa=us.map fun u=>[.lit u]) (hk:(rows k).1=.slice none 0 0)
  (hK:∀v,AW P g c Q (((δ.gU (AV.kill j)).gu i (some (.fb e (oF rows k (v,us))))).put t (.pv (.lit v)))):AW P g c Q δ:=fun κ a w r=>by
 obtain⟨v,κ',r'⟩:=r.tk ho hj ht he hk
 exact hK v κ' a w r'
theorem AW.DL {c:Code} (i k m:Nat) {e:TypeId} {rows:lA} {H:Value} {ys:List Value} (ho:δ.ob i=some (.fb e rows)) (hk:rows k=(H,ys)) (hm:m≤ys.length) (hK:AW P g c Q (δ.gu i (some (.fb e (oF rows k (jw m H,ys.take m)))))):AW P g c Q δ:=fun κ a w r=>by
 have h0:=ib r ho k
 have hl:=((r.obj i _ ho).2.1 k).2.1
 have Ar:=((r.obj i _ ho).2.1 k).2.2.2
 rw[hk] at h0 Ar hl
 simp only at h0 Ar hl
 have hlen:(ys.take m).length=m:=by simp;omega
 have gR:w.ownsRow g.B e 1 (jw m H) (ys.take m).length (ys.take m)∧∀b,(jw m H).ownBlock=some b→H.ownBlock=some b:=by
  rcases h0.2 with ⟨h1,h2⟩|⟨b,cap,cur,h1,hB,h3,hle,Jp,pI,tA⟩
  ·subst h1
   obtain rfl:m=0:=by omega
   exact⟨⟨by simp,.inl ⟨rfl,by simp⟩⟩,fun b hb=>by cases hb⟩
  ·subst h1
   refine⟨⟨by simp,.inr ⟨b,cap,cur,by rw[hlen];rfl,hB,h3,by rw[hlen];omega,Jp,pI,?_⟩⟩,fun b hb=>hb⟩
   rw[hlen,← tA,List.take_take,cK,cK,cP hm]
 obtain⟨κ',r',_⟩:=r.pc ho (k:=k) (w':=w) ⟨rfl,rfl,rfl,aP _,fun _ _ _=>rfl⟩ gR.1 (by rw[hlen];omega) (fun u hu=>Ar u (cQ hu)) (fun b hb=> .inl (by rw[hk];exact gR.2 b hb))
 exact hK κ' a w r'
theorem Rel.yL (r:Rel g δ κ a w) (e:TypeId):Rel g (δ.fQ (.fb e fun _=>(.slice none 0 0,[]))) (ig κ δ.nx none) a w:=by
 have nG:¬δ.live δ.nx:=fun h=>Nat.lt_irrefl _ (r.nx _ h)
 have gn:∀i,δ.live i→δ.nx≠i:=fun i h e=>nG (e▸h)
 have fV:∀i,(δ.fQ (.fb e fun _=>(.slice none 0 0,[]))).live i→i=δ.nx∨δ.live i:=by
  intro i ⟨o',h⟩
  rw[f_] at h
  by_cases e:δ.nx=i
  ·exact .inl e.symm
  ·rw[if_neg e] at h;exact .inr ⟨o',h⟩
 have ph:∀i b,(δ.fQ (.fb e fun _=>(.slice none 0 0,[]))).live i→ig κ δ.nx none i=some b→δ.live i∧κ i=some b:=by
  intro i b hi h
  rcases fV i hi with rfl|hi
  ·simp [ig] at h
  ·simp only[ig,gn i hi,if_false] at h;exact⟨hi,h⟩
 have G:kC (δ.cx g κ) w ((δ.fQ (.fb e fun _=>(.slice none 0 0,[]))).cx g (ig κ δ.nx none)) w:=
  {B:=rfl,size:=aP _
   N:=fun b h1 h2=>⟨⟨h2.1,fun i hi e=>let ⟨h3,h4⟩:=ph i b hi e;h2.2 i h3 h4⟩,rfl⟩
   Lr:=fun i hi=>by
    have jJ:=gn i (DS.gK hi)
    refine⟨?_,by show ig _ _ _ i=κ i;simp [ig,jJ],fun b hκ=>rfl⟩
    show(δ.fQ _).ob i=_
    rw[f_,if_neg jJ];exact hi
   Lb:=fun i hi=>by
    have jJ:=gn i (DS.mE hi)
    refine⟨?_,by show ig _ _ _ i=κ i;simp [ig,jJ]⟩
    obtain⟨o',h1,h2⟩:=hi
    exact⟨o',by rw[f_,if_neg jJ];exact h1,h2⟩}
 exact
  {n:=r.n,dfr:=r.dfr,env:=fun j=>G.ra (r.env j)
   obj:=fun i o' h=>by
    rw[f_] at h
    by_cases e:δ.nx=i
    ·rw[if_pos e] at h;cases h;subst e
     exact⟨by show ig _ _ _ _=_;simp [ig],fun k=>⟨w.ownsRow_nil _ _ _,by simp,fun b hb=>by simp [Value.ownBlock] at hb,fun u hu=>by simp at hu⟩,fun k k' b hb=>by simp [Value.ownBlock] at hb⟩
    ·rw[if_neg e] at h
     exact(r.obj i o' h).lJ G (by show ig _ _ _ i=κ i;simp [ig,e]) (fun b hκ=>rfl) (fun b hF fy=>⟨hF,rfl⟩)
   inj:=fun i j b h1 h2 h3 h4=>let ⟨h5,h6⟩:=ph i b h1 h3;let ⟨h7,h8⟩:=ph j b h2 h4;r.inj i j b h5 h7 h6 h8
   lo:=fun i b h1 h2=>let ⟨h5,h6⟩:=ph i b h1 h2;r.lo i b h5 h6
   nx:=fun i h=>by
    show i<δ.nx+1
    rcases fV i h with rfl|h
    ·omega
    ·have:=r.nx i h;omega
   wt:=fun k hk=>⟨(r.wt k hk).1,fun i b hi jJ hκ hb=>by
    obtain⟨h5,h6⟩:=ph i b hi hκ
    refine(r.wt k hk).2 i b h5 (jJ.imp (fun h=>?_) id) h6 hb
    have h7:(δ.fQ _).ob i=some .row:=h
    rw[f_,if_neg (gn i h5)] at h7
    exact h7⟩
   below:=r.below,hB:=r.hB,N0:=r.N0,kZ:=r.kZ
   fr:=r.fr.sub fun i b h1 h2=>let ⟨h5,h6⟩:=ph i b h1 h2;⟨i,h5,h6⟩}
theorem AW.yL {c:Code} (e:TypeId) (hK:AW P g c Q (δ.fQ (.fb e fun _=>(.slice none 0 0,[])))):AW P g c Q δ:=fun _ a w r=>hK _ a w (r.yL e)
end Go.Ab
/- Contracts with more than one outcome:of the caller's objects,and of the result,only a relation is told. -/
namespace Go.Ab
open Go Go.RowKit
variable {P:Program} {g:eZ} {δ:DS} {κ:Kp} {a:Act} {w:World}
variable {ops:Array Oper} {rest:List Oper} {Q:Exit→DS→Prop} {dst:Option Nat} {ty:TypeId} {pos:String} {af:Array Edge}
abbrev vo {α:Type} (P:Program) (f:FuncId) (n0:Nat) (d_:List (Nat×Option Ob)) (args:List AV) (p:α→Prop) (e6:α→List (Nat×Option Ob)) (r:α→AV):Prop:=
 xz (fun _=>True) P (fun(x:α) C w e=>p x∧Sn (r x) C w e) f n0 d_ args e6
def me {α:Type} (P:Program) (rs:List ResultVar) (d_:List (Nat×Option Ob)) (p:α→Prop) (e6:α→List (Nat×Option Ob)) (r:α→AV):Exit→DS→Prop
 |.normal,δ|.ret,δ=>∃x,p x∧∃v,gm P δ rs v∧WV δ (XF δ d_ (e6 x)) v (r x)∧WV δ (XF δ d_ (e6 x)) (δ.get 1000) (.agg (gW d_))∧pt δ (XF δ d_ (e6 x)) (e6 x)∧tL δ.nx (e6 x)=true
 |_,_=>False
theorem hX {α:Type} {rs:List ResultVar} {d_:List (Nat×Option Ob)} {p:α→Prop} {e6:α→List (Nat×Option Ob)} {r:α→AV} {v:AV} (x:α) (hp:p x) (h:gm P δ rs v) (hw:EC δ (XF δ d_ (e6 x)) [v,δ.get 1000] [r x,.agg (gW d_)]) (ho:pt δ (XF δ d_ (e6 x)) (e6 x)) (hx:tL δ.nx (e6 x)=true):me P rs d_ p e6 r .ret δ:=⟨x,hp,v,h,hw.1,hw.2.1,ho,hx⟩
theorem nV {α:Type} {rs:List ResultVar} {d_:List (Nat×Option Ob)} {p:α→Prop} {e6:α→List (Nat×Option Ob)} {r:α→AV} {v:AV} (x:α) (hp:p x) (h:gm P δ rs v) (hw:EC δ (XF δ d_ (e6 x)) [v,δ.get 1000] [r x,.agg (gW d_)]) (ho:pt δ (XF δ d_ (e6 x)) (e6 x)) (hx:tL δ.nx (e6 x)=true):me P rs d_ p e6 r .normal δ:=⟨x,hp,v,h,hw.1,hw.2.1,ho,hx⟩
theorem vo.enter {α:Type} {f:FuncId} {fn:Func} {c:Code} {rs:List ResultVar} {n n0:Nat} {d_:List (Nat×Option Ob)} {args:List AV} {p:α→Prop} {e6:α→List (Nat×Option Ob)} {r:α→AV} (hf:P.funcs[f]? =some fn) (hb:fn.body=some c) (uG:fn.results=rs.toArray) (hn:fn.ntmps=n) (Er:bz args.length n=true)
  (rh:bz n HS=true) (he:(fn.name== "runtime.NumGoroutine")=false) (u9:uh d_ d_=true) (ux:∀x,tL n0 (e6 x)=true)
  (h:∀g:eZ,g.ro=none→g.wt=none→AW P g c (me P rs d_ p e6 r) ⟨n,enum 0 args++ [(1000,.agg (gW d_))],d_,n0⟩):vo P f n0 d_ args p e6 r:=by
 refine xz.enter (Q:=me P rs d_ p e6 r) hf hb hn Er rh he u9 ux (fun g h1 h2 _=>h g h1 h2) fun g e δ' κ' a' w' R jk u0 hq r' hR=>?_
 have fin:(∃x,p x∧∃v,gm P δ' rs v∧WV δ' (XF δ' d_ (e6 x)) v (r x)∧WV δ' (XF δ' d_ (e6 x)) (δ'.get 1000) (.agg (gW d_))∧pt δ' (XF δ' d_ (e6 x)) (e6 x)∧tL δ'.nx (e6 x)=true)→
   LeavesInM Fence.wide 0 P fn a'.tmps R a'.defers .returning w':=fun⟨x,Yd,v,h1,hv,hp,ho,hx⟩=>
  leaves (g:=g) jk u0 uG h1 r' fun w2 r2 u hu=>hR x hp ho hx _ _ r2 ⟨Yd,u,rfl,hu.wv (δ:=δ') (δ':=XF δ' d_ (e6 x)) r2.mg r2.obj hv⟩
 cases e with
 |normal=>exact fin hq
 |ret=>exact fin hq
 |_=>exact hq.elim
theorem a_.kI {α:Type} {y:Operand} {f:FuncId} {xs:List Operand} {tys:Array TypeId} {first cap args:List AV} {n0:Nat} {d_:List (Nat×Option Ob)} {p:α→Prop} {e6:α→List (Nat×Option Ob)} {r:α→AV} (jk:g.wt=none) (hf:vo P f n0 d_ args p e6 r) (hy:δ.ev y=.jx (.func f) first cap) (kS:fj y=true) (qt:xs.all fj=true)
  (lz:Dv δ d_) (gp:wD (XS d_ n0).q6 (XS d_ n0).qd (first++xs.map δ.ev++cap) args) (hk:∀x,kH d_ (e6 x)=true) (CC:tL n0 d_=true) (tS:nu (XS d_ n0).q6 (XS d_ n0).qd d_)
  (pW:∀x,nu (XS (e6 x) n0).q6 (XS (e6 x) n0).qd (e6 x)) (hr:∀x,(r x).ids (XS (e6 x) n0).q6 (XS (e6 x) n0).qd=true) (hd:fT δ.n dst=true)
  (hK:∀x,p x→a_ .plain P g ops rest Q ((δ.iy d_ (e6 x)).eW dst (r x))):
  a_ .plain P g ops (⟨dst,.call {callee:=.value y,args:=xs.toArray,argTypes:=tys},ty,pos,af,none⟩::rest) Q δ:=
 x9 jk (fun _ _=>trivial) hf hy kS qt lz gp hk CC tS pW (fun x κ a w' C v hR hE tB=>by
  obtain⟨hp,u,he,hu⟩:=hE
  cases he
  exact hK x hp _ _ _ (hR.eW (ft hd) (tB (r x) hu (hr x)))) (fun _ C w' ch hE=>by obtain⟨_,u,he,_⟩:=hE;cases he) (fun _ C w' hE=>by obtain⟨_,u,he,_⟩:=hE;cases he)
end Go.Ab
/- Pools of numbers. -/
namespace Go.Ab
open Go Go.RowKit
variable {q:Md} {P:Program} {g:eZ} {δ:DS} {κ:Kp} {a:Act} {w:World}
variable {ops:Array Oper} {rest:List Oper} {Q:Exit→DS→Prop} {dst:Option Nat} {ty:TypeId} {pos:String} {af:Array Edge} {gd:Option (Tmp×Bool)}
abbrev vI (x:Int):Value:=.int .i64 x
def e_ {α:Type} (f:Nat→α) (k:Nat) (v:α):Nat→α:=fun j=>if j=k then v else f j
theorem e7 {α:Type} (f:Nat→α) (k:Nat) (v:α):e_ f k v k=v:=by simp [e_]
theorem fC {α:Type} (f:Nat→α) {k j:Nat} (v:α) (h:j≠k):e_ f k v j=f j:=by simp [e_,h]
theorem xk {α:Type} (f:Nat→α) (k:Nat):e_ f k (f k)=f:=by funext j;unfold e_;split<;>simp_all
theorem jQ {α:Type} (f:Nat→α) (k:Nat) (v u:α):e_ (e_ f k v) k u=e_ f k u:=by funext j;unfold e_;split<;>rfl
def kK (hs:Nat→Value) (ls:Nat→List Int):lA:=fun k=>(hs k,(ls k).map vI)
theorem qW (hs:Nat→Value) (ls:Nat→List Int) (k:Nat) (h:Value) (xs:List Int) {ys:List Value} (hy:ys=xs.map vI):oF (kK hs ls) k (h,ys)=kK (e_ hs k h) (e_ ls k xs):=by
 subst hy
 funext j
 unfold oF kK e_
 split<;>rfl
theorem vU (hs:Nat→Value) (ls:Nat→List Int) (k:Nat) (xs:List Int) {ys:List Value} (hy:ys=xs.map vI):oF (kK hs ls) k (hs k,ys)=kK hs (e_ ls k xs):=by
 rw[qW hs ls k _ xs hy,xk]
section
variable {i k:Nat} {e:TypeId} {hs:Nat→Value} {ls:Nat→List Int}
theorem a_.pR (i:Nat) {x:Operand} {t e':TypeId} (ho:δ.ob i=some (.fb e (kK hs ls))) (hx:δ.ev x=.pv (.lit (hs k))) (ht:P.underlying t=some (.slice e')) (lL:fj x=true) (hd:fT δ.n dst=true)
  (hK:a_ q P g ops rest Q (δ.eW dst (eU ((ls k).length:Nat)))):a_ q P g ops (⟨dst,.call {callee:=.builtin .len,args:= #[x],argTypes:= #[t]},ty,pos,af,none⟩::rest) Q δ:=
 a_.Mn i k ho rfl hx ht lL hd (by rw[a6];exact hK)
theorem a_.Cd (i:Nat) {x:Operand} {t e':TypeId} {m:Nat} (ho:δ.ob i=some (.fb e (kK hs ls))) (hx:δ.ev x=.pv (.lit (lI m (hs k)))) (ht:P.underlying t=some (.slice e')) (lL:fj x=true) (hd:fT δ.n dst=true)
  (hK:a_ q P g ops rest Q (δ.eW dst (eU ((ls k).length - m:Nat)))):a_ q P g ops (⟨dst,.call {callee:=.builtin .len,args:= #[x],argTypes:= #[t]},ty,pos,af,none⟩::rest) Q δ:=
 a_.zi i k m ho rfl hx ht lL hd (by rw[a6];exact hK)
theorem a_.e9 (i:Nat) {x y:Operand} {t e':TypeId} {m:Int} (ho:δ.ob i=some (.fb e (kK hs ls))) (hx:δ.ev x=.pv (.lit (hs k))) (hy:δ.ev y=eU m) (ht:P.underlying t=some (.slice e')) (zx:(P.info? e').map (·.size)=some 1) (lL:fj x=true) (kS:fj y=true) (hd:fT δ.n dst=true)
  (h0:0≤m) (hn:m.toNat<(ls k).length) (hK:a_ q P g ops rest Q (δ.eW dst (.pv (.lit (n_ m.toNat (hs k)))))):a_ q P g ops (⟨dst,.indexAddr t x y,ty,pos,af,none⟩::rest) Q δ:=
 a_.F8 i k ho rfl hx (n:=m.toNat) (by rw[b9 h0];exact hy) (by rw[a6];exact hn) ht zx lL kS hd hK
theorem a_.xv (i:Nat) {x y:Operand} {t e':TypeId} {m:Int} {m0:Nat} (ho:δ.ob i=some (.fb e (kK hs ls))) (hx:δ.ev x=.pv (.lit (lI m0 (hs k)))) (hy:δ.ev y=eU m) (ht:P.underlying t=some (.slice e')) (zx:(P.info? e').map (·.size)=some 1) (lL:fj x=true) (kS:fj y=true) (hd:fT δ.n dst=true)
  (h0:0≤m) (hn:m0+m.toNat<(ls k).length) (hK:a_ q P g ops rest Q (δ.eW dst (.pv (.lit (n_ (m0+m.toNat) (hs k)))))):a_ q P g ops (⟨dst,.indexAddr t x y,ty,pos,af,none⟩::rest) Q δ:=
 a_.wF i k m0 ho rfl hx (n:=m.toNat) (by rw[b9 h0];exact hy) (by rw[a6];exact hn) ht zx lL kS hd hK
theorem a_.tT (i:Nat) {x:Operand} {t:TypeId} {n:Nat} (ho:δ.ob i=some (.fb e (kK hs ls))) (hx:δ.ev x=.pv (.lit (n_ n (hs k)))) (ht:ju P t=true) (lL:fj x=true) (hd:fT δ.n dst=true) (hq:q≠ .held)
  (hn:n<(ls k).length) (hK:a_ q P g ops rest Q (δ.eW dst (eU (ls k)[n]))):a_ q P g ops (⟨dst,.load t x,ty,pos,af,none⟩::rest) Q δ:=
 a_.Ja i k ho rfl hx (u:=vI (ls k)[n]) (by rw[a7,a8 hn];rfl) ht lL hd hq hK
theorem a_.lN (i:Nat) {x y:Operand} {t:TypeId} {n:Nat} {v:Int} (ho:δ.ob i=some (.fb e (kK hs ls))) (hx:δ.ev x=.pv (.lit (n_ n (hs k)))) (hy:δ.ev y=eU v) (ht:(P.info? t).map (·.size)=some 1) (lL:fj x=true) (kS:fj y=true) (hd:fT δ.n dst=true)
  (hn:n<(ls k).length) (hK:a_ .plain P g ops rest Q ((δ.gu i (some (.fb e (kK hs (e_ ls k ((ls k).set n v)))))).eW dst .any)):a_ .plain P g ops (⟨dst,.store t x y,ty,pos,af,none⟩::rest) Q δ:=
 a_.tz i k ho rfl hx (by rw[a6];exact hn) hy rfl ht lL kS hd (by rw[vU hs ls k ((ls k).set n v) (by rw[List.map_set])];exact hK)
theorem a_.uR (i:Nat) {t e':TypeId} {x y:Operand} {m:Int} (ho:δ.ob i=some (.fb e (kK hs ls))) (hx:δ.ev x=.pv (.lit (hs k))) (hy:δ.ev y=eU m) (ht:P.underlying t=some (.slice e')) (zx:(P.info? e').map (·.size)=some 1) (lL:fj x=true) (kS:fj y=true) (hd:fT δ.n dst=true)
  (h0:0≤m) (hm:m.toNat≤(ls k).length) (hK:a_ q P g ops rest Q (δ.eW dst (.pv (.lit (jw m.toNat (hs k)))))):a_ q P g ops (⟨dst,.slice t x none (some y) none,ty,pos,af,none⟩::rest) Q δ:=
 a_.Gf i k m.toNat ho rfl hx (by rw[b9 h0];exact hy) (by rw[a6];exact hm) ht zx lL kS hd hK
theorem a_.yD (i:Nat) {t e':TypeId} {x y:Operand} {m:Int} (ho:δ.ob i=some (.fb e (kK hs ls))) (hx:δ.ev x=.pv (.lit (hs k))) (hy:δ.ev y=eU m) (ht:P.underlying t=some (.slice e')) (zx:(P.info? e').map (·.size)=some 1) (lL:fj x=true) (kS:fj y=true) (hd:fT δ.n dst=true)
  (h0:0≤m) (hm:m.toNat≤(ls k).length) (hK:a_ q P g ops rest Q (δ.eW dst (.pv (.lit (lI m.toNat (hs k)))))):a_ q P g ops (⟨dst,.slice t x (some y) none none,ty,pos,af,none⟩::rest) Q δ:=
 a_.Ih i k m.toNat ho rfl hx (by rw[b9 h0];exact hy) (by rw[a6];exact hm) ht zx lL kS hd hK
theorem a_.FY (i:Nat) {x:Operand} {t e':TypeId} {m:Nat} (ho:δ.ob i=some (.fb e (kK hs ls))) (hx:δ.ev x=.pv (.lit (jw m (hs k)))) (ht:P.underlying t=some (.slice e')) (lL:fj x=true) (hd:fT δ.n dst=true) (hm:m≤(ls k).length)
  (hK:a_ q P g ops rest Q (δ.eW dst (eU (m:Nat)))):a_ q P g ops (⟨dst,.call {callee:=.builtin .len,args:= #[x],argTypes:= #[t]},ty,pos,af,none⟩::rest) Q δ:=
 a_.jG _ hd (fun κ a w r=>by
  have h0:=ib r ho k
  unfold kK at h0
  simp only[a6] at h0
  have hv:a.eval x=jw m (hs k):=r.lit hx lL
  rcases h0.2 with ⟨h1,h2⟩|⟨b,cap,cur,h1,_⟩
  ·rw[h1] at hv
   exact⟨_,fun w' _=>run_len_slice ht x a.eval none _ 0 hv w',.pv (.lit _)⟩
  ·rw[h1] at hv
   exact⟨_,fun w' _=>run_len_slice ht x a.eval _ _ cap hv w',.pv (.lit _)⟩) hK
theorem a_.Bl (i:Nat) {x y:Operand} {t e':TypeId} {m:Int} {m0:Nat} (ho:δ.ob i=some (.fb e (kK hs ls))) (hx:δ.ev x=.pv (.lit (jw m0 (hs k)))) (hy:δ.ev y=eU m) (ht:P.underlying t=some (.slice e')) (zx:(P.info? e').map (·.size)=some 1) (lL:fj x=true) (kS:fj y=true) (hd:fT δ.n dst=true)
  (h0:0≤m) (hn:m.toNat<m0) (He:m0≤(ls k).length) (hK:a_ q P g ops rest Q (δ.eW dst (.pv (.lit (n_ m.toNat (hs k)))))):a_ q P g ops (⟨dst,.indexAddr t x y,ty,pos,af,none⟩::rest) Q δ:=
 a_.jG _ hd (fun κ a w r=>by
  have Cm:=ib r ho k
  unfold kK at Cm
  simp only[a6] at Cm
  have hv:a.eval x=jw m0 (hs k):=r.lit hx lL
  rcases Cm.2 with ⟨h1,h2⟩|⟨b,cap,cur,h1,_⟩
  ·exfalso;omega
  ·rw[h1] at hv ⊢
   refine⟨_,fun w' _=>?_,.pv (.lit _)⟩
   have:=iR (dst:=dst) (ty:=ty) (pos:=pos) (af:=af) ht zx hv (n:=m.toNat) (by rw[b9 h0];exact r.lit hy kS) hn w'
   rw[cK] at this
   exact this) hK
theorem a_.Gn (i:Nat) {s x:Operand} {t:TypeId} {bytes:Nat} {z:Value} {us:List Int} {fa:List (List PV)} (ho:δ.ob i=some (.fb e (kK hs ls))) (Jv:δ.ev s=.pv (.lit (hs k))) (hx:qy δ x 1 fa) (he:fa=us.map fun u=>[.lit (vI u)]) (ht:P.underlying t=some (.slice e)) (hi:(P.info? e).map (fun i=>(i.size,i.zero,i.bytes))=some (1,some z,bytes)) (Bu:z.oneCell'=true) (qt:fj s=true) (lL:fj x=true) (hd:fT δ.n dst=true)
  (Ft:bz bytes 64=true) (hl:(ls k).length+us.length≤1000000000) (hK:∀v',v'.oneCell'=true→a_ .plain P g ops rest Q ((δ.gu i (some (.fb e (kK (e_ hs k v') (e_ ls k (ls k++us)))))).eW dst (.pv (.lit v')))):a_ .plain P g ops (⟨dst,.call {callee:=.builtin .append,args:= #[s,x],argTypes:= #[t,t]},ty,pos,af,none⟩::rest) Q δ:=by
 have h64:bytes≤64:=by simpa using Ft
 refine a_.DO i k ho rfl Jv (us:=us.map vI) (.src hx (by rw[he,cB];rfl)) ht hi Bu qt lL hd ?_ (by simp only[a6];omega) fun v'=>?_
 ·simp only[a6]
  have:((ls k).length+us.length)*bytes≤1000000000*64:=Nat.mul_le_mul hl h64
  omega
 ·rw[qW hs ls k v' (ls k++us) (by rw[cR])]
  intro κ a w r
  refine hK v' ?_ κ a w r
  have h0:=ib r (i:=i) (rows:=kK (e_ hs k v') (e_ ls k (ls k++us))) (e:=e) (by cases dst<;>exact(jW _ _ _ _).trans (if_pos rfl)) k
  unfold kK at h0
  simp only[e7] at h0
  rcases h0.2 with ⟨h1,_⟩|⟨b,cap,cur,h1,_⟩<;>rw[h1]<;>rfl
theorem a_.mL (i:Nat) {s x:Operand} {t:TypeId} {bytes:Nat} {z:Value} {u:Int} {fa:List (List PV)} (ho:δ.ob i=some (.fb e (kK hs ls))) (Jv:δ.ev s=.pv (.lit (hs k))) (hx:qy δ x 1 fa) (he:fa=[[.lit (vI u)]]) (ht:P.underlying t=some (.slice e)) (hi:(P.info? e).map (fun i=>(i.size,i.zero,i.bytes))=some (1,some z,bytes)) (Bu:z.oneCell'=true) (qt:fj s=true) (lL:fj x=true) (hd:fT δ.n dst=true)
  (Ft:bz bytes 64=true) (hl:(ls k).length+1≤1000000000) (hK:∀v',v'.oneCell'=true→a_ .plain P g ops rest Q ((δ.gu i (some (.fb e (kK (e_ hs k v') (e_ ls k (ls k++ [u])))))).eW dst (.pv (.lit v')))):a_ .plain P g ops (⟨dst,.call {callee:=.builtin .append,args:= #[s,x],argTypes:= #[t,t]},ty,pos,af,none⟩::rest) Q δ:=
 a_.Gn i (us:=[u]) ho Jv hx he ht hi Bu qt lL hd Ft hl hK
theorem a_.ze (i m:Nat) {s x:Operand} {t:TypeId} {bytes:Nat} {z:Value} {us:List Int} {fa:List (List PV)} (ho:δ.ob i=some (.fb e (kK hs ls))) (Jv:δ.ev s=.pv (.lit (jw m (hs k)))) (hx:qy δ x 1 fa) (he:fa=us.map fun u=>[.lit (vI u)]) (ht:P.underlying t=some (.slice e)) (hi:(P.info? e).map (fun i=>(i.size,i.zero,i.bytes))=some (1,some z,bytes)) (qt:fj s=true) (lL:fj x=true) (hd:fT δ.n dst=true)
  (lQ:m+us.length≤(ls k).length) (gn:ls k≠ []) (hK:a_ .plain P g ops rest Q ((δ.gu i (some (.fb e (kK hs (e_ ls k ((ls k).take m++us++(ls k).drop (m+us.length))))))).eW dst (.pv (.lit (jw (m+us.length) (hs k)))))):a_ .plain P g ops (⟨dst,.call {callee:=.builtin .append,args:= #[s,x],argTypes:= #[t,t]},ty,pos,af,none⟩::rest) Q δ:=
 a_.rE i k m ho rfl Jv (us:=us.map vI) (.src hx (by rw[he,cB];rfl)) (by simp only[a6];exact lQ) (by simpa using gn) ht hi qt lL hd (by
  rw[vU hs ls k ((ls k).take m++us++(ls k).drop (m+us.length)) (by simp [cS,cT]),a6];exact hK)
theorem a_.jO (i:Nat) {m:Nat} {s x:Operand} {t:TypeId} {bytes:Nat} {z:Value} {u:Int} {fa:List (List PV)} (ho:δ.ob i=some (.fb e (kK hs ls))) (Jv:δ.ev s=.pv (.lit (jw m (hs k)))) (hx:qy δ x 1 fa) (he:fa=[[.lit (vI u)]]) (ht:P.underlying t=some (.slice e)) (hi:(P.info? e).map (fun i=>(i.size,i.zero,i.bytes))=some (1,some z,bytes)) (qt:fj s=true) (lL:fj x=true) (hd:fT δ.n dst=true)
  (lQ:m+1≤(ls k).length) (hK:a_ .plain P g ops rest Q ((δ.gu i (some (.fb e (kK hs (e_ ls k ((ls k).set m u)))))).eW dst (.pv (.lit (jw (m+1) (hs k)))))):a_ .plain P g ops (⟨dst,.call {callee:=.builtin .append,args:= #[s,x],argTypes:= #[t,t]},ty,pos,af,none⟩::rest) Q δ:=
 a_.ze i m (us:=[u]) ho Jv hx he ht hi qt lL hd lQ (by intro h;rw[h] at lQ;simp at lQ) (by
  have e1:(ls k).take m++ [u]++(ls k).drop (m+ [u].length)=(ls k).set m u:=by
   rw[List.set_eq_take_append_cons_drop,if_pos aJ];simp
  rw[e1];exact hK)
theorem a_.qe (i m m':Nat) {s x:Operand} {t:TypeId} {bytes:Nat} {z:Value} (ho:δ.ob i=some (.fb e (kK hs ls))) (Jv:δ.ev s=.pv (.lit (jw m (hs k)))) (hx:δ.ev x=.pv (.lit (lI m' (hs k)))) (ht:P.underlying t=some (.slice e)) (hi:(P.info? e).map (fun i=>(i.size,i.zero,i.bytes))=some (1,some z,bytes)) (qt:fj s=true) (lL:fj x=true) (hd:fT δ.n dst=true)
  (lQ:m≤m') (hm':m'≤(ls k).length) (gn:ls k≠ []) (hK:a_ .plain P g ops rest Q ((δ.gu i (some (.fb e (kK hs (e_ ls k ((ls k).take m++(ls k).drop m'++(ls k).drop (m+((ls k).length - m')))))))).eW dst (.pv (.lit (jw (m+((ls k).length - m')) (hs k)))))):a_ .plain P g ops (⟨dst,.call {callee:=.builtin .append,args:= #[s,x],argTypes:= #[t,t]},ty,pos,af,none⟩::rest) Q δ:=
 a_.rE i k m ho rfl Jv (us:=((ls k).map vI).drop m') (.tail ho rfl (by simp only[a6];exact hm') hx (by simpa using gn)) (by simp only[a6,cV];omega) (by simpa using gn) ht hi qt lL hd (by
  have e1:(((ls k).map vI).drop m').length=(ls k).length - m':=by simp
  rw[e1,vU hs ls k ((ls k).take m++(ls k).drop m'++(ls k).drop (m+((ls k).length - m'))) (by simp [cS,cT])];exact hK)
end
def gG (n:Nat) (h:Nat→Value):List (List PV):=(bc n).map fun j=>[.lit (h j)]
theorem lZ (n:Nat) (h:Nat→Value):(gG n h).length=n:=by simp [gG]
theorem Ki {n k:Nat} (h:Nat→Value) (hk:k<n):(gG n h)[k]? =some [.lit (h k)]:=by simp [gG,hk]
theorem fZ {n k:Nat} (h:Nat→Value) (hk:k<n) (v:Value):(gG n h).set k [.lit v]=gG n (e_ h k v):=by
 apply cN (by simp [gG])
 intro j h1 h2
 have hj:j<n:=by simpa [gG] using h1
 rw[List.getElem_set]
 simp only[gG,List.getElem_map,List.getElem_range]
 by_cases e:k=j
 ·subst e;rw[if_pos rfl,e7]
 ·rw[if_neg e,fC _ _ (Ne.symm e)]
theorem fB (n:Nat) (h:Nat→Value):gG n h++ [[.lit (h n)]]=gG (n+1) h:=by
 simp only[gG,List.range_succ,cR,bB,b8]
theorem a_.lZ {x:Operand} {t e e':TypeId} {i n:Nat} {h:Nat→Value} (hx:δ.ev x=.own i e' 1 (gG n h)) (ht:P.underlying t=some (.slice e)) (ho:fj x=true) (hd:fT δ.n dst=true)
  (hK:a_ q P g ops rest Q (δ.eW dst (eU (n:Nat)))):a_ q P g ops (⟨dst,.call {callee:=.builtin .len,args:= #[x],argTypes:= #[t]},ty,pos,af,none⟩::rest) Q δ:=
 a_.GR hx ht ho hd (by rw[Go.Ab.lZ];exact hK)
theorem a_.FC {x y:Operand} {t e e':TypeId} {i n:Nat} {m:Int} {h:Nat→Value} (hx:δ.ev x=.own i e' 1 (gG n h)) (hy:δ.ev y=eU m) (ht:P.underlying t=some (.slice e)) (hk:(P.info? e).map (·.size)=some 1) (ho:fj x=true) (ga:fj y=true) (hd:fT δ.n dst=true) (h0:0≤m) (hn:m.toNat<n)
  (hK:a_ q P g ops rest Q (δ.eW dst (.gX i e' 1 (gG n h) m.toNat))):a_ q P g ops (⟨dst,.indexAddr t x y,ty,pos,af,none⟩::rest) Q δ:=
 a_.r6 (n:=m.toNat) hx (by rw[b9 h0];exact hy) (by rw[Go.Ab.lZ];exact hn) ht hk ho ga hd hK
theorem a_.jP {x:Operand} {t e:TypeId} {i n m:Nat} {h:Nat→Value} (hx:δ.ev x=.gX i e 1 (gG n h) m) (ht:ju P t=true) (ho:fj x=true) (hd:fT δ.n dst=true) (hq:q≠ .held) (hn:m<n)
  (hK:a_ q P g ops rest Q (δ.eW dst (.pv (.lit (h m))))):a_ q P g ops (⟨dst,.load t x,ty,pos,af,none⟩::rest) Q δ:=
 a_.G7 hq hx (Ki h hn) ht ho hd hK
theorem AW.Ai {c:Code} (i j k t:Nat) {e:TypeId} {hs:Nat→Value} {ls:Nat→List Int} {us:List Int} {fa:List (List PV)} (ho:δ.ob i=some (.fb e (kK hs ls))) (hj:δ.ob j=some .row) (ht:δ.get t=.own j e 1 fa) (he:fa=us.map fun u=>[.lit (vI u)]) (hk:hs k=.slice none 0 0)
  (hK:∀v,v.oneCell'=true→AW P g c Q (((δ.gU (AV.kill j)).gu i (some (.fb e (kK (e_ hs k v) (e_ ls k us))))).put t (.pv (.lit v)))):AW P g c Q δ:=
 AW.tk i j k t (us:=us.map vI) ho hj ht (by rw[he,cB];rfl) hk fun v=>by
  rw[qW hs ls k v us rfl]
  intro κ a w r
  refine hK v ?_ κ a w r
  have h0:=ib r (i:=i) (rows:=kK (e_ hs k v) (e_ ls k us)) (e:=e) (by show((δ.gU (AV.kill j)).gu i _).ob i=_;rw[jW,if_pos rfl]) k
  unfold kK at h0
  simp only[e7] at h0
  rcases h0.2 with ⟨h1,_⟩|⟨b,cap,cur,h1,_⟩<;>rw[h1]<;>rfl
theorem AW.ta {c:Code} (i k m:Nat) {e:TypeId} {hs:Nat→Value} {ls:Nat→List Int} (ho:δ.ob i=some (.fb e (kK hs ls))) (hm:m≤(ls k).length) (hK:AW P g c Q (δ.gu i (some (.fb e (kK (e_ hs k (jw m (hs k))) (e_ ls k ((ls k).take m))))))):AW P g c Q δ:=
 AW.DL i k m ho rfl (by rw[a6];exact hm) (by rw[qW hs ls k _ ((ls k).take m) (by rw[cS])];exact hK)
theorem AW.BD {c:Code} (e:TypeId) (hK:AW P g c Q (δ.fQ (.fb e (kK (fun _=> .slice none 0 0) fun _=>[])))):AW P g c Q δ:=AW.yL e hK
theorem AW.vZ (id i k m:Nat) {b:Bool} {l:Array Oper} {e:TypeId} {hs:Nat→Value} {ls:Nat→List Int} (ho:δ.ob i=some (.fb e (kK hs ls))) (hm:m≤(ls k).length) (hK:AW P g (.region id l b) Q (δ.gu i (some (.fb e (kK (e_ hs k (jw m (hs k))) (e_ ls k ((ls k).take m))))))):AW P g (.region id l b) Q δ:=
 AW.ta i k m ho hm hK
theorem CA (r:Rel g δ κ a w) {i:Nat} {e:TypeId} {hs:Nat→Value} {ls:Nat→List Int} (ho:δ.ob i=some (.fb e (kK hs ls))) (k m:Nat):(hs k).oneCell'=true∧(jw m (hs k)).oneCell'=true:=by
 have h0:=ib r ho k
 unfold kK at h0
 simp only at h0
 rcases h0.2 with ⟨h1,_⟩|⟨b,cap,cur,h1,_⟩<;>rw[h1]<;>exact⟨rfl,rfl⟩
theorem AW.Cc {c:Code} (i:Nat) {e:TypeId} {hs:Nat→Value} {ls:Nat→List Int} (ho:δ.ob i=some (.fb e (kK hs ls))) (hK:(∀k,(hs k).oneCell'=true)→(∀k m,(jw m (hs k)).oneCell'=true)→AW P g c Q δ):AW P g c Q δ:=fun κ a w r=>
 hK (fun k=>(CA r ho k 0).1) (fun k m=>(CA r ho k m).2) κ a w r
theorem WV.fm {δ δ':DS} {u v:Value} (h:u=v):WV δ δ' (.pv (.lit u)) (.pv (.lit v)):=.eq (by rw[h]) rfl
namespace Nf
variable {i n j:Nat} {c:List PV}
theorem WM:AV.nt i n c .any=.any:=rfl
theorem ZV (p:PV):AV.nt i n c (.pv p)=.pv p:=rfl
theorem Ur (a b:Nat):AV.nt i n c (.ptr a b)=.ptr a b:=rfl
theorem RC (d:List PV):AV.nt i n c (.gf d)=.gf d:=rfl
theorem Sy (a:Nat):AV.nt i n c (.gx a)=.gx a:=rfl
theorem UI (a:Nat):AV.nt i n c (.lT a)=.lT a:=rfl
theorem Uw (e fa):AV.nt i n c (.own j e 1 fa)=bif aL i j then .own j e 1 (fa.set n c) else .own j e 1 fa:=rfl
theorem R0 (e fa):AV.nt i n c (.own j e 3 fa)=bif aL i j then .any else .own j e 3 fa:=rfl
theorem R8 (e k fa m):AV.nt i n c (.gX j e k fa m)=bif aL i j then .any else .gX j e k fa m:=rfl
theorem Vi (cs:List AV):AV.nt i n c (.agg cs)=.agg (mr (AV.nt i n c) cs):=by
 show AV.agg (AV.Fv (sZ i n c) cs)=_
 rw[AV.jX]
 congr 1
 induction cs with
 |nil=>rfl
 |cons a r ih=>rw[bB,ih];rfl
theorem Ud (cs:List AV):AV.nt i n c (.gY cs)=.gY (mr (AV.nt i n c) cs):=by
 show AV.gY (AV.Fv (sZ i n c) cs)=_
 rw[AV.jX]
 congr 1
 induction cs with
 |nil=>rfl
 |cons a r ih=>rw[bB,ih];rfl
set_option linter.defProp false in
def X8:=And.intro @WM (And.intro @ZV (And.intro @Ur (And.intro @RC (And.intro @Sy (And.intro @UI (And.intro @Uw (And.intro @R0 (And.intro @R8 (And.intro @Vi @Ud)))))))))
end Nf
end Go.Ab
/- An index into an own row of any form. -/
namespace Go.Ab
open Go Go.RowKit
variable {q:Md} {P:Program} {g:eZ} {δ:DS} {ops:Array Oper} {rest:List Oper} {Q:Exit→DS→Prop} {dst:Option Nat} {ty:TypeId} {pos:String} {af:Array Edge}
theorem a_.yT {x y:Operand} {t e e':TypeId} {i k:Nat} {m:Int} {fa:List (List PV)} (hx:δ.ev x=.own i e' k fa) (hy:δ.ev y=eU m)
  (ht:P.underlying t=some (.slice e)) (hk:(P.info? e).map (·.size)=some k) (ho:fj x=true) (ga:fj y=true) (hd:fT δ.n dst=true) (h0:0≤m) (hn:m.toNat<fa.length)
  (hK:a_ q P g ops rest Q (δ.eW dst (.gX i e' k fa m.toNat))):a_ q P g ops (⟨dst,.indexAddr t x y,ty,pos,af,none⟩::rest) Q δ:=
 a_.r6 (n:=m.toNat) hx (by rw[hy];show eU m=eU _;rw[b9 h0]) hn ht hk ho ga hd hK
end Go.Ab
/- Pools of numbers:a row forgotten;a row appended to a row of the walk's own. -/
namespace Go.Ab
open Go Go.RowKit
variable {q:Md} {P:Program} {g:eZ} {δ:DS} {κ:Kp} {a:Act} {w:World} {Q:Exit→DS→Prop}
variable {ops:Array Oper} {rest:List Oper} {dst:Option Nat} {ty:TypeId} {pos:String} {af:Array Edge} {gd:Option (Tmp×Bool)}
theorem AW.Mg {c:Code} (i k:Nat) {e:TypeId} {hs:Nat→Value} {ls:Nat→List Int} (ho:δ.ob i=some (.fb e (kK hs ls))) (hK:AW P g c Q (δ.gu i (some (.fb e (kK (e_ hs k (.slice none 0 0)) (e_ ls k [])))))):AW P g c Q δ:=fun κ a w r=>by
 obtain⟨κ',r',_⟩:=r.pc ho (k:=k) (w':=w) ⟨rfl,rfl,rfl,aP _,fun _ _ _=>rfl⟩ (v':=.slice none 0 0) (ys:=[]) ⟨by simp,.inl ⟨rfl,by simp⟩⟩ (by simp) (fun u hu=>by simp at hu) (fun b hb=>by cases hb)
 rw[qW hs ls k _ [] (ys:=[]) rfl] at r'
 exact hK κ' a w r'
theorem K_ (r:Rel g δ κ a w) {i k:Nat} {e:TypeId} {hs:Nat→Value} {ls:Nat→List Int} (ho:δ.ob i=some (.fb e (kK hs ls))) {x:Operand} (hx:δ.ev x=.pv (.lit (hs k))) (lL:fj x=true):Src (δ.cx g κ) w (a.eval x) 1 ((ls k).map fun u=>[.lit (vI u)]):=by
 have h0:=ib r ho k
 have hl:=((r.obj i _ ho).2.1 k).2.1
 unfold kK at h0 hl
 simp only[a6] at h0 hl
 have hv:a.eval x=hs k:=r.lit hx lL
 refine⟨by simpa using hl,fun c hc=>by obtain⟨u,_,rfl⟩:=bx.1 hc;rfl,?_⟩
 rw[a6]
 rcases h0.2 with ⟨h1,h2⟩|⟨b,cap,cur,h1,_,h3,hle,_,pI,tA⟩
 ·exact⟨none,0,by rw[hv,h1,h2],fun gn=>absurd (by rw[bk h2];rfl) gn⟩
 ·refine⟨_,_,by rw[hv,h1],fun gn=>⟨b,0,fun i _=>vI ((ls k).getD i 0),rfl,fun i j p hp=>?_⟩⟩
  rw[cK] at tA
  obtain⟨hi,hj⟩:i<(ls k).length∧j=0∧True:=by
   unfold cellAt at hp
   simp only[a7] at hp
   cases hq:(ls k)[i]? with
   |none=>rw[hq] at hp;simp at hp
   |some u=>
    refine⟨(aW.1 hq).1,?_,trivial⟩
    rw[hq] at hp
    cases j with
    |zero=>rfl
    |succ j=>simp at hp
  obtain⟨rfl,_⟩:=hj
  have Tz:p=.lit (vI (ls k)[i]):=by
   unfold cellAt at hp
   simp only[a7,a8 hi] at hp
   simpa using hp.symm
  subst Tz
  have hg:(ls k).getD i 0=(ls k)[i]:=by simp [List.getD_eq_getElem?_getD,hi]
  refine⟨?_,rfl,?_⟩
  ·rw[cell_of h3,← bC]
   show cur.toList[0+i*1+0]? =some (vI ((ls k).getD i 0))
   rw[hg,show 0+i*1+0=i by omega]
   have:=congrArg (·[i]?) tA
   simp only[bE,if_pos hi,a7,a8 hi] at this
   simpa using this
  ·show RP _ _ (vI ((ls k).getD i 0)) _
   rw[hg];exact .lit _
theorem a_.Dy (i0:Nat) {s x:Operand} {t e e0:TypeId} {i bytes k:Nat} {z:Value} {fa:List (List PV)} {hs:Nat→Value} {ls:Nat→List Int} (ho0:δ.ob i0=some (.fb e0 (kK hs ls))) (Jv:δ.ev s=.own i e 1 fa) (hx:δ.ev x=.pv (.lit (hs k))) (hr:δ.ob i=some .row) (ht:P.underlying t=some (.slice e))
  (hi:(P.info? e).map (fun i=>(i.size,i.zero,i.bytes))=some (1,some z,bytes)) (Ft:bz bytes 64=true) (mA:aL z.cells.size 1=true) (ho:fj s=true) (ga:fj x=true) (hd:fT δ.n dst=true)
  (hl:fa.length+(ls k).length≤1000000000000) (hK:a_ .plain P g ops rest Q ((δ.gU (AV.kill i)).eW dst (.own i e 1 (fa++(ls k).map fun u=>[.lit (vI u)])))):
  a_ .plain P g ops (⟨dst,.call {callee:=.builtin .append,args:= #[s,x],argTypes:= #[t,t]},ty,pos,af,none⟩::rest) Q δ:=
 a_.s6 rfl rfl (fun κ a w r=>by
  obtain⟨v',w',κ',h1,h2,h3⟩:=rB (ty:=ty) r hr (r.ra Jv ho).jv (K_ r ho0 hx ga) ht hi (aM mA) (by simp) (vw Ft (by rw[a6];exact hl)) (by rw[a6];omega)
  exact .inl ⟨_,_,_,_,o5 h1,.inl rfl,h2.eW (ft hd) (.own h3)⟩) hK
theorem a_.HK (i:Nat) {x y:Operand} {t e e' t':TypeId} {k:Nat} {hs:Nat→Value} {ls:Nat→List Int} (ho:δ.ob i=some (.fb e' (kK hs ls))) (hx:δ.ev x=.pv (.lit (hs k))) (hy:δ.ev y=.pv (.lit (.slice none 0 0))) (ht:P.underlying t=some (.slice e)) (lL:fj x=true) (kS:fj y=true) (hd:fT δ.n dst=true) (gn:0<(ls k).length)
  (hK:a_ q P g ops rest Q (δ.eW dst (fq false))):a_ q P g ops (⟨dst,.binOp .eql t x y t',ty,pos,af,none⟩::rest) Q δ:=
 a_.jG _ hd (fun κ a w r=>by
  have h0:=ib r ho k
  unfold kK at h0
  simp only[a6] at h0
  have hv:a.eval x=hs k:=r.lit hx lL
  have h2:=r.lit hy kS
  rcases h0.2 with ⟨_,h3⟩|⟨b,cap,cur,h1,_⟩
  ·exfalso;omega
  ·refine⟨.bool false,fun w' _=>?_,.pv (.lit _)⟩
   have:=tg ht x y (some ⟨b,0,none⟩) (ls k).length cap w'
   rw[h1] at hv
   simp only[execOp,hv,h2]
   simp only[Sem.run_bind,this,Result.andThen_ok] at*
   first|rfl|simp [this]) hK
end Go.Ab
/- A row of the walk's own with elements is not nil. -/
namespace Go.Ab
open Go Go.RowKit
variable {q:Md} {P:Program} {g:eZ} {δ:DS} {κ:Kp} {a:Act} {w:World} {Q:Exit→DS→Prop}
variable {ops:Array Oper} {rest:List Oper} {dst:Option Nat} {ty:TypeId} {pos:String} {af:Array Edge} {gd:Option (Tmp×Bool)}
theorem a_.I_ {x y:Operand} {t e e' t':TypeId} {i k:Nat} {fa:List (List PV)} (hx:δ.ev x=.own i e' k fa) (hy:δ.ev y=.pv (.lit (.slice none 0 0))) (ht:P.underlying t=some (.slice e)) (lL:fj x=true) (kS:fj y=true) (hd:fT δ.n dst=true) (gn:0<fa.length)
  (hK:a_ q P g ops rest Q (δ.eW dst (fq false))):a_ q P g ops (⟨dst,.binOp .eql t x y t',ty,pos,af,none⟩::rest) Q δ:=
 a_.jG _ hd (fun κ a w r=>by
  obtain⟨xs,⟨_,gR⟩,_⟩:=(r.ra hx lL).jv.row
  have h2:=r.lit hy kS
  rcases gR with ⟨_,h3⟩|⟨b,cap,cur,h1,_⟩
  ·exfalso;omega
  ·refine⟨.bool false,fun w' _=>?_,.pv (.lit _)⟩
   have:=tg ht x y (some ⟨b,0,none⟩) fa.length cap w'
   simp only[execOp,h1,h2]
   simp only[Sem.run_bind,this,Result.andThen_ok] at*
   first|rfl|simp [this]) hK
end Go.Ab
/- Contracts of functions that panic;an own panic. -/
namespace Go.Ab
open Go Go.RowKit
variable {q:Md} {P:Program} {g:eZ} {δ:DS} {κ:Kp} {a:Act} {w:World}
variable {ops:Array Oper} {rest:List Oper} {Q:Exit→DS→Prop} {dst:Option Nat} {ty:TypeId} {pos:String} {af:Array Edge}
theorem NM (jk:g.wt=none) (u0:g.base=[]) {fn:Func} {ch:List PanicEntry} {R:Ending→World→Prop}:∀{a:Act} {w:World},Rel g δ κ a w→
  (∀w2,Rel g δ κ {a with defers:=[]} w2→R (.panicked ch) w2)→LeavesInM Fence.wide 0 P fn a.tmps R a.defers (.panicking ch) w:=by
 intro a w r hR
 obtain⟨ms,h1,h2,h3⟩:=r.dfr
 rw[u0,bt] at h1
 rw[h1]
 induction ms generalizing a w with
 |nil=>
  have ra:Rel g δ κ {a with defers:=[]} w:={r with dfr:=⟨[],by rw[u0];rfl,h2,h3⟩,kZ:=fun d hd=>by cases hd}
  exact hR w ra
 |cons m ms ih=>
  refine⟨by simp,.inl ⟨m,_,rfl,run_takeDeferred (h3 m (by simp)).2,?_⟩⟩
  have hm:=h3 m (by simp)
  rw[bu] at h2
  have jg:=cX.1 h2
  have wq:∀k∈ms++g.mks,g.B≤k∧(w.putObj m (.deferred none)).heap[k]? =some (.deferred (some [])):=fun k hk=>
   ⟨(h3 k (by simp only[bu,bw];exact .inr hk)).1,by rw[World.putObj_heap_other (by intro e;subst e;exact jg.1 hk)];exact(h3 k (by simp only[bu,bw];exact .inr hk)).2⟩
  have hd:H2 g {a with defers:=ms.map fun r=>({target:=.collected r,args:= #[]}:Deferred)} (w.putObj m (.deferred none)):=⟨ms,by rw[u0,bt],jg.2,wq⟩
  have r2:=r.shut jk hm.1 hm.2 (a':={a with defers:=ms.map fun r=>({target:=.collected r,args:= #[]}:Deferred)}) rfl (fun d hd=>by rw[h1];exact bx.2 (let ⟨x,hx,e⟩:=bx.1 hd;⟨x,by simp [hx],e⟩)) (r.kZ {target:=.collected m,args:= #[]} (by rw[h1];exact bx.2 ⟨m,by simp,rfl⟩) m rfl) hd
  exact ih (a:={a with defers:=ms.map fun r=>({target:=.collected r,args:= #[]}:Deferred)}) r2 (fun w2 r3=>hR w2 r3) rfl jg.2 wq
theorem FnD.enter {T:World→Prop} {t:TypeId} {f:FuncId} {fn:Func} {c:Code} {n n0:Nat} {d_ e6:List (Nat×Option Ob)} {args:List AV} (hf:P.funcs[f]? =some fn) (hb:fn.body=some c) (hn:fn.ntmps=n) (Er:bz args.length n=true)
  (rh:bz n HS=true) (he:(fn.name== "runtime.NumGoroutine")=false) (u9:uh d_ d_=true) (ux:tL n0 e6=true)
  (h:∀g:eZ,g.ro=none→g.wt=none→TB T g→AW P g c (P8 t d_ e6) ⟨n,enum 0 args++ [(1000,.agg (gW d_))],d_,n0⟩):FnD T P t f n0 d_ args e6:=by
 refine xz.enter (Q:=P8 t d_ e6) hf hb hn Er rh he u9 (fun _=>ux) h fun g e δ' κ' a' w' R jk u0 hq r' hR=>?_
 cases e with
 |panic ch=>
  obtain⟨h1,h2,h3,h4⟩:=hq
  exact NM (g:=g) jk u0 r' fun w2 r2=>hR () h2 h3 h4 _ _ r2 ⟨ch,rfl,h1⟩
 |_=>exact hq.elim
theorem WV.lS {δ δ':DS} {cs ds:List AV} (h:EC δ δ' cs ds):WV δ δ' (.agg cs) (.agg ds):=by
 have key:∀{cs ds:List AV},EC δ δ' cs ds→cs.length=ds.length∧∀(j:Nat) (c d:AV),cs[j]? =some c→ds[j]? =some d→WV δ δ' c d:=by
  intro cs
  induction cs with
  |nil=>
   intro ds h
   cases ds with
   |nil=>exact⟨rfl,fun j c d h1=>by simp at h1⟩
   |cons d ds=>exact h.elim
  |cons c cs ih=>
   intro ds h
   cases ds with
   |nil=>exact h.elim
   |cons d ds=>
    obtain⟨h1,h2⟩:=h
    obtain⟨h3,h4⟩:=ih h2
    refine⟨by simp [h3],fun j c' d' h5 h6=>?_⟩
    cases j with
    |zero=>simp at h5 h6;subst h5;subst h6;exact h1
    |succ j=>exact h4 j c' d' (by simpa using h5) (by simpa using h6)
 exact .agg (key h).1 (key h).2
variable {k:Wt} {late:List Nat} {l:List Oper} {dn:List Nat} {QD:Exit→DS→Prop}
end Go.Ab
/- A strings.Builder's own steps:a variable told by its very cells and its type,pointers through unsafe.Pointer,pointers held against nil and themselves;String. -/
namespace Go.Ab
open Go Go.RowKit
variable {q:Md} {P:Program} {g:eZ} {δ:DS} {κ:Kp} {a:Act} {w:World}
variable {ops:Array Oper} {rest:List Oper} {Q:Exit→DS→Prop} {dst:Option Nat} {ty:TypeId} {pos:String} {af:Array Edge} {gd:Option (Tmp×Bool)}
theorem NA (op:BinOp) (t:TypeId) (x y:Operand) (u v:Option Addr) (w:World):(eqGuard op t x y (.pointer u) (.pointer v)).run P w=.ok () w:=by
 unfold eqGuard
 cases op<;>simp [Sem.run,pure,Sem.bind,bind]
theorem x5 {tp te:TypeId} (u:Option Addr) (hp:P.underlying tp=some (.pointer te)) (ZX:(P.info? te).isSome=true) (w:World):(Go.binOp .eql tp (.pointer u) (.pointer none)).run P w=.ok (.bool u.isNone) w:=by
 obtain⟨j,hj⟩:=Option.isSome_iff_exists.1 ZX
 have h:∀d:Nat,(Op.equalIn (d+1) tp (.pointer u) (.pointer none)).run P w=.ok u.isNone w:=fun d=>by
  cases u<;>simp [Op.equalIn,run_underlying hp,sizeOf,typeInfo,hj]
 simp only[Go.binOp]
 simp [Op.equal,Op.maxDepth,h 9999]
theorem a_.WK {x y:Operand} {t te t':TypeId} {i off:Nat} (hx:δ.ev x=.ptr i off) (hy:δ.ev y=.pv (.lit (.pointer none))) (hp:P.underlying t=some (.pointer te)) (ZX:(P.info? te).isSome=true) (ho:fj x=true) (ga:fj y=true) (hd:fT δ.n dst=true)
  (hK:a_ q P g ops rest Q (δ.eW dst (fq false))):a_ q P g ops (⟨dst,.binOp .eql t x y t',ty,pos,af,none⟩::rest) Q δ:=
 a_.jG _ hd (fun κ a w r=>⟨.bool false,fun w' _=>by
  have h1:=r.ra hx ho
  have h2:=r.lit hy ga
  generalize hv:a.eval x=v at h1
  cases h1 with
  | @ptr _ _ b hl hκ=>
   have:=x5 (P:=P) (some ⟨b,off,none⟩) hp ZX w'
   simp only[execOp,hv,h2,Sem.run_bind,NA,Result.andThen_ok,this]
   rfl,.pv (.lit _)⟩) hK
inductive KT:List Value→List AV→Prop
 |nil:KT [] []
 |cons {v:Value} {vs:List Value} {l:List AV} (h:KT vs l):KT (v::vs) (.pv (.lit v)::l)
theorem KT.eq {vs:List Value} {l:List AV} (h:KT vs l):vs.map (fun u=> .pv (.lit u))=l:=by
 induction h with
 |nil=>rfl
 |cons h ih=>rw[bB,ih]
end Go.Ab
/- strings.Builder's String over objects. -/
set_option maxHeartbeats 1000000
set_option maxRecDepth 100000
namespace Go.Ab
open Go Go.RowKit Go.Proofs Go.Shelf
variable {P:Program} {ρ:Ren}
end Go.Ab
/- A function that defers a closure over two of its variables,which recovers. -/
namespace Go.Ab
open Go Go.RowKit
variable {P:Program} {g:eZ} {δ:DS} {κ:Kp} {a:Act} {w:World} {Q:Exit→DS→Prop}
def AWr (P:Program) (g:eZ) (c:Code) (R:Exit→Act→World→Prop) (δ:DS):Prop:=∀κ a w,Rel g δ κ a w→c.wpIn (Fw g.ro) 0 P R a w
theorem AWr.of {c:Code} {R:Exit→Act→World→Prop} (h:AW P g c Q δ) (hR:∀e a w,lift g Q e a w→R e a w):AWr P g c R δ:=fun κ a w r=>wpIn_mono (h κ a w r) hR
def Y9 (P:Program) (g:eZ) (c:Code) (R:Exit→Act→World→Prop) (δ:DS):Prop:=∀κ a w,a.defers=[]→Rel g δ κ a w→c.wpIn (Fw g.ro) 0 P R a w
def Tw (P:Program) (g:eZ) (ops:Array Oper) (l:List Oper) (c:Code) (R:Exit→Act→World→Prop) (δ:DS):Prop:=∀κ a w,a.defers=[]→Rel g δ κ a w→wpListIn (Fw g.ro) 0 P ops (Exit.then (c.wpIn (Fw g.ro) 0 P R) R) l a w
theorem Y9.region {id:Nat} {l:List Oper} {c:Code} {R:Exit→Act→World→Prop} (h:Tw P g l.toArray l c R δ):Y9 P g (.seq (.region id l.toArray false) c) R δ:=
 fun κ a w ha r=>wpIn_seq (wpIn_region_lit (h κ a w ha r))
theorem Tw.nil {ops:Array Oper} {c:Code} {R:Exit→Act→World→Prop} (h:Y9 P g c R δ):Tw P g ops [] c R δ:=fun κ a w ha r=>by
 unfold wpListIn
 exact h κ a w ha r
theorem Tw.s6 {ops:Array Oper} {o:Oper} {rest:List Oper} {c:Code} {R:Exit→Act→World→Prop} {δ':DS} (hg:o.guard=none) (jg:ka o=true) (h:iV P g o δ δ') (hc:∀(a:Act) (w:World) f vals,(execOp a.eval o).run P w≠ .ok (.enter f vals) w) (hK:Tw P g ops rest c R δ'):Tw P g ops (o::rest) c R δ:=by
 intro κ a w ha r
 refine gF hg jg fun K oA=>?_
 unfold Oper.y9
 rcases h κ a w r with ⟨x,v,w',κ',fF,hx,r'⟩|⟨f,vals,fF,_⟩
 ·rw[fF]
  rcases hx with rfl|⟨rfl,rfl⟩
  ·simp only[Oper.uponIn]
   exact oA _ _ (hK κ' _ _ (by cases o.dst<;>exact ha) r')
  ·simp only[Oper.uponIn]
   exact oA _ _ (hK κ' _ _ (by cases o.dst<;>exact ha) r')
 ·exact absurd fF (hc _ _ _ _)
theorem E5 (jk:g.wt=none) {fn:Func} {u:FrameMode} (hu:u≠ .run) {R:Ending→World→Prop}:∀{a:Act} {w:World},Rel g δ κ a w→
  (∀w2,Rel g δ κ {a with defers:=g.base} w2→LeavesInM Fence.wide 0 P fn a.tmps R g.base u w2)→LeavesInM Fence.wide 0 P fn a.tmps R a.defers u w:=by
 intro a w r hR
 obtain⟨ms,h1,h2,h3⟩:=r.dfr
 rw[h1]
 induction ms generalizing a w with
 |nil=>
  have ra:Rel g δ κ {a with defers:=g.base} w:={r with dfr:=⟨[],rfl,h2,h3⟩,kZ:=fun d hd=>r.kZ d (by rw[h1];exact hd)}
  exact hR w ra
 |cons m ms ih=>
  refine⟨hu,.inl ⟨m,_,rfl,run_takeDeferred (h3 m (by simp)).2,?_⟩⟩
  have hm:=h3 m (by simp)
  rw[bu] at h2
  have jg:=cX.1 h2
  have wq:∀k∈ms++g.mks,g.B≤k∧(w.putObj m (.deferred none)).heap[k]? =some (.deferred (some [])):=fun k hk=>
   ⟨(h3 k (by simp only[bu,bw];exact .inr hk)).1,by rw[World.putObj_heap_other (by intro e;subst e;exact jg.1 hk)];exact(h3 k (by simp only[bu,bw];exact .inr hk)).2⟩
  have hd:H2 g {a with defers:=(ms.map fun r=>({target:=.collected r,args:= #[]}:Deferred))++g.base} (w.putObj m (.deferred none)):=⟨ms,rfl,jg.2,wq⟩
  have r2:=r.shut jk hm.1 hm.2 (a':={a with defers:=(ms.map fun r=>({target:=.collected r,args:= #[]}:Deferred))++g.base}) rfl (fun d hd=>by rw[h1,bB,bu];exact List.mem_cons_of_mem _ hd) (r.kZ {target:=.collected m,args:= #[]} (by rw[h1];simp) m rfl) hd
  exact ih (a:={a with defers:=(ms.map fun r=>({target:=.collected r,args:= #[]}:Deferred))++g.base}) r2 (fun w2 r3=>hR w2 r3) rfl jg.2 wq
end Go.Ab
/- Functions of four results whose outcome is told by a relation. -/
namespace Go.Ab
open Go Go.RowKit
variable {P:Program} {g:eZ} {δ:DS} {κ:Kp} {a:Act} {w:World}
inductive Ej (P:Program) (δ:DS):List ResultVar→AV→Prop
 |four {r1 r2 r3 r4:ResultVar} {v1 v2 v3 v4:AV} (h1:pw P δ r1 v1) (h2:pw P δ r2 v2) (h3:pw P δ r3 v3) (h4:pw P δ r4 v4):Ej P δ [r1,r2,r3,r4] (.gY [v1,v2,v3,v4])
theorem Oy {C:Cx} {w:World} {u1 u2 u3 u4:Value} {v1 v2 v3 v4:AV} (h1:RA C w u1 v1) (h2:RA C w u2 v2) (h3:RA C w u3 v3) (h4:RA C w u4 v4):RA C w (.tuple #[u1,u2,u3,u4]) (.gY [v1,v2,v3,v4]):=by
 refine .gY rfl fun j u c k1 k2=>?_
 match j with
 |0=>simp at k1 k2;subst k1;subst k2;exact h1
 |1=>simp at k1 k2;subst k1;subst k2;exact h2
 |2=>simp at k1 k2;subst k1;subst k2;exact h3
 |3=>simp at k1 k2;subst k1;subst k2;exact h4
 |j+4=>simp at k2
theorem Ej.run {fn:Func} {rs:List ResultVar} (uG:fn.results=rs.toArray) {v:AV} (h:Ej P δ rs v) (r:Rel g δ κ a w):∃u,(results fn a.tmps).run P w=.ok u w∧RA (δ.cx g κ) w u v:=by
 rw[yB (P:=P),uG]
 cases h with
 |four h1 h2 h3 h4=>
  obtain⟨u1,h1,k1⟩:=h1.run r
  obtain⟨u2,h2,k2⟩:=h2.run r
  obtain⟨u3,h3,k3⟩:=h3.run r
  obtain⟨u4,h4,k4⟩:=h4.run r
  exact⟨.tuple #[u1,u2,u3,u4],by simp [Array.mapM_eq_foldlM,h1,h2,h3,h4],Oy k1 k2 k3 k4⟩
theorem Ps (jk:g.wt=none) (u0:g.base=[]) {fn:Func} {rs:List ResultVar} (uG:fn.results=rs.toArray) {v:AV} (h:Ej P δ rs v) {R:Ending→World→Prop} {a:Act} {w:World} (r:Rel g δ κ a w)
  (hR:∀w2,Rel g δ κ {a with defers:=[]} w2→∀u,RA (δ.cx g κ) w2 u v→R (.returned u) w2):LeavesInM Fence.wide 0 P fn a.tmps R a.defers .returning w:=by
 refine E5 jk (by simp) r fun w2 r2=>?_
 rw[u0]
 rw[u0] at r2
 obtain⟨u,h4,h5⟩:=h.run uG r2
 exact⟨u,h4,hR w2 r2 u h5⟩
def BN {α:Type} (P:Program) (rs:List ResultVar) (d_:List (Nat×Option Ob)) (p:α→Prop) (e6:α→List (Nat×Option Ob)) (r:α→AV):Exit→DS→Prop
 |.normal,δ|.ret,δ=>∃x,p x∧∃v,Ej P δ rs v∧WV δ (XF δ d_ (e6 x)) v (r x)∧WV δ (XF δ d_ (e6 x)) (δ.get 1000) (.agg (gW d_))∧pt δ (XF δ d_ (e6 x)) (e6 x)∧tL δ.nx (e6 x)=true
 |_,_=>False
theorem Gi {α:Type} {rs:List ResultVar} {d_:List (Nat×Option Ob)} {p:α→Prop} {e6:α→List (Nat×Option Ob)} {r:α→AV} {v:AV} (x:α) (hp:p x) (h:Ej P δ rs v) (hw:EC δ (XF δ d_ (e6 x)) [v,δ.get 1000] [r x,.agg (gW d_)]) (ho:pt δ (XF δ d_ (e6 x)) (e6 x)) (hx:tL δ.nx (e6 x)=true):BN P rs d_ p e6 r .ret δ:=⟨x,hp,v,h,hw.1,hw.2.1,ho,hx⟩
theorem vo.R7 {α:Type} {f:FuncId} {fn:Func} {c:Code} {rs:List ResultVar} {n n0:Nat} {d_:List (Nat×Option Ob)} {args:List AV} {p:α→Prop} {e6:α→List (Nat×Option Ob)} {r:α→AV} (hf:P.funcs[f]? =some fn) (hb:fn.body=some c) (uG:fn.results=rs.toArray) (hn:fn.ntmps=n) (Er:bz args.length n=true)
  (rh:bz n HS=true) (he:(fn.name== "runtime.NumGoroutine")=false) (u9:uh d_ d_=true) (ux:∀x,tL n0 (e6 x)=true)
  (h:∀g:eZ,g.ro=none→g.wt=none→AW P g c (BN P rs d_ p e6 r) ⟨n,enum 0 args++ [(1000,.agg (gW d_))],d_,n0⟩):vo P f n0 d_ args p e6 r:=by
 refine xz.enter (Q:=BN P rs d_ p e6 r) hf hb hn Er rh he u9 ux (fun g h1 h2 _=>h g h1 h2) fun g e δ' κ' a' w' R jk u0 hq r' hR=>?_
 have fin:(∃x,p x∧∃v,Ej P δ' rs v∧WV δ' (XF δ' d_ (e6 x)) v (r x)∧WV δ' (XF δ' d_ (e6 x)) (δ'.get 1000) (.agg (gW d_))∧pt δ' (XF δ' d_ (e6 x)) (e6 x)∧tL δ'.nx (e6 x)=true)→
   LeavesInM Fence.wide 0 P fn a'.tmps R a'.defers .returning w':=fun⟨x,Yd,v,h1,hv,hp,ho,hx⟩=>
  Ps (g:=g) jk u0 uG h1 r' fun w2 r2 u hu=>hR x hp ho hx _ _ r2 ⟨Yd,u,rfl,hu.wv (δ:=δ') (δ':=XF δ' d_ (e6 x)) r2.mg r2.obj hv⟩
 cases e with
 |normal=>exact fin hq
 |ret=>exact fin hq
 |_=>exact hq.elim
end Go.Ab
/- Equality of structs of three whole numbers. -/
namespace Go.Ab
open Go Go.RowKit
variable {q:Md} {P:Program} {g:eZ} {δ:DS} {κ:Kp} {a:Act} {w:World}
variable {ops:Array Oper} {rest:List Oper} {Q:Exit→DS→Prop} {dst:Option Nat} {ty:TypeId} {pos:String} {af:Array Edge}
def K5 (P:Program) (f:Field) (o:Nat):Bool:=decide (f.name≠ "_") && aL f.offset o && ju P f.type && (match P.underlying f.type with|some (.int .i64)=>true|_=>false)
def Sf (P:Program) (t:TypeId):Bool:=(match P.underlying t with|some (.struct fs)=>(match fs.toList with|[f0,f1,f2]=>K5 P f0 0 && K5 P f1 1 && K5 P f2 2|_=>false)|_=>false) && !(P.stoodInHeld t) && !(P.eqGuardType P.depth t)
theorem uN {f:Field} {o:Nat} (h:K5 P f o=true):f.name≠ "_" ∧f.offset=o∧ju P f.type=true∧P.underlying f.type=some (.int .i64):=by
 unfold K5 at h
 simp only[aZ] at h
 obtain⟨⟨⟨h1,h2⟩,h3⟩,h4⟩:=h
 refine⟨of_decide_eq_true h1,aM h2,h3,?_⟩
 revert h4
 cases P.underlying f.type with
 |none=>intro h;cases h
 |some u=>
  cases u with
  |int k=>cases k<;>intro h<;>first|rfl|cases h
  |_=>intro h;cases h
theorem Ii {t:TypeId} (h:Sf P t=true) {op:BinOp} (uZ:op=.eql∨op=.neq) {x y:Operand} {m n k m' n' k':Int} (w:World):
  (do eqGuard op t x y (.agg #[.int .i64 m,.int .i64 n,.int .i64 k]) (.agg #[.int .i64 m',.int .i64 n',.int .i64 k']);Go.binOp op t (.agg #[.int .i64 m,.int .i64 n,.int .i64 k]) (.agg #[.int .i64 m',.int .i64 n',.int .i64 k']):Sem Value).run P w
   =.ok (.bool (if op=.eql then decide (m=m'∧n=n'∧k=k') else decide (¬(m=m'∧n=n'∧k=k')))) w:=by
 unfold Sf at h
 simp only[aZ,Bool.not_eq_true'] at h
 obtain⟨⟨h,hs⟩,hg⟩:=h
 have h1:∀w,(Op.equalIn 10000 t (.agg #[.int .i64 m,.int .i64 n,.int .i64 k]) (.agg #[.int .i64 m',.int .i64 n',.int .i64 k'])).run P w=.ok (decide (m=m'∧n=n'∧k=k')) w:=by
  intro w
  cases hu:P.underlying t with
  |none=>rw[hu] at h;cases h
  |some u=>
   rw[hu] at h
   cases u with
   |struct fs=>
    have hfo:P.fieldsOf t=fs:=by unfold Program.fieldsOf;rw[hu]
    rw[run_equalIn_struct w 9999 t _ _ (by rw[hfo];exact hu) hs,hfo]
    simp only at h
    match hl:fs.toList,h with
    |[f0,f1,f2],h=>
     simp only[aZ] at h
     obtain⟨⟨h0,h1⟩,h2⟩:=h
     obtain⟨a1,a2,a3,a4⟩:=uN h0
     obtain⟨b1,b2,b3,b4⟩:=uN h1
     obtain⟨c1,c2,c3,c4⟩:=uN h2
     have p0:∀m n k w,(part f0.type #[.int .i64 m,.int .i64 n,.int .i64 k] f0.offset).run P w=.ok (.int .i64 m) w:=fun m n k w=>vV a3 (by rw[a2];rfl) w
     have p1:∀m n k w,(part f1.type #[.int .i64 m,.int .i64 n,.int .i64 k] f1.offset).run P w=.ok (.int .i64 n) w:=fun m n k w=>vV b3 (by rw[b2];rfl) w
     have p2:∀m n k w,(part f2.type #[.int .i64 m,.int .i64 n,.int .i64 k] f2.offset).run P w=.ok (.int .i64 k) w:=fun m n k w=>vV c3 (by rw[c2];rfl) w
     have q0:=fun(a b:Int) w=>run_equalIn_int (P:=P) w 9998 f0.type .i64 .i64 a b a4
     have q1:=fun(a b:Int) w=>run_equalIn_int (P:=P) w 9998 f1.type .i64 .i64 a b b4
     have q2:=fun(a b:Int) w=>run_equalIn_int (P:=P) w 9998 f2.type .i64 .i64 a b c4
     simp only[Op.eqFields,a1,b1,c1,ne_eq,not_false_eq_true,if_true,Sem.run_bind,p0,p1,p2,q0,q1,q2,Result.andThen_ok]
     by_cases e0:m=m'
     ·by_cases e1:n=n'
      ·by_cases e2:k=k'
       ·simp [e0,e1,e2,p0,p1,p2,q0,q1,q2]
       ·simp [e0,e1,e2,p0,p1,p2,q0,q1,q2]
      ·simp [e0,e1,p0,p1,p2,q0,q1,q2]
     ·simp [e0]
    |[],h=>cases h
    |[_],h=>cases h
    |[_,_],h=>cases h
    |_::_::_::_::_,h=>cases h
   |_=>cases h
 rw[Sem.run_bind,run_eqGuard_agg w op t x y _ _ hg,Result.andThen_ok]
 rcases uZ with rfl|rfl
 ·rw[run_eql_struct,h1];rfl
 ·rw[run_neq_struct,h1,Result.andThen_ok];simp
theorem Rel.UP (r:Rel g δ κ a w) {z:Operand} {m n k:Int} (hz:δ.ev z=.agg [eU m,eU n,eU k]) (o_:fj z=true):a.eval z=.agg #[.int .i64 m,.int .i64 n,.int .i64 k]:=by
 have h:=r.ra hz o_
 generalize a.eval z=u at h
 cases h with
 | @agg vs _ hs h=>
  have e0:=(h 0 _ _ (aN (by simp [hs])) rfl).lit
  have e1:=(h 1 _ _ (aN (by simp [hs])) rfl).lit
  have e2:=(h 2 _ _ (aN (by simp [hs])) rfl).lit
  congr 1
  apply Array.ext (by simp [hs])
  intro j h2 h3
  match j,h3 with
  |0,_=>exact e0
  |1,_=>exact e1
  |2,_=>exact e2
theorem a_.ZC {op:BinOp} {x y:Operand} {t t':TypeId} {m n k m' n' k':Int} (uZ:op=.eql∨op=.neq) (hx:δ.ev x=.agg [eU m,eU n,eU k]) (hy:δ.ev y=.agg [eU m',eU n',eU k']) (h3:Sf P t=true) (ho:fj x=true) (ga:fj y=true)
  (hd:fT δ.n dst=true) (hK:a_ q P g ops rest Q (δ.eW dst (fq (if op=.eql then decide (m=m'∧n=n'∧k=k') else decide (¬(m=m'∧n=n'∧k=k')))))):a_ q P g ops (⟨dst,.binOp op t x y t',ty,pos,af,none⟩::rest) Q δ:=
 a_.jG _ hd (fun κ a w r=>⟨_,fun w' _=>by
  have h1:=r.UP hx ho
  have h2:=r.UP hy ga
  have:=Ii h3 uZ (x:=x) (y:=y) (m:=m) (n:=n) (k:=k) (m':=m') (n':=n') (k':=k') w'
  simp only[execOp,h1,h2]
  simp only[Sem.run_bind,Result.andThen_ok] at*
  first|rfl|simp [this],.pv (.lit _)⟩) hK
theorem a_.WQ {x y:Operand} {t t':TypeId} {m n k m' n' k':Int} (hx:δ.ev x=.agg [eU m,eU n,eU k]) (hy:δ.ev y=.agg [eU m',eU n',eU k']) (h3:Sf P t=true) (ho:fj x=true) (ga:fj y=true)
  (hd:fT δ.n dst=true) (hK:a_ q P g ops rest Q (δ.eW dst (fq (decide (m=m'∧n=n'∧k=k'))))):a_ q P g ops (⟨dst,.binOp .eql t x y t',ty,pos,af,none⟩::rest) Q δ:=a_.ZC (.inl rfl) hx hy h3 ho ga hd (by simpa using hK)
theorem wa {n:Nat} {K:DS→Prop} {t t':Tmp} {u:TypeId} {i:Nat} {cells:List AV} {p:PV} (ht:aY t HS=true) (h:δ.get t=.ptr i 0) (ho:δ.ob i=some (.box cells)) (SH:z_ P u cells.length=true) (RB:aY t' HS=true) (h':δ.get t'=.pv p)
  (hK:K ((fR n δ).eW dst (.gY [.agg cells,.pv p]))):fM P [.cell t u,.tmp t'] n dst K .ret δ:=nU (.two (.cell ht h ho SH) (.tmp RB h')) hK
end Go.Ab
/- The builtin copy into a row of the walk's own,of one-cell elements. -/
namespace Go.Ab
open Go Go.RowKit
variable {P:Program} {g:eZ} {δ:DS} {κ:Kp} {a:Act} {w:World}
variable {ops:Array Oper} {rest:List Oper} {Q:Exit→DS→Prop} {dst:Option Nat} {ty:TypeId} {pos:String} {af:Array Edge} {gd:Option (Tmp×Bool)}
def copied {α:Type} (src fa:List α):List α:=src.take (min src.length fa.length)++fa.drop (min src.length fa.length)
theorem oo {α:Type} (src fa:List α):(copied src fa).length=fa.length:=by unfold copied;simp;omega
theorem yk {α:Type} {src fa:List α} {i:Nat} (h:i<fa.length):(copied src fa)[i]? =if i<src.length then src[i]? else fa[i]?:=by
 unfold copied
 by_cases hi:i<src.length
 ·rw[if_pos hi,aT (by simp;omega),bE,if_pos aJ]
 ·rw[if_neg hi,aV (by simp;omega),bF]
  congr 1
  simp;omega
theorem iV.copy {dT sT elem:TypeId} (ts:List Nat) {x y:Operand} {i:Nat} {e:TypeId} {fa src:List (List PV)} (hx:δ.ev x=.own i e 1 fa) (hy:δ.ev y=.pv (.slice 1 src)) (sM:AZ δ (.own i e 1 fa) ts) (hr:δ.ob i=some .row)
  (hu:P.underlying dT=some (.slice elem)) (nQ:(P.info? elem).map (·.size)=some 1) (ho:fj x=true) (ga:fj y=true) (hd:fT δ.n dst=true):
  iV P g ⟨dst,.call {callee:=.builtin .copy,args:= #[x,y],argTypes:= #[dT,sT]},ty,pos,af,none⟩ δ ((j_ (δ.gU (AV.kill i)) (.own i e 1 (copied src fa)) ts).eW dst (eU (min src.length fa.length:Nat))):=by
 intro κ a w r
 left
 have zY:=(r.ra hx ho).jv
 have yN:=(r.ra hy ga).lV
 have sA:fT (j_ (δ.gU (AV.kill i)) (.own i e 1 (copied src fa)) ts).n dst=true:=by rw[Da];exact hd
 have n3:∀t∈ts,j1 (δ.cx g κ) w (g.val a t) i e 1 fa:=fun t ht=>by
  have:=r.env t
  rw[rT sM t ht] at this
  exact this.jv
 have ox:((δ.gU (AV.kill i)).cx g κ).Lr i:=by
  show(δ.gU (AV.kill i)).ob i=some .row
  rw[kR,hr];rfl
 obtain⟨n,hn⟩:∃n,n=min src.length fa.length:=⟨_,rfl⟩
 generalize MP:a.eval y=yv at yN
 cases yN with
 | @slice sa len scap _ _ sb soff vs hl oX hb ha hk hc Qr=>
  subst hl
  have VD:n=0→(∃v w',(execOp a.eval ⟨dst,.call {callee:=.builtin .copy,args:= #[x,y],argTypes:= #[dT,sT]},ty,pos,af,none⟩).run P w=.ok (.value v) w'∧Rel g ((j_ (δ.gU (AV.kill i)) (.own i e 1 (copied src fa)) ts).eW dst (eU (n:Nat))) κ (a.put dst v) w'):=by
   intro h0
   obtain⟨xs0,hown0⟩:=zY.row
   obtain⟨sa',sc',MN⟩:=zY.inv
   have fF:=run_copy_none (P:=P) w dT sT ty elem sa' sa fa.length sc' src.length scap hu nQ (show Nat.min src.length fa.length=0 by show min src.length fa.length=0;omega)
   refine⟨goInt 0,w,?_,?_⟩
   ·simp [execOp,resolve,invoke,builtin,MN,MP,fF,Result.andThen]
   ·obtain⟨rk,G⟩:=r.row hr (κ':=κ) (w':=w) (fun _ _=>rfl) ⟨rfl,rfl,rfl,aP _,fun _ _ _=>rfl⟩ (fun b jn=>by
     obtain⟨c,e',h1⟩:=r.obj i .row hr b jn
     exact⟨.inl jn,(aO.1 h1).1,c,e',h1⟩) (AV.kill i) rfl (fun G v av h=>h.kill G)
    have XA:copied src fa=fa:=by unfold copied;rw[← hn,h0];simp
    have ra:Rel g (j_ (δ.gU (AV.kill i)) (.own i e 1 (copied src fa)) ts) κ a w:=rk.qT ts fun t ht=>by
     have h1:=n3 t ht
     rw[XA]
     obtain⟨xs,h3,h4,h5⟩:=h1.row
     exact .own ⟨ox,h1.lim,h1.hk,h1.x8,xs,h3,h4,fun i' j p hp=>let ⟨u,h6,h7⟩:=h5 i' j p hp;⟨u,h6,G.rp (C:=(δ.cx g κ).less i) h7⟩⟩
    rw[h0]
    exact ra.eW (ft sA) (by rw[nT];exact .pv (.lit _))
  rw[← hn]
  by_cases h0:n=0
  ·obtain⟨v,w',h1,h2⟩:=VD h0
   exact⟨_,v,w',κ,h1,.inl rfl,h2⟩
  ·obtain⟨xs,⟨wk,gR⟩,qp,mj⟩:=zY.row
   rw[cK] at wk
   rcases gR with ⟨_,hz⟩|⟨b,cap,c,hv,hB,MR,hcp,oC,pI,tA⟩
   ·omega
   ·have hκ:κ i=some b:=zY.x8 b (by rw[hv];rfl)
    rw[cK] at pI tA
    obtain⟨hsa,hNb,hsb⟩:=ha (by rintro rfl;simp at hn;omega)
    subst hsa
    obtain⟨cs,WC⟩:∃cs,cs=(bc n).map fun j=>vs j 0:=⟨_,rfl⟩
    have iX:cs.length=n:=by rw[WC];simp
    have TC:∀j,j<n→cs[j]? =some (vs j 0):=fun j hj=>by rw[WC,a7,List.getElem?_range hj];rfl
    have TH:∀j,j<n→∃p,cellAt src j 0=some p:=fun j hj=>by
     have oB:j<src.length:=by omega
     have:=hk _ (cY oB)
     have h1:0<src[j].length:=by omega
     exact⟨src[j][0],by simp [cellAt,a8 oB,a8 h1]⟩
    have fF:=run_copy_row (P:=P) w dT sT ty elem b 0 fa.length cap ⟨sb,soff,none⟩ src.length scap c e cs hu nQ MR (by rw[iX];exact hn) (fun j v hj=>by
      have Ou:j<n:=by have:=(aW.1 hj).1;omega
      rw[TC j Ou] at hj
      cases hj
      obtain⟨p,hp⟩:=TH j Ou
      have:=(hc j 0 p hp).1
      rw[jr]
      simpa using this) aJ (fun v Qh=>by
      obtain⟨j,hj⟩:=bA Qh
      have Ou:j<n:=by have:=(aW.1 hj).1;omega
      rw[TC j Ou] at hj
      cases hj
      obtain⟨p,hp⟩:=TH j Ou
      exact(hc j 0 p hp).2)
    obtain⟨nw,BP⟩:∃nw:List Value,nw=c.toList.take 0++cs++c.toList.drop (0+cs.length):=⟨_,rfl⟩
    have Wr:nw=cs++c.toList.drop n:=by rw[BP,iX];simp
    rw[← BP] at fF
    have hh:(w.setRow b nw.toArray).heap[b]? =some (.cells nw.toArray e (0,0)):=setRow_heap w b c nw.toArray e (0,0) MR
    have hT:iL w (w.setRow b nw.toArray) (κ i):=by
     rw[hκ]
     exact⟨rfl,rfl,rfl,by simp [World.setRow],fun k _ gn=>setRow_other w b k _ (fun e'=>gn (by rw[e']))⟩
    obtain⟨rk,G⟩:=r.row hr (κ':=κ) (fun _ _=>rfl) hT (fun b' jn=>by
     obtain rfl:b=b':=Option.some.inj (hκ.symm.trans jn)
     exact⟨.inl hκ,(aO.1 hh).1,_,_,hh⟩) (AV.kill i) rfl (fun G v av h=>h.kill G)
    have hxn:nw.take fa.length=cs++xs.drop n:=by
     rw[Wr,List.take_append,iX]
     congr 1
     ·exact cJ (by omega)
     ·rw[← tA,List.drop_take]
    have ra:Rel g (j_ (δ.gU (AV.kill i)) (.own i e 1 (copied src fa)) ts) κ a (w.setRow b nw.toArray):=rk.qT ts fun t ht=>by
     obtain⟨h1,h2,h3,h4,xs',⟨T5,sQ⟩,_,_⟩:=n3 t ht
     refine .own ⟨ox,by rw[oo];exact h2,fun d wR=>?_,h4,cs++xs.drop n,⟨?_,?_⟩,fun u QB=>?_,fun i' j p hp=>?_⟩
     ·unfold copied at wR
      rcases bX.1 wR with wR|wR
      ·exact hk d (cQ wR)
      ·exact h3 d (bL wR)
     ·rw[oo,cK];simp;omega
     ·rw[oo]
      rcases sQ with ⟨hn',hz⟩|⟨b',cap',c',Qh,hB',Rq,Zo,KC,Zw,Ym⟩
      ·omega
      ·have Gb:κ i=some b':=h4 b' (by rw[Qh];rfl)
       obtain rfl:b=b':=Option.some.inj (hκ.symm.trans Gb)
       rw[MR] at Rq
       simp only[Option.some.injEq,Obj.cells.injEq] at Rq
       obtain⟨rfl,_⟩:=Rq
       have Cl:nw.length=c.size:=by rw[Wr];simp;omega
       refine .inr ⟨b,cap',nw.toArray,Qh,hB',hh,Zo,KC,by simp;omega,?_⟩
       rw[cK,List.toList_toArray];exact hxn
     ·rcases bX.1 QB with QB|QB
      ·obtain⟨j,hj⟩:=bA QB
       have Ou:j<n:=by have:=(aW.1 hj).1;omega
       rw[TC j Ou] at hj
       cases hj
       obtain⟨p,hp⟩:=TH j Ou
       exact(hc j 0 p hp).2
      ·exact qp u (bL QB)
     ·have vT:i'<fa.length:=by
       unfold cellAt at hp
       cases hq:(copied src fa)[i']? with
       |none=>rw[hq] at hp;simp at hp
       |some q=>have:=(aW.1 hq).1;rw[oo] at this;exact this
      have mZ:cellAt (if i'<src.length then src else fa) i' j=some p:=by
       unfold cellAt at hp ⊢
       rw[yk vT] at hp
       split at hp
       ·rename_i h;rw[if_pos h];exact hp
       ·rename_i h;rw[if_neg h];exact hp
      by_cases Xc:i'<src.length
      ·rw[if_pos Xc] at mZ
       have RZ:j=0:=by
        unfold cellAt at mZ
        rw[a8 Xc] at mZ
        have h6:=hk _ (cY Xc)
        have:=(aW.1 mZ).1
        omega
       subst RZ
       have iT:i'<n:=by omega
       refine⟨vs i' 0,?_,G.rp (C:=(δ.cx g κ).less i) (Qr i' 0 p mZ)⟩
       rw[cK,bd,aT aJ,TC i' iT]
      ·rw[if_neg Xc] at mZ
       obtain⟨u,h6,h7⟩:=mj i' j p mZ
       have RZ:j=0:=by
        unfold cellAt at mZ
        rw[a8 vT] at mZ
        have h8:=zY.hk _ (cY vT)
        have:=(aW.1 mZ).1
        omega
       subst RZ
       refine⟨u,?_,G.rp (C:=(δ.cx g κ).less i) h7⟩
       rw[cK,bd] at h6 ⊢
       rw[aV aJ,bF,iX,← h6]
       congr 1;omega
    refine⟨.value (goInt n),goInt n,w.setRow b nw.toArray,κ,?_,.inl rfl,ra.eW (ft sA) (by rw[nT];exact .pv (.lit _))⟩
    rw[iX] at fF
    simp [execOp,resolve,invoke,builtin,hv,MP,fF,Result.andThen]
theorem a_.copy {dT sT elem:TypeId} (ts:List Nat) {x y:Operand} {i:Nat} {e:TypeId} {fa src:List (List PV)} (hx:δ.ev x=.own i e 1 fa) (hy:δ.ev y=.pv (.slice 1 src)) (sM:AZ δ (.own i e 1 fa) ts) (hr:δ.ob i=some .row)
  (hu:P.underlying dT=some (.slice elem)) (nQ:(P.info? elem).map (·.size)=some 1) (ho:fj x=true) (ga:fj y=true) (hd:fT δ.n dst=true)
  (hK:a_ .plain P g ops rest Q ((j_ (δ.gU (AV.kill i)) (.own i e 1 (copied src fa)) ts).eW dst (eU (min src.length fa.length:Nat)))):
  a_ .plain P g ops (⟨dst,.call {callee:=.builtin .copy,args:= #[x,y],argTypes:= #[dT,sT]},ty,pos,af,none⟩::rest) Q δ:=a_.s6 rfl rfl (iV.copy ts hx hy sM hr hu nQ ho ga hd) hK
theorem Ee {α:Type} {f:α→List PV} (hf:∀x,∃u,f x=[.lit u]) (l:List α):∀c∈l.map f,∀p∈c,∃u,p=PV.lit u:=by
 intro c hc p hp
 obtain⟨x,_,rfl⟩:=bx.1 hc
 obtain⟨u,hu⟩:=hf x
 rw[hu] at hp
 simp at hp
 exact⟨u,hp⟩
theorem a_.JZ {f:FuncId} {xs:List Operand} {tys:Array TypeId} {args:List AV} {e:TypeId} {k:Nat} {fa:List (List PV)} (hf:MY P f args e k fa) (lY:∀c∈fa,∀p∈c,∃u,p=PV.lit u) (gp:qC true δ xs args) (hd:fT δ.n dst=true)
  (hK:a_ .plain P g ops rest Q ((δ.fQ .row).eW dst (.own δ.nx e k fa))):a_ .plain P g ops (⟨dst,.call {callee:=.value (.func f),args:=xs.toArray,argTypes:=tys},ty,pos,af,none⟩::rest) Q δ:=by
 intro κ a w r0
 show wpListIn _ _ P ops _ (_::rest) a w
 refine gF rfl rfl fun K oA=>?_
 unfold Oper.y9
 rw[jt (f:=f) rfl hf.enters,Oper.uponIn_enter]
 refine⟨fun h=>by simp at h,(iF (hf.calls (fun _=>True) w _ (fun _ _=>trivial) (by simp [gp.len]) (gp.NS r0 (fun _ _ _=>trivial) (fun _ _ _ _ _=>trivial)))).mono ?_⟩
 rintro en w' ⟨v,rfl,hb,hv⟩
 have DB:∀b,v.ownBlock=some b→w.heap.size≤b∧b<w'.heap.size∧∃c e,w'.heap[b]? =some (.cells c e (0,0)):=by
  intro b NF
  obtain⟨xs,⟨_,gR⟩,_⟩:=hv.row
  rcases gR with ⟨rfl,_⟩|⟨b0,cap,cur,rfl,h1,h2,_⟩
  ·cases NF
  ·cases NF
   exact⟨h1,(aO.1 h2).1,cur,e,h2⟩
 obtain⟨r1,G⟩:=r0.J2 hb v.ownBlock DB
 refine oA _ _ (hK _ _ _ (r1.eW (ft hd) (.own ?_)))
 obtain⟨xs,⟨wk,gR⟩,h1,hx⟩:=hv.row
 refine⟨by show(δ.fQ .row).ob _=_;rw[f_,if_pos rfl],hv.lim,hv.hk,fun b NF=>by show ig _ _ _ _=_;simp [ig,NF],xs,⟨wk,?_⟩,h1,fun i' j p hp=>?_⟩
 ·rcases gR with h|⟨b0,cap,cur,h2,h3,h4⟩
  ·exact .inl h
  ·exact .inr ⟨b0,cap,cur,h2,aQ r0.hB h3,h4⟩
 ·obtain⟨u,hu,hr⟩:=hx i' j p hp
  refine⟨u,hu,?_⟩
  unfold cellAt at hp
  cases hq:fa[i']? with
  |none=>rw[hq] at hp;simp at hp
  |some q=>
   rw[hq] at hp
   obtain⟨u',QB⟩:=lY q (aU hq) p (aU hp)
   subst QB
   cases hr
   exact .lit _
end Go.Ab
