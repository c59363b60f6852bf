/- A small logic of abstract states over the model's weakest preconditions: what a function's slots, variables and rows hold, told without addresses. -/
import Derived.WalkKit
import Derived.Below
import Derived.Deep.Quiet
import Derived.OrdersHeld
import Derived.Laws.OwnMore
import Derived.RangeFuncIn
import Derived.RangeFuncRecord
import Derived.RangeFuncLeaves
import Derived.RangeFuncCalls
import Derived.TacticsIn
set_option linter.unusedSimpArgs false
set_option linter.unusedVariables false
open Nat renaming lt_of_lt_of_le→aK,beq→aL,eq_of_beq_eq_true→aM,le_refl→aP,le_trans→aQ,lt_irrefl→aX,blt→aY,zero_add→ba,add_zero→bd,zero_le→bk,ble→bx,add_assoc→bF,add_mul→bI,one_mul→bJ,mod_lt→bO,le_mul_of_pos_right→bP,mul_comm→bQ,mul_le_mul_right→bR,mul_add_mod→bS,mod_eq_of_lt→bT
open Array renaming getElem?_eq_getElem→aN,getElem?_eq_some_iff→aO,getD_eq_getD_getElem?→aR,getElem?_setIfInBounds→aS,ext→bp,mapM_eq_foldlM→br,getElem?_toList→bB,range→bL,getElem?_map→bM,getElem?_range→bN
open List renaming getElem?_append_left→aT,mem_of_getElem?→aU,getElem?_append_right→aV,getElem?_eq_some_iff→aW,length_map→a6,getElem?_map→a7,getElem?_eq_getElem→a8,range→bc,getElem?_toArray→bf,getElem?_range→bh,eq_nil_of_length_eq_zero→bj,map_toArray→bn,append_nil→bs,cons_append→bt,mem_cons→bu,mem_map→bw,getElem?_of_mem→bz,map_cons→bA,all_eq_true→bC,getElem?_take→bD,getElem?_drop→bE,getElem?_set→bG,mem_of_mem_drop→bK,length_nil→bU,length_append→bV,mem_append→bW,ext_getElem?→bX,replicate→bY
open Bool renaming and_eq_true→aZ
open Option renaming map_eq_some_iff→bg,getD_some→bm,map_some→bq,bind_some→bH
namespace Go.Ab
open Go Go.RowKit
theorem aJ {A:Prop} (h:A:=by omega):A:=h
inductive PV where
 |any
 |lit (v:Value)
 |slice (k:Nat) (fc:List (List PV))
 |mp (l:List (Value×PV))
 |clip (k:Nat) (fc:List (List PV))
def pO (es:Array MapEntry) (clock:Nat):Prop:=clock=es.size∧∀(j:Nat) (e:MapEntry),es[j]? =some e→e.born=j
def cellAt (fc:List (List PV)) (i j:Nat):Option PV:=(fc[i]?).bind (·[j]?)
def lim:Nat:=140737488355328
inductive RP (N:Nat→Prop) (w:World):Value→PV→Prop
 |any (v:Value):RP N w v .any
 |lit (v:Value):RP N w v (.lit v)
 |slice {a:Option Addr} {len cap k:Nat} {fc:List (List PV)} (b off:Nat) (vs:Nat→Nat→Value) (hl:fc.length=len) (n_:len≤cap) (hb:len≤140737488355328)
   (ha:fc≠ []→a=some ⟨b,off,none⟩∧N b∧b<w.heap.size) (hk:∀c∈fc,c.length=k)
   (hc:∀i j p,cellAt fc i j=some p→w.cell? ⟨b,off+i*k+j,none⟩=some (vs i j)∧(vs i j).oneCell'=true)
   (hr:∀i j p,cellAt fc i j=some p→RP N w (vs i j) p):RP N w (.slice a len cap) (.slice k fc)
 |mp {l:List (Value×PV)} (b clock:Nat) (es:Array MapEntry) (hN:N b) (hb:b<w.heap.size) (hh:w.heap[b]? =some (.map es clock)) (hs:es.size=l.length) (jc:pO es clock)
   (hk:∀(j:Nat) (e:MapEntry) (p:Value×PV),es[j]? =some e→l[j]? =some p→e.key=p.1)
   (hr:∀(j:Nat) (e:MapEntry) (p:Value×PV),es[j]? =some e→l[j]? =some p→RP N w e.val p.2):RP N w (.map (some b)) (.mp l)
 /-- a slice whose capacity is its length -/
 |clip {a:Option Addr} {len k:Nat} {fc:List (List PV)} (h:RP N w (.slice a len len) (.slice k fc)):RP N w (.slice a len len) (.clip k fc)
theorem F9 {fc:List (List PV)} {i j:Nat} {p:PV} (h:cellAt fc i j=some p):fc≠ []:=by
 intro e;subst e;simp [cellAt] at h
theorem RP.mono {N N':Nat→Prop} {w w':World} {v:Value} {p:PV} (h:RP N w v p) (hs:w.heap.size≤w'.heap.size)
  (hN:∀b,b<w.heap.size→N b→N' b∧w'.heap[b]? =w.heap[b]?):RP N' w' v p:=by
 induction h with
 |any v=>exact .any v
 |lit v=>exact .lit v
 |slice b off vs hl n_ hb ha hk hc hr ih=>
  refine .slice b off vs hl n_ hb (fun he=>?_) hk (fun i j p hp=>?_) ih
  ·obtain⟨h1,h2,h3⟩:=ha he
   exact⟨h1,(hN b h3 h2).1,aK h3 hs⟩
  ·obtain⟨h1,h2,h3⟩:=ha (F9 hp)
   exact⟨(World.cell?_of_block (w:=w) (a:=⟨b,off+i*_+j,none⟩) (hN b h3 h2).2).trans (hc i j p hp).1,(hc i j p hp).2⟩
 |mp b clock es H5 hb hh Ns jc hk hr ih=>exact .mp b clock es (hN b hb H5).1 (aK hb hs) ((hN b hb H5).2.trans hh) Ns jc hk ih
 |clip h ih=>exact .clip ih
inductive AV where
 |any
 |pv (p:PV)
 |own (i:Nat) (e:TypeId) (k:Nat) (fc:List (List PV))
 |ptr (i:Nat) (off:Nat)
 |gp (cells:List PV)
 |gN (i:Nat) (e:TypeId) (k:Nat) (fc:List (List PV)) (idx:Nat)
 |agg (cs:List AV)
 |gM (vs:List AV)
 |jJ (fn:Fn) (first:List AV) (cap:List AV)
 |gz (i:Nat)
 |kZ (i:Nat)
structure e6 where
 B:Nat
 w0:World
 N0:Nat→Prop
 held:Nat→Value
 ro:Option Nat
 mks:List Nat
 wt:Option (World×(Nat→Prop)×Nat)
 fr:Nat→Prop
 w1:World
 /-- calls deferred by the frame itself. -/
 base:List Deferred:=[]
inductive vg where
 |ready
 |busy
 |done (c:Code)
 |over
inductive Ob where
 |row
 |box (cells:List AV)
 |mp (es:List (Value×AV))
 |mpl (es:List (Value×AV)) (k:Value) (v:AV)
 |it (l:List (Value×PV)) (seen:List Nat)
 |loop (l:Nat) (tm:Array Value) (ps:Array Tmp) (jf body:Code) (st:vg)
 |lit (T:TypeId) (vals:Array Value)
 |ff (e:TypeId) (rows:Nat→Value×List Value)
structure DS where
 n:Nat
 env:List (Nat×AV)
 gq:List (Nat×Option Ob)
 nx:Nat
def look (e:List (Nat×AV)) (j:Nat):AV:=
 match e with
 |[]=> .any
 |(i,v)::r=>bif aL i j then v else look r j
def fg (e:List (Nat×Option Ob)) (j:Nat):Option Ob:=
 match e with
 |[]=>none
 |(i,v)::r=>bif aL i j then v else fg r j
def DS.get (δ:DS) (j:Nat):AV:=look δ.env j
def DS.ob (δ:DS) (i:Nat):Option Ob:=fg δ.gq i
def DS.put (δ:DS) (d:Nat) (v:AV):DS:={δ with env:=(d,v)::δ.env}
def DS.eY (δ:DS) (d:Option Nat) (v:AV):DS:=match d with|some d=>δ.put d v|none=>δ
def DS.gm (δ:DS) (i:Nat) (o:Option Ob):DS:={δ with gq:=(i,o)::δ.gq}
def DS.fN (δ:DS) (o:Ob):DS:={δ with gq:=(δ.nx,some o)::δ.gq,nx:=δ.nx+1}
def DS.ev (δ:DS):Operand→AV
 |.tmp t=>δ.get t
 |.const v=> .pv (.lit v)
 |.global _=> .any
 |.func f=> .jJ (.func f) [] []
theorem fH (i:Nat) (v:AV) (e:List (Nat×AV)) (j:Nat):look ((i,v)::e) j=if i=j then v else look e j:=by
 by_cases h:i=j
 ·subst h;simp [look]
 ·have hb:aL i j=false:=by cases hh:aL i j with|false=>rfl|true=>exact absurd (aM hh) h
  rw[if_neg h]
  show(bif aL i j then v else look e j)=_
  rw[hb];rfl
theorem fl (i:Nat) (v:Option Ob) (e:List (Nat×Option Ob)) (j:Nat):fg ((i,v)::e) j=if i=j then v else fg e j:=by
 by_cases h:i=j
 ·subst h;simp [fg]
 ·have hb:aL i j=false:=by cases hh:aL i j with|false=>rfl|true=>exact absurd (aM hh) h
  rw[if_neg h]
  show(bif aL i j then v else fg e j)=_
  rw[hb];rfl
structure Kp where
 f:Nat→Option Nat
 F:Nat→Nat→Prop
instance:CoeFun Kp fun _=>Nat→Option Nat:=⟨Kp.f⟩
def Kp.Fs (κ:Kp) (b:Nat):Prop:=∃i,κ.F i b
structure Cx where
 B:Nat
 κ:Kp
 N:Nat→Prop
 Lr:Nat→Prop
 Lb:Nat→Prop
structure jv (C:Cx) (w:World) (v:Value) (i:Nat) (e:TypeId) (k:Nat) (fc:List (List PV)):Prop where
 live:C.Lr i
 lim:fc.length≤140737488355328
 hk:∀c∈fc,c.length=k
 vm:∀b,v.ownBlock=some b→C.κ i=some b
 row:∃xs,w.ownsRow C.B e k v fc.length xs∧(∀u∈xs,u.oneCell'=true)∧∀i' j p,cellAt fc i' j=some p→∃u,xs[i'*k+j]? =some u∧RP C.N w u p
inductive RA (C:Cx) (w:World):Value→AV→Prop
 |any (v:Value):RA C w v .any
 |pv {v:Value} {p:PV} (h:RP C.N w v p):RA C w v (.pv p)
 |own {v:Value} {i:Nat} {e:TypeId} {k:Nat} {fc:List (List PV)} (h:jv C w v i e k fc):RA C w v (.own i e k fc)
 |ptr {i off b:Nat} (hl:C.Lb i) (hκ:C.κ i=some b):RA C w (.pointer (some ⟨b,off,none⟩)) (.ptr i off)
 |gp {cells:List PV} (b off:Nat) (vs:Nat→Value) (hN:C.N b) (hb:b<w.heap.size) (hc:∀(j:Nat) (p:PV),cells[j]? =some p→w.cell? ⟨b,off+j,none⟩=some (vs j)∧(vs j).oneCell'=true)
   (hr:∀(j:Nat) (p:PV),cells[j]? =some p→RP C.N w (vs j) p):RA C w (.pointer (some ⟨b,off,none⟩)) (.gp cells)
 |gN {i:Nat} {e:TypeId} {k:Nat} {fc:List (List PV)} {idx b cap:Nat} (hi:idx<fc.length) (h:jv C w (.slice (some ⟨b,0,none⟩) fc.length cap) i e k fc):
   RA C w (.pointer (some ⟨b,idx*k,none⟩)) (.gN i e k fc idx)
 |agg {vs:Array Value} {cs:List AV} (hs:vs.size=cs.length) (h:∀(j:Nat) (u:Value) (c:AV),vs[j]? =some u→cs[j]? =some c→RA C w u c):RA C w (.agg vs) (.agg cs)
 |gM {vs:Array Value} {cs:List AV} (hs:vs.size=cs.length) (h:∀(j:Nat) (u:Value) (c:AV),vs[j]? =some u→cs[j]? =some c→RA C w u c):RA C w (.tuple vs) (.gM cs)
 |jJ {fn:Fn} {vs us:Array Value} {cs ds:List AV} (hs:vs.size=cs.length) (h:∀(j:Nat) (u:Value) (c:AV),vs[j]? =some u→cs[j]? =some c→RA C w u c)
   (ht:us.size=ds.length) (h':∀(j:Nat) (u:Value) (c:AV),us[j]? =some u→ds[j]? =some c→RA C w u c):RA C w (.func fn vs us) (.jJ fn cs ds)
 |gz {i b:Nat} (hl:C.Lb i) (hκ:C.κ i=some b):RA C w (.map (some b)) (.gz i)
 |kZ {i b:Nat} (hl:C.Lb i) (hκ:C.κ i=some b):RA C w (.func (.yield b) #[] #[]) (.kZ i)
structure kr (C:Cx) (w:World) (C':Cx) (w':World):Prop where
 B:C'.B=C.B
 size:w.heap.size≤w'.heap.size
 N:∀b,b<w.heap.size→C.N b→C'.N b∧w'.heap[b]? =w.heap[b]?
 Lr:∀i,C.Lr i→C'.Lr i∧C'.κ i=C.κ i∧∀b,C.κ i=some b→w'.heap[b]? =w.heap[b]?
 Lb:∀i,C.Lb i→C'.Lb i∧C'.κ i=C.κ i
theorem kr.rp {C C':Cx} {w w':World} (g:kr C w C' w') {v:Value} {p:PV} (h:RP C.N w v p):RP C'.N w' v p:=h.mono g.size g.N
theorem kr.GF {C C':Cx} {w w':World} (g:kr C w C' w') {v:Value} {i:Nat} {e:TypeId} {k:Nat} {fc:List (List PV)} (h:jv C w v i e k fc):jv C' w' v i e k fc:=by
 obtain⟨hl,lG,hk,hb,xs,ho,h1,hx⟩:=h
 obtain⟨l1,l2,l3⟩:=g.Lr i hl
 refine⟨l1,lG,hk,fun b hv=>l2.trans (hb b hv),xs,?_,h1,fun i' j p hp=>?_⟩
 ·rw[g.B]
  refine⟨ho.1,?_⟩
  rcases ho.2 with hn|⟨b,cap,cur,rfl,h2,h3,h4⟩
  ·exact .inl hn
  ·exact .inr ⟨b,cap,cur,rfl,h2,(l3 b (hb b rfl)).trans h3,h4⟩
 ·obtain⟨u,h1,h2⟩:=hx i' j p hp
  exact⟨u,h1,g.rp h2⟩
theorem kr.ra {C C':Cx} {w w':World} (g:kr C w C' w') {v:Value} {av:AV} (h:RA C w v av):RA C' w' v av:=by
 induction h with
 |any v=>exact .any v
 |pv h=>exact .pv (g.rp h)
 |own h=>exact .own (g.GF h)
 |ptr hl hκ=>exact .ptr (g.Lb _ hl).1 ((g.Lb _ hl).2.trans hκ)
 |gp b off vs hN hb hc hr=>
  obtain⟨h1,h2⟩:=g.N b hb hN
  exact .gp b off vs h1 (aK hb g.size) (fun j p hp=>⟨(World.cell?_of_block (w:=w) (a:=⟨b,off+j,none⟩) h2).trans (hc j p hp).1,(hc j p hp).2⟩) (fun j p hp=>g.rp (hr j p hp))
 |gN hi h=>exact .gN hi (g.GF h)
 |agg hs h ih=>exact .agg hs ih
 |gM hs h ih=>exact .gM hs ih
 |jJ hs h ht h' ih ih'=>exact .jJ hs ih ht ih'
 |gz hl hκ=>exact .gz (g.Lb _ hl).1 ((g.Lb _ hl).2.trans hκ)
 |kZ hl hκ=>exact .kZ (g.Lb _ hl).1 ((g.Lb _ hl).2.trans hκ)
def Ob.isRow:Ob→Bool|.row=>true|_=>false
def DS.lr (δ:DS) (i:Nat):Prop:=δ.ob i=some .row
def DS.lb (δ:DS) (i:Nat):Prop:=∃o,δ.ob i=some o∧o.isRow=false
def DS.live (δ:DS) (i:Nat):Prop:=∃o,δ.ob i=some o
def DS.cx (δ:DS) (g:e6) (κ:Kp):Cx:=
 {B:=g.B,κ,N:=fun b=>(g.N0 b∧¬κ.Fs b)∧∀i,δ.live i→κ i≠some b,Lr:=δ.lr,Lb:=δ.lb}
def HS:Nat:=1000
def e6.val (g:e6) (a:Act) (j:Nat):Value:=if j<HS then a.tmps.getD j undef else g.held j
def mr (C:Cx) (w:World) (es:Array MapEntry) (l:List (Value×AV)):Prop:=
 es.size=l.length∧∀(j:Nat) (e:MapEntry) (p:Value×AV),es[j]? =some e→l[j]? =some p→e.key=p.1∧RA C w e.val p.2
def AV.kD:AV→Bool
 |.own _ _ _ _|.gN _ _ _ _ _|.agg _|.gM _|.jJ _ _ _=>false
 |_=>true
def Lc (N:Nat→Prop) (w:World) (b:Nat) (l:List (Value×PV)) (seen:List Nat):Prop:=
 (l=[]∧w.heap[b]? =some (.mapIter none 0 #[] 0))∨∃m es clock,N m∧m<w.heap.size∧w.heap[m]? =some (.map es clock)∧es.size=l.length∧pO es clock∧
  (∀(j:Nat) (e:MapEntry) (p:Value×PV),es[j]? =some e→l[j]? =some p→e.key=p.1∧RP N w e.val p.2)∧w.heap[b]? =some (.mapIter (some m) clock seen.toArray clock)∧∀j∈seen,j<l.length
theorem Lc.mono {N N':Nat→Prop} {w w':World} {b:Nat} {l:List (Value×PV)} {seen:List Nat} (h:Lc N w b l seen) (hs:w.heap.size≤w'.heap.size)
  (hN:∀b,b<w.heap.size→N b→N' b∧w'.heap[b]? =w.heap[b]?) (hb:w'.heap[b]? =w.heap[b]?):Lc N' w' b l seen:=by
 rcases h with ⟨h1,h2⟩|⟨m,es,clock,h1,h2,h3,h4,h5,h6,h7,h8⟩
 ·exact .inl ⟨h1,hb.trans h2⟩
 ·exact .inr ⟨m,es,clock,(hN m h2 h1).1,aK h2 hs,(hN m h2 h1).2.trans h3,h4,h5,fun j e p h9 xx=>⟨(h6 j e p h9 xx).1,(h6 j e p h9 xx).2.mono hs hN⟩,hb.trans h7,h8⟩
def vC (C:Cx) (w:World) (i:Nat) (e:TypeId) (p:Value×List Value):Prop:=
 w.ownsRow C.B e 1 p.1 p.2.length p.2∧p.2.length≤140737488355328∧(∀b,p.1.ownBlock=some b→C.κ.F i b)∧∀u∈p.2,u.oneCell'=true
def nY (C:Cx) (w:World) (i:Nat):Ob→Prop
 |.row=>∀b,C.κ i=some b→∃c e,w.heap[b]? =some (.cells c e (0,0))
 |.box cells=>∃b c e,C.κ i=some b∧w.heap[b]? =some (.cells c e (0,0))∧c.size=cells.length∧∀(j:Nat) (u:Value) (av:AV),c[j]? =some u→cells[j]? =some av→RA C w u av∧u.oneCell'=true
 |.mp l=>∃b es clock,C.κ i=some b∧w.heap[b]? =some (.map es clock)∧mr C w es l∧pO es clock∧∀p∈l,p.2.kD=true
 |.mpl l k v=>∃b es clock,C.κ i=some b∧w.heap[b]? =some (.map es clock)∧mr C w es (l++ [(k,v)])∧pO es clock∧∀p∈l,p.2.kD=true
 |.it l seen=>∃b,C.κ i=some b∧Lc C.N w b l seen
 |.lit T vals=>∃b,C.κ i=some b∧w.heap[b]? =some (.cells vals T (0,0))
 |.ff e rows=>C.κ i=none∧(∀k,vC C w i e (rows k))∧∀k k' b,(rows k).1.ownBlock=some b→(rows k').1.ownBlock=some b→k=k'
 |.loop l tm ps jf body st=>∃b r,C.κ i=some b∧w.heap[b]? =some (.loop r)∧b=l∧r.tmps=tm∧r.params=ps∧r.assign=jf∧r.body=body∧
   (match st with|.ready=>r.state=.ready∧r.pending=none|.busy=>r.state=.busy|.done c=>r.state=.done∧r.pending=some c|.over=>True)
def GO (g:e6) (a:Act) (w:World):Prop:=∃rs:List Nat,a.defers=rs.map (fun r=>({target:=.collected r,args:= #[]}:Deferred))++g.base∧(rs++g.mks).Nodup∧∀r∈rs++g.mks,g.B≤r∧w.heap[r]? =some (.deferred (some []))
def pC (g:e6) (lv:Nat→Prop) (κ:Kp) (w:World):Prop:=(∀b,g.fr b→b<g.w1.heap.size∧w.heap[b]? =g.w1.heap[b]?∧∀i,lv i→κ i≠some b)∧
 ∀i b,κ.F i b→(g.B≤b∧∀k,g.wt=some k→¬k.2.1 b)∧b<w.heap.size∧¬g.fr b∧(∀j,lv j→κ j≠some b)∧∀j,κ.F j b→j=i
theorem pC.of {g:e6} {lv lv':Nat→Prop} {κ κ':Kp} {w w':World} (h:pC g lv κ w) (hs:w.heap.size≤w'.heap.size) (hw:∀b,g.fr b→b<w.heap.size→(∀i,lv i→κ i≠some b)→w'.heap[b]? =w.heap[b]?)
  (hl:∀i b,lv' i→κ' i=some b→(∃j,lv j∧κ j=some b)∨w.heap.size≤b) (hF:∀i b,κ'.F i b→κ.F i b:=by exact fun _ _ h=>h):pC g lv' κ' w':=by
 refine⟨fun b hb=>?_,fun i b hb=>?_⟩
 ·obtain⟨h1,h3,h4⟩:=h.1 b hb
  have fx:b<w.heap.size:=by rw[aN h1] at h3;exact(aO.1 h3).1
  refine⟨h1,(hw b hb fx h4).trans h3,fun i hi e=>?_⟩
  rcases hl i b hi e with ⟨j,hj,e'⟩|h5
  ·exact h4 j hj e'
  ·omega
 ·have iU:=hF i b hb
  obtain⟨h1,h2,h3,h4,h5⟩:=h.2 i b iU
  refine⟨h1,aK h2 hs,h3,fun j hj e=>?_,fun j hj=>h5 j (hF j b hj)⟩
  ·rcases hl j b hj e with ⟨j,hj,e'⟩|h5
   ·exact h4 j hj e'
   ·omega
theorem pC.sub {g:e6} {lv lv':Nat→Prop} {κ κ':Kp} {w:World} (h:pC g lv κ w) (hl:∀i b,lv' i→κ' i=some b→∃j,lv j∧κ j=some b) (hF:∀i b,κ'.F i b→κ.F i b:=by exact fun _ _ h=>h):pC g lv' κ' w:=h.of (aP _) (fun _ _ _ _=>rfl) (fun i b h1 h2=> .inl (hl i b h1 h2)) hF
structure Rel (g:e6) (δ:DS) (κ:Kp) (a:Act) (w:World):Prop where
 n:a.tmps.size=δ.n
 dfr:GO g a w
 env:∀j,RA (δ.cx g κ) w (g.val a j) (δ.get j)
 obj:∀i o,δ.ob i=some o→nY (δ.cx g κ) w i o
 inj:∀i j b,δ.live i→δ.live j→κ i=some b→κ j=some b→i=j
 lo:∀i b,δ.live i→κ i=some b→g.B≤b∧b<w.heap.size
 nx:∀i,δ.live i→i<δ.nx
 wt:∀k,g.wt=some k→(∀b,k.2.1 b→b<k.1.heap.size∧w.heap[b]? =k.1.heap[b]?)∧∀i b,δ.live i→(δ.lr i∨k.2.2≤i)→κ i=some b→¬k.2.1 b
 below:Below g.B g.w0 w
 hB:g.B≤w.heap.size
 N0:∀b,g.B≤b→¬g.fr b→g.N0 b
 fr:pC g δ.live κ w
 km:∀d∈a.defers,∀r,d.target=.collected r→¬g.fr r
theorem pC.re {g g':e6} {lv:Nat→Prop} {κ:Kp} {w:World} (h:pC g lv κ w) (hB:g'.B=g.B) (hf:g'.fr=g.fr) (hw:g'.w1=g.w1) (je:g'.wt=none):pC g' lv κ w:=by
 refine⟨fun b hb=>?_,fun i b hb=>?_⟩
 ·rw[hf] at hb;rw[hw];exact h.1 b hb
 ·obtain⟨h1,h2,h3,h4⟩:=h.2 i b hb
  exact⟨⟨by rw[hB];exact h1.1,fun k hk=>by rw[je] at hk;cases hk⟩,h2,by rw[hf];exact h3,h4⟩
theorem pC.A8 {g:e6} {lv:Nat→Prop} {κ:Kp} {w:World} (h:pC g lv κ w) {b:Nat} (hb:g.fr b):b<w.heap.size:=by
 obtain⟨h1,h3,_⟩:=h.1 b hb
 rw[aN h1] at h3
 exact(aO.1 h3).1
theorem pC.Fg {g:e6} {lv:Nat→Prop} {κ:Kp} {w:World} (h:pC g lv κ w) {b:Nat} (hb:κ.Fs b):b<w.heap.size:=let ⟨i,hi⟩:=hb;(h.2 i b hi).2.1
theorem pC.nr {g:e6} {lv:Nat→Prop} {κ:Kp} {w:World} (h:pC g lv κ w) {i b:Nat} (hl:lv i) (hκ:κ i=some b):¬κ.Fs b:=fun⟨j,hj⟩=>(h.2 j b hj).2.2.2.1 i hl hκ
theorem Rel.BG {g:e6} {δ:DS} {κ:Kp} {a:Act} {w:World} (r:Rel g δ κ a w) {b:Nat} (h:w.heap.size≤b):g.N0 b∧¬κ.Fs b:=⟨r.N0 b (aQ r.hB h) fun hf=>by have:=r.fr.A8 hf;omega,fun hf=>by have:=r.fr.Fg hf;omega⟩
theorem Rel.Fo {g:e6} {δ:DS} {κ:Kp} {a:Act} {w:World} (r:Rel g δ κ a w) {i b:Nat} (hl:δ.live i) (hκ:κ i=some b):g.N0 b∧¬κ.Fs b:=⟨r.N0 b (r.lo i b hl hκ).1 fun hf=>(r.fr.1 b hf).2.2 i hl hκ,r.fr.nr hl hκ⟩
end Go.Ab
/- The abstract states' laws:how a relation goes on over a slot's write,a new block,an extension of the world;the rules of the abstract weakest precondition. -/
namespace Go.Ab
open Go Go.RowKit
variable {P:Program} {g:e6} {δ:DS} {κ:Kp} {a:Act} {w:World}
theorem EZ (δ:DS) (d:Nat) (v:AV) (j:Nat):(δ.put d v).get j=if d=j then v else δ.get j:=fH _ _ _ _
theorem jH (δ:DS) (d:Nat) (v:Option Ob) (j:Nat):(δ.gm d v).ob j=if d=j then v else δ.ob j:=fl _ _ _ _
theorem fY (δ:DS) (o:Ob) (j:Nat):(δ.fN o).ob j=if δ.nx=j then some o else δ.ob j:=fl _ _ _ _
theorem e6.LZ (g:e6) (a:Act) (d:Nat) (v:Value) (j:Nat) (h:d<a.tmps.size) (hH:d<HS):g.val (a.put (some d) v) j=if d=j then v else g.val a j:=by
 unfold e6.val Act.put
 by_cases hj:j<HS
 ·simp only[hj,if_true,aR,aS]
  by_cases e:d=j
  ·subst e;simp [h]
  ·simp [e]
 ·have:d≠j:=by omega
  simp [hj,this]
theorem Rel.put (r:Rel g δ κ a w) {d:Nat} {v:Value} {av:AV} (hd:d<δ.n) (hH:d<HS) (h:RA (δ.cx g κ) w v av):Rel g (δ.put d av) κ (a.put (some d) v) w where
 n:=by have:=r.n;simp only[Act.put,Array.size_setIfInBounds];exact this
 dfr:=by obtain⟨rs,h1,h2,h3⟩:=r.dfr;exact⟨rs,h1,h2,h3⟩
 env:=fun j=>by
  rw[EZ,g.LZ a d v j (by rw[r.n];exact hd) hH]
  by_cases e:d=j
  ·simp only[e,if_true];exact h
  ·simp only[e,if_false];exact r.env j
 obj:=r.obj
 inj:=r.inj
 lo:=r.lo
 nx:=r.nx
 wt:=r.wt
 below:=r.below
 hB:=r.hB
 N0:=r.N0
 fr:=r.fr
 km:=r.km
theorem Rel.eY (r:Rel g δ κ a w) {d:Option Nat} {v:Value} {av:AV} (hd:∀x,d=some x→x<δ.n∧x<HS) (h:RA (δ.cx g κ) w v av):Rel g (δ.eY d av) κ (a.put d v) w:=by
 cases d with
 |none=>exact r
 |some x=>exact r.put (hd x rfl).1 (hd x rfl).2 h
theorem GO.goes {g:e6} {a:Act} {w w':World} (h:GO g a w) (hb:∀r,g.B≤r→w.heap[r]? =some (.deferred (some []))→w'.heap[r]? =w.heap[r]?):GO g a w':=by
 obtain⟨rs,h1,h2,h3⟩:=h
 exact⟨rs,h1,h2,fun r hr=>⟨(h3 r hr).1,(hb r (h3 r hr).1 (h3 r hr).2).trans (h3 r hr).2⟩⟩
theorem qZ {k:World×(Nat→Prop)×Nat} {w:World} {b:Nat} (h:b<k.1.heap.size∧w.heap[b]? =k.1.heap[b]?):b<w.heap.size:=by
 have:=h.2
 rw[aN h.1] at this
 exact(aO.1 this).1
theorem iJ {w:World} {r:Nat} {o:Obj} (h:w.heap[r]? =some o):r<w.heap.size:=(aO.1 h).1
theorem mr.goes {C C':Cx} {w w':World} (G:kr C w C' w') {es:Array MapEntry} {l:List (Value×AV)} (h:mr C w es l):mr C' w' es l:=
 ⟨h.1,fun j e p h1 h2=>⟨(h.2 j e p h1 h2).1,G.ra (h.2 j e p h1 h2).2⟩⟩
theorem mr.last {C C':Cx} {w w':World} {es:Array MapEntry} {l:List (Value×AV)} {k:Value} {v v':AV} (h:mr C w es (l++ [(k,v)])) (h1:∀(u:Value) (p:Value×AV),p∈l→RA C w u p.2→RA C' w' u p.2) (h2:∀u:Value,RA C w u v→RA C' w' u v'):mr C' w' es (l++ [(k,v')]):=by
 refine⟨by simpa using h.1,fun j e p hj hp=>?_⟩
 by_cases fx:j<l.length
 ·rw[aT fx] at hp
  obtain⟨a1,a2⟩:=h.2 j e p hj (by rw[aT fx];exact hp)
  exact⟨a1,h1 _ p (aU hp) a2⟩
 ·rw[aV aJ] at hp
  obtain⟨a1,a2⟩:=h.2 j e (k,v) hj (by
   rw[aV aJ]
   have:j - l.length=0:=by have:=(aW.1 hp).1;simpa using this
   rw[this];rfl)
  have:p=(k,v'):=by
   have h0:j - l.length=0:=by have:=(aW.1 hp).1;simpa using this
   rw[h0] at hp;simpa using hp.symm
  subst this
  exact⟨a1,h2 _ a2⟩
theorem vC.goes {C C':Cx} {w w':World} {i:Nat} {e:TypeId} {p:Value×List Value} (h:vC C w i e p) (hB:C'.B=C.B) (hP:∀b,p.1.ownBlock=some b→C.κ.F i b→b<w.heap.size→C'.κ.F i b∧w'.heap[b]? =w.heap[b]?):vC C' w' i e p:=by
 obtain⟨⟨h1,h2⟩,h3,h4,h5⟩:=h
 rcases h2 with h2|⟨b,cap,cur,hv,h6,h7,h8⟩
 ·exact⟨⟨h1,.inl h2⟩,h3,(fun b hb=>by rw[h2.1] at hb;cases hb),h5⟩
 ·have hb:p.1.ownBlock=some b:=by rw[hv];rfl
  obtain⟨h9,xx⟩:=hP b hb (h4 b hb) (iJ h7)
  refine⟨⟨h1,.inr ⟨b,cap,cur,hv,by rw[hB];exact h6,xx.trans h7,h8⟩⟩,h3,fun b' iU=>?_,h5⟩
  rw[hb] at iU;cases iU;exact h9
theorem nY.goes {C C':Cx} {w w':World} (G:kr C w C' w') {i:Nat} {o:Ob} (hκ:C'.κ i=C.κ i) (hb:∀b,C.κ i=some b→w'.heap[b]? =w.heap[b]?) (hP:∀b,C.κ.F i b→b<w.heap.size→C'.κ.F i b∧w'.heap[b]? =w.heap[b]?) (h:nY C w i o):nY C' w' i o:=by
 cases o with
 |row=>
  intro b xp
  rw[hκ] at xp
  obtain⟨c,e,h1⟩:=h b xp
  exact⟨c,e,(hb b xp).trans h1⟩
 |box cells=>
  obtain⟨b,c,e,h1,h2,h3,h4⟩:=h
  exact⟨b,c,e,hκ.trans h1,(hb b h1).trans h2,h3,fun j u av h5 h6=>⟨G.ra (h4 j u av h5 h6).1,(h4 j u av h5 h6).2⟩⟩
 |mp l=>
  obtain⟨b,es,clock,h1,h2,h3,h4⟩:=h
  exact⟨b,es,clock,hκ.trans h1,(hb b h1).trans h2,h3.goes G,h4⟩
 |mpl l k v=>
  obtain⟨b,es,clock,h1,h2,h3,h4⟩:=h
  exact⟨b,es,clock,hκ.trans h1,(hb b h1).trans h2,h3.goes G,h4⟩
 |it l seen=>
  obtain⟨b,h1,h2⟩:=h
  exact⟨b,hκ.trans h1,h2.mono G.size G.N (hb b h1)⟩
 |lit T vals=>obtain⟨b,h1,h2⟩:=h;exact⟨b,hκ.trans h1,(hb b h1).trans h2⟩
 |ff e rows=>exact⟨hκ.trans h.1,fun k=>(h.2.1 k).goes G.B fun b _ hF fx=>hP b hF fx,h.2.2⟩
 |loop l tm ps jf body st=>
  obtain⟨b,lr,h1,h2,h3⟩:=h
  exact⟨b,lr,hκ.trans h1,(hb b h1).trans h2,h3⟩
theorem DS.gI {δ:DS} {i:Nat} (h:δ.lr i):δ.live i:=⟨_,h⟩
theorem DS.lW {δ:DS} {i:Nat} (h:δ.lb i):δ.live i:=let ⟨o,h1,_⟩:=h;⟨o,h1⟩
theorem Rel.ext (r:Rel g δ κ a w) {w':World} (hb:Below w.heap.size w w'):Rel g δ κ a w':=by
 have G:kr (δ.cx g κ) w (δ.cx g κ) w':=
  {B:=rfl,size:=hb.size,N:=fun b h1 h2=>⟨h2,hb.block b h1⟩
   Lr:=fun i hi=>⟨hi,rfl,fun b hκ=>hb.block b (r.lo i b (DS.gI hi) hκ).2⟩
   Lb:=fun i hi=>⟨hi,rfl⟩}
 exact
  {n:=r.n,dfr:=r.dfr.goes fun k _ hk=>hb.block k (iJ hk),env:=fun j=>G.ra (r.env j)
   obj:=fun i o h=>(r.obj i o h).goes G rfl (fun b hκ=>hb.block b (r.lo i b ⟨o,h⟩ hκ).2) (fun b hF fx=>⟨hF,hb.block b fx⟩)
   inj:=r.inj,lo:=fun i b h1 h2=>⟨(r.lo i b h1 h2).1,aK (r.lo i b h1 h2).2 hb.size⟩
   nx:=r.nx,wt:=fun k hk=>⟨fun b xT=>⟨((r.wt k hk).1 b xT).1,(hb.block b (qZ ((r.wt k hk).1 b xT))).trans ((r.wt k hk).1 b xT).2⟩,(r.wt k hk).2⟩,below:=r.below.trans (hb.mono r.hB),hB:=aQ r.hB hb.size,N0:=r.N0
   fr:=r.fr.of hb.size (fun b _ h1 _=>hb.block b h1) (fun i b h1 h2=> .inl ⟨i,h1,h2⟩),km:=r.km}
def gT (κ:Kp) (i:Nat) (b:Option Nat):Kp:=⟨fun j=>if i=j then b else κ j,κ.F⟩
theorem Rel.grow (r:Rel g δ κ a w) (ob:Ob) (o:Obj)
  (js:∀C,kr (δ.cx g κ) w C (w.alloc o)→C.κ δ.nx=some w.heap.size→nY C (w.alloc o) δ.nx ob):
  Rel g (δ.fN ob) (gT κ δ.nx (some w.heap.size)) a (w.alloc o)∧kr (δ.cx g κ) w ((δ.fN ob).cx g (gT κ δ.nx (some w.heap.size))) (w.alloc o):=by
 have hold:∀k,k<w.heap.size→(w.alloc o).heap[k]? =w.heap[k]?:=fun k hk=>Below.heap_alloc w o k hk
 have nG:¬δ.live δ.nx:=fun h=>aX _ (r.nx _ h)
 have fZ:∀i,δ.live i→δ.nx≠i:=fun i h e=>nG (e▸h)
 have fS:∀i,(δ.fN ob).live i→i=δ.nx∨δ.live i:=by
  intro i ⟨o',h⟩
  rw[fY] at h
  by_cases e:δ.nx=i
  ·exact .inl e.symm
  ·rw[if_neg e] at h;exact .inr ⟨o',h⟩
 have ny:(w.alloc o).heap.size=w.heap.size+1:=by show(w.heap.push o).size=_;simp
 have G:kr (δ.cx g κ) w ((δ.fN ob).cx g (gT κ δ.nx (some w.heap.size))) (w.alloc o):=
  {B:=rfl,size:=by omega
   N:=fun b h1 h2=>⟨⟨h2.1,fun i hi=>by
    show gT κ δ.nx (some w.heap.size) i≠some b
    rcases fS i hi with rfl|hi
    ·simp only[gT,if_true];intro e;cases e;omega
    ·simp only[gT,fZ i hi,if_false];exact h2.2 i hi⟩,hold b h1⟩
   Lr:=fun i hi=>by
    have kq:=fZ i (DS.gI hi)
    refine⟨?_,by show gT _ _ _ i=κ i;simp [gT,kq],fun b hκ=>hold b (r.lo i b (DS.gI hi) hκ).2⟩
    show(δ.fN ob).ob i=_
    rw[fY,if_neg kq];exact hi
   Lb:=fun i hi=>by
    have kq:=fZ i (DS.lW hi)
    refine⟨?_,by show gT _ _ _ i=κ i;simp [gT,kq]⟩
    obtain⟨o',h1,h2⟩:=hi
    exact⟨o',by rw[fY,if_neg kq];exact h1,h2⟩}
 refine⟨?_,G⟩
 exact
  {n:=r.n,dfr:=r.dfr.goes fun k _ hk=>hold k (iJ hk),env:=fun j=>G.ra (r.env j)
   obj:=fun i o' h=>by
    rw[fY] at h
    by_cases e:δ.nx=i
    ·rw[if_pos e] at h;cases h;subst e
     exact js _ G (by show gT _ _ _ _=_;simp [gT])
    ·rw[if_neg e] at h
     exact(r.obj i o' h).goes G (by show gT _ _ _ i=κ i;simp [gT,e]) (fun b hκ=>hold b (r.lo i b ⟨o',h⟩ hκ).2) (fun b hF fx=>⟨hF,hold b fx⟩)
   inj:=fun i j b h1 h2 h3 h4=>by
    rcases fS i h1 with rfl|h1
    ·rcases fS j h2 with rfl|h2
     ·rfl
     ·simp only[gT,if_true] at h3
      simp only[gT,fZ j h2,if_false] at h4
      cases h3
      exact absurd (r.lo j _ h2 h4).2 (by omega)
    ·rcases fS j h2 with rfl|h2
     ·simp only[gT,if_true] at h4
      simp only[gT,fZ i h1,if_false] at h3
      cases h4
      exact absurd (r.lo i _ h1 h3).2 (by omega)
     ·simp only[gT,fZ i h1,fZ j h2,if_false] at h3 h4
      exact r.inj i j b h1 h2 h3 h4
   lo:=fun i b h1 h2=>by
    rw[ny]
    rcases fS i h1 with rfl|h1
    ·simp only[gT,if_true] at h2;cases h2;exact⟨r.hB,by omega⟩
    ·simp only[gT,fZ i h1,if_false] at h2
     have:=r.lo i b h1 h2
     omega
   nx:=fun i h=>by
    show i<δ.nx+1
    rcases fS i h with rfl|h
    ·omega
    ·have:=r.nx i h;omega
   wt:=fun k hk=>⟨fun b xT=>⟨((r.wt k hk).1 b xT).1,(hold b (qZ ((r.wt k hk).1 b xT))).trans ((r.wt k hk).1 b xT).2⟩,fun i b hl hi hκ xT=>by
    rcases fS i hl with rfl|kq
    ·simp only[gT,if_true] at hκ
     cases hκ
     exact absurd (qZ ((r.wt k hk).1 _ xT)) (aX _)
    ·simp only[gT,fZ i kq,if_false] at hκ
     refine(r.wt k hk).2 i b kq ?_ hκ xT
     refine hi.imp (fun hi=>?_) id
     have rJ:(δ.fN ob).ob i=some .row:=hi
     rw[fY,if_neg (fZ i kq)] at rJ
     exact rJ⟩
   below:=r.below.alloc r.hB o
   hB:=by rw[ny];have:=r.hB;omega
   N0:=r.N0
   km:=r.km
   fr:=r.fr.of (by rw[ny];omega) (fun b _ h1 _=>hold b h1) fun i b h1 h2=>by
    rcases fS i h1 with rfl|h1
    ·simp only[gT,if_true] at h2;cases h2;exact .inr (aP _)
    ·simp only[gT,fZ i h1,if_false] at h2;exact .inl ⟨i,h1,h2⟩}
def lift (g:e6) (Q:Exit→DS→Prop):Exit→Act→World→Prop:=fun e a w=>∃δ κ,Q e δ∧Rel g δ κ a w
abbrev Fw (ro:Option Nat):Fence:={fn:=fun _=>True,depth:=none,alive:=false,round:=ro}
def AW (P:Program) (g:e6) (c:Code) (Q:Exit→DS→Prop) (δ:DS):Prop:=∀κ a w,Rel g δ κ a w→c.wpIn (Fw g.ro) 0 P (lift g Q) a w
def ga (next:DS→Prop) (Q:Exit→DS→Prop):Exit→DS→Prop
 |.normal,δ=>next δ
 |e,δ=>Q e δ
def ft (id:Nat) (Q:Exit→DS→Prop):Exit→DS→Prop
 |.exit id',δ=>if id'=id then Q .normal δ else Q (.exit id') δ
 |e,δ=>Q e δ
theorem AW.mono {c:Code} {Q Q':Exit→DS→Prop} (h:AW P g c Q δ) (hq:∀e δ,Q e δ→Q' e δ):AW P g c Q' δ:=
 fun κ a w r=>wpIn_mono (h κ a w r) fun _ _ _ ⟨δ',κ',h1,h2⟩=>⟨δ',κ',hq _ _ h1,h2⟩
theorem AW.seq {x y:Code} {Q:Exit→DS→Prop} (h:AW P g x (ga (AW P g y Q) Q) δ):AW P g (.seq x y) Q δ:=by
 intro κ a w r
 refine wpIn_seq (wpIn_mono (h κ a w r) fun e a' w'=>?_)
 rintro⟨δ',κ',h1,h2⟩
 cases e with
 |normal=>exact h1 κ' a' w' h2
 |_=>exact⟨δ',κ',h1,h2⟩
theorem AW.skip {Q:Exit→DS→Prop} (h:Q .normal δ):AW P g .skip Q δ:=fun κ _ _ r=>wpIn_skip ⟨δ,κ,h,r⟩
theorem AW.exit {id:Nat} {Q:Exit→DS→Prop} (h:Q (.exit id) δ):AW P g (.exit id) Q δ:=fun κ _ _ r=>wpIn_exit ⟨δ,κ,h,r⟩
theorem AW.ret {Q:Exit→DS→Prop} (h:Q .ret δ):AW P g .ret Q δ:=fun κ _ _ r=>wpIn_ret ⟨δ,κ,h,r⟩
theorem Rel.EY (r:Rel g δ κ a w) (x:Operand) (hx:∀t,x=.tmp t→t<HS):RA (δ.cx g κ) w (a.eval x) (δ.ev x):=by
 cases x with
 |tmp t=>
  have:=r.env t
  unfold e6.val at this
  rw[if_pos (hx t rfl)] at this
  exact this
 |const v=>exact .pv (.lit v)
 |global n=>exact .any _
 |func f=>exact .jJ rfl (fun j u c h=>by simp at h) rfl (fun j u c h=>by simp at h)
theorem RA.lit {C:Cx} {w:World} {v u:Value} (h:RA C w v (.pv (.lit u))):v=u:=by cases h with|pv h=>cases h;rfl
def fq (x:Operand):Bool:=match x with|.tmp t=>aY t HS|_=>true
theorem iV {x:Operand} (h:fq x=true):∀t,x=.tmp t→t<HS:=by
 rintro t rfl;simpa [fq] using h
theorem AW.cond {c:Operand} {x y:Code} {t:Bool} {Q:Exit→DS→Prop} (ho:fq c=true) (hc:δ.ev c=.pv (.lit (.bool t))) (h1:t=true→AW P g x Q δ) (h2:t=false→AW P g y Q δ):AW P g (.cond c x y) Q δ:=by
 intro κ a w r
 have he:=r.EY c (iV ho)
 rw[hc] at he
 exact wpIn_cond_split he.lit (fun h=>h1 h κ a w r) (fun h=>h2 h κ a w r)
theorem AW.block {id:Nat} {c:Code} {Q:Exit→DS→Prop} (h:AW P g c (ft id Q) δ):AW P g (.block id c) Q δ:=by
 intro κ a w r
 refine wpIn_block (wpIn_mono (h κ a w r) fun e a' w'=>?_)
 rintro⟨δ',κ',h1,h2⟩
 cases e with
 |exit id'=>
  simp only[ft] at h1
  show(if id'=id then _ else _)
  by_cases e:id'=id
  ·rw[if_pos e] at h1 ⊢;exact⟨δ',κ',h1,h2⟩
  ·rw[if_neg e] at h1 ⊢;exact⟨δ',κ',h1,h2⟩
 |_=>exact⟨δ',κ',h1,h2⟩
theorem BI {F:Fence} {n0:Nat} {c:Code} {Q:Exit→Act→World→Prop} (I:Nat→Act→World→Prop)
  (round:∀n a w,I n a w→c.wpIn F n0 P (Exit.then (fun a' w'=>∃m,m<n∧I m a' w') Q) a w) {n:Nat} {a:Act} {w:World} (h0:I n a w):(Code.loop c).wpIn F n0 P Q a w:=by
 intro b k cs yf hb hr
 have key:∀n a w,I n a w→
   ∃e a' w',Q e a' w'∧ArrivesIn (Machine.fenced P F) P (lone (b.atR a (.code c::.inLoop c::k)) cs w) b k cs e a' w':=by
  intro n
  induction n using Nat.strongRecOn with
  |_ n ih=>
   intro a w hI
   obtain⟨e,a₁,w₁,hq,rI⟩:=round n a w hI b (.inLoop c::k) cs yf hb hr
   cases e with
   |normal=>
    obtain⟨m,fx,hI₁⟩:=hq
    obtain⟨e₂,a₂,w₂,hq₂,harr₂⟩:=ih m fx a₁ w₁ hI₁
    exact⟨e₂,a₂,w₂,hq₂,.of_steps (StepsIn.trans rI (.one (fenced_calm hb hr rfl) stepR_inLoop)) harr₂⟩
   |exit id=>exact⟨_,a₁,w₁,hq,.pass (x:=.inLoop c) rfl (fun _ _=> .inl (by simp)) rI⟩
   |goto l=>exact⟨_,a₁,w₁,hq,.pass (x:=.inLoop c) rfl (fun _ _=> .inl (by simp)) rI⟩
   |ret=>exact⟨_,a₁,w₁,hq,.pass (x:=.inLoop c) rfl (fun _ _=> .inl (by simp)) rI⟩
   |panic ch=>exact⟨_,a₁,w₁,hq,.pass (x:=.inLoop c) rfl (fun _ _=> .inl (by simp)) rI⟩
   |outgrown=>exact⟨_,a₁,w₁,hq,.pass (x:=.inLoop c) rfl (fun _ _=> .inl (by simp)) rI⟩
 obtain⟨e,a',w',hq,rI⟩:=key _ a w h0
 exact⟨e,a',w',hq,.of_steps (.one (fenced_calm hb hr rfl) stepR_loop) rI⟩
def nV (g:e6) (δ δ':DS):Prop:=∀κ a w,Rel g δ κ a w→∃κ',Rel g δ' κ' a w
theorem AW.fy {c:Code} {Q:Exit→DS→Prop} {δ':DS} (hw:nV g δ δ') (h:AW P g c Q δ'):AW P g c Q δ:=fun κ a w r=>let ⟨κ',r'⟩:=hw κ a w r;h κ' a w r'
theorem AW.loop {S:Type} {c:Code} {Q:Exit→DS→Prop} (D:S→DS) (I:S→Prop) (μ:S→Nat) (s0:S) (hs:I s0) (hw:nV g δ (D s0))
  (round:∀s,I s→AW P g c (ga (fun δ'=>∃s',I s'∧μ s'<μ s∧nV g δ' (D s')) Q) (D s)):AW P g (.loop c) Q δ:=by
 intro κ a w r
 obtain⟨κ0,r0⟩:=hw κ a w r
 refine BI (fun n a w=>∃s κ,I s∧μ s=n∧Rel g (D s) κ a w) ?_ (n:=μ s0) ⟨s0,κ0,hs,rfl,r0⟩
 rintro n a w ⟨s,κ,hI,rfl,hr⟩
 refine wpIn_mono (round s hI κ a w hr) fun e a' w'=>?_
 rintro⟨δ',κ',h1,h2⟩
 cases e with
 |normal=>
  obtain⟨s',hI',hm,j5⟩:=h1
  obtain⟨κ2,r2⟩:=j5 κ' a' w' h2
  exact⟨μ s',hm,s',κ2,hI',rfl,r2⟩
 |_=>exact⟨δ',κ',h1,h2⟩
def jP (o:Oper):Bool:=match o.op with|.defer _=>false|_=>true
def Oper.Ac (P:Program) (o:Oper) (F:Fence) (a:Act) (w:World) (K:Act→World→Prop) (Q:Exit→Act→World→Prop):Prop:=o.uponIn F 0 P a K Q ((execOp a.eval o).run P w)
theorem gV {ro:Option Nat} {ops:Array Oper} {Q:Exit→Act→World→Prop} {a:Act} {w:World} {rest:List Oper} {o:Oper} (hg:o.guard=none) (hd:jP o=true)
  (h:∀K:Act→World→Prop,(∀a w,wpListIn (Fw ro) 0 P ops Q rest a w→K a w)→Oper.Ac P o (Fw ro) a w K Q):wpListIn (Fw ro) 0 P ops Q (o::rest) a w:=by
 refine wpListIn_plain hg fun K hK=>⟨fun _ _=>trivial,?_⟩
 have:=h K hK
 unfold Oper.Ac at this
 rw[Oper.semAt_eq _ _ _ (by intro c e;simp [jP,e] at hd)]
 exact this
inductive Md where
 |plain
 |quiet
 |held
def kX (δ:DS) (κ:Kp) (w w':World):Prop:=∀b,b<w.heap.size→((∀i,δ.lr i→κ i≠some b)∧¬κ.Fs b)→w'.heap[b]? =w.heap[b]?
theorem kX.BA {δ:DS} {κ:Kp} {w w':World} (h:Below w.heap.size w w'):kX δ κ w w':=fun b hb _=>h.block b hb
theorem kX.refl (δ:DS) (κ:Kp) (w:World):kX δ κ w w:=fun _ _ _=>rfl
theorem kX.cell {δ:DS} {κ:Kp} {w w':World} (h:kX δ κ w w') {ad:Addr} (hb:ad.block<w.heap.size) (hn:(∀i,δ.lr i→κ i≠some ad.block)∧¬κ.Fs ad.block):w'.cell? ad=w.cell? ad:=World.cell?_of_block (w:=w) (h ad.block hb hn)
def xd (P:Program) (ops:Array Oper) (C:World→Prop) (Q:Act→Prop):List Oper→Act→Prop
 |[],a=>Q a
 |o::rest,a=>∃v,YieldsIf P ops C o v a∧xd P ops C Q rest (a.put o.dst v)
def a_ (q:Md) (P:Program) (g:e6) (ops:Array Oper) (l:List Oper) (Q:Exit→DS→Prop) (δ:DS):Prop:=∀κ a w,Rel g δ κ a w→
 match q with
 |.quiet=>wpQuiet P ops (fun w'=>Below w.heap.size w w') (fun a'=>∀w',Below w.heap.size w w'→lift g Q .normal a' w') l a
 |.held=>xd P ops (kX δ κ w) (fun a'=>∃δ',Q .normal δ'∧δ'.gq=δ.gq∧Rel g δ' κ a' w) l a
 |.plain=>wpListIn (Fw g.ro) 0 P ops (lift g Q) l a w
theorem AW.region {id:Nat} {l:List Oper} {Q:Exit→DS→Prop} (h:a_ .plain P g l.toArray l Q δ):AW P g (.region id l.toArray false) Q δ:=fun κ a w r=>wpIn_region_lit (h κ a w r)
def Q2 (o:Oper):Bool:=match o.op with
 |.alloc _|.box _ _|.buildSlice ..|.store ..|.makeMap ..|.makeSlice ..|.mapUpdate ..|.mapEntry ..|.entryStore ..|.insert ..=>false
 |.call c=>(match c.callee with|.builtin .append|.builtin .copy=>false|_=>true)
 |_=>true
theorem AW.gk {id:Nat} {l:List Oper} {Q:Exit→DS→Prop} (_hl:l.all Q2=true) (hm:P.follows .mixedOrders=true) (hB:Region.lexB .any l.toArray=true) (yf:g.ro=none) (h:a_ .quiet P g l.toArray l Q δ):AW P g (.region id l.toArray true) Q δ:=by
 intro κ a w r
 have h1:=h κ a w r
 rw[yf]
 refine wpIn_wide.2 ?_
 refine wp_region_quiet (C:=fun w'=>Below w.heap.size w w') hm hB (Below.drew (Below.refl _ _)) ?_
 simpa using h1
theorem a_.nil {q:Md} {ops:Array Oper} {Q:Exit→DS→Prop} (h:Q .normal δ):a_ q P g ops [] Q δ:=fun κ _ _ r=>by
 cases q with
 |quiet=>exact fun w' j5=>⟨δ,κ,h,r.ext j5⟩
 |held=>exact⟨δ,h,rfl,r⟩
 |plain=>exact wpListIn_nil ⟨δ,κ,h,r⟩
def fR (n:Nat) (d:Option Nat):Bool:=match d with|some x=>aY x n && aY x HS|none=>true
theorem fv {n:Nat} {d:Option Nat} (h:fR n d=true):∀x,d=some x→x<n∧x<HS:=by
 rintro x rfl
 simp only[fR,aZ] at h
 exact⟨by simpa using h.1,by simpa using h.2⟩
theorem qG (δ:DS) (d:Option Nat) (v:AV):(δ.eY d v).gq=δ.gq:=by cases d<;>rfl
theorem vE (δ:DS) (d:Option Nat) (v:AV):(δ.eY d v).lr=δ.lr:=by cases d<;>rfl
theorem a_.val {q:Md} {ops:Array Oper} {o:Oper} {rest:List Oper} {Q:Exit→DS→Prop} (v:AV) (hg:o.guard=none) (jy:jP o=true) (hd:fR δ.n o.dst=true)
  (h:∀κ a w,Rel g δ κ a w→∃u,(∀w',kX δ κ w w'→(execOp a.eval o).run P w'=.ok (.value u) w')∧RA (δ.cx g κ) w u v) (hK:a_ q P g ops rest Q (δ.eY o.dst v)):a_ q P g ops (o::rest) Q δ:=by
 intro κ a w r
 obtain⟨u,h1,h2⟩:=h κ a w r
 have yN:=hK κ _ _ (r.eY (fv hd) h2)
 cases q with
 |quiet=>
  show wpQuiet P ops _ _ (o::rest) a
  unfold wpQuiet
  rw[if_pos (by simp [Region.wanted,hg])]
  refine⟨u,fun w' j5=>?_,yN⟩
  unfold Oper.quietAt
  rw[h1 w' (kX.BA j5)]
  exact⟨rfl,rfl⟩
 |held=>
  show xd P ops _ _ (o::rest) a
  refine⟨u,.inl ⟨by simp [Region.wanted,hg],fun w' j5=>h1 w' j5⟩,?_⟩
  ·have hH:kX (δ.eY o.dst v) κ w=kX δ κ w:=by unfold kX;rw[vE]
   simp only[hH,qG] at yN
   exact yN
 |plain=>
  show wpListIn _ _ P ops _ (o::rest) a w
  refine gV hg jy fun K oS=>?_
  unfold Oper.Ac
  rw[h1 w (kX.refl _ _ _),Oper.uponIn_value]
  exact oS _ _ yN
theorem a_.Qt {q:Md} {ops:Array Oper} {o:Oper} {rest:List Oper} {Q:Exit→DS→Prop} (v:AV) (hq:q≠ .held) (hg:o.guard=none) (jy:jP o=true) (hd:fR δ.n o.dst=true)
  (h:∀κ a w,Rel g δ κ a w→∃u,(∀w',Below w.heap.size w w'→(execOp a.eval o).run P w'=.ok (.value u) w')∧RA (δ.cx g κ) w u v) (hK:a_ q P g ops rest Q (δ.eY o.dst v)):a_ q P g ops (o::rest) Q δ:=by
 intro κ a w r
 obtain⟨u,h1,h2⟩:=h κ a w r
 have yN:=hK κ _ _ (r.eY (fv hd) h2)
 cases q with
 |quiet=>
  show wpQuiet P ops _ _ (o::rest) a
  unfold wpQuiet
  rw[if_pos (by simp [Region.wanted,hg])]
  refine⟨u,fun w' j5=>?_,yN⟩
  unfold Oper.quietAt
  rw[h1 w' j5]
  exact⟨rfl,rfl⟩
 |held=>exact absurd rfl hq
 |plain=>
  show wpListIn _ _ P ops _ (o::rest) a w
  refine gV hg jy fun K oS=>?_
  unfold Oper.Ac
  rw[h1 w (Below.refl _ _),Oper.uponIn_value]
  exact oS _ _ yN
def iQ (P:Program) (g:e6) (o:Oper) (δ δ':DS):Prop:=∀κ a w,Rel g δ κ a w→
 (∃x v w' κ',(execOp a.eval o).run P w=.ok x w'∧(x=.value v∨(x=.skip∧v=undef))∧Rel g δ' κ' (a.put o.dst v) w')∨
 (∃f vals,(execOp a.eval o).run P w=.ok (.enter f vals) w∧Calls P f vals w fun e w'=>∃v κ',e=.returned v∧Rel g δ' κ' (a.put o.dst v) w')
theorem a_.qA {ops:Array Oper} {o:Oper} {rest:List Oper} {Q:Exit→DS→Prop} {δ':DS} (hg:o.guard=none) (jy:jP o=true) (h:iQ P g o δ δ') (hK:a_ .plain P g ops rest Q δ'):a_ .plain P g ops (o::rest) Q δ:=by
 intro κ a w r
 show wpListIn _ _ P ops _ (o::rest) a w
 refine gV hg jy fun K oS=>?_
 unfold Oper.Ac
 rcases h κ a w r with ⟨x,v,w',κ',h1,h2,h3⟩|⟨f,vals,h1,h2⟩
 ·rw[h1]
  rcases h2 with rfl|⟨rfl,rfl⟩
  ·rw[Oper.uponIn_value];exact oS _ _ (hK _ _ _ h3)
  ·rw[Oper.uponIn_skip];exact oS _ _ (hK _ _ _ h3)
 ·rw[h1,Oper.uponIn_enter]
  refine⟨fun h=>by simp at h,(callsIn_wide.2 h2).mono ?_⟩
  rintro e w' ⟨v,κ',rfl,h3⟩
  exact oS _ _ (hK _ _ _ h3)
end Go.Ab
/- The operations' laws over abstract states,one by one. -/
namespace Go.Ab
open Go Go.RowKit
variable {q:Md} {P:Program} {g:e6} {δ:DS} {κ:Kp} {a:Act} {w:World}
variable {ops:Array Oper} {rest:List Oper} {Q:Exit→DS→Prop} {dst:Option Nat} {ty:TypeId} {pos:String} {af:Array Edge}
abbrev e7 (n:Int):AV:=.pv (.lit (.int .i64 n))
abbrev fu (b:Bool):AV:=.pv (.lit (.bool b))
theorem a_.iR {op:Op} (v:AV) (hd:fR δ.n dst=true)
  (h:∀κ a w,Rel g δ κ a w→∃u,(∀w',kX δ κ w w'→(execOp a.eval ⟨dst,op,ty,pos,af,none⟩).run P w'=.ok (.value u) w')∧RA (δ.cx g κ) w u v) (hK:a_ q P g ops rest Q (δ.eY dst v)) (jy:jP ⟨dst,op,ty,pos,af,none⟩=true:=by rfl):
  a_ q P g ops (⟨dst,op,ty,pos,af,none⟩::rest) Q δ:=a_.val v rfl jy hd h hK
theorem a_.move {x:Operand} {v:AV} (hx:δ.ev x=v) (ho:fq x=true) (hd:fR δ.n dst=true) (hK:a_ q P g ops rest Q (δ.eY dst v)):a_ q P g ops (⟨dst,.move x,ty,pos,af,none⟩::rest) Q δ:=
 a_.iR v hd (fun κ a w r=>⟨a.eval x,fun _ _=>rfl,hx▸r.EY x (iV ho)⟩) hK
theorem a_.assign {x:Operand} {v:AV} (hx:δ.ev x=v) (ho:fq x=true) (hd:fR δ.n dst=true) (hK:a_ q P g ops rest Q (δ.eY dst v)):a_ q P g ops (⟨dst,.assign x,ty,pos,af,none⟩::rest) Q δ:=
 a_.iR v hd (fun κ a w r=>⟨a.eval x,fun _ _=>rfl,hx▸r.EY x (iV ho)⟩) hK
theorem Rel.lit (r:Rel g δ κ a w) {x:Operand} {v:Value} (hx:δ.ev x=.pv (.lit v)) (ho:fq x=true):a.eval x=v:=(hx▸r.EY x (iV ho)).lit
theorem a_.bin {op:BinOp} {x y:Operand} {t t':TypeId} {u v c:Value} (hx:δ.ev x=.pv (.lit u)) (hy:δ.ev y=.pv (.lit v)) (ho:fq x=true) (f_:fq y=true)
  (hr:∀w,(do eqGuard op t x y u v;Go.binOp op t u v:Sem Value).run P w=.ok c w) (hd:fR δ.n dst=true) (hK:a_ q P g ops rest Q (δ.eY dst (.pv (.lit c)))):
  a_ q P g ops (⟨dst,.binOp op t x y t',ty,pos,af,none⟩::rest) Q δ:=
 a_.iR _ hd (fun κ a w r=>⟨c,fun w' _=>by
  have h1:=r.lit hx ho
  have h2:=r.lit hy f_
  have:=hr w'
  simp only[execOp,h1,h2]
  simp only[Sem.run_bind,this,Result.andThen_ok] at*
  first|rfl|simp [this],.pv (.lit c)⟩) hK
theorem my (op:BinOp) (t:TypeId) (x y:Operand) (k:IntKind) (m n:Int) (c:Value) (hs:op≠ .shl∧op≠ .shr)
  (h:(match op with|.add|.sub|.mul=>Op.intArith op k m n|.quo|.rem=>Op.intDiv op k m n|.and|.or|.xor|.andNot=>Op.intBits op k m n|_=>Op.intCmp op m n:Sem Value)=.pure c) (w:World):
  (do eqGuard op t x y (.int k m) (.int k n);Go.binOp op t (.int k m) (.int k n):Sem Value).run P w=.ok c w:=by
 have h1:(eqGuard op t x y (.int k m) (.int k n)).run P w=.ok () w:=by
  unfold eqGuard
  cases op<;>simp [Sem.run,pure,Sem.bind,bind]
 have h2:Go.binOp op t (.int k m) (.int k n)=.pure c:=by
  rw[← h]
  cases op<;>first|exact absurd rfl hs.1|exact absurd rfl hs.2|simp [Go.binOp]
 simp only[Sem.run_bind,h1,Result.andThen_ok,h2]
 rfl
theorem Mm (m n:Int):(m==n)=decide (m=n):=by by_cases h:m=n<;>simp [h]
theorem LL (m n:Int):(m !=n)=decide (¬m=n):=by by_cases h:m=n<;>simp [h]
section ints
variable {x y:Operand} {t t':TypeId} {m n:Int} (hx:δ.ev x=e7 m) (hy:δ.ev y=e7 n) (ho:fq x=true) (f_:fq y=true) (hd:fR δ.n dst=true)
include hx hy ho f_ hd
theorem a_.Vx (hK:a_ q P g ops rest Q (δ.eY dst (e7 (IntKind.i64.wrap (m+n))))):a_ q P g ops (⟨dst,.binOp .add t x y t',ty,pos,af,none⟩::rest) Q δ:=
 a_.bin hx hy ho f_ (my _ _ _ _ _ _ _ _ (by simp) rfl) hd hK
theorem a_.XT (hK:a_ q P g ops rest Q (δ.eY dst (e7 (IntKind.i64.wrap (m - n))))):a_ q P g ops (⟨dst,.binOp .sub t x y t',ty,pos,af,none⟩::rest) Q δ:=
 a_.bin hx hy ho f_ (my _ _ _ _ _ _ _ _ (by simp) rfl) hd hK
theorem a_.XW (hK:a_ q P g ops rest Q (δ.eY dst (e7 (IntKind.i64.wrap (m*n))))):a_ q P g ops (⟨dst,.binOp .mul t x y t',ty,pos,af,none⟩::rest) Q δ:=
 a_.bin hx hy ho f_ (my _ _ _ _ _ _ _ _ (by simp) rfl) hd hK
theorem a_.add (hb: -9223372036854775808≤m+n∧m+n≤9223372036854775807) (hK:a_ q P g ops rest Q (δ.eY dst (e7 (m+n)))):a_ q P g ops (⟨dst,.binOp .add t x y t',ty,pos,af,none⟩::rest) Q δ:=
 a_.Vx hx hy ho f_ hd (by rw[IntWalk.i64_in _ hb];exact hK)
theorem a_.sub (hb: -9223372036854775808≤m - n∧m - n≤9223372036854775807) (hK:a_ q P g ops rest Q (δ.eY dst (e7 (m - n)))):a_ q P g ops (⟨dst,.binOp .sub t x y t',ty,pos,af,none⟩::rest) Q δ:=
 a_.XT hx hy ho f_ hd (by rw[IntWalk.i64_in _ hb];exact hK)
theorem a_.mul (hb: -9223372036854775808≤m*n∧m*n≤9223372036854775807) (hK:a_ q P g ops rest Q (δ.eY dst (e7 (m*n)))):a_ q P g ops (⟨dst,.binOp .mul t x y t',ty,pos,af,none⟩::rest) Q δ:=
 a_.XW hx hy ho f_ hd (by rw[IntWalk.i64_in _ hb];exact hK)
theorem a_.lss (hK:a_ q P g ops rest Q (δ.eY dst (fu (decide (m<n))))):a_ q P g ops (⟨dst,.binOp .lss t x y t',ty,pos,af,none⟩::rest) Q δ:=
 a_.bin hx hy ho f_ (my _ _ _ _ _ _ _ _ (by simp) rfl) hd hK
theorem a_.leq (hK:a_ q P g ops rest Q (δ.eY dst (fu (decide (m≤n))))):a_ q P g ops (⟨dst,.binOp .leq t x y t',ty,pos,af,none⟩::rest) Q δ:=
 a_.bin hx hy ho f_ (my _ _ _ _ _ _ _ _ (by simp) rfl) hd hK
theorem a_.gtr (hK:a_ q P g ops rest Q (δ.eY dst (fu (decide (n<m))))):a_ q P g ops (⟨dst,.binOp .gtr t x y t',ty,pos,af,none⟩::rest) Q δ:=
 a_.bin hx hy ho f_ (my _ _ _ _ _ _ _ _ (by simp) rfl) hd hK
theorem a_.geq (hK:a_ q P g ops rest Q (δ.eY dst (fu (decide (n≤m))))):a_ q P g ops (⟨dst,.binOp .geq t x y t',ty,pos,af,none⟩::rest) Q δ:=
 a_.bin hx hy ho f_ (my _ _ _ _ _ _ _ _ (by simp) rfl) hd hK
theorem a_.eql (hK:a_ q P g ops rest Q (δ.eY dst (fu (decide (m=n))))):a_ q P g ops (⟨dst,.binOp .eql t x y t',ty,pos,af,none⟩::rest) Q δ:=
 a_.bin hx hy ho f_ (my _ _ _ _ _ _ _ _ (by simp) (by simp only[Op.intCmp,Mm];rfl)) hd hK
theorem a_.neq (hK:a_ q P g ops rest Q (δ.eY dst (fu (decide (¬m=n))))):a_ q P g ops (⟨dst,.binOp .neq t x y t',ty,pos,af,none⟩::rest) Q δ:=
 a_.bin hx hy ho f_ (my _ _ _ _ _ _ _ _ (by simp) (by simp only[Op.intCmp,LL];rfl)) hd hK
end ints
end Go.Ab
/- The operations' laws,more:lengths,addresses,loads,boxes,stores,aggregates,guards. -/
namespace Go.Ab
open Go Go.RowKit
variable {q:Md} {P:Program} {g:e6} {δ:DS} {κ:Kp} {a:Act} {w:World}
variable {ops:Array Oper} {rest:List Oper} {Q:Exit→DS→Prop} {dst:Option Nat} {ty:TypeId} {pos:String} {af:Array Edge}
theorem RA.lP {C:Cx} {w:World} {v:Value} {p:PV} (h:RA C w v (.pv p)):RP C.N w v p:=by cases h with|pv h=>exact h
theorem RA.iH {C:Cx} {w:World} {v:Value} {i e k fc} (h:RA C w v (.own i e k fc)):jv C w v i e k fc:=by cases h with|own h=>exact h
theorem Rel.ra (r:Rel g δ κ a w) {x:Operand} {v:AV} (hx:δ.ev x=v) (ho:fq x=true):RA (δ.cx g κ) w (a.eval x) v:=hx▸r.EY x (iV ho)
theorem run_len_slice {t e:TypeId} (ht:P.underlying t=some (.slice e)) (x:Operand) (ρ:Operand→Value) (a0:Option Addr) (n c:Nat) (hx:ρ x=.slice a0 n c) (w:World):
  (execOp ρ ⟨dst,.call {callee:=.builtin .len,args:= #[x],argTypes:= #[t]},ty,pos,af,none⟩).run P w=.ok (.value (.int .i64 n)) w:=by
 simp [execOp,resolve,invoke,builtin,Builtin.len_,run_underlying ht,hx,goInt]
theorem RP.tC {N:Nat→Prop} {w:World} {v:Value} {k:Nat} {fc:List (List PV)} (h:RP N w v (.slice k fc)):∃a c,v=.slice a fc.length c∧fc.length≤140737488355328:=by
 cases h with|slice b off vs hl n_ hb=>subst hl;exact⟨_,_,rfl,hb⟩
theorem jv.inv {C:Cx} {w:World} {v:Value} {i e k fc} (h:jv C w v i e k fc):∃a c,v=.slice a fc.length c:=by
 obtain⟨_,_,_,_,xs,ho,_⟩:=h
 rcases ho.2 with ⟨rfl,h0⟩|⟨b,cap,cur,rfl,_⟩
 ·exact⟨none,0,by rw[h0]⟩
 ·exact⟨_,_,rfl⟩
theorem a_.len {x:Operand} {t e:TypeId} {k:Nat} {fc:List (List PV)} (hx:δ.ev x=.pv (.slice k fc)) (ht:P.underlying t=some (.slice e)) (ho:fq x=true) (hd:fR δ.n dst=true)
  (hK:a_ q P g ops rest Q (δ.eY dst (e7 (fc.length:Nat)))):a_ q P g ops (⟨dst,.call {callee:=.builtin .len,args:= #[x],argTypes:= #[t]},ty,pos,af,none⟩::rest) Q δ:=
 a_.iR _ hd (fun κ a w r=>by
  obtain⟨a0,c,hv,_⟩:=(r.ra hx ho).lP.tC
  exact⟨_,fun w' _=>run_len_slice ht x a.eval a0 _ c hv w',.pv (.lit _)⟩) hK
theorem a_.kL {α:Type} {x:Operand} {t e:TypeId} {k:Nat} {f:α→List PV} {l:List α} (hx:δ.ev x=.pv (.slice k (l.map f))) (ht:P.underlying t=some (.slice e)) (ho:fq x=true) (hd:fR δ.n dst=true)
  (hK:a_ q P g ops rest Q (δ.eY dst (e7 (l.length:Nat)))):a_ q P g ops (⟨dst,.call {callee:=.builtin .len,args:= #[x],argTypes:= #[t]},ty,pos,af,none⟩::rest) Q δ:=
 a_.len hx ht ho hd (by rw[a6];exact hK)
theorem a_.E6 {x:Operand} {t e e':TypeId} {i k:Nat} {fc:List (List PV)} (hx:δ.ev x=.own i e' k fc) (ht:P.underlying t=some (.slice e)) (ho:fq x=true) (hd:fR δ.n dst=true)
  (hK:a_ q P g ops rest Q (δ.eY dst (e7 (fc.length:Nat)))):a_ q P g ops (⟨dst,.call {callee:=.builtin .len,args:= #[x],argTypes:= #[t]},ty,pos,af,none⟩::rest) Q δ:=
 a_.iR _ hd (fun κ a w r=>by
  obtain⟨a0,c,hv⟩:=(r.ra hx ho).iH.inv
  exact⟨_,fun w' _=>run_len_slice ht x a.eval a0 _ c hv w',.pv (.lit _)⟩) hK
theorem a_.iP {α:Type} {x:Operand} {t e e':TypeId} {i k:Nat} {f:α→List PV} {l:List α} (hx:δ.ev x=.own i e' k (l.map f)) (ht:P.underlying t=some (.slice e)) (ho:fq x=true) (hd:fR δ.n dst=true)
  (hK:a_ q P g ops rest Q (δ.eY dst (e7 (l.length:Nat)))):a_ q P g ops (⟨dst,.call {callee:=.builtin .len,args:= #[x],argTypes:= #[t]},ty,pos,af,none⟩::rest) Q δ:=
 a_.E6 hx ht ho hd (by rw[a6];exact hK)
theorem a_.fact {l:List Oper} {φ:Prop} (h:∀κ a w,Rel g δ κ a w→φ) (hK:φ→a_ q P g ops l Q δ):a_ q P g ops l Q δ:=fun κ a w r=>hK (h κ a w r) κ a w r
theorem AW.fact {c:Code} {φ:Prop} (h:∀κ a w,Rel g δ κ a w→φ) (hK:φ→AW P g c Q δ):AW P g c Q δ:=fun κ a w r=>hK (h κ a w r) κ a w r
theorem Rel.len (r:Rel g δ κ a w) {j k:Nat} {fc:List (List PV)} (h:δ.get j=.pv (.slice k fc)):fc.length≤140737488355328:=by
 have:=r.env j
 rw[h] at this
 obtain⟨_,_,_,h⟩:=this.lP.tC
 exact h
theorem AW.len {c:Code} (j:Nat) {k:Nat} {fc:List (List PV)} (h:δ.get j=.pv (.slice k fc)) (hK:fc.length≤140737488355328→AW P g c Q δ):AW P g c Q δ:=AW.fact (fun _ _ _ r=>r.len h) hK
theorem AW.kL {α:Type} {c:Code} (j:Nat) {k:Nat} {f:α→List PV} {l:List α} (h:δ.get j=.pv (.slice k (l.map f))) (hK:l.length≤140737488355328→AW P g c Q δ):AW P g c Q δ:=
 AW.fact (fun _ _ _ r=>by have:=r.len h;simpa using this) hK
theorem iE {t e:TypeId} {k:Nat} (ht:P.underlying t=some (.slice e)) (hk:(P.info? e).map (·.size)=some k) {x y:Operand} {ρ:Operand→Value} {b off len c n:Nat} {ik:IntKind}
  (hx:ρ x=.slice (some ⟨b,off,none⟩) len c) (hy:ρ y=.int ik (n:Int)) (hn:n<len) (w:World):
  (execOp ρ ⟨dst,.indexAddr t x y,ty,pos,af,none⟩).run P w=.ok (.value (.pointer (some ⟨b,off+n*k,none⟩))) w:=by
 obtain⟨i0,jh,nU⟩:∃i0,P.info? e=some i0∧i0.size=k:=by
  cases h:P.info? e with
  |none=>rw[h] at hk;simp at hk
  |some i0=>rw[h] at hk;exact⟨i0,rfl,by simpa using hk⟩
 have h1:(0:Int)≤n∧(n:Int)<len:=by omega
 have Vi:(⟨b,off,none⟩:Addr).add (n*k)=⟨b,off+n*k,none⟩:=by unfold Addr.add;split<;>simp_all
 simp [execOp,Instr.indexAt,asIntOf,run_underlying ht,hx,hy,h1,sizeOf,typeInfo,jh,nU,Vi]
 intro h;omega
theorem a_.CK {x y:Operand} {t e:TypeId} {k n:Nat} {ik:IntKind} {fc:List (List PV)} {cs:List PV} (hx:δ.ev x=.pv (.slice k fc)) (hy:δ.ev y=.pv (.lit (.int ik (n:Int)))) (hn:fc[n]? =some cs)
  (ht:P.underlying t=some (.slice e)) (hk:(P.info? e).map (·.size)=some k) (ho:fq x=true) (f_:fq y=true) (hd:fR δ.n dst=true)
  (hK:a_ q P g ops rest Q (δ.eY dst (.gp cs))):a_ q P g ops (⟨dst,.indexAddr t x y,ty,pos,af,none⟩::rest) Q δ:=
 a_.iR _ hd (fun κ a w r=>by
  have h1:=(r.ra hx ho).lP
  generalize hv:a.eval x=v at h1
  cases h1 with
  |slice b off vs hl n_ hb ha FE hc hr=>
   have fx:n<fc.length:=(aW.1 hn).1
   obtain⟨h1,h2,h3⟩:=ha (by intro e;subst e;simp at hn)
   subst h1
   refine⟨_,fun w' _=>iE ht hk hv (r.lit hy f_) aJ w',.gp b (off+n*k) (fun j=>vs n j) h2 h3 (fun j p hp=>?_) (fun j p hp=>?_)⟩
   ·exact hc n j p (by simp [cellAt,hn,hp])
   ·exact hr n j p (by simp [cellAt,hn,hp])) hK
theorem a_.yx {α:Type} {x y:Operand} {t e:TypeId} {k n:Nat} {ik:IntKind} {f:α→List PV} {l:List α} (hx:δ.ev x=.pv (.slice k (l.map f))) (hy:δ.ev y=.pv (.lit (.int ik (n:Int)))) (hn:n<l.length)
  (ht:P.underlying t=some (.slice e)) (hk:(P.info? e).map (·.size)=some k) (ho:fq x=true) (f_:fq y=true) (hd:fR δ.n dst=true)
  (hK:a_ q P g ops rest Q (δ.eY dst (.gp (f l[n])))):a_ q P g ops (⟨dst,.indexAddr t x y,ty,pos,af,none⟩::rest) Q δ:=
 a_.CK hx hy (by rw[a7,a8 hn];rfl) ht hk ho f_ hd hK
theorem a_.qF {x y:Operand} {t e e':TypeId} {i k n:Nat} {ik:IntKind} {fc:List (List PV)} (hx:δ.ev x=.own i e' k fc) (hy:δ.ev y=.pv (.lit (.int ik (n:Int)))) (hn:n<fc.length)
  (ht:P.underlying t=some (.slice e)) (hk:(P.info? e).map (·.size)=some k) (ho:fq x=true) (f_:fq y=true) (hd:fR δ.n dst=true)
  (hK:a_ q P g ops rest Q (δ.eY dst (.gN i e' k fc n))):a_ q P g ops (⟨dst,.indexAddr t x y,ty,pos,af,none⟩::rest) Q δ:=
 a_.iR _ hd (fun κ a w r=>by
  have h1:=(r.ra hx ho).iH
  have h0:=h1
  obtain⟨_,_,_,_,xs,gD,_⟩:=h1
  rcases gD.2 with ⟨_,h⟩|⟨b,cap,cur,hv,_⟩
  ·omega
  ·refine⟨.pointer (some ⟨b,n*k,none⟩),fun w' _=>?_,?_⟩
   ·have:=iE (dst:=dst) (ty:=ty) (pos:=pos) (af:=af) ht hk hv (r.lit hy f_) hn w';rw[ba] at this;exact this
   exact .gN hn (hv▸h0)) hK
def jU (P:Program) (t:TypeId):Bool:=match P.underlying t with|some (.struct _)|some (.array _ _)|none=>false|_=>true
def zU (P:Program) (t:TypeId) (n:Nat):Bool:=(match P.underlying t with|some (.struct _)|some (.array _ _)=>true|_=>false) && ((P.info? t).map (·.size)==some n)
theorem oe {t:TypeId} (h:jU P t=true) (w:World):(isAgg t).run P w=.ok false w:=by
 unfold jU at h
 cases hu:P.underlying t with
 |none=>rw[hu] at h;simp at h
 |some d=>
  rw[hu] at h
  simp only[isAgg,Sem.run_bind,run_underlying hu,Result.andThen_ok]
  cases d<;>first|rfl|(simp at h)
theorem q_ {t:TypeId} {n:Nat} (h:zU P t n=true) (w:World):(isAgg t).run P w=.ok true w∧(sizeOf t).run P w=.ok n w:=by
 unfold zU at h
 simp only[aZ,beq_iff_eq] at h
 obtain⟨h1,h2⟩:=h
 constructor
 ·cases hu:P.underlying t with
  |none=>rw[hu] at h1;simp at h1
  |some d=>
   rw[hu] at h1
   simp only[isAgg,Sem.run_bind,run_underlying hu,Result.andThen_ok]
   cases d<;>first|rfl|(simp at h1)
 ·cases hi:P.info? t with
  |none=>rw[hi] at h2;simp at h2
  |some i=>rw[hi] at h2;simp [sizeOf,typeInfo,hi];simpa using h2
theorem jW {t:TypeId} (h:jU P t=true) {x:Operand} {ρ:Operand→Value} {ad:Addr} {v:Value} {w:World} (hx:ρ x=.pointer (some ad)) (hc:w.cell? ad=some v):
  (execOp ρ ⟨dst,.load t x,ty,pos,af,none⟩).run P w=.ok (.value v) w:=by
 simp [execOp,Instr.loadAt,Instr.sureAddr,loadVar,oe h,hx,load,Sem.run,hc]
theorem sg {t:TypeId} {n:Nat} (h:zU P t n=true) {x:Operand} {ρ:Operand→Value} {ad:Addr} {f:Nat→Value} {w:World} (hx:ρ x=.pointer (some ad)) (hc:∀j,j<n→w.cell? (ad.add j)=some (f j)):
  (execOp ρ ⟨dst,.load t x,ty,pos,af,none⟩).run P w=.ok (.value (.agg ((bc n).map f).toArray)) w:=by
 have h1:=run_loadCells (P:=P) (w:=w) ad n f hc
 simp [execOp,Instr.loadAt,Instr.sureAddr,loadVar,q_ h,hx,h1]
theorem addr_add (b off j:Nat):(⟨b,off,none⟩:Addr).add j=⟨b,off+j,none⟩:=by unfold Addr.add;split<;>simp_all
theorem a_.Mr {x:Operand} {t:TypeId} {p:PV} (hx:δ.ev x=.gp [p]) (ht:jU P t=true) (ho:fq x=true) (hd:fR δ.n dst=true)
  (hK:a_ q P g ops rest Q (δ.eY dst (.pv p))):a_ q P g ops (⟨dst,.load t x,ty,pos,af,none⟩::rest) Q δ:=
 a_.iR _ hd (fun κ a w r=>by
  have h1:=r.ra hx ho
  generalize hv:a.eval x=v at h1
  cases h1 with
  |gp b off vs hN hb hc hr=>
   have h2:=(hc 0 p rfl).1
   rw[bd] at h2
   exact⟨_,fun w' j5=>jW ht hv ((j5.cell (ad:=⟨b,off,none⟩) hb ⟨fun i hi=>hN.2 i (DS.gI hi),hN.1.2⟩).trans h2),.pv (hr 0 p rfl)⟩) hK
theorem a_.qt {x:Operand} {t:TypeId} {cs:List PV} (hx:δ.ev x=.gp cs) (ht:zU P t cs.length=true) (ho:fq x=true) (hd:fR δ.n dst=true)
  (hK:a_ q P g ops rest Q (δ.eY dst (.agg (cs.map .pv)))):a_ q P g ops (⟨dst,.load t x,ty,pos,af,none⟩::rest) Q δ:=
 a_.iR _ hd (fun κ a w r=>by
  have h1:=r.ra hx ho
  generalize hv:a.eval x=v at h1
  cases h1 with
  |gp b off vs hN hb hc hr=>
   refine⟨_,fun w' j5=>sg ht hv (f:=vs) (fun j hj=>?_),.agg (by simp) (fun j u c h1 h2=>?_)⟩
   ·rw[addr_add];exact(j5.cell (ad:=⟨b,off+j,none⟩) hb ⟨fun i hi=>hN.2 i (DS.gI hi),hN.1.2⟩).trans (hc j _ (a8 hj)).1
   ·simp only[bf,a7,bg,bh] at h1 h2
    obtain⟨p,hp,rfl⟩:=h2
    obtain⟨j',n8,rfl⟩:=h1
    have:j'=j:=by
     rw[aW] at n8
     obtain⟨_,h⟩:=n8
     simpa using h.symm
    subst this
    exact .pv (hr _ p hp)) hK
theorem a_.E2 (hq:q≠ .held) {x:Operand} {t e:TypeId} {i n:Nat} {fc:List (List PV)} {p:PV} (hx:δ.ev x=.gN i e 1 fc n) (hp:fc[n]? =some [p]) (ht:jU P t=true) (ho:fq x=true) (hd:fR δ.n dst=true)
  (hK:a_ q P g ops rest Q (δ.eY dst (.pv p))):a_ q P g ops (⟨dst,.load t x,ty,pos,af,none⟩::rest) Q δ:=
 a_.Qt _ hq rfl rfl hd (fun κ a w r=>by
  have h1:=r.ra hx ho
  generalize hv:a.eval x=v at h1
  cases h1 with
  | @gN _ _ _ _ _ b cap hi h=>
   obtain⟨_,_,_,_,xs,gD,_,NY⟩:=h
   obtain⟨u,h1,h2⟩:=NY n 0 p (by simp [cellAt,hp])
   have h3:=gD.cellAt (n*1) (by omega)
   have fx:b<w.heap.size:=(gD.lt b rfl).2
   exact⟨u,fun w' j5=>jW ht hv ((j5.cell (p:=⟨b,n*1,none⟩) fx).trans (h3.trans h1)),.pv h2⟩) hK
theorem a_.Br (hq:q≠ .held) {α:Type} {x:Operand} {t e:TypeId} {i n:Nat} {f:α→PV} {l:List α} (hx:δ.ev x=.gN i e 1 (l.map fun z=>[f z]) n) (hn:n<l.length) (ht:jU P t=true) (ho:fq x=true) (hd:fR δ.n dst=true)
  (hK:a_ q P g ops rest Q (δ.eY dst (.pv (f l[n])))):a_ q P g ops (⟨dst,.load t x,ty,pos,af,none⟩::rest) Q δ:=
 a_.E2 hq hx (by rw[a7,a8 hn];rfl) ht ho hd hK
theorem a_.guard {op:Op} {gj:Nat} {want b:Bool} {d:Nat} {o':Oper} (ho:ops[gj]? =some o') (hd:o'.dst=some d) (vB:aY d HS=true) (wY:aY d δ.n=true) (hb:δ.get d=fu b) (tv:fR δ.n dst=true)
  (hy:b=want→a_ q P g ops (⟨dst,op,ty,pos,af,none⟩::rest) Q δ) (hn:b=!want→a_ q P g ops rest Q (δ.eY dst (.pv (.lit undef)))):a_ q P g ops (⟨dst,op,ty,pos,af,some (gj,want)⟩::rest) Q δ:=by
 intro κ a w r
 have fx:d<HS:=by simpa using vB
 have HQ:d<δ.n:=by simpa using wY
 have hv:a.tmps.getD d undef=.bool b:=by
  have:=r.env d
  rw[hb] at this
  unfold e6.val at this
  rw[if_pos fx] at this
  exact this.lit
 have Oa:a.tmps[d]? =some (.bool b):=by
  rw[← r.n] at HQ
  rw[aR,aN HQ] at hv
  rw[aN HQ]
  exact congrArg some hv
 have Hq:yielded ops a.tmps gj=some b:=by
  simp [yielded,ho,hd,Oa]
 cases q with
 |quiet=>
  by_cases Cv:b=want
  ·have h1:=hy Cv κ a w r
   simp only at h1 ⊢
   unfold wpQuiet at h1 ⊢
   simp only[Region.wanted,if_true] at h1
   rw[if_pos (by simp [Region.wanted,Hq,Cv])]
   exact h1
  ·have h1:=hn (by cases b<;>cases want<;>simp_all) κ _ w (r.eY (v:=undef) (fv tv) (.pv (.lit _)))
   simp only at h1 ⊢
   unfold wpQuiet
   rw[if_neg (by simp [Region.wanted,Hq];exact Cv)]
   exact h1
 |held=>
  by_cases Cv:b=want
  ·have h1:=hy Cv κ a w r
   simp only at h1 ⊢
   obtain⟨v,h1,h2⟩:=h1
   refine⟨v,.inl ⟨by simp [Region.wanted,Hq,Cv],?_⟩,h2⟩
   rcases h1 with ⟨_,h1⟩|⟨h1,_⟩
   ·exact h1
   ·simp [Region.wanted] at h1
  ·have h1:=hn (by cases b<;>cases want<;>simp_all) κ _ w (r.eY (v:=undef) (fv tv) (.pv (.lit _)))
   have hH:kX (δ.eY dst (.pv (.lit undef))) κ w=kX δ κ w:=by unfold kX;rw[vE]
   simp only[hH,qG] at h1 ⊢
   exact⟨undef,.inr ⟨by simp [Region.wanted,Hq];exact Cv,rfl⟩,h1⟩
 |plain=>
 by_cases Cv:b=want
 ·have h1:=hy Cv κ a w r
  simp only at h1 ⊢
  unfold wpListIn at h1 ⊢
  simp only[Region.wanted,if_true] at h1
  rw[if_pos (by simp [Region.wanted,Hq,Cv])]
  exact h1
 ·have h1:=hn (by cases b<;>cases want<;>simp_all) κ _ w (r.eY (v:=undef) (fv tv) (.pv (.lit _)))
  simp only at h1 ⊢
  unfold wpListIn
  rw[if_neg (by simp [Region.wanted,Hq];exact Cv)]
  exact⟨fun _ _=>trivial,h1⟩
theorem a_.MU {op:Op} {gj d:Nat} {want:Bool} {o':Oper} (ho:ops[gj]? =some o') (hd:o'.dst=some d) (vB:aY d HS=true) (wY:aY d δ.n=true) (hb:δ.get d=.pv (.lit undef)) (tv:fR δ.n dst=true)
  (hn:a_ q P g ops rest Q (δ.eY dst (.pv (.lit undef)))):a_ q P g ops (⟨dst,op,ty,pos,af,some (gj,want)⟩::rest) Q δ:=by
 intro κ a w r
 have fx:d<HS:=by simpa using vB
 have HQ:d<δ.n:=by simpa using wY
 have hv:a.tmps.getD d undef=undef:=by
  have:=r.env d
  rw[hb] at this
  unfold e6.val at this
  rw[if_pos fx] at this
  exact this.lit
 have Hq:yielded ops a.tmps gj=none:=by
  have Oa:a.tmps[d]? =some undef:=by
   rw[← r.n] at HQ
   rw[aR,aN HQ] at hv
   rw[aN HQ]
   exact congrArg some hv
  simp [yielded,ho,hd,Oa,undef]
 have h1:=hn κ _ w (r.eY (v:=undef) (fv tv) (.pv (.lit _)))
 cases q with
 |quiet=>
  simp only at h1 ⊢
  unfold wpQuiet
  rw[if_neg (by simp [Region.wanted,Hq])]
  exact h1
 |held=>
  have hH:kX (δ.eY dst (.pv (.lit undef))) κ w=kX δ κ w:=by unfold kX;rw[vE]
  simp only[hH,qG] at h1 ⊢
  exact⟨undef,.inr ⟨by simp [Region.wanted,Hq],rfl⟩,h1⟩
 |plain=>
  simp only at h1 ⊢
  unfold wpListIn
  rw[if_neg (by simp [Region.wanted,Hq])]
  exact⟨fun _ _=>trivial,h1⟩
theorem a_.pick {x y z:Operand} {b:Bool} {v:AV} (hx:δ.ev x=fu b) (ho:fq x=true) (kW:fq y=true) (rZ:fq z=true) (hy:b=true→δ.ev y=v) (hz:b=false→δ.ev z=v) (hd:fR δ.n dst=true)
  (hK:a_ q P g ops rest Q (δ.eY dst v)):a_ q P g ops (⟨dst,.pick x y z,ty,pos,af,none⟩::rest) Q δ:=
 a_.iR _ hd (fun κ a w r=>by
  have h1:=r.lit hx ho
  cases b with
  |true=>exact⟨a.eval y,fun w' _=>by simp [execOp,h1,asBool],r.ra (hy rfl) kW⟩
  |false=>exact⟨a.eval z,fun w' _=>by simp [execOp,h1,asBool],r.ra (hz rfl) rZ⟩) hK
theorem a_.not {x:Operand} {t:TypeId} {b:Bool} (hx:δ.ev x=fu b) (ho:fq x=true) (hd:fR δ.n dst=true) (hK:a_ q P g ops rest Q (δ.eY dst (fu (!b)))):
  a_ q P g ops (⟨dst,.unOp .not t x,ty,pos,af,none⟩::rest) Q δ:=
 a_.iR _ hd (fun κ a w r=>⟨.bool !b,fun w' _=>by simp [execOp,r.lit hx ho,Op.unary],.pv (.lit _)⟩) hK
theorem a_.V3 {x:Operand} {t:TypeId} {m:Int} (hx:δ.ev x=e7 m) (ho:fq x=true) (hd:fR δ.n dst=true) (hK:a_ q P g ops rest Q (δ.eY dst (e7 (IntKind.i64.wrap (0 - m))))):
  a_ q P g ops (⟨dst,.unOp .neg t x,ty,pos,af,none⟩::rest) Q δ:=
 a_.iR _ hd (fun κ a w r=>⟨.int .i64 (IntKind.i64.wrap (0 - m)),fun w' _=>by simp [execOp,r.lit hx ho,Op.unary,Op.intArith],.pv (.lit _)⟩) hK
theorem a_.neg {x:Operand} {t:TypeId} {m:Int} (hx:δ.ev x=e7 m) (ho:fq x=true) (hd:fR δ.n dst=true) (hb: -9223372036854775808≤0 - m∧0 - m≤9223372036854775807) (hK:a_ q P g ops rest Q (δ.eY dst (e7 (-m)))):
  a_ q P g ops (⟨dst,.unOp .neg t x,ty,pos,af,none⟩::rest) Q δ:=
 a_.V3 hx ho hd (by rw[IntWalk.i64_in _ hb,Int.zero_sub];exact hK)
theorem a_.conv {x:Operand} {s t:TypeId} {ks kt:IntKind} {d:TypeDesc} {m:Int} (hx:δ.ev x=.pv (.lit (.int ks m))) (hs:P.underlying s=some d) (ht:P.underlying t=some (.int kt)) (ho:fq x=true) (hd:fR δ.n dst=true)
  (hK:a_ q P g ops rest Q (δ.eY dst (.pv (.lit (.int kt (kt.wrap m)))))):a_ q P g ops (⟨dst,.convert s t x,ty,pos,af,none⟩::rest) Q δ:=
 a_.iR _ hd (fun κ a w r=>⟨.int kt (kt.wrap m),fun w' _=>by simp [execOp,r.lit hx ho,convert,run_underlying hs,run_underlying ht,Conv.intToInt],.pv (.lit _)⟩) hK
theorem a_.extract {x:Operand} {i:Nat} {vs:List AV} {v:AV} (hx:δ.ev x=.gM vs) (hv:vs[i]? =some v) (ho:fq x=true) (hd:fR δ.n dst=true) (hK:a_ q P g ops rest Q (δ.eY dst v)):
  a_ q P g ops (⟨dst,.extract x i,ty,pos,af,none⟩::rest) Q δ:=
 a_.iR _ hd (fun κ a w r=>by
  have h1:=r.ra hx ho
  generalize hu:a.eval x=u at h1
  cases h1 with
  | @gM us _ hs h=>
   have fx:i<us.size:=by rw[hs];exact(aW.1 hv).1
   refine⟨us[i],fun w' _=>by simp [execOp,hu,Instr.extract,aN fx],h i _ _ (aN fx) hv⟩) hK
theorem a_.fe {x:Operand} {i off:Nat} (hx:δ.ev x=.ptr i off) (ho:fq x=true) (hd:fR δ.n dst=true) (hK:a_ q P g ops rest Q (δ.eY dst (.ptr i off))):
  a_ q P g ops (⟨dst,.nilCheck x,ty,pos,af,none⟩::rest) Q δ:=
 a_.iR _ hd (fun κ a w r=>by
  have h1:=r.ra hx ho
  generalize hu:a.eval x=u at h1
  cases h1 with
  |ptr hl hκ=>exact⟨_,fun w' _=>by simp [execOp,hu],.ptr hl hκ⟩) hK
end Go.Ab
/- Contracts of functions over told values;entering a function,returning from it,calling by contract. -/
namespace Go.Ab
open Go Go.RowKit
variable {P:Program} {g:e6} {δ:DS} {κ:Kp} {a:Act} {w:World}
variable {ops:Array Oper} {rest:List Oper} {Q:Exit→DS→Prop} {dst:Option Nat} {ty:TypeId} {pos:String} {af:Array Edge}
def A_ (N:Nat→Prop):Cx:={B:=0,κ:=⟨fun _=>none,fun _ _=>False⟩,N,Lr:=fun _=>False,Lb:=fun _=>False}
structure Fn (P:Program) (f:FuncId) (args:List AV) (r:AV):Prop where
 enters:∀vals w,(callFunc f vals).run P w=.ok (.enter f vals) w
 calls:∀(N:Nat→Prop) (w:World) (vals:Array Value),(∀b,w.heap.size≤b→N b)→vals.size=args.length→
  (∀(j:Nat) (v:Value) (av:AV),vals[j]? =some v→args[j]? =some av→RA (A_ N) w v av)→
  Calls P f vals w fun e w'=>∃v,e=.returned v∧RA (A_ N) w' v r∧Below w.heap.size w w'
theorem RA.ui {N:Nat→Prop} {w:World} {v:Value} {av:AV} (h:RA (A_ N) w v av) (C:Cx) (hN:∀b,b<w.heap.size→N b→C.N b):RA C w v av:=by
 have hp:∀{v:Value} {p:PV},RP N w v p→RP C.N w v p:=fun h=>h.mono (aP _) fun b h1 h2=>⟨hN b h1 h2,rfl⟩
 induction h with
 |any v=>exact .any v
 |pv h=>exact .pv (hp h)
 |own h=>exact h.live.elim
 |ptr hl hκ=>exact hl.elim
 |gp b off vs H5 hb hc hr=>exact .gp b off vs (hN b hb H5) hb hc (fun j p h=>hp (hr j p h))
 |gN hi h=>exact h.live.elim
 |agg hs h ih=>exact .agg hs ih
 |gM hs h ih=>exact .gM hs ih
 |jJ hs h ht h' ih ih'=>exact .jJ hs ih ht ih'
 |gz hl hκ=>exact hl.elim
 |kZ hl hκ=>exact hl.elim
inductive Le (ow:Bool):AV→AV→Prop
 |any (v:AV):Le ow v .any
 |pv (p:PV):Le ow (.pv p) (.pv p)
 |nil (k:Nat):Le ow (.pv (.lit (.slice none 0 0))) (.pv (.slice k []))
 |own (i e k fc) (h:ow=true):Le ow (.own i e k fc) (.pv (.slice k fc))
 |gp (c:List PV):Le ow (.gp c) (.gp c)
 |agg {cs ds:List AV} (hl:cs.length=ds.length) (h:∀(j:Nat) (c d:AV),cs[j]? =some c→ds[j]? =some d→Le ow c d):Le ow (.agg cs) (.agg ds)
 |gM {cs ds:List AV} (hl:cs.length=ds.length) (h:∀(j:Nat) (c d:AV),cs[j]? =some c→ds[j]? =some d→Le ow c d):Le ow (.gM cs) (.gM ds)
inductive jO (ow:Bool):List AV→List AV→Prop
 |nil:jO ow [] []
 |cons {c d:AV} {cs ds:List AV} (h:Le ow c d) (hs:jO ow cs ds):jO ow (c::cs) (d::ds)
theorem jO.len {ow:Bool} {cs ds:List AV} (h:jO ow cs ds):cs.length=ds.length:=by induction h with|nil=>rfl|cons h hs ih=>simp [ih]
theorem jO.at {ow:Bool} {cs ds:List AV} (h:jO ow cs ds):∀(j:Nat) (c d:AV),cs[j]? =some c→ds[j]? =some d→Le ow c d:=by
 induction h with
 |nil=>intro j c d h1;simp at h1
 |cons h hs ih=>
  intro j c d h1 h2
  cases j with
  |zero=>simp at h1 h2;subst h1;subst h2;exact h
  |succ j=>exact ih j c d (by simpa using h1) (by simpa using h2)
theorem Le.EO {ow:Bool} {cs ds:List AV} (h:jO ow cs ds):Le ow (.agg cs) (.agg ds):=.agg h.len h.at
theorem Le.EM {ow:Bool} {cs ds:List AV} (h:jO ow cs ds):Le ow (.gM cs) (.gM ds):=.gM h.len h.at
theorem jv.pv {C:Cx} {w:World} {v:Value} {i e k fc} (h:jv C w v i e k fc) {N:Nat→Prop} (hN:∀b,b<w.heap.size→C.N b→N b) (hκ:∀i b,C.Lr i→C.κ i=some b→N b):RP N w v (.slice k fc):=by
 obtain⟨hl,lG,hk,hb,xs,ho,h1,hx⟩:=h
 have f_:=ho
 rcases ho.2 with ⟨rfl,h0⟩|⟨b,cap,cur,rfl,h2,h3,h4⟩
 ·have:fc=[]:=bj h0
  subst this
  exact .slice 0 0 (fun _ _=>undef) rfl (bk _) (by simp) (fun h=>absurd rfl h) (by simp) (fun i j p h=>by simp [cellAt] at h) (fun i j p h=>by simp [cellAt] at h)
 ·refine .slice b 0 (fun i j=>(xs[i*k+j]?).getD undef) rfl h4.1 lG (fun _=>⟨rfl,hκ i b hl (hb b rfl),(aO.1 h3).1⟩) hk (fun i j p hp=>?_) (fun i j p hp=>?_)
  ·obtain⟨u,hu,_⟩:=hx i j p hp
   have fx:i*k+j<fc.length*k:=by have:=(aW.1 hu).1;rw[← ho.1];exact this
   simp only[hu,bm,ba]
   exact⟨(f_.cellAt _ fx).trans hu,h1 u (aU hu)⟩
  ·obtain⟨u,hu,hr⟩:=hx i j p hp
   simp only[hu,bm]
   exact hr.mono (aP _) fun b h1 h2=>⟨hN b h1 h2,rfl⟩
theorem RA.le {ow:Bool} {C:Cx} {w:World} {v:Value} {av r:AV} (h:RA C w v av) (hle:Le ow av r) {N:Nat→Prop} (hN:∀b,b<w.heap.size→C.N b→N b) (hκ:ow=true→∀i b,C.Lr i→C.κ i=some b→N b):RA (A_ N) w v r:=by
 induction hle generalizing v with
 |any v=>exact .any _
 |pv p=>exact .pv (h.lP.mono (aP _) fun b h1 h2=>⟨hN b h1 h2,rfl⟩)
 |nil k=>cases h.lit;exact .pv (.slice 0 0 (fun _ _=>undef) rfl (bk _) (by simp) (fun h=>absurd rfl h) (by simp) (fun i j p h=>by simp [cellAt] at h) (fun i j p h=>by simp [cellAt] at h))
 |own i e k fc Z1=>exact .pv (h.iH.pv hN (hκ Z1))
 |gp c=>
  cases h with
  |gp b off vs H5 hb hc hr=>exact .gp b off vs (hN b hb H5) hb hc (fun j p h=>(hr j p h).mono (aP _) fun b h1 h2=>⟨hN b h1 h2,rfl⟩)
 | @agg cs ds hl _ ih=>
  cases h with
  |agg hs h=>
   refine .agg (hs.trans hl) fun j u d h1 h2=>?_
   have fx:j<cs.length:=by rw[hl];exact(aW.1 h2).1
   exact ih j _ d (a8 fx) h2 (h j u _ h1 (a8 fx))
 | @gM cs ds hl _ ih=>
  cases h with
  |gM hs h=>
   refine .gM (hs.trans hl) fun j u d h1 h2=>?_
   have fx:j<cs.length:=by rw[hl];exact(aW.1 h2).1
   exact ih j _ d (a8 fx) h2 (h j u _ h1 (a8 fx))
theorem jK {ro:Option Nat} {f:FuncId} {vals:Array Value} {R:Ending→World→Prop} (h:Calls P f vals w R):CallsIn (Fw ro) 0 P f vals w R:=callsIn_wide.2 h
inductive pF (ow:Bool) (δ:DS):List Operand→List AV→Prop
 |nil:pF ow δ [] []
 |cons {x:Operand} {v:AV} {xs:List Operand} {vs:List AV} (ho:fq x=true) (h:Le ow (δ.ev x) v) (hs:pF ow δ xs vs):pF ow δ (x::xs) (v::vs)
theorem pF.len {ow:Bool} {xs:List Operand} {vs:List AV} (h:pF ow δ xs vs):xs.length=vs.length:=by induction h with|nil=>rfl|cons ho h hs ih=>simp [ih]
theorem pF.at {ow:Bool} {xs:List Operand} {vs:List AV} (h:pF ow δ xs vs):∀(j:Nat) (x:Operand) (v:AV),xs[j]? =some x→vs[j]? =some v→fq x=true∧Le ow (δ.ev x) v:=by
 induction h with
 |nil=>intro j x v h1;simp at h1
 |cons ho h hs ih=>
  intro j x v h1 h2
  cases j with
  |zero=>simp at h1 h2;subst h1;subst h2;exact⟨ho,h⟩
  |succ j=>exact ih j x v (by simpa using h1) (by simpa using h2)
inductive Flat:AV→Prop
 |any:Flat .any
 |lit (v:Value):Flat (.pv (.lit v))
 |gM {vs:List AV} (h:∀v∈vs,Flat v):Flat (.gM vs)
 |agg {vs:List AV} (h:∀v∈vs,Flat v):Flat (.agg vs)
theorem Flat.ra {v:AV} (hf:Flat v) {C C':Cx} {w w':World} {u:Value} (h:RA C w u v):RA C' w' u v:=by
 induction hf generalizing u with
 |any=>exact .any _
 |lit v=>rw[h.lit];exact .pv (.lit _)
 |gM hv ih=>cases h with|gM hs h=>exact .gM hs fun j u c h1 h2=>ih c (aU h2) (h j u c h1 h2)
 |agg hv ih=>cases h with|agg hs h=>exact .agg hs fun j u c h1 h2=>ih c (aU h2) (h j u c h1 h2)
theorem j3 {x:Operand} {f:FuncId} {xs tys:Array _} {ρ:Operand→Value} (hx:ρ x=.func (.func f) #[] #[]) (he:∀vals w,(callFunc f vals).run P w=.ok (.enter f vals) w) (w:World):
  (execOp ρ ⟨dst,.call {callee:=.value x,args:=xs,argTypes:=tys},ty,pos,af,none⟩).run P w=.ok (.enter f (xs.map ρ)) w:=by
 simp [execOp,resolve,Deferred.ofValue,invoke,hx,he]
theorem pF.P3 {ow:Bool} {xs:List Operand} {args:List AV} (h:pF ow δ xs args) (r:Rel g δ κ a w) {N:Nat→Prop} (hN:∀b,b<w.heap.size→(δ.cx g κ).N b→N b) (hκ:ow=true→∀i b,δ.lr i→κ i=some b→N b):
  ∀(j:Nat) (v:Value) (av:AV),(xs.toArray.map a.eval)[j]? =some v→args[j]? =some av→RA (A_ N) w v av:=by
 intro j v av h1 h2
 simp only[bn,bf,a7,bg] at h1
 obtain⟨x,hx,rfl⟩:=h1
 obtain⟨ho,hle⟩:=h.at j x av hx h2
 exact(r.EY x (iV ho)).le hle hN hκ
mutual
def AV.xw:AV→Bool
 |.pv (.lit _)=>true
 |.agg cs=>AV.Ix cs
 |.gM cs=>AV.Ix cs
 |_=>false
def AV.Ix:List AV→Bool
 |[]=>true
 |c::cs=>c.xw && AV.Ix cs
end
theorem AV.sO:∀{l:List AV},AV.Ix l=true→∀(j:Nat) (c:AV),l[j]? =some c→c.xw=true
 |[],_,j,c,h=>by simp at h
 |x::l,h,j,c,hj=>by
  simp only[AV.Ix,aZ] at h
  cases j with
  |zero=>simp at hj;subst hj;exact h.1
  |succ j=>exact AV.sO h.2 j c (by simpa using hj)
theorem RA.xw {C C':Cx} {w w':World} {u u':Value} {av:AV} (h:RA C w u av) (h':RA C' w' u' av) (hd:av.xw=true):u'=u:=by
 induction h generalizing u' with
 | @pv v p h=>
  cases p with
  |any=>simp [AV.xw] at hd
  |lit v=>cases h;exact h'.lit
  |slice=>simp [AV.xw] at hd
  |mp=>simp [AV.xw] at hd
  |clip=>simp [AV.xw] at hd
 | @agg vs cs hs h ih=>
  cases h' with
  | @agg us _ Ns h'=>
   simp only[AV.xw] at hd
   congr 1
   apply bp (by omega)
   intro j h1 h2
   have hc:j<cs.length:=by omega
   exact ih j _ _ (aN h2) (a8 hc) (h' j _ _ (aN h1) (a8 hc)) (AV.sO hd j _ (a8 hc))
 | @gM vs cs hs h ih=>
  cases h' with
  | @gM us _ Ns h'=>
   simp only[AV.xw] at hd
   congr 1
   apply bp (by omega)
   intro j h1 h2
   have hc:j<cs.length:=by omega
   exact ih j _ _ (aN h2) (a8 hc) (h' j _ _ (aN h1) (a8 hc)) (AV.sO hd j _ (a8 hc))
 |_=>simp [AV.xw] at hd
mutual
def AV.out:AV→Value
 |.pv (.lit v)=>v
 |.agg cs=> .agg (AV.Kd cs).toArray
 |.gM cs=> .tuple (AV.Kd cs).toArray
 |_=>undef
def AV.Kd:List AV→List Value
 |[]=>[]
 |c::cs=>c.out::AV.Kd cs
end
theorem AV.AF:∀l:List AV,AV.Kd l=l.map AV.out
 |[]=>rfl
 |c::cs=>by simp [AV.Kd,AV.AF cs]
theorem AV.nh {C:Cx} {w:World}:∀{v:AV},v.xw=true→RA C w v.out v
 |.pv (.lit v),_=> .pv (.lit v)
 |.agg cs,h=>by
  simp only[AV.out,AV.AF]
  refine .agg (by simp) fun j u c h1 h2=>?_
  simp only[bf,a7,h2,bq,Option.some.injEq] at h1
  subst h1
  have:=aU h2
  exact AV.nh (AV.sO (by simpa [AV.xw] using h) j c h2)
 |.gM cs,h=>by
  simp only[AV.out,AV.AF]
  refine .gM (by simp) fun j u c h1 h2=>?_
  simp only[bf,a7,h2,bq,Option.some.injEq] at h1
  subst h1
  have:=aU h2
  exact AV.nh (AV.sO (by simpa [AV.xw] using h) j c h2)
 |.pv .any,h|.pv (.slice _ _),h|.pv (.mp _),h|.any,h|.own _ _ _ _,h|.ptr _ _,h|.gp _,h|.gN _ _ _ _ _,h|.jJ _ _ _,h|.gz _,h|.kZ _,h=>by simp [AV.xw] at h
theorem a_.call {q:Md} {f:FuncId} {xs:List Operand} {tys:Array TypeId} {args:List AV} {r:AV} (hf:Fn P f args r) (fX:pF true δ xs args) (qL:r.xw=true) (hd:fR δ.n dst=true) (hq:q≠ .held)
  (hK:a_ q P g ops rest Q (δ.eY dst r)):a_ q P g ops (⟨dst,.call {callee:=.value (.func f),args:=xs.toArray,argTypes:=tys},ty,pos,af,none⟩::rest) Q δ:=by
 intro κ a w r0
 have hc:∀w',Below w.heap.size w w'→Calls P f (xs.toArray.map a.eval) w' fun e w''=>e=.returned r.out∧Below w'.heap.size w' w'':=fun w' j5=>
  (hf.calls (fun _=>True) w' _ (fun _ _=>trivial) (by simp [fX.len]) (fX.P3 (r0.ext j5) (fun _ _ _=>trivial) (fun _ _ _ _ _=>trivial))).mono (by
   rintro e w'' ⟨v,rfl,hv,hb⟩
   exact⟨by rw[hv.xw (AV.nh (C:=A_ (fun _=>True)) (w:=w) qL) qL],hb⟩)
 have yN:=hK κ _ _ (r0.eY (fv hd) (AV.nh qL))
 cases q with
 |quiet=>
  show wpQuiet P ops _ _ (_::rest) a
  unfold wpQuiet
  rw[if_pos (by simp [Region.wanted])]
  refine⟨r.out,fun w' j5=>?_,yN⟩
  unfold Oper.quietAt
  rw[j3 (f:=f) rfl hf.enters]
  exact⟨rfl,(hc w' j5).mono fun e w'' ⟨h1,h2⟩=>⟨h1,j5.trans (h2.mono j5.size)⟩⟩
 |held=>exact absurd rfl hq
 |plain=>
  show wpListIn _ _ P ops _ (_::rest) a w
  refine gV rfl rfl fun K oS=>?_
  unfold Oper.Ac
  rw[j3 (f:=f) rfl hf.enters,Oper.uponIn_enter]
  refine⟨fun h=>by simp at h,(jK (hc w (Below.refl _ _))).mono ?_⟩
  rintro e w' ⟨rfl,hb⟩
  exact oS _ _ (hK κ _ _ ((r0.ext hb).eY (fv hd) (AV.nh qL)))
theorem a_.Oc {f:FuncId} {xs:List Operand} {tys:Array TypeId} {args:List AV} {r:AV} (hf:Fn P f args r) (fX:pF false δ xs args) (hd:fR δ.n dst=true)
  (hK:a_ .plain P g ops rest Q (δ.eY dst r)):a_ .plain P g ops (⟨dst,.call {callee:=.value (.func f),args:=xs.toArray,argTypes:=tys},ty,pos,af,none⟩::rest) Q δ:=by
 intro κ a w r0
 show wpListIn _ _ P ops _ (_::rest) a w
 refine gV rfl rfl fun K oS=>?_
 unfold Oper.Ac
 rw[j3 (f:=f) rfl hf.enters,Oper.uponIn_enter]
 refine⟨fun h=>by simp at h,(jK (hf.calls (fun b=>(δ.cx g κ).N b∨w.heap.size≤b) w _ (fun _ h=> .inr h) (by simp [fX.len]) (fX.P3 r0 (fun _ _ h=> .inl h) (fun h=>by simp at h)))).mono ?_⟩
 rintro e w' ⟨v,rfl,hv,hb⟩
 have r1:=r0.ext hb
 refine oS _ _ (hK κ _ _ (r1.eY (fv hd) (hv.ui _ fun b _ h=>?_)))
 rcases h with h|h
 ·exact h
 ·refine⟨r0.BG h,fun i hi e=>?_⟩
  have:=(r0.lo i b hi e).2
  omega
def enum (i:Nat):List AV→List (Nat×AV)
 |[]=>[]
 |v::vs=>(i,v)::enum (i+1) vs
theorem mZ (l:List AV):∀(i j:Nat) (v:AV),i≤j→l[j - i]? =some v→look (enum i l) j=v:=by
 induction l with
 |nil=>intro i j v _ h;simp at h
 |cons x l ih=>
  intro i j v r9 h
  unfold enum
  rw[fH]
  by_cases e:i=j
  ·subst e;simp at h;simp [h]
  ·rw[if_neg e]
   refine ih (i+1) j v aJ ?_
   have:j - i=(j - (i+1))+1:=by omega
   rw[this] at h;simpa using h
theorem jt (l:List AV):∀(i j:Nat),(j<i∨i+l.length≤j)→look (enum i l) j=.any:=by
 induction l with
 |nil=>intro i j _;rfl
 |cons x l ih=>
  intro i j h
  unfold enum
  simp only[List.length_cons] at h
  rw[fH,if_neg aJ]
  exact ih (i+1) j (by omega)
def start (n:Nat) (args:List AV):DS:={n,env:=enum 0 args,gq:=[],nx:=0}
inductive oh (P:Program) (δ:DS):ResultVar→AV→Prop
 |tmp {t:Tmp} {v:AV} (ht:aY t HS=true) (h:δ.get t=v):oh P δ (.tmp t) v
 |cell {t:Tmp} {ty:TypeId} {i:Nat} {cells:List AV} (ht:aY t HS=true) (h:δ.get t=.ptr i 0) (ho:δ.ob i=some (.box cells)) (Ul:zU P ty cells.length=true):oh P δ (.cell t ty) (.agg cells)
 |cell1 {t:Tmp} {ty:TypeId} {i:Nat} {v:AV} (ht:aY t HS=true) (h:δ.get t=.ptr i 0) (ho:δ.ob i=some (.box [v])) (Ul:jU P ty=true):oh P δ (.cell t ty) v
def AS (P:Program) (tmps:Array Value):ResultVar→Sem Value
 |.tmp t=>pure (tmps.getD t undef)
 |.cell a t=>do loadVar t (← asAddr (tmps.getD a undef))
theorem Rel.box (r:Rel g δ κ a w) {u:Value} {i off:Nat} {cells:List AV} (h:RA (δ.cx g κ) w u (.ptr i off)) (ho:δ.ob i=some (.box cells)):
  ∃b c e,u=.pointer (some ⟨b,off,none⟩)∧κ i=some b∧w.heap[b]? =some (.cells c e (0,0))∧c.size=cells.length∧∀(j:Nat) (u:Value) (av:AV),c[j]? =some u→cells[j]? =some av→RA (δ.cx g κ) w u av∧u.oneCell'=true:=by
 cases h with
 | @ptr _ _ b hl hκ=>
  obtain⟨b',c,e,h1,h2,h3,h4⟩:=r.obj i _ ho
  have:b'=b:=by have:=h1.symm.trans hκ;simpa using this
  subst this
  exact⟨b',c,e,rfl,h1,h2,h3,h4⟩
theorem cell_of {w:World} {b:Nat} {c:Array Value} {e:TypeId} (h:w.heap[b]? =some (.cells c e (0,0))) (j:Nat):w.cell? ⟨b,j,none⟩=c[j]?:=by simp [World.cell?,h]
theorem oh.run {rv:ResultVar} {v:AV} (h:oh P δ rv v) (r:Rel g δ κ a w):∃u,(AS P a.tmps rv).run P w=.ok u w∧RA (δ.cx g κ) w u v:=by
 cases h with
 | @tmp t _ ht h=>
  have:=r.env t
  unfold e6.val at this
  rw[if_pos (by simpa using ht),h] at this
  exact⟨_,rfl,this⟩
 | @cell t ty i cells ht h ho Ul=>
  have h0:=r.env t
  unfold e6.val at h0
  rw[if_pos (by simpa using ht),h] at h0
  obtain⟨b,c,e,h1,h2,h3,h4,h5⟩:=r.box h0 ho
  have h6:=run_loadCells (P:=P) (w:=w) ⟨b,0,none⟩ cells.length (fun j=>c.getD j undef) (fun j hj=>by
   rw[addr_add,cell_of h3,ba,aN aJ]
   rw[aR,aN aJ];rfl)
  refine⟨.agg ((bc cells.length).map (fun j=>c.getD j undef)).toArray,by simp only[AS,h1,asAddr,loadVar,Sem.run_bind,Sem.run_pure,Result.andThen_ok,q_ Ul,if_true,h6],.agg (by simp) (fun j u av h7 h8=>?_)⟩
  have fx:=(aW.1 h8).1
  refine(h5 j u av ?_ h8).1
  simp only[bf,a7,bg] at h7
  obtain⟨j',n8,rfl⟩:=h7
  have:j'=j:=by
   rw[aW] at n8
   obtain⟨_,h⟩:=n8
   simpa using h.symm
  subst this
  rw[aR,aN aJ];rfl
 | @cell1 t ty i v ht h ho Ul=>
  have h0:=r.env t
  unfold e6.val at h0
  rw[if_pos (by simpa using ht),h] at h0
  obtain⟨b,c,e,h1,h2,h3,h4,h5⟩:=r.box h0 ho
  have fx:0<c.size:=by rw[h4];simp
  have hc:w.cell? ⟨b,0,none⟩=some c[0]:=by rw[cell_of h3,aN fx]
  refine⟨c[0],by simp [AS,h1,asAddr,loadVar,oe Ul,load,Sem.run,hc],(h5 0 _ _ (aN fx) rfl).1⟩
inductive gn (P:Program) (δ:DS):List ResultVar→AV→Prop
 |one {r1:ResultVar} {v:AV} (h:oh P δ r1 v):gn P δ [r1] v
 |none:gn P δ [] (.gM [])
 |two {r1 r2:ResultVar} {v1 v2:AV} (h1:oh P δ r1 v1) (h2:oh P δ r2 v2):gn P δ [r1,r2] (.gM [v1,v2])
 |three {r1 r2 r3:ResultVar} {v1 v2 v3:AV} (h1:oh P δ r1 v1) (h2:oh P δ r2 v2) (h3:oh P δ r3 v3):gn P δ [r1,r2,r3] (.gM [v1,v2,v3])
 |five {r1 r2 r3 r4 r5:ResultVar} {v1 v2 v3 v4 v5:AV} (h1:oh P δ r1 v1) (h2:oh P δ r2 v2) (h3:oh P δ r3 v3) (h4:oh P δ r4 v4) (h5:oh P δ r5 v5):gn P δ [r1,r2,r3,r4,r5] (.gM [v1,v2,v3,v4,v5])
theorem Dx {C:Cx} {w:World} {u1 u2:Value} {v1 v2:AV} (h1:RA C w u1 v1) (h2:RA C w u2 v2):RA C w (.tuple #[u1,u2]) (.gM [v1,v2]):=by
 refine .gM rfl fun j u c h3 h4=>?_
 match j with
 |0=>simp at h3 h4;subst h3;subst h4;exact h1
 |1=>simp at h3 h4;subst h3;subst h4;exact h2
 |j+2=>simp at h4
theorem Bj {C:Cx} {w:World} {u1 u2 u3:Value} {v1 v2 v3:AV} (h1:RA C w u1 v1) (h2:RA C w u2 v2) (h3:RA C w u3 v3):RA C w (.tuple #[u1,u2,u3]) (.gM [v1,v2,v3]):=by
 refine .gM rfl fun j u c h4 h5=>?_
 match j with
 |0=>simp at h4 h5;subst h4;subst h5;exact h1
 |1=>simp at h4 h5;subst h4;subst h5;exact h2
 |2=>simp at h4 h5;subst h4;subst h5;exact h3
 |j+3=>simp at h5
theorem L5 {C:Cx} {w:World} {u1 u2 u3 u4 u5:Value} {v1 v2 v3 v4 v5:AV} (h1:RA C w u1 v1) (h2:RA C w u2 v2) (h3:RA C w u3 v3) (h4:RA C w u4 v4) (h5:RA C w u5 v5):RA C w (.tuple #[u1,u2,u3,u4,u5]) (.gM [v1,v2,v3,v4,v5]):=by
 refine .gM rfl fun j u c k1 k2=>?_
 match j with
 |0=>simp at k1 k2;subst k1;subst k2;exact h1
 |1=>simp at k1 k2;subst k1;subst k2;exact h2
 |2=>simp at k1 k2;subst k1;subst k2;exact h3
 |3=>simp at k1 k2;subst k1;subst k2;exact h4
 |4=>simp at k1 k2;subst k1;subst k2;exact h5
 |j+5=>simp at k2
theorem vR {fn:Func} {tmps:Array Value}:results fn tmps=(do let vs ← fn.results.mapM (AS P tmps);pure (if h:vs.size=1 then vs[0] else .tuple vs)):=by
 unfold results
 congr 1
theorem gn.run {fn:Func} {rs:List ResultVar} (s6:fn.results=rs.toArray) {v:AV} (h:gn P δ rs v) (r:Rel g δ κ a w):∃u,(results fn a.tmps).run P w=.ok u w∧RA (δ.cx g κ) w u v:=by
 rw[vR (P:=P),s6]
 cases h with
 |none=>exact⟨.tuple #[],by simp [br],.gM rfl (fun j u c h=>by simp at h)⟩
 |one h=>
  obtain⟨u,h1,h2⟩:=h.run r
  exact⟨u,by simp [br,h1],h2⟩
 |two h1 h2=>
  obtain⟨u1,h1,h3⟩:=h1.run r
  obtain⟨u2,h2,h4⟩:=h2.run r
  exact⟨.tuple #[u1,u2],by simp [br,h1,h2],Dx h3 h4⟩
 |three h1 h2 h3=>
  obtain⟨u1,h1,h4⟩:=h1.run r
  obtain⟨u2,h2,h5⟩:=h2.run r
  obtain⟨u3,h3,h6⟩:=h3.run r
  exact⟨.tuple #[u1,u2,u3],by simp [br,h1,h2,h3],Bj h4 h5 h6⟩
 |five h1 h2 h3 h4 h5=>
  obtain⟨u1,h1,k1⟩:=h1.run r
  obtain⟨u2,h2,k2⟩:=h2.run r
  obtain⟨u3,h3,k3⟩:=h3.run r
  obtain⟨u4,h4,k4⟩:=h4.run r
  obtain⟨u5,h5,k5⟩:=h5.run r
  exact⟨.tuple #[u1,u2,u3,u4,u5],by simp [br,h1,h2,h3,h4,h5],L5 k1 k2 k3 k4 k5⟩
theorem Rel.shut (je:g.wt=none) (r:Rel g δ κ a w) {k:Nat} (hB:g.B≤k) (hk:w.heap[k]? =some (.deferred (some []))) {a':Act} (ha:a'.tmps=a.tmps) (kB:∀d∈a'.defers,d∈a.defers) (hnf:¬g.fr k) (hd:GO g a' (w.putObj k (.deferred none))):Rel g δ κ a' (w.putObj k (.deferred none)):=by
 have lH:∀b,b≠k→(w.putObj k (.deferred none)).heap[b]? =w.heap[b]?:=fun b hb=>World.putObj_heap_other hb
 have fZ:∀i b,δ.live i→κ i=some b→b≠k:=by
  rintro i b ⟨o,ho⟩ hκ rfl
  have h0:=r.obj i o ho
  cases o with
  |row=>obtain⟨c,e,h1⟩:=h0 b hκ;rw[hk] at h1;cases h1
  |box cs=>obtain⟨b',c,e,h1,h2,_⟩:=h0;have:b'=b:=Option.some.inj (h1.symm.trans hκ);subst this;rw[hk] at h2;cases h2
  |it l seen=>obtain⟨b',h1,h2⟩:=h0;have:b'=b:=Option.some.inj (h1.symm.trans hκ);subst this;rcases h2 with ⟨_,h2⟩|⟨_,_,_,_,_,_,_,_,_,h2,_⟩<;>(rw[hk] at h2;cases h2)
  |mpl l kk v=>obtain⟨b',c,e,h1,h2,_⟩:=h0;have:b'=b:=Option.some.inj (h1.symm.trans hκ);subst this;rw[hk] at h2;cases h2
  |lit T vals=>obtain⟨b',h1,h2⟩:=h0;have:b'=b:=Option.some.inj (h1.symm.trans hκ);subst this;rw[hk] at h2;cases h2
  |ff e rows=>exact absurd (h0.1.symm.trans hκ) (by simp)
  |mp l=>obtain⟨b',c,e,h1,h2,_⟩:=h0;have:b'=b:=Option.some.inj (h1.symm.trans hκ);subst this;rw[hk] at h2;cases h2
  |loop l tm ps jf body st=>obtain⟨b',c,h1,h2,_⟩:=h0;have:b'=b:=Option.some.inj (h1.symm.trans hκ);subst this;rw[hk] at h2;cases h2
 -- a told value leans on cells alone:block k is none
 have mw:∀off v,w.cell? ⟨k,off,none⟩=some v→False:=fun off v h=>by simp [World.cell?,hk] at h
 have OR:∀{N:Nat→Prop} {v:Value} {p:PV},RP N w v p→RP N (w.putObj k (.deferred none)) v p:=by
  intro N v p h
  induction h with
  |any v=>exact .any v
  |lit v=>exact .lit v
  |slice b off vs hl n_ hb ha FE hc hr ih=>
   refine .slice b off vs hl n_ hb (fun he=>⟨(ha he).1,(ha he).2.1,by rw[World.putObj_size];exact(ha he).2.2⟩) FE (fun i j p hp=>⟨?_,(hc i j p hp).2⟩) ih
   have h1:=(hc i j p hp).1
   by_cases e:b=k
   ·subst e;exact(mw _ _ h1).elim
   ·exact(World.cell?_of_block (w:=w) (a:=⟨b,off+i*_+j,none⟩) (lH b e)).trans h1
  |mp b clock es hN hb hh hs jc FE hr ih=>
   have e:b≠k:=by rintro rfl;rw[hk] at hh;cases hh
   exact .mp b clock es hN (by rw[World.putObj_size];exact hb) ((lH b e).trans hh) hs jc FE ih
  |clip h ih=>exact .clip ih
 have gD:∀{v:Value} {i e k' fc},jv (δ.cx g κ) w v i e k' fc→jv (δ.cx g κ) (w.putObj k (.deferred none)) v i e k' fc:=by
  intro v i e k' fc h
  obtain⟨hl,lG,lO,hb,xs,ho,h1,hx⟩:=h
  refine⟨hl,lG,lO,hb,xs,⟨ho.1,?_⟩,h1,fun i' j p hp=>let ⟨u,h1,h2⟩:=hx i' j p hp;⟨u,h1,OR h2⟩⟩
  rcases ho.2 with hn|⟨b,cap,cur,rfl,h2,h3,h4⟩
  ·exact .inl hn
  ·exact .inr ⟨b,cap,cur,rfl,h2,(lH b (fZ i b (DS.gI hl) (hb b rfl))).trans h3,h4⟩
 have uZ:∀{v:Value} {av:AV},RA (δ.cx g κ) w v av→RA (δ.cx g κ) (w.putObj k (.deferred none)) v av:=by
  intro v av h
  induction h with
  |any v=>exact .any v
  |pv h=>exact .pv (OR h)
  |own h=>exact .own (gD h)
  |ptr hl hκ=>exact .ptr hl hκ
  |gp b off vs hN hb hc hr=>
   refine .gp b off vs hN (by rw[World.putObj_size];exact hb) (fun j p hp=>⟨?_,(hc j p hp).2⟩) (fun j p hp=>OR (hr j p hp))
   have h1:=(hc j p hp).1
   by_cases e:b=k
   ·subst e;exact(mw _ _ h1).elim
   ·exact(World.cell?_of_block (w:=w) (a:=⟨b,off+j,none⟩) (lH b e)).trans h1
  |gN hi h=>exact .gN hi (gD h)
  |agg hs h ih=>exact .agg hs ih
  |gM hs h ih=>exact .gM hs ih
  |jJ hs h ht h' ih ih'=>exact .jJ hs ih ht ih'
  |gz hl hκ=>exact .gz hl hκ
  |kZ hl hκ=>exact .kZ hl hκ
 exact
  {n:=by rw[ha];exact r.n,dfr:=hd
   env:=fun j=>by have:=r.env j;unfold e6.val at this ⊢;rw[ha];exact uZ this
   obj:=fun i o h=>by
    have h0:=r.obj i o h
    cases o with
    |row=>intro b hb;obtain⟨c,e,h1⟩:=h0 b hb;exact⟨c,e,(lH b (fZ i b ⟨_,h⟩ hb)).trans h1⟩
    |box cs=>obtain⟨b,c,e,h1,h2,h3,h4⟩:=h0;exact⟨b,c,e,h1,(lH b (fZ i b ⟨_,h⟩ h1)).trans h2,h3,fun j u av h5 h6=>⟨uZ (h4 j u av h5 h6).1,(h4 j u av h5 h6).2⟩⟩
    |it l seen=>
     obtain⟨b,h1,h2⟩:=h0
     have hb:=fZ i b ⟨_,h⟩ h1
     rcases h2 with ⟨h2,h3⟩|⟨m,es,clock,h2,h3,h4,h5,h6,h7,h8,h9⟩
     ·exact⟨b,h1,.inl ⟨h2,(lH b hb).trans h3⟩⟩
     ·have OA:m≠k:=by rintro rfl;rw[hk] at h4;cases h4
      exact⟨b,h1,.inr ⟨m,es,clock,h2,by rw[World.putObj_size];exact h3,(lH m OA).trans h4,h5,h6,fun j e p xx Ia=>⟨(h7 j e p xx Ia).1,OR (h7 j e p xx Ia).2⟩,(lH b hb).trans h8,h9⟩⟩
    |mpl l kk v=>obtain⟨b,es,clock,h1,h2,h3,h4⟩:=h0;exact⟨b,es,clock,h1,(lH b (fZ i b ⟨_,h⟩ h1)).trans h2,⟨h3.1,fun j e p h5 h6=>⟨(h3.2 j e p h5 h6).1,uZ (h3.2 j e p h5 h6).2⟩⟩,h4⟩
    |mp l=>obtain⟨b,es,clock,h1,h2,h3,h4⟩:=h0;exact⟨b,es,clock,h1,(lH b (fZ i b ⟨_,h⟩ h1)).trans h2,⟨h3.1,fun j e p h5 h6=>⟨(h3.2 j e p h5 h6).1,uZ (h3.2 j e p h5 h6).2⟩⟩,h4⟩
    |lit T vals=>obtain⟨b,h1,h2⟩:=h0;exact⟨b,h1,(lH b (fZ i b ⟨_,h⟩ h1)).trans h2⟩
    |ff e rows=>
     refine⟨h0.1,fun kk=>(h0.2.1 kk).goes rfl fun b hb h2 _=>⟨h2,lH b ?_⟩,h0.2.2⟩
     rintro rfl
     rcases(h0.2.1 kk).1.2 with ⟨h3,_⟩|⟨b',cap,cur,h3,_,h4,_⟩
     ·rw[h3] at hb;cases hb
     ·rw[h3] at hb;cases hb;rw[hk] at h4;cases h4
    |loop l tm ps jf body st=>obtain⟨b,lr,h1,h2,h3⟩:=h0;exact⟨b,lr,h1,(lH b (fZ i b ⟨_,h⟩ h1)).trans h2,h3⟩
   inj:=r.inj
   lo:=fun i b h1 h2=>by rw[World.putObj_size];exact r.lo i b h1 h2
   nx:=r.nx
   wt:=fun k hk=>by rw[je] at hk;cases hk
   below:=r.below.trans ⟨rfl,rfl,rfl,by rw[World.putObj_size];exact aP _,fun b hb=>lH b aJ⟩
   hB:=by rw[World.putObj_size];exact r.hB
   N0:=r.N0
   km:=fun d uT=>r.km d (kB d uT)
   fr:=r.fr.of (by rw[World.putObj_size];exact aP _) (fun b hf _ _=>lH b (by rintro rfl;exact hnf hf)) fun i b h1 h2=> .inl ⟨i,h1,h2⟩}
theorem leaves (je:g.wt=none) (xt:g.base=[]) {fn:Func} {rs:List ResultVar} (s6:fn.results=rs.toArray) {v:AV} (h:gn P δ rs v) {R:Ending→World→Prop}:∀{a:Act} {w:World},Rel g δ κ a w→
  (∀w2,Rel g δ κ {a with defers:=[]} w2→∀u,RA (δ.cx g κ) w2 u v→R (.returned u) w2)→LeavesInM Fence.wide 0 P fn a.tmps R a.defers .returning w:=by
 intro a w r hR
 obtain⟨ms,h1,h2,h3⟩:=r.dfr
 rw[xt,bs] at h1
 rw[h1]
 induction ms generalizing a w with
 |nil=>
  obtain⟨u,h4,h5⟩:=h.run s6 r
  have ra:Rel g δ κ {a with defers:=[]} w:={r with dfr:=⟨[],by rw[xt];rfl,h2,h3⟩,km:=fun d hd=>by cases hd}
  exact⟨u,h4,hR w ra u h5⟩
 |cons m ms ih=>
  refine⟨by simp,.inl ⟨m,_,rfl,run_takeDeferred (h3 m (by simp)).2,?_⟩⟩
  have hm:=h3 m (by simp)
  rw[bt] at h2
  have jy:=List.nodup_cons.1 h2
  have uO:∀k∈ms++g.mks,g.B≤k∧(w.putObj m (.deferred none)).heap[k]? =some (.deferred (some [])):=fun k hk=>
   ⟨(h3 k (by simp only[bt,bu];exact .inr hk)).1,by rw[World.putObj_heap_other (by intro e;subst e;exact jy.1 hk)];exact(h3 k (by simp only[bt,bu];exact .inr hk)).2⟩
  have hd:GO g {a with defers:=ms.map fun r=>({target:=.collected r,args:= #[]}:Deferred)} (w.putObj m (.deferred none)):=⟨ms,by rw[xt,bs],jy.2,uO⟩
  have r2:=r.shut je hm.1 hm.2 (a':={a with defers:=ms.map fun r=>({target:=.collected r,args:= #[]}:Deferred)}) rfl (fun d hd=>by rw[h1];exact bw.2 (let ⟨x,hx,e⟩:=bw.1 hd;⟨x,by simp [hx],e⟩)) (r.km {target:=.collected m,args:= #[]} (by rw[h1];exact bw.2 ⟨m,by simp,rfl⟩) m rfl) hd
  have:=ih (a:={a with defers:=ms.map fun r=>({target:=.collected r,args:= #[]}:Deferred)}) r2 (fun w2 r3 u hu=>hR w2 r3 u hu) rfl jy.2 uO
  exact this
def Ends (P:Program) (rs:List ResultVar) (r:AV):Exit→DS→Prop
 |.normal,δ|.ret,δ=>∃v,gn P δ rs v∧Le true v r
 |_,_=>False
theorem Fn.enter {f:FuncId} {fn:Func} {c:Code} {rs:List ResultVar} {n:Nat} {args:List AV} {r:AV} (hf:P.funcs[f]? =some fn) (hb:fn.body=some c) (s6:fn.results=rs.toArray) (hn:fn.ntmps=n) (Cy:bx args.length n=true)
  (p6:bx n HS=true) (he:(fn.name== "runtime.NumGoroutine")=false) (h:∀g:e6,g.ro=none→g.wt=none→AW P g c (Ends P rs r) (start n args)):Fn P f args r:=by
 refine⟨fun vals w=>by simp [callFunc,hf,hb];simpa using he,fun N w vals hN hs fX=>?_⟩
 have hle:args.length≤n:=by simpa using Cy
 have LR:n≤HS:=by simpa using p6
 let g:e6:={B:=w.heap.size,w0:=w,N0:=N,held:=fun _=>undef,ro:=none,mks:=[],wt:=none,fr:=fun _=>False,w1:=w}
 have nG:∀i,¬(start n args).live i:=fun i ⟨o,h⟩=>by cases h
 refine callsIn_wide.1 (callsIn_of_wp_marks (n:=0) hf hb trivial (wpIn_mono (h g rfl rfl ⟨fun _=>none,fun _ _=>False⟩ _ w ?_) ?_))
 ·exact
  {n:=by simp [hn,start];omega
   dfr:=⟨[],rfl,by simp [g],by simp [g]⟩
   env:=fun j=>by
    by_cases hj:j<args.length
    ·have h1:(start n args).get j=args[j]:=mZ args 0 j _ (bk _) (by simp [hj])
     have h2:g.val {tmps:=vals++Array.replicate (fn.ntmps - vals.size) undef,defers:=[]} j=vals[j]'(by omega):=by
      unfold e6.val
      rw[if_pos aJ]
      simp [aR,Array.getElem?_append,hs,hj]
     rw[h1,h2]
     exact(fX j _ _ (aN aJ) (a8 hj)).ui _ fun b _ h=>⟨⟨h,fun⟨_,h⟩=>h⟩,fun i hi=>absurd hi (nG i)⟩
    ·have h1:(start n args).get j=.any:=jt args 0 j (by omega)
     rw[h1];exact .any _
   obj:=fun i o h=>by cases h
   inj:=fun i j b h=>absurd h (nG i)
   lo:=fun i b h=>absurd h (nG i)
   nx:=fun i h=>absurd h (nG i)
   wt:=fun k hk=>by cases hk
   below:=Below.refl _ _
   hB:=aP _
   N0:=fun b h _=>hN b h
   fr:=⟨fun b hb=>hb.elim,fun i b hb=>hb.elim⟩
   km:=fun d hd=>by cases hd}
 ·rintro e a' w' ⟨δ',κ',hq,r'⟩
  have fin:∀v,gn P δ' rs v→Le true v r→LeavesInM Fence.wide 0 P fn a'.tmps (fun e w'=>∃v,e=.returned v∧RA (A_ N) w' v r∧Below w.heap.size w w') a'.defers .returning w':=by
   intro v h1 h2
   exact leaves (g:=g) rfl rfl s6 h1 r' (fun w2 r2 u hu=>by
    exact⟨u,rfl,hu.le h2 (fun b _ h=>h.1.1) (fun _ i b hi hκ=>hN b (r2.lo i b (DS.gI hi) hκ).1),r2.below⟩)
  cases e with
  |normal=>obtain⟨v,h1,h2⟩:=hq;exact fin v h1 h2
  |ret=>obtain⟨v,h1,h2⟩:=hq;exact fin v h1 h2
  |_=>exact hq.elim
end Go.Ab
/- One abstract state says no more than another:what is asked slot by slot. -/
namespace Go.Ab
open Go Go.RowKit
variable {P:Program} {g:e6} {δ δ':DS} {κ:Kp} {a:Act} {w:World}
mutual
def AV.ids (lr lb:Nat→Bool):AV→Bool
 |.any=>true
 |.pv _=>true
 |.own i _ _ _=>lr i
 |.ptr i _=>lb i
 |.gp _=>true
 |.gN i _ _ _ _=>lr i
 |.agg cs=>AV.xZ lr lb cs
 |.gM cs=>AV.xZ lr lb cs
 |.jJ _ cs ds=>AV.xZ lr lb cs && AV.xZ lr lb ds
 |.gz i=>lb i
 |.kZ i=>lb i
def AV.xZ (lr lb:Nat→Bool):List AV→Bool
 |[]=>true
 |c::cs=>AV.ids lr lb c && AV.xZ lr lb cs
end
theorem AV.lX {lr lb:Nat→Bool}:∀(l:List AV),AV.xZ lr lb l=true→∀(j:Nat) (c:AV),l[j]? =some c→AV.ids lr lb c=true
 |[],_,j,c,h=>by simp at h
 |x::l,h,j,c,hj=>by
  simp only[AV.xZ,aZ] at h
  cases j with
  |zero=>simp at hj;subst hj;exact h.1
  |succ j=>exact AV.lX l h.2 j c (by simpa using hj)
def DS.qg (δ:DS) (i:Nat):Bool:=match δ.ob i with|some .row=>true|_=>false
def DS.pJ (δ:DS) (i:Nat):Bool:=match δ.ob i with|some (.box _)=>true|some (.mp _)=>true|some (.mpl _ _ _)=>true|some (.it _ _)=>true|some (.loop _ _ _ _ _ _)=>true|some (.lit _ _)=>true|_=>false
theorem n9 {δ:DS} {i:Nat} (h:δ.qg i=true):δ.lr i:=by
 unfold DS.qg at h;unfold DS.lr
 cases ho:δ.ob i with
 |none=>rw[ho] at h;simp at h
 |some o=>cases o<;>rw[ho] at h<;>first|rfl|(simp at h)
theorem lu {δ:DS} {i:Nat} (h:δ.pJ i=true):δ.lb i:=by
 unfold DS.pJ at h;unfold DS.lb
 cases ho:δ.ob i with
 |none=>rw[ho] at h;simp at h
 |some o=>cases o<;>rw[ho] at h<;>first|exact⟨_,rfl,rfl⟩|(simp at h)
noncomputable def uC (δ:DS) (κ:Kp):Kp:=⟨fun i=>match δ.ob i with|some _=>κ i|none=>none,κ.F⟩
theorem iW {δ:DS} {κ:Kp} {i:Nat} (h:δ.live i):uC δ κ i=κ i:=by obtain⟨o,h⟩:=h;simp [uC,h]
theorem gy {δ:DS} {κ:Kp} {i b:Nat} (h:uC δ κ i=some b):δ.live i∧κ i=some b:=by
 have h:(match δ.ob i with|some _=>κ.f i|none=>none)=some b:=h
 cases ho:δ.ob i with
 |none=>rw[ho] at h;simp at h
 |some o=>rw[ho] at h;exact⟨⟨o,ho⟩,h⟩
theorem tJ {b:Nat} (h:(δ.cx g κ).N b):(δ'.cx g (uC δ κ)).N b:=⟨h.1,fun i _ e=>let ⟨h1,h2⟩:=gy e;h.2 i h1 h2⟩
theorem RA.ids {v:Value} {av:AV} (h:RA (δ.cx g κ) w v av) (hi:av.ids δ'.qg δ'.pJ=true):RA (δ'.cx g (uC δ κ)) w v av:=by
 have hp:∀{v:Value} {p:PV},RP (δ.cx g κ).N w v p→RP (δ'.cx g (uC δ κ)).N w v p:=fun h=>h.mono (aP _) fun b _ h2=>⟨tJ h2,rfl⟩
 have ho:∀{v:Value} {i e k fc},jv (δ.cx g κ) w v i e k fc→δ'.lr i→jv (δ'.cx g (uC δ κ)) w v i e k fc:=by
  intro v i e k fc h hl
  obtain⟨h1,h2,h3,h4,xs,h5,h6,h7⟩:=h
  exact⟨hl,h2,h3,fun b hb=>(iW (DS.gI h1)).trans (h4 b hb),xs,h5,h6,fun i' j p mq=>let ⟨u,h8,h9⟩:=h7 i' j p mq;⟨u,h8,hp h9⟩⟩
 induction h with
 |any v=>exact .any v
 |pv h=>exact .pv (hp h)
 |own h=>exact .own (ho h (n9 hi))
 |ptr hl hκ=>exact .ptr (lu hi) ((iW (DS.lW hl)).trans hκ)
 |gp b off vs hN hb hc hr=>exact .gp b off vs (tJ hN) hb hc (fun j p h=>hp (hr j p h))
 |gN fx h=>exact .gN fx (ho h (n9 hi))
 |agg hs h ih=>exact .agg hs fun j u c h1 h2=>ih j u c h1 h2 (AV.lX _ hi j c h2)
 |gM hs h ih=>exact .gM hs fun j u c h1 h2=>ih j u c h1 h2 (AV.lX _ hi j c h2)
 |jJ hs h ht h' ih ih'=>
  simp only[AV.ids,aZ] at hi
  exact .jJ hs (fun j u c h1 h2=>ih j u c h1 h2 (AV.lX _ hi.1 j c h2)) ht (fun j u c h1 h2=>ih' j u c h1 h2 (AV.lX _ hi.2 j c h2))
 |gz hl hκ=>exact .gz (lu hi) ((iW (DS.lW hl)).trans hκ)
 |kZ hl hκ=>exact .kZ (lu hi) ((iW (DS.lW hl)).trans hκ)
inductive CV (δ δ':DS):AV→PV→Prop
 |any (v:AV):CV δ δ' v .any
 |pv (p:PV):CV δ δ' (.pv p) p
 |own {i e k fc els'} (h:δ'.ob i=none) (he:fc=els'):CV δ δ' (.own i e k fc) (.slice k els')
 |nil (k):CV δ δ' (.pv (.lit (.slice none 0 0))) (.slice k [])
inductive GG (δ δ':DS):List AV→List PV→Prop
 |nil:GG δ δ' [] []
 |cons {c:AV} {p:PV} {cs:List AV} {ps:List PV} (h:CV δ δ' c p) (hs:GG δ δ' cs ps):GG δ δ' (c::cs) (p::ps)
theorem GG.at {δ δ':DS}:∀{cs:List AV} {ps:List PV},GG δ δ' cs ps→∀(j:Nat) (p:PV),ps[j]? =some p→∃c,cs[j]? =some c∧CV δ δ' c p:=by
 intro cs ps h
 induction h with
 |nil=>intro j p h;simp at h
 |cons h hs ih=>
  intro j p hj
  cases j with
  |zero=>simp at hj;subst hj;exact⟨_,rfl,h⟩
  |succ j=>exact ih j p (by simpa using hj)
inductive WV (δ δ':DS):AV→AV→Prop
 |any (v:AV):WV δ δ' v .any
 |eq {u v:AV} (h:u=v) (hi:v.ids δ'.qg δ'.pJ=true):WV δ δ' u v
 |jL (i e k) (h:δ'.qg i=true) (hn:δ.ob i=none):WV δ δ' (.pv (.lit (.slice none 0 0))) (.own i e k [])
 |nilrow (i e k) (h:δ'.qg i=true):WV δ δ' (.pv (.lit (.slice none 0 0))) (.own i e k [])
 |nilpv (k):WV δ δ' (.pv (.lit (.slice none 0 0))) (.pv (.slice k []))
 |freeze {i e k fc} (h:δ'.ob i=none):WV δ δ' (.own i e k fc) (.pv (.slice k fc))
 |agg {cs ds:List AV} (hl:cs.length=ds.length) (h:∀(j:Nat) (c d:AV),cs[j]? =some c→ds[j]? =some d→WV δ δ' c d):WV δ δ' (.agg cs) (.agg ds)
 |fmap {i:Nat} {l:List (Value×AV)} {ps:List (Value×PV)} (hb:δ.ob i=some (.mp l)) (hd:δ'.ob i=none) (hl:l.length=ps.length) (hc:∀(j:Nat) (p:Value×AV) (p':Value×PV),l[j]? =some p→ps[j]? =some p'→p.1=p'.1∧CV δ δ' p.2 p'.2):WV δ δ' (.gz i) (.pv (.mp ps))
 |fbox {i:Nat} {cells:List AV} {ps:List PV} (hb:δ.ob i=some (.box cells)) (hd:δ'.ob i=none) (hc:GG δ δ' cells ps):WV δ δ' (.ptr i 0) (.gp ps)
theorem th {N:Nat→Prop} {w:World} {a0:Option Addr} {c:Nat} (k:Nat):RP N w (.slice a0 0 c) (.slice k []):=
 .slice 0 0 (fun _ _=>undef) rfl (bk _) (by simp) (fun h=>absurd rfl h) (by simp) (fun i j p h=>by simp [cellAt] at h) (fun i j p h=>by simp [cellAt] at h)
theorem RA.s_ (lB:∀i b,δ.live i→δ'.ob i=none→κ i=some b→(δ'.cx g (uC δ κ)).N b) {i e k fc} (ho:δ'.ob i=none) {v:Value} (h:RA (δ.cx g κ) w v (.own i e k fc)):RP (δ'.cx g (uC δ κ)).N w v (.slice k fc):=by
 have h1:=h.iH
 obtain⟨hl,lG,hk,hb,xs,gD,Li,hx⟩:=h1
 have oB:=gD
 rcases gD.2 with ⟨rfl,h0⟩|⟨b,cap,cur,rfl,h2,h3,h4⟩
 ·have:fc=[]:=bj h0
  subst this
  exact th k
 ·refine .slice b 0 (fun i j=>(xs[i*k+j]?).getD undef) rfl h4.1 lG (fun _=>⟨rfl,lB i b (DS.gI hl) ho (hb b rfl),(aO.1 h3).1⟩) hk (fun i j p hp=>?_) (fun i j p hp=>?_)
  ·obtain⟨u,hu,_⟩:=hx i j p hp
   have fx:i*k+j<fc.length*k:=by have:=(aW.1 hu).1;rw[← gD.1];exact this
   simp only[hu,bm,ba]
   exact⟨(oB.cellAt _ fx).trans hu,Li u (aU hu)⟩
  ·obtain⟨u,hu,hr⟩:=hx i j p hp
   simp only[hu,bm]
   exact hr.mono (aP _) fun b _ h2=>⟨tJ h2,rfl⟩
theorem RA.wv (lB:∀i b,δ.live i→δ'.ob i=none→κ i=some b→(δ'.cx g (uC δ κ)).N b) (Gb:∀i o,δ.ob i=some o→nY (δ.cx g κ) w i o) {v:Value} {u av:AV} (h:RA (δ.cx g κ) w v u) (hw:WV δ δ' u av):RA (δ'.cx g (uC δ κ)) w v av:=by
 induction hw generalizing v with
 |any v=>exact .any _
 |eq he hi=>subst he;exact h.ids hi
 |jL i e k hl hn=>
  cases h.lit
  exact .own ⟨n9 hl,by simp,by simp,fun b hb=>by simp [Value.ownBlock] at hb,[],World.ownsRow_nil _ _ _ _,by simp,fun i' j p hp=>by simp [cellAt] at hp⟩
 |nilrow i e k hl=>
  cases h.lit
  exact .own ⟨n9 hl,by simp,by simp,fun b hb=>by simp [Value.ownBlock] at hb,[],World.ownsRow_nil _ _ _ _,by simp,fun i' j p hp=>by simp [cellAt] at hp⟩
 |nilpv k=>cases h.lit;exact .pv (th k)
 | @freeze i e k fc ho=>exact .pv (h.s_ lB ho)
 | @agg cs ds hl _ ih=>
  cases h with
  |agg hs h=>
   refine .agg (hs.trans hl) fun j u d h1 h2=>?_
   have fx:j<cs.length:=by rw[hl];exact(aW.1 h2).1
   exact ih j _ d (a8 fx) h2 (h j u _ h1 (a8 fx))
 | @fmap i l ps hb hd hl hc=>
  cases h with
  | @gz _ b WS hκ=>
   obtain⟨b',es,clock,h1,h2,h3,h4,_⟩:=Gb i _ hb
   have:b'=b:=Option.some.inj (h1.symm.trans hκ)
   subst this
   have s7:∀(j:Nat) (e:MapEntry) (p:Value×PV),es[j]? =some e→ps[j]? =some p→e.key=p.1∧RP (δ'.cx g (uC δ κ)).N w e.val p.2:=by
    intro j e p he hp
    have fx:j<l.length:=by rw[hl];exact(aW.1 hp).1
    have nZ:=a8 fx
    obtain⟨h5,Uc⟩:=hc j _ p nZ hp
    obtain⟨h6,h7⟩:=h3.2 j e _ he nZ
    refine⟨h6.trans h5,?_⟩
    generalize l[j].2=q at Uc h7
    generalize p.2=q' at Uc
    cases Uc with
    |any=>exact .any _
    |pv=>exact h7.lP.mono (aP _) fun b _ h2=>⟨tJ h2,rfl⟩
    |own ho he=>subst he;exact h7.s_ lB ho
    |nil k=>rw[h7.lit];exact th k
   exact .pv (.mp b' clock es (lB i b' ⟨_,hb⟩ hd hκ) (iJ h2) h2 (h3.1.trans hl) h4 (fun j e p h5 h6=>(s7 j e p h5 h6).1) (fun j e p h5 h6=>(s7 j e p h5 h6).2))
 | @fbox i cells ps hb hd hc=>
  cases h with
  | @ptr _ _ b hl hκ=>
   obtain⟨b',c,e,h1,h2,h3,h4⟩:=Gb i _ hb
   have:b'=b:=Option.some.inj (h1.symm.trans hκ)
   subst this
   have mw:∀j,w.cell? ⟨b',0+j,none⟩=c[j]?:=fun j=>by simp [World.cell?,h2]
   have s7:∀(j:Nat) (p:PV),ps[j]? =some p→∃(hj:j<c.size),(c[j]).oneCell'=true∧RP (δ'.cx g (uC δ κ)).N w c[j] p:=by
    intro j p hp
    obtain⟨av,FZ,Uc⟩:=hc.at j p hp
    have hj:j<c.size:=by rw[h3];exact(aW.1 FZ).1
    obtain⟨h5,h6⟩:=h4 j _ av (aN hj) FZ
    refine⟨hj,h6,?_⟩
    cases Uc with
    |any=>exact .any _
    |pv=>exact h5.lP.mono (aP _) fun b _ h2=>⟨tJ h2,rfl⟩
    |own ho he=>subst he;exact h5.s_ lB ho
    |nil k=>rw[h5.lit];exact th k
   refine .gp b' 0 (fun j=>(c[j]?).getD undef) (lB i b' ⟨_,hb⟩ hd hκ) (iJ h2) (fun j p hp=>?_) (fun j p hp=>?_)
   ·obtain⟨hj,h5,_⟩:=s7 j p hp
    rw[mw,aN hj]
    exact⟨rfl,h5⟩
   ·obtain⟨hj,_,h5⟩:=s7 j p hp
    rw[aN hj]
    exact h5
theorem WV.fj {i e k} {fc els':List (List PV)} (h:fc=els') (hi:δ'.qg i=true):WV δ δ' (.own i e k fc) (.own i e k els'):=.eq (by rw[h]) hi
theorem WV.ia {k} {fc els':List (List PV)} (h:fc=els'):WV δ δ' (.pv (.slice k fc)) (.pv (.slice k els')):=.eq (by rw[h]) rfl
theorem WV.gx {j} {m n:Int} (h:m=n):WV δ δ' (.pv (.lit (.int j m))) (.pv (.lit (.int j n))):=.eq (by rw[h]) rfl
theorem WV.kQ {m n:Bool} (h:m=n):WV δ δ' (.pv (.lit (.bool m))) (.pv (.lit (.bool n))):=.eq (by rw[h]) rfl
theorem WV.z6 {i e k} {fc els':List (List PV)} (h:δ'.ob i=none) (he:fc=els'):WV δ δ' (.own i e k fc) (.pv (.slice k els')):=he▸ .freeze h
def Jt (δ δ':DS):List (Nat×AV)→Prop
 |[]=>True
 |(j,v)::r=>WV δ δ' (δ.get j) v∧Jt δ δ' r
def C_ (δ δ':DS):List AV→List AV→Prop
 |[],[]=>True
 |c::cs,d::ds=>WV δ δ' c d∧C_ δ δ' cs ds
 |_,_=>False
inductive WO (δ δ':DS) (i:Nat):Ob→Prop
 |row (h:δ.ob i=some .row):WO δ δ' i .row
 |ji (h:δ.ob i=none):WO δ δ' i .row
 |box {cs:List AV} (ds:List AV) (h:δ.ob i=some (.box cs)) (hs:C_ δ δ' cs ds):WO δ δ' i (.box ds)
 |mp {l:List (Value×AV)} (h:δ.ob i=some (.mp l)) (hs:∀p∈l,p.2.ids δ'.qg δ'.pJ=true):WO δ δ' i (.mp l)
 |mpw {l l':List (Value×AV)} (h:δ.ob i=some (.mp l)) (hl:l.length=l'.length) (hs:∀(j:Nat) (p p':Value×AV),l[j]? =some p→l'[j]? =some p'→p.1=p'.1∧WV δ δ' p.2 p'.2∧p'.2.kD=true):WO δ δ' i (.mp l')
 |mpl {l l':List (Value×AV)} {k k':Value} {v v':AV} (h:δ.ob i=some (.mpl l k v)) (hl:l=l') (hk:k=k') (hs:∀p∈l,p.2.ids δ'.qg δ'.pJ=true) (hv:WV δ δ' v v'):WO δ δ' i (.mpl l' k' v')
 |it {l:List (Value×PV)} {seen:List Nat} (h:δ.ob i=some (.it l seen)):WO δ δ' i (.it l seen)
 |loop {l tm ps jf body st} (h:δ.ob i=some (.loop l tm ps jf body st)):WO δ δ' i (.loop l tm ps jf body st)
 |lit {T:TypeId} {vals:Array Value} (h:δ.ob i=some (.lit T vals)):WO δ δ' i (.lit T vals)
 |ff {e:TypeId} {rows rows':Nat→Value×List Value} (h:δ.ob i=some (.ff e rows)) (hr:rows=rows'):WO δ δ' i (.ff e rows')
def oC (δ δ':DS):List (Nat×Option Ob)→Prop
 |[]=>True
 |(_,none)::r=>oC δ δ' r
 |(i,some o)::r=>WO δ δ' i o∧oC δ δ' r
def s5 (n:Nat):List (Nat×Option Ob)→Bool
 |[]=>true
 |(i,_)::r=>aY i n && s5 n r
theorem Jt.at:∀{l:List (Nat×AV)},Jt δ δ' l→∀j,WV δ δ' (δ.get j) (look l j)
 |[],_,j=> .any _
 |(i,v)::r,h,j=>by
  rw[fH]
  by_cases e:i=j
  ·subst e;rw[if_pos rfl];exact h.1
  ·rw[if_neg e];exact Jt.at h.2 j
theorem C_.at:∀{cs ds:List AV},C_ δ δ' cs ds→cs.length=ds.length∧∀(j:Nat) (c d:AV),cs[j]? =some c→ds[j]? =some d→WV δ δ' c d
 |[],[],_=>⟨rfl,fun j c d h=>by simp at h⟩
 |c::cs,d::ds,h=>by
  obtain⟨h1,h2⟩:=h
  obtain⟨h3,h4⟩:=C_.at h2
  refine⟨by simp [h3],fun j x y h5 h6=>?_⟩
  cases j with
  |zero=>simp at h5 h6;subst h5;subst h6;exact h1
  |succ j=>exact h4 j x y (by simpa using h5) (by simpa using h6)
theorem oC.at:∀{l:List (Nat×Option Ob)},oC δ δ' l→∀i o,fg l i=some o→WO δ δ' i o
 |[],_,i,o,h=>by simp [fg] at h
 |(j,none)::r,h,i,o,ho=>by
  rw[fl] at ho
  by_cases e:j=i
  ·rw[if_pos e] at ho;cases ho
  ·rw[if_neg e] at ho;exact oC.at (l:=r) h i o ho
 |(j,some o')::r,h,i,o,ho=>by
  rw[fl] at ho
  by_cases e:j=i
  ·rw[if_pos e] at ho;cases ho;subst e;exact h.1
  ·rw[if_neg e] at ho;exact oC.at (l:=r) h.2 i o ho
theorem pS {n:Nat}:∀{l:List (Nat×Option Ob)},s5 n l=true→∀i o,fg l i=some o→i<n
 |[],_,i,o,h=>by simp [fg] at h
 |(j,x)::r,h,i,o,ho=>by
  simp only[s5,aZ] at h
  rw[fl] at ho
  by_cases e:j=i
  ·subst e;simpa using h.1
  ·rw[if_neg e] at ho;exact pS h.2 i o ho
theorem Rel.lB (r:Rel g δ κ a w):∀i b,δ.live i→δ'.ob i=none→κ i=some b→(δ'.cx g (uC δ κ)).N b:=by
 intro i b hl mL hκ
 refine⟨r.Fo hl hκ,fun j hj e=>?_⟩
 obtain⟨h1,h2⟩:=gy e
 have:=r.inj i j b hl h1 hκ h2
 subst this
 obtain⟨o,hj⟩:=hj
 rw[mL] at hj;cases hj
theorem Oe (hn:δ'.n=δ.n) (he:∀j,WV δ δ' (δ.get j) (δ'.get j)) (ho:∀i o,δ'.ob i=some o→WO δ δ' i o) (hx:∀i o,δ'.ob i=some o→i<δ'.nx) (r:Rel g δ κ a w):Rel g δ' (uC δ κ) a w:=by
 have uj:∀i o,δ'.ob i=some o→¬δ.live i→uC δ κ i=none:=by
  intro i o h hl
  show(match δ.ob i with|some _=>κ.f i|none=>none)=none
  cases h':δ.ob i with
  |none=>rfl
  |some o'=>exact absurd ⟨o',h'⟩ hl
 have lB:∀i b,δ.live i→δ'.ob i=none→κ i=some b→(δ'.cx g (uC δ κ)).N b:=by
  intro i b hl mL hκ
  refine⟨r.Fo hl hκ,fun j hj e=>?_⟩
  obtain⟨h1,h2⟩:=gy e
  have:=r.inj i j b hl h1 hκ h2
  subst this
  obtain⟨o,hj⟩:=hj
  rw[mL] at hj;cases hj
 exact
  {n:=r.n.trans hn.symm
   dfr:=r.dfr
   env:=fun j=>(r.env j).wv lB r.obj (he j)
   obj:=fun i o h=>by
    have Wl:=ho i o h
    cases Wl with
    |row h'=>
     intro b hb
     obtain⟨_,h2⟩:=gy hb
     exact r.obj i _ h' b h2
    |ji h'=>
     intro b hb
     obtain⟨⟨o,h1⟩,_⟩:=gy hb
     rw[h'] at h1;cases h1
    |box ds h' hs=>
     obtain⟨b,c,e,h1,h2,h3,h4⟩:=r.obj i _ h'
     obtain⟨h5,h6⟩:=hs.at
     refine⟨b,c,e,(iW ⟨_,h'⟩).trans h1,h2,h3.trans h5,fun j u av h7 h8=>?_⟩
     have fx:j<_:=(aW.1 h8).1
     rw[← h5] at fx
     obtain⟨h9,xx⟩:=h4 j u _ h7 (a8 fx)
     exact⟨h9.wv lB r.obj (h6 j _ av (a8 fx) h8),xx⟩
    |mp h' hs=>
     obtain⟨b,es,clock,h1,h2,h3,h4⟩:=r.obj i _ h'
     exact⟨b,es,clock,(iW ⟨_,h'⟩).trans h1,h2,⟨h3.1,fun j e p h5 h6=>⟨(h3.2 j e p h5 h6).1,(h3.2 j e p h5 h6).2.ids (hs p (aU h6))⟩⟩,h4⟩
    |mpw h' hl hs=>
     obtain⟨b,es,clock,h1,h2,h3,h4⟩:=r.obj i _ h'
     refine⟨b,es,clock,(iW ⟨_,h'⟩).trans h1,h2,⟨h3.1.trans hl,fun j e p h5 h6=>?_⟩,h4.1,fun p hp=>?_⟩
     ·have fx:j<_:=(aW.1 h6).1
      rw[← hl] at fx
      have h7:=a8 fx
      obtain⟨h8,h9,_⟩:=hs j _ p h7 h6
      obtain⟨xx,Ia⟩:=h3.2 j e _ h5 h7
      exact⟨xx.trans h8,Ia.wv lB r.obj h9⟩
     ·obtain⟨j,hj⟩:=bz hp
      have fx:j<_:=(aW.1 hj).1
      rw[← hl] at fx
      exact(hs j _ p (a8 fx) hj).2.2
    |mpl h' hl hk hs hv=>
     obtain⟨b,es,clock,h1,h2,h3,h4⟩:=r.obj i _ h'
     subst hl;subst hk
     exact⟨b,es,clock,(iW ⟨_,h'⟩).trans h1,h2,h3.last (fun u p hp h=>h.ids (hs p hp)) (fun u h=>h.wv lB r.obj hv),h4⟩
    |it h'=>
     obtain⟨b,h1,h2⟩:=r.obj i _ h'
     exact⟨b,(iW ⟨_,h'⟩).trans h1,h2.mono (aP _) (fun b _ hN=>⟨tJ hN,rfl⟩) rfl⟩
    |loop h'=>
     obtain⟨b,l,h1,h2⟩:=r.obj i _ h'
     exact⟨b,l,(iW ⟨_,h'⟩).trans h1,h2⟩
    |ff h' hr=>
     subst hr
     have h0:=r.obj i _ h'
     exact⟨(iW ⟨_,h'⟩).trans h0.1,fun k=>(h0.2.1 k).goes rfl fun b _ h2 _=>⟨h2,rfl⟩,h0.2.2⟩
    |lit h'=>
     obtain⟨b,h1,h2⟩:=r.obj i _ h'
     exact⟨b,(iW ⟨_,h'⟩).trans h1,h2⟩
   inj:=fun i j b _ _ h3 h4=>r.inj i j b (gy h3).1 (gy h4).1 (gy h3).2 (gy h4).2
   lo:=fun i b _ h2=>r.lo i b (gy h2).1 (gy h2).2
   nx:=fun i ⟨o,h⟩=>hx i o h
   wt:=fun k hk=>⟨(r.wt k hk).1,fun i b _ hi hb=>by
    obtain⟨hl,hκ⟩:=gy hb
    refine(r.wt k hk).2 i b hl (hi.imp (fun hi=>?_) id) hκ
    have Wl:=ho i _ hi
    cases Wl with
    |row h=>exact h
    |ji h=>obtain⟨o,f_⟩:=hl;rw[h] at f_;cases f_⟩
   below:=r.below
   hB:=r.hB
   N0:=r.N0
   km:=r.km
   fr:=r.fr.sub fun j b _ h2=>⟨j,(gy h2).1,(gy h2).2⟩}
theorem OQ (hn:δ'.n=δ.n) (he:∀j,WV δ δ' (δ.get j) (δ'.get j)) (ho:∀i o,δ'.ob i=some o→WO δ δ' i o) (hx:∀i o,δ'.ob i=some o→i<δ'.nx):nV g δ δ':=fun κ _ _ r=>⟨uC δ κ,Oe hn he ho hx r⟩
theorem fy (hn:δ'.n=δ.n) (he:Jt δ δ' δ'.env) (ho:oC δ δ' δ'.gq) (hx:s5 δ'.nx δ'.gq=true):nV g δ δ':=OQ hn (fun j=>he.at j) (fun i o h=>ho.at i o h) (fun i o h=>pS hx i o h)
end Go.Ab
/- Small laws for the walk:what stands behind a step. -/
namespace Go.Ab
open Go Go.RowKit
variable {P:Program} {g:e6} {δ:DS} {ops:Array Oper} {rest:List Oper} {Q:Exit→DS→Prop} {next:DS→Prop} {dst:Option Nat} {ty:TypeId} {pos:String} {af:Array Edge}
theorem gO (h:next δ):ga next Q .normal δ:=h
theorem ke {id:Nat} (h:Q (.exit id) δ):ga next Q (.exit id) δ:=h
theorem im (h:Q .ret δ):ga next Q .ret δ:=h
theorem hO {id:Nat} (h:Q .normal δ):ft id Q .normal δ:=h
theorem jl {id:Nat} (h:Q .ret δ):ft id Q .ret δ:=h
theorem ir {id:Nat} (h:Q .normal δ):ft id Q (.exit id) δ:=by show(if id=id then _ else _);rw[if_pos rfl];exact h
theorem nu {id id':Nat} (fZ:(aL id' id)=false) (h:Q (.exit id') δ):ft id Q (.exit id') δ:=by
 show(if id'=id then _ else _);rw[if_neg (by intro e;subst e;simp at fZ)];exact h
theorem e9 {rs:List ResultVar} {r v:AV} (h:gn P δ rs v) (hl:Le true v r):Ends P rs r .ret δ:=⟨v,h,hl⟩
theorem Le.fj {i e k} {fc els':List (List PV)} (h:fc=els'):Le true (.own i e k fc) (.pv (.slice k els')):=h▸ .own _ _ _ _ rfl
theorem Le.ia {ow:Bool} {k} {fc els':List (List PV)} (h:fc=els'):Le ow (.pv (.slice k fc)) (.pv (.slice k els')):=h▸ .pv _
theorem Le.fu {ow:Bool} {p q:Bool} (h:p=q):Le ow (fu p) (fu q):=h▸ .pv _
theorem Le.e7 {ow:Bool} {p q:Int} (h:p=q):Le ow (e7 p) (e7 q):=h▸ .pv _
theorem AW.uz {c:Operand} {x y:Code} {p:Prop} {_:Decidable p} (ho:fq c=true) (hc:δ.ev c=fu (decide p)) (h1:p→AW P g x Q δ) (h2:¬p→AW P g y Q δ):AW P g (.cond c x y) Q δ:=
 AW.cond ho hc (fun h=>h1 (of_decide_eq_true h)) (fun h=>h2 (of_decide_eq_false h))
theorem AW.Js {c:Operand} {x y:Code} {t:Bool} (ht:t=true) (ho:fq c=true) (hc:δ.ev c=fu t) (h1:AW P g x Q δ):AW P g (.cond c x y) Q δ:=
 AW.cond ho hc (fun _=>h1) (fun h=>by rw[ht] at h;cases h)
theorem AW.Ke {c:Operand} {x y:Code} {t:Bool} (ht:t=false) (ho:fq c=true) (hc:δ.ev c=fu t) (h1:AW P g y Q δ):AW P g (.cond c x y) Q δ:=
 AW.cond ho hc (fun h=>by rw[ht] at h;cases h) (fun _=>h1)
def encI (x:Int):List PV:=[.lit (.int .i64 x)]
def oI (x:Bool):List PV:=[.lit (.bool x)]
abbrev ints (l:List Int):PV:=.slice 1 (l.map encI)
abbrev Uj (l:List Bool):PV:=.slice 1 (l.map oI)
abbrev jm (l:List (List Int)):PV:=.slice 1 (l.map fun c=>[ints c])
end Go.Ab
/- The abstract states' laws where memory turns:variables in boxes,rows that grow or are stored into. -/
namespace Go.Ab
open Go Go.RowKit
variable {q:Md} {P:Program} {g:e6} {δ:DS} {κ:Kp} {a:Act} {w:World}
variable {ops:Array Oper} {rest:List Oper} {Q:Exit→DS→Prop} {dst:Option Nat} {ty:TypeId} {pos:String} {af:Array Edge}
structure iw (w w':World) (b:Option Nat):Prop where
 os:w'.os=w.os
 tape:w'.tape=w.tape
 output:w'.output=w.output
 size:w.heap.size≤w'.heap.size
 block:∀k,k<w.heap.size→b≠some k→w'.heap[k]? =w.heap[k]?
theorem iw.setCell (w:World) (ad:Addr) (u:Value):iw w (w.setCell ad u) (some ad.block):=
 ⟨rfl,rfl,rfl,by simp [World.setCell],fun k _ h=>Below.heap_setCell _ _ _ _ (fun e=>h (by rw[e]))⟩
theorem iw.grownBy {w w':World} {row:Option Nat} (h:w.grownBy w' row):iw w w' row:=⟨h.os,h.tape,h.output,h.size,fun k hk hn=>h.block k hk (Ne.symm hn)⟩
theorem iw.setRow (w:World) (b:Nat) (c:Array Value):iw w (w.setRow b c) (some b):=⟨rfl,rfl,rfl,by simp,fun k _ h=>setRow_other w b k c (fun e=>h (by rw[e]))⟩
theorem Rel.rT (r:Rel g δ κ a w) {w':World} {b:Option Nat} (t:iw w w' b) (hb:∀k,b=some k→g.B≤k):Below g.B g.w0 w':=
 r.below.trans ⟨t.os,t.tape,t.output,t.size,fun k hk=>t.block k (aK hk r.hB) (fun e=>by have:=hb k e;omega)⟩
def e6.nF (g:e6) (i:Nat):Prop:=∀k,g.wt=some k→k.2.2≤i
theorem j4 (h:g.wt=none) (i:Nat):g.nF i:=fun k hk=>by rw[h] at hk;cases hk
theorem Rel.modify (r:Rel g δ κ a w) {i b:Nat} {o o':Ob} (ho:δ.ob i=some o) (hr:o.isRow=false) (xr:o'.isRow=false) (hκ:κ i=some b) (Es:g.nF i) {w':World} (t:iw w w' (some b)) (hs:w'.heap.size=w.heap.size)
  (js:∀C,C.κ=κ→kr (δ.cx g κ) w C w'→nY C w' i o'):Rel g (δ.gm i (some o')) κ a w'∧kr (δ.cx g κ) w ((δ.gm i (some o')).cx g κ) w':=by
 have hi:δ.live i:=⟨o,ho⟩
 have fS:∀j,(δ.gm i (some o')).live j↔δ.live j:=by
  intro j
  unfold DS.live
  rw[jH]
  by_cases e:i=j
  ·subst e;simp [ho]
  ·simp [e]
 have nq:∀j,(δ.gm i (some o')).lr j↔δ.lr j:=by
  intro j
  unfold DS.lr
  rw[jH]
  by_cases e:i=j
  ·subst e
   rw[if_pos rfl,ho]
   cases o<;>cases o'<;>simp_all [Ob.isRow]
  ·simp [e]
 have vy:∀j,(δ.gm i (some o')).lb j↔δ.lb j:=by
  intro j
  unfold DS.lb
  rw[jH]
  by_cases e:i=j
  ·subst e
   rw[if_pos rfl,ho]
   exact⟨fun _=>⟨o,rfl,hr⟩,fun _=>⟨o',rfl,xr⟩⟩
  ·simp [e]
 have fZ:∀j,δ.lr j→κ j≠some b:=by
  intro j hj e
  have:=r.inj i j b hi (DS.gI hj) hκ e
  subst this
  have:some o=some Ob.row:=ho.symm.trans hj
  cases this
  simp [Ob.isRow] at hr
 have G:kr (δ.cx g κ) w ((δ.gm i (some o')).cx g κ) w':=
  {B:=rfl,size:=t.size
   N:=fun k h1 h2=>⟨⟨h2.1,fun j hj=>h2.2 j ((fS j).1 hj)⟩,t.block k h1 (fun e=>h2.2 i hi (hκ.trans e))⟩
   Lr:=fun j hj=>⟨(nq j).2 hj,rfl,fun k hk=>t.block k (r.lo j k (DS.gI hj) hk).2 (fun e=>fZ j hj (hk.trans e.symm))⟩
   Lb:=fun j hj=>⟨(vy j).2 hj,rfl⟩}
 refine⟨?_,G⟩
 exact
  {n:=r.n
   dfr:=r.dfr.goes fun k _ hk=>t.block k (iJ hk) (fun e=>by
    have:b=k:=Option.some.inj e
    subst this
    have h0:=r.obj i o ho
    cases o with
    |row=>simp [Ob.isRow] at hr
    |box cs=>obtain⟨b',c,e',h1,h2,_⟩:=h0;have:b'=b:=Option.some.inj (h1.symm.trans hκ);subst this;rw[hk] at h2;cases h2
    |it l seen=>obtain⟨b',h1,h2⟩:=h0;have:b'=b:=Option.some.inj (h1.symm.trans hκ);subst this;rcases h2 with ⟨_,h2⟩|⟨_,_,_,_,_,_,_,_,_,h2,_⟩<;>(rw[hk] at h2;cases h2)
    |lit T vals=>obtain⟨b',h1,h2⟩:=h0;have:b'=b:=Option.some.inj (h1.symm.trans hκ);subst this;rw[hk] at h2;cases h2
    |ff e rows=>exact absurd (h0.1.symm.trans hκ) (by simp)
    |mp l=>obtain⟨b',c,e',h1,h2,_⟩:=h0;have:b'=b:=Option.some.inj (h1.symm.trans hκ);subst this;rw[hk] at h2;cases h2
    |mpl l k v=>obtain⟨b',c,e',h1,h2,_⟩:=h0;have:b'=b:=Option.some.inj (h1.symm.trans hκ);subst this;rw[hk] at h2;cases h2
    |loop l tm ps jf body st=>obtain⟨b',c,h1,h2,_⟩:=h0;have:b'=b:=Option.some.inj (h1.symm.trans hκ);subst this;rw[hk] at h2;cases h2)
   env:=fun j=>G.ra (r.env j)
   obj:=fun j x h=>by
    rw[jH] at h
    by_cases e:i=j
    ·subst e;rw[if_pos rfl] at h;cases h;exact js _ rfl G
    ·rw[if_neg e] at h
     exact(r.obj j x h).goes G rfl (fun k hk=>t.block k (r.lo j k ⟨x,h⟩ hk).2 (fun e'=>e (r.inj i j k hi ⟨x,h⟩ (hκ.trans e') hk))) (fun k h1 h2=>⟨h1,t.block k h2 (fun e'=>r.fr.nr hi (hκ.trans e') ⟨j,h1⟩)⟩)
   inj:=fun i' j b h1 h2=>r.inj i' j b ((fS i').1 h1) ((fS j).1 h2)
   lo:=fun j k h1 h2=>by have:=r.lo j k ((fS j).1 h1) h2;rw[hs];exact this
   nx:=fun j h=>r.nx j ((fS j).1 h)
   wt:=fun k hk=>⟨fun b' iU=>⟨((r.wt k hk).1 b' iU).1,(t.block b' (qZ ((r.wt k hk).1 b' iU)) (fun e=>by
     cases e
     exact(r.wt k hk).2 i b hi (.inr (Es k hk)) hκ iU)).trans ((r.wt k hk).1 b' iU).2⟩,
    fun j b' hj n8 xp=>(r.wt k hk).2 j b' ((fS j).1 hj) (n8.imp (nq j).1 id) xp⟩
   below:=r.rT t (fun k e=>by cases e;exact(r.lo i b hi hκ).1)
   hB:=by rw[hs];exact r.hB
   N0:=r.N0
   km:=r.km
   fr:=r.fr.of t.size (fun k _ h1 h2=>t.block k h1 (fun e=>h2 i hi (hκ.trans e))) fun j k h1 h2=> .inl ⟨j,(fS j).1 h1,h2⟩}
mutual
def AV.mp (f:AV→AV):AV→AV
 |.agg cs=> .agg (AV.DK f cs)
 |.gM cs=> .gM (AV.DK f cs)
 |.jJ fn cs ds=> .jJ fn (AV.DK f cs) (AV.DK f ds)
 |.any=>f .any
 |.pv p=> .pv p
 |.own i e k fc=>f (.own i e k fc)
 |.ptr i o=> .ptr i o
 |.gp c=> .gp c
 |.gN i e k fc n=>f (.gN i e k fc n)
 |.gz i=> .gz i
 |.kZ i=> .kZ i
def AV.DK (f:AV→AV):List AV→List AV
 |[]=>[]
 |c::cs=>AV.mp f c::AV.DK f cs
end
theorem AV.jG (f:AV→AV):∀l,AV.DK f l=l.map (AV.mp f)
 |[]=>rfl
 |c::cs=>by simp [AV.DK,AV.jG f cs]
def Ob.wR (f:AV→AV):Ob→Ob
 |.row=> .row
 |.box cs=> .box (cs.map f)
 |.mp l=> .mp l
 |.mpl l k v=> .mpl l k (f v)
 |.it l seen=> .it l seen
 |.lit T vals=> .lit T vals
 |.ff e rows=> .ff e rows
 |.loop l tm ps jf body st=> .loop l tm ps jf body st
def DS.gF (δ:DS) (f:AV→AV):DS:={δ with env:=δ.env.map fun p=>(p.1,f p.2),gq:=δ.gq.map fun p=>(p.1,p.2.map (Ob.wR f))}
theorem qd (f:AV→AV) (hf:f .any=.any) (δ:DS) (j:Nat):(δ.gF f).get j=f (δ.get j):=by
 have:∀l:List (Nat×AV),look (l.map fun p=>(p.1,f p.2)) j=f (look l j):=by
  intro l
  induction l with
  |nil=>simp [look,hf]
  |cons x l ih=>
   obtain⟨i,v⟩:=x
   simp only[bA,fH,ih]
   split<;>rfl
 exact this _
theorem kb (f:AV→AV) (δ:DS) (j:Nat):(δ.gF f).ob j=(δ.ob j).map (Ob.wR f):=by
 have:∀l:List (Nat×Option Ob),fg (l.map fun p=>(p.1,p.2.map (Ob.wR f))) j=(fg l j).map (Ob.wR f):=by
  intro l
  induction l with
  |nil=>rfl
  |cons x l ih=>
   obtain⟨i,v⟩:=x
   simp only[bA,fl,ih]
   split<;>rfl
 exact this _
def Cx.less (C:Cx) (i:Nat):Cx:={C with Lr:=fun j=>C.Lr j∧j≠i}
theorem RA.less {C:Cx} {i:Nat} {w:World} {v:Value} {av:AV} (h:RA C w v av) (hn:av.kD=true):RA (C.less i) w v av:=by
 cases h with
 |any v=>exact .any v
 |pv h=>exact .pv h
 |own h=>simp [AV.kD] at hn
 |ptr hl hκ=>exact .ptr hl hκ
 |gp b off vs hN hb hc hr=>exact .gp b off vs hN hb hc hr
 |gN hi h=>simp [AV.kD] at hn
 |agg hs h=>simp [AV.kD] at hn
 |gM hs h=>simp [AV.kD] at hn
 |jJ hs h ht h'=>simp [AV.kD] at hn
 |gz hl hκ=>exact .gz hl hκ
 |kZ hl hκ=>exact .kZ hl hκ
theorem Rel.row (r:Rel g δ κ a w) {i:Nat} (ho:δ.ob i=some .row) {κ':Kp} (hκ:∀j,j≠i→κ' j=κ j) {w':World} (t:iw w w' (κ i))
  (hi:∀b,κ' i=some b→(κ i=some b∨w.heap.size≤b)∧b<w'.heap.size∧∃c e,w'.heap[b]? =some (.cells c e (0,0)))
  (f:AV→AV) (XA:f .any=.any)
  (hf:kr ((δ.cx g κ).less i) w ((δ.gF f).cx g κ') w'→∀v av,RA (δ.cx g κ) w v av→RA ((δ.gF f).cx g κ') w' v (f av)) (hF:κ'.F=κ.F:=by rfl):
  Rel g (δ.gF f) κ' a w'∧kr ((δ.cx g κ).less i) w ((δ.gF f).cx g κ') w':=by
 have uq:δ.live i:=⟨_,ho⟩
 have fS:∀j,(δ.gF f).live j↔δ.live j:=by
  intro j
  unfold DS.live
  rw[kb]
  cases δ.ob j<;>simp
 have nq:∀j,(δ.gF f).lr j↔δ.lr j:=by
  intro j
  unfold DS.lr
  rw[kb]
  cases δ.ob j with
  |none=>simp
  |some o=>cases o<;>simp [Ob.wR]
 have vy:∀j,(δ.gF f).lb j↔δ.lb j:=by
  intro j
  unfold DS.lb
  rw[kb]
  cases δ.ob j with
  |none=>simp
  |some o=>cases o<;>simp [Ob.wR,Ob.isRow]
 have uw:∀j,δ.lb j→j≠i:=by
  rintro j ⟨o,h1,h2⟩ rfl
  rw[ho] at h1;cases h1;simp [Ob.isRow] at h2
 have nD:∀j k,δ.live j→j≠i→κ j=some k→w'.heap[k]? =w.heap[k]?:=fun j k hj fZ hk=>
  t.block k (r.lo j k hj hk).2 (fun e=>fZ (r.inj j i k hj uq hk e))
 have G:kr ((δ.cx g κ).less i) w ((δ.gF f).cx g κ') w':=
  {B:=rfl,size:=t.size
   N:=fun k h1 h2=>by
    refine⟨⟨⟨h2.1.1,by unfold Kp.Fs;rw[hF];exact h2.1.2⟩,fun j hj e=>?_⟩,t.block k h1 (h2.2 i uq)⟩
    by_cases pz:j=i
    ·subst pz
     rcases(hi k e).1 with h|h
     ·exact h2.2 j uq h
     ·omega
    ·rw[hκ j pz] at e;exact h2.2 j ((fS j).1 hj) e
   Lr:=fun j hj=>⟨(nq j).2 hj.1,hκ j hj.2,fun k hk=>nD j k (DS.gI hj.1) hj.2 hk⟩
   Lb:=fun j hj=>⟨(vy j).2 hj,hκ j (uw j hj)⟩}
 refine⟨?_,G⟩
 have F:=hf G
 exact
  {n:=r.n
   dfr:=r.dfr.goes fun k _ hk=>t.block k (iJ hk) (fun e=>by
    obtain⟨c,e',h1⟩:=r.obj i _ ho k e
    rw[hk] at h1;cases h1)
   env:=fun j=>by rw[qd f XA];exact F _ _ (r.env j)
   obj:=fun j x h=>by
    rw[kb] at h
    cases f_:δ.ob j with
    |none=>rw[f_] at h;simp at h
    |some o=>
     rw[f_] at h
     simp only[bq,Option.some.injEq] at h
     subst h
     have h0:=r.obj j o f_
     cases o with
     |row=>
      intro b hb
      by_cases pz:j=i
      ·subst pz;exact(hi b hb).2.2
      ·have iU:κ j=some b:=by rw[← hκ j pz];exact hb
       obtain⟨c,e,h1⟩:=h0 b iU
       exact⟨c,e,(nD j b ⟨_,f_⟩ pz iU).trans h1⟩
     |box cs=>
      obtain⟨b,c,e,h1,h2,h3,h4⟩:=h0
      have pz:j≠i:=uw j ⟨_,f_,rfl⟩
      refine⟨b,c,e,(hκ j pz).trans h1,(nD j b ⟨_,f_⟩ pz h1).trans h2,by simpa using h3,fun k u av h5 h6=>?_⟩
      simp only[a7,bg] at h6
      obtain⟨av',h6,rfl⟩:=h6
      exact⟨F _ _ (h4 k u av' h5 h6).1,(h4 k u av' h5 h6).2⟩
     |mp l=>
      obtain⟨b,es,clock,h1,h2,h3,h4⟩:=h0
      have pz:j≠i:=uw j ⟨_,f_,rfl⟩
      refine⟨b,es,clock,(hκ j pz).trans h1,(nD j b ⟨_,f_⟩ pz h1).trans h2,⟨h3.1,fun k e p h5 h6=>?_⟩,h4⟩
      exact⟨(h3.2 k e p h5 h6).1,G.ra ((h3.2 k e p h5 h6).2.less (h4.2 p (aU h6)))⟩
     |mpl l kk v=>
      obtain⟨b,es,clock,h1,h2,h3,h4⟩:=h0
      have pz:j≠i:=uw j ⟨_,f_,rfl⟩
      refine⟨b,es,clock,(hκ j pz).trans h1,(nD j b ⟨_,f_⟩ pz h1).trans h2,?_,h4⟩
      exact h3.last (fun u p hp h=>G.ra (h.less (h4.2 p hp))) (fun u h=>F _ _ h)
     |it l seen=>
      obtain⟨b,h1,h2⟩:=h0
      have pz:j≠i:=uw j ⟨_,f_,rfl⟩
      exact⟨b,(hκ j pz).trans h1,h2.mono G.size G.N (nD j b ⟨_,f_⟩ pz h1)⟩
     |ff e rows=>
      have pz:j≠i:=uw j ⟨_,f_,rfl⟩
      exact⟨(hκ j pz).trans h0.1,fun kk=>(h0.2.1 kk).goes rfl fun k _ h1 h2=>⟨by rw[show((δ.gF f).cx g κ').κ=κ' from rfl,hF];exact h1,t.block k h2 (fun e=>r.fr.nr uq e ⟨j,h1⟩)⟩,h0.2.2⟩
     |lit T vals=>
      obtain⟨b,h1,h2⟩:=h0
      have pz:j≠i:=uw j ⟨_,f_,rfl⟩
      exact⟨b,(hκ j pz).trans h1,(nD j b ⟨_,f_⟩ pz h1).trans h2⟩
     |loop l tm ps jf body st=>
      obtain⟨b,lr,h1,h2,h3⟩:=h0
      have pz:j≠i:=uw j ⟨_,f_,rfl⟩
      exact⟨b,lr,(hκ j pz).trans h1,(nD j b ⟨_,f_⟩ pz h1).trans h2,h3⟩
   inj:=fun i' j b h1 h2 h3 h4=>by
    rw[fS] at h1 h2
    by_cases e1:i'=i
    ·by_cases e2:j=i
     ·rw[e1,e2]
     ·subst e1
      rw[hκ j e2] at h4
      rcases(hi b h3).1 with h|h
      ·exact r.inj i' j b h1 h2 h h4
      ·exact absurd (r.lo j b h2 h4).2 (by omega)
    ·by_cases e2:j=i
     ·subst e2
      rw[hκ i' e1] at h3
      rcases(hi b h4).1 with h|h
      ·exact r.inj i' j b h1 h2 h3 h
      ·exact absurd (r.lo i' b h1 h3).2 (by omega)
     ·rw[hκ i' e1] at h3
      rw[hκ j e2] at h4
      exact r.inj i' j b h1 h2 h3 h4
   lo:=fun j k h1 h2=>by
    rw[fS] at h1
    by_cases e:j=i
    ·subst e
     refine⟨?_,(hi k h2).2.1⟩
     rcases(hi k h2).1 with h|h
     ·exact(r.lo j k h1 h).1
     ·exact aQ r.hB h
    ·rw[hκ j e] at h2
     have:=r.lo j k h1 h2
     exact⟨this.1,aK this.2 t.size⟩
   nx:=fun j h=>r.nx j ((fS j).1 h)
   wt:=fun k hk=>⟨fun b' iU=>⟨((r.wt k hk).1 b' iU).1,(t.block b' (qZ ((r.wt k hk).1 b' iU)) (fun e=>(r.wt k hk).2 i b' uq (.inl ho) e iU)).trans ((r.wt k hk).1 b' iU).2⟩,
    fun j b' hj n8 xp iU=>by
     by_cases e:j=i
     ·subst e
      rcases(hi b' xp).1 with h|h
      ·exact(r.wt k hk).2 j b' uq (.inl ho) h iU
      ·exact absurd (qZ ((r.wt k hk).1 b' iU)) (by omega)
     ·rw[hκ j e] at xp
      exact(r.wt k hk).2 j b' ((fS j).1 hj) (n8.imp (nq j).1 id) xp iU⟩
   below:=r.rT t (fun k e=>(r.lo i k uq e).1)
   hB:=aQ r.hB t.size
   N0:=r.N0
   km:=r.km
   fr:=r.fr.of t.size (fun k _ h1 h2=>t.block k h1 (fun e=>h2 i uq e)) (fun j k h1 h2=>by
    by_cases e:j=i
    ·subst e
     rcases(hi k h2).1 with h|h
     ·exact .inl ⟨j,uq,h⟩
     ·exact .inr h
    ·rw[hκ j e] at h2;exact .inl ⟨j,(fS j).1 h1,h2⟩) (fun j b h=>by rw[hF] at h;exact h)}
theorem Rel.yO (r:Rel g δ κ a w):Rel g (δ.fN .row) (gT κ δ.nx none) a w∧kr (δ.cx g κ) w ((δ.fN .row).cx g (gT κ δ.nx none)) w:=by
 have nG:¬δ.live δ.nx:=fun h=>aX _ (r.nx _ h)
 have fZ:∀i,δ.live i→δ.nx≠i:=fun i h e=>nG (e▸h)
 have fS:∀i,(δ.fN .row).live i→i=δ.nx∨δ.live i:=by
  intro i ⟨o',h⟩
  rw[fY] at h
  by_cases e:δ.nx=i
  ·exact .inl e.symm
  ·rw[if_neg e] at h;exact .inr ⟨o',h⟩
 have oD:∀i b,(δ.fN .row).live i→gT κ δ.nx none i=some b→δ.live i∧κ i=some b:=by
  intro i b hi h
  rcases fS i hi with rfl|hi
  ·simp [gT] at h
  ·simp only[gT,fZ i hi,if_false] at h;exact⟨hi,h⟩
 have G:kr (δ.cx g κ) w ((δ.fN .row).cx g (gT κ δ.nx none)) w:=
  {B:=rfl,size:=aP _
   N:=fun b h1 h2=>⟨⟨h2.1,fun i hi e=>let ⟨h3,h4⟩:=oD i b hi e;h2.2 i h3 h4⟩,rfl⟩
   Lr:=fun i hi=>by
    have kq:=fZ i (DS.gI hi)
    refine⟨?_,by show gT _ _ _ i=κ i;simp [gT,kq],fun b hκ=>rfl⟩
    show(δ.fN .row).ob i=_
    rw[fY,if_neg kq];exact hi
   Lb:=fun i hi=>by
    have kq:=fZ i (DS.lW hi)
    refine⟨?_,by show gT _ _ _ i=κ i;simp [gT,kq]⟩
    obtain⟨o',h1,h2⟩:=hi
    exact⟨o',by rw[fY,if_neg kq];exact h1,h2⟩}
 refine⟨?_,G⟩
 exact
  {n:=r.n,dfr:=r.dfr,env:=fun j=>G.ra (r.env j)
   obj:=fun i o' h=>by
    rw[fY] at h
    by_cases e:δ.nx=i
    ·rw[if_pos e] at h;cases h;subst e
     intro b hb
     exact absurd hb (by show gT _ _ _ _≠_;simp [gT])
    ·rw[if_neg e] at h
     exact(r.obj i o' h).goes G (by show gT _ _ _ i=κ i;simp [gT,e]) (fun b hκ=>rfl) (fun b hF fx=>⟨hF,rfl⟩)
   inj:=fun i j b h1 h2 h3 h4=>let ⟨h5,h6⟩:=oD i b h1 h3;let ⟨h7,h8⟩:=oD j b h2 h4;r.inj i j b h5 h7 h6 h8
   lo:=fun i b h1 h2=>let ⟨h5,h6⟩:=oD i b h1 h2;r.lo i b h5 h6
   nx:=fun i h=>by
    show i<δ.nx+1
    rcases fS i h with rfl|h
    ·omega
    ·have:=r.nx i h;omega
   wt:=fun k hk=>⟨(r.wt k hk).1,fun i b hi kq hκ hb=>by
    obtain⟨h5,h6⟩:=oD i b hi hκ
    refine(r.wt k hk).2 i b h5 (kq.imp (fun h=>?_) id) h6 hb
    have h7:(δ.fN .row).ob i=some .row:=h
    rw[fY,if_neg (fZ i h5)] at h7
    exact h7⟩
   below:=r.below
   hB:=r.hB
   N0:=r.N0
   km:=r.km
   fr:=r.fr.sub fun i b h1 h2=>⟨i,oD i b h1 h2⟩}
def qT (i:Nat):AV→AV
 |.own j e k fc=>bif aL i j then .any else .own j e k fc
 |.gN j e k fc n=>bif aL i j then .any else .gN j e k fc n
 |v=>v
def AV.kill (i:Nat):AV→AV:=AV.mp (qT i)
theorem mo {i j:Nat} (h:i≠j):aL i j=false:=by cases hh:aL i j with|false=>rfl|true=>exact absurd (aM hh) h
theorem oq (i:Nat):aL i i=true:=Nat.beq_refl i
theorem RA.mp {C C':Cx} {i:Nat} {w w':World} (G:kr (C.less i) w C' w') {f:AV→AV}
  (Wo:f .any=.any)
  (lH:∀j e k fc,j≠i→f (.own j e k fc)=.own j e k fc) (TW:∀j e k fc n,j≠i→f (.gN j e k fc n)=.gN j e k fc n)
  (gD:∀v e k fc,jv C w v i e k fc→RA C' w' v (f (.own i e k fc))) (S8:∀b cap e k fc n,n<fc.length→jv C w (.slice (some ⟨b,0,none⟩) fc.length cap) i e k fc→RA C' w' (.pointer (some ⟨b,n*k,none⟩)) (f (.gN i e k fc n)))
  {v:Value} {av:AV} (h:RA C w v av):RA C' w' v (av.mp f):=by
 have BJ:∀{v j e k fc},jv C w v j e k fc→j≠i→jv (C.less i) w v j e k fc:=fun h hj=>⟨⟨h.live,hj⟩,h.lim,h.hk,h.vm,h.row⟩
 induction h with
 |any v=>simp only[AV.mp,Wo];exact .any v
 |pv h=>exact .pv (G.rp h)
 | @own v j e k fc h=>
  simp only[AV.mp]
  by_cases hj:j=i
  ·subst hj;exact gD v e k fc h
  ·rw[lH j e k fc hj];exact .own (G.GF (BJ h hj))
 |ptr hl hκ=>exact .ptr (G.Lb _ hl).1 ((G.Lb _ hl).2.trans hκ)
 |gp b off vs hN hb hc hr=>exact G.ra (C:=C.less i) (.gp b off vs hN hb hc hr)
 | @gN j e k fc n b cap hn h=>
  simp only[AV.mp]
  by_cases hj:j=i
  ·subst hj;exact S8 b cap e k fc n hn h
  ·rw[TW j e k fc n hj];exact .gN hn (G.GF (BJ h hj))
 | @agg vs cs hs h ih=>
  simp only[AV.mp,AV.jG]
  refine .agg (by simpa using hs) fun j u c h1 h2=>?_
  simp only[a7,bg] at h2
  obtain⟨c',h2,rfl⟩:=h2
  exact ih j u c' h1 h2
 | @gM vs cs hs h ih=>
  simp only[AV.mp,AV.jG]
  refine .gM (by simpa using hs) fun j u c h1 h2=>?_
  simp only[a7,bg] at h2
  obtain⟨c',h2,rfl⟩:=h2
  exact ih j u c' h1 h2
 | @jJ fn vs us cs ds hs h ht h' ih ih'=>
  simp only[AV.mp,AV.jG]
  refine .jJ (by simpa using hs) (fun j u c h1 h2=>?_) (by simpa using ht) (fun j u c h1 h2=>?_)
  ·simp only[a7,bg] at h2
   obtain⟨c',h2,rfl⟩:=h2
   exact ih j u c' h1 h2
  ·simp only[a7,bg] at h2
   obtain⟨c',h2,rfl⟩:=h2
   exact ih' j u c' h1 h2
 |gz hl hκ=>exact .gz (G.Lb _ hl).1 ((G.Lb _ hl).2.trans hκ)
 |kZ hl hκ=>exact .kZ (G.Lb _ hl).1 ((G.Lb _ hl).2.trans hκ)
theorem RA.kill {C C':Cx} {i:Nat} {w w':World} (G:kr (C.less i) w C' w') {v:Value} {av:AV} (h:RA C w v av):RA C' w' v (av.kill i):=by
 refine h.mp G rfl (fun j e k fc hj=>?_) (fun j e k fc n hj=>?_) (fun v e k fc _=>?_) (fun b cap e k fc n _ _=>?_)
 ·simp only[qT,mo (Ne.symm hj)];rfl
 ·simp only[qT,mo (Ne.symm hj)];rfl
 ·simp only[qT,oq];exact .any _
 ·simp only[qT,oq];exact .any _
end Go.Ab
/- The operations' laws where memory turns. -/
namespace Go.Ab
open Go Go.RowKit
variable {q:Md} {P:Program} {g:e6} {δ:DS} {κ:Kp} {a:Act} {w:World}
variable {gd:Option (Tmp×Bool)} {ops:Array Oper} {rest:List Oper} {Q:Exit→DS→Prop} {dst:Option Nat} {ty:TypeId} {pos:String} {af:Array Edge}
def AV.one:AV→Bool
 |.pv (.lit v)=>v.oneCell'
 |.pv (.slice _ _)=>true
 |.pv (.mp _)=>true
 |.pv (.clip _ _)=>true
 |.own _ _ _ _|.ptr _ _|.gp _|.gN _ _ _ _ _|.jJ _ _ _|.gz _|.kZ _=>true
 |.any|.pv .any|.agg _|.gM _=>false
def AV.nB:List AV→Bool
 |[]=>true
 |c::cs=>c.one && AV.nB cs
theorem AV.Fx:∀{l:List AV},AV.nB l=true→∀(j:Nat) (c:AV),l[j]? =some c→c.one=true
 |[],_,j,c,h=>by simp at h
 |x::l,h,j,c,hj=>by
  simp only[AV.nB,aZ] at h
  cases j with
  |zero=>simp at hj;subst hj;exact h.1
  |succ j=>exact AV.Fx h.2 j c (by simpa using hj)
theorem RA.one {C:Cx} {w:World} {v:Value} {av:AV} (h:RA C w v av) (h1:av.one=true):v.oneCell'=true:=by
 cases h with
 |any v=>simp [AV.one] at h1
 | @pv v p h=>cases h with|any v=>simp [AV.one] at h1|lit v=>exact h1|slice=>rfl|mp=>rfl|clip=>rfl
 |own h=>obtain⟨a0,c,rfl⟩:=h.inv;rfl
 |ptr=>rfl
 |gp=>rfl
 |gN=>rfl
 |agg=>simp [AV.one] at h1
 |gM=>simp [AV.one] at h1
 |jJ=>rfl
 |gz=>rfl
 |kZ=>rfl
theorem lK {v:Value} (h:v.oneCell'=true):v.cells= #[v]:=by cases v<;>first|rfl|(simp [Value.oneCell'] at h)
def AV.cellsOf:AV→List AV
 |.agg cs=>cs
 |v=>[v]
theorem RA.cells {C:Cx} {w:World} {v:Value} {av:AV} (h:RA C w v av) (h1:AV.nB av.cellsOf=true):v.cells.size=av.cellsOf.length∧
  ∀(j:Nat) (u:Value) (c:AV),v.cells[j]? =some u→av.cellsOf[j]? =some c→RA C w u c∧u.oneCell'=true:=by
 by_cases Zx:∃cs,av=.agg cs
 ·obtain⟨cs,rfl⟩:=Zx
  cases h with
  |agg hs h=>exact⟨hs,fun j u c h2 h3=>⟨h j u c h2 h3,(h j u c h2 h3).one (AV.Fx h1 j c h3)⟩⟩
 ·have hc:av.cellsOf=[av]:=by cases av<;>first|rfl|exact absurd ⟨_,rfl⟩ Zx
  rw[hc] at h1 ⊢
  simp only[AV.nB,Bool.and_true] at h1
  have ho:=h.one h1
  rw[lK ho]
  refine⟨rfl,fun j u c h2 h3=>?_⟩
  match j with
  |0=>simp at h2 h3;subst h2;subst h3;exact⟨h,ho⟩
  |j+1=>simp at h3
theorem Rel.Ao (r:Rel g δ κ a w) {i b:Nat} (hi:δ.lb i) (hκ:κ i=some b):(∀j,δ.lr j→κ j≠some b)∧¬κ.Fs b:=by
 refine⟨?_,r.fr.nr (DS.lW hi) hκ⟩
 rintro j hj e
 have:=r.inj i j b (DS.lW hi) (DS.gI hj) hκ e
 subst this
 obtain⟨o,h1,h2⟩:=hi
 have h3:δ.ob i=some .row:=hj
 rw[h1] at h3
 cases h3
 simp [Ob.isRow] at h2
theorem iQ.box {x:Operand} {e:TypeId} {v:AV} (hx:δ.ev x=v) (h1:AV.nB v.cellsOf=true) (ho:fq x=true) (hd:fR δ.n dst=true):
  iQ P g ⟨dst,.box e x,ty,pos,af,gd⟩ δ ((δ.fN (.box v.cellsOf)).eY dst (.ptr δ.nx 0)):=by
 intro κ a w r
 have hr:=r.ra hx ho
 obtain⟨hs,hc⟩:=hr.cells h1
 have fw:(execOp a.eval ⟨dst,.box e x,ty,pos,af,gd⟩).run P w=.ok (.value (.pointer (some ⟨w.heap.size,0,none⟩))) (w.alloc (.cells (a.eval x).cells e)):=by
  simp [execOp,Instr.box,newVar,newRow]
 obtain⟨r',G⟩:=r.grow (.box v.cellsOf) (.cells (a.eval x).cells e) (fun C G hκ=>⟨w.heap.size,_,e,hκ,heap_alloc_new w _,hs,fun j u av h2 h3=>⟨G.ra (hc j u av h2 h3).1,(hc j u av h2 h3).2⟩⟩)
 refine .inl ⟨_,_,_,_,fw,.inl rfl,r'.eY (fv hd) ?_⟩
 exact .ptr ⟨_,by show(δ.fN _).ob _=_;rw[fY,if_pos rfl],rfl⟩ (by show gT _ _ _ _=_;simp [gT])
theorem iQ.alloc {e:TypeId} {z:Value} (hz:(P.info? e).bind (·.zero)=some z) (h1:z.cells.toList.all (·.oneCell')=true) (hd:fR δ.n dst=true):
  iQ P g ⟨dst,.alloc e,ty,pos,af,gd⟩ δ ((δ.fN (.box (z.cells.toList.map fun v=> .pv (.lit v)))).eY dst (.ptr δ.nx 0)):=by
 intro κ a w r
 have fw:(execOp a.eval ⟨dst,.alloc e,ty,pos,af,gd⟩).run P w=.ok (.value (.pointer (some ⟨w.heap.size,0,none⟩))) (w.alloc (.cells z.cells e)):=by
  cases hi:P.info? e with
  |none=>rw[hi] at hz;simp at hz
  |some i=>rw[hi] at hz;simp at hz;simp [execOp,Instr.alloc,zeroValue,typeInfo,hi,hz,newVar,newRow]
 obtain⟨r',G⟩:=r.grow (.box (z.cells.toList.map fun v=> .pv (.lit v))) (.cells z.cells e) (fun C G hκ=>⟨w.heap.size,_,e,hκ,heap_alloc_new w _,by simp,fun j u av h2 h3=>by
  simp only[a7,bg] at h3
  obtain⟨v,h3,rfl⟩:=h3
  have:v=u:=by have:=h2;rw[← bB,h3] at this;exact Option.some.inj this
  subst this
  exact⟨.pv (.lit _),by simpa using (bC.1 h1) _ (aU h3)⟩⟩)
 refine .inl ⟨_,_,_,_,fw,.inl rfl,r'.eY (fv hd) ?_⟩
 exact .ptr ⟨_,by show(δ.fN _).ob _=_;rw[fY,if_pos rfl],rfl⟩ (by show gT _ _ _ _=_;simp [gT])
theorem a_.box {x:Operand} {e:TypeId} {v:AV} (hx:δ.ev x=v) (h1:AV.nB v.cellsOf=true) (ho:fq x=true) (hd:fR δ.n dst=true)
  (hK:a_ .plain P g ops rest Q ((δ.fN (.box v.cellsOf)).eY dst (.ptr δ.nx 0))):a_ .plain P g ops (⟨dst,.box e x,ty,pos,af,none⟩::rest) Q δ:=a_.qA rfl rfl (iQ.box hx h1 ho hd) hK
theorem a_.alloc {e:TypeId} {z:Value} (hz:(P.info? e).bind (·.zero)=some z) (h1:z.cells.toList.all (·.oneCell')=true) (hd:fR δ.n dst=true)
  (hK:a_ .plain P g ops rest Q ((δ.fN (.box (z.cells.toList.map fun v=> .pv (.lit v)))).eY dst (.ptr δ.nx 0))):a_ .plain P g ops (⟨dst,.alloc e,ty,pos,af,none⟩::rest) Q δ:=a_.qA rfl rfl (iQ.alloc hz h1 hd) hK
theorem nW {s:TypeId} {x:Operand} {f b off:Nat} {fs:Array Field} {fld:Field} (hs:P.underlying s=some (.struct fs)) (hf:fs[f]? =some fld) (hz:((P.info? fld.type).map fun i=>aY 0 i.size)=some true)
  {ρ:Operand→Value} (hx:ρ x=.pointer (some ⟨b,off,none⟩)) (w:World):(execOp ρ ⟨dst,.fieldAddr s x f,ty,pos,af,none⟩).run P w=.ok (.value (.pointer (some ⟨b,off+fld.offset,none⟩))) w:=by
 cases hi:P.info? fld.type with
 |none=>rw[hi] at hz;simp at hz
 |some i=>
  rw[hi] at hz
  have hn:i.size≠0:=by simp at hz;omega
  simp [execOp,Instr.fieldAt,Instr.sureAddr,run_underlying hs,hf,hx,fieldPlace,sizeOf,typeInfo,hi,hn,addr_add]
theorem a_.fieldAddr {s:TypeId} {x:Operand} {f i off:Nat} {fs:Array Field} {fld:Field} (hx:δ.ev x=.ptr i off) (hs:P.underlying s=some (.struct fs)) (hf:fs[f]? =some fld) (hz:((P.info? fld.type).map fun i=>aY 0 i.size)=some true) (ho:fq x=true) (hd:fR δ.n dst=true)
  (hK:a_ q P g ops rest Q (δ.eY dst (.ptr i (off+fld.offset)))):a_ q P g ops (⟨dst,.fieldAddr s x f,ty,pos,af,none⟩::rest) Q δ:=
 a_.iR _ hd (fun κ a w r=>by
  have h1:=r.ra hx ho
  generalize hu:a.eval x=u at h1
  cases h1 with
  |ptr hl hκ=>exact⟨_,fun w' _=>nW hs hf hz hu w',.ptr hl hκ⟩) hK
theorem a_.Bs {s:TypeId} {x:Operand} {f n:Nat} {cs:List PV} {fs:Array Field} {fld:Field} (hx:δ.ev x=.gp cs) (hs:P.underlying s=some (.struct fs)) (hf:fs[f]? =some fld) (hz:((P.info? fld.type).map fun i=>aY 0 i.size)=some true)
  (hn:(P.info? fld.type).map (·.size)=some n) (ho:fq x=true) (hd:fR δ.n dst=true)
  (hK:a_ q P g ops rest Q (δ.eY dst (.gp ((cs.drop fld.offset).take n)))):a_ q P g ops (⟨dst,.fieldAddr s x f,ty,pos,af,none⟩::rest) Q δ:=
 a_.iR _ hd (fun κ a w r=>by
  have h1:=r.ra hx ho
  generalize hu:a.eval x=u at h1
  cases h1 with
  |gp b off vs hN hb hc hr=>
   refine⟨_,fun w' _=>nW hs hf hz hu w',.gp b (off+fld.offset) (fun j=>vs (fld.offset+j)) hN hb (fun j p h=>?_) (fun j p h=>?_)⟩
   ·rw[bD] at h
    split at h
    ·rw[bE] at h;rw[bF];exact hc _ p h
    ·cases h
   ·rw[bD] at h
    split at h
    ·rw[bE] at h;exact hr _ p h
    ·cases h) hK
theorem a_.LH {x:Operand} {t:TypeId} {i off:Nat} {cells:List AV} {v:AV} (hx:δ.ev x=.ptr i off) (hb:δ.ob i=some (.box cells)) (hv:cells[off]? =some v) (ht:jU P t=true) (ho:fq x=true) (hd:fR δ.n dst=true)
  (hK:a_ q P g ops rest Q (δ.eY dst v)):a_ q P g ops (⟨dst,.load t x,ty,pos,af,none⟩::rest) Q δ:=
 a_.iR _ hd (fun κ a w r=>by
  obtain⟨b,c,e,h1,h2,h3,h4,h5⟩:=r.box (r.ra hx ho) hb
  have fx:off<c.size:=by rw[h4];exact(aW.1 hv).1
  exact⟨c[off],fun w' j5=>jW ht h1 ((j5.cell (ad:=⟨b,off,none⟩) (aO.1 h3).1 (r.Ao ⟨_,hb,rfl⟩ h2)).trans (by rw[cell_of h3,aN fx])),(h5 off _ v (aN fx) hv).1⟩) hK
theorem a_.E1 {x:Operand} {t:TypeId} {i off n:Nat} {cells:List AV} (hx:δ.ev x=.ptr i off) (hb:δ.ob i=some (.box cells)) (ht:zU P t n=true) (hle:bx (off+n) cells.length=true) (ho:fq x=true) (hd:fR δ.n dst=true)
  (hK:a_ q P g ops rest Q (δ.eY dst (.agg ((cells.drop off).take n)))):a_ q P g ops (⟨dst,.load t x,ty,pos,af,none⟩::rest) Q δ:=
 a_.iR _ hd (fun κ a w r=>by
  obtain⟨b,c,e,h1,h2,h3,h4,h5⟩:=r.box (r.ra hx ho) hb
  have GZ:off+n≤cells.length:=by simpa using hle
  refine⟨_,fun w' j5=>sg ht h1 (f:=fun j=>c.getD (off+j) undef) (fun j hj=>?_),.agg (by simp;omega) (fun j u av h7 h8=>?_)⟩
  ·rw[addr_add,j5.cell (ad:=⟨b,off+j,none⟩) (aO.1 h3).1 (r.Ao ⟨_,hb,rfl⟩ h2),cell_of h3,aR,aN aJ];rfl
  ·rw[bD] at h8
   split at h8
   ·rw[bE] at h8
    refine(h5 (off+j) u av ?_ h8).1
    simp only[bf,a7,bg] at h7
    obtain⟨j',n8,rfl⟩:=h7
    have:j'=j:=by
     rw[aW] at n8
     obtain⟨_,h⟩:=n8
     simpa using h.symm
    subst this
    rw[aR,aN aJ];rfl
   ·cases h8) hK
theorem kp {w:World} {b off:Nat} {c:Array Value} {e:TypeId} (h:w.heap[b]? =some (.cells c e (0,0))) (u:Value):(w.setCell ⟨b,off,none⟩ u).heap[b]? =some (.cells (c.setIfInBounds off u) e (0,0)):=by
 rw[setCell_eq_setRow w b off c e (0,0) u h];exact setRow_heap w b c _ e _ h
theorem mX {w:World} {b:Nat} {c:Array Value} {e:TypeId} (h:w.heap[b]? =some (.cells c e (0,0))) (j:Nat):w.frozen? ⟨b,j,none⟩=false:=by simp [World.frozen?,h]
theorem iQ.gv {x y:Operand} {t:TypeId} {i off:Nat} {cells:List AV} {v:AV} (hx:δ.ev x=.ptr i off) (hy:δ.ev y=v) (hb:δ.ob i=some (.box cells)) (fx:aY off cells.length=true) (ht:(P.info? t).map (·.size)=some 1) (h1:v.one=true) (ho:fq x=true) (f_:fq y=true) (hd:fR δ.n dst=true) (Es:g.nF i):
  iQ P g ⟨dst,.store t x y,ty,pos,af,gd⟩ δ ((δ.gm i (some (.box (cells.set off v)))).eY dst .any):=by
 intro κ a w r
 obtain⟨b,c,e,hv,hκ,h3,h4,h5⟩:=r.box (r.ra hx ho) hb
 have Kx:off<cells.length:=by simpa using fx
 have uM:=r.ra hy f_
 have nH:=uM.one h1
 have fw:(execOp a.eval ⟨dst,.store t x y,ty,pos,af,gd⟩).run P w=.ok .skip (w.setCell ⟨b,off,none⟩ (a.eval y)):=by
  obtain⟨i0,jh,ln⟩:∃i0,P.info? t=some i0∧i0.size=1:=by
   cases h:P.info? t with
   |none=>rw[h] at ht;simp at ht
   |some i0=>rw[h] at ht;exact⟨i0,rfl,by simpa using ht⟩
  have hc:w.cell? ⟨b,off,none⟩=some c[off]:=by rw[cell_of h3,aN aJ]
  have jc:(store ⟨b,off,none⟩ (a.eval y)).run P w=.ok () (w.setCell ⟨b,off,none⟩ (a.eval y)):=by
   rw[run_store P w _ _ _ nH,hc];simp [mX h3]
  simp [execOp,Instr.storeAt,Instr.sureAddr,storeVar,hv,lK nH,sizeOf,typeInfo,jh,ln,storeCells,addr_add,jc]
 obtain⟨r',G⟩:=r.modify (o':=.box (cells.set off v)) hb rfl rfl hκ Es (iw.setCell w ⟨b,off,none⟩ (a.eval y)) (by simp [World.setCell]) (fun C Pl G=>⟨b,_,e,by rw[Pl];exact hκ,kp h3 _,by simpa using h4,fun j u av h6 h7=>by
  rw[aS] at h6
  rw[bG] at h7
  by_cases ej:off=j
  ·rw[if_pos ej] at h6 h7
   rw[if_pos aJ] at h6
   rw[if_pos aJ] at h7
   cases h6;cases h7
   exact⟨G.ra uM,nH⟩
  ·rw[if_neg ej] at h6 h7
   exact⟨G.ra (h5 j u av h6 h7).1,(h5 j u av h6 h7).2⟩⟩)
 exact .inl ⟨_,_,_,_,fw,.inr ⟨rfl,rfl⟩,r'.eY (fv hd) (.any _)⟩
theorem iQ.xj {x y:Operand} {t:TypeId} {i:Nat} {cells cs:List AV} (hx:δ.ev x=.ptr i 0) (hy:δ.ev y=.agg cs) (hb:δ.ob i=some (.box cells)) (hlen:cells.length=cs.length) (ht:(P.info? t).map (·.size)=some cs.length) (h1:AV.nB cs=true) (ho:fq x=true) (f_:fq y=true) (hd:fR δ.n dst=true) (Es:g.nF i):
  iQ P g ⟨dst,.store t x y,ty,pos,af,gd⟩ δ ((δ.gm i (some (.box cs))).eY dst .any):=by
 intro κ a w r
 obtain⟨b,c,e,hv,hκ,h3,h4,h5⟩:=r.box (r.ra hx ho) hb
 obtain⟨ny,n6⟩:=(r.ra hy f_).cells h1
 simp only[AV.cellsOf] at ny n6
 have iT:∀u∈(a.eval y).cells.toList,u.oneCell'=true:=by
  intro u hu
  obtain⟨j,hj⟩:=bz hu
  have fx:j<cs.length:=by rw[← ny];have:=(aW.1 hj).1;simpa using this
  exact(n6 j u _ (by simpa using hj) (a8 fx)).2
 have jc:=run_storeCells_at P b 0 e (a.eval y).cells.toList 0 c w h3 (by simp;omega) iT
 have gC:(c.toList.take (0+0)++(a.eval y).cells.toList++c.toList.drop (0+0+(a.eval y).cells.toList.length)).toArray=(a.eval y).cells:=by
  have:c.toList.drop (0+0+(a.eval y).cells.toList.length)=[]:=List.drop_eq_nil_of_le (by simp;omega)
  rw[this];simp
 rw[gC] at jc
 have fw:(execOp a.eval ⟨dst,.store t x y,ty,pos,af,gd⟩).run P w=.ok .skip (w.setRow b (a.eval y).cells):=by
  obtain⟨i0,jh,ln⟩:∃i0,P.info? t=some i0∧i0.size=cs.length:=by
   cases h:P.info? t with
   |none=>rw[h] at ht;simp at ht
   |some i0=>rw[h] at ht;exact⟨i0,rfl,by simpa using ht⟩
  simp [execOp,Instr.storeAt,Instr.sureAddr,storeVar,hv,ny,sizeOf,typeInfo,jh,ln,jc]
 obtain⟨r',G⟩:=r.modify (o':=.box cs) hb rfl rfl hκ Es (iw.setRow w b (a.eval y).cells) (by simp) (fun C Pl G=>⟨b,_,e,by rw[Pl];exact hκ,setRow_heap w b c _ e _ h3,ny,fun j u av h6 h7=>⟨G.ra (n6 j u av h6 h7).1,(n6 j u av h6 h7).2⟩⟩)
 exact .inl ⟨_,_,_,_,fw,.inr ⟨rfl,rfl⟩,r'.eY (fv hd) (.any _)⟩
theorem a_.gv {x y:Operand} {t:TypeId} {i off:Nat} {cells:List AV} {v:AV} (hx:δ.ev x=.ptr i off) (hy:δ.ev y=v) (hb:δ.ob i=some (.box cells)) (fx:aY off cells.length=true) (ht:(P.info? t).map (·.size)=some 1) (h1:v.one=true) (ho:fq x=true) (f_:fq y=true) (hd:fR δ.n dst=true) (je:g.wt=none)
  (hK:a_ .plain P g ops rest Q ((δ.gm i (some (.box (cells.set off v)))).eY dst .any)):a_ .plain P g ops (⟨dst,.store t x y,ty,pos,af,none⟩::rest) Q δ:=a_.qA rfl rfl (iQ.gv hx hy hb fx ht h1 ho f_ hd (j4 je i)) hK
theorem a_.xj {x y:Operand} {t:TypeId} {i:Nat} {cells cs:List AV} (hx:δ.ev x=.ptr i 0) (hy:δ.ev y=.agg cs) (hb:δ.ob i=some (.box cells)) (hlen:cells.length=cs.length) (ht:(P.info? t).map (·.size)=some cs.length) (h1:AV.nB cs=true) (ho:fq x=true) (f_:fq y=true) (hd:fR δ.n dst=true) (je:g.wt=none)
  (hK:a_ .plain P g ops rest Q ((δ.gm i (some (.box cs))).eY dst .any)):a_ .plain P g ops (⟨dst,.store t x y,ty,pos,af,none⟩::rest) Q δ:=a_.qA rfl rfl (iQ.xj hx hy hb hlen ht h1 ho f_ hd (j4 je i)) hK
end Go.Ab
/- Aggregates and slices that are built;rows that grow. -/
namespace Go.Ab
open Go Go.RowKit
variable {q:Md} {P:Program} {g:e6} {δ:DS} {κ:Kp} {a:Act} {w:World}
variable {ops:Array Oper} {rest:List Oper} {Q:Exit→DS→Prop} {dst:Option Nat} {ty:TypeId} {pos:String} {af:Array Edge}
def nM:List AV→Nat→List AV→List AV
 |cells,_,[]=>cells
 |cells,off,v::vs=>nM (cells.set off v) (off+1) vs
def jz (place:Nat→Option (Nat×Nat)):List AV→List (Nat×AV)→Option (List AV)
 |cells,[]=>some cells
 |cells,(i,v)::rest=>
  match place i with
  |none=>none
  |some (off,size)=>bif aL v.cellsOf.length size && bx (off+v.cellsOf.length) cells.length && AV.nB v.cellsOf then jz place (nM cells off v.cellsOf) rest else none
def Cells (C:Cx) (w:World) (c:Array Value) (l:List AV):Prop:=c.size=l.length∧∀(j:Nat) (u:Value) (av:AV),c[j]? =some u→l[j]? =some av→RA C w u av∧u.oneCell'=true
theorem Cells.set {C:Cx} {w:World} {c:Array Value} {l:List AV} (h:Cells C w c l) (i:Nat) {u:Value} {v:AV} (hu:RA C w u v∧u.oneCell'=true):Cells C w (c.setIfInBounds i u) (l.set i v):=by
 refine⟨by simpa using h.1,fun j x y h1 h2=>?_⟩
 rw[aS] at h1
 rw[bG] at h2
 by_cases e:i=j
 ·rw[if_pos e] at h1 h2
  split at h1
  ·rename_i fx
   rw[if_pos (by have:=h.1;omega)] at h2
   cases h1;cases h2;exact hu
  ·cases h1
 ·rw[if_neg e] at h1 h2;exact h.2 j x y h1 h2
theorem vQ {C:Cx} {w:World}:∀(us:List Value) (vs:List AV) (off k:Nat) (c:Array Value) (l:List AV),us.length=vs.length→
  (∀(j:Nat) (u:Value) (v:AV),us[j]? =some u→vs[j]? =some v→RA C w u v∧u.oneCell'=true)→Cells C w c l→
  Cells C w ((us.zipIdx k).foldl (fun cs x=>cs.setIfInBounds (off+x.2) x.1) c) (nM l (off+k) vs)
 |[],[],off,k,c,l,_,_,h=>h
 |u::us,v::vs,off,k,c,l,hl,hv,h=>by
  simp only[List.zipIdx_cons,List.foldl_cons,nM]
  exact vQ us vs off (k+1) _ _ (by simpa using hl) (fun j x y h1 h2=>hv (j+1) x y (by simpa using h1) (by simpa using h2)) (h.set (off+k) (hv 0 u v rfl rfl))
 |[],v::vs,_,_,_,_,hl,_,_=>by simp at hl
 |u::us,[],_,_,_,_,hl,_,_=>by simp at hl
theorem o8 {C:Cx} {w:World} {place place':Nat→Option (Nat×Nat)} (hp:∀i x,place i=some x→place' i=some x):∀(parts:List (Nat×Value)) (tX:List (Nat×AV)) (c:Array Value) (l l':List AV),
  parts.length=tX.length→(∀(j:Nat) (x:Nat×Value) (y:Nat×AV),parts[j]? =some x→tX[j]? =some y→x.1=y.1∧RA C w x.2 y.2)→Cells C w c l→jz place l tX=some l'→
  ∃c',Instr.fill place' c parts=some c'∧Cells C w c' l'
 |[],[],c,l,l',_,_,h,hf=>by simp only[jz,Option.some.injEq] at hf;subst hf;exact⟨c,rfl,h⟩
 |(i,u)::parts,(i',v)::tX,c,l,l',hl,hv,h,hf=>by
  obtain⟨e,hu⟩:=hv 0 (i,u) (i',v) rfl rfl
  simp only at e hu
  subst e
  simp only[jz] at hf
  cases K7:place i with
  |none=>rw[K7] at hf;cases hf
  |some os=>
   obtain⟨off,size⟩:=os
   rw[K7] at hf
   simp only at hf
   cases hc:(aL v.cellsOf.length size && bx (off+v.cellsOf.length) l.length && AV.nB v.cellsOf) with
   |false=>rw[hc] at hf;cases hf
   |true=>
    rw[hc] at hf
    simp only[aZ] at hc
    obtain⟨⟨h1,h2⟩,h3⟩:=hc
    have Li:v.cellsOf.length=size:=aM h1
    have h2':off+v.cellsOf.length≤l.length:=by simpa using h2
    obtain⟨hs,n6⟩:=hu.cells h3
    have jq:=vQ (C:=C) (w:=w) u.cells.toList v.cellsOf off 0 c l (by simpa using hs) (fun j x y h4 h5=>n6 j x y (by simpa using h4) h5) h
    obtain⟨c',h6,h7⟩:=o8 hp parts tX _ _ l' (by simpa using hl) (fun j x y h4 h5=>hv (j+1) x y (by simpa using h4) (by simpa using h5)) jq hf
    refine⟨c',?_,h7⟩
    unfold Instr.fill
    rw[hp i _ K7]
    simp only
    rw[if_neg (by simp;refine⟨by omega,by have:=h.1;omega⟩)]
    rw[← h6]
    congr 1
    rw[← Array.foldl_toList,Array.toList_zipIdx]
 |[],_::_,_,_,_,hl,_,_,_=>by simp at hl
 |_::_,[],_,_,_,hl,_,_,_=>by simp at hl
def placeOf (P:Program) (fs:Array Field) (i:Nat):Option (Nat×Nat):=(fs[i]?).bind fun f=>(P.info? f.type).map fun i=>(f.offset,i.size)
theorem run_places (fs:List Field) (w:World):∀(acc:Array (Nat×Nat)),fs.all (fun f=>(P.info? f.type).isSome)=true→
  (fs.foldlM (fun(acc:Array (Nat×Nat)) (f:Field)=>do let s ← sizeOf f.type;pure (acc.push (f.offset,s))) acc).run P w=.ok (acc++(fs.map fun f=>(f.offset,((P.info? f.type).map (·.size)).getD 0)).toArray) w:=by
 induction fs with
 |nil=>intro acc _;simp
 |cons f fs ih=>
  intro acc h
  simp only[List.all_cons,aZ] at h
  obtain⟨i,hi⟩:=Option.isSome_iff_exists.1 h.1
  have:=ih (acc.push (f.offset,i.size)) h.2
  simp [List.foldlM_cons,sizeOf,typeInfo,hi] at this ⊢
  rw[this]
theorem a_.build {t:TypeId} {parts:List (Nat×Operand)} {fs:Array Field} {z:Value} {cells:List AV} (hs:P.underlying t=some (.struct fs)) (hz:(P.info? t).bind (·.zero)=some z) (h1:z.cells.toList.all (·.oneCell')=true) (iT:fs.toList.all (fun f=>(P.info? f.type).isSome)=true)
  (ho:parts.all (fun p=>fq p.2)=true) (hf:jz (placeOf P fs) (z.cells.toList.map fun v=> .pv (.lit v)) (parts.map fun p=>(p.1,δ.ev p.2))=some cells) (hd:fR δ.n dst=true)
  (hK:a_ q P g ops rest Q (δ.eY dst (.agg cells))):a_ q P g ops (⟨dst,.build t parts.toArray,ty,pos,af,none⟩::rest) Q δ:=
 a_.iR _ hd (fun κ a w r=>by
  obtain⟨i0,jh,mE⟩:∃i0,P.info? t=some i0∧i0.zero=some z:=by
   cases h:P.info? t with
   |none=>rw[h] at hz;simp at hz
   |some i0=>rw[h] at hz;exact⟨i0,rfl,by simpa using hz⟩
  have K7:=fun w1=>run_places (P:=P) fs.toList w1 #[] iT
  obtain⟨c',h2,h3⟩:=o8 (C:=δ.cx g κ) (w:=w) (place:=placeOf P fs) (place':=fun i=>((#[]:Array (Nat×Nat))++(fs.toList.map fun f=>(f.offset,((P.info? f.type).map (·.size)).getD 0)).toArray)[i]?)
   (fun i x h=>by
    unfold placeOf at h
    cases Mw:fs[i]? with
    |none=>rw[Mw] at h;simp at h
    |some f=>
     rw[Mw] at h
     simp only[bH,bg] at h
     obtain⟨ii,h4,rfl⟩:=h
     simp [Mw,h4])
   (parts.map fun p=>(p.1,a.eval p.2)) (parts.map fun p=>(p.1,δ.ev p.2)) z.cells _ cells (by simp) (fun j x y h4 h5=>by
    simp only[a7,bg] at h4 h5
    obtain⟨p,h6,rfl⟩:=h4
    obtain⟨p',h7,rfl⟩:=h5
    rw[h6] at h7;cases h7
    exact⟨rfl,r.EY p.2 (iV (by simpa using (bC.1 ho) p (aU h6)))⟩)
   ⟨by simp,fun j u av h4 h5=>by
    simp only[a7,bg] at h5
    obtain⟨v,h5,rfl⟩:=h5
    have:v=u:=by have:=h4;rw[← bB,h5] at this;exact Option.some.inj this
    subst this
    exact⟨.pv (.lit _),by simpa using (bC.1 h1) _ (aU h5)⟩⟩ hf
  refine⟨.agg c',fun w1 _=>?_,.agg h3.1 fun j u c h4 h5=>(h3.2 j u c h4 h5).1⟩
  have Q1:(fs.mapM fun(f:Field)=>(do pure (f.offset,← sizeOf f.type):Sem (Nat×Nat)))=fs.toList.foldlM (fun(acc:Array (Nat×Nat)) (f:Field)=>do let s ← sizeOf f.type;pure (acc.push (f.offset,s))) #[]:=by
   rw[br,← Array.foldlM_toList]
   congr 1
   funext acc f
   simp
  have C7:∀w,(zeroValue t).run P w=.ok z w:=fun w=>by simp [zeroValue,typeInfo,jh,mE]
  simp only[execOp,Instr.build,Sem.run_bind,C7,Result.andThen_ok,run_underlying hs,Q1,K7,bn,h2,Sem.run_pure]) hK
end Go.Ab
/- Slices that are written out,made,cut;rows that grow by append or are stored into. -/
namespace Go.Ab
open Go Go.RowKit
variable {q:Md} {P:Program} {g:e6} {δ:DS} {κ:Kp} {a:Act} {w:World}
variable {gd:Option (Tmp×Bool)} {ops:Array Oper} {rest:List Oper} {Q:Exit→DS→Prop} {dst:Option Nat} {ty:TypeId} {pos:String} {af:Array Edge}
theorem a_.fy {l:List Oper} {δ':DS} (hw:nV g δ δ') (h:a_ .plain P g ops l Q δ'):a_ .plain P g ops l Q δ:=fun κ a w r=>let ⟨κ',r'⟩:=hw κ a w r;h κ' a w r'
def Xj:AV→PV|.pv p=>p|_=> .lit undef
def AV.Ak:AV→Bool|.pv _=>true|_=>false
def chunk (k:Nat):Nat→List AV→List (List PV)
 |0,_=>[]
 |n+1,l=>(l.take k).map Xj::chunk k n (l.drop k)
theorem qv (k:Nat):∀n l,(chunk k n l).length=n
 |0,_=>rfl
 |n+1,l=>by simp [chunk,qv k n]
theorem FW (k:Nat):∀n l,l.length=n*k→∀c∈chunk k n l,c.length=k
 |0,_,_,c,h=>by simp [chunk] at h
 |n+1,l,hl,c,h=>by
  rw[bI,bJ] at hl
  simp only[chunk,bu] at h
  rcases h with rfl|h
  ·simp;omega
  ·exact FW k n _ (by simp;omega) c h
theorem BV (k:Nat):∀n l,l.all AV.Ak=true→∀i j p,cellAt (chunk k n l) i j=some p→l[i*k+j]? =some (.pv p)∧j<k
 |0,_,_,i,j,p,h=>by simp [chunk,cellAt] at h
 |n+1,l,hl,i,j,p,h=>by
  cases i with
  |zero=>
   simp only[chunk,cellAt,List.getElem?_cons_zero,bH,a7,bg,bD] at h
   obtain⟨v,h,rfl⟩:=h
   split at h
   ·rename_i hj
    refine⟨?_,hj⟩
    rw[Nat.zero_mul,ba,h]
    have:=(bC.1 hl) v (aU h)
    cases v<;>simp [AV.Ak] at this;rfl
   ·cases h
  |succ i=>
   have:=BV k n (l.drop k) (bC.2 fun x hx=>(bC.1 hl) x (bK hx)) i j p (by simpa [chunk,cellAt] using h)
   rw[bE] at this
   rw[show(i+1)*k+j=k+(i*k+j) by rw[bI];omega]
   exact this
def j7 (z:Value) (n:Nat):List AV:=(bc n).map fun j=> .pv (.lit (z.cells.toList[j % z.cells.toList.length]?.getD undef))
theorem iQ.buildSlice {t e:TypeId} {len k:Nat} {parts:List (Nat×Operand)} {z:Value} {cells:List AV} (ht:P.underlying t=some (.slice e)) (hi:(P.info? e).map (fun i=>(i.size,i.zero))=some (k,some z)) (mh:aL z.cells.size k=true) (hk:aY 0 k=true)
  (hlen:bx (len*k) 16777216=true) (h1:z.cells.toList.all (·.oneCell')=true) (ho:parts.all (fun p=>fq p.2)=true) (hf:jz (fun i=>some (i*k,k)) (j7 z (len*k)) (parts.map fun p=>(p.1,δ.ev p.2))=some cells) (hp:cells.all AV.Ak=true) (hd:fR δ.n dst=true):
  iQ P g ⟨dst,.buildSlice t len parts.toArray,ty,pos,af,gd⟩ δ ((δ.fN .row).eY dst (.own δ.nx e k (chunk k len cells))):=by
 intro κ a w r
 have Ii:z.cells.size=k:=aM mh
 have lO:0<k:=by simpa using hk
 have FR:len*k≤16777216:=by simpa using hlen
 obtain⟨i0,jh,ln,mE⟩:∃i0,P.info? e=some i0∧i0.size=k∧i0.zero=some z:=by
  cases h:P.info? e with
  |none=>rw[h] at hi;simp at hi
  |some i0=>rw[h] at hi;simp at hi;exact⟨i0,rfl,hi.1,hi.2⟩
 have nH:∀(j:Nat) (u:Value),z.cells.toList[j]? =some u→u.oneCell'=true:=fun j u h=>by simpa using (bC.1 h1) u (aU h)
 obtain⟨c',h2,h3⟩:=o8 (C:=δ.cx g κ) (w:=w) (place:=fun i=>some (i*k,k)) (place':=fun i=>some (i*k,k)) (fun i x h=>h)
   (parts.map fun p=>(p.1,a.eval p.2)) (parts.map fun p=>(p.1,δ.ev p.2)) ((bL (len*k)).map (z.cells[·% z.cells.size]!)) (j7 z (len*k)) cells (by simp) (fun j x y h4 h5=>by
    simp only[a7,bg] at h4 h5
    obtain⟨p,h6,rfl⟩:=h4
    obtain⟨p',h7,rfl⟩:=h5
    rw[h6] at h7;cases h7
    exact⟨rfl,r.EY p.2 (iV (by simpa using (bC.1 ho) p (aU h6)))⟩)
   ⟨by simp [j7],fun j u av h4 h5=>by
    have hj:j<len*k:=by have:=(aW.1 h5).1;simpa [j7] using this
    simp only[j7,a7,bh hj,bq,Option.some.injEq] at h5
    subst h5
    simp only[bM,bN,hj,if_true,bq,Option.some.injEq] at h4
    have S2:j % z.cells.size<z.cells.size:=bO _ (by omega)
    have e1:z.cells.toList[j % z.cells.toList.length]? =some u:=by
     rw[← h4,Array.length_toList,bB,getElem!_pos z.cells _ S2,aN S2]
    rw[e1]
    exact⟨.pv (.lit _),nH _ _ e1⟩⟩ hf
 have jq:cells.length=len*k:=by
  have:∀(parts:List (Nat×AV)) (l l':List AV),jz (fun i=>some (i*k,k)) l parts=some l'→l'.length=l.length:=by
   intro parts
   induction parts with
   |nil=>intro l l' h;simp only[jz,Option.some.injEq] at h;rw[h]
   |cons p parts ih=>
    intro l l' h
    obtain⟨i,v⟩:=p
    simp only[jz] at h
    have mB:∀(vs:List AV) (off:Nat) (l:List AV),(nM l off vs).length=l.length:=by
     intro vs
     induction vs with
     |nil=>intros;rfl
     |cons v vs ih=>intro off l;simp only[nM];rw[ih];simp
    cases hc:(aL v.cellsOf.length k && bx (i*k+v.cellsOf.length) l.length && AV.nB v.cellsOf) with
    |false=>rw[hc] at h;cases h
    |true=>rw[hc] at h;rw[ih _ _ h,mB]
  rw[this _ _ _ hf];simp [j7]
 have fw:(execOp a.eval ⟨dst,.buildSlice t len parts.toArray,ty,pos,af,gd⟩).run P w=.ok (.value (.slice (some ⟨w.heap.size,0,none⟩) len len)) (w.alloc (.cells c' e)):=by
  have C7:∀w,(zeroValue e).run P w=.ok z w:=fun w=>by simp [zeroValue,typeInfo,jh,mE]
  have Re:∀w,(sizeOf e).run P w=.ok k w:=fun w=>by simp [sizeOf,typeInfo,jh,ln]
  have mL:¬16777216<len*k:=by omega
  by_cases h0:len*k=0
  ·have:(bL (len*k)).map (fun x=>z.cells[x % z.cells.size]!)=(bL (len*k)).map (fun x=>(#[]:Array Value)[x % (#[]:Array Value).size]!):=by rw[h0];simp [Array.range_zero']
   rw[this] at h2
   simp only[execOp,Instr.buildSlice,Sem.run_bind,Result.andThen_ok,run_underlying ht,Re,bn]
   simp only[show(2:Nat) ^ 24=16777216 from rfl,gt_iff_lt,if_neg mL,if_pos h0,Sem.run_pure,Result.andThen_ok,Sem.run_bind]
   simp only[h2,Sem.run_bind,newRow,Result.andThen_ok,Sem.run_pure]
   rfl
  ·simp only[execOp,Instr.buildSlice,Sem.run_bind,Result.andThen_ok,run_underlying ht,Re,bn]
   simp only[show(2:Nat) ^ 24=16777216 from rfl,gt_iff_lt,if_neg mL,if_neg h0,Sem.run_pure,Result.andThen_ok,Sem.run_bind,C7]
   simp only[h2,Sem.run_bind,newRow,Result.andThen_ok,Sem.run_pure]
   rfl
 have n6:c'.size=len*k:=h3.1.trans jq
 have nC:len≤maxLen:=by
  have:len≤len*k:=bP _ lO
  simp only[maxLen];omega
 obtain⟨r',G⟩:=r.grow .row (.cells c' e) (fun C G hκ b hb=>by
  have:w.heap.size=b:=Option.some.inj (hκ.symm.trans hb)
  subst this
  exact⟨c',e,heap_alloc_new w _⟩)
 have gC:=World.ownsRow_lit (base:=g.B) (e:=e) (size:=k) w c' len r.hB nC n6
 refine .inl ⟨_,_,_,_,fw,.inl rfl,r'.eY (fv hd) (.own ?_)⟩
 refine⟨by show(δ.fN .row).ob _=_;rw[fY,if_pos rfl],by rw[qv];have:len≤len*k:=bP _ lO;omega,FW k len cells jq,fun b hb=>?_,c'.toList,by rw[qv];exact gC,fun u hu=>?_,fun i' j p mq=>?_⟩
 ·simp only[Value.ownBlock,Option.some.injEq] at hb
  subst hb
  show gT _ _ _ _=_
  simp [gT]
 ·obtain⟨j,hj⟩:=bz hu
  have fx:j<cells.length:=by have:=(aW.1 hj).1;have:=h3.1;simp at*;omega
  exact(h3.2 j u _ (by simpa using hj) (a8 fx)).2
 ·obtain⟨h5,_⟩:=BV k len cells hp i' j p mq
  have fx:i'*k+j<c'.size:=by rw[h3.1];exact(aW.1 h5).1
  refine⟨c'[i'*k+j],by simp [fx],?_⟩
  exact G.rp (h3.2 _ _ _ (aN fx) h5).1.lP
structure Src (C:Cx) (w:World) (v:Value) (k:Nat) (fc:List (List PV)):Prop where
 lim:fc.length≤140737488355328
 hk:∀c∈fc,c.length=k
 ex:∃a c,v=.slice a fc.length c∧(fc≠ []→∃(b off:Nat) (vs:Nat→Nat→Value),a=some ⟨b,off,none⟩∧∀i j p,cellAt fc i j=some p→w.cell? ⟨b,off+i*k+j,none⟩=some (vs i j)∧(vs i j).oneCell'=true∧RP C.N w (vs i j) p)
theorem RP.src {C:Cx} {w:World} {v:Value} {k:Nat} {fc:List (List PV)} (h:RP C.N w v (.slice k fc)):Src C w v k fc:=by
 cases h with
 |slice b off vs hl n_ hb ha hk hc hr=>subst hl;exact⟨hb,hk,_,_,rfl,fun he=>⟨b,off,vs,(ha he).1,fun i j p hp=>⟨(hc i j p hp).1,(hc i j p hp).2,hr i j p hp⟩⟩⟩
theorem jv.src {C:Cx} {w:World} {v:Value} {i e k fc} (h:jv C w v i e k fc):Src C w v k fc:=by
 obtain⟨hl,lG,hk,hb,xs,ho,h1,hx⟩:=h
 have f_:=ho
 rcases ho.2 with ⟨rfl,h0⟩|⟨b,cap,cur,rfl,h2,h3,h4⟩
 ·exact⟨lG,hk,none,0,by rw[h0],fun he=>absurd (bj h0) he⟩
 ·refine⟨lG,hk,_,_,rfl,fun _=>⟨b,0,fun i j=>(xs[i*k+j]?).getD undef,rfl,fun i j p hp=>?_⟩⟩
  obtain⟨u,hu,hr⟩:=hx i j p hp
  have fx:i*k+j<fc.length*k:=by have:=(aW.1 hu).1;rw[← ho.1];exact this
  simp only[hu,bm,ba]
  exact⟨(f_.cellAt _ fx).trans hu,h1 u (aU hu),hr⟩
theorem LP {C:Cx} {w:World} (k:Nat):Src C w (.slice none 0 0) k []:=⟨by simp,by simp,none,0,rfl,fun h=>absurd rfl h⟩
theorem Src.flat {C:Cx} {w:World} {v:Value} {k:Nat} {fc:List (List PV)} (h:Src C w v k fc) (nU:0<k):
  ∃(a:Option Addr) (c:Nat) (news:List Value),v=.slice a fc.length c∧news.length=fc.length*k∧(fc≠ []→∃ad,a=some ad∧∀j u,news[j]? =some u→w.cell? (ad.add j)=some u)∧(∀u∈news,u.oneCell'=true)∧
   ∀i j p,cellAt fc i j=some p→∃u,news[i*k+j]? =some u∧RP C.N w u p:=by
 obtain⟨lG,hk,a,c,rfl,hex⟩:=h
 by_cases he:fc=[]
 ·subst he
  exact⟨a,c,[],rfl,by simp,fun h=>absurd rfl h,by simp,fun i j p hp=>by simp [cellAt] at hp⟩
 ·obtain⟨b,off,vs,rfl,hv⟩:=hex he
  have mw:∀t,t<fc.length*k→∃p,cellAt fc (t / k) (t % k)=some p:=by
   intro t ht
   have h1:t / k<fc.length:=(Nat.div_lt_iff_lt_mul nU).2 ht
   have h2:t % k<(fc[t / k]).length:=by rw[hk _ (List.getElem_mem h1)];exact bO _ nU
   exact⟨(fc[t / k])[t % k],by simp [cellAt,a8 h1,a8 h2]⟩
  refine⟨_,c,(bc (fc.length*k)).map fun t=>vs (t / k) (t % k),rfl,by simp,fun _=>⟨_,rfl,fun j u hu=>?_⟩,fun u hu=>?_,fun i j p hp=>?_⟩
  ·simp only[a7,bg] at hu
   obtain⟨t,ht,rfl⟩:=hu
   rw[aW] at ht
   obtain⟨ht1,ht2⟩:=ht
   have:t=j:=by simpa using ht2.symm
   subst this
   obtain⟨p,hp⟩:=mw t (by simpa using ht1)
   rw[addr_add,← (hv _ _ p hp).1]
   congr 2
   have:=Nat.div_add_mod t k
   rw[bQ] at this
   omega
  ·simp only[bw,List.mem_range] at hu
   obtain⟨t,ht,rfl⟩:=hu
   obtain⟨p,hp⟩:=mw t ht
   exact(hv _ _ p hp).2.1
  ·have hj:j<k:=by
    unfold cellAt at hp
    cases h:fc[i]? with
    |none=>rw[h] at hp;simp at hp
    |some e0=>rw[h] at hp;simp at hp;rw[← hk e0 (aU h)];exact(aW.1 hp).1
   have hi:i<fc.length:=by
    unfold cellAt at hp
    cases h:fc[i]? with
    |none=>rw[h] at hp;simp at hp
    |some e0=>exact(aW.1 h).1
   have fx:i*k+j<fc.length*k:=by
    have:(i+1)*k≤fc.length*k:=bR k hi
    rw[bI,bJ] at this;omega
   refine⟨vs i j,?_,(hv i j p hp).2.2⟩
   rw[a7,bh fx]
   simp only[bq,Option.some.injEq]
   rw[bQ i k,Nat.mul_add_div nU,Nat.div_eq_of_lt hj,bS,bT hj,bd]
theorem jk {t ty e:TypeId} {i:TypeInfo} (ht:P.underlying t=some (.slice e)) (hi:P.info? e=some i) {B k:Nat} {v:Value} {n c:Nat} {xs:List Value} (gD:w.ownsRow B e k v n xs):
  (Builtin.append_ #[t,t] ty #[v,.slice none 0 c]).run P w=.ok v w:=by
 rcases gD.2 with ⟨rfl,rfl⟩|⟨g,cap,cur,rfl,_,_,yh,_⟩
 ·simp [Builtin.append_,run_underlying ht,sizeOf,typeInfo,hi,Builtin.lenOf,Builtin.firstCells]
 ·simp [Builtin.append_,run_underlying ht,sizeOf,typeInfo,hi,Builtin.lenOf,Builtin.firstCells,yh,storeCells]
theorem x5 {xs ys:List (List PV)} {i j:Nat} {p:PV} (h:cellAt (xs++ys) i j=some p):(i<xs.length∧cellAt xs i j=some p)∨(xs.length≤i∧cellAt ys (i - xs.length) j=some p):=by
 unfold cellAt at*
 by_cases hi:i<xs.length
 ·left;rw[aT hi] at h;exact⟨hi,h⟩
 ·right;rw[aV aJ] at h;exact⟨by omega,h⟩
theorem qi (r:Rel g δ κ a w) {i:Nat} {e t:TypeId} {k bytes:Nat} {fc news:List (List PV)} {v x z:Value} (ho:δ.ob i=some .row) (hv:jv (δ.cx g κ) w v i e k fc) (hx:Src (δ.cx g κ) w x k news)
  (ht:P.underlying t=some (.slice e)) (hi:(P.info? e).map (fun i=>(i.size,i.zero,i.bytes))=some (k,some z,bytes)) (mh:z.cells.size=k) (nU:0<k) (hb:(fc.length+news.length)*bytes≤140737488355328) (hl:fc.length+news.length≤140737488355328):
  ∃v' w' κ',(Builtin.append_ #[t,t] ty #[v,x]).run P w=.ok v' w'∧Rel g (δ.gF (AV.kill i)) κ' a w'∧jv ((δ.gF (AV.kill i)).cx g κ') w' v' i e k (fc++news):=by
 obtain⟨i0,jh,ln,mE,x4⟩:∃i0,P.info? e=some i0∧i0.size=k∧i0.zero=some z∧i0.bytes=bytes:=by
  cases h:P.info? e with
  |none=>rw[h] at hi;simp at hi
  |some i0=>rw[h] at hi;simp at hi;exact⟨i0,rfl,hi.1,hi.2.1,hi.2.2⟩
 obtain⟨nq,lG,hk,nD,xs,gD,h1,NY⟩:=hv
 obtain⟨xa,xc,Cl,rfl,nG,fZ,vk,O2⟩:=hx.flat nU
 have sL:fc.length+news.length≤maxLen:=by simp only[maxLen];omega
 have hB:g.B≤w.heap.size:=r.hB
 -- the run
 obtain⟨v',w',fw,oB,lg⟩:∃v' w',(Builtin.append_ #[t,t] ty #[v,.slice xa news.length xc]).run P w=.ok v' w'∧w'.ownsRow g.B e k v' (fc.length+news.length) (xs++Cl)∧w.grownBy w' v.ownBlock:=by
  by_cases qc:news=[]
  ·subst qc
   have zE:Cl=[]:=bj (by simpa using nG)
   subst zE
   cases xa with
   |none=>exact⟨v,w,jk ht jh gD,by simp only[bU,bd,bs];exact gD,⟨rfl,rfl,rfl,aP _,fun _ _ _=>rfl⟩⟩
   |some ad=>
    obtain⟨v',w',h2,h3,h4,_⟩:=run_append_own (P:=P) w g.B t ty e i0 z k bytes ht jh mE ln x4 mh nU v fc.length xs gD ad 0 xc [] (by simp) (by simp) (by simp) (by simpa using sL) (by simpa using hb) hB
    exact⟨v',w',h2,by simpa using h3,h4⟩
  ·obtain⟨ad,rfl,hc⟩:=fZ qc
   obtain⟨v',w',h2,h3,h4,_⟩:=run_append_own (P:=P) w g.B t ty e i0 z k bytes ht jh mE ln x4 mh nU v fc.length xs gD ad news.length xc Cl nG hc vk sL hb hB
   exact⟨v',w',h2,h3,h4⟩
 have A7:∀b,v.ownBlock=some b→κ i=some b:=nD
 have hT:iw w w' (κ i):=by
  cases js:v.ownBlock with
  |none=>rw[js] at lg;exact⟨lg.os,lg.tape,lg.output,lg.size,fun k' lO _=>lg.block k' lO (by simp)⟩
  |some b=>rw[js] at lg;rw[A7 b js];exact iw.grownBy lg
 -- the new block
 let κ':Kp:=gT κ i v'.ownBlock
 have N_:∀j,j≠i→κ' j=κ j:=fun j hj=>by show gT _ _ _ _=_;simp [gT,Ne.symm hj]
 have hκ'i:κ' i=v'.ownBlock:=by show gT _ _ _ _=_;simp [gT]
 have uj:∀b,κ' i=some b→(κ i=some b∨w.heap.size≤b)∧b<w'.heap.size∧∃c e,w'.heap[b]? =some (.cells c e (0,0)):=by
  intro b iU
  rw[hκ'i] at iU
  rcases oB.2 with ⟨rfl,_⟩|⟨b',cap,cur,rfl,h2,h3,_⟩
  ·simp [Value.ownBlock] at iU
  ·simp only[Value.ownBlock,Option.some.injEq] at iU
   subst iU
   refine⟨?_,(aO.1 h3).1,cur,e,h3⟩
   by_cases fx:w.heap.size≤b'
   ·exact .inr fx
   ·left
    -- an old block:it is the row's own
    have Kx:b'<w.heap.size:=by omega
    rcases gD.2 with ⟨rfl,h0⟩|⟨b0,cap0,cur0,rfl,h4,h5,h6⟩
    ·exfalso
     -- v nil:the run made a new block or gave nil back
     by_cases qc:news=[]
     ·subst qc
      have zE:Cl=[]:=bj (by simpa using nG)
      have ov:(Builtin.append_ #[t,t] ty #[.slice none 0 0,.slice xa 0 xc]).run P w=.ok (.slice none 0 0) w:=by
       cases xa with
       |none=>exact jk ht jh gD
       |some ad=>simp [Builtin.append_,run_underlying ht,sizeOf,typeInfo,jh,Builtin.lenOf,Builtin.firstCells,loadCells,loadCellsFrom]
      simp only[bU] at fw
      rw[ov] at fw
      simp at fw
     ·obtain⟨ad,rfl,hc⟩:=fZ qc
      have D4:0<news.length:=List.length_pos_iff.2 qc
      have ov:=run_append_nil (P:=P) w t ty e i0 z ht jh mE ad news.length xc Cl (by rw[ln];exact nG) hc D4 (by simp only[maxLen] at sL;omega) (by rw[x4];have:news.length*bytes≤(fc.length+news.length)*bytes:=bR _ aJ;omega)
      rw[ov] at fw
      simp only[Result.ok.injEq,Value.slice.injEq,Option.some.injEq,Addr.mk.injEq] at fw
      omega
    ·rw[A7 b0 rfl]
     by_cases vA:b'=b0
     ·rw[vA]
     ·exfalso
      -- the run gave back the old block or a new one
      by_cases ku:fc.length+news.length≤cap0
      ·by_cases qc:news=[]
       ·subst qc
        have zE:Cl=[]:=bj (by simpa using nG)
        cases xa with
        |none=>
         have ov:=jk (P:=P) (c:=xc) (ty:=ty) ht jh gD
         simp only[bU] at fw
         rw[ov] at fw
         simp only[Result.ok.injEq,Value.slice.injEq,Option.some.injEq,Addr.mk.injEq] at fw
         exact vA fw.1.1.1.symm
        |some ad=>
         have ov:=run_append_room (P:=P) w t ty e i0 ht jh b0 fc.length cap0 cur0 h5 ad 0 xc [] (by simp) (by simp) (by simp) aJ (by rw[ln];simp [h6.2.2.1];exact bR _ h6.1)
         simp only[bU] at fw
         rw[ov] at fw
         simp only[Result.ok.injEq,Value.slice.injEq,Option.some.injEq,Addr.mk.injEq] at fw
         exact vA fw.1.1.1.symm
       ·obtain⟨ad,rfl,hc⟩:=fZ qc
        have ov:=run_append_room (P:=P) w t ty e i0 ht jh b0 fc.length cap0 cur0 h5 ad news.length xc Cl (by rw[ln];exact nG) hc vk ku (by rw[ln,nG,h6.2.2.1,← bI];exact bR _ ku)
        rw[ov] at fw
        simp only[Result.ok.injEq,Value.slice.injEq,Option.some.injEq,Addr.mk.injEq] at fw
        exact vA fw.1.1.1.symm
      ·have qc:news≠ []:=by intro h;subst h;simp at ku;have:=h6.1;omega
       obtain⟨ad,rfl,hc⟩:=fZ qc
       have ov:=run_append_grow (P:=P) w t ty e i0 z ht jh mE ⟨b0,0,none⟩ fc.length cap0 xs (by rw[ln];exact gD.1) (gD.cells (g:=b0) rfl) ad news.length xc Cl (by rw[ln];exact nG) hc aJ (by simp only[maxLen] at sL;omega) (by rw[x4];exact growslice_fits aJ hb)
       rw[ov] at fw
       simp only[Result.ok.injEq,Value.slice.injEq,Option.some.injEq,Addr.mk.injEq] at fw
       omega
 obtain⟨r',G⟩:=r.row ho N_ hT uj (AV.kill i) rfl (fun G v av h=>h.kill G)
 refine⟨v',w',κ',fw,r',?_⟩
 refine⟨?_,by rw[bV];exact hl,fun c hc=>(bW.1 hc).elim (hk c) (hx.hk c),fun b iU=>hκ'i.trans iU,xs++Cl,by rw[bV];exact oB,fun u hu=>(bW.1 hu).elim (h1 u) (vk u),fun i' j p hp=>?_⟩
 ·show(δ.gF _).ob i=_
  rw[kb,ho];rfl
 ·rcases x5 hp with ⟨fx,h2⟩|⟨hle,h2⟩
  ·obtain⟨u,h3,h4⟩:=NY i' j p h2
   refine⟨u,?_,G.rp (C:=(δ.cx g κ).less i) h4⟩
   rw[aT (aW.1 h3).1];exact h3
  ·obtain⟨u,h3,h4⟩:=O2 (i' - fc.length) j p h2
   refine⟨u,?_,G.rp (C:=(δ.cx g κ).less i) h4⟩
   have uP:xs.length=fc.length*k:=gD.1
   have he:i'*k+j=xs.length+((i' - fc.length)*k+j):=by
    rw[uP,← bF,← bI]
    congr 2
    omega
   rw[he,aV aJ,Nat.add_sub_cancel_left]
   exact h3
end Go.Ab
/- Append,make,cut and store as operations. -/
namespace Go.Ab
open Go Go.RowKit
variable {q:Md} {P:Program} {g:e6} {δ:DS} {κ:Kp} {a:Act} {w:World}
variable {gd:Option (Tmp×Bool)} {ops:Array Oper} {rest:List Oper} {Q:Exit→DS→Prop} {dst:Option Nat} {ty:TypeId} {pos:String} {af:Array Edge}
theorem nX {gd:Option (Tmp×Bool)} {s x:Operand} {t:TypeId} {ρ:Operand→Value} {v:Value} {w':World} (h:(Builtin.append_ #[t,t] ty #[ρ s,ρ x]).run P w=.ok v w'):
  (execOp ρ ⟨dst,.call {callee:=.builtin .append,args:= #[s,x],argTypes:= #[t,t]},ty,pos,af,gd⟩).run P w=.ok (.value v) w':=by
 simp only[execOp,resolve,invoke,builtin,Sem.run_bind,Sem.run_pure,Result.andThen_ok,bn,bA,List.map_nil,h]
inductive qM (δ:DS) (x:Operand) (k:Nat):List (List PV)→Prop
 |pv {fc:List (List PV)} (h:δ.ev x=.pv (.slice k fc)):qM δ x k fc
 |own {j:Nat} {e:TypeId} {fc:List (List PV)} (h:δ.ev x=.own j e k fc):qM δ x k fc
 |nil (h:δ.ev x=.pv (.lit (.slice none 0 0))):qM δ x k []
theorem qM.src {x:Operand} {k:Nat} {fc:List (List PV)} (h:qM δ x k fc) (r:Rel g δ κ a w) (ho:fq x=true):Src (δ.cx g κ) w (a.eval x) k fc:=by
 cases h with
 |pv h=>exact(r.ra h ho).lP.src
 |own h=>exact(r.ra h ho).iH.src
 |nil h=>rw[r.lit h ho];exact LP k
theorem iQ.append {s x:Operand} {t e:TypeId} {i k bytes:Nat} {z:Value} {fc news:List (List PV)} (hs:δ.ev s=.own i e k fc) (hx:qM δ x k news) (hr:δ.ob i=some .row) (ht:P.underlying t=some (.slice e))
  (hi:(P.info? e).map (fun i=>(i.size,i.zero,i.bytes))=some (k,some z,bytes)) (mh:aL z.cells.size k=true) (nU:aY 0 k=true) (ho:fq s=true) (f_:fq x=true) (hd:fR δ.n dst=true)
  (hb:(fc.length+news.length)*bytes≤140737488355328) (hl:fc.length+news.length≤140737488355328):
  iQ P g ⟨dst,.call {callee:=.builtin .append,args:= #[s,x],argTypes:= #[t,t]},ty,pos,af,gd⟩ δ ((δ.gF (AV.kill i)).eY dst (.own i e k (fc++news))):=by
 intro κ a w r
 obtain⟨v',w',κ',h1,h2,h3⟩:=qi (ty:=ty) r hr (r.ra hs ho).iH (hx.src r f_) ht hi (aM mh) (by simpa using nU) hb hl
 exact .inl ⟨_,_,_,_,nX h1,.inl rfl,h2.eY (fv hd) (.own h3)⟩
theorem a_.append {s x:Operand} {t e:TypeId} {i k bytes:Nat} {z:Value} {fc news:List (List PV)} (hs:δ.ev s=.own i e k fc) (hx:qM δ x k news) (hr:δ.ob i=some .row) (ht:P.underlying t=some (.slice e))
  (hi:(P.info? e).map (fun i=>(i.size,i.zero,i.bytes))=some (k,some z,bytes)) (mh:aL z.cells.size k=true) (nU:aY 0 k=true) (ho:fq s=true) (f_:fq x=true) (hd:fR δ.n dst=true)
  (hb:(fc.length+news.length)*bytes≤140737488355328) (hl:fc.length+news.length≤140737488355328)
  (hK:a_ .plain P g ops rest Q ((δ.gF (AV.kill i)).eY dst (.own i e k (fc++news)))):a_ .plain P g ops (⟨dst,.call {callee:=.builtin .append,args:= #[s,x],argTypes:= #[t,t]},ty,pos,af,none⟩::rest) Q δ:=
 a_.qA rfl rfl (iQ.append hs hx hr ht hi mh nU ho f_ hd hb hl) hK
theorem RA.z7 {C:Cx} {i:Nat} (hl:¬C.Lr i) {v:Value} {av:AV} (h:RA C w v av):av.kill i=av:=by
 have hL:∀{vs:Array Value} {cs:List AV},vs.size=cs.length→(∀(j:Nat) (u:Value) (c:AV),vs[j]? =some u→cs[j]? =some c→c.kill i=c)→cs.map (AV.mp (qT i))=cs:=by
  intro vs cs hs h
  apply bX
  intro j
  rw[a7]
  cases hj:cs[j]? with
  |none=>rfl
  |some c=>
   have fx:j<vs.size:=by rw[hs];exact(aW.1 hj).1
   exact congrArg some (h j _ c (aN fx) hj)
 induction h with
 |any v=>rfl
 |pv h=>rfl
 | @own v j e k fc h=>
  have:i≠j:=by intro e;subst e;exact hl h.live
  show AV.mp (qT i) _=_
  simp only[AV.mp,qT,mo this];rfl
 |ptr hl hκ=>rfl
 |gp=>rfl
 | @gN j e k fc n b cap hn h=>
  have:i≠j:=by intro e;subst e;exact hl h.live
  show AV.mp (qT i) _=_
  simp only[AV.mp,qT,mo this];rfl
 |agg hs h ih=>show AV.mp _ _=_;simp only[AV.mp,AV.jG];rw[hL hs ih]
 |gM hs h ih=>show AV.mp _ _=_;simp only[AV.mp,AV.jG];rw[hL hs ih]
 |jJ hs h ht h' ih ih'=>show AV.mp _ _=_;simp only[AV.mp,AV.jG];rw[hL hs ih,hL ht ih']
 |gz=>rfl
 |kZ=>rfl
theorem Rel.SV {f:AV→AV} (XA:f .any=.any) (r:Rel g (δ.gF f) κ a w) (he:∀j,f (δ.get j)=δ.get j) (ho:∀i o,δ.ob i=some o→o.wR f=o):Rel g δ κ a w∧∀C:Cx,C=(δ.gF f).cx g κ→C=δ.cx g κ:=by
 have js:∀i,(δ.gF f).ob i=δ.ob i:=by
  intro i
  rw[kb]
  cases h:δ.ob i with
  |none=>rfl
  |some o=>simp [ho i o h]
 have C8:(δ.gF f).cx g κ=δ.cx g κ:=by
  have h1:(δ.gF f).live=δ.live:=funext fun i=>by unfold DS.live;rw[js]
  have h2:(δ.gF f).lr=δ.lr:=funext fun i=>by unfold DS.lr;rw[js]
  have h3:(δ.gF f).lb=δ.lb:=funext fun i=>by unfold DS.lb;rw[js]
  unfold DS.cx
  rw[h1,h2,h3]
 have fS:∀i,(δ.gF f).live i↔δ.live i:=fun i=>by unfold DS.live;rw[js]
 refine⟨?_,fun C h=>h.trans C8⟩
 exact
  {n:=r.n,dfr:=r.dfr
   env:=fun j=>by have:=r.env j;rw[qd f XA,he j,C8] at this;exact this
   obj:=fun i o h=>by have:=r.obj i o (by rw[js];exact h);rw[C8] at this;exact this
   inj:=fun i j b h1 h2=>r.inj i j b ((fS i).2 h1) ((fS j).2 h2)
   lo:=fun i b h1=>r.lo i b ((fS i).2 h1)
   nx:=fun i h=>r.nx i ((fS i).2 h)
   wt:=fun k hk=>⟨(r.wt k hk).1,fun i b h1 h2=>(r.wt k hk).2 i b ((fS i).2 h1) (h2.imp (fun h=>(js i).trans h) id)⟩
   below:=r.below,hB:=r.hB,N0:=r.N0,km:=r.km,fr:=r.fr.sub fun i b h1 h2=>⟨i,(fS i).2 h1,h2⟩}
theorem iQ.append_nil {s x:Operand} {t e:TypeId} {k bytes:Nat} {z:Value} {news:List (List PV)} (hs:δ.ev s=.pv (.lit (.slice none 0 0))) (hx:qM δ x k news) (ht:P.underlying t=some (.slice e))
  (hi:(P.info? e).map (fun i=>(i.size,i.zero,i.bytes))=some (k,some z,bytes)) (mh:aL z.cells.size k=true) (nU:aY 0 k=true) (ho:fq s=true) (f_:fq x=true) (hd:fR δ.n dst=true)
  (hb:news.length*bytes≤140737488355328) (hl:news.length≤140737488355328):
  iQ P g ⟨dst,.call {callee:=.builtin .append,args:= #[s,x],argTypes:= #[t,t]},ty,pos,af,gd⟩ δ ((δ.fN .row).eY dst (.own δ.nx e k news)):=by
 intro κ a w r
 obtain⟨r1,G1⟩:=r.yO
 have nq:(δ.fN .row).lr δ.nx:=by show(δ.fN .row).ob _=_;rw[fY,if_pos rfl]
 have hv:jv ((δ.fN .row).cx g (gT κ δ.nx none)) w (a.eval s) δ.nx e k []:=by
  rw[r.lit hs ho]
  exact⟨nq,by simp,by simp,fun b hb=>by simp [Value.ownBlock] at hb,[],World.ownsRow_nil _ _ _ _,by simp,fun i' j p hp=>by simp [cellAt] at hp⟩
 have QF:Src ((δ.fN .row).cx g (gT κ δ.nx none)) w (a.eval x) k news:=by
  obtain⟨h1,h2,a0,c,h3,h4⟩:=hx.src r f_
  refine⟨h1,h2,a0,c,h3,fun he=>?_⟩
  obtain⟨b,off,vs,h5,h6⟩:=h4 he
  exact⟨b,off,vs,h5,fun i j p hp=>⟨(h6 i j p hp).1,(h6 i j p hp).2.1,G1.rp (h6 i j p hp).2.2⟩⟩
 obtain⟨v',w',κ',h1,h2,h3⟩:=qi (ty:=ty) r1 nq hv QF ht hi (aM mh) (by simpa using nU) (by simpa using hb) (by simpa using hl)
 have nG:¬(δ.cx g κ).Lr δ.nx:=fun h=>aX _ (r.nx _ (DS.gI h))
 obtain⟨r2,C8⟩:=h2.SV rfl (fun j=>(r.env j).z7 nG) (fun i o h=>by
  rw[fY] at h
  by_cases e:δ.nx=i
  ·rw[if_pos e] at h;cases h;rfl
  ·rw[if_neg e] at h
   have h0:=r.obj i o h
   cases o with
   |row=>rfl
   |box cs=>
    obtain⟨b,c,e,h1,h2,h3,h4⟩:=h0
    simp only[Ob.wR,Ob.box.injEq]
    apply bX
    intro j
    rw[a7]
    cases hj:cs[j]? with
    |none=>rfl
    |some c'=>
     have fx:j<c.size:=by rw[h3];exact(aW.1 hj).1
     exact congrArg some ((h4 j _ c' (aN fx) hj).1.z7 nG)
   |loop l tm ps jf body st=>rfl
   |lit T vals=>rfl
   |ff e rows=>rfl
   |mp l=>rfl
   |mpl l kk v=>
    obtain⟨b,es,clock,h1,h2,h3,h4⟩:=h0
    simp only[Ob.wR,Ob.mpl.injEq,true_and]
    have ny:l.length<es.size:=by have:=h3.1;simp at this;omega
    exact((h3.2 l.length _ (kk,v) (aN ny) (by simp)).2.z7 nG)
   |it l seen=>rfl)
 rw[C8 _ rfl] at h3
 exact .inl ⟨_,_,_,_,nX h1,.inl rfl,r2.eY (fv hd) (.own (by simpa using h3))⟩
theorem a_.append_nil {s x:Operand} {t e:TypeId} {k bytes:Nat} {z:Value} {news:List (List PV)} (hs:δ.ev s=.pv (.lit (.slice none 0 0))) (hx:qM δ x k news) (ht:P.underlying t=some (.slice e))
  (hi:(P.info? e).map (fun i=>(i.size,i.zero,i.bytes))=some (k,some z,bytes)) (mh:aL z.cells.size k=true) (nU:aY 0 k=true) (ho:fq s=true) (f_:fq x=true) (hd:fR δ.n dst=true)
  (hb:news.length*bytes≤140737488355328) (hl:news.length≤140737488355328)
  (hK:a_ .plain P g ops rest Q ((δ.fN .row).eY dst (.own δ.nx e k news))):a_ .plain P g ops (⟨dst,.call {callee:=.builtin .append,args:= #[s,x],argTypes:= #[t,t]},ty,pos,af,none⟩::rest) Q δ:=
 a_.qA rfl rfl (iQ.append_nil hs hx ht hi mh nU ho f_ hd hb hl) hK
theorem iQ.make {t e:TypeId} {x y:Operand} {kx ky:IntKind} {k bytes n:Nat} {z:Value} {c0:List PV} (hx:δ.ev x=.pv (.lit (.int kx (n:Int)))) (hy:δ.ev y=.pv (.lit (.int ky (n:Int)))) (ht:P.underlying t=some (.slice e))
  (hi:(P.info? e).map (fun i=>(i.size,i.zero,i.bytes))=some (k,some z,bytes)) (De:z.cells.toList.map PV.lit=c0) (mh:aL z.cells.size k=true) (nU:aY 0 k=true) (h1:z.cells.toList.all (·.oneCell')=true)
  (ho:fq x=true) (f_:fq y=true) (hd:fR δ.n dst=true) (hb:bytes*n≤281474976710656) (hl:n≤140737488355328):
  iQ P g ⟨dst,.makeSlice t x y,ty,pos,af,gd⟩ δ ((δ.fN .row).eY dst (.own δ.nx e k (bY n c0))):=by
 intro κ a w r
 have lO:0<k:=by simpa using nU
 have Ii:z.cells.size=k:=aM mh
 obtain⟨i0,jh,ln,mE,x4⟩:∃i0,P.info? e=some i0∧i0.size=k∧i0.zero=some z∧i0.bytes=bytes:=by
  cases h:P.info? e with
  |none=>rw[h] at hi;simp at hi
  |some i0=>rw[h] at hi;simp at hi;exact⟨i0,rfl,hi.1,hi.2.1,hi.2.2⟩
 have vA:(i0.bytes:Int)*(n:Int)≤281474976710656:=by
  rw[x4]
  have:((bytes*n:Nat):Int)≤281474976710656:=by omega
  rwa [Int.natCast_mul] at this
 have fw:=run_make (P:=P) w t e i0 z ht jh mE kx ky (n:Int) (n:Int) aJ (Int.le_refl _) vA (by omega)
 simp only[Int.toNat_natCast,ln] at fw
 have Cf:(execOp a.eval ⟨dst,.makeSlice t x y,ty,pos,af,gd⟩).run P w=.ok (.value (.slice (some ⟨w.heap.size,0,none⟩) n n)) (w.alloc (.cells (madeCells z.cells (n*k)) e)):=by
  simp only[execOp,r.lit hx ho,r.lit hy f_,Sem.run_bind,fw,Result.andThen_ok,Sem.run_pure]
 obtain⟨r',G⟩:=r.grow .row (.cells (madeCells z.cells (n*k)) e) (fun C G hκ b hb=>by
  have:w.heap.size=b:=Option.some.inj (hκ.symm.trans hb)
  subst this
  exact⟨_,e,heap_alloc_new w _⟩)
 have gC:=World.ownsRow_lit (base:=g.B) (e:=e) (size:=k) w (madeCells z.cells (n*k)) n r.hB (by simp only[maxLen];omega) (size_madeCells _ _)
 have Og:∀t,t<n*k→∃hm:t % k<z.cells.size,(madeCells z.cells (n*k)).toList[t]? =some (z.cells[t % k]):=by
  intro t ht
  have hm:t % k<z.cells.size:=by rw[Ii];exact bO _ lO
  refine⟨hm,?_⟩
  simp only[madeCells,bB,bM,bN,ht,if_true,bq,Option.some.injEq]
  rw[Ii,getElem!_pos z.cells _ hm]
 refine .inl ⟨_,_,_,_,Cf,.inl rfl,r'.eY (fv hd) (.own ?_)⟩
 refine⟨by show(δ.fN .row).ob _=_;rw[fY,if_pos rfl],by simpa using hl,fun c hc=>?_,fun b hb=>?_,_,by rw[List.length_replicate];exact gC,fun u hu=>?_,fun i' j p mq=>?_⟩
 ·rw[List.mem_replicate] at hc;rw[hc.2,← De];simp [Ii]
 ·simp only[Value.ownBlock,Option.some.injEq] at hb
  subst hb
  show gT _ _ _ _=_
  simp [gT]
 ·obtain⟨t,ht⟩:=bz hu
  have fx:t<n*k:=by have:=(aW.1 ht).1;simpa [size_madeCells] using this
  obtain⟨hm,h2⟩:=Og t fx
  rw[h2] at ht
  cases ht
  exact(bC.1 h1) _ (by simp)
 ·unfold cellAt at mq
  rw[List.getElem?_replicate] at mq
  split at mq
  ·rename_i kq
   simp only[bH] at mq
   rw[← De,a7,bg] at mq
   obtain⟨u,hu,rfl⟩:=mq
   have hj:j<k:=by have:=(aW.1 hu).1;rw[← Ii];simpa using this
   have fx:i'*k+j<n*k:=by
    have:(i'+1)*k≤n*k:=bR k kq
    rw[bI,bJ] at this;omega
   obtain⟨hm,h2⟩:=Og _ fx
   refine⟨u,?_,.lit _⟩
   rw[h2]
   have:(i'*k+j) % k=j:=by rw[bQ,bS,bT hj]
   simp only[this]
   rw[bB] at hu
   exact(aN aJ).symm.trans hu
  ·simp at mq
theorem a_.make {t e:TypeId} {x y:Operand} {kx ky:IntKind} {k bytes n:Nat} {z:Value} {c0:List PV} (hx:δ.ev x=.pv (.lit (.int kx (n:Int)))) (hy:δ.ev y=.pv (.lit (.int ky (n:Int)))) (ht:P.underlying t=some (.slice e))
  (hi:(P.info? e).map (fun i=>(i.size,i.zero,i.bytes))=some (k,some z,bytes)) (De:z.cells.toList.map PV.lit=c0) (mh:aL z.cells.size k=true) (nU:aY 0 k=true) (h1:z.cells.toList.all (·.oneCell')=true)
  (ho:fq x=true) (f_:fq y=true) (hd:fR δ.n dst=true) (hb:bytes*n≤281474976710656) (hl:n≤140737488355328)
  (hK:a_ .plain P g ops rest Q ((δ.fN .row).eY dst (.own δ.nx e k (bY n c0)))):a_ .plain P g ops (⟨dst,.makeSlice t x y,ty,pos,af,none⟩::rest) Q δ:=
 a_.qA rfl rfl (iQ.make hx hy ht hi De mh nU h1 ho f_ hd hb hl) hK
theorem a_.slice {t e:TypeId} {x:Operand} {lo hi:Option Operand} {k l h:Nat} {fc:List (List PV)} (hx:δ.ev x=.pv (.slice k fc)) (ht:P.underlying t=some (.slice e)) (hk:(P.info? e).map (·.size)=some k)
  (sc:match lo with|some y=>fq y=true∧δ.ev y=e7 (l:Nat)|none=>l=0) (Ri:match hi with|some y=>fq y=true∧δ.ev y=e7 (h:Nat)|none=>h=fc.length) (hlh:l≤h) (hh:h≤fc.length)
  (ho:fq x=true) (hd:fR δ.n dst=true) (hK:a_ q P g ops rest Q (δ.eY dst (.pv (.slice k ((fc.drop l).take (h - l)))))):a_ q P g ops (⟨dst,.slice t x lo hi none,ty,pos,af,none⟩::rest) Q δ:=
 a_.iR _ hd (fun κ a w r=>by
  have h1:=(r.ra hx ho).lP
  generalize hv:a.eval x=v at h1
  obtain⟨i0,jh,nU⟩:∃i0,P.info? e=some i0∧i0.size=k:=by
   cases h:P.info? e with
   |none=>rw[h] at hk;simp at hk
   |some i0=>rw[h] at hk;exact⟨i0,rfl,by simpa using hk⟩
  cases h1 with
  | @slice a0 len cap _ _ b off vs hl n_ hb ha FE hc hr=>
   have Wa:lo.map a.eval=lo.map fun _=>Value.int .i64 l:=by
    cases lo with
    |none=>rfl
    |some y=>simp only[bq,Option.some.injEq];exact r.lit sc.2 sc.1
   have WX:hi.map a.eval=hi.map fun _=>Value.int .i64 h:=by
    cases hi with
    |none=>rfl
    |some y=>simp only[bq,Option.some.injEq];exact r.lit Ri.2 Ri.1
   have Fu:∀w,(Instr.sliceBounds true len cap (lo.map a.eval) (hi.map a.eval) none).run P w=.ok (l,h,cap) w:=by
    intro w
    rw[Wa,WX]
    have e1:(0:Int)≤(h:Int)∧(h:Int)≤(cap:Int):=by omega
    have e2:(0:Int)≤(l:Int)∧(l:Int)≤(h:Int):=by omega
    cases lo with
    |none=>
     simp only at sc
     subst sc
     cases hi with
     |none=>simp only at Ri;subst Ri;subst hl;simp [Instr.sliceBounds]
     |some y=>
      simp [Instr.sliceBounds,Instr.sliceBound,asIntOf,e1]
      intro h0;exfalso;omega
    |some y0=>
     cases hi with
     |none=>simp only at Ri;subst Ri;subst hl;simp [Instr.sliceBounds,Instr.sliceBound,asIntOf];omega
     |some y=>
      have n1:¬cap<h:=by omega
      have n2:¬h<l:=by omega
      simp [Instr.sliceBounds,Instr.sliceBound,asIntOf,n1,n2,show h≤cap by omega,show l≤h by omega]
   have fw:∀w,(execOp a.eval ⟨dst,.slice t x lo hi none,ty,pos,af,none⟩).run P w=.ok (.value (.slice (if cap=l then a0 else a0.map (·.add (l*k))) (h - l) (cap - l))) w:=by
    intro w
    simp only[execOp,Instr.sliceAt,Instr.slice,run_underlying ht,hv,Sem.run_bind,Result.andThen_ok,Option.map_none,Fu,sizeOf,typeInfo,Sem.run_pure]
    simp [jh,nU]
   refine⟨_,fun w' _=>fw w',.pv ?_⟩
   have kz:((fc.drop l).take (h - l)).length=h - l:=by simp;omega
   have mw:∀i j,cellAt ((fc.drop l).take (h - l)) i j=(if i<h - l then cellAt fc (l+i) j else none):=by
    intro i j
    unfold cellAt
    rw[bD]
    split
    ·rw[bE]
    ·rfl
   refine .slice b (off+l*k) (fun i j=>vs (l+i) j) kz aJ aJ (fun fZ=>?_) (fun c hc=>FE c (bK (List.mem_of_mem_take hc))) (fun i j p hp=>?_) (fun i j p hp=>?_)
   ·have X0:fc≠ []:=by intro e;subst e;simp at fZ
    obtain⟨h3,h4,h5⟩:=ha X0
    have:¬cap=l:=by intro e;apply fZ;apply bj;rw[kz];omega
    rw[if_neg this,h3]
    exact⟨by simp [addr_add],h4,h5⟩
   ·rw[mw] at hp
    split at hp
    ·have h6:=hc (l+i) j p hp
     have e0:off+l*k+i*k+j=off+(l+i)*k+j:=by rw[bI];omega
     rw[e0];exact h6
    ·cases hp
   ·rw[mw] at hp
    split at hp
    ·exact hr (l+i) j p hp
    ·cases hp) hK
end Go.Ab
