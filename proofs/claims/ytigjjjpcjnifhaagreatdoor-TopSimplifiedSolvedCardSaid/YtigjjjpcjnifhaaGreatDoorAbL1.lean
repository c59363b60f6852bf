/- A small logic of abstract states over the model's weakest preconditions: what a function's slots, variables and rows hold, told without addresses. -/
import Derived.WalkKit
import Derived.Below
import Derived.Deep.Quiet
import Derived.OrdersHeld
import Derived.Laws.OwnMore
import Derived.RangeFuncIn
import Derived.RangeFuncRecord
import Derived.RangeFuncLeaves
import Derived.RangeFuncCalls
import Derived.TacticsIn
set_option linter.unusedSimpArgs false
set_option linter.unusedVariables false
open Nat renaming lt_of_lt_of_le→aK,beq→aL,eq_of_beq_eq_true→aM,le_refl→aP,le_trans→aQ,lt_irrefl→aX,blt→aY,zero_add→ba,add_zero→bd,zero_le→bm,ble→bz,add_assoc→bG,add_mul→bJ,one_mul→bK,mod_lt→bP,le_mul_of_pos_right→bQ,mul_comm→bR,mul_le_mul_right→bS,mul_add_mod→bT,mod_eq_of_lt→bU
open Array renaming getElem?_eq_getElem→aN,getElem?_eq_some_iff→aO,getD_eq_getD_getElem?→aR,getElem?_setIfInBounds→aS,ext→bq,mapM_eq_foldlM→bs,getElem?_toList→bC,range→bM,getElem?_map→bN,getElem?_range→bO
open List renaming getElem?_append_left→aT,mem_of_getElem?→aU,getElem?_append_right→aV,getElem?_eq_some_iff→aW,length_map→a6,getElem?_map→a7,getElem?_eq_getElem→a8,range→bc,getElem?_toArray→bf,getElem?_range→bh,eq_nil_of_length_eq_zero→bj,map_toArray→bp,append_nil→bt,cons_append→bu,mem_cons→bw,mem_map→bx,getElem?_of_mem→bA,map_cons→bB,all_eq_true→bD,getElem?_take→bE,getElem?_drop→bF,getElem?_set→bH,mem_of_mem_drop→bL,length_nil→bV,length_append→bW,mem_append→bX,ext_getElem?→bY,replicate→bZ
open Bool renaming and_eq_true→aZ
open Option renaming map_eq_some_iff→bg,getD_some→bn,map_some→br,bind_some→bI
namespace Go.Ab
open Go Go.RowKit
theorem aJ {A:Prop} (h:A:=by omega):A:=h
inductive PV where
 |any
 |lit (v:Value)
 |slice (k:Nat) (e7:List (List PV))
 |mp (l:List (Value×PV))
 |clip (k:Nat) (e7:List (List PV))
def pX (es:Array MapEntry) (clock:Nat):Prop:=clock=es.size∧∀(j:Nat) (e:MapEntry),es[j]? =some e→e.born=j
def cellAt (e7:List (List PV)) (i j:Nat):Option PV:=(e7[i]?).bind (·[j]?)
def lim:Nat:=140737488355328
inductive RP (N:Nat→Prop) (w:World):Value→PV→Prop
 |any (v:Value):RP N w v .any
 |lit (v:Value):RP N w v (.lit v)
 |slice {a:Option Addr} {len cap k:Nat} {e7:List (List PV)} (b off:Nat) (vs:Nat→Nat→Value) (hl:e7.length=len) (mM:len≤cap) (hb:len≤140737488355328)
   (ha:e7≠ []→a=some ⟨b,off,none⟩∧N b∧b<w.heap.size) (hk:∀c∈e7,c.length=k)
   (hc:∀i j p,cellAt e7 i j=some p→w.cell? ⟨b,off+i*k+j,none⟩=some (vs i j)∧(vs i j).oneCell'=true)
   (hr:∀i j p,cellAt e7 i j=some p→RP N w (vs i j) p):RP N w (.slice a len cap) (.slice k e7)
 |mp {l:List (Value×PV)} (b clock:Nat) (es:Array MapEntry) (hN:N b) (hb:b<w.heap.size) (hh:w.heap[b]? =some (.map es clock)) (hs:es.size=l.length) (jn:pX es clock)
   (hk:∀(j:Nat) (e:MapEntry) (p:Value×PV),es[j]? =some e→l[j]? =some p→e.key=p.1)
   (hr:∀(j:Nat) (e:MapEntry) (p:Value×PV),es[j]? =some e→l[j]? =some p→RP N w e.val p.2):RP N w (.map (some b)) (.mp l)
 /-- a slice whose capacity is its length -/
 |clip {a:Option Addr} {len k:Nat} {e7:List (List PV)} (h:RP N w (.slice a len len) (.slice k e7)):RP N w (.slice a len len) (.clip k e7)
theorem FV {e7:List (List PV)} {i j:Nat} {p:PV} (h:cellAt e7 i j=some p):e7≠ []:=by
 intro e;subst e;simp [cellAt] at h
theorem RP.mono {N N':Nat→Prop} {w w':World} {v:Value} {p:PV} (h:RP N w v p) (hs:w.heap.size≤w'.heap.size)
  (hN:∀b,b<w.heap.size→N b→N' b∧w'.heap[b]? =w.heap[b]?):RP N' w' v p:=by
 induction h with
 |any v=>exact .any v
 |lit v=>exact .lit v
 |slice b off vs hl mM hb ha hk hc hr ih=>
  refine .slice b off vs hl mM hb (fun he=>?_) hk (fun i j p hp=>?_) ih
  ·obtain⟨h1,h2,h3⟩:=ha he
   exact⟨h1,(hN b h3 h2).1,aK h3 hs⟩
  ·obtain⟨h1,h2,h3⟩:=ha (FV hp)
   exact⟨(World.cell?_of_block (w:=w) (a:=⟨b,off+i*_+j,none⟩) (hN b h3 h2).2).trans (hc i j p hp).1,(hc i j p hp).2⟩
 |mp b clock es GL hb hh Tw jn hk hr ih=>exact .mp b clock es (hN b hb GL).1 (aK hb hs) ((hN b hb GL).2.trans hh) Tw jn hk ih
 |clip h ih=>exact .clip ih
inductive AV where
 |any
 |pv (p:PV)
 |own (i:Nat) (e:TypeId) (k:Nat) (e7:List (List PV))
 |ptr (i:Nat) (off:Nat)
 |fV (cells:List PV)
 |gJ (i:Nat) (e:TypeId) (k:Nat) (e7:List (List PV)) (idx:Nat)
 |agg (cs:List AV)
 |gX (vs:List AV)
 |jk (fn:Fn) (first:List AV) (cap:List AV)
 |gq (i:Nat)
 |kO (i:Nat)
structure eR where
 B:Nat
 w0:World
 N0:Nat→Prop
 held:Nat→Value
 ro:Option Nat
 mks:List Nat
 wt:Option (World×(Nat→Prop)×Nat)
 fr:Nat→Prop
 w1:World
 /-- calls deferred by the frame itself. -/
 base:List Deferred:=[]
inductive uL where
 |ready
 |busy
 |done (c:Code)
 |over
inductive Ob where
 |row
 |box (cells:List AV)
 |mp (es:List (Value×AV))
 |mpl (es:List (Value×AV)) (k:Value) (v:AV)
 |it (l:List (Value×PV)) (seen:List Nat)
 |loop (l:Nat) (tm:Array Value) (ps:Array Tmp) (iK body:Code) (st:uL)
 |lit (T:TypeId) (vals:Array Value)
 |e8 (e:TypeId) (rows:Nat→Value×List Value)
structure DS where
 n:Nat
 env:List (Nat×AV)
 gm:List (Nat×Option Ob)
 nx:Nat
def look (e:List (Nat×AV)) (j:Nat):AV:=
 match e with
 |[]=> .any
 |(i,v)::r=>bif aL i j then v else look r j
def fb (e:List (Nat×Option Ob)) (j:Nat):Option Ob:=
 match e with
 |[]=>none
 |(i,v)::r=>bif aL i j then v else fb r j
def DS.get (δ:DS) (j:Nat):AV:=look δ.env j
def DS.ob (δ:DS) (i:Nat):Option Ob:=fb δ.gm i
def DS.put (δ:DS) (d:Nat) (v:AV):DS:={δ with env:=(d,v)::δ.env}
def DS.eS (δ:DS) (d:Option Nat) (v:AV):DS:=match d with|some d=>δ.put d v|none=>δ
def DS.ga (δ:DS) (i:Nat) (o:Option Ob):DS:={δ with gm:=(i,o)::δ.gm}
def DS.fK (δ:DS) (o:Ob):DS:={δ with gm:=(δ.nx,some o)::δ.gm,nx:=δ.nx+1}
def DS.ev (δ:DS):Operand→AV
 |.tmp t=>δ.get t
 |.const v=> .pv (.lit v)
 |.global _=> .any
 |.func f=> .jk (.func f) [] []
theorem fC (i:Nat) (v:AV) (e:List (Nat×AV)) (j:Nat):look ((i,v)::e) j=if i=j then v else look e j:=by
 by_cases h:i=j
 ·subst h;simp [look]
 ·have hb:aL i j=false:=by cases hh:aL i j with|false=>rfl|true=>exact absurd (aM hh) h
  rw[if_neg h]
  show(bif aL i j then v else look e j)=_
  rw[hb];rfl
theorem fA (i:Nat) (v:Option Ob) (e:List (Nat×Option Ob)) (j:Nat):fb ((i,v)::e) j=if i=j then v else fb e j:=by
 by_cases h:i=j
 ·subst h;simp [fb]
 ·have hb:aL i j=false:=by cases hh:aL i j with|false=>rfl|true=>exact absurd (aM hh) h
  rw[if_neg h]
  show(bif aL i j then v else fb e j)=_
  rw[hb];rfl
structure Kp where
 f:Nat→Option Nat
 F:Nat→Nat→Prop
instance:CoeFun Kp fun _=>Nat→Option Nat:=⟨Kp.f⟩
def Kp.Fs (κ:Kp) (b:Nat):Prop:=∃i,κ.F i b
structure Cx where
 B:Nat
 κ:Kp
 N:Nat→Prop
 Lr:Nat→Prop
 Lb:Nat→Prop
structure jy (C:Cx) (w:World) (v:Value) (i:Nat) (e:TypeId) (k:Nat) (e7:List (List PV)):Prop where
 live:C.Lr i
 lim:e7.length≤140737488355328
 hk:∀c∈e7,c.length=k
 wI:∀b,v.ownBlock=some b→C.κ i=some b
 row:∃xs,w.ownsRow C.B e k v e7.length xs∧(∀u∈xs,u.oneCell'=true)∧∀i' j p,cellAt e7 i' j=some p→∃u,xs[i'*k+j]? =some u∧RP C.N w u p
inductive RA (C:Cx) (w:World):Value→AV→Prop
 |any (v:Value):RA C w v .any
 |pv {v:Value} {p:PV} (h:RP C.N w v p):RA C w v (.pv p)
 |own {v:Value} {i:Nat} {e:TypeId} {k:Nat} {e7:List (List PV)} (h:jy C w v i e k e7):RA C w v (.own i e k e7)
 |ptr {i off b:Nat} (hl:C.Lb i) (hκ:C.κ i=some b):RA C w (.pointer (some ⟨b,off,none⟩)) (.ptr i off)
 |fV {cells:List PV} (b off:Nat) (vs:Nat→Value) (hN:C.N b) (hb:b<w.heap.size) (hc:∀(j:Nat) (p:PV),cells[j]? =some p→w.cell? ⟨b,off+j,none⟩=some (vs j)∧(vs j).oneCell'=true)
   (hr:∀(j:Nat) (p:PV),cells[j]? =some p→RP C.N w (vs j) p):RA C w (.pointer (some ⟨b,off,none⟩)) (.fV cells)
 |gJ {i:Nat} {e:TypeId} {k:Nat} {e7:List (List PV)} {idx b cap:Nat} (hi:idx<e7.length) (h:jy C w (.slice (some ⟨b,0,none⟩) e7.length cap) i e k e7):
   RA C w (.pointer (some ⟨b,idx*k,none⟩)) (.gJ i e k e7 idx)
 |agg {vs:Array Value} {cs:List AV} (hs:vs.size=cs.length) (h:∀(j:Nat) (u:Value) (c:AV),vs[j]? =some u→cs[j]? =some c→RA C w u c):RA C w (.agg vs) (.agg cs)
 |gX {vs:Array Value} {cs:List AV} (hs:vs.size=cs.length) (h:∀(j:Nat) (u:Value) (c:AV),vs[j]? =some u→cs[j]? =some c→RA C w u c):RA C w (.tuple vs) (.gX cs)
 |jk {fn:Fn} {vs us:Array Value} {cs ds:List AV} (hs:vs.size=cs.length) (h:∀(j:Nat) (u:Value) (c:AV),vs[j]? =some u→cs[j]? =some c→RA C w u c)
   (ht:us.size=ds.length) (h':∀(j:Nat) (u:Value) (c:AV),us[j]? =some u→ds[j]? =some c→RA C w u c):RA C w (.func fn vs us) (.jk fn cs ds)
 |gq {i b:Nat} (hl:C.Lb i) (hκ:C.κ i=some b):RA C w (.map (some b)) (.gq i)
 |kO {i b:Nat} (hl:C.Lb i) (hκ:C.κ i=some b):RA C w (.func (.yield b) #[] #[]) (.kO i)
structure j4 (C:Cx) (w:World) (C':Cx) (w':World):Prop where
 B:C'.B=C.B
 size:w.heap.size≤w'.heap.size
 N:∀b,b<w.heap.size→C.N b→C'.N b∧w'.heap[b]? =w.heap[b]?
 Lr:∀i,C.Lr i→C'.Lr i∧C'.κ i=C.κ i∧∀b,C.κ i=some b→w'.heap[b]? =w.heap[b]?
 Lb:∀i,C.Lb i→C'.Lb i∧C'.κ i=C.κ i
theorem j4.rp {C C':Cx} {w w':World} (g:j4 C w C' w') {v:Value} {p:PV} (h:RP C.N w v p):RP C'.N w' v p:=h.mono g.size g.N
theorem j4.Gj {C C':Cx} {w w':World} (g:j4 C w C' w') {v:Value} {i:Nat} {e:TypeId} {k:Nat} {e7:List (List PV)} (h:jy C w v i e k e7):jy C' w' v i e k e7:=by
 obtain⟨hl,mb,hk,hb,xs,ho,h1,hx⟩:=h
 obtain⟨l1,l2,l3⟩:=g.Lr i hl
 refine⟨l1,mb,hk,fun b hv=>l2.trans (hb b hv),xs,?_,h1,fun i' j p hp=>?_⟩
 ·rw[g.B]
  refine⟨ho.1,?_⟩
  rcases ho.2 with hn|⟨b,cap,cur,rfl,h2,h3,h4⟩
  ·exact .inl hn
  ·exact .inr ⟨b,cap,cur,rfl,h2,(l3 b (hb b rfl)).trans h3,h4⟩
 ·obtain⟨u,h1,h2⟩:=hx i' j p hp
  exact⟨u,h1,g.rp h2⟩
theorem j4.ra {C C':Cx} {w w':World} (g:j4 C w C' w') {v:Value} {av:AV} (h:RA C w v av):RA C' w' v av:=by
 induction h with
 |any v=>exact .any v
 |pv h=>exact .pv (g.rp h)
 |own h=>exact .own (g.Gj h)
 |ptr hl hκ=>exact .ptr (g.Lb _ hl).1 ((g.Lb _ hl).2.trans hκ)
 |fV b off vs hN hb hc hr=>
  obtain⟨h1,h2⟩:=g.N b hb hN
  exact .fV b off vs h1 (aK hb g.size) (fun j p hp=>⟨(World.cell?_of_block (w:=w) (a:=⟨b,off+j,none⟩) h2).trans (hc j p hp).1,(hc j p hp).2⟩) (fun j p hp=>g.rp (hr j p hp))
 |gJ hi h=>exact .gJ hi (g.Gj h)
 |agg hs h ih=>exact .agg hs ih
 |gX hs h ih=>exact .gX hs ih
 |jk hs h ht h' ih ih'=>exact .jk hs ih ht ih'
 |gq hl hκ=>exact .gq (g.Lb _ hl).1 ((g.Lb _ hl).2.trans hκ)
 |kO hl hκ=>exact .kO (g.Lb _ hl).1 ((g.Lb _ hl).2.trans hκ)
def Ob.ln:Ob→Bool|.row=>true|_=>false
def DS.lr (δ:DS) (i:Nat):Prop:=δ.ob i=some .row
def DS.lb (δ:DS) (i:Nat):Prop:=∃o,δ.ob i=some o∧o.ln=false
def DS.live (δ:DS) (i:Nat):Prop:=∃o,δ.ob i=some o
def DS.cx (δ:DS) (g:eR) (κ:Kp):Cx:=
 {B:=g.B,κ,N:=fun b=>(g.N0 b∧¬κ.Fs b)∧∀i,δ.live i→κ i≠some b,Lr:=δ.lr,Lb:=δ.lb}
def HS:Nat:=1000
def eR.val (g:eR) (a:Act) (j:Nat):Value:=if j<HS then a.tmps.getD j undef else g.held j
def kR (C:Cx) (w:World) (es:Array MapEntry) (l:List (Value×AV)):Prop:=
 es.size=l.length∧∀(j:Nat) (e:MapEntry) (p:Value×AV),es[j]? =some e→l[j]? =some p→e.key=p.1∧RA C w e.val p.2
def AV.km:AV→Bool
 |.own _ _ _ _|.gJ _ _ _ _ _|.agg _|.gX _|.jk _ _ _=>false
 |_=>true
def Jp (N:Nat→Prop) (w:World) (b:Nat) (l:List (Value×PV)) (seen:List Nat):Prop:=
 (l=[]∧w.heap[b]? =some (.mapIter none 0 #[] 0))∨∃m es clock,N m∧m<w.heap.size∧w.heap[m]? =some (.map es clock)∧es.size=l.length∧pX es clock∧
  (∀(j:Nat) (e:MapEntry) (p:Value×PV),es[j]? =some e→l[j]? =some p→e.key=p.1∧RP N w e.val p.2)∧w.heap[b]? =some (.mapIter (some m) clock seen.toArray clock)∧∀j∈seen,j<l.length
theorem Jp.mono {N N':Nat→Prop} {w w':World} {b:Nat} {l:List (Value×PV)} {seen:List Nat} (h:Jp N w b l seen) (hs:w.heap.size≤w'.heap.size)
  (hN:∀b,b<w.heap.size→N b→N' b∧w'.heap[b]? =w.heap[b]?) (hb:w'.heap[b]? =w.heap[b]?):Jp N' w' b l seen:=by
 rcases h with ⟨h1,h2⟩|⟨m,es,clock,h1,h2,h3,h4,h5,h6,h7,h8⟩
 ·exact .inl ⟨h1,hb.trans h2⟩
 ·exact .inr ⟨m,es,clock,(hN m h2 h1).1,aK h2 hs,(hN m h2 h1).2.trans h3,h4,h5,fun j e p h9 ub=>⟨(h6 j e p h9 ub).1,(h6 j e p h9 ub).2.mono hs hN⟩,hb.trans h7,h8⟩
def uW (C:Cx) (w:World) (i:Nat) (e:TypeId) (p:Value×List Value):Prop:=
 w.ownsRow C.B e 1 p.1 p.2.length p.2∧p.2.length≤140737488355328∧(∀b,p.1.ownBlock=some b→C.κ.F i b)∧∀u∈p.2,u.oneCell'=true
def nG (C:Cx) (w:World) (i:Nat):Ob→Prop
 |.row=>∀b,C.κ i=some b→∃c e,w.heap[b]? =some (.cells c e (0,0))
 |.box cells=>∃b c e,C.κ i=some b∧w.heap[b]? =some (.cells c e (0,0))∧c.size=cells.length∧∀(j:Nat) (u:Value) (av:AV),c[j]? =some u→cells[j]? =some av→RA C w u av∧u.oneCell'=true
 |.mp l=>∃b es clock,C.κ i=some b∧w.heap[b]? =some (.map es clock)∧kR C w es l∧pX es clock∧∀p∈l,p.2.km=true
 |.mpl l k v=>∃b es clock,C.κ i=some b∧w.heap[b]? =some (.map es clock)∧kR C w es (l++ [(k,v)])∧pX es clock∧∀p∈l,p.2.km=true
 |.it l seen=>∃b,C.κ i=some b∧Jp C.N w b l seen
 |.lit T vals=>∃b,C.κ i=some b∧w.heap[b]? =some (.cells vals T (0,0))
 |.e8 e rows=>C.κ i=none∧(∀k,uW C w i e (rows k))∧∀k k' b,(rows k).1.ownBlock=some b→(rows k').1.ownBlock=some b→k=k'
 |.loop l tm ps iK body st=>∃b r,C.κ i=some b∧w.heap[b]? =some (.loop r)∧b=l∧r.tmps=tm∧r.params=ps∧r.assign=iK∧r.body=body∧
   (match st with|.ready=>r.state=.ready∧r.pending=none|.busy=>r.state=.busy|.done c=>r.state=.done∧r.pending=some c|.over=>True)
def Fe (g:eR) (a:Act) (w:World):Prop:=∃rs:List Nat,a.defers=rs.map (fun r=>({target:=.collected r,args:= #[]}:Deferred))++g.base∧(rs++g.mks).Nodup∧∀r∈rs++g.mks,g.B≤r∧w.heap[r]? =some (.deferred (some []))
def o8 (g:eR) (lv:Nat→Prop) (κ:Kp) (w:World):Prop:=(∀b,g.fr b→b<g.w1.heap.size∧w.heap[b]? =g.w1.heap[b]?∧∀i,lv i→κ i≠some b)∧
 ∀i b,κ.F i b→(g.B≤b∧∀k,g.wt=some k→¬k.2.1 b)∧b<w.heap.size∧¬g.fr b∧(∀j,lv j→κ j≠some b)∧∀j,κ.F j b→j=i
theorem o8.of {g:eR} {lv lv':Nat→Prop} {κ κ':Kp} {w w':World} (h:o8 g lv κ w) (hs:w.heap.size≤w'.heap.size) (hw:∀b,g.fr b→b<w.heap.size→(∀i,lv i→κ i≠some b)→w'.heap[b]? =w.heap[b]?)
  (hl:∀i b,lv' i→κ' i=some b→(∃j,lv j∧κ j=some b)∨w.heap.size≤b) (hF:∀i b,κ'.F i b→κ.F i b:=by exact fun _ _ h=>h):o8 g lv' κ' w':=by
 refine⟨fun b hb=>?_,fun i b hb=>?_⟩
 ·obtain⟨h1,h3,h4⟩:=h.1 b hb
  have fm:b<w.heap.size:=by rw[aN h1] at h3;exact(aO.1 h3).1
  refine⟨h1,(hw b hb fm h4).trans h3,fun i hi e=>?_⟩
  rcases hl i b hi e with ⟨j,hj,e'⟩|h5
  ·exact h4 j hj e'
  ·omega
 ·have ja:=hF i b hb
  obtain⟨h1,h2,h3,h4,h5⟩:=h.2 i b ja
  refine⟨h1,aK h2 hs,h3,fun j hj e=>?_,fun j hj=>h5 j (hF j b hj)⟩
  ·rcases hl j b hj e with ⟨j,hj,e'⟩|h5
   ·exact h4 j hj e'
   ·omega
theorem o8.sub {g:eR} {lv lv':Nat→Prop} {κ κ':Kp} {w:World} (h:o8 g lv κ w) (hl:∀i b,lv' i→κ' i=some b→∃j,lv j∧κ j=some b) (hF:∀i b,κ'.F i b→κ.F i b:=by exact fun _ _ h=>h):o8 g lv' κ' w:=h.of (aP _) (fun _ _ _ _=>rfl) (fun i b h1 h2=> .inl (hl i b h1 h2)) hF
structure Rel (g:eR) (δ:DS) (κ:Kp) (a:Act) (w:World):Prop where
 n:a.tmps.size=δ.n
 dfr:Fe g a w
 env:∀j,RA (δ.cx g κ) w (g.val a j) (δ.get j)
 obj:∀i o,δ.ob i=some o→nG (δ.cx g κ) w i o
 inj:∀i j b,δ.live i→δ.live j→κ i=some b→κ j=some b→i=j
 lo:∀i b,δ.live i→κ i=some b→g.B≤b∧b<w.heap.size
 nx:∀i,δ.live i→i<δ.nx
 wt:∀k,g.wt=some k→(∀b,k.2.1 b→b<k.1.heap.size∧w.heap[b]? =k.1.heap[b]?)∧∀i b,δ.live i→(δ.lr i∨k.2.2≤i)→κ i=some b→¬k.2.1 b
 below:Below g.B g.w0 w
 hB:g.B≤w.heap.size
 N0:∀b,g.B≤b→¬g.fr b→g.N0 b
 fr:o8 g δ.live κ w
 kc:∀d∈a.defers,∀r,d.target=.collected r→¬g.fr r
theorem o8.re {g g':eR} {lv:Nat→Prop} {κ:Kp} {w:World} (h:o8 g lv κ w) (hB:g'.B=g.B) (hf:g'.fr=g.fr) (hw:g'.w1=g.w1) (i_:g'.wt=none):o8 g' lv κ w:=by
 refine⟨fun b hb=>?_,fun i b hb=>?_⟩
 ·rw[hf] at hb;rw[hw];exact h.1 b hb
 ·obtain⟨h1,h2,h3,h4⟩:=h.2 i b hb
  exact⟨⟨by rw[hB];exact h1.1,fun k hk=>by rw[i_] at hk;cases hk⟩,h2,by rw[hf];exact h3,h4⟩
theorem o8.Au {g:eR} {lv:Nat→Prop} {κ:Kp} {w:World} (h:o8 g lv κ w) {b:Nat} (hb:g.fr b):b<w.heap.size:=by
 obtain⟨h1,h3,_⟩:=h.1 b hb
 rw[aN h1] at h3
 exact(aO.1 h3).1
theorem o8.EB {g:eR} {lv:Nat→Prop} {κ:Kp} {w:World} (h:o8 g lv κ w) {b:Nat} (hb:κ.Fs b):b<w.heap.size:=let ⟨i,hi⟩:=hb;(h.2 i b hi).2.1
theorem o8.mP {g:eR} {lv:Nat→Prop} {κ:Kp} {w:World} (h:o8 g lv κ w) {i b:Nat} (hl:lv i) (hκ:κ i=some b):¬κ.Fs b:=fun⟨j,hj⟩=>(h.2 j b hj).2.2.2.1 i hl hκ
theorem Rel.A2 {g:eR} {δ:DS} {κ:Kp} {a:Act} {w:World} (r:Rel g δ κ a w) {b:Nat} (h:w.heap.size≤b):g.N0 b∧¬κ.Fs b:=⟨r.N0 b (aQ r.hB h) fun hf=>by have:=r.fr.Au hf;omega,fun hf=>by have:=r.fr.EB hf;omega⟩
theorem Rel.EC {g:eR} {δ:DS} {κ:Kp} {a:Act} {w:World} (r:Rel g δ κ a w) {i b:Nat} (hl:δ.live i) (hκ:κ i=some b):g.N0 b∧¬κ.Fs b:=⟨r.N0 b (r.lo i b hl hκ).1 fun hf=>(r.fr.1 b hf).2.2 i hl hκ,r.fr.mP hl hκ⟩
end Go.Ab
/- The abstract states' laws:how a relation goes on over a slot's write,a new block,an extension of the world;the rules of the abstract weakest precondition. -/
namespace Go.Ab
open Go Go.RowKit
variable {P:Program} {g:eR} {δ:DS} {κ:Kp} {a:Act} {w:World}
theorem EI (δ:DS) (d:Nat) (v:AV) (j:Nat):(δ.put d v).get j=if d=j then v else δ.get j:=fC _ _ _ _
theorem jw (δ:DS) (d:Nat) (v:Option Ob) (j:Nat):(δ.ga d v).ob j=if d=j then v else δ.ob j:=fA _ _ _ _
theorem fU (δ:DS) (o:Ob) (j:Nat):(δ.fK o).ob j=if δ.nx=j then some o else δ.ob j:=fA _ _ _ _
theorem eR.Km (g:eR) (a:Act) (d:Nat) (v:Value) (j:Nat) (h:d<a.tmps.size) (hH:d<HS):g.val (a.put (some d) v) j=if d=j then v else g.val a j:=by
 unfold eR.val Act.put
 by_cases hj:j<HS
 ·simp only[hj,if_true,aR,aS]
  by_cases e:d=j
  ·subst e;simp [h]
  ·simp [e]
 ·have:d≠j:=by omega
  simp [hj,this]
theorem Rel.put (r:Rel g δ κ a w) {d:Nat} {v:Value} {av:AV} (hd:d<δ.n) (hH:d<HS) (h:RA (δ.cx g κ) w v av):Rel g (δ.put d av) κ (a.put (some d) v) w where
 n:=by have:=r.n;simp only[Act.put,Array.size_setIfInBounds];exact this
 dfr:=by obtain⟨rs,h1,h2,h3⟩:=r.dfr;exact⟨rs,h1,h2,h3⟩
 env:=fun j=>by
  rw[EI,g.Km a d v j (by rw[r.n];exact hd) hH]
  by_cases e:d=j
  ·simp only[e,if_true];exact h
  ·simp only[e,if_false];exact r.env j
 obj:=r.obj
 inj:=r.inj
 lo:=r.lo
 nx:=r.nx
 wt:=r.wt
 below:=r.below
 hB:=r.hB
 N0:=r.N0
 fr:=r.fr
 kc:=r.kc
theorem Rel.eS (r:Rel g δ κ a w) {d:Option Nat} {v:Value} {av:AV} (hd:∀x,d=some x→x<δ.n∧x<HS) (h:RA (δ.cx g κ) w v av):Rel g (δ.eS d av) κ (a.put d v) w:=by
 cases d with
 |none=>exact r
 |some x=>exact r.put (hd x rfl).1 (hd x rfl).2 h
theorem Fe.goes {g:eR} {a:Act} {w w':World} (h:Fe g a w) (hb:∀r,g.B≤r→w.heap[r]? =some (.deferred (some []))→w'.heap[r]? =w.heap[r]?):Fe g a w':=by
 obtain⟨rs,h1,h2,h3⟩:=h
 exact⟨rs,h1,h2,fun r hr=>⟨(h3 r hr).1,(hb r (h3 r hr).1 (h3 r hr).2).trans (h3 r hr).2⟩⟩
theorem qK {k:World×(Nat→Prop)×Nat} {w:World} {b:Nat} (h:b<k.1.heap.size∧w.heap[b]? =k.1.heap[b]?):b<w.heap.size:=by
 have:=h.2
 rw[aN h.1] at this
 exact(aO.1 this).1
theorem iv {w:World} {r:Nat} {o:Obj} (h:w.heap[r]? =some o):r<w.heap.size:=(aO.1 h).1
theorem kR.goes {C C':Cx} {w w':World} (G:j4 C w C' w') {es:Array MapEntry} {l:List (Value×AV)} (h:kR C w es l):kR C' w' es l:=
 ⟨h.1,fun j e p h1 h2=>⟨(h.2 j e p h1 h2).1,G.ra (h.2 j e p h1 h2).2⟩⟩
theorem kR.last {C C':Cx} {w w':World} {es:Array MapEntry} {l:List (Value×AV)} {k:Value} {v v':AV} (h:kR C w es (l++ [(k,v)])) (h1:∀(u:Value) (p:Value×AV),p∈l→RA C w u p.2→RA C' w' u p.2) (h2:∀u:Value,RA C w u v→RA C' w' u v'):kR C' w' es (l++ [(k,v')]):=by
 refine⟨by simpa using h.1,fun j e p hj hp=>?_⟩
 by_cases fm:j<l.length
 ·rw[aT fm] at hp
  obtain⟨a1,a2⟩:=h.2 j e p hj (by rw[aT fm];exact hp)
  exact⟨a1,h1 _ p (aU hp) a2⟩
 ·rw[aV aJ] at hp
  obtain⟨a1,a2⟩:=h.2 j e (k,v) hj (by
   rw[aV aJ]
   have:j - l.length=0:=by have:=(aW.1 hp).1;simpa using this
   rw[this];rfl)
  have:p=(k,v'):=by
   have h0:j - l.length=0:=by have:=(aW.1 hp).1;simpa using this
   rw[h0] at hp;simpa using hp.symm
  subst this
  exact⟨a1,h2 _ a2⟩
theorem uW.goes {C C':Cx} {w w':World} {i:Nat} {e:TypeId} {p:Value×List Value} (h:uW C w i e p) (hB:C'.B=C.B) (hP:∀b,p.1.ownBlock=some b→C.κ.F i b→b<w.heap.size→C'.κ.F i b∧w'.heap[b]? =w.heap[b]?):uW C' w' i e p:=by
 obtain⟨⟨h1,h2⟩,h3,h4,h5⟩:=h
 rcases h2 with h2|⟨b,cap,cur,hv,h6,h7,h8⟩
 ·exact⟨⟨h1,.inl h2⟩,h3,(fun b hb=>by rw[h2.1] at hb;cases hb),h5⟩
 ·have hb:p.1.ownBlock=some b:=by rw[hv];rfl
  obtain⟨h9,ub⟩:=hP b hb (h4 b hb) (iv h7)
  refine⟨⟨h1,.inr ⟨b,cap,cur,hv,by rw[hB];exact h6,ub.trans h7,h8⟩⟩,h3,fun b' ja=>?_,h5⟩
  rw[hb] at ja;cases ja;exact h9
theorem nG.goes {C C':Cx} {w w':World} (G:j4 C w C' w') {i:Nat} {o:Ob} (hκ:C'.κ i=C.κ i) (hb:∀b,C.κ i=some b→w'.heap[b]? =w.heap[b]?) (hP:∀b,C.κ.F i b→b<w.heap.size→C'.κ.F i b∧w'.heap[b]? =w.heap[b]?) (h:nG C w i o):nG C' w' i o:=by
 cases o with
 |row=>
  intro b Da
  rw[hκ] at Da
  obtain⟨c,e,h1⟩:=h b Da
  exact⟨c,e,(hb b Da).trans h1⟩
 |box cells=>
  obtain⟨b,c,e,h1,h2,h3,h4⟩:=h
  exact⟨b,c,e,hκ.trans h1,(hb b h1).trans h2,h3,fun j u av h5 h6=>⟨G.ra (h4 j u av h5 h6).1,(h4 j u av h5 h6).2⟩⟩
 |mp l=>
  obtain⟨b,es,clock,h1,h2,h3,h4⟩:=h
  exact⟨b,es,clock,hκ.trans h1,(hb b h1).trans h2,h3.goes G,h4⟩
 |mpl l k v=>
  obtain⟨b,es,clock,h1,h2,h3,h4⟩:=h
  exact⟨b,es,clock,hκ.trans h1,(hb b h1).trans h2,h3.goes G,h4⟩
 |it l seen=>
  obtain⟨b,h1,h2⟩:=h
  exact⟨b,hκ.trans h1,h2.mono G.size G.N (hb b h1)⟩
 |lit T vals=>obtain⟨b,h1,h2⟩:=h;exact⟨b,hκ.trans h1,(hb b h1).trans h2⟩
 |e8 e rows=>exact⟨hκ.trans h.1,fun k=>(h.2.1 k).goes G.B fun b _ hF fm=>hP b hF fm,h.2.2⟩
 |loop l tm ps iK body st=>
  obtain⟨b,lr,h1,h2,h3⟩:=h
  exact⟨b,lr,hκ.trans h1,(hb b h1).trans h2,h3⟩
theorem DS.gA {δ:DS} {i:Nat} (h:δ.lr i):δ.live i:=⟨_,h⟩
theorem DS.lI {δ:DS} {i:Nat} (h:δ.lb i):δ.live i:=let ⟨o,h1,_⟩:=h;⟨o,h1⟩
theorem Rel.ext (r:Rel g δ κ a w) {w':World} (hb:Below w.heap.size w w'):Rel g δ κ a w':=by
 have G:j4 (δ.cx g κ) w (δ.cx g κ) w':=
  {B:=rfl,size:=hb.size,N:=fun b h1 h2=>⟨h2,hb.block b h1⟩
   Lr:=fun i hi=>⟨hi,rfl,fun b hκ=>hb.block b (r.lo i b (DS.gA hi) hκ).2⟩
   Lb:=fun i hi=>⟨hi,rfl⟩}
 exact
  {n:=r.n,dfr:=r.dfr.goes fun k _ hk=>hb.block k (iv hk),env:=fun j=>G.ra (r.env j)
   obj:=fun i o h=>(r.obj i o h).goes G rfl (fun b hκ=>hb.block b (r.lo i b ⟨o,h⟩ hκ).2) (fun b hF fm=>⟨hF,hb.block b fm⟩)
   inj:=r.inj,lo:=fun i b h1 h2=>⟨(r.lo i b h1 h2).1,aK (r.lo i b h1 h2).2 hb.size⟩
   nx:=r.nx,wt:=fun k hk=>⟨fun b xx=>⟨((r.wt k hk).1 b xx).1,(hb.block b (qK ((r.wt k hk).1 b xx))).trans ((r.wt k hk).1 b xx).2⟩,(r.wt k hk).2⟩,below:=r.below.trans (hb.mono r.hB),hB:=aQ r.hB hb.size,N0:=r.N0
   fr:=r.fr.of hb.size (fun b _ h1 _=>hb.block b h1) (fun i b h1 h2=> .inl ⟨i,h1,h2⟩),kc:=r.kc}
def gY (κ:Kp) (i:Nat) (b:Option Nat):Kp:=⟨fun j=>if i=j then b else κ j,κ.F⟩
theorem Rel.grow (r:Rel g δ κ a w) (ob:Ob) (o:Obj)
  (iQ:∀C,j4 (δ.cx g κ) w C (w.alloc o)→C.κ δ.nx=some w.heap.size→nG C (w.alloc o) δ.nx ob):
  Rel g (δ.fK ob) (gY κ δ.nx (some w.heap.size)) a (w.alloc o)∧j4 (δ.cx g κ) w ((δ.fK ob).cx g (gY κ δ.nx (some w.heap.size))) (w.alloc o):=by
 have hold:∀k,k<w.heap.size→(w.alloc o).heap[k]? =w.heap[k]?:=fun k hk=>Below.heap_alloc w o k hk
 have nA:¬δ.live δ.nx:=fun h=>aX _ (r.nx _ h)
 have fW:∀i,δ.live i→δ.nx≠i:=fun i h e=>nA (e▸h)
 have fM:∀i,(δ.fK ob).live i→i=δ.nx∨δ.live i:=by
  intro i ⟨o',h⟩
  rw[fU] at h
  by_cases e:δ.nx=i
  ·exact .inl e.symm
  ·rw[if_neg e] at h;exact .inr ⟨o',h⟩
 have mZ:(w.alloc o).heap.size=w.heap.size+1:=by show(w.heap.push o).size=_;simp
 have G:j4 (δ.cx g κ) w ((δ.fK ob).cx g (gY κ δ.nx (some w.heap.size))) (w.alloc o):=
  {B:=rfl,size:=by omega
   N:=fun b h1 h2=>⟨⟨h2.1,fun i hi=>by
    show gY κ δ.nx (some w.heap.size) i≠some b
    rcases fM i hi with rfl|hi
    ·simp only[gY,if_true];intro e;cases e;omega
    ·simp only[gY,fW i hi,if_false];exact h2.2 i hi⟩,hold b h1⟩
   Lr:=fun i hi=>by
    have kb:=fW i (DS.gA hi)
    refine⟨?_,by show gY _ _ _ i=κ i;simp [gY,kb],fun b hκ=>hold b (r.lo i b (DS.gA hi) hκ).2⟩
    show(δ.fK ob).ob i=_
    rw[fU,if_neg kb];exact hi
   Lb:=fun i hi=>by
    have kb:=fW i (DS.lI hi)
    refine⟨?_,by show gY _ _ _ i=κ i;simp [gY,kb]⟩
    obtain⟨o',h1,h2⟩:=hi
    exact⟨o',by rw[fU,if_neg kb];exact h1,h2⟩}
 refine⟨?_,G⟩
 exact
  {n:=r.n,dfr:=r.dfr.goes fun k _ hk=>hold k (iv hk),env:=fun j=>G.ra (r.env j)
   obj:=fun i o' h=>by
    rw[fU] at h
    by_cases e:δ.nx=i
    ·rw[if_pos e] at h;cases h;subst e
     exact iQ _ G (by show gY _ _ _ _=_;simp [gY])
    ·rw[if_neg e] at h
     exact(r.obj i o' h).goes G (by show gY _ _ _ i=κ i;simp [gY,e]) (fun b hκ=>hold b (r.lo i b ⟨o',h⟩ hκ).2) (fun b hF fm=>⟨hF,hold b fm⟩)
   inj:=fun i j b h1 h2 h3 h4=>by
    rcases fM i h1 with rfl|h1
    ·rcases fM j h2 with rfl|h2
     ·rfl
     ·simp only[gY,if_true] at h3
      simp only[gY,fW j h2,if_false] at h4
      cases h3
      exact absurd (r.lo j _ h2 h4).2 (by omega)
    ·rcases fM j h2 with rfl|h2
     ·simp only[gY,if_true] at h4
      simp only[gY,fW i h1,if_false] at h3
      cases h4
      exact absurd (r.lo i _ h1 h3).2 (by omega)
     ·simp only[gY,fW i h1,fW j h2,if_false] at h3 h4
      exact r.inj i j b h1 h2 h3 h4
   lo:=fun i b h1 h2=>by
    rw[mZ]
    rcases fM i h1 with rfl|h1
    ·simp only[gY,if_true] at h2;cases h2;exact⟨r.hB,by omega⟩
    ·simp only[gY,fW i h1,if_false] at h2
     have:=r.lo i b h1 h2
     omega
   nx:=fun i h=>by
    show i<δ.nx+1
    rcases fM i h with rfl|h
    ·omega
    ·have:=r.nx i h;omega
   wt:=fun k hk=>⟨fun b xx=>⟨((r.wt k hk).1 b xx).1,(hold b (qK ((r.wt k hk).1 b xx))).trans ((r.wt k hk).1 b xx).2⟩,fun i b hl hi hκ xx=>by
    rcases fM i hl with rfl|kb
    ·simp only[gY,if_true] at hκ
     cases hκ
     exact absurd (qK ((r.wt k hk).1 _ xx)) (aX _)
    ·simp only[gY,fW i kb,if_false] at hκ
     refine(r.wt k hk).2 i b kb ?_ hκ xx
     refine hi.imp (fun hi=>?_) id
     have qW:(δ.fK ob).ob i=some .row:=hi
     rw[fU,if_neg (fW i kb)] at qW
     exact qW⟩
   below:=r.below.alloc r.hB o
   hB:=by rw[mZ];have:=r.hB;omega
   N0:=r.N0
   kc:=r.kc
   fr:=r.fr.of (by rw[mZ];omega) (fun b _ h1 _=>hold b h1) fun i b h1 h2=>by
    rcases fM i h1 with rfl|h1
    ·simp only[gY,if_true] at h2;cases h2;exact .inr (aP _)
    ·simp only[gY,fW i h1,if_false] at h2;exact .inl ⟨i,h1,h2⟩}
def lift (g:eR) (Q:Exit→DS→Prop):Exit→Act→World→Prop:=fun e a w=>∃δ κ,Q e δ∧Rel g δ κ a w
abbrev Fw (ro:Option Nat):Fence:={fn:=fun _=>True,depth:=none,alive:=false,round:=ro}
def AW (P:Program) (g:eR) (c:Code) (Q:Exit→DS→Prop) (δ:DS):Prop:=∀κ a w,Rel g δ κ a w→c.wpIn (Fw g.ro) 0 P (lift g Q) a w
def gb (next:DS→Prop) (Q:Exit→DS→Prop):Exit→DS→Prop
 |.normal,δ=>next δ
 |e,δ=>Q e δ
def fq (id:Nat) (Q:Exit→DS→Prop):Exit→DS→Prop
 |.exit id',δ=>if id'=id then Q .normal δ else Q (.exit id') δ
 |e,δ=>Q e δ
theorem AW.mono {c:Code} {Q Q':Exit→DS→Prop} (h:AW P g c Q δ) (hq:∀e δ,Q e δ→Q' e δ):AW P g c Q' δ:=
 fun κ a w r=>wpIn_mono (h κ a w r) fun _ _ _ ⟨δ',κ',h1,h2⟩=>⟨δ',κ',hq _ _ h1,h2⟩
theorem AW.seq {x y:Code} {Q:Exit→DS→Prop} (h:AW P g x (gb (AW P g y Q) Q) δ):AW P g (.seq x y) Q δ:=by
 intro κ a w r
 refine wpIn_seq (wpIn_mono (h κ a w r) fun e a' w'=>?_)
 rintro⟨δ',κ',h1,h2⟩
 cases e with
 |normal=>exact h1 κ' a' w' h2
 |_=>exact⟨δ',κ',h1,h2⟩
theorem AW.skip {Q:Exit→DS→Prop} (h:Q .normal δ):AW P g .skip Q δ:=fun κ _ _ r=>wpIn_skip ⟨δ,κ,h,r⟩
theorem AW.exit {id:Nat} {Q:Exit→DS→Prop} (h:Q (.exit id) δ):AW P g (.exit id) Q δ:=fun κ _ _ r=>wpIn_exit ⟨δ,κ,h,r⟩
theorem AW.ret {Q:Exit→DS→Prop} (h:Q .ret δ):AW P g .ret Q δ:=fun κ _ _ r=>wpIn_ret ⟨δ,κ,h,r⟩
theorem Rel.CB (r:Rel g δ κ a w) (x:Operand) (hx:∀t,x=.tmp t→t<HS):RA (δ.cx g κ) w (a.eval x) (δ.ev x):=by
 cases x with
 |tmp t=>
  have:=r.env t
  unfold eR.val at this
  rw[if_pos (hx t rfl)] at this
  exact this
 |const v=>exact .pv (.lit v)
 |global n=>exact .any _
 |func f=>exact .jk rfl (fun j u c h=>by simp at h) rfl (fun j u c h=>by simp at h)
theorem RA.lit {C:Cx} {w:World} {v u:Value} (h:RA C w v (.pv (.lit u))):v=u:=by cases h with|pv h=>cases h;rfl
def ff (x:Operand):Bool:=match x with|.tmp t=>aY t HS|_=>true
theorem iD {x:Operand} (h:ff x=true):∀t,x=.tmp t→t<HS:=by
 rintro t rfl;simpa [ff] using h
theorem AW.cond {c:Operand} {x y:Code} {t:Bool} {Q:Exit→DS→Prop} (ho:ff c=true) (hc:δ.ev c=.pv (.lit (.bool t))) (h1:t=true→AW P g x Q δ) (h2:t=false→AW P g y Q δ):AW P g (.cond c x y) Q δ:=by
 intro κ a w r
 have he:=r.CB c (iD ho)
 rw[hc] at he
 exact wpIn_cond_split he.lit (fun h=>h1 h κ a w r) (fun h=>h2 h κ a w r)
theorem AW.block {id:Nat} {c:Code} {Q:Exit→DS→Prop} (h:AW P g c (fq id Q) δ):AW P g (.block id c) Q δ:=by
 intro κ a w r
 refine wpIn_block (wpIn_mono (h κ a w r) fun e a' w'=>?_)
 rintro⟨δ',κ',h1,h2⟩
 cases e with
 |exit id'=>
  simp only[fq] at h1
  show(if id'=id then _ else _)
  by_cases e:id'=id
  ·rw[if_pos e] at h1 ⊢;exact⟨δ',κ',h1,h2⟩
  ·rw[if_neg e] at h1 ⊢;exact⟨δ',κ',h1,h2⟩
 |_=>exact⟨δ',κ',h1,h2⟩
theorem AN {F:Fence} {n0:Nat} {c:Code} {Q:Exit→Act→World→Prop} (I:Nat→Act→World→Prop)
  (round:∀n a w,I n a w→c.wpIn F n0 P (Exit.then (fun a' w'=>∃m,m<n∧I m a' w') Q) a w) {n:Nat} {a:Act} {w:World} (h0:I n a w):(Code.loop c).wpIn F n0 P Q a w:=by
 intro b k cs Ao hb hr
 have key:∀n a w,I n a w→
   ∃e a' w',Q e a' w'∧ArrivesIn (Machine.fenced P F) P (lone (b.atR a (.code c::.inLoop c::k)) cs w) b k cs e a' w':=by
  intro n
  induction n using Nat.strongRecOn with
  |_ n ih=>
   intro a w hI
   obtain⟨e,a₁,w₁,hq,qU⟩:=round n a w hI b (.inLoop c::k) cs Ao hb hr
   cases e with
   |normal=>
    obtain⟨m,fm,hI₁⟩:=hq
    obtain⟨e₂,a₂,w₂,hq₂,harr₂⟩:=ih m fm a₁ w₁ hI₁
    exact⟨e₂,a₂,w₂,hq₂,.of_steps (StepsIn.trans qU (.one (fenced_calm hb hr rfl) stepR_inLoop)) harr₂⟩
   |exit id=>exact⟨_,a₁,w₁,hq,.pass (x:=.inLoop c) rfl (fun _ _=> .inl (by simp)) qU⟩
   |goto l=>exact⟨_,a₁,w₁,hq,.pass (x:=.inLoop c) rfl (fun _ _=> .inl (by simp)) qU⟩
   |ret=>exact⟨_,a₁,w₁,hq,.pass (x:=.inLoop c) rfl (fun _ _=> .inl (by simp)) qU⟩
   |panic ch=>exact⟨_,a₁,w₁,hq,.pass (x:=.inLoop c) rfl (fun _ _=> .inl (by simp)) qU⟩
   |outgrown=>exact⟨_,a₁,w₁,hq,.pass (x:=.inLoop c) rfl (fun _ _=> .inl (by simp)) qU⟩
 obtain⟨e,a',w',hq,qU⟩:=key _ a w h0
 exact⟨e,a',w',hq,.of_steps (.one (fenced_calm hb hr rfl) stepR_loop) qU⟩
def pw (g:eR) (δ δ':DS):Prop:=∀κ a w,Rel g δ κ a w→∃κ',Rel g δ' κ' a w
theorem AW.fp {c:Code} {Q:Exit→DS→Prop} {δ':DS} (hw:pw g δ δ') (h:AW P g c Q δ'):AW P g c Q δ:=fun κ a w r=>let ⟨κ',r'⟩:=hw κ a w r;h κ' a w r'
theorem AW.loop {S:Type} {c:Code} {Q:Exit→DS→Prop} (D:S→DS) (I:S→Prop) (μ:S→Nat) (s0:S) (hs:I s0) (hw:pw g δ (D s0))
  (round:∀s,I s→AW P g c (gb (fun δ'=>∃s',I s'∧μ s'<μ s∧pw g δ' (D s')) Q) (D s)):AW P g (.loop c) Q δ:=by
 intro κ a w r
 obtain⟨κ0,r0⟩:=hw κ a w r
 refine AN (fun n a w=>∃s κ,I s∧μ s=n∧Rel g (D s) κ a w) ?_ (n:=μ s0) ⟨s0,κ0,hs,rfl,r0⟩
 rintro n a w ⟨s,κ,hI,rfl,hr⟩
 refine wpIn_mono (round s hI κ a w hr) fun e a' w'=>?_
 rintro⟨δ',κ',h1,h2⟩
 cases e with
 |normal=>
  obtain⟨s',X9,hm,iP⟩:=h1
  obtain⟨κ2,r2⟩:=iP κ' a' w' h2
  exact⟨μ s',hm,s',κ2,X9,rfl,r2⟩
 |_=>exact⟨δ',κ',h1,h2⟩
def jC (o:Oper):Bool:=match o.op with|.defer _=>false|_=>true
def Oper.wW (P:Program) (o:Oper) (F:Fence) (a:Act) (w:World) (K:Act→World→Prop) (Q:Exit→Act→World→Prop):Prop:=o.uponIn F 0 P a K Q ((execOp a.eval o).run P w)
theorem gw {ro:Option Nat} {ops:Array Oper} {Q:Exit→Act→World→Prop} {a:Act} {w:World} {rest:List Oper} {o:Oper} (hg:o.guard=none) (hd:jC o=true)
  (h:∀K:Act→World→Prop,(∀a w,wpListIn (Fw ro) 0 P ops Q rest a w→K a w)→Oper.wW P o (Fw ro) a w K Q):wpListIn (Fw ro) 0 P ops Q (o::rest) a w:=by
 refine wpListIn_plain hg fun K hK=>⟨fun _ _=>trivial,?_⟩
 have:=h K hK
 unfold Oper.wW at this
 rw[Oper.semAt_eq _ _ _ (by intro c e;simp [jC,e] at hd)]
 exact this
inductive Md where
 |plain
 |quiet
 |held
def kB (δ:DS) (κ:Kp) (w w':World):Prop:=∀b,b<w.heap.size→((∀i,δ.lr i→κ i≠some b)∧¬κ.Fs b)→w'.heap[b]? =w.heap[b]?
theorem kB.BQ {δ:DS} {κ:Kp} {w w':World} (h:Below w.heap.size w w'):kB δ κ w w':=fun b hb _=>h.block b hb
theorem kB.refl (δ:DS) (κ:Kp) (w:World):kB δ κ w w:=fun _ _ _=>rfl
theorem kB.cell {δ:DS} {κ:Kp} {w w':World} (h:kB δ κ w w') {ad:Addr} (hb:ad.block<w.heap.size) (hn:(∀i,δ.lr i→κ i≠some ad.block)∧¬κ.Fs ad.block):w'.cell? ad=w.cell? ad:=World.cell?_of_block (w:=w) (h ad.block hb hn)
def wc (P:Program) (ops:Array Oper) (C:World→Prop) (Q:Act→Prop):List Oper→Act→Prop
 |[],a=>Q a
 |o::rest,a=>∃v,YieldsIf P ops C o v a∧wc P ops C Q rest (a.put o.dst v)
def a_ (q:Md) (P:Program) (g:eR) (ops:Array Oper) (l:List Oper) (Q:Exit→DS→Prop) (δ:DS):Prop:=∀κ a w,Rel g δ κ a w→
 match q with
 |.quiet=>wpQuiet P ops (fun w'=>Below w.heap.size w w') (fun a'=>∀w',Below w.heap.size w w'→lift g Q .normal a' w') l a
 |.held=>wc P ops (kB δ κ w) (fun a'=>∃δ',Q .normal δ'∧δ'.gm=δ.gm∧Rel g δ' κ a' w) l a
 |.plain=>wpListIn (Fw g.ro) 0 P ops (lift g Q) l a w
theorem AW.region {id:Nat} {l:List Oper} {Q:Exit→DS→Prop} (h:a_ .plain P g l.toArray l Q δ):AW P g (.region id l.toArray false) Q δ:=fun κ a w r=>wpIn_region_lit (h κ a w r)
def OB (o:Oper):Bool:=match o.op with
 |.alloc _|.box _ _|.buildSlice ..|.store ..|.makeMap ..|.makeSlice ..|.mapUpdate ..|.mapEntry ..|.entryStore ..|.insert ..=>false
 |.call c=>(match c.callee with|.builtin .append|.builtin .copy=>false|_=>true)
 |_=>true
theorem AW.fY {id:Nat} {l:List Oper} {Q:Exit→DS→Prop} (_hl:l.all OB=true) (hm:P.follows .mixedOrders=true) (hB:Region.lexB .any l.toArray=true) (Ao:g.ro=none) (h:a_ .quiet P g l.toArray l Q δ):AW P g (.region id l.toArray true) Q δ:=by
 intro κ a w r
 have h1:=h κ a w r
 rw[Ao]
 refine wpIn_wide.2 ?_
 refine wp_region_quiet (C:=fun w'=>Below w.heap.size w w') hm hB (Below.drew (Below.refl _ _)) ?_
 simpa using h1
theorem a_.nil {q:Md} {ops:Array Oper} {Q:Exit→DS→Prop} (h:Q .normal δ):a_ q P g ops [] Q δ:=fun κ _ _ r=>by
 cases q with
 |quiet=>exact fun w' iP=>⟨δ,κ,h,r.ext iP⟩
 |held=>exact⟨δ,h,rfl,r⟩
 |plain=>exact wpListIn_nil ⟨δ,κ,h,r⟩
def fO (n:Nat) (d:Option Nat):Bool:=match d with|some x=>aY x n && aY x HS|none=>true
theorem fi {n:Nat} {d:Option Nat} (h:fO n d=true):∀x,d=some x→x<n∧x<HS:=by
 rintro x rfl
 simp only[fO,aZ] at h
 exact⟨by simpa using h.1,by simpa using h.2⟩
theorem qi (δ:DS) (d:Option Nat) (v:AV):(δ.eS d v).gm=δ.gm:=by cases d<;>rfl
theorem u0 (δ:DS) (d:Option Nat) (v:AV):(δ.eS d v).lr=δ.lr:=by cases d<;>rfl
theorem a_.val {q:Md} {ops:Array Oper} {o:Oper} {rest:List Oper} {Q:Exit→DS→Prop} (v:AV) (hg:o.guard=none) (jl:jC o=true) (hd:fO δ.n o.dst=true)
  (h:∀κ a w,Rel g δ κ a w→∃u,(∀w',kB δ κ w w'→(execOp a.eval o).run P w'=.ok (.value u) w')∧RA (δ.cx g κ) w u v) (hK:a_ q P g ops rest Q (δ.eS o.dst v)):a_ q P g ops (o::rest) Q δ:=by
 intro κ a w r
 obtain⟨u,h1,h2⟩:=h κ a w r
 have uX:=hK κ _ _ (r.eS (fi hd) h2)
 cases q with
 |quiet=>
  show wpQuiet P ops _ _ (o::rest) a
  unfold wpQuiet
  rw[if_pos (by simp [Region.wanted,hg])]
  refine⟨u,fun w' iP=>?_,uX⟩
  unfold Oper.quietAt
  rw[h1 w' (kB.BQ iP)]
  exact⟨rfl,rfl⟩
 |held=>
  show wc P ops _ _ (o::rest) a
  refine⟨u,.inl ⟨by simp [Region.wanted,hg],fun w' iP=>h1 w' iP⟩,?_⟩
  ·have hH:kB (δ.eS o.dst v) κ w=kB δ κ w:=by unfold kB;rw[u0]
   simp only[hH,qi] at uX
   exact uX
 |plain=>
  show wpListIn _ _ P ops _ (o::rest) a w
  refine gw hg jl fun K nb=>?_
  unfold Oper.wW
  rw[h1 w (kB.refl _ _ _),Oper.uponIn_value]
  exact nb _ _ uX
theorem a_.O_ {q:Md} {ops:Array Oper} {o:Oper} {rest:List Oper} {Q:Exit→DS→Prop} (v:AV) (hq:q≠ .held) (hg:o.guard=none) (jl:jC o=true) (hd:fO δ.n o.dst=true)
  (h:∀κ a w,Rel g δ κ a w→∃u,(∀w',Below w.heap.size w w'→(execOp a.eval o).run P w'=.ok (.value u) w')∧RA (δ.cx g κ) w u v) (hK:a_ q P g ops rest Q (δ.eS o.dst v)):a_ q P g ops (o::rest) Q δ:=by
 intro κ a w r
 obtain⟨u,h1,h2⟩:=h κ a w r
 have uX:=hK κ _ _ (r.eS (fi hd) h2)
 cases q with
 |quiet=>
  show wpQuiet P ops _ _ (o::rest) a
  unfold wpQuiet
  rw[if_pos (by simp [Region.wanted,hg])]
  refine⟨u,fun w' iP=>?_,uX⟩
  unfold Oper.quietAt
  rw[h1 w' iP]
  exact⟨rfl,rfl⟩
 |held=>exact absurd rfl hq
 |plain=>
  show wpListIn _ _ P ops _ (o::rest) a w
  refine gw hg jl fun K nb=>?_
  unfold Oper.wW
  rw[h1 w (Below.refl _ _),Oper.uponIn_value]
  exact nb _ _ uX
def iO (P:Program) (g:eR) (o:Oper) (δ δ':DS):Prop:=∀κ a w,Rel g δ κ a w→
 (∃x v w' κ',(execOp a.eval o).run P w=.ok x w'∧(x=.value v∨(x=.skip∧v=undef))∧Rel g δ' κ' (a.put o.dst v) w')∨
 (∃f vals,(execOp a.eval o).run P w=.ok (.enter f vals) w∧Calls P f vals w fun e w'=>∃v κ',e=.returned v∧Rel g δ' κ' (a.put o.dst v) w')
theorem a_.r_ {ops:Array Oper} {o:Oper} {rest:List Oper} {Q:Exit→DS→Prop} {δ':DS} (hg:o.guard=none) (jl:jC o=true) (h:iO P g o δ δ') (hK:a_ .plain P g ops rest Q δ'):a_ .plain P g ops (o::rest) Q δ:=by
 intro κ a w r
 show wpListIn _ _ P ops _ (o::rest) a w
 refine gw hg jl fun K nb=>?_
 unfold Oper.wW
 rcases h κ a w r with ⟨x,v,w',κ',h1,h2,h3⟩|⟨f,vals,h1,h2⟩
 ·rw[h1]
  rcases h2 with rfl|⟨rfl,rfl⟩
  ·rw[Oper.uponIn_value];exact nb _ _ (hK _ _ _ h3)
  ·rw[Oper.uponIn_skip];exact nb _ _ (hK _ _ _ h3)
 ·rw[h1,Oper.uponIn_enter]
  refine⟨fun h=>by simp at h,(callsIn_wide.2 h2).mono ?_⟩
  rintro e w' ⟨v,κ',rfl,h3⟩
  exact nb _ _ (hK _ _ _ h3)
end Go.Ab
/- The operations' laws over abstract states,one by one. -/
namespace Go.Ab
open Go Go.RowKit
variable {q:Md} {P:Program} {g:eR} {δ:DS} {κ:Kp} {a:Act} {w:World}
variable {ops:Array Oper} {rest:List Oper} {Q:Exit→DS→Prop} {dst:Option Nat} {ty:TypeId} {pos:String} {af:Array Edge}
abbrev eV (n:Int):AV:=.pv (.lit (.int .i64 n))
abbrev fh (b:Bool):AV:=.pv (.lit (.bool b))
theorem a_.jc {op:Op} (v:AV) (hd:fO δ.n dst=true)
  (h:∀κ a w,Rel g δ κ a w→∃u,(∀w',kB δ κ w w'→(execOp a.eval ⟨dst,op,ty,pos,af,none⟩).run P w'=.ok (.value u) w')∧RA (δ.cx g κ) w u v) (hK:a_ q P g ops rest Q (δ.eS dst v)) (jl:jC ⟨dst,op,ty,pos,af,none⟩=true:=by rfl):
  a_ q P g ops (⟨dst,op,ty,pos,af,none⟩::rest) Q δ:=a_.val v rfl jl hd h hK
theorem a_.move {x:Operand} {v:AV} (hx:δ.ev x=v) (ho:ff x=true) (hd:fO δ.n dst=true) (hK:a_ q P g ops rest Q (δ.eS dst v)):a_ q P g ops (⟨dst,.move x,ty,pos,af,none⟩::rest) Q δ:=
 a_.jc v hd (fun κ a w r=>⟨a.eval x,fun _ _=>rfl,hx▸r.CB x (iD ho)⟩) hK
theorem a_.assign {x:Operand} {v:AV} (hx:δ.ev x=v) (ho:ff x=true) (hd:fO δ.n dst=true) (hK:a_ q P g ops rest Q (δ.eS dst v)):a_ q P g ops (⟨dst,.assign x,ty,pos,af,none⟩::rest) Q δ:=
 a_.jc v hd (fun κ a w r=>⟨a.eval x,fun _ _=>rfl,hx▸r.CB x (iD ho)⟩) hK
theorem Rel.lit (r:Rel g δ κ a w) {x:Operand} {v:Value} (hx:δ.ev x=.pv (.lit v)) (ho:ff x=true):a.eval x=v:=(hx▸r.CB x (iD ho)).lit
theorem a_.bin {op:BinOp} {x y:Operand} {t t':TypeId} {u v c:Value} (hx:δ.ev x=.pv (.lit u)) (hy:δ.ev y=.pv (.lit v)) (ho:ff x=true) (fZ:ff y=true)
  (hr:∀w,(do eqGuard op t x y u v;Go.binOp op t u v:Sem Value).run P w=.ok c w) (hd:fO δ.n dst=true) (hK:a_ q P g ops rest Q (δ.eS dst (.pv (.lit c)))):
  a_ q P g ops (⟨dst,.binOp op t x y t',ty,pos,af,none⟩::rest) Q δ:=
 a_.jc _ hd (fun κ a w r=>⟨c,fun w' _=>by
  have h1:=r.lit hx ho
  have h2:=r.lit hy fZ
  have:=hr w'
  simp only[execOp,h1,h2]
  simp only[Sem.run_bind,this,Result.andThen_ok] at*
  first|rfl|simp [this],.pv (.lit c)⟩) hK
theorem mm (op:BinOp) (t:TypeId) (x y:Operand) (k:IntKind) (m n:Int) (c:Value) (hs:op≠ .shl∧op≠ .shr)
  (h:(match op with|.add|.sub|.mul=>Op.intArith op k m n|.quo|.rem=>Op.intDiv op k m n|.and|.or|.xor|.andNot=>Op.intBits op k m n|_=>Op.intCmp op m n:Sem Value)=.pure c) (w:World):
  (do eqGuard op t x y (.int k m) (.int k n);Go.binOp op t (.int k m) (.int k n):Sem Value).run P w=.ok c w:=by
 have h1:(eqGuard op t x y (.int k m) (.int k n)).run P w=.ok () w:=by
  unfold eqGuard
  cases op<;>simp [Sem.run,pure,Sem.bind,bind]
 have h2:Go.binOp op t (.int k m) (.int k n)=.pure c:=by
  rw[← h]
  cases op<;>first|exact absurd rfl hs.1|exact absurd rfl hs.2|simp [Go.binOp]
 simp only[Sem.run_bind,h1,Result.andThen_ok,h2]
 rfl
theorem Kh (m n:Int):(m==n)=decide (m=n):=by by_cases h:m=n<;>simp [h]
theorem KS (m n:Int):(m !=n)=decide (¬m=n):=by by_cases h:m=n<;>simp [h]
section ints
variable {x y:Operand} {t t':TypeId} {m n:Int} (hx:δ.ev x=eV m) (hy:δ.ev y=eV n) (ho:ff x=true) (fZ:ff y=true) (hd:fO δ.n dst=true)
include hx hy ho fZ hd
theorem a_.VS (hK:a_ q P g ops rest Q (δ.eS dst (eV (IntKind.i64.wrap (m+n))))):a_ q P g ops (⟨dst,.binOp .add t x y t',ty,pos,af,none⟩::rest) Q δ:=
 a_.bin hx hy ho fZ (mm _ _ _ _ _ _ _ _ (by simp) rfl) hd hK
theorem a_.Vz (hK:a_ q P g ops rest Q (δ.eS dst (eV (IntKind.i64.wrap (m - n))))):a_ q P g ops (⟨dst,.binOp .sub t x y t',ty,pos,af,none⟩::rest) Q δ:=
 a_.bin hx hy ho fZ (mm _ _ _ _ _ _ _ _ (by simp) rfl) hd hK
theorem a_.V7 (hK:a_ q P g ops rest Q (δ.eS dst (eV (IntKind.i64.wrap (m*n))))):a_ q P g ops (⟨dst,.binOp .mul t x y t',ty,pos,af,none⟩::rest) Q δ:=
 a_.bin hx hy ho fZ (mm _ _ _ _ _ _ _ _ (by simp) rfl) hd hK
theorem a_.add (hb: -9223372036854775808≤m+n∧m+n≤9223372036854775807) (hK:a_ q P g ops rest Q (δ.eS dst (eV (m+n)))):a_ q P g ops (⟨dst,.binOp .add t x y t',ty,pos,af,none⟩::rest) Q δ:=
 a_.VS hx hy ho fZ hd (by rw[IntWalk.i64_in _ hb];exact hK)
theorem a_.sub (hb: -9223372036854775808≤m - n∧m - n≤9223372036854775807) (hK:a_ q P g ops rest Q (δ.eS dst (eV (m - n)))):a_ q P g ops (⟨dst,.binOp .sub t x y t',ty,pos,af,none⟩::rest) Q δ:=
 a_.Vz hx hy ho fZ hd (by rw[IntWalk.i64_in _ hb];exact hK)
theorem a_.mul (hb: -9223372036854775808≤m*n∧m*n≤9223372036854775807) (hK:a_ q P g ops rest Q (δ.eS dst (eV (m*n)))):a_ q P g ops (⟨dst,.binOp .mul t x y t',ty,pos,af,none⟩::rest) Q δ:=
 a_.V7 hx hy ho fZ hd (by rw[IntWalk.i64_in _ hb];exact hK)
theorem a_.lss (hK:a_ q P g ops rest Q (δ.eS dst (fh (decide (m<n))))):a_ q P g ops (⟨dst,.binOp .lss t x y t',ty,pos,af,none⟩::rest) Q δ:=
 a_.bin hx hy ho fZ (mm _ _ _ _ _ _ _ _ (by simp) rfl) hd hK
theorem a_.leq (hK:a_ q P g ops rest Q (δ.eS dst (fh (decide (m≤n))))):a_ q P g ops (⟨dst,.binOp .leq t x y t',ty,pos,af,none⟩::rest) Q δ:=
 a_.bin hx hy ho fZ (mm _ _ _ _ _ _ _ _ (by simp) rfl) hd hK
theorem a_.gtr (hK:a_ q P g ops rest Q (δ.eS dst (fh (decide (n<m))))):a_ q P g ops (⟨dst,.binOp .gtr t x y t',ty,pos,af,none⟩::rest) Q δ:=
 a_.bin hx hy ho fZ (mm _ _ _ _ _ _ _ _ (by simp) rfl) hd hK
theorem a_.geq (hK:a_ q P g ops rest Q (δ.eS dst (fh (decide (n≤m))))):a_ q P g ops (⟨dst,.binOp .geq t x y t',ty,pos,af,none⟩::rest) Q δ:=
 a_.bin hx hy ho fZ (mm _ _ _ _ _ _ _ _ (by simp) rfl) hd hK
theorem a_.eql (hK:a_ q P g ops rest Q (δ.eS dst (fh (decide (m=n))))):a_ q P g ops (⟨dst,.binOp .eql t x y t',ty,pos,af,none⟩::rest) Q δ:=
 a_.bin hx hy ho fZ (mm _ _ _ _ _ _ _ _ (by simp) (by simp only[Op.intCmp,Kh];rfl)) hd hK
theorem a_.neq (hK:a_ q P g ops rest Q (δ.eS dst (fh (decide (¬m=n))))):a_ q P g ops (⟨dst,.binOp .neq t x y t',ty,pos,af,none⟩::rest) Q δ:=
 a_.bin hx hy ho fZ (mm _ _ _ _ _ _ _ _ (by simp) (by simp only[Op.intCmp,KS];rfl)) hd hK
end ints
end Go.Ab
/- The operations' laws,more:lengths,addresses,loads,boxes,stores,aggregates,guards. -/
namespace Go.Ab
open Go Go.RowKit
variable {q:Md} {P:Program} {g:eR} {δ:DS} {κ:Kp} {a:Act} {w:World}
variable {ops:Array Oper} {rest:List Oper} {Q:Exit→DS→Prop} {dst:Option Nat} {ty:TypeId} {pos:String} {af:Array Edge}
theorem RA.k9 {C:Cx} {w:World} {v:Value} {p:PV} (h:RA C w v (.pv p)):RP C.N w v p:=by cases h with|pv h=>exact h
theorem RA.iW {C:Cx} {w:World} {v:Value} {i e k e7} (h:RA C w v (.own i e k e7)):jy C w v i e k e7:=by cases h with|own h=>exact h
theorem Rel.ra (r:Rel g δ κ a w) {x:Operand} {v:AV} (hx:δ.ev x=v) (ho:ff x=true):RA (δ.cx g κ) w (a.eval x) v:=hx▸r.CB x (iD ho)
theorem run_len_slice {t e:TypeId} (ht:P.underlying t=some (.slice e)) (x:Operand) (ρ:Operand→Value) (a0:Option Addr) (n c:Nat) (hx:ρ x=.slice a0 n c) (w:World):
  (execOp ρ ⟨dst,.call {callee:=.builtin .len,args:= #[x],argTypes:= #[t]},ty,pos,af,none⟩).run P w=.ok (.value (.int .i64 n)) w:=by
 simp [execOp,resolve,invoke,builtin,Builtin.len_,run_underlying ht,hx,goInt]
theorem RP.tv {N:Nat→Prop} {w:World} {v:Value} {k:Nat} {e7:List (List PV)} (h:RP N w v (.slice k e7)):∃a c,v=.slice a e7.length c∧e7.length≤140737488355328:=by
 cases h with|slice b off vs hl mM hb=>subst hl;exact⟨_,_,rfl,hb⟩
theorem jy.inv {C:Cx} {w:World} {v:Value} {i e k e7} (h:jy C w v i e k e7):∃a c,v=.slice a e7.length c:=by
 obtain⟨_,_,_,_,xs,ho,_⟩:=h
 rcases ho.2 with ⟨rfl,h0⟩|⟨b,cap,cur,rfl,_⟩
 ·exact⟨none,0,by rw[h0]⟩
 ·exact⟨_,_,rfl⟩
theorem a_.len {x:Operand} {t e:TypeId} {k:Nat} {e7:List (List PV)} (hx:δ.ev x=.pv (.slice k e7)) (ht:P.underlying t=some (.slice e)) (ho:ff x=true) (hd:fO δ.n dst=true)
  (hK:a_ q P g ops rest Q (δ.eS dst (eV (e7.length:Nat)))):a_ q P g ops (⟨dst,.call {callee:=.builtin .len,args:= #[x],argTypes:= #[t]},ty,pos,af,none⟩::rest) Q δ:=
 a_.jc _ hd (fun κ a w r=>by
  obtain⟨a0,c,hv,_⟩:=(r.ra hx ho).k9.tv
  exact⟨_,fun w' _=>run_len_slice ht x a.eval a0 _ c hv w',.pv (.lit _)⟩) hK
theorem a_.jE {α:Type} {x:Operand} {t e:TypeId} {k:Nat} {f:α→List PV} {l:List α} (hx:δ.ev x=.pv (.slice k (l.map f))) (ht:P.underlying t=some (.slice e)) (ho:ff x=true) (hd:fO δ.n dst=true)
  (hK:a_ q P g ops rest Q (δ.eS dst (eV (l.length:Nat)))):a_ q P g ops (⟨dst,.call {callee:=.builtin .len,args:= #[x],argTypes:= #[t]},ty,pos,af,none⟩::rest) Q δ:=
 a_.len hx ht ho hd (by rw[a6];exact hK)
theorem a_.EF {x:Operand} {t e e':TypeId} {i k:Nat} {e7:List (List PV)} (hx:δ.ev x=.own i e' k e7) (ht:P.underlying t=some (.slice e)) (ho:ff x=true) (hd:fO δ.n dst=true)
  (hK:a_ q P g ops rest Q (δ.eS dst (eV (e7.length:Nat)))):a_ q P g ops (⟨dst,.call {callee:=.builtin .len,args:= #[x],argTypes:= #[t]},ty,pos,af,none⟩::rest) Q δ:=
 a_.jc _ hd (fun κ a w r=>by
  obtain⟨a0,c,hv⟩:=(r.ra hx ho).iW.inv
  exact⟨_,fun w' _=>run_len_slice ht x a.eval a0 _ c hv w',.pv (.lit _)⟩) hK
theorem a_.iy {α:Type} {x:Operand} {t e e':TypeId} {i k:Nat} {f:α→List PV} {l:List α} (hx:δ.ev x=.own i e' k (l.map f)) (ht:P.underlying t=some (.slice e)) (ho:ff x=true) (hd:fO δ.n dst=true)
  (hK:a_ q P g ops rest Q (δ.eS dst (eV (l.length:Nat)))):a_ q P g ops (⟨dst,.call {callee:=.builtin .len,args:= #[x],argTypes:= #[t]},ty,pos,af,none⟩::rest) Q δ:=
 a_.EF hx ht ho hd (by rw[a6];exact hK)
theorem a_.fact {l:List Oper} {φ:Prop} (h:∀κ a w,Rel g δ κ a w→φ) (hK:φ→a_ q P g ops l Q δ):a_ q P g ops l Q δ:=fun κ a w r=>hK (h κ a w r) κ a w r
theorem AW.fact {c:Code} {φ:Prop} (h:∀κ a w,Rel g δ κ a w→φ) (hK:φ→AW P g c Q δ):AW P g c Q δ:=fun κ a w r=>hK (h κ a w r) κ a w r
theorem Rel.len (r:Rel g δ κ a w) {j k:Nat} {e7:List (List PV)} (h:δ.get j=.pv (.slice k e7)):e7.length≤140737488355328:=by
 have:=r.env j
 rw[h] at this
 obtain⟨_,_,_,h⟩:=this.k9.tv
 exact h
theorem AW.len {c:Code} (j:Nat) {k:Nat} {e7:List (List PV)} (h:δ.get j=.pv (.slice k e7)) (hK:e7.length≤140737488355328→AW P g c Q δ):AW P g c Q δ:=AW.fact (fun _ _ _ r=>r.len h) hK
theorem AW.jE {α:Type} {c:Code} (j:Nat) {k:Nat} {f:α→List PV} {l:List α} (h:δ.get j=.pv (.slice k (l.map f))) (hK:l.length≤140737488355328→AW P g c Q δ):AW P g c Q δ:=
 AW.fact (fun _ _ _ r=>by have:=r.len h;simpa using this) hK
theorem iq {t e:TypeId} {k:Nat} (ht:P.underlying t=some (.slice e)) (hk:(P.info? e).map (·.size)=some k) {x y:Operand} {ρ:Operand→Value} {b off len c n:Nat} {ik:IntKind}
  (hx:ρ x=.slice (some ⟨b,off,none⟩) len c) (hy:ρ y=.int ik (n:Int)) (hn:n<len) (w:World):
  (execOp ρ ⟨dst,.indexAddr t x y,ty,pos,af,none⟩).run P w=.ok (.value (.pointer (some ⟨b,off+n*k,none⟩))) w:=by
 obtain⟨i0,ju,nE⟩:∃i0,P.info? e=some i0∧i0.size=k:=by
  cases h:P.info? e with
  |none=>rw[h] at hk;simp at hk
  |some i0=>rw[h] at hk;exact⟨i0,rfl,by simpa using hk⟩
 have h1:(0:Int)≤n∧(n:Int)<len:=by omega
 have UO:(⟨b,off,none⟩:Addr).add (n*k)=⟨b,off+n*k,none⟩:=by unfold Addr.add;split<;>simp_all
 simp [execOp,Instr.indexAt,asIntOf,run_underlying ht,hx,hy,h1,sizeOf,typeInfo,ju,nE,UO]
 intro h;omega
theorem a_.B5 {x y:Operand} {t e:TypeId} {k n:Nat} {ik:IntKind} {e7:List (List PV)} {cs:List PV} (hx:δ.ev x=.pv (.slice k e7)) (hy:δ.ev y=.pv (.lit (.int ik (n:Int)))) (hn:e7[n]? =some cs)
  (ht:P.underlying t=some (.slice e)) (hk:(P.info? e).map (·.size)=some k) (ho:ff x=true) (fZ:ff y=true) (hd:fO δ.n dst=true)
  (hK:a_ q P g ops rest Q (δ.eS dst (.fV cs))):a_ q P g ops (⟨dst,.indexAddr t x y,ty,pos,af,none⟩::rest) Q δ:=
 a_.jc _ hd (fun κ a w r=>by
  have h1:=(r.ra hx ho).k9
  generalize hv:a.eval x=v at h1
  cases h1 with
  |slice b off vs hl mM hb ha ED hc hr=>
   have fm:n<e7.length:=(aW.1 hn).1
   obtain⟨h1,h2,h3⟩:=ha (by intro e;subst e;simp at hn)
   subst h1
   refine⟨_,fun w' _=>iq ht hk hv (r.lit hy fZ) aJ w',.fV b (off+n*k) (fun j=>vs n j) h2 h3 (fun j p hp=>?_) (fun j p hp=>?_)⟩
   ·exact hc n j p (by simp [cellAt,hn,hp])
   ·exact hr n j p (by simp [cellAt,hn,hp])) hK
theorem a_.xW {α:Type} {x y:Operand} {t e:TypeId} {k n:Nat} {ik:IntKind} {f:α→List PV} {l:List α} (hx:δ.ev x=.pv (.slice k (l.map f))) (hy:δ.ev y=.pv (.lit (.int ik (n:Int)))) (hn:n<l.length)
  (ht:P.underlying t=some (.slice e)) (hk:(P.info? e).map (·.size)=some k) (ho:ff x=true) (fZ:ff y=true) (hd:fO δ.n dst=true)
  (hK:a_ q P g ops rest Q (δ.eS dst (.fV (f l[n])))):a_ q P g ops (⟨dst,.indexAddr t x y,ty,pos,af,none⟩::rest) Q δ:=
 a_.B5 hx hy (by rw[a7,a8 hn];rfl) ht hk ho fZ hd hK
theorem a_.qj {x y:Operand} {t e e':TypeId} {i k n:Nat} {ik:IntKind} {e7:List (List PV)} (hx:δ.ev x=.own i e' k e7) (hy:δ.ev y=.pv (.lit (.int ik (n:Int)))) (hn:n<e7.length)
  (ht:P.underlying t=some (.slice e)) (hk:(P.info? e).map (·.size)=some k) (ho:ff x=true) (fZ:ff y=true) (hd:fO δ.n dst=true)
  (hK:a_ q P g ops rest Q (δ.eS dst (.gJ i e' k e7 n))):a_ q P g ops (⟨dst,.indexAddr t x y,ty,pos,af,none⟩::rest) Q δ:=
 a_.jc _ hd (fun κ a w r=>by
  have h1:=(r.ra hx ho).iW
  have h0:=h1
  obtain⟨_,_,_,_,xs,gF,_⟩:=h1
  rcases gF.2 with ⟨_,h⟩|⟨b,cap,cur,hv,_⟩
  ·omega
  ·refine⟨.pointer (some ⟨b,n*k,none⟩),fun w' _=>?_,?_⟩
   ·have:=iq (dst:=dst) (ty:=ty) (pos:=pos) (af:=af) ht hk hv (r.lit hy fZ) hn w';rw[ba] at this;exact this
   exact .gJ hn (hv▸h0)) hK
def jW (P:Program) (t:TypeId):Bool:=match P.underlying t with|some (.struct _)|some (.array _ _)|none=>false|_=>true
def zu (P:Program) (t:TypeId) (n:Nat):Bool:=(match P.underlying t with|some (.struct _)|some (.array _ _)=>true|_=>false) && ((P.info? t).map (·.size)==some n)
theorem n6 {t:TypeId} (h:jW P t=true) (w:World):(isAgg t).run P w=.ok false w:=by
 unfold jW at h
 cases hu:P.underlying t with
 |none=>rw[hu] at h;simp at h
 |some d=>
  rw[hu] at h
  simp only[isAgg,Sem.run_bind,run_underlying hu,Result.andThen_ok]
  cases d<;>first|rfl|(simp at h)
theorem qF {t:TypeId} {n:Nat} (h:zu P t n=true) (w:World):(isAgg t).run P w=.ok true w∧(sizeOf t).run P w=.ok n w:=by
 unfold zu at h
 simp only[aZ,beq_iff_eq] at h
 obtain⟨h1,h2⟩:=h
 constructor
 ·cases hu:P.underlying t with
  |none=>rw[hu] at h1;simp at h1
  |some d=>
   rw[hu] at h1
   simp only[isAgg,Sem.run_bind,run_underlying hu,Result.andThen_ok]
   cases d<;>first|rfl|(simp at h1)
 ·cases hi:P.info? t with
  |none=>rw[hi] at h2;simp at h2
  |some i=>rw[hi] at h2;simp [sizeOf,typeInfo,hi];simpa using h2
theorem kr {t:TypeId} (h:jW P t=true) {x:Operand} {ρ:Operand→Value} {ad:Addr} {v:Value} {w:World} (hx:ρ x=.pointer (some ad)) (hc:w.cell? ad=some v):
  (execOp ρ ⟨dst,.load t x,ty,pos,af,none⟩).run P w=.ok (.value v) w:=by
 simp [execOp,Instr.loadAt,Instr.sureAddr,loadVar,n6 h,hx,load,Sem.run,hc]
theorem sz {t:TypeId} {n:Nat} (h:zu P t n=true) {x:Operand} {ρ:Operand→Value} {ad:Addr} {f:Nat→Value} {w:World} (hx:ρ x=.pointer (some ad)) (hc:∀j,j<n→w.cell? (ad.add j)=some (f j)):
  (execOp ρ ⟨dst,.load t x,ty,pos,af,none⟩).run P w=.ok (.value (.agg ((bc n).map f).toArray)) w:=by
 have h1:=run_loadCells (P:=P) (w:=w) ad n f hc
 simp [execOp,Instr.loadAt,Instr.sureAddr,loadVar,qF h,hx,h1]
theorem addr_add (b off j:Nat):(⟨b,off,none⟩:Addr).add j=⟨b,off+j,none⟩:=by unfold Addr.add;split<;>simp_all
theorem a_.L4 {x:Operand} {t:TypeId} {p:PV} (hx:δ.ev x=.fV [p]) (ht:jW P t=true) (ho:ff x=true) (hd:fO δ.n dst=true)
  (hK:a_ q P g ops rest Q (δ.eS dst (.pv p))):a_ q P g ops (⟨dst,.load t x,ty,pos,af,none⟩::rest) Q δ:=
 a_.jc _ hd (fun κ a w r=>by
  have h1:=r.ra hx ho
  generalize hv:a.eval x=v at h1
  cases h1 with
  |fV b off vs hN hb hc hr=>
   have h2:=(hc 0 p rfl).1
   rw[bd] at h2
   exact⟨_,fun w' iP=>kr ht hv ((iP.cell (ad:=⟨b,off,none⟩) hb ⟨fun i hi=>hN.2 i (DS.gA hi),hN.1.2⟩).trans h2),.pv (hr 0 p rfl)⟩) hK
theorem a_.zK {x:Operand} {t:TypeId} {cs:List PV} (hx:δ.ev x=.fV cs) (ht:zu P t cs.length=true) (ho:ff x=true) (hd:fO δ.n dst=true)
  (hK:a_ q P g ops rest Q (δ.eS dst (.agg (cs.map .pv)))):a_ q P g ops (⟨dst,.load t x,ty,pos,af,none⟩::rest) Q δ:=
 a_.jc _ hd (fun κ a w r=>by
  have h1:=r.ra hx ho
  generalize hv:a.eval x=v at h1
  cases h1 with
  |fV b off vs hN hb hc hr=>
   refine⟨_,fun w' iP=>sz ht hv (f:=vs) (fun j hj=>?_),.agg (by simp) (fun j u c h1 h2=>?_)⟩
   ·rw[addr_add];exact(iP.cell (ad:=⟨b,off+j,none⟩) hb ⟨fun i hi=>hN.2 i (DS.gA hi),hN.1.2⟩).trans (hc j _ (a8 hj)).1
   ·simp only[bf,a7,bg,bh] at h1 h2
    obtain⟨p,hp,rfl⟩:=h2
    obtain⟨j',ng,rfl⟩:=h1
    have:j'=j:=by
     rw[aW] at ng
     obtain⟨_,h⟩:=ng
     simpa using h.symm
    subst this
    exact .pv (hr _ p hp)) hK
theorem a_.Ea (hq:q≠ .held) {x:Operand} {t e:TypeId} {i n:Nat} {e7:List (List PV)} {p:PV} (hx:δ.ev x=.gJ i e 1 e7 n) (hp:e7[n]? =some [p]) (ht:jW P t=true) (ho:ff x=true) (hd:fO δ.n dst=true)
  (hK:a_ q P g ops rest Q (δ.eS dst (.pv p))):a_ q P g ops (⟨dst,.load t x,ty,pos,af,none⟩::rest) Q δ:=
 a_.O_ _ hq rfl rfl hd (fun κ a w r=>by
  have h1:=r.ra hx ho
  generalize hv:a.eval x=v at h1
  cases h1 with
  | @gJ _ _ _ _ _ b cap hi h=>
   obtain⟨_,_,_,_,xs,gF,_,J6⟩:=h
   obtain⟨u,h1,h2⟩:=J6 n 0 p (by simp [cellAt,hp])
   have h3:=gF.cellAt (n*1) (by omega)
   have fm:b<w.heap.size:=(gF.lt b rfl).2
   exact⟨u,fun w' iP=>kr ht hv ((iP.cell (p:=⟨b,n*1,none⟩) fm).trans (h3.trans h1)),.pv h2⟩) hK
theorem a_.BN (hq:q≠ .held) {α:Type} {x:Operand} {t e:TypeId} {i n:Nat} {f:α→PV} {l:List α} (hx:δ.ev x=.gJ i e 1 (l.map fun z=>[f z]) n) (hn:n<l.length) (ht:jW P t=true) (ho:ff x=true) (hd:fO δ.n dst=true)
  (hK:a_ q P g ops rest Q (δ.eS dst (.pv (f l[n])))):a_ q P g ops (⟨dst,.load t x,ty,pos,af,none⟩::rest) Q δ:=
 a_.Ea hq hx (by rw[a7,a8 hn];rfl) ht ho hd hK
theorem a_.guard {op:Op} {gj:Nat} {want b:Bool} {d:Nat} {o':Oper} (ho:ops[gj]? =some o') (hd:o'.dst=some d) (u_:aY d HS=true) (vu:aY d δ.n=true) (hb:δ.get d=fh b) (vL:fO δ.n dst=true)
  (hy:b=want→a_ q P g ops (⟨dst,op,ty,pos,af,none⟩::rest) Q δ) (hn:b=!want→a_ q P g ops rest Q (δ.eS dst (.pv (.lit undef)))):a_ q P g ops (⟨dst,op,ty,pos,af,some (gj,want)⟩::rest) Q δ:=by
 intro κ a w r
 have fm:d<HS:=by simpa using u_
 have Fz:d<δ.n:=by simpa using vu
 have hv:a.tmps.getD d undef=.bool b:=by
  have:=r.env d
  rw[hb] at this
  unfold eR.val at this
  rw[if_pos fm] at this
  exact this.lit
 have MB:a.tmps[d]? =some (.bool b):=by
  rw[← r.n] at Fz
  rw[aR,aN Fz] at hv
  rw[aN Fz]
  exact congrArg some hv
 have F3:yielded ops a.tmps gj=some b:=by
  simp [yielded,ho,hd,MB]
 cases q with
 |quiet=>
  by_cases x7:b=want
  ·have h1:=hy x7 κ a w r
   simp only at h1 ⊢
   unfold wpQuiet at h1 ⊢
   simp only[Region.wanted,if_true] at h1
   rw[if_pos (by simp [Region.wanted,F3,x7])]
   exact h1
  ·have h1:=hn (by cases b<;>cases want<;>simp_all) κ _ w (r.eS (v:=undef) (fi vL) (.pv (.lit _)))
   simp only at h1 ⊢
   unfold wpQuiet
   rw[if_neg (by simp [Region.wanted,F3];exact x7)]
   exact h1
 |held=>
  by_cases x7:b=want
  ·have h1:=hy x7 κ a w r
   simp only at h1 ⊢
   obtain⟨v,h1,h2⟩:=h1
   refine⟨v,.inl ⟨by simp [Region.wanted,F3,x7],?_⟩,h2⟩
   rcases h1 with ⟨_,h1⟩|⟨h1,_⟩
   ·exact h1
   ·simp [Region.wanted] at h1
  ·have h1:=hn (by cases b<;>cases want<;>simp_all) κ _ w (r.eS (v:=undef) (fi vL) (.pv (.lit _)))
   have hH:kB (δ.eS dst (.pv (.lit undef))) κ w=kB δ κ w:=by unfold kB;rw[u0]
   simp only[hH,qi] at h1 ⊢
   exact⟨undef,.inr ⟨by simp [Region.wanted,F3];exact x7,rfl⟩,h1⟩
 |plain=>
 by_cases x7:b=want
 ·have h1:=hy x7 κ a w r
  simp only at h1 ⊢
  unfold wpListIn at h1 ⊢
  simp only[Region.wanted,if_true] at h1
  rw[if_pos (by simp [Region.wanted,F3,x7])]
  exact h1
 ·have h1:=hn (by cases b<;>cases want<;>simp_all) κ _ w (r.eS (v:=undef) (fi vL) (.pv (.lit _)))
  simp only at h1 ⊢
  unfold wpListIn
  rw[if_neg (by simp [Region.wanted,F3];exact x7)]
  exact⟨fun _ _=>trivial,h1⟩
theorem a_.Kj {op:Op} {gj d:Nat} {want:Bool} {o':Oper} (ho:ops[gj]? =some o') (hd:o'.dst=some d) (u_:aY d HS=true) (vu:aY d δ.n=true) (hb:δ.get d=.pv (.lit undef)) (vL:fO δ.n dst=true)
  (hn:a_ q P g ops rest Q (δ.eS dst (.pv (.lit undef)))):a_ q P g ops (⟨dst,op,ty,pos,af,some (gj,want)⟩::rest) Q δ:=by
 intro κ a w r
 have fm:d<HS:=by simpa using u_
 have Fz:d<δ.n:=by simpa using vu
 have hv:a.tmps.getD d undef=undef:=by
  have:=r.env d
  rw[hb] at this
  unfold eR.val at this
  rw[if_pos fm] at this
  exact this.lit
 have F3:yielded ops a.tmps gj=none:=by
  have MB:a.tmps[d]? =some undef:=by
   rw[← r.n] at Fz
   rw[aR,aN Fz] at hv
   rw[aN Fz]
   exact congrArg some hv
  simp [yielded,ho,hd,MB,undef]
 have h1:=hn κ _ w (r.eS (v:=undef) (fi vL) (.pv (.lit _)))
 cases q with
 |quiet=>
  simp only at h1 ⊢
  unfold wpQuiet
  rw[if_neg (by simp [Region.wanted,F3])]
  exact h1
 |held=>
  have hH:kB (δ.eS dst (.pv (.lit undef))) κ w=kB δ κ w:=by unfold kB;rw[u0]
  simp only[hH,qi] at h1 ⊢
  exact⟨undef,.inr ⟨by simp [Region.wanted,F3],rfl⟩,h1⟩
 |plain=>
  simp only at h1 ⊢
  unfold wpListIn
  rw[if_neg (by simp [Region.wanted,F3])]
  exact⟨fun _ _=>trivial,h1⟩
theorem a_.pick {x y z:Operand} {b:Bool} {v:AV} (hx:δ.ev x=fh b) (ho:ff x=true) (kv:ff y=true) (oA:ff z=true) (hy:b=true→δ.ev y=v) (hz:b=false→δ.ev z=v) (hd:fO δ.n dst=true)
  (hK:a_ q P g ops rest Q (δ.eS dst v)):a_ q P g ops (⟨dst,.pick x y z,ty,pos,af,none⟩::rest) Q δ:=
 a_.jc _ hd (fun κ a w r=>by
  have h1:=r.lit hx ho
  cases b with
  |true=>exact⟨a.eval y,fun w' _=>by simp [execOp,h1,asBool],r.ra (hy rfl) kv⟩
  |false=>exact⟨a.eval z,fun w' _=>by simp [execOp,h1,asBool],r.ra (hz rfl) oA⟩) hK
theorem a_.not {x:Operand} {t:TypeId} {b:Bool} (hx:δ.ev x=fh b) (ho:ff x=true) (hd:fO δ.n dst=true) (hK:a_ q P g ops rest Q (δ.eS dst (fh (!b)))):
  a_ q P g ops (⟨dst,.unOp .not t x,ty,pos,af,none⟩::rest) Q δ:=
 a_.jc _ hd (fun κ a w r=>⟨.bool !b,fun w' _=>by simp [execOp,r.lit hx ho,Op.unary],.pv (.lit _)⟩) hK
theorem a_.Wz {x:Operand} {t:TypeId} {m:Int} (hx:δ.ev x=eV m) (ho:ff x=true) (hd:fO δ.n dst=true) (hK:a_ q P g ops rest Q (δ.eS dst (eV (IntKind.i64.wrap (0 - m))))):
  a_ q P g ops (⟨dst,.unOp .neg t x,ty,pos,af,none⟩::rest) Q δ:=
 a_.jc _ hd (fun κ a w r=>⟨.int .i64 (IntKind.i64.wrap (0 - m)),fun w' _=>by simp [execOp,r.lit hx ho,Op.unary,Op.intArith],.pv (.lit _)⟩) hK
theorem a_.neg {x:Operand} {t:TypeId} {m:Int} (hx:δ.ev x=eV m) (ho:ff x=true) (hd:fO δ.n dst=true) (hb: -9223372036854775808≤0 - m∧0 - m≤9223372036854775807) (hK:a_ q P g ops rest Q (δ.eS dst (eV (-m)))):
  a_ q P g ops (⟨dst,.unOp .neg t x,ty,pos,af,none⟩::rest) Q δ:=
 a_.Wz hx ho hd (by rw[IntWalk.i64_in _ hb,Int.zero_sub];exact hK)
theorem a_.conv {x:Operand} {s t:TypeId} {ks kt:IntKind} {d:TypeDesc} {m:Int} (hx:δ.ev x=.pv (.lit (.int ks m))) (hs:P.underlying s=some d) (ht:P.underlying t=some (.int kt)) (ho:ff x=true) (hd:fO δ.n dst=true)
  (hK:a_ q P g ops rest Q (δ.eS dst (.pv (.lit (.int kt (kt.wrap m)))))):a_ q P g ops (⟨dst,.convert s t x,ty,pos,af,none⟩::rest) Q δ:=
 a_.jc _ hd (fun κ a w r=>⟨.int kt (kt.wrap m),fun w' _=>by simp [execOp,r.lit hx ho,convert,run_underlying hs,run_underlying ht,Conv.intToInt],.pv (.lit _)⟩) hK
theorem a_.extract {x:Operand} {i:Nat} {vs:List AV} {v:AV} (hx:δ.ev x=.gX vs) (hv:vs[i]? =some v) (ho:ff x=true) (hd:fO δ.n dst=true) (hK:a_ q P g ops rest Q (δ.eS dst v)):
  a_ q P g ops (⟨dst,.extract x i,ty,pos,af,none⟩::rest) Q δ:=
 a_.jc _ hd (fun κ a w r=>by
  have h1:=r.ra hx ho
  generalize hu:a.eval x=u at h1
  cases h1 with
  | @gX us _ hs h=>
   have fm:i<us.size:=by rw[hs];exact(aW.1 hv).1
   refine⟨us[i],fun w' _=>by simp [execOp,hu,Instr.extract,aN fm],h i _ _ (aN fm) hv⟩) hK
theorem a_.fj {x:Operand} {i off:Nat} (hx:δ.ev x=.ptr i off) (ho:ff x=true) (hd:fO δ.n dst=true) (hK:a_ q P g ops rest Q (δ.eS dst (.ptr i off))):
  a_ q P g ops (⟨dst,.nilCheck x,ty,pos,af,none⟩::rest) Q δ:=
 a_.jc _ hd (fun κ a w r=>by
  have h1:=r.ra hx ho
  generalize hu:a.eval x=u at h1
  cases h1 with
  |ptr hl hκ=>exact⟨_,fun w' _=>by simp [execOp,hu],.ptr hl hκ⟩) hK
end Go.Ab
/- Contracts of functions over told values;entering a function,returning from it,calling by contract. -/
namespace Go.Ab
open Go Go.RowKit
variable {P:Program} {g:eR} {δ:DS} {κ:Kp} {a:Act} {w:World}
variable {ops:Array Oper} {rest:List Oper} {Q:Exit→DS→Prop} {dst:Option Nat} {ty:TypeId} {pos:String} {af:Array Edge}
def uU (N:Nat→Prop):Cx:={B:=0,κ:=⟨fun _=>none,fun _ _=>False⟩,N,Lr:=fun _=>False,Lb:=fun _=>False}
structure Fn (P:Program) (f:FuncId) (args:List AV) (r:AV):Prop where
 enters:∀vals w,(callFunc f vals).run P w=.ok (.enter f vals) w
 calls:∀(N:Nat→Prop) (w:World) (vals:Array Value),(∀b,w.heap.size≤b→N b)→vals.size=args.length→
  (∀(j:Nat) (v:Value) (av:AV),vals[j]? =some v→args[j]? =some av→RA (uU N) w v av)→
  Calls P f vals w fun e w'=>∃v,e=.returned v∧RA (uU N) w' v r∧Below w.heap.size w w'
theorem RA.sR {N:Nat→Prop} {w:World} {v:Value} {av:AV} (h:RA (uU N) w v av) (C:Cx) (hN:∀b,b<w.heap.size→N b→C.N b):RA C w v av:=by
 have hp:∀{v:Value} {p:PV},RP N w v p→RP C.N w v p:=fun h=>h.mono (aP _) fun b h1 h2=>⟨hN b h1 h2,rfl⟩
 induction h with
 |any v=>exact .any v
 |pv h=>exact .pv (hp h)
 |own h=>exact h.live.elim
 |ptr hl hκ=>exact hl.elim
 |fV b off vs GL hb hc hr=>exact .fV b off vs (hN b hb GL) hb hc (fun j p h=>hp (hr j p h))
 |gJ hi h=>exact h.live.elim
 |agg hs h ih=>exact .agg hs ih
 |gX hs h ih=>exact .gX hs ih
 |jk hs h ht h' ih ih'=>exact .jk hs ih ht ih'
 |gq hl hκ=>exact hl.elim
 |kO hl hκ=>exact hl.elim
inductive Le (ow:Bool):AV→AV→Prop
 |any (v:AV):Le ow v .any
 |pv (p:PV):Le ow (.pv p) (.pv p)
 |nil (k:Nat):Le ow (.pv (.lit (.slice none 0 0))) (.pv (.slice k []))
 |own (i e k e7) (h:ow=true):Le ow (.own i e k e7) (.pv (.slice k e7))
 |fV (c:List PV):Le ow (.fV c) (.fV c)
 |agg {cs ds:List AV} (hl:cs.length=ds.length) (h:∀(j:Nat) (c d:AV),cs[j]? =some c→ds[j]? =some d→Le ow c d):Le ow (.agg cs) (.agg ds)
 |gX {cs ds:List AV} (hl:cs.length=ds.length) (h:∀(j:Nat) (c d:AV),cs[j]? =some c→ds[j]? =some d→Le ow c d):Le ow (.gX cs) (.gX ds)
inductive lY (ow:Bool):List AV→List AV→Prop
 |nil:lY ow [] []
 |cons {c d:AV} {cs ds:List AV} (h:Le ow c d) (hs:lY ow cs ds):lY ow (c::cs) (d::ds)
theorem lY.len {ow:Bool} {cs ds:List AV} (h:lY ow cs ds):cs.length=ds.length:=by induction h with|nil=>rfl|cons h hs ih=>simp [ih]
theorem lY.at {ow:Bool} {cs ds:List AV} (h:lY ow cs ds):∀(j:Nat) (c d:AV),cs[j]? =some c→ds[j]? =some d→Le ow c d:=by
 induction h with
 |nil=>intro j c d h1;simp at h1
 |cons h hs ih=>
  intro j c d h1 h2
  cases j with
  |zero=>simp at h1 h2;subst h1;subst h2;exact h
  |succ j=>exact ih j c d (by simpa using h1) (by simpa using h2)
theorem Le.rn {ow:Bool} {cs ds:List AV} (h:lY ow cs ds):Le ow (.agg cs) (.agg ds):=.agg h.len h.at
theorem Le.Vp {ow:Bool} {cs ds:List AV} (h:lY ow cs ds):Le ow (.gX cs) (.gX ds):=.gX h.len h.at
theorem jy.pv {C:Cx} {w:World} {v:Value} {i e k e7} (h:jy C w v i e k e7) {N:Nat→Prop} (hN:∀b,b<w.heap.size→C.N b→N b) (hκ:∀i b,C.Lr i→C.κ i=some b→N b):RP N w v (.slice k e7):=by
 obtain⟨hl,mb,hk,hb,xs,ho,h1,hx⟩:=h
 have fZ:=ho
 rcases ho.2 with ⟨rfl,h0⟩|⟨b,cap,cur,rfl,h2,h3,h4⟩
 ·have:e7=[]:=bj h0
  subst this
  exact .slice 0 0 (fun _ _=>undef) rfl (bm _) (by simp) (fun h=>absurd rfl h) (by simp) (fun i j p h=>by simp [cellAt] at h) (fun i j p h=>by simp [cellAt] at h)
 ·refine .slice b 0 (fun i j=>(xs[i*k+j]?).getD undef) rfl h4.1 mb (fun _=>⟨rfl,hκ i b hl (hb b rfl),(aO.1 h3).1⟩) hk (fun i j p hp=>?_) (fun i j p hp=>?_)
  ·obtain⟨u,hu,_⟩:=hx i j p hp
   have fm:i*k+j<e7.length*k:=by have:=(aW.1 hu).1;rw[← ho.1];exact this
   simp only[hu,bn,ba]
   exact⟨(fZ.cellAt _ fm).trans hu,h1 u (aU hu)⟩
  ·obtain⟨u,hu,hr⟩:=hx i j p hp
   simp only[hu,bn]
   exact hr.mono (aP _) fun b h1 h2=>⟨hN b h1 h2,rfl⟩
theorem RA.le {ow:Bool} {C:Cx} {w:World} {v:Value} {av r:AV} (h:RA C w v av) (hle:Le ow av r) {N:Nat→Prop} (hN:∀b,b<w.heap.size→C.N b→N b) (hκ:ow=true→∀i b,C.Lr i→C.κ i=some b→N b):RA (uU N) w v r:=by
 induction hle generalizing v with
 |any v=>exact .any _
 |pv p=>exact .pv (h.k9.mono (aP _) fun b h1 h2=>⟨hN b h1 h2,rfl⟩)
 |nil k=>cases h.lit;exact .pv (.slice 0 0 (fun _ _=>undef) rfl (bm _) (by simp) (fun h=>absurd rfl h) (by simp) (fun i j p h=>by simp [cellAt] at h) (fun i j p h=>by simp [cellAt] at h))
 |own i e k e7 Zr=>exact .pv (h.iW.pv hN (hκ Zr))
 |fV c=>
  cases h with
  |fV b off vs GL hb hc hr=>exact .fV b off vs (hN b hb GL) hb hc (fun j p h=>(hr j p h).mono (aP _) fun b h1 h2=>⟨hN b h1 h2,rfl⟩)
 | @agg cs ds hl _ ih=>
  cases h with
  |agg hs h=>
   refine .agg (hs.trans hl) fun j u d h1 h2=>?_
   have fm:j<cs.length:=by rw[hl];exact(aW.1 h2).1
   exact ih j _ d (a8 fm) h2 (h j u _ h1 (a8 fm))
 | @gX cs ds hl _ ih=>
  cases h with
  |gX hs h=>
   refine .gX (hs.trans hl) fun j u d h1 h2=>?_
   have fm:j<cs.length:=by rw[hl];exact(aW.1 h2).1
   exact ih j _ d (a8 fm) h2 (h j u _ h1 (a8 fm))
theorem ia {ro:Option Nat} {f:FuncId} {vals:Array Value} {R:Ending→World→Prop} (h:Calls P f vals w R):CallsIn (Fw ro) 0 P f vals w R:=callsIn_wide.2 h
inductive oC (ow:Bool) (δ:DS):List Operand→List AV→Prop
 |nil:oC ow δ [] []
 |cons {x:Operand} {v:AV} {xs:List Operand} {vs:List AV} (ho:ff x=true) (h:Le ow (δ.ev x) v) (hs:oC ow δ xs vs):oC ow δ (x::xs) (v::vs)
theorem oC.len {ow:Bool} {xs:List Operand} {vs:List AV} (h:oC ow δ xs vs):xs.length=vs.length:=by induction h with|nil=>rfl|cons ho h hs ih=>simp [ih]
theorem oC.at {ow:Bool} {xs:List Operand} {vs:List AV} (h:oC ow δ xs vs):∀(j:Nat) (x:Operand) (v:AV),xs[j]? =some x→vs[j]? =some v→ff x=true∧Le ow (δ.ev x) v:=by
 induction h with
 |nil=>intro j x v h1;simp at h1
 |cons ho h hs ih=>
  intro j x v h1 h2
  cases j with
  |zero=>simp at h1 h2;subst h1;subst h2;exact⟨ho,h⟩
  |succ j=>exact ih j x v (by simpa using h1) (by simpa using h2)
inductive Flat:AV→Prop
 |any:Flat .any
 |lit (v:Value):Flat (.pv (.lit v))
 |gX {vs:List AV} (h:∀v∈vs,Flat v):Flat (.gX vs)
 |agg {vs:List AV} (h:∀v∈vs,Flat v):Flat (.agg vs)
theorem Flat.ra {v:AV} (hf:Flat v) {C C':Cx} {w w':World} {u:Value} (h:RA C w u v):RA C' w' u v:=by
 induction hf generalizing u with
 |any=>exact .any _
 |lit v=>rw[h.lit];exact .pv (.lit _)
 |gX hv ih=>cases h with|gX hs h=>exact .gX hs fun j u c h1 h2=>ih c (aU h2) (h j u c h1 h2)
 |agg hv ih=>cases h with|agg hs h=>exact .agg hs fun j u c h1 h2=>ih c (aU h2) (h j u c h1 h2)
theorem iB {x:Operand} {f:FuncId} {xs tys:Array _} {ρ:Operand→Value} (hx:ρ x=.func (.func f) #[] #[]) (he:∀vals w,(callFunc f vals).run P w=.ok (.enter f vals) w) (w:World):
  (execOp ρ ⟨dst,.call {callee:=.value x,args:=xs,argTypes:=tys},ty,pos,af,none⟩).run P w=.ok (.enter f (xs.map ρ)) w:=by
 simp [execOp,resolve,Deferred.ofValue,invoke,hx,he]
theorem oC.J1 {ow:Bool} {xs:List Operand} {args:List AV} (h:oC ow δ xs args) (r:Rel g δ κ a w) {N:Nat→Prop} (hN:∀b,b<w.heap.size→(δ.cx g κ).N b→N b) (hκ:ow=true→∀i b,δ.lr i→κ i=some b→N b):
  ∀(j:Nat) (v:Value) (av:AV),(xs.toArray.map a.eval)[j]? =some v→args[j]? =some av→RA (uU N) w v av:=by
 intro j v av h1 h2
 simp only[bp,bf,a7,bg] at h1
 obtain⟨x,hx,rfl⟩:=h1
 obtain⟨ho,hle⟩:=h.at j x av hx h2
 exact(r.CB x (iD ho)).le hle hN hκ
mutual
def AV.rY:AV→Bool
 |.pv (.lit _)=>true
 |.agg cs=>AV.IV cs
 |.gX cs=>AV.IV cs
 |_=>false
def AV.IV:List AV→Bool
 |[]=>true
 |c::cs=>c.rY && AV.IV cs
end
theorem AV.r8:∀{l:List AV},AV.IV l=true→∀(j:Nat) (c:AV),l[j]? =some c→c.rY=true
 |[],_,j,c,h=>by simp at h
 |x::l,h,j,c,hj=>by
  simp only[AV.IV,aZ] at h
  cases j with
  |zero=>simp at hj;subst hj;exact h.1
  |succ j=>exact AV.r8 h.2 j c (by simpa using hj)
theorem RA.rY {C C':Cx} {w w':World} {u u':Value} {av:AV} (h:RA C w u av) (h':RA C' w' u' av) (hd:av.rY=true):u'=u:=by
 induction h generalizing u' with
 | @pv v p h=>
  cases p with
  |any=>simp [AV.rY] at hd
  |lit v=>cases h;exact h'.lit
  |slice=>simp [AV.rY] at hd
  |mp=>simp [AV.rY] at hd
  |clip=>simp [AV.rY] at hd
 | @agg vs cs hs h ih=>
  cases h' with
  | @agg us _ Tw h'=>
   simp only[AV.rY] at hd
   congr 1
   apply bq (by omega)
   intro j h1 h2
   have hc:j<cs.length:=by omega
   exact ih j _ _ (aN h2) (a8 hc) (h' j _ _ (aN h1) (a8 hc)) (AV.r8 hd j _ (a8 hc))
 | @gX vs cs hs h ih=>
  cases h' with
  | @gX us _ Tw h'=>
   simp only[AV.rY] at hd
   congr 1
   apply bq (by omega)
   intro j h1 h2
   have hc:j<cs.length:=by omega
   exact ih j _ _ (aN h2) (a8 hc) (h' j _ _ (aN h1) (a8 hc)) (AV.r8 hd j _ (a8 hc))
 |_=>simp [AV.rY] at hd
mutual
def AV.out:AV→Value
 |.pv (.lit v)=>v
 |.agg cs=> .agg (AV.Jl cs).toArray
 |.gX cs=> .tuple (AV.Jl cs).toArray
 |_=>undef
def AV.Jl:List AV→List Value
 |[]=>[]
 |c::cs=>c.out::AV.Jl cs
end
theorem AV.zx:∀l:List AV,AV.Jl l=l.map AV.out
 |[]=>rfl
 |c::cs=>by simp [AV.Jl,AV.zx cs]
theorem AV.j6 {C:Cx} {w:World}:∀{v:AV},v.rY=true→RA C w v.out v
 |.pv (.lit v),_=> .pv (.lit v)
 |.agg cs,h=>by
  simp only[AV.out,AV.zx]
  refine .agg (by simp) fun j u c h1 h2=>?_
  simp only[bf,a7,h2,br,Option.some.injEq] at h1
  subst h1
  have:=aU h2
  exact AV.j6 (AV.r8 (by simpa [AV.rY] using h) j c h2)
 |.gX cs,h=>by
  simp only[AV.out,AV.zx]
  refine .gX (by simp) fun j u c h1 h2=>?_
  simp only[bf,a7,h2,br,Option.some.injEq] at h1
  subst h1
  have:=aU h2
  exact AV.j6 (AV.r8 (by simpa [AV.rY] using h) j c h2)
 |.pv .any,h|.pv (.slice _ _),h|.pv (.mp _),h|.any,h|.own _ _ _ _,h|.ptr _ _,h|.fV _,h|.gJ _ _ _ _ _,h|.jk _ _ _,h|.gq _,h|.kO _,h=>by simp [AV.rY] at h
theorem a_.call {q:Md} {f:FuncId} {xs:List Operand} {tys:Array TypeId} {args:List AV} {r:AV} (hf:Fn P f args r) (gf:oC true δ xs args) (lS:r.rY=true) (hd:fO δ.n dst=true) (hq:q≠ .held)
  (hK:a_ q P g ops rest Q (δ.eS dst r)):a_ q P g ops (⟨dst,.call {callee:=.value (.func f),args:=xs.toArray,argTypes:=tys},ty,pos,af,none⟩::rest) Q δ:=by
 intro κ a w r0
 have hc:∀w',Below w.heap.size w w'→Calls P f (xs.toArray.map a.eval) w' fun e w''=>e=.returned r.out∧Below w'.heap.size w' w'':=fun w' iP=>
  (hf.calls (fun _=>True) w' _ (fun _ _=>trivial) (by simp [gf.len]) (gf.J1 (r0.ext iP) (fun _ _ _=>trivial) (fun _ _ _ _ _=>trivial))).mono (by
   rintro e w'' ⟨v,rfl,hv,hb⟩
   exact⟨by rw[hv.rY (AV.j6 (C:=uU (fun _=>True)) (w:=w) lS) lS],hb⟩)
 have uX:=hK κ _ _ (r0.eS (fi hd) (AV.j6 lS))
 cases q with
 |quiet=>
  show wpQuiet P ops _ _ (_::rest) a
  unfold wpQuiet
  rw[if_pos (by simp [Region.wanted])]
  refine⟨r.out,fun w' iP=>?_,uX⟩
  unfold Oper.quietAt
  rw[iB (f:=f) rfl hf.enters]
  exact⟨rfl,(hc w' iP).mono fun e w'' ⟨h1,h2⟩=>⟨h1,iP.trans (h2.mono iP.size)⟩⟩
 |held=>exact absurd rfl hq
 |plain=>
  show wpListIn _ _ P ops _ (_::rest) a w
  refine gw rfl rfl fun K nb=>?_
  unfold Oper.wW
  rw[iB (f:=f) rfl hf.enters,Oper.uponIn_enter]
  refine⟨fun h=>by simp at h,(ia (hc w (Below.refl _ _))).mono ?_⟩
  rintro e w' ⟨rfl,hb⟩
  exact nb _ _ (hK κ _ _ ((r0.ext hb).eS (fi hd) (AV.j6 lS)))
theorem a_.Nl {f:FuncId} {xs:List Operand} {tys:Array TypeId} {args:List AV} {r:AV} (hf:Fn P f args r) (gf:oC false δ xs args) (hd:fO δ.n dst=true)
  (hK:a_ .plain P g ops rest Q (δ.eS dst r)):a_ .plain P g ops (⟨dst,.call {callee:=.value (.func f),args:=xs.toArray,argTypes:=tys},ty,pos,af,none⟩::rest) Q δ:=by
 intro κ a w r0
 show wpListIn _ _ P ops _ (_::rest) a w
 refine gw rfl rfl fun K nb=>?_
 unfold Oper.wW
 rw[iB (f:=f) rfl hf.enters,Oper.uponIn_enter]
 refine⟨fun h=>by simp at h,(ia (hf.calls (fun b=>(δ.cx g κ).N b∨w.heap.size≤b) w _ (fun _ h=> .inr h) (by simp [gf.len]) (gf.J1 r0 (fun _ _ h=> .inl h) (fun h=>by simp at h)))).mono ?_⟩
 rintro e w' ⟨v,rfl,hv,hb⟩
 have r1:=r0.ext hb
 refine nb _ _ (hK κ _ _ (r1.eS (fi hd) (hv.sR _ fun b _ h=>?_)))
 rcases h with h|h
 ·exact h
 ·refine⟨r0.A2 h,fun i hi e=>?_⟩
  have:=(r0.lo i b hi e).2
  omega
def enum (i:Nat):List AV→List (Nat×AV)
 |[]=>[]
 |v::vs=>(i,v)::enum (i+1) vs
theorem mH (l:List AV):∀(i j:Nat) (v:AV),i≤j→l[j - i]? =some v→look (enum i l) j=v:=by
 induction l with
 |nil=>intro i j v _ h;simp at h
 |cons x l ih=>
  intro i j v va h
  unfold enum
  rw[fC]
  by_cases e:i=j
  ·subst e;simp at h;simp [h]
  ·rw[if_neg e]
   refine ih (i+1) j v aJ ?_
   have:j - i=(j - (i+1))+1:=by omega
   rw[this] at h;simpa using h
theorem jb (l:List AV):∀(i j:Nat),(j<i∨i+l.length≤j)→look (enum i l) j=.any:=by
 induction l with
 |nil=>intro i j _;rfl
 |cons x l ih=>
  intro i j h
  unfold enum
  simp only[List.length_cons] at h
  rw[fC,if_neg aJ]
  exact ih (i+1) j (by omega)
def start (n:Nat) (args:List AV):DS:={n,env:=enum 0 args,gm:=[],nx:=0}
inductive nV (P:Program) (δ:DS):ResultVar→AV→Prop
 |tmp {t:Tmp} {v:AV} (ht:aY t HS=true) (h:δ.get t=v):nV P δ (.tmp t) v
 |cell {t:Tmp} {ty:TypeId} {i:Nat} {cells:List AV} (ht:aY t HS=true) (h:δ.get t=.ptr i 0) (ho:δ.ob i=some (.box cells)) (QM:zu P ty cells.length=true):nV P δ (.cell t ty) (.agg cells)
 |cell1 {t:Tmp} {ty:TypeId} {i:Nat} {v:AV} (ht:aY t HS=true) (h:δ.get t=.ptr i 0) (ho:δ.ob i=some (.box [v])) (QM:jW P ty=true):nV P δ (.cell t ty) v
def y7 (P:Program) (tmps:Array Value):ResultVar→Sem Value
 |.tmp t=>pure (tmps.getD t undef)
 |.cell a t=>do loadVar t (← asAddr (tmps.getD a undef))
theorem Rel.box (r:Rel g δ κ a w) {u:Value} {i off:Nat} {cells:List AV} (h:RA (δ.cx g κ) w u (.ptr i off)) (ho:δ.ob i=some (.box cells)):
  ∃b c e,u=.pointer (some ⟨b,off,none⟩)∧κ i=some b∧w.heap[b]? =some (.cells c e (0,0))∧c.size=cells.length∧∀(j:Nat) (u:Value) (av:AV),c[j]? =some u→cells[j]? =some av→RA (δ.cx g κ) w u av∧u.oneCell'=true:=by
 cases h with
 | @ptr _ _ b hl hκ=>
  obtain⟨b',c,e,h1,h2,h3,h4⟩:=r.obj i _ ho
  have:b'=b:=by have:=h1.symm.trans hκ;simpa using this
  subst this
  exact⟨b',c,e,rfl,h1,h2,h3,h4⟩
theorem cell_of {w:World} {b:Nat} {c:Array Value} {e:TypeId} (h:w.heap[b]? =some (.cells c e (0,0))) (j:Nat):w.cell? ⟨b,j,none⟩=c[j]?:=by simp [World.cell?,h]
theorem nV.run {rv:ResultVar} {v:AV} (h:nV P δ rv v) (r:Rel g δ κ a w):∃u,(y7 P a.tmps rv).run P w=.ok u w∧RA (δ.cx g κ) w u v:=by
 cases h with
 | @tmp t _ ht h=>
  have:=r.env t
  unfold eR.val at this
  rw[if_pos (by simpa using ht),h] at this
  exact⟨_,rfl,this⟩
 | @cell t ty i cells ht h ho QM=>
  have h0:=r.env t
  unfold eR.val at h0
  rw[if_pos (by simpa using ht),h] at h0
  obtain⟨b,c,e,h1,h2,h3,h4,h5⟩:=r.box h0 ho
  have h6:=run_loadCells (P:=P) (w:=w) ⟨b,0,none⟩ cells.length (fun j=>c.getD j undef) (fun j hj=>by
   rw[addr_add,cell_of h3,ba,aN aJ]
   rw[aR,aN aJ];rfl)
  refine⟨.agg ((bc cells.length).map (fun j=>c.getD j undef)).toArray,by simp only[y7,h1,asAddr,loadVar,Sem.run_bind,Sem.run_pure,Result.andThen_ok,qF QM,if_true,h6],.agg (by simp) (fun j u av h7 h8=>?_)⟩
  have fm:=(aW.1 h8).1
  refine(h5 j u av ?_ h8).1
  simp only[bf,a7,bg] at h7
  obtain⟨j',ng,rfl⟩:=h7
  have:j'=j:=by
   rw[aW] at ng
   obtain⟨_,h⟩:=ng
   simpa using h.symm
  subst this
  rw[aR,aN aJ];rfl
 | @cell1 t ty i v ht h ho QM=>
  have h0:=r.env t
  unfold eR.val at h0
  rw[if_pos (by simpa using ht),h] at h0
  obtain⟨b,c,e,h1,h2,h3,h4,h5⟩:=r.box h0 ho
  have fm:0<c.size:=by rw[h4];simp
  have hc:w.cell? ⟨b,0,none⟩=some c[0]:=by rw[cell_of h3,aN fm]
  refine⟨c[0],by simp [y7,h1,asAddr,loadVar,n6 QM,load,Sem.run,hc],(h5 0 _ _ (aN fm) rfl).1⟩
inductive gk (P:Program) (δ:DS):List ResultVar→AV→Prop
 |one {r1:ResultVar} {v:AV} (h:nV P δ r1 v):gk P δ [r1] v
 |none:gk P δ [] (.gX [])
 |two {r1 r2:ResultVar} {v1 v2:AV} (h1:nV P δ r1 v1) (h2:nV P δ r2 v2):gk P δ [r1,r2] (.gX [v1,v2])
 |three {r1 r2 r3:ResultVar} {v1 v2 v3:AV} (h1:nV P δ r1 v1) (h2:nV P δ r2 v2) (h3:nV P δ r3 v3):gk P δ [r1,r2,r3] (.gX [v1,v2,v3])
 |five {r1 r2 r3 r4 r5:ResultVar} {v1 v2 v3 v4 v5:AV} (h1:nV P δ r1 v1) (h2:nV P δ r2 v2) (h3:nV P δ r3 v3) (h4:nV P δ r4 v4) (h5:nV P δ r5 v5):gk P δ [r1,r2,r3,r4,r5] (.gX [v1,v2,v3,v4,v5])
theorem CG {C:Cx} {w:World} {u1 u2:Value} {v1 v2:AV} (h1:RA C w u1 v1) (h2:RA C w u2 v2):RA C w (.tuple #[u1,u2]) (.gX [v1,v2]):=by
 refine .gX rfl fun j u c h3 h4=>?_
 match j with
 |0=>simp at h3 h4;subst h3;subst h4;exact h1
 |1=>simp at h3 h4;subst h3;subst h4;exact h2
 |j+2=>simp at h4
theorem BO {C:Cx} {w:World} {u1 u2 u3:Value} {v1 v2 v3:AV} (h1:RA C w u1 v1) (h2:RA C w u2 v2) (h3:RA C w u3 v3):RA C w (.tuple #[u1,u2,u3]) (.gX [v1,v2,v3]):=by
 refine .gX rfl fun j u c h4 h5=>?_
 match j with
 |0=>simp at h4 h5;subst h4;subst h5;exact h1
 |1=>simp at h4 h5;subst h4;subst h5;exact h2
 |2=>simp at h4 h5;subst h4;subst h5;exact h3
 |j+3=>simp at h5
theorem Ls {C:Cx} {w:World} {u1 u2 u3 u4 u5:Value} {v1 v2 v3 v4 v5:AV} (h1:RA C w u1 v1) (h2:RA C w u2 v2) (h3:RA C w u3 v3) (h4:RA C w u4 v4) (h5:RA C w u5 v5):RA C w (.tuple #[u1,u2,u3,u4,u5]) (.gX [v1,v2,v3,v4,v5]):=by
 refine .gX rfl fun j u c k1 k2=>?_
 match j with
 |0=>simp at k1 k2;subst k1;subst k2;exact h1
 |1=>simp at k1 k2;subst k1;subst k2;exact h2
 |2=>simp at k1 k2;subst k1;subst k2;exact h3
 |3=>simp at k1 k2;subst k1;subst k2;exact h4
 |4=>simp at k1 k2;subst k1;subst k2;exact h5
 |j+5=>simp at k2
theorem vg {fn:Func} {tmps:Array Value}:results fn tmps=(do let vs ← fn.results.mapM (y7 P tmps);pure (if h:vs.size=1 then vs[0] else .tuple vs)):=by
 unfold results
 congr 1
theorem gk.run {fn:Func} {rs:List ResultVar} (sI:fn.results=rs.toArray) {v:AV} (h:gk P δ rs v) (r:Rel g δ κ a w):∃u,(results fn a.tmps).run P w=.ok u w∧RA (δ.cx g κ) w u v:=by
 rw[vg (P:=P),sI]
 cases h with
 |none=>exact⟨.tuple #[],by simp [bs],.gX rfl (fun j u c h=>by simp at h)⟩
 |one h=>
  obtain⟨u,h1,h2⟩:=h.run r
  exact⟨u,by simp [bs,h1],h2⟩
 |two h1 h2=>
  obtain⟨u1,h1,h3⟩:=h1.run r
  obtain⟨u2,h2,h4⟩:=h2.run r
  exact⟨.tuple #[u1,u2],by simp [bs,h1,h2],CG h3 h4⟩
 |three h1 h2 h3=>
  obtain⟨u1,h1,h4⟩:=h1.run r
  obtain⟨u2,h2,h5⟩:=h2.run r
  obtain⟨u3,h3,h6⟩:=h3.run r
  exact⟨.tuple #[u1,u2,u3],by simp [bs,h1,h2,h3],BO h4 h5 h6⟩
 |five h1 h2 h3 h4 h5=>
  obtain⟨u1,h1,k1⟩:=h1.run r
  obtain⟨u2,h2,k2⟩:=h2.run r
  obtain⟨u3,h3,k3⟩:=h3.run r
  obtain⟨u4,h4,k4⟩:=h4.run r
  obtain⟨u5,h5,k5⟩:=h5.run r
  exact⟨.tuple #[u1,u2,u3,u4,u5],by simp [bs,h1,h2,h3,h4,h5],Ls k1 k2 k3 k4 k5⟩
theorem Rel.shut (i_:g.wt=none) (r:Rel g δ κ a w) {k:Nat} (hB:g.B≤k) (hk:w.heap[k]? =some (.deferred (some []))) {a':Act} (ha:a'.tmps=a.tmps) (kg:∀d∈a'.defers,d∈a.defers) (ZP:¬g.fr k) (hd:Fe g a' (w.putObj k (.deferred none))):Rel g δ κ a' (w.putObj k (.deferred none)):=by
 have mU:∀b,b≠k→(w.putObj k (.deferred none)).heap[b]? =w.heap[b]?:=fun b hb=>World.putObj_heap_other hb
 have fW:∀i b,δ.live i→κ i=some b→b≠k:=by
  rintro i b ⟨o,ho⟩ hκ rfl
  have h0:=r.obj i o ho
  cases o with
  |row=>obtain⟨c,e,h1⟩:=h0 b hκ;rw[hk] at h1;cases h1
  |box cs=>obtain⟨b',c,e,h1,h2,_⟩:=h0;have:b'=b:=Option.some.inj (h1.symm.trans hκ);subst this;rw[hk] at h2;cases h2
  |it l seen=>obtain⟨b',h1,h2⟩:=h0;have:b'=b:=Option.some.inj (h1.symm.trans hκ);subst this;rcases h2 with ⟨_,h2⟩|⟨_,_,_,_,_,_,_,_,_,h2,_⟩<;>(rw[hk] at h2;cases h2)
  |mpl l kk v=>obtain⟨b',c,e,h1,h2,_⟩:=h0;have:b'=b:=Option.some.inj (h1.symm.trans hκ);subst this;rw[hk] at h2;cases h2
  |lit T vals=>obtain⟨b',h1,h2⟩:=h0;have:b'=b:=Option.some.inj (h1.symm.trans hκ);subst this;rw[hk] at h2;cases h2
  |e8 e rows=>exact absurd (h0.1.symm.trans hκ) (by simp)
  |mp l=>obtain⟨b',c,e,h1,h2,_⟩:=h0;have:b'=b:=Option.some.inj (h1.symm.trans hκ);subst this;rw[hk] at h2;cases h2
  |loop l tm ps iK body st=>obtain⟨b',c,h1,h2,_⟩:=h0;have:b'=b:=Option.some.inj (h1.symm.trans hκ);subst this;rw[hk] at h2;cases h2
 -- a told value leans on cells alone:block k is none
 have lj:∀off v,w.cell? ⟨k,off,none⟩=some v→False:=fun off v h=>by simp [World.cell?,hk] at h
 have MK:∀{N:Nat→Prop} {v:Value} {p:PV},RP N w v p→RP N (w.putObj k (.deferred none)) v p:=by
  intro N v p h
  induction h with
  |any v=>exact .any v
  |lit v=>exact .lit v
  |slice b off vs hl mM hb ha ED hc hr ih=>
   refine .slice b off vs hl mM hb (fun he=>⟨(ha he).1,(ha he).2.1,by rw[World.putObj_size];exact(ha he).2.2⟩) ED (fun i j p hp=>⟨?_,(hc i j p hp).2⟩) ih
   have h1:=(hc i j p hp).1
   by_cases e:b=k
   ·subst e;exact(lj _ _ h1).elim
   ·exact(World.cell?_of_block (w:=w) (a:=⟨b,off+i*_+j,none⟩) (mU b e)).trans h1
  |mp b clock es hN hb hh hs jn ED hr ih=>
   have e:b≠k:=by rintro rfl;rw[hk] at hh;cases hh
   exact .mp b clock es hN (by rw[World.putObj_size];exact hb) ((mU b e).trans hh) hs jn ED ih
  |clip h ih=>exact .clip ih
 have gF:∀{v:Value} {i e k' e7},jy (δ.cx g κ) w v i e k' e7→jy (δ.cx g κ) (w.putObj k (.deferred none)) v i e k' e7:=by
  intro v i e k' e7 h
  obtain⟨hl,mb,lV,hb,xs,ho,h1,hx⟩:=h
  refine⟨hl,mb,lV,hb,xs,⟨ho.1,?_⟩,h1,fun i' j p hp=>let ⟨u,h1,h2⟩:=hx i' j p hp;⟨u,h1,MK h2⟩⟩
  rcases ho.2 with hn|⟨b,cap,cur,rfl,h2,h3,h4⟩
  ·exact .inl hn
  ·exact .inr ⟨b,cap,cur,rfl,h2,(mU b (fW i b (DS.gA hl) (hb b rfl))).trans h3,h4⟩
 have sJ:∀{v:Value} {av:AV},RA (δ.cx g κ) w v av→RA (δ.cx g κ) (w.putObj k (.deferred none)) v av:=by
  intro v av h
  induction h with
  |any v=>exact .any v
  |pv h=>exact .pv (MK h)
  |own h=>exact .own (gF h)
  |ptr hl hκ=>exact .ptr hl hκ
  |fV b off vs hN hb hc hr=>
   refine .fV b off vs hN (by rw[World.putObj_size];exact hb) (fun j p hp=>⟨?_,(hc j p hp).2⟩) (fun j p hp=>MK (hr j p hp))
   have h1:=(hc j p hp).1
   by_cases e:b=k
   ·subst e;exact(lj _ _ h1).elim
   ·exact(World.cell?_of_block (w:=w) (a:=⟨b,off+j,none⟩) (mU b e)).trans h1
  |gJ hi h=>exact .gJ hi (gF h)
  |agg hs h ih=>exact .agg hs ih
  |gX hs h ih=>exact .gX hs ih
  |jk hs h ht h' ih ih'=>exact .jk hs ih ht ih'
  |gq hl hκ=>exact .gq hl hκ
  |kO hl hκ=>exact .kO hl hκ
 exact
  {n:=by rw[ha];exact r.n,dfr:=hd
   env:=fun j=>by have:=r.env j;unfold eR.val at this ⊢;rw[ha];exact sJ this
   obj:=fun i o h=>by
    have h0:=r.obj i o h
    cases o with
    |row=>intro b hb;obtain⟨c,e,h1⟩:=h0 b hb;exact⟨c,e,(mU b (fW i b ⟨_,h⟩ hb)).trans h1⟩
    |box cs=>obtain⟨b,c,e,h1,h2,h3,h4⟩:=h0;exact⟨b,c,e,h1,(mU b (fW i b ⟨_,h⟩ h1)).trans h2,h3,fun j u av h5 h6=>⟨sJ (h4 j u av h5 h6).1,(h4 j u av h5 h6).2⟩⟩
    |it l seen=>
     obtain⟨b,h1,h2⟩:=h0
     have hb:=fW i b ⟨_,h⟩ h1
     rcases h2 with ⟨h2,h3⟩|⟨m,es,clock,h2,h3,h4,h5,h6,h7,h8,h9⟩
     ·exact⟨b,h1,.inl ⟨h2,(mU b hb).trans h3⟩⟩
     ·have MO:m≠k:=by rintro rfl;rw[hk] at h4;cases h4
      exact⟨b,h1,.inr ⟨m,es,clock,h2,by rw[World.putObj_size];exact h3,(mU m MO).trans h4,h5,h6,fun j e p ub q7=>⟨(h7 j e p ub q7).1,MK (h7 j e p ub q7).2⟩,(mU b hb).trans h8,h9⟩⟩
    |mpl l kk v=>obtain⟨b,es,clock,h1,h2,h3,h4⟩:=h0;exact⟨b,es,clock,h1,(mU b (fW i b ⟨_,h⟩ h1)).trans h2,⟨h3.1,fun j e p h5 h6=>⟨(h3.2 j e p h5 h6).1,sJ (h3.2 j e p h5 h6).2⟩⟩,h4⟩
    |mp l=>obtain⟨b,es,clock,h1,h2,h3,h4⟩:=h0;exact⟨b,es,clock,h1,(mU b (fW i b ⟨_,h⟩ h1)).trans h2,⟨h3.1,fun j e p h5 h6=>⟨(h3.2 j e p h5 h6).1,sJ (h3.2 j e p h5 h6).2⟩⟩,h4⟩
    |lit T vals=>obtain⟨b,h1,h2⟩:=h0;exact⟨b,h1,(mU b (fW i b ⟨_,h⟩ h1)).trans h2⟩
    |e8 e rows=>
     refine⟨h0.1,fun kk=>(h0.2.1 kk).goes rfl fun b hb h2 _=>⟨h2,mU b ?_⟩,h0.2.2⟩
     rintro rfl
     rcases(h0.2.1 kk).1.2 with ⟨h3,_⟩|⟨b',cap,cur,h3,_,h4,_⟩
     ·rw[h3] at hb;cases hb
     ·rw[h3] at hb;cases hb;rw[hk] at h4;cases h4
    |loop l tm ps iK body st=>obtain⟨b,lr,h1,h2,h3⟩:=h0;exact⟨b,lr,h1,(mU b (fW i b ⟨_,h⟩ h1)).trans h2,h3⟩
   inj:=r.inj
   lo:=fun i b h1 h2=>by rw[World.putObj_size];exact r.lo i b h1 h2
   nx:=r.nx
   wt:=fun k hk=>by rw[i_] at hk;cases hk
   below:=r.below.trans ⟨rfl,rfl,rfl,by rw[World.putObj_size];exact aP _,fun b hb=>mU b aJ⟩
   hB:=by rw[World.putObj_size];exact r.hB
   N0:=r.N0
   kc:=fun d uH=>r.kc d (kg d uH)
   fr:=r.fr.of (by rw[World.putObj_size];exact aP _) (fun b hf _ _=>mU b (by rintro rfl;exact ZP hf)) fun i b h1 h2=> .inl ⟨i,h1,h2⟩}
theorem leaves (i_:g.wt=none) (wZ:g.base=[]) {fn:Func} {rs:List ResultVar} (sI:fn.results=rs.toArray) {v:AV} (h:gk P δ rs v) {R:Ending→World→Prop}:∀{a:Act} {w:World},Rel g δ κ a w→
  (∀w2,Rel g δ κ {a with defers:=[]} w2→∀u,RA (δ.cx g κ) w2 u v→R (.returned u) w2)→LeavesInM Fence.wide 0 P fn a.tmps R a.defers .returning w:=by
 intro a w r hR
 obtain⟨ms,h1,h2,h3⟩:=r.dfr
 rw[wZ,bt] at h1
 rw[h1]
 induction ms generalizing a w with
 |nil=>
  obtain⟨u,h4,h5⟩:=h.run sI r
  have ra:Rel g δ κ {a with defers:=[]} w:={r with dfr:=⟨[],by rw[wZ];rfl,h2,h3⟩,kc:=fun d hd=>by cases hd}
  exact⟨u,h4,hR w ra u h5⟩
 |cons m ms ih=>
  refine⟨by simp,.inl ⟨m,_,rfl,run_takeDeferred (h3 m (by simp)).2,?_⟩⟩
  have hm:=h3 m (by simp)
  rw[bu] at h2
  have jl:=List.nodup_cons.1 h2
  have tU:∀k∈ms++g.mks,g.B≤k∧(w.putObj m (.deferred none)).heap[k]? =some (.deferred (some [])):=fun k hk=>
   ⟨(h3 k (by simp only[bu,bw];exact .inr hk)).1,by rw[World.putObj_heap_other (by intro e;subst e;exact jl.1 hk)];exact(h3 k (by simp only[bu,bw];exact .inr hk)).2⟩
  have hd:Fe g {a with defers:=ms.map fun r=>({target:=.collected r,args:= #[]}:Deferred)} (w.putObj m (.deferred none)):=⟨ms,by rw[wZ,bt],jl.2,tU⟩
  have r2:=r.shut i_ hm.1 hm.2 (a':={a with defers:=ms.map fun r=>({target:=.collected r,args:= #[]}:Deferred)}) rfl (fun d hd=>by rw[h1];exact bx.2 (let ⟨x,hx,e⟩:=bx.1 hd;⟨x,by simp [hx],e⟩)) (r.kc {target:=.collected m,args:= #[]} (by rw[h1];exact bx.2 ⟨m,by simp,rfl⟩) m rfl) hd
  have:=ih (a:={a with defers:=ms.map fun r=>({target:=.collected r,args:= #[]}:Deferred)}) r2 (fun w2 r3 u hu=>hR w2 r3 u hu) rfl jl.2 tU
  exact this
def Ends (P:Program) (rs:List ResultVar) (r:AV):Exit→DS→Prop
 |.normal,δ|.ret,δ=>∃v,gk P δ rs v∧Le true v r
 |_,_=>False
theorem Fn.enter {f:FuncId} {fn:Func} {c:Code} {rs:List ResultVar} {n:Nat} {args:List AV} {r:AV} (hf:P.funcs[f]? =some fn) (hb:fn.body=some c) (sI:fn.results=rs.toArray) (hn:fn.ntmps=n) (Cb:bz args.length n=true)
  (pH:bz n HS=true) (he:(fn.name== "runtime.NumGoroutine")=false) (h:∀g:eR,g.ro=none→g.wt=none→AW P g c (Ends P rs r) (start n args)):Fn P f args r:=by
 refine⟨fun vals w=>by simp [callFunc,hf,hb];simpa using he,fun N w vals hN hs gf=>?_⟩
 have hle:args.length≤n:=by simpa using Cb
 have KE:n≤HS:=by simpa using pH
 let g:eR:={B:=w.heap.size,w0:=w,N0:=N,held:=fun _=>undef,ro:=none,mks:=[],wt:=none,fr:=fun _=>False,w1:=w}
 have nA:∀i,¬(start n args).live i:=fun i ⟨o,h⟩=>by cases h
 refine callsIn_wide.1 (callsIn_of_wp_marks (n:=0) hf hb trivial (wpIn_mono (h g rfl rfl ⟨fun _=>none,fun _ _=>False⟩ _ w ?_) ?_))
 ·exact
  {n:=by simp [hn,start];omega
   dfr:=⟨[],rfl,by simp [g],by simp [g]⟩
   env:=fun j=>by
    by_cases hj:j<args.length
    ·have h1:(start n args).get j=args[j]:=mH args 0 j _ (bm _) (by simp [hj])
     have h2:g.val {tmps:=vals++Array.replicate (fn.ntmps - vals.size) undef,defers:=[]} j=vals[j]'(by omega):=by
      unfold eR.val
      rw[if_pos aJ]
      simp [aR,Array.getElem?_append,hs,hj]
     rw[h1,h2]
     exact(gf j _ _ (aN aJ) (a8 hj)).sR _ fun b _ h=>⟨⟨h,fun⟨_,h⟩=>h⟩,fun i hi=>absurd hi (nA i)⟩
    ·have h1:(start n args).get j=.any:=jb args 0 j (by omega)
     rw[h1];exact .any _
   obj:=fun i o h=>by cases h
   inj:=fun i j b h=>absurd h (nA i)
   lo:=fun i b h=>absurd h (nA i)
   nx:=fun i h=>absurd h (nA i)
   wt:=fun k hk=>by cases hk
   below:=Below.refl _ _
   hB:=aP _
   N0:=fun b h _=>hN b h
   fr:=⟨fun b hb=>hb.elim,fun i b hb=>hb.elim⟩
   kc:=fun d hd=>by cases hd}
 ·rintro e a' w' ⟨δ',κ',hq,r'⟩
  have fin:∀v,gk P δ' rs v→Le true v r→LeavesInM Fence.wide 0 P fn a'.tmps (fun e w'=>∃v,e=.returned v∧RA (uU N) w' v r∧Below w.heap.size w w') a'.defers .returning w':=by
   intro v h1 h2
   exact leaves (g:=g) rfl rfl sI h1 r' (fun w2 r2 u hu=>by
    exact⟨u,rfl,hu.le h2 (fun b _ h=>h.1.1) (fun _ i b hi hκ=>hN b (r2.lo i b (DS.gA hi) hκ).1),r2.below⟩)
  cases e with
  |normal=>obtain⟨v,h1,h2⟩:=hq;exact fin v h1 h2
  |ret=>obtain⟨v,h1,h2⟩:=hq;exact fin v h1 h2
  |_=>exact hq.elim
end Go.Ab
/- One abstract state says no more than another:what is asked slot by slot. -/
namespace Go.Ab
open Go Go.RowKit
variable {P:Program} {g:eR} {δ δ':DS} {κ:Kp} {a:Act} {w:World}
mutual
def AV.ids (lr lb:Nat→Bool):AV→Bool
 |.any=>true
 |.pv _=>true
 |.own i _ _ _=>lr i
 |.ptr i _=>lb i
 |.fV _=>true
 |.gJ i _ _ _ _=>lr i
 |.agg cs=>AV.w_ lr lb cs
 |.gX cs=>AV.w_ lr lb cs
 |.jk _ cs ds=>AV.w_ lr lb cs && AV.w_ lr lb ds
 |.gq i=>lb i
 |.kO i=>lb i
def AV.w_ (lr lb:Nat→Bool):List AV→Bool
 |[]=>true
 |c::cs=>AV.ids lr lb c && AV.w_ lr lb cs
end
theorem AV.lL {lr lb:Nat→Bool}:∀(l:List AV),AV.w_ lr lb l=true→∀(j:Nat) (c:AV),l[j]? =some c→AV.ids lr lb c=true
 |[],_,j,c,h=>by simp at h
 |x::l,h,j,c,hj=>by
  simp only[AV.w_,aZ] at h
  cases j with
  |zero=>simp at hj;subst hj;exact h.1
  |succ j=>exact AV.lL l h.2 j c (by simpa using hj)
def DS.qu (δ:DS) (i:Nat):Bool:=match δ.ob i with|some .row=>true|_=>false
def DS.qc (δ:DS) (i:Nat):Bool:=match δ.ob i with|some (.box _)=>true|some (.mp _)=>true|some (.mpl _ _ _)=>true|some (.it _ _)=>true|some (.loop _ _ _ _ _ _)=>true|some (.lit _ _)=>true|_=>false
theorem nR {δ:DS} {i:Nat} (h:δ.qu i=true):δ.lr i:=by
 unfold DS.qu at h;unfold DS.lr
 cases ho:δ.ob i with
 |none=>rw[ho] at h;simp at h
 |some o=>cases o<;>rw[ho] at h<;>first|rfl|(simp at h)
theorem kU {δ:DS} {i:Nat} (h:δ.qc i=true):δ.lb i:=by
 unfold DS.qc at h;unfold DS.lb
 cases ho:δ.ob i with
 |none=>rw[ho] at h;simp at h
 |some o=>cases o<;>rw[ho] at h<;>first|exact⟨_,rfl,rfl⟩|(simp at h)
noncomputable def tV (δ:DS) (κ:Kp):Kp:=⟨fun i=>match δ.ob i with|some _=>κ i|none=>none,κ.F⟩
theorem iC {δ:DS} {κ:Kp} {i:Nat} (h:δ.live i):tV δ κ i=κ i:=by obtain⟨o,h⟩:=h;simp [tV,h]
theorem gr {δ:DS} {κ:Kp} {i b:Nat} (h:tV δ κ i=some b):δ.live i∧κ i=some b:=by
 have h:(match δ.ob i with|some _=>κ.f i|none=>none)=some b:=h
 cases ho:δ.ob i with
 |none=>rw[ho] at h;simp at h
 |some o=>rw[ho] at h;exact⟨⟨o,ho⟩,h⟩
theorem sX {b:Nat} (h:(δ.cx g κ).N b):(δ'.cx g (tV δ κ)).N b:=⟨h.1,fun i _ e=>let ⟨h1,h2⟩:=gr e;h.2 i h1 h2⟩
theorem RA.ids {v:Value} {av:AV} (h:RA (δ.cx g κ) w v av) (hi:av.ids δ'.qu δ'.qc=true):RA (δ'.cx g (tV δ κ)) w v av:=by
 have hp:∀{v:Value} {p:PV},RP (δ.cx g κ).N w v p→RP (δ'.cx g (tV δ κ)).N w v p:=fun h=>h.mono (aP _) fun b _ h2=>⟨sX h2,rfl⟩
 have ho:∀{v:Value} {i e k e7},jy (δ.cx g κ) w v i e k e7→δ'.lr i→jy (δ'.cx g (tV δ κ)) w v i e k e7:=by
  intro v i e k e7 h hl
  obtain⟨h1,h2,h3,h4,xs,h5,h6,h7⟩:=h
  exact⟨hl,h2,h3,fun b hb=>(iC (DS.gA h1)).trans (h4 b hb),xs,h5,h6,fun i' j p l9=>let ⟨u,h8,h9⟩:=h7 i' j p l9;⟨u,h8,hp h9⟩⟩
 induction h with
 |any v=>exact .any v
 |pv h=>exact .pv (hp h)
 |own h=>exact .own (ho h (nR hi))
 |ptr hl hκ=>exact .ptr (kU hi) ((iC (DS.lI hl)).trans hκ)
 |fV b off vs hN hb hc hr=>exact .fV b off vs (sX hN) hb hc (fun j p h=>hp (hr j p h))
 |gJ fm h=>exact .gJ fm (ho h (nR hi))
 |agg hs h ih=>exact .agg hs fun j u c h1 h2=>ih j u c h1 h2 (AV.lL _ hi j c h2)
 |gX hs h ih=>exact .gX hs fun j u c h1 h2=>ih j u c h1 h2 (AV.lL _ hi j c h2)
 |jk hs h ht h' ih ih'=>
  simp only[AV.ids,aZ] at hi
  exact .jk hs (fun j u c h1 h2=>ih j u c h1 h2 (AV.lL _ hi.1 j c h2)) ht (fun j u c h1 h2=>ih' j u c h1 h2 (AV.lL _ hi.2 j c h2))
 |gq hl hκ=>exact .gq (kU hi) ((iC (DS.lI hl)).trans hκ)
 |kO hl hκ=>exact .kO (kU hi) ((iC (DS.lI hl)).trans hκ)
inductive CV (δ δ':DS):AV→PV→Prop
 |any (v:AV):CV δ δ' v .any
 |pv (p:PV):CV δ δ' (.pv p) p
 |own {i e k e7 els'} (h:δ'.ob i=none) (he:e7=els'):CV δ δ' (.own i e k e7) (.slice k els')
 |nil (k):CV δ δ' (.pv (.lit (.slice none 0 0))) (.slice k [])
inductive Gz (δ δ':DS):List AV→List PV→Prop
 |nil:Gz δ δ' [] []
 |cons {c:AV} {p:PV} {cs:List AV} {ps:List PV} (h:CV δ δ' c p) (hs:Gz δ δ' cs ps):Gz δ δ' (c::cs) (p::ps)
theorem Gz.at {δ δ':DS}:∀{cs:List AV} {ps:List PV},Gz δ δ' cs ps→∀(j:Nat) (p:PV),ps[j]? =some p→∃c,cs[j]? =some c∧CV δ δ' c p:=by
 intro cs ps h
 induction h with
 |nil=>intro j p h;simp at h
 |cons h hs ih=>
  intro j p hj
  cases j with
  |zero=>simp at hj;subst hj;exact⟨_,rfl,h⟩
  |succ j=>exact ih j p (by simpa using hj)
inductive WV (δ δ':DS):AV→AV→Prop
 |any (v:AV):WV δ δ' v .any
 |eq {u v:AV} (h:u=v) (hi:v.ids δ'.qu δ'.qc=true):WV δ δ' u v
 |jt (i e k) (h:δ'.qu i=true) (hn:δ.ob i=none):WV δ δ' (.pv (.lit (.slice none 0 0))) (.own i e k [])
 |nilrow (i e k) (h:δ'.qu i=true):WV δ δ' (.pv (.lit (.slice none 0 0))) (.own i e k [])
 |nilpv (k):WV δ δ' (.pv (.lit (.slice none 0 0))) (.pv (.slice k []))
 |freeze {i e k e7} (h:δ'.ob i=none):WV δ δ' (.own i e k e7) (.pv (.slice k e7))
 |agg {cs ds:List AV} (hl:cs.length=ds.length) (h:∀(j:Nat) (c d:AV),cs[j]? =some c→ds[j]? =some d→WV δ δ' c d):WV δ δ' (.agg cs) (.agg ds)
 |fmap {i:Nat} {l:List (Value×AV)} {ps:List (Value×PV)} (hb:δ.ob i=some (.mp l)) (hd:δ'.ob i=none) (hl:l.length=ps.length) (hc:∀(j:Nat) (p:Value×AV) (p':Value×PV),l[j]? =some p→ps[j]? =some p'→p.1=p'.1∧CV δ δ' p.2 p'.2):WV δ δ' (.gq i) (.pv (.mp ps))
 |fbox {i:Nat} {cells:List AV} {ps:List PV} (hb:δ.ob i=some (.box cells)) (hd:δ'.ob i=none) (hc:Gz δ δ' cells ps):WV δ δ' (.ptr i 0) (.fV ps)
theorem sN {N:Nat→Prop} {w:World} {a0:Option Addr} {c:Nat} (k:Nat):RP N w (.slice a0 0 c) (.slice k []):=
 .slice 0 0 (fun _ _=>undef) rfl (bm _) (by simp) (fun h=>absurd rfl h) (by simp) (fun i j p h=>by simp [cellAt] at h) (fun i j p h=>by simp [cellAt] at h)
theorem RA.sE (lu:∀i b,δ.live i→δ'.ob i=none→κ i=some b→(δ'.cx g (tV δ κ)).N b) {i e k e7} (ho:δ'.ob i=none) {v:Value} (h:RA (δ.cx g κ) w v (.own i e k e7)):RP (δ'.cx g (tV δ κ)).N w v (.slice k e7):=by
 have h1:=h.iW
 obtain⟨hl,mb,hk,hb,xs,gF,JT,hx⟩:=h1
 have qM:=gF
 rcases gF.2 with ⟨rfl,h0⟩|⟨b,cap,cur,rfl,h2,h3,h4⟩
 ·have:e7=[]:=bj h0
  subst this
  exact sN k
 ·refine .slice b 0 (fun i j=>(xs[i*k+j]?).getD undef) rfl h4.1 mb (fun _=>⟨rfl,lu i b (DS.gA hl) ho (hb b rfl),(aO.1 h3).1⟩) hk (fun i j p hp=>?_) (fun i j p hp=>?_)
  ·obtain⟨u,hu,_⟩:=hx i j p hp
   have fm:i*k+j<e7.length*k:=by have:=(aW.1 hu).1;rw[← gF.1];exact this
   simp only[hu,bn,ba]
   exact⟨(qM.cellAt _ fm).trans hu,JT u (aU hu)⟩
  ·obtain⟨u,hu,hr⟩:=hx i j p hp
   simp only[hu,bn]
   exact hr.mono (aP _) fun b _ h2=>⟨sX h2,rfl⟩
theorem RA.wv (lu:∀i b,δ.live i→δ'.ob i=none→κ i=some b→(δ'.cx g (tV δ κ)).N b) (Gh:∀i o,δ.ob i=some o→nG (δ.cx g κ) w i o) {v:Value} {u av:AV} (h:RA (δ.cx g κ) w v u) (hw:WV δ δ' u av):RA (δ'.cx g (tV δ κ)) w v av:=by
 induction hw generalizing v with
 |any v=>exact .any _
 |eq he hi=>subst he;exact h.ids hi
 |jt i e k hl hn=>
  cases h.lit
  exact .own ⟨nR hl,by simp,by simp,fun b hb=>by simp [Value.ownBlock] at hb,[],World.ownsRow_nil _ _ _ _,by simp,fun i' j p hp=>by simp [cellAt] at hp⟩
 |nilrow i e k hl=>
  cases h.lit
  exact .own ⟨nR hl,by simp,by simp,fun b hb=>by simp [Value.ownBlock] at hb,[],World.ownsRow_nil _ _ _ _,by simp,fun i' j p hp=>by simp [cellAt] at hp⟩
 |nilpv k=>cases h.lit;exact .pv (sN k)
 | @freeze i e k e7 ho=>exact .pv (h.sE lu ho)
 | @agg cs ds hl _ ih=>
  cases h with
  |agg hs h=>
   refine .agg (hs.trans hl) fun j u d h1 h2=>?_
   have fm:j<cs.length:=by rw[hl];exact(aW.1 h2).1
   exact ih j _ d (a8 fm) h2 (h j u _ h1 (a8 fm))
 | @fmap i l ps hb hd hl hc=>
  cases h with
  | @gq _ b Xo hκ=>
   obtain⟨b',es,clock,h1,h2,h3,h4,_⟩:=Gh i _ hb
   have:b'=b:=Option.some.inj (h1.symm.trans hκ)
   subst this
   have sH:∀(j:Nat) (e:MapEntry) (p:Value×PV),es[j]? =some e→ps[j]? =some p→e.key=p.1∧RP (δ'.cx g (tV δ κ)).N w e.val p.2:=by
    intro j e p he hp
    have fm:j<l.length:=by rw[hl];exact(aW.1 hp).1
    have qz:=a8 fm
    obtain⟨h5,S8⟩:=hc j _ p qz hp
    obtain⟨h6,h7⟩:=h3.2 j e _ he qz
    refine⟨h6.trans h5,?_⟩
    generalize l[j].2=q at S8 h7
    generalize p.2=q' at S8
    cases S8 with
    |any=>exact .any _
    |pv=>exact h7.k9.mono (aP _) fun b _ h2=>⟨sX h2,rfl⟩
    |own ho he=>subst he;exact h7.sE lu ho
    |nil k=>rw[h7.lit];exact sN k
   exact .pv (.mp b' clock es (lu i b' ⟨_,hb⟩ hd hκ) (iv h2) h2 (h3.1.trans hl) h4 (fun j e p h5 h6=>(sH j e p h5 h6).1) (fun j e p h5 h6=>(sH j e p h5 h6).2))
 | @fbox i cells ps hb hd hc=>
  cases h with
  | @ptr _ _ b hl hκ=>
   obtain⟨b',c,e,h1,h2,h3,h4⟩:=Gh i _ hb
   have:b'=b:=Option.some.inj (h1.symm.trans hκ)
   subst this
   have lj:∀j,w.cell? ⟨b',0+j,none⟩=c[j]?:=fun j=>by simp [World.cell?,h2]
   have sH:∀(j:Nat) (p:PV),ps[j]? =some p→∃(hj:j<c.size),(c[j]).oneCell'=true∧RP (δ'.cx g (tV δ κ)).N w c[j] p:=by
    intro j p hp
    obtain⟨av,Cg,S8⟩:=hc.at j p hp
    have hj:j<c.size:=by rw[h3];exact(aW.1 Cg).1
    obtain⟨h5,h6⟩:=h4 j _ av (aN hj) Cg
    refine⟨hj,h6,?_⟩
    cases S8 with
    |any=>exact .any _
    |pv=>exact h5.k9.mono (aP _) fun b _ h2=>⟨sX h2,rfl⟩
    |own ho he=>subst he;exact h5.sE lu ho
    |nil k=>rw[h5.lit];exact sN k
   refine .fV b' 0 (fun j=>(c[j]?).getD undef) (lu i b' ⟨_,hb⟩ hd hκ) (iv h2) (fun j p hp=>?_) (fun j p hp=>?_)
   ·obtain⟨hj,h5,_⟩:=sH j p hp
    rw[lj,aN hj]
    exact⟨rfl,h5⟩
   ·obtain⟨hj,_,h5⟩:=sH j p hp
    rw[aN hj]
    exact h5
theorem WV.e9 {i e k} {e7 els':List (List PV)} (h:e7=els') (hi:δ'.qu i=true):WV δ δ' (.own i e k e7) (.own i e k els'):=.eq (by rw[h]) hi
theorem WV.ib {k} {e7 els':List (List PV)} (h:e7=els'):WV δ δ' (.pv (.slice k e7)) (.pv (.slice k els')):=.eq (by rw[h]) rfl
theorem WV.fQ {j} {m n:Int} (h:m=n):WV δ δ' (.pv (.lit (.int j m))) (.pv (.lit (.int j n))):=.eq (by rw[h]) rfl
theorem WV.kE {m n:Bool} (h:m=n):WV δ δ' (.pv (.lit (.bool m))) (.pv (.lit (.bool n))):=.eq (by rw[h]) rfl
theorem WV.zS {i e k} {e7 els':List (List PV)} (h:δ'.ob i=none) (he:e7=els'):WV δ δ' (.own i e k e7) (.pv (.slice k els')):=he▸ .freeze h
def Ht (δ δ':DS):List (Nat×AV)→Prop
 |[]=>True
 |(j,v)::r=>WV δ δ' (δ.get j) v∧Ht δ δ' r
def Dk (δ δ':DS):List AV→List AV→Prop
 |[],[]=>True
 |c::cs,d::ds=>WV δ δ' c d∧Dk δ δ' cs ds
 |_,_=>False
inductive WO (δ δ':DS) (i:Nat):Ob→Prop
 |row (h:δ.ob i=some .row):WO δ δ' i .row
 |iF (h:δ.ob i=none):WO δ δ' i .row
 |box {cs:List AV} (ds:List AV) (h:δ.ob i=some (.box cs)) (hs:Dk δ δ' cs ds):WO δ δ' i (.box ds)
 |mp {l:List (Value×AV)} (h:δ.ob i=some (.mp l)) (hs:∀p∈l,p.2.ids δ'.qu δ'.qc=true):WO δ δ' i (.mp l)
 |mpw {l l':List (Value×AV)} (h:δ.ob i=some (.mp l)) (hl:l.length=l'.length) (hs:∀(j:Nat) (p p':Value×AV),l[j]? =some p→l'[j]? =some p'→p.1=p'.1∧WV δ δ' p.2 p'.2∧p'.2.km=true):WO δ δ' i (.mp l')
 |mpl {l l':List (Value×AV)} {k k':Value} {v v':AV} (h:δ.ob i=some (.mpl l k v)) (hl:l=l') (hk:k=k') (hs:∀p∈l,p.2.ids δ'.qu δ'.qc=true) (hv:WV δ δ' v v'):WO δ δ' i (.mpl l' k' v')
 |it {l:List (Value×PV)} {seen:List Nat} (h:δ.ob i=some (.it l seen)):WO δ δ' i (.it l seen)
 |loop {l tm ps iK body st} (h:δ.ob i=some (.loop l tm ps iK body st)):WO δ δ' i (.loop l tm ps iK body st)
 |lit {T:TypeId} {vals:Array Value} (h:δ.ob i=some (.lit T vals)):WO δ δ' i (.lit T vals)
 |e8 {e:TypeId} {rows rows':Nat→Value×List Value} (h:δ.ob i=some (.e8 e rows)) (hr:rows=rows'):WO δ δ' i (.e8 e rows')
def oc (δ δ':DS):List (Nat×Option Ob)→Prop
 |[]=>True
 |(_,none)::r=>oc δ δ' r
 |(i,some o)::r=>WO δ δ' i o∧oc δ δ' r
def sG (n:Nat):List (Nat×Option Ob)→Bool
 |[]=>true
 |(i,_)::r=>aY i n && sG n r
theorem Ht.at:∀{l:List (Nat×AV)},Ht δ δ' l→∀j,WV δ δ' (δ.get j) (look l j)
 |[],_,j=> .any _
 |(i,v)::r,h,j=>by
  rw[fC]
  by_cases e:i=j
  ·subst e;rw[if_pos rfl];exact h.1
  ·rw[if_neg e];exact Ht.at h.2 j
theorem Dk.at:∀{cs ds:List AV},Dk δ δ' cs ds→cs.length=ds.length∧∀(j:Nat) (c d:AV),cs[j]? =some c→ds[j]? =some d→WV δ δ' c d
 |[],[],_=>⟨rfl,fun j c d h=>by simp at h⟩
 |c::cs,d::ds,h=>by
  obtain⟨h1,h2⟩:=h
  obtain⟨h3,h4⟩:=Dk.at h2
  refine⟨by simp [h3],fun j x y h5 h6=>?_⟩
  cases j with
  |zero=>simp at h5 h6;subst h5;subst h6;exact h1
  |succ j=>exact h4 j x y (by simpa using h5) (by simpa using h6)
theorem oc.at:∀{l:List (Nat×Option Ob)},oc δ δ' l→∀i o,fb l i=some o→WO δ δ' i o
 |[],_,i,o,h=>by simp [fb] at h
 |(j,none)::r,h,i,o,ho=>by
  rw[fA] at ho
  by_cases e:j=i
  ·rw[if_pos e] at ho;cases ho
  ·rw[if_neg e] at ho;exact oc.at (l:=r) h i o ho
 |(j,some o')::r,h,i,o,ho=>by
  rw[fA] at ho
  by_cases e:j=i
  ·rw[if_pos e] at ho;cases ho;subst e;exact h.1
  ·rw[if_neg e] at ho;exact oc.at (l:=r) h.2 i o ho
theorem pS {n:Nat}:∀{l:List (Nat×Option Ob)},sG n l=true→∀i o,fb l i=some o→i<n
 |[],_,i,o,h=>by simp [fb] at h
 |(j,x)::r,h,i,o,ho=>by
  simp only[sG,aZ] at h
  rw[fA] at ho
  by_cases e:j=i
  ·subst e;simpa using h.1
  ·rw[if_neg e] at ho;exact pS h.2 i o ho
theorem Rel.lu (r:Rel g δ κ a w):∀i b,δ.live i→δ'.ob i=none→κ i=some b→(δ'.cx g (tV δ κ)).N b:=by
 intro i b hl kY hκ
 refine⟨r.EC hl hκ,fun j hj e=>?_⟩
 obtain⟨h1,h2⟩:=gr e
 have:=r.inj i j b hl h1 hκ h2
 subst this
 obtain⟨o,hj⟩:=hj
 rw[kY] at hj;cases hj
theorem MI (hn:δ'.n=δ.n) (he:∀j,WV δ δ' (δ.get j) (δ'.get j)) (ho:∀i o,δ'.ob i=some o→WO δ δ' i o) (hx:∀i o,δ'.ob i=some o→i<δ'.nx) (r:Rel g δ κ a w):Rel g δ' (tV δ κ) a w:=by
 have vk:∀i o,δ'.ob i=some o→¬δ.live i→tV δ κ i=none:=by
  intro i o h hl
  show(match δ.ob i with|some _=>κ.f i|none=>none)=none
  cases h':δ.ob i with
  |none=>rfl
  |some o'=>exact absurd ⟨o',h'⟩ hl
 have lu:∀i b,δ.live i→δ'.ob i=none→κ i=some b→(δ'.cx g (tV δ κ)).N b:=by
  intro i b hl kY hκ
  refine⟨r.EC hl hκ,fun j hj e=>?_⟩
  obtain⟨h1,h2⟩:=gr e
  have:=r.inj i j b hl h1 hκ h2
  subst this
  obtain⟨o,hj⟩:=hj
  rw[kY] at hj;cases hj
 exact
  {n:=r.n.trans hn.symm
   dfr:=r.dfr
   env:=fun j=>(r.env j).wv lu r.obj (he j)
   obj:=fun i o h=>by
    have Wg:=ho i o h
    cases Wg with
    |row h'=>
     intro b hb
     obtain⟨_,h2⟩:=gr hb
     exact r.obj i _ h' b h2
    |iF h'=>
     intro b hb
     obtain⟨⟨o,h1⟩,_⟩:=gr hb
     rw[h'] at h1;cases h1
    |box ds h' hs=>
     obtain⟨b,c,e,h1,h2,h3,h4⟩:=r.obj i _ h'
     obtain⟨h5,h6⟩:=hs.at
     refine⟨b,c,e,(iC ⟨_,h'⟩).trans h1,h2,h3.trans h5,fun j u av h7 h8=>?_⟩
     have fm:j<_:=(aW.1 h8).1
     rw[← h5] at fm
     obtain⟨h9,ub⟩:=h4 j u _ h7 (a8 fm)
     exact⟨h9.wv lu r.obj (h6 j _ av (a8 fm) h8),ub⟩
    |mp h' hs=>
     obtain⟨b,es,clock,h1,h2,h3,h4⟩:=r.obj i _ h'
     exact⟨b,es,clock,(iC ⟨_,h'⟩).trans h1,h2,⟨h3.1,fun j e p h5 h6=>⟨(h3.2 j e p h5 h6).1,(h3.2 j e p h5 h6).2.ids (hs p (aU h6))⟩⟩,h4⟩
    |mpw h' hl hs=>
     obtain⟨b,es,clock,h1,h2,h3,h4⟩:=r.obj i _ h'
     refine⟨b,es,clock,(iC ⟨_,h'⟩).trans h1,h2,⟨h3.1.trans hl,fun j e p h5 h6=>?_⟩,h4.1,fun p hp=>?_⟩
     ·have fm:j<_:=(aW.1 h6).1
      rw[← hl] at fm
      have h7:=a8 fm
      obtain⟨h8,h9,_⟩:=hs j _ p h7 h6
      obtain⟨ub,q7⟩:=h3.2 j e _ h5 h7
      exact⟨ub.trans h8,q7.wv lu r.obj h9⟩
     ·obtain⟨j,hj⟩:=bA hp
      have fm:j<_:=(aW.1 hj).1
      rw[← hl] at fm
      exact(hs j _ p (a8 fm) hj).2.2
    |mpl h' hl hk hs hv=>
     obtain⟨b,es,clock,h1,h2,h3,h4⟩:=r.obj i _ h'
     subst hl;subst hk
     exact⟨b,es,clock,(iC ⟨_,h'⟩).trans h1,h2,h3.last (fun u p hp h=>h.ids (hs p hp)) (fun u h=>h.wv lu r.obj hv),h4⟩
    |it h'=>
     obtain⟨b,h1,h2⟩:=r.obj i _ h'
     exact⟨b,(iC ⟨_,h'⟩).trans h1,h2.mono (aP _) (fun b _ hN=>⟨sX hN,rfl⟩) rfl⟩
    |loop h'=>
     obtain⟨b,l,h1,h2⟩:=r.obj i _ h'
     exact⟨b,l,(iC ⟨_,h'⟩).trans h1,h2⟩
    |e8 h' hr=>
     subst hr
     have h0:=r.obj i _ h'
     exact⟨(iC ⟨_,h'⟩).trans h0.1,fun k=>(h0.2.1 k).goes rfl fun b _ h2 _=>⟨h2,rfl⟩,h0.2.2⟩
    |lit h'=>
     obtain⟨b,h1,h2⟩:=r.obj i _ h'
     exact⟨b,(iC ⟨_,h'⟩).trans h1,h2⟩
   inj:=fun i j b _ _ h3 h4=>r.inj i j b (gr h3).1 (gr h4).1 (gr h3).2 (gr h4).2
   lo:=fun i b _ h2=>r.lo i b (gr h2).1 (gr h2).2
   nx:=fun i ⟨o,h⟩=>hx i o h
   wt:=fun k hk=>⟨(r.wt k hk).1,fun i b _ hi hb=>by
    obtain⟨hl,hκ⟩:=gr hb
    refine(r.wt k hk).2 i b hl (hi.imp (fun hi=>?_) id) hκ
    have Wg:=ho i _ hi
    cases Wg with
    |row h=>exact h
    |iF h=>obtain⟨o,fZ⟩:=hl;rw[h] at fZ;cases fZ⟩
   below:=r.below
   hB:=r.hB
   N0:=r.N0
   kc:=r.kc
   fr:=r.fr.sub fun j b _ h2=>⟨j,(gr h2).1,(gr h2).2⟩}
theorem Q_ (hn:δ'.n=δ.n) (he:∀j,WV δ δ' (δ.get j) (δ'.get j)) (ho:∀i o,δ'.ob i=some o→WO δ δ' i o) (hx:∀i o,δ'.ob i=some o→i<δ'.nx):pw g δ δ':=fun κ _ _ r=>⟨tV δ κ,MI hn he ho hx r⟩
theorem fp (hn:δ'.n=δ.n) (he:Ht δ δ' δ'.env) (ho:oc δ δ' δ'.gm) (hx:sG δ'.nx δ'.gm=true):pw g δ δ':=Q_ hn (fun j=>he.at j) (fun i o h=>ho.at i o h) (fun i o h=>pS hx i o h)
end Go.Ab
/- Small laws for the walk:what stands behind a step. -/
namespace Go.Ab
open Go Go.RowKit
variable {P:Program} {g:eR} {δ:DS} {ops:Array Oper} {rest:List Oper} {Q:Exit→DS→Prop} {next:DS→Prop} {dst:Option Nat} {ty:TypeId} {pos:String} {af:Array Edge}
theorem ic (h:next δ):gb next Q .normal δ:=h
theorem jY {id:Nat} (h:Q (.exit id) δ):gb next Q (.exit id) δ:=h
theorem gH (h:Q .ret δ):gb next Q .ret δ:=h
theorem gT {id:Nat} (h:Q .normal δ):fq id Q .normal δ:=h
theorem iX {id:Nat} (h:Q .ret δ):fq id Q .ret δ:=h
theorem hZ {id:Nat} (h:Q .normal δ):fq id Q (.exit id) δ:=by show(if id=id then _ else _);rw[if_pos rfl];exact h
theorem mQ {id id':Nat} (fW:(aL id' id)=false) (h:Q (.exit id') δ):fq id Q (.exit id') δ:=by
 show(if id'=id then _ else _);rw[if_neg (by intro e;subst e;simp at fW)];exact h
theorem e6 {rs:List ResultVar} {r v:AV} (h:gk P δ rs v) (hl:Le true v r):Ends P rs r .ret δ:=⟨v,h,hl⟩
theorem Le.e9 {i e k} {e7 els':List (List PV)} (h:e7=els'):Le true (.own i e k e7) (.pv (.slice k els')):=h▸ .own _ _ _ _ rfl
theorem Le.fh {ow:Bool} {p q:Bool} (h:p=q):Le ow (fh p) (fh q):=h▸ .pv _
theorem Le.eV {ow:Bool} {p q:Int} (h:p=q):Le ow (eV p) (eV q):=h▸ .pv _
theorem AW.qB {c:Operand} {x y:Code} {p:Prop} {_:Decidable p} (ho:ff c=true) (hc:δ.ev c=fh (decide p)) (h1:p→AW P g x Q δ) (h2:¬p→AW P g y Q δ):AW P g (.cond c x y) Q δ:=
 AW.cond ho hc (fun h=>h1 (of_decide_eq_true h)) (fun h=>h2 (of_decide_eq_false h))
theorem AW.Hc {c:Operand} {x y:Code} {t:Bool} (ht:t=true) (ho:ff c=true) (hc:δ.ev c=fh t) (h1:AW P g x Q δ):AW P g (.cond c x y) Q δ:=
 AW.cond ho hc (fun _=>h1) (fun h=>by rw[ht] at h;cases h)
theorem AW.IA {c:Operand} {x y:Code} {t:Bool} (ht:t=false) (ho:ff c=true) (hc:δ.ev c=fh t) (h1:AW P g y Q δ):AW P g (.cond c x y) Q δ:=
 AW.cond ho hc (fun h=>by rw[ht] at h;cases h) (fun _=>h1)
def encI (x:Int):List PV:=[.lit (.int .i64 x)]
def oz (x:Bool):List PV:=[.lit (.bool x)]
abbrev ints (l:List Int):PV:=.slice 1 (l.map encI)
abbrev IK (l:List Bool):PV:=.slice 1 (l.map oz)
abbrev jj (l:List (List Int)):PV:=.slice 1 (l.map fun c=>[ints c])
end Go.Ab
/- The abstract states' laws where memory turns:variables in boxes,rows that grow or are stored into. -/
namespace Go.Ab
open Go Go.RowKit
variable {q:Md} {P:Program} {g:eR} {δ:DS} {κ:Kp} {a:Act} {w:World}
variable {ops:Array Oper} {rest:List Oper} {Q:Exit→DS→Prop} {dst:Option Nat} {ty:TypeId} {pos:String} {af:Array Edge}
structure ir (w w':World) (b:Option Nat):Prop where
 os:w'.os=w.os
 tape:w'.tape=w.tape
 output:w'.output=w.output
 size:w.heap.size≤w'.heap.size
 block:∀k,k<w.heap.size→b≠some k→w'.heap[k]? =w.heap[k]?
theorem ir.setCell (w:World) (ad:Addr) (u:Value):ir w (w.setCell ad u) (some ad.block):=
 ⟨rfl,rfl,rfl,by simp [World.setCell],fun k _ h=>Below.heap_setCell _ _ _ _ (fun e=>h (by rw[e]))⟩
theorem ir.grownBy {w w':World} {row:Option Nat} (h:w.grownBy w' row):ir w w' row:=⟨h.os,h.tape,h.output,h.size,fun k hk hn=>h.block k hk (Ne.symm hn)⟩
theorem ir.setRow (w:World) (b:Nat) (c:Array Value):ir w (w.setRow b c) (some b):=⟨rfl,rfl,rfl,by simp,fun k _ h=>setRow_other w b k c (fun e=>h (by rw[e]))⟩
theorem Rel.rC (r:Rel g δ κ a w) {w':World} {b:Option Nat} (t:ir w w' b) (hb:∀k,b=some k→g.B≤k):Below g.B g.w0 w':=
 r.below.trans ⟨t.os,t.tape,t.output,t.size,fun k hk=>t.block k (aK hk r.hB) (fun e=>by have:=hb k e;omega)⟩
def eR.ni (g:eR) (i:Nat):Prop:=∀k,g.wt=some k→k.2.2≤i
theorem jM (h:g.wt=none) (i:Nat):g.ni i:=fun k hk=>by rw[h] at hk;cases hk
theorem Rel.modify (r:Rel g δ κ a w) {i b:Nat} {o o':Ob} (ho:δ.ob i=some o) (hr:o.ln=false) (wX:o'.ln=false) (hκ:κ i=some b) (CJ:g.ni i) {w':World} (t:ir w w' (some b)) (hs:w'.heap.size=w.heap.size)
  (iQ:∀C,C.κ=κ→j4 (δ.cx g κ) w C w'→nG C w' i o'):Rel g (δ.ga i (some o')) κ a w'∧j4 (δ.cx g κ) w ((δ.ga i (some o')).cx g κ) w':=by
 have hi:δ.live i:=⟨o,ho⟩
 have fM:∀j,(δ.ga i (some o')).live j↔δ.live j:=by
  intro j
  unfold DS.live
  rw[jw]
  by_cases e:i=j
  ·subst e;simp [ho]
  ·simp [e]
 have m_:∀j,(δ.ga i (some o')).lr j↔δ.lr j:=by
  intro j
  unfold DS.lr
  rw[jw]
  by_cases e:i=j
  ·subst e
   rw[if_pos rfl,ho]
   cases o<;>cases o'<;>simp_all [Ob.ln]
  ·simp [e]
 have u7:∀j,(δ.ga i (some o')).lb j↔δ.lb j:=by
  intro j
  unfold DS.lb
  rw[jw]
  by_cases e:i=j
  ·subst e
   rw[if_pos rfl,ho]
   exact⟨fun _=>⟨o,rfl,hr⟩,fun _=>⟨o',rfl,wX⟩⟩
  ·simp [e]
 have fW:∀j,δ.lr j→κ j≠some b:=by
  intro j hj e
  have:=r.inj i j b hi (DS.gA hj) hκ e
  subst this
  have:some o=some Ob.row:=ho.symm.trans hj
  cases this
  simp [Ob.ln] at hr
 have G:j4 (δ.cx g κ) w ((δ.ga i (some o')).cx g κ) w':=
  {B:=rfl,size:=t.size
   N:=fun k h1 h2=>⟨⟨h2.1,fun j hj=>h2.2 j ((fM j).1 hj)⟩,t.block k h1 (fun e=>h2.2 i hi (hκ.trans e))⟩
   Lr:=fun j hj=>⟨(m_ j).2 hj,rfl,fun k hk=>t.block k (r.lo j k (DS.gA hj) hk).2 (fun e=>fW j hj (hk.trans e.symm))⟩
   Lb:=fun j hj=>⟨(u7 j).2 hj,rfl⟩}
 refine⟨?_,G⟩
 exact
  {n:=r.n
   dfr:=r.dfr.goes fun k _ hk=>t.block k (iv hk) (fun e=>by
    have:b=k:=Option.some.inj e
    subst this
    have h0:=r.obj i o ho
    cases o with
    |row=>simp [Ob.ln] at hr
    |box cs=>obtain⟨b',c,e',h1,h2,_⟩:=h0;have:b'=b:=Option.some.inj (h1.symm.trans hκ);subst this;rw[hk] at h2;cases h2
    |it l seen=>obtain⟨b',h1,h2⟩:=h0;have:b'=b:=Option.some.inj (h1.symm.trans hκ);subst this;rcases h2 with ⟨_,h2⟩|⟨_,_,_,_,_,_,_,_,_,h2,_⟩<;>(rw[hk] at h2;cases h2)
    |lit T vals=>obtain⟨b',h1,h2⟩:=h0;have:b'=b:=Option.some.inj (h1.symm.trans hκ);subst this;rw[hk] at h2;cases h2
    |e8 e rows=>exact absurd (h0.1.symm.trans hκ) (by simp)
    |mp l=>obtain⟨b',c,e',h1,h2,_⟩:=h0;have:b'=b:=Option.some.inj (h1.symm.trans hκ);subst this;rw[hk] at h2;cases h2
    |mpl l k v=>obtain⟨b',c,e',h1,h2,_⟩:=h0;have:b'=b:=Option.some.inj (h1.symm.trans hκ);subst this;rw[hk] at h2;cases h2
    |loop l tm ps iK body st=>obtain⟨b',c,h1,h2,_⟩:=h0;have:b'=b:=Option.some.inj (h1.symm.trans hκ);subst this;rw[hk] at h2;cases h2)
   env:=fun j=>G.ra (r.env j)
   obj:=fun j x h=>by
    rw[jw] at h
    by_cases e:i=j
    ·subst e;rw[if_pos rfl] at h;cases h;exact iQ _ rfl G
    ·rw[if_neg e] at h
     exact(r.obj j x h).goes G rfl (fun k hk=>t.block k (r.lo j k ⟨x,h⟩ hk).2 (fun e'=>e (r.inj i j k hi ⟨x,h⟩ (hκ.trans e') hk))) (fun k h1 h2=>⟨h1,t.block k h2 (fun e'=>r.fr.mP hi (hκ.trans e') ⟨j,h1⟩)⟩)
   inj:=fun i' j b h1 h2=>r.inj i' j b ((fM i').1 h1) ((fM j).1 h2)
   lo:=fun j k h1 h2=>by have:=r.lo j k ((fM j).1 h1) h2;rw[hs];exact this
   nx:=fun j h=>r.nx j ((fM j).1 h)
   wt:=fun k hk=>⟨fun b' ja=>⟨((r.wt k hk).1 b' ja).1,(t.block b' (qK ((r.wt k hk).1 b' ja)) (fun e=>by
     cases e
     exact(r.wt k hk).2 i b hi (.inr (CJ k hk)) hκ ja)).trans ((r.wt k hk).1 b' ja).2⟩,
    fun j b' hj ng Da=>(r.wt k hk).2 j b' ((fM j).1 hj) (ng.imp (m_ j).1 id) Da⟩
   below:=r.rC t (fun k e=>by cases e;exact(r.lo i b hi hκ).1)
   hB:=by rw[hs];exact r.hB
   N0:=r.N0
   kc:=r.kc
   fr:=r.fr.of t.size (fun k _ h1 h2=>t.block k h1 (fun e=>h2 i hi (hκ.trans e))) fun j k h1 h2=> .inl ⟨j,(fM j).1 h1,h2⟩}
mutual
def AV.mp (f:AV→AV):AV→AV
 |.agg cs=> .agg (AV.Cp f cs)
 |.gX cs=> .gX (AV.Cp f cs)
 |.jk fn cs ds=> .jk fn (AV.Cp f cs) (AV.Cp f ds)
 |.any=>f .any
 |.pv p=> .pv p
 |.own i e k e7=>f (.own i e k e7)
 |.ptr i o=> .ptr i o
 |.fV c=> .fV c
 |.gJ i e k e7 n=>f (.gJ i e k e7 n)
 |.gq i=> .gq i
 |.kO i=> .kO i
def AV.Cp (f:AV→AV):List AV→List AV
 |[]=>[]
 |c::cs=>AV.mp f c::AV.Cp f cs
end
theorem AV.jo (f:AV→AV):∀l,AV.Cp f l=l.map (AV.mp f)
 |[]=>rfl
 |c::cs=>by simp [AV.Cp,AV.jo f cs]
def Ob.wo (f:AV→AV):Ob→Ob
 |.row=> .row
 |.box cs=> .box (cs.map f)
 |.mp l=> .mp l
 |.mpl l k v=> .mpl l k (f v)
 |.it l seen=> .it l seen
 |.lit T vals=> .lit T vals
 |.e8 e rows=> .e8 e rows
 |.loop l tm ps iK body st=> .loop l tm ps iK body st
def DS.gG (δ:DS) (f:AV→AV):DS:={δ with env:=δ.env.map fun p=>(p.1,f p.2),gm:=δ.gm.map fun p=>(p.1,p.2.map (Ob.wo f))}
theorem pL (f:AV→AV) (hf:f .any=.any) (δ:DS) (j:Nat):(δ.gG f).get j=f (δ.get j):=by
 have:∀l:List (Nat×AV),look (l.map fun p=>(p.1,f p.2)) j=f (look l j):=by
  intro l
  induction l with
  |nil=>simp [look,hf]
  |cons x l ih=>
   obtain⟨i,v⟩:=x
   simp only[bB,fC,ih]
   split<;>rfl
 exact this _
theorem j_ (f:AV→AV) (δ:DS) (j:Nat):(δ.gG f).ob j=(δ.ob j).map (Ob.wo f):=by
 have:∀l:List (Nat×Option Ob),fb (l.map fun p=>(p.1,p.2.map (Ob.wo f))) j=(fb l j).map (Ob.wo f):=by
  intro l
  induction l with
  |nil=>rfl
  |cons x l ih=>
   obtain⟨i,v⟩:=x
   simp only[bB,fA,ih]
   split<;>rfl
 exact this _
def Cx.less (C:Cx) (i:Nat):Cx:={C with Lr:=fun j=>C.Lr j∧j≠i}
theorem RA.less {C:Cx} {i:Nat} {w:World} {v:Value} {av:AV} (h:RA C w v av) (hn:av.km=true):RA (C.less i) w v av:=by
 cases h with
 |any v=>exact .any v
 |pv h=>exact .pv h
 |own h=>simp [AV.km] at hn
 |ptr hl hκ=>exact .ptr hl hκ
 |fV b off vs hN hb hc hr=>exact .fV b off vs hN hb hc hr
 |gJ hi h=>simp [AV.km] at hn
 |agg hs h=>simp [AV.km] at hn
 |gX hs h=>simp [AV.km] at hn
 |jk hs h ht h'=>simp [AV.km] at hn
 |gq hl hκ=>exact .gq hl hκ
 |kO hl hκ=>exact .kO hl hκ
theorem Rel.row (r:Rel g δ κ a w) {i:Nat} (ho:δ.ob i=some .row) {κ':Kp} (hκ:∀j,j≠i→κ' j=κ j) {w':World} (t:ir w w' (κ i))
  (hi:∀b,κ' i=some b→(κ i=some b∨w.heap.size≤b)∧b<w'.heap.size∧∃c e,w'.heap[b]? =some (.cells c e (0,0)))
  (f:AV→AV) (UH:f .any=.any)
  (hf:j4 ((δ.cx g κ).less i) w ((δ.gG f).cx g κ') w'→∀v av,RA (δ.cx g κ) w v av→RA ((δ.gG f).cx g κ') w' v (f av)) (hF:κ'.F=κ.F:=by rfl):
  Rel g (δ.gG f) κ' a w'∧j4 ((δ.cx g κ).less i) w ((δ.gG f).cx g κ') w':=by
 have t_:δ.live i:=⟨_,ho⟩
 have fM:∀j,(δ.gG f).live j↔δ.live j:=by
  intro j
  unfold DS.live
  rw[j_]
  cases δ.ob j<;>simp
 have m_:∀j,(δ.gG f).lr j↔δ.lr j:=by
  intro j
  unfold DS.lr
  rw[j_]
  cases δ.ob j with
  |none=>simp
  |some o=>cases o<;>simp [Ob.wo]
 have u7:∀j,(δ.gG f).lb j↔δ.lb j:=by
  intro j
  unfold DS.lb
  rw[j_]
  cases δ.ob j with
  |none=>simp
  |some o=>cases o<;>simp [Ob.wo,Ob.ln]
 have tY:∀j,δ.lb j→j≠i:=by
  rintro j ⟨o,h1,h2⟩ rfl
  rw[ho] at h1;cases h1;simp [Ob.ln] at h2
 have oa:∀j k,δ.live j→j≠i→κ j=some k→w'.heap[k]? =w.heap[k]?:=fun j k hj fW hk=>
  t.block k (r.lo j k hj hk).2 (fun e=>fW (r.inj j i k hj t_ hk e))
 have G:j4 ((δ.cx g κ).less i) w ((δ.gG f).cx g κ') w':=
  {B:=rfl,size:=t.size
   N:=fun k h1 h2=>by
    refine⟨⟨⟨h2.1.1,by unfold Kp.Fs;rw[hF];exact h2.1.2⟩,fun j hj e=>?_⟩,t.block k h1 (h2.2 i t_)⟩
    by_cases pg:j=i
    ·subst pg
     rcases(hi k e).1 with h|h
     ·exact h2.2 j t_ h
     ·omega
    ·rw[hκ j pg] at e;exact h2.2 j ((fM j).1 hj) e
   Lr:=fun j hj=>⟨(m_ j).2 hj.1,hκ j hj.2,fun k hk=>oa j k (DS.gA hj.1) hj.2 hk⟩
   Lb:=fun j hj=>⟨(u7 j).2 hj,hκ j (tY j hj)⟩}
 refine⟨?_,G⟩
 have F:=hf G
 exact
  {n:=r.n
   dfr:=r.dfr.goes fun k _ hk=>t.block k (iv hk) (fun e=>by
    obtain⟨c,e',h1⟩:=r.obj i _ ho k e
    rw[hk] at h1;cases h1)
   env:=fun j=>by rw[pL f UH];exact F _ _ (r.env j)
   obj:=fun j x h=>by
    rw[j_] at h
    cases fZ:δ.ob j with
    |none=>rw[fZ] at h;simp at h
    |some o=>
     rw[fZ] at h
     simp only[br,Option.some.injEq] at h
     subst h
     have h0:=r.obj j o fZ
     cases o with
     |row=>
      intro b hb
      by_cases pg:j=i
      ·subst pg;exact(hi b hb).2.2
      ·have ja:κ j=some b:=by rw[← hκ j pg];exact hb
       obtain⟨c,e,h1⟩:=h0 b ja
       exact⟨c,e,(oa j b ⟨_,fZ⟩ pg ja).trans h1⟩
     |box cs=>
      obtain⟨b,c,e,h1,h2,h3,h4⟩:=h0
      have pg:j≠i:=tY j ⟨_,fZ,rfl⟩
      refine⟨b,c,e,(hκ j pg).trans h1,(oa j b ⟨_,fZ⟩ pg h1).trans h2,by simpa using h3,fun k u av h5 h6=>?_⟩
      simp only[a7,bg] at h6
      obtain⟨av',h6,rfl⟩:=h6
      exact⟨F _ _ (h4 k u av' h5 h6).1,(h4 k u av' h5 h6).2⟩
     |mp l=>
      obtain⟨b,es,clock,h1,h2,h3,h4⟩:=h0
      have pg:j≠i:=tY j ⟨_,fZ,rfl⟩
      refine⟨b,es,clock,(hκ j pg).trans h1,(oa j b ⟨_,fZ⟩ pg h1).trans h2,⟨h3.1,fun k e p h5 h6=>?_⟩,h4⟩
      exact⟨(h3.2 k e p h5 h6).1,G.ra ((h3.2 k e p h5 h6).2.less (h4.2 p (aU h6)))⟩
     |mpl l kk v=>
      obtain⟨b,es,clock,h1,h2,h3,h4⟩:=h0
      have pg:j≠i:=tY j ⟨_,fZ,rfl⟩
      refine⟨b,es,clock,(hκ j pg).trans h1,(oa j b ⟨_,fZ⟩ pg h1).trans h2,?_,h4⟩
      exact h3.last (fun u p hp h=>G.ra (h.less (h4.2 p hp))) (fun u h=>F _ _ h)
     |it l seen=>
      obtain⟨b,h1,h2⟩:=h0
      have pg:j≠i:=tY j ⟨_,fZ,rfl⟩
      exact⟨b,(hκ j pg).trans h1,h2.mono G.size G.N (oa j b ⟨_,fZ⟩ pg h1)⟩
     |e8 e rows=>
      have pg:j≠i:=tY j ⟨_,fZ,rfl⟩
      exact⟨(hκ j pg).trans h0.1,fun kk=>(h0.2.1 kk).goes rfl fun k _ h1 h2=>⟨by rw[show((δ.gG f).cx g κ').κ=κ' from rfl,hF];exact h1,t.block k h2 (fun e=>r.fr.mP t_ e ⟨j,h1⟩)⟩,h0.2.2⟩
     |lit T vals=>
      obtain⟨b,h1,h2⟩:=h0
      have pg:j≠i:=tY j ⟨_,fZ,rfl⟩
      exact⟨b,(hκ j pg).trans h1,(oa j b ⟨_,fZ⟩ pg h1).trans h2⟩
     |loop l tm ps iK body st=>
      obtain⟨b,lr,h1,h2,h3⟩:=h0
      have pg:j≠i:=tY j ⟨_,fZ,rfl⟩
      exact⟨b,lr,(hκ j pg).trans h1,(oa j b ⟨_,fZ⟩ pg h1).trans h2,h3⟩
   inj:=fun i' j b h1 h2 h3 h4=>by
    rw[fM] at h1 h2
    by_cases e1:i'=i
    ·by_cases e2:j=i
     ·rw[e1,e2]
     ·subst e1
      rw[hκ j e2] at h4
      rcases(hi b h3).1 with h|h
      ·exact r.inj i' j b h1 h2 h h4
      ·exact absurd (r.lo j b h2 h4).2 (by omega)
    ·by_cases e2:j=i
     ·subst e2
      rw[hκ i' e1] at h3
      rcases(hi b h4).1 with h|h
      ·exact r.inj i' j b h1 h2 h3 h
      ·exact absurd (r.lo i' b h1 h3).2 (by omega)
     ·rw[hκ i' e1] at h3
      rw[hκ j e2] at h4
      exact r.inj i' j b h1 h2 h3 h4
   lo:=fun j k h1 h2=>by
    rw[fM] at h1
    by_cases e:j=i
    ·subst e
     refine⟨?_,(hi k h2).2.1⟩
     rcases(hi k h2).1 with h|h
     ·exact(r.lo j k h1 h).1
     ·exact aQ r.hB h
    ·rw[hκ j e] at h2
     have:=r.lo j k h1 h2
     exact⟨this.1,aK this.2 t.size⟩
   nx:=fun j h=>r.nx j ((fM j).1 h)
   wt:=fun k hk=>⟨fun b' ja=>⟨((r.wt k hk).1 b' ja).1,(t.block b' (qK ((r.wt k hk).1 b' ja)) (fun e=>(r.wt k hk).2 i b' t_ (.inl ho) e ja)).trans ((r.wt k hk).1 b' ja).2⟩,
    fun j b' hj ng Da ja=>by
     by_cases e:j=i
     ·subst e
      rcases(hi b' Da).1 with h|h
      ·exact(r.wt k hk).2 j b' t_ (.inl ho) h ja
      ·exact absurd (qK ((r.wt k hk).1 b' ja)) (by omega)
     ·rw[hκ j e] at Da
      exact(r.wt k hk).2 j b' ((fM j).1 hj) (ng.imp (m_ j).1 id) Da ja⟩
   below:=r.rC t (fun k e=>(r.lo i k t_ e).1)
   hB:=aQ r.hB t.size
   N0:=r.N0
   kc:=r.kc
   fr:=r.fr.of t.size (fun k _ h1 h2=>t.block k h1 (fun e=>h2 i t_ e)) (fun j k h1 h2=>by
    by_cases e:j=i
    ·subst e
     rcases(hi k h2).1 with h|h
     ·exact .inl ⟨j,t_,h⟩
     ·exact .inr h
    ·rw[hκ j e] at h2;exact .inl ⟨j,(fM j).1 h1,h2⟩) (fun j b h=>by rw[hF] at h;exact h)}
theorem Rel.BF (r:Rel g δ κ a w):Rel g (δ.fK .row) (gY κ δ.nx none) a w∧j4 (δ.cx g κ) w ((δ.fK .row).cx g (gY κ δ.nx none)) w:=by
 have nA:¬δ.live δ.nx:=fun h=>aX _ (r.nx _ h)
 have fW:∀i,δ.live i→δ.nx≠i:=fun i h e=>nA (e▸h)
 have fM:∀i,(δ.fK .row).live i→i=δ.nx∨δ.live i:=by
  intro i ⟨o',h⟩
  rw[fU] at h
  by_cases e:δ.nx=i
  ·exact .inl e.symm
  ·rw[if_neg e] at h;exact .inr ⟨o',h⟩
 have n8:∀i b,(δ.fK .row).live i→gY κ δ.nx none i=some b→δ.live i∧κ i=some b:=by
  intro i b hi h
  rcases fM i hi with rfl|hi
  ·simp [gY] at h
  ·simp only[gY,fW i hi,if_false] at h;exact⟨hi,h⟩
 have G:j4 (δ.cx g κ) w ((δ.fK .row).cx g (gY κ δ.nx none)) w:=
  {B:=rfl,size:=aP _
   N:=fun b h1 h2=>⟨⟨h2.1,fun i hi e=>let ⟨h3,h4⟩:=n8 i b hi e;h2.2 i h3 h4⟩,rfl⟩
   Lr:=fun i hi=>by
    have kb:=fW i (DS.gA hi)
    refine⟨?_,by show gY _ _ _ i=κ i;simp [gY,kb],fun b hκ=>rfl⟩
    show(δ.fK .row).ob i=_
    rw[fU,if_neg kb];exact hi
   Lb:=fun i hi=>by
    have kb:=fW i (DS.lI hi)
    refine⟨?_,by show gY _ _ _ i=κ i;simp [gY,kb]⟩
    obtain⟨o',h1,h2⟩:=hi
    exact⟨o',by rw[fU,if_neg kb];exact h1,h2⟩}
 refine⟨?_,G⟩
 exact
  {n:=r.n,dfr:=r.dfr,env:=fun j=>G.ra (r.env j)
   obj:=fun i o' h=>by
    rw[fU] at h
    by_cases e:δ.nx=i
    ·rw[if_pos e] at h;cases h;subst e
     intro b hb
     exact absurd hb (by show gY _ _ _ _≠_;simp [gY])
    ·rw[if_neg e] at h
     exact(r.obj i o' h).goes G (by show gY _ _ _ i=κ i;simp [gY,e]) (fun b hκ=>rfl) (fun b hF fm=>⟨hF,rfl⟩)
   inj:=fun i j b h1 h2 h3 h4=>let ⟨h5,h6⟩:=n8 i b h1 h3;let ⟨h7,h8⟩:=n8 j b h2 h4;r.inj i j b h5 h7 h6 h8
   lo:=fun i b h1 h2=>let ⟨h5,h6⟩:=n8 i b h1 h2;r.lo i b h5 h6
   nx:=fun i h=>by
    show i<δ.nx+1
    rcases fM i h with rfl|h
    ·omega
    ·have:=r.nx i h;omega
   wt:=fun k hk=>⟨(r.wt k hk).1,fun i b hi kb hκ hb=>by
    obtain⟨h5,h6⟩:=n8 i b hi hκ
    refine(r.wt k hk).2 i b h5 (kb.imp (fun h=>?_) id) h6 hb
    have h7:(δ.fK .row).ob i=some .row:=h
    rw[fU,if_neg (fW i h5)] at h7
    exact h7⟩
   below:=r.below
   hB:=r.hB
   N0:=r.N0
   kc:=r.kc
   fr:=r.fr.sub fun i b h1 h2=>⟨i,n8 i b h1 h2⟩}
def qG (i:Nat):AV→AV
 |.own j e k e7=>bif aL i j then .any else .own j e k e7
 |.gJ j e k e7 n=>bif aL i j then .any else .gJ j e k e7 n
 |v=>v
def AV.kill (i:Nat):AV→AV:=AV.mp (qG i)
theorem me {i j:Nat} (h:i≠j):aL i j=false:=by cases hh:aL i j with|false=>rfl|true=>exact absurd (aM hh) h
theorem nU (i:Nat):aL i i=true:=Nat.beq_refl i
theorem RA.mp {C C':Cx} {i:Nat} {w w':World} (G:j4 (C.less i) w C' w') {f:AV→AV}
  (Vc:f .any=.any)
  (mU:∀j e k e7,j≠i→f (.own j e k e7)=.own j e k e7) (SF:∀j e k e7 n,j≠i→f (.gJ j e k e7 n)=.gJ j e k e7 n)
  (gF:∀v e k e7,jy C w v i e k e7→RA C' w' v (f (.own i e k e7))) (Rj:∀b cap e k e7 n,n<e7.length→jy C w (.slice (some ⟨b,0,none⟩) e7.length cap) i e k e7→RA C' w' (.pointer (some ⟨b,n*k,none⟩)) (f (.gJ i e k e7 n)))
  {v:Value} {av:AV} (h:RA C w v av):RA C' w' v (av.mp f):=by
 have BC:∀{v j e k e7},jy C w v j e k e7→j≠i→jy (C.less i) w v j e k e7:=fun h hj=>⟨⟨h.live,hj⟩,h.lim,h.hk,h.wI,h.row⟩
 induction h with
 |any v=>simp only[AV.mp,Vc];exact .any v
 |pv h=>exact .pv (G.rp h)
 | @own v j e k e7 h=>
  simp only[AV.mp]
  by_cases hj:j=i
  ·subst hj;exact gF v e k e7 h
  ·rw[mU j e k e7 hj];exact .own (G.Gj (BC h hj))
 |ptr hl hκ=>exact .ptr (G.Lb _ hl).1 ((G.Lb _ hl).2.trans hκ)
 |fV b off vs hN hb hc hr=>exact G.ra (C:=C.less i) (.fV b off vs hN hb hc hr)
 | @gJ j e k e7 n b cap hn h=>
  simp only[AV.mp]
  by_cases hj:j=i
  ·subst hj;exact Rj b cap e k e7 n hn h
  ·rw[SF j e k e7 n hj];exact .gJ hn (G.Gj (BC h hj))
 | @agg vs cs hs h ih=>
  simp only[AV.mp,AV.jo]
  refine .agg (by simpa using hs) fun j u c h1 h2=>?_
  simp only[a7,bg] at h2
  obtain⟨c',h2,rfl⟩:=h2
  exact ih j u c' h1 h2
 | @gX vs cs hs h ih=>
  simp only[AV.mp,AV.jo]
  refine .gX (by simpa using hs) fun j u c h1 h2=>?_
  simp only[a7,bg] at h2
  obtain⟨c',h2,rfl⟩:=h2
  exact ih j u c' h1 h2
 | @jk fn vs us cs ds hs h ht h' ih ih'=>
  simp only[AV.mp,AV.jo]
  refine .jk (by simpa using hs) (fun j u c h1 h2=>?_) (by simpa using ht) (fun j u c h1 h2=>?_)
  ·simp only[a7,bg] at h2
   obtain⟨c',h2,rfl⟩:=h2
   exact ih j u c' h1 h2
  ·simp only[a7,bg] at h2
   obtain⟨c',h2,rfl⟩:=h2
   exact ih' j u c' h1 h2
 |gq hl hκ=>exact .gq (G.Lb _ hl).1 ((G.Lb _ hl).2.trans hκ)
 |kO hl hκ=>exact .kO (G.Lb _ hl).1 ((G.Lb _ hl).2.trans hκ)
theorem RA.kill {C C':Cx} {i:Nat} {w w':World} (G:j4 (C.less i) w C' w') {v:Value} {av:AV} (h:RA C w v av):RA C' w' v (av.kill i):=by
 refine h.mp G rfl (fun j e k e7 hj=>?_) (fun j e k e7 n hj=>?_) (fun v e k e7 _=>?_) (fun b cap e k e7 n _ _=>?_)
 ·simp only[qG,me (Ne.symm hj)];rfl
 ·simp only[qG,me (Ne.symm hj)];rfl
 ·simp only[qG,nU];exact .any _
 ·simp only[qG,nU];exact .any _
end Go.Ab
/- The operations' laws where memory turns. -/
namespace Go.Ab
open Go Go.RowKit
variable {q:Md} {P:Program} {g:eR} {δ:DS} {κ:Kp} {a:Act} {w:World}
variable {gd:Option (Tmp×Bool)} {ops:Array Oper} {rest:List Oper} {Q:Exit→DS→Prop} {dst:Option Nat} {ty:TypeId} {pos:String} {af:Array Edge}
def AV.one:AV→Bool
 |.pv (.lit v)=>v.oneCell'
 |.pv (.slice _ _)=>true
 |.pv (.mp _)=>true
 |.pv (.clip _ _)=>true
 |.own _ _ _ _|.ptr _ _|.fV _|.gJ _ _ _ _ _|.jk _ _ _|.gq _|.kO _=>true
 |.any|.pv .any|.agg _|.gX _=>false
def AV.nj:List AV→Bool
 |[]=>true
 |c::cs=>c.one && AV.nj cs
theorem AV.Es:∀{l:List AV},AV.nj l=true→∀(j:Nat) (c:AV),l[j]? =some c→c.one=true
 |[],_,j,c,h=>by simp at h
 |x::l,h,j,c,hj=>by
  simp only[AV.nj,aZ] at h
  cases j with
  |zero=>simp at hj;subst hj;exact h.1
  |succ j=>exact AV.Es h.2 j c (by simpa using hj)
theorem RA.one {C:Cx} {w:World} {v:Value} {av:AV} (h:RA C w v av) (h1:av.one=true):v.oneCell'=true:=by
 cases h with
 |any v=>simp [AV.one] at h1
 | @pv v p h=>cases h with|any v=>simp [AV.one] at h1|lit v=>exact h1|slice=>rfl|mp=>rfl|clip=>rfl
 |own h=>obtain⟨a0,c,rfl⟩:=h.inv;rfl
 |ptr=>rfl
 |fV=>rfl
 |gJ=>rfl
 |agg=>simp [AV.one] at h1
 |gX=>simp [AV.one] at h1
 |jk=>rfl
 |gq=>rfl
 |kO=>rfl
theorem mK {v:Value} (h:v.oneCell'=true):v.cells= #[v]:=by cases v<;>first|rfl|(simp [Value.oneCell'] at h)
def AV.cellsOf:AV→List AV
 |.agg cs=>cs
 |v=>[v]
theorem RA.cells {C:Cx} {w:World} {v:Value} {av:AV} (h:RA C w v av) (h1:AV.nj av.cellsOf=true):v.cells.size=av.cellsOf.length∧
  ∀(j:Nat) (u:Value) (c:AV),v.cells[j]? =some u→av.cellsOf[j]? =some c→RA C w u c∧u.oneCell'=true:=by
 by_cases WR:∃cs,av=.agg cs
 ·obtain⟨cs,rfl⟩:=WR
  cases h with
  |agg hs h=>exact⟨hs,fun j u c h2 h3=>⟨h j u c h2 h3,(h j u c h2 h3).one (AV.Es h1 j c h3)⟩⟩
 ·have hc:av.cellsOf=[av]:=by cases av<;>first|rfl|exact absurd ⟨_,rfl⟩ WR
  rw[hc] at h1 ⊢
  simp only[AV.nj,Bool.and_true] at h1
  have ho:=h.one h1
  rw[mK ho]
  refine⟨rfl,fun j u c h2 h3=>?_⟩
  match j with
  |0=>simp at h2 h3;subst h2;subst h3;exact⟨h,ho⟩
  |j+1=>simp at h3
theorem Rel.y6 (r:Rel g δ κ a w) {i b:Nat} (hi:δ.lb i) (hκ:κ i=some b):(∀j,δ.lr j→κ j≠some b)∧¬κ.Fs b:=by
 refine⟨?_,r.fr.mP (DS.lI hi) hκ⟩
 rintro j hj e
 have:=r.inj i j b (DS.lI hi) (DS.gA hj) hκ e
 subst this
 obtain⟨o,h1,h2⟩:=hi
 have h3:δ.ob i=some .row:=hj
 rw[h1] at h3
 cases h3
 simp [Ob.ln] at h2
theorem iO.box {x:Operand} {e:TypeId} {v:AV} (hx:δ.ev x=v) (h1:AV.nj v.cellsOf=true) (ho:ff x=true) (hd:fO δ.n dst=true):
  iO P g ⟨dst,.box e x,ty,pos,af,gd⟩ δ ((δ.fK (.box v.cellsOf)).eS dst (.ptr δ.nx 0)):=by
 intro κ a w r
 have hr:=r.ra hx ho
 obtain⟨hs,hc⟩:=hr.cells h1
 have fu:(execOp a.eval ⟨dst,.box e x,ty,pos,af,gd⟩).run P w=.ok (.value (.pointer (some ⟨w.heap.size,0,none⟩))) (w.alloc (.cells (a.eval x).cells e)):=by
  simp [execOp,Instr.box,newVar,newRow]
 obtain⟨r',G⟩:=r.grow (.box v.cellsOf) (.cells (a.eval x).cells e) (fun C G hκ=>⟨w.heap.size,_,e,hκ,heap_alloc_new w _,hs,fun j u av h2 h3=>⟨G.ra (hc j u av h2 h3).1,(hc j u av h2 h3).2⟩⟩)
 refine .inl ⟨_,_,_,_,fu,.inl rfl,r'.eS (fi hd) ?_⟩
 exact .ptr ⟨_,by show(δ.fK _).ob _=_;rw[fU,if_pos rfl],rfl⟩ (by show gY _ _ _ _=_;simp [gY])
theorem iO.alloc {e:TypeId} {z:Value} (hz:(P.info? e).bind (·.zero)=some z) (h1:z.cells.toList.all (·.oneCell')=true) (hd:fO δ.n dst=true):
  iO P g ⟨dst,.alloc e,ty,pos,af,gd⟩ δ ((δ.fK (.box (z.cells.toList.map fun v=> .pv (.lit v)))).eS dst (.ptr δ.nx 0)):=by
 intro κ a w r
 have fu:(execOp a.eval ⟨dst,.alloc e,ty,pos,af,gd⟩).run P w=.ok (.value (.pointer (some ⟨w.heap.size,0,none⟩))) (w.alloc (.cells z.cells e)):=by
  cases hi:P.info? e with
  |none=>rw[hi] at hz;simp at hz
  |some i=>rw[hi] at hz;simp at hz;simp [execOp,Instr.alloc,zeroValue,typeInfo,hi,hz,newVar,newRow]
 obtain⟨r',G⟩:=r.grow (.box (z.cells.toList.map fun v=> .pv (.lit v))) (.cells z.cells e) (fun C G hκ=>⟨w.heap.size,_,e,hκ,heap_alloc_new w _,by simp,fun j u av h2 h3=>by
  simp only[a7,bg] at h3
  obtain⟨v,h3,rfl⟩:=h3
  have:v=u:=by have:=h2;rw[← bC,h3] at this;exact Option.some.inj this
  subst this
  exact⟨.pv (.lit _),by simpa using (bD.1 h1) _ (aU h3)⟩⟩)
 refine .inl ⟨_,_,_,_,fu,.inl rfl,r'.eS (fi hd) ?_⟩
 exact .ptr ⟨_,by show(δ.fK _).ob _=_;rw[fU,if_pos rfl],rfl⟩ (by show gY _ _ _ _=_;simp [gY])
theorem a_.box {x:Operand} {e:TypeId} {v:AV} (hx:δ.ev x=v) (h1:AV.nj v.cellsOf=true) (ho:ff x=true) (hd:fO δ.n dst=true)
  (hK:a_ .plain P g ops rest Q ((δ.fK (.box v.cellsOf)).eS dst (.ptr δ.nx 0))):a_ .plain P g ops (⟨dst,.box e x,ty,pos,af,none⟩::rest) Q δ:=a_.r_ rfl rfl (iO.box hx h1 ho hd) hK
theorem a_.alloc {e:TypeId} {z:Value} (hz:(P.info? e).bind (·.zero)=some z) (h1:z.cells.toList.all (·.oneCell')=true) (hd:fO δ.n dst=true)
  (hK:a_ .plain P g ops rest Q ((δ.fK (.box (z.cells.toList.map fun v=> .pv (.lit v)))).eS dst (.ptr δ.nx 0))):a_ .plain P g ops (⟨dst,.alloc e,ty,pos,af,none⟩::rest) Q δ:=a_.r_ rfl rfl (iO.alloc hz h1 hd) hK
theorem nH {s:TypeId} {x:Operand} {f b off:Nat} {fs:Array Field} {fld:Field} (hs:P.underlying s=some (.struct fs)) (hf:fs[f]? =some fld) (hz:((P.info? fld.type).map fun i=>aY 0 i.size)=some true)
  {ρ:Operand→Value} (hx:ρ x=.pointer (some ⟨b,off,none⟩)) (w:World):(execOp ρ ⟨dst,.fieldAddr s x f,ty,pos,af,none⟩).run P w=.ok (.value (.pointer (some ⟨b,off+fld.offset,none⟩))) w:=by
 cases hi:P.info? fld.type with
 |none=>rw[hi] at hz;simp at hz
 |some i=>
  rw[hi] at hz
  have hn:i.size≠0:=by simp at hz;omega
  simp [execOp,Instr.fieldAt,Instr.sureAddr,run_underlying hs,hf,hx,fieldPlace,sizeOf,typeInfo,hi,hn,addr_add]
theorem a_.fieldAddr {s:TypeId} {x:Operand} {f i off:Nat} {fs:Array Field} {fld:Field} (hx:δ.ev x=.ptr i off) (hs:P.underlying s=some (.struct fs)) (hf:fs[f]? =some fld) (hz:((P.info? fld.type).map fun i=>aY 0 i.size)=some true) (ho:ff x=true) (hd:fO δ.n dst=true)
  (hK:a_ q P g ops rest Q (δ.eS dst (.ptr i (off+fld.offset)))):a_ q P g ops (⟨dst,.fieldAddr s x f,ty,pos,af,none⟩::rest) Q δ:=
 a_.jc _ hd (fun κ a w r=>by
  have h1:=r.ra hx ho
  generalize hu:a.eval x=u at h1
  cases h1 with
  |ptr hl hκ=>exact⟨_,fun w' _=>nH hs hf hz hu w',.ptr hl hκ⟩) hK
theorem a_.AZ {s:TypeId} {x:Operand} {f n:Nat} {cs:List PV} {fs:Array Field} {fld:Field} (hx:δ.ev x=.fV cs) (hs:P.underlying s=some (.struct fs)) (hf:fs[f]? =some fld) (hz:((P.info? fld.type).map fun i=>aY 0 i.size)=some true)
  (hn:(P.info? fld.type).map (·.size)=some n) (ho:ff x=true) (hd:fO δ.n dst=true)
  (hK:a_ q P g ops rest Q (δ.eS dst (.fV ((cs.drop fld.offset).take n)))):a_ q P g ops (⟨dst,.fieldAddr s x f,ty,pos,af,none⟩::rest) Q δ:=
 a_.jc _ hd (fun κ a w r=>by
  have h1:=r.ra hx ho
  generalize hu:a.eval x=u at h1
  cases h1 with
  |fV b off vs hN hb hc hr=>
   refine⟨_,fun w' _=>nH hs hf hz hu w',.fV b (off+fld.offset) (fun j=>vs (fld.offset+j)) hN hb (fun j p h=>?_) (fun j p h=>?_)⟩
   ·rw[bE] at h
    split at h
    ·rw[bF] at h;rw[bG];exact hc _ p h
    ·cases h
   ·rw[bE] at h
    split at h
    ·rw[bF] at h;exact hr _ p h
    ·cases h) hK
theorem a_.Kt {x:Operand} {t:TypeId} {i off:Nat} {cells:List AV} {v:AV} (hx:δ.ev x=.ptr i off) (hb:δ.ob i=some (.box cells)) (hv:cells[off]? =some v) (ht:jW P t=true) (ho:ff x=true) (hd:fO δ.n dst=true)
  (hK:a_ q P g ops rest Q (δ.eS dst v)):a_ q P g ops (⟨dst,.load t x,ty,pos,af,none⟩::rest) Q δ:=
 a_.jc _ hd (fun κ a w r=>by
  obtain⟨b,c,e,h1,h2,h3,h4,h5⟩:=r.box (r.ra hx ho) hb
  have fm:off<c.size:=by rw[h4];exact(aW.1 hv).1
  exact⟨c[off],fun w' iP=>kr ht h1 ((iP.cell (ad:=⟨b,off,none⟩) (aO.1 h3).1 (r.y6 ⟨_,hb,rfl⟩ h2)).trans (by rw[cell_of h3,aN fm])),(h5 off _ v (aN fm) hv).1⟩) hK
theorem a_.Eo {x:Operand} {t:TypeId} {i off n:Nat} {cells:List AV} (hx:δ.ev x=.ptr i off) (hb:δ.ob i=some (.box cells)) (ht:zu P t n=true) (hle:bz (off+n) cells.length=true) (ho:ff x=true) (hd:fO δ.n dst=true)
  (hK:a_ q P g ops rest Q (δ.eS dst (.agg ((cells.drop off).take n)))):a_ q P g ops (⟨dst,.load t x,ty,pos,af,none⟩::rest) Q δ:=
 a_.jc _ hd (fun κ a w r=>by
  obtain⟨b,c,e,h1,h2,h3,h4,h5⟩:=r.box (r.ra hx ho) hb
  have F8:off+n≤cells.length:=by simpa using hle
  refine⟨_,fun w' iP=>sz ht h1 (f:=fun j=>c.getD (off+j) undef) (fun j hj=>?_),.agg (by simp;omega) (fun j u av h7 h8=>?_)⟩
  ·rw[addr_add,iP.cell (ad:=⟨b,off+j,none⟩) (aO.1 h3).1 (r.y6 ⟨_,hb,rfl⟩ h2),cell_of h3,aR,aN aJ];rfl
  ·rw[bE] at h8
   split at h8
   ·rw[bF] at h8
    refine(h5 (off+j) u av ?_ h8).1
    simp only[bf,a7,bg] at h7
    obtain⟨j',ng,rfl⟩:=h7
    have:j'=j:=by
     rw[aW] at ng
     obtain⟨_,h⟩:=ng
     simpa using h.symm
    subst this
    rw[aR,aN aJ];rfl
   ·cases h8) hK
theorem kT {w:World} {b off:Nat} {c:Array Value} {e:TypeId} (h:w.heap[b]? =some (.cells c e (0,0))) (u:Value):(w.setCell ⟨b,off,none⟩ u).heap[b]? =some (.cells (c.setIfInBounds off u) e (0,0)):=by
 rw[setCell_eq_setRow w b off c e (0,0) u h];exact setRow_heap w b c _ e _ h
theorem nS {w:World} {b:Nat} {c:Array Value} {e:TypeId} (h:w.heap[b]? =some (.cells c e (0,0))) (j:Nat):w.frozen? ⟨b,j,none⟩=false:=by simp [World.frozen?,h]
theorem iO.gn {x y:Operand} {t:TypeId} {i off:Nat} {cells:List AV} {v:AV} (hx:δ.ev x=.ptr i off) (hy:δ.ev y=v) (hb:δ.ob i=some (.box cells)) (fm:aY off cells.length=true) (ht:(P.info? t).map (·.size)=some 1) (h1:v.one=true) (ho:ff x=true) (fZ:ff y=true) (hd:fO δ.n dst=true) (CJ:g.ni i):
  iO P g ⟨dst,.store t x y,ty,pos,af,gd⟩ δ ((δ.ga i (some (.box (cells.set off v)))).eS dst .any):=by
 intro κ a w r
 obtain⟨b,c,e,hv,hκ,h3,h4,h5⟩:=r.box (r.ra hx ho) hb
 have Px:off<cells.length:=by simpa using fm
 have vW:=r.ra hy fZ
 have o9:=vW.one h1
 have fu:(execOp a.eval ⟨dst,.store t x y,ty,pos,af,gd⟩).run P w=.ok .skip (w.setCell ⟨b,off,none⟩ (a.eval y)):=by
  obtain⟨i0,ju,l5⟩:∃i0,P.info? t=some i0∧i0.size=1:=by
   cases h:P.info? t with
   |none=>rw[h] at ht;simp at ht
   |some i0=>rw[h] at ht;exact⟨i0,rfl,by simpa using ht⟩
  have hc:w.cell? ⟨b,off,none⟩=some c[off]:=by rw[cell_of h3,aN aJ]
  have jn:(store ⟨b,off,none⟩ (a.eval y)).run P w=.ok () (w.setCell ⟨b,off,none⟩ (a.eval y)):=by
   rw[run_store P w _ _ _ o9,hc];simp [nS h3]
  simp [execOp,Instr.storeAt,Instr.sureAddr,storeVar,hv,mK o9,sizeOf,typeInfo,ju,l5,storeCells,addr_add,jn]
 obtain⟨r',G⟩:=r.modify (o':=.box (cells.set off v)) hb rfl rfl hκ CJ (ir.setCell w ⟨b,off,none⟩ (a.eval y)) (by simp [World.setCell]) (fun C Ql G=>⟨b,_,e,by rw[Ql];exact hκ,kT h3 _,by simpa using h4,fun j u av h6 h7=>by
  rw[aS] at h6
  rw[bH] at h7
  by_cases ej:off=j
  ·rw[if_pos ej] at h6 h7
   rw[if_pos aJ] at h6
   rw[if_pos aJ] at h7
   cases h6;cases h7
   exact⟨G.ra vW,o9⟩
  ·rw[if_neg ej] at h6 h7
   exact⟨G.ra (h5 j u av h6 h7).1,(h5 j u av h6 h7).2⟩⟩)
 exact .inl ⟨_,_,_,_,fu,.inr ⟨rfl,rfl⟩,r'.eS (fi hd) (.any _)⟩
theorem iO.wV {x y:Operand} {t:TypeId} {i:Nat} {cells cs:List AV} (hx:δ.ev x=.ptr i 0) (hy:δ.ev y=.agg cs) (hb:δ.ob i=some (.box cells)) (hlen:cells.length=cs.length) (ht:(P.info? t).map (·.size)=some cs.length) (h1:AV.nj cs=true) (ho:ff x=true) (fZ:ff y=true) (hd:fO δ.n dst=true) (CJ:g.ni i):
  iO P g ⟨dst,.store t x y,ty,pos,af,gd⟩ δ ((δ.ga i (some (.box cs))).eS dst .any):=by
 intro κ a w r
 obtain⟨b,c,e,hv,hκ,h3,h4,h5⟩:=r.box (r.ra hx ho) hb
 obtain⟨mZ,pk⟩:=(r.ra hy fZ).cells h1
 simp only[AV.cellsOf] at mZ pk
 have jO:∀u∈(a.eval y).cells.toList,u.oneCell'=true:=by
  intro u hu
  obtain⟨j,hj⟩:=bA hu
  have fm:j<cs.length:=by rw[← mZ];have:=(aW.1 hj).1;simpa using this
  exact(pk j u _ (by simpa using hj) (a8 fm)).2
 have jn:=run_storeCells_at P b 0 e (a.eval y).cells.toList 0 c w h3 (by simp;omega) jO
 have gx:(c.toList.take (0+0)++(a.eval y).cells.toList++c.toList.drop (0+0+(a.eval y).cells.toList.length)).toArray=(a.eval y).cells:=by
  have:c.toList.drop (0+0+(a.eval y).cells.toList.length)=[]:=List.drop_eq_nil_of_le (by simp;omega)
  rw[this];simp
 rw[gx] at jn
 have fu:(execOp a.eval ⟨dst,.store t x y,ty,pos,af,gd⟩).run P w=.ok .skip (w.setRow b (a.eval y).cells):=by
  obtain⟨i0,ju,l5⟩:∃i0,P.info? t=some i0∧i0.size=cs.length:=by
   cases h:P.info? t with
   |none=>rw[h] at ht;simp at ht
   |some i0=>rw[h] at ht;exact⟨i0,rfl,by simpa using ht⟩
  simp [execOp,Instr.storeAt,Instr.sureAddr,storeVar,hv,mZ,sizeOf,typeInfo,ju,l5,jn]
 obtain⟨r',G⟩:=r.modify (o':=.box cs) hb rfl rfl hκ CJ (ir.setRow w b (a.eval y).cells) (by simp) (fun C Ql G=>⟨b,_,e,by rw[Ql];exact hκ,setRow_heap w b c _ e _ h3,mZ,fun j u av h6 h7=>⟨G.ra (pk j u av h6 h7).1,(pk j u av h6 h7).2⟩⟩)
 exact .inl ⟨_,_,_,_,fu,.inr ⟨rfl,rfl⟩,r'.eS (fi hd) (.any _)⟩
theorem a_.gn {x y:Operand} {t:TypeId} {i off:Nat} {cells:List AV} {v:AV} (hx:δ.ev x=.ptr i off) (hy:δ.ev y=v) (hb:δ.ob i=some (.box cells)) (fm:aY off cells.length=true) (ht:(P.info? t).map (·.size)=some 1) (h1:v.one=true) (ho:ff x=true) (fZ:ff y=true) (hd:fO δ.n dst=true) (i_:g.wt=none)
  (hK:a_ .plain P g ops rest Q ((δ.ga i (some (.box (cells.set off v)))).eS dst .any)):a_ .plain P g ops (⟨dst,.store t x y,ty,pos,af,none⟩::rest) Q δ:=a_.r_ rfl rfl (iO.gn hx hy hb fm ht h1 ho fZ hd (jM i_ i)) hK
theorem a_.wV {x y:Operand} {t:TypeId} {i:Nat} {cells cs:List AV} (hx:δ.ev x=.ptr i 0) (hy:δ.ev y=.agg cs) (hb:δ.ob i=some (.box cells)) (hlen:cells.length=cs.length) (ht:(P.info? t).map (·.size)=some cs.length) (h1:AV.nj cs=true) (ho:ff x=true) (fZ:ff y=true) (hd:fO δ.n dst=true) (i_:g.wt=none)
  (hK:a_ .plain P g ops rest Q ((δ.ga i (some (.box cs))).eS dst .any)):a_ .plain P g ops (⟨dst,.store t x y,ty,pos,af,none⟩::rest) Q δ:=a_.r_ rfl rfl (iO.wV hx hy hb hlen ht h1 ho fZ hd (jM i_ i)) hK
end Go.Ab
/- Aggregates and slices that are built;rows that grow. -/
namespace Go.Ab
open Go Go.RowKit
variable {q:Md} {P:Program} {g:eR} {δ:DS} {κ:Kp} {a:Act} {w:World}
variable {ops:Array Oper} {rest:List Oper} {Q:Exit→DS→Prop} {dst:Option Nat} {ty:TypeId} {pos:String} {af:Array Edge}
def ns:List AV→Nat→List AV→List AV
 |cells,_,[]=>cells
 |cells,off,v::vs=>ns (cells.set off v) (off+1) vs
def jq (place:Nat→Option (Nat×Nat)):List AV→List (Nat×AV)→Option (List AV)
 |cells,[]=>some cells
 |cells,(i,v)::rest=>
  match place i with
  |none=>none
  |some (off,size)=>bif aL v.cellsOf.length size && bz (off+v.cellsOf.length) cells.length && AV.nj v.cellsOf then jq place (ns cells off v.cellsOf) rest else none
def Cells (C:Cx) (w:World) (c:Array Value) (l:List AV):Prop:=c.size=l.length∧∀(j:Nat) (u:Value) (av:AV),c[j]? =some u→l[j]? =some av→RA C w u av∧u.oneCell'=true
theorem Cells.set {C:Cx} {w:World} {c:Array Value} {l:List AV} (h:Cells C w c l) (i:Nat) {u:Value} {v:AV} (hu:RA C w u v∧u.oneCell'=true):Cells C w (c.setIfInBounds i u) (l.set i v):=by
 refine⟨by simpa using h.1,fun j x y h1 h2=>?_⟩
 rw[aS] at h1
 rw[bH] at h2
 by_cases e:i=j
 ·rw[if_pos e] at h1 h2
  split at h1
  ·rename_i fm
   rw[if_pos (by have:=h.1;omega)] at h2
   cases h1;cases h2;exact hu
  ·cases h1
 ·rw[if_neg e] at h1 h2;exact h.2 j x y h1 h2
theorem vX {C:Cx} {w:World}:∀(us:List Value) (vs:List AV) (off k:Nat) (c:Array Value) (l:List AV),us.length=vs.length→
  (∀(j:Nat) (u:Value) (v:AV),us[j]? =some u→vs[j]? =some v→RA C w u v∧u.oneCell'=true)→Cells C w c l→
  Cells C w ((us.zipIdx k).foldl (fun cs x=>cs.setIfInBounds (off+x.2) x.1) c) (ns l (off+k) vs)
 |[],[],off,k,c,l,_,_,h=>h
 |u::us,v::vs,off,k,c,l,hl,hv,h=>by
  simp only[List.zipIdx_cons,List.foldl_cons,ns]
  exact vX us vs off (k+1) _ _ (by simpa using hl) (fun j x y h1 h2=>hv (j+1) x y (by simpa using h1) (by simpa using h2)) (h.set (off+k) (hv 0 u v rfl rfl))
 |[],v::vs,_,_,_,_,hl,_,_=>by simp at hl
 |u::us,[],_,_,_,_,hl,_,_=>by simp at hl
theorem oJ {C:Cx} {w:World} {place place':Nat→Option (Nat×Nat)} (hp:∀i x,place i=some x→place' i=some x):∀(parts:List (Nat×Value)) (tE:List (Nat×AV)) (c:Array Value) (l l':List AV),
  parts.length=tE.length→(∀(j:Nat) (x:Nat×Value) (y:Nat×AV),parts[j]? =some x→tE[j]? =some y→x.1=y.1∧RA C w x.2 y.2)→Cells C w c l→jq place l tE=some l'→
  ∃c',Instr.fill place' c parts=some c'∧Cells C w c' l'
 |[],[],c,l,l',_,_,h,hf=>by simp only[jq,Option.some.injEq] at hf;subst hf;exact⟨c,rfl,h⟩
 |(i,u)::parts,(i',v)::tE,c,l,l',hl,hv,h,hf=>by
  obtain⟨e,hu⟩:=hv 0 (i,u) (i',v) rfl rfl
  simp only at e hu
  subst e
  simp only[jq] at hf
  cases IL:place i with
  |none=>rw[IL] at hf;cases hf
  |some os=>
   obtain⟨off,size⟩:=os
   rw[IL] at hf
   simp only at hf
   cases hc:(aL v.cellsOf.length size && bz (off+v.cellsOf.length) l.length && AV.nj v.cellsOf) with
   |false=>rw[hc] at hf;cases hf
   |true=>
    rw[hc] at hf
    simp only[aZ] at hc
    obtain⟨⟨h1,h2⟩,h3⟩:=hc
    have JT:v.cellsOf.length=size:=aM h1
    have h2':off+v.cellsOf.length≤l.length:=by simpa using h2
    obtain⟨hs,pk⟩:=hu.cells h3
    have iR:=vX (C:=C) (w:=w) u.cells.toList v.cellsOf off 0 c l (by simpa using hs) (fun j x y h4 h5=>pk j x y (by simpa using h4) h5) h
    obtain⟨c',h6,h7⟩:=oJ hp parts tE _ _ l' (by simpa using hl) (fun j x y h4 h5=>hv (j+1) x y (by simpa using h4) (by simpa using h5)) iR hf
    refine⟨c',?_,h7⟩
    unfold Instr.fill
    rw[hp i _ IL]
    simp only
    rw[if_neg (by simp;refine⟨by omega,by have:=h.1;omega⟩)]
    rw[← h6]
    congr 1
    rw[← Array.foldl_toList,Array.toList_zipIdx]
 |[],_::_,_,_,_,hl,_,_,_=>by simp at hl
 |_::_,[],_,_,_,hl,_,_,_=>by simp at hl
def placeOf (P:Program) (fs:Array Field) (i:Nat):Option (Nat×Nat):=(fs[i]?).bind fun f=>(P.info? f.type).map fun i=>(f.offset,i.size)
theorem run_places (fs:List Field) (w:World):∀(acc:Array (Nat×Nat)),fs.all (fun f=>(P.info? f.type).isSome)=true→
  (fs.foldlM (fun(acc:Array (Nat×Nat)) (f:Field)=>do let s ← sizeOf f.type;pure (acc.push (f.offset,s))) acc).run P w=.ok (acc++(fs.map fun f=>(f.offset,((P.info? f.type).map (·.size)).getD 0)).toArray) w:=by
 induction fs with
 |nil=>intro acc _;simp
 |cons f fs ih=>
  intro acc h
  simp only[List.all_cons,aZ] at h
  obtain⟨i,hi⟩:=Option.isSome_iff_exists.1 h.1
  have:=ih (acc.push (f.offset,i.size)) h.2
  simp [List.foldlM_cons,sizeOf,typeInfo,hi] at this ⊢
  rw[this]
theorem a_.build {t:TypeId} {parts:List (Nat×Operand)} {fs:Array Field} {z:Value} {cells:List AV} (hs:P.underlying t=some (.struct fs)) (hz:(P.info? t).bind (·.zero)=some z) (h1:z.cells.toList.all (·.oneCell')=true) (jO:fs.toList.all (fun f=>(P.info? f.type).isSome)=true)
  (ho:parts.all (fun p=>ff p.2)=true) (hf:jq (placeOf P fs) (z.cells.toList.map fun v=> .pv (.lit v)) (parts.map fun p=>(p.1,δ.ev p.2))=some cells) (hd:fO δ.n dst=true)
  (hK:a_ q P g ops rest Q (δ.eS dst (.agg cells))):a_ q P g ops (⟨dst,.build t parts.toArray,ty,pos,af,none⟩::rest) Q δ:=
 a_.jc _ hd (fun κ a w r=>by
  obtain⟨i0,ju,nv⟩:∃i0,P.info? t=some i0∧i0.zero=some z:=by
   cases h:P.info? t with
   |none=>rw[h] at hz;simp at hz
   |some i0=>rw[h] at hz;exact⟨i0,rfl,by simpa using hz⟩
  have IL:=fun w1=>run_places (P:=P) fs.toList w1 #[] jO
  obtain⟨c',h2,h3⟩:=oJ (C:=δ.cx g κ) (w:=w) (place:=placeOf P fs) (place':=fun i=>((#[]:Array (Nat×Nat))++(fs.toList.map fun f=>(f.offset,((P.info? f.type).map (·.size)).getD 0)).toArray)[i]?)
   (fun i x h=>by
    unfold placeOf at h
    cases Lj:fs[i]? with
    |none=>rw[Lj] at h;simp at h
    |some f=>
     rw[Lj] at h
     simp only[bI,bg] at h
     obtain⟨ii,h4,rfl⟩:=h
     simp [Lj,h4])
   (parts.map fun p=>(p.1,a.eval p.2)) (parts.map fun p=>(p.1,δ.ev p.2)) z.cells _ cells (by simp) (fun j x y h4 h5=>by
    simp only[a7,bg] at h4 h5
    obtain⟨p,h6,rfl⟩:=h4
    obtain⟨p',h7,rfl⟩:=h5
    rw[h6] at h7;cases h7
    exact⟨rfl,r.CB p.2 (iD (by simpa using (bD.1 ho) p (aU h6)))⟩)
   ⟨by simp,fun j u av h4 h5=>by
    simp only[a7,bg] at h5
    obtain⟨v,h5,rfl⟩:=h5
    have:v=u:=by have:=h4;rw[← bC,h5] at this;exact Option.some.inj this
    subst this
    exact⟨.pv (.lit _),by simpa using (bD.1 h1) _ (aU h5)⟩⟩ hf
  refine⟨.agg c',fun w1 _=>?_,.agg h3.1 fun j u c h4 h5=>(h3.2 j u c h4 h5).1⟩
  have Od:(fs.mapM fun(f:Field)=>(do pure (f.offset,← sizeOf f.type):Sem (Nat×Nat)))=fs.toList.foldlM (fun(acc:Array (Nat×Nat)) (f:Field)=>do let s ← sizeOf f.type;pure (acc.push (f.offset,s))) #[]:=by
   rw[bs,← Array.foldlM_toList]
   congr 1
   funext acc f
   simp
  have Ai:∀w,(zeroValue t).run P w=.ok z w:=fun w=>by simp [zeroValue,typeInfo,ju,nv]
  simp only[execOp,Instr.build,Sem.run_bind,Ai,Result.andThen_ok,run_underlying hs,Od,IL,bp,h2,Sem.run_pure]) hK
end Go.Ab
/- Slices that are written out,made,cut;rows that grow by append or are stored into. -/
namespace Go.Ab
open Go Go.RowKit
variable {q:Md} {P:Program} {g:eR} {δ:DS} {κ:Kp} {a:Act} {w:World}
variable {gd:Option (Tmp×Bool)} {ops:Array Oper} {rest:List Oper} {Q:Exit→DS→Prop} {dst:Option Nat} {ty:TypeId} {pos:String} {af:Array Edge}
theorem a_.fp {l:List Oper} {δ':DS} (hw:pw g δ δ') (h:a_ .plain P g ops l Q δ'):a_ .plain P g ops l Q δ:=fun κ a w r=>let ⟨κ',r'⟩:=hw κ a w r;h κ' a w r'
def VO:AV→PV|.pv p=>p|_=> .lit undef
def AV.zf:AV→Bool|.pv _=>true|_=>false
def chunk (k:Nat):Nat→List AV→List (List PV)
 |0,_=>[]
 |n+1,l=>(l.take k).map VO::chunk k n (l.drop k)
theorem qe (k:Nat):∀n l,(chunk k n l).length=n
 |0,_=>rfl
 |n+1,l=>by simp [chunk,qe k n]
theorem Ep (k:Nat):∀n l,l.length=n*k→∀c∈chunk k n l,c.length=k
 |0,_,_,c,h=>by simp [chunk] at h
 |n+1,l,hl,c,h=>by
  rw[bJ,bK] at hl
  simp only[chunk,bw] at h
  rcases h with rfl|h
  ·simp;omega
  ·exact Ep k n _ (by simp;omega) c h
theorem Bg (k:Nat):∀n l,l.all AV.zf=true→∀i j p,cellAt (chunk k n l) i j=some p→l[i*k+j]? =some (.pv p)∧j<k
 |0,_,_,i,j,p,h=>by simp [chunk,cellAt] at h
 |n+1,l,hl,i,j,p,h=>by
  cases i with
  |zero=>
   simp only[chunk,cellAt,List.getElem?_cons_zero,bI,a7,bg,bE] at h
   obtain⟨v,h,rfl⟩:=h
   split at h
   ·rename_i hj
    refine⟨?_,hj⟩
    rw[Nat.zero_mul,ba,h]
    have:=(bD.1 hl) v (aU h)
    cases v<;>simp [AV.zf] at this;rfl
   ·cases h
  |succ i=>
   have:=Bg k n (l.drop k) (bD.2 fun x hx=>(bD.1 hl) x (bL hx)) i j p (by simpa [chunk,cellAt] using h)
   rw[bF] at this
   rw[show(i+1)*k+j=k+(i*k+j) by rw[bJ];omega]
   exact this
def jQ (z:Value) (n:Nat):List AV:=(bc n).map fun j=> .pv (.lit (z.cells.toList[j % z.cells.toList.length]?.getD undef))
theorem iO.buildSlice {t e:TypeId} {len k:Nat} {parts:List (Nat×Operand)} {z:Value} {cells:List AV} (ht:P.underlying t=some (.slice e)) (hi:(P.info? e).map (fun i=>(i.size,i.zero))=some (k,some z)) (l7:aL z.cells.size k=true) (hk:aY 0 k=true)
  (hlen:bz (len*k) 16777216=true) (h1:z.cells.toList.all (·.oneCell')=true) (ho:parts.all (fun p=>ff p.2)=true) (hf:jq (fun i=>some (i*k,k)) (jQ z (len*k)) (parts.map fun p=>(p.1,δ.ev p.2))=some cells) (hp:cells.all AV.zf=true) (hd:fO δ.n dst=true):
  iO P g ⟨dst,.buildSlice t len parts.toArray,ty,pos,af,gd⟩ δ ((δ.fK .row).eS dst (.own δ.nx e k (chunk k len cells))):=by
 intro κ a w r
 have Ih:z.cells.size=k:=aM l7
 have lV:0<k:=by simpa using hk
 have EE:len*k≤16777216:=by simpa using hlen
 obtain⟨i0,ju,l5,nv⟩:∃i0,P.info? e=some i0∧i0.size=k∧i0.zero=some z:=by
  cases h:P.info? e with
  |none=>rw[h] at hi;simp at hi
  |some i0=>rw[h] at hi;simp at hi;exact⟨i0,rfl,hi.1,hi.2⟩
 have o9:∀(j:Nat) (u:Value),z.cells.toList[j]? =some u→u.oneCell'=true:=fun j u h=>by simpa using (bD.1 h1) u (aU h)
 obtain⟨c',h2,h3⟩:=oJ (C:=δ.cx g κ) (w:=w) (place:=fun i=>some (i*k,k)) (place':=fun i=>some (i*k,k)) (fun i x h=>h)
   (parts.map fun p=>(p.1,a.eval p.2)) (parts.map fun p=>(p.1,δ.ev p.2)) ((bM (len*k)).map (z.cells[·% z.cells.size]!)) (jQ z (len*k)) cells (by simp) (fun j x y h4 h5=>by
    simp only[a7,bg] at h4 h5
    obtain⟨p,h6,rfl⟩:=h4
    obtain⟨p',h7,rfl⟩:=h5
    rw[h6] at h7;cases h7
    exact⟨rfl,r.CB p.2 (iD (by simpa using (bD.1 ho) p (aU h6)))⟩)
   ⟨by simp [jQ],fun j u av h4 h5=>by
    have hj:j<len*k:=by have:=(aW.1 h5).1;simpa [jQ] using this
    simp only[jQ,a7,bh hj,br,Option.some.injEq] at h5
    subst h5
    simp only[bN,bO,hj,if_true,br,Option.some.injEq] at h4
    have QX:j % z.cells.size<z.cells.size:=bP _ (by omega)
    have e1:z.cells.toList[j % z.cells.toList.length]? =some u:=by
     rw[← h4,Array.length_toList,bC,getElem!_pos z.cells _ QX,aN QX]
    rw[e1]
    exact⟨.pv (.lit _),o9 _ _ e1⟩⟩ hf
 have iR:cells.length=len*k:=by
  have:∀(parts:List (Nat×AV)) (l l':List AV),jq (fun i=>some (i*k,k)) l parts=some l'→l'.length=l.length:=by
   intro parts
   induction parts with
   |nil=>intro l l' h;simp only[jq,Option.some.injEq] at h;rw[h]
   |cons p parts ih=>
    intro l l' h
    obtain⟨i,v⟩:=p
    simp only[jq] at h
    have mq:∀(vs:List AV) (off:Nat) (l:List AV),(ns l off vs).length=l.length:=by
     intro vs
     induction vs with
     |nil=>intros;rfl
     |cons v vs ih=>intro off l;simp only[ns];rw[ih];simp
    cases hc:(aL v.cellsOf.length k && bz (i*k+v.cellsOf.length) l.length && AV.nj v.cellsOf) with
    |false=>rw[hc] at h;cases h
    |true=>rw[hc] at h;rw[ih _ _ h,mq]
  rw[this _ _ _ hf];simp [jQ]
 have fu:(execOp a.eval ⟨dst,.buildSlice t len parts.toArray,ty,pos,af,gd⟩).run P w=.ok (.value (.slice (some ⟨w.heap.size,0,none⟩) len len)) (w.alloc (.cells c' e)):=by
  have Ai:∀w,(zeroValue e).run P w=.ok z w:=fun w=>by simp [zeroValue,typeInfo,ju,nv]
  have PY:∀w,(sizeOf e).run P w=.ok k w:=fun w=>by simp [sizeOf,typeInfo,ju,l5]
  have kY:¬16777216<len*k:=by omega
  by_cases h0:len*k=0
  ·have:(bM (len*k)).map (fun x=>z.cells[x % z.cells.size]!)=(bM (len*k)).map (fun x=>(#[]:Array Value)[x % (#[]:Array Value).size]!):=by rw[h0];simp [Array.range_zero']
   rw[this] at h2
   simp only[execOp,Instr.buildSlice,Sem.run_bind,Result.andThen_ok,run_underlying ht,PY,bp]
   simp only[show(2:Nat) ^ 24=16777216 from rfl,gt_iff_lt,if_neg kY,if_pos h0,Sem.run_pure,Result.andThen_ok,Sem.run_bind]
   simp only[h2,Sem.run_bind,newRow,Result.andThen_ok,Sem.run_pure]
   rfl
  ·simp only[execOp,Instr.buildSlice,Sem.run_bind,Result.andThen_ok,run_underlying ht,PY,bp]
   simp only[show(2:Nat) ^ 24=16777216 from rfl,gt_iff_lt,if_neg kY,if_neg h0,Sem.run_pure,Result.andThen_ok,Sem.run_bind,Ai]
   simp only[h2,Sem.run_bind,newRow,Result.andThen_ok,Sem.run_pure]
   rfl
 have pk:c'.size=len*k:=h3.1.trans iR
 have nk:len≤maxLen:=by
  have:len≤len*k:=bQ _ lV
  simp only[maxLen];omega
 obtain⟨r',G⟩:=r.grow .row (.cells c' e) (fun C G hκ b hb=>by
  have:w.heap.size=b:=Option.some.inj (hκ.symm.trans hb)
  subst this
  exact⟨c',e,heap_alloc_new w _⟩)
 have gx:=World.ownsRow_lit (base:=g.B) (e:=e) (size:=k) w c' len r.hB nk pk
 refine .inl ⟨_,_,_,_,fu,.inl rfl,r'.eS (fi hd) (.own ?_)⟩
 refine⟨by show(δ.fK .row).ob _=_;rw[fU,if_pos rfl],by rw[qe];have:len≤len*k:=bQ _ lV;omega,Ep k len cells iR,fun b hb=>?_,c'.toList,by rw[qe];exact gx,fun u hu=>?_,fun i' j p l9=>?_⟩
 ·simp only[Value.ownBlock,Option.some.injEq] at hb
  subst hb
  show gY _ _ _ _=_
  simp [gY]
 ·obtain⟨j,hj⟩:=bA hu
  have fm:j<cells.length:=by have:=(aW.1 hj).1;have:=h3.1;simp at*;omega
  exact(h3.2 j u _ (by simpa using hj) (a8 fm)).2
 ·obtain⟨h5,_⟩:=Bg k len cells hp i' j p l9
  have fm:i'*k+j<c'.size:=by rw[h3.1];exact(aW.1 h5).1
  refine⟨c'[i'*k+j],by simp [fm],?_⟩
  exact G.rp (h3.2 _ _ _ (aN fm) h5).1.k9
structure Src (C:Cx) (w:World) (v:Value) (k:Nat) (e7:List (List PV)):Prop where
 lim:e7.length≤140737488355328
 hk:∀c∈e7,c.length=k
 ex:∃a c,v=.slice a e7.length c∧(e7≠ []→∃(b off:Nat) (vs:Nat→Nat→Value),a=some ⟨b,off,none⟩∧∀i j p,cellAt e7 i j=some p→w.cell? ⟨b,off+i*k+j,none⟩=some (vs i j)∧(vs i j).oneCell'=true∧RP C.N w (vs i j) p)
theorem RP.src {C:Cx} {w:World} {v:Value} {k:Nat} {e7:List (List PV)} (h:RP C.N w v (.slice k e7)):Src C w v k e7:=by
 cases h with
 |slice b off vs hl mM hb ha hk hc hr=>subst hl;exact⟨hb,hk,_,_,rfl,fun he=>⟨b,off,vs,(ha he).1,fun i j p hp=>⟨(hc i j p hp).1,(hc i j p hp).2,hr i j p hp⟩⟩⟩
theorem jy.src {C:Cx} {w:World} {v:Value} {i e k e7} (h:jy C w v i e k e7):Src C w v k e7:=by
 obtain⟨hl,mb,hk,hb,xs,ho,h1,hx⟩:=h
 have fZ:=ho
 rcases ho.2 with ⟨rfl,h0⟩|⟨b,cap,cur,rfl,h2,h3,h4⟩
 ·exact⟨mb,hk,none,0,by rw[h0],fun he=>absurd (bj h0) he⟩
 ·refine⟨mb,hk,_,_,rfl,fun _=>⟨b,0,fun i j=>(xs[i*k+j]?).getD undef,rfl,fun i j p hp=>?_⟩⟩
  obtain⟨u,hu,hr⟩:=hx i j p hp
  have fm:i*k+j<e7.length*k:=by have:=(aW.1 hu).1;rw[← ho.1];exact this
  simp only[hu,bn,ba]
  exact⟨(fZ.cellAt _ fm).trans hu,h1 u (aU hu),hr⟩
theorem KN {C:Cx} {w:World} (k:Nat):Src C w (.slice none 0 0) k []:=⟨by simp,by simp,none,0,rfl,fun h=>absurd rfl h⟩
theorem Src.flat {C:Cx} {w:World} {v:Value} {k:Nat} {e7:List (List PV)} (h:Src C w v k e7) (nE:0<k):
  ∃(a:Option Addr) (c:Nat) (news:List Value),v=.slice a e7.length c∧news.length=e7.length*k∧(e7≠ []→∃ad,a=some ad∧∀j u,news[j]? =some u→w.cell? (ad.add j)=some u)∧(∀u∈news,u.oneCell'=true)∧
   ∀i j p,cellAt e7 i j=some p→∃u,news[i*k+j]? =some u∧RP C.N w u p:=by
 obtain⟨mb,hk,a,c,rfl,hex⟩:=h
 by_cases he:e7=[]
 ·subst he
  exact⟨a,c,[],rfl,by simp,fun h=>absurd rfl h,by simp,fun i j p hp=>by simp [cellAt] at hp⟩
 ·obtain⟨b,off,vs,rfl,hv⟩:=hex he
  have lj:∀t,t<e7.length*k→∃p,cellAt e7 (t / k) (t % k)=some p:=by
   intro t ht
   have h1:t / k<e7.length:=(Nat.div_lt_iff_lt_mul nE).2 ht
   have h2:t % k<(e7[t / k]).length:=by rw[hk _ (List.getElem_mem h1)];exact bP _ nE
   exact⟨(e7[t / k])[t % k],by simp [cellAt,a8 h1,a8 h2]⟩
  refine⟨_,c,(bc (e7.length*k)).map fun t=>vs (t / k) (t % k),rfl,by simp,fun _=>⟨_,rfl,fun j u hu=>?_⟩,fun u hu=>?_,fun i j p hp=>?_⟩
  ·simp only[a7,bg] at hu
   obtain⟨t,ht,rfl⟩:=hu
   rw[aW] at ht
   obtain⟨Z9,Yf⟩:=ht
   have:t=j:=by simpa using Yf.symm
   subst this
   obtain⟨p,hp⟩:=lj t (by simpa using Z9)
   rw[addr_add,← (hv _ _ p hp).1]
   congr 2
   have:=Nat.div_add_mod t k
   rw[bR] at this
   omega
  ·simp only[bx,List.mem_range] at hu
   obtain⟨t,ht,rfl⟩:=hu
   obtain⟨p,hp⟩:=lj t ht
   exact(hv _ _ p hp).2.1
  ·have hj:j<k:=by
    unfold cellAt at hp
    cases h:e7[i]? with
    |none=>rw[h] at hp;simp at hp
    |some e0=>rw[h] at hp;simp at hp;rw[← hk e0 (aU h)];exact(aW.1 hp).1
   have hi:i<e7.length:=by
    unfold cellAt at hp
    cases h:e7[i]? with
    |none=>rw[h] at hp;simp at hp
    |some e0=>exact(aW.1 h).1
   have fm:i*k+j<e7.length*k:=by
    have:(i+1)*k≤e7.length*k:=bS k hi
    rw[bJ,bK] at this;omega
   refine⟨vs i j,?_,(hv i j p hp).2.2⟩
   rw[a7,bh fm]
   simp only[br,Option.some.injEq]
   rw[bR i k,Nat.mul_add_div nE,Nat.div_eq_of_lt hj,bT,bU hj,bd]
theorem iS {t ty e:TypeId} {i:TypeInfo} (ht:P.underlying t=some (.slice e)) (hi:P.info? e=some i) {B k:Nat} {v:Value} {n c:Nat} {xs:List Value} (gF:w.ownsRow B e k v n xs):
  (Builtin.append_ #[t,t] ty #[v,.slice none 0 c]).run P w=.ok v w:=by
 rcases gF.2 with ⟨rfl,rfl⟩|⟨g,cap,cur,rfl,_,_,z8,_⟩
 ·simp [Builtin.append_,run_underlying ht,sizeOf,typeInfo,hi,Builtin.lenOf,Builtin.firstCells]
 ·simp [Builtin.append_,run_underlying ht,sizeOf,typeInfo,hi,Builtin.lenOf,Builtin.firstCells,z8,storeCells]
theorem xE {xs ys:List (List PV)} {i j:Nat} {p:PV} (h:cellAt (xs++ys) i j=some p):(i<xs.length∧cellAt xs i j=some p)∨(xs.length≤i∧cellAt ys (i - xs.length) j=some p):=by
 unfold cellAt at*
 by_cases hi:i<xs.length
 ·left;rw[aT hi] at h;exact⟨hi,h⟩
 ·right;rw[aV aJ] at h;exact⟨by omega,h⟩
theorem pG (r:Rel g δ κ a w) {i:Nat} {e t:TypeId} {k bytes:Nat} {e7 news:List (List PV)} {v x z:Value} (ho:δ.ob i=some .row) (hv:jy (δ.cx g κ) w v i e k e7) (hx:Src (δ.cx g κ) w x k news)
  (ht:P.underlying t=some (.slice e)) (hi:(P.info? e).map (fun i=>(i.size,i.zero,i.bytes))=some (k,some z,bytes)) (l7:z.cells.size=k) (nE:0<k) (hb:(e7.length+news.length)*bytes≤140737488355328) (hl:e7.length+news.length≤140737488355328):
  ∃v' w' κ',(Builtin.append_ #[t,t] ty #[v,x]).run P w=.ok v' w'∧Rel g (δ.gG (AV.kill i)) κ' a w'∧jy ((δ.gG (AV.kill i)).cx g κ') w' v' i e k (e7++news):=by
 obtain⟨i0,ju,l5,nv,Br⟩:∃i0,P.info? e=some i0∧i0.size=k∧i0.zero=some z∧i0.bytes=bytes:=by
  cases h:P.info? e with
  |none=>rw[h] at hi;simp at hi
  |some i0=>rw[h] at hi;simp at hi;exact⟨i0,rfl,hi.1,hi.2.1,hi.2.2⟩
 obtain⟨m_,mb,hk,oa,xs,gF,h1,J6⟩:=hv
 obtain⟨xa,xc,Bw,rfl,nA,fW,uA,O8⟩:=hx.flat nE
 have yh:e7.length+news.length≤maxLen:=by simp only[maxLen];omega
 have hB:g.B≤w.heap.size:=r.hB
 -- the run
 obtain⟨v',w',fu,qM,qQ⟩:∃v' w',(Builtin.append_ #[t,t] ty #[v,.slice xa news.length xc]).run P w=.ok v' w'∧w'.ownsRow g.B e k v' (e7.length+news.length) (xs++Bw)∧w.grownBy w' v.ownBlock:=by
  by_cases pO:news=[]
  ·subst pO
   have zD:Bw=[]:=bj (by simpa using nA)
   subst zD
   cases xa with
   |none=>exact⟨v,w,iS ht ju gF,by simp only[bV,bd,bt];exact gF,⟨rfl,rfl,rfl,aP _,fun _ _ _=>rfl⟩⟩
   |some ad=>
    obtain⟨v',w',h2,h3,h4,_⟩:=run_append_own (P:=P) w g.B t ty e i0 z k bytes ht ju nv l5 Br l7 nE v e7.length xs gF ad 0 xc [] (by simp) (by simp) (by simp) (by simpa using yh) (by simpa using hb) hB
    exact⟨v',w',h2,by simpa using h3,h4⟩
  ·obtain⟨ad,rfl,hc⟩:=fW pO
   obtain⟨v',w',h2,h3,h4,_⟩:=run_append_own (P:=P) w g.B t ty e i0 z k bytes ht ju nv l5 Br l7 nE v e7.length xs gF ad news.length xc Bw nA hc uA yh hb hB
   exact⟨v',w',h2,h3,h4⟩
 have Cq:∀b,v.ownBlock=some b→κ i=some b:=oa
 have hT:ir w w' (κ i):=by
  cases iQ:v.ownBlock with
  |none=>rw[iQ] at qQ;exact⟨qQ.os,qQ.tape,qQ.output,qQ.size,fun k' lV _=>qQ.block k' lV (by simp)⟩
  |some b=>rw[iQ] at qQ;rw[Cq b iQ];exact ir.grownBy qQ
 -- the new block
 let κ':Kp:=gY κ i v'.ownBlock
 have P6:∀j,j≠i→κ' j=κ j:=fun j hj=>by show gY _ _ _ _=_;simp [gY,Ne.symm hj]
 have hκ'i:κ' i=v'.ownBlock:=by show gY _ _ _ _=_;simp [gY]
 have vk:∀b,κ' i=some b→(κ i=some b∨w.heap.size≤b)∧b<w'.heap.size∧∃c e,w'.heap[b]? =some (.cells c e (0,0)):=by
  intro b ja
  rw[hκ'i] at ja
  rcases qM.2 with ⟨rfl,_⟩|⟨b',cap,cur,rfl,h2,h3,_⟩
  ·simp [Value.ownBlock] at ja
  ·simp only[Value.ownBlock,Option.some.injEq] at ja
   subst ja
   refine⟨?_,(aO.1 h3).1,cur,e,h3⟩
   by_cases fm:w.heap.size≤b'
   ·exact .inr fm
   ·left
    -- an old block:it is the row's own
    have Px:b'<w.heap.size:=by omega
    rcases gF.2 with ⟨rfl,h0⟩|⟨b0,cap0,cur0,rfl,h4,h5,h6⟩
    ·exfalso
     -- v nil:the run made a new block or gave nil back
     by_cases pO:news=[]
     ·subst pO
      have zD:Bw=[]:=bj (by simpa using nA)
      have qy:(Builtin.append_ #[t,t] ty #[.slice none 0 0,.slice xa 0 xc]).run P w=.ok (.slice none 0 0) w:=by
       cases xa with
       |none=>exact iS ht ju gF
       |some ad=>simp [Builtin.append_,run_underlying ht,sizeOf,typeInfo,ju,Builtin.lenOf,Builtin.firstCells,loadCells,loadCellsFrom]
      simp only[bV] at fu
      rw[qy] at fu
      simp at fu
     ·obtain⟨ad,rfl,hc⟩:=fW pO
      have DP:0<news.length:=List.length_pos_iff.2 pO
      have qy:=run_append_nil (P:=P) w t ty e i0 z ht ju nv ad news.length xc Bw (by rw[l5];exact nA) hc DP (by simp only[maxLen] at yh;omega) (by rw[Br];have:news.length*bytes≤(e7.length+news.length)*bytes:=bS _ aJ;omega)
      rw[qy] at fu
      simp only[Result.ok.injEq,Value.slice.injEq,Option.some.injEq,Addr.mk.injEq] at fu
      omega
    ·rw[Cq b0 rfl]
     by_cases ML:b'=b0
     ·rw[ML]
     ·exfalso
      -- the run gave back the old block or a new one
      by_cases kD:e7.length+news.length≤cap0
      ·by_cases pO:news=[]
       ·subst pO
        have zD:Bw=[]:=bj (by simpa using nA)
        cases xa with
        |none=>
         have qy:=iS (P:=P) (c:=xc) (ty:=ty) ht ju gF
         simp only[bV] at fu
         rw[qy] at fu
         simp only[Result.ok.injEq,Value.slice.injEq,Option.some.injEq,Addr.mk.injEq] at fu
         exact ML fu.1.1.1.symm
        |some ad=>
         have qy:=run_append_room (P:=P) w t ty e i0 ht ju b0 e7.length cap0 cur0 h5 ad 0 xc [] (by simp) (by simp) (by simp) aJ (by rw[l5];simp [h6.2.2.1];exact bS _ h6.1)
         simp only[bV] at fu
         rw[qy] at fu
         simp only[Result.ok.injEq,Value.slice.injEq,Option.some.injEq,Addr.mk.injEq] at fu
         exact ML fu.1.1.1.symm
       ·obtain⟨ad,rfl,hc⟩:=fW pO
        have qy:=run_append_room (P:=P) w t ty e i0 ht ju b0 e7.length cap0 cur0 h5 ad news.length xc Bw (by rw[l5];exact nA) hc uA kD (by rw[l5,nA,h6.2.2.1,← bJ];exact bS _ kD)
        rw[qy] at fu
        simp only[Result.ok.injEq,Value.slice.injEq,Option.some.injEq,Addr.mk.injEq] at fu
        exact ML fu.1.1.1.symm
      ·have pO:news≠ []:=by intro h;subst h;simp at kD;have:=h6.1;omega
       obtain⟨ad,rfl,hc⟩:=fW pO
       have qy:=run_append_grow (P:=P) w t ty e i0 z ht ju nv ⟨b0,0,none⟩ e7.length cap0 xs (by rw[l5];exact gF.1) (gF.cells (g:=b0) rfl) ad news.length xc Bw (by rw[l5];exact nA) hc aJ (by simp only[maxLen] at yh;omega) (by rw[Br];exact growslice_fits aJ hb)
       rw[qy] at fu
       simp only[Result.ok.injEq,Value.slice.injEq,Option.some.injEq,Addr.mk.injEq] at fu
       omega
 obtain⟨r',G⟩:=r.row ho P6 hT vk (AV.kill i) rfl (fun G v av h=>h.kill G)
 refine⟨v',w',κ',fu,r',?_⟩
 refine⟨?_,by rw[bW];exact hl,fun c hc=>(bX.1 hc).elim (hk c) (hx.hk c),fun b ja=>hκ'i.trans ja,xs++Bw,by rw[bW];exact qM,fun u hu=>(bX.1 hu).elim (h1 u) (uA u),fun i' j p hp=>?_⟩
 ·show(δ.gG _).ob i=_
  rw[j_,ho];rfl
 ·rcases xE hp with ⟨fm,h2⟩|⟨hle,h2⟩
  ·obtain⟨u,h3,h4⟩:=J6 i' j p h2
   refine⟨u,?_,G.rp (C:=(δ.cx g κ).less i) h4⟩
   rw[aT (aW.1 h3).1];exact h3
  ·obtain⟨u,h3,h4⟩:=O8 (i' - e7.length) j p h2
   refine⟨u,?_,G.rp (C:=(δ.cx g κ).less i) h4⟩
   have sD:xs.length=e7.length*k:=gF.1
   have he:i'*k+j=xs.length+((i' - e7.length)*k+j):=by
    rw[sD,← bG,← bJ]
    congr 2
    omega
   rw[he,aV aJ,Nat.add_sub_cancel_left]
   exact h3
end Go.Ab
/- Append,make,cut and store as operations. -/
namespace Go.Ab
open Go Go.RowKit
variable {q:Md} {P:Program} {g:eR} {δ:DS} {κ:Kp} {a:Act} {w:World}
variable {gd:Option (Tmp×Bool)} {ops:Array Oper} {rest:List Oper} {Q:Exit→DS→Prop} {dst:Option Nat} {ty:TypeId} {pos:String} {af:Array Edge}
theorem nB {gd:Option (Tmp×Bool)} {s x:Operand} {t:TypeId} {ρ:Operand→Value} {v:Value} {w':World} (h:(Builtin.append_ #[t,t] ty #[ρ s,ρ x]).run P w=.ok v w'):
  (execOp ρ ⟨dst,.call {callee:=.builtin .append,args:= #[s,x],argTypes:= #[t,t]},ty,pos,af,gd⟩).run P w=.ok (.value v) w':=by
 simp only[execOp,resolve,invoke,builtin,Sem.run_bind,Sem.run_pure,Result.andThen_ok,bp,bB,List.map_nil,h]
inductive qv (δ:DS) (x:Operand) (k:Nat):List (List PV)→Prop
 |pv {e7:List (List PV)} (h:δ.ev x=.pv (.slice k e7)):qv δ x k e7
 |own {j:Nat} {e:TypeId} {e7:List (List PV)} (h:δ.ev x=.own j e k e7):qv δ x k e7
 |nil (h:δ.ev x=.pv (.lit (.slice none 0 0))):qv δ x k []
theorem qv.src {x:Operand} {k:Nat} {e7:List (List PV)} (h:qv δ x k e7) (r:Rel g δ κ a w) (ho:ff x=true):Src (δ.cx g κ) w (a.eval x) k e7:=by
 cases h with
 |pv h=>exact(r.ra h ho).k9.src
 |own h=>exact(r.ra h ho).iW.src
 |nil h=>rw[r.lit h ho];exact KN k
theorem iO.append {s x:Operand} {t e:TypeId} {i k bytes:Nat} {z:Value} {e7 news:List (List PV)} (hs:δ.ev s=.own i e k e7) (hx:qv δ x k news) (hr:δ.ob i=some .row) (ht:P.underlying t=some (.slice e))
  (hi:(P.info? e).map (fun i=>(i.size,i.zero,i.bytes))=some (k,some z,bytes)) (l7:aL z.cells.size k=true) (nE:aY 0 k=true) (ho:ff s=true) (fZ:ff x=true) (hd:fO δ.n dst=true)
  (hb:(e7.length+news.length)*bytes≤140737488355328) (hl:e7.length+news.length≤140737488355328):
  iO P g ⟨dst,.call {callee:=.builtin .append,args:= #[s,x],argTypes:= #[t,t]},ty,pos,af,gd⟩ δ ((δ.gG (AV.kill i)).eS dst (.own i e k (e7++news))):=by
 intro κ a w r
 obtain⟨v',w',κ',h1,h2,h3⟩:=pG (ty:=ty) r hr (r.ra hs ho).iW (hx.src r fZ) ht hi (aM l7) (by simpa using nE) hb hl
 exact .inl ⟨_,_,_,_,nB h1,.inl rfl,h2.eS (fi hd) (.own h3)⟩
theorem a_.append {s x:Operand} {t e:TypeId} {i k bytes:Nat} {z:Value} {e7 news:List (List PV)} (hs:δ.ev s=.own i e k e7) (hx:qv δ x k news) (hr:δ.ob i=some .row) (ht:P.underlying t=some (.slice e))
  (hi:(P.info? e).map (fun i=>(i.size,i.zero,i.bytes))=some (k,some z,bytes)) (l7:aL z.cells.size k=true) (nE:aY 0 k=true) (ho:ff s=true) (fZ:ff x=true) (hd:fO δ.n dst=true)
  (hb:(e7.length+news.length)*bytes≤140737488355328) (hl:e7.length+news.length≤140737488355328)
  (hK:a_ .plain P g ops rest Q ((δ.gG (AV.kill i)).eS dst (.own i e k (e7++news)))):a_ .plain P g ops (⟨dst,.call {callee:=.builtin .append,args:= #[s,x],argTypes:= #[t,t]},ty,pos,af,none⟩::rest) Q δ:=
 a_.r_ rfl rfl (iO.append hs hx hr ht hi l7 nE ho fZ hd hb hl) hK
theorem RA.yy {C:Cx} {i:Nat} (hl:¬C.Lr i) {v:Value} {av:AV} (h:RA C w v av):av.kill i=av:=by
 have hL:∀{vs:Array Value} {cs:List AV},vs.size=cs.length→(∀(j:Nat) (u:Value) (c:AV),vs[j]? =some u→cs[j]? =some c→c.kill i=c)→cs.map (AV.mp (qG i))=cs:=by
  intro vs cs hs h
  apply bY
  intro j
  rw[a7]
  cases hj:cs[j]? with
  |none=>rfl
  |some c=>
   have fm:j<vs.size:=by rw[hs];exact(aW.1 hj).1
   exact congrArg some (h j _ c (aN fm) hj)
 induction h with
 |any v=>rfl
 |pv h=>rfl
 | @own v j e k e7 h=>
  have:i≠j:=by intro e;subst e;exact hl h.live
  show AV.mp (qG i) _=_
  simp only[AV.mp,qG,me this];rfl
 |ptr hl hκ=>rfl
 |fV=>rfl
 | @gJ j e k e7 n b cap hn h=>
  have:i≠j:=by intro e;subst e;exact hl h.live
  show AV.mp (qG i) _=_
  simp only[AV.mp,qG,me this];rfl
 |agg hs h ih=>show AV.mp _ _=_;simp only[AV.mp,AV.jo];rw[hL hs ih]
 |gX hs h ih=>show AV.mp _ _=_;simp only[AV.mp,AV.jo];rw[hL hs ih]
 |jk hs h ht h' ih ih'=>show AV.mp _ _=_;simp only[AV.mp,AV.jo];rw[hL hs ih,hL ht ih']
 |gq=>rfl
 |kO=>rfl
theorem Rel.Re {f:AV→AV} (UH:f .any=.any) (r:Rel g (δ.gG f) κ a w) (he:∀j,f (δ.get j)=δ.get j) (ho:∀i o,δ.ob i=some o→o.wo f=o):Rel g δ κ a w∧∀C:Cx,C=(δ.gG f).cx g κ→C=δ.cx g κ:=by
 have iQ:∀i,(δ.gG f).ob i=δ.ob i:=by
  intro i
  rw[j_]
  cases h:δ.ob i with
  |none=>rfl
  |some o=>simp [ho i o h]
 have Ch:(δ.gG f).cx g κ=δ.cx g κ:=by
  have h1:(δ.gG f).live=δ.live:=funext fun i=>by unfold DS.live;rw[iQ]
  have h2:(δ.gG f).lr=δ.lr:=funext fun i=>by unfold DS.lr;rw[iQ]
  have h3:(δ.gG f).lb=δ.lb:=funext fun i=>by unfold DS.lb;rw[iQ]
  unfold DS.cx
  rw[h1,h2,h3]
 have fM:∀i,(δ.gG f).live i↔δ.live i:=fun i=>by unfold DS.live;rw[iQ]
 refine⟨?_,fun C h=>h.trans Ch⟩
 exact
  {n:=r.n,dfr:=r.dfr
   env:=fun j=>by have:=r.env j;rw[pL f UH,he j,Ch] at this;exact this
   obj:=fun i o h=>by have:=r.obj i o (by rw[iQ];exact h);rw[Ch] at this;exact this
   inj:=fun i j b h1 h2=>r.inj i j b ((fM i).2 h1) ((fM j).2 h2)
   lo:=fun i b h1=>r.lo i b ((fM i).2 h1)
   nx:=fun i h=>r.nx i ((fM i).2 h)
   wt:=fun k hk=>⟨(r.wt k hk).1,fun i b h1 h2=>(r.wt k hk).2 i b ((fM i).2 h1) (h2.imp (fun h=>(iQ i).trans h) id)⟩
   below:=r.below,hB:=r.hB,N0:=r.N0,kc:=r.kc,fr:=r.fr.sub fun i b h1 h2=>⟨i,(fM i).2 h1,h2⟩}
theorem iO.append_nil {s x:Operand} {t e:TypeId} {k bytes:Nat} {z:Value} {news:List (List PV)} (hs:δ.ev s=.pv (.lit (.slice none 0 0))) (hx:qv δ x k news) (ht:P.underlying t=some (.slice e))
  (hi:(P.info? e).map (fun i=>(i.size,i.zero,i.bytes))=some (k,some z,bytes)) (l7:aL z.cells.size k=true) (nE:aY 0 k=true) (ho:ff s=true) (fZ:ff x=true) (hd:fO δ.n dst=true)
  (hb:news.length*bytes≤140737488355328) (hl:news.length≤140737488355328):
  iO P g ⟨dst,.call {callee:=.builtin .append,args:= #[s,x],argTypes:= #[t,t]},ty,pos,af,gd⟩ δ ((δ.fK .row).eS dst (.own δ.nx e k news)):=by
 intro κ a w r
 obtain⟨r1,G1⟩:=r.BF
 have m_:(δ.fK .row).lr δ.nx:=by show(δ.fK .row).ob _=_;rw[fU,if_pos rfl]
 have hv:jy ((δ.fK .row).cx g (gY κ δ.nx none)) w (a.eval s) δ.nx e k []:=by
  rw[r.lit hs ho]
  exact⟨m_,by simp,by simp,fun b hb=>by simp [Value.ownBlock] at hb,[],World.ownsRow_nil _ _ _ _,by simp,fun i' j p hp=>by simp [cellAt] at hp⟩
 have O7:Src ((δ.fK .row).cx g (gY κ δ.nx none)) w (a.eval x) k news:=by
  obtain⟨h1,h2,a0,c,h3,h4⟩:=hx.src r fZ
  refine⟨h1,h2,a0,c,h3,fun he=>?_⟩
  obtain⟨b,off,vs,h5,h6⟩:=h4 he
  exact⟨b,off,vs,h5,fun i j p hp=>⟨(h6 i j p hp).1,(h6 i j p hp).2.1,G1.rp (h6 i j p hp).2.2⟩⟩
 obtain⟨v',w',κ',h1,h2,h3⟩:=pG (ty:=ty) r1 m_ hv O7 ht hi (aM l7) (by simpa using nE) (by simpa using hb) (by simpa using hl)
 have nA:¬(δ.cx g κ).Lr δ.nx:=fun h=>aX _ (r.nx _ (DS.gA h))
 obtain⟨r2,Ch⟩:=h2.Re rfl (fun j=>(r.env j).yy nA) (fun i o h=>by
  rw[fU] at h
  by_cases e:δ.nx=i
  ·rw[if_pos e] at h;cases h;rfl
  ·rw[if_neg e] at h
   have h0:=r.obj i o h
   cases o with
   |row=>rfl
   |box cs=>
    obtain⟨b,c,e,h1,h2,h3,h4⟩:=h0
    simp only[Ob.wo,Ob.box.injEq]
    apply bY
    intro j
    rw[a7]
    cases hj:cs[j]? with
    |none=>rfl
    |some c'=>
     have fm:j<c.size:=by rw[h3];exact(aW.1 hj).1
     exact congrArg some ((h4 j _ c' (aN fm) hj).1.yy nA)
   |loop l tm ps iK body st=>rfl
   |lit T vals=>rfl
   |e8 e rows=>rfl
   |mp l=>rfl
   |mpl l kk v=>
    obtain⟨b,es,clock,h1,h2,h3,h4⟩:=h0
    simp only[Ob.wo,Ob.mpl.injEq,true_and]
    have mZ:l.length<es.size:=by have:=h3.1;simp at this;omega
    exact((h3.2 l.length _ (kk,v) (aN mZ) (by simp)).2.yy nA)
   |it l seen=>rfl)
 rw[Ch _ rfl] at h3
 exact .inl ⟨_,_,_,_,nB h1,.inl rfl,r2.eS (fi hd) (.own (by simpa using h3))⟩
theorem a_.append_nil {s x:Operand} {t e:TypeId} {k bytes:Nat} {z:Value} {news:List (List PV)} (hs:δ.ev s=.pv (.lit (.slice none 0 0))) (hx:qv δ x k news) (ht:P.underlying t=some (.slice e))
  (hi:(P.info? e).map (fun i=>(i.size,i.zero,i.bytes))=some (k,some z,bytes)) (l7:aL z.cells.size k=true) (nE:aY 0 k=true) (ho:ff s=true) (fZ:ff x=true) (hd:fO δ.n dst=true)
  (hb:news.length*bytes≤140737488355328) (hl:news.length≤140737488355328)
  (hK:a_ .plain P g ops rest Q ((δ.fK .row).eS dst (.own δ.nx e k news))):a_ .plain P g ops (⟨dst,.call {callee:=.builtin .append,args:= #[s,x],argTypes:= #[t,t]},ty,pos,af,none⟩::rest) Q δ:=
 a_.r_ rfl rfl (iO.append_nil hs hx ht hi l7 nE ho fZ hd hb hl) hK
theorem iO.make {t e:TypeId} {x y:Operand} {kx ky:IntKind} {k bytes n:Nat} {z:Value} {c0:List PV} (hx:δ.ev x=.pv (.lit (.int kx (n:Int)))) (hy:δ.ev y=.pv (.lit (.int ky (n:Int)))) (ht:P.underlying t=some (.slice e))
  (hi:(P.info? e).map (fun i=>(i.size,i.zero,i.bytes))=some (k,some z,bytes)) (Am:z.cells.toList.map PV.lit=c0) (l7:aL z.cells.size k=true) (nE:aY 0 k=true) (h1:z.cells.toList.all (·.oneCell')=true)
  (ho:ff x=true) (fZ:ff y=true) (hd:fO δ.n dst=true) (hb:bytes*n≤281474976710656) (hl:n≤140737488355328):
  iO P g ⟨dst,.makeSlice t x y,ty,pos,af,gd⟩ δ ((δ.fK .row).eS dst (.own δ.nx e k (bZ n c0))):=by
 intro κ a w r
 have lV:0<k:=by simpa using nE
 have Ih:z.cells.size=k:=aM l7
 obtain⟨i0,ju,l5,nv,Br⟩:∃i0,P.info? e=some i0∧i0.size=k∧i0.zero=some z∧i0.bytes=bytes:=by
  cases h:P.info? e with
  |none=>rw[h] at hi;simp at hi
  |some i0=>rw[h] at hi;simp at hi;exact⟨i0,rfl,hi.1,hi.2.1,hi.2.2⟩
 have ML:(i0.bytes:Int)*(n:Int)≤281474976710656:=by
  rw[Br]
  have:((bytes*n:Nat):Int)≤281474976710656:=by omega
  rwa [Int.natCast_mul] at this
 have fu:=run_make (P:=P) w t e i0 z ht ju nv kx ky (n:Int) (n:Int) aJ (Int.le_refl _) ML (by omega)
 simp only[Int.toNat_natCast,l5] at fu
 have Bh:(execOp a.eval ⟨dst,.makeSlice t x y,ty,pos,af,gd⟩).run P w=.ok (.value (.slice (some ⟨w.heap.size,0,none⟩) n n)) (w.alloc (.cells (madeCells z.cells (n*k)) e)):=by
  simp only[execOp,r.lit hx ho,r.lit hy fZ,Sem.run_bind,fu,Result.andThen_ok,Sem.run_pure]
 obtain⟨r',G⟩:=r.grow .row (.cells (madeCells z.cells (n*k)) e) (fun C G hκ b hb=>by
  have:w.heap.size=b:=Option.some.inj (hκ.symm.trans hb)
  subst this
  exact⟨_,e,heap_alloc_new w _⟩)
 have gx:=World.ownsRow_lit (base:=g.B) (e:=e) (size:=k) w (madeCells z.cells (n*k)) n r.hB (by simp only[maxLen];omega) (size_madeCells _ _)
 have MV:∀t,t<n*k→∃hm:t % k<z.cells.size,(madeCells z.cells (n*k)).toList[t]? =some (z.cells[t % k]):=by
  intro t ht
  have hm:t % k<z.cells.size:=by rw[Ih];exact bP _ lV
  refine⟨hm,?_⟩
  simp only[madeCells,bC,bN,bO,ht,if_true,br,Option.some.injEq]
  rw[Ih,getElem!_pos z.cells _ hm]
 refine .inl ⟨_,_,_,_,Bh,.inl rfl,r'.eS (fi hd) (.own ?_)⟩
 refine⟨by show(δ.fK .row).ob _=_;rw[fU,if_pos rfl],by simpa using hl,fun c hc=>?_,fun b hb=>?_,_,by rw[List.length_replicate];exact gx,fun u hu=>?_,fun i' j p l9=>?_⟩
 ·rw[List.mem_replicate] at hc;rw[hc.2,← Am];simp [Ih]
 ·simp only[Value.ownBlock,Option.some.injEq] at hb
  subst hb
  show gY _ _ _ _=_
  simp [gY]
 ·obtain⟨t,ht⟩:=bA hu
  have fm:t<n*k:=by have:=(aW.1 ht).1;simpa [size_madeCells] using this
  obtain⟨hm,h2⟩:=MV t fm
  rw[h2] at ht
  cases ht
  exact(bD.1 h1) _ (by simp)
 ·unfold cellAt at l9
  rw[List.getElem?_replicate] at l9
  split at l9
  ·rename_i kb
   simp only[bI] at l9
   rw[← Am,a7,bg] at l9
   obtain⟨u,hu,rfl⟩:=l9
   have hj:j<k:=by have:=(aW.1 hu).1;rw[← Ih];simpa using this
   have fm:i'*k+j<n*k:=by
    have:(i'+1)*k≤n*k:=bS k kb
    rw[bJ,bK] at this;omega
   obtain⟨hm,h2⟩:=MV _ fm
   refine⟨u,?_,.lit _⟩
   rw[h2]
   have:(i'*k+j) % k=j:=by rw[bR,bT,bU hj]
   simp only[this]
   rw[bC] at hu
   exact(aN aJ).symm.trans hu
  ·simp at l9
theorem a_.make {t e:TypeId} {x y:Operand} {kx ky:IntKind} {k bytes n:Nat} {z:Value} {c0:List PV} (hx:δ.ev x=.pv (.lit (.int kx (n:Int)))) (hy:δ.ev y=.pv (.lit (.int ky (n:Int)))) (ht:P.underlying t=some (.slice e))
  (hi:(P.info? e).map (fun i=>(i.size,i.zero,i.bytes))=some (k,some z,bytes)) (Am:z.cells.toList.map PV.lit=c0) (l7:aL z.cells.size k=true) (nE:aY 0 k=true) (h1:z.cells.toList.all (·.oneCell')=true)
  (ho:ff x=true) (fZ:ff y=true) (hd:fO δ.n dst=true) (hb:bytes*n≤281474976710656) (hl:n≤140737488355328)
  (hK:a_ .plain P g ops rest Q ((δ.fK .row).eS dst (.own δ.nx e k (bZ n c0)))):a_ .plain P g ops (⟨dst,.makeSlice t x y,ty,pos,af,none⟩::rest) Q δ:=
 a_.r_ rfl rfl (iO.make hx hy ht hi Am l7 nE h1 ho fZ hd hb hl) hK
theorem a_.slice {t e:TypeId} {x:Operand} {lo hi:Option Operand} {k l h:Nat} {e7:List (List PV)} (hx:δ.ev x=.pv (.slice k e7)) (ht:P.underlying t=some (.slice e)) (hk:(P.info? e).map (·.size)=some k)
  (rF:match lo with|some y=>ff y=true∧δ.ev y=eV (l:Nat)|none=>l=0) (P7:match hi with|some y=>ff y=true∧δ.ev y=eV (h:Nat)|none=>h=e7.length) (hlh:l≤h) (hh:h≤e7.length)
  (ho:ff x=true) (hd:fO δ.n dst=true) (hK:a_ q P g ops rest Q (δ.eS dst (.pv (.slice k ((e7.drop l).take (h - l)))))):a_ q P g ops (⟨dst,.slice t x lo hi none,ty,pos,af,none⟩::rest) Q δ:=
 a_.jc _ hd (fun κ a w r=>by
  have h1:=(r.ra hx ho).k9
  generalize hv:a.eval x=v at h1
  obtain⟨i0,ju,nE⟩:∃i0,P.info? e=some i0∧i0.size=k:=by
   cases h:P.info? e with
   |none=>rw[h] at hk;simp at hk
   |some i0=>rw[h] at hk;exact⟨i0,rfl,by simpa using hk⟩
  cases h1 with
  | @slice a0 len cap _ _ b off vs hl mM hb ha ED hc hr=>
   have Uy:lo.map a.eval=lo.map fun _=>Value.int .i64 l:=by
    cases lo with
    |none=>rfl
    |some y=>simp only[br,Option.some.injEq];exact r.lit rF.2 rF.1
   have UA:hi.map a.eval=hi.map fun _=>Value.int .i64 h:=by
    cases hi with
    |none=>rfl
    |some y=>simp only[br,Option.some.injEq];exact r.lit P7.2 P7.1
   have Ec:∀w,(Instr.sliceBounds true len cap (lo.map a.eval) (hi.map a.eval) none).run P w=.ok (l,h,cap) w:=by
    intro w
    rw[Uy,UA]
    have e1:(0:Int)≤(h:Int)∧(h:Int)≤(cap:Int):=by omega
    have e2:(0:Int)≤(l:Int)∧(l:Int)≤(h:Int):=by omega
    cases lo with
    |none=>
     simp only at rF
     subst rF
     cases hi with
     |none=>simp only at P7;subst P7;subst hl;simp [Instr.sliceBounds]
     |some y=>
      simp [Instr.sliceBounds,Instr.sliceBound,asIntOf,e1]
      intro h0;exfalso;omega
    |some y0=>
     cases hi with
     |none=>simp only at P7;subst P7;subst hl;simp [Instr.sliceBounds,Instr.sliceBound,asIntOf];omega
     |some y=>
      have n1:¬cap<h:=by omega
      have n2:¬h<l:=by omega
      simp [Instr.sliceBounds,Instr.sliceBound,asIntOf,n1,n2,show h≤cap by omega,show l≤h by omega]
   have fu:∀w,(execOp a.eval ⟨dst,.slice t x lo hi none,ty,pos,af,none⟩).run P w=.ok (.value (.slice (if cap=l then a0 else a0.map (·.add (l*k))) (h - l) (cap - l))) w:=by
    intro w
    simp only[execOp,Instr.sliceAt,Instr.slice,run_underlying ht,hv,Sem.run_bind,Result.andThen_ok,Option.map_none,Ec,sizeOf,typeInfo,Sem.run_pure]
    simp [ju,nE]
   refine⟨_,fun w' _=>fu w',.pv ?_⟩
   have ke:((e7.drop l).take (h - l)).length=h - l:=by simp;omega
   have lj:∀i j,cellAt ((e7.drop l).take (h - l)) i j=(if i<h - l then cellAt e7 (l+i) j else none):=by
    intro i j
    unfold cellAt
    rw[bE]
    split
    ·rw[bF]
    ·rfl
   refine .slice b (off+l*k) (fun i j=>vs (l+i) j) ke aJ aJ (fun fW=>?_) (fun c hc=>ED c (bL (List.mem_of_mem_take hc))) (fun i j p hp=>?_) (fun i j p hp=>?_)
   ·have Va:e7≠ []:=by intro e;subst e;simp at fW
    obtain⟨h3,h4,h5⟩:=ha Va
    have:¬cap=l:=by intro e;apply fW;apply bj;rw[ke];omega
    rw[if_neg this,h3]
    exact⟨by simp [addr_add],h4,h5⟩
   ·rw[lj] at hp
    split at hp
    ·have h6:=hc (l+i) j p hp
     have e0:off+l*k+i*k+j=off+(l+i)*k+j:=by rw[bJ];omega
     rw[e0];exact h6
    ·cases hp
   ·rw[lj] at hp
    split at hp
    ·exact hr (l+i) j p hp
    ·cases hp) hK
end Go.Ab
