/- A small logic of abstract states over the model's weakest preconditions: what a function's slots, variables and rows hold, told without addresses. -/
import Derived.WalkKit
import Derived.Below
import Derived.Deep.Quiet
import Derived.OrdersHeld
import Derived.Laws.OwnMore
import Derived.RangeFuncIn
import Derived.RangeFuncRecord
import Derived.RangeFuncLeaves
import Derived.RangeFuncCalls
import Derived.TacticsIn
set_option linter.unusedSimpArgs false
set_option linter.unusedVariables false
namespace Go.Ab
open Go Go.RowKit
inductive PV where
 |any
 |lit (v:Value)
 |slice (k:Nat) (els:List (List PV))
 |mp (l:List (Value×PV))
 |clip (k:Nat) (els:List (List PV))
def Stamps (es:Array MapEntry) (clock:Nat):Prop:=clock=es.size∧∀(j:Nat) (e:MapEntry),es[j]? =some e→e.born=j
def cellAt (els:List (List PV)) (i j:Nat):Option PV:=(els[i]?).bind (·[j]?)
def lim:Nat:=140737488355328
inductive RP (N:Nat→Prop) (w:World):Value→PV→Prop
 |any (v:Value):RP N w v .any
 |lit (v:Value):RP N w v (.lit v)
 |slice {a:Option Addr} {len cap k:Nat} {els:List (List PV)} (b off:Nat) (vs:Nat→Nat→Value) (hl:els.length=len) (hcap:len≤cap) (hb:len≤140737488355328)
   (ha:els≠ []→a=some ⟨b,off,none⟩∧N b∧b<w.heap.size) (hk:∀c∈els,c.length=k)
   (hc:∀i j p,cellAt els i j=some p→w.cell? ⟨b,off+i*k+j,none⟩=some (vs i j)∧(vs i j).oneCell'=true)
   (hr:∀i j p,cellAt els i j=some p→RP N w (vs i j) p):RP N w (.slice a len cap) (.slice k els)
 |mp {l:List (Value×PV)} (b clock:Nat) (es:Array MapEntry) (hN:N b) (hb:b<w.heap.size) (hh:w.heap[b]? =some (.map es clock)) (hs:es.size=l.length) (hst:Stamps es clock)
   (hk:∀(j:Nat) (e:MapEntry) (p:Value×PV),es[j]? =some e→l[j]? =some p→e.key=p.1)
   (hr:∀(j:Nat) (e:MapEntry) (p:Value×PV),es[j]? =some e→l[j]? =some p→RP N w e.val p.2):RP N w (.map (some b)) (.mp l)
 /-- a slice whose capacity is its length -/
 |clip {a:Option Addr} {len k:Nat} {els:List (List PV)} (h:RP N w (.slice a len len) (.slice k els)):RP N w (.slice a len len) (.clip k els)
theorem cellAt_ne {els:List (List PV)} {i j:Nat} {p:PV} (h:cellAt els i j=some p):els≠ []:=by
 intro e;subst e;simp [cellAt] at h
theorem RP.mono {N N':Nat→Prop} {w w':World} {v:Value} {p:PV} (h:RP N w v p) (hs:w.heap.size≤w'.heap.size)
  (hN:∀b,b<w.heap.size→N b→N' b∧w'.heap[b]? =w.heap[b]?):RP N' w' v p:=by
 induction h with
 |any v=>exact .any v
 |lit v=>exact .lit v
 |slice b off vs hl hcap hb ha hk hc hr ih=>
  refine .slice b off vs hl hcap hb (fun he=>?_) hk (fun i j p hp=>?_) ih
  ·obtain⟨h1,h2,h3⟩:=ha he
   exact⟨h1,(hN b h3 h2).1,Nat.lt_of_lt_of_le h3 hs⟩
  ·obtain⟨h1,h2,h3⟩:=ha (cellAt_ne hp)
   exact⟨(World.cell?_of_block (w:=w) (a:=⟨b,off+i*_+j,none⟩) (hN b h3 h2).2).trans (hc i j p hp).1,(hc i j p hp).2⟩
 |mp b clock es hN' hb hh hs' hst hk hr ih=>exact .mp b clock es (hN b hb hN').1 (Nat.lt_of_lt_of_le hb hs) ((hN b hb hN').2.trans hh) hs' hst hk ih
 |clip h ih=>exact .clip ih
inductive AV where
 |any
 |pv (p:PV)
 |own (i:Nat) (e:TypeId) (k:Nat) (els:List (List PV))
 |ptr (i:Nat) (off:Nat)
 |rptr (cells:List PV)
 |optr (i:Nat) (e:TypeId) (k:Nat) (els:List (List PV)) (idx:Nat)
 |agg (cs:List AV)
 |tup (vs:List AV)
 |clo (fn:Fn) (first:List AV) (cap:List AV)
 |mapr (i:Nat)
 |yld (i:Nat)
structure Ghost where
 B:Nat
 w0:World
 N0:Nat→Prop
 held:Nat→Value
 ro:Option Nat
 mks:List Nat
 wt:Option (World×(Nat→Prop)×Nat)
 fr:Nat→Prop
 w1:World
 /-- calls deferred by the frame itself. -/
 base:List Deferred:=[]
inductive LpSt where
 |ready
 |busy
 |done (c:Code)
 |over
inductive Ob where
 |row
 |box (cells:List AV)
 |mp (es:List (Value×AV))
 |mpl (es:List (Value×AV)) (k:Value) (v:AV)
 |it (l:List (Value×PV)) (seen:List Nat)
 |loop (l:Nat) (tm:Array Value) (ps:Array Tmp) (asg body:Code) (st:LpSt)
 |lit (T:TypeId) (vals:Array Value)
structure DS where
 n:Nat
 env:List (Nat×AV)
 objs:List (Nat×Option Ob)
 nx:Nat
def look (e:List (Nat×AV)) (j:Nat):AV:=
 match e with
 |[]=> .any
 |(i,v)::r=>bif Nat.beq i j then v else look r j
def lookOb (e:List (Nat×Option Ob)) (j:Nat):Option Ob:=
 match e with
 |[]=>none
 |(i,v)::r=>bif Nat.beq i j then v else lookOb r j
def DS.get (δ:DS) (j:Nat):AV:=look δ.env j
def DS.ob (δ:DS) (i:Nat):Option Ob:=lookOb δ.objs i
def DS.put (δ:DS) (d:Nat) (v:AV):DS:={δ with env:=(d,v)::δ.env}
def DS.putd (δ:DS) (d:Option Nat) (v:AV):DS:=match d with|some d=>δ.put d v|none=>δ
def DS.setOb (δ:DS) (i:Nat) (o:Option Ob):DS:={δ with objs:=(i,o)::δ.objs}
def DS.addOb (δ:DS) (o:Ob):DS:={δ with objs:=(δ.nx,some o)::δ.objs,nx:=δ.nx+1}
def DS.ev (δ:DS):Operand→AV
 |.tmp t=>δ.get t
 |.const v=> .pv (.lit v)
 |.global _=> .any
 |.func f=> .clo (.func f) [] []
theorem look_cons (i:Nat) (v:AV) (e:List (Nat×AV)) (j:Nat):look ((i,v)::e) j=if i=j then v else look e j:=by
 by_cases h:i=j
 ·subst h;simp [look]
 ·have hb:Nat.beq i j=false:=by cases hh:Nat.beq i j with|false=>rfl|true=>exact absurd (Nat.eq_of_beq_eq_true hh) h
  rw[if_neg h]
  show(bif Nat.beq i j then v else look e j)=_
  rw[hb];rfl
theorem lookOb_cons (i:Nat) (v:Option Ob) (e:List (Nat×Option Ob)) (j:Nat):lookOb ((i,v)::e) j=if i=j then v else lookOb e j:=by
 by_cases h:i=j
 ·subst h;simp [lookOb]
 ·have hb:Nat.beq i j=false:=by cases hh:Nat.beq i j with|false=>rfl|true=>exact absurd (Nat.eq_of_beq_eq_true hh) h
  rw[if_neg h]
  show(bif Nat.beq i j then v else lookOb e j)=_
  rw[hb];rfl
structure Cx where
 B:Nat
 κ:Nat→Option Nat
 N:Nat→Prop
 Lr:Nat→Prop
 Lb:Nat→Prop
structure OwnV (C:Cx) (w:World) (v:Value) (i:Nat) (e:TypeId) (k:Nat) (els:List (List PV)):Prop where
 live:C.Lr i
 lim:els.length≤140737488355328
 hk:∀c∈els,c.length=k
 blk:∀b,v.ownBlock=some b→C.κ i=some b
 row:∃xs,w.ownsRow C.B e k v els.length xs∧(∀u∈xs,u.oneCell'=true)∧∀i' j p,cellAt els i' j=some p→∃u,xs[i'*k+j]? =some u∧RP C.N w u p
inductive RA (C:Cx) (w:World):Value→AV→Prop
 |any (v:Value):RA C w v .any
 |pv {v:Value} {p:PV} (h:RP C.N w v p):RA C w v (.pv p)
 |own {v:Value} {i:Nat} {e:TypeId} {k:Nat} {els:List (List PV)} (h:OwnV C w v i e k els):RA C w v (.own i e k els)
 |ptr {i off b:Nat} (hl:C.Lb i) (hκ:C.κ i=some b):RA C w (.pointer (some ⟨b,off,none⟩)) (.ptr i off)
 |rptr {cells:List PV} (b off:Nat) (vs:Nat→Value) (hN:C.N b) (hb:b<w.heap.size) (hc:∀(j:Nat) (p:PV),cells[j]? =some p→w.cell? ⟨b,off+j,none⟩=some (vs j)∧(vs j).oneCell'=true)
   (hr:∀(j:Nat) (p:PV),cells[j]? =some p→RP C.N w (vs j) p):RA C w (.pointer (some ⟨b,off,none⟩)) (.rptr cells)
 |optr {i:Nat} {e:TypeId} {k:Nat} {els:List (List PV)} {idx b cap:Nat} (hi:idx<els.length) (h:OwnV C w (.slice (some ⟨b,0,none⟩) els.length cap) i e k els):
   RA C w (.pointer (some ⟨b,idx*k,none⟩)) (.optr i e k els idx)
 |agg {vs:Array Value} {cs:List AV} (hs:vs.size=cs.length) (h:∀(j:Nat) (u:Value) (c:AV),vs[j]? =some u→cs[j]? =some c→RA C w u c):RA C w (.agg vs) (.agg cs)
 |tup {vs:Array Value} {cs:List AV} (hs:vs.size=cs.length) (h:∀(j:Nat) (u:Value) (c:AV),vs[j]? =some u→cs[j]? =some c→RA C w u c):RA C w (.tuple vs) (.tup cs)
 |clo {fn:Fn} {vs us:Array Value} {cs ds:List AV} (hs:vs.size=cs.length) (h:∀(j:Nat) (u:Value) (c:AV),vs[j]? =some u→cs[j]? =some c→RA C w u c)
   (ht:us.size=ds.length) (h':∀(j:Nat) (u:Value) (c:AV),us[j]? =some u→ds[j]? =some c→RA C w u c):RA C w (.func fn vs us) (.clo fn cs ds)
 |mapr {i b:Nat} (hl:C.Lb i) (hκ:C.κ i=some b):RA C w (.map (some b)) (.mapr i)
 |yld {i b:Nat} (hl:C.Lb i) (hκ:C.κ i=some b):RA C w (.func (.yield b) #[] #[]) (.yld i)
structure Goes (C:Cx) (w:World) (C':Cx) (w':World):Prop where
 B:C'.B=C.B
 size:w.heap.size≤w'.heap.size
 N:∀b,b<w.heap.size→C.N b→C'.N b∧w'.heap[b]? =w.heap[b]?
 Lr:∀i,C.Lr i→C'.Lr i∧C'.κ i=C.κ i∧∀b,C.κ i=some b→w'.heap[b]? =w.heap[b]?
 Lb:∀i,C.Lb i→C'.Lb i∧C'.κ i=C.κ i
theorem Goes.rp {C C':Cx} {w w':World} (g:Goes C w C' w') {v:Value} {p:PV} (h:RP C.N w v p):RP C'.N w' v p:=h.mono g.size g.N
theorem Goes.ownV {C C':Cx} {w w':World} (g:Goes C w C' w') {v:Value} {i:Nat} {e:TypeId} {k:Nat} {els:List (List PV)} (h:OwnV C w v i e k els):OwnV C' w' v i e k els:=by
 obtain⟨hl,hlim,hk,hb,xs,ho,h1,hx⟩:=h
 obtain⟨l1,l2,l3⟩:=g.Lr i hl
 refine⟨l1,hlim,hk,fun b hv=>l2.trans (hb b hv),xs,?_,h1,fun i' j p hp=>?_⟩
 ·rw[g.B]
  refine⟨ho.1,?_⟩
  rcases ho.2 with hn|⟨b,cap,cur,rfl,h2,h3,h4⟩
  ·exact .inl hn
  ·exact .inr ⟨b,cap,cur,rfl,h2,(l3 b (hb b rfl)).trans h3,h4⟩
 ·obtain⟨u,h1,h2⟩:=hx i' j p hp
  exact⟨u,h1,g.rp h2⟩
theorem Goes.ra {C C':Cx} {w w':World} (g:Goes C w C' w') {v:Value} {av:AV} (h:RA C w v av):RA C' w' v av:=by
 induction h with
 |any v=>exact .any v
 |pv h=>exact .pv (g.rp h)
 |own h=>exact .own (g.ownV h)
 |ptr hl hκ=>exact .ptr (g.Lb _ hl).1 ((g.Lb _ hl).2.trans hκ)
 |rptr b off vs hN hb hc hr=>
  obtain⟨h1,h2⟩:=g.N b hb hN
  exact .rptr b off vs h1 (Nat.lt_of_lt_of_le hb g.size) (fun j p hp=>⟨(World.cell?_of_block (w:=w) (a:=⟨b,off+j,none⟩) h2).trans (hc j p hp).1,(hc j p hp).2⟩) (fun j p hp=>g.rp (hr j p hp))
 |optr hi h=>exact .optr hi (g.ownV h)
 |agg hs h ih=>exact .agg hs ih
 |tup hs h ih=>exact .tup hs ih
 |clo hs h ht h' ih ih'=>exact .clo hs ih ht ih'
 |mapr hl hκ=>exact .mapr (g.Lb _ hl).1 ((g.Lb _ hl).2.trans hκ)
 |yld hl hκ=>exact .yld (g.Lb _ hl).1 ((g.Lb _ hl).2.trans hκ)
def Ob.isRow:Ob→Bool|.row=>true|_=>false
def DS.lr (δ:DS) (i:Nat):Prop:=δ.ob i=some .row
def DS.lb (δ:DS) (i:Nat):Prop:=∃o,δ.ob i=some o∧o.isRow=false
def DS.live (δ:DS) (i:Nat):Prop:=∃o,δ.ob i=some o
def DS.cx (δ:DS) (g:Ghost) (κ:Nat→Option Nat):Cx:=
 {B:=g.B,κ,N:=fun b=>g.N0 b∧∀i,δ.live i→κ i≠some b,Lr:=δ.lr,Lb:=δ.lb}
def HS:Nat:=1000
def Ghost.val (g:Ghost) (a:Act) (j:Nat):Value:=if j<HS then a.tmps.getD j undef else g.held j
def MapIs (C:Cx) (w:World) (es:Array MapEntry) (l:List (Value×AV)):Prop:=
 es.size=l.length∧∀(j:Nat) (e:MapEntry) (p:Value×AV),es[j]? =some e→l[j]? =some p→e.key=p.1∧RA C w e.val p.2
def AV.noOwn:AV→Bool
 |.own _ _ _ _|.optr _ _ _ _ _|.agg _|.tup _|.clo _ _ _=>false
 |_=>true
def ItIs (N:Nat→Prop) (w:World) (b:Nat) (l:List (Value×PV)) (seen:List Nat):Prop:=
 (l=[]∧w.heap[b]? =some (.mapIter none 0 #[] 0))∨∃m es clock,N m∧m<w.heap.size∧w.heap[m]? =some (.map es clock)∧es.size=l.length∧Stamps es clock∧
  (∀(j:Nat) (e:MapEntry) (p:Value×PV),es[j]? =some e→l[j]? =some p→e.key=p.1∧RP N w e.val p.2)∧w.heap[b]? =some (.mapIter (some m) clock seen.toArray clock)∧∀j∈seen,j<l.length
theorem ItIs.mono {N N':Nat→Prop} {w w':World} {b:Nat} {l:List (Value×PV)} {seen:List Nat} (h:ItIs N w b l seen) (hs:w.heap.size≤w'.heap.size)
  (hN:∀b,b<w.heap.size→N b→N' b∧w'.heap[b]? =w.heap[b]?) (hb:w'.heap[b]? =w.heap[b]?):ItIs N' w' b l seen:=by
 rcases h with ⟨h1,h2⟩|⟨m,es,clock,h1,h2,h3,h4,h5,h6,h7,h8⟩
 ·exact .inl ⟨h1,hb.trans h2⟩
 ·exact .inr ⟨m,es,clock,(hN m h2 h1).1,Nat.lt_of_lt_of_le h2 hs,(hN m h2 h1).2.trans h3,h4,h5,fun j e p h9 h10=>⟨(h6 j e p h9 h10).1,(h6 j e p h9 h10).2.mono hs hN⟩,hb.trans h7,h8⟩
def ObIs (C:Cx) (w:World) (i:Nat):Ob→Prop
 |.row=>∀b,C.κ i=some b→∃c e,w.heap[b]? =some (.cells c e (0,0))
 |.box cells=>∃b c e,C.κ i=some b∧w.heap[b]? =some (.cells c e (0,0))∧c.size=cells.length∧∀(j:Nat) (u:Value) (av:AV),c[j]? =some u→cells[j]? =some av→RA C w u av∧u.oneCell'=true
 |.mp l=>∃b es clock,C.κ i=some b∧w.heap[b]? =some (.map es clock)∧MapIs C w es l∧Stamps es clock∧∀p∈l,p.2.noOwn=true
 |.mpl l k v=>∃b es clock,C.κ i=some b∧w.heap[b]? =some (.map es clock)∧MapIs C w es (l++ [(k,v)])∧Stamps es clock∧∀p∈l,p.2.noOwn=true
 |.it l seen=>∃b,C.κ i=some b∧ItIs C.N w b l seen
 |.lit T vals=>∃b,C.κ i=some b∧w.heap[b]? =some (.cells vals T (0,0))
 |.loop l tm ps asg body st=>∃b r,C.κ i=some b∧w.heap[b]? =some (.loop r)∧b=l∧r.tmps=tm∧r.params=ps∧r.assign=asg∧r.body=body∧
   (match st with|.ready=>r.state=.ready∧r.pending=none|.busy=>r.state=.busy|.done c=>r.state=.done∧r.pending=some c|.over=>True)
def Dfr (g:Ghost) (a:Act) (w:World):Prop:=∃rs:List Nat,a.defers=rs.map (fun r=>({target:=.collected r,args:= #[]}:Deferred))++g.base∧(rs++g.mks).Nodup∧∀r∈rs++g.mks,g.B≤r∧w.heap[r]? =some (.deferred (some []))
def FrOk (g:Ghost) (lv:Nat→Prop) (κ:Nat→Option Nat) (w:World):Prop:=∀b,g.fr b→b<g.w1.heap.size∧w.heap[b]? =g.w1.heap[b]?∧∀i,lv i→κ i≠some b
theorem FrOk.of {g:Ghost} {lv lv':Nat→Prop} {κ κ':Nat→Option Nat} {w w':World} (h:FrOk g lv κ w) (hw:∀b,g.fr b→b<w.heap.size→(∀i,lv i→κ i≠some b)→w'.heap[b]? =w.heap[b]?)
  (hl:∀i b,lv' i→κ' i=some b→(∃j,lv j∧κ j=some b)∨w.heap.size≤b):FrOk g lv' κ' w':=by
 intro b hb
 obtain⟨h1,h3,h4⟩:=h b hb
 have hlt:b<w.heap.size:=by rw[Array.getElem?_eq_getElem h1] at h3;exact(Array.getElem?_eq_some_iff.1 h3).1
 refine⟨h1,(hw b hb hlt h4).trans h3,fun i hi e=>?_⟩
 rcases hl i b hi e with ⟨j,hj,e'⟩|h5
 ·exact h4 j hj e'
 ·omega
theorem FrOk.sub {g:Ghost} {lv lv':Nat→Prop} {κ κ':Nat→Option Nat} {w:World} (h:FrOk g lv κ w) (hl:∀i b,lv' i→κ' i=some b→∃j,lv j∧κ j=some b):FrOk g lv' κ' w:=h.of (fun _ _ _ _=>rfl) fun i b h1 h2=> .inl (hl i b h1 h2)
structure Rel (g:Ghost) (δ:DS) (κ:Nat→Option Nat) (a:Act) (w:World):Prop where
 n:a.tmps.size=δ.n
 dfr:Dfr g a w
 env:∀j,RA (δ.cx g κ) w (g.val a j) (δ.get j)
 obj:∀i o,δ.ob i=some o→ObIs (δ.cx g κ) w i o
 inj:∀i j b,δ.live i→δ.live j→κ i=some b→κ j=some b→i=j
 lo:∀i b,δ.live i→κ i=some b→g.B≤b∧b<w.heap.size
 nx:∀i,δ.live i→i<δ.nx
 wt:∀k,g.wt=some k→(∀b,k.2.1 b→b<k.1.heap.size∧w.heap[b]? =k.1.heap[b]?)∧∀i b,δ.live i→(δ.lr i∨k.2.2≤i)→κ i=some b→¬k.2.1 b
 below:Below g.B g.w0 w
 hB:g.B≤w.heap.size
 N0:∀b,g.B≤b→¬g.fr b→g.N0 b
 fr:FrOk g δ.live κ w
 mkf:∀d∈a.defers,∀r,d.target=.collected r→¬g.fr r
theorem FrOk.old {g:Ghost} {lv:Nat→Prop} {κ:Nat→Option Nat} {w:World} (h:FrOk g lv κ w) {b:Nat} (hb:g.fr b):b<w.heap.size:=by
 obtain⟨h1,h3,_⟩:=h b hb
 rw[Array.getElem?_eq_getElem h1] at h3
 exact(Array.getElem?_eq_some_iff.1 h3).1
theorem Rel.N0new {g:Ghost} {δ:DS} {κ:Nat→Option Nat} {a:Act} {w:World} (r:Rel g δ κ a w) {b:Nat} (h:w.heap.size≤b):g.N0 b:=r.N0 b (Nat.le_trans r.hB h) fun hf=>by have:=r.fr.old hf;omega
theorem Rel.N0own {g:Ghost} {δ:DS} {κ:Nat→Option Nat} {a:Act} {w:World} (r:Rel g δ κ a w) {i b:Nat} (hl:δ.live i) (hκ:κ i=some b):g.N0 b:=r.N0 b (r.lo i b hl hκ).1 fun hf=>(r.fr b hf).2.2 i hl hκ
end Go.Ab
/- The abstract states' laws:how a relation goes on over a slot's write,a new block,an extension of the world;the rules of the abstract weakest precondition. -/
namespace Go.Ab
open Go Go.RowKit
variable {P:Program} {g:Ghost} {δ:DS} {κ:Nat→Option Nat} {a:Act} {w:World}
theorem get_put (δ:DS) (d:Nat) (v:AV) (j:Nat):(δ.put d v).get j=if d=j then v else δ.get j:=look_cons _ _ _ _
theorem ob_setOb (δ:DS) (d:Nat) (v:Option Ob) (j:Nat):(δ.setOb d v).ob j=if d=j then v else δ.ob j:=lookOb_cons _ _ _ _
theorem ob_addOb (δ:DS) (o:Ob) (j:Nat):(δ.addOb o).ob j=if δ.nx=j then some o else δ.ob j:=lookOb_cons _ _ _ _
theorem Ghost.val_put (g:Ghost) (a:Act) (d:Nat) (v:Value) (j:Nat) (h:d<a.tmps.size) (hH:d<HS):g.val (a.put (some d) v) j=if d=j then v else g.val a j:=by
 unfold Ghost.val Act.put
 by_cases hj:j<HS
 ·simp only[hj,if_true,Array.getD_eq_getD_getElem?,Array.getElem?_setIfInBounds]
  by_cases e:d=j
  ·subst e;simp [h]
  ·simp [e]
 ·have:d≠j:=by omega
  simp [hj,this]
theorem Rel.put (r:Rel g δ κ a w) {d:Nat} {v:Value} {av:AV} (hd:d<δ.n) (hH:d<HS) (h:RA (δ.cx g κ) w v av):Rel g (δ.put d av) κ (a.put (some d) v) w where
 n:=by have:=r.n;simp only[Act.put,Array.size_setIfInBounds];exact this
 dfr:=by obtain⟨rs,h1,h2,h3⟩:=r.dfr;exact⟨rs,h1,h2,h3⟩
 env:=fun j=>by
  rw[get_put,g.val_put a d v j (by rw[r.n];exact hd) hH]
  by_cases e:d=j
  ·simp only[e,if_true];exact h
  ·simp only[e,if_false];exact r.env j
 obj:=r.obj
 inj:=r.inj
 lo:=r.lo
 nx:=r.nx
 wt:=r.wt
 below:=r.below
 hB:=r.hB
 N0:=r.N0
 fr:=r.fr
 mkf:=r.mkf
theorem Rel.putd (r:Rel g δ κ a w) {d:Option Nat} {v:Value} {av:AV} (hd:∀x,d=some x→x<δ.n∧x<HS) (h:RA (δ.cx g κ) w v av):Rel g (δ.putd d av) κ (a.put d v) w:=by
 cases d with
 |none=>exact r
 |some x=>exact r.put (hd x rfl).1 (hd x rfl).2 h
theorem Dfr.goes {g:Ghost} {a:Act} {w w':World} (h:Dfr g a w) (hb:∀r,g.B≤r→w.heap[r]? =some (.deferred (some []))→w'.heap[r]? =w.heap[r]?):Dfr g a w':=by
 obtain⟨rs,h1,h2,h3⟩:=h
 exact⟨rs,h1,h2,fun r hr=>⟨(h3 r hr).1,(hb r (h3 r hr).1 (h3 r hr).2).trans (h3 r hr).2⟩⟩
theorem wt_lt {k:World×(Nat→Prop)×Nat} {w:World} {b:Nat} (h:b<k.1.heap.size∧w.heap[b]? =k.1.heap[b]?):b<w.heap.size:=by
 have:=h.2
 rw[Array.getElem?_eq_getElem h.1] at this
 exact(Array.getElem?_eq_some_iff.1 this).1
theorem heap_lt {w:World} {r:Nat} {o:Obj} (h:w.heap[r]? =some o):r<w.heap.size:=(Array.getElem?_eq_some_iff.1 h).1
theorem MapIs.goes {C C':Cx} {w w':World} (G:Goes C w C' w') {es:Array MapEntry} {l:List (Value×AV)} (h:MapIs C w es l):MapIs C' w' es l:=
 ⟨h.1,fun j e p h1 h2=>⟨(h.2 j e p h1 h2).1,G.ra (h.2 j e p h1 h2).2⟩⟩
theorem MapIs.last {C C':Cx} {w w':World} {es:Array MapEntry} {l:List (Value×AV)} {k:Value} {v v':AV} (h:MapIs C w es (l++ [(k,v)])) (h1:∀(u:Value) (p:Value×AV),p∈l→RA C w u p.2→RA C' w' u p.2) (h2:∀u:Value,RA C w u v→RA C' w' u v'):MapIs C' w' es (l++ [(k,v')]):=by
 refine⟨by simpa using h.1,fun j e p hj hp=>?_⟩
 by_cases hlt:j<l.length
 ·rw[List.getElem?_append_left hlt] at hp
  obtain⟨a1,a2⟩:=h.2 j e p hj (by rw[List.getElem?_append_left hlt];exact hp)
  exact⟨a1,h1 _ p (List.mem_of_getElem? hp) a2⟩
 ·rw[List.getElem?_append_right (by omega)] at hp
  obtain⟨a1,a2⟩:=h.2 j e (k,v) hj (by
   rw[List.getElem?_append_right (by omega)]
   have:j - l.length=0:=by have:=(List.getElem?_eq_some_iff.1 hp).1;simpa using this
   rw[this];rfl)
  have:p=(k,v'):=by
   have h0:j - l.length=0:=by have:=(List.getElem?_eq_some_iff.1 hp).1;simpa using this
   rw[h0] at hp;simpa using hp.symm
  subst this
  exact⟨a1,h2 _ a2⟩
theorem ObIs.goes {C C':Cx} {w w':World} (G:Goes C w C' w') {i:Nat} {o:Ob} (hκ:C'.κ i=C.κ i) (hb:∀b,C.κ i=some b→w'.heap[b]? =w.heap[b]?) (h:ObIs C w i o):ObIs C' w' i o:=by
 cases o with
 |row=>
  intro b hκ'
  rw[hκ] at hκ'
  obtain⟨c,e,h1⟩:=h b hκ'
  exact⟨c,e,(hb b hκ').trans h1⟩
 |box cells=>
  obtain⟨b,c,e,h1,h2,h3,h4⟩:=h
  exact⟨b,c,e,hκ.trans h1,(hb b h1).trans h2,h3,fun j u av h5 h6=>⟨G.ra (h4 j u av h5 h6).1,(h4 j u av h5 h6).2⟩⟩
 |mp l=>
  obtain⟨b,es,clock,h1,h2,h3,h4⟩:=h
  exact⟨b,es,clock,hκ.trans h1,(hb b h1).trans h2,h3.goes G,h4⟩
 |mpl l k v=>
  obtain⟨b,es,clock,h1,h2,h3,h4⟩:=h
  exact⟨b,es,clock,hκ.trans h1,(hb b h1).trans h2,h3.goes G,h4⟩
 |it l seen=>
  obtain⟨b,h1,h2⟩:=h
  exact⟨b,hκ.trans h1,h2.mono G.size G.N (hb b h1)⟩
 |lit T vals=>obtain⟨b,h1,h2⟩:=h;exact⟨b,hκ.trans h1,(hb b h1).trans h2⟩
 |loop l tm ps asg body st=>
  obtain⟨b,lr,h1,h2,h3⟩:=h
  exact⟨b,lr,hκ.trans h1,(hb b h1).trans h2,h3⟩
theorem DS.lr_live {δ:DS} {i:Nat} (h:δ.lr i):δ.live i:=⟨_,h⟩
theorem DS.lb_live {δ:DS} {i:Nat} (h:δ.lb i):δ.live i:=let ⟨o,h1,_⟩:=h;⟨o,h1⟩
theorem Rel.ext (r:Rel g δ κ a w) {w':World} (hb:Below w.heap.size w w'):Rel g δ κ a w':=by
 have G:Goes (δ.cx g κ) w (δ.cx g κ) w':=
  {B:=rfl,size:=hb.size,N:=fun b h1 h2=>⟨h2,hb.block b h1⟩
   Lr:=fun i hi=>⟨hi,rfl,fun b hκ=>hb.block b (r.lo i b (DS.lr_live hi) hκ).2⟩
   Lb:=fun i hi=>⟨hi,rfl⟩}
 exact
  {n:=r.n,dfr:=r.dfr.goes fun k _ hk=>hb.block k (heap_lt hk),env:=fun j=>G.ra (r.env j)
   obj:=fun i o h=>(r.obj i o h).goes G rfl (fun b hκ=>hb.block b (r.lo i b ⟨o,h⟩ hκ).2)
   inj:=r.inj,lo:=fun i b h1 h2=>⟨(r.lo i b h1 h2).1,Nat.lt_of_lt_of_le (r.lo i b h1 h2).2 hb.size⟩
   nx:=r.nx,wt:=fun k hk=>⟨fun b hkb=>⟨((r.wt k hk).1 b hkb).1,(hb.block b (wt_lt ((r.wt k hk).1 b hkb))).trans ((r.wt k hk).1 b hkb).2⟩,(r.wt k hk).2⟩,below:=r.below.trans (hb.mono r.hB),hB:=Nat.le_trans r.hB hb.size,N0:=r.N0
   fr:=r.fr.of (fun b _ h1 _=>hb.block b h1) (fun i b h1 h2=> .inl ⟨i,h1,h2⟩),mkf:=r.mkf}
def upd (κ:Nat→Option Nat) (i:Nat) (b:Option Nat):Nat→Option Nat:=fun j=>if i=j then b else κ j
theorem Rel.grow (r:Rel g δ κ a w) (ob:Ob) (o:Obj)
  (hob:∀C,Goes (δ.cx g κ) w C (w.alloc o)→C.κ δ.nx=some w.heap.size→ObIs C (w.alloc o) δ.nx ob):
  Rel g (δ.addOb ob) (upd κ δ.nx (some w.heap.size)) a (w.alloc o)∧Goes (δ.cx g κ) w ((δ.addOb ob).cx g (upd κ δ.nx (some w.heap.size))) (w.alloc o):=by
 have hold:∀k,k<w.heap.size→(w.alloc o).heap[k]? =w.heap[k]?:=fun k hk=>Below.heap_alloc w o k hk
 have hnl:¬δ.live δ.nx:=fun h=>Nat.lt_irrefl _ (r.nx _ h)
 have hne:∀i,δ.live i→δ.nx≠i:=fun i h e=>hnl (e▸h)
 have hlive:∀i,(δ.addOb ob).live i→i=δ.nx∨δ.live i:=by
  intro i ⟨o',h⟩
  rw[ob_addOb] at h
  by_cases e:δ.nx=i
  ·exact .inl e.symm
  ·rw[if_neg e] at h;exact .inr ⟨o',h⟩
 have hsz:(w.alloc o).heap.size=w.heap.size+1:=by show(w.heap.push o).size=_;simp
 have G:Goes (δ.cx g κ) w ((δ.addOb ob).cx g (upd κ δ.nx (some w.heap.size))) (w.alloc o):=
  {B:=rfl,size:=by omega
   N:=fun b h1 h2=>⟨⟨h2.1,fun i hi=>by
    show upd κ δ.nx (some w.heap.size) i≠some b
    rcases hlive i hi with rfl|hi
    ·simp only[upd,if_true];intro e;cases e;omega
    ·simp only[upd,hne i hi,if_false];exact h2.2 i hi⟩,hold b h1⟩
   Lr:=fun i hi=>by
    have hi':=hne i (DS.lr_live hi)
    refine⟨?_,by show upd _ _ _ i=κ i;simp [upd,hi'],fun b hκ=>hold b (r.lo i b (DS.lr_live hi) hκ).2⟩
    show(δ.addOb ob).ob i=_
    rw[ob_addOb,if_neg hi'];exact hi
   Lb:=fun i hi=>by
    have hi':=hne i (DS.lb_live hi)
    refine⟨?_,by show upd _ _ _ i=κ i;simp [upd,hi']⟩
    obtain⟨o',h1,h2⟩:=hi
    exact⟨o',by rw[ob_addOb,if_neg hi'];exact h1,h2⟩}
 refine⟨?_,G⟩
 exact
  {n:=r.n,dfr:=r.dfr.goes fun k _ hk=>hold k (heap_lt hk),env:=fun j=>G.ra (r.env j)
   obj:=fun i o' h=>by
    rw[ob_addOb] at h
    by_cases e:δ.nx=i
    ·rw[if_pos e] at h;cases h;subst e
     exact hob _ G (by show upd _ _ _ _=_;simp [upd])
    ·rw[if_neg e] at h
     exact(r.obj i o' h).goes G (by show upd _ _ _ i=κ i;simp [upd,e]) (fun b hκ=>hold b (r.lo i b ⟨o',h⟩ hκ).2)
   inj:=fun i j b h1 h2 h3 h4=>by
    rcases hlive i h1 with rfl|h1
    ·rcases hlive j h2 with rfl|h2
     ·rfl
     ·simp only[upd,if_true] at h3
      simp only[upd,hne j h2,if_false] at h4
      cases h3
      exact absurd (r.lo j _ h2 h4).2 (by omega)
    ·rcases hlive j h2 with rfl|h2
     ·simp only[upd,if_true] at h4
      simp only[upd,hne i h1,if_false] at h3
      cases h4
      exact absurd (r.lo i _ h1 h3).2 (by omega)
     ·simp only[upd,hne i h1,hne j h2,if_false] at h3 h4
      exact r.inj i j b h1 h2 h3 h4
   lo:=fun i b h1 h2=>by
    rw[hsz]
    rcases hlive i h1 with rfl|h1
    ·simp only[upd,if_true] at h2;cases h2;exact⟨r.hB,by omega⟩
    ·simp only[upd,hne i h1,if_false] at h2
     have:=r.lo i b h1 h2
     omega
   nx:=fun i h=>by
    show i<δ.nx+1
    rcases hlive i h with rfl|h
    ·omega
    ·have:=r.nx i h;omega
   wt:=fun k hk=>⟨fun b hkb=>⟨((r.wt k hk).1 b hkb).1,(hold b (wt_lt ((r.wt k hk).1 b hkb))).trans ((r.wt k hk).1 b hkb).2⟩,fun i b hl hi hκ hkb=>by
    rcases hlive i hl with rfl|hi'
    ·simp only[upd,if_true] at hκ
     cases hκ
     exact absurd (wt_lt ((r.wt k hk).1 _ hkb)) (Nat.lt_irrefl _)
    ·simp only[upd,hne i hi',if_false] at hκ
     refine(r.wt k hk).2 i b hi' ?_ hκ hkb
     refine hi.imp (fun hi=>?_) id
     have hi2:(δ.addOb ob).ob i=some .row:=hi
     rw[ob_addOb,if_neg (hne i hi')] at hi2
     exact hi2⟩
   below:=r.below.alloc r.hB o
   hB:=by rw[hsz];have:=r.hB;omega
   N0:=r.N0
   mkf:=r.mkf
   fr:=r.fr.of (fun b _ h1 _=>hold b h1) fun i b h1 h2=>by
    rcases hlive i h1 with rfl|h1
    ·simp only[upd,if_true] at h2;cases h2;exact .inr (Nat.le_refl _)
    ·simp only[upd,hne i h1,if_false] at h2;exact .inl ⟨i,h1,h2⟩}
def lift (g:Ghost) (Q:Exit→DS→Prop):Exit→Act→World→Prop:=fun e a w=>∃δ κ,Q e δ∧Rel g δ κ a w
abbrev Fw (ro:Option Nat):Fence:={fn:=fun _=>True,depth:=none,alive:=false,round:=ro}
def AW (P:Program) (g:Ghost) (c:Code) (Q:Exit→DS→Prop) (δ:DS):Prop:=∀κ a w,Rel g δ κ a w→c.wpIn (Fw g.ro) 0 P (lift g Q) a w
def thenD (next:DS→Prop) (Q:Exit→DS→Prop):Exit→DS→Prop
 |.normal,δ=>next δ
 |e,δ=>Q e δ
def inBlockD (id:Nat) (Q:Exit→DS→Prop):Exit→DS→Prop
 |.exit id',δ=>if id'=id then Q .normal δ else Q (.exit id') δ
 |e,δ=>Q e δ
theorem AW.mono {c:Code} {Q Q':Exit→DS→Prop} (h:AW P g c Q δ) (hq:∀e δ,Q e δ→Q' e δ):AW P g c Q' δ:=
 fun κ a w r=>wpIn_mono (h κ a w r) fun _ _ _ ⟨δ',κ',h1,h2⟩=>⟨δ',κ',hq _ _ h1,h2⟩
theorem AW.seq {x y:Code} {Q:Exit→DS→Prop} (h:AW P g x (thenD (AW P g y Q) Q) δ):AW P g (.seq x y) Q δ:=by
 intro κ a w r
 refine wpIn_seq (wpIn_mono (h κ a w r) fun e a' w'=>?_)
 rintro⟨δ',κ',h1,h2⟩
 cases e with
 |normal=>exact h1 κ' a' w' h2
 |_=>exact⟨δ',κ',h1,h2⟩
theorem AW.skip {Q:Exit→DS→Prop} (h:Q .normal δ):AW P g .skip Q δ:=fun κ _ _ r=>wpIn_skip ⟨δ,κ,h,r⟩
theorem AW.exit {id:Nat} {Q:Exit→DS→Prop} (h:Q (.exit id) δ):AW P g (.exit id) Q δ:=fun κ _ _ r=>wpIn_exit ⟨δ,κ,h,r⟩
theorem AW.ret {Q:Exit→DS→Prop} (h:Q .ret δ):AW P g .ret Q δ:=fun κ _ _ r=>wpIn_ret ⟨δ,κ,h,r⟩
theorem Rel.evc (r:Rel g δ κ a w) (x:Operand) (hx:∀t,x=.tmp t→t<HS):RA (δ.cx g κ) w (a.eval x) (δ.ev x):=by
 cases x with
 |tmp t=>
  have:=r.env t
  unfold Ghost.val at this
  rw[if_pos (hx t rfl)] at this
  exact this
 |const v=>exact .pv (.lit v)
 |global n=>exact .any _
 |func f=>exact .clo rfl (fun j u c h=>by simp at h) rfl (fun j u c h=>by simp at h)
theorem RA.lit {C:Cx} {w:World} {v u:Value} (h:RA C w v (.pv (.lit u))):v=u:=by cases h with|pv h=>cases h;rfl
def okT (x:Operand):Bool:=match x with|.tmp t=>Nat.blt t HS|_=>true
theorem okT_spec {x:Operand} (h:okT x=true):∀t,x=.tmp t→t<HS:=by
 rintro t rfl;simpa [okT] using h
theorem AW.cond {c:Operand} {x y:Code} {t:Bool} {Q:Exit→DS→Prop} (ho:okT c=true) (hc:δ.ev c=.pv (.lit (.bool t))) (h1:t=true→AW P g x Q δ) (h2:t=false→AW P g y Q δ):AW P g (.cond c x y) Q δ:=by
 intro κ a w r
 have he:=r.evc c (okT_spec ho)
 rw[hc] at he
 exact wpIn_cond_split he.lit (fun h=>h1 h κ a w r) (fun h=>h2 h κ a w r)
theorem AW.block {id:Nat} {c:Code} {Q:Exit→DS→Prop} (h:AW P g c (inBlockD id Q) δ):AW P g (.block id c) Q δ:=by
 intro κ a w r
 refine wpIn_block (wpIn_mono (h κ a w r) fun e a' w'=>?_)
 rintro⟨δ',κ',h1,h2⟩
 cases e with
 |exit id'=>
  simp only[inBlockD] at h1
  show(if id'=id then _ else _)
  by_cases e:id'=id
  ·rw[if_pos e] at h1 ⊢;exact⟨δ',κ',h1,h2⟩
  ·rw[if_neg e] at h1 ⊢;exact⟨δ',κ',h1,h2⟩
 |_=>exact⟨δ',κ',h1,h2⟩
theorem wp_loop_rel {F:Fence} {n0:Nat} {c:Code} {Q:Exit→Act→World→Prop} (I:Nat→Act→World→Prop)
  (round:∀n a w,I n a w→c.wpIn F n0 P (Exit.then (fun a' w'=>∃m,m<n∧I m a' w') Q) a w) {n:Nat} {a:Act} {w:World} (h0:I n a w):(Code.loop c).wpIn F n0 P Q a w:=by
 intro b k cs hro hb hr
 have key:∀n a w,I n a w→
   ∃e a' w',Q e a' w'∧ArrivesIn (Machine.fenced P F) P (lone (b.atR a (.code c::.inLoop c::k)) cs w) b k cs e a' w':=by
  intro n
  induction n using Nat.strongRecOn with
  |_ n ih=>
   intro a w hI
   obtain⟨e,a₁,w₁,hq,harr⟩:=round n a w hI b (.inLoop c::k) cs hro hb hr
   cases e with
   |normal=>
    obtain⟨m,hlt,hI₁⟩:=hq
    obtain⟨e₂,a₂,w₂,hq₂,harr₂⟩:=ih m hlt a₁ w₁ hI₁
    exact⟨e₂,a₂,w₂,hq₂,.of_steps (StepsIn.trans harr (.one (fenced_calm hb hr rfl) stepR_inLoop)) harr₂⟩
   |exit id=>exact⟨_,a₁,w₁,hq,.pass (x:=.inLoop c) rfl (fun _ _=> .inl (by simp)) harr⟩
   |goto l=>exact⟨_,a₁,w₁,hq,.pass (x:=.inLoop c) rfl (fun _ _=> .inl (by simp)) harr⟩
   |ret=>exact⟨_,a₁,w₁,hq,.pass (x:=.inLoop c) rfl (fun _ _=> .inl (by simp)) harr⟩
   |panic ch=>exact⟨_,a₁,w₁,hq,.pass (x:=.inLoop c) rfl (fun _ _=> .inl (by simp)) harr⟩
   |outgrown=>exact⟨_,a₁,w₁,hq,.pass (x:=.inLoop c) rfl (fun _ _=> .inl (by simp)) harr⟩
 obtain⟨e,a',w',hq,harr⟩:=key _ a w h0
 exact⟨e,a',w',hq,.of_steps (.one (fenced_calm hb hr rfl) stepR_loop) harr⟩
def Weak (g:Ghost) (δ δ':DS):Prop:=∀κ a w,Rel g δ κ a w→∃κ',Rel g δ' κ' a w
theorem AW.weak {c:Code} {Q:Exit→DS→Prop} {δ':DS} (hw:Weak g δ δ') (h:AW P g c Q δ'):AW P g c Q δ:=fun κ a w r=>let ⟨κ',r'⟩:=hw κ a w r;h κ' a w r'
theorem AW.loop {S:Type} {c:Code} {Q:Exit→DS→Prop} (D:S→DS) (I:S→Prop) (μ:S→Nat) (s0:S) (hs:I s0) (hw:Weak g δ (D s0))
  (round:∀s,I s→AW P g c (thenD (fun δ'=>∃s',I s'∧μ s'<μ s∧Weak g δ' (D s')) Q) (D s)):AW P g (.loop c) Q δ:=by
 intro κ a w r
 obtain⟨κ0,r0⟩:=hw κ a w r
 refine wp_loop_rel (fun n a w=>∃s κ,I s∧μ s=n∧Rel g (D s) κ a w) ?_ (n:=μ s0) ⟨s0,κ0,hs,rfl,r0⟩
 rintro n a w ⟨s,κ,hI,rfl,hr⟩
 refine wpIn_mono (round s hI κ a w hr) fun e a' w'=>?_
 rintro⟨δ',κ',h1,h2⟩
 cases e with
 |normal=>
  obtain⟨s',hI',hm,hw'⟩:=h1
  obtain⟨κ2,r2⟩:=hw' κ' a' w' h2
  exact⟨μ s',hm,s',κ2,hI',rfl,r2⟩
 |_=>exact⟨δ',κ',h1,h2⟩
def noDefer (o:Oper):Bool:=match o.op with|.defer _=>false|_=>true
def Oper.wpF (P:Program) (o:Oper) (F:Fence) (a:Act) (w:World) (K:Act→World→Prop) (Q:Exit→Act→World→Prop):Prop:=o.uponIn F 0 P a K Q ((execOp a.eval o).run P w)
theorem wpl_plain {ro:Option Nat} {ops:Array Oper} {Q:Exit→Act→World→Prop} {a:Act} {w:World} {rest:List Oper} {o:Oper} (hg:o.guard=none) (hd:noDefer o=true)
  (h:∀K:Act→World→Prop,(∀a w,wpListIn (Fw ro) 0 P ops Q rest a w→K a w)→Oper.wpF P o (Fw ro) a w K Q):wpListIn (Fw ro) 0 P ops Q (o::rest) a w:=by
 refine wpListIn_plain hg fun K hK=>⟨fun _ _=>trivial,?_⟩
 have:=h K hK
 unfold Oper.wpF at this
 rw[Oper.semAt_eq _ _ _ (by intro c e;simp [noDefer,e] at hd)]
 exact this
inductive Md where
 |plain
 |quiet
 |held
def Held (δ:DS) (κ:Nat→Option Nat) (w w':World):Prop:=∀b,b<w.heap.size→(∀i,δ.lr i→κ i≠some b)→w'.heap[b]? =w.heap[b]?
theorem Held.of_below {δ:DS} {κ:Nat→Option Nat} {w w':World} (h:Below w.heap.size w w'):Held δ κ w w':=fun b hb _=>h.block b hb
theorem Held.refl (δ:DS) (κ:Nat→Option Nat) (w:World):Held δ κ w w:=fun _ _ _=>rfl
theorem Held.cell {δ:DS} {κ:Nat→Option Nat} {w w':World} (h:Held δ κ w w') {ad:Addr} (hb:ad.block<w.heap.size) (hn:∀i,δ.lr i→κ i≠some ad.block):w'.cell? ad=w.cell? ad:=World.cell?_of_block (w:=w) (h ad.block hb hn)
def wpHeld (P:Program) (ops:Array Oper) (C:World→Prop) (Q:Act→Prop):List Oper→Act→Prop
 |[],a=>Q a
 |o::rest,a=>∃v,YieldsIf P ops C o v a∧wpHeld P ops C Q rest (a.put o.dst v)
def AOps (q:Md) (P:Program) (g:Ghost) (ops:Array Oper) (l:List Oper) (Q:Exit→DS→Prop) (δ:DS):Prop:=∀κ a w,Rel g δ κ a w→
 match q with
 |.quiet=>wpQuiet P ops (fun w'=>Below w.heap.size w w') (fun a'=>∀w',Below w.heap.size w w'→lift g Q .normal a' w') l a
 |.held=>wpHeld P ops (Held δ κ w) (fun a'=>∃δ',Q .normal δ'∧δ'.objs=δ.objs∧Rel g δ' κ a' w) l a
 |.plain=>wpListIn (Fw g.ro) 0 P ops (lift g Q) l a w
theorem AW.region {id:Nat} {l:List Oper} {Q:Exit→DS→Prop} (h:AOps .plain P g l.toArray l Q δ):AW P g (.region id l.toArray false) Q δ:=fun κ a w r=>wpIn_region_lit (h κ a w r)
def quietB (o:Oper):Bool:=match o.op with
 |.alloc _|.box _ _|.buildSlice ..|.store ..|.makeMap ..|.makeSlice ..|.mapUpdate ..|.mapEntry ..|.entryStore ..|.insert ..=>false
 |.call c=>(match c.callee with|.builtin .append|.builtin .copy=>false|_=>true)
 |_=>true
theorem AW.regionQ {id:Nat} {l:List Oper} {Q:Exit→DS→Prop} (_hl:l.all quietB=true) (hm:P.follows .mixedOrders=true) (hB:Region.lexB .any l.toArray=true) (hro:g.ro=none) (h:AOps .quiet P g l.toArray l Q δ):AW P g (.region id l.toArray true) Q δ:=by
 intro κ a w r
 have h1:=h κ a w r
 rw[hro]
 refine wpIn_wide.2 ?_
 refine wp_region_quiet (C:=fun w'=>Below w.heap.size w w') hm hB (Below.drew (Below.refl _ _)) ?_
 simpa using h1
theorem AOps.nil {q:Md} {ops:Array Oper} {Q:Exit→DS→Prop} (h:Q .normal δ):AOps q P g ops [] Q δ:=fun κ _ _ r=>by
 cases q with
 |quiet=>exact fun w' hw'=>⟨δ,κ,h,r.ext hw'⟩
 |held=>exact⟨δ,h,rfl,r⟩
 |plain=>exact wpListIn_nil ⟨δ,κ,h,r⟩
def okD (n:Nat) (d:Option Nat):Bool:=match d with|some x=>Nat.blt x n && Nat.blt x HS|none=>true
theorem okD_spec {n:Nat} {d:Option Nat} (h:okD n d=true):∀x,d=some x→x<n∧x<HS:=by
 rintro x rfl
 simp only[okD,Bool.and_eq_true] at h
 exact⟨by simpa using h.1,by simpa using h.2⟩
theorem putd_objs (δ:DS) (d:Option Nat) (v:AV):(δ.putd d v).objs=δ.objs:=by cases d<;>rfl
theorem putd_lr (δ:DS) (d:Option Nat) (v:AV):(δ.putd d v).lr=δ.lr:=by cases d<;>rfl
theorem AOps.val {q:Md} {ops:Array Oper} {o:Oper} {rest:List Oper} {Q:Exit→DS→Prop} (v:AV) (hg:o.guard=none) (hnd:noDefer o=true) (hd:okD δ.n o.dst=true)
  (h:∀κ a w,Rel g δ κ a w→∃u,(∀w',Held δ κ w w'→(execOp a.eval o).run P w'=.ok (.value u) w')∧RA (δ.cx g κ) w u v) (hK:AOps q P g ops rest Q (δ.putd o.dst v)):AOps q P g ops (o::rest) Q δ:=by
 intro κ a w r
 obtain⟨u,h1,h2⟩:=h κ a w r
 have hK1:=hK κ _ _ (r.putd (okD_spec hd) h2)
 cases q with
 |quiet=>
  show wpQuiet P ops _ _ (o::rest) a
  unfold wpQuiet
  rw[if_pos (by simp [Region.wanted,hg])]
  refine⟨u,fun w' hw'=>?_,hK1⟩
  unfold Oper.quietAt
  rw[h1 w' (Held.of_below hw')]
  exact⟨rfl,rfl⟩
 |held=>
  show wpHeld P ops _ _ (o::rest) a
  refine⟨u,.inl ⟨by simp [Region.wanted,hg],fun w' hw'=>h1 w' hw'⟩,?_⟩
  ·have hH:Held (δ.putd o.dst v) κ w=Held δ κ w:=by unfold Held;rw[putd_lr]
   simp only[hH,putd_objs] at hK1
   exact hK1
 |plain=>
  show wpListIn _ _ P ops _ (o::rest) a w
  refine wpl_plain hg hnd fun K hK'=>?_
  unfold Oper.wpF
  rw[h1 w (Held.refl _ _ _),Oper.uponIn_value]
  exact hK' _ _ hK1
theorem AOps.valB {q:Md} {ops:Array Oper} {o:Oper} {rest:List Oper} {Q:Exit→DS→Prop} (v:AV) (hq:q≠ .held) (hg:o.guard=none) (hnd:noDefer o=true) (hd:okD δ.n o.dst=true)
  (h:∀κ a w,Rel g δ κ a w→∃u,(∀w',Below w.heap.size w w'→(execOp a.eval o).run P w'=.ok (.value u) w')∧RA (δ.cx g κ) w u v) (hK:AOps q P g ops rest Q (δ.putd o.dst v)):AOps q P g ops (o::rest) Q δ:=by
 intro κ a w r
 obtain⟨u,h1,h2⟩:=h κ a w r
 have hK1:=hK κ _ _ (r.putd (okD_spec hd) h2)
 cases q with
 |quiet=>
  show wpQuiet P ops _ _ (o::rest) a
  unfold wpQuiet
  rw[if_pos (by simp [Region.wanted,hg])]
  refine⟨u,fun w' hw'=>?_,hK1⟩
  unfold Oper.quietAt
  rw[h1 w' hw']
  exact⟨rfl,rfl⟩
 |held=>exact absurd rfl hq
 |plain=>
  show wpListIn _ _ P ops _ (o::rest) a w
  refine wpl_plain hg hnd fun K hK'=>?_
  unfold Oper.wpF
  rw[h1 w (Below.refl _ _),Oper.uponIn_value]
  exact hK' _ _ hK1
def Eff (P:Program) (g:Ghost) (o:Oper) (δ δ':DS):Prop:=∀κ a w,Rel g δ κ a w→
 (∃x v w' κ',(execOp a.eval o).run P w=.ok x w'∧(x=.value v∨(x=.skip∧v=undef))∧Rel g δ' κ' (a.put o.dst v) w')∨
 (∃f vals,(execOp a.eval o).run P w=.ok (.enter f vals) w∧Calls P f vals w fun e w'=>∃v κ',e=.returned v∧Rel g δ' κ' (a.put o.dst v) w')
theorem AOps.eff {ops:Array Oper} {o:Oper} {rest:List Oper} {Q:Exit→DS→Prop} {δ':DS} (hg:o.guard=none) (hnd:noDefer o=true) (h:Eff P g o δ δ') (hK:AOps .plain P g ops rest Q δ'):AOps .plain P g ops (o::rest) Q δ:=by
 intro κ a w r
 show wpListIn _ _ P ops _ (o::rest) a w
 refine wpl_plain hg hnd fun K hK'=>?_
 unfold Oper.wpF
 rcases h κ a w r with ⟨x,v,w',κ',h1,h2,h3⟩|⟨f,vals,h1,h2⟩
 ·rw[h1]
  rcases h2 with rfl|⟨rfl,rfl⟩
  ·rw[Oper.uponIn_value];exact hK' _ _ (hK _ _ _ h3)
  ·rw[Oper.uponIn_skip];exact hK' _ _ (hK _ _ _ h3)
 ·rw[h1,Oper.uponIn_enter]
  refine⟨fun h=>by simp at h,(callsIn_wide.2 h2).mono ?_⟩
  rintro e w' ⟨v,κ',rfl,h3⟩
  exact hK' _ _ (hK _ _ _ h3)
end Go.Ab
/- The operations' laws over abstract states,one by one. -/
namespace Go.Ab
open Go Go.RowKit
variable {q:Md} {P:Program} {g:Ghost} {δ:DS} {κ:Nat→Option Nat} {a:Act} {w:World}
variable {ops:Array Oper} {rest:List Oper} {Q:Exit→DS→Prop} {dst:Option Nat} {ty:TypeId} {pos:String} {af:Array Edge}
abbrev litI (n:Int):AV:=.pv (.lit (.int .i64 n))
abbrev litB (b:Bool):AV:=.pv (.lit (.bool b))
theorem AOps.valw {op:Op} (v:AV) (hd:okD δ.n dst=true)
  (h:∀κ a w,Rel g δ κ a w→∃u,(∀w',Held δ κ w w'→(execOp a.eval ⟨dst,op,ty,pos,af,none⟩).run P w'=.ok (.value u) w')∧RA (δ.cx g κ) w u v) (hK:AOps q P g ops rest Q (δ.putd dst v)) (hnd:noDefer ⟨dst,op,ty,pos,af,none⟩=true:=by rfl):
  AOps q P g ops (⟨dst,op,ty,pos,af,none⟩::rest) Q δ:=AOps.val v rfl hnd hd h hK
theorem AOps.move {x:Operand} {v:AV} (hx:δ.ev x=v) (ho:okT x=true) (hd:okD δ.n dst=true) (hK:AOps q P g ops rest Q (δ.putd dst v)):AOps q P g ops (⟨dst,.move x,ty,pos,af,none⟩::rest) Q δ:=
 AOps.valw v hd (fun κ a w r=>⟨a.eval x,fun _ _=>rfl,hx▸r.evc x (okT_spec ho)⟩) hK
theorem AOps.assign {x:Operand} {v:AV} (hx:δ.ev x=v) (ho:okT x=true) (hd:okD δ.n dst=true) (hK:AOps q P g ops rest Q (δ.putd dst v)):AOps q P g ops (⟨dst,.assign x,ty,pos,af,none⟩::rest) Q δ:=
 AOps.valw v hd (fun κ a w r=>⟨a.eval x,fun _ _=>rfl,hx▸r.evc x (okT_spec ho)⟩) hK
theorem Rel.lit (r:Rel g δ κ a w) {x:Operand} {v:Value} (hx:δ.ev x=.pv (.lit v)) (ho:okT x=true):a.eval x=v:=(hx▸r.evc x (okT_spec ho)).lit
theorem AOps.bin {op:BinOp} {x y:Operand} {t t':TypeId} {u v c:Value} (hx:δ.ev x=.pv (.lit u)) (hy:δ.ev y=.pv (.lit v)) (ho:okT x=true) (ho':okT y=true)
  (hr:∀w,(do eqGuard op t x y u v;Go.binOp op t u v:Sem Value).run P w=.ok c w) (hd:okD δ.n dst=true) (hK:AOps q P g ops rest Q (δ.putd dst (.pv (.lit c)))):
  AOps q P g ops (⟨dst,.binOp op t x y t',ty,pos,af,none⟩::rest) Q δ:=
 AOps.valw _ hd (fun κ a w r=>⟨c,fun w' _=>by
  have h1:=r.lit hx ho
  have h2:=r.lit hy ho'
  have:=hr w'
  simp only[execOp,h1,h2]
  simp only[Sem.run_bind,this,Result.andThen_ok] at*
  first|rfl|simp [this],.pv (.lit c)⟩) hK
theorem run_int (op:BinOp) (t:TypeId) (x y:Operand) (k:IntKind) (m n:Int) (c:Value) (hs:op≠ .shl∧op≠ .shr)
  (h:(match op with|.add|.sub|.mul=>Op.intArith op k m n|.quo|.rem=>Op.intDiv op k m n|.and|.or|.xor|.andNot=>Op.intBits op k m n|_=>Op.intCmp op m n:Sem Value)=.pure c) (w:World):
  (do eqGuard op t x y (.int k m) (.int k n);Go.binOp op t (.int k m) (.int k n):Sem Value).run P w=.ok c w:=by
 have h1:(eqGuard op t x y (.int k m) (.int k n)).run P w=.ok () w:=by
  unfold eqGuard
  cases op<;>simp [Sem.run,pure,Sem.bind,bind]
 have h2:Go.binOp op t (.int k m) (.int k n)=.pure c:=by
  rw[← h]
  cases op<;>first|exact absurd rfl hs.1|exact absurd rfl hs.2|simp [Go.binOp]
 simp only[Sem.run_bind,h1,Result.andThen_ok,h2]
 rfl
theorem beq_dec (m n:Int):(m==n)=decide (m=n):=by by_cases h:m=n<;>simp [h]
theorem bne_dec (m n:Int):(m !=n)=decide (¬m=n):=by by_cases h:m=n<;>simp [h]
section ints
variable {x y:Operand} {t t':TypeId} {m n:Int} (hx:δ.ev x=litI m) (hy:δ.ev y=litI n) (ho:okT x=true) (ho':okT y=true) (hd:okD δ.n dst=true)
include hx hy ho ho' hd
theorem AOps.addw (hK:AOps q P g ops rest Q (δ.putd dst (litI (IntKind.i64.wrap (m+n))))):AOps q P g ops (⟨dst,.binOp .add t x y t',ty,pos,af,none⟩::rest) Q δ:=
 AOps.bin hx hy ho ho' (run_int _ _ _ _ _ _ _ _ (by simp) rfl) hd hK
theorem AOps.subw (hK:AOps q P g ops rest Q (δ.putd dst (litI (IntKind.i64.wrap (m - n))))):AOps q P g ops (⟨dst,.binOp .sub t x y t',ty,pos,af,none⟩::rest) Q δ:=
 AOps.bin hx hy ho ho' (run_int _ _ _ _ _ _ _ _ (by simp) rfl) hd hK
theorem AOps.mulw (hK:AOps q P g ops rest Q (δ.putd dst (litI (IntKind.i64.wrap (m*n))))):AOps q P g ops (⟨dst,.binOp .mul t x y t',ty,pos,af,none⟩::rest) Q δ:=
 AOps.bin hx hy ho ho' (run_int _ _ _ _ _ _ _ _ (by simp) rfl) hd hK
theorem AOps.add (hb: -9223372036854775808≤m+n∧m+n≤9223372036854775807) (hK:AOps q P g ops rest Q (δ.putd dst (litI (m+n)))):AOps q P g ops (⟨dst,.binOp .add t x y t',ty,pos,af,none⟩::rest) Q δ:=
 AOps.addw hx hy ho ho' hd (by rw[IntWalk.i64_in _ hb];exact hK)
theorem AOps.sub (hb: -9223372036854775808≤m - n∧m - n≤9223372036854775807) (hK:AOps q P g ops rest Q (δ.putd dst (litI (m - n)))):AOps q P g ops (⟨dst,.binOp .sub t x y t',ty,pos,af,none⟩::rest) Q δ:=
 AOps.subw hx hy ho ho' hd (by rw[IntWalk.i64_in _ hb];exact hK)
theorem AOps.mul (hb: -9223372036854775808≤m*n∧m*n≤9223372036854775807) (hK:AOps q P g ops rest Q (δ.putd dst (litI (m*n)))):AOps q P g ops (⟨dst,.binOp .mul t x y t',ty,pos,af,none⟩::rest) Q δ:=
 AOps.mulw hx hy ho ho' hd (by rw[IntWalk.i64_in _ hb];exact hK)
theorem AOps.rem (h0:n≠0) (hK:AOps q P g ops rest Q (δ.putd dst (litI (m.tmod n)))):AOps q P g ops (⟨dst,.binOp .rem t x y t',ty,pos,af,none⟩::rest) Q δ:=
 AOps.bin hx hy ho ho' (run_int _ _ _ _ _ _ _ _ (by simp) (by simp [Op.intDiv,h0];rfl)) hd hK
theorem AOps.quo (h0:n≠0) (hK:AOps q P g ops rest Q (δ.putd dst (litI (IntKind.i64.wrap (m.tdiv n))))):AOps q P g ops (⟨dst,.binOp .quo t x y t',ty,pos,af,none⟩::rest) Q δ:=
 AOps.bin hx hy ho ho' (run_int _ _ _ _ _ _ _ _ (by simp) (by simp [Op.intDiv,h0];rfl)) hd hK
theorem AOps.lss (hK:AOps q P g ops rest Q (δ.putd dst (litB (decide (m<n))))):AOps q P g ops (⟨dst,.binOp .lss t x y t',ty,pos,af,none⟩::rest) Q δ:=
 AOps.bin hx hy ho ho' (run_int _ _ _ _ _ _ _ _ (by simp) rfl) hd hK
theorem AOps.leq (hK:AOps q P g ops rest Q (δ.putd dst (litB (decide (m≤n))))):AOps q P g ops (⟨dst,.binOp .leq t x y t',ty,pos,af,none⟩::rest) Q δ:=
 AOps.bin hx hy ho ho' (run_int _ _ _ _ _ _ _ _ (by simp) rfl) hd hK
theorem AOps.gtr (hK:AOps q P g ops rest Q (δ.putd dst (litB (decide (n<m))))):AOps q P g ops (⟨dst,.binOp .gtr t x y t',ty,pos,af,none⟩::rest) Q δ:=
 AOps.bin hx hy ho ho' (run_int _ _ _ _ _ _ _ _ (by simp) rfl) hd hK
theorem AOps.geq (hK:AOps q P g ops rest Q (δ.putd dst (litB (decide (n≤m))))):AOps q P g ops (⟨dst,.binOp .geq t x y t',ty,pos,af,none⟩::rest) Q δ:=
 AOps.bin hx hy ho ho' (run_int _ _ _ _ _ _ _ _ (by simp) rfl) hd hK
theorem AOps.eql (hK:AOps q P g ops rest Q (δ.putd dst (litB (decide (m=n))))):AOps q P g ops (⟨dst,.binOp .eql t x y t',ty,pos,af,none⟩::rest) Q δ:=
 AOps.bin hx hy ho ho' (run_int _ _ _ _ _ _ _ _ (by simp) (by simp only[Op.intCmp,beq_dec];rfl)) hd hK
theorem AOps.neq (hK:AOps q P g ops rest Q (δ.putd dst (litB (decide (¬m=n))))):AOps q P g ops (⟨dst,.binOp .neq t x y t',ty,pos,af,none⟩::rest) Q δ:=
 AOps.bin hx hy ho ho' (run_int _ _ _ _ _ _ _ _ (by simp) (by simp only[Op.intCmp,bne_dec];rfl)) hd hK
end ints
end Go.Ab
/- The operations' laws,more:lengths,addresses,loads,boxes,stores,aggregates,guards. -/
namespace Go.Ab
open Go Go.RowKit
variable {q:Md} {P:Program} {g:Ghost} {δ:DS} {κ:Nat→Option Nat} {a:Act} {w:World}
variable {ops:Array Oper} {rest:List Oper} {Q:Exit→DS→Prop} {dst:Option Nat} {ty:TypeId} {pos:String} {af:Array Edge}
theorem RA.pv_inv {C:Cx} {w:World} {v:Value} {p:PV} (h:RA C w v (.pv p)):RP C.N w v p:=by cases h with|pv h=>exact h
theorem RA.own_inv {C:Cx} {w:World} {v:Value} {i e k els} (h:RA C w v (.own i e k els)):OwnV C w v i e k els:=by cases h with|own h=>exact h
theorem Rel.ra (r:Rel g δ κ a w) {x:Operand} {v:AV} (hx:δ.ev x=v) (ho:okT x=true):RA (δ.cx g κ) w (a.eval x) v:=hx▸r.evc x (okT_spec ho)
theorem run_len_slice {t e:TypeId} (ht:P.underlying t=some (.slice e)) (x:Operand) (ρ:Operand→Value) (a0:Option Addr) (n c:Nat) (hx:ρ x=.slice a0 n c) (w:World):
  (execOp ρ ⟨dst,.call {callee:=.builtin .len,args:= #[x],argTypes:= #[t]},ty,pos,af,none⟩).run P w=.ok (.value (.int .i64 n)) w:=by
 simp [execOp,resolve,invoke,builtin,Builtin.len_,run_underlying ht,hx,goInt]
theorem RP.slice_inv {N:Nat→Prop} {w:World} {v:Value} {k:Nat} {els:List (List PV)} (h:RP N w v (.slice k els)):∃a c,v=.slice a els.length c∧els.length≤140737488355328:=by
 cases h with|slice b off vs hl hcap hb=>subst hl;exact⟨_,_,rfl,hb⟩
theorem OwnV.inv {C:Cx} {w:World} {v:Value} {i e k els} (h:OwnV C w v i e k els):∃a c,v=.slice a els.length c:=by
 obtain⟨_,_,_,_,xs,ho,_⟩:=h
 rcases ho.2 with ⟨rfl,h0⟩|⟨b,cap,cur,rfl,_⟩
 ·exact⟨none,0,by rw[h0]⟩
 ·exact⟨_,_,rfl⟩
theorem AOps.len {x:Operand} {t e:TypeId} {k:Nat} {els:List (List PV)} (hx:δ.ev x=.pv (.slice k els)) (ht:P.underlying t=some (.slice e)) (ho:okT x=true) (hd:okD δ.n dst=true)
  (hK:AOps q P g ops rest Q (δ.putd dst (litI (els.length:Nat)))):AOps q P g ops (⟨dst,.call {callee:=.builtin .len,args:= #[x],argTypes:= #[t]},ty,pos,af,none⟩::rest) Q δ:=
 AOps.valw _ hd (fun κ a w r=>by
  obtain⟨a0,c,hv,_⟩:=(r.ra hx ho).pv_inv.slice_inv
  exact⟨_,fun w' _=>run_len_slice ht x a.eval a0 _ c hv w',.pv (.lit _)⟩) hK
theorem AOps.len_map {α:Type} {x:Operand} {t e:TypeId} {k:Nat} {f:α→List PV} {l:List α} (hx:δ.ev x=.pv (.slice k (l.map f))) (ht:P.underlying t=some (.slice e)) (ho:okT x=true) (hd:okD δ.n dst=true)
  (hK:AOps q P g ops rest Q (δ.putd dst (litI (l.length:Nat)))):AOps q P g ops (⟨dst,.call {callee:=.builtin .len,args:= #[x],argTypes:= #[t]},ty,pos,af,none⟩::rest) Q δ:=
 AOps.len hx ht ho hd (by rw[List.length_map];exact hK)
theorem AOps.len_own {x:Operand} {t e e':TypeId} {i k:Nat} {els:List (List PV)} (hx:δ.ev x=.own i e' k els) (ht:P.underlying t=some (.slice e)) (ho:okT x=true) (hd:okD δ.n dst=true)
  (hK:AOps q P g ops rest Q (δ.putd dst (litI (els.length:Nat)))):AOps q P g ops (⟨dst,.call {callee:=.builtin .len,args:= #[x],argTypes:= #[t]},ty,pos,af,none⟩::rest) Q δ:=
 AOps.valw _ hd (fun κ a w r=>by
  obtain⟨a0,c,hv⟩:=(r.ra hx ho).own_inv.inv
  exact⟨_,fun w' _=>run_len_slice ht x a.eval a0 _ c hv w',.pv (.lit _)⟩) hK
theorem AOps.len_own_map {α:Type} {x:Operand} {t e e':TypeId} {i k:Nat} {f:α→List PV} {l:List α} (hx:δ.ev x=.own i e' k (l.map f)) (ht:P.underlying t=some (.slice e)) (ho:okT x=true) (hd:okD δ.n dst=true)
  (hK:AOps q P g ops rest Q (δ.putd dst (litI (l.length:Nat)))):AOps q P g ops (⟨dst,.call {callee:=.builtin .len,args:= #[x],argTypes:= #[t]},ty,pos,af,none⟩::rest) Q δ:=
 AOps.len_own hx ht ho hd (by rw[List.length_map];exact hK)
theorem AOps.fact {l:List Oper} {φ:Prop} (h:∀κ a w,Rel g δ κ a w→φ) (hK:φ→AOps q P g ops l Q δ):AOps q P g ops l Q δ:=fun κ a w r=>hK (h κ a w r) κ a w r
theorem AW.fact {c:Code} {φ:Prop} (h:∀κ a w,Rel g δ κ a w→φ) (hK:φ→AW P g c Q δ):AW P g c Q δ:=fun κ a w r=>hK (h κ a w r) κ a w r
theorem Rel.len (r:Rel g δ κ a w) {j k:Nat} {els:List (List PV)} (h:δ.get j=.pv (.slice k els)):els.length≤140737488355328:=by
 have:=r.env j
 rw[h] at this
 obtain⟨_,_,_,h⟩:=this.pv_inv.slice_inv
 exact h
theorem AW.len {c:Code} (j:Nat) {k:Nat} {els:List (List PV)} (h:δ.get j=.pv (.slice k els)) (hK:els.length≤140737488355328→AW P g c Q δ):AW P g c Q δ:=AW.fact (fun _ _ _ r=>r.len h) hK
theorem AW.len_map {α:Type} {c:Code} (j:Nat) {k:Nat} {f:α→List PV} {l:List α} (h:δ.get j=.pv (.slice k (l.map f))) (hK:l.length≤140737488355328→AW P g c Q δ):AW P g c Q δ:=
 AW.fact (fun _ _ _ r=>by have:=r.len h;simpa using this) hK
theorem run_indexAddr_slice {t e:TypeId} {k:Nat} (ht:P.underlying t=some (.slice e)) (hk:(P.info? e).map (·.size)=some k) {x y:Operand} {ρ:Operand→Value} {b off len c n:Nat} {ik:IntKind}
  (hx:ρ x=.slice (some ⟨b,off,none⟩) len c) (hy:ρ y=.int ik (n:Int)) (hn:n<len) (w:World):
  (execOp ρ ⟨dst,.indexAddr t x y,ty,pos,af,none⟩).run P w=.ok (.value (.pointer (some ⟨b,off+n*k,none⟩))) w:=by
 obtain⟨i0,hi0,hk0⟩:∃i0,P.info? e=some i0∧i0.size=k:=by
  cases h:P.info? e with
  |none=>rw[h] at hk;simp at hk
  |some i0=>rw[h] at hk;exact⟨i0,rfl,by simpa using hk⟩
 have h1:(0:Int)≤n∧(n:Int)<len:=by omega
 have hadd:(⟨b,off,none⟩:Addr).add (n*k)=⟨b,off+n*k,none⟩:=by unfold Addr.add;split<;>simp_all
 simp [execOp,Instr.indexAt,asIntOf,run_underlying ht,hx,hy,h1,sizeOf,typeInfo,hi0,hk0,hadd]
 intro h;omega
theorem AOps.index_pv {x y:Operand} {t e:TypeId} {k n:Nat} {ik:IntKind} {els:List (List PV)} {cs:List PV} (hx:δ.ev x=.pv (.slice k els)) (hy:δ.ev y=.pv (.lit (.int ik (n:Int)))) (hn:els[n]? =some cs)
  (ht:P.underlying t=some (.slice e)) (hk:(P.info? e).map (·.size)=some k) (ho:okT x=true) (ho':okT y=true) (hd:okD δ.n dst=true)
  (hK:AOps q P g ops rest Q (δ.putd dst (.rptr cs))):AOps q P g ops (⟨dst,.indexAddr t x y,ty,pos,af,none⟩::rest) Q δ:=
 AOps.valw _ hd (fun κ a w r=>by
  have h1:=(r.ra hx ho).pv_inv
  generalize hv:a.eval x=v at h1
  cases h1 with
  |slice b off vs hl hcap hb ha hkk hc hr=>
   have hlt:n<els.length:=(List.getElem?_eq_some_iff.1 hn).1
   obtain⟨h1,h2,h3⟩:=ha (by intro e;subst e;simp at hn)
   subst h1
   refine⟨_,fun w' _=>run_indexAddr_slice ht hk hv (r.lit hy ho') (by omega) w',.rptr b (off+n*k) (fun j=>vs n j) h2 h3 (fun j p hp=>?_) (fun j p hp=>?_)⟩
   ·exact hc n j p (by simp [cellAt,hn,hp])
   ·exact hr n j p (by simp [cellAt,hn,hp])) hK
theorem AOps.index_map {α:Type} {x y:Operand} {t e:TypeId} {k n:Nat} {ik:IntKind} {f:α→List PV} {l:List α} (hx:δ.ev x=.pv (.slice k (l.map f))) (hy:δ.ev y=.pv (.lit (.int ik (n:Int)))) (hn:n<l.length)
  (ht:P.underlying t=some (.slice e)) (hk:(P.info? e).map (·.size)=some k) (ho:okT x=true) (ho':okT y=true) (hd:okD δ.n dst=true)
  (hK:AOps q P g ops rest Q (δ.putd dst (.rptr (f l[n])))):AOps q P g ops (⟨dst,.indexAddr t x y,ty,pos,af,none⟩::rest) Q δ:=
 AOps.index_pv hx hy (by rw[List.getElem?_map,List.getElem?_eq_getElem hn];rfl) ht hk ho ho' hd hK
theorem AOps.index_own {x y:Operand} {t e e':TypeId} {i k n:Nat} {ik:IntKind} {els:List (List PV)} (hx:δ.ev x=.own i e' k els) (hy:δ.ev y=.pv (.lit (.int ik (n:Int)))) (hn:n<els.length)
  (ht:P.underlying t=some (.slice e)) (hk:(P.info? e).map (·.size)=some k) (ho:okT x=true) (ho':okT y=true) (hd:okD δ.n dst=true)
  (hK:AOps q P g ops rest Q (δ.putd dst (.optr i e' k els n))):AOps q P g ops (⟨dst,.indexAddr t x y,ty,pos,af,none⟩::rest) Q δ:=
 AOps.valw _ hd (fun κ a w r=>by
  have h1:=(r.ra hx ho).own_inv
  have h0:=h1
  obtain⟨_,_,_,_,xs,hown,_⟩:=h1
  rcases hown.2 with ⟨_,h⟩|⟨b,cap,cur,hv,_⟩
  ·omega
  ·refine⟨.pointer (some ⟨b,n*k,none⟩),fun w' _=>?_,?_⟩
   ·have:=run_indexAddr_slice (dst:=dst) (ty:=ty) (pos:=pos) (af:=af) ht hk hv (r.lit hy ho') hn w';rw[Nat.zero_add] at this;exact this
   exact .optr hn (hv▸h0)) hK
def scalarT (P:Program) (t:TypeId):Bool:=match P.underlying t with|some (.struct _)|some (.array _ _)|none=>false|_=>true
def aggT (P:Program) (t:TypeId) (n:Nat):Bool:=(match P.underlying t with|some (.struct _)|some (.array _ _)=>true|_=>false) && ((P.info? t).map (·.size)==some n)
theorem run_isAgg_scalar {t:TypeId} (h:scalarT P t=true) (w:World):(isAgg t).run P w=.ok false w:=by
 unfold scalarT at h
 cases hu:P.underlying t with
 |none=>rw[hu] at h;simp at h
 |some d=>
  rw[hu] at h
  simp only[isAgg,Sem.run_bind,run_underlying hu,Result.andThen_ok]
  cases d<;>first|rfl|(simp at h)
theorem run_isAgg_agg {t:TypeId} {n:Nat} (h:aggT P t n=true) (w:World):(isAgg t).run P w=.ok true w∧(sizeOf t).run P w=.ok n w:=by
 unfold aggT at h
 simp only[Bool.and_eq_true,beq_iff_eq] at h
 obtain⟨h1,h2⟩:=h
 constructor
 ·cases hu:P.underlying t with
  |none=>rw[hu] at h1;simp at h1
  |some d=>
   rw[hu] at h1
   simp only[isAgg,Sem.run_bind,run_underlying hu,Result.andThen_ok]
   cases d<;>first|rfl|(simp at h1)
 ·cases hi:P.info? t with
  |none=>rw[hi] at h2;simp at h2
  |some i=>rw[hi] at h2;simp [sizeOf,typeInfo,hi];simpa using h2
theorem run_load_scalar {t:TypeId} (h:scalarT P t=true) {x:Operand} {ρ:Operand→Value} {ad:Addr} {v:Value} {w:World} (hx:ρ x=.pointer (some ad)) (hc:w.cell? ad=some v):
  (execOp ρ ⟨dst,.load t x,ty,pos,af,none⟩).run P w=.ok (.value v) w:=by
 simp [execOp,Instr.loadAt,Instr.sureAddr,loadVar,run_isAgg_scalar h,hx,load,Sem.run,hc]
theorem run_load_agg {t:TypeId} {n:Nat} (h:aggT P t n=true) {x:Operand} {ρ:Operand→Value} {ad:Addr} {f:Nat→Value} {w:World} (hx:ρ x=.pointer (some ad)) (hc:∀j,j<n→w.cell? (ad.add j)=some (f j)):
  (execOp ρ ⟨dst,.load t x,ty,pos,af,none⟩).run P w=.ok (.value (.agg ((List.range n).map f).toArray)) w:=by
 have h1:=run_loadCells (P:=P) (w:=w) ad n f hc
 simp [execOp,Instr.loadAt,Instr.sureAddr,loadVar,run_isAgg_agg h,hx,h1]
theorem addr_add (b off j:Nat):(⟨b,off,none⟩:Addr).add j=⟨b,off+j,none⟩:=by unfold Addr.add;split<;>simp_all
theorem AOps.load_r1 {x:Operand} {t:TypeId} {p:PV} (hx:δ.ev x=.rptr [p]) (ht:scalarT P t=true) (ho:okT x=true) (hd:okD δ.n dst=true)
  (hK:AOps q P g ops rest Q (δ.putd dst (.pv p))):AOps q P g ops (⟨dst,.load t x,ty,pos,af,none⟩::rest) Q δ:=
 AOps.valw _ hd (fun κ a w r=>by
  have h1:=r.ra hx ho
  generalize hv:a.eval x=v at h1
  cases h1 with
  |rptr b off vs hN hb hc hr=>
   have h2:=(hc 0 p rfl).1
   rw[Nat.add_zero] at h2
   exact⟨_,fun w' hw'=>run_load_scalar ht hv ((hw'.cell (ad:=⟨b,off,none⟩) hb (fun i hi=>hN.2 i (DS.lr_live hi))).trans h2),.pv (hr 0 p rfl)⟩) hK
theorem AOps.load_rn {x:Operand} {t:TypeId} {cs:List PV} (hx:δ.ev x=.rptr cs) (ht:aggT P t cs.length=true) (ho:okT x=true) (hd:okD δ.n dst=true)
  (hK:AOps q P g ops rest Q (δ.putd dst (.agg (cs.map .pv)))):AOps q P g ops (⟨dst,.load t x,ty,pos,af,none⟩::rest) Q δ:=
 AOps.valw _ hd (fun κ a w r=>by
  have h1:=r.ra hx ho
  generalize hv:a.eval x=v at h1
  cases h1 with
  |rptr b off vs hN hb hc hr=>
   refine⟨_,fun w' hw'=>run_load_agg ht hv (f:=vs) (fun j hj=>?_),.agg (by simp) (fun j u c h1 h2=>?_)⟩
   ·rw[addr_add];exact(hw'.cell (ad:=⟨b,off+j,none⟩) hb (fun i hi=>hN.2 i (DS.lr_live hi))).trans (hc j _ (List.getElem?_eq_getElem hj)).1
   ·simp only[List.getElem?_toArray,List.getElem?_map,Option.map_eq_some_iff,List.getElem?_range] at h1 h2
    obtain⟨p,hp,rfl⟩:=h2
    obtain⟨j',hj',rfl⟩:=h1
    have:j'=j:=by
     rw[List.getElem?_eq_some_iff] at hj'
     obtain⟨_,h⟩:=hj'
     simpa using h.symm
    subst this
    exact .pv (hr _ p hp)) hK
theorem AOps.load_o1 (hq:q≠ .held) {x:Operand} {t e:TypeId} {i n:Nat} {els:List (List PV)} {p:PV} (hx:δ.ev x=.optr i e 1 els n) (hp:els[n]? =some [p]) (ht:scalarT P t=true) (ho:okT x=true) (hd:okD δ.n dst=true)
  (hK:AOps q P g ops rest Q (δ.putd dst (.pv p))):AOps q P g ops (⟨dst,.load t x,ty,pos,af,none⟩::rest) Q δ:=
 AOps.valB _ hq rfl rfl hd (fun κ a w r=>by
  have h1:=r.ra hx ho
  generalize hv:a.eval x=v at h1
  cases h1 with
  | @optr _ _ _ _ _ b cap hi h=>
   obtain⟨_,_,_,_,xs,hown,_,hxs⟩:=h
   obtain⟨u,h1,h2⟩:=hxs n 0 p (by simp [cellAt,hp])
   have h3:=hown.cellAt (n*1) (by omega)
   have hlt:b<w.heap.size:=(hown.lt b rfl).2
   exact⟨u,fun w' hw'=>run_load_scalar ht hv ((hw'.cell (p:=⟨b,n*1,none⟩) hlt).trans (h3.trans h1)),.pv h2⟩) hK
theorem AOps.load_o1_map (hq:q≠ .held) {α:Type} {x:Operand} {t e:TypeId} {i n:Nat} {f:α→PV} {l:List α} (hx:δ.ev x=.optr i e 1 (l.map fun z=>[f z]) n) (hn:n<l.length) (ht:scalarT P t=true) (ho:okT x=true) (hd:okD δ.n dst=true)
  (hK:AOps q P g ops rest Q (δ.putd dst (.pv (f l[n])))):AOps q P g ops (⟨dst,.load t x,ty,pos,af,none⟩::rest) Q δ:=
 AOps.load_o1 hq hx (by rw[List.getElem?_map,List.getElem?_eq_getElem hn];rfl) ht ho hd hK
theorem AOps.guard {op:Op} {gj:Nat} {want b:Bool} {d:Nat} {o':Oper} (ho:ops[gj]? =some o') (hd:o'.dst=some d) (hd0:Nat.blt d HS=true) (hdn:Nat.blt d δ.n=true) (hb:δ.get d=litB b) (hdd:okD δ.n dst=true)
  (hy:b=want→AOps q P g ops (⟨dst,op,ty,pos,af,none⟩::rest) Q δ) (hn:b=!want→AOps q P g ops rest Q (δ.putd dst (.pv (.lit undef)))):AOps q P g ops (⟨dst,op,ty,pos,af,some (gj,want)⟩::rest) Q δ:=by
 intro κ a w r
 have hlt:d<HS:=by simpa using hd0
 have hln:d<δ.n:=by simpa using hdn
 have hv:a.tmps.getD d undef=.bool b:=by
  have:=r.env d
  rw[hb] at this
  unfold Ghost.val at this
  rw[if_pos hlt] at this
  exact this.lit
 have hv':a.tmps[d]? =some (.bool b):=by
  rw[← r.n] at hln
  rw[Array.getD_eq_getD_getElem?,Array.getElem?_eq_getElem hln] at hv
  rw[Array.getElem?_eq_getElem hln]
  exact congrArg some hv
 have hyi:yielded ops a.tmps gj=some b:=by
  simp [yielded,ho,hd,hv']
 cases q with
 |quiet=>
  by_cases hbw:b=want
  ·have h1:=hy hbw κ a w r
   simp only at h1 ⊢
   unfold wpQuiet at h1 ⊢
   simp only[Region.wanted,if_true] at h1
   rw[if_pos (by simp [Region.wanted,hyi,hbw])]
   exact h1
  ·have h1:=hn (by cases b<;>cases want<;>simp_all) κ _ w (r.putd (v:=undef) (okD_spec hdd) (.pv (.lit _)))
   simp only at h1 ⊢
   unfold wpQuiet
   rw[if_neg (by simp [Region.wanted,hyi];exact hbw)]
   exact h1
 |held=>
  by_cases hbw:b=want
  ·have h1:=hy hbw κ a w r
   simp only at h1 ⊢
   obtain⟨v,h1,h2⟩:=h1
   refine⟨v,.inl ⟨by simp [Region.wanted,hyi,hbw],?_⟩,h2⟩
   rcases h1 with ⟨_,h1⟩|⟨h1,_⟩
   ·exact h1
   ·simp [Region.wanted] at h1
  ·have h1:=hn (by cases b<;>cases want<;>simp_all) κ _ w (r.putd (v:=undef) (okD_spec hdd) (.pv (.lit _)))
   have hH:Held (δ.putd dst (.pv (.lit undef))) κ w=Held δ κ w:=by unfold Held;rw[putd_lr]
   simp only[hH,putd_objs] at h1 ⊢
   exact⟨undef,.inr ⟨by simp [Region.wanted,hyi];exact hbw,rfl⟩,h1⟩
 |plain=>
 by_cases hbw:b=want
 ·have h1:=hy hbw κ a w r
  simp only at h1 ⊢
  unfold wpListIn at h1 ⊢
  simp only[Region.wanted,if_true] at h1
  rw[if_pos (by simp [Region.wanted,hyi,hbw])]
  exact h1
 ·have h1:=hn (by cases b<;>cases want<;>simp_all) κ _ w (r.putd (v:=undef) (okD_spec hdd) (.pv (.lit _)))
  simp only at h1 ⊢
  unfold wpListIn
  rw[if_neg (by simp [Region.wanted,hyi];exact hbw)]
  exact⟨fun _ _=>trivial,h1⟩
theorem AOps.guard_u {op:Op} {gj d:Nat} {want:Bool} {o':Oper} (ho:ops[gj]? =some o') (hd:o'.dst=some d) (hd0:Nat.blt d HS=true) (hdn:Nat.blt d δ.n=true) (hb:δ.get d=.pv (.lit undef)) (hdd:okD δ.n dst=true)
  (hn:AOps q P g ops rest Q (δ.putd dst (.pv (.lit undef)))):AOps q P g ops (⟨dst,op,ty,pos,af,some (gj,want)⟩::rest) Q δ:=by
 intro κ a w r
 have hlt:d<HS:=by simpa using hd0
 have hln:d<δ.n:=by simpa using hdn
 have hv:a.tmps.getD d undef=undef:=by
  have:=r.env d
  rw[hb] at this
  unfold Ghost.val at this
  rw[if_pos hlt] at this
  exact this.lit
 have hyi:yielded ops a.tmps gj=none:=by
  have hv':a.tmps[d]? =some undef:=by
   rw[← r.n] at hln
   rw[Array.getD_eq_getD_getElem?,Array.getElem?_eq_getElem hln] at hv
   rw[Array.getElem?_eq_getElem hln]
   exact congrArg some hv
  simp [yielded,ho,hd,hv',undef]
 have h1:=hn κ _ w (r.putd (v:=undef) (okD_spec hdd) (.pv (.lit _)))
 cases q with
 |quiet=>
  simp only at h1 ⊢
  unfold wpQuiet
  rw[if_neg (by simp [Region.wanted,hyi])]
  exact h1
 |held=>
  have hH:Held (δ.putd dst (.pv (.lit undef))) κ w=Held δ κ w:=by unfold Held;rw[putd_lr]
  simp only[hH,putd_objs] at h1 ⊢
  exact⟨undef,.inr ⟨by simp [Region.wanted,hyi],rfl⟩,h1⟩
 |plain=>
  simp only at h1 ⊢
  unfold wpListIn
  rw[if_neg (by simp [Region.wanted,hyi])]
  exact⟨fun _ _=>trivial,h1⟩
theorem AOps.pick {x y z:Operand} {b:Bool} {v:AV} (hx:δ.ev x=litB b) (ho:okT x=true) (hoy:okT y=true) (hoz:okT z=true) (hy:b=true→δ.ev y=v) (hz:b=false→δ.ev z=v) (hd:okD δ.n dst=true)
  (hK:AOps q P g ops rest Q (δ.putd dst v)):AOps q P g ops (⟨dst,.pick x y z,ty,pos,af,none⟩::rest) Q δ:=
 AOps.valw _ hd (fun κ a w r=>by
  have h1:=r.lit hx ho
  cases b with
  |true=>exact⟨a.eval y,fun w' _=>by simp [execOp,h1,asBool],r.ra (hy rfl) hoy⟩
  |false=>exact⟨a.eval z,fun w' _=>by simp [execOp,h1,asBool],r.ra (hz rfl) hoz⟩) hK
theorem AOps.not {x:Operand} {t:TypeId} {b:Bool} (hx:δ.ev x=litB b) (ho:okT x=true) (hd:okD δ.n dst=true) (hK:AOps q P g ops rest Q (δ.putd dst (litB (!b)))):
  AOps q P g ops (⟨dst,.unOp .not t x,ty,pos,af,none⟩::rest) Q δ:=
 AOps.valw _ hd (fun κ a w r=>⟨.bool !b,fun w' _=>by simp [execOp,r.lit hx ho,Op.unary],.pv (.lit _)⟩) hK
theorem AOps.conv {x:Operand} {s t:TypeId} {ks kt:IntKind} {d:TypeDesc} {m:Int} (hx:δ.ev x=.pv (.lit (.int ks m))) (hs:P.underlying s=some d) (ht:P.underlying t=some (.int kt)) (ho:okT x=true) (hd:okD δ.n dst=true)
  (hK:AOps q P g ops rest Q (δ.putd dst (.pv (.lit (.int kt (kt.wrap m)))))):AOps q P g ops (⟨dst,.convert s t x,ty,pos,af,none⟩::rest) Q δ:=
 AOps.valw _ hd (fun κ a w r=>⟨.int kt (kt.wrap m),fun w' _=>by simp [execOp,r.lit hx ho,convert,run_underlying hs,run_underlying ht,Conv.intToInt],.pv (.lit _)⟩) hK
theorem AOps.extract {x:Operand} {i:Nat} {vs:List AV} {v:AV} (hx:δ.ev x=.tup vs) (hv:vs[i]? =some v) (ho:okT x=true) (hd:okD δ.n dst=true) (hK:AOps q P g ops rest Q (δ.putd dst v)):
  AOps q P g ops (⟨dst,.extract x i,ty,pos,af,none⟩::rest) Q δ:=
 AOps.valw _ hd (fun κ a w r=>by
  have h1:=r.ra hx ho
  generalize hu:a.eval x=u at h1
  cases h1 with
  | @tup us _ hs h=>
   have hlt:i<us.size:=by rw[hs];exact(List.getElem?_eq_some_iff.1 hv).1
   refine⟨us[i],fun w' _=>by simp [execOp,hu,Instr.extract,Array.getElem?_eq_getElem hlt],h i _ _ (Array.getElem?_eq_getElem hlt) hv⟩) hK
theorem AOps.nilCheck_ptr {x:Operand} {i off:Nat} (hx:δ.ev x=.ptr i off) (ho:okT x=true) (hd:okD δ.n dst=true) (hK:AOps q P g ops rest Q (δ.putd dst (.ptr i off))):
  AOps q P g ops (⟨dst,.nilCheck x,ty,pos,af,none⟩::rest) Q δ:=
 AOps.valw _ hd (fun κ a w r=>by
  have h1:=r.ra hx ho
  generalize hu:a.eval x=u at h1
  cases h1 with
  |ptr hl hκ=>exact⟨_,fun w' _=>by simp [execOp,hu],.ptr hl hκ⟩) hK
end Go.Ab
/- Contracts of functions over told values;entering a function,returning from it,calling by contract. -/
namespace Go.Ab
open Go Go.RowKit
variable {P:Program} {g:Ghost} {δ:DS} {κ:Nat→Option Nat} {a:Act} {w:World}
variable {ops:Array Oper} {rest:List Oper} {Q:Exit→DS→Prop} {dst:Option Nat} {ty:TypeId} {pos:String} {af:Array Edge}
def pcx (N:Nat→Prop):Cx:={B:=0,κ:=fun _=>none,N,Lr:=fun _=>False,Lb:=fun _=>False}
structure Fn (P:Program) (f:FuncId) (args:List AV) (r:AV):Prop where
 enters:∀vals w,(callFunc f vals).run P w=.ok (.enter f vals) w
 calls:∀(N:Nat→Prop) (w:World) (vals:Array Value),(∀b,w.heap.size≤b→N b)→vals.size=args.length→
  (∀(j:Nat) (v:Value) (av:AV),vals[j]? =some v→args[j]? =some av→RA (pcx N) w v av)→
  Calls P f vals w fun e w'=>∃v,e=.returned v∧RA (pcx N) w' v r∧Below w.heap.size w w'
theorem RA.of_pcx {N:Nat→Prop} {w:World} {v:Value} {av:AV} (h:RA (pcx N) w v av) (C:Cx) (hN:∀b,b<w.heap.size→N b→C.N b):RA C w v av:=by
 have hp:∀{v:Value} {p:PV},RP N w v p→RP C.N w v p:=fun h=>h.mono (Nat.le_refl _) fun b h1 h2=>⟨hN b h1 h2,rfl⟩
 induction h with
 |any v=>exact .any v
 |pv h=>exact .pv (hp h)
 |own h=>exact h.live.elim
 |ptr hl hκ=>exact hl.elim
 |rptr b off vs hN' hb hc hr=>exact .rptr b off vs (hN b hb hN') hb hc (fun j p h=>hp (hr j p h))
 |optr hi h=>exact h.live.elim
 |agg hs h ih=>exact .agg hs ih
 |tup hs h ih=>exact .tup hs ih
 |clo hs h ht h' ih ih'=>exact .clo hs ih ht ih'
 |mapr hl hκ=>exact hl.elim
 |yld hl hκ=>exact hl.elim
inductive Le (ow:Bool):AV→AV→Prop
 |any (v:AV):Le ow v .any
 |pv (p:PV):Le ow (.pv p) (.pv p)
 |nil (k:Nat):Le ow (.pv (.lit (.slice none 0 0))) (.pv (.slice k []))
 |own (i e k els) (h:ow=true):Le ow (.own i e k els) (.pv (.slice k els))
 |rptr (c:List PV):Le ow (.rptr c) (.rptr c)
 |agg {cs ds:List AV} (hl:cs.length=ds.length) (h:∀(j:Nat) (c d:AV),cs[j]? =some c→ds[j]? =some d→Le ow c d):Le ow (.agg cs) (.agg ds)
 |tup {cs ds:List AV} (hl:cs.length=ds.length) (h:∀(j:Nat) (c d:AV),cs[j]? =some c→ds[j]? =some d→Le ow c d):Le ow (.tup cs) (.tup ds)
inductive LeL (ow:Bool):List AV→List AV→Prop
 |nil:LeL ow [] []
 |cons {c d:AV} {cs ds:List AV} (h:Le ow c d) (hs:LeL ow cs ds):LeL ow (c::cs) (d::ds)
theorem LeL.len {ow:Bool} {cs ds:List AV} (h:LeL ow cs ds):cs.length=ds.length:=by induction h with|nil=>rfl|cons h hs ih=>simp [ih]
theorem LeL.at {ow:Bool} {cs ds:List AV} (h:LeL ow cs ds):∀(j:Nat) (c d:AV),cs[j]? =some c→ds[j]? =some d→Le ow c d:=by
 induction h with
 |nil=>intro j c d h1;simp at h1
 |cons h hs ih=>
  intro j c d h1 h2
  cases j with
  |zero=>simp at h1 h2;subst h1;subst h2;exact h
  |succ j=>exact ih j c d (by simpa using h1) (by simpa using h2)
theorem Le.aggL {ow:Bool} {cs ds:List AV} (h:LeL ow cs ds):Le ow (.agg cs) (.agg ds):=.agg h.len h.at
theorem Le.tupL {ow:Bool} {cs ds:List AV} (h:LeL ow cs ds):Le ow (.tup cs) (.tup ds):=.tup h.len h.at
theorem OwnV.pv {C:Cx} {w:World} {v:Value} {i e k els} (h:OwnV C w v i e k els) {N:Nat→Prop} (hN:∀b,b<w.heap.size→C.N b→N b) (hκ:∀i b,C.Lr i→C.κ i=some b→N b):RP N w v (.slice k els):=by
 obtain⟨hl,hlim,hk,hb,xs,ho,h1,hx⟩:=h
 have ho':=ho
 rcases ho.2 with ⟨rfl,h0⟩|⟨b,cap,cur,rfl,h2,h3,h4⟩
 ·have:els=[]:=List.eq_nil_of_length_eq_zero h0
  subst this
  exact .slice 0 0 (fun _ _=>undef) rfl (Nat.zero_le _) (by simp) (fun h=>absurd rfl h) (by simp) (fun i j p h=>by simp [cellAt] at h) (fun i j p h=>by simp [cellAt] at h)
 ·refine .slice b 0 (fun i j=>(xs[i*k+j]?).getD undef) rfl h4.1 hlim (fun _=>⟨rfl,hκ i b hl (hb b rfl),(Array.getElem?_eq_some_iff.1 h3).1⟩) hk (fun i j p hp=>?_) (fun i j p hp=>?_)
  ·obtain⟨u,hu,_⟩:=hx i j p hp
   have hlt:i*k+j<els.length*k:=by have:=(List.getElem?_eq_some_iff.1 hu).1;rw[← ho.1];exact this
   simp only[hu,Option.getD_some,Nat.zero_add]
   exact⟨(ho'.cellAt _ hlt).trans hu,h1 u (List.mem_of_getElem? hu)⟩
  ·obtain⟨u,hu,hr⟩:=hx i j p hp
   simp only[hu,Option.getD_some]
   exact hr.mono (Nat.le_refl _) fun b h1 h2=>⟨hN b h1 h2,rfl⟩
theorem RA.le {ow:Bool} {C:Cx} {w:World} {v:Value} {av r:AV} (h:RA C w v av) (hle:Le ow av r) {N:Nat→Prop} (hN:∀b,b<w.heap.size→C.N b→N b) (hκ:ow=true→∀i b,C.Lr i→C.κ i=some b→N b):RA (pcx N) w v r:=by
 induction hle generalizing v with
 |any v=>exact .any _
 |pv p=>exact .pv (h.pv_inv.mono (Nat.le_refl _) fun b h1 h2=>⟨hN b h1 h2,rfl⟩)
 |nil k=>cases h.lit;exact .pv (.slice 0 0 (fun _ _=>undef) rfl (Nat.zero_le _) (by simp) (fun h=>absurd rfl h) (by simp) (fun i j p h=>by simp [cellAt] at h) (fun i j p h=>by simp [cellAt] at h))
 |own i e k els how=>exact .pv (h.own_inv.pv hN (hκ how))
 |rptr c=>
  cases h with
  |rptr b off vs hN' hb hc hr=>exact .rptr b off vs (hN b hb hN') hb hc (fun j p h=>(hr j p h).mono (Nat.le_refl _) fun b h1 h2=>⟨hN b h1 h2,rfl⟩)
 | @agg cs ds hl _ ih=>
  cases h with
  |agg hs h=>
   refine .agg (hs.trans hl) fun j u d h1 h2=>?_
   have hlt:j<cs.length:=by rw[hl];exact(List.getElem?_eq_some_iff.1 h2).1
   exact ih j _ d (List.getElem?_eq_getElem hlt) h2 (h j u _ h1 (List.getElem?_eq_getElem hlt))
 | @tup cs ds hl _ ih=>
  cases h with
  |tup hs h=>
   refine .tup (hs.trans hl) fun j u d h1 h2=>?_
   have hlt:j<cs.length:=by rw[hl];exact(List.getElem?_eq_some_iff.1 h2).1
   exact ih j _ d (List.getElem?_eq_getElem hlt) h2 (h j u _ h1 (List.getElem?_eq_getElem hlt))
theorem callsIn_any {ro:Option Nat} {f:FuncId} {vals:Array Value} {R:Ending→World→Prop} (h:Calls P f vals w R):CallsIn (Fw ro) 0 P f vals w R:=callsIn_wide.2 h
inductive Args (ow:Bool) (δ:DS):List Operand→List AV→Prop
 |nil:Args ow δ [] []
 |cons {x:Operand} {v:AV} {xs:List Operand} {vs:List AV} (ho:okT x=true) (h:Le ow (δ.ev x) v) (hs:Args ow δ xs vs):Args ow δ (x::xs) (v::vs)
theorem Args.len {ow:Bool} {xs:List Operand} {vs:List AV} (h:Args ow δ xs vs):xs.length=vs.length:=by induction h with|nil=>rfl|cons ho h hs ih=>simp [ih]
theorem Args.at {ow:Bool} {xs:List Operand} {vs:List AV} (h:Args ow δ xs vs):∀(j:Nat) (x:Operand) (v:AV),xs[j]? =some x→vs[j]? =some v→okT x=true∧Le ow (δ.ev x) v:=by
 induction h with
 |nil=>intro j x v h1;simp at h1
 |cons ho h hs ih=>
  intro j x v h1 h2
  cases j with
  |zero=>simp at h1 h2;subst h1;subst h2;exact⟨ho,h⟩
  |succ j=>exact ih j x v (by simpa using h1) (by simpa using h2)
inductive Flat:AV→Prop
 |any:Flat .any
 |lit (v:Value):Flat (.pv (.lit v))
 |tup {vs:List AV} (h:∀v∈vs,Flat v):Flat (.tup vs)
 |agg {vs:List AV} (h:∀v∈vs,Flat v):Flat (.agg vs)
theorem Flat.ra {v:AV} (hf:Flat v) {C C':Cx} {w w':World} {u:Value} (h:RA C w u v):RA C' w' u v:=by
 induction hf generalizing u with
 |any=>exact .any _
 |lit v=>rw[h.lit];exact .pv (.lit _)
 |tup hv ih=>cases h with|tup hs h=>exact .tup hs fun j u c h1 h2=>ih c (List.mem_of_getElem? h2) (h j u c h1 h2)
 |agg hv ih=>cases h with|agg hs h=>exact .agg hs fun j u c h1 h2=>ih c (List.mem_of_getElem? h2) (h j u c h1 h2)
theorem run_call {x:Operand} {f:FuncId} {xs tys:Array _} {ρ:Operand→Value} (hx:ρ x=.func (.func f) #[] #[]) (he:∀vals w,(callFunc f vals).run P w=.ok (.enter f vals) w) (w:World):
  (execOp ρ ⟨dst,.call {callee:=.value x,args:=xs,argTypes:=tys},ty,pos,af,none⟩).run P w=.ok (.enter f (xs.map ρ)) w:=by
 simp [execOp,resolve,Deferred.ofValue,invoke,hx,he]
theorem Args.ras {ow:Bool} {xs:List Operand} {args:List AV} (h:Args ow δ xs args) (r:Rel g δ κ a w) {N:Nat→Prop} (hN:∀b,b<w.heap.size→(δ.cx g κ).N b→N b) (hκ:ow=true→∀i b,δ.lr i→κ i=some b→N b):
  ∀(j:Nat) (v:Value) (av:AV),(xs.toArray.map a.eval)[j]? =some v→args[j]? =some av→RA (pcx N) w v av:=by
 intro j v av h1 h2
 simp only[List.map_toArray,List.getElem?_toArray,List.getElem?_map,Option.map_eq_some_iff] at h1
 obtain⟨x,hx,rfl⟩:=h1
 obtain⟨ho,hle⟩:=h.at j x av hx h2
 exact(r.evc x (okT_spec ho)).le hle hN hκ
mutual
def AV.det:AV→Bool
 |.pv (.lit _)=>true
 |.agg cs=>AV.detL cs
 |.tup cs=>AV.detL cs
 |_=>false
def AV.detL:List AV→Bool
 |[]=>true
 |c::cs=>c.det && AV.detL cs
end
theorem AV.detL_at:∀{l:List AV},AV.detL l=true→∀(j:Nat) (c:AV),l[j]? =some c→c.det=true
 |[],_,j,c,h=>by simp at h
 |x::l,h,j,c,hj=>by
  simp only[AV.detL,Bool.and_eq_true] at h
  cases j with
  |zero=>simp at hj;subst hj;exact h.1
  |succ j=>exact AV.detL_at h.2 j c (by simpa using hj)
theorem RA.det {C C':Cx} {w w':World} {u u':Value} {av:AV} (h:RA C w u av) (h':RA C' w' u' av) (hd:av.det=true):u'=u:=by
 induction h generalizing u' with
 | @pv v p h=>
  cases p with
  |any=>simp [AV.det] at hd
  |lit v=>cases h;exact h'.lit
  |slice=>simp [AV.det] at hd
  |mp=>simp [AV.det] at hd
  |clip=>simp [AV.det] at hd
 | @agg vs cs hs h ih=>
  cases h' with
  | @agg us _ hs' h'=>
   simp only[AV.det] at hd
   congr 1
   apply Array.ext (by omega)
   intro j h1 h2
   have hc:j<cs.length:=by omega
   exact ih j _ _ (Array.getElem?_eq_getElem h2) (List.getElem?_eq_getElem hc) (h' j _ _ (Array.getElem?_eq_getElem h1) (List.getElem?_eq_getElem hc)) (AV.detL_at hd j _ (List.getElem?_eq_getElem hc))
 | @tup vs cs hs h ih=>
  cases h' with
  | @tup us _ hs' h'=>
   simp only[AV.det] at hd
   congr 1
   apply Array.ext (by omega)
   intro j h1 h2
   have hc:j<cs.length:=by omega
   exact ih j _ _ (Array.getElem?_eq_getElem h2) (List.getElem?_eq_getElem hc) (h' j _ _ (Array.getElem?_eq_getElem h1) (List.getElem?_eq_getElem hc)) (AV.detL_at hd j _ (List.getElem?_eq_getElem hc))
 |_=>simp [AV.det] at hd
mutual
def AV.out:AV→Value
 |.pv (.lit v)=>v
 |.agg cs=> .agg (AV.outL cs).toArray
 |.tup cs=> .tuple (AV.outL cs).toArray
 |_=>undef
def AV.outL:List AV→List Value
 |[]=>[]
 |c::cs=>c.out::AV.outL cs
end
theorem AV.outL_eq:∀l:List AV,AV.outL l=l.map AV.out
 |[]=>rfl
 |c::cs=>by simp [AV.outL,AV.outL_eq cs]
theorem AV.out_ra {C:Cx} {w:World}:∀{v:AV},v.det=true→RA C w v.out v
 |.pv (.lit v),_=> .pv (.lit v)
 |.agg cs,h=>by
  simp only[AV.out,AV.outL_eq]
  refine .agg (by simp) fun j u c h1 h2=>?_
  simp only[List.getElem?_toArray,List.getElem?_map,h2,Option.map_some,Option.some.injEq] at h1
  subst h1
  have:=List.mem_of_getElem? h2
  exact AV.out_ra (AV.detL_at (by simpa [AV.det] using h) j c h2)
 |.tup cs,h=>by
  simp only[AV.out,AV.outL_eq]
  refine .tup (by simp) fun j u c h1 h2=>?_
  simp only[List.getElem?_toArray,List.getElem?_map,h2,Option.map_some,Option.some.injEq] at h1
  subst h1
  have:=List.mem_of_getElem? h2
  exact AV.out_ra (AV.detL_at (by simpa [AV.det] using h) j c h2)
 |.pv .any,h|.pv (.slice _ _),h|.pv (.mp _),h|.any,h|.own _ _ _ _,h|.ptr _ _,h|.rptr _,h|.optr _ _ _ _ _,h|.clo _ _ _,h|.mapr _,h|.yld _,h=>by simp [AV.det] at h
theorem AOps.call {q:Md} {f:FuncId} {xs:List Operand} {tys:Array TypeId} {args:List AV} {r:AV} (hf:Fn P f args r) (hargs:Args true δ xs args) (hdet:r.det=true) (hd:okD δ.n dst=true) (hq:q≠ .held)
  (hK:AOps q P g ops rest Q (δ.putd dst r)):AOps q P g ops (⟨dst,.call {callee:=.value (.func f),args:=xs.toArray,argTypes:=tys},ty,pos,af,none⟩::rest) Q δ:=by
 intro κ a w r0
 have hc:∀w',Below w.heap.size w w'→Calls P f (xs.toArray.map a.eval) w' fun e w''=>e=.returned r.out∧Below w'.heap.size w' w'':=fun w' hw'=>
  (hf.calls (fun _=>True) w' _ (fun _ _=>trivial) (by simp [hargs.len]) (hargs.ras (r0.ext hw') (fun _ _ _=>trivial) (fun _ _ _ _ _=>trivial))).mono (by
   rintro e w'' ⟨v,rfl,hv,hb⟩
   exact⟨by rw[hv.det (AV.out_ra (C:=pcx (fun _=>True)) (w:=w) hdet) hdet],hb⟩)
 have hK1:=hK κ _ _ (r0.putd (okD_spec hd) (AV.out_ra hdet))
 cases q with
 |quiet=>
  show wpQuiet P ops _ _ (_::rest) a
  unfold wpQuiet
  rw[if_pos (by simp [Region.wanted])]
  refine⟨r.out,fun w' hw'=>?_,hK1⟩
  unfold Oper.quietAt
  rw[run_call (f:=f) rfl hf.enters]
  exact⟨rfl,(hc w' hw').mono fun e w'' ⟨h1,h2⟩=>⟨h1,hw'.trans (h2.mono hw'.size)⟩⟩
 |held=>exact absurd rfl hq
 |plain=>
  show wpListIn _ _ P ops _ (_::rest) a w
  refine wpl_plain rfl rfl fun K hK'=>?_
  unfold Oper.wpF
  rw[run_call (f:=f) rfl hf.enters,Oper.uponIn_enter]
  refine⟨fun h=>by simp at h,(callsIn_any (hc w (Below.refl _ _))).mono ?_⟩
  rintro e w' ⟨rfl,hb⟩
  exact hK' _ _ (hK κ _ _ ((r0.ext hb).putd (okD_spec hd) (AV.out_ra hdet)))
theorem AOps.callp {f:FuncId} {xs:List Operand} {tys:Array TypeId} {args:List AV} {r:AV} (hf:Fn P f args r) (hargs:Args false δ xs args) (hd:okD δ.n dst=true)
  (hK:AOps .plain P g ops rest Q (δ.putd dst r)):AOps .plain P g ops (⟨dst,.call {callee:=.value (.func f),args:=xs.toArray,argTypes:=tys},ty,pos,af,none⟩::rest) Q δ:=by
 intro κ a w r0
 show wpListIn _ _ P ops _ (_::rest) a w
 refine wpl_plain rfl rfl fun K hK'=>?_
 unfold Oper.wpF
 rw[run_call (f:=f) rfl hf.enters,Oper.uponIn_enter]
 refine⟨fun h=>by simp at h,(callsIn_any (hf.calls (fun b=>(δ.cx g κ).N b∨w.heap.size≤b) w _ (fun _ h=> .inr h) (by simp [hargs.len]) (hargs.ras r0 (fun _ _ h=> .inl h) (fun h=>by simp at h)))).mono ?_⟩
 rintro e w' ⟨v,rfl,hv,hb⟩
 have r1:=r0.ext hb
 refine hK' _ _ (hK κ _ _ (r1.putd (okD_spec hd) (hv.of_pcx _ fun b _ h=>?_)))
 rcases h with h|h
 ·exact h
 ·refine⟨r0.N0new h,fun i hi e=>?_⟩
  have:=(r0.lo i b hi e).2
  omega
def enum (i:Nat):List AV→List (Nat×AV)
 |[]=>[]
 |v::vs=>(i,v)::enum (i+1) vs
theorem look_enum (l:List AV):∀(i j:Nat) (v:AV),i≤j→l[j - i]? =some v→look (enum i l) j=v:=by
 induction l with
 |nil=>intro i j v _ h;simp at h
 |cons x l ih=>
  intro i j v hij h
  unfold enum
  rw[look_cons]
  by_cases e:i=j
  ·subst e;simp at h;simp [h]
  ·rw[if_neg e]
   refine ih (i+1) j v (by omega) ?_
   have:j - i=(j - (i+1))+1:=by omega
   rw[this] at h;simpa using h
theorem look_enum_out (l:List AV):∀(i j:Nat),(j<i∨i+l.length≤j)→look (enum i l) j=.any:=by
 induction l with
 |nil=>intro i j _;rfl
 |cons x l ih=>
  intro i j h
  unfold enum
  simp only[List.length_cons] at h
  rw[look_cons,if_neg (by omega)]
  exact ih (i+1) j (by omega)
def start (n:Nat) (args:List AV):DS:={n,env:=enum 0 args,objs:=[],nx:=0}
inductive ResV (P:Program) (δ:DS):ResultVar→AV→Prop
 |tmp {t:Tmp} {v:AV} (ht:Nat.blt t HS=true) (h:δ.get t=v):ResV P δ (.tmp t) v
 |cell {t:Tmp} {ty:TypeId} {i:Nat} {cells:List AV} (ht:Nat.blt t HS=true) (h:δ.get t=.ptr i 0) (ho:δ.ob i=some (.box cells)) (hty:aggT P ty cells.length=true):ResV P δ (.cell t ty) (.agg cells)
 |cell1 {t:Tmp} {ty:TypeId} {i:Nat} {v:AV} (ht:Nat.blt t HS=true) (h:δ.get t=.ptr i 0) (ho:δ.ob i=some (.box [v])) (hty:scalarT P ty=true):ResV P δ (.cell t ty) v
def resRun (P:Program) (tmps:Array Value):ResultVar→Sem Value
 |.tmp t=>pure (tmps.getD t undef)
 |.cell a t=>do loadVar t (← asAddr (tmps.getD a undef))
theorem Rel.box (r:Rel g δ κ a w) {u:Value} {i off:Nat} {cells:List AV} (h:RA (δ.cx g κ) w u (.ptr i off)) (ho:δ.ob i=some (.box cells)):
  ∃b c e,u=.pointer (some ⟨b,off,none⟩)∧κ i=some b∧w.heap[b]? =some (.cells c e (0,0))∧c.size=cells.length∧∀(j:Nat) (u:Value) (av:AV),c[j]? =some u→cells[j]? =some av→RA (δ.cx g κ) w u av∧u.oneCell'=true:=by
 cases h with
 | @ptr _ _ b hl hκ=>
  obtain⟨b',c,e,h1,h2,h3,h4⟩:=r.obj i _ ho
  have:b'=b:=by have:=h1.symm.trans hκ;simpa using this
  subst this
  exact⟨b',c,e,rfl,h1,h2,h3,h4⟩
theorem cell_of {w:World} {b:Nat} {c:Array Value} {e:TypeId} (h:w.heap[b]? =some (.cells c e (0,0))) (j:Nat):w.cell? ⟨b,j,none⟩=c[j]?:=by simp [World.cell?,h]
theorem ResV.run {rv:ResultVar} {v:AV} (h:ResV P δ rv v) (r:Rel g δ κ a w):∃u,(resRun P a.tmps rv).run P w=.ok u w∧RA (δ.cx g κ) w u v:=by
 cases h with
 | @tmp t _ ht h=>
  have:=r.env t
  unfold Ghost.val at this
  rw[if_pos (by simpa using ht),h] at this
  exact⟨_,rfl,this⟩
 | @cell t ty i cells ht h ho hty=>
  have h0:=r.env t
  unfold Ghost.val at h0
  rw[if_pos (by simpa using ht),h] at h0
  obtain⟨b,c,e,h1,h2,h3,h4,h5⟩:=r.box h0 ho
  have h6:=run_loadCells (P:=P) (w:=w) ⟨b,0,none⟩ cells.length (fun j=>c.getD j undef) (fun j hj=>by
   rw[addr_add,cell_of h3,Nat.zero_add,Array.getElem?_eq_getElem (by omega)]
   rw[Array.getD_eq_getD_getElem?,Array.getElem?_eq_getElem (by omega)];rfl)
  refine⟨.agg ((List.range cells.length).map (fun j=>c.getD j undef)).toArray,by simp only[resRun,h1,asAddr,loadVar,Sem.run_bind,Sem.run_pure,Result.andThen_ok,run_isAgg_agg hty,if_true,h6],.agg (by simp) (fun j u av h7 h8=>?_)⟩
  have hlt:=(List.getElem?_eq_some_iff.1 h8).1
  refine(h5 j u av ?_ h8).1
  simp only[List.getElem?_toArray,List.getElem?_map,Option.map_eq_some_iff] at h7
  obtain⟨j',hj',rfl⟩:=h7
  have:j'=j:=by
   rw[List.getElem?_eq_some_iff] at hj'
   obtain⟨_,h⟩:=hj'
   simpa using h.symm
  subst this
  rw[Array.getD_eq_getD_getElem?,Array.getElem?_eq_getElem (by omega)];rfl
 | @cell1 t ty i v ht h ho hty=>
  have h0:=r.env t
  unfold Ghost.val at h0
  rw[if_pos (by simpa using ht),h] at h0
  obtain⟨b,c,e,h1,h2,h3,h4,h5⟩:=r.box h0 ho
  have hlt:0<c.size:=by rw[h4];simp
  have hc:w.cell? ⟨b,0,none⟩=some c[0]:=by rw[cell_of h3,Array.getElem?_eq_getElem hlt]
  refine⟨c[0],by simp [resRun,h1,asAddr,loadVar,run_isAgg_scalar hty,load,Sem.run,hc],(h5 0 _ _ (Array.getElem?_eq_getElem hlt) rfl).1⟩
inductive Res (P:Program) (δ:DS):List ResultVar→AV→Prop
 |one {r1:ResultVar} {v:AV} (h:ResV P δ r1 v):Res P δ [r1] v
 |none:Res P δ [] (.tup [])
 |two {r1 r2:ResultVar} {v1 v2:AV} (h1:ResV P δ r1 v1) (h2:ResV P δ r2 v2):Res P δ [r1,r2] (.tup [v1,v2])
 |three {r1 r2 r3:ResultVar} {v1 v2 v3:AV} (h1:ResV P δ r1 v1) (h2:ResV P δ r2 v2) (h3:ResV P δ r3 v3):Res P δ [r1,r2,r3] (.tup [v1,v2,v3])
 |five {r1 r2 r3 r4 r5:ResultVar} {v1 v2 v3 v4 v5:AV} (h1:ResV P δ r1 v1) (h2:ResV P δ r2 v2) (h3:ResV P δ r3 v3) (h4:ResV P δ r4 v4) (h5:ResV P δ r5 v5):Res P δ [r1,r2,r3,r4,r5] (.tup [v1,v2,v3,v4,v5])
theorem ra_two {C:Cx} {w:World} {u1 u2:Value} {v1 v2:AV} (h1:RA C w u1 v1) (h2:RA C w u2 v2):RA C w (.tuple #[u1,u2]) (.tup [v1,v2]):=by
 refine .tup rfl fun j u c h3 h4=>?_
 match j with
 |0=>simp at h3 h4;subst h3;subst h4;exact h1
 |1=>simp at h3 h4;subst h3;subst h4;exact h2
 |j+2=>simp at h4
theorem ra_three {C:Cx} {w:World} {u1 u2 u3:Value} {v1 v2 v3:AV} (h1:RA C w u1 v1) (h2:RA C w u2 v2) (h3:RA C w u3 v3):RA C w (.tuple #[u1,u2,u3]) (.tup [v1,v2,v3]):=by
 refine .tup rfl fun j u c h4 h5=>?_
 match j with
 |0=>simp at h4 h5;subst h4;subst h5;exact h1
 |1=>simp at h4 h5;subst h4;subst h5;exact h2
 |2=>simp at h4 h5;subst h4;subst h5;exact h3
 |j+3=>simp at h5
theorem ra_five {C:Cx} {w:World} {u1 u2 u3 u4 u5:Value} {v1 v2 v3 v4 v5:AV} (h1:RA C w u1 v1) (h2:RA C w u2 v2) (h3:RA C w u3 v3) (h4:RA C w u4 v4) (h5:RA C w u5 v5):RA C w (.tuple #[u1,u2,u3,u4,u5]) (.tup [v1,v2,v3,v4,v5]):=by
 refine .tup rfl fun j u c k1 k2=>?_
 match j with
 |0=>simp at k1 k2;subst k1;subst k2;exact h1
 |1=>simp at k1 k2;subst k1;subst k2;exact h2
 |2=>simp at k1 k2;subst k1;subst k2;exact h3
 |3=>simp at k1 k2;subst k1;subst k2;exact h4
 |4=>simp at k1 k2;subst k1;subst k2;exact h5
 |j+5=>simp at k2
theorem results_eq {fn:Func} {tmps:Array Value}:results fn tmps=(do let vs ← fn.results.mapM (resRun P tmps);pure (if h:vs.size=1 then vs[0] else .tuple vs)):=by
 unfold results
 congr 1
theorem Res.run {fn:Func} {rs:List ResultVar} (hrs:fn.results=rs.toArray) {v:AV} (h:Res P δ rs v) (r:Rel g δ κ a w):∃u,(results fn a.tmps).run P w=.ok u w∧RA (δ.cx g κ) w u v:=by
 rw[results_eq (P:=P),hrs]
 cases h with
 |none=>exact⟨.tuple #[],by simp [Array.mapM_eq_foldlM],.tup rfl (fun j u c h=>by simp at h)⟩
 |one h=>
  obtain⟨u,h1,h2⟩:=h.run r
  exact⟨u,by simp [Array.mapM_eq_foldlM,h1],h2⟩
 |two h1 h2=>
  obtain⟨u1,h1,h3⟩:=h1.run r
  obtain⟨u2,h2,h4⟩:=h2.run r
  exact⟨.tuple #[u1,u2],by simp [Array.mapM_eq_foldlM,h1,h2],ra_two h3 h4⟩
 |three h1 h2 h3=>
  obtain⟨u1,h1,h4⟩:=h1.run r
  obtain⟨u2,h2,h5⟩:=h2.run r
  obtain⟨u3,h3,h6⟩:=h3.run r
  exact⟨.tuple #[u1,u2,u3],by simp [Array.mapM_eq_foldlM,h1,h2,h3],ra_three h4 h5 h6⟩
 |five h1 h2 h3 h4 h5=>
  obtain⟨u1,h1,k1⟩:=h1.run r
  obtain⟨u2,h2,k2⟩:=h2.run r
  obtain⟨u3,h3,k3⟩:=h3.run r
  obtain⟨u4,h4,k4⟩:=h4.run r
  obtain⟨u5,h5,k5⟩:=h5.run r
  exact⟨.tuple #[u1,u2,u3,u4,u5],by simp [Array.mapM_eq_foldlM,h1,h2,h3,h4,h5],ra_five k1 k2 k3 k4 k5⟩
theorem Rel.shut (hwt:g.wt=none) (r:Rel g δ κ a w) {k:Nat} (hB:g.B≤k) (hk:w.heap[k]? =some (.deferred (some []))) {a':Act} (ha:a'.tmps=a.tmps) (hsub:∀d∈a'.defers,d∈a.defers) (hnf:¬g.fr k) (hd:Dfr g a' (w.putObj k (.deferred none))):Rel g δ κ a' (w.putObj k (.deferred none)):=by
 have hoth:∀b,b≠k→(w.putObj k (.deferred none)).heap[b]? =w.heap[b]?:=fun b hb=>World.putObj_heap_other hb
 have hne:∀i b,δ.live i→κ i=some b→b≠k:=by
  rintro i b ⟨o,ho⟩ hκ rfl
  have h0:=r.obj i o ho
  cases o with
  |row=>obtain⟨c,e,h1⟩:=h0 b hκ;rw[hk] at h1;cases h1
  |box cs=>obtain⟨b',c,e,h1,h2,_⟩:=h0;have:b'=b:=Option.some.inj (h1.symm.trans hκ);subst this;rw[hk] at h2;cases h2
  |it l seen=>obtain⟨b',h1,h2⟩:=h0;have:b'=b:=Option.some.inj (h1.symm.trans hκ);subst this;rcases h2 with ⟨_,h2⟩|⟨_,_,_,_,_,_,_,_,_,h2,_⟩<;>(rw[hk] at h2;cases h2)
  |mpl l kk v=>obtain⟨b',c,e,h1,h2,_⟩:=h0;have:b'=b:=Option.some.inj (h1.symm.trans hκ);subst this;rw[hk] at h2;cases h2
  |lit T vals=>obtain⟨b',h1,h2⟩:=h0;have:b'=b:=Option.some.inj (h1.symm.trans hκ);subst this;rw[hk] at h2;cases h2
  |mp l=>obtain⟨b',c,e,h1,h2,_⟩:=h0;have:b'=b:=Option.some.inj (h1.symm.trans hκ);subst this;rw[hk] at h2;cases h2
  |loop l tm ps asg body st=>obtain⟨b',c,h1,h2,_⟩:=h0;have:b'=b:=Option.some.inj (h1.symm.trans hκ);subst this;rw[hk] at h2;cases h2
 -- a told value leans on cells alone:block k is none
 have hcell:∀off v,w.cell? ⟨k,off,none⟩=some v→False:=fun off v h=>by simp [World.cell?,hk] at h
 have hrp:∀{N:Nat→Prop} {v:Value} {p:PV},RP N w v p→RP N (w.putObj k (.deferred none)) v p:=by
  intro N v p h
  induction h with
  |any v=>exact .any v
  |lit v=>exact .lit v
  |slice b off vs hl hcap hb ha hkk hc hr ih=>
   refine .slice b off vs hl hcap hb (fun he=>⟨(ha he).1,(ha he).2.1,by rw[World.putObj_size];exact(ha he).2.2⟩) hkk (fun i j p hp=>⟨?_,(hc i j p hp).2⟩) ih
   have h1:=(hc i j p hp).1
   by_cases e:b=k
   ·subst e;exact(hcell _ _ h1).elim
   ·exact(World.cell?_of_block (w:=w) (a:=⟨b,off+i*_+j,none⟩) (hoth b e)).trans h1
  |mp b clock es hN hb hh hs hst hkk hr ih=>
   have e:b≠k:=by rintro rfl;rw[hk] at hh;cases hh
   exact .mp b clock es hN (by rw[World.putObj_size];exact hb) ((hoth b e).trans hh) hs hst hkk ih
  |clip h ih=>exact .clip ih
 have hown:∀{v:Value} {i e k' els},OwnV (δ.cx g κ) w v i e k' els→OwnV (δ.cx g κ) (w.putObj k (.deferred none)) v i e k' els:=by
  intro v i e k' els h
  obtain⟨hl,hlim,hk',hb,xs,ho,h1,hx⟩:=h
  refine⟨hl,hlim,hk',hb,xs,⟨ho.1,?_⟩,h1,fun i' j p hp=>let ⟨u,h1,h2⟩:=hx i' j p hp;⟨u,h1,hrp h2⟩⟩
  rcases ho.2 with hn|⟨b,cap,cur,rfl,h2,h3,h4⟩
  ·exact .inl hn
  ·exact .inr ⟨b,cap,cur,rfl,h2,(hoth b (hne i b (DS.lr_live hl) (hb b rfl))).trans h3,h4⟩
 have hra:∀{v:Value} {av:AV},RA (δ.cx g κ) w v av→RA (δ.cx g κ) (w.putObj k (.deferred none)) v av:=by
  intro v av h
  induction h with
  |any v=>exact .any v
  |pv h=>exact .pv (hrp h)
  |own h=>exact .own (hown h)
  |ptr hl hκ=>exact .ptr hl hκ
  |rptr b off vs hN hb hc hr=>
   refine .rptr b off vs hN (by rw[World.putObj_size];exact hb) (fun j p hp=>⟨?_,(hc j p hp).2⟩) (fun j p hp=>hrp (hr j p hp))
   have h1:=(hc j p hp).1
   by_cases e:b=k
   ·subst e;exact(hcell _ _ h1).elim
   ·exact(World.cell?_of_block (w:=w) (a:=⟨b,off+j,none⟩) (hoth b e)).trans h1
  |optr hi h=>exact .optr hi (hown h)
  |agg hs h ih=>exact .agg hs ih
  |tup hs h ih=>exact .tup hs ih
  |clo hs h ht h' ih ih'=>exact .clo hs ih ht ih'
  |mapr hl hκ=>exact .mapr hl hκ
  |yld hl hκ=>exact .yld hl hκ
 exact
  {n:=by rw[ha];exact r.n,dfr:=hd
   env:=fun j=>by have:=r.env j;unfold Ghost.val at this ⊢;rw[ha];exact hra this
   obj:=fun i o h=>by
    have h0:=r.obj i o h
    cases o with
    |row=>intro b hb;obtain⟨c,e,h1⟩:=h0 b hb;exact⟨c,e,(hoth b (hne i b ⟨_,h⟩ hb)).trans h1⟩
    |box cs=>obtain⟨b,c,e,h1,h2,h3,h4⟩:=h0;exact⟨b,c,e,h1,(hoth b (hne i b ⟨_,h⟩ h1)).trans h2,h3,fun j u av h5 h6=>⟨hra (h4 j u av h5 h6).1,(h4 j u av h5 h6).2⟩⟩
    |it l seen=>
     obtain⟨b,h1,h2⟩:=h0
     have hb:=hne i b ⟨_,h⟩ h1
     rcases h2 with ⟨h2,h3⟩|⟨m,es,clock,h2,h3,h4,h5,h6,h7,h8,h9⟩
     ·exact⟨b,h1,.inl ⟨h2,(hoth b hb).trans h3⟩⟩
     ·have hmk:m≠k:=by rintro rfl;rw[hk] at h4;cases h4
      exact⟨b,h1,.inr ⟨m,es,clock,h2,by rw[World.putObj_size];exact h3,(hoth m hmk).trans h4,h5,h6,fun j e p h10 h11=>⟨(h7 j e p h10 h11).1,hrp (h7 j e p h10 h11).2⟩,(hoth b hb).trans h8,h9⟩⟩
    |mpl l kk v=>obtain⟨b,es,clock,h1,h2,h3,h4⟩:=h0;exact⟨b,es,clock,h1,(hoth b (hne i b ⟨_,h⟩ h1)).trans h2,⟨h3.1,fun j e p h5 h6=>⟨(h3.2 j e p h5 h6).1,hra (h3.2 j e p h5 h6).2⟩⟩,h4⟩
    |mp l=>obtain⟨b,es,clock,h1,h2,h3,h4⟩:=h0;exact⟨b,es,clock,h1,(hoth b (hne i b ⟨_,h⟩ h1)).trans h2,⟨h3.1,fun j e p h5 h6=>⟨(h3.2 j e p h5 h6).1,hra (h3.2 j e p h5 h6).2⟩⟩,h4⟩
    |lit T vals=>obtain⟨b,h1,h2⟩:=h0;exact⟨b,h1,(hoth b (hne i b ⟨_,h⟩ h1)).trans h2⟩
    |loop l tm ps asg body st=>obtain⟨b,lr,h1,h2,h3⟩:=h0;exact⟨b,lr,h1,(hoth b (hne i b ⟨_,h⟩ h1)).trans h2,h3⟩
   inj:=r.inj
   lo:=fun i b h1 h2=>by rw[World.putObj_size];exact r.lo i b h1 h2
   nx:=r.nx
   wt:=fun k hk=>by rw[hwt] at hk;cases hk
   below:=r.below.trans ⟨rfl,rfl,rfl,by rw[World.putObj_size];exact Nat.le_refl _,fun b hb=>hoth b (by omega)⟩
   hB:=by rw[World.putObj_size];exact r.hB
   N0:=r.N0
   mkf:=fun d hd'=>r.mkf d (hsub d hd')
   fr:=r.fr.of (fun b hf _ _=>hoth b (by rintro rfl;exact hnf hf)) fun i b h1 h2=> .inl ⟨i,h1,h2⟩}
theorem leaves (hwt:g.wt=none) (hbs:g.base=[]) {fn:Func} {rs:List ResultVar} (hrs:fn.results=rs.toArray) {v:AV} (h:Res P δ rs v) {R:Ending→World→Prop}:∀{a:Act} {w:World},Rel g δ κ a w→
  (∀w2,Rel g δ κ {a with defers:=[]} w2→∀u,RA (δ.cx g κ) w2 u v→R (.returned u) w2)→LeavesInM Fence.wide 0 P fn a.tmps R a.defers .returning w:=by
 intro a w r hR
 obtain⟨ms,h1,h2,h3⟩:=r.dfr
 rw[hbs,List.append_nil] at h1
 rw[h1]
 induction ms generalizing a w with
 |nil=>
  obtain⟨u,h4,h5⟩:=h.run hrs r
  have ra:Rel g δ κ {a with defers:=[]} w:={r with dfr:=⟨[],by rw[hbs];rfl,h2,h3⟩,mkf:=fun d hd=>by cases hd}
  exact⟨u,h4,hR w ra u h5⟩
 |cons m ms ih=>
  refine⟨by simp,.inl ⟨m,_,rfl,run_takeDeferred (h3 m (by simp)).2,?_⟩⟩
  have hm:=h3 m (by simp)
  rw[List.cons_append] at h2
  have hnd:=List.nodup_cons.1 h2
  have hkeep:∀k∈ms++g.mks,g.B≤k∧(w.putObj m (.deferred none)).heap[k]? =some (.deferred (some [])):=fun k hk=>
   ⟨(h3 k (by simp only[List.cons_append,List.mem_cons];exact .inr hk)).1,by rw[World.putObj_heap_other (by intro e;subst e;exact hnd.1 hk)];exact(h3 k (by simp only[List.cons_append,List.mem_cons];exact .inr hk)).2⟩
  have hd:Dfr g {a with defers:=ms.map fun r=>({target:=.collected r,args:= #[]}:Deferred)} (w.putObj m (.deferred none)):=⟨ms,by rw[hbs,List.append_nil],hnd.2,hkeep⟩
  have r2:=r.shut hwt hm.1 hm.2 (a':={a with defers:=ms.map fun r=>({target:=.collected r,args:= #[]}:Deferred)}) rfl (fun d hd=>by rw[h1];exact List.mem_map.2 (let ⟨x,hx,e⟩:=List.mem_map.1 hd;⟨x,by simp [hx],e⟩)) (r.mkf {target:=.collected m,args:= #[]} (by rw[h1];exact List.mem_map.2 ⟨m,by simp,rfl⟩) m rfl) hd
  have:=ih (a:={a with defers:=ms.map fun r=>({target:=.collected r,args:= #[]}:Deferred)}) r2 (fun w2 r3 u hu=>hR w2 r3 u hu) rfl hnd.2 hkeep
  exact this
def Ends (P:Program) (rs:List ResultVar) (r:AV):Exit→DS→Prop
 |.normal,δ|.ret,δ=>∃v,Res P δ rs v∧Le true v r
 |_,_=>False
theorem Fn.enter {f:FuncId} {fn:Func} {c:Code} {rs:List ResultVar} {n:Nat} {args:List AV} {r:AV} (hf:P.funcs[f]? =some fn) (hb:fn.body=some c) (hrs:fn.results=rs.toArray) (hn:fn.ntmps=n) (hna:Nat.ble args.length n=true)
  (hna':Nat.ble n HS=true) (he:(fn.name== "runtime.NumGoroutine")=false) (h:∀g:Ghost,g.ro=none→g.wt=none→AW P g c (Ends P rs r) (start n args)):Fn P f args r:=by
 refine⟨fun vals w=>by simp [callFunc,hf,hb];simpa using he,fun N w vals hN hs hargs=>?_⟩
 have hle:args.length≤n:=by simpa using hna
 have hnH:n≤HS:=by simpa using hna'
 let g:Ghost:={B:=w.heap.size,w0:=w,N0:=N,held:=fun _=>undef,ro:=none,mks:=[],wt:=none,fr:=fun _=>False,w1:=w}
 have hnl:∀i,¬(start n args).live i:=fun i ⟨o,h⟩=>by cases h
 refine callsIn_wide.1 (callsIn_of_wp_marks (n:=0) hf hb trivial (wpIn_mono (h g rfl rfl (fun _=>none) _ w ?_) ?_))
 ·exact
  {n:=by simp [hn,start];omega
   dfr:=⟨[],rfl,by simp [g],by simp [g]⟩
   env:=fun j=>by
    by_cases hj:j<args.length
    ·have h1:(start n args).get j=args[j]:=look_enum args 0 j _ (Nat.zero_le _) (by simp [hj])
     have h2:g.val {tmps:=vals++Array.replicate (fn.ntmps - vals.size) undef,defers:=[]} j=vals[j]'(by omega):=by
      unfold Ghost.val
      rw[if_pos (by omega)]
      simp [Array.getD_eq_getD_getElem?,Array.getElem?_append,hs,hj]
     rw[h1,h2]
     exact(hargs j _ _ (Array.getElem?_eq_getElem (by omega)) (List.getElem?_eq_getElem hj)).of_pcx _ fun b _ h=>⟨h,fun i hi=>absurd hi (hnl i)⟩
    ·have h1:(start n args).get j=.any:=look_enum_out args 0 j (by omega)
     rw[h1];exact .any _
   obj:=fun i o h=>by cases h
   inj:=fun i j b h=>absurd h (hnl i)
   lo:=fun i b h=>absurd h (hnl i)
   nx:=fun i h=>absurd h (hnl i)
   wt:=fun k hk=>by cases hk
   below:=Below.refl _ _
   hB:=Nat.le_refl _
   N0:=fun b h _=>hN b h
   fr:=fun b hb=>hb.elim
   mkf:=fun d hd=>by cases hd}
 ·rintro e a' w' ⟨δ',κ',hq,r'⟩
  have fin:∀v,Res P δ' rs v→Le true v r→LeavesInM Fence.wide 0 P fn a'.tmps (fun e w'=>∃v,e=.returned v∧RA (pcx N) w' v r∧Below w.heap.size w w') a'.defers .returning w':=by
   intro v h1 h2
   exact leaves (g:=g) rfl rfl hrs h1 r' (fun w2 r2 u hu=>by
    exact⟨u,rfl,hu.le h2 (fun b _ h=>h.1) (fun _ i b hi hκ=>hN b (r2.lo i b (DS.lr_live hi) hκ).1),r2.below⟩)
  cases e with
  |normal=>obtain⟨v,h1,h2⟩:=hq;exact fin v h1 h2
  |ret=>obtain⟨v,h1,h2⟩:=hq;exact fin v h1 h2
  |_=>exact hq.elim
end Go.Ab
/- One abstract state says no more than another:what is asked slot by slot. -/
namespace Go.Ab
open Go Go.RowKit
variable {P:Program} {g:Ghost} {δ δ':DS} {κ:Nat→Option Nat} {a:Act} {w:World}
mutual
def AV.ids (lr lb:Nat→Bool):AV→Bool
 |.any=>true
 |.pv _=>true
 |.own i _ _ _=>lr i
 |.ptr i _=>lb i
 |.rptr _=>true
 |.optr i _ _ _ _=>lr i
 |.agg cs=>AV.idsL lr lb cs
 |.tup cs=>AV.idsL lr lb cs
 |.clo _ cs ds=>AV.idsL lr lb cs && AV.idsL lr lb ds
 |.mapr i=>lb i
 |.yld i=>lb i
def AV.idsL (lr lb:Nat→Bool):List AV→Bool
 |[]=>true
 |c::cs=>AV.ids lr lb c && AV.idsL lr lb cs
end
theorem AV.idsL_at {lr lb:Nat→Bool}:∀(l:List AV),AV.idsL lr lb l=true→∀(j:Nat) (c:AV),l[j]? =some c→AV.ids lr lb c=true
 |[],_,j,c,h=>by simp at h
 |x::l,h,j,c,hj=>by
  simp only[AV.idsL,Bool.and_eq_true] at h
  cases j with
  |zero=>simp at hj;subst hj;exact h.1
  |succ j=>exact AV.idsL_at l h.2 j c (by simpa using hj)
def DS.lrB (δ:DS) (i:Nat):Bool:=match δ.ob i with|some .row=>true|_=>false
def DS.lbB (δ:DS) (i:Nat):Bool:=match δ.ob i with|some (.box _)=>true|some (.mp _)=>true|some (.mpl _ _ _)=>true|some (.it _ _)=>true|some (.loop _ _ _ _ _ _)=>true|some (.lit _ _)=>true|_=>false
theorem lrB_spec {δ:DS} {i:Nat} (h:δ.lrB i=true):δ.lr i:=by
 unfold DS.lrB at h;unfold DS.lr
 cases ho:δ.ob i with
 |none=>rw[ho] at h;simp at h
 |some o=>cases o<;>rw[ho] at h<;>first|rfl|(simp at h)
theorem lbB_spec {δ:DS} {i:Nat} (h:δ.lbB i=true):δ.lb i:=by
 unfold DS.lbB at h;unfold DS.lb
 cases ho:δ.ob i with
 |none=>rw[ho] at h;simp at h
 |some o=>cases o<;>rw[ho] at h<;>first|exact⟨_,rfl,rfl⟩|(simp at h)
noncomputable def κof (δ:DS) (κ:Nat→Option Nat):Nat→Option Nat:=fun i=>match δ.ob i with|some _=>κ i|none=>none
theorem κof_live {δ:DS} {κ:Nat→Option Nat} {i:Nat} (h:δ.live i):κof δ κ i=κ i:=by obtain⟨o,h⟩:=h;simp [κof,h]
theorem κof_some {δ:DS} {κ:Nat→Option Nat} {i b:Nat} (h:κof δ κ i=some b):δ.live i∧κ i=some b:=by
 unfold κof at h
 cases ho:δ.ob i with
 |none=>rw[ho] at h;simp at h
 |some o=>rw[ho] at h;exact⟨⟨o,ho⟩,h⟩
theorem N_weak {b:Nat} (h:(δ.cx g κ).N b):(δ'.cx g (κof δ κ)).N b:=⟨h.1,fun i _ e=>let ⟨h1,h2⟩:=κof_some e;h.2 i h1 h2⟩
theorem RA.ids {v:Value} {av:AV} (h:RA (δ.cx g κ) w v av) (hi:av.ids δ'.lrB δ'.lbB=true):RA (δ'.cx g (κof δ κ)) w v av:=by
 have hp:∀{v:Value} {p:PV},RP (δ.cx g κ).N w v p→RP (δ'.cx g (κof δ κ)).N w v p:=fun h=>h.mono (Nat.le_refl _) fun b _ h2=>⟨N_weak h2,rfl⟩
 have ho:∀{v:Value} {i e k els},OwnV (δ.cx g κ) w v i e k els→δ'.lr i→OwnV (δ'.cx g (κof δ κ)) w v i e k els:=by
  intro v i e k els h hl
  obtain⟨h1,h2,h3,h4,xs,h5,h6,h7⟩:=h
  exact⟨hl,h2,h3,fun b hb=>(κof_live (DS.lr_live h1)).trans (h4 b hb),xs,h5,h6,fun i' j p hp'=>let ⟨u,h8,h9⟩:=h7 i' j p hp';⟨u,h8,hp h9⟩⟩
 induction h with
 |any v=>exact .any v
 |pv h=>exact .pv (hp h)
 |own h=>exact .own (ho h (lrB_spec hi))
 |ptr hl hκ=>exact .ptr (lbB_spec hi) ((κof_live (DS.lb_live hl)).trans hκ)
 |rptr b off vs hN hb hc hr=>exact .rptr b off vs (N_weak hN) hb hc (fun j p h=>hp (hr j p h))
 |optr hlt h=>exact .optr hlt (ho h (lrB_spec hi))
 |agg hs h ih=>exact .agg hs fun j u c h1 h2=>ih j u c h1 h2 (AV.idsL_at _ hi j c h2)
 |tup hs h ih=>exact .tup hs fun j u c h1 h2=>ih j u c h1 h2 (AV.idsL_at _ hi j c h2)
 |clo hs h ht h' ih ih'=>
  simp only[AV.ids,Bool.and_eq_true] at hi
  exact .clo hs (fun j u c h1 h2=>ih j u c h1 h2 (AV.idsL_at _ hi.1 j c h2)) ht (fun j u c h1 h2=>ih' j u c h1 h2 (AV.idsL_at _ hi.2 j c h2))
 |mapr hl hκ=>exact .mapr (lbB_spec hi) ((κof_live (DS.lb_live hl)).trans hκ)
 |yld hl hκ=>exact .yld (lbB_spec hi) ((κof_live (DS.lb_live hl)).trans hκ)
inductive CV (δ δ':DS):AV→PV→Prop
 |any (v:AV):CV δ δ' v .any
 |pv (p:PV):CV δ δ' (.pv p) p
 |own {i e k els els'} (h:δ'.ob i=none) (he:els=els'):CV δ δ' (.own i e k els) (.slice k els')
 |nil (k):CV δ δ' (.pv (.lit (.slice none 0 0))) (.slice k [])
inductive CVs (δ δ':DS):List AV→List PV→Prop
 |nil:CVs δ δ' [] []
 |cons {c:AV} {p:PV} {cs:List AV} {ps:List PV} (h:CV δ δ' c p) (hs:CVs δ δ' cs ps):CVs δ δ' (c::cs) (p::ps)
theorem CVs.at {δ δ':DS}:∀{cs:List AV} {ps:List PV},CVs δ δ' cs ps→∀(j:Nat) (p:PV),ps[j]? =some p→∃c,cs[j]? =some c∧CV δ δ' c p:=by
 intro cs ps h
 induction h with
 |nil=>intro j p h;simp at h
 |cons h hs ih=>
  intro j p hj
  cases j with
  |zero=>simp at hj;subst hj;exact⟨_,rfl,h⟩
  |succ j=>exact ih j p (by simpa using hj)
inductive WV (δ δ':DS):AV→AV→Prop
 |any (v:AV):WV δ δ' v .any
 |eq {u v:AV} (h:u=v) (hi:v.ids δ'.lrB δ'.lbB=true):WV δ δ' u v
 |nilown (i e k) (h:δ'.lrB i=true) (hn:δ.ob i=none):WV δ δ' (.pv (.lit (.slice none 0 0))) (.own i e k [])
 |nilrow (i e k) (h:δ'.lrB i=true):WV δ δ' (.pv (.lit (.slice none 0 0))) (.own i e k [])
 |nilpv (k):WV δ δ' (.pv (.lit (.slice none 0 0))) (.pv (.slice k []))
 |freeze {i e k els} (h:δ'.ob i=none):WV δ δ' (.own i e k els) (.pv (.slice k els))
 |agg {cs ds:List AV} (hl:cs.length=ds.length) (h:∀(j:Nat) (c d:AV),cs[j]? =some c→ds[j]? =some d→WV δ δ' c d):WV δ δ' (.agg cs) (.agg ds)
 |fmap {i:Nat} {l:List (Value×AV)} {ps:List (Value×PV)} (hb:δ.ob i=some (.mp l)) (hd:δ'.ob i=none) (hl:l.length=ps.length) (hc:∀(j:Nat) (p:Value×AV) (p':Value×PV),l[j]? =some p→ps[j]? =some p'→p.1=p'.1∧CV δ δ' p.2 p'.2):WV δ δ' (.mapr i) (.pv (.mp ps))
 |fbox {i:Nat} {cells:List AV} {ps:List PV} (hb:δ.ob i=some (.box cells)) (hd:δ'.ob i=none) (hc:CVs δ δ' cells ps):WV δ δ' (.ptr i 0) (.rptr ps)
theorem rp_nil {N:Nat→Prop} {w:World} {a0:Option Addr} {c:Nat} (k:Nat):RP N w (.slice a0 0 c) (.slice k []):=
 .slice 0 0 (fun _ _=>undef) rfl (Nat.zero_le _) (by simp) (fun h=>absurd rfl h) (by simp) (fun i j p h=>by simp [cellAt] at h) (fun i j p h=>by simp [cellAt] at h)
theorem RA.frz (hdrop:∀i b,δ.live i→δ'.ob i=none→κ i=some b→(δ'.cx g (κof δ κ)).N b) {i e k els} (ho:δ'.ob i=none) {v:Value} (h:RA (δ.cx g κ) w v (.own i e k els)):RP (δ'.cx g (κof δ κ)).N w v (.slice k els):=by
 have h1:=h.own_inv
 obtain⟨hl,hlim,hk,hb,xs,hown,h1',hx⟩:=h1
 have hown':=hown
 rcases hown.2 with ⟨rfl,h0⟩|⟨b,cap,cur,rfl,h2,h3,h4⟩
 ·have:els=[]:=List.eq_nil_of_length_eq_zero h0
  subst this
  exact rp_nil k
 ·refine .slice b 0 (fun i j=>(xs[i*k+j]?).getD undef) rfl h4.1 hlim (fun _=>⟨rfl,hdrop i b (DS.lr_live hl) ho (hb b rfl),(Array.getElem?_eq_some_iff.1 h3).1⟩) hk (fun i j p hp=>?_) (fun i j p hp=>?_)
  ·obtain⟨u,hu,_⟩:=hx i j p hp
   have hlt:i*k+j<els.length*k:=by have:=(List.getElem?_eq_some_iff.1 hu).1;rw[← hown.1];exact this
   simp only[hu,Option.getD_some,Nat.zero_add]
   exact⟨(hown'.cellAt _ hlt).trans hu,h1' u (List.mem_of_getElem? hu)⟩
  ·obtain⟨u,hu,hr⟩:=hx i j p hp
   simp only[hu,Option.getD_some]
   exact hr.mono (Nat.le_refl _) fun b _ h2=>⟨N_weak h2,rfl⟩
theorem RA.wv (hdrop:∀i b,δ.live i→δ'.ob i=none→κ i=some b→(δ'.cx g (κof δ κ)).N b) (hobj:∀i o,δ.ob i=some o→ObIs (δ.cx g κ) w i o) {v:Value} {u av:AV} (h:RA (δ.cx g κ) w v u) (hw:WV δ δ' u av):RA (δ'.cx g (κof δ κ)) w v av:=by
 induction hw generalizing v with
 |any v=>exact .any _
 |eq he hi=>subst he;exact h.ids hi
 |nilown i e k hl hn=>
  cases h.lit
  exact .own ⟨lrB_spec hl,by simp,by simp,fun b hb=>by simp [Value.ownBlock] at hb,[],World.ownsRow_nil _ _ _ _,by simp,fun i' j p hp=>by simp [cellAt] at hp⟩
 |nilrow i e k hl=>
  cases h.lit
  exact .own ⟨lrB_spec hl,by simp,by simp,fun b hb=>by simp [Value.ownBlock] at hb,[],World.ownsRow_nil _ _ _ _,by simp,fun i' j p hp=>by simp [cellAt] at hp⟩
 |nilpv k=>cases h.lit;exact .pv (rp_nil k)
 | @freeze i e k els ho=>exact .pv (h.frz hdrop ho)
 | @agg cs ds hl _ ih=>
  cases h with
  |agg hs h=>
   refine .agg (hs.trans hl) fun j u d h1 h2=>?_
   have hlt:j<cs.length:=by rw[hl];exact(List.getElem?_eq_some_iff.1 h2).1
   exact ih j _ d (List.getElem?_eq_getElem hlt) h2 (h j u _ h1 (List.getElem?_eq_getElem hlt))
 | @fmap i l ps hb hd hl hc=>
  cases h with
  | @mapr _ b hl' hκ=>
   obtain⟨b',es,clock,h1,h2,h3,h4,_⟩:=hobj i _ hb
   have:b'=b:=Option.some.inj (h1.symm.trans hκ)
   subst this
   have hat:∀(j:Nat) (e:MapEntry) (p:Value×PV),es[j]? =some e→ps[j]? =some p→e.key=p.1∧RP (δ'.cx g (κof δ κ)).N w e.val p.2:=by
    intro j e p he hp
    have hlt:j<l.length:=by rw[hl];exact(List.getElem?_eq_some_iff.1 hp).1
    have hlj:=List.getElem?_eq_getElem hlt
    obtain⟨h5,hcv⟩:=hc j _ p hlj hp
    obtain⟨h6,h7⟩:=h3.2 j e _ he hlj
    refine⟨h6.trans h5,?_⟩
    generalize l[j].2=q at hcv h7
    generalize p.2=q' at hcv
    cases hcv with
    |any=>exact .any _
    |pv=>exact h7.pv_inv.mono (Nat.le_refl _) fun b _ h2=>⟨N_weak h2,rfl⟩
    |own ho he=>subst he;exact h7.frz hdrop ho
    |nil k=>rw[h7.lit];exact rp_nil k
   exact .pv (.mp b' clock es (hdrop i b' ⟨_,hb⟩ hd hκ) (heap_lt h2) h2 (h3.1.trans hl) h4 (fun j e p h5 h6=>(hat j e p h5 h6).1) (fun j e p h5 h6=>(hat j e p h5 h6).2))
 | @fbox i cells ps hb hd hc=>
  cases h with
  | @ptr _ _ b hl hκ=>
   obtain⟨b',c,e,h1,h2,h3,h4⟩:=hobj i _ hb
   have:b'=b:=Option.some.inj (h1.symm.trans hκ)
   subst this
   have hcell:∀j,w.cell? ⟨b',0+j,none⟩=c[j]?:=fun j=>by simp [World.cell?,h2]
   have hat:∀(j:Nat) (p:PV),ps[j]? =some p→∃(hj:j<c.size),(c[j]).oneCell'=true∧RP (δ'.cx g (κof δ κ)).N w c[j] p:=by
    intro j p hp
    obtain⟨av,hav,hcv⟩:=hc.at j p hp
    have hj:j<c.size:=by rw[h3];exact(List.getElem?_eq_some_iff.1 hav).1
    obtain⟨h5,h6⟩:=h4 j _ av (Array.getElem?_eq_getElem hj) hav
    refine⟨hj,h6,?_⟩
    cases hcv with
    |any=>exact .any _
    |pv=>exact h5.pv_inv.mono (Nat.le_refl _) fun b _ h2=>⟨N_weak h2,rfl⟩
    |own ho he=>subst he;exact h5.frz hdrop ho
    |nil k=>rw[h5.lit];exact rp_nil k
   refine .rptr b' 0 (fun j=>(c[j]?).getD undef) (hdrop i b' ⟨_,hb⟩ hd hκ) (heap_lt h2) (fun j p hp=>?_) (fun j p hp=>?_)
   ·obtain⟨hj,h5,_⟩:=hat j p hp
    rw[hcell,Array.getElem?_eq_getElem hj]
    exact⟨rfl,h5⟩
   ·obtain⟨hj,_,h5⟩:=hat j p hp
    rw[Array.getElem?_eq_getElem hj]
    exact h5
theorem WV.ownE {i e k} {els els':List (List PV)} (h:els=els') (hi:δ'.lrB i=true):WV δ δ' (.own i e k els) (.own i e k els'):=.eq (by rw[h]) hi
theorem WV.pvE {k} {els els':List (List PV)} (h:els=els'):WV δ δ' (.pv (.slice k els)) (.pv (.slice k els')):=.eq (by rw[h]) rfl
theorem WV.intE {j} {m n:Int} (h:m=n):WV δ δ' (.pv (.lit (.int j m))) (.pv (.lit (.int j n))):=.eq (by rw[h]) rfl
theorem WV.boolE {m n:Bool} (h:m=n):WV δ δ' (.pv (.lit (.bool m))) (.pv (.lit (.bool n))):=.eq (by rw[h]) rfl
theorem WV.freezeE {i e k} {els els':List (List PV)} (h:δ'.ob i=none) (he:els=els'):WV δ δ' (.own i e k els) (.pv (.slice k els')):=he▸ .freeze h
def WEnv (δ δ':DS):List (Nat×AV)→Prop
 |[]=>True
 |(j,v)::r=>WV δ δ' (δ.get j) v∧WEnv δ δ' r
def WVs (δ δ':DS):List AV→List AV→Prop
 |[],[]=>True
 |c::cs,d::ds=>WV δ δ' c d∧WVs δ δ' cs ds
 |_,_=>False
inductive WO (δ δ':DS) (i:Nat):Ob→Prop
 |row (h:δ.ob i=some .row):WO δ δ' i .row
 |newrow (h:δ.ob i=none):WO δ δ' i .row
 |box {cs:List AV} (ds:List AV) (h:δ.ob i=some (.box cs)) (hs:WVs δ δ' cs ds):WO δ δ' i (.box ds)
 |mp {l:List (Value×AV)} (h:δ.ob i=some (.mp l)) (hs:∀p∈l,p.2.ids δ'.lrB δ'.lbB=true):WO δ δ' i (.mp l)
 |mpw {l l':List (Value×AV)} (h:δ.ob i=some (.mp l)) (hl:l.length=l'.length) (hs:∀(j:Nat) (p p':Value×AV),l[j]? =some p→l'[j]? =some p'→p.1=p'.1∧WV δ δ' p.2 p'.2∧p'.2.noOwn=true):WO δ δ' i (.mp l')
 |mpl {l l':List (Value×AV)} {k k':Value} {v v':AV} (h:δ.ob i=some (.mpl l k v)) (hl:l=l') (hk:k=k') (hs:∀p∈l,p.2.ids δ'.lrB δ'.lbB=true) (hv:WV δ δ' v v'):WO δ δ' i (.mpl l' k' v')
 |it {l:List (Value×PV)} {seen:List Nat} (h:δ.ob i=some (.it l seen)):WO δ δ' i (.it l seen)
 |loop {l tm ps asg body st} (h:δ.ob i=some (.loop l tm ps asg body st)):WO δ δ' i (.loop l tm ps asg body st)
 |lit {T:TypeId} {vals:Array Value} (h:δ.ob i=some (.lit T vals)):WO δ δ' i (.lit T vals)
def WObs (δ δ':DS):List (Nat×Option Ob)→Prop
 |[]=>True
 |(_,none)::r=>WObs δ δ' r
 |(i,some o)::r=>WO δ δ' i o∧WObs δ δ' r
def nxB (n:Nat):List (Nat×Option Ob)→Bool
 |[]=>true
 |(i,_)::r=>Nat.blt i n && nxB n r
theorem WEnv.at:∀{l:List (Nat×AV)},WEnv δ δ' l→∀j,WV δ δ' (δ.get j) (look l j)
 |[],_,j=> .any _
 |(i,v)::r,h,j=>by
  rw[look_cons]
  by_cases e:i=j
  ·subst e;rw[if_pos rfl];exact h.1
  ·rw[if_neg e];exact WEnv.at h.2 j
theorem WVs.at:∀{cs ds:List AV},WVs δ δ' cs ds→cs.length=ds.length∧∀(j:Nat) (c d:AV),cs[j]? =some c→ds[j]? =some d→WV δ δ' c d
 |[],[],_=>⟨rfl,fun j c d h=>by simp at h⟩
 |c::cs,d::ds,h=>by
  obtain⟨h1,h2⟩:=h
  obtain⟨h3,h4⟩:=WVs.at h2
  refine⟨by simp [h3],fun j x y h5 h6=>?_⟩
  cases j with
  |zero=>simp at h5 h6;subst h5;subst h6;exact h1
  |succ j=>exact h4 j x y (by simpa using h5) (by simpa using h6)
theorem WObs.at:∀{l:List (Nat×Option Ob)},WObs δ δ' l→∀i o,lookOb l i=some o→WO δ δ' i o
 |[],_,i,o,h=>by simp [lookOb] at h
 |(j,none)::r,h,i,o,ho=>by
  rw[lookOb_cons] at ho
  by_cases e:j=i
  ·rw[if_pos e] at ho;cases ho
  ·rw[if_neg e] at ho;exact WObs.at (l:=r) h i o ho
 |(j,some o')::r,h,i,o,ho=>by
  rw[lookOb_cons] at ho
  by_cases e:j=i
  ·rw[if_pos e] at ho;cases ho;subst e;exact h.1
  ·rw[if_neg e] at ho;exact WObs.at (l:=r) h.2 i o ho
theorem nxB_spec {n:Nat}:∀{l:List (Nat×Option Ob)},nxB n l=true→∀i o,lookOb l i=some o→i<n
 |[],_,i,o,h=>by simp [lookOb] at h
 |(j,x)::r,h,i,o,ho=>by
  simp only[nxB,Bool.and_eq_true] at h
  rw[lookOb_cons] at ho
  by_cases e:j=i
  ·subst e;simpa using h.1
  ·rw[if_neg e] at ho;exact nxB_spec h.2 i o ho
theorem Rel.hdrop (r:Rel g δ κ a w):∀i b,δ.live i→δ'.ob i=none→κ i=some b→(δ'.cx g (κof δ κ)).N b:=by
 intro i b hl hno hκ
 refine⟨r.N0own hl hκ,fun j hj e=>?_⟩
 obtain⟨h1,h2⟩:=κof_some e
 have:=r.inj i j b hl h1 hκ h2
 subst this
 obtain⟨o,hj⟩:=hj
 rw[hno] at hj;cases hj
theorem weakR (hn:δ'.n=δ.n) (he:∀j,WV δ δ' (δ.get j) (δ'.get j)) (ho:∀i o,δ'.ob i=some o→WO δ δ' i o) (hx:∀i o,δ'.ob i=some o→i<δ'.nx) (r:Rel g δ κ a w):Rel g δ' (κof δ κ) a w:=by
 have hnew:∀i o,δ'.ob i=some o→¬δ.live i→κof δ κ i=none:=by
  intro i o h hl
  unfold κof
  cases h':δ.ob i with
  |none=>rfl
  |some o'=>exact absurd ⟨o',h'⟩ hl
 have hdrop:∀i b,δ.live i→δ'.ob i=none→κ i=some b→(δ'.cx g (κof δ κ)).N b:=by
  intro i b hl hno hκ
  refine⟨r.N0own hl hκ,fun j hj e=>?_⟩
  obtain⟨h1,h2⟩:=κof_some e
  have:=r.inj i j b hl h1 hκ h2
  subst this
  obtain⟨o,hj⟩:=hj
  rw[hno] at hj;cases hj
 exact
  {n:=r.n.trans hn.symm
   dfr:=r.dfr
   env:=fun j=>(r.env j).wv hdrop r.obj (he j)
   obj:=fun i o h=>by
    have hwo:=ho i o h
    cases hwo with
    |row h'=>
     intro b hb
     obtain⟨_,h2⟩:=κof_some hb
     exact r.obj i _ h' b h2
    |newrow h'=>
     intro b hb
     obtain⟨⟨o,h1⟩,_⟩:=κof_some hb
     rw[h'] at h1;cases h1
    |box ds h' hs=>
     obtain⟨b,c,e,h1,h2,h3,h4⟩:=r.obj i _ h'
     obtain⟨h5,h6⟩:=hs.at
     refine⟨b,c,e,(κof_live ⟨_,h'⟩).trans h1,h2,h3.trans h5,fun j u av h7 h8=>?_⟩
     have hlt:j<_:=(List.getElem?_eq_some_iff.1 h8).1
     rw[← h5] at hlt
     obtain⟨h9,h10⟩:=h4 j u _ h7 (List.getElem?_eq_getElem hlt)
     exact⟨h9.wv hdrop r.obj (h6 j _ av (List.getElem?_eq_getElem hlt) h8),h10⟩
    |mp h' hs=>
     obtain⟨b,es,clock,h1,h2,h3,h4⟩:=r.obj i _ h'
     exact⟨b,es,clock,(κof_live ⟨_,h'⟩).trans h1,h2,⟨h3.1,fun j e p h5 h6=>⟨(h3.2 j e p h5 h6).1,(h3.2 j e p h5 h6).2.ids (hs p (List.mem_of_getElem? h6))⟩⟩,h4⟩
    |mpw h' hl hs=>
     obtain⟨b,es,clock,h1,h2,h3,h4⟩:=r.obj i _ h'
     refine⟨b,es,clock,(κof_live ⟨_,h'⟩).trans h1,h2,⟨h3.1.trans hl,fun j e p h5 h6=>?_⟩,h4.1,fun p hp=>?_⟩
     ·have hlt:j<_:=(List.getElem?_eq_some_iff.1 h6).1
      rw[← hl] at hlt
      have h7:=List.getElem?_eq_getElem hlt
      obtain⟨h8,h9,_⟩:=hs j _ p h7 h6
      obtain⟨h10,h11⟩:=h3.2 j e _ h5 h7
      exact⟨h10.trans h8,h11.wv hdrop r.obj h9⟩
     ·obtain⟨j,hj⟩:=List.getElem?_of_mem hp
      have hlt:j<_:=(List.getElem?_eq_some_iff.1 hj).1
      rw[← hl] at hlt
      exact(hs j _ p (List.getElem?_eq_getElem hlt) hj).2.2
    |mpl h' hl hk hs hv=>
     obtain⟨b,es,clock,h1,h2,h3,h4⟩:=r.obj i _ h'
     subst hl;subst hk
     exact⟨b,es,clock,(κof_live ⟨_,h'⟩).trans h1,h2,h3.last (fun u p hp h=>h.ids (hs p hp)) (fun u h=>h.wv hdrop r.obj hv),h4⟩
    |it h'=>
     obtain⟨b,h1,h2⟩:=r.obj i _ h'
     exact⟨b,(κof_live ⟨_,h'⟩).trans h1,h2.mono (Nat.le_refl _) (fun b _ hN=>⟨N_weak hN,rfl⟩) rfl⟩
    |loop h'=>
     obtain⟨b,l,h1,h2⟩:=r.obj i _ h'
     exact⟨b,l,(κof_live ⟨_,h'⟩).trans h1,h2⟩
    |lit h'=>
     obtain⟨b,h1,h2⟩:=r.obj i _ h'
     exact⟨b,(κof_live ⟨_,h'⟩).trans h1,h2⟩
   inj:=fun i j b _ _ h3 h4=>r.inj i j b (κof_some h3).1 (κof_some h4).1 (κof_some h3).2 (κof_some h4).2
   lo:=fun i b _ h2=>r.lo i b (κof_some h2).1 (κof_some h2).2
   nx:=fun i ⟨o,h⟩=>hx i o h
   wt:=fun k hk=>⟨(r.wt k hk).1,fun i b _ hi hb=>by
    obtain⟨hl,hκ⟩:=κof_some hb
    refine(r.wt k hk).2 i b hl (hi.imp (fun hi=>?_) id) hκ
    have hwo:=ho i _ hi
    cases hwo with
    |row h=>exact h
    |newrow h=>obtain⟨o,ho'⟩:=hl;rw[h] at ho';cases ho'⟩
   below:=r.below
   hB:=r.hB
   N0:=r.N0
   mkf:=r.mkf
   fr:=r.fr.sub fun j b _ h2=>⟨j,(κof_some h2).1,(κof_some h2).2⟩}
theorem weakF (hn:δ'.n=δ.n) (he:∀j,WV δ δ' (δ.get j) (δ'.get j)) (ho:∀i o,δ'.ob i=some o→WO δ δ' i o) (hx:∀i o,δ'.ob i=some o→i<δ'.nx):Weak g δ δ':=fun κ _ _ r=>⟨κof δ κ,weakR hn he ho hx r⟩
theorem weak (hn:δ'.n=δ.n) (he:WEnv δ δ' δ'.env) (ho:WObs δ δ' δ'.objs) (hx:nxB δ'.nx δ'.objs=true):Weak g δ δ':=weakF hn (fun j=>he.at j) (fun i o h=>ho.at i o h) (fun i o h=>nxB_spec hx i o h)
end Go.Ab
/- Small laws for the walk:what stands behind a step. -/
namespace Go.Ab
open Go Go.RowKit
variable {P:Program} {g:Ghost} {δ:DS} {ops:Array Oper} {rest:List Oper} {Q:Exit→DS→Prop} {next:DS→Prop} {dst:Option Nat} {ty:TypeId} {pos:String} {af:Array Edge}
theorem thenD_n (h:next δ):thenD next Q .normal δ:=h
theorem thenD_exit {id:Nat} (h:Q (.exit id) δ):thenD next Q (.exit id) δ:=h
theorem thenD_ret (h:Q .ret δ):thenD next Q .ret δ:=h
theorem inBlockD_n {id:Nat} (h:Q .normal δ):inBlockD id Q .normal δ:=h
theorem inBlockD_ret {id:Nat} (h:Q .ret δ):inBlockD id Q .ret δ:=h
theorem inBlockD_exit {id:Nat} (h:Q .normal δ):inBlockD id Q (.exit id) δ:=by show(if id=id then _ else _);rw[if_pos rfl];exact h
theorem ends_ret {rs:List ResultVar} {r v:AV} (h:Res P δ rs v) (hl:Le true v r):Ends P rs r .ret δ:=⟨v,h,hl⟩
theorem Le.ownE {i e k} {els els':List (List PV)} (h:els=els'):Le true (.own i e k els) (.pv (.slice k els')):=h▸ .own _ _ _ _ rfl
theorem Le.litB {ow:Bool} {p q:Bool} (h:p=q):Le ow (litB p) (litB q):=h▸ .pv _
theorem Le.litI {ow:Bool} {p q:Int} (h:p=q):Le ow (litI p) (litI q):=h▸ .pv _
theorem AW.condD {c:Operand} {x y:Code} {p:Prop} {_:Decidable p} (ho:okT c=true) (hc:δ.ev c=litB (decide p)) (h1:p→AW P g x Q δ) (h2:¬p→AW P g y Q δ):AW P g (.cond c x y) Q δ:=
 AW.cond ho hc (fun h=>h1 (of_decide_eq_true h)) (fun h=>h2 (of_decide_eq_false h))
theorem AW.condT {c:Operand} {x y:Code} {t:Bool} (ht:t=true) (ho:okT c=true) (hc:δ.ev c=litB t) (h1:AW P g x Q δ):AW P g (.cond c x y) Q δ:=
 AW.cond ho hc (fun _=>h1) (fun h=>by rw[ht] at h;cases h)
theorem AW.condF {c:Operand} {x y:Code} {t:Bool} (ht:t=false) (ho:okT c=true) (hc:δ.ev c=litB t) (h1:AW P g y Q δ):AW P g (.cond c x y) Q δ:=
 AW.cond ho hc (fun h=>by rw[ht] at h;cases h) (fun _=>h1)
def encI (x:Int):List PV:=[.lit (.int .i64 x)]
def encB (x:Bool):List PV:=[.lit (.bool x)]
abbrev ints (l:List Int):PV:=.slice 1 (l.map encI)
abbrev bools (l:List Bool):PV:=.slice 1 (l.map encB)
end Go.Ab
/- The abstract states' laws where memory turns:variables in boxes,rows that grow or are stored into. -/
namespace Go.Ab
open Go Go.RowKit
variable {q:Md} {P:Program} {g:Ghost} {δ:DS} {κ:Nat→Option Nat} {a:Act} {w:World}
variable {ops:Array Oper} {rest:List Oper} {Q:Exit→DS→Prop} {dst:Option Nat} {ty:TypeId} {pos:String} {af:Array Edge}
structure Turns (w w':World) (b:Option Nat):Prop where
 os:w'.os=w.os
 tape:w'.tape=w.tape
 output:w'.output=w.output
 size:w.heap.size≤w'.heap.size
 block:∀k,k<w.heap.size→b≠some k→w'.heap[k]? =w.heap[k]?
theorem Turns.setCell (w:World) (ad:Addr) (u:Value):Turns w (w.setCell ad u) (some ad.block):=
 ⟨rfl,rfl,rfl,by simp [World.setCell],fun k _ h=>Below.heap_setCell _ _ _ _ (fun e=>h (by rw[e]))⟩
theorem Turns.grownBy {w w':World} {row:Option Nat} (h:w.grownBy w' row):Turns w w' row:=⟨h.os,h.tape,h.output,h.size,fun k hk hn=>h.block k hk (Ne.symm hn)⟩
theorem Turns.setRow (w:World) (b:Nat) (c:Array Value):Turns w (w.setRow b c) (some b):=⟨rfl,rfl,rfl,by simp,fun k _ h=>setRow_other w b k c (fun e=>h (by rw[e]))⟩
theorem Rel.below_turn (r:Rel g δ κ a w) {w':World} {b:Option Nat} (t:Turns w w' b) (hb:∀k,b=some k→g.B≤k):Below g.B g.w0 w':=
 r.below.trans ⟨t.os,t.tape,t.output,t.size,fun k hk=>t.block k (Nat.lt_of_lt_of_le hk r.hB) (fun e=>by have:=hb k e;omega)⟩
def Ghost.wtOk (g:Ghost) (i:Nat):Prop:=∀k,g.wt=some k→k.2.2≤i
theorem wtOk_none (h:g.wt=none) (i:Nat):g.wtOk i:=fun k hk=>by rw[h] at hk;cases hk
theorem Rel.modify (r:Rel g δ κ a w) {i b:Nat} {o o':Ob} (ho:δ.ob i=some o) (hr:o.isRow=false) (hr':o'.isRow=false) (hκ:κ i=some b) (hwk:g.wtOk i) {w':World} (t:Turns w w' (some b)) (hs:w'.heap.size=w.heap.size)
  (hob:∀C,C.κ=κ→Goes (δ.cx g κ) w C w'→ObIs C w' i o'):Rel g (δ.setOb i (some o')) κ a w'∧Goes (δ.cx g κ) w ((δ.setOb i (some o')).cx g κ) w':=by
 have hi:δ.live i:=⟨o,ho⟩
 have hlive:∀j,(δ.setOb i (some o')).live j↔δ.live j:=by
  intro j
  unfold DS.live
  rw[ob_setOb]
  by_cases e:i=j
  ·subst e;simp [ho]
  ·simp [e]
 have hlr:∀j,(δ.setOb i (some o')).lr j↔δ.lr j:=by
  intro j
  unfold DS.lr
  rw[ob_setOb]
  by_cases e:i=j
  ·subst e
   rw[if_pos rfl,ho]
   cases o<;>cases o'<;>simp_all [Ob.isRow]
  ·simp [e]
 have hlb:∀j,(δ.setOb i (some o')).lb j↔δ.lb j:=by
  intro j
  unfold DS.lb
  rw[ob_setOb]
  by_cases e:i=j
  ·subst e
   rw[if_pos rfl,ho]
   exact⟨fun _=>⟨o,rfl,hr⟩,fun _=>⟨o',rfl,hr'⟩⟩
  ·simp [e]
 have hne:∀j,δ.lr j→κ j≠some b:=by
  intro j hj e
  have:=r.inj i j b hi (DS.lr_live hj) hκ e
  subst this
  have:some o=some Ob.row:=ho.symm.trans hj
  cases this
  simp [Ob.isRow] at hr
 have G:Goes (δ.cx g κ) w ((δ.setOb i (some o')).cx g κ) w':=
  {B:=rfl,size:=t.size
   N:=fun k h1 h2=>⟨⟨h2.1,fun j hj=>h2.2 j ((hlive j).1 hj)⟩,t.block k h1 (fun e=>h2.2 i hi (hκ.trans e))⟩
   Lr:=fun j hj=>⟨(hlr j).2 hj,rfl,fun k hk=>t.block k (r.lo j k (DS.lr_live hj) hk).2 (fun e=>hne j hj (hk.trans e.symm))⟩
   Lb:=fun j hj=>⟨(hlb j).2 hj,rfl⟩}
 refine⟨?_,G⟩
 exact
  {n:=r.n
   dfr:=r.dfr.goes fun k _ hk=>t.block k (heap_lt hk) (fun e=>by
    have:b=k:=Option.some.inj e
    subst this
    have h0:=r.obj i o ho
    cases o with
    |row=>simp [Ob.isRow] at hr
    |box cs=>obtain⟨b',c,e',h1,h2,_⟩:=h0;have:b'=b:=Option.some.inj (h1.symm.trans hκ);subst this;rw[hk] at h2;cases h2
    |it l seen=>obtain⟨b',h1,h2⟩:=h0;have:b'=b:=Option.some.inj (h1.symm.trans hκ);subst this;rcases h2 with ⟨_,h2⟩|⟨_,_,_,_,_,_,_,_,_,h2,_⟩<;>(rw[hk] at h2;cases h2)
    |lit T vals=>obtain⟨b',h1,h2⟩:=h0;have:b'=b:=Option.some.inj (h1.symm.trans hκ);subst this;rw[hk] at h2;cases h2
    |mp l=>obtain⟨b',c,e',h1,h2,_⟩:=h0;have:b'=b:=Option.some.inj (h1.symm.trans hκ);subst this;rw[hk] at h2;cases h2
    |mpl l k v=>obtain⟨b',c,e',h1,h2,_⟩:=h0;have:b'=b:=Option.some.inj (h1.symm.trans hκ);subst this;rw[hk] at h2;cases h2
    |loop l tm ps asg body st=>obtain⟨b',c,h1,h2,_⟩:=h0;have:b'=b:=Option.some.inj (h1.symm.trans hκ);subst this;rw[hk] at h2;cases h2)
   env:=fun j=>G.ra (r.env j)
   obj:=fun j x h=>by
    rw[ob_setOb] at h
    by_cases e:i=j
    ·subst e;rw[if_pos rfl] at h;cases h;exact hob _ rfl G
    ·rw[if_neg e] at h
     exact(r.obj j x h).goes G rfl (fun k hk=>t.block k (r.lo j k ⟨x,h⟩ hk).2 (fun e'=>e (r.inj i j k hi ⟨x,h⟩ (hκ.trans e') hk)))
   inj:=fun i' j b h1 h2=>r.inj i' j b ((hlive i').1 h1) ((hlive j).1 h2)
   lo:=fun j k h1 h2=>by have:=r.lo j k ((hlive j).1 h1) h2;rw[hs];exact this
   nx:=fun j h=>r.nx j ((hlive j).1 h)
   wt:=fun k hk=>⟨fun b' hb'=>⟨((r.wt k hk).1 b' hb').1,(t.block b' (wt_lt ((r.wt k hk).1 b' hb')) (fun e=>by
     cases e
     exact(r.wt k hk).2 i b hi (.inr (hwk k hk)) hκ hb')).trans ((r.wt k hk).1 b' hb').2⟩,
    fun j b' hj hj' hκ'=>(r.wt k hk).2 j b' ((hlive j).1 hj) (hj'.imp (hlr j).1 id) hκ'⟩
   below:=r.below_turn t (fun k e=>by cases e;exact(r.lo i b hi hκ).1)
   hB:=by rw[hs];exact r.hB
   N0:=r.N0
   mkf:=r.mkf
   fr:=r.fr.of (fun k _ h1 h2=>t.block k h1 (fun e=>h2 i hi (hκ.trans e))) fun j k h1 h2=> .inl ⟨j,(hlive j).1 h1,h2⟩}
mutual
def AV.mp (f:AV→AV):AV→AV
 |.agg cs=> .agg (AV.mpL f cs)
 |.tup cs=> .tup (AV.mpL f cs)
 |.clo fn cs ds=> .clo fn (AV.mpL f cs) (AV.mpL f ds)
 |.any=>f .any
 |.pv p=> .pv p
 |.own i e k els=>f (.own i e k els)
 |.ptr i o=> .ptr i o
 |.rptr c=> .rptr c
 |.optr i e k els n=>f (.optr i e k els n)
 |.mapr i=> .mapr i
 |.yld i=> .yld i
def AV.mpL (f:AV→AV):List AV→List AV
 |[]=>[]
 |c::cs=>AV.mp f c::AV.mpL f cs
end
theorem AV.mpL_eq (f:AV→AV):∀l,AV.mpL f l=l.map (AV.mp f)
 |[]=>rfl
 |c::cs=>by simp [AV.mpL,AV.mpL_eq f cs]
def Ob.mp' (f:AV→AV):Ob→Ob
 |.row=> .row
 |.box cs=> .box (cs.map f)
 |.mp l=> .mp l
 |.mpl l k v=> .mpl l k (f v)
 |.it l seen=> .it l seen
 |.lit T vals=> .lit T vals
 |.loop l tm ps asg body st=> .loop l tm ps asg body st
def DS.mapV (δ:DS) (f:AV→AV):DS:={δ with env:=δ.env.map fun p=>(p.1,f p.2),objs:=δ.objs.map fun p=>(p.1,p.2.map (Ob.mp' f))}
theorem get_mapV (f:AV→AV) (hf:f .any=.any) (δ:DS) (j:Nat):(δ.mapV f).get j=f (δ.get j):=by
 have:∀l:List (Nat×AV),look (l.map fun p=>(p.1,f p.2)) j=f (look l j):=by
  intro l
  induction l with
  |nil=>simp [look,hf]
  |cons x l ih=>
   obtain⟨i,v⟩:=x
   simp only[List.map_cons,look_cons,ih]
   split<;>rfl
 exact this _
theorem ob_mapV (f:AV→AV) (δ:DS) (j:Nat):(δ.mapV f).ob j=(δ.ob j).map (Ob.mp' f):=by
 have:∀l:List (Nat×Option Ob),lookOb (l.map fun p=>(p.1,p.2.map (Ob.mp' f))) j=(lookOb l j).map (Ob.mp' f):=by
  intro l
  induction l with
  |nil=>rfl
  |cons x l ih=>
   obtain⟨i,v⟩:=x
   simp only[List.map_cons,lookOb_cons,ih]
   split<;>rfl
 exact this _
def Cx.less (C:Cx) (i:Nat):Cx:={C with Lr:=fun j=>C.Lr j∧j≠i}
theorem RA.less {C:Cx} {i:Nat} {w:World} {v:Value} {av:AV} (h:RA C w v av) (hn:av.noOwn=true):RA (C.less i) w v av:=by
 cases h with
 |any v=>exact .any v
 |pv h=>exact .pv h
 |own h=>simp [AV.noOwn] at hn
 |ptr hl hκ=>exact .ptr hl hκ
 |rptr b off vs hN hb hc hr=>exact .rptr b off vs hN hb hc hr
 |optr hi h=>simp [AV.noOwn] at hn
 |agg hs h=>simp [AV.noOwn] at hn
 |tup hs h=>simp [AV.noOwn] at hn
 |clo hs h ht h'=>simp [AV.noOwn] at hn
 |mapr hl hκ=>exact .mapr hl hκ
 |yld hl hκ=>exact .yld hl hκ
theorem Rel.row (r:Rel g δ κ a w) {i:Nat} (ho:δ.ob i=some .row) {κ':Nat→Option Nat} (hκ:∀j,j≠i→κ' j=κ j) {w':World} (t:Turns w w' (κ i))
  (hi:∀b,κ' i=some b→(κ i=some b∨w.heap.size≤b)∧b<w'.heap.size∧∃c e,w'.heap[b]? =some (.cells c e (0,0)))
  (f:AV→AV) (hfa:f .any=.any)
  (hf:Goes ((δ.cx g κ).less i) w ((δ.mapV f).cx g κ') w'→∀v av,RA (δ.cx g κ) w v av→RA ((δ.mapV f).cx g κ') w' v (f av)):
  Rel g (δ.mapV f) κ' a w'∧Goes ((δ.cx g κ).less i) w ((δ.mapV f).cx g κ') w':=by
 have hil:δ.live i:=⟨_,ho⟩
 have hlive:∀j,(δ.mapV f).live j↔δ.live j:=by
  intro j
  unfold DS.live
  rw[ob_mapV]
  cases δ.ob j<;>simp
 have hlr:∀j,(δ.mapV f).lr j↔δ.lr j:=by
  intro j
  unfold DS.lr
  rw[ob_mapV]
  cases δ.ob j with
  |none=>simp
  |some o=>cases o<;>simp [Ob.mp']
 have hlb:∀j,(δ.mapV f).lb j↔δ.lb j:=by
  intro j
  unfold DS.lb
  rw[ob_mapV]
  cases δ.ob j with
  |none=>simp
  |some o=>cases o<;>simp [Ob.mp',Ob.isRow]
 have hlbne:∀j,δ.lb j→j≠i:=by
  rintro j ⟨o,h1,h2⟩ rfl
  rw[ho] at h1;cases h1;simp [Ob.isRow] at h2
 have hblk:∀j k,δ.live j→j≠i→κ j=some k→w'.heap[k]? =w.heap[k]?:=fun j k hj hne hk=>
  t.block k (r.lo j k hj hk).2 (fun e=>hne (r.inj j i k hj hil hk e))
 have G:Goes ((δ.cx g κ).less i) w ((δ.mapV f).cx g κ') w':=
  {B:=rfl,size:=t.size
   N:=fun k h1 h2=>by
    refine⟨⟨h2.1,fun j hj e=>?_⟩,t.block k h1 (h2.2 i hil)⟩
    by_cases hji:j=i
    ·subst hji
     rcases(hi k e).1 with h|h
     ·exact h2.2 j hil h
     ·omega
    ·rw[hκ j hji] at e;exact h2.2 j ((hlive j).1 hj) e
   Lr:=fun j hj=>⟨(hlr j).2 hj.1,hκ j hj.2,fun k hk=>hblk j k (DS.lr_live hj.1) hj.2 hk⟩
   Lb:=fun j hj=>⟨(hlb j).2 hj,hκ j (hlbne j hj)⟩}
 refine⟨?_,G⟩
 have F:=hf G
 exact
  {n:=r.n
   dfr:=r.dfr.goes fun k _ hk=>t.block k (heap_lt hk) (fun e=>by
    obtain⟨c,e',h1⟩:=r.obj i _ ho k e
    rw[hk] at h1;cases h1)
   env:=fun j=>by rw[get_mapV f hfa];exact F _ _ (r.env j)
   obj:=fun j x h=>by
    rw[ob_mapV] at h
    cases ho':δ.ob j with
    |none=>rw[ho'] at h;simp at h
    |some o=>
     rw[ho'] at h
     simp only[Option.map_some,Option.some.injEq] at h
     subst h
     have h0:=r.obj j o ho'
     cases o with
     |row=>
      intro b hb
      by_cases hji:j=i
      ·subst hji;exact(hi b hb).2.2
      ·have hb':κ j=some b:=by rw[← hκ j hji];exact hb
       obtain⟨c,e,h1⟩:=h0 b hb'
       exact⟨c,e,(hblk j b ⟨_,ho'⟩ hji hb').trans h1⟩
     |box cs=>
      obtain⟨b,c,e,h1,h2,h3,h4⟩:=h0
      have hji:j≠i:=hlbne j ⟨_,ho',rfl⟩
      refine⟨b,c,e,(hκ j hji).trans h1,(hblk j b ⟨_,ho'⟩ hji h1).trans h2,by simpa using h3,fun k u av h5 h6=>?_⟩
      simp only[List.getElem?_map,Option.map_eq_some_iff] at h6
      obtain⟨av',h6,rfl⟩:=h6
      exact⟨F _ _ (h4 k u av' h5 h6).1,(h4 k u av' h5 h6).2⟩
     |mp l=>
      obtain⟨b,es,clock,h1,h2,h3,h4⟩:=h0
      have hji:j≠i:=hlbne j ⟨_,ho',rfl⟩
      refine⟨b,es,clock,(hκ j hji).trans h1,(hblk j b ⟨_,ho'⟩ hji h1).trans h2,⟨h3.1,fun k e p h5 h6=>?_⟩,h4⟩
      exact⟨(h3.2 k e p h5 h6).1,G.ra ((h3.2 k e p h5 h6).2.less (h4.2 p (List.mem_of_getElem? h6)))⟩
     |mpl l kk v=>
      obtain⟨b,es,clock,h1,h2,h3,h4⟩:=h0
      have hji:j≠i:=hlbne j ⟨_,ho',rfl⟩
      refine⟨b,es,clock,(hκ j hji).trans h1,(hblk j b ⟨_,ho'⟩ hji h1).trans h2,?_,h4⟩
      exact h3.last (fun u p hp h=>G.ra (h.less (h4.2 p hp))) (fun u h=>F _ _ h)
     |it l seen=>
      obtain⟨b,h1,h2⟩:=h0
      have hji:j≠i:=hlbne j ⟨_,ho',rfl⟩
      exact⟨b,(hκ j hji).trans h1,h2.mono G.size G.N (hblk j b ⟨_,ho'⟩ hji h1)⟩
     |lit T vals=>
      obtain⟨b,h1,h2⟩:=h0
      have hji:j≠i:=hlbne j ⟨_,ho',rfl⟩
      exact⟨b,(hκ j hji).trans h1,(hblk j b ⟨_,ho'⟩ hji h1).trans h2⟩
     |loop l tm ps asg body st=>
      obtain⟨b,lr,h1,h2,h3⟩:=h0
      have hji:j≠i:=hlbne j ⟨_,ho',rfl⟩
      exact⟨b,lr,(hκ j hji).trans h1,(hblk j b ⟨_,ho'⟩ hji h1).trans h2,h3⟩
   inj:=fun i' j b h1 h2 h3 h4=>by
    rw[hlive] at h1 h2
    by_cases e1:i'=i
    ·by_cases e2:j=i
     ·rw[e1,e2]
     ·subst e1
      rw[hκ j e2] at h4
      rcases(hi b h3).1 with h|h
      ·exact r.inj i' j b h1 h2 h h4
      ·exact absurd (r.lo j b h2 h4).2 (by omega)
    ·by_cases e2:j=i
     ·subst e2
      rw[hκ i' e1] at h3
      rcases(hi b h4).1 with h|h
      ·exact r.inj i' j b h1 h2 h3 h
      ·exact absurd (r.lo i' b h1 h3).2 (by omega)
     ·rw[hκ i' e1] at h3
      rw[hκ j e2] at h4
      exact r.inj i' j b h1 h2 h3 h4
   lo:=fun j k h1 h2=>by
    rw[hlive] at h1
    by_cases e:j=i
    ·subst e
     refine⟨?_,(hi k h2).2.1⟩
     rcases(hi k h2).1 with h|h
     ·exact(r.lo j k h1 h).1
     ·exact Nat.le_trans r.hB h
    ·rw[hκ j e] at h2
     have:=r.lo j k h1 h2
     exact⟨this.1,Nat.lt_of_lt_of_le this.2 t.size⟩
   nx:=fun j h=>r.nx j ((hlive j).1 h)
   wt:=fun k hk=>⟨fun b' hb'=>⟨((r.wt k hk).1 b' hb').1,(t.block b' (wt_lt ((r.wt k hk).1 b' hb')) (fun e=>(r.wt k hk).2 i b' hil (.inl ho) e hb')).trans ((r.wt k hk).1 b' hb').2⟩,
    fun j b' hj hj' hκ' hb'=>by
     by_cases e:j=i
     ·subst e
      rcases(hi b' hκ').1 with h|h
      ·exact(r.wt k hk).2 j b' hil (.inl ho) h hb'
      ·exact absurd (wt_lt ((r.wt k hk).1 b' hb')) (by omega)
     ·rw[hκ j e] at hκ'
      exact(r.wt k hk).2 j b' ((hlive j).1 hj) (hj'.imp (hlr j).1 id) hκ' hb'⟩
   below:=r.below_turn t (fun k e=>(r.lo i k hil e).1)
   hB:=Nat.le_trans r.hB t.size
   N0:=r.N0
   mkf:=r.mkf
   fr:=r.fr.of (fun k _ h1 h2=>t.block k h1 (fun e=>h2 i hil e)) fun j k h1 h2=>by
    by_cases e:j=i
    ·subst e
     rcases(hi k h2).1 with h|h
     ·exact .inl ⟨j,hil,h⟩
     ·exact .inr h
    ·rw[hκ j e] at h2;exact .inl ⟨j,(hlive j).1 h1,h2⟩}
theorem Rel.adopt (r:Rel g δ κ a w):Rel g (δ.addOb .row) (upd κ δ.nx none) a w∧Goes (δ.cx g κ) w ((δ.addOb .row).cx g (upd κ δ.nx none)) w:=by
 have hnl:¬δ.live δ.nx:=fun h=>Nat.lt_irrefl _ (r.nx _ h)
 have hne:∀i,δ.live i→δ.nx≠i:=fun i h e=>hnl (e▸h)
 have hlive:∀i,(δ.addOb .row).live i→i=δ.nx∨δ.live i:=by
  intro i ⟨o',h⟩
  rw[ob_addOb] at h
  by_cases e:δ.nx=i
  ·exact .inl e.symm
  ·rw[if_neg e] at h;exact .inr ⟨o',h⟩
 have hsome:∀i b,(δ.addOb .row).live i→upd κ δ.nx none i=some b→δ.live i∧κ i=some b:=by
  intro i b hi h
  rcases hlive i hi with rfl|hi
  ·simp [upd] at h
  ·simp only[upd,hne i hi,if_false] at h;exact⟨hi,h⟩
 have G:Goes (δ.cx g κ) w ((δ.addOb .row).cx g (upd κ δ.nx none)) w:=
  {B:=rfl,size:=Nat.le_refl _
   N:=fun b h1 h2=>⟨⟨h2.1,fun i hi e=>let ⟨h3,h4⟩:=hsome i b hi e;h2.2 i h3 h4⟩,rfl⟩
   Lr:=fun i hi=>by
    have hi':=hne i (DS.lr_live hi)
    refine⟨?_,by show upd _ _ _ i=κ i;simp [upd,hi'],fun b hκ=>rfl⟩
    show(δ.addOb .row).ob i=_
    rw[ob_addOb,if_neg hi'];exact hi
   Lb:=fun i hi=>by
    have hi':=hne i (DS.lb_live hi)
    refine⟨?_,by show upd _ _ _ i=κ i;simp [upd,hi']⟩
    obtain⟨o',h1,h2⟩:=hi
    exact⟨o',by rw[ob_addOb,if_neg hi'];exact h1,h2⟩}
 refine⟨?_,G⟩
 exact
  {n:=r.n,dfr:=r.dfr,env:=fun j=>G.ra (r.env j)
   obj:=fun i o' h=>by
    rw[ob_addOb] at h
    by_cases e:δ.nx=i
    ·rw[if_pos e] at h;cases h;subst e
     intro b hb
     exact absurd hb (by show upd _ _ _ _≠_;simp [upd])
    ·rw[if_neg e] at h
     exact(r.obj i o' h).goes G (by show upd _ _ _ i=κ i;simp [upd,e]) (fun b hκ=>rfl)
   inj:=fun i j b h1 h2 h3 h4=>let ⟨h5,h6⟩:=hsome i b h1 h3;let ⟨h7,h8⟩:=hsome j b h2 h4;r.inj i j b h5 h7 h6 h8
   lo:=fun i b h1 h2=>let ⟨h5,h6⟩:=hsome i b h1 h2;r.lo i b h5 h6
   nx:=fun i h=>by
    show i<δ.nx+1
    rcases hlive i h with rfl|h
    ·omega
    ·have:=r.nx i h;omega
   wt:=fun k hk=>⟨(r.wt k hk).1,fun i b hi hi' hκ hb=>by
    obtain⟨h5,h6⟩:=hsome i b hi hκ
    refine(r.wt k hk).2 i b h5 (hi'.imp (fun h=>?_) id) h6 hb
    have h7:(δ.addOb .row).ob i=some .row:=h
    rw[ob_addOb,if_neg (hne i h5)] at h7
    exact h7⟩
   below:=r.below
   hB:=r.hB
   N0:=r.N0
   mkf:=r.mkf
   fr:=r.fr.sub fun i b h1 h2=>⟨i,hsome i b h1 h2⟩}
def killF (i:Nat):AV→AV
 |.own j e k els=>bif Nat.beq i j then .any else .own j e k els
 |.optr j e k els n=>bif Nat.beq i j then .any else .optr j e k els n
 |v=>v
def AV.kill (i:Nat):AV→AV:=AV.mp (killF i)
theorem beq_ne {i j:Nat} (h:i≠j):Nat.beq i j=false:=by cases hh:Nat.beq i j with|false=>rfl|true=>exact absurd (Nat.eq_of_beq_eq_true hh) h
theorem beq_self (i:Nat):Nat.beq i i=true:=Nat.beq_refl i
theorem RA.mp {C C':Cx} {i:Nat} {w w':World} (G:Goes (C.less i) w C' w') {f:AV→AV}
  (hany:f .any=.any)
  (hoth:∀j e k els,j≠i→f (.own j e k els)=.own j e k els) (hoth':∀j e k els n,j≠i→f (.optr j e k els n)=.optr j e k els n)
  (hown:∀v e k els,OwnV C w v i e k els→RA C' w' v (f (.own i e k els))) (hoptr:∀b cap e k els n,n<els.length→OwnV C w (.slice (some ⟨b,0,none⟩) els.length cap) i e k els→RA C' w' (.pointer (some ⟨b,n*k,none⟩)) (f (.optr i e k els n)))
  {v:Value} {av:AV} (h:RA C w v av):RA C' w' v (av.mp f):=by
 have hless:∀{v j e k els},OwnV C w v j e k els→j≠i→OwnV (C.less i) w v j e k els:=fun h hj=>⟨⟨h.live,hj⟩,h.lim,h.hk,h.blk,h.row⟩
 induction h with
 |any v=>simp only[AV.mp,hany];exact .any v
 |pv h=>exact .pv (G.rp h)
 | @own v j e k els h=>
  simp only[AV.mp]
  by_cases hj:j=i
  ·subst hj;exact hown v e k els h
  ·rw[hoth j e k els hj];exact .own (G.ownV (hless h hj))
 |ptr hl hκ=>exact .ptr (G.Lb _ hl).1 ((G.Lb _ hl).2.trans hκ)
 |rptr b off vs hN hb hc hr=>exact G.ra (C:=C.less i) (.rptr b off vs hN hb hc hr)
 | @optr j e k els n b cap hn h=>
  simp only[AV.mp]
  by_cases hj:j=i
  ·subst hj;exact hoptr b cap e k els n hn h
  ·rw[hoth' j e k els n hj];exact .optr hn (G.ownV (hless h hj))
 | @agg vs cs hs h ih=>
  simp only[AV.mp,AV.mpL_eq]
  refine .agg (by simpa using hs) fun j u c h1 h2=>?_
  simp only[List.getElem?_map,Option.map_eq_some_iff] at h2
  obtain⟨c',h2,rfl⟩:=h2
  exact ih j u c' h1 h2
 | @tup vs cs hs h ih=>
  simp only[AV.mp,AV.mpL_eq]
  refine .tup (by simpa using hs) fun j u c h1 h2=>?_
  simp only[List.getElem?_map,Option.map_eq_some_iff] at h2
  obtain⟨c',h2,rfl⟩:=h2
  exact ih j u c' h1 h2
 | @clo fn vs us cs ds hs h ht h' ih ih'=>
  simp only[AV.mp,AV.mpL_eq]
  refine .clo (by simpa using hs) (fun j u c h1 h2=>?_) (by simpa using ht) (fun j u c h1 h2=>?_)
  ·simp only[List.getElem?_map,Option.map_eq_some_iff] at h2
   obtain⟨c',h2,rfl⟩:=h2
   exact ih j u c' h1 h2
  ·simp only[List.getElem?_map,Option.map_eq_some_iff] at h2
   obtain⟨c',h2,rfl⟩:=h2
   exact ih' j u c' h1 h2
 |mapr hl hκ=>exact .mapr (G.Lb _ hl).1 ((G.Lb _ hl).2.trans hκ)
 |yld hl hκ=>exact .yld (G.Lb _ hl).1 ((G.Lb _ hl).2.trans hκ)
theorem RA.kill {C C':Cx} {i:Nat} {w w':World} (G:Goes (C.less i) w C' w') {v:Value} {av:AV} (h:RA C w v av):RA C' w' v (av.kill i):=by
 refine h.mp G rfl (fun j e k els hj=>?_) (fun j e k els n hj=>?_) (fun v e k els _=>?_) (fun b cap e k els n _ _=>?_)
 ·simp only[killF,beq_ne (Ne.symm hj)];rfl
 ·simp only[killF,beq_ne (Ne.symm hj)];rfl
 ·simp only[killF,beq_self];exact .any _
 ·simp only[killF,beq_self];exact .any _
end Go.Ab
/- The operations' laws where memory turns. -/
namespace Go.Ab
open Go Go.RowKit
variable {q:Md} {P:Program} {g:Ghost} {δ:DS} {κ:Nat→Option Nat} {a:Act} {w:World}
variable {gd:Option (Tmp×Bool)} {ops:Array Oper} {rest:List Oper} {Q:Exit→DS→Prop} {dst:Option Nat} {ty:TypeId} {pos:String} {af:Array Edge}
def AV.one:AV→Bool
 |.pv (.lit v)=>v.oneCell'
 |.pv (.slice _ _)=>true
 |.pv (.mp _)=>true
 |.pv (.clip _ _)=>true
 |.own _ _ _ _|.ptr _ _|.rptr _|.optr _ _ _ _ _|.clo _ _ _|.mapr _|.yld _=>true
 |.any|.pv .any|.agg _|.tup _=>false
def AV.ones:List AV→Bool
 |[]=>true
 |c::cs=>c.one && AV.ones cs
theorem AV.ones_at:∀{l:List AV},AV.ones l=true→∀(j:Nat) (c:AV),l[j]? =some c→c.one=true
 |[],_,j,c,h=>by simp at h
 |x::l,h,j,c,hj=>by
  simp only[AV.ones,Bool.and_eq_true] at h
  cases j with
  |zero=>simp at hj;subst hj;exact h.1
  |succ j=>exact AV.ones_at h.2 j c (by simpa using hj)
theorem RA.one {C:Cx} {w:World} {v:Value} {av:AV} (h:RA C w v av) (h1:av.one=true):v.oneCell'=true:=by
 cases h with
 |any v=>simp [AV.one] at h1
 | @pv v p h=>cases h with|any v=>simp [AV.one] at h1|lit v=>exact h1|slice=>rfl|mp=>rfl|clip=>rfl
 |own h=>obtain⟨a0,c,rfl⟩:=h.inv;rfl
 |ptr=>rfl
 |rptr=>rfl
 |optr=>rfl
 |agg=>simp [AV.one] at h1
 |tup=>simp [AV.one] at h1
 |clo=>rfl
 |mapr=>rfl
 |yld=>rfl
theorem cells_one {v:Value} (h:v.oneCell'=true):v.cells= #[v]:=by cases v<;>first|rfl|(simp [Value.oneCell'] at h)
def AV.cellsOf:AV→List AV
 |.agg cs=>cs
 |v=>[v]
theorem RA.cells {C:Cx} {w:World} {v:Value} {av:AV} (h:RA C w v av) (h1:AV.ones av.cellsOf=true):v.cells.size=av.cellsOf.length∧
  ∀(j:Nat) (u:Value) (c:AV),v.cells[j]? =some u→av.cellsOf[j]? =some c→RA C w u c∧u.oneCell'=true:=by
 by_cases hag:∃cs,av=.agg cs
 ·obtain⟨cs,rfl⟩:=hag
  cases h with
  |agg hs h=>exact⟨hs,fun j u c h2 h3=>⟨h j u c h2 h3,(h j u c h2 h3).one (AV.ones_at h1 j c h3)⟩⟩
 ·have hc:av.cellsOf=[av]:=by cases av<;>first|rfl|exact absurd ⟨_,rfl⟩ hag
  rw[hc] at h1 ⊢
  simp only[AV.ones,Bool.and_true] at h1
  have ho:=h.one h1
  rw[cells_one ho]
  refine⟨rfl,fun j u c h2 h3=>?_⟩
  match j with
  |0=>simp at h2 h3;subst h2;subst h3;exact⟨h,ho⟩
  |j+1=>simp at h3
theorem Rel.notrow (r:Rel g δ κ a w) {i b:Nat} (hi:δ.lb i) (hκ:κ i=some b):∀j,δ.lr j→κ j≠some b:=by
 rintro j hj e
 have:=r.inj i j b (DS.lb_live hi) (DS.lr_live hj) hκ e
 subst this
 obtain⟨o,h1,h2⟩:=hi
 have h3:δ.ob i=some .row:=hj
 rw[h1] at h3
 cases h3
 simp [Ob.isRow] at h2
theorem Eff.box {x:Operand} {e:TypeId} {v:AV} (hx:δ.ev x=v) (h1:AV.ones v.cellsOf=true) (ho:okT x=true) (hd:okD δ.n dst=true):
  Eff P g ⟨dst,.box e x,ty,pos,af,gd⟩ δ ((δ.addOb (.box v.cellsOf)).putd dst (.ptr δ.nx 0)):=by
 intro κ a w r
 have hr:=r.ra hx ho
 obtain⟨hs,hc⟩:=hr.cells h1
 have hrun:(execOp a.eval ⟨dst,.box e x,ty,pos,af,gd⟩).run P w=.ok (.value (.pointer (some ⟨w.heap.size,0,none⟩))) (w.alloc (.cells (a.eval x).cells e)):=by
  simp [execOp,Instr.box,newVar,newRow]
 obtain⟨r',G⟩:=r.grow (.box v.cellsOf) (.cells (a.eval x).cells e) (fun C G hκ=>⟨w.heap.size,_,e,hκ,heap_alloc_new w _,hs,fun j u av h2 h3=>⟨G.ra (hc j u av h2 h3).1,(hc j u av h2 h3).2⟩⟩)
 refine .inl ⟨_,_,_,_,hrun,.inl rfl,r'.putd (okD_spec hd) ?_⟩
 exact .ptr ⟨_,by show(δ.addOb _).ob _=_;rw[ob_addOb,if_pos rfl],rfl⟩ (by show upd _ _ _ _=_;simp [upd])
theorem Eff.alloc {e:TypeId} {z:Value} (hz:(P.info? e).bind (·.zero)=some z) (h1:z.cells.toList.all (·.oneCell')=true) (hd:okD δ.n dst=true):
  Eff P g ⟨dst,.alloc e,ty,pos,af,gd⟩ δ ((δ.addOb (.box (z.cells.toList.map fun v=> .pv (.lit v)))).putd dst (.ptr δ.nx 0)):=by
 intro κ a w r
 have hrun:(execOp a.eval ⟨dst,.alloc e,ty,pos,af,gd⟩).run P w=.ok (.value (.pointer (some ⟨w.heap.size,0,none⟩))) (w.alloc (.cells z.cells e)):=by
  cases hi:P.info? e with
  |none=>rw[hi] at hz;simp at hz
  |some i=>rw[hi] at hz;simp at hz;simp [execOp,Instr.alloc,zeroValue,typeInfo,hi,hz,newVar,newRow]
 obtain⟨r',G⟩:=r.grow (.box (z.cells.toList.map fun v=> .pv (.lit v))) (.cells z.cells e) (fun C G hκ=>⟨w.heap.size,_,e,hκ,heap_alloc_new w _,by simp,fun j u av h2 h3=>by
  simp only[List.getElem?_map,Option.map_eq_some_iff] at h3
  obtain⟨v,h3,rfl⟩:=h3
  have:v=u:=by have:=h2;rw[← Array.getElem?_toList,h3] at this;exact Option.some.inj this
  subst this
  exact⟨.pv (.lit _),by simpa using (List.all_eq_true.1 h1) _ (List.mem_of_getElem? h3)⟩⟩)
 refine .inl ⟨_,_,_,_,hrun,.inl rfl,r'.putd (okD_spec hd) ?_⟩
 exact .ptr ⟨_,by show(δ.addOb _).ob _=_;rw[ob_addOb,if_pos rfl],rfl⟩ (by show upd _ _ _ _=_;simp [upd])
theorem AOps.box {x:Operand} {e:TypeId} {v:AV} (hx:δ.ev x=v) (h1:AV.ones v.cellsOf=true) (ho:okT x=true) (hd:okD δ.n dst=true)
  (hK:AOps .plain P g ops rest Q ((δ.addOb (.box v.cellsOf)).putd dst (.ptr δ.nx 0))):AOps .plain P g ops (⟨dst,.box e x,ty,pos,af,none⟩::rest) Q δ:=AOps.eff rfl rfl (Eff.box hx h1 ho hd) hK
theorem AOps.alloc {e:TypeId} {z:Value} (hz:(P.info? e).bind (·.zero)=some z) (h1:z.cells.toList.all (·.oneCell')=true) (hd:okD δ.n dst=true)
  (hK:AOps .plain P g ops rest Q ((δ.addOb (.box (z.cells.toList.map fun v=> .pv (.lit v)))).putd dst (.ptr δ.nx 0))):AOps .plain P g ops (⟨dst,.alloc e,ty,pos,af,none⟩::rest) Q δ:=AOps.eff rfl rfl (Eff.alloc hz h1 hd) hK
theorem run_fieldAddr {s:TypeId} {x:Operand} {f b off:Nat} {fs:Array Field} {fld:Field} (hs:P.underlying s=some (.struct fs)) (hf:fs[f]? =some fld) (hz:((P.info? fld.type).map fun i=>Nat.blt 0 i.size)=some true)
  {ρ:Operand→Value} (hx:ρ x=.pointer (some ⟨b,off,none⟩)) (w:World):(execOp ρ ⟨dst,.fieldAddr s x f,ty,pos,af,none⟩).run P w=.ok (.value (.pointer (some ⟨b,off+fld.offset,none⟩))) w:=by
 cases hi:P.info? fld.type with
 |none=>rw[hi] at hz;simp at hz
 |some i=>
  rw[hi] at hz
  have hn:i.size≠0:=by simp at hz;omega
  simp [execOp,Instr.fieldAt,Instr.sureAddr,run_underlying hs,hf,hx,fieldPlace,sizeOf,typeInfo,hi,hn,addr_add]
theorem AOps.fieldAddr {s:TypeId} {x:Operand} {f i off:Nat} {fs:Array Field} {fld:Field} (hx:δ.ev x=.ptr i off) (hs:P.underlying s=some (.struct fs)) (hf:fs[f]? =some fld) (hz:((P.info? fld.type).map fun i=>Nat.blt 0 i.size)=some true) (ho:okT x=true) (hd:okD δ.n dst=true)
  (hK:AOps q P g ops rest Q (δ.putd dst (.ptr i (off+fld.offset)))):AOps q P g ops (⟨dst,.fieldAddr s x f,ty,pos,af,none⟩::rest) Q δ:=
 AOps.valw _ hd (fun κ a w r=>by
  have h1:=r.ra hx ho
  generalize hu:a.eval x=u at h1
  cases h1 with
  |ptr hl hκ=>exact⟨_,fun w' _=>run_fieldAddr hs hf hz hu w',.ptr hl hκ⟩) hK
theorem AOps.fieldAddr_r {s:TypeId} {x:Operand} {f n:Nat} {cs:List PV} {fs:Array Field} {fld:Field} (hx:δ.ev x=.rptr cs) (hs:P.underlying s=some (.struct fs)) (hf:fs[f]? =some fld) (hz:((P.info? fld.type).map fun i=>Nat.blt 0 i.size)=some true)
  (hn:(P.info? fld.type).map (·.size)=some n) (ho:okT x=true) (hd:okD δ.n dst=true)
  (hK:AOps q P g ops rest Q (δ.putd dst (.rptr ((cs.drop fld.offset).take n)))):AOps q P g ops (⟨dst,.fieldAddr s x f,ty,pos,af,none⟩::rest) Q δ:=
 AOps.valw _ hd (fun κ a w r=>by
  have h1:=r.ra hx ho
  generalize hu:a.eval x=u at h1
  cases h1 with
  |rptr b off vs hN hb hc hr=>
   refine⟨_,fun w' _=>run_fieldAddr hs hf hz hu w',.rptr b (off+fld.offset) (fun j=>vs (fld.offset+j)) hN hb (fun j p h=>?_) (fun j p h=>?_)⟩
   ·rw[List.getElem?_take] at h
    split at h
    ·rw[List.getElem?_drop] at h;rw[Nat.add_assoc];exact hc _ p h
    ·cases h
   ·rw[List.getElem?_take] at h
    split at h
    ·rw[List.getElem?_drop] at h;exact hr _ p h
    ·cases h) hK
theorem AOps.load_b1 {x:Operand} {t:TypeId} {i off:Nat} {cells:List AV} {v:AV} (hx:δ.ev x=.ptr i off) (hb:δ.ob i=some (.box cells)) (hv:cells[off]? =some v) (ht:scalarT P t=true) (ho:okT x=true) (hd:okD δ.n dst=true)
  (hK:AOps q P g ops rest Q (δ.putd dst v)):AOps q P g ops (⟨dst,.load t x,ty,pos,af,none⟩::rest) Q δ:=
 AOps.valw _ hd (fun κ a w r=>by
  obtain⟨b,c,e,h1,h2,h3,h4,h5⟩:=r.box (r.ra hx ho) hb
  have hlt:off<c.size:=by rw[h4];exact(List.getElem?_eq_some_iff.1 hv).1
  exact⟨c[off],fun w' hw'=>run_load_scalar ht h1 ((hw'.cell (ad:=⟨b,off,none⟩) (Array.getElem?_eq_some_iff.1 h3).1 (r.notrow ⟨_,hb,rfl⟩ h2)).trans (by rw[cell_of h3,Array.getElem?_eq_getElem hlt])),(h5 off _ v (Array.getElem?_eq_getElem hlt) hv).1⟩) hK
theorem AOps.load_bn {x:Operand} {t:TypeId} {i off n:Nat} {cells:List AV} (hx:δ.ev x=.ptr i off) (hb:δ.ob i=some (.box cells)) (ht:aggT P t n=true) (hle:Nat.ble (off+n) cells.length=true) (ho:okT x=true) (hd:okD δ.n dst=true)
  (hK:AOps q P g ops rest Q (δ.putd dst (.agg ((cells.drop off).take n)))):AOps q P g ops (⟨dst,.load t x,ty,pos,af,none⟩::rest) Q δ:=
 AOps.valw _ hd (fun κ a w r=>by
  obtain⟨b,c,e,h1,h2,h3,h4,h5⟩:=r.box (r.ra hx ho) hb
  have hle':off+n≤cells.length:=by simpa using hle
  refine⟨_,fun w' hw'=>run_load_agg ht h1 (f:=fun j=>c.getD (off+j) undef) (fun j hj=>?_),.agg (by simp;omega) (fun j u av h7 h8=>?_)⟩
  ·rw[addr_add,hw'.cell (ad:=⟨b,off+j,none⟩) (Array.getElem?_eq_some_iff.1 h3).1 (r.notrow ⟨_,hb,rfl⟩ h2),cell_of h3,Array.getD_eq_getD_getElem?,Array.getElem?_eq_getElem (by omega)];rfl
  ·rw[List.getElem?_take] at h8
   split at h8
   ·rw[List.getElem?_drop] at h8
    refine(h5 (off+j) u av ?_ h8).1
    simp only[List.getElem?_toArray,List.getElem?_map,Option.map_eq_some_iff] at h7
    obtain⟨j',hj',rfl⟩:=h7
    have:j'=j:=by
     rw[List.getElem?_eq_some_iff] at hj'
     obtain⟨_,h⟩:=hj'
     simpa using h.symm
    subst this
    rw[Array.getD_eq_getD_getElem?,Array.getElem?_eq_getElem (by omega)];rfl
   ·cases h8) hK
theorem setCell_heap {w:World} {b off:Nat} {c:Array Value} {e:TypeId} (h:w.heap[b]? =some (.cells c e (0,0))) (u:Value):(w.setCell ⟨b,off,none⟩ u).heap[b]? =some (.cells (c.setIfInBounds off u) e (0,0)):=by
 rw[setCell_eq_setRow w b off c e (0,0) u h];exact setRow_heap w b c _ e _ h
theorem frozen_of {w:World} {b:Nat} {c:Array Value} {e:TypeId} (h:w.heap[b]? =some (.cells c e (0,0))) (j:Nat):w.frozen? ⟨b,j,none⟩=false:=by simp [World.frozen?,h]
theorem Eff.store_b1 {x y:Operand} {t:TypeId} {i off:Nat} {cells:List AV} {v:AV} (hx:δ.ev x=.ptr i off) (hy:δ.ev y=v) (hb:δ.ob i=some (.box cells)) (hlt:Nat.blt off cells.length=true) (ht:(P.info? t).map (·.size)=some 1) (h1:v.one=true) (ho:okT x=true) (ho':okT y=true) (hd:okD δ.n dst=true) (hwk:g.wtOk i):
  Eff P g ⟨dst,.store t x y,ty,pos,af,gd⟩ δ ((δ.setOb i (some (.box (cells.set off v)))).putd dst .any):=by
 intro κ a w r
 obtain⟨b,c,e,hv,hκ,h3,h4,h5⟩:=r.box (r.ra hx ho) hb
 have hlt':off<cells.length:=by simpa using hlt
 have hyv:=r.ra hy ho'
 have hone:=hyv.one h1
 have hrun:(execOp a.eval ⟨dst,.store t x y,ty,pos,af,gd⟩).run P w=.ok .skip (w.setCell ⟨b,off,none⟩ (a.eval y)):=by
  obtain⟨i0,hi0,hs0⟩:∃i0,P.info? t=some i0∧i0.size=1:=by
   cases h:P.info? t with
   |none=>rw[h] at ht;simp at ht
   |some i0=>rw[h] at ht;exact⟨i0,rfl,by simpa using ht⟩
  have hc:w.cell? ⟨b,off,none⟩=some c[off]:=by rw[cell_of h3,Array.getElem?_eq_getElem (by omega)]
  have hst:(store ⟨b,off,none⟩ (a.eval y)).run P w=.ok () (w.setCell ⟨b,off,none⟩ (a.eval y)):=by
   rw[run_store P w _ _ _ hone,hc];simp [frozen_of h3]
  simp [execOp,Instr.storeAt,Instr.sureAddr,storeVar,hv,cells_one hone,sizeOf,typeInfo,hi0,hs0,storeCells,addr_add,hst]
 obtain⟨r',G⟩:=r.modify (o':=.box (cells.set off v)) hb rfl rfl hκ hwk (Turns.setCell w ⟨b,off,none⟩ (a.eval y)) (by simp [World.setCell]) (fun C hCκ G=>⟨b,_,e,by rw[hCκ];exact hκ,setCell_heap h3 _,by simpa using h4,fun j u av h6 h7=>by
  rw[Array.getElem?_setIfInBounds] at h6
  rw[List.getElem?_set] at h7
  by_cases ej:off=j
  ·rw[if_pos ej] at h6 h7
   rw[if_pos (by omega)] at h6
   rw[if_pos (by omega)] at h7
   cases h6;cases h7
   exact⟨G.ra hyv,hone⟩
  ·rw[if_neg ej] at h6 h7
   exact⟨G.ra (h5 j u av h6 h7).1,(h5 j u av h6 h7).2⟩⟩)
 exact .inl ⟨_,_,_,_,hrun,.inr ⟨rfl,rfl⟩,r'.putd (okD_spec hd) (.any _)⟩
theorem Eff.store_bn {x y:Operand} {t:TypeId} {i:Nat} {cells cs:List AV} (hx:δ.ev x=.ptr i 0) (hy:δ.ev y=.agg cs) (hb:δ.ob i=some (.box cells)) (hlen:cells.length=cs.length) (ht:(P.info? t).map (·.size)=some cs.length) (h1:AV.ones cs=true) (ho:okT x=true) (ho':okT y=true) (hd:okD δ.n dst=true) (hwk:g.wtOk i):
  Eff P g ⟨dst,.store t x y,ty,pos,af,gd⟩ δ ((δ.setOb i (some (.box cs))).putd dst .any):=by
 intro κ a w r
 obtain⟨b,c,e,hv,hκ,h3,h4,h5⟩:=r.box (r.ra hx ho) hb
 obtain⟨hsz,hcs⟩:=(r.ra hy ho').cells h1
 simp only[AV.cellsOf] at hsz hcs
 have hall:∀u∈(a.eval y).cells.toList,u.oneCell'=true:=by
  intro u hu
  obtain⟨j,hj⟩:=List.getElem?_of_mem hu
  have hlt:j<cs.length:=by rw[← hsz];have:=(List.getElem?_eq_some_iff.1 hj).1;simpa using this
  exact(hcs j u _ (by simpa using hj) (List.getElem?_eq_getElem hlt)).2
 have hst:=run_storeCells_at P b 0 e (a.eval y).cells.toList 0 c w h3 (by simp;omega) hall
 have hrow:(c.toList.take (0+0)++(a.eval y).cells.toList++c.toList.drop (0+0+(a.eval y).cells.toList.length)).toArray=(a.eval y).cells:=by
  have:c.toList.drop (0+0+(a.eval y).cells.toList.length)=[]:=List.drop_eq_nil_of_le (by simp;omega)
  rw[this];simp
 rw[hrow] at hst
 have hrun:(execOp a.eval ⟨dst,.store t x y,ty,pos,af,gd⟩).run P w=.ok .skip (w.setRow b (a.eval y).cells):=by
  obtain⟨i0,hi0,hs0⟩:∃i0,P.info? t=some i0∧i0.size=cs.length:=by
   cases h:P.info? t with
   |none=>rw[h] at ht;simp at ht
   |some i0=>rw[h] at ht;exact⟨i0,rfl,by simpa using ht⟩
  simp [execOp,Instr.storeAt,Instr.sureAddr,storeVar,hv,hsz,sizeOf,typeInfo,hi0,hs0,hst]
 obtain⟨r',G⟩:=r.modify (o':=.box cs) hb rfl rfl hκ hwk (Turns.setRow w b (a.eval y).cells) (by simp) (fun C hCκ G=>⟨b,_,e,by rw[hCκ];exact hκ,setRow_heap w b c _ e _ h3,hsz,fun j u av h6 h7=>⟨G.ra (hcs j u av h6 h7).1,(hcs j u av h6 h7).2⟩⟩)
 exact .inl ⟨_,_,_,_,hrun,.inr ⟨rfl,rfl⟩,r'.putd (okD_spec hd) (.any _)⟩
theorem AOps.store_b1 {x y:Operand} {t:TypeId} {i off:Nat} {cells:List AV} {v:AV} (hx:δ.ev x=.ptr i off) (hy:δ.ev y=v) (hb:δ.ob i=some (.box cells)) (hlt:Nat.blt off cells.length=true) (ht:(P.info? t).map (·.size)=some 1) (h1:v.one=true) (ho:okT x=true) (ho':okT y=true) (hd:okD δ.n dst=true) (hwt:g.wt=none)
  (hK:AOps .plain P g ops rest Q ((δ.setOb i (some (.box (cells.set off v)))).putd dst .any)):AOps .plain P g ops (⟨dst,.store t x y,ty,pos,af,none⟩::rest) Q δ:=AOps.eff rfl rfl (Eff.store_b1 hx hy hb hlt ht h1 ho ho' hd (wtOk_none hwt i)) hK
theorem AOps.store_bn {x y:Operand} {t:TypeId} {i:Nat} {cells cs:List AV} (hx:δ.ev x=.ptr i 0) (hy:δ.ev y=.agg cs) (hb:δ.ob i=some (.box cells)) (hlen:cells.length=cs.length) (ht:(P.info? t).map (·.size)=some cs.length) (h1:AV.ones cs=true) (ho:okT x=true) (ho':okT y=true) (hd:okD δ.n dst=true) (hwt:g.wt=none)
  (hK:AOps .plain P g ops rest Q ((δ.setOb i (some (.box cs))).putd dst .any)):AOps .plain P g ops (⟨dst,.store t x y,ty,pos,af,none⟩::rest) Q δ:=AOps.eff rfl rfl (Eff.store_bn hx hy hb hlen ht h1 ho ho' hd (wtOk_none hwt i)) hK
theorem AOps.field1 {s:TypeId} {x:Operand} {f:Nat} {cs:List AV} {v:AV} {fs:Array Field} {fld:Field} (hx:δ.ev x=.agg cs) (hs:P.underlying s=some (.struct fs)) (hf:fs[f]? =some fld) (ht:scalarT P fld.type=true) (hv:cs[fld.offset]? =some v) (ho:okT x=true) (hd:okD δ.n dst=true)
  (hK:AOps q P g ops rest Q (δ.putd dst v)):AOps q P g ops (⟨dst,.field s x f,ty,pos,af,none⟩::rest) Q δ:=
 AOps.valw _ hd (fun κ a w r=>by
  have h1:=r.ra hx ho
  generalize hu:a.eval x=u at h1
  cases h1 with
  | @agg us _ hsz h=>
   have hlt:fld.offset<us.size:=by rw[hsz];exact(List.getElem?_eq_some_iff.1 hv).1
   exact⟨us[fld.offset],fun w' _=>by simp [execOp,Instr.field,run_underlying hs,hf,hu,asAgg,part,run_isAgg_scalar ht,Array.getElem?_eq_getElem hlt],h _ _ v (Array.getElem?_eq_getElem hlt) hv⟩) hK
end Go.Ab
/- Aggregates and slices that are built;rows that grow. -/
namespace Go.Ab
open Go Go.RowKit
variable {q:Md} {P:Program} {g:Ghost} {δ:DS} {κ:Nat→Option Nat} {a:Act} {w:World}
variable {ops:Array Oper} {rest:List Oper} {Q:Exit→DS→Prop} {dst:Option Nat} {ty:TypeId} {pos:String} {af:Array Edge}
def setsA:List AV→Nat→List AV→List AV
 |cells,_,[]=>cells
 |cells,off,v::vs=>setsA (cells.set off v) (off+1) vs
def fillA (place:Nat→Option (Nat×Nat)):List AV→List (Nat×AV)→Option (List AV)
 |cells,[]=>some cells
 |cells,(i,v)::rest=>
  match place i with
  |none=>none
  |some (off,size)=>bif Nat.beq v.cellsOf.length size && Nat.ble (off+v.cellsOf.length) cells.length && AV.ones v.cellsOf then fillA place (setsA cells off v.cellsOf) rest else none
def Cells (C:Cx) (w:World) (c:Array Value) (l:List AV):Prop:=c.size=l.length∧∀(j:Nat) (u:Value) (av:AV),c[j]? =some u→l[j]? =some av→RA C w u av∧u.oneCell'=true
theorem Cells.set {C:Cx} {w:World} {c:Array Value} {l:List AV} (h:Cells C w c l) (i:Nat) {u:Value} {v:AV} (hu:RA C w u v∧u.oneCell'=true):Cells C w (c.setIfInBounds i u) (l.set i v):=by
 refine⟨by simpa using h.1,fun j x y h1 h2=>?_⟩
 rw[Array.getElem?_setIfInBounds] at h1
 rw[List.getElem?_set] at h2
 by_cases e:i=j
 ·rw[if_pos e] at h1 h2
  split at h1
  ·rename_i hlt
   rw[if_pos (by have:=h.1;omega)] at h2
   cases h1;cases h2;exact hu
  ·cases h1
 ·rw[if_neg e] at h1 h2;exact h.2 j x y h1 h2
theorem foldl_sets {C:Cx} {w:World}:∀(us:List Value) (vs:List AV) (off k:Nat) (c:Array Value) (l:List AV),us.length=vs.length→
  (∀(j:Nat) (u:Value) (v:AV),us[j]? =some u→vs[j]? =some v→RA C w u v∧u.oneCell'=true)→Cells C w c l→
  Cells C w ((us.zipIdx k).foldl (fun cs x=>cs.setIfInBounds (off+x.2) x.1) c) (setsA l (off+k) vs)
 |[],[],off,k,c,l,_,_,h=>h
 |u::us,v::vs,off,k,c,l,hl,hv,h=>by
  simp only[List.zipIdx_cons,List.foldl_cons,setsA]
  exact foldl_sets us vs off (k+1) _ _ (by simpa using hl) (fun j x y h1 h2=>hv (j+1) x y (by simpa using h1) (by simpa using h2)) (h.set (off+k) (hv 0 u v rfl rfl))
 |[],v::vs,_,_,_,_,hl,_,_=>by simp at hl
 |u::us,[],_,_,_,_,hl,_,_=>by simp at hl
theorem fill_sound {C:Cx} {w:World} {place place':Nat→Option (Nat×Nat)} (hp:∀i x,place i=some x→place' i=some x):∀(parts:List (Nat×Value)) (avs:List (Nat×AV)) (c:Array Value) (l l':List AV),
  parts.length=avs.length→(∀(j:Nat) (x:Nat×Value) (y:Nat×AV),parts[j]? =some x→avs[j]? =some y→x.1=y.1∧RA C w x.2 y.2)→Cells C w c l→fillA place l avs=some l'→
  ∃c',Instr.fill place' c parts=some c'∧Cells C w c' l'
 |[],[],c,l,l',_,_,h,hf=>by simp only[fillA,Option.some.injEq] at hf;subst hf;exact⟨c,rfl,h⟩
 |(i,u)::parts,(i',v)::avs,c,l,l',hl,hv,h,hf=>by
  obtain⟨e,hu⟩:=hv 0 (i,u) (i',v) rfl rfl
  simp only at e hu
  subst e
  simp only[fillA] at hf
  cases hpl:place i with
  |none=>rw[hpl] at hf;cases hf
  |some os=>
   obtain⟨off,size⟩:=os
   rw[hpl] at hf
   simp only at hf
   cases hc:(Nat.beq v.cellsOf.length size && Nat.ble (off+v.cellsOf.length) l.length && AV.ones v.cellsOf) with
   |false=>rw[hc] at hf;cases hf
   |true=>
    rw[hc] at hf
    simp only[Bool.and_eq_true] at hc
    obtain⟨⟨h1,h2⟩,h3⟩:=hc
    have h1':v.cellsOf.length=size:=Nat.eq_of_beq_eq_true h1
    have h2':off+v.cellsOf.length≤l.length:=by simpa using h2
    obtain⟨hs,hcs⟩:=hu.cells h3
    have hcl:=foldl_sets (C:=C) (w:=w) u.cells.toList v.cellsOf off 0 c l (by simpa using hs) (fun j x y h4 h5=>hcs j x y (by simpa using h4) h5) h
    obtain⟨c',h6,h7⟩:=fill_sound hp parts avs _ _ l' (by simpa using hl) (fun j x y h4 h5=>hv (j+1) x y (by simpa using h4) (by simpa using h5)) hcl hf
    refine⟨c',?_,h7⟩
    unfold Instr.fill
    rw[hp i _ hpl]
    simp only
    rw[if_neg (by simp;refine⟨by omega,by have:=h.1;omega⟩)]
    rw[← h6]
    congr 1
    rw[← Array.foldl_toList,Array.toList_zipIdx]
 |[],_::_,_,_,_,hl,_,_,_=>by simp at hl
 |_::_,[],_,_,_,hl,_,_,_=>by simp at hl
def placeOf (P:Program) (fs:Array Field) (i:Nat):Option (Nat×Nat):=(fs[i]?).bind fun f=>(P.info? f.type).map fun i=>(f.offset,i.size)
theorem run_places (fs:List Field) (w:World):∀(acc:Array (Nat×Nat)),fs.all (fun f=>(P.info? f.type).isSome)=true→
  (fs.foldlM (fun(acc:Array (Nat×Nat)) (f:Field)=>do let s ← sizeOf f.type;pure (acc.push (f.offset,s))) acc).run P w=.ok (acc++(fs.map fun f=>(f.offset,((P.info? f.type).map (·.size)).getD 0)).toArray) w:=by
 induction fs with
 |nil=>intro acc _;simp
 |cons f fs ih=>
  intro acc h
  simp only[List.all_cons,Bool.and_eq_true] at h
  obtain⟨i,hi⟩:=Option.isSome_iff_exists.1 h.1
  have:=ih (acc.push (f.offset,i.size)) h.2
  simp [List.foldlM_cons,sizeOf,typeInfo,hi] at this ⊢
  rw[this]
theorem AOps.build {t:TypeId} {parts:List (Nat×Operand)} {fs:Array Field} {z:Value} {cells:List AV} (hs:P.underlying t=some (.struct fs)) (hz:(P.info? t).bind (·.zero)=some z) (h1:z.cells.toList.all (·.oneCell')=true) (hall:fs.toList.all (fun f=>(P.info? f.type).isSome)=true)
  (ho:parts.all (fun p=>okT p.2)=true) (hf:fillA (placeOf P fs) (z.cells.toList.map fun v=> .pv (.lit v)) (parts.map fun p=>(p.1,δ.ev p.2))=some cells) (hd:okD δ.n dst=true)
  (hK:AOps q P g ops rest Q (δ.putd dst (.agg cells))):AOps q P g ops (⟨dst,.build t parts.toArray,ty,pos,af,none⟩::rest) Q δ:=
 AOps.valw _ hd (fun κ a w r=>by
  obtain⟨i0,hi0,hz0⟩:∃i0,P.info? t=some i0∧i0.zero=some z:=by
   cases h:P.info? t with
   |none=>rw[h] at hz;simp at hz
   |some i0=>rw[h] at hz;exact⟨i0,rfl,by simpa using hz⟩
  have hpl:=fun w1=>run_places (P:=P) fs.toList w1 #[] hall
  obtain⟨c',h2,h3⟩:=fill_sound (C:=δ.cx g κ) (w:=w) (place:=placeOf P fs) (place':=fun i=>((#[]:Array (Nat×Nat))++(fs.toList.map fun f=>(f.offset,((P.info? f.type).map (·.size)).getD 0)).toArray)[i]?)
   (fun i x h=>by
    unfold placeOf at h
    cases hfi:fs[i]? with
    |none=>rw[hfi] at h;simp at h
    |some f=>
     rw[hfi] at h
     simp only[Option.bind_some,Option.map_eq_some_iff] at h
     obtain⟨ii,h4,rfl⟩:=h
     simp [hfi,h4])
   (parts.map fun p=>(p.1,a.eval p.2)) (parts.map fun p=>(p.1,δ.ev p.2)) z.cells _ cells (by simp) (fun j x y h4 h5=>by
    simp only[List.getElem?_map,Option.map_eq_some_iff] at h4 h5
    obtain⟨p,h6,rfl⟩:=h4
    obtain⟨p',h7,rfl⟩:=h5
    rw[h6] at h7;cases h7
    exact⟨rfl,r.evc p.2 (okT_spec (by simpa using (List.all_eq_true.1 ho) p (List.mem_of_getElem? h6)))⟩)
   ⟨by simp,fun j u av h4 h5=>by
    simp only[List.getElem?_map,Option.map_eq_some_iff] at h5
    obtain⟨v,h5,rfl⟩:=h5
    have:v=u:=by have:=h4;rw[← Array.getElem?_toList,h5] at this;exact Option.some.inj this
    subst this
    exact⟨.pv (.lit _),by simpa using (List.all_eq_true.1 h1) _ (List.mem_of_getElem? h5)⟩⟩ hf
  refine⟨.agg c',fun w1 _=>?_,.agg h3.1 fun j u c h4 h5=>(h3.2 j u c h4 h5).1⟩
  have hmap:(fs.mapM fun(f:Field)=>(do pure (f.offset,← sizeOf f.type):Sem (Nat×Nat)))=fs.toList.foldlM (fun(acc:Array (Nat×Nat)) (f:Field)=>do let s ← sizeOf f.type;pure (acc.push (f.offset,s))) #[]:=by
   rw[Array.mapM_eq_foldlM,← Array.foldlM_toList]
   congr 1
   funext acc f
   simp
  have hzr:∀w,(zeroValue t).run P w=.ok z w:=fun w=>by simp [zeroValue,typeInfo,hi0,hz0]
  simp only[execOp,Instr.build,Sem.run_bind,hzr,Result.andThen_ok,run_underlying hs,hmap,hpl,List.map_toArray,h2,Sem.run_pure]) hK
end Go.Ab
/- Slices that are written out,made,cut;rows that grow by append or are stored into. -/
namespace Go.Ab
open Go Go.RowKit
variable {q:Md} {P:Program} {g:Ghost} {δ:DS} {κ:Nat→Option Nat} {a:Act} {w:World}
variable {gd:Option (Tmp×Bool)} {ops:Array Oper} {rest:List Oper} {Q:Exit→DS→Prop} {dst:Option Nat} {ty:TypeId} {pos:String} {af:Array Edge}
theorem AOps.weak {l:List Oper} {δ':DS} (hw:Weak g δ δ') (h:AOps .plain P g ops l Q δ'):AOps .plain P g ops l Q δ:=fun κ a w r=>let ⟨κ',r'⟩:=hw κ a w r;h κ' a w r'
def pvOf:AV→PV|.pv p=>p|_=> .lit undef
def AV.isPv:AV→Bool|.pv _=>true|_=>false
def chunk (k:Nat):Nat→List AV→List (List PV)
 |0,_=>[]
 |n+1,l=>(l.take k).map pvOf::chunk k n (l.drop k)
theorem chunk_len (k:Nat):∀n l,(chunk k n l).length=n
 |0,_=>rfl
 |n+1,l=>by simp [chunk,chunk_len k n]
theorem chunk_k (k:Nat):∀n l,l.length=n*k→∀c∈chunk k n l,c.length=k
 |0,_,_,c,h=>by simp [chunk] at h
 |n+1,l,hl,c,h=>by
  rw[Nat.add_mul,Nat.one_mul] at hl
  simp only[chunk,List.mem_cons] at h
  rcases h with rfl|h
  ·simp;omega
  ·exact chunk_k k n _ (by simp;omega) c h
theorem chunk_at (k:Nat):∀n l,l.all AV.isPv=true→∀i j p,cellAt (chunk k n l) i j=some p→l[i*k+j]? =some (.pv p)∧j<k
 |0,_,_,i,j,p,h=>by simp [chunk,cellAt] at h
 |n+1,l,hl,i,j,p,h=>by
  cases i with
  |zero=>
   simp only[chunk,cellAt,List.getElem?_cons_zero,Option.bind_some,List.getElem?_map,Option.map_eq_some_iff,List.getElem?_take] at h
   obtain⟨v,h,rfl⟩:=h
   split at h
   ·rename_i hj
    refine⟨?_,hj⟩
    rw[Nat.zero_mul,Nat.zero_add,h]
    have:=(List.all_eq_true.1 hl) v (List.mem_of_getElem? h)
    cases v<;>simp [AV.isPv] at this;rfl
   ·cases h
  |succ i=>
   have:=chunk_at k n (l.drop k) (List.all_eq_true.2 fun x hx=>(List.all_eq_true.1 hl) x (List.mem_of_mem_drop hx)) i j p (by simpa [chunk,cellAt] using h)
   rw[List.getElem?_drop] at this
   rw[show(i+1)*k+j=k+(i*k+j) by rw[Nat.add_mul];omega]
   exact this
def zerosA (z:Value) (n:Nat):List AV:=(List.range n).map fun j=> .pv (.lit (z.cells.toList[j % z.cells.toList.length]?.getD undef))
theorem Eff.buildSlice {t e:TypeId} {len k:Nat} {parts:List (Nat×Operand)} {z:Value} {cells:List AV} (ht:P.underlying t=some (.slice e)) (hi:(P.info? e).map (fun i=>(i.size,i.zero))=some (k,some z)) (hzk:Nat.beq z.cells.size k=true) (hk:Nat.blt 0 k=true)
  (hlen:Nat.ble (len*k) 16777216=true) (h1:z.cells.toList.all (·.oneCell')=true) (ho:parts.all (fun p=>okT p.2)=true) (hf:fillA (fun i=>some (i*k,k)) (zerosA z (len*k)) (parts.map fun p=>(p.1,δ.ev p.2))=some cells) (hp:cells.all AV.isPv=true) (hd:okD δ.n dst=true):
  Eff P g ⟨dst,.buildSlice t len parts.toArray,ty,pos,af,gd⟩ δ ((δ.addOb .row).putd dst (.own δ.nx e k (chunk k len cells))):=by
 intro κ a w r
 have hzk':z.cells.size=k:=Nat.eq_of_beq_eq_true hzk
 have hk':0<k:=by simpa using hk
 have hlen':len*k≤16777216:=by simpa using hlen
 obtain⟨i0,hi0,hs0,hz0⟩:∃i0,P.info? e=some i0∧i0.size=k∧i0.zero=some z:=by
  cases h:P.info? e with
  |none=>rw[h] at hi;simp at hi
  |some i0=>rw[h] at hi;simp at hi;exact⟨i0,rfl,hi.1,hi.2⟩
 have hone:∀(j:Nat) (u:Value),z.cells.toList[j]? =some u→u.oneCell'=true:=fun j u h=>by simpa using (List.all_eq_true.1 h1) u (List.mem_of_getElem? h)
 obtain⟨c',h2,h3⟩:=fill_sound (C:=δ.cx g κ) (w:=w) (place:=fun i=>some (i*k,k)) (place':=fun i=>some (i*k,k)) (fun i x h=>h)
   (parts.map fun p=>(p.1,a.eval p.2)) (parts.map fun p=>(p.1,δ.ev p.2)) ((Array.range (len*k)).map (z.cells[·% z.cells.size]!)) (zerosA z (len*k)) cells (by simp) (fun j x y h4 h5=>by
    simp only[List.getElem?_map,Option.map_eq_some_iff] at h4 h5
    obtain⟨p,h6,rfl⟩:=h4
    obtain⟨p',h7,rfl⟩:=h5
    rw[h6] at h7;cases h7
    exact⟨rfl,r.evc p.2 (okT_spec (by simpa using (List.all_eq_true.1 ho) p (List.mem_of_getElem? h6)))⟩)
   ⟨by simp [zerosA],fun j u av h4 h5=>by
    have hj:j<len*k:=by have:=(List.getElem?_eq_some_iff.1 h5).1;simpa [zerosA] using this
    simp only[zerosA,List.getElem?_map,List.getElem?_range hj,Option.map_some,Option.some.injEq] at h5
    subst h5
    simp only[Array.getElem?_map,Array.getElem?_range,hj,if_true,Option.map_some,Option.some.injEq] at h4
    have hmod:j % z.cells.size<z.cells.size:=Nat.mod_lt _ (by omega)
    have e1:z.cells.toList[j % z.cells.toList.length]? =some u:=by
     rw[← h4,Array.length_toList,Array.getElem?_toList,getElem!_pos z.cells _ hmod,Array.getElem?_eq_getElem hmod]
    rw[e1]
    exact⟨.pv (.lit _),hone _ _ e1⟩⟩ hf
 have hcl:cells.length=len*k:=by
  have:∀(parts:List (Nat×AV)) (l l':List AV),fillA (fun i=>some (i*k,k)) l parts=some l'→l'.length=l.length:=by
   intro parts
   induction parts with
   |nil=>intro l l' h;simp only[fillA,Option.some.injEq] at h;rw[h]
   |cons p parts ih=>
    intro l l' h
    obtain⟨i,v⟩:=p
    simp only[fillA] at h
    have hset:∀(vs:List AV) (off:Nat) (l:List AV),(setsA l off vs).length=l.length:=by
     intro vs
     induction vs with
     |nil=>intros;rfl
     |cons v vs ih=>intro off l;simp only[setsA];rw[ih];simp
    cases hc:(Nat.beq v.cellsOf.length k && Nat.ble (i*k+v.cellsOf.length) l.length && AV.ones v.cellsOf) with
    |false=>rw[hc] at h;cases h
    |true=>rw[hc] at h;rw[ih _ _ h,hset]
  rw[this _ _ _ hf];simp [zerosA]
 have hrun:(execOp a.eval ⟨dst,.buildSlice t len parts.toArray,ty,pos,af,gd⟩).run P w=.ok (.value (.slice (some ⟨w.heap.size,0,none⟩) len len)) (w.alloc (.cells c' e)):=by
  have hzr:∀w,(zeroValue e).run P w=.ok z w:=fun w=>by simp [zeroValue,typeInfo,hi0,hz0]
  have hsr:∀w,(sizeOf e).run P w=.ok k w:=fun w=>by simp [sizeOf,typeInfo,hi0,hs0]
  have hno:¬16777216<len*k:=by omega
  by_cases h0:len*k=0
  ·have:(Array.range (len*k)).map (fun x=>z.cells[x % z.cells.size]!)=(Array.range (len*k)).map (fun x=>(#[]:Array Value)[x % (#[]:Array Value).size]!):=by rw[h0];simp [Array.range_zero']
   rw[this] at h2
   simp only[execOp,Instr.buildSlice,Sem.run_bind,Result.andThen_ok,run_underlying ht,hsr,List.map_toArray]
   simp only[show(2:Nat) ^ 24=16777216 from rfl,gt_iff_lt,if_neg hno,if_pos h0,Sem.run_pure,Result.andThen_ok,Sem.run_bind]
   simp only[h2,Sem.run_bind,newRow,Result.andThen_ok,Sem.run_pure]
   rfl
  ·simp only[execOp,Instr.buildSlice,Sem.run_bind,Result.andThen_ok,run_underlying ht,hsr,List.map_toArray]
   simp only[show(2:Nat) ^ 24=16777216 from rfl,gt_iff_lt,if_neg hno,if_neg h0,Sem.run_pure,Result.andThen_ok,Sem.run_bind,hzr]
   simp only[h2,Sem.run_bind,newRow,Result.andThen_ok,Sem.run_pure]
   rfl
 have hcs:c'.size=len*k:=h3.1.trans hcl
 have hmax:len≤maxLen:=by
  have:len≤len*k:=Nat.le_mul_of_pos_right _ hk'
  simp only[maxLen];omega
 obtain⟨r',G⟩:=r.grow .row (.cells c' e) (fun C G hκ b hb=>by
  have:w.heap.size=b:=Option.some.inj (hκ.symm.trans hb)
  subst this
  exact⟨c',e,heap_alloc_new w _⟩)
 have hrow:=World.ownsRow_lit (base:=g.B) (e:=e) (size:=k) w c' len r.hB hmax hcs
 refine .inl ⟨_,_,_,_,hrun,.inl rfl,r'.putd (okD_spec hd) (.own ?_)⟩
 refine⟨by show(δ.addOb .row).ob _=_;rw[ob_addOb,if_pos rfl],by rw[chunk_len];have:len≤len*k:=Nat.le_mul_of_pos_right _ hk';omega,chunk_k k len cells hcl,fun b hb=>?_,c'.toList,by rw[chunk_len];exact hrow,fun u hu=>?_,fun i' j p hp'=>?_⟩
 ·simp only[Value.ownBlock,Option.some.injEq] at hb
  subst hb
  show upd _ _ _ _=_
  simp [upd]
 ·obtain⟨j,hj⟩:=List.getElem?_of_mem hu
  have hlt:j<cells.length:=by have:=(List.getElem?_eq_some_iff.1 hj).1;have:=h3.1;simp at*;omega
  exact(h3.2 j u _ (by simpa using hj) (List.getElem?_eq_getElem hlt)).2
 ·obtain⟨h5,_⟩:=chunk_at k len cells hp i' j p hp'
  have hlt:i'*k+j<c'.size:=by rw[h3.1];exact(List.getElem?_eq_some_iff.1 h5).1
  refine⟨c'[i'*k+j],by simp [hlt],?_⟩
  exact G.rp (h3.2 _ _ _ (Array.getElem?_eq_getElem hlt) h5).1.pv_inv
structure Src (C:Cx) (w:World) (v:Value) (k:Nat) (els:List (List PV)):Prop where
 lim:els.length≤140737488355328
 hk:∀c∈els,c.length=k
 ex:∃a c,v=.slice a els.length c∧(els≠ []→∃(b off:Nat) (vs:Nat→Nat→Value),a=some ⟨b,off,none⟩∧∀i j p,cellAt els i j=some p→w.cell? ⟨b,off+i*k+j,none⟩=some (vs i j)∧(vs i j).oneCell'=true∧RP C.N w (vs i j) p)
theorem RP.src {C:Cx} {w:World} {v:Value} {k:Nat} {els:List (List PV)} (h:RP C.N w v (.slice k els)):Src C w v k els:=by
 cases h with
 |slice b off vs hl hcap hb ha hk hc hr=>subst hl;exact⟨hb,hk,_,_,rfl,fun he=>⟨b,off,vs,(ha he).1,fun i j p hp=>⟨(hc i j p hp).1,(hc i j p hp).2,hr i j p hp⟩⟩⟩
theorem OwnV.src {C:Cx} {w:World} {v:Value} {i e k els} (h:OwnV C w v i e k els):Src C w v k els:=by
 obtain⟨hl,hlim,hk,hb,xs,ho,h1,hx⟩:=h
 have ho':=ho
 rcases ho.2 with ⟨rfl,h0⟩|⟨b,cap,cur,rfl,h2,h3,h4⟩
 ·exact⟨hlim,hk,none,0,by rw[h0],fun he=>absurd (List.eq_nil_of_length_eq_zero h0) he⟩
 ·refine⟨hlim,hk,_,_,rfl,fun _=>⟨b,0,fun i j=>(xs[i*k+j]?).getD undef,rfl,fun i j p hp=>?_⟩⟩
  obtain⟨u,hu,hr⟩:=hx i j p hp
  have hlt:i*k+j<els.length*k:=by have:=(List.getElem?_eq_some_iff.1 hu).1;rw[← ho.1];exact this
  simp only[hu,Option.getD_some,Nat.zero_add]
  exact⟨(ho'.cellAt _ hlt).trans hu,h1 u (List.mem_of_getElem? hu),hr⟩
theorem src_nil {C:Cx} {w:World} (k:Nat):Src C w (.slice none 0 0) k []:=⟨by simp,by simp,none,0,rfl,fun h=>absurd rfl h⟩
theorem Src.flat {C:Cx} {w:World} {v:Value} {k:Nat} {els:List (List PV)} (h:Src C w v k els) (hk0:0<k):
  ∃(a:Option Addr) (c:Nat) (news:List Value),v=.slice a els.length c∧news.length=els.length*k∧(els≠ []→∃ad,a=some ad∧∀j u,news[j]? =some u→w.cell? (ad.add j)=some u)∧(∀u∈news,u.oneCell'=true)∧
   ∀i j p,cellAt els i j=some p→∃u,news[i*k+j]? =some u∧RP C.N w u p:=by
 obtain⟨hlim,hk,a,c,rfl,hex⟩:=h
 by_cases he:els=[]
 ·subst he
  exact⟨a,c,[],rfl,by simp,fun h=>absurd rfl h,by simp,fun i j p hp=>by simp [cellAt] at hp⟩
 ·obtain⟨b,off,vs,rfl,hv⟩:=hex he
  have hcell:∀t,t<els.length*k→∃p,cellAt els (t / k) (t % k)=some p:=by
   intro t ht
   have h1:t / k<els.length:=(Nat.div_lt_iff_lt_mul hk0).2 ht
   have h2:t % k<(els[t / k]).length:=by rw[hk _ (List.getElem_mem h1)];exact Nat.mod_lt _ hk0
   exact⟨(els[t / k])[t % k],by simp [cellAt,List.getElem?_eq_getElem h1,List.getElem?_eq_getElem h2]⟩
  refine⟨_,c,(List.range (els.length*k)).map fun t=>vs (t / k) (t % k),rfl,by simp,fun _=>⟨_,rfl,fun j u hu=>?_⟩,fun u hu=>?_,fun i j p hp=>?_⟩
  ·simp only[List.getElem?_map,Option.map_eq_some_iff] at hu
   obtain⟨t,ht,rfl⟩:=hu
   rw[List.getElem?_eq_some_iff] at ht
   obtain⟨ht1,ht2⟩:=ht
   have:t=j:=by simpa using ht2.symm
   subst this
   obtain⟨p,hp⟩:=hcell t (by simpa using ht1)
   rw[addr_add,← (hv _ _ p hp).1]
   congr 2
   have:=Nat.div_add_mod t k
   rw[Nat.mul_comm] at this
   omega
  ·simp only[List.mem_map,List.mem_range] at hu
   obtain⟨t,ht,rfl⟩:=hu
   obtain⟨p,hp⟩:=hcell t ht
   exact(hv _ _ p hp).2.1
  ·have hj:j<k:=by
    unfold cellAt at hp
    cases h:els[i]? with
    |none=>rw[h] at hp;simp at hp
    |some e0=>rw[h] at hp;simp at hp;rw[← hk e0 (List.mem_of_getElem? h)];exact(List.getElem?_eq_some_iff.1 hp).1
   have hi:i<els.length:=by
    unfold cellAt at hp
    cases h:els[i]? with
    |none=>rw[h] at hp;simp at hp
    |some e0=>exact(List.getElem?_eq_some_iff.1 h).1
   have hlt:i*k+j<els.length*k:=by
    have:(i+1)*k≤els.length*k:=Nat.mul_le_mul_right k hi
    rw[Nat.add_mul,Nat.one_mul] at this;omega
   refine⟨vs i j,?_,(hv i j p hp).2.2⟩
   rw[List.getElem?_map,List.getElem?_range hlt]
   simp only[Option.map_some,Option.some.injEq]
   rw[Nat.mul_comm i k,Nat.mul_add_div hk0,Nat.div_eq_of_lt hj,Nat.mul_add_mod,Nat.mod_eq_of_lt hj,Nat.add_zero]
theorem run_append_none {t ty e:TypeId} {i:TypeInfo} (ht:P.underlying t=some (.slice e)) (hi:P.info? e=some i) {B k:Nat} {v:Value} {n c:Nat} {xs:List Value} (hown:w.ownsRow B e k v n xs):
  (Builtin.append_ #[t,t] ty #[v,.slice none 0 c]).run P w=.ok v w:=by
 rcases hown.2 with ⟨rfl,rfl⟩|⟨g,cap,cur,rfl,_,_,hnc,_⟩
 ·simp [Builtin.append_,run_underlying ht,sizeOf,typeInfo,hi,Builtin.lenOf,Builtin.firstCells]
 ·simp [Builtin.append_,run_underlying ht,sizeOf,typeInfo,hi,Builtin.lenOf,Builtin.firstCells,hnc,storeCells]
theorem cellAt_append {xs ys:List (List PV)} {i j:Nat} {p:PV} (h:cellAt (xs++ys) i j=some p):(i<xs.length∧cellAt xs i j=some p)∨(xs.length≤i∧cellAt ys (i - xs.length) j=some p):=by
 unfold cellAt at*
 by_cases hi:i<xs.length
 ·left;rw[List.getElem?_append_left hi] at h;exact⟨hi,h⟩
 ·right;rw[List.getElem?_append_right (by omega)] at h;exact⟨by omega,h⟩
theorem append_core (r:Rel g δ κ a w) {i:Nat} {e t:TypeId} {k bytes:Nat} {els news:List (List PV)} {v x z:Value} (ho:δ.ob i=some .row) (hv:OwnV (δ.cx g κ) w v i e k els) (hx:Src (δ.cx g κ) w x k news)
  (ht:P.underlying t=some (.slice e)) (hi:(P.info? e).map (fun i=>(i.size,i.zero,i.bytes))=some (k,some z,bytes)) (hzk:z.cells.size=k) (hk0:0<k) (hb:(els.length+news.length)*bytes≤140737488355328) (hl:els.length+news.length≤140737488355328):
  ∃v' w' κ',(Builtin.append_ #[t,t] ty #[v,x]).run P w=.ok v' w'∧Rel g (δ.mapV (AV.kill i)) κ' a w'∧OwnV ((δ.mapV (AV.kill i)).cx g κ') w' v' i e k (els++news):=by
 obtain⟨i0,hi0,hs0,hz0,hb0⟩:∃i0,P.info? e=some i0∧i0.size=k∧i0.zero=some z∧i0.bytes=bytes:=by
  cases h:P.info? e with
  |none=>rw[h] at hi;simp at hi
  |some i0=>rw[h] at hi;simp at hi;exact⟨i0,rfl,hi.1,hi.2.1,hi.2.2⟩
 obtain⟨hlr,hlim,hk,hblk,xs,hown,h1,hxs⟩:=hv
 obtain⟨xa,xc,nws,rfl,hnl,hne,hn1,hncell⟩:=hx.flat hk0
 have hml:els.length+news.length≤maxLen:=by simp only[maxLen];omega
 have hB:g.B≤w.heap.size:=r.hB
 -- the run
 obtain⟨v',w',hrun,hown',hgrow⟩:∃v' w',(Builtin.append_ #[t,t] ty #[v,.slice xa news.length xc]).run P w=.ok v' w'∧w'.ownsRow g.B e k v' (els.length+news.length) (xs++nws)∧w.grownBy w' v.ownBlock:=by
  by_cases hemp:news=[]
  ·subst hemp
   have hnw:nws=[]:=List.eq_nil_of_length_eq_zero (by simpa using hnl)
   subst hnw
   cases xa with
   |none=>exact⟨v,w,run_append_none ht hi0 hown,by simp only[List.length_nil,Nat.add_zero,List.append_nil];exact hown,⟨rfl,rfl,rfl,Nat.le_refl _,fun _ _ _=>rfl⟩⟩
   |some ad=>
    obtain⟨v',w',h2,h3,h4,_⟩:=run_append_own (P:=P) w g.B t ty e i0 z k bytes ht hi0 hz0 hs0 hb0 hzk hk0 v els.length xs hown ad 0 xc [] (by simp) (by simp) (by simp) (by simpa using hml) (by simpa using hb) hB
    exact⟨v',w',h2,by simpa using h3,h4⟩
  ·obtain⟨ad,rfl,hc⟩:=hne hemp
   obtain⟨v',w',h2,h3,h4,_⟩:=run_append_own (P:=P) w g.B t ty e i0 z k bytes ht hi0 hz0 hs0 hb0 hzk hk0 v els.length xs hown ad news.length xc nws hnl hc hn1 hml hb hB
   exact⟨v',w',h2,h3,h4⟩
 have hκi:∀b,v.ownBlock=some b→κ i=some b:=hblk
 have hT:Turns w w' (κ i):=by
  cases hob:v.ownBlock with
  |none=>rw[hob] at hgrow;exact⟨hgrow.os,hgrow.tape,hgrow.output,hgrow.size,fun k' hk' _=>hgrow.block k' hk' (by simp)⟩
  |some b=>rw[hob] at hgrow;rw[hκi b hob];exact Turns.grownBy hgrow
 -- the new block
 let κ':Nat→Option Nat:=upd κ i v'.ownBlock
 have hκo:∀j,j≠i→κ' j=κ j:=fun j hj=>by show upd _ _ _ _=_;simp [upd,Ne.symm hj]
 have hκ'i:κ' i=v'.ownBlock:=by show upd _ _ _ _=_;simp [upd]
 have hnew:∀b,κ' i=some b→(κ i=some b∨w.heap.size≤b)∧b<w'.heap.size∧∃c e,w'.heap[b]? =some (.cells c e (0,0)):=by
  intro b hb'
  rw[hκ'i] at hb'
  rcases hown'.2 with ⟨rfl,_⟩|⟨b',cap,cur,rfl,h2,h3,_⟩
  ·simp [Value.ownBlock] at hb'
  ·simp only[Value.ownBlock,Option.some.injEq] at hb'
   subst hb'
   refine⟨?_,(Array.getElem?_eq_some_iff.1 h3).1,cur,e,h3⟩
   by_cases hlt:w.heap.size≤b'
   ·exact .inr hlt
   ·left
    -- an old block:it is the row's own
    have hlt':b'<w.heap.size:=by omega
    rcases hown.2 with ⟨rfl,h0⟩|⟨b0,cap0,cur0,rfl,h4,h5,h6⟩
    ·exfalso
     -- v nil:the run made a new block or gave nil back
     by_cases hemp:news=[]
     ·subst hemp
      have hnw:nws=[]:=List.eq_nil_of_length_eq_zero (by simpa using hnl)
      have hr2:(Builtin.append_ #[t,t] ty #[.slice none 0 0,.slice xa 0 xc]).run P w=.ok (.slice none 0 0) w:=by
       cases xa with
       |none=>exact run_append_none ht hi0 hown
       |some ad=>simp [Builtin.append_,run_underlying ht,sizeOf,typeInfo,hi0,Builtin.lenOf,Builtin.firstCells,loadCells,loadCellsFrom]
      simp only[List.length_nil] at hrun
      rw[hr2] at hrun
      simp at hrun
     ·obtain⟨ad,rfl,hc⟩:=hne hemp
      have hpos:0<news.length:=List.length_pos_iff.2 hemp
      have hr2:=run_append_nil (P:=P) w t ty e i0 z ht hi0 hz0 ad news.length xc nws (by rw[hs0];exact hnl) hc hpos (by simp only[maxLen] at hml;omega) (by rw[hb0];have:news.length*bytes≤(els.length+news.length)*bytes:=Nat.mul_le_mul_right _ (by omega);omega)
      rw[hr2] at hrun
      simp only[Result.ok.injEq,Value.slice.injEq,Option.some.injEq,Addr.mk.injEq] at hrun
      omega
    ·rw[hκi b0 rfl]
     by_cases hbb:b'=b0
     ·rw[hbb]
     ·exfalso
      -- the run gave back the old block or a new one
      by_cases hroom:els.length+news.length≤cap0
      ·by_cases hemp:news=[]
       ·subst hemp
        have hnw:nws=[]:=List.eq_nil_of_length_eq_zero (by simpa using hnl)
        cases xa with
        |none=>
         have hr2:=run_append_none (P:=P) (c:=xc) (ty:=ty) ht hi0 hown
         simp only[List.length_nil] at hrun
         rw[hr2] at hrun
         simp only[Result.ok.injEq,Value.slice.injEq,Option.some.injEq,Addr.mk.injEq] at hrun
         exact hbb hrun.1.1.1.symm
        |some ad=>
         have hr2:=run_append_room (P:=P) w t ty e i0 ht hi0 b0 els.length cap0 cur0 h5 ad 0 xc [] (by simp) (by simp) (by simp) (by omega) (by rw[hs0];simp [h6.2.2.1];exact Nat.mul_le_mul_right _ h6.1)
         simp only[List.length_nil] at hrun
         rw[hr2] at hrun
         simp only[Result.ok.injEq,Value.slice.injEq,Option.some.injEq,Addr.mk.injEq] at hrun
         exact hbb hrun.1.1.1.symm
       ·obtain⟨ad,rfl,hc⟩:=hne hemp
        have hr2:=run_append_room (P:=P) w t ty e i0 ht hi0 b0 els.length cap0 cur0 h5 ad news.length xc nws (by rw[hs0];exact hnl) hc hn1 hroom (by rw[hs0,hnl,h6.2.2.1,← Nat.add_mul];exact Nat.mul_le_mul_right _ hroom)
        rw[hr2] at hrun
        simp only[Result.ok.injEq,Value.slice.injEq,Option.some.injEq,Addr.mk.injEq] at hrun
        exact hbb hrun.1.1.1.symm
      ·have hemp:news≠ []:=by intro h;subst h;simp at hroom;have:=h6.1;omega
       obtain⟨ad,rfl,hc⟩:=hne hemp
       have hr2:=run_append_grow (P:=P) w t ty e i0 z ht hi0 hz0 ⟨b0,0,none⟩ els.length cap0 xs (by rw[hs0];exact hown.1) (hown.cells (g:=b0) rfl) ad news.length xc nws (by rw[hs0];exact hnl) hc (by omega) (by simp only[maxLen] at hml;omega) (by rw[hb0];exact growslice_fits (by omega) hb)
       rw[hr2] at hrun
       simp only[Result.ok.injEq,Value.slice.injEq,Option.some.injEq,Addr.mk.injEq] at hrun
       omega
 obtain⟨r',G⟩:=r.row ho hκo hT hnew (AV.kill i) rfl (fun G v av h=>h.kill G)
 refine⟨v',w',κ',hrun,r',?_⟩
 refine⟨?_,by rw[List.length_append];exact hl,fun c hc=>(List.mem_append.1 hc).elim (hk c) (hx.hk c),fun b hb'=>hκ'i.trans hb',xs++nws,by rw[List.length_append];exact hown',fun u hu=>(List.mem_append.1 hu).elim (h1 u) (hn1 u),fun i' j p hp=>?_⟩
 ·show(δ.mapV _).ob i=_
  rw[ob_mapV,ho];rfl
 ·rcases cellAt_append hp with ⟨hlt,h2⟩|⟨hle,h2⟩
  ·obtain⟨u,h3,h4⟩:=hxs i' j p h2
   refine⟨u,?_,G.rp (C:=(δ.cx g κ).less i) h4⟩
   rw[List.getElem?_append_left (List.getElem?_eq_some_iff.1 h3).1];exact h3
  ·obtain⟨u,h3,h4⟩:=hncell (i' - els.length) j p h2
   refine⟨u,?_,G.rp (C:=(δ.cx g κ).less i) h4⟩
   have hxl:xs.length=els.length*k:=hown.1
   have he:i'*k+j=xs.length+((i' - els.length)*k+j):=by
    rw[hxl,← Nat.add_assoc,← Nat.add_mul]
    congr 2
    omega
   rw[he,List.getElem?_append_right (by omega),Nat.add_sub_cancel_left]
   exact h3
end Go.Ab
/- Append,make,cut and store as operations. -/
namespace Go.Ab
open Go Go.RowKit
variable {q:Md} {P:Program} {g:Ghost} {δ:DS} {κ:Nat→Option Nat} {a:Act} {w:World}
variable {gd:Option (Tmp×Bool)} {ops:Array Oper} {rest:List Oper} {Q:Exit→DS→Prop} {dst:Option Nat} {ty:TypeId} {pos:String} {af:Array Edge}
theorem run_append_op {gd:Option (Tmp×Bool)} {s x:Operand} {t:TypeId} {ρ:Operand→Value} {v:Value} {w':World} (h:(Builtin.append_ #[t,t] ty #[ρ s,ρ x]).run P w=.ok v w'):
  (execOp ρ ⟨dst,.call {callee:=.builtin .append,args:= #[s,x],argTypes:= #[t,t]},ty,pos,af,gd⟩).run P w=.ok (.value v) w':=by
 simp only[execOp,resolve,invoke,builtin,Sem.run_bind,Sem.run_pure,Result.andThen_ok,List.map_toArray,List.map_cons,List.map_nil,h]
inductive Srcs (δ:DS) (x:Operand) (k:Nat):List (List PV)→Prop
 |pv {els:List (List PV)} (h:δ.ev x=.pv (.slice k els)):Srcs δ x k els
 |own {j:Nat} {e:TypeId} {els:List (List PV)} (h:δ.ev x=.own j e k els):Srcs δ x k els
 |nil (h:δ.ev x=.pv (.lit (.slice none 0 0))):Srcs δ x k []
theorem Srcs.src {x:Operand} {k:Nat} {els:List (List PV)} (h:Srcs δ x k els) (r:Rel g δ κ a w) (ho:okT x=true):Src (δ.cx g κ) w (a.eval x) k els:=by
 cases h with
 |pv h=>exact(r.ra h ho).pv_inv.src
 |own h=>exact(r.ra h ho).own_inv.src
 |nil h=>rw[r.lit h ho];exact src_nil k
theorem Eff.append {s x:Operand} {t e:TypeId} {i k bytes:Nat} {z:Value} {els news:List (List PV)} (hs:δ.ev s=.own i e k els) (hx:Srcs δ x k news) (hr:δ.ob i=some .row) (ht:P.underlying t=some (.slice e))
  (hi:(P.info? e).map (fun i=>(i.size,i.zero,i.bytes))=some (k,some z,bytes)) (hzk:Nat.beq z.cells.size k=true) (hk0:Nat.blt 0 k=true) (ho:okT s=true) (ho':okT x=true) (hd:okD δ.n dst=true)
  (hb:(els.length+news.length)*bytes≤140737488355328) (hl:els.length+news.length≤140737488355328):
  Eff P g ⟨dst,.call {callee:=.builtin .append,args:= #[s,x],argTypes:= #[t,t]},ty,pos,af,gd⟩ δ ((δ.mapV (AV.kill i)).putd dst (.own i e k (els++news))):=by
 intro κ a w r
 obtain⟨v',w',κ',h1,h2,h3⟩:=append_core (ty:=ty) r hr (r.ra hs ho).own_inv (hx.src r ho') ht hi (Nat.eq_of_beq_eq_true hzk) (by simpa using hk0) hb hl
 exact .inl ⟨_,_,_,_,run_append_op h1,.inl rfl,h2.putd (okD_spec hd) (.own h3)⟩
theorem AOps.append {s x:Operand} {t e:TypeId} {i k bytes:Nat} {z:Value} {els news:List (List PV)} (hs:δ.ev s=.own i e k els) (hx:Srcs δ x k news) (hr:δ.ob i=some .row) (ht:P.underlying t=some (.slice e))
  (hi:(P.info? e).map (fun i=>(i.size,i.zero,i.bytes))=some (k,some z,bytes)) (hzk:Nat.beq z.cells.size k=true) (hk0:Nat.blt 0 k=true) (ho:okT s=true) (ho':okT x=true) (hd:okD δ.n dst=true)
  (hb:(els.length+news.length)*bytes≤140737488355328) (hl:els.length+news.length≤140737488355328)
  (hK:AOps .plain P g ops rest Q ((δ.mapV (AV.kill i)).putd dst (.own i e k (els++news)))):AOps .plain P g ops (⟨dst,.call {callee:=.builtin .append,args:= #[s,x],argTypes:= #[t,t]},ty,pos,af,none⟩::rest) Q δ:=
 AOps.eff rfl rfl (Eff.append hs hx hr ht hi hzk hk0 ho ho' hd hb hl) hK
theorem Eff.make {t e:TypeId} {x y:Operand} {kx ky:IntKind} {k bytes n:Nat} {z:Value} {c0:List PV} (hx:δ.ev x=.pv (.lit (.int kx (n:Int)))) (hy:δ.ev y=.pv (.lit (.int ky (n:Int)))) (ht:P.underlying t=some (.slice e))
  (hi:(P.info? e).map (fun i=>(i.size,i.zero,i.bytes))=some (k,some z,bytes)) (hc0:z.cells.toList.map PV.lit=c0) (hzk:Nat.beq z.cells.size k=true) (hk0:Nat.blt 0 k=true) (h1:z.cells.toList.all (·.oneCell')=true)
  (ho:okT x=true) (ho':okT y=true) (hd:okD δ.n dst=true) (hb:bytes*n≤281474976710656) (hl:n≤140737488355328):
  Eff P g ⟨dst,.makeSlice t x y,ty,pos,af,gd⟩ δ ((δ.addOb .row).putd dst (.own δ.nx e k (List.replicate n c0))):=by
 intro κ a w r
 have hk':0<k:=by simpa using hk0
 have hzk':z.cells.size=k:=Nat.eq_of_beq_eq_true hzk
 obtain⟨i0,hi0,hs0,hz0,hb0⟩:∃i0,P.info? e=some i0∧i0.size=k∧i0.zero=some z∧i0.bytes=bytes:=by
  cases h:P.info? e with
  |none=>rw[h] at hi;simp at hi
  |some i0=>rw[h] at hi;simp at hi;exact⟨i0,rfl,hi.1,hi.2.1,hi.2.2⟩
 have hbb:(i0.bytes:Int)*(n:Int)≤281474976710656:=by
  rw[hb0]
  have:((bytes*n:Nat):Int)≤281474976710656:=by omega
  rwa [Int.natCast_mul] at this
 have hrun:=run_make (P:=P) w t e i0 z ht hi0 hz0 kx ky (n:Int) (n:Int) (by omega) (Int.le_refl _) hbb (by omega)
 simp only[Int.toNat_natCast,hs0] at hrun
 have hrun':(execOp a.eval ⟨dst,.makeSlice t x y,ty,pos,af,gd⟩).run P w=.ok (.value (.slice (some ⟨w.heap.size,0,none⟩) n n)) (w.alloc (.cells (madeCells z.cells (n*k)) e)):=by
  simp only[execOp,r.lit hx ho,r.lit hy ho',Sem.run_bind,hrun,Result.andThen_ok,Sem.run_pure]
 obtain⟨r',G⟩:=r.grow .row (.cells (madeCells z.cells (n*k)) e) (fun C G hκ b hb=>by
  have:w.heap.size=b:=Option.some.inj (hκ.symm.trans hb)
  subst this
  exact⟨_,e,heap_alloc_new w _⟩)
 have hrow:=World.ownsRow_lit (base:=g.B) (e:=e) (size:=k) w (madeCells z.cells (n*k)) n r.hB (by simp only[maxLen];omega) (size_madeCells _ _)
 have hmade:∀t,t<n*k→∃hm:t % k<z.cells.size,(madeCells z.cells (n*k)).toList[t]? =some (z.cells[t % k]):=by
  intro t ht
  have hm:t % k<z.cells.size:=by rw[hzk'];exact Nat.mod_lt _ hk'
  refine⟨hm,?_⟩
  simp only[madeCells,Array.getElem?_toList,Array.getElem?_map,Array.getElem?_range,ht,if_true,Option.map_some,Option.some.injEq]
  rw[hzk',getElem!_pos z.cells _ hm]
 refine .inl ⟨_,_,_,_,hrun',.inl rfl,r'.putd (okD_spec hd) (.own ?_)⟩
 refine⟨by show(δ.addOb .row).ob _=_;rw[ob_addOb,if_pos rfl],by simpa using hl,fun c hc=>?_,fun b hb=>?_,_,by rw[List.length_replicate];exact hrow,fun u hu=>?_,fun i' j p hp'=>?_⟩
 ·rw[List.mem_replicate] at hc;rw[hc.2,← hc0];simp [hzk']
 ·simp only[Value.ownBlock,Option.some.injEq] at hb
  subst hb
  show upd _ _ _ _=_
  simp [upd]
 ·obtain⟨t,ht⟩:=List.getElem?_of_mem hu
  have hlt:t<n*k:=by have:=(List.getElem?_eq_some_iff.1 ht).1;simpa [size_madeCells] using this
  obtain⟨hm,h2⟩:=hmade t hlt
  rw[h2] at ht
  cases ht
  exact(List.all_eq_true.1 h1) _ (by simp)
 ·unfold cellAt at hp'
  rw[List.getElem?_replicate] at hp'
  split at hp'
  ·rename_i hi'
   simp only[Option.bind_some] at hp'
   rw[← hc0,List.getElem?_map,Option.map_eq_some_iff] at hp'
   obtain⟨u,hu,rfl⟩:=hp'
   have hj:j<k:=by have:=(List.getElem?_eq_some_iff.1 hu).1;rw[← hzk'];simpa using this
   have hlt:i'*k+j<n*k:=by
    have:(i'+1)*k≤n*k:=Nat.mul_le_mul_right k hi'
    rw[Nat.add_mul,Nat.one_mul] at this;omega
   obtain⟨hm,h2⟩:=hmade _ hlt
   refine⟨u,?_,.lit _⟩
   rw[h2]
   have:(i'*k+j) % k=j:=by rw[Nat.mul_comm,Nat.mul_add_mod,Nat.mod_eq_of_lt hj]
   simp only[this]
   rw[Array.getElem?_toList] at hu
   exact(Array.getElem?_eq_getElem (by omega)).symm.trans hu
  ·simp at hp'
theorem AOps.make {t e:TypeId} {x y:Operand} {kx ky:IntKind} {k bytes n:Nat} {z:Value} {c0:List PV} (hx:δ.ev x=.pv (.lit (.int kx (n:Int)))) (hy:δ.ev y=.pv (.lit (.int ky (n:Int)))) (ht:P.underlying t=some (.slice e))
  (hi:(P.info? e).map (fun i=>(i.size,i.zero,i.bytes))=some (k,some z,bytes)) (hc0:z.cells.toList.map PV.lit=c0) (hzk:Nat.beq z.cells.size k=true) (hk0:Nat.blt 0 k=true) (h1:z.cells.toList.all (·.oneCell')=true)
  (ho:okT x=true) (ho':okT y=true) (hd:okD δ.n dst=true) (hb:bytes*n≤281474976710656) (hl:n≤140737488355328)
  (hK:AOps .plain P g ops rest Q ((δ.addOb .row).putd dst (.own δ.nx e k (List.replicate n c0)))):AOps .plain P g ops (⟨dst,.makeSlice t x y,ty,pos,af,none⟩::rest) Q δ:=
 AOps.eff rfl rfl (Eff.make hx hy ht hi hc0 hzk hk0 h1 ho ho' hd hb hl) hK
theorem AOps.slice {t e:TypeId} {x:Operand} {lo hi:Option Operand} {k l h:Nat} {els:List (List PV)} (hx:δ.ev x=.pv (.slice k els)) (ht:P.underlying t=some (.slice e)) (hk:(P.info? e).map (·.size)=some k)
  (hlo:match lo with|some y=>okT y=true∧δ.ev y=litI (l:Nat)|none=>l=0) (hhi:match hi with|some y=>okT y=true∧δ.ev y=litI (h:Nat)|none=>h=els.length) (hlh:l≤h) (hh:h≤els.length)
  (ho:okT x=true) (hd:okD δ.n dst=true) (hK:AOps q P g ops rest Q (δ.putd dst (.pv (.slice k ((els.drop l).take (h - l)))))):AOps q P g ops (⟨dst,.slice t x lo hi none,ty,pos,af,none⟩::rest) Q δ:=
 AOps.valw _ hd (fun κ a w r=>by
  have h1:=(r.ra hx ho).pv_inv
  generalize hv:a.eval x=v at h1
  obtain⟨i0,hi0,hk0⟩:∃i0,P.info? e=some i0∧i0.size=k:=by
   cases h:P.info? e with
   |none=>rw[h] at hk;simp at hk
   |some i0=>rw[h] at hk;exact⟨i0,rfl,by simpa using hk⟩
  cases h1 with
  | @slice a0 len cap _ _ b off vs hl hcap hb ha hkk hc hr=>
   have hlo':lo.map a.eval=lo.map fun _=>Value.int .i64 l:=by
    cases lo with
    |none=>rfl
    |some y=>simp only[Option.map_some,Option.some.injEq];exact r.lit hlo.2 hlo.1
   have hhi':hi.map a.eval=hi.map fun _=>Value.int .i64 h:=by
    cases hi with
    |none=>rfl
    |some y=>simp only[Option.map_some,Option.some.injEq];exact r.lit hhi.2 hhi.1
   have hb1:∀w,(Instr.sliceBounds true len cap (lo.map a.eval) (hi.map a.eval) none).run P w=.ok (l,h,cap) w:=by
    intro w
    rw[hlo',hhi']
    have e1:(0:Int)≤(h:Int)∧(h:Int)≤(cap:Int):=by omega
    have e2:(0:Int)≤(l:Int)∧(l:Int)≤(h:Int):=by omega
    cases lo with
    |none=>
     simp only at hlo
     subst hlo
     cases hi with
     |none=>simp only at hhi;subst hhi;subst hl;simp [Instr.sliceBounds]
     |some y=>
      simp [Instr.sliceBounds,Instr.sliceBound,asIntOf,e1]
      intro h0;exfalso;omega
    |some y0=>
     cases hi with
     |none=>simp only at hhi;subst hhi;subst hl;simp [Instr.sliceBounds,Instr.sliceBound,asIntOf];omega
     |some y=>
      have n1:¬cap<h:=by omega
      have n2:¬h<l:=by omega
      simp [Instr.sliceBounds,Instr.sliceBound,asIntOf,n1,n2,show h≤cap by omega,show l≤h by omega]
   have hrun:∀w,(execOp a.eval ⟨dst,.slice t x lo hi none,ty,pos,af,none⟩).run P w=.ok (.value (.slice (if cap=l then a0 else a0.map (·.add (l*k))) (h - l) (cap - l))) w:=by
    intro w
    simp only[execOp,Instr.sliceAt,Instr.slice,run_underlying ht,hv,Sem.run_bind,Result.andThen_ok,Option.map_none,hb1,sizeOf,typeInfo,Sem.run_pure]
    simp [hi0,hk0]
   refine⟨_,fun w' _=>hrun w',.pv ?_⟩
   have hll:((els.drop l).take (h - l)).length=h - l:=by simp;omega
   have hcell:∀i j,cellAt ((els.drop l).take (h - l)) i j=(if i<h - l then cellAt els (l+i) j else none):=by
    intro i j
    unfold cellAt
    rw[List.getElem?_take]
    split
    ·rw[List.getElem?_drop]
    ·rfl
   refine .slice b (off+l*k) (fun i j=>vs (l+i) j) hll (by omega) (by omega) (fun hne=>?_) (fun c hc=>hkk c (List.mem_of_mem_drop (List.mem_of_mem_take hc))) (fun i j p hp=>?_) (fun i j p hp=>?_)
   ·have hels:els≠ []:=by intro e;subst e;simp at hne
    obtain⟨h3,h4,h5⟩:=ha hels
    have:¬cap=l:=by intro e;apply hne;apply List.eq_nil_of_length_eq_zero;rw[hll];omega
    rw[if_neg this,h3]
    exact⟨by simp [addr_add],h4,h5⟩
   ·rw[hcell] at hp
    split at hp
    ·have h6:=hc (l+i) j p hp
     have e0:off+l*k+i*k+j=off+(l+i)*k+j:=by rw[Nat.add_mul];omega
     rw[e0];exact h6
    ·cases hp
   ·rw[hcell] at hp
    split at hp
    ·exact hr (l+i) j p hp
    ·cases hp) hK
end Go.Ab
