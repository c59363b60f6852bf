/- A small logic of abstract states over the model's weakest preconditions: what a function's slots, variables and rows hold, told without addresses. -/
import Derived.WalkKit
import Derived.Below
import Derived.Deep.Quiet
import Derived.OrdersHeld
import Derived.Laws.OwnMore
import Derived.RangeFuncIn
import Derived.RangeFuncRecord
import Derived.RangeFuncLeaves
import Derived.RangeFuncCalls
import Derived.TacticsIn
set_option linter.unusedSimpArgs false
set_option linter.unusedVariables false
open Nat renaming lt_of_lt_of_le→aH,beq→aI,eq_of_beq_eq_true→aJ,le_refl→aM,le_trans→aN,lt_irrefl→aU,blt→aV,zero_add→a6,add_zero→a8,zero_le→bg,ble→bu,add_assoc→bE,add_mul→bH,one_mul→bI,mod_lt→bN,le_mul_of_pos_right→bP,mul_comm→bQ,mul_le_mul_right→bR,mul_add_mod→bS,mod_eq_of_lt→bT
open Array renaming getElem?_eq_getElem→aK,getElem?_eq_some_iff→aL,getD_eq_getD_getElem?→aO,getElem?_setIfInBounds→aP,ext→bk,mapM_eq_foldlM→bn,getElem?_toList→bA,range→bK,getElem?_map→bL,getElem?_range→bM
open List renaming getElem?_append_left→aQ,mem_of_getElem?→aR,getElem?_append_right→aS,getElem?_eq_some_iff→aT,length_map→aX,getElem?_map→aY,getElem?_eq_getElem→aZ,range→a7,getElem?_toArray→ba,getElem?_range→bd,eq_nil_of_length_eq_zero→bf,map_toArray→bj,append_nil→bp,cons_append→bq,mem_cons→br,mem_map→bt,getElem?_of_mem→bx,map_cons→bz,all_eq_true→bB,getElem?_take→bC,getElem?_drop→bD,getElem?_set→bF,mem_of_mem_drop→bJ,length_nil→bU,length_append→bV,mem_append→bW,replicate→bX
open Bool renaming and_eq_true→aW
open Option renaming map_eq_some_iff→bc,getD_some→bh,map_some→bm,bind_some→bG
namespace Go.Ab
open Go Go.RowKit
theorem aG {A:Prop} (h:A:=by omega):A:=h
inductive PV where
 |any
 |lit (v:Value)
 |slice (k:Nat) (e7:List (List PV))
 |mp (l:List (Value×PV))
 |clip (k:Nat) (e7:List (List PV))
def rj (es:Array MapEntry) (clock:Nat):Prop:=clock=es.size∧∀(j:Nat) (e:MapEntry),es[j]? =some e→e.born=j
def cellAt (e7:List (List PV)) (i j:Nat):Option PV:=(e7[i]?).bind (·[j]?)
def lim:Nat:=140737488355328
inductive RP (N:Nat→Prop) (w:World):Value→PV→Prop
 |any (v:Value):RP N w v .any
 |lit (v:Value):RP N w v (.lit v)
 |slice {a:Option Addr} {len cap k:Nat} {e7:List (List PV)} (b off:Nat) (vs:Nat→Nat→Value) (hl:e7.length=len) (p_:len≤cap) (hb:len≤140737488355328)
   (ha:e7≠ []→a=some ⟨b,off,none⟩∧N b∧b<w.heap.size) (hk:∀c∈e7,c.length=k)
   (hc:∀i j p,cellAt e7 i j=some p→w.cell? ⟨b,off+i*k+j,none⟩=some (vs i j)∧(vs i j).oneCell'=true)
   (hr:∀i j p,cellAt e7 i j=some p→RP N w (vs i j) p):RP N w (.slice a len cap) (.slice k e7)
 |mp {l:List (Value×PV)} (b clock:Nat) (es:Array MapEntry) (hN:N b) (hb:b<w.heap.size) (hh:w.heap[b]? =some (.map es clock)) (hs:es.size=l.length) (ij:rj es clock)
   (hk:∀(j:Nat) (e:MapEntry) (p:Value×PV),es[j]? =some e→l[j]? =some p→e.key=p.1)
   (hr:∀(j:Nat) (e:MapEntry) (p:Value×PV),es[j]? =some e→l[j]? =some p→RP N w e.val p.2):RP N w (.map (some b)) (.mp l)
 /-- a slice whose capacity is its length -/
 |clip {a:Option Addr} {len k:Nat} {e7:List (List PV)} (h:RP N w (.slice a len len) (.slice k e7)):RP N w (.slice a len len) (.clip k e7)
theorem HH {e7:List (List PV)} {i j:Nat} {p:PV} (h:cellAt e7 i j=some p):e7≠ []:=by
 intro e;subst e;simp [cellAt] at h
theorem RP.mono {N N':Nat→Prop} {w w':World} {v:Value} {p:PV} (h:RP N w v p) (hs:w.heap.size≤w'.heap.size)
  (hN:∀b,b<w.heap.size→N b→N' b∧w'.heap[b]? =w.heap[b]?):RP N' w' v p:=by
 induction h with
 |any v=>exact .any v
 |lit v=>exact .lit v
 |slice b off vs hl p_ hb ha hk hc hr ih=>
  refine .slice b off vs hl p_ hb (fun he=>?_) hk (fun i j p hp=>?_) ih
  ·obtain⟨h1,h2,h3⟩:=ha he
   exact⟨h1,(hN b h3 h2).1,aH h3 hs⟩
  ·obtain⟨h1,h2,h3⟩:=ha (HH hp)
   exact⟨(World.cell?_of_block (w:=w) (a:=⟨b,off+i*_+j,none⟩) (hN b h3 h2).2).trans (hc i j p hp).1,(hc i j p hp).2⟩
 |mp b clock es JE hb hh Is ij hk hr ih=>exact .mp b clock es (hN b hb JE).1 (aH hb hs) ((hN b hb JE).2.trans hh) Is ij hk ih
 |clip h ih=>exact .clip ih
inductive AV where
 |any
 |pv (p:PV)
 |own (i:Nat) (e:TypeId) (k:Nat) (e7:List (List PV))
 |ptr (i:Nat) (off:Nat)
 |gy (cells:List PV)
 |gY (i:Nat) (e:TypeId) (k:Nat) (e7:List (List PV)) (idx:Nat)
 |agg (cs:List AV)
 |iR (vs:List AV)
 |jd (fn:Fn) (first:List AV) (cap:List AV)
 |gH (i:Nat)
 |kS (i:Nat)
structure eY where
 B:Nat
 w0:World
 N0:Nat→Prop
 held:Nat→Value
 ro:Option Nat
 mks:List Nat
 wt:Option (World×(Nat→Prop)×Nat)
 fr:Nat→Prop
 w1:World
 /-- calls deferred by the frame itself. -/
 base:List Deferred:=[]
inductive u9 where
 |ready
 |busy
 |done (c:Code)
 |pL
structure PT where
 t:TypeId
 k:Nat
instance:Coe TypeId PT:=⟨fun t=>⟨t,1⟩⟩
def nK (e:PT) (xs:List Value):Nat:=match e.k with
 |1=>xs.length
 |k=>xs.length / k
inductive Ob where
 |row
 |box (cells:List AV)
 |mp (es:List (Value×AV))
 |mpl (es:List (Value×AV)) (k:Value) (v:AV)
 |it (l:List (Value×PV)) (seen:List Nat)
 |loop (l:Nat) (tm:Array Value) (ps:Array Tmp) (iQ body:Code) (st:u9)
 |lit (T:TypeId) (vals:Array Value)
 |fm (e:PT) (rows:Nat→Value×List Value)
structure DS where
 n:Nat
 env:List (Nat×AV)
 fY:List (Nat×Option Ob)
 nx:Nat
def look (e:List (Nat×AV)) (j:Nat):AV:=
 match e with
 |[]=> .any
 |(i,v)::r=>bif aI i j then v else look r j
def fc (e:List (Nat×Option Ob)) (j:Nat):Option Ob:=
 match e with
 |[]=>none
 |(i,v)::r=>bif aI i j then v else fc r j
def DS.get (δ:DS) (j:Nat):AV:=look δ.env j
def DS.ob (δ:DS) (i:Nat):Option Ob:=fc δ.fY i
def DS.put (δ:DS) (d:Nat) (v:AV):DS:={δ with env:=(d,v)::δ.env}
def DS.eZ (δ:DS) (d:Option Nat) (v:AV):DS:=match d with|some d=>δ.put d v|none=>δ
def DS.gl (δ:DS) (i:Nat) (o:Option Ob):DS:={δ with fY:=(i,o)::δ.fY}
def DS.fM (δ:DS) (o:Ob):DS:={δ with fY:=(δ.nx,some o)::δ.fY,nx:=δ.nx+1}
def DS.ev (δ:DS):Operand→AV
 |.tmp t=>δ.get t
 |.const v=> .pv (.lit v)
 |.global _=> .any
 |.func f=> .jd (.func f) [] []
theorem fC (i:Nat) (v:AV) (e:List (Nat×AV)) (j:Nat):look ((i,v)::e) j=if i=j then v else look e j:=by
 by_cases h:i=j
 ·subst h;simp [look]
 ·have hb:aI i j=false:=by cases hh:aI i j with|false=>rfl|true=>exact absurd (aJ hh) h
  rw[if_neg h]
  show(bif aI i j then v else look e j)=_
  rw[hb];rfl
theorem fj (i:Nat) (v:Option Ob) (e:List (Nat×Option Ob)) (j:Nat):fc ((i,v)::e) j=if i=j then v else fc e j:=by
 by_cases h:i=j
 ·subst h;simp [fc]
 ·have hb:aI i j=false:=by cases hh:aI i j with|false=>rfl|true=>exact absurd (aJ hh) h
  rw[if_neg h]
  show(bif aI i j then v else fc e j)=_
  rw[hb];rfl
structure Kp where
 f:Nat→Option Nat
 F:Nat→Nat→Prop
instance:CoeFun Kp fun _=>Nat→Option Nat:=⟨Kp.f⟩
def Kp.Fs (κ:Kp) (b:Nat):Prop:=∃i,κ.F i b
structure Cx where
 B:Nat
 κ:Kp
 N:Nat→Prop
 Lr:Nat→Prop
 Lb:Nat→Prop
structure jB (C:Cx) (w:World) (v:Value) (i:Nat) (e:TypeId) (k:Nat) (e7:List (List PV)):Prop where
 live:C.Lr i
 lim:e7.length≤140737488355328
 hk:∀c∈e7,c.length=k
 yD:∀b,v.ownBlock=some b→C.κ i=some b
 row:∃xs,w.ownsRow C.B e k v e7.length xs∧(∀u∈xs,u.oneCell'=true)∧∀i' j p,cellAt e7 i' j=some p→∃u,xs[i'*k+j]? =some u∧RP C.N w u p
inductive RA (C:Cx) (w:World):Value→AV→Prop
 |any (v:Value):RA C w v .any
 |pv {v:Value} {p:PV} (h:RP C.N w v p):RA C w v (.pv p)
 |own {v:Value} {i:Nat} {e:TypeId} {k:Nat} {e7:List (List PV)} (h:jB C w v i e k e7):RA C w v (.own i e k e7)
 |ptr {i off b:Nat} (hl:C.Lb i) (hκ:C.κ i=some b):RA C w (.pointer (some ⟨b,off,none⟩)) (.ptr i off)
 |gy {cells:List PV} (b off:Nat) (vs:Nat→Value) (hN:C.N b) (hb:b<w.heap.size) (hc:∀(j:Nat) (p:PV),cells[j]? =some p→w.cell? ⟨b,off+j,none⟩=some (vs j)∧(vs j).oneCell'=true)
   (hr:∀(j:Nat) (p:PV),cells[j]? =some p→RP C.N w (vs j) p):RA C w (.pointer (some ⟨b,off,none⟩)) (.gy cells)
 |gY {i:Nat} {e:TypeId} {k:Nat} {e7:List (List PV)} {idx b cap:Nat} (hi:idx<e7.length) (h:jB C w (.slice (some ⟨b,0,none⟩) e7.length cap) i e k e7):
   RA C w (.pointer (some ⟨b,idx*k,none⟩)) (.gY i e k e7 idx)
 |agg {vs:Array Value} {cs:List AV} (hs:vs.size=cs.length) (h:∀(j:Nat) (u:Value) (c:AV),vs[j]? =some u→cs[j]? =some c→RA C w u c):RA C w (.agg vs) (.agg cs)
 |iR {vs:Array Value} {cs:List AV} (hs:vs.size=cs.length) (h:∀(j:Nat) (u:Value) (c:AV),vs[j]? =some u→cs[j]? =some c→RA C w u c):RA C w (.tuple vs) (.iR cs)
 |jd {fn:Fn} {vs us:Array Value} {cs ds:List AV} (hs:vs.size=cs.length) (h:∀(j:Nat) (u:Value) (c:AV),vs[j]? =some u→cs[j]? =some c→RA C w u c)
   (ht:us.size=ds.length) (h':∀(j:Nat) (u:Value) (c:AV),us[j]? =some u→ds[j]? =some c→RA C w u c):RA C w (.func fn vs us) (.jd fn cs ds)
 |gH {i b:Nat} (hl:C.Lb i) (hκ:C.κ i=some b):RA C w (.map (some b)) (.gH i)
 |kS {i b:Nat} (hl:C.Lb i) (hκ:C.κ i=some b):RA C w (.func (.yield b) #[] #[]) (.kS i)
structure j6 (C:Cx) (w:World) (C':Cx) (w':World):Prop where
 B:C'.B=C.B
 size:w.heap.size≤w'.heap.size
 N:∀b,b<w.heap.size→C.N b→C'.N b∧w'.heap[b]? =w.heap[b]?
 Lr:∀i,C.Lr i→C'.Lr i∧C'.κ i=C.κ i∧∀b,C.κ i=some b→w'.heap[b]? =w.heap[b]?
 Lb:∀i,C.Lb i→C'.Lb i∧C'.κ i=C.κ i
theorem j6.rp {C C':Cx} {w w':World} (g:j6 C w C' w') {v:Value} {p:PV} (h:RP C.N w v p):RP C'.N w' v p:=h.mono g.size g.N
theorem j6.Iy {C C':Cx} {w w':World} (g:j6 C w C' w') {v:Value} {i:Nat} {e:TypeId} {k:Nat} {e7:List (List PV)} (h:jB C w v i e k e7):jB C' w' v i e k e7:=by
 obtain⟨hl,mP,hk,hb,xs,ho,h1,hx⟩:=h
 obtain⟨l1,l2,l3⟩:=g.Lr i hl
 refine⟨l1,mP,hk,fun b hv=>l2.trans (hb b hv),xs,?_,h1,fun i' j p hp=>?_⟩
 ·rw[g.B]
  refine⟨ho.1,?_⟩
  rcases ho.2 with hn|⟨b,cap,cur,rfl,h2,h3,h4⟩
  ·exact .inl hn
  ·exact .inr ⟨b,cap,cur,rfl,h2,(l3 b (hb b rfl)).trans h3,h4⟩
 ·obtain⟨u,h1,h2⟩:=hx i' j p hp
  exact⟨u,h1,g.rp h2⟩
theorem j6.ra {C C':Cx} {w w':World} (g:j6 C w C' w') {v:Value} {av:AV} (h:RA C w v av):RA C' w' v av:=by
 induction h with
 |any v=>exact .any v
 |pv h=>exact .pv (g.rp h)
 |own h=>exact .own (g.Iy h)
 |ptr hl hκ=>exact .ptr (g.Lb _ hl).1 ((g.Lb _ hl).2.trans hκ)
 |gy b off vs hN hb hc hr=>
  obtain⟨h1,h2⟩:=g.N b hb hN
  exact .gy b off vs h1 (aH hb g.size) (fun j p hp=>⟨(World.cell?_of_block (w:=w) (a:=⟨b,off+j,none⟩) h2).trans (hc j p hp).1,(hc j p hp).2⟩) (fun j p hp=>g.rp (hr j p hp))
 |gY hi h=>exact .gY hi (g.Iy h)
 |agg hs h ih=>exact .agg hs ih
 |iR hs h ih=>exact .iR hs ih
 |jd hs h ht h' ih ih'=>exact .jd hs ih ht ih'
 |gH hl hκ=>exact .gH (g.Lb _ hl).1 ((g.Lb _ hl).2.trans hκ)
 |kS hl hκ=>exact .kS (g.Lb _ hl).1 ((g.Lb _ hl).2.trans hκ)
def Ob.ld:Ob→Bool|.row=>true|_=>false
def DS.lr (δ:DS) (i:Nat):Prop:=δ.ob i=some .row
def DS.lb (δ:DS) (i:Nat):Prop:=∃o,δ.ob i=some o∧o.ld=false
def DS.live (δ:DS) (i:Nat):Prop:=∃o,δ.ob i=some o
def DS.cx (δ:DS) (g:eY) (κ:Kp):Cx:=
 {B:=g.B,κ,N:=fun b=>(g.N0 b∧¬κ.Fs b)∧∀i,δ.live i→κ i≠some b,Lr:=δ.lr,Lb:=δ.lb}
def HS:Nat:=1000
def eY.val (g:eY) (a:Act) (j:Nat):Value:=if j<HS then a.tmps.getD j undef else g.held j
def mz (C:Cx) (w:World) (es:Array MapEntry) (l:List (Value×AV)):Prop:=
 es.size=l.length∧∀(j:Nat) (e:MapEntry) (p:Value×AV),es[j]? =some e→l[j]? =some p→e.key=p.1∧RA C w e.val p.2
def AV.kM:AV→Bool
 |.own _ _ _ _|.gY _ _ _ _ _|.agg _|.iR _|.jd _ _ _=>false
 |_=>true
def J8 (N:Nat→Prop) (w:World) (b:Nat) (l:List (Value×PV)) (seen:List Nat):Prop:=
 (l=[]∧w.heap[b]? =some (.mapIter none 0 #[] 0))∨∃m es clock,N m∧m<w.heap.size∧w.heap[m]? =some (.map es clock)∧es.size=l.length∧rj es clock∧
  (∀(j:Nat) (e:MapEntry) (p:Value×PV),es[j]? =some e→l[j]? =some p→e.key=p.1∧RP N w e.val p.2)∧w.heap[b]? =some (.mapIter (some m) clock seen.toArray clock)∧∀j∈seen,j<l.length
theorem J8.mono {N N':Nat→Prop} {w w':World} {b:Nat} {l:List (Value×PV)} {seen:List Nat} (h:J8 N w b l seen) (hs:w.heap.size≤w'.heap.size)
  (hN:∀b,b<w.heap.size→N b→N' b∧w'.heap[b]? =w.heap[b]?) (hb:w'.heap[b]? =w.heap[b]?):J8 N' w' b l seen:=by
 rcases h with ⟨h1,h2⟩|⟨m,es,clock,h1,h2,h3,h4,h5,h6,h7,h8⟩
 ·exact .inl ⟨h1,hb.trans h2⟩
 ·exact .inr ⟨m,es,clock,(hN m h2 h1).1,aH h2 hs,(hN m h2 h1).2.trans h3,h4,h5,fun j e p h9 wm=>⟨(h6 j e p h9 wm).1,(h6 j e p h9 wm).2.mono hs hN⟩,hb.trans h7,h8⟩
def wy (C:Cx) (w:World) (i:Nat) (e:PT) (p:Value×List Value):Prop:=
 w.ownsRow C.B e.t e.k p.1 (nK e p.2) p.2∧p.2.length≤140737488355328∧(∀b,p.1.ownBlock=some b→C.κ.F i b)∧∀u∈p.2,u.oneCell'=true
def oo (C:Cx) (w:World) (i:Nat):Ob→Prop
 |.row=>∀b,C.κ i=some b→∃c e,w.heap[b]? =some (.cells c e (0,0))
 |.box cells=>∃b c e,C.κ i=some b∧w.heap[b]? =some (.cells c e (0,0))∧c.size=cells.length∧∀(j:Nat) (u:Value) (av:AV),c[j]? =some u→cells[j]? =some av→RA C w u av∧u.oneCell'=true
 |.mp l=>∃b es clock,C.κ i=some b∧w.heap[b]? =some (.map es clock)∧mz C w es l∧rj es clock∧∀p∈l,p.2.kM=true
 |.mpl l k v=>∃b es clock,C.κ i=some b∧w.heap[b]? =some (.map es clock)∧mz C w es (l++ [(k,v)])∧rj es clock∧∀p∈l,p.2.kM=true
 |.it l seen=>∃b,C.κ i=some b∧J8 C.N w b l seen
 |.lit T vals=>∃b,C.κ i=some b∧w.heap[b]? =some (.cells vals T (0,0))
 |.fm e rows=>C.κ i=none∧(∀k,wy C w i e (rows k))∧∀k k' b,(rows k).1.ownBlock=some b→(rows k').1.ownBlock=some b→k=k'
 |.loop l tm ps iQ body st=>∃b r,C.κ i=some b∧w.heap[b]? =some (.loop r)∧b=l∧r.tmps=tm∧r.params=ps∧r.assign=iQ∧r.body=body∧
   (match st with|.ready=>r.state=.ready∧r.pending=none|.busy=>r.state=.busy|.done c=>r.state=.done∧r.pending=some c|.pL=>True)
def Jr (g:eY) (a:Act) (w:World):Prop:=∃rs:List Nat,a.defers=rs.map (fun r=>({target:=.collected r,args:= #[]}:Deferred))++g.base∧(rs++g.mks).Nodup∧∀r∈rs++g.mks,g.B≤r∧w.heap[r]? =some (.deferred (some []))
def qm (g:eY) (lv:Nat→Prop) (κ:Kp) (w:World):Prop:=(∀b,g.fr b→b<g.w1.heap.size∧w.heap[b]? =g.w1.heap[b]?∧∀i,lv i→κ i≠some b)∧
 ∀i b,κ.F i b→(g.B≤b∧∀k,g.wt=some k→¬k.2.1 b)∧b<w.heap.size∧¬g.fr b∧(∀j,lv j→κ j≠some b)∧∀j,κ.F j b→j=i
theorem qm.of {g:eY} {lv lv':Nat→Prop} {κ κ':Kp} {w w':World} (h:qm g lv κ w) (hs:w.heap.size≤w'.heap.size) (hw:∀b,g.fr b→b<w.heap.size→(∀i,lv i→κ i≠some b)→w'.heap[b]? =w.heap[b]?)
  (hl:∀i b,lv' i→κ' i=some b→(∃j,lv j∧κ j=some b)∨w.heap.size≤b) (hF:∀i b,κ'.F i b→κ.F i b:=by exact fun _ _ h=>h):qm g lv' κ' w':=by
 refine⟨fun b hb=>?_,fun i b hb=>?_⟩
 ·obtain⟨h1,h3,h4⟩:=h.1 b hb
  have ft:b<w.heap.size:=by rw[aK h1] at h3;exact(aL.1 h3).1
  refine⟨h1,(hw b hb ft h4).trans h3,fun i hi e=>?_⟩
  rcases hl i b hi e with ⟨j,hj,e'⟩|h5
  ·exact h4 j hj e'
  ·omega
 ·have js:=hF i b hb
  obtain⟨h1,h2,h3,h4,h5⟩:=h.2 i b js
  refine⟨h1,aH h2 hs,h3,fun j hj e=>?_,fun j hj=>h5 j (hF j b hj)⟩
  ·rcases hl j b hj e with ⟨j,hj,e'⟩|h5
   ·exact h4 j hj e'
   ·omega
theorem qm.sub {g:eY} {lv lv':Nat→Prop} {κ κ':Kp} {w:World} (h:qm g lv κ w) (hl:∀i b,lv' i→κ' i=some b→∃j,lv j∧κ j=some b) (hF:∀i b,κ'.F i b→κ.F i b:=by exact fun _ _ h=>h):qm g lv' κ' w:=h.of (aM _) (fun _ _ _ _=>rfl) (fun i b h1 h2=> .inl (hl i b h1 h2)) hF
structure Rel (g:eY) (δ:DS) (κ:Kp) (a:Act) (w:World):Prop where
 n:a.tmps.size=δ.n
 dfr:Jr g a w
 env:∀j,RA (δ.cx g κ) w (g.val a j) (δ.get j)
 obj:∀i o,δ.ob i=some o→oo (δ.cx g κ) w i o
 inj:∀i j b,δ.live i→δ.live j→κ i=some b→κ j=some b→i=j
 lo:∀i b,δ.live i→κ i=some b→g.B≤b∧b<w.heap.size
 nx:∀i,δ.live i→i<δ.nx
 wt:∀k,g.wt=some k→(∀b,k.2.1 b→b<k.1.heap.size∧w.heap[b]? =k.1.heap[b]?)∧∀i b,δ.live i→(δ.lr i∨k.2.2≤i)→κ i=some b→¬k.2.1 b
 below:Below g.B g.w0 w
 hB:g.B≤w.heap.size
 N0:∀b,g.B≤b→¬g.fr b→g.N0 b
 fr:qm g δ.live κ w
 kI:∀d∈a.defers,∀r,d.target=.collected r→¬g.fr r
theorem qm.re {g g':eY} {lv:Nat→Prop} {κ:Kp} {w:World} (h:qm g lv κ w) (hB:g'.B=g.B) (hf:g'.fr=g.fr) (hw:g'.w1=g.w1) (jz:g'.wt=none):qm g' lv κ w:=by
 refine⟨fun b hb=>?_,fun i b hb=>?_⟩
 ·rw[hf] at hb;rw[hw];exact h.1 b hb
 ·obtain⟨h1,h2,h3,h4⟩:=h.2 i b hb
  exact⟨⟨by rw[hB];exact h1.1,fun k hk=>by rw[jz] at hk;cases hk⟩,h2,by rw[hf];exact h3,h4⟩
theorem qm.NZ {g:eY} {lv:Nat→Prop} {κ:Kp} {w:World} (h:qm g lv κ w) {b:Nat} (hb:g.fr b):b<w.heap.size:=by
 obtain⟨h1,h3,_⟩:=h.1 b hb
 rw[aK h1] at h3
 exact(aL.1 h3).1
theorem qm.Da {g:eY} {lv:Nat→Prop} {κ:Kp} {w:World} (h:qm g lv κ w) {b:Nat} (hb:κ.Fs b):b<w.heap.size:=let ⟨i,hi⟩:=hb;(h.2 i b hi).2.1
theorem qm.kZ {g:eY} {lv:Nat→Prop} {κ:Kp} {w:World} (h:qm g lv κ w) {i b:Nat} (hl:lv i) (hκ:κ i=some b):¬κ.Fs b:=fun⟨j,hj⟩=>(h.2 j b hj).2.2.2.1 i hl hκ
theorem Rel.Ly {g:eY} {δ:DS} {κ:Kp} {a:Act} {w:World} (r:Rel g δ κ a w) {b:Nat} (h:w.heap.size≤b):g.N0 b∧¬κ.Fs b:=⟨r.N0 b (aN r.hB h) fun hf=>by have:=r.fr.NZ hf;omega,fun hf=>by have:=r.fr.Da hf;omega⟩
theorem Rel.F5 {g:eY} {δ:DS} {κ:Kp} {a:Act} {w:World} (r:Rel g δ κ a w) {i b:Nat} (hl:δ.live i) (hκ:κ i=some b):g.N0 b∧¬κ.Fs b:=⟨r.N0 b (r.lo i b hl hκ).1 fun hf=>(r.fr.1 b hf).2.2 i hl hκ,r.fr.kZ hl hκ⟩
end Go.Ab
/- The abstract states' laws:how a relation goes on over a slot's write,a new block,an extension of the world;the rules of the abstract weakest precondition. -/
namespace Go.Ab
open Go Go.RowKit
variable {P:Program} {g:eY} {δ:DS} {κ:Kp} {a:Act} {w:World}
theorem GR (δ:DS) (d:Nat) (v:AV) (j:Nat):(δ.put d v).get j=if d=j then v else δ.get j:=fC _ _ _ _
theorem iG (δ:DS) (d:Nat) (v:Option Ob) (j:Nat):(δ.gl d v).ob j=if d=j then v else δ.ob j:=fj _ _ _ _
theorem gh (δ:DS) (o:Ob) (j:Nat):(δ.fM o).ob j=if δ.nx=j then some o else δ.ob j:=fj _ _ _ _
theorem eY.Oe (g:eY) (a:Act) (d:Nat) (v:Value) (j:Nat) (h:d<a.tmps.size) (hH:d<HS):g.val (a.put (some d) v) j=if d=j then v else g.val a j:=by
 unfold eY.val Act.put
 by_cases hj:j<HS
 ·simp only[hj,if_true,aO,aP]
  by_cases e:d=j
  ·subst e;simp [h]
  ·simp [e]
 ·have:d≠j:=by omega
  simp [hj,this]
theorem Rel.put (r:Rel g δ κ a w) {d:Nat} {v:Value} {av:AV} (hd:d<δ.n) (hH:d<HS) (h:RA (δ.cx g κ) w v av):Rel g (δ.put d av) κ (a.put (some d) v) w where
 n:=by have:=r.n;simp only[Act.put,Array.size_setIfInBounds];exact this
 dfr:=by obtain⟨rs,h1,h2,h3⟩:=r.dfr;exact⟨rs,h1,h2,h3⟩
 env:=fun j=>by
  rw[GR,g.Oe a d v j (by rw[r.n];exact hd) hH]
  by_cases e:d=j
  ·simp only[e,if_true];exact h
  ·simp only[e,if_false];exact r.env j
 obj:=r.obj
 inj:=r.inj
 lo:=r.lo
 nx:=r.nx
 wt:=r.wt
 below:=r.below
 hB:=r.hB
 N0:=r.N0
 fr:=r.fr
 kI:=r.kI
theorem Rel.eZ (r:Rel g δ κ a w) {d:Option Nat} {v:Value} {av:AV} (hd:∀x,d=some x→x<δ.n∧x<HS) (h:RA (δ.cx g κ) w v av):Rel g (δ.eZ d av) κ (a.put d v) w:=by
 cases d with
 |none=>exact r
 |some x=>exact r.put (hd x rfl).1 (hd x rfl).2 h
theorem Jr.kY {g:eY} {a:Act} {w w':World} (h:Jr g a w) (hb:∀r,g.B≤r→w.heap[r]? =some (.deferred (some []))→w'.heap[r]? =w.heap[r]?):Jr g a w':=by
 obtain⟨rs,h1,h2,h3⟩:=h
 exact⟨rs,h1,h2,fun r hr=>⟨(h3 r hr).1,(hb r (h3 r hr).1 (h3 r hr).2).trans (h3 r hr).2⟩⟩
theorem r9 {k:World×(Nat→Prop)×Nat} {w:World} {b:Nat} (h:b<k.1.heap.size∧w.heap[b]? =k.1.heap[b]?):b<w.heap.size:=by
 have:=h.2
 rw[aK h.1] at this
 exact(aL.1 this).1
theorem iM {w:World} {r:Nat} {o:Obj} (h:w.heap[r]? =some o):r<w.heap.size:=(aL.1 h).1
theorem mz.kY {C C':Cx} {w w':World} (G:j6 C w C' w') {es:Array MapEntry} {l:List (Value×AV)} (h:mz C w es l):mz C' w' es l:=
 ⟨h.1,fun j e p h1 h2=>⟨(h.2 j e p h1 h2).1,G.ra (h.2 j e p h1 h2).2⟩⟩
theorem mz.last {C C':Cx} {w w':World} {es:Array MapEntry} {l:List (Value×AV)} {k:Value} {v v':AV} (h:mz C w es (l++ [(k,v)])) (h1:∀(u:Value) (p:Value×AV),p∈l→RA C w u p.2→RA C' w' u p.2) (h2:∀u:Value,RA C w u v→RA C' w' u v'):mz C' w' es (l++ [(k,v')]):=by
 refine⟨by simpa using h.1,fun j e p hj hp=>?_⟩
 by_cases ft:j<l.length
 ·rw[aQ ft] at hp
  obtain⟨a1,a2⟩:=h.2 j e p hj (by rw[aQ ft];exact hp)
  exact⟨a1,h1 _ p (aR hp) a2⟩
 ·rw[aS aG] at hp
  obtain⟨a1,a2⟩:=h.2 j e (k,v) hj (by
   rw[aS aG]
   have:j - l.length=0:=by have:=(aT.1 hp).1;simpa using this
   rw[this];rfl)
  have:p=(k,v'):=by
   have h0:j - l.length=0:=by have:=(aT.1 hp).1;simpa using this
   rw[h0] at hp;simpa using hp.symm
  subst this
  exact⟨a1,h2 _ a2⟩
theorem wy.kY {C C':Cx} {w w':World} {i:Nat} {e:PT} {p:Value×List Value} (h:wy C w i e p) (hB:C'.B=C.B) (hP:∀b,p.1.ownBlock=some b→C.κ.F i b→b<w.heap.size→C'.κ.F i b∧w'.heap[b]? =w.heap[b]?):wy C' w' i e p:=by
 obtain⟨⟨h1,h2⟩,h3,h4,h5⟩:=h
 rcases h2 with h2|⟨b,cap,cur,hv,h6,h7,h8⟩
 ·exact⟨⟨h1,.inl h2⟩,h3,(fun b hb=>by rw[h2.1] at hb;cases hb),h5⟩
 ·have hb:p.1.ownBlock=some b:=by rw[hv];rfl
  obtain⟨h9,wm⟩:=hP b hb (h4 b hb) (iM h7)
  refine⟨⟨h1,.inr ⟨b,cap,cur,hv,by rw[hB];exact h6,wm.trans h7,h8⟩⟩,h3,fun b' js=>?_,h5⟩
  rw[hb] at js;cases js;exact h9
theorem oo.kY {C C':Cx} {w w':World} (G:j6 C w C' w') {i:Nat} {o:Ob} (hκ:C'.κ i=C.κ i) (hb:∀b,C.κ i=some b→w'.heap[b]? =w.heap[b]?) (hP:∀b,C.κ.F i b→b<w.heap.size→C'.κ.F i b∧w'.heap[b]? =w.heap[b]?) (h:oo C w i o):oo C' w' i o:=by
 cases o with
 |row=>
  intro b Em
  rw[hκ] at Em
  obtain⟨c,e,h1⟩:=h b Em
  exact⟨c,e,(hb b Em).trans h1⟩
 |box cells=>
  obtain⟨b,c,e,h1,h2,h3,h4⟩:=h
  exact⟨b,c,e,hκ.trans h1,(hb b h1).trans h2,h3,fun j u av h5 h6=>⟨G.ra (h4 j u av h5 h6).1,(h4 j u av h5 h6).2⟩⟩
 |mp l=>
  obtain⟨b,es,clock,h1,h2,h3,h4⟩:=h
  exact⟨b,es,clock,hκ.trans h1,(hb b h1).trans h2,h3.kY G,h4⟩
 |mpl l k v=>
  obtain⟨b,es,clock,h1,h2,h3,h4⟩:=h
  exact⟨b,es,clock,hκ.trans h1,(hb b h1).trans h2,h3.kY G,h4⟩
 |it l seen=>
  obtain⟨b,h1,h2⟩:=h
  exact⟨b,hκ.trans h1,h2.mono G.size G.N (hb b h1)⟩
 |lit T vals=>obtain⟨b,h1,h2⟩:=h;exact⟨b,hκ.trans h1,(hb b h1).trans h2⟩
 |fm e rows=>exact⟨hκ.trans h.1,fun k=>(h.2.1 k).kY G.B fun b _ hF ft=>hP b hF ft,h.2.2⟩
 |loop l tm ps iQ body st=>
  obtain⟨b,lr,h1,h2,h3⟩:=h
  exact⟨b,lr,hκ.trans h1,(hb b h1).trans h2,h3⟩
theorem DS.iw {δ:DS} {i:Nat} (h:δ.lr i):δ.live i:=⟨_,h⟩
theorem DS.mm {δ:DS} {i:Nat} (h:δ.lb i):δ.live i:=let ⟨o,h1,_⟩:=h;⟨o,h1⟩
theorem Rel.ext (r:Rel g δ κ a w) {w':World} (hb:Below w.heap.size w w'):Rel g δ κ a w':=by
 have G:j6 (δ.cx g κ) w (δ.cx g κ) w':=
  {B:=rfl,size:=hb.size,N:=fun b h1 h2=>⟨h2,hb.block b h1⟩
   Lr:=fun i hi=>⟨hi,rfl,fun b hκ=>hb.block b (r.lo i b (DS.iw hi) hκ).2⟩
   Lb:=fun i hi=>⟨hi,rfl⟩}
 exact
  {n:=r.n,dfr:=r.dfr.kY fun k _ hk=>hb.block k (iM hk),env:=fun j=>G.ra (r.env j)
   obj:=fun i o h=>(r.obj i o h).kY G rfl (fun b hκ=>hb.block b (r.lo i b ⟨o,h⟩ hκ).2) (fun b hF ft=>⟨hF,hb.block b ft⟩)
   inj:=r.inj,lo:=fun i b h1 h2=>⟨(r.lo i b h1 h2).1,aH (r.lo i b h1 h2).2 hb.size⟩
   nx:=r.nx,wt:=fun k hk=>⟨fun b yO=>⟨((r.wt k hk).1 b yO).1,(hb.block b (r9 ((r.wt k hk).1 b yO))).trans ((r.wt k hk).1 b yO).2⟩,(r.wt k hk).2⟩,below:=r.below.trans (hb.mono r.hB),hB:=aN r.hB hb.size,N0:=r.N0
   fr:=r.fr.of hb.size (fun b _ h1 _=>hb.block b h1) (fun i b h1 h2=> .inl ⟨i,h1,h2⟩),kI:=r.kI}
def ix (κ:Kp) (i:Nat) (b:Option Nat):Kp:=⟨fun j=>if i=j then b else κ j,κ.F⟩
theorem Rel.grow (r:Rel g δ κ a w) (ob:Ob) (o:Obj)
  (jo:∀C,j6 (δ.cx g κ) w C (w.alloc o)→C.κ δ.nx=some w.heap.size→oo C (w.alloc o) δ.nx ob):
  Rel g (δ.fM ob) (ix κ δ.nx (some w.heap.size)) a (w.alloc o)∧j6 (δ.cx g κ) w ((δ.fM ob).cx g (ix κ δ.nx (some w.heap.size))) (w.alloc o):=by
 have hold:∀k,k<w.heap.size→(w.alloc o).heap[k]? =w.heap[k]?:=fun k hk=>Below.heap_alloc w o k hk
 have rU:¬δ.live δ.nx:=fun h=>aU _ (r.nx _ h)
 have gz:∀i,δ.live i→δ.nx≠i:=fun i h e=>rU (e▸h)
 have fH:∀i,(δ.fM ob).live i→i=δ.nx∨δ.live i:=by
  intro i ⟨o',h⟩
  rw[gh] at h
  by_cases e:δ.nx=i
  ·exact .inl e.symm
  ·rw[if_neg e] at h;exact .inr ⟨o',h⟩
 have mX:(w.alloc o).heap.size=w.heap.size+1:=by show(w.heap.push o).size=_;simp
 have G:j6 (δ.cx g κ) w ((δ.fM ob).cx g (ix κ δ.nx (some w.heap.size))) (w.alloc o):=
  {B:=rfl,size:=by omega
   N:=fun b h1 h2=>⟨⟨h2.1,fun i hi=>by
    show ix κ δ.nx (some w.heap.size) i≠some b
    rcases fH i hi with rfl|hi
    ·simp only[ix,if_true];intro e;cases e;omega
    ·simp only[ix,gz i hi,if_false];exact h2.2 i hi⟩,hold b h1⟩
   Lr:=fun i hi=>by
    have jS:=gz i (DS.iw hi)
    refine⟨?_,by show ix _ _ _ i=κ i;simp [ix,jS],fun b hκ=>hold b (r.lo i b (DS.iw hi) hκ).2⟩
    show(δ.fM ob).ob i=_
    rw[gh,if_neg jS];exact hi
   Lb:=fun i hi=>by
    have jS:=gz i (DS.mm hi)
    refine⟨?_,by show ix _ _ _ i=κ i;simp [ix,jS]⟩
    obtain⟨o',h1,h2⟩:=hi
    exact⟨o',by rw[gh,if_neg jS];exact h1,h2⟩}
 refine⟨?_,G⟩
 exact
  {n:=r.n,dfr:=r.dfr.kY fun k _ hk=>hold k (iM hk),env:=fun j=>G.ra (r.env j)
   obj:=fun i o' h=>by
    rw[gh] at h
    by_cases e:δ.nx=i
    ·rw[if_pos e] at h;cases h;subst e
     exact jo _ G (by show ix _ _ _ _=_;simp [ix])
    ·rw[if_neg e] at h
     exact(r.obj i o' h).kY G (by show ix _ _ _ i=κ i;simp [ix,e]) (fun b hκ=>hold b (r.lo i b ⟨o',h⟩ hκ).2) (fun b hF ft=>⟨hF,hold b ft⟩)
   inj:=fun i j b h1 h2 h3 h4=>by
    rcases fH i h1 with rfl|h1
    ·rcases fH j h2 with rfl|h2
     ·rfl
     ·simp only[ix,if_true] at h3
      simp only[ix,gz j h2,if_false] at h4
      cases h3
      exact absurd (r.lo j _ h2 h4).2 (by omega)
    ·rcases fH j h2 with rfl|h2
     ·simp only[ix,if_true] at h4
      simp only[ix,gz i h1,if_false] at h3
      cases h4
      exact absurd (r.lo i _ h1 h3).2 (by omega)
     ·simp only[ix,gz i h1,gz j h2,if_false] at h3 h4
      exact r.inj i j b h1 h2 h3 h4
   lo:=fun i b h1 h2=>by
    rw[mX]
    rcases fH i h1 with rfl|h1
    ·simp only[ix,if_true] at h2;cases h2;exact⟨r.hB,by omega⟩
    ·simp only[ix,gz i h1,if_false] at h2
     have:=r.lo i b h1 h2
     omega
   nx:=fun i h=>by
    show i<δ.nx+1
    rcases fH i h with rfl|h
    ·omega
    ·have:=r.nx i h;omega
   wt:=fun k hk=>⟨fun b yO=>⟨((r.wt k hk).1 b yO).1,(hold b (r9 ((r.wt k hk).1 b yO))).trans ((r.wt k hk).1 b yO).2⟩,fun i b hl hi hκ yO=>by
    rcases fH i hl with rfl|jS
    ·simp only[ix,if_true] at hκ
     cases hκ
     exact absurd (r9 ((r.wt k hk).1 _ yO)) (aU _)
    ·simp only[ix,gz i jS,if_false] at hκ
     refine(r.wt k hk).2 i b jS ?_ hκ yO
     refine hi.imp (fun hi=>?_) id
     have D6:(δ.fM ob).ob i=some .row:=hi
     rw[gh,if_neg (gz i jS)] at D6
     exact D6⟩
   below:=r.below.alloc r.hB o
   hB:=by rw[mX];have:=r.hB;omega
   N0:=r.N0
   kI:=r.kI
   fr:=r.fr.of (by rw[mX];omega) (fun b _ h1 _=>hold b h1) fun i b h1 h2=>by
    rcases fH i h1 with rfl|h1
    ·simp only[ix,if_true] at h2;cases h2;exact .inr (aM _)
    ·simp only[ix,gz i h1,if_false] at h2;exact .inl ⟨i,h1,h2⟩}
def lift (g:eY) (Q:Exit→DS→Prop):Exit→Act→World→Prop:=fun e a w=>∃δ κ,Q e δ∧Rel g δ κ a w
abbrev Fw (ro:Option Nat):Fence:={fn:=fun _=>True,depth:=none,alive:=false,round:=ro}
def AW (P:Program) (g:eY) (c:Code) (Q:Exit→DS→Prop) (δ:DS):Prop:=∀κ a w,Rel g δ κ a w→c.wpIn (Fw g.ro) 0 P (lift g Q) a w
def fT (next:DS→Prop) (Q:Exit→DS→Prop):Exit→DS→Prop
 |.normal,δ=>next δ
 |e,δ=>Q e δ
def ff (id:Nat) (Q:Exit→DS→Prop):Exit→DS→Prop
 |.exit id',δ=>if id'=id then Q .normal δ else Q (.exit id') δ
 |e,δ=>Q e δ
theorem AW.mono {c:Code} {Q Q':Exit→DS→Prop} (h:AW P g c Q δ) (hq:∀e δ,Q e δ→Q' e δ):AW P g c Q' δ:=
 fun κ a w r=>wpIn_mono (h κ a w r) fun _ _ _ ⟨δ',κ',h1,h2⟩=>⟨δ',κ',hq _ _ h1,h2⟩
theorem AW.seq {x y:Code} {Q:Exit→DS→Prop} (h:AW P g x (fT (AW P g y Q) Q) δ):AW P g (.seq x y) Q δ:=by
 intro κ a w r
 refine wpIn_seq (wpIn_mono (h κ a w r) fun e a' w'=>?_)
 rintro⟨δ',κ',h1,h2⟩
 cases e with
 |normal=>exact h1 κ' a' w' h2
 |_=>exact⟨δ',κ',h1,h2⟩
theorem AW.skip {Q:Exit→DS→Prop} (h:Q .normal δ):AW P g .skip Q δ:=fun κ _ _ r=>wpIn_skip ⟨δ,κ,h,r⟩
theorem AW.exit {id:Nat} {Q:Exit→DS→Prop} (h:Q (.exit id) δ):AW P g (.exit id) Q δ:=fun κ _ _ r=>wpIn_exit ⟨δ,κ,h,r⟩
theorem AW.ret {Q:Exit→DS→Prop} (h:Q .ret δ):AW P g .ret Q δ:=fun κ _ _ r=>wpIn_ret ⟨δ,κ,h,r⟩
theorem Rel.C5 (r:Rel g δ κ a w) (x:Operand) (hx:∀t,x=.tmp t→t<HS):RA (δ.cx g κ) w (a.eval x) (δ.ev x):=by
 cases x with
 |tmp t=>
  have:=r.env t
  unfold eY.val at this
  rw[if_pos (hx t rfl)] at this
  exact this
 |const v=>exact .pv (.lit v)
 |global n=>exact .any _
 |func f=>exact .jd rfl (fun j u c h=>by simp at h) rfl (fun j u c h=>by simp at h)
theorem RA.lit {C:Cx} {w:World} {v u:Value} (h:RA C w v (.pv (.lit u))):v=u:=by cases h with|pv h=>cases h;rfl
def fk (x:Operand):Bool:=match x with|.tmp t=>aV t HS|_=>true
theorem iK {x:Operand} (h:fk x=true):∀t,x=.tmp t→t<HS:=by
 rintro t rfl;simpa [fk] using h
theorem AW.cond {c:Operand} {x y:Code} {t:Bool} {Q:Exit→DS→Prop} (ho:fk c=true) (hc:δ.ev c=.pv (.lit (.bool t))) (h1:t=true→AW P g x Q δ) (h2:t=false→AW P g y Q δ):AW P g (.cond c x y) Q δ:=by
 intro κ a w r
 have he:=r.C5 c (iK ho)
 rw[hc] at he
 exact wpIn_cond_split he.lit (fun h=>h1 h κ a w r) (fun h=>h2 h κ a w r)
theorem AW.block {id:Nat} {c:Code} {Q:Exit→DS→Prop} (h:AW P g c (ff id Q) δ):AW P g (.block id c) Q δ:=by
 intro κ a w r
 refine wpIn_block (wpIn_mono (h κ a w r) fun e a' w'=>?_)
 rintro⟨δ',κ',h1,h2⟩
 cases e with
 |exit id'=>
  simp only[ff] at h1
  show(if id'=id then _ else _)
  by_cases e:id'=id
  ·rw[if_pos e] at h1 ⊢;exact⟨δ',κ',h1,h2⟩
  ·rw[if_neg e] at h1 ⊢;exact⟨δ',κ',h1,h2⟩
 |_=>exact⟨δ',κ',h1,h2⟩
theorem C9 {F:Fence} {n0:Nat} {c:Code} {Q:Exit→Act→World→Prop} (I:Nat→Act→World→Prop)
  (round:∀n a w,I n a w→c.wpIn F n0 P (Exit.then (fun a' w'=>∃m,m<n∧I m a' w') Q) a w) {n:Nat} {a:Act} {w:World} (h0:I n a w):(Code.loop c).wpIn F n0 P Q a w:=by
 intro b k cs Gx hb hr
 have key:∀n a w,I n a w→
   ∃e a' w',Q e a' w'∧ArrivesIn (Machine.fenced P F) P (lone (b.atR a (.code c::.inLoop c::k)) cs w) b k cs e a' w':=by
  intro n
  induction n using Nat.strongRecOn with
  |_ n ih=>
   intro a w hI
   obtain⟨e,a₁,w₁,hq,CU⟩:=round n a w hI b (.inLoop c::k) cs Gx hb hr
   cases e with
   |normal=>
    obtain⟨m,ft,hI₁⟩:=hq
    obtain⟨e₂,a₂,w₂,hq₂,harr₂⟩:=ih m ft a₁ w₁ hI₁
    exact⟨e₂,a₂,w₂,hq₂,.of_steps (StepsIn.trans CU (.one (fenced_calm hb hr rfl) stepR_inLoop)) harr₂⟩
   |exit id=>exact⟨_,a₁,w₁,hq,.pass (x:=.inLoop c) rfl (fun _ _=> .inl (by simp)) CU⟩
   |goto l=>exact⟨_,a₁,w₁,hq,.pass (x:=.inLoop c) rfl (fun _ _=> .inl (by simp)) CU⟩
   |ret=>exact⟨_,a₁,w₁,hq,.pass (x:=.inLoop c) rfl (fun _ _=> .inl (by simp)) CU⟩
   |panic ch=>exact⟨_,a₁,w₁,hq,.pass (x:=.inLoop c) rfl (fun _ _=> .inl (by simp)) CU⟩
   |outgrown=>exact⟨_,a₁,w₁,hq,.pass (x:=.inLoop c) rfl (fun _ _=> .inl (by simp)) CU⟩
 obtain⟨e,a',w',hq,CU⟩:=key _ a w h0
 exact⟨e,a',w',hq,.of_steps (.one (fenced_calm hb hr rfl) stepR_loop) CU⟩
def lD (g:eY) (δ δ':DS):Prop:=∀κ a w,Rel g δ κ a w→∃κ',Rel g δ' κ' a w
theorem AW.e_ {c:Code} {Q:Exit→DS→Prop} {δ':DS} (hw:lD g δ δ') (h:AW P g c Q δ'):AW P g c Q δ:=fun κ a w r=>let ⟨κ',r'⟩:=hw κ a w r;h κ' a w r'
theorem AW.loop {S:Type} {c:Code} {Q:Exit→DS→Prop} (D:S→DS) (I:S→Prop) (μ:S→Nat) (s0:S) (hs:I s0) (hw:lD g δ (D s0))
  (round:∀s,I s→AW P g c (fT (fun δ'=>∃s',I s'∧μ s'<μ s∧lD g δ' (D s')) Q) (D s)):AW P g (.loop c) Q δ:=by
 intro κ a w r
 obtain⟨κ0,r0⟩:=hw κ a w r
 refine C9 (fun n a w=>∃s κ,I s∧μ s=n∧Rel g (D s) κ a w) ?_ (n:=μ s0) ⟨s0,κ0,hs,rfl,r0⟩
 rintro n a w ⟨s,κ,hI,rfl,hr⟩
 refine wpIn_mono (round s hI κ a w hr) fun e a' w'=>?_
 rintro⟨δ',κ',h1,h2⟩
 cases e with
 |normal=>
  obtain⟨s',hI',hm,ly⟩:=h1
  obtain⟨κ2,r2⟩:=ly κ' a' w' h2
  exact⟨μ s',hm,s',κ2,hI',rfl,r2⟩
 |_=>exact⟨δ',κ',h1,h2⟩
def kz (o:Oper):Bool:=match o.op with|.defer _=>false|_=>true
def Oper.AL (P:Program) (o:Oper) (F:Fence) (a:Act) (w:World) (K:Act→World→Prop) (Q:Exit→Act→World→Prop):Prop:=o.uponIn F 0 P a K Q ((execOp a.eval o).run P w)
theorem iu {ro:Option Nat} {ops:Array Oper} {Q:Exit→Act→World→Prop} {a:Act} {w:World} {rest:List Oper} {o:Oper} (hg:o.guard=none) (hd:kz o=true)
  (h:∀K:Act→World→Prop,(∀a w,wpListIn (Fw ro) 0 P ops Q rest a w→K a w)→Oper.AL P o (Fw ro) a w K Q):wpListIn (Fw ro) 0 P ops Q (o::rest) a w:=by
 refine wpListIn_plain hg fun K hK=>⟨fun _ _=>trivial,?_⟩
 have:=h K hK
 unfold Oper.AL at this
 rw[Oper.semAt_eq _ _ _ (by intro c e;simp [kz,e] at hd)]
 exact this
inductive Md where
 |plain
 |quiet
 |held
def mb (δ:DS) (κ:Kp) (w w':World):Prop:=∀b,b<w.heap.size→((∀i,δ.lr i→κ i≠some b)∧¬κ.Fs b)→w'.heap[b]? =w.heap[b]?
theorem mb.CP {δ:DS} {κ:Kp} {w w':World} (h:Below w.heap.size w w'):mb δ κ w w':=fun b hb _=>h.block b hb
theorem mb.refl (δ:DS) (κ:Kp) (w:World):mb δ κ w w:=fun _ _ _=>rfl
theorem mb.cell {δ:DS} {κ:Kp} {w w':World} (h:mb δ κ w w') {ad:Addr} (hb:ad.block<w.heap.size) (hn:(∀i,δ.lr i→κ i≠some ad.block)∧¬κ.Fs ad.block):w'.cell? ad=w.cell? ad:=World.cell?_of_block (w:=w) (h ad.block hb hn)
def xe (P:Program) (ops:Array Oper) (C:World→Prop) (Q:Act→Prop):List Oper→Act→Prop
 |[],a=>Q a
 |o::rest,a=>∃v,YieldsIf P ops C o v a∧xe P ops C Q rest (a.put o.dst v)
def a_ (q:Md) (P:Program) (g:eY) (ops:Array Oper) (l:List Oper) (Q:Exit→DS→Prop) (δ:DS):Prop:=∀κ a w,Rel g δ κ a w→
 match q with
 |.quiet=>wpQuiet P ops (fun w'=>Below w.heap.size w w') (fun a'=>∀w',Below w.heap.size w w'→lift g Q .normal a' w') l a
 |.held=>xe P ops (mb δ κ w) (fun a'=>∃δ',Q .normal δ'∧δ'.fY=δ.fY∧Rel g δ' κ a' w) l a
 |.plain=>wpListIn (Fw g.ro) 0 P ops (lift g Q) l a w
theorem AW.region {id:Nat} {l:List Oper} {Q:Exit→DS→Prop} (h:a_ .plain P g l.toArray l Q δ):AW P g (.region id l.toArray false) Q δ:=fun κ a w r=>wpIn_region_lit (h κ a w r)
def S6 (o:Oper):Bool:=match o.op with
 |.alloc _|.box _ _|.buildSlice ..|.store ..|.makeMap ..|.makeSlice ..|.mapUpdate ..|.mapEntry ..|.entryStore ..|.insert ..=>false
 |.call c=>(match c.callee with|.builtin .append|.builtin .copy=>false|_=>true)
 |_=>true
theorem AW.fG {id:Nat} {l:List Oper} {Q:Exit→DS→Prop} (_hl:l.all S6=true) (hm:P.follows .mixedOrders=true) (hB:Region.lexB .any l.toArray=true) (Gx:g.ro=none) (h:a_ .quiet P g l.toArray l Q δ):AW P g (.region id l.toArray true) Q δ:=by
 intro κ a w r
 have h1:=h κ a w r
 rw[Gx]
 refine wpIn_wide.2 ?_
 refine wp_region_quiet (C:=fun w'=>Below w.heap.size w w') hm hB (Below.drew (Below.refl _ _)) ?_
 simpa using h1
theorem a_.nil {q:Md} {ops:Array Oper} {Q:Exit→DS→Prop} (h:Q .normal δ):a_ q P g ops [] Q δ:=fun κ _ _ r=>by
 cases q with
 |quiet=>exact fun w' ly=>⟨δ,κ,h,r.ext ly⟩
 |held=>exact⟨δ,h,rfl,r⟩
 |plain=>exact wpListIn_nil ⟨δ,κ,h,r⟩
def gb (n:Nat) (d:Option Nat):Bool:=match d with|some x=>aV x n && aV x HS|none=>true
theorem fE {n:Nat} {d:Option Nat} (h:gb n d=true):∀x,d=some x→x<n∧x<HS:=by
 rintro x rfl
 simp only[gb,aW] at h
 exact⟨by simpa using h.1,by simpa using h.2⟩
theorem uw (δ:DS) (d:Option Nat) (v:AV):(δ.eZ d v).fY=δ.fY:=by cases d<;>rfl
theorem Bh (δ:DS) (d:Option Nat) (v:AV):(δ.eZ d v).lr=δ.lr:=by cases d<;>rfl
theorem a_.val {q:Md} {ops:Array Oper} {o:Oper} {rest:List Oper} {Q:Exit→DS→Prop} (v:AV) (hg:o.guard=none) (qc:kz o=true) (hd:gb δ.n o.dst=true)
  (h:∀κ a w,Rel g δ κ a w→∃u,(∀w',mb δ κ w w'→(execOp a.eval o).run P w'=.ok (.value u) w')∧RA (δ.cx g κ) w u v) (hK:a_ q P g ops rest Q (δ.eZ o.dst v)):a_ q P g ops (o::rest) Q δ:=by
 intro κ a w r
 obtain⟨u,h1,h2⟩:=h κ a w r
 have zI:=hK κ _ _ (r.eZ (fE hd) h2)
 cases q with
 |quiet=>
  show wpQuiet P ops _ _ (o::rest) a
  unfold wpQuiet
  rw[if_pos (by simp [Region.wanted,hg])]
  refine⟨u,fun w' ly=>?_,zI⟩
  unfold Oper.quietAt
  rw[h1 w' (mb.CP ly)]
  exact⟨rfl,rfl⟩
 |held=>
  show xe P ops _ _ (o::rest) a
  refine⟨u,.inl ⟨by simp [Region.wanted,hg],fun w' ly=>h1 w' ly⟩,?_⟩
  ·have hH:mb (δ.eZ o.dst v) κ w=mb δ κ w:=by unfold mb;rw[Bh]
   simp only[hH,uw] at zI
   exact zI
 |plain=>
  show wpListIn _ _ P ops _ (o::rest) a w
  refine iu hg qc fun K rf=>?_
  unfold Oper.AL
  rw[h1 w (mb.refl _ _ _),Oper.uponIn_value]
  exact rf _ _ zI
theorem a_.RU {q:Md} {ops:Array Oper} {o:Oper} {rest:List Oper} {Q:Exit→DS→Prop} (v:AV) (hq:q≠ .held) (hg:o.guard=none) (qc:kz o=true) (hd:gb δ.n o.dst=true)
  (h:∀κ a w,Rel g δ κ a w→∃u,(∀w',Below w.heap.size w w'→(execOp a.eval o).run P w'=.ok (.value u) w')∧RA (δ.cx g κ) w u v) (hK:a_ q P g ops rest Q (δ.eZ o.dst v)):a_ q P g ops (o::rest) Q δ:=by
 intro κ a w r
 obtain⟨u,h1,h2⟩:=h κ a w r
 have zI:=hK κ _ _ (r.eZ (fE hd) h2)
 cases q with
 |quiet=>
  show wpQuiet P ops _ _ (o::rest) a
  unfold wpQuiet
  rw[if_pos (by simp [Region.wanted,hg])]
  refine⟨u,fun w' ly=>?_,zI⟩
  unfold Oper.quietAt
  rw[h1 w' ly]
  exact⟨rfl,rfl⟩
 |held=>exact absurd rfl hq
 |plain=>
  show wpListIn _ _ P ops _ (o::rest) a w
  refine iu hg qc fun K rf=>?_
  unfold Oper.AL
  rw[h1 w (Below.refl _ _),Oper.uponIn_value]
  exact rf _ _ zI
def je (P:Program) (g:eY) (o:Oper) (δ δ':DS):Prop:=∀κ a w,Rel g δ κ a w→
 (∃x v w' κ',(execOp a.eval o).run P w=.ok x w'∧(x=.value v∨(x=.skip∧v=undef))∧Rel g δ' κ' (a.put o.dst v) w')∨
 (∃f vals,(execOp a.eval o).run P w=.ok (.enter f vals) w∧Calls P f vals w fun e w'=>∃v κ',e=.returned v∧Rel g δ' κ' (a.put o.dst v) w')
theorem a_.vA {ops:Array Oper} {o:Oper} {rest:List Oper} {Q:Exit→DS→Prop} {δ':DS} (hg:o.guard=none) (qc:kz o=true) (h:je P g o δ δ') (hK:a_ .plain P g ops rest Q δ'):a_ .plain P g ops (o::rest) Q δ:=by
 intro κ a w r
 show wpListIn _ _ P ops _ (o::rest) a w
 refine iu hg qc fun K rf=>?_
 unfold Oper.AL
 rcases h κ a w r with ⟨x,v,w',κ',h1,h2,h3⟩|⟨f,vals,h1,h2⟩
 ·rw[h1]
  rcases h2 with rfl|⟨rfl,rfl⟩
  ·rw[Oper.uponIn_value];exact rf _ _ (hK _ _ _ h3)
  ·rw[Oper.uponIn_skip];exact rf _ _ (hK _ _ _ h3)
 ·rw[h1,Oper.uponIn_enter]
  refine⟨fun h=>by simp at h,(callsIn_wide.2 h2).mono ?_⟩
  rintro e w' ⟨v,κ',rfl,h3⟩
  exact rf _ _ (hK _ _ _ h3)
end Go.Ab
/- The operations' laws over abstract states,one by one. -/
namespace Go.Ab
open Go Go.RowKit
variable {q:Md} {P:Program} {g:eY} {δ:DS} {κ:Kp} {a:Act} {w:World}
variable {ops:Array Oper} {rest:List Oper} {Q:Exit→DS→Prop} {dst:Option Nat} {ty:TypeId} {pos:String} {af:Array Edge}
abbrev eU (n:Int):AV:=.pv (.lit (.int .i64 n))
abbrev fe (b:Bool):AV:=.pv (.lit (.bool b))
theorem a_.jK {op:Op} (v:AV) (hd:gb δ.n dst=true)
  (h:∀κ a w,Rel g δ κ a w→∃u,(∀w',mb δ κ w w'→(execOp a.eval ⟨dst,op,ty,pos,af,none⟩).run P w'=.ok (.value u) w')∧RA (δ.cx g κ) w u v) (hK:a_ q P g ops rest Q (δ.eZ dst v)) (qc:kz ⟨dst,op,ty,pos,af,none⟩=true:=by rfl):
  a_ q P g ops (⟨dst,op,ty,pos,af,none⟩::rest) Q δ:=a_.val v rfl qc hd h hK
theorem a_.move {x:Operand} {v:AV} (hx:δ.ev x=v) (ho:fk x=true) (hd:gb δ.n dst=true) (hK:a_ q P g ops rest Q (δ.eZ dst v)):a_ q P g ops (⟨dst,.move x,ty,pos,af,none⟩::rest) Q δ:=
 a_.jK v hd (fun κ a w r=>⟨a.eval x,fun _ _=>rfl,hx▸r.C5 x (iK ho)⟩) hK
theorem a_.assign {x:Operand} {v:AV} (hx:δ.ev x=v) (ho:fk x=true) (hd:gb δ.n dst=true) (hK:a_ q P g ops rest Q (δ.eZ dst v)):a_ q P g ops (⟨dst,.assign x,ty,pos,af,none⟩::rest) Q δ:=
 a_.jK v hd (fun κ a w r=>⟨a.eval x,fun _ _=>rfl,hx▸r.C5 x (iK ho)⟩) hK
theorem Rel.lit (r:Rel g δ κ a w) {x:Operand} {v:Value} (hx:δ.ev x=.pv (.lit v)) (ho:fk x=true):a.eval x=v:=(hx▸r.C5 x (iK ho)).lit
theorem a_.bin {op:BinOp} {x y:Operand} {t t':TypeId} {u v c:Value} (hx:δ.ev x=.pv (.lit u)) (hy:δ.ev y=.pv (.lit v)) (ho:fk x=true) (gi:fk y=true)
  (hr:∀w,(do eqGuard op t x y u v;Go.binOp op t u v:Sem Value).run P w=.ok c w) (hd:gb δ.n dst=true) (hK:a_ q P g ops rest Q (δ.eZ dst (.pv (.lit c)))):
  a_ q P g ops (⟨dst,.binOp op t x y t',ty,pos,af,none⟩::rest) Q δ:=
 a_.jK _ hd (fun κ a w r=>⟨c,fun w' _=>by
  have h1:=r.lit hx ho
  have h2:=r.lit hy gi
  have:=hr w'
  simp only[execOp,h1,h2]
  simp only[Sem.run_bind,this,Result.andThen_ok] at*
  first|rfl|simp [this],.pv (.lit c)⟩) hK
theorem ko (op:BinOp) (t:TypeId) (x y:Operand) (k:IntKind) (m n:Int) (c:Value) (hs:op≠ .shl∧op≠ .shr)
  (h:(match op with|.add|.sub|.mul=>Op.intArith op k m n|.quo|.rem=>Op.intDiv op k m n|.and|.or|.xor|.andNot=>Op.intBits op k m n|_=>Op.intCmp op m n:Sem Value)=.pure c) (w:World):
  (do eqGuard op t x y (.int k m) (.int k n);Go.binOp op t (.int k m) (.int k n):Sem Value).run P w=.ok c w:=by
 have h1:(eqGuard op t x y (.int k m) (.int k n)).run P w=.ok () w:=by
  unfold eqGuard
  cases op<;>simp [Sem.run,pure,Sem.bind,bind]
 have h2:Go.binOp op t (.int k m) (.int k n)=.pure c:=by
  rw[← h]
  cases op<;>first|exact absurd rfl hs.1|exact absurd rfl hs.2|simp [Go.binOp]
 simp only[Sem.run_bind,h1,Result.andThen_ok,h2]
 rfl
theorem Oq (m n:Int):(m==n)=decide (m=n):=by by_cases h:m=n<;>simp [h]
theorem Pr (m n:Int):(m !=n)=decide (¬m=n):=by by_cases h:m=n<;>simp [h]
section ints
variable {x y:Operand} {t t':TypeId} {m n:Int} (hx:δ.ev x=eU m) (hy:δ.ev y=eU n) (ho:fk x=true) (gi:fk y=true) (hd:gb δ.n dst=true)
include hx hy ho gi hd
theorem a_.SX (hK:a_ q P g ops rest Q (δ.eZ dst (eU (IntKind.i64.wrap (m+n))))):a_ q P g ops (⟨dst,.binOp .add t x y t',ty,pos,af,none⟩::rest) Q δ:=
 a_.bin hx hy ho gi (ko _ _ _ _ _ _ _ _ (by simp) rfl) hd hK
theorem a_.Xz (hK:a_ q P g ops rest Q (δ.eZ dst (eU (IntKind.i64.wrap (m - n))))):a_ q P g ops (⟨dst,.binOp .sub t x y t',ty,pos,af,none⟩::rest) Q δ:=
 a_.bin hx hy ho gi (ko _ _ _ _ _ _ _ _ (by simp) rfl) hd hK
theorem a_.X_ (hK:a_ q P g ops rest Q (δ.eZ dst (eU (IntKind.i64.wrap (m*n))))):a_ q P g ops (⟨dst,.binOp .mul t x y t',ty,pos,af,none⟩::rest) Q δ:=
 a_.bin hx hy ho gi (ko _ _ _ _ _ _ _ _ (by simp) rfl) hd hK
theorem a_.add (hb: -9223372036854775808≤m+n∧m+n≤9223372036854775807) (hK:a_ q P g ops rest Q (δ.eZ dst (eU (m+n)))):a_ q P g ops (⟨dst,.binOp .add t x y t',ty,pos,af,none⟩::rest) Q δ:=
 a_.SX hx hy ho gi hd (by rw[IntWalk.i64_in _ hb];exact hK)
theorem a_.sub (hb: -9223372036854775808≤m - n∧m - n≤9223372036854775807) (hK:a_ q P g ops rest Q (δ.eZ dst (eU (m - n)))):a_ q P g ops (⟨dst,.binOp .sub t x y t',ty,pos,af,none⟩::rest) Q δ:=
 a_.Xz hx hy ho gi hd (by rw[IntWalk.i64_in _ hb];exact hK)
theorem a_.mul (hb: -9223372036854775808≤m*n∧m*n≤9223372036854775807) (hK:a_ q P g ops rest Q (δ.eZ dst (eU (m*n)))):a_ q P g ops (⟨dst,.binOp .mul t x y t',ty,pos,af,none⟩::rest) Q δ:=
 a_.X_ hx hy ho gi hd (by rw[IntWalk.i64_in _ hb];exact hK)
theorem a_.rem (h0:n≠0) (hK:a_ q P g ops rest Q (δ.eZ dst (eU (m.tmod n)))):a_ q P g ops (⟨dst,.binOp .rem t x y t',ty,pos,af,none⟩::rest) Q δ:=
 a_.bin hx hy ho gi (ko _ _ _ _ _ _ _ _ (by simp) (by simp [Op.intDiv,h0];rfl)) hd hK
theorem a_.quo (h0:n≠0) (hK:a_ q P g ops rest Q (δ.eZ dst (eU (IntKind.i64.wrap (m.tdiv n))))):a_ q P g ops (⟨dst,.binOp .quo t x y t',ty,pos,af,none⟩::rest) Q δ:=
 a_.bin hx hy ho gi (ko _ _ _ _ _ _ _ _ (by simp) (by simp [Op.intDiv,h0];rfl)) hd hK
theorem a_.lss (hK:a_ q P g ops rest Q (δ.eZ dst (fe (decide (m<n))))):a_ q P g ops (⟨dst,.binOp .lss t x y t',ty,pos,af,none⟩::rest) Q δ:=
 a_.bin hx hy ho gi (ko _ _ _ _ _ _ _ _ (by simp) rfl) hd hK
theorem a_.leq (hK:a_ q P g ops rest Q (δ.eZ dst (fe (decide (m≤n))))):a_ q P g ops (⟨dst,.binOp .leq t x y t',ty,pos,af,none⟩::rest) Q δ:=
 a_.bin hx hy ho gi (ko _ _ _ _ _ _ _ _ (by simp) rfl) hd hK
theorem a_.gtr (hK:a_ q P g ops rest Q (δ.eZ dst (fe (decide (n<m))))):a_ q P g ops (⟨dst,.binOp .gtr t x y t',ty,pos,af,none⟩::rest) Q δ:=
 a_.bin hx hy ho gi (ko _ _ _ _ _ _ _ _ (by simp) rfl) hd hK
theorem a_.geq (hK:a_ q P g ops rest Q (δ.eZ dst (fe (decide (n≤m))))):a_ q P g ops (⟨dst,.binOp .geq t x y t',ty,pos,af,none⟩::rest) Q δ:=
 a_.bin hx hy ho gi (ko _ _ _ _ _ _ _ _ (by simp) rfl) hd hK
theorem a_.eql (hK:a_ q P g ops rest Q (δ.eZ dst (fe (decide (m=n))))):a_ q P g ops (⟨dst,.binOp .eql t x y t',ty,pos,af,none⟩::rest) Q δ:=
 a_.bin hx hy ho gi (ko _ _ _ _ _ _ _ _ (by simp) (by simp only[Op.intCmp,Oq];rfl)) hd hK
theorem a_.neq (hK:a_ q P g ops rest Q (δ.eZ dst (fe (decide (¬m=n))))):a_ q P g ops (⟨dst,.binOp .neq t x y t',ty,pos,af,none⟩::rest) Q δ:=
 a_.bin hx hy ho gi (ko _ _ _ _ _ _ _ _ (by simp) (by simp only[Op.intCmp,Pr];rfl)) hd hK
end ints
end Go.Ab
/- The operations' laws,more:lengths,addresses,loads,boxes,stores,aggregates,guards. -/
namespace Go.Ab
open Go Go.RowKit
variable {q:Md} {P:Program} {g:eY} {δ:DS} {κ:Kp} {a:Act} {w:World}
variable {ops:Array Oper} {rest:List Oper} {Q:Exit→DS→Prop} {dst:Option Nat} {ty:TypeId} {pos:String} {af:Array Edge}
theorem RA.kf {C:Cx} {w:World} {v:Value} {p:PV} (h:RA C w v (.pv p)):RP C.N w v p:=by cases h with|pv h=>exact h
theorem RA.jt {C:Cx} {w:World} {v:Value} {i e k e7} (h:RA C w v (.own i e k e7)):jB C w v i e k e7:=by cases h with|own h=>exact h
theorem Rel.ra (r:Rel g δ κ a w) {x:Operand} {v:AV} (hx:δ.ev x=v) (ho:fk x=true):RA (δ.cx g κ) w (a.eval x) v:=hx▸r.C5 x (iK ho)
theorem run_len_slice {t e:TypeId} (ht:P.underlying t=some (.slice e)) (x:Operand) (ρ:Operand→Value) (a0:Option Addr) (n c:Nat) (hx:ρ x=.slice a0 n c) (w:World):
  (execOp ρ ⟨dst,.call {callee:=.builtin .len,args:= #[x],argTypes:= #[t]},ty,pos,af,none⟩).run P w=.ok (.value (.int .i64 n)) w:=by
 simp [execOp,resolve,invoke,builtin,Builtin.len_,run_underlying ht,hx,goInt]
theorem RP.uz {N:Nat→Prop} {w:World} {v:Value} {k:Nat} {e7:List (List PV)} (h:RP N w v (.slice k e7)):∃a c,v=.slice a e7.length c∧e7.length≤140737488355328:=by
 cases h with|slice b off vs hl p_ hb=>subst hl;exact⟨_,_,rfl,hb⟩
theorem jB.inv {C:Cx} {w:World} {v:Value} {i e k e7} (h:jB C w v i e k e7):∃a c,v=.slice a e7.length c:=by
 obtain⟨_,_,_,_,xs,ho,_⟩:=h
 rcases ho.2 with ⟨rfl,h0⟩|⟨b,cap,cur,rfl,_⟩
 ·exact⟨none,0,by rw[h0]⟩
 ·exact⟨_,_,rfl⟩
theorem a_.len {x:Operand} {t e:TypeId} {k:Nat} {e7:List (List PV)} (hx:δ.ev x=.pv (.slice k e7)) (ht:P.underlying t=some (.slice e)) (ho:fk x=true) (hd:gb δ.n dst=true)
  (hK:a_ q P g ops rest Q (δ.eZ dst (eU (e7.length:Nat)))):a_ q P g ops (⟨dst,.call {callee:=.builtin .len,args:= #[x],argTypes:= #[t]},ty,pos,af,none⟩::rest) Q δ:=
 a_.jK _ hd (fun κ a w r=>by
  obtain⟨a0,c,hv,_⟩:=(r.ra hx ho).kf.uz
  exact⟨_,fun w' _=>run_len_slice ht x a.eval a0 _ c hv w',.pv (.lit _)⟩) hK
theorem a_.ub {α:Type} {x:Operand} {t e:TypeId} {k:Nat} {f:α→List PV} {l:List α} (hx:δ.ev x=.pv (.slice k (l.map f))) (ht:P.underlying t=some (.slice e)) (ho:fk x=true) (hd:gb δ.n dst=true)
  (hK:a_ q P g ops rest Q (δ.eZ dst (eU (l.length:Nat)))):a_ q P g ops (⟨dst,.call {callee:=.builtin .len,args:= #[x],argTypes:= #[t]},ty,pos,af,none⟩::rest) Q δ:=
 a_.len hx ht ho hd (by rw[aX];exact hK)
theorem a_.Oa {x:Operand} {t e e':TypeId} {i k:Nat} {e7:List (List PV)} (hx:δ.ev x=.own i e' k e7) (ht:P.underlying t=some (.slice e)) (ho:fk x=true) (hd:gb δ.n dst=true)
  (hK:a_ q P g ops rest Q (δ.eZ dst (eU (e7.length:Nat)))):a_ q P g ops (⟨dst,.call {callee:=.builtin .len,args:= #[x],argTypes:= #[t]},ty,pos,af,none⟩::rest) Q δ:=
 a_.jK _ hd (fun κ a w r=>by
  obtain⟨a0,c,hv⟩:=(r.ra hx ho).jt.inv
  exact⟨_,fun w' _=>run_len_slice ht x a.eval a0 _ c hv w',.pv (.lit _)⟩) hK
theorem a_.qJ {α:Type} {x:Operand} {t e e':TypeId} {i k:Nat} {f:α→List PV} {l:List α} (hx:δ.ev x=.own i e' k (l.map f)) (ht:P.underlying t=some (.slice e)) (ho:fk x=true) (hd:gb δ.n dst=true)
  (hK:a_ q P g ops rest Q (δ.eZ dst (eU (l.length:Nat)))):a_ q P g ops (⟨dst,.call {callee:=.builtin .len,args:= #[x],argTypes:= #[t]},ty,pos,af,none⟩::rest) Q δ:=
 a_.Oa hx ht ho hd (by rw[aX];exact hK)
theorem a_.fact {l:List Oper} {φ:Prop} (h:∀κ a w,Rel g δ κ a w→φ) (hK:φ→a_ q P g ops l Q δ):a_ q P g ops l Q δ:=fun κ a w r=>hK (h κ a w r) κ a w r
theorem AW.fact {c:Code} {φ:Prop} (h:∀κ a w,Rel g δ κ a w→φ) (hK:φ→AW P g c Q δ):AW P g c Q δ:=fun κ a w r=>hK (h κ a w r) κ a w r
theorem Rel.len (r:Rel g δ κ a w) {j k:Nat} {e7:List (List PV)} (h:δ.get j=.pv (.slice k e7)):e7.length≤140737488355328:=by
 have:=r.env j
 rw[h] at this
 obtain⟨_,_,_,h⟩:=this.kf.uz
 exact h
theorem AW.len {c:Code} (j:Nat) {k:Nat} {e7:List (List PV)} (h:δ.get j=.pv (.slice k e7)) (hK:e7.length≤140737488355328→AW P g c Q δ):AW P g c Q δ:=AW.fact (fun _ _ _ r=>r.len h) hK
theorem AW.ub {α:Type} {c:Code} (j:Nat) {k:Nat} {f:α→List PV} {l:List α} (h:δ.get j=.pv (.slice k (l.map f))) (hK:l.length≤140737488355328→AW P g c Q δ):AW P g c Q δ:=
 AW.fact (fun _ _ _ r=>by have:=r.len h;simpa using this) hK
theorem kG {t e:TypeId} {k:Nat} (ht:P.underlying t=some (.slice e)) (hk:(P.info? e).map (·.size)=some k) {x y:Operand} {ρ:Operand→Value} {b off len c n:Nat} {ik:IntKind}
  (hx:ρ x=.slice (some ⟨b,off,none⟩) len c) (hy:ρ y=.int ik (n:Int)) (hn:n<len) (w:World):
  (execOp ρ ⟨dst,.indexAddr t x y,ty,pos,af,none⟩).run P w=.ok (.value (.pointer (some ⟨b,off+n*k,none⟩))) w:=by
 obtain⟨i0,mB,nh⟩:∃i0,P.info? e=some i0∧i0.size=k:=by
  cases h:P.info? e with
  |none=>rw[h] at hk;simp at hk
  |some i0=>rw[h] at hk;exact⟨i0,rfl,by simpa using hk⟩
 have h1:(0:Int)≤n∧(n:Int)<len:=by omega
 have R0:(⟨b,off,none⟩:Addr).add (n*k)=⟨b,off+n*k,none⟩:=by unfold Addr.add;split<;>simp_all
 simp [execOp,Instr.indexAt,asIntOf,run_underlying ht,hx,hy,h1,sizeOf,typeInfo,mB,nh,R0]
 intro h;omega
theorem a_.Kg {x y:Operand} {t e:TypeId} {k n:Nat} {ik:IntKind} {e7:List (List PV)} {cs:List PV} (hx:δ.ev x=.pv (.slice k e7)) (hy:δ.ev y=.pv (.lit (.int ik (n:Int)))) (hn:e7[n]? =some cs)
  (ht:P.underlying t=some (.slice e)) (hk:(P.info? e).map (·.size)=some k) (ho:fk x=true) (gi:fk y=true) (hd:gb δ.n dst=true)
  (hK:a_ q P g ops rest Q (δ.eZ dst (.gy cs))):a_ q P g ops (⟨dst,.indexAddr t x y,ty,pos,af,none⟩::rest) Q δ:=
 a_.jK _ hd (fun κ a w r=>by
  have h1:=(r.ra hx ho).kf
  generalize hv:a.eval x=v at h1
  cases h1 with
  |slice b off vs hl p_ hb ha A7 hc hr=>
   have ft:n<e7.length:=(aT.1 hn).1
   obtain⟨h1,h2,h3⟩:=ha (by intro e;subst e;simp at hn)
   subst h1
   refine⟨_,fun w' _=>kG ht hk hv (r.lit hy gi) aG w',.gy b (off+n*k) (fun j=>vs n j) h2 h3 (fun j p hp=>?_) (fun j p hp=>?_)⟩
   ·exact hc n j p (by simp [cellAt,hn,hp])
   ·exact hr n j p (by simp [cellAt,hn,hp])) hK
theorem a_.Ai {α:Type} {x y:Operand} {t e:TypeId} {k n:Nat} {ik:IntKind} {f:α→List PV} {l:List α} (hx:δ.ev x=.pv (.slice k (l.map f))) (hy:δ.ev y=.pv (.lit (.int ik (n:Int)))) (hn:n<l.length)
  (ht:P.underlying t=some (.slice e)) (hk:(P.info? e).map (·.size)=some k) (ho:fk x=true) (gi:fk y=true) (hd:gb δ.n dst=true)
  (hK:a_ q P g ops rest Q (δ.eZ dst (.gy (f l[n])))):a_ q P g ops (⟨dst,.indexAddr t x y,ty,pos,af,none⟩::rest) Q δ:=
 a_.Kg hx hy (by rw[aY,aZ hn];rfl) ht hk ho gi hd hK
theorem a_.uP {x y:Operand} {t e e':TypeId} {i k n:Nat} {ik:IntKind} {e7:List (List PV)} (hx:δ.ev x=.own i e' k e7) (hy:δ.ev y=.pv (.lit (.int ik (n:Int)))) (hn:n<e7.length)
  (ht:P.underlying t=some (.slice e)) (hk:(P.info? e).map (·.size)=some k) (ho:fk x=true) (gi:fk y=true) (hd:gb δ.n dst=true)
  (hK:a_ q P g ops rest Q (δ.eZ dst (.gY i e' k e7 n))):a_ q P g ops (⟨dst,.indexAddr t x y,ty,pos,af,none⟩::rest) Q δ:=
 a_.jK _ hd (fun κ a w r=>by
  have h1:=(r.ra hx ho).jt
  have h0:=h1
  obtain⟨_,_,_,_,xs,hX,_⟩:=h1
  rcases hX.2 with ⟨_,h⟩|⟨b,cap,cur,hv,_⟩
  ·omega
  ·refine⟨.pointer (some ⟨b,n*k,none⟩),fun w' _=>?_,?_⟩
   ·have:=kG (dst:=dst) (ty:=ty) (pos:=pos) (af:=af) ht hk hv (r.lit hy gi) hn w';rw[a6] at this;exact this
   exact .gY hn (hv▸h0)) hK
def iS (P:Program) (t:TypeId):Bool:=match P.underlying t with|some (.struct _)|some (.array _ _)|none=>false|_=>true
def yT (P:Program) (t:TypeId) (n:Nat):Bool:=(match P.underlying t with|some (.struct _)|some (.array _ _)=>true|_=>false) && ((P.info? t).map (·.size)==some n)
theorem kC {t:TypeId} (h:iS P t=true) (w:World):(isAgg t).run P w=.ok false w:=by
 unfold iS at h
 cases hu:P.underlying t with
 |none=>rw[hu] at h;simp at h
 |some d=>
  rw[hu] at h
  simp only[isAgg,Sem.run_bind,run_underlying hu,Result.andThen_ok]
  cases d<;>first|rfl|(simp at h)
theorem su {t:TypeId} {n:Nat} (h:yT P t n=true) (w:World):(isAgg t).run P w=.ok true w∧(sizeOf t).run P w=.ok n w:=by
 unfold yT at h
 simp only[aW,beq_iff_eq] at h
 obtain⟨h1,h2⟩:=h
 constructor
 ·cases hu:P.underlying t with
  |none=>rw[hu] at h1;simp at h1
  |some d=>
   rw[hu] at h1
   simp only[isAgg,Sem.run_bind,run_underlying hu,Result.andThen_ok]
   cases d<;>first|rfl|(simp at h1)
 ·cases hi:P.info? t with
  |none=>rw[hi] at h2;simp at h2
  |some i=>rw[hi] at h2;simp [sizeOf,typeInfo,hi];simpa using h2
theorem kU {t:TypeId} (h:iS P t=true) {x:Operand} {ρ:Operand→Value} {ad:Addr} {v:Value} {w:World} (hx:ρ x=.pointer (some ad)) (hc:w.cell? ad=some v):
  (execOp ρ ⟨dst,.load t x,ty,pos,af,none⟩).run P w=.ok (.value v) w:=by
 simp [execOp,Instr.loadAt,Instr.sureAddr,loadVar,kC h,hx,load,Sem.run,hc]
theorem pS {t:TypeId} {n:Nat} (h:yT P t n=true) {x:Operand} {ρ:Operand→Value} {ad:Addr} {f:Nat→Value} {w:World} (hx:ρ x=.pointer (some ad)) (hc:∀j,j<n→w.cell? (ad.add j)=some (f j)):
  (execOp ρ ⟨dst,.load t x,ty,pos,af,none⟩).run P w=.ok (.value (.agg ((a7 n).map f).toArray)) w:=by
 have h1:=run_loadCells (P:=P) (w:=w) ad n f hc
 simp [execOp,Instr.loadAt,Instr.sureAddr,loadVar,su h,hx,h1]
theorem iV (b off j:Nat):(⟨b,off,none⟩:Addr).add j=⟨b,off+j,none⟩:=by unfold Addr.add;split<;>simp_all
theorem a_.Om {x:Operand} {t:TypeId} {p:PV} (hx:δ.ev x=.gy [p]) (ht:iS P t=true) (ho:fk x=true) (hd:gb δ.n dst=true)
  (hK:a_ q P g ops rest Q (δ.eZ dst (.pv p))):a_ q P g ops (⟨dst,.load t x,ty,pos,af,none⟩::rest) Q δ:=
 a_.jK _ hd (fun κ a w r=>by
  have h1:=r.ra hx ho
  generalize hv:a.eval x=v at h1
  cases h1 with
  |gy b off vs hN hb hc hr=>
   have h2:=(hc 0 p rfl).1
   rw[a8] at h2
   exact⟨_,fun w' ly=>kU ht hv ((ly.cell (ad:=⟨b,off,none⟩) hb ⟨fun i hi=>hN.2 i (DS.iw hi),hN.1.2⟩).trans h2),.pv (hr 0 p rfl)⟩) hK
theorem a_.BH {x:Operand} {t:TypeId} {cs:List PV} (hx:δ.ev x=.gy cs) (ht:yT P t cs.length=true) (ho:fk x=true) (hd:gb δ.n dst=true)
  (hK:a_ q P g ops rest Q (δ.eZ dst (.agg (cs.map .pv)))):a_ q P g ops (⟨dst,.load t x,ty,pos,af,none⟩::rest) Q δ:=
 a_.jK _ hd (fun κ a w r=>by
  have h1:=r.ra hx ho
  generalize hv:a.eval x=v at h1
  cases h1 with
  |gy b off vs hN hb hc hr=>
   refine⟨_,fun w' ly=>pS ht hv (f:=vs) (fun j hj=>?_),.agg (by simp) (fun j u c h1 h2=>?_)⟩
   ·rw[iV];exact(ly.cell (ad:=⟨b,off+j,none⟩) hb ⟨fun i hi=>hN.2 i (DS.iw hi),hN.1.2⟩).trans (hc j _ (aZ hj)).1
   ·simp only[ba,aY,bc,bd] at h1 h2
    obtain⟨p,hp,rfl⟩:=h2
    obtain⟨j',ql,rfl⟩:=h1
    have:j'=j:=by
     rw[aT] at ql
     obtain⟨_,h⟩:=ql
     simpa using h.symm
    subst this
    exact .pv (hr _ p hp)) hK
theorem a_.Gb (hq:q≠ .held) {x:Operand} {t e:TypeId} {i n:Nat} {e7:List (List PV)} {p:PV} (hx:δ.ev x=.gY i e 1 e7 n) (hp:e7[n]? =some [p]) (ht:iS P t=true) (ho:fk x=true) (hd:gb δ.n dst=true)
  (hK:a_ q P g ops rest Q (δ.eZ dst (.pv p))):a_ q P g ops (⟨dst,.load t x,ty,pos,af,none⟩::rest) Q δ:=
 a_.RU _ hq rfl rfl hd (fun κ a w r=>by
  have h1:=r.ra hx ho
  generalize hv:a.eval x=v at h1
  cases h1 with
  | @gY _ _ _ _ _ b cap hi h=>
   obtain⟨_,_,_,_,xs,hX,_,Gy⟩:=h
   obtain⟨u,h1,h2⟩:=Gy n 0 p (by simp [cellAt,hp])
   have h3:=hX.cellAt (n*1) (by omega)
   have ft:b<w.heap.size:=(hX.lt b rfl).2
   exact⟨u,fun w' ly=>kU ht hv ((ly.cell (p:=⟨b,n*1,none⟩) ft).trans (h3.trans h1)),.pv h2⟩) hK
theorem a_.DZ (hq:q≠ .held) {α:Type} {x:Operand} {t e:TypeId} {i n:Nat} {f:α→PV} {l:List α} (hx:δ.ev x=.gY i e 1 (l.map fun z=>[f z]) n) (hn:n<l.length) (ht:iS P t=true) (ho:fk x=true) (hd:gb δ.n dst=true)
  (hK:a_ q P g ops rest Q (δ.eZ dst (.pv (f l[n])))):a_ q P g ops (⟨dst,.load t x,ty,pos,af,none⟩::rest) Q δ:=
 a_.Gb hq hx (by rw[aY,aZ hn];rfl) ht ho hd hK
theorem a_.guard {op:Op} {gj:Nat} {want b:Bool} {d:Nat} {o':Oper} (ho:ops[gj]? =some o') (hd:o'.dst=some d) (yt:aV d HS=true) (yU:aV d δ.n=true) (hb:δ.get d=fe b) (xK:gb δ.n dst=true)
  (hy:b=want→a_ q P g ops (⟨dst,op,ty,pos,af,none⟩::rest) Q δ) (hn:b=!want→a_ q P g ops rest Q (δ.eZ dst (.pv (.lit undef)))):a_ q P g ops (⟨dst,op,ty,pos,af,some (gj,want)⟩::rest) Q δ:=by
 intro κ a w r
 have ft:d<HS:=by simpa using yt
 have BP:d<δ.n:=by simpa using yU
 have hv:a.tmps.getD d undef=.bool b:=by
  have:=r.env d
  rw[hb] at this
  unfold eY.val at this
  rw[if_pos ft] at this
  exact this.lit
 have Qi:a.tmps[d]? =some (.bool b):=by
  rw[← r.n] at BP
  rw[aO,aK BP] at hv
  rw[aK BP]
  exact congrArg some hv
 have Tq:yielded ops a.tmps gj=some b:=by
  simp [yielded,ho,hd,Qi]
 cases q with
 |quiet=>
  by_cases AB:b=want
  ·have h1:=hy AB κ a w r
   simp only at h1 ⊢
   unfold wpQuiet at h1 ⊢
   simp only[Region.wanted,if_true] at h1
   rw[if_pos (by simp [Region.wanted,Tq,AB])]
   exact h1
  ·have h1:=hn (by cases b<;>cases want<;>simp_all) κ _ w (r.eZ (v:=undef) (fE xK) (.pv (.lit _)))
   simp only at h1 ⊢
   unfold wpQuiet
   rw[if_neg (by simp [Region.wanted,Tq];exact AB)]
   exact h1
 |held=>
  by_cases AB:b=want
  ·have h1:=hy AB κ a w r
   simp only at h1 ⊢
   obtain⟨v,h1,h2⟩:=h1
   refine⟨v,.inl ⟨by simp [Region.wanted,Tq,AB],?_⟩,h2⟩
   rcases h1 with ⟨_,h1⟩|⟨h1,_⟩
   ·exact h1
   ·simp [Region.wanted] at h1
  ·have h1:=hn (by cases b<;>cases want<;>simp_all) κ _ w (r.eZ (v:=undef) (fE xK) (.pv (.lit _)))
   have hH:mb (δ.eZ dst (.pv (.lit undef))) κ w=mb δ κ w:=by unfold mb;rw[Bh]
   simp only[hH,uw] at h1 ⊢
   exact⟨undef,.inr ⟨by simp [Region.wanted,Tq];exact AB,rfl⟩,h1⟩
 |plain=>
 by_cases AB:b=want
 ·have h1:=hy AB κ a w r
  simp only at h1 ⊢
  unfold wpListIn at h1 ⊢
  simp only[Region.wanted,if_true] at h1
  rw[if_pos (by simp [Region.wanted,Tq,AB])]
  exact h1
 ·have h1:=hn (by cases b<;>cases want<;>simp_all) κ _ w (r.eZ (v:=undef) (fE xK) (.pv (.lit _)))
  simp only at h1 ⊢
  unfold wpListIn
  rw[if_neg (by simp [Region.wanted,Tq];exact AB)]
  exact⟨fun _ _=>trivial,h1⟩
theorem a_.pick {x y z:Operand} {b:Bool} {v:AV} (hx:δ.ev x=fe b) (ho:fk x=true) (np:fk y=true) (s8:fk z=true) (hy:b=true→δ.ev y=v) (hz:b=false→δ.ev z=v) (hd:gb δ.n dst=true)
  (hK:a_ q P g ops rest Q (δ.eZ dst v)):a_ q P g ops (⟨dst,.pick x y z,ty,pos,af,none⟩::rest) Q δ:=
 a_.jK _ hd (fun κ a w r=>by
  have h1:=r.lit hx ho
  cases b with
  |true=>exact⟨a.eval y,fun w' _=>by simp [execOp,h1,asBool],r.ra (hy rfl) np⟩
  |false=>exact⟨a.eval z,fun w' _=>by simp [execOp,h1,asBool],r.ra (hz rfl) s8⟩) hK
theorem a_.not {x:Operand} {t:TypeId} {b:Bool} (hx:δ.ev x=fe b) (ho:fk x=true) (hd:gb δ.n dst=true) (hK:a_ q P g ops rest Q (δ.eZ dst (fe (!b)))):
  a_ q P g ops (⟨dst,.unOp .not t x,ty,pos,af,none⟩::rest) Q δ:=
 a_.jK _ hd (fun κ a w r=>⟨.bool !b,fun w' _=>by simp [execOp,r.lit hx ho,Op.unary],.pv (.lit _)⟩) hK
theorem a_.conv {x:Operand} {s t:TypeId} {ks kt:IntKind} {d:TypeDesc} {m:Int} (hx:δ.ev x=.pv (.lit (.int ks m))) (hs:P.underlying s=some d) (ht:P.underlying t=some (.int kt)) (ho:fk x=true) (hd:gb δ.n dst=true)
  (hK:a_ q P g ops rest Q (δ.eZ dst (.pv (.lit (.int kt (kt.wrap m)))))):a_ q P g ops (⟨dst,.convert s t x,ty,pos,af,none⟩::rest) Q δ:=
 a_.jK _ hd (fun κ a w r=>⟨.int kt (kt.wrap m),fun w' _=>by simp [execOp,r.lit hx ho,convert,run_underlying hs,run_underlying ht,Conv.intToInt],.pv (.lit _)⟩) hK
theorem a_.extract {x:Operand} {i:Nat} {vs:List AV} {v:AV} (hx:δ.ev x=.iR vs) (hv:vs[i]? =some v) (ho:fk x=true) (hd:gb δ.n dst=true) (hK:a_ q P g ops rest Q (δ.eZ dst v)):
  a_ q P g ops (⟨dst,.extract x i,ty,pos,af,none⟩::rest) Q δ:=
 a_.jK _ hd (fun κ a w r=>by
  have h1:=r.ra hx ho
  generalize hu:a.eval x=u at h1
  cases h1 with
  | @iR us _ hs h=>
   have ft:i<us.size:=by rw[hs];exact(aT.1 hv).1
   refine⟨us[i],fun w' _=>by simp [execOp,hu,Instr.extract,aK ft],h i _ _ (aK ft) hv⟩) hK
theorem a_.kr {x:Operand} {i off:Nat} (hx:δ.ev x=.ptr i off) (ho:fk x=true) (hd:gb δ.n dst=true) (hK:a_ q P g ops rest Q (δ.eZ dst (.ptr i off))):
  a_ q P g ops (⟨dst,.nilCheck x,ty,pos,af,none⟩::rest) Q δ:=
 a_.jK _ hd (fun κ a w r=>by
  have h1:=r.ra hx ho
  generalize hu:a.eval x=u at h1
  cases h1 with
  |ptr hl hκ=>exact⟨_,fun w' _=>by simp [execOp,hu],.ptr hl hκ⟩) hK
end Go.Ab
/- Contracts of functions over told values;entering a function,returning from it,calling by contract. -/
namespace Go.Ab
open Go Go.RowKit
variable {P:Program} {g:eY} {δ:DS} {κ:Kp} {a:Act} {w:World}
variable {ops:Array Oper} {rest:List Oper} {Q:Exit→DS→Prop} {dst:Option Nat} {ty:TypeId} {pos:String} {af:Array Edge}
def yA (N:Nat→Prop):Cx:={B:=0,κ:=⟨fun _=>none,fun _ _=>False⟩,N,Lr:=fun _=>False,Lb:=fun _=>False}
structure Fn (P:Program) (f:FuncId) (args:List AV) (r:AV):Prop where
 enters:∀vals w,(callFunc f vals).run P w=.ok (.enter f vals) w
 calls:∀(N:Nat→Prop) (w:World) (vals:Array Value),(∀b,w.heap.size≤b→N b)→vals.size=args.length→
  (∀(j:Nat) (v:Value) (av:AV),vals[j]? =some v→args[j]? =some av→RA (yA N) w v av)→
  Calls P f vals w fun e w'=>∃v,e=.returned v∧RA (yA N) w' v r∧Below w.heap.size w w'
theorem RA.Fv {N:Nat→Prop} {w:World} {v:Value} {av:AV} (h:RA (yA N) w v av) (C:Cx) (hN:∀b,b<w.heap.size→N b→C.N b):RA C w v av:=by
 have hp:∀{v:Value} {p:PV},RP N w v p→RP C.N w v p:=fun h=>h.mono (aM _) fun b h1 h2=>⟨hN b h1 h2,rfl⟩
 induction h with
 |any v=>exact .any v
 |pv h=>exact .pv (hp h)
 |own h=>exact h.live.elim
 |ptr hl hκ=>exact hl.elim
 |gy b off vs JE hb hc hr=>exact .gy b off vs (hN b hb JE) hb hc (fun j p h=>hp (hr j p h))
 |gY hi h=>exact h.live.elim
 |agg hs h ih=>exact .agg hs ih
 |iR hs h ih=>exact .iR hs ih
 |jd hs h ht h' ih ih'=>exact .jd hs ih ht ih'
 |gH hl hκ=>exact hl.elim
 |kS hl hκ=>exact hl.elim
inductive Le (ow:Bool):AV→AV→Prop
 |any (v:AV):Le ow v .any
 |pv (p:PV):Le ow (.pv p) (.pv p)
 |nil (k:Nat):Le ow (.pv (.lit (.slice none 0 0))) (.pv (.slice k []))
 |own (i e k e7) (h:ow=true):Le ow (.own i e k e7) (.pv (.slice k e7))
 |gy (c:List PV):Le ow (.gy c) (.gy c)
 |agg {cs ds:List AV} (hl:cs.length=ds.length) (h:∀(j:Nat) (c d:AV),cs[j]? =some c→ds[j]? =some d→Le ow c d):Le ow (.agg cs) (.agg ds)
 |iR {cs ds:List AV} (hl:cs.length=ds.length) (h:∀(j:Nat) (c d:AV),cs[j]? =some c→ds[j]? =some d→Le ow c d):Le ow (.iR cs) (.iR ds)
inductive gX (ow:Bool):List AV→List AV→Prop
 |nil:gX ow [] []
 |cons {c d:AV} {cs ds:List AV} (h:Le ow c d) (hs:gX ow cs ds):gX ow (c::cs) (d::ds)
theorem gX.len {ow:Bool} {cs ds:List AV} (h:gX ow cs ds):cs.length=ds.length:=by induction h with|nil=>rfl|cons h hs ih=>simp [ih]
theorem gX.at {ow:Bool} {cs ds:List AV} (h:gX ow cs ds):∀(j:Nat) (c d:AV),cs[j]? =some c→ds[j]? =some d→Le ow c d:=by
 induction h with
 |nil=>intro j c d h1;simp at h1
 |cons h hs ih=>
  intro j c d h1 h2
  cases j with
  |zero=>simp at h1 h2;subst h1;subst h2;exact h
  |succ j=>exact ih j c d (by simpa using h1) (by simpa using h2)
theorem Le.ia {ow:Bool} {cs ds:List AV} (h:gX ow cs ds):Le ow (.agg cs) (.agg ds):=.agg h.len h.at
theorem Le.nV {ow:Bool} {cs ds:List AV} (h:gX ow cs ds):Le ow (.iR cs) (.iR ds):=.iR h.len h.at
theorem jB.pv {C:Cx} {w:World} {v:Value} {i e k e7} (h:jB C w v i e k e7) {N:Nat→Prop} (hN:∀b,b<w.heap.size→C.N b→N b) (hκ:∀i b,C.Lr i→C.κ i=some b→N b):RP N w v (.slice k e7):=by
 obtain⟨hl,mP,hk,hb,xs,ho,h1,hx⟩:=h
 have gi:=ho
 rcases ho.2 with ⟨rfl,h0⟩|⟨b,cap,cur,rfl,h2,h3,h4⟩
 ·have:e7=[]:=bf h0
  subst this
  exact .slice 0 0 (fun _ _=>undef) rfl (bg _) (by simp) (fun h=>absurd rfl h) (by simp) (fun i j p h=>by simp [cellAt] at h) (fun i j p h=>by simp [cellAt] at h)
 ·refine .slice b 0 (fun i j=>(xs[i*k+j]?).getD undef) rfl h4.1 mP (fun _=>⟨rfl,hκ i b hl (hb b rfl),(aL.1 h3).1⟩) hk (fun i j p hp=>?_) (fun i j p hp=>?_)
  ·obtain⟨u,hu,_⟩:=hx i j p hp
   have ft:i*k+j<e7.length*k:=by have:=(aT.1 hu).1;rw[← ho.1];exact this
   simp only[hu,bh,a6]
   exact⟨(gi.cellAt _ ft).trans hu,h1 u (aR hu)⟩
  ·obtain⟨u,hu,hr⟩:=hx i j p hp
   simp only[hu,bh]
   exact hr.mono (aM _) fun b h1 h2=>⟨hN b h1 h2,rfl⟩
theorem RA.le {ow:Bool} {C:Cx} {w:World} {v:Value} {av r:AV} (h:RA C w v av) (hle:Le ow av r) {N:Nat→Prop} (hN:∀b,b<w.heap.size→C.N b→N b) (hκ:ow=true→∀i b,C.Lr i→C.κ i=some b→N b):RA (yA N) w v r:=by
 induction hle generalizing v with
 |any v=>exact .any _
 |pv p=>exact .pv (h.kf.mono (aM _) fun b h1 h2=>⟨hN b h1 h2,rfl⟩)
 |nil k=>cases h.lit;exact .pv (.slice 0 0 (fun _ _=>undef) rfl (bg _) (by simp) (fun h=>absurd rfl h) (by simp) (fun i j p h=>by simp [cellAt] at h) (fun i j p h=>by simp [cellAt] at h))
 |own i e k e7 how=>exact .pv (h.jt.pv hN (hκ how))
 |gy c=>
  cases h with
  |gy b off vs JE hb hc hr=>exact .gy b off vs (hN b hb JE) hb hc (fun j p h=>(hr j p h).mono (aM _) fun b h1 h2=>⟨hN b h1 h2,rfl⟩)
 | @agg cs ds hl _ ih=>
  cases h with
  |agg hs h=>
   refine .agg (hs.trans hl) fun j u d h1 h2=>?_
   have ft:j<cs.length:=by rw[hl];exact(aT.1 h2).1
   exact ih j _ d (aZ ft) h2 (h j u _ h1 (aZ ft))
 | @iR cs ds hl _ ih=>
  cases h with
  |iR hs h=>
   refine .iR (hs.trans hl) fun j u d h1 h2=>?_
   have ft:j<cs.length:=by rw[hl];exact(aT.1 h2).1
   exact ih j _ d (aZ ft) h2 (h j u _ h1 (aZ ft))
theorem kb {ro:Option Nat} {f:FuncId} {vals:Array Value} {R:Ending→World→Prop} (h:Calls P f vals w R):CallsIn (Fw ro) 0 P f vals w R:=callsIn_wide.2 h
inductive rV (ow:Bool) (δ:DS):List Operand→List AV→Prop
 |nil:rV ow δ [] []
 |cons {x:Operand} {v:AV} {xs:List Operand} {vs:List AV} (ho:fk x=true) (h:Le ow (δ.ev x) v) (hs:rV ow δ xs vs):rV ow δ (x::xs) (v::vs)
theorem rV.len {ow:Bool} {xs:List Operand} {vs:List AV} (h:rV ow δ xs vs):xs.length=vs.length:=by induction h with|nil=>rfl|cons ho h hs ih=>simp [ih]
theorem rV.at {ow:Bool} {xs:List Operand} {vs:List AV} (h:rV ow δ xs vs):∀(j:Nat) (x:Operand) (v:AV),xs[j]? =some x→vs[j]? =some v→fk x=true∧Le ow (δ.ev x) v:=by
 induction h with
 |nil=>intro j x v h1;simp at h1
 |cons ho h hs ih=>
  intro j x v h1 h2
  cases j with
  |zero=>simp at h1 h2;subst h1;subst h2;exact⟨ho,h⟩
  |succ j=>exact ih j x v (by simpa using h1) (by simpa using h2)
inductive Flat:AV→Prop
 |any:Flat .any
 |lit (v:Value):Flat (.pv (.lit v))
 |iR {vs:List AV} (h:∀v∈vs,Flat v):Flat (.iR vs)
 |agg {vs:List AV} (h:∀v∈vs,Flat v):Flat (.agg vs)
theorem Flat.ra {v:AV} (hf:Flat v) {C C':Cx} {w w':World} {u:Value} (h:RA C w u v):RA C' w' u v:=by
 induction hf generalizing u with
 |any=>exact .any _
 |lit v=>rw[h.lit];exact .pv (.lit _)
 |iR hv ih=>cases h with|iR hs h=>exact .iR hs fun j u c h1 h2=>ih c (aR h2) (h j u c h1 h2)
 |agg hv ih=>cases h with|agg hs h=>exact .agg hs fun j u c h1 h2=>ih c (aR h2) (h j u c h1 h2)
theorem mD {x:Operand} {f:FuncId} {xs tys:Array _} {ρ:Operand→Value} (hx:ρ x=.func (.func f) #[] #[]) (he:∀vals w,(callFunc f vals).run P w=.ok (.enter f vals) w) (w:World):
  (execOp ρ ⟨dst,.call {callee:=.value x,args:=xs,argTypes:=tys},ty,pos,af,none⟩).run P w=.ok (.enter f (xs.map ρ)) w:=by
 simp [execOp,resolve,Deferred.ofValue,invoke,hx,he]
theorem rV.Vf {ow:Bool} {xs:List Operand} {args:List AV} (h:rV ow δ xs args) (r:Rel g δ κ a w) {N:Nat→Prop} (hN:∀b,b<w.heap.size→(δ.cx g κ).N b→N b) (hκ:ow=true→∀i b,δ.lr i→κ i=some b→N b):
  ∀(j:Nat) (v:Value) (av:AV),(xs.toArray.map a.eval)[j]? =some v→args[j]? =some av→RA (yA N) w v av:=by
 intro j v av h1 h2
 simp only[bj,ba,aY,bc] at h1
 obtain⟨x,hx,rfl⟩:=h1
 obtain⟨ho,hle⟩:=h.at j x av hx h2
 exact(r.C5 x (iK ho)).le hle hN hκ
mutual
def AV.wz:AV→Bool
 |.pv (.lit _)=>true
 |.agg cs=>AV.JH cs
 |.iR cs=>AV.JH cs
 |_=>false
def AV.JH:List AV→Bool
 |[]=>true
 |c::cs=>c.wz && AV.JH cs
end
theorem AV.tW:∀{l:List AV},AV.JH l=true→∀(j:Nat) (c:AV),l[j]? =some c→c.wz=true
 |[],_,j,c,h=>by simp at h
 |x::l,h,j,c,hj=>by
  simp only[AV.JH,aW] at h
  cases j with
  |zero=>simp at hj;subst hj;exact h.1
  |succ j=>exact AV.tW h.2 j c (by simpa using hj)
theorem RA.wz {C C':Cx} {w w':World} {u u':Value} {av:AV} (h:RA C w u av) (h':RA C' w' u' av) (hd:av.wz=true):u'=u:=by
 induction h generalizing u' with
 | @pv v p h=>
  cases p with
  |any=>simp [AV.wz] at hd
  |lit v=>cases h;exact h'.lit
  |slice=>simp [AV.wz] at hd
  |mp=>simp [AV.wz] at hd
  |clip=>simp [AV.wz] at hd
 | @agg vs cs hs h ih=>
  cases h' with
  | @agg us _ Is h'=>
   simp only[AV.wz] at hd
   congr 1
   apply bk (by omega)
   intro j h1 h2
   have hc:j<cs.length:=by omega
   exact ih j _ _ (aK h2) (aZ hc) (h' j _ _ (aK h1) (aZ hc)) (AV.tW hd j _ (aZ hc))
 | @iR vs cs hs h ih=>
  cases h' with
  | @iR us _ Is h'=>
   simp only[AV.wz] at hd
   congr 1
   apply bk (by omega)
   intro j h1 h2
   have hc:j<cs.length:=by omega
   exact ih j _ _ (aK h2) (aZ hc) (h' j _ _ (aK h1) (aZ hc)) (AV.tW hd j _ (aZ hc))
 |_=>simp [AV.wz] at hd
mutual
def AV.out:AV→Value
 |.pv (.lit v)=>v
 |.agg cs=> .agg (AV.m_ cs).toArray
 |.iR cs=> .tuple (AV.m_ cs).toArray
 |_=>undef
def AV.m_:List AV→List Value
 |[]=>[]
 |c::cs=>c.out::AV.m_ cs
end
theorem AV.BT:∀l:List AV,AV.m_ l=l.map AV.out
 |[]=>rfl
 |c::cs=>by simp [AV.m_,AV.BT cs]
theorem AV.nB {C:Cx} {w:World}:∀{v:AV},v.wz=true→RA C w v.out v
 |.pv (.lit v),_=> .pv (.lit v)
 |.agg cs,h=>by
  simp only[AV.out,AV.BT]
  refine .agg (by simp) fun j u c h1 h2=>?_
  simp only[ba,aY,h2,bm,Option.some.injEq] at h1
  subst h1
  have:=aR h2
  exact AV.nB (AV.tW (by simpa [AV.wz] using h) j c h2)
 |.iR cs,h=>by
  simp only[AV.out,AV.BT]
  refine .iR (by simp) fun j u c h1 h2=>?_
  simp only[ba,aY,h2,bm,Option.some.injEq] at h1
  subst h1
  have:=aR h2
  exact AV.nB (AV.tW (by simpa [AV.wz] using h) j c h2)
 |.pv .any,h|.pv (.slice _ _),h|.pv (.mp _),h|.any,h|.own _ _ _ _,h|.ptr _ _,h|.gy _,h|.gY _ _ _ _ _,h|.jd _ _ _,h|.gH _,h|.kS _,h=>by simp [AV.wz] at h
theorem a_.call {q:Md} {f:FuncId} {xs:List Operand} {tys:Array TypeId} {args:List AV} {r:AV} (hf:Fn P f args r) (gp:rV true δ xs args) (oY:r.wz=true) (hd:gb δ.n dst=true) (hq:q≠ .held)
  (hK:a_ q P g ops rest Q (δ.eZ dst r)):a_ q P g ops (⟨dst,.call {callee:=.value (.func f),args:=xs.toArray,argTypes:=tys},ty,pos,af,none⟩::rest) Q δ:=by
 intro κ a w r0
 have hc:∀w',Below w.heap.size w w'→Calls P f (xs.toArray.map a.eval) w' fun e w''=>e=.returned r.out∧Below w'.heap.size w' w'':=fun w' ly=>
  (hf.calls (fun _=>True) w' _ (fun _ _=>trivial) (by simp [gp.len]) (gp.Vf (r0.ext ly) (fun _ _ _=>trivial) (fun _ _ _ _ _=>trivial))).mono (by
   rintro e w'' ⟨v,rfl,hv,hb⟩
   exact⟨by rw[hv.wz (AV.nB (C:=yA (fun _=>True)) (w:=w) oY) oY],hb⟩)
 have zI:=hK κ _ _ (r0.eZ (fE hd) (AV.nB oY))
 cases q with
 |quiet=>
  show wpQuiet P ops _ _ (_::rest) a
  unfold wpQuiet
  rw[if_pos (by simp [Region.wanted])]
  refine⟨r.out,fun w' ly=>?_,zI⟩
  unfold Oper.quietAt
  rw[mD (f:=f) rfl hf.enters]
  exact⟨rfl,(hc w' ly).mono fun e w'' ⟨h1,h2⟩=>⟨h1,ly.trans (h2.mono ly.size)⟩⟩
 |held=>exact absurd rfl hq
 |plain=>
  show wpListIn _ _ P ops _ (_::rest) a w
  refine iu rfl rfl fun K rf=>?_
  unfold Oper.AL
  rw[mD (f:=f) rfl hf.enters,Oper.uponIn_enter]
  refine⟨fun h=>by simp at h,(kb (hc w (Below.refl _ _))).mono ?_⟩
  rintro e w' ⟨rfl,hb⟩
  exact rf _ _ (hK κ _ _ ((r0.ext hb).eZ (fE hd) (AV.nB oY)))
theorem a_.F1 {f:FuncId} {xs:List Operand} {tys:Array TypeId} {args:List AV} {r:AV} (hf:Fn P f args r) (gp:rV false δ xs args) (hd:gb δ.n dst=true)
  (hK:a_ .plain P g ops rest Q (δ.eZ dst r)):a_ .plain P g ops (⟨dst,.call {callee:=.value (.func f),args:=xs.toArray,argTypes:=tys},ty,pos,af,none⟩::rest) Q δ:=by
 intro κ a w r0
 show wpListIn _ _ P ops _ (_::rest) a w
 refine iu rfl rfl fun K rf=>?_
 unfold Oper.AL
 rw[mD (f:=f) rfl hf.enters,Oper.uponIn_enter]
 refine⟨fun h=>by simp at h,(kb (hf.calls (fun b=>(δ.cx g κ).N b∨w.heap.size≤b) w _ (fun _ h=> .inr h) (by simp [gp.len]) (gp.Vf r0 (fun _ _ h=> .inl h) (fun h=>by simp at h)))).mono ?_⟩
 rintro e w' ⟨v,rfl,hv,hb⟩
 have r1:=r0.ext hb
 refine rf _ _ (hK κ _ _ (r1.eZ (fE hd) (hv.Fv _ fun b _ h=>?_)))
 rcases h with h|h
 ·exact h
 ·refine⟨r0.Ly h,fun i hi e=>?_⟩
  have:=(r0.lo i b hi e).2
  omega
def enum (i:Nat):List AV→List (Nat×AV)
 |[]=>[]
 |v::vs=>(i,v)::enum (i+1) vs
theorem oU (l:List AV):∀(i j:Nat) (v:AV),i≤j→l[j - i]? =some v→look (enum i l) j=v:=by
 induction l with
 |nil=>intro i j v _ h;simp at h
 |cons x l ih=>
  intro i j v Ad h
  unfold enum
  rw[fC]
  by_cases e:i=j
  ·subst e;simp at h;simp [h]
  ·rw[if_neg e]
   refine ih (i+1) j v aG ?_
   have:j - i=(j - (i+1))+1:=by omega
   rw[this] at h;simpa using h
theorem jV (l:List AV):∀(i j:Nat),(j<i∨i+l.length≤j)→look (enum i l) j=.any:=by
 induction l with
 |nil=>intro i j _;rfl
 |cons x l ih=>
  intro i j h
  unfold enum
  simp only[List.length_cons] at h
  rw[fC,if_neg aG]
  exact ih (i+1) j (by omega)
def start (n:Nat) (args:List AV):DS:={n,env:=enum 0 args,fY:=[],nx:=0}
inductive rL (P:Program) (δ:DS):ResultVar→AV→Prop
 |tmp {t:Tmp} {v:AV} (ht:aV t HS=true) (h:δ.get t=v):rL P δ (.tmp t) v
 |cell {t:Tmp} {ty:TypeId} {i:Nat} {cells:List AV} (ht:aV t HS=true) (h:δ.get t=.ptr i 0) (ho:δ.ob i=some (.box cells)) (Vx:yT P ty cells.length=true):rL P δ (.cell t ty) (.agg cells)
 |cell1 {t:Tmp} {ty:TypeId} {i:Nat} {v:AV} (ht:aV t HS=true) (h:δ.get t=.ptr i 0) (ho:δ.ob i=some (.box [v])) (Vx:iS P ty=true):rL P δ (.cell t ty) v
def BQ (P:Program) (tmps:Array Value):ResultVar→Sem Value
 |.tmp t=>pure (tmps.getD t undef)
 |.cell a t=>do loadVar t (← asAddr (tmps.getD a undef))
theorem Rel.box (r:Rel g δ κ a w) {u:Value} {i off:Nat} {cells:List AV} (h:RA (δ.cx g κ) w u (.ptr i off)) (ho:δ.ob i=some (.box cells)):
  ∃b c e,u=.pointer (some ⟨b,off,none⟩)∧κ i=some b∧w.heap[b]? =some (.cells c e (0,0))∧c.size=cells.length∧∀(j:Nat) (u:Value) (av:AV),c[j]? =some u→cells[j]? =some av→RA (δ.cx g κ) w u av∧u.oneCell'=true:=by
 cases h with
 | @ptr _ _ b hl hκ=>
  obtain⟨b',c,e,h1,h2,h3,h4⟩:=r.obj i _ ho
  have:b'=b:=by have:=h1.symm.trans hκ;simpa using this
  subst this
  exact⟨b',c,e,rfl,h1,h2,h3,h4⟩
theorem cell_of {w:World} {b:Nat} {c:Array Value} {e:TypeId} (h:w.heap[b]? =some (.cells c e (0,0))) (j:Nat):w.cell? ⟨b,j,none⟩=c[j]?:=by simp [World.cell?,h]
theorem rL.run {rv:ResultVar} {v:AV} (h:rL P δ rv v) (r:Rel g δ κ a w):∃u,(BQ P a.tmps rv).run P w=.ok u w∧RA (δ.cx g κ) w u v:=by
 cases h with
 | @tmp t _ ht h=>
  have:=r.env t
  unfold eY.val at this
  rw[if_pos (by simpa using ht),h] at this
  exact⟨_,rfl,this⟩
 | @cell t ty i cells ht h ho Vx=>
  have h0:=r.env t
  unfold eY.val at h0
  rw[if_pos (by simpa using ht),h] at h0
  obtain⟨b,c,e,h1,h2,h3,h4,h5⟩:=r.box h0 ho
  have h6:=run_loadCells (P:=P) (w:=w) ⟨b,0,none⟩ cells.length (fun j=>c.getD j undef) (fun j hj=>by
   rw[iV,cell_of h3,a6,aK aG]
   rw[aO,aK aG];rfl)
  refine⟨.agg ((a7 cells.length).map (fun j=>c.getD j undef)).toArray,by simp only[BQ,h1,asAddr,loadVar,Sem.run_bind,Sem.run_pure,Result.andThen_ok,su Vx,if_true,h6],.agg (by simp) (fun j u av h7 h8=>?_)⟩
  have ft:=(aT.1 h8).1
  refine(h5 j u av ?_ h8).1
  simp only[ba,aY,bc] at h7
  obtain⟨j',ql,rfl⟩:=h7
  have:j'=j:=by
   rw[aT] at ql
   obtain⟨_,h⟩:=ql
   simpa using h.symm
  subst this
  rw[aO,aK aG];rfl
 | @cell1 t ty i v ht h ho Vx=>
  have h0:=r.env t
  unfold eY.val at h0
  rw[if_pos (by simpa using ht),h] at h0
  obtain⟨b,c,e,h1,h2,h3,h4,h5⟩:=r.box h0 ho
  have ft:0<c.size:=by rw[h4];simp
  have hc:w.cell? ⟨b,0,none⟩=some c[0]:=by rw[cell_of h3,aK ft]
  refine⟨c[0],by simp [BQ,h1,asAddr,loadVar,kC Vx,load,Sem.run,hc],(h5 0 _ _ (aK ft) rfl).1⟩
inductive fZ (P:Program) (δ:DS):List ResultVar→AV→Prop
 |one {r1:ResultVar} {v:AV} (h:rL P δ r1 v):fZ P δ [r1] v
 |none:fZ P δ [] (.iR [])
 |two {r1 r2:ResultVar} {v1 v2:AV} (h1:rL P δ r1 v1) (h2:rL P δ r2 v2):fZ P δ [r1,r2] (.iR [v1,v2])
 |three {r1 r2 r3:ResultVar} {v1 v2 v3:AV} (h1:rL P δ r1 v1) (h2:rL P δ r2 v2) (h3:rL P δ r3 v3):fZ P δ [r1,r2,r3] (.iR [v1,v2,v3])
 |five {r1 r2 r3 r4 r5:ResultVar} {v1 v2 v3 v4 v5:AV} (h1:rL P δ r1 v1) (h2:rL P δ r2 v2) (h3:rL P δ r3 v3) (h4:rL P δ r4 v4) (h5:rL P δ r5 v5):fZ P δ [r1,r2,r3,r4,r5] (.iR [v1,v2,v3,v4,v5])
theorem K1 {C:Cx} {w:World} {u1 u2:Value} {v1 v2:AV} (h1:RA C w u1 v1) (h2:RA C w u2 v2):RA C w (.tuple #[u1,u2]) (.iR [v1,v2]):=by
 refine .iR rfl fun j u c h3 h4=>?_
 match j with
 |0=>simp at h3 h4;subst h3;subst h4;exact h1
 |1=>simp at h3 h4;subst h3;subst h4;exact h2
 |j+2=>simp at h4
theorem Dq {C:Cx} {w:World} {u1 u2 u3:Value} {v1 v2 v3:AV} (h1:RA C w u1 v1) (h2:RA C w u2 v2) (h3:RA C w u3 v3):RA C w (.tuple #[u1,u2,u3]) (.iR [v1,v2,v3]):=by
 refine .iR rfl fun j u c h4 h5=>?_
 match j with
 |0=>simp at h4 h5;subst h4;subst h5;exact h1
 |1=>simp at h4 h5;subst h4;subst h5;exact h2
 |2=>simp at h4 h5;subst h4;subst h5;exact h3
 |j+3=>simp at h5
theorem Nt {C:Cx} {w:World} {u1 u2 u3 u4 u5:Value} {v1 v2 v3 v4 v5:AV} (h1:RA C w u1 v1) (h2:RA C w u2 v2) (h3:RA C w u3 v3) (h4:RA C w u4 v4) (h5:RA C w u5 v5):RA C w (.tuple #[u1,u2,u3,u4,u5]) (.iR [v1,v2,v3,v4,v5]):=by
 refine .iR rfl fun j u c k1 k2=>?_
 match j with
 |0=>simp at k1 k2;subst k1;subst k2;exact h1
 |1=>simp at k1 k2;subst k1;subst k2;exact h2
 |2=>simp at k1 k2;subst k1;subst k2;exact h3
 |3=>simp at k1 k2;subst k1;subst k2;exact h4
 |4=>simp at k1 k2;subst k1;subst k2;exact h5
 |j+5=>simp at k2
theorem Eh {fn:Func} {tmps:Array Value}:results fn tmps=(do let vs ← fn.results.mapM (BQ P tmps);pure (if h:vs.size=1 then vs[0] else .tuple vs)):=by
 unfold results
 congr 1
theorem fZ.run {fn:Func} {rs:List ResultVar} (oh:fn.results=rs.toArray) {v:AV} (h:fZ P δ rs v) (r:Rel g δ κ a w):∃u,(results fn a.tmps).run P w=.ok u w∧RA (δ.cx g κ) w u v:=by
 rw[Eh (P:=P),oh]
 cases h with
 |none=>exact⟨.tuple #[],by simp [bn],.iR rfl (fun j u c h=>by simp at h)⟩
 |one h=>
  obtain⟨u,h1,h2⟩:=h.run r
  exact⟨u,by simp [bn,h1],h2⟩
 |two h1 h2=>
  obtain⟨u1,h1,h3⟩:=h1.run r
  obtain⟨u2,h2,h4⟩:=h2.run r
  exact⟨.tuple #[u1,u2],by simp [bn,h1,h2],K1 h3 h4⟩
 |three h1 h2 h3=>
  obtain⟨u1,h1,h4⟩:=h1.run r
  obtain⟨u2,h2,h5⟩:=h2.run r
  obtain⟨u3,h3,h6⟩:=h3.run r
  exact⟨.tuple #[u1,u2,u3],by simp [bn,h1,h2,h3],Dq h4 h5 h6⟩
 |five h1 h2 h3 h4 h5=>
  obtain⟨u1,h1,k1⟩:=h1.run r
  obtain⟨u2,h2,k2⟩:=h2.run r
  obtain⟨u3,h3,k3⟩:=h3.run r
  obtain⟨u4,h4,k4⟩:=h4.run r
  obtain⟨u5,h5,k5⟩:=h5.run r
  exact⟨.tuple #[u1,u2,u3,u4,u5],by simp [bn,h1,h2,h3,h4,h5],Nt k1 k2 k3 k4 k5⟩
theorem Rel.shut (jz:g.wt=none) (r:Rel g δ κ a w) {k:Nat} (hB:g.B≤k) (hk:w.heap[k]? =some (.deferred (some []))) {a':Act} (ha:a'.tmps=a.tmps) (pt:∀d∈a'.defers,d∈a.defers) (hnf:¬g.fr k) (hd:Jr g a' (w.putObj k (.deferred none))):Rel g δ κ a' (w.putObj k (.deferred none)):=by
 have nF:∀b,b≠k→(w.putObj k (.deferred none)).heap[b]? =w.heap[b]?:=fun b hb=>World.putObj_heap_other hb
 have gz:∀i b,δ.live i→κ i=some b→b≠k:=by
  rintro i b ⟨o,ho⟩ hκ rfl
  have h0:=r.obj i o ho
  cases o with
  |row=>obtain⟨c,e,h1⟩:=h0 b hκ;rw[hk] at h1;cases h1
  |box cs=>obtain⟨b',c,e,h1,h2,_⟩:=h0;have:b'=b:=Option.some.inj (h1.symm.trans hκ);subst this;rw[hk] at h2;cases h2
  |it l seen=>obtain⟨b',h1,h2⟩:=h0;have:b'=b:=Option.some.inj (h1.symm.trans hκ);subst this;rcases h2 with ⟨_,h2⟩|⟨_,_,_,_,_,_,_,_,_,h2,_⟩<;>(rw[hk] at h2;cases h2)
  |mpl l kk v=>obtain⟨b',c,e,h1,h2,_⟩:=h0;have:b'=b:=Option.some.inj (h1.symm.trans hκ);subst this;rw[hk] at h2;cases h2
  |lit T vals=>obtain⟨b',h1,h2⟩:=h0;have:b'=b:=Option.some.inj (h1.symm.trans hκ);subst this;rw[hk] at h2;cases h2
  |fm e rows=>exact absurd (h0.1.symm.trans hκ) (by simp)
  |mp l=>obtain⟨b',c,e,h1,h2,_⟩:=h0;have:b'=b:=Option.some.inj (h1.symm.trans hκ);subst this;rw[hk] at h2;cases h2
  |loop l tm ps iQ body st=>obtain⟨b',c,h1,h2,_⟩:=h0;have:b'=b:=Option.some.inj (h1.symm.trans hκ);subst this;rw[hk] at h2;cases h2
 -- a told value leans on cells alone:block k is none
 have jZ:∀off v,w.cell? ⟨k,off,none⟩=some v→False:=fun off v h=>by simp [World.cell?,hk] at h
 have P_:∀{N:Nat→Prop} {v:Value} {p:PV},RP N w v p→RP N (w.putObj k (.deferred none)) v p:=by
  intro N v p h
  induction h with
  |any v=>exact .any v
  |lit v=>exact .lit v
  |slice b off vs hl p_ hb ha A7 hc hr ih=>
   refine .slice b off vs hl p_ hb (fun he=>⟨(ha he).1,(ha he).2.1,by rw[World.putObj_size];exact(ha he).2.2⟩) A7 (fun i j p hp=>⟨?_,(hc i j p hp).2⟩) ih
   have h1:=(hc i j p hp).1
   by_cases e:b=k
   ·subst e;exact(jZ _ _ h1).elim
   ·exact(World.cell?_of_block (w:=w) (a:=⟨b,off+i*_+j,none⟩) (nF b e)).trans h1
  |mp b clock es hN hb hh hs ij A7 hr ih=>
   have e:b≠k:=by rintro rfl;rw[hk] at hh;cases hh
   exact .mp b clock es hN (by rw[World.putObj_size];exact hb) ((nF b e).trans hh) hs ij A7 ih
  |clip h ih=>exact .clip ih
 have hX:∀{v:Value} {i e k' e7},jB (δ.cx g κ) w v i e k' e7→jB (δ.cx g κ) (w.putObj k (.deferred none)) v i e k' e7:=by
  intro v i e k' e7 h
  obtain⟨hl,mP,jN,hb,xs,ho,h1,hx⟩:=h
  refine⟨hl,mP,jN,hb,xs,⟨ho.1,?_⟩,h1,fun i' j p hp=>let ⟨u,h1,h2⟩:=hx i' j p hp;⟨u,h1,P_ h2⟩⟩
  rcases ho.2 with hn|⟨b,cap,cur,rfl,h2,h3,h4⟩
  ·exact .inl hn
  ·exact .inr ⟨b,cap,cur,rfl,h2,(nF b (gz i b (DS.iw hl) (hb b rfl))).trans h3,h4⟩
 have oz:∀{v:Value} {av:AV},RA (δ.cx g κ) w v av→RA (δ.cx g κ) (w.putObj k (.deferred none)) v av:=by
  intro v av h
  induction h with
  |any v=>exact .any v
  |pv h=>exact .pv (P_ h)
  |own h=>exact .own (hX h)
  |ptr hl hκ=>exact .ptr hl hκ
  |gy b off vs hN hb hc hr=>
   refine .gy b off vs hN (by rw[World.putObj_size];exact hb) (fun j p hp=>⟨?_,(hc j p hp).2⟩) (fun j p hp=>P_ (hr j p hp))
   have h1:=(hc j p hp).1
   by_cases e:b=k
   ·subst e;exact(jZ _ _ h1).elim
   ·exact(World.cell?_of_block (w:=w) (a:=⟨b,off+j,none⟩) (nF b e)).trans h1
  |gY hi h=>exact .gY hi (hX h)
  |agg hs h ih=>exact .agg hs ih
  |iR hs h ih=>exact .iR hs ih
  |jd hs h ht h' ih ih'=>exact .jd hs ih ht ih'
  |gH hl hκ=>exact .gH hl hκ
  |kS hl hκ=>exact .kS hl hκ
 exact
  {n:=by rw[ha];exact r.n,dfr:=hd
   env:=fun j=>by have:=r.env j;unfold eY.val at this ⊢;rw[ha];exact oz this
   obj:=fun i o h=>by
    have h0:=r.obj i o h
    cases o with
    |row=>intro b hb;obtain⟨c,e,h1⟩:=h0 b hb;exact⟨c,e,(nF b (gz i b ⟨_,h⟩ hb)).trans h1⟩
    |box cs=>obtain⟨b,c,e,h1,h2,h3,h4⟩:=h0;exact⟨b,c,e,h1,(nF b (gz i b ⟨_,h⟩ h1)).trans h2,h3,fun j u av h5 h6=>⟨oz (h4 j u av h5 h6).1,(h4 j u av h5 h6).2⟩⟩
    |it l seen=>
     obtain⟨b,h1,h2⟩:=h0
     have hb:=gz i b ⟨_,h⟩ h1
     rcases h2 with ⟨h2,h3⟩|⟨m,es,clock,h2,h3,h4,h5,h6,h7,h8,h9⟩
     ·exact⟨b,h1,.inl ⟨h2,(nF b hb).trans h3⟩⟩
     ·have TN:m≠k:=by rintro rfl;rw[hk] at h4;cases h4
      exact⟨b,h1,.inr ⟨m,es,clock,h2,by rw[World.putObj_size];exact h3,(nF m TN).trans h4,h5,h6,fun j e p wm wD=>⟨(h7 j e p wm wD).1,P_ (h7 j e p wm wD).2⟩,(nF b hb).trans h8,h9⟩⟩
    |mpl l kk v=>obtain⟨b,es,clock,h1,h2,h3,h4⟩:=h0;exact⟨b,es,clock,h1,(nF b (gz i b ⟨_,h⟩ h1)).trans h2,⟨h3.1,fun j e p h5 h6=>⟨(h3.2 j e p h5 h6).1,oz (h3.2 j e p h5 h6).2⟩⟩,h4⟩
    |mp l=>obtain⟨b,es,clock,h1,h2,h3,h4⟩:=h0;exact⟨b,es,clock,h1,(nF b (gz i b ⟨_,h⟩ h1)).trans h2,⟨h3.1,fun j e p h5 h6=>⟨(h3.2 j e p h5 h6).1,oz (h3.2 j e p h5 h6).2⟩⟩,h4⟩
    |lit T vals=>obtain⟨b,h1,h2⟩:=h0;exact⟨b,h1,(nF b (gz i b ⟨_,h⟩ h1)).trans h2⟩
    |fm e rows=>
     refine⟨h0.1,fun kk=>(h0.2.1 kk).kY rfl fun b hb h2 _=>⟨h2,nF b ?_⟩,h0.2.2⟩
     rintro rfl
     rcases(h0.2.1 kk).1.2 with ⟨h3,_⟩|⟨b',cap,cur,h3,_,h4,_⟩
     ·rw[h3] at hb;cases hb
     ·rw[h3] at hb;cases hb;rw[hk] at h4;cases h4
    |loop l tm ps iQ body st=>obtain⟨b,lr,h1,h2,h3⟩:=h0;exact⟨b,lr,h1,(nF b (gz i b ⟨_,h⟩ h1)).trans h2,h3⟩
   inj:=r.inj
   lo:=fun i b h1 h2=>by rw[World.putObj_size];exact r.lo i b h1 h2
   nx:=r.nx
   wt:=fun k hk=>by rw[jz] at hk;cases hk
   below:=r.below.trans ⟨rfl,rfl,rfl,by rw[World.putObj_size];exact aM _,fun b hb=>nF b aG⟩
   hB:=by rw[World.putObj_size];exact r.hB
   N0:=r.N0
   kI:=fun d uh=>r.kI d (pt d uh)
   fr:=r.fr.of (by rw[World.putObj_size];exact aM _) (fun b hf _ _=>nF b (by rintro rfl;exact hnf hf)) fun i b h1 h2=> .inl ⟨i,h1,h2⟩}
theorem leaves (jz:g.wt=none) (FP:g.base=[]) {fn:Func} {rs:List ResultVar} (oh:fn.results=rs.toArray) {v:AV} (h:fZ P δ rs v) {R:Ending→World→Prop}:∀{a:Act} {w:World},Rel g δ κ a w→
  (∀w2,Rel g δ κ {a with defers:=[]} w2→∀u,RA (δ.cx g κ) w2 u v→R (.returned u) w2)→LeavesInM Fence.wide 0 P fn a.tmps R a.defers .returning w:=by
 intro a w r hR
 obtain⟨ms,h1,h2,h3⟩:=r.dfr
 rw[FP,bp] at h1
 rw[h1]
 induction ms generalizing a w with
 |nil=>
  obtain⟨u,h4,h5⟩:=h.run oh r
  have ra:Rel g δ κ {a with defers:=[]} w:={r with dfr:=⟨[],by rw[FP];rfl,h2,h3⟩,kI:=fun d hd=>by cases hd}
  exact⟨u,h4,hR w ra u h5⟩
 |cons m ms ih=>
  refine⟨by simp,.inl ⟨m,_,rfl,run_takeDeferred (h3 m (by simp)).2,?_⟩⟩
  have hm:=h3 m (by simp)
  rw[bq] at h2
  have qc:=List.nodup_cons.1 h2
  have Qg:∀k∈ms++g.mks,g.B≤k∧(w.putObj m (.deferred none)).heap[k]? =some (.deferred (some [])):=fun k hk=>
   ⟨(h3 k (by simp only[bq,br];exact .inr hk)).1,by rw[World.putObj_heap_other (by intro e;subst e;exact qc.1 hk)];exact(h3 k (by simp only[bq,br];exact .inr hk)).2⟩
  have hd:Jr g {a with defers:=ms.map fun r=>({target:=.collected r,args:= #[]}:Deferred)} (w.putObj m (.deferred none)):=⟨ms,by rw[FP,bp],qc.2,Qg⟩
  have r2:=r.shut jz hm.1 hm.2 (a':={a with defers:=ms.map fun r=>({target:=.collected r,args:= #[]}:Deferred)}) rfl (fun d hd=>by rw[h1];exact bt.2 (let ⟨x,hx,e⟩:=bt.1 hd;⟨x,by simp [hx],e⟩)) (r.kI {target:=.collected m,args:= #[]} (by rw[h1];exact bt.2 ⟨m,by simp,rfl⟩) m rfl) hd
  have:=ih (a:={a with defers:=ms.map fun r=>({target:=.collected r,args:= #[]}:Deferred)}) r2 (fun w2 r3 u hu=>hR w2 r3 u hu) rfl qc.2 Qg
  exact this
def Ends (P:Program) (rs:List ResultVar) (r:AV):Exit→DS→Prop
 |.normal,δ|.ret,δ=>∃v,fZ P δ rs v∧Le true v r
 |_,_=>False
theorem Fn.enter {f:FuncId} {fn:Func} {c:Code} {rs:List ResultVar} {n:Nat} {args:List AV} {r:AV} (hf:P.funcs[f]? =some fn) (hb:fn.body=some c) (oh:fn.results=rs.toArray) (hn:fn.ntmps=n) (F2:bu args.length n=true)
  (xx:bu n HS=true) (he:(fn.name== "runtime.NumGoroutine")=false) (h:∀g:eY,g.ro=none→g.wt=none→AW P g c (Ends P rs r) (start n args)):Fn P f args r:=by
 refine⟨fun vals w=>by simp [callFunc,hf,hb];simpa using he,fun N w vals hN hs gp=>?_⟩
 have hle:args.length≤n:=by simpa using F2
 have P3:n≤HS:=by simpa using xx
 let g:eY:={B:=w.heap.size,w0:=w,N0:=N,held:=fun _=>undef,ro:=none,mks:=[],wt:=none,fr:=fun _=>False,w1:=w}
 have rU:∀i,¬(start n args).live i:=fun i ⟨o,h⟩=>by cases h
 refine callsIn_wide.1 (callsIn_of_wp_marks (n:=0) hf hb trivial (wpIn_mono (h g rfl rfl ⟨fun _=>none,fun _ _=>False⟩ _ w ?_) ?_))
 ·exact
  {n:=by simp [hn,start];omega
   dfr:=⟨[],rfl,by simp [g],by simp [g]⟩
   env:=fun j=>by
    by_cases hj:j<args.length
    ·have h1:(start n args).get j=args[j]:=oU args 0 j _ (bg _) (by simp [hj])
     have h2:g.val {tmps:=vals++Array.replicate (fn.ntmps - vals.size) undef,defers:=[]} j=vals[j]'(by omega):=by
      unfold eY.val
      rw[if_pos aG]
      simp [aO,Array.getElem?_append,hs,hj]
     rw[h1,h2]
     exact(gp j _ _ (aK aG) (aZ hj)).Fv _ fun b _ h=>⟨⟨h,fun⟨_,h⟩=>h⟩,fun i hi=>absurd hi (rU i)⟩
    ·have h1:(start n args).get j=.any:=jV args 0 j (by omega)
     rw[h1];exact .any _
   obj:=fun i o h=>by cases h
   inj:=fun i j b h=>absurd h (rU i)
   lo:=fun i b h=>absurd h (rU i)
   nx:=fun i h=>absurd h (rU i)
   wt:=fun k hk=>by cases hk
   below:=Below.refl _ _
   hB:=aM _
   N0:=fun b h _=>hN b h
   fr:=⟨fun b hb=>hb.elim,fun i b hb=>hb.elim⟩
   kI:=fun d hd=>by cases hd}
 ·rintro e a' w' ⟨δ',κ',hq,r'⟩
  have fin:∀v,fZ P δ' rs v→Le true v r→LeavesInM Fence.wide 0 P fn a'.tmps (fun e w'=>∃v,e=.returned v∧RA (yA N) w' v r∧Below w.heap.size w w') a'.defers .returning w':=by
   intro v h1 h2
   exact leaves (g:=g) rfl rfl oh h1 r' (fun w2 r2 u hu=>by
    exact⟨u,rfl,hu.le h2 (fun b _ h=>h.1.1) (fun _ i b hi hκ=>hN b (r2.lo i b (DS.iw hi) hκ).1),r2.below⟩)
  cases e with
  |normal=>obtain⟨v,h1,h2⟩:=hq;exact fin v h1 h2
  |ret=>obtain⟨v,h1,h2⟩:=hq;exact fin v h1 h2
  |_=>exact hq.elim
end Go.Ab
/- One abstract state says no more than another:what is asked slot by slot. -/
namespace Go.Ab
open Go Go.RowKit
variable {P:Program} {g:eY} {δ δ':DS} {κ:Kp} {a:Act} {w:World}
mutual
def AV.ids (lr lb:Nat→Bool):AV→Bool
 |.any=>true
 |.pv _=>true
 |.own i _ _ _=>lr i
 |.ptr i _=>lb i
 |.gy _=>true
 |.gY i _ _ _ _=>lr i
 |.agg cs=>AV.zp lr lb cs
 |.iR cs=>AV.zp lr lb cs
 |.jd _ cs ds=>AV.zp lr lb cs && AV.zp lr lb ds
 |.gH i=>lb i
 |.kS i=>lb i
def AV.zp (lr lb:Nat→Bool):List AV→Bool
 |[]=>true
 |c::cs=>AV.ids lr lb c && AV.zp lr lb cs
end
theorem AV.mi {lr lb:Nat→Bool}:∀(l:List AV),AV.zp lr lb l=true→∀(j:Nat) (c:AV),l[j]? =some c→AV.ids lr lb c=true
 |[],_,j,c,h=>by simp at h
 |x::l,h,j,c,hj=>by
  simp only[AV.zp,aW] at h
  cases j with
  |zero=>simp at hj;subst hj;exact h.1
  |succ j=>exact AV.mi l h.2 j c (by simpa using hj)
def DS.qR (δ:DS) (i:Nat):Bool:=match δ.ob i with|some .row=>true|_=>false
def DS.qq (δ:DS) (i:Nat):Bool:=match δ.ob i with|some (.box _)=>true|some (.mp _)=>true|some (.mpl _ _ _)=>true|some (.it _ _)=>true|some (.loop _ _ _ _ _ _)=>true|some (.lit _ _)=>true|_=>false
theorem pc {δ:DS} {i:Nat} (h:δ.qR i=true):δ.lr i:=by
 unfold DS.qR at h;unfold DS.lr
 cases ho:δ.ob i with
 |none=>rw[ho] at h;simp at h
 |some o=>cases o<;>rw[ho] at h<;>first|rfl|(simp at h)
theorem lG {δ:DS} {i:Nat} (h:δ.qq i=true):δ.lb i:=by
 unfold DS.qq at h;unfold DS.lb
 cases ho:δ.ob i with
 |none=>rw[ho] at h;simp at h
 |some o=>cases o<;>rw[ho] at h<;>first|exact⟨_,rfl,rfl⟩|(simp at h)
noncomputable def vN (δ:DS) (κ:Kp):Kp:=⟨fun i=>match δ.ob i with|some _=>κ i|none=>none,κ.F⟩
theorem iY {δ:DS} {κ:Kp} {i:Nat} (h:δ.live i):vN δ κ i=κ i:=by obtain⟨o,h⟩:=h;simp [vN,h]
theorem gG {δ:DS} {κ:Kp} {i b:Nat} (h:vN δ κ i=some b):δ.live i∧κ i=some b:=by
 have h:(match δ.ob i with|some _=>κ.f i|none=>none)=some b:=h
 cases ho:δ.ob i with
 |none=>rw[ho] at h;simp at h
 |some o=>rw[ho] at h;exact⟨⟨o,ho⟩,h⟩
theorem uy {b:Nat} (h:(δ.cx g κ).N b):(δ'.cx g (vN δ κ)).N b:=⟨h.1,fun i _ e=>let ⟨h1,h2⟩:=gG e;h.2 i h1 h2⟩
theorem RA.ids {v:Value} {av:AV} (h:RA (δ.cx g κ) w v av) (hi:av.ids δ'.qR δ'.qq=true):RA (δ'.cx g (vN δ κ)) w v av:=by
 have hp:∀{v:Value} {p:PV},RP (δ.cx g κ).N w v p→RP (δ'.cx g (vN δ κ)).N w v p:=fun h=>h.mono (aM _) fun b _ h2=>⟨uy h2,rfl⟩
 have ho:∀{v:Value} {i e k e7},jB (δ.cx g κ) w v i e k e7→δ'.lr i→jB (δ'.cx g (vN δ κ)) w v i e k e7:=by
  intro v i e k e7 h hl
  obtain⟨h1,h2,h3,h4,xs,h5,h6,h7⟩:=h
  exact⟨hl,h2,h3,fun b hb=>(iY (DS.iw h1)).trans (h4 b hb),xs,h5,h6,fun i' j p n9=>let ⟨u,h8,h9⟩:=h7 i' j p n9;⟨u,h8,hp h9⟩⟩
 induction h with
 |any v=>exact .any v
 |pv h=>exact .pv (hp h)
 |own h=>exact .own (ho h (pc hi))
 |ptr hl hκ=>exact .ptr (lG hi) ((iY (DS.mm hl)).trans hκ)
 |gy b off vs hN hb hc hr=>exact .gy b off vs (uy hN) hb hc (fun j p h=>hp (hr j p h))
 |gY ft h=>exact .gY ft (ho h (pc hi))
 |agg hs h ih=>exact .agg hs fun j u c h1 h2=>ih j u c h1 h2 (AV.mi _ hi j c h2)
 |iR hs h ih=>exact .iR hs fun j u c h1 h2=>ih j u c h1 h2 (AV.mi _ hi j c h2)
 |jd hs h ht h' ih ih'=>
  simp only[AV.ids,aW] at hi
  exact .jd hs (fun j u c h1 h2=>ih j u c h1 h2 (AV.mi _ hi.1 j c h2)) ht (fun j u c h1 h2=>ih' j u c h1 h2 (AV.mi _ hi.2 j c h2))
 |gH hl hκ=>exact .gH (lG hi) ((iY (DS.mm hl)).trans hκ)
 |kS hl hκ=>exact .kS (lG hi) ((iY (DS.mm hl)).trans hκ)
inductive CV (δ δ':DS):AV→PV→Prop
 |any (v:AV):CV δ δ' v .any
 |pv (p:PV):CV δ δ' (.pv p) p
 |own {i e k e7 els'} (h:δ'.ob i=none) (he:e7=els'):CV δ δ' (.own i e k e7) (.slice k els')
 |nil (k):CV δ δ' (.pv (.lit (.slice none 0 0))) (.slice k [])
inductive TF (δ δ':DS):List AV→List PV→Prop
 |nil:TF δ δ' [] []
 |cons {c:AV} {p:PV} {cs:List AV} {ps:List PV} (h:CV δ δ' c p) (hs:TF δ δ' cs ps):TF δ δ' (c::cs) (p::ps)
theorem TF.at {δ δ':DS}:∀{cs:List AV} {ps:List PV},TF δ δ' cs ps→∀(j:Nat) (p:PV),ps[j]? =some p→∃c,cs[j]? =some c∧CV δ δ' c p:=by
 intro cs ps h
 induction h with
 |nil=>intro j p h;simp at h
 |cons h hs ih=>
  intro j p hj
  cases j with
  |zero=>simp at hj;subst hj;exact⟨_,rfl,h⟩
  |succ j=>exact ih j p (by simpa using hj)
inductive WV (δ δ':DS):AV→AV→Prop
 |any (v:AV):WV δ δ' v .any
 |eq {u v:AV} (h:u=v) (hi:v.ids δ'.qR δ'.qq=true):WV δ δ' u v
 |lU (i e k) (h:δ'.qR i=true) (hn:δ.ob i=none):WV δ δ' (.pv (.lit (.slice none 0 0))) (.own i e k [])
 |nilrow (i e k) (h:δ'.qR i=true):WV δ δ' (.pv (.lit (.slice none 0 0))) (.own i e k [])
 |nilpv (k):WV δ δ' (.pv (.lit (.slice none 0 0))) (.pv (.slice k []))
 |freeze {i e k e7} (h:δ'.ob i=none):WV δ δ' (.own i e k e7) (.pv (.slice k e7))
 |agg {cs ds:List AV} (hl:cs.length=ds.length) (h:∀(j:Nat) (c d:AV),cs[j]? =some c→ds[j]? =some d→WV δ δ' c d):WV δ δ' (.agg cs) (.agg ds)
 |fmap {i:Nat} {l:List (Value×AV)} {ps:List (Value×PV)} (hb:δ.ob i=some (.mp l)) (hd:δ'.ob i=none) (hl:l.length=ps.length) (hc:∀(j:Nat) (p:Value×AV) (p':Value×PV),l[j]? =some p→ps[j]? =some p'→p.1=p'.1∧CV δ δ' p.2 p'.2):WV δ δ' (.gH i) (.pv (.mp ps))
 |fbox {i:Nat} {cells:List AV} {ps:List PV} (hb:δ.ob i=some (.box cells)) (hd:δ'.ob i=none) (hc:TF δ δ' cells ps):WV δ δ' (.ptr i 0) (.gy ps)
theorem vd {N:Nat→Prop} {w:World} {a0:Option Addr} {c:Nat} (k:Nat):RP N w (.slice a0 0 c) (.slice k []):=
 .slice 0 0 (fun _ _=>undef) rfl (bg _) (by simp) (fun h=>absurd rfl h) (by simp) (fun i j p h=>by simp [cellAt] at h) (fun i j p h=>by simp [cellAt] at h)
theorem RA.ui (mF:∀i b,δ.live i→δ'.ob i=none→κ i=some b→(δ'.cx g (vN δ κ)).N b) {i e k e7} (ho:δ'.ob i=none) {v:Value} (h:RA (δ.cx g κ) w v (.own i e k e7)):RP (δ'.cx g (vN δ κ)).N w v (.slice k e7):=by
 have h1:=h.jt
 obtain⟨hl,mP,hk,hb,xs,hX,QY,hx⟩:=h1
 have sf:=hX
 rcases hX.2 with ⟨rfl,h0⟩|⟨b,cap,cur,rfl,h2,h3,h4⟩
 ·have:e7=[]:=bf h0
  subst this
  exact vd k
 ·refine .slice b 0 (fun i j=>(xs[i*k+j]?).getD undef) rfl h4.1 mP (fun _=>⟨rfl,mF i b (DS.iw hl) ho (hb b rfl),(aL.1 h3).1⟩) hk (fun i j p hp=>?_) (fun i j p hp=>?_)
  ·obtain⟨u,hu,_⟩:=hx i j p hp
   have ft:i*k+j<e7.length*k:=by have:=(aT.1 hu).1;rw[← hX.1];exact this
   simp only[hu,bh,a6]
   exact⟨(sf.cellAt _ ft).trans hu,QY u (aR hu)⟩
  ·obtain⟨u,hu,hr⟩:=hx i j p hp
   simp only[hu,bh]
   exact hr.mono (aM _) fun b _ h2=>⟨uy h2,rfl⟩
theorem RA.wv (mF:∀i b,δ.live i→δ'.ob i=none→κ i=some b→(δ'.cx g (vN δ κ)).N b) (HN:∀i o,δ.ob i=some o→oo (δ.cx g κ) w i o) {v:Value} {u av:AV} (h:RA (δ.cx g κ) w v u) (hw:WV δ δ' u av):RA (δ'.cx g (vN δ κ)) w v av:=by
 induction hw generalizing v with
 |any v=>exact .any _
 |eq he hi=>subst he;exact h.ids hi
 |lU i e k hl hn=>
  cases h.lit
  exact .own ⟨pc hl,by simp,by simp,fun b hb=>by simp [Value.ownBlock] at hb,[],World.ownsRow_nil _ _ _ _,by simp,fun i' j p hp=>by simp [cellAt] at hp⟩
 |nilrow i e k hl=>
  cases h.lit
  exact .own ⟨pc hl,by simp,by simp,fun b hb=>by simp [Value.ownBlock] at hb,[],World.ownsRow_nil _ _ _ _,by simp,fun i' j p hp=>by simp [cellAt] at hp⟩
 |nilpv k=>cases h.lit;exact .pv (vd k)
 | @freeze i e k e7 ho=>exact .pv (h.ui mF ho)
 | @agg cs ds hl _ ih=>
  cases h with
  |agg hs h=>
   refine .agg (hs.trans hl) fun j u d h1 h2=>?_
   have ft:j<cs.length:=by rw[hl];exact(aT.1 h2).1
   exact ih j _ d (aZ ft) h2 (h j u _ h1 (aZ ft))
 | @fmap i l ps hb hd hl hc=>
  cases h with
  | @gH _ b hl' hκ=>
   obtain⟨b',es,clock,h1,h2,h3,h4,_⟩:=HN i _ hb
   have:b'=b:=Option.some.inj (h1.symm.trans hκ)
   subst this
   have BK:∀(j:Nat) (e:MapEntry) (p:Value×PV),es[j]? =some e→ps[j]? =some p→e.key=p.1∧RP (δ'.cx g (vN δ κ)).N w e.val p.2:=by
    intro j e p he hp
    have ft:j<l.length:=by rw[hl];exact(aT.1 hp).1
    have yG:=aZ ft
    obtain⟨h5,VB⟩:=hc j _ p yG hp
    obtain⟨h6,h7⟩:=h3.2 j e _ he yG
    refine⟨h6.trans h5,?_⟩
    generalize l[j].2=q at VB h7
    generalize p.2=q' at VB
    cases VB with
    |any=>exact .any _
    |pv=>exact h7.kf.mono (aM _) fun b _ h2=>⟨uy h2,rfl⟩
    |own ho he=>subst he;exact h7.ui mF ho
    |nil k=>rw[h7.lit];exact vd k
   exact .pv (.mp b' clock es (mF i b' ⟨_,hb⟩ hd hκ) (iM h2) h2 (h3.1.trans hl) h4 (fun j e p h5 h6=>(BK j e p h5 h6).1) (fun j e p h5 h6=>(BK j e p h5 h6).2))
 | @fbox i cells ps hb hd hc=>
  cases h with
  | @ptr _ _ b hl hκ=>
   obtain⟨b',c,e,h1,h2,h3,h4⟩:=HN i _ hb
   have:b'=b:=Option.some.inj (h1.symm.trans hκ)
   subst this
   have jZ:∀j,w.cell? ⟨b',0+j,none⟩=c[j]?:=fun j=>by simp [World.cell?,h2]
   have BK:∀(j:Nat) (p:PV),ps[j]? =some p→∃(hj:j<c.size),(c[j]).oneCell'=true∧RP (δ'.cx g (vN δ κ)).N w c[j] p:=by
    intro j p hp
    obtain⟨av,D4,VB⟩:=hc.at j p hp
    have hj:j<c.size:=by rw[h3];exact(aT.1 D4).1
    obtain⟨h5,h6⟩:=h4 j _ av (aK hj) D4
    refine⟨hj,h6,?_⟩
    cases VB with
    |any=>exact .any _
    |pv=>exact h5.kf.mono (aM _) fun b _ h2=>⟨uy h2,rfl⟩
    |own ho he=>subst he;exact h5.ui mF ho
    |nil k=>rw[h5.lit];exact vd k
   refine .gy b' 0 (fun j=>(c[j]?).getD undef) (mF i b' ⟨_,hb⟩ hd hκ) (iM h2) (fun j p hp=>?_) (fun j p hp=>?_)
   ·obtain⟨hj,h5,_⟩:=BK j p hp
    rw[jZ,aK hj]
    exact⟨rfl,h5⟩
   ·obtain⟨hj,_,h5⟩:=BK j p hp
    rw[aK hj]
    exact h5
theorem WV.fR {i e k} {e7 els':List (List PV)} (h:e7=els') (hi:δ'.qR i=true):WV δ δ' (.own i e k e7) (.own i e k els'):=.eq (by rw[h]) hi
theorem WV.fb {k} {e7 els':List (List PV)} (h:e7=els'):WV δ δ' (.pv (.slice k e7)) (.pv (.slice k els')):=.eq (by rw[h]) rfl
theorem WV.d_ {j} {m n:Int} (h:m=n):WV δ δ' (.pv (.lit (.int j m))) (.pv (.lit (.int j n))):=.eq (by rw[h]) rfl
theorem WV.Ms {m n:Bool} (h:m=n):WV δ δ' (.pv (.lit (.bool m))) (.pv (.lit (.bool n))):=.eq (by rw[h]) rfl
theorem WV.GS {i e k} {e7 els':List (List PV)} (h:δ'.ob i=none) (he:e7=els'):WV δ δ' (.own i e k e7) (.pv (.slice k els')):=he▸ .freeze h
def LD (δ δ':DS):List (Nat×AV)→Prop
 |[]=>True
 |(j,v)::r=>WV δ δ' (δ.get j) v∧LD δ δ' r
def Jm (δ δ':DS):List AV→List AV→Prop
 |[],[]=>True
 |c::cs,d::ds=>WV δ δ' c d∧Jm δ δ' cs ds
 |_,_=>False
inductive WO (δ δ':DS) (i:Nat):Ob→Prop
 |row (h:δ.ob i=some .row):WO δ δ' i .row
 |jv (h:δ.ob i=none):WO δ δ' i .row
 |box {cs:List AV} (ds:List AV) (h:δ.ob i=some (.box cs)) (hs:Jm δ δ' cs ds):WO δ δ' i (.box ds)
 |mp {l:List (Value×AV)} (h:δ.ob i=some (.mp l)) (hs:∀p∈l,p.2.ids δ'.qR δ'.qq=true):WO δ δ' i (.mp l)
 |mpw {l l':List (Value×AV)} (h:δ.ob i=some (.mp l)) (hl:l.length=l'.length) (hs:∀(j:Nat) (p p':Value×AV),l[j]? =some p→l'[j]? =some p'→p.1=p'.1∧WV δ δ' p.2 p'.2∧p'.2.kM=true):WO δ δ' i (.mp l')
 |mpl {l l':List (Value×AV)} {k k':Value} {v v':AV} (h:δ.ob i=some (.mpl l k v)) (hl:l=l') (hk:k=k') (hs:∀p∈l,p.2.ids δ'.qR δ'.qq=true) (hv:WV δ δ' v v'):WO δ δ' i (.mpl l' k' v')
 |it {l:List (Value×PV)} {seen:List Nat} (h:δ.ob i=some (.it l seen)):WO δ δ' i (.it l seen)
 |loop {l tm ps iQ body st} (h:δ.ob i=some (.loop l tm ps iQ body st)):WO δ δ' i (.loop l tm ps iQ body st)
 |lit {T:TypeId} {vals:Array Value} (h:δ.ob i=some (.lit T vals)):WO δ δ' i (.lit T vals)
 |fm {e:PT} {rows rows':Nat→Value×List Value} (h:δ.ob i=some (.fm e rows)) (hr:rows=rows'):WO δ δ' i (.fm e rows')
def th (δ δ':DS):List (Nat×Option Ob)→Prop
 |[]=>True
 |(_,none)::r=>th δ δ' r
 |(i,some o)::r=>WO δ δ' i o∧th δ δ' r
def wA (n:Nat):List (Nat×Option Ob)→Bool
 |[]=>true
 |(i,_)::r=>aV i n && wA n r
theorem LD.at:∀{l:List (Nat×AV)},LD δ δ' l→∀j,WV δ δ' (δ.get j) (look l j)
 |[],_,j=> .any _
 |(i,v)::r,h,j=>by
  rw[fC]
  by_cases e:i=j
  ·subst e;rw[if_pos rfl];exact h.1
  ·rw[if_neg e];exact LD.at h.2 j
theorem Jm.at:∀{cs ds:List AV},Jm δ δ' cs ds→cs.length=ds.length∧∀(j:Nat) (c d:AV),cs[j]? =some c→ds[j]? =some d→WV δ δ' c d
 |[],[],_=>⟨rfl,fun j c d h=>by simp at h⟩
 |c::cs,d::ds,h=>by
  obtain⟨h1,h2⟩:=h
  obtain⟨h3,h4⟩:=Jm.at h2
  refine⟨by simp [h3],fun j x y h5 h6=>?_⟩
  cases j with
  |zero=>simp at h5 h6;subst h5;subst h6;exact h1
  |succ j=>exact h4 j x y (by simpa using h5) (by simpa using h6)
theorem th.at:∀{l:List (Nat×Option Ob)},th δ δ' l→∀i o,fc l i=some o→WO δ δ' i o
 |[],_,i,o,h=>by simp [fc] at h
 |(j,none)::r,h,i,o,ho=>by
  rw[fj] at ho
  by_cases e:j=i
  ·rw[if_pos e] at ho;cases ho
  ·rw[if_neg e] at ho;exact th.at (l:=r) h i o ho
 |(j,some o')::r,h,i,o,ho=>by
  rw[fj] at ho
  by_cases e:j=i
  ·rw[if_pos e] at ho;cases ho;subst e;exact h.1
  ·rw[if_neg e] at ho;exact th.at (l:=r) h.2 i o ho
theorem qw {n:Nat}:∀{l:List (Nat×Option Ob)},wA n l=true→∀i o,fc l i=some o→i<n
 |[],_,i,o,h=>by simp [fc] at h
 |(j,x)::r,h,i,o,ho=>by
  simp only[wA,aW] at h
  rw[fj] at ho
  by_cases e:j=i
  ·subst e;simpa using h.1
  ·rw[if_neg e] at ho;exact qw h.2 i o ho
theorem Rel.mF (r:Rel g δ κ a w):∀i b,δ.live i→δ'.ob i=none→κ i=some b→(δ'.cx g (vN δ κ)).N b:=by
 intro i b hl lz hκ
 refine⟨r.F5 hl hκ,fun j hj e=>?_⟩
 obtain⟨h1,h2⟩:=gG e
 have:=r.inj i j b hl h1 hκ h2
 subst this
 obtain⟨o,hj⟩:=hj
 rw[lz] at hj;cases hj
theorem Qm (hn:δ'.n=δ.n) (he:∀j,WV δ δ' (δ.get j) (δ'.get j)) (ho:∀i o,δ'.ob i=some o→WO δ δ' i o) (hx:∀i o,δ'.ob i=some o→i<δ'.nx) (r:Rel g δ κ a w):Rel g δ' (vN δ κ) a w:=by
 have il:∀i o,δ'.ob i=some o→¬δ.live i→vN δ κ i=none:=by
  intro i o h hl
  show(match δ.ob i with|some _=>κ.f i|none=>none)=none
  cases h':δ.ob i with
  |none=>rfl
  |some o'=>exact absurd ⟨o',h'⟩ hl
 have mF:∀i b,δ.live i→δ'.ob i=none→κ i=some b→(δ'.cx g (vN δ κ)).N b:=by
  intro i b hl lz hκ
  refine⟨r.F5 hl hκ,fun j hj e=>?_⟩
  obtain⟨h1,h2⟩:=gG e
  have:=r.inj i j b hl h1 hκ h2
  subst this
  obtain⟨o,hj⟩:=hj
  rw[lz] at hj;cases hj
 exact
  {n:=r.n.trans hn.symm
   dfr:=r.dfr
   env:=fun j=>(r.env j).wv mF r.obj (he j)
   obj:=fun i o h=>by
    have Yd:=ho i o h
    cases Yd with
    |row h'=>
     intro b hb
     obtain⟨_,h2⟩:=gG hb
     exact r.obj i _ h' b h2
    |jv h'=>
     intro b hb
     obtain⟨⟨o,h1⟩,_⟩:=gG hb
     rw[h'] at h1;cases h1
    |box ds h' hs=>
     obtain⟨b,c,e,h1,h2,h3,h4⟩:=r.obj i _ h'
     obtain⟨h5,h6⟩:=hs.at
     refine⟨b,c,e,(iY ⟨_,h'⟩).trans h1,h2,h3.trans h5,fun j u av h7 h8=>?_⟩
     have ft:j<_:=(aT.1 h8).1
     rw[← h5] at ft
     obtain⟨h9,wm⟩:=h4 j u _ h7 (aZ ft)
     exact⟨h9.wv mF r.obj (h6 j _ av (aZ ft) h8),wm⟩
    |mp h' hs=>
     obtain⟨b,es,clock,h1,h2,h3,h4⟩:=r.obj i _ h'
     exact⟨b,es,clock,(iY ⟨_,h'⟩).trans h1,h2,⟨h3.1,fun j e p h5 h6=>⟨(h3.2 j e p h5 h6).1,(h3.2 j e p h5 h6).2.ids (hs p (aR h6))⟩⟩,h4⟩
    |mpw h' hl hs=>
     obtain⟨b,es,clock,h1,h2,h3,h4⟩:=r.obj i _ h'
     refine⟨b,es,clock,(iY ⟨_,h'⟩).trans h1,h2,⟨h3.1.trans hl,fun j e p h5 h6=>?_⟩,h4.1,fun p hp=>?_⟩
     ·have ft:j<_:=(aT.1 h6).1
      rw[← hl] at ft
      have h7:=aZ ft
      obtain⟨h8,h9,_⟩:=hs j _ p h7 h6
      obtain⟨wm,wD⟩:=h3.2 j e _ h5 h7
      exact⟨wm.trans h8,wD.wv mF r.obj h9⟩
     ·obtain⟨j,hj⟩:=bx hp
      have ft:j<_:=(aT.1 hj).1
      rw[← hl] at ft
      exact(hs j _ p (aZ ft) hj).2.2
    |mpl h' hl hk hs hv=>
     obtain⟨b,es,clock,h1,h2,h3,h4⟩:=r.obj i _ h'
     subst hl;subst hk
     exact⟨b,es,clock,(iY ⟨_,h'⟩).trans h1,h2,h3.last (fun u p hp h=>h.ids (hs p hp)) (fun u h=>h.wv mF r.obj hv),h4⟩
    |it h'=>
     obtain⟨b,h1,h2⟩:=r.obj i _ h'
     exact⟨b,(iY ⟨_,h'⟩).trans h1,h2.mono (aM _) (fun b _ hN=>⟨uy hN,rfl⟩) rfl⟩
    |loop h'=>
     obtain⟨b,l,h1,h2⟩:=r.obj i _ h'
     exact⟨b,l,(iY ⟨_,h'⟩).trans h1,h2⟩
    |fm h' hr=>
     subst hr
     have h0:=r.obj i _ h'
     exact⟨(iY ⟨_,h'⟩).trans h0.1,fun k=>(h0.2.1 k).kY rfl fun b _ h2 _=>⟨h2,rfl⟩,h0.2.2⟩
    |lit h'=>
     obtain⟨b,h1,h2⟩:=r.obj i _ h'
     exact⟨b,(iY ⟨_,h'⟩).trans h1,h2⟩
   inj:=fun i j b _ _ h3 h4=>r.inj i j b (gG h3).1 (gG h4).1 (gG h3).2 (gG h4).2
   lo:=fun i b _ h2=>r.lo i b (gG h2).1 (gG h2).2
   nx:=fun i ⟨o,h⟩=>hx i o h
   wt:=fun k hk=>⟨(r.wt k hk).1,fun i b _ hi hb=>by
    obtain⟨hl,hκ⟩:=gG hb
    refine(r.wt k hk).2 i b hl (hi.imp (fun hi=>?_) id) hκ
    have Yd:=ho i _ hi
    cases Yd with
    |row h=>exact h
    |jv h=>obtain⟨o,gi⟩:=hl;rw[h] at gi;cases gi⟩
   below:=r.below
   hB:=r.hB
   N0:=r.N0
   kI:=r.kI
   fr:=r.fr.sub fun j b _ h2=>⟨j,(gG h2).1,(gG h2).2⟩}
theorem Qh (hn:δ'.n=δ.n) (he:∀j,WV δ δ' (δ.get j) (δ'.get j)) (ho:∀i o,δ'.ob i=some o→WO δ δ' i o) (hx:∀i o,δ'.ob i=some o→i<δ'.nx):lD g δ δ':=fun κ _ _ r=>⟨vN δ κ,Qm hn he ho hx r⟩
theorem e_ (hn:δ'.n=δ.n) (he:LD δ δ' δ'.env) (ho:th δ δ' δ'.fY) (hx:wA δ'.nx δ'.fY=true):lD g δ δ':=Qh hn (fun j=>he.at j) (fun i o h=>ho.at i o h) (fun i o h=>qw hx i o h)
end Go.Ab
/- Small laws for the walk:what stands behind a step. -/
namespace Go.Ab
open Go Go.RowKit
variable {P:Program} {g:eY} {δ:DS} {ops:Array Oper} {rest:List Oper} {Q:Exit→DS→Prop} {next:DS→Prop} {dst:Option Nat} {ty:TypeId} {pos:String} {af:Array Edge}
theorem gr (h:next δ):fT next Q .normal δ:=h
theorem pF {id:Nat} (h:Q (.exit id) δ):fT next Q (.exit id) δ:=h
theorem iU (h:Q .ret δ):fT next Q .ret δ:=h
theorem gL {id:Nat} (h:Q .normal δ):ff id Q .normal δ:=h
theorem kl {id:Nat} (h:Q .ret δ):ff id Q .ret δ:=h
theorem mj {id:Nat} (h:Q .normal δ):ff id Q (.exit id) δ:=by show(if id=id then _ else _);rw[if_pos rfl];exact h
theorem w_ {id id':Nat} (gz:(aI id' id)=false) (h:Q (.exit id') δ):ff id Q (.exit id') δ:=by
 show(if id'=id then _ else _);rw[if_neg (by intro e;subst e;simp at gz)];exact h
theorem c_ {rs:List ResultVar} {r v:AV} (h:fZ P δ rs v) (hl:Le true v r):Ends P rs r .ret δ:=⟨v,h,hl⟩
theorem Le.fR {i e k} {e7 els':List (List PV)} (h:e7=els'):Le true (.own i e k e7) (.pv (.slice k els')):=h▸ .own _ _ _ _ rfl
theorem Le.fb {ow:Bool} {k} {e7 els':List (List PV)} (h:e7=els'):Le ow (.pv (.slice k e7)) (.pv (.slice k els')):=h▸ .pv _
theorem Le.fe {ow:Bool} {p q:Bool} (h:p=q):Le ow (fe p) (fe q):=h▸ .pv _
theorem Le.eU {ow:Bool} {p q:Int} (h:p=q):Le ow (eU p) (eU q):=h▸ .pv _
theorem AW.G0 {c:Operand} {x y:Code} {p:Prop} {_:Decidable p} (ho:fk c=true) (hc:δ.ev c=fe (decide p)) (h1:p→AW P g x Q δ) (h2:¬p→AW P g y Q δ):AW P g (.cond c x y) Q δ:=
 AW.cond ho hc (fun h=>h1 (of_decide_eq_true h)) (fun h=>h2 (of_decide_eq_false h))
theorem AW.L0 {c:Operand} {x y:Code} {t:Bool} (ht:t=true) (ho:fk c=true) (hc:δ.ev c=fe t) (h1:AW P g x Q δ):AW P g (.cond c x y) Q δ:=
 AW.cond ho hc (fun _=>h1) (fun h=>by rw[ht] at h;cases h)
theorem AW.L2 {c:Operand} {x y:Code} {t:Bool} (ht:t=false) (ho:fk c=true) (hc:δ.ev c=fe t) (h1:AW P g y Q δ):AW P g (.cond c x y) Q δ:=
 AW.cond ho hc (fun h=>by rw[ht] at h;cases h) (fun _=>h1)
def encI (x:Int):List PV:=[.lit (.int .i64 x)]
def MN (x:Bool):List PV:=[.lit (.bool x)]
abbrev ints (l:List Int):PV:=.slice 1 (l.map encI)
abbrev lS (l:List Bool):PV:=.slice 1 (l.map MN)
abbrev yr (l:List (List Int)):PV:=.slice 1 (l.map fun c=>[ints c])
end Go.Ab
/- The abstract states' laws where memory turns:variables in boxes,rows that grow or are stored into. -/
namespace Go.Ab
open Go Go.RowKit
variable {q:Md} {P:Program} {g:eY} {δ:DS} {κ:Kp} {a:Act} {w:World}
variable {ops:Array Oper} {rest:List Oper} {Q:Exit→DS→Prop} {dst:Option Nat} {ty:TypeId} {pos:String} {af:Array Edge}
structure gm (w w':World) (b:Option Nat):Prop where
 os:w'.os=w.os
 tape:w'.tape=w.tape
 output:w'.output=w.output
 size:w.heap.size≤w'.heap.size
 block:∀k,k<w.heap.size→b≠some k→w'.heap[k]? =w.heap[k]?
theorem gm.setCell (w:World) (ad:Addr) (u:Value):gm w (w.setCell ad u) (some ad.block):=
 ⟨rfl,rfl,rfl,by simp [World.setCell],fun k _ h=>Below.heap_setCell _ _ _ _ (fun e=>h (by rw[e]))⟩
theorem gm.grownBy {w w':World} {row:Option Nat} (h:w.grownBy w' row):gm w w' row:=⟨h.os,h.tape,h.output,h.size,fun k hk hn=>h.block k hk (Ne.symm hn)⟩
theorem gm.setRow (w:World) (b:Nat) (c:Array Value):gm w (w.setRow b c) (some b):=⟨rfl,rfl,rfl,by simp,fun k _ h=>setRow_other w b k c (fun e=>h (by rw[e]))⟩
theorem Rel.tb (r:Rel g δ κ a w) {w':World} {b:Option Nat} (t:gm w w' b) (hb:∀k,b=some k→g.B≤k):Below g.B g.w0 w':=
 r.below.trans ⟨t.os,t.tape,t.output,t.size,fun k hk=>t.block k (aH hk r.hB) (fun e=>by have:=hb k e;omega)⟩
def eY.nP (g:eY) (i:Nat):Prop:=∀k,g.wt=some k→k.2.2≤i
theorem lZ (h:g.wt=none) (i:Nat):g.nP i:=fun k hk=>by rw[h] at hk;cases hk
theorem Rel.modify (r:Rel g δ κ a w) {i b:Nat} {o o':Ob} (ho:δ.ob i=some o) (hr:o.ld=false) (Gc:o'.ld=false) (hκ:κ i=some b) (MZ:g.nP i) {w':World} (t:gm w w' (some b)) (hs:w'.heap.size=w.heap.size)
  (jo:∀C,C.κ=κ→j6 (δ.cx g κ) w C w'→oo C w' i o'):Rel g (δ.gl i (some o')) κ a w'∧j6 (δ.cx g κ) w ((δ.gl i (some o')).cx g κ) w':=by
 have hi:δ.live i:=⟨o,ho⟩
 have fH:∀j,(δ.gl i (some o')).live j↔δ.live j:=by
  intro j
  unfold DS.live
  rw[iG]
  by_cases e:i=j
  ·subst e;simp [ho]
  ·simp [e]
 have oy:∀j,(δ.gl i (some o')).lr j↔δ.lr j:=by
  intro j
  unfold DS.lr
  rw[iG]
  by_cases e:i=j
  ·subst e
   rw[if_pos rfl,ho]
   cases o<;>cases o'<;>simp_all [Ob.ld]
  ·simp [e]
 have uu:∀j,(δ.gl i (some o')).lb j↔δ.lb j:=by
  intro j
  unfold DS.lb
  rw[iG]
  by_cases e:i=j
  ·subst e
   rw[if_pos rfl,ho]
   exact⟨fun _=>⟨o,rfl,hr⟩,fun _=>⟨o',rfl,Gc⟩⟩
  ·simp [e]
 have gz:∀j,δ.lr j→κ j≠some b:=by
  intro j hj e
  have:=r.inj i j b hi (DS.iw hj) hκ e
  subst this
  have:some o=some Ob.row:=ho.symm.trans hj
  cases this
  simp [Ob.ld] at hr
 have G:j6 (δ.cx g κ) w ((δ.gl i (some o')).cx g κ) w':=
  {B:=rfl,size:=t.size
   N:=fun k h1 h2=>⟨⟨h2.1,fun j hj=>h2.2 j ((fH j).1 hj)⟩,t.block k h1 (fun e=>h2.2 i hi (hκ.trans e))⟩
   Lr:=fun j hj=>⟨(oy j).2 hj,rfl,fun k hk=>t.block k (r.lo j k (DS.iw hj) hk).2 (fun e=>gz j hj (hk.trans e.symm))⟩
   Lb:=fun j hj=>⟨(uu j).2 hj,rfl⟩}
 refine⟨?_,G⟩
 exact
  {n:=r.n
   dfr:=r.dfr.kY fun k _ hk=>t.block k (iM hk) (fun e=>by
    have:b=k:=Option.some.inj e
    subst this
    have h0:=r.obj i o ho
    cases o with
    |row=>simp [Ob.ld] at hr
    |box cs=>obtain⟨b',c,e',h1,h2,_⟩:=h0;have:b'=b:=Option.some.inj (h1.symm.trans hκ);subst this;rw[hk] at h2;cases h2
    |it l seen=>obtain⟨b',h1,h2⟩:=h0;have:b'=b:=Option.some.inj (h1.symm.trans hκ);subst this;rcases h2 with ⟨_,h2⟩|⟨_,_,_,_,_,_,_,_,_,h2,_⟩<;>(rw[hk] at h2;cases h2)
    |lit T vals=>obtain⟨b',h1,h2⟩:=h0;have:b'=b:=Option.some.inj (h1.symm.trans hκ);subst this;rw[hk] at h2;cases h2
    |fm e rows=>exact absurd (h0.1.symm.trans hκ) (by simp)
    |mp l=>obtain⟨b',c,e',h1,h2,_⟩:=h0;have:b'=b:=Option.some.inj (h1.symm.trans hκ);subst this;rw[hk] at h2;cases h2
    |mpl l k v=>obtain⟨b',c,e',h1,h2,_⟩:=h0;have:b'=b:=Option.some.inj (h1.symm.trans hκ);subst this;rw[hk] at h2;cases h2
    |loop l tm ps iQ body st=>obtain⟨b',c,h1,h2,_⟩:=h0;have:b'=b:=Option.some.inj (h1.symm.trans hκ);subst this;rw[hk] at h2;cases h2)
   env:=fun j=>G.ra (r.env j)
   obj:=fun j x h=>by
    rw[iG] at h
    by_cases e:i=j
    ·subst e;rw[if_pos rfl] at h;cases h;exact jo _ rfl G
    ·rw[if_neg e] at h
     exact(r.obj j x h).kY G rfl (fun k hk=>t.block k (r.lo j k ⟨x,h⟩ hk).2 (fun e'=>e (r.inj i j k hi ⟨x,h⟩ (hκ.trans e') hk))) (fun k h1 h2=>⟨h1,t.block k h2 (fun e'=>r.fr.kZ hi (hκ.trans e') ⟨j,h1⟩)⟩)
   inj:=fun i' j b h1 h2=>r.inj i' j b ((fH i').1 h1) ((fH j).1 h2)
   lo:=fun j k h1 h2=>by have:=r.lo j k ((fH j).1 h1) h2;rw[hs];exact this
   nx:=fun j h=>r.nx j ((fH j).1 h)
   wt:=fun k hk=>⟨fun b' js=>⟨((r.wt k hk).1 b' js).1,(t.block b' (r9 ((r.wt k hk).1 b' js)) (fun e=>by
     cases e
     exact(r.wt k hk).2 i b hi (.inr (MZ k hk)) hκ js)).trans ((r.wt k hk).1 b' js).2⟩,
    fun j b' hj ql Em=>(r.wt k hk).2 j b' ((fH j).1 hj) (ql.imp (oy j).1 id) Em⟩
   below:=r.tb t (fun k e=>by cases e;exact(r.lo i b hi hκ).1)
   hB:=by rw[hs];exact r.hB
   N0:=r.N0
   kI:=r.kI
   fr:=r.fr.of t.size (fun k _ h1 h2=>t.block k h1 (fun e=>h2 i hi (hκ.trans e))) fun j k h1 h2=> .inl ⟨j,(fH j).1 h1,h2⟩}
mutual
def AV.mp (f:AV→AV):AV→AV
 |.agg cs=> .agg (AV.IK f cs)
 |.iR cs=> .iR (AV.IK f cs)
 |.jd fn cs ds=> .jd fn (AV.IK f cs) (AV.IK f ds)
 |.any=>f .any
 |.pv p=> .pv p
 |.own i e k e7=>f (.own i e k e7)
 |.ptr i o=> .ptr i o
 |.gy c=> .gy c
 |.gY i e k e7 n=>f (.gY i e k e7 n)
 |.gH i=> .gH i
 |.kS i=> .kS i
def AV.IK (f:AV→AV):List AV→List AV
 |[]=>[]
 |c::cs=>AV.mp f c::AV.IK f cs
end
theorem AV.kW (f:AV→AV):∀l,AV.IK f l=l.map (AV.mp f)
 |[]=>rfl
 |c::cs=>by simp [AV.IK,AV.kW f cs]
def Ob.xq (f:AV→AV):Ob→Ob
 |.row=> .row
 |.box cs=> .box (cs.map f)
 |.mp l=> .mp l
 |.mpl l k v=> .mpl l k (f v)
 |.it l seen=> .it l seen
 |.lit T vals=> .lit T vals
 |.fm e rows=> .fm e rows
 |.loop l tm ps iQ body st=> .loop l tm ps iQ body st
def DS.ib (δ:DS) (f:AV→AV):DS:={δ with env:=δ.env.map fun p=>(p.1,f p.2),fY:=δ.fY.map fun p=>(p.1,p.2.map (Ob.xq f))}
theorem qT (f:AV→AV) (hf:f .any=.any) (δ:DS) (j:Nat):(δ.ib f).get j=f (δ.get j):=by
 have:∀l:List (Nat×AV),look (l.map fun p=>(p.1,f p.2)) j=f (look l j):=by
  intro l
  induction l with
  |nil=>simp [look,hf]
  |cons x l ih=>
   obtain⟨i,v⟩:=x
   simp only[bz,fC,ih]
   split<;>rfl
 exact this _
theorem kj (f:AV→AV) (δ:DS) (j:Nat):(δ.ib f).ob j=(δ.ob j).map (Ob.xq f):=by
 have:∀l:List (Nat×Option Ob),fc (l.map fun p=>(p.1,p.2.map (Ob.xq f))) j=(fc l j).map (Ob.xq f):=by
  intro l
  induction l with
  |nil=>rfl
  |cons x l ih=>
   obtain⟨i,v⟩:=x
   simp only[bz,fj,ih]
   split<;>rfl
 exact this _
def Cx.less (C:Cx) (i:Nat):Cx:={C with Lr:=fun j=>C.Lr j∧j≠i}
theorem RA.less {C:Cx} {i:Nat} {w:World} {v:Value} {av:AV} (h:RA C w v av) (hn:av.kM=true):RA (C.less i) w v av:=by
 cases h with
 |any v=>exact .any v
 |pv h=>exact .pv h
 |own h=>simp [AV.kM] at hn
 |ptr hl hκ=>exact .ptr hl hκ
 |gy b off vs hN hb hc hr=>exact .gy b off vs hN hb hc hr
 |gY hi h=>simp [AV.kM] at hn
 |agg hs h=>simp [AV.kM] at hn
 |iR hs h=>simp [AV.kM] at hn
 |jd hs h ht h'=>simp [AV.kM] at hn
 |gH hl hκ=>exact .gH hl hκ
 |kS hl hκ=>exact .kS hl hκ
theorem Rel.row (r:Rel g δ κ a w) {i:Nat} (ho:δ.ob i=some .row) {κ':Kp} (hκ:∀j,j≠i→κ' j=κ j) {w':World} (t:gm w w' (κ i))
  (hi:∀b,κ' i=some b→(κ i=some b∨w.heap.size≤b)∧b<w'.heap.size∧∃c e,w'.heap[b]? =some (.cells c e (0,0)))
  (f:AV→AV) (Oi:f .any=.any)
  (hf:j6 ((δ.cx g κ).less i) w ((δ.ib f).cx g κ') w'→∀v av,RA (δ.cx g κ) w v av→RA ((δ.ib f).cx g κ') w' v (f av)) (hF:κ'.F=κ.F:=by rfl):
  Rel g (δ.ib f) κ' a w'∧j6 ((δ.cx g κ).less i) w ((δ.ib f).cx g κ') w':=by
 have zV:δ.live i:=⟨_,ho⟩
 have fH:∀j,(δ.ib f).live j↔δ.live j:=by
  intro j
  unfold DS.live
  rw[kj]
  cases δ.ob j<;>simp
 have oy:∀j,(δ.ib f).lr j↔δ.lr j:=by
  intro j
  unfold DS.lr
  rw[kj]
  cases δ.ob j with
  |none=>simp
  |some o=>cases o<;>simp [Ob.xq]
 have uu:∀j,(δ.ib f).lb j↔δ.lb j:=by
  intro j
  unfold DS.lb
  rw[kj]
  cases δ.ob j with
  |none=>simp
  |some o=>cases o<;>simp [Ob.xq,Ob.ld]
 have vC:∀j,δ.lb j→j≠i:=by
  rintro j ⟨o,h1,h2⟩ rfl
  rw[ho] at h1;cases h1;simp [Ob.ld] at h2
 have pz:∀j k,δ.live j→j≠i→κ j=some k→w'.heap[k]? =w.heap[k]?:=fun j k hj gz hk=>
  t.block k (r.lo j k hj hk).2 (fun e=>gz (r.inj j i k hj zV hk e))
 have G:j6 ((δ.cx g κ).less i) w ((δ.ib f).cx g κ') w':=
  {B:=rfl,size:=t.size
   N:=fun k h1 h2=>by
    refine⟨⟨⟨h2.1.1,by unfold Kp.Fs;rw[hF];exact h2.1.2⟩,fun j hj e=>?_⟩,t.block k h1 (h2.2 i zV)⟩
    by_cases qN:j=i
    ·subst qN
     rcases(hi k e).1 with h|h
     ·exact h2.2 j zV h
     ·omega
    ·rw[hκ j qN] at e;exact h2.2 j ((fH j).1 hj) e
   Lr:=fun j hj=>⟨(oy j).2 hj.1,hκ j hj.2,fun k hk=>pz j k (DS.iw hj.1) hj.2 hk⟩
   Lb:=fun j hj=>⟨(uu j).2 hj,hκ j (vC j hj)⟩}
 refine⟨?_,G⟩
 have F:=hf G
 exact
  {n:=r.n
   dfr:=r.dfr.kY fun k _ hk=>t.block k (iM hk) (fun e=>by
    obtain⟨c,e',h1⟩:=r.obj i _ ho k e
    rw[hk] at h1;cases h1)
   env:=fun j=>by rw[qT f Oi];exact F _ _ (r.env j)
   obj:=fun j x h=>by
    rw[kj] at h
    cases gi:δ.ob j with
    |none=>rw[gi] at h;simp at h
    |some o=>
     rw[gi] at h
     simp only[bm,Option.some.injEq] at h
     subst h
     have h0:=r.obj j o gi
     cases o with
     |row=>
      intro b hb
      by_cases qN:j=i
      ·subst qN;exact(hi b hb).2.2
      ·have js:κ j=some b:=by rw[← hκ j qN];exact hb
       obtain⟨c,e,h1⟩:=h0 b js
       exact⟨c,e,(pz j b ⟨_,gi⟩ qN js).trans h1⟩
     |box cs=>
      obtain⟨b,c,e,h1,h2,h3,h4⟩:=h0
      have qN:j≠i:=vC j ⟨_,gi,rfl⟩
      refine⟨b,c,e,(hκ j qN).trans h1,(pz j b ⟨_,gi⟩ qN h1).trans h2,by simpa using h3,fun k u av h5 h6=>?_⟩
      simp only[aY,bc] at h6
      obtain⟨av',h6,rfl⟩:=h6
      exact⟨F _ _ (h4 k u av' h5 h6).1,(h4 k u av' h5 h6).2⟩
     |mp l=>
      obtain⟨b,es,clock,h1,h2,h3,h4⟩:=h0
      have qN:j≠i:=vC j ⟨_,gi,rfl⟩
      refine⟨b,es,clock,(hκ j qN).trans h1,(pz j b ⟨_,gi⟩ qN h1).trans h2,⟨h3.1,fun k e p h5 h6=>?_⟩,h4⟩
      exact⟨(h3.2 k e p h5 h6).1,G.ra ((h3.2 k e p h5 h6).2.less (h4.2 p (aR h6)))⟩
     |mpl l kk v=>
      obtain⟨b,es,clock,h1,h2,h3,h4⟩:=h0
      have qN:j≠i:=vC j ⟨_,gi,rfl⟩
      refine⟨b,es,clock,(hκ j qN).trans h1,(pz j b ⟨_,gi⟩ qN h1).trans h2,?_,h4⟩
      exact h3.last (fun u p hp h=>G.ra (h.less (h4.2 p hp))) (fun u h=>F _ _ h)
     |it l seen=>
      obtain⟨b,h1,h2⟩:=h0
      have qN:j≠i:=vC j ⟨_,gi,rfl⟩
      exact⟨b,(hκ j qN).trans h1,h2.mono G.size G.N (pz j b ⟨_,gi⟩ qN h1)⟩
     |fm e rows=>
      have qN:j≠i:=vC j ⟨_,gi,rfl⟩
      exact⟨(hκ j qN).trans h0.1,fun kk=>(h0.2.1 kk).kY rfl fun k _ h1 h2=>⟨by rw[show((δ.ib f).cx g κ').κ=κ' from rfl,hF];exact h1,t.block k h2 (fun e=>r.fr.kZ zV e ⟨j,h1⟩)⟩,h0.2.2⟩
     |lit T vals=>
      obtain⟨b,h1,h2⟩:=h0
      have qN:j≠i:=vC j ⟨_,gi,rfl⟩
      exact⟨b,(hκ j qN).trans h1,(pz j b ⟨_,gi⟩ qN h1).trans h2⟩
     |loop l tm ps iQ body st=>
      obtain⟨b,lr,h1,h2,h3⟩:=h0
      have qN:j≠i:=vC j ⟨_,gi,rfl⟩
      exact⟨b,lr,(hκ j qN).trans h1,(pz j b ⟨_,gi⟩ qN h1).trans h2,h3⟩
   inj:=fun i' j b h1 h2 h3 h4=>by
    rw[fH] at h1 h2
    by_cases e1:i'=i
    ·by_cases e2:j=i
     ·rw[e1,e2]
     ·subst e1
      rw[hκ j e2] at h4
      rcases(hi b h3).1 with h|h
      ·exact r.inj i' j b h1 h2 h h4
      ·exact absurd (r.lo j b h2 h4).2 (by omega)
    ·by_cases e2:j=i
     ·subst e2
      rw[hκ i' e1] at h3
      rcases(hi b h4).1 with h|h
      ·exact r.inj i' j b h1 h2 h3 h
      ·exact absurd (r.lo i' b h1 h3).2 (by omega)
     ·rw[hκ i' e1] at h3
      rw[hκ j e2] at h4
      exact r.inj i' j b h1 h2 h3 h4
   lo:=fun j k h1 h2=>by
    rw[fH] at h1
    by_cases e:j=i
    ·subst e
     refine⟨?_,(hi k h2).2.1⟩
     rcases(hi k h2).1 with h|h
     ·exact(r.lo j k h1 h).1
     ·exact aN r.hB h
    ·rw[hκ j e] at h2
     have:=r.lo j k h1 h2
     exact⟨this.1,aH this.2 t.size⟩
   nx:=fun j h=>r.nx j ((fH j).1 h)
   wt:=fun k hk=>⟨fun b' js=>⟨((r.wt k hk).1 b' js).1,(t.block b' (r9 ((r.wt k hk).1 b' js)) (fun e=>(r.wt k hk).2 i b' zV (.inl ho) e js)).trans ((r.wt k hk).1 b' js).2⟩,
    fun j b' hj ql Em js=>by
     by_cases e:j=i
     ·subst e
      rcases(hi b' Em).1 with h|h
      ·exact(r.wt k hk).2 j b' zV (.inl ho) h js
      ·exact absurd (r9 ((r.wt k hk).1 b' js)) (by omega)
     ·rw[hκ j e] at Em
      exact(r.wt k hk).2 j b' ((fH j).1 hj) (ql.imp (oy j).1 id) Em js⟩
   below:=r.tb t (fun k e=>(r.lo i k zV e).1)
   hB:=aN r.hB t.size
   N0:=r.N0
   kI:=r.kI
   fr:=r.fr.of t.size (fun k _ h1 h2=>t.block k h1 (fun e=>h2 i zV e)) (fun j k h1 h2=>by
    by_cases e:j=i
    ·subst e
     rcases(hi k h2).1 with h|h
     ·exact .inl ⟨j,zV,h⟩
     ·exact .inr h
    ·rw[hκ j e] at h2;exact .inl ⟨j,(fH j).1 h1,h2⟩) (fun j b h=>by rw[hF] at h;exact h)}
def CN (i:Nat):AV→AV
 |.own j e k e7=>bif aI i j then .any else .own j e k e7
 |.gY j e k e7 n=>bif aI i j then .any else .gY j e k e7 n
 |v=>v
def AV.kill (i:Nat):AV→AV:=AV.mp (CN i)
theorem mO {i j:Nat} (h:i≠j):aI i j=false:=by cases hh:aI i j with|false=>rfl|true=>exact absurd (aJ hh) h
theorem mH (i:Nat):aI i i=true:=Nat.beq_refl i
theorem RA.mp {C C':Cx} {i:Nat} {w w':World} (G:j6 (C.less i) w C' w') {f:AV→AV}
  (Yb:f .any=.any)
  (nF:∀j e k e7,j≠i→f (.own j e k e7)=.own j e k e7) (UC:∀j e k e7 n,j≠i→f (.gY j e k e7 n)=.gY j e k e7 n)
  (hX:∀v e k e7,jB C w v i e k e7→RA C' w' v (f (.own i e k e7))) (Vo:∀b cap e k e7 n,n<e7.length→jB C w (.slice (some ⟨b,0,none⟩) e7.length cap) i e k e7→RA C' w' (.pointer (some ⟨b,n*k,none⟩)) (f (.gY i e k e7 n)))
  {v:Value} {av:AV} (h:RA C w v av):RA C' w' v (av.mp f):=by
 have Dc:∀{v j e k e7},jB C w v j e k e7→j≠i→jB (C.less i) w v j e k e7:=fun h hj=>⟨⟨h.live,hj⟩,h.lim,h.hk,h.yD,h.row⟩
 induction h with
 |any v=>simp only[AV.mp,Yb];exact .any v
 |pv h=>exact .pv (G.rp h)
 | @own v j e k e7 h=>
  simp only[AV.mp]
  by_cases hj:j=i
  ·subst hj;exact hX v e k e7 h
  ·rw[nF j e k e7 hj];exact .own (G.Iy (Dc h hj))
 |ptr hl hκ=>exact .ptr (G.Lb _ hl).1 ((G.Lb _ hl).2.trans hκ)
 |gy b off vs hN hb hc hr=>exact G.ra (C:=C.less i) (.gy b off vs hN hb hc hr)
 | @gY j e k e7 n b cap hn h=>
  simp only[AV.mp]
  by_cases hj:j=i
  ·subst hj;exact Vo b cap e k e7 n hn h
  ·rw[UC j e k e7 n hj];exact .gY hn (G.Iy (Dc h hj))
 | @agg vs cs hs h ih=>
  simp only[AV.mp,AV.kW]
  refine .agg (by simpa using hs) fun j u c h1 h2=>?_
  simp only[aY,bc] at h2
  obtain⟨c',h2,rfl⟩:=h2
  exact ih j u c' h1 h2
 | @iR vs cs hs h ih=>
  simp only[AV.mp,AV.kW]
  refine .iR (by simpa using hs) fun j u c h1 h2=>?_
  simp only[aY,bc] at h2
  obtain⟨c',h2,rfl⟩:=h2
  exact ih j u c' h1 h2
 | @jd fn vs us cs ds hs h ht h' ih ih'=>
  simp only[AV.mp,AV.kW]
  refine .jd (by simpa using hs) (fun j u c h1 h2=>?_) (by simpa using ht) (fun j u c h1 h2=>?_)
  ·simp only[aY,bc] at h2
   obtain⟨c',h2,rfl⟩:=h2
   exact ih j u c' h1 h2
  ·simp only[aY,bc] at h2
   obtain⟨c',h2,rfl⟩:=h2
   exact ih' j u c' h1 h2
 |gH hl hκ=>exact .gH (G.Lb _ hl).1 ((G.Lb _ hl).2.trans hκ)
 |kS hl hκ=>exact .kS (G.Lb _ hl).1 ((G.Lb _ hl).2.trans hκ)
theorem RA.kill {C C':Cx} {i:Nat} {w w':World} (G:j6 (C.less i) w C' w') {v:Value} {av:AV} (h:RA C w v av):RA C' w' v (av.kill i):=by
 refine h.mp G rfl (fun j e k e7 hj=>?_) (fun j e k e7 n hj=>?_) (fun v e k e7 _=>?_) (fun b cap e k e7 n _ _=>?_)
 ·simp only[CN,mO (Ne.symm hj)];rfl
 ·simp only[CN,mO (Ne.symm hj)];rfl
 ·simp only[CN,mH];exact .any _
 ·simp only[CN,mH];exact .any _
end Go.Ab
/- The operations' laws where memory turns. -/
namespace Go.Ab
open Go Go.RowKit
variable {q:Md} {P:Program} {g:eY} {δ:DS} {κ:Kp} {a:Act} {w:World}
variable {gd:Option (Tmp×Bool)} {ops:Array Oper} {rest:List Oper} {Q:Exit→DS→Prop} {dst:Option Nat} {ty:TypeId} {pos:String} {af:Array Edge}
def AV.one:AV→Bool
 |.pv (.lit v)=>v.oneCell'
 |.pv (.slice _ _)=>true
 |.pv (.mp _)=>true
 |.pv (.clip _ _)=>true
 |.own _ _ _ _|.ptr _ _|.gy _|.gY _ _ _ _ _|.jd _ _ _|.gH _|.kS _=>true
 |.any|.pv .any|.agg _|.iR _=>false
def AV.mE:List AV→Bool
 |[]=>true
 |c::cs=>c.one && AV.mE cs
theorem AV.GG:∀{l:List AV},AV.mE l=true→∀(j:Nat) (c:AV),l[j]? =some c→c.one=true
 |[],_,j,c,h=>by simp at h
 |x::l,h,j,c,hj=>by
  simp only[AV.mE,aW] at h
  cases j with
  |zero=>simp at hj;subst hj;exact h.1
  |succ j=>exact AV.GG h.2 j c (by simpa using hj)
theorem RA.one {C:Cx} {w:World} {v:Value} {av:AV} (h:RA C w v av) (h1:av.one=true):v.oneCell'=true:=by
 cases h with
 |any v=>simp [AV.one] at h1
 | @pv v p h=>cases h with|any v=>simp [AV.one] at h1|lit v=>exact h1|slice=>rfl|mp=>rfl|clip=>rfl
 |own h=>obtain⟨a0,c,rfl⟩:=h.inv;rfl
 |ptr=>rfl
 |gy=>rfl
 |gY=>rfl
 |agg=>simp [AV.one] at h1
 |iR=>simp [AV.one] at h1
 |jd=>rfl
 |gH=>rfl
 |kS=>rfl
theorem rn {v:Value} (h:v.oneCell'=true):v.cells= #[v]:=by cases v<;>first|rfl|(simp [Value.oneCell'] at h)
def AV.cellsOf:AV→List AV
 |.agg cs=>cs
 |v=>[v]
theorem RA.cells {C:Cx} {w:World} {v:Value} {av:AV} (h:RA C w v av) (h1:AV.mE av.cellsOf=true):v.cells.size=av.cellsOf.length∧
  ∀(j:Nat) (u:Value) (c:AV),v.cells[j]? =some u→av.cellsOf[j]? =some c→RA C w u c∧u.oneCell'=true:=by
 by_cases hag:∃cs,av=.agg cs
 ·obtain⟨cs,rfl⟩:=hag
  cases h with
  |agg hs h=>exact⟨hs,fun j u c h2 h3=>⟨h j u c h2 h3,(h j u c h2 h3).one (AV.GG h1 j c h3)⟩⟩
 ·have hc:av.cellsOf=[av]:=by cases av<;>first|rfl|exact absurd ⟨_,rfl⟩ hag
  rw[hc] at h1 ⊢
  simp only[AV.mE,Bool.and_true] at h1
  have ho:=h.one h1
  rw[rn ho]
  refine⟨rfl,fun j u c h2 h3=>?_⟩
  match j with
  |0=>simp at h2 h3;subst h2;subst h3;exact⟨h,ho⟩
  |j+1=>simp at h3
theorem Rel.BA (r:Rel g δ κ a w) {i b:Nat} (hi:δ.lb i) (hκ:κ i=some b):(∀j,δ.lr j→κ j≠some b)∧¬κ.Fs b:=by
 refine⟨?_,r.fr.kZ (DS.mm hi) hκ⟩
 rintro j hj e
 have:=r.inj i j b (DS.mm hi) (DS.iw hj) hκ e
 subst this
 obtain⟨o,h1,h2⟩:=hi
 have h3:δ.ob i=some .row:=hj
 rw[h1] at h3
 cases h3
 simp [Ob.ld] at h2
theorem je.box {x:Operand} {e:TypeId} {v:AV} (hx:δ.ev x=v) (h1:AV.mE v.cellsOf=true) (ho:fk x=true) (hd:gb δ.n dst=true):
  je P g ⟨dst,.box e x,ty,pos,af,gd⟩ δ ((δ.fM (.box v.cellsOf)).eZ dst (.ptr δ.nx 0)):=by
 intro κ a w r
 have hr:=r.ra hx ho
 obtain⟨hs,hc⟩:=hr.cells h1
 have gQ:(execOp a.eval ⟨dst,.box e x,ty,pos,af,gd⟩).run P w=.ok (.value (.pointer (some ⟨w.heap.size,0,none⟩))) (w.alloc (.cells (a.eval x).cells e)):=by
  simp [execOp,Instr.box,newVar,newRow]
 obtain⟨r',G⟩:=r.grow (.box v.cellsOf) (.cells (a.eval x).cells e) (fun C G hκ=>⟨w.heap.size,_,e,hκ,heap_alloc_new w _,hs,fun j u av h2 h3=>⟨G.ra (hc j u av h2 h3).1,(hc j u av h2 h3).2⟩⟩)
 refine .inl ⟨_,_,_,_,gQ,.inl rfl,r'.eZ (fE hd) ?_⟩
 exact .ptr ⟨_,by show(δ.fM _).ob _=_;rw[gh,if_pos rfl],rfl⟩ (by show ix _ _ _ _=_;simp [ix])
theorem je.alloc {e:TypeId} {z:Value} (hz:(P.info? e).bind (·.zero)=some z) (h1:z.cells.toList.all (·.oneCell')=true) (hd:gb δ.n dst=true):
  je P g ⟨dst,.alloc e,ty,pos,af,gd⟩ δ ((δ.fM (.box (z.cells.toList.map fun v=> .pv (.lit v)))).eZ dst (.ptr δ.nx 0)):=by
 intro κ a w r
 have gQ:(execOp a.eval ⟨dst,.alloc e,ty,pos,af,gd⟩).run P w=.ok (.value (.pointer (some ⟨w.heap.size,0,none⟩))) (w.alloc (.cells z.cells e)):=by
  cases hi:P.info? e with
  |none=>rw[hi] at hz;simp at hz
  |some i=>rw[hi] at hz;simp at hz;simp [execOp,Instr.alloc,zeroValue,typeInfo,hi,hz,newVar,newRow]
 obtain⟨r',G⟩:=r.grow (.box (z.cells.toList.map fun v=> .pv (.lit v))) (.cells z.cells e) (fun C G hκ=>⟨w.heap.size,_,e,hκ,heap_alloc_new w _,by simp,fun j u av h2 h3=>by
  simp only[aY,bc] at h3
  obtain⟨v,h3,rfl⟩:=h3
  have:v=u:=by have:=h2;rw[← bA,h3] at this;exact Option.some.inj this
  subst this
  exact⟨.pv (.lit _),by simpa using (bB.1 h1) _ (aR h3)⟩⟩)
 refine .inl ⟨_,_,_,_,gQ,.inl rfl,r'.eZ (fE hd) ?_⟩
 exact .ptr ⟨_,by show(δ.fM _).ob _=_;rw[gh,if_pos rfl],rfl⟩ (by show ix _ _ _ _=_;simp [ix])
theorem a_.box {x:Operand} {e:TypeId} {v:AV} (hx:δ.ev x=v) (h1:AV.mE v.cellsOf=true) (ho:fk x=true) (hd:gb δ.n dst=true)
  (hK:a_ .plain P g ops rest Q ((δ.fM (.box v.cellsOf)).eZ dst (.ptr δ.nx 0))):a_ .plain P g ops (⟨dst,.box e x,ty,pos,af,none⟩::rest) Q δ:=a_.vA rfl rfl (je.box hx h1 ho hd) hK
theorem a_.alloc {e:TypeId} {z:Value} (hz:(P.info? e).bind (·.zero)=some z) (h1:z.cells.toList.all (·.oneCell')=true) (hd:gb δ.n dst=true)
  (hK:a_ .plain P g ops rest Q ((δ.fM (.box (z.cells.toList.map fun v=> .pv (.lit v)))).eZ dst (.ptr δ.nx 0))):a_ .plain P g ops (⟨dst,.alloc e,ty,pos,af,none⟩::rest) Q δ:=a_.vA rfl rfl (je.alloc hz h1 hd) hK
theorem kK {s:TypeId} {x:Operand} {f b off:Nat} {fs:Array Field} {pD:Field} (hs:P.underlying s=some (.struct fs)) (hf:fs[f]? =some pD) (hz:((P.info? pD.type).map fun i=>aV 0 i.size)=some true)
  {ρ:Operand→Value} (hx:ρ x=.pointer (some ⟨b,off,none⟩)) (w:World):(execOp ρ ⟨dst,.fieldAddr s x f,ty,pos,af,none⟩).run P w=.ok (.value (.pointer (some ⟨b,off+pD.offset,none⟩))) w:=by
 cases hi:P.info? pD.type with
 |none=>rw[hi] at hz;simp at hz
 |some i=>
  rw[hi] at hz
  have hn:i.size≠0:=by simp at hz;omega
  simp [execOp,Instr.fieldAt,Instr.sureAddr,run_underlying hs,hf,hx,fieldPlace,sizeOf,typeInfo,hi,hn,iV]
theorem a_.fieldAddr {s:TypeId} {x:Operand} {f i off:Nat} {fs:Array Field} {pD:Field} (hx:δ.ev x=.ptr i off) (hs:P.underlying s=some (.struct fs)) (hf:fs[f]? =some pD) (hz:((P.info? pD.type).map fun i=>aV 0 i.size)=some true) (ho:fk x=true) (hd:gb δ.n dst=true)
  (hK:a_ q P g ops rest Q (δ.eZ dst (.ptr i (off+pD.offset)))):a_ q P g ops (⟨dst,.fieldAddr s x f,ty,pos,af,none⟩::rest) Q δ:=
 a_.jK _ hd (fun κ a w r=>by
  have h1:=r.ra hx ho
  generalize hu:a.eval x=u at h1
  cases h1 with
  |ptr hl hκ=>exact⟨_,fun w' _=>kK hs hf hz hu w',.ptr hl hκ⟩) hK
theorem a_.Ct {s:TypeId} {x:Operand} {f n:Nat} {cs:List PV} {fs:Array Field} {pD:Field} (hx:δ.ev x=.gy cs) (hs:P.underlying s=some (.struct fs)) (hf:fs[f]? =some pD) (hz:((P.info? pD.type).map fun i=>aV 0 i.size)=some true)
  (hn:(P.info? pD.type).map (·.size)=some n) (ho:fk x=true) (hd:gb δ.n dst=true)
  (hK:a_ q P g ops rest Q (δ.eZ dst (.gy ((cs.drop pD.offset).take n)))):a_ q P g ops (⟨dst,.fieldAddr s x f,ty,pos,af,none⟩::rest) Q δ:=
 a_.jK _ hd (fun κ a w r=>by
  have h1:=r.ra hx ho
  generalize hu:a.eval x=u at h1
  cases h1 with
  |gy b off vs hN hb hc hr=>
   refine⟨_,fun w' _=>kK hs hf hz hu w',.gy b (off+pD.offset) (fun j=>vs (pD.offset+j)) hN hb (fun j p h=>?_) (fun j p h=>?_)⟩
   ·rw[bC] at h
    split at h
    ·rw[bD] at h;rw[bE];exact hc _ p h
    ·cases h
   ·rw[bC] at h
    split at h
    ·rw[bD] at h;exact hr _ p h
    ·cases h) hK
theorem a_.Pj {x:Operand} {t:TypeId} {i off:Nat} {cells:List AV} {v:AV} (hx:δ.ev x=.ptr i off) (hb:δ.ob i=some (.box cells)) (hv:cells[off]? =some v) (ht:iS P t=true) (ho:fk x=true) (hd:gb δ.n dst=true)
  (hK:a_ q P g ops rest Q (δ.eZ dst v)):a_ q P g ops (⟨dst,.load t x,ty,pos,af,none⟩::rest) Q δ:=
 a_.jK _ hd (fun κ a w r=>by
  obtain⟨b,c,e,h1,h2,h3,h4,h5⟩:=r.box (r.ra hx ho) hb
  have ft:off<c.size:=by rw[h4];exact(aT.1 hv).1
  exact⟨c[off],fun w' ly=>kU ht h1 ((ly.cell (ad:=⟨b,off,none⟩) (aL.1 h3).1 (r.BA ⟨_,hb,rfl⟩ h2)).trans (by rw[cell_of h3,aK ft])),(h5 off _ v (aK ft) hv).1⟩) hK
theorem a_.FX {x:Operand} {t:TypeId} {i off n:Nat} {cells:List AV} (hx:δ.ev x=.ptr i off) (hb:δ.ob i=some (.box cells)) (ht:yT P t n=true) (hle:bu (off+n) cells.length=true) (ho:fk x=true) (hd:gb δ.n dst=true)
  (hK:a_ q P g ops rest Q (δ.eZ dst (.agg ((cells.drop off).take n)))):a_ q P g ops (⟨dst,.load t x,ty,pos,af,none⟩::rest) Q δ:=
 a_.jK _ hd (fun κ a w r=>by
  obtain⟨b,c,e,h1,h2,h3,h4,h5⟩:=r.box (r.ra hx ho) hb
  have IC:off+n≤cells.length:=by simpa using hle
  refine⟨_,fun w' ly=>pS ht h1 (f:=fun j=>c.getD (off+j) undef) (fun j hj=>?_),.agg (by simp;omega) (fun j u av h7 h8=>?_)⟩
  ·rw[iV,ly.cell (ad:=⟨b,off+j,none⟩) (aL.1 h3).1 (r.BA ⟨_,hb,rfl⟩ h2),cell_of h3,aO,aK aG];rfl
  ·rw[bC] at h8
   split at h8
   ·rw[bD] at h8
    refine(h5 (off+j) u av ?_ h8).1
    simp only[ba,aY,bc] at h7
    obtain⟨j',ql,rfl⟩:=h7
    have:j'=j:=by
     rw[aT] at ql
     obtain⟨_,h⟩:=ql
     simpa using h.symm
    subst this
    rw[aO,aK aG];rfl
   ·cases h8) hK
theorem ku {w:World} {b off:Nat} {c:Array Value} {e:TypeId} (h:w.heap[b]? =some (.cells c e (0,0))) (u:Value):(w.setCell ⟨b,off,none⟩ u).heap[b]? =some (.cells (c.setIfInBounds off u) e (0,0)):=by
 rw[setCell_eq_setRow w b off c e (0,0) u h];exact setRow_heap w b c _ e _ h
theorem lq {w:World} {b:Nat} {c:Array Value} {e:TypeId} (h:w.heap[b]? =some (.cells c e (0,0))) (j:Nat):w.frozen? ⟨b,j,none⟩=false:=by simp [World.frozen?,h]
theorem je.pb {x y:Operand} {t:TypeId} {i off:Nat} {cells:List AV} {v:AV} (hx:δ.ev x=.ptr i off) (hy:δ.ev y=v) (hb:δ.ob i=some (.box cells)) (ft:aV off cells.length=true) (ht:(P.info? t).map (·.size)=some 1) (h1:v.one=true) (ho:fk x=true) (gi:fk y=true) (hd:gb δ.n dst=true) (MZ:g.nP i):
  je P g ⟨dst,.store t x y,ty,pos,af,gd⟩ δ ((δ.gl i (some (.box (cells.set off v)))).eZ dst .any):=by
 intro κ a w r
 obtain⟨b,c,e,hv,hκ,h3,h4,h5⟩:=r.box (r.ra hx ho) hb
 have EO:off<cells.length:=by simpa using ft
 have FN:=r.ra hy gi
 have tk:=FN.one h1
 have gQ:(execOp a.eval ⟨dst,.store t x y,ty,pos,af,gd⟩).run P w=.ok .skip (w.setCell ⟨b,off,none⟩ (a.eval y)):=by
  obtain⟨i0,mB,qo⟩:∃i0,P.info? t=some i0∧i0.size=1:=by
   cases h:P.info? t with
   |none=>rw[h] at ht;simp at ht
   |some i0=>rw[h] at ht;exact⟨i0,rfl,by simpa using ht⟩
  have hc:w.cell? ⟨b,off,none⟩=some c[off]:=by rw[cell_of h3,aK aG]
  have ij:(store ⟨b,off,none⟩ (a.eval y)).run P w=.ok () (w.setCell ⟨b,off,none⟩ (a.eval y)):=by
   rw[run_store P w _ _ _ tk,hc];simp [lq h3]
  simp [execOp,Instr.storeAt,Instr.sureAddr,storeVar,hv,rn tk,sizeOf,typeInfo,mB,qo,storeCells,iV,ij]
 obtain⟨r',G⟩:=r.modify (o':=.box (cells.set off v)) hb rfl rfl hκ MZ (gm.setCell w ⟨b,off,none⟩ (a.eval y)) (by simp [World.setCell]) (fun C XN G=>⟨b,_,e,by rw[XN];exact hκ,ku h3 _,by simpa using h4,fun j u av h6 h7=>by
  rw[aP] at h6
  rw[bF] at h7
  by_cases ej:off=j
  ·rw[if_pos ej] at h6 h7
   rw[if_pos aG] at h6
   rw[if_pos aG] at h7
   cases h6;cases h7
   exact⟨G.ra FN,tk⟩
  ·rw[if_neg ej] at h6 h7
   exact⟨G.ra (h5 j u av h6 h7).1,(h5 j u av h6 h7).2⟩⟩)
 exact .inl ⟨_,_,_,_,gQ,.inr ⟨rfl,rfl⟩,r'.eZ (fE hd) (.any _)⟩
theorem je.xr {x y:Operand} {t:TypeId} {i:Nat} {cells cs:List AV} (hx:δ.ev x=.ptr i 0) (hy:δ.ev y=.agg cs) (hb:δ.ob i=some (.box cells)) (hlen:cells.length=cs.length) (ht:(P.info? t).map (·.size)=some cs.length) (h1:AV.mE cs=true) (ho:fk x=true) (gi:fk y=true) (hd:gb δ.n dst=true) (MZ:g.nP i):
  je P g ⟨dst,.store t x y,ty,pos,af,gd⟩ δ ((δ.gl i (some (.box cs))).eZ dst .any):=by
 intro κ a w r
 obtain⟨b,c,e,hv,hκ,h3,h4,h5⟩:=r.box (r.ra hx ho) hb
 obtain⟨mX,sE⟩:=(r.ra hy gi).cells h1
 simp only[AV.cellsOf] at mX sE
 have oZ:∀u∈(a.eval y).cells.toList,u.oneCell'=true:=by
  intro u hu
  obtain⟨j,hj⟩:=bx hu
  have ft:j<cs.length:=by rw[← mX];have:=(aT.1 hj).1;simpa using this
  exact(sE j u _ (by simpa using hj) (aZ ft)).2
 have ij:=run_storeCells_at P b 0 e (a.eval y).cells.toList 0 c w h3 (by simp;omega) oZ
 have jD:(c.toList.take (0+0)++(a.eval y).cells.toList++c.toList.drop (0+0+(a.eval y).cells.toList.length)).toArray=(a.eval y).cells:=by
  have:c.toList.drop (0+0+(a.eval y).cells.toList.length)=[]:=List.drop_eq_nil_of_le (by simp;omega)
  rw[this];simp
 rw[jD] at ij
 have gQ:(execOp a.eval ⟨dst,.store t x y,ty,pos,af,gd⟩).run P w=.ok .skip (w.setRow b (a.eval y).cells):=by
  obtain⟨i0,mB,qo⟩:∃i0,P.info? t=some i0∧i0.size=cs.length:=by
   cases h:P.info? t with
   |none=>rw[h] at ht;simp at ht
   |some i0=>rw[h] at ht;exact⟨i0,rfl,by simpa using ht⟩
  simp [execOp,Instr.storeAt,Instr.sureAddr,storeVar,hv,mX,sizeOf,typeInfo,mB,qo,ij]
 obtain⟨r',G⟩:=r.modify (o':=.box cs) hb rfl rfl hκ MZ (gm.setRow w b (a.eval y).cells) (by simp) (fun C XN G=>⟨b,_,e,by rw[XN];exact hκ,setRow_heap w b c _ e _ h3,mX,fun j u av h6 h7=>⟨G.ra (sE j u av h6 h7).1,(sE j u av h6 h7).2⟩⟩)
 exact .inl ⟨_,_,_,_,gQ,.inr ⟨rfl,rfl⟩,r'.eZ (fE hd) (.any _)⟩
theorem a_.pb {x y:Operand} {t:TypeId} {i off:Nat} {cells:List AV} {v:AV} (hx:δ.ev x=.ptr i off) (hy:δ.ev y=v) (hb:δ.ob i=some (.box cells)) (ft:aV off cells.length=true) (ht:(P.info? t).map (·.size)=some 1) (h1:v.one=true) (ho:fk x=true) (gi:fk y=true) (hd:gb δ.n dst=true) (jz:g.wt=none)
  (hK:a_ .plain P g ops rest Q ((δ.gl i (some (.box (cells.set off v)))).eZ dst .any)):a_ .plain P g ops (⟨dst,.store t x y,ty,pos,af,none⟩::rest) Q δ:=a_.vA rfl rfl (je.pb hx hy hb ft ht h1 ho gi hd (lZ jz i)) hK
theorem a_.xr {x y:Operand} {t:TypeId} {i:Nat} {cells cs:List AV} (hx:δ.ev x=.ptr i 0) (hy:δ.ev y=.agg cs) (hb:δ.ob i=some (.box cells)) (hlen:cells.length=cs.length) (ht:(P.info? t).map (·.size)=some cs.length) (h1:AV.mE cs=true) (ho:fk x=true) (gi:fk y=true) (hd:gb δ.n dst=true) (jz:g.wt=none)
  (hK:a_ .plain P g ops rest Q ((δ.gl i (some (.box cs))).eZ dst .any)):a_ .plain P g ops (⟨dst,.store t x y,ty,pos,af,none⟩::rest) Q δ:=a_.vA rfl rfl (je.xr hx hy hb hlen ht h1 ho gi hd (lZ jz i)) hK
theorem a_.Rb {s:TypeId} {x:Operand} {f:Nat} {cs:List AV} {v:AV} {fs:Array Field} {pD:Field} (hx:δ.ev x=.agg cs) (hs:P.underlying s=some (.struct fs)) (hf:fs[f]? =some pD) (ht:iS P pD.type=true) (hv:cs[pD.offset]? =some v) (ho:fk x=true) (hd:gb δ.n dst=true)
  (hK:a_ q P g ops rest Q (δ.eZ dst v)):a_ q P g ops (⟨dst,.field s x f,ty,pos,af,none⟩::rest) Q δ:=
 a_.jK _ hd (fun κ a w r=>by
  have h1:=r.ra hx ho
  generalize hu:a.eval x=u at h1
  cases h1 with
  | @agg us _ mX h=>
   have ft:pD.offset<us.size:=by rw[mX];exact(aT.1 hv).1
   exact⟨us[pD.offset],fun w' _=>by simp [execOp,Instr.field,run_underlying hs,hf,hu,asAgg,part,kC ht,aK ft],h _ _ v (aK ft) hv⟩) hK
end Go.Ab
/- Aggregates and slices that are built;rows that grow. -/
namespace Go.Ab
open Go Go.RowKit
variable {q:Md} {P:Program} {g:eY} {δ:DS} {κ:Kp} {a:Act} {w:World}
variable {ops:Array Oper} {rest:List Oper} {Q:Exit→DS→Prop} {dst:Option Nat} {ty:TypeId} {pos:String} {af:Array Edge}
def lk:List AV→Nat→List AV→List AV
 |cells,_,[]=>cells
 |cells,off,v::vs=>lk (cells.set off v) (off+1) vs
def iN (place:Nat→Option (Nat×Nat)):List AV→List (Nat×AV)→Option (List AV)
 |cells,[]=>some cells
 |cells,(i,v)::rest=>
  match place i with
  |none=>none
  |some (off,size)=>bif aI v.cellsOf.length size && bu (off+v.cellsOf.length) cells.length && AV.mE v.cellsOf then iN place (lk cells off v.cellsOf) rest else none
def Cells (C:Cx) (w:World) (c:Array Value) (l:List AV):Prop:=c.size=l.length∧∀(j:Nat) (u:Value) (av:AV),c[j]? =some u→l[j]? =some av→RA C w u av∧u.oneCell'=true
theorem Cells.set {C:Cx} {w:World} {c:Array Value} {l:List AV} (h:Cells C w c l) (i:Nat) {u:Value} {v:AV} (hu:RA C w u v∧u.oneCell'=true):Cells C w (c.setIfInBounds i u) (l.set i v):=by
 refine⟨by simpa using h.1,fun j x y h1 h2=>?_⟩
 rw[aP] at h1
 rw[bF] at h2
 by_cases e:i=j
 ·rw[if_pos e] at h1 h2
  split at h1
  ·rename_i ft
   rw[if_pos (by have:=h.1;omega)] at h2
   cases h1;cases h2;exact hu
  ·cases h1
 ·rw[if_neg e] at h1 h2;exact h.2 j x y h1 h2
theorem xM {C:Cx} {w:World}:∀(us:List Value) (vs:List AV) (off k:Nat) (c:Array Value) (l:List AV),us.length=vs.length→
  (∀(j:Nat) (u:Value) (v:AV),us[j]? =some u→vs[j]? =some v→RA C w u v∧u.oneCell'=true)→Cells C w c l→
  Cells C w ((us.zipIdx k).foldl (fun cs x=>cs.setIfInBounds (off+x.2) x.1) c) (lk l (off+k) vs)
 |[],[],off,k,c,l,_,_,h=>h
 |u::us,v::vs,off,k,c,l,hl,hv,h=>by
  simp only[List.zipIdx_cons,List.foldl_cons,lk]
  exact xM us vs off (k+1) _ _ (by simpa using hl) (fun j x y h1 h2=>hv (j+1) x y (by simpa using h1) (by simpa using h2)) (h.set (off+k) (hv 0 u v rfl rfl))
 |[],v::vs,_,_,_,_,hl,_,_=>by simp at hl
 |u::us,[],_,_,_,_,hl,_,_=>by simp at hl
theorem nN {C:Cx} {w:World} {place place':Nat→Option (Nat×Nat)} (hp:∀i x,place i=some x→place' i=some x):∀(parts:List (Nat×Value)) (ve:List (Nat×AV)) (c:Array Value) (l l':List AV),
  parts.length=ve.length→(∀(j:Nat) (x:Nat×Value) (y:Nat×AV),parts[j]? =some x→ve[j]? =some y→x.1=y.1∧RA C w x.2 y.2)→Cells C w c l→iN place l ve=some l'→
  ∃c',Instr.fill place' c parts=some c'∧Cells C w c' l'
 |[],[],c,l,l',_,_,h,hf=>by simp only[iN,Option.some.injEq] at hf;subst hf;exact⟨c,rfl,h⟩
 |(i,u)::parts,(i',v)::ve,c,l,l',hl,hv,h,hf=>by
  obtain⟨e,hu⟩:=hv 0 (i,u) (i',v) rfl rfl
  simp only at e hu
  subst e
  simp only[iN] at hf
  cases sB:place i with
  |none=>rw[sB] at hf;cases hf
  |some os=>
   obtain⟨off,size⟩:=os
   rw[sB] at hf
   simp only at hf
   cases hc:(aI v.cellsOf.length size && bu (off+v.cellsOf.length) l.length && AV.mE v.cellsOf) with
   |false=>rw[hc] at hf;cases hf
   |true=>
    rw[hc] at hf
    simp only[aW] at hc
    obtain⟨⟨h1,h2⟩,h3⟩:=hc
    have QY:v.cellsOf.length=size:=aJ h1
    have X1:off+v.cellsOf.length≤l.length:=by simpa using h2
    obtain⟨hs,sE⟩:=hu.cells h3
    have nt:=xM (C:=C) (w:=w) u.cells.toList v.cellsOf off 0 c l (by simpa using hs) (fun j x y h4 h5=>sE j x y (by simpa using h4) h5) h
    obtain⟨c',h6,h7⟩:=nN hp parts ve _ _ l' (by simpa using hl) (fun j x y h4 h5=>hv (j+1) x y (by simpa using h4) (by simpa using h5)) nt hf
    refine⟨c',?_,h7⟩
    unfold Instr.fill
    rw[hp i _ sB]
    simp only
    rw[if_neg (by simp;refine⟨by omega,by have:=h.1;omega⟩)]
    rw[← h6]
    congr 1
    rw[← Array.foldl_toList,Array.toList_zipIdx]
 |[],_::_,_,_,_,hl,_,_,_=>by simp at hl
 |_::_,[],_,_,_,hl,_,_,_=>by simp at hl
def placeOf (P:Program) (fs:Array Field) (i:Nat):Option (Nat×Nat):=(fs[i]?).bind fun f=>(P.info? f.type).map fun i=>(f.offset,i.size)
theorem run_places (fs:List Field) (w:World):∀(acc:Array (Nat×Nat)),fs.all (fun f=>(P.info? f.type).isSome)=true→
  (fs.foldlM (fun(acc:Array (Nat×Nat)) (f:Field)=>do let s ← sizeOf f.type;pure (acc.push (f.offset,s))) acc).run P w=.ok (acc++(fs.map fun f=>(f.offset,((P.info? f.type).map (·.size)).getD 0)).toArray) w:=by
 induction fs with
 |nil=>intro acc _;simp
 |cons f fs ih=>
  intro acc h
  simp only[List.all_cons,aW] at h
  obtain⟨i,hi⟩:=Option.isSome_iff_exists.1 h.1
  have:=ih (acc.push (f.offset,i.size)) h.2
  simp [List.foldlM_cons,sizeOf,typeInfo,hi] at this ⊢
  rw[this]
theorem a_.build {t:TypeId} {parts:List (Nat×Operand)} {fs:Array Field} {z:Value} {cells:List AV} (hs:P.underlying t=some (.struct fs)) (hz:(P.info? t).bind (·.zero)=some z) (h1:z.cells.toList.all (·.oneCell')=true) (oZ:fs.toList.all (fun f=>(P.info? f.type).isSome)=true)
  (ho:parts.all (fun p=>fk p.2)=true) (hf:iN (placeOf P fs) (z.cells.toList.map fun v=> .pv (.lit v)) (parts.map fun p=>(p.1,δ.ev p.2))=some cells) (hd:gb δ.n dst=true)
  (hK:a_ q P g ops rest Q (δ.eZ dst (.agg cells))):a_ q P g ops (⟨dst,.build t parts.toArray,ty,pos,af,none⟩::rest) Q δ:=
 a_.jK _ hd (fun κ a w r=>by
  obtain⟨i0,mB,Aw⟩:∃i0,P.info? t=some i0∧i0.zero=some z:=by
   cases h:P.info? t with
   |none=>rw[h] at hz;simp at hz
   |some i0=>rw[h] at hz;exact⟨i0,rfl,by simpa using hz⟩
  have sB:=fun w1=>run_places (P:=P) fs.toList w1 #[] oZ
  obtain⟨c',h2,h3⟩:=nN (C:=δ.cx g κ) (w:=w) (place:=placeOf P fs) (place':=fun i=>((#[]:Array (Nat×Nat))++(fs.toList.map fun f=>(f.offset,((P.info? f.type).map (·.size)).getD 0)).toArray)[i]?)
   (fun i x h=>by
    unfold placeOf at h
    cases AO:fs[i]? with
    |none=>rw[AO] at h;simp at h
    |some f=>
     rw[AO] at h
     simp only[bG,bc] at h
     obtain⟨ii,h4,rfl⟩:=h
     simp [AO,h4])
   (parts.map fun p=>(p.1,a.eval p.2)) (parts.map fun p=>(p.1,δ.ev p.2)) z.cells _ cells (by simp) (fun j x y h4 h5=>by
    simp only[aY,bc] at h4 h5
    obtain⟨p,h6,rfl⟩:=h4
    obtain⟨p',h7,rfl⟩:=h5
    rw[h6] at h7;cases h7
    exact⟨rfl,r.C5 p.2 (iK (by simpa using (bB.1 ho) p (aR h6)))⟩)
   ⟨by simp,fun j u av h4 h5=>by
    simp only[aY,bc] at h5
    obtain⟨v,h5,rfl⟩:=h5
    have:v=u:=by have:=h4;rw[← bA,h5] at this;exact Option.some.inj this
    subst this
    exact⟨.pv (.lit _),by simpa using (bB.1 h1) _ (aR h5)⟩⟩ hf
  refine⟨.agg c',fun w1 _=>?_,.agg h3.1 fun j u c h4 h5=>(h3.2 j u c h4 h5).1⟩
  have RS:(fs.mapM fun(f:Field)=>(do pure (f.offset,← sizeOf f.type):Sem (Nat×Nat)))=fs.toList.foldlM (fun(acc:Array (Nat×Nat)) (f:Field)=>do let s ← sizeOf f.type;pure (acc.push (f.offset,s))) #[]:=by
   rw[bn,← Array.foldlM_toList]
   congr 1
   funext acc f
   simp
  have Er:∀w,(zeroValue t).run P w=.ok z w:=fun w=>by simp [zeroValue,typeInfo,mB,Aw]
  simp only[execOp,Instr.build,Sem.run_bind,Er,Result.andThen_ok,run_underlying hs,RS,sB,bj,h2,Sem.run_pure]) hK
end Go.Ab
/- Slices that are written out,made,cut;rows that grow by append or are stored into. -/
namespace Go.Ab
open Go Go.RowKit
variable {q:Md} {P:Program} {g:eY} {δ:DS} {κ:Kp} {a:Act} {w:World}
variable {gd:Option (Tmp×Bool)} {ops:Array Oper} {rest:List Oper} {Q:Exit→DS→Prop} {dst:Option Nat} {ty:TypeId} {pos:String} {af:Array Edge}
def Wh:AV→PV|.pv p=>p|_=> .lit undef
def AV.xw:AV→Bool|.pv _=>true|_=>false
def chunk (k:Nat):Nat→List AV→List (List PV)
 |0,_=>[]
 |n+1,l=>(l.take k).map Wh::chunk k n (l.drop k)
theorem oO (k:Nat):∀n l,(chunk k n l).length=n
 |0,_=>rfl
 |n+1,l=>by simp [chunk,oO k n]
theorem GY (k:Nat):∀n l,l.length=n*k→∀c∈chunk k n l,c.length=k
 |0,_,_,c,h=>by simp [chunk] at h
 |n+1,l,hl,c,h=>by
  rw[bH,bI] at hl
  simp only[chunk,br] at h
  rcases h with rfl|h
  ·simp;omega
  ·exact GY k n _ (by simp;omega) c h
theorem DH (k:Nat):∀n l,l.all AV.xw=true→∀i j p,cellAt (chunk k n l) i j=some p→l[i*k+j]? =some (.pv p)∧j<k
 |0,_,_,i,j,p,h=>by simp [chunk,cellAt] at h
 |n+1,l,hl,i,j,p,h=>by
  cases i with
  |zero=>
   simp only[chunk,cellAt,List.getElem?_cons_zero,bG,aY,bc,bC] at h
   obtain⟨v,h,rfl⟩:=h
   split at h
   ·rename_i hj
    refine⟨?_,hj⟩
    rw[Nat.zero_mul,a6,h]
    have:=(bB.1 hl) v (aR h)
    cases v<;>simp [AV.xw] at this;rfl
   ·cases h
  |succ i=>
   have:=DH k n (l.drop k) (bB.2 fun x hx=>(bB.1 hl) x (bJ hx)) i j p (by simpa [chunk,cellAt] using h)
   rw[bD] at this
   rw[show(i+1)*k+j=k+(i*k+j) by rw[bH];omega]
   exact this
def jb (z:Value) (n:Nat):List AV:=(a7 n).map fun j=> .pv (.lit (z.cells.toList[j % z.cells.toList.length]?.getD undef))
theorem je.buildSlice {t e:TypeId} {len k:Nat} {parts:List (Nat×Operand)} {z:Value} {cells:List AV} (ht:P.underlying t=some (.slice e)) (hi:(P.info? e).map (fun i=>(i.size,i.zero))=some (k,some z)) (mK:aI z.cells.size k=true) (hk:aV 0 k=true)
  (hlen:bu (len*k) 16777216=true) (h1:z.cells.toList.all (·.oneCell')=true) (ho:parts.all (fun p=>fk p.2)=true) (hf:iN (fun i=>some (i*k,k)) (jb z (len*k)) (parts.map fun p=>(p.1,δ.ev p.2))=some cells) (hp:cells.all AV.xw=true) (hd:gb δ.n dst=true):
  je P g ⟨dst,.buildSlice t len parts.toArray,ty,pos,af,gd⟩ δ ((δ.fM .row).eZ dst (.own δ.nx e k (chunk k len cells))):=by
 intro κ a w r
 have K3:z.cells.size=k:=aJ mK
 have jN:0<k:=by simpa using hk
 have vJ:len*k≤16777216:=by simpa using hlen
 obtain⟨i0,mB,qo,Aw⟩:∃i0,P.info? e=some i0∧i0.size=k∧i0.zero=some z:=by
  cases h:P.info? e with
  |none=>rw[h] at hi;simp at hi
  |some i0=>rw[h] at hi;simp at hi;exact⟨i0,rfl,hi.1,hi.2⟩
 have tk:∀(j:Nat) (u:Value),z.cells.toList[j]? =some u→u.oneCell'=true:=fun j u h=>by simpa using (bB.1 h1) u (aR h)
 obtain⟨c',h2,h3⟩:=nN (C:=δ.cx g κ) (w:=w) (place:=fun i=>some (i*k,k)) (place':=fun i=>some (i*k,k)) (fun i x h=>h)
   (parts.map fun p=>(p.1,a.eval p.2)) (parts.map fun p=>(p.1,δ.ev p.2)) ((bK (len*k)).map (z.cells[·% z.cells.size]!)) (jb z (len*k)) cells (by simp) (fun j x y h4 h5=>by
    simp only[aY,bc] at h4 h5
    obtain⟨p,h6,rfl⟩:=h4
    obtain⟨p',h7,rfl⟩:=h5
    rw[h6] at h7;cases h7
    exact⟨rfl,r.C5 p.2 (iK (by simpa using (bB.1 ho) p (aR h6)))⟩)
   ⟨by simp [jb],fun j u av h4 h5=>by
    have hj:j<len*k:=by have:=(aT.1 h5).1;simpa [jb] using this
    simp only[jb,aY,bd hj,bm,Option.some.injEq] at h5
    subst h5
    simp only[bL,bM,hj,if_true,bm,Option.some.injEq] at h4
    have Vy:j % z.cells.size<z.cells.size:=bN _ (by omega)
    have e1:z.cells.toList[j % z.cells.toList.length]? =some u:=by
     rw[← h4,Array.length_toList,bA,getElem!_pos z.cells _ Vy,aK Vy]
    rw[e1]
    exact⟨.pv (.lit _),tk _ _ e1⟩⟩ hf
 have nt:cells.length=len*k:=by
  have:∀(parts:List (Nat×AV)) (l l':List AV),iN (fun i=>some (i*k,k)) l parts=some l'→l'.length=l.length:=by
   intro parts
   induction parts with
   |nil=>intro l l' h;simp only[iN,Option.some.injEq] at h;rw[h]
   |cons p parts ih=>
    intro l l' h
    obtain⟨i,v⟩:=p
    simp only[iN] at h
    have CK:∀(vs:List AV) (off:Nat) (l:List AV),(lk l off vs).length=l.length:=by
     intro vs
     induction vs with
     |nil=>intros;rfl
     |cons v vs ih=>intro off l;simp only[lk];rw[ih];simp
    cases hc:(aI v.cellsOf.length k && bu (i*k+v.cellsOf.length) l.length && AV.mE v.cellsOf) with
    |false=>rw[hc] at h;cases h
    |true=>rw[hc] at h;rw[ih _ _ h,CK]
  rw[this _ _ _ hf];simp [jb]
 have gQ:(execOp a.eval ⟨dst,.buildSlice t len parts.toArray,ty,pos,af,gd⟩).run P w=.ok (.value (.slice (some ⟨w.heap.size,0,none⟩) len len)) (w.alloc (.cells c' e)):=by
  have Er:∀w,(zeroValue e).run P w=.ok z w:=fun w=>by simp [zeroValue,typeInfo,mB,Aw]
  have P2:∀w,(sizeOf e).run P w=.ok k w:=fun w=>by simp [sizeOf,typeInfo,mB,qo]
  have lz:¬16777216<len*k:=by omega
  by_cases h0:len*k=0
  ·have:(bK (len*k)).map (fun x=>z.cells[x % z.cells.size]!)=(bK (len*k)).map (fun x=>(#[]:Array Value)[x % (#[]:Array Value).size]!):=by rw[h0];simp [Array.range_zero']
   rw[this] at h2
   simp only[execOp,Instr.buildSlice,Sem.run_bind,Result.andThen_ok,run_underlying ht,P2,bj]
   simp only[show(2:Nat) ^ 24=16777216 from rfl,gt_iff_lt,if_neg lz,if_pos h0,Sem.run_pure,Result.andThen_ok,Sem.run_bind]
   simp only[h2,Sem.run_bind,newRow,Result.andThen_ok,Sem.run_pure]
   rfl
  ·simp only[execOp,Instr.buildSlice,Sem.run_bind,Result.andThen_ok,run_underlying ht,P2,bj]
   simp only[show(2:Nat) ^ 24=16777216 from rfl,gt_iff_lt,if_neg lz,if_neg h0,Sem.run_pure,Result.andThen_ok,Sem.run_bind,Er]
   simp only[h2,Sem.run_bind,newRow,Result.andThen_ok,Sem.run_pure]
   rfl
 have sE:c'.size=len*k:=h3.1.trans nt
 have yS:len≤maxLen:=by
  have:len≤len*k:=bP _ jN
  simp only[maxLen];omega
 obtain⟨r',G⟩:=r.grow .row (.cells c' e) (fun C G hκ b hb=>by
  have:w.heap.size=b:=Option.some.inj (hκ.symm.trans hb)
  subst this
  exact⟨c',e,heap_alloc_new w _⟩)
 have jD:=World.ownsRow_lit (base:=g.B) (e:=e) (size:=k) w c' len r.hB yS sE
 refine .inl ⟨_,_,_,_,gQ,.inl rfl,r'.eZ (fE hd) (.own ?_)⟩
 refine⟨by show(δ.fM .row).ob _=_;rw[gh,if_pos rfl],by rw[oO];have:len≤len*k:=bP _ jN;omega,GY k len cells nt,fun b hb=>?_,c'.toList,by rw[oO];exact jD,fun u hu=>?_,fun i' j p n9=>?_⟩
 ·simp only[Value.ownBlock,Option.some.injEq] at hb
  subst hb
  show ix _ _ _ _=_
  simp [ix]
 ·obtain⟨j,hj⟩:=bx hu
  have ft:j<cells.length:=by have:=(aT.1 hj).1;have:=h3.1;simp at*;omega
  exact(h3.2 j u _ (by simpa using hj) (aZ ft)).2
 ·obtain⟨h5,_⟩:=DH k len cells hp i' j p n9
  have ft:i'*k+j<c'.size:=by rw[h3.1];exact(aT.1 h5).1
  refine⟨c'[i'*k+j],by simp [ft],?_⟩
  exact G.rp (h3.2 _ _ _ (aK ft) h5).1.kf
structure Src (C:Cx) (w:World) (v:Value) (k:Nat) (e7:List (List PV)):Prop where
 lim:e7.length≤140737488355328
 hk:∀c∈e7,c.length=k
 ex:∃a c,v=.slice a e7.length c∧(e7≠ []→∃(b off:Nat) (vs:Nat→Nat→Value),a=some ⟨b,off,none⟩∧∀i j p,cellAt e7 i j=some p→w.cell? ⟨b,off+i*k+j,none⟩=some (vs i j)∧(vs i j).oneCell'=true∧RP C.N w (vs i j) p)
theorem RP.src {C:Cx} {w:World} {v:Value} {k:Nat} {e7:List (List PV)} (h:RP C.N w v (.slice k e7)):Src C w v k e7:=by
 cases h with
 |slice b off vs hl p_ hb ha hk hc hr=>subst hl;exact⟨hb,hk,_,_,rfl,fun he=>⟨b,off,vs,(ha he).1,fun i j p hp=>⟨(hc i j p hp).1,(hc i j p hp).2,hr i j p hp⟩⟩⟩
theorem jB.src {C:Cx} {w:World} {v:Value} {i e k e7} (h:jB C w v i e k e7):Src C w v k e7:=by
 obtain⟨hl,mP,hk,hb,xs,ho,h1,hx⟩:=h
 have gi:=ho
 rcases ho.2 with ⟨rfl,h0⟩|⟨b,cap,cur,rfl,h2,h3,h4⟩
 ·exact⟨mP,hk,none,0,by rw[h0],fun he=>absurd (bf h0) he⟩
 ·refine⟨mP,hk,_,_,rfl,fun _=>⟨b,0,fun i j=>(xs[i*k+j]?).getD undef,rfl,fun i j p hp=>?_⟩⟩
  obtain⟨u,hu,hr⟩:=hx i j p hp
  have ft:i*k+j<e7.length*k:=by have:=(aT.1 hu).1;rw[← ho.1];exact this
  simp only[hu,bh,a6]
  exact⟨(gi.cellAt _ ft).trans hu,h1 u (aR hu),hr⟩
theorem PF {C:Cx} {w:World} (k:Nat):Src C w (.slice none 0 0) k []:=⟨by simp,by simp,none,0,rfl,fun h=>absurd rfl h⟩
theorem Src.flat {C:Cx} {w:World} {v:Value} {k:Nat} {e7:List (List PV)} (h:Src C w v k e7) (nh:0<k):
  ∃(a:Option Addr) (c:Nat) (news:List Value),v=.slice a e7.length c∧news.length=e7.length*k∧(e7≠ []→∃ad,a=some ad∧∀j u,news[j]? =some u→w.cell? (ad.add j)=some u)∧(∀u∈news,u.oneCell'=true)∧
   ∀i j p,cellAt e7 i j=some p→∃u,news[i*k+j]? =some u∧RP C.N w u p:=by
 obtain⟨mP,hk,a,c,rfl,hex⟩:=h
 by_cases he:e7=[]
 ·subst he
  exact⟨a,c,[],rfl,by simp,fun h=>absurd rfl h,by simp,fun i j p hp=>by simp [cellAt] at hp⟩
 ·obtain⟨b,off,vs,rfl,hv⟩:=hex he
  have jZ:∀t,t<e7.length*k→∃p,cellAt e7 (t / k) (t % k)=some p:=by
   intro t ht
   have h1:t / k<e7.length:=(Nat.div_lt_iff_lt_mul nh).2 ht
   have h2:t % k<(e7[t / k]).length:=by rw[hk _ (List.getElem_mem h1)];exact bN _ nh
   exact⟨(e7[t / k])[t % k],by simp [cellAt,aZ h1,aZ h2]⟩
  refine⟨_,c,(a7 (e7.length*k)).map fun t=>vs (t / k) (t % k),rfl,by simp,fun _=>⟨_,rfl,fun j u hu=>?_⟩,fun u hu=>?_,fun i j p hp=>?_⟩
  ·simp only[aY,bc] at hu
   obtain⟨t,ht,rfl⟩:=hu
   rw[aT] at ht
   obtain⟨Xe,ht2⟩:=ht
   have:t=j:=by simpa using ht2.symm
   subst this
   obtain⟨p,hp⟩:=jZ t (by simpa using Xe)
   rw[iV,← (hv _ _ p hp).1]
   congr 2
   have:=Nat.div_add_mod t k
   rw[bQ] at this
   omega
  ·simp only[bt,List.mem_range] at hu
   obtain⟨t,ht,rfl⟩:=hu
   obtain⟨p,hp⟩:=jZ t ht
   exact(hv _ _ p hp).2.1
  ·have hj:j<k:=by
    unfold cellAt at hp
    cases h:e7[i]? with
    |none=>rw[h] at hp;simp at hp
    |some e0=>rw[h] at hp;simp at hp;rw[← hk e0 (aR h)];exact(aT.1 hp).1
   have hi:i<e7.length:=by
    unfold cellAt at hp
    cases h:e7[i]? with
    |none=>rw[h] at hp;simp at hp
    |some e0=>exact(aT.1 h).1
   have ft:i*k+j<e7.length*k:=by
    have:(i+1)*k≤e7.length*k:=bR k hi
    rw[bH,bI] at this;omega
   refine⟨vs i j,?_,(hv i j p hp).2.2⟩
   rw[aY,bd ft]
   simp only[bm,Option.some.injEq]
   rw[bQ i k,Nat.mul_add_div nh,Nat.div_eq_of_lt hj,bS,bT hj,a8]
theorem mN {t ty e:TypeId} {i:TypeInfo} (ht:P.underlying t=some (.slice e)) (hi:P.info? e=some i) {B k:Nat} {v:Value} {n c:Nat} {xs:List Value} (hX:w.ownsRow B e k v n xs):
  (Builtin.append_ #[t,t] ty #[v,.slice none 0 c]).run P w=.ok v w:=by
 rcases hX.2 with ⟨rfl,rfl⟩|⟨g,cap,cur,rfl,_,_,Xa,_⟩
 ·simp [Builtin.append_,run_underlying ht,sizeOf,typeInfo,hi,Builtin.lenOf,Builtin.firstCells]
 ·simp [Builtin.append_,run_underlying ht,sizeOf,typeInfo,hi,Builtin.lenOf,Builtin.firstCells,Xa,storeCells]
theorem sd {xs ys:List (List PV)} {i j:Nat} {p:PV} (h:cellAt (xs++ys) i j=some p):(i<xs.length∧cellAt xs i j=some p)∨(xs.length≤i∧cellAt ys (i - xs.length) j=some p):=by
 unfold cellAt at*
 by_cases hi:i<xs.length
 ·left;rw[aQ hi] at h;exact⟨hi,h⟩
 ·right;rw[aS aG] at h;exact⟨by omega,h⟩
theorem Cz (r:Rel g δ κ a w) {i:Nat} {e t:TypeId} {k bytes:Nat} {e7 news:List (List PV)} {v x z:Value} (ho:δ.ob i=some .row) (hv:jB (δ.cx g κ) w v i e k e7) (hx:Src (δ.cx g κ) w x k news)
  (ht:P.underlying t=some (.slice e)) (hi:(P.info? e).map (fun i=>(i.size,i.zero,i.bytes))=some (k,some z,bytes)) (mK:z.cells.size=k) (nh:0<k) (hb:(e7.length+news.length)*bytes≤140737488355328) (hl:e7.length+news.length≤140737488355328):
  ∃v' w' κ',(Builtin.append_ #[t,t] ty #[v,x]).run P w=.ok v' w'∧Rel g (δ.ib (AV.kill i)) κ' a w'∧jB ((δ.ib (AV.kill i)).cx g κ') w' v' i e k (e7++news):=by
 obtain⟨i0,mB,qo,Aw,GO⟩:∃i0,P.info? e=some i0∧i0.size=k∧i0.zero=some z∧i0.bytes=bytes:=by
  cases h:P.info? e with
  |none=>rw[h] at hi;simp at hi
  |some i0=>rw[h] at hi;simp at hi;exact⟨i0,rfl,hi.1,hi.2.1,hi.2.2⟩
 obtain⟨oy,mP,hk,pz,xs,hX,h1,Gy⟩:=hv
 obtain⟨xa,xc,JC,rfl,rU,gz,GC,Rm⟩:=hx.flat nh
 have B3:e7.length+news.length≤maxLen:=by simp only[maxLen];omega
 have hB:g.B≤w.heap.size:=r.hB
 -- the run
 obtain⟨v',w',gQ,sf,r7⟩:∃v' w',(Builtin.append_ #[t,t] ty #[v,.slice xa news.length xc]).run P w=.ok v' w'∧w'.ownsRow g.B e k v' (e7.length+news.length) (xs++JC)∧w.grownBy w' v.ownBlock:=by
  by_cases xV:news=[]
  ·subst xV
   have Ts:JC=[]:=bf (by simpa using rU)
   subst Ts
   cases xa with
   |none=>exact⟨v,w,mN ht mB hX,by simp only[bU,a8,bp];exact hX,⟨rfl,rfl,rfl,aM _,fun _ _ _=>rfl⟩⟩
   |some ad=>
    obtain⟨v',w',h2,h3,h4,_⟩:=run_append_own (P:=P) w g.B t ty e i0 z k bytes ht mB Aw qo GO mK nh v e7.length xs hX ad 0 xc [] (by simp) (by simp) (by simp) (by simpa using B3) (by simpa using hb) hB
    exact⟨v',w',h2,by simpa using h3,h4⟩
  ·obtain⟨ad,rfl,hc⟩:=gz xV
   obtain⟨v',w',h2,h3,h4,_⟩:=run_append_own (P:=P) w g.B t ty e i0 z k bytes ht mB Aw qo GO mK nh v e7.length xs hX ad news.length xc JC rU hc GC B3 hb hB
   exact⟨v',w',h2,h3,h4⟩
 have CX:∀b,v.ownBlock=some b→κ i=some b:=pz
 have hT:gm w w' (κ i):=by
  cases jo:v.ownBlock with
  |none=>rw[jo] at r7;exact⟨r7.os,r7.tape,r7.output,r7.size,fun k' jN _=>r7.block k' jN (by simp)⟩
  |some b=>rw[jo] at r7;rw[CX b jo];exact gm.grownBy r7
 -- the new block
 let κ':Kp:=ix κ i v'.ownBlock
 have KT:∀j,j≠i→κ' j=κ j:=fun j hj=>by show ix _ _ _ _=_;simp [ix,Ne.symm hj]
 have hκ'i:κ' i=v'.ownBlock:=by show ix _ _ _ _=_;simp [ix]
 have il:∀b,κ' i=some b→(κ i=some b∨w.heap.size≤b)∧b<w'.heap.size∧∃c e,w'.heap[b]? =some (.cells c e (0,0)):=by
  intro b js
  rw[hκ'i] at js
  rcases sf.2 with ⟨rfl,_⟩|⟨b',cap,cur,rfl,h2,h3,_⟩
  ·simp [Value.ownBlock] at js
  ·simp only[Value.ownBlock,Option.some.injEq] at js
   subst js
   refine⟨?_,(aL.1 h3).1,cur,e,h3⟩
   by_cases ft:w.heap.size≤b'
   ·exact .inr ft
   ·left
    -- an old block:it is the row's own
    have EO:b'<w.heap.size:=by omega
    rcases hX.2 with ⟨rfl,h0⟩|⟨b0,cap0,cur0,rfl,h4,h5,h6⟩
    ·exfalso
     -- v nil:the run made a new block or gave nil back
     by_cases xV:news=[]
     ·subst xV
      have Ts:JC=[]:=bf (by simpa using rU)
      have y7:(Builtin.append_ #[t,t] ty #[.slice none 0 0,.slice xa 0 xc]).run P w=.ok (.slice none 0 0) w:=by
       cases xa with
       |none=>exact mN ht mB hX
       |some ad=>simp [Builtin.append_,run_underlying ht,sizeOf,typeInfo,mB,Builtin.lenOf,Builtin.firstCells,loadCells,loadCellsFrom]
      simp only[bU] at gQ
      rw[y7] at gQ
      simp at gQ
     ·obtain⟨ad,rfl,hc⟩:=gz xV
      have Pq:0<news.length:=List.length_pos_iff.2 xV
      have y7:=run_append_nil (P:=P) w t ty e i0 z ht mB Aw ad news.length xc JC (by rw[qo];exact rU) hc Pq (by simp only[maxLen] at B3;omega) (by rw[GO];have:news.length*bytes≤(e7.length+news.length)*bytes:=bR _ aG;omega)
      rw[y7] at gQ
      simp only[Result.ok.injEq,Value.slice.injEq,Option.some.injEq,Addr.mk.injEq] at gQ
      omega
    ·rw[CX b0 rfl]
     by_cases Ju:b'=b0
     ·rw[Ju]
     ·exfalso
      -- the run gave back the old block or a new one
      by_cases oL:e7.length+news.length≤cap0
      ·by_cases xV:news=[]
       ·subst xV
        have Ts:JC=[]:=bf (by simpa using rU)
        cases xa with
        |none=>
         have y7:=mN (P:=P) (c:=xc) (ty:=ty) ht mB hX
         simp only[bU] at gQ
         rw[y7] at gQ
         simp only[Result.ok.injEq,Value.slice.injEq,Option.some.injEq,Addr.mk.injEq] at gQ
         exact Ju gQ.1.1.1.symm
        |some ad=>
         have y7:=run_append_room (P:=P) w t ty e i0 ht mB b0 e7.length cap0 cur0 h5 ad 0 xc [] (by simp) (by simp) (by simp) aG (by rw[qo];simp [h6.2.2.1];exact bR _ h6.1)
         simp only[bU] at gQ
         rw[y7] at gQ
         simp only[Result.ok.injEq,Value.slice.injEq,Option.some.injEq,Addr.mk.injEq] at gQ
         exact Ju gQ.1.1.1.symm
       ·obtain⟨ad,rfl,hc⟩:=gz xV
        have y7:=run_append_room (P:=P) w t ty e i0 ht mB b0 e7.length cap0 cur0 h5 ad news.length xc JC (by rw[qo];exact rU) hc GC oL (by rw[qo,rU,h6.2.2.1,← bH];exact bR _ oL)
        rw[y7] at gQ
        simp only[Result.ok.injEq,Value.slice.injEq,Option.some.injEq,Addr.mk.injEq] at gQ
        exact Ju gQ.1.1.1.symm
      ·have xV:news≠ []:=by intro h;subst h;simp at oL;have:=h6.1;omega
       obtain⟨ad,rfl,hc⟩:=gz xV
       have y7:=run_append_grow (P:=P) w t ty e i0 z ht mB Aw ⟨b0,0,none⟩ e7.length cap0 xs (by rw[qo];exact hX.1) (hX.cells (g:=b0) rfl) ad news.length xc JC (by rw[qo];exact rU) hc aG (by simp only[maxLen] at B3;omega) (by rw[GO];exact growslice_fits aG hb)
       rw[y7] at gQ
       simp only[Result.ok.injEq,Value.slice.injEq,Option.some.injEq,Addr.mk.injEq] at gQ
       omega
 obtain⟨r',G⟩:=r.row ho KT hT il (AV.kill i) rfl (fun G v av h=>h.kill G)
 refine⟨v',w',κ',gQ,r',?_⟩
 refine⟨?_,by rw[bV];exact hl,fun c hc=>(bW.1 hc).elim (hk c) (hx.hk c),fun b js=>hκ'i.trans js,xs++JC,by rw[bV];exact sf,fun u hu=>(bW.1 hu).elim (h1 u) (GC u),fun i' j p hp=>?_⟩
 ·show(δ.ib _).ob i=_
  rw[kj,ho];rfl
 ·rcases sd hp with ⟨ft,h2⟩|⟨hle,h2⟩
  ·obtain⟨u,h3,h4⟩:=Gy i' j p h2
   refine⟨u,?_,G.rp (C:=(δ.cx g κ).less i) h4⟩
   rw[aQ (aT.1 h3).1];exact h3
  ·obtain⟨u,h3,h4⟩:=Rm (i' - e7.length) j p h2
   refine⟨u,?_,G.rp (C:=(δ.cx g κ).less i) h4⟩
   have F9:xs.length=e7.length*k:=hX.1
   have he:i'*k+j=xs.length+((i' - e7.length)*k+j):=by
    rw[F9,← bE,← bH]
    congr 2
    omega
   rw[he,aS aG,Nat.add_sub_cancel_left]
   exact h3
end Go.Ab
/- Append,make,cut and store as operations. -/
namespace Go.Ab
open Go Go.RowKit
variable {q:Md} {P:Program} {g:eY} {δ:DS} {κ:Kp} {a:Act} {w:World}
variable {gd:Option (Tmp×Bool)} {ops:Array Oper} {rest:List Oper} {Q:Exit→DS→Prop} {dst:Option Nat} {ty:TypeId} {pos:String} {af:Array Edge}
theorem se {gd:Option (Tmp×Bool)} {s x:Operand} {t:TypeId} {ρ:Operand→Value} {v:Value} {w':World} (h:(Builtin.append_ #[t,t] ty #[ρ s,ρ x]).run P w=.ok v w'):
  (execOp ρ ⟨dst,.call {callee:=.builtin .append,args:= #[s,x],argTypes:= #[t,t]},ty,pos,af,gd⟩).run P w=.ok (.value v) w':=by
 simp only[execOp,resolve,invoke,builtin,Sem.run_bind,Sem.run_pure,Result.andThen_ok,bj,bz,List.map_nil,h]
inductive wk (δ:DS) (x:Operand) (k:Nat):List (List PV)→Prop
 |pv {e7:List (List PV)} (h:δ.ev x=.pv (.slice k e7)):wk δ x k e7
 |own {j:Nat} {e:TypeId} {e7:List (List PV)} (h:δ.ev x=.own j e k e7):wk δ x k e7
 |nil (h:δ.ev x=.pv (.lit (.slice none 0 0))):wk δ x k []
theorem wk.src {x:Operand} {k:Nat} {e7:List (List PV)} (h:wk δ x k e7) (r:Rel g δ κ a w) (ho:fk x=true):Src (δ.cx g κ) w (a.eval x) k e7:=by
 cases h with
 |pv h=>exact(r.ra h ho).kf.src
 |own h=>exact(r.ra h ho).jt.src
 |nil h=>rw[r.lit h ho];exact PF k
theorem je.append {s x:Operand} {t e:TypeId} {i k bytes:Nat} {z:Value} {e7 news:List (List PV)} (hs:δ.ev s=.own i e k e7) (hx:wk δ x k news) (hr:δ.ob i=some .row) (ht:P.underlying t=some (.slice e))
  (hi:(P.info? e).map (fun i=>(i.size,i.zero,i.bytes))=some (k,some z,bytes)) (mK:aI z.cells.size k=true) (nh:aV 0 k=true) (ho:fk s=true) (gi:fk x=true) (hd:gb δ.n dst=true)
  (hb:(e7.length+news.length)*bytes≤140737488355328) (hl:e7.length+news.length≤140737488355328):
  je P g ⟨dst,.call {callee:=.builtin .append,args:= #[s,x],argTypes:= #[t,t]},ty,pos,af,gd⟩ δ ((δ.ib (AV.kill i)).eZ dst (.own i e k (e7++news))):=by
 intro κ a w r
 obtain⟨v',w',κ',h1,h2,h3⟩:=Cz (ty:=ty) r hr (r.ra hs ho).jt (hx.src r gi) ht hi (aJ mK) (by simpa using nh) hb hl
 exact .inl ⟨_,_,_,_,se h1,.inl rfl,h2.eZ (fE hd) (.own h3)⟩
theorem a_.append {s x:Operand} {t e:TypeId} {i k bytes:Nat} {z:Value} {e7 news:List (List PV)} (hs:δ.ev s=.own i e k e7) (hx:wk δ x k news) (hr:δ.ob i=some .row) (ht:P.underlying t=some (.slice e))
  (hi:(P.info? e).map (fun i=>(i.size,i.zero,i.bytes))=some (k,some z,bytes)) (mK:aI z.cells.size k=true) (nh:aV 0 k=true) (ho:fk s=true) (gi:fk x=true) (hd:gb δ.n dst=true)
  (hb:(e7.length+news.length)*bytes≤140737488355328) (hl:e7.length+news.length≤140737488355328)
  (hK:a_ .plain P g ops rest Q ((δ.ib (AV.kill i)).eZ dst (.own i e k (e7++news)))):a_ .plain P g ops (⟨dst,.call {callee:=.builtin .append,args:= #[s,x],argTypes:= #[t,t]},ty,pos,af,none⟩::rest) Q δ:=
 a_.vA rfl rfl (je.append hs hx hr ht hi mK nh ho gi hd hb hl) hK
theorem je.make {t e:TypeId} {x y:Operand} {kx ky:IntKind} {k bytes n:Nat} {z:Value} {c0:List PV} (hx:δ.ev x=.pv (.lit (.int kx (n:Int)))) (hy:δ.ev y=.pv (.lit (.int ky (n:Int)))) (ht:P.underlying t=some (.slice e))
  (hi:(P.info? e).map (fun i=>(i.size,i.zero,i.bytes))=some (k,some z,bytes)) (OI:z.cells.toList.map PV.lit=c0) (mK:aI z.cells.size k=true) (nh:aV 0 k=true) (h1:z.cells.toList.all (·.oneCell')=true)
  (ho:fk x=true) (gi:fk y=true) (hd:gb δ.n dst=true) (hb:bytes*n≤281474976710656) (hl:n≤140737488355328):
  je P g ⟨dst,.makeSlice t x y,ty,pos,af,gd⟩ δ ((δ.fM .row).eZ dst (.own δ.nx e k (bX n c0))):=by
 intro κ a w r
 have jN:0<k:=by simpa using nh
 have K3:z.cells.size=k:=aJ mK
 obtain⟨i0,mB,qo,Aw,GO⟩:∃i0,P.info? e=some i0∧i0.size=k∧i0.zero=some z∧i0.bytes=bytes:=by
  cases h:P.info? e with
  |none=>rw[h] at hi;simp at hi
  |some i0=>rw[h] at hi;simp at hi;exact⟨i0,rfl,hi.1,hi.2.1,hi.2.2⟩
 have Ju:(i0.bytes:Int)*(n:Int)≤281474976710656:=by
  rw[GO]
  have:((bytes*n:Nat):Int)≤281474976710656:=by omega
  rwa [Int.natCast_mul] at this
 have gQ:=run_make (P:=P) w t e i0 z ht mB Aw kx ky (n:Int) (n:Int) aG (Int.le_refl _) Ju (by omega)
 simp only[Int.toNat_natCast,qo] at gQ
 have Uc:(execOp a.eval ⟨dst,.makeSlice t x y,ty,pos,af,gd⟩).run P w=.ok (.value (.slice (some ⟨w.heap.size,0,none⟩) n n)) (w.alloc (.cells (madeCells z.cells (n*k)) e)):=by
  simp only[execOp,r.lit hx ho,r.lit hy gi,Sem.run_bind,gQ,Result.andThen_ok,Sem.run_pure]
 obtain⟨r',G⟩:=r.grow .row (.cells (madeCells z.cells (n*k)) e) (fun C G hκ b hb=>by
  have:w.heap.size=b:=Option.some.inj (hκ.symm.trans hb)
  subst this
  exact⟨_,e,heap_alloc_new w _⟩)
 have jD:=World.ownsRow_lit (base:=g.B) (e:=e) (size:=k) w (madeCells z.cells (n*k)) n r.hB (by simp only[maxLen];omega) (size_madeCells _ _)
 have Qv:∀t,t<n*k→∃hm:t % k<z.cells.size,(madeCells z.cells (n*k)).toList[t]? =some (z.cells[t % k]):=by
  intro t ht
  have hm:t % k<z.cells.size:=by rw[K3];exact bN _ jN
  refine⟨hm,?_⟩
  simp only[madeCells,bA,bL,bM,ht,if_true,bm,Option.some.injEq]
  rw[K3,getElem!_pos z.cells _ hm]
 refine .inl ⟨_,_,_,_,Uc,.inl rfl,r'.eZ (fE hd) (.own ?_)⟩
 refine⟨by show(δ.fM .row).ob _=_;rw[gh,if_pos rfl],by simpa using hl,fun c hc=>?_,fun b hb=>?_,_,by rw[List.length_replicate];exact jD,fun u hu=>?_,fun i' j p n9=>?_⟩
 ·rw[List.mem_replicate] at hc;rw[hc.2,← OI];simp [K3]
 ·simp only[Value.ownBlock,Option.some.injEq] at hb
  subst hb
  show ix _ _ _ _=_
  simp [ix]
 ·obtain⟨t,ht⟩:=bx hu
  have ft:t<n*k:=by have:=(aT.1 ht).1;simpa [size_madeCells] using this
  obtain⟨hm,h2⟩:=Qv t ft
  rw[h2] at ht
  cases ht
  exact(bB.1 h1) _ (by simp)
 ·unfold cellAt at n9
  rw[List.getElem?_replicate] at n9
  split at n9
  ·rename_i jS
   simp only[bG] at n9
   rw[← OI,aY,bc] at n9
   obtain⟨u,hu,rfl⟩:=n9
   have hj:j<k:=by have:=(aT.1 hu).1;rw[← K3];simpa using this
   have ft:i'*k+j<n*k:=by
    have:(i'+1)*k≤n*k:=bR k jS
    rw[bH,bI] at this;omega
   obtain⟨hm,h2⟩:=Qv _ ft
   refine⟨u,?_,.lit _⟩
   rw[h2]
   have:(i'*k+j) % k=j:=by rw[bQ,bS,bT hj]
   simp only[this]
   rw[bA] at hu
   exact(aK aG).symm.trans hu
  ·simp at n9
theorem a_.make {t e:TypeId} {x y:Operand} {kx ky:IntKind} {k bytes n:Nat} {z:Value} {c0:List PV} (hx:δ.ev x=.pv (.lit (.int kx (n:Int)))) (hy:δ.ev y=.pv (.lit (.int ky (n:Int)))) (ht:P.underlying t=some (.slice e))
  (hi:(P.info? e).map (fun i=>(i.size,i.zero,i.bytes))=some (k,some z,bytes)) (OI:z.cells.toList.map PV.lit=c0) (mK:aI z.cells.size k=true) (nh:aV 0 k=true) (h1:z.cells.toList.all (·.oneCell')=true)
  (ho:fk x=true) (gi:fk y=true) (hd:gb δ.n dst=true) (hb:bytes*n≤281474976710656) (hl:n≤140737488355328)
  (hK:a_ .plain P g ops rest Q ((δ.fM .row).eZ dst (.own δ.nx e k (bX n c0)))):a_ .plain P g ops (⟨dst,.makeSlice t x y,ty,pos,af,none⟩::rest) Q δ:=
 a_.vA rfl rfl (je.make hx hy ht hi OI mK nh h1 ho gi hd hb hl) hK
theorem a_.slice {t e:TypeId} {x:Operand} {lo hi:Option Operand} {k l h:Nat} {e7:List (List PV)} (hx:δ.ev x=.pv (.slice k e7)) (ht:P.underlying t=some (.slice e)) (hk:(P.info? e).map (·.size)=some k)
  (UF:match lo with|some y=>fk y=true∧δ.ev y=eU (l:Nat)|none=>l=0) (Tp:match hi with|some y=>fk y=true∧δ.ev y=eU (h:Nat)|none=>h=e7.length) (hlh:l≤h) (hh:h≤e7.length)
  (ho:fk x=true) (hd:gb δ.n dst=true) (hK:a_ q P g ops rest Q (δ.eZ dst (.pv (.slice k ((e7.drop l).take (h - l)))))):a_ q P g ops (⟨dst,.slice t x lo hi none,ty,pos,af,none⟩::rest) Q δ:=
 a_.jK _ hd (fun κ a w r=>by
  have h1:=(r.ra hx ho).kf
  generalize hv:a.eval x=v at h1
  obtain⟨i0,mB,nh⟩:∃i0,P.info? e=some i0∧i0.size=k:=by
   cases h:P.info? e with
   |none=>rw[h] at hk;simp at hk
   |some i0=>rw[h] at hk;exact⟨i0,rfl,by simpa using hk⟩
  cases h1 with
  | @slice a0 len cap _ _ b off vs hl p_ hb ha A7 hc hr=>
   have Zp:lo.map a.eval=lo.map fun _=>Value.int .i64 l:=by
    cases lo with
    |none=>rfl
    |some y=>simp only[bm,Option.some.injEq];exact r.lit UF.2 UF.1
   have ZL:hi.map a.eval=hi.map fun _=>Value.int .i64 h:=by
    cases hi with
    |none=>rfl
    |some y=>simp only[bm,Option.some.injEq];exact r.lit Tp.2 Tp.1
   have MV:∀w,(Instr.sliceBounds true len cap (lo.map a.eval) (hi.map a.eval) none).run P w=.ok (l,h,cap) w:=by
    intro w
    rw[Zp,ZL]
    have e1:(0:Int)≤(h:Int)∧(h:Int)≤(cap:Int):=by omega
    have e2:(0:Int)≤(l:Int)∧(l:Int)≤(h:Int):=by omega
    cases lo with
    |none=>
     simp only at UF
     subst UF
     cases hi with
     |none=>simp only at Tp;subst Tp;subst hl;simp [Instr.sliceBounds]
     |some y=>
      simp [Instr.sliceBounds,Instr.sliceBound,asIntOf,e1]
      intro h0;exfalso;omega
    |some y0=>
     cases hi with
     |none=>simp only at Tp;subst Tp;subst hl;simp [Instr.sliceBounds,Instr.sliceBound,asIntOf];omega
     |some y=>
      have n1:¬cap<h:=by omega
      have n2:¬h<l:=by omega
      simp [Instr.sliceBounds,Instr.sliceBound,asIntOf,n1,n2,show h≤cap by omega,show l≤h by omega]
   have gQ:∀w,(execOp a.eval ⟨dst,.slice t x lo hi none,ty,pos,af,none⟩).run P w=.ok (.value (.slice (if cap=l then a0 else a0.map (·.add (l*k))) (h - l) (cap - l))) w:=by
    intro w
    simp only[execOp,Instr.sliceAt,Instr.slice,run_underlying ht,hv,Sem.run_bind,Result.andThen_ok,Option.map_none,MV,sizeOf,typeInfo,Sem.run_pure]
    simp [mB,nh]
   refine⟨_,fun w' _=>gQ w',.pv ?_⟩
   have SH:((e7.drop l).take (h - l)).length=h - l:=by simp;omega
   have jZ:∀i j,cellAt ((e7.drop l).take (h - l)) i j=(if i<h - l then cellAt e7 (l+i) j else none):=by
    intro i j
    unfold cellAt
    rw[bC]
    split
    ·rw[bD]
    ·rfl
   refine .slice b (off+l*k) (fun i j=>vs (l+i) j) SH aG aG (fun gz=>?_) (fun c hc=>A7 c (bJ (List.mem_of_mem_take hc))) (fun i j p hp=>?_) (fun i j p hp=>?_)
   ·have Y_:e7≠ []:=by intro e;subst e;simp at gz
    obtain⟨h3,h4,h5⟩:=ha Y_
    have:¬cap=l:=by intro e;apply gz;apply bf;rw[SH];omega
    rw[if_neg this,h3]
    exact⟨by simp [iV],h4,h5⟩
   ·rw[jZ] at hp
    split at hp
    ·have h6:=hc (l+i) j p hp
     have e0:off+l*k+i*k+j=off+(l+i)*k+j:=by rw[bH];omega
     rw[e0];exact h6
    ·cases hp
   ·rw[jZ] at hp
    split at hp
    ·exact hr (l+i) j p hp
    ·cases hp) hK
end Go.Ab
