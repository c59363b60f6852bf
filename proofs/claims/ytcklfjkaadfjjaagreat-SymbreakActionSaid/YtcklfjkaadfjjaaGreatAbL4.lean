/- Maps from structs of three whole numbers to whole numbers. -/
import Derived.Test.YtcklfjkaadfjjaaGreatAbL3
import Derived.WideKeyRuns
import Derived.Test.YtcklfjkaadfjjaaGreatAbL2
import Derived.Laws.CopyRow
import Derived.Laws.IdiomCopy
import Derived.Lib.AppendStr
import Derived.Shelf.Spec.SlicesInsert
import Derived.Shelf.Spec.SlicesInsertGrow
import Derived.ArgAppend
set_option linter.unusedSimpArgs false
set_option linter.unusedVariables false
open Bool renaming and_eq_true→aW
open List renaming mem_cons→br,getElem?_append_right→aS,getElem?_append_left→aQ,mem_append→bW,mem_map→bt,map_map→ct,getElem?_take→bC,getElem?_drop→bD,range→a7,getElem?_map→aY,getElem?_range→bd,getElem_mem→cT,getElem?_eq_getElem→aZ,getElem?_eq_some_iff→aT,getElem?_of_mem→bx,take_of_length_le→cE,mem_of_mem_drop→bJ,mem_of_getElem?→aR,map_cons→bz,map_nil→bY,length_map→aX,eq_nil_of_length_eq_zero→bf,length_drop→cQ,ext_getElem?→cU,getElem?_eq_none→cB,map_append→cV,length_append→bV,getElem?_cons_succ→cW,getElem_cons_succ→cX,length_set→cL,length_cons→cb,length_nil→bU,size_toArray→cZ
open Array renaming getElem?_push→cr,getElem?_eq_some_iff→aL,getElem?_toList→bA,getElem?_eq_getElem→aK,size_append→cY,getElem?_append_left→cd
open Nat renaming blt→aV,le_refl→aM,mul_one→cG,add_zero→a8,le_trans→aN,beq→aI,lt_of_lt_of_le→aH,zero_add→a6,lt_irrefl→aU,ble→bu,eq_of_beq_eq_true→aJ,mul_comm→bQ
open Option renaming map_some→bm
open Int renaming toNat_of_nonneg→bZ
namespace Go.Ab
open Go Go.RowKit
variable {q:Md} {P:Program} {g:eY} {δ:DS} {κ:Kp} {a:Act} {w:World}
variable {gd:Option (Tmp×Bool)} {ops:Array Oper} {rest:List Oper} {Q:Exit→DS→Prop} {dst:Option Nat} {ty:TypeId} {pos:String} {af:Array Edge}
abbrev nO:=Int×Int×Int
def pw (k:nO):Value:=.agg #[.int .i64 k.1,.int .i64 k.2.1,.int .i64 k.2.2]
theorem xb {t:TypeId} (h:D2 P t=true):∃f0 f1 f2,P.underlying t=some (.struct #[f0,f1,f2])∧CA P f0 0=true∧CA P f1 1=true∧CA P f2 2=true∧P.stoodInHeld t=false:=by
 unfold D2 at h
 simp only[aW,Bool.not_eq_true'] at h
 obtain⟨⟨h,hs⟩,hg⟩:=h
 cases hu:P.underlying t with
 |none=>rw[hu] at h;cases h
 |some u=>
  rw[hu] at h
  cases u with
  |struct fs=>
   simp only at h
   match hl:fs.toList,h with
   |[f0,f1,f2],h=>
    simp only[aW] at h
    obtain⟨⟨h0,h1⟩,h2⟩:=h
    have G8:fs= #[f0,f1,f2]:=by apply Array.toList_inj.1;rw[hl]
    subst G8
    exact⟨f0,f1,f2,rfl,h0,h1,h2,hs⟩
   |[],h=>cases h
   |[_],h=>cases h
   |[_,_],h=>cases h
   |_::_::_::_::_,h=>cases h
  |_=>cases h
theorem Fg {t:TypeId} (h:D2 P t=true) (k k':nO) (w:World):(Op.equal t (pw k) (pw k')).run P w=.ok (decide (k=k')) w:=by
 obtain⟨f0,f1,f2,hu,h0,h1,h2,hs⟩:=xb h
 have Dp:P.fieldsOf t= #[f0,f1,f2]:=by unfold Program.fieldsOf;rw[hu]
 obtain⟨a1,a2,a3,a4⟩:=km h0
 obtain⟨b1,b2,b3,b4⟩:=km h1
 obtain⟨c1,c2,c3,c4⟩:=km h2
 obtain⟨m,n,k⟩:=k
 obtain⟨m',n',k'⟩:=k'
 have p0:∀m n k w,(part f0.type #[.int .i64 m,.int .i64 n,.int .i64 k] f0.offset).run P w=.ok (.int .i64 m) w:=fun m n k w=>kD a3 (by rw[a2];rfl) w
 have p1:∀m n k w,(part f1.type #[.int .i64 m,.int .i64 n,.int .i64 k] f1.offset).run P w=.ok (.int .i64 n) w:=fun m n k w=>kD b3 (by rw[b2];rfl) w
 have p2:∀m n k w,(part f2.type #[.int .i64 m,.int .i64 n,.int .i64 k] f2.offset).run P w=.ok (.int .i64 k) w:=fun m n k w=>kD c3 (by rw[c2];rfl) w
 have q0:=fun(a b:Int) w=>run_equalIn_int (P:=P) w 9998 f0.type .i64 .i64 a b a4
 have q1:=fun(a b:Int) w=>run_equalIn_int (P:=P) w 9998 f1.type .i64 .i64 a b b4
 have q2:=fun(a b:Int) w=>run_equalIn_int (P:=P) w 9998 f2.type .i64 .i64 a b c4
 show(Op.equalIn 10000 t (.agg #[.int .i64 m,.int .i64 n,.int .i64 k]) (.agg #[.int .i64 m',.int .i64 n',.int .i64 k'])).run P w=_
 rw[run_equalIn_struct w 9999 t _ _ (by rw[Dp];exact hu) hs,Dp]
 simp only[Op.eqFields,a1,b1,c1,ne_eq,not_false_eq_true,if_true,Sem.run_bind,p0,p1,p2,q0,q1,q2,Result.andThen_ok]
 by_cases e0:m=m'
 ·by_cases e1:n=n'
  ·by_cases e2:k=k'
   ·simp [e0,e1,e2,p0,p1,p2,q0,q1,q2]
   ·simp [e0,e1,e2,p0,p1,p2,q0,q1,q2]
  ·simp [e0,e1,p0,p1,p2,q0,q1,q2]
 ·simp [e0]
theorem xS {t:TypeId} (h:D2 P t=true) (k:nO) (e:Bool) (w:World):(Instr.checkKey e 10000 t (pw k)).run P w=.ok () w:=by
 obtain⟨f0,f1,f2,hu,h0,h1,h2,hs⟩:=xb h
 obtain⟨a1,a2,a3,a4⟩:=km h0
 obtain⟨b1,b2,b3,b4⟩:=km h1
 obtain⟨c1,c2,c3,c4⟩:=km h2
 obtain⟨m,n,k⟩:=k
 have p0:∀m n k w,(part f0.type #[.int .i64 m,.int .i64 n,.int .i64 k] f0.offset).run P w=.ok (.int .i64 m) w:=fun m n k w=>kD a3 (by rw[a2];rfl) w
 have p1:∀m n k w,(part f1.type #[.int .i64 m,.int .i64 n,.int .i64 k] f1.offset).run P w=.ok (.int .i64 n) w:=fun m n k w=>kD b3 (by rw[b2];rfl) w
 have p2:∀m n k w,(part f2.type #[.int .i64 m,.int .i64 n,.int .i64 k] f2.offset).run P w=.ok (.int .i64 k) w:=fun m n k w=>kD c3 (by rw[c2];rfl) w
 have q0:∀(d:Nat) v w,(Instr.checkKey e (d+1) f0.type (.int .i64 v)).run P w=.ok () w:=fun d v w=>by rw[Instr.checkKey];simp [run_underlying a4]
 have q1:∀(d:Nat) v w,(Instr.checkKey e (d+1) f1.type (.int .i64 v)).run P w=.ok () w:=fun d v w=>by rw[Instr.checkKey];simp [run_underlying b4]
 have q2:∀(d:Nat) v w,(Instr.checkKey e (d+1) f2.type (.int .i64 v)).run P w=.ok () w:=fun d v w=>by rw[Instr.checkKey];simp [run_underlying c4]
 show(Instr.checkKey e (9999+1) t (.agg #[.int .i64 m,.int .i64 n,.int .i64 k])).run P w=_
 rw[Instr.checkKey]
 generalize hd:(9999:Nat)=d
 obtain⟨d',rfl⟩:∃d',d=d'+1:=⟨9998,hd.symm⟩
 clear hd
 simp [run_underlying hu,a1,b1,c1,p0,p1,p2,q0,q1,q2,Sem.run_bind]
def mV:List (nO×Int)→nO→Int
 |[],_=>0
 |(k,v)::l,m=>if m=k then v else mV l m
def tf (l:List (nO×Int)):List (Value×AV):=l.map fun p=>(pw p.1,eU p.2)
theorem Bg (l:List (nO×Int)) (k:nO) (v:Int):tf (l++ [(k,v)])=tf l++ [(pw k,eU v)]:=by simp [tf]
theorem mz.Lt {C:Cx} {w:World} {es:Array MapEntry} {l:List (nO×Int)} (h:mz C w es (tf l)):es.size=l.length∧∀(j:Nat) (e:MapEntry) (p:nO×Int),es[j]? =some e→l[j]? =some p→e.key=pw p.1∧e.val=.int .i64 p.2:=by
 refine⟨by simpa [tf] using h.1,fun j e p h1 h2=>?_⟩
 obtain⟨h3,h4⟩:=h.2 j e (pw p.1,eU p.2) h1 (by simp [tf,h2])
 exact⟨h3,h4.lit⟩
theorem tg {kt:TypeId} (ht:D2 P kt=true) (m:nO) (w:World):∀(es:List MapEntry) (l:List (nO×Int)) (i:Nat),es.length=l.length→(∀(j:Nat) (e:MapEntry) (p:nO×Int),es[j]? =some e→l[j]? =some p→e.key=pw p.1∧e.val=.int .i64 p.2)→
  ((Instr.findAsking kt (pw m) es i).run P w=.ok none w∧mV l m=0∧∀p∈l,p.1≠m)∨(∃i',(Instr.findAsking kt (pw m) es i).run P w=.ok (some (i',.int .i64 (mV l m))) w∧∃p∈l,p.1=m)
 |[],[],i,_,_=> .inl ⟨by simp [Instr.findAsking],rfl,by intro p h;cases h⟩
 |[],_::_,_,h,_=>by simp at h
 |_::_,[],_,h,_=>by simp at h
 |e::es,(k,v)::l,i,h,hs=>by
  obtain⟨h1,h2⟩:=hs 0 e (k,v) rfl rfl
  have ih:=tg ht m w es l (i+1) (by simpa using h) fun j e p h3 h4=>hs (j+1) e p (by simpa using h3) (by simpa using h4)
  have hq:=Fg ht m k w
  by_cases hk:m=k
  ·subst hk
   refine .inr ⟨i,?_,(m,v),by simp,rfl⟩
   rw[decide_eq_true rfl] at hq
   simp [Instr.findAsking,Sem.run_bind,h1,h2,hq,mV]
  ·have hl:mV ((k,v)::l) m=mV l m:=by simp [mV,hk]
   rw[hl]
   rw[decide_eq_false hk] at hq
   have hf:(Instr.findAsking kt (pw m) (e::es) i).run P w=(Instr.findAsking kt (pw m) es (i+1)).run P w:=by simp [Instr.findAsking,Sem.run_bind,h1,hq]
   rw[hf]
   rcases ih with ⟨h3,h4,h5⟩|⟨i',h3,p,h4,h5⟩
   ·refine .inl ⟨h3,h4,fun p hp=>?_⟩
    rcases br.1 hp with rfl|hp
    ·exact fun e=>hk e.symm
    ·exact h5 p hp
   ·exact .inr ⟨i',h3,p,by simp [h4],h5⟩
theorem PU {kt:TypeId} (ht:D2 P kt=true):(match P.underlying kt with|some (.array _ _)|some (.struct _)=>true|_=>false)=true:=by
 obtain⟨f0,f1,f2,hu,_⟩:=xb ht
 rw[hu]
theorem a_.JW {x y:Operand} {t kt et:TypeId} {i:Nat} {l:List (nO×Int)} {a b c:Int} (hx:δ.ev x=.gH i) (jo:δ.ob i=some (.mp (tf l))) (hy:δ.ev y=.agg [eU a,eU b,eU c]) (ht:P.underlying t=some (.map kt et)) (hk:D2 P kt=true) (hz:(P.info? et).bind (·.zero)=some (.int .i64 0))
  (ho:fk x=true) (gi:fk y=true) (hd:gb δ.n dst=true) (hK:a_ q P g ops rest Q (δ.eZ dst (eU (mV l (a,b,c))))):a_ q P g ops (⟨dst,.lookup t x y false,ty,pos,af,none⟩::rest) Q δ:=
 a_.jK _ hd (fun κ ac w r=>by
  obtain⟨bl,es,clock,h1,h2,h3,h4,h5,It⟩:=r.W6 (r.ra hx ho) jo
  obtain⟨h6,h7⟩:=h4.Lt
  have hb:∀w',mb δ κ w w'→w'.heap[bl]? =some (.map es clock):=fun w' ly=>(ly bl (iM h3) (r.BA ⟨_,jo,rfl⟩ h2)).trans h3
  have Er:∀w,(zeroValue et).run P w=.ok (.int .i64 0) w:=fun w=>by
   cases hi:P.info? et with
   |none=>rw[hi] at hz;simp at hz
   |some i=>rw[hi] at hz;simp at hz;simp [zeroValue,typeInfo,hi,hz]
  refine⟨.int .i64 (mV l (a,b,c)),fun w' ly=>?_,.pv (.lit _)⟩
  have AB:=hb w' ly
  have PW:ac.eval y=pw (a,b,c):=r.OZ hy gi
  have M_:=fun e=>xS hk (a,b,c) e w'
  have Oi:=run_findKey_eq (P:=P) w' (PU hk) (pw (a,b,c)) es.toList
  rcases tg hk (a,b,c) w' es.toList l 0 (by simpa using h6) (fun j e p h8 h9=>h7 j e p (by simpa using h8) h9) with ⟨h8,h9,_⟩|⟨i',h8,_⟩
  ·rw[h8] at Oi
   simp [execOp,PW,h1,Instr.lookup,run_underlying ht,MapKept.run_getObj_map AB,M_,Oi,Er,h9]
  ·rw[h8] at Oi
   simp [execOp,PW,h1,Instr.lookup,run_underlying ht,MapKept.run_getObj_map AB,M_,Oi]) hK
theorem je.qW {x y z:Operand} {t kt et:TypeId} {i:Nat} {l:List (nO×Int)} {a b c v:Int} (hx:δ.ev x=.gH i) (jo:δ.ob i=some (.mp (tf l))) (hy:δ.ev y=.agg [eU a,eU b,eU c]) (hz:δ.ev z=eU v) (ht:P.underlying t=some (.map kt et)) (hk:D2 P kt=true)
  (ho:fk x=true) (gi:fk y=true) (s8:fk z=true) (hd:gb δ.n dst=true) (MZ:g.nP i) (hn:(a,b,c)∉l.map (·.1)):
  je P g ⟨dst,.mapUpdate t x y z,ty,pos,af,gd⟩ δ ((δ.gl i (some (.mp (tf (l++ [((a,b,c),v)]))))).eZ dst .any):=by
 intro κ ac w r
 obtain⟨bl,es,clock,h1,h2,h3,h4,h5,It⟩:=r.W6 (r.ra hx ho) jo
 obtain⟨h6,h7⟩:=h4.Lt
 have PW:ac.eval y=pw (a,b,c):=r.OZ hy gi
 have M_:=fun e=>xS hk (a,b,c) e w
 have Oi:=run_findKey_eq (P:=P) w (PU hk) (pw (a,b,c)) es.toList
 rcases tg hk (a,b,c) w es.toList l 0 (by simpa using h6) (fun j e p h8 h9=>h7 j e p (by simpa using h8) h9) with ⟨h8,h9,wm⟩|⟨i',h8,p,h9,wm⟩
 ·rw[h8] at Oi
  have gQ:(execOp ac.eval ⟨dst,.mapUpdate t x y z,ty,pos,af,gd⟩).run P w=.ok .skip {w with heap:=w.heap.setIfInBounds bl (.map (es.push {key:=pw (a,b,c),val:=.int .i64 v,born:=clock}) (clock+1))}:=by
   simp [execOp,PW,r.lit hz s8,h1,Instr.mapUpdate,run_underlying ht,MapKept.run_getObj_map h3,M_,Oi,MapKept.run_setObj_map _ h3]
  obtain⟨r',G⟩:=r.modify (o':=.mp (tf (l++ [((a,b,c),v)]))) jo rfl rfl h2 MZ (gm.wC w bl (.map (es.push {key:=pw (a,b,c),val:=.int .i64 v,born:=clock}) (clock+1))) (by simp) (fun C hC G=>by
   refine⟨bl,_,_,by rw[hC];exact h2,ni h3,⟨by rw[Bg];simp [h6,tf],fun j e p wD Jq=>?_⟩,⟨by simp [h5.1],fun j e wD=>?_⟩,fun p hp=>?_⟩
   ·rw[Bg] at Jq
    rw[cr] at wD
    by_cases hj:j=es.size
    ·rw[if_pos hj] at wD
     cases wD
     rw[aS (by simp [tf];omega)] at Jq
     have e0:j - (tf l).length=0:=by simp [tf];omega
     rw[e0] at Jq
     simp at Jq
     subst Jq
     exact⟨rfl,.pv (.lit _)⟩
    ·rw[if_neg hj] at wD
     have ft:j<es.size:=(aL.1 wD).1
     rw[aQ (by simp [tf];omega)] at Jq
     obtain⟨Xg,B4⟩:=h4.2 j e p wD Jq
     exact⟨Xg,G.ra B4⟩
   ·rw[cr] at wD
    by_cases hj:j=es.size
    ·rw[if_pos hj] at wD;cases wD;rw[hj];exact h5.1
    ·rw[if_neg hj] at wD;exact h5.2 j e wD
   ·rw[Bg] at hp
    rcases bW.1 hp with hp|hp
    ·exact It p hp
    ·simp at hp;subst hp;rfl)
  exact .inl ⟨_,_,_,_,gQ,.inr ⟨rfl,rfl⟩,r'.eZ (fE hd) (.any _)⟩
 ·exact absurd (bt.2 ⟨p,h9,wm⟩) hn
theorem a_.qW {x y z:Operand} {t kt et:TypeId} {i:Nat} {l:List (nO×Int)} {a b c v:Int} (hx:δ.ev x=.gH i) (jo:δ.ob i=some (.mp (tf l))) (hy:δ.ev y=.agg [eU a,eU b,eU c]) (hz:δ.ev z=eU v) (ht:P.underlying t=some (.map kt et)) (hk:D2 P kt=true)
  (ho:fk x=true) (gi:fk y=true) (s8:fk z=true) (hd:gb δ.n dst=true) (jz:g.wt=none) (hn:(a,b,c)∉l.map (·.1))
  (hK:a_ .plain P g ops rest Q ((δ.gl i (some (.mp (tf (l++ [((a,b,c),v)]))))).eZ dst .any)):a_ .plain P g ops (⟨dst,.mapUpdate t x y z,ty,pos,af,none⟩::rest) Q δ:=
 a_.vA rfl rfl (je.qW hx jo hy hz ht hk ho gi s8 hd (lZ jz i) hn) hK
theorem WO.vals {δ δ':DS} {i:Nat} {l:List (nO×Int)} (h:δ.ob i=some (.mp (tf l))):WO δ δ' i (.mp (tf l)):=.mp h fun p hp=>by
 obtain⟨x,_,rfl⟩:=bt.1 hp
 rfl
theorem WO.DT {δ δ':DS} {i:Nat} {l l':List (nO×Int)} (h:δ.ob i=some (.mp (tf l))) (he:l=l'):WO δ δ' i (.mp (tf l')):=he▸ .vals h
theorem WO.Qr {δ δ':DS} {i:Nat} {l:List (nO×Int)} (h:δ.ob i=some (.mp (mx []))) (he:l=[]):WO δ δ' i (.mp (tf l)):=by
 subst he
 exact .mp h fun p hp=>by cases hp
theorem swV (a b:Nat) (l:List (nO×Int)):Ob.sw a b (.mp (tf l))=.mp (tf l):=by
 show Ob.mp ((l.map fun p=>(pw p.1,eU p.2)).map fun p=>(p.1,p.2.sw a b))=Ob.mp (l.map fun p=>(pw p.1,eU p.2))
 rw[ct]
 rfl
theorem WO.Wv {δ δ':DS} {i:Nat} {l:List (nO×Int)} (a b:Nat) (h:δ.ob i=some (Ob.sw a b (.mp (tf l)))):WO δ δ' i (.mp (tf l)):=WO.vals (by rw[h,swV])
end Go.Ab
/- Maps from whole numbers to slices:elder entries told whole,the last one over a row of the walk's own. -/
namespace Go.Ab
open Go Go.RowKit
variable {q:Md} {P:Program} {g:eY} {δ:DS} {κ:Kp} {a:Act} {w:World}
variable {gd:Option (Tmp×Bool)} {ops:Array Oper} {rest:List Oper} {Q:Exit→DS→Prop} {dst:Option Nat} {ty:TypeId} {pos:String} {af:Array Edge}
def GJ (D:List (Int×List Int)):List (Int×AV):=D.map fun p=>(p.1,.pv (ints p.2))
theorem J_ (D:List (Int×List Int)) (A B:Nat→Bool):∀p∈mx (GJ D),p.2.ids A B=true:=by
 intro p hp
 simp only[mx,GJ,ct,bt] at hp
 obtain⟨x,_,rfl⟩:=hp
 rfl
theorem WO.rows {δ δ':DS} {i:Nat} {D:List (Int×List Int)} (h:δ.ob i=some (.mp (mx (GJ D)))):WO δ δ' i (.mp (mx (GJ D))):=.mp h (J_ D _ _)
theorem lD.sw (i j:Nat) {δ δ':DS} (jz:g.wt=none) (hi:aV i δ.nx=true) (hj:aV j δ.nx=true) (h:lD g (δ.sw i j) δ'):lD g δ δ':=
 fun _ a w r=>h _ a w (r.sw i j (by simpa using hi) (by simpa using hj) (fun k hk=>by rw[jz] at hk;cases hk))
theorem AW.Yz (i:Nat) {c:Code} (hi:δ.ob i=some .row) (hK:AW P g c Q (qk δ i)):AW P g c Q δ:=by
 intro κ a w r
 obtain⟨κ',r'⟩:=r.freeze hi
 exact hK κ' a w r'
section
variable {k:Wt} {late:List Nat} {l:List Oper} {dn:List Nat} {QD:Exit→DS→Prop}
theorem AR.RX {i j m:Nat} {o p q:Oper} (hl:aV dn.length l.length=true) (hr:(lA (ja l.length dn) 0 l==[i,j,m])=true) (ho:l[i]? =some o) (hp:l[j]? =some p) (hq:l[m]? =some q) (ft:Az late (ja l.length (m::dn))=true)
  (h:∀g':eY,Gs g' g→(∀j,k.2.2≤j→g'.nP j)→a_ .plain P g' l.toArray [o] (ji (AR P g k late l QD (i::dn))) δ)
  (h':∀g':eY,Gs g' g→(∀j,k.2.2≤j→g'.nP j)→a_ .plain P g' l.toArray [p] (ji (AR P g k late l QD (j::dn))) δ)
  (h'':∀g':eY,Gs g' g→g'.wt=none→a_ .plain P g' l.toArray [q] (ji (AR P g k late l QD (m::dn))) δ):AR P g k late l QD dn δ:=
 AR.all hl (mf hr) (by simp) fun i' jS=>by
  have hw:∀i',∀j,k.2.2≤j→(A9 g k late (gN l.length (i'::dn))).nP j:=by
   intro i' j hj k' jN
   have:(if iq late (gN l.length (i'::dn))=true then none else some k)=some k':=jN
   split at this
   ·cases this
   ·cases this;exact hj
  simp only[br,List.not_mem_nil,or_false] at jS
  rcases jS with rfl|rfl|rfl
  ·exact⟨o,ho,h _ ⟨rfl,rfl,rfl⟩ (hw _)⟩
  ·exact⟨p,hp,h' _ ⟨rfl,rfl,rfl⟩ (hw _)⟩
  ·exact⟨q,hq,h'' _ ⟨rfl,rfl,rfl⟩ (if_pos (by rw[tx];exact ft))⟩
end
end Go.Ab
/- The builtin copy into a row of the walk's own,of one-cell elements. -/
namespace Go.Ab
open Go Go.RowKit
variable {P:Program} {g:eY} {δ:DS} {κ:Kp} {a:Act} {w:World}
variable {ops:Array Oper} {rest:List Oper} {Q:Exit→DS→Prop} {dst:Option Nat} {ty:TypeId} {pos:String} {af:Array Edge} {gd:Option (Tmp×Bool)}
def copied {α:Type} (src e7:List α):List α:=src.take (min src.length e7.length)++e7.drop (min src.length e7.length)
theorem pR {α:Type} (src e7:List α):(copied src e7).length=e7.length:=by unfold copied;simp;omega
theorem FQ {α:Type} {src e7:List α} {i:Nat} (h:i<e7.length):(copied src e7)[i]? =if i<src.length then src[i]? else e7[i]?:=by
 unfold copied
 by_cases hi:i<src.length
 ·rw[if_pos hi,aQ (by simp;omega),bC,if_pos aG]
 ·rw[if_neg hi,aS (by simp;omega),bD]
  congr 1
  simp;omega
theorem je.copy {dT sT elem:TypeId} (ts:List Nat) {x y:Operand} {i:Nat} {e:TypeId} {e7 src:List (List PV)} (hx:δ.ev x=.own i e 1 e7) (hy:δ.ev y=.pv (.slice 1 src)) (M5:Al δ (.own i e 1 e7) ts) (hr:δ.ob i=some .row)
  (hu:P.underlying dT=some (.slice elem)) (mX:(P.info? elem).map (·.size)=some 1) (ho:fk x=true) (gi:fk y=true) (hd:gb δ.n dst=true):
  je P g ⟨dst,.call {callee:=.builtin .copy,args:= #[x,y],argTypes:= #[dT,sT]},ty,pos,af,none⟩ δ ((jJ (δ.ib (AV.kill i)) (.own i e 1 (copied src e7)) ts).eZ dst (eU (min src.length e7.length:Nat))):=by
 intro κ a w r
 left
 have M6:=(r.ra hx ho).jt
 have FN:=(r.ra hy gi).kf
 have Fy:gb (jJ (δ.ib (AV.kill i)) (.own i e 1 (copied src e7)) ts).n dst=true:=by rw[CC];exact hd
 have nF:∀t∈ts,jB (δ.cx g κ) w (g.val a t) i e 1 e7:=fun t ht=>by
  have:=r.env t
  rw[rD M5 t ht] at this
  exact this.jt
 have oy:((δ.ib (AV.kill i)).cx g κ).Lr i:=by
  show(δ.ib (AV.kill i)).ob i=some .row
  rw[kj,hr];rfl
 obtain⟨n,hn⟩:∃n,n=min src.length e7.length:=⟨_,rfl⟩
 generalize Nc:a.eval y=yv at FN
 cases FN with
 | @slice sa len scap _ _ sb soff vs hl p_ hb ha hk hc P_=>
  subst hl
  have Uz:n=0→(∃v w',(execOp a.eval ⟨dst,.call {callee:=.builtin .copy,args:= #[x,y],argTypes:= #[dT,sT]},ty,pos,af,none⟩).run P w=.ok (.value v) w'∧Rel g ((jJ (δ.ib (AV.kill i)) (.own i e 1 (copied src e7)) ts).eZ dst (eU (n:Nat))) κ (a.put dst v) w'):=by
   intro h0
   obtain⟨xs0,hown0⟩:=M6.row
   obtain⟨sa',sc',Na⟩:=M6.inv
   have gQ:=run_copy_none (P:=P) w dT sT ty elem sa' sa e7.length sc' src.length scap hu mX (show Nat.min src.length e7.length=0 by show min src.length e7.length=0;omega)
   refine⟨goInt 0,w,?_,?_⟩
   ·simp [execOp,resolve,invoke,builtin,Na,Nc,gQ,Result.andThen]
   ·obtain⟨rk,G⟩:=r.row hr (κ':=κ) (w':=w) (fun _ _=>rfl) ⟨rfl,rfl,rfl,aM _,fun _ _ _=>rfl⟩ (fun b js=>by
     obtain⟨c,e',h1⟩:=r.obj i .row hr b js
     exact⟨.inl js,(aL.1 h1).1,c,e',h1⟩) (AV.kill i) rfl (fun G v av h=>h.kill G)
    have sQ:copied src e7=e7:=by unfold copied;rw[← hn,h0];simp
    have ra:Rel g (jJ (δ.ib (AV.kill i)) (.own i e 1 (copied src e7)) ts) κ a w:=rk.qI ts fun t ht=>by
     have h1:=nF t ht
     rw[sQ]
     obtain⟨xs,h3,h4,h5⟩:=h1.row
     exact .own ⟨oy,h1.lim,h1.hk,h1.yD,xs,h3,h4,fun i' j p hp=>let ⟨u,h6,h7⟩:=h5 i' j p hp;⟨u,h6,G.rp (C:=(δ.cx g κ).less i) h7⟩⟩
    rw[h0]
    exact ra.eZ (fE Fy) (by rw[ny];exact .pv (.lit _))
  rw[← hn]
  by_cases h0:n=0
  ·obtain⟨v,w',h1,h2⟩:=Uz h0
   exact⟨_,v,w',κ,h1,.inl rfl,h2⟩
  ·obtain⟨xs,⟨F9,hX⟩,tk,jZ⟩:=M6.row
   rw[cG] at F9
   rcases hX with ⟨_,hz⟩|⟨b,cap,c,hv,hB,QO,hcp,yS,sE,yH⟩
   ·omega
   ·have hκ:κ i=some b:=M6.yD b (by rw[hv];rfl)
    rw[cG] at sE yH
    obtain⟨hsa,hNb,GM⟩:=ha (by rintro rfl;simp at hn;omega)
    subst hsa
    obtain⟨cs,TL⟩:∃cs,cs=(a7 n).map fun j=>vs j 0:=⟨_,rfl⟩
    have nt:cs.length=n:=by rw[TL];simp
    have WT:∀j,j<n→cs[j]? =some (vs j 0):=fun j hj=>by rw[TL,aY,bd hj];rfl
    have TH:∀j,j<n→∃p,cellAt src j 0=some p:=fun j hj=>by
     have ql:j<src.length:=by omega
     have:=hk _ (cT ql)
     have h1:0<src[j].length:=by omega
     exact⟨src[j][0],by simp [cellAt,aZ ql,aZ h1]⟩
    have gQ:=run_copy_row (P:=P) w dT sT ty elem b 0 e7.length cap ⟨sb,soff,none⟩ src.length scap c e cs hu mX QO (by rw[nt];exact hn) (fun j v hj=>by
      have M8:j<n:=by have:=(aT.1 hj).1;omega
      rw[WT j M8] at hj
      cases hj
      obtain⟨p,hp⟩:=TH j M8
      have:=(hc j 0 p hp).1
      rw[iV]
      simpa using this) aG (fun v Qi=>by
      obtain⟨j,hj⟩:=bx Qi
      have M8:j<n:=by have:=(aT.1 hj).1;omega
      rw[WT j M8] at hj
      cases hj
      obtain⟨p,hp⟩:=TH j M8
      exact(hc j 0 p hp).2)
    obtain⟨nw,Ts⟩:∃nw:List Value,nw=c.toList.take 0++cs++c.toList.drop (0+cs.length):=⟨_,rfl⟩
    have We:nw=cs++c.toList.drop n:=by rw[Ts,nt];simp
    rw[← Ts] at gQ
    have hh:(w.setRow b nw.toArray).heap[b]? =some (.cells nw.toArray e (0,0)):=setRow_heap w b c nw.toArray e (0,0) QO
    have hT:gm w (w.setRow b nw.toArray) (κ i):=by
     rw[hκ]
     exact⟨rfl,rfl,rfl,by simp [World.setRow],fun k _ gz=>setRow_other w b k _ (fun e'=>gz (by rw[e']))⟩
    obtain⟨rk,G⟩:=r.row hr (κ':=κ) (fun _ _=>rfl) hT (fun b' js=>by
     obtain rfl:b=b':=Option.some.inj (hκ.symm.trans js)
     exact⟨.inl hκ,(aL.1 hh).1,_,_,hh⟩) (AV.kill i) rfl (fun G v av h=>h.kill G)
    have hxn:nw.take e7.length=cs++xs.drop n:=by
     rw[We,List.take_append,nt]
     congr 1
     ·exact cE (by omega)
     ·rw[← yH,List.drop_take]
    have ra:Rel g (jJ (δ.ib (AV.kill i)) (.own i e 1 (copied src e7)) ts) κ a (w.setRow b nw.toArray):=rk.qI ts fun t ht=>by
     obtain⟨h1,h2,h3,h4,xs',⟨O5,sf⟩,_,_⟩:=nF t ht
     refine .own ⟨oy,by rw[pR];exact h2,fun d uh=>?_,h4,cs++xs.drop n,⟨?_,?_⟩,fun u Sw=>?_,fun i' j p hp=>?_⟩
     ·unfold copied at uh
      rcases bW.1 uh with uh|uh
      ·exact hk d (List.mem_of_mem_take uh)
      ·exact h3 d (bJ uh)
     ·rw[pR,cG];simp;omega
     ·rw[pR]
      rcases sf with ⟨hn',hz⟩|⟨b',cap',c',Qi,hB',Rg,ZO,L5,S7,YD⟩
      ·omega
      ·have Em:κ i=some b':=h4 b' (by rw[Qi];rfl)
       obtain rfl:b=b':=Option.some.inj (hκ.symm.trans Em)
       rw[QO] at Rg
       simp only[Option.some.injEq,Obj.cells.injEq] at Rg
       obtain⟨rfl,_⟩:=Rg
       have Xc:nw.length=c.size:=by rw[We];simp;omega
       refine .inr ⟨b,cap',nw.toArray,Qi,hB',hh,ZO,L5,by simp;omega,?_⟩
       rw[cG,List.toList_toArray];exact hxn
     ·rcases bW.1 Sw with Sw|Sw
      ·obtain⟨j,hj⟩:=bx Sw
       have M8:j<n:=by have:=(aT.1 hj).1;omega
       rw[WT j M8] at hj
       cases hj
       obtain⟨p,hp⟩:=TH j M8
       exact(hc j 0 p hp).2
      ·exact tk u (bJ Sw)
     ·have zV:i'<e7.length:=by
       unfold cellAt at hp
       cases hq:(copied src e7)[i']? with
       |none=>rw[hq] at hp;simp at hp
       |some q=>have:=(aT.1 hq).1;rw[pR] at this;exact this
      have n9:cellAt (if i'<src.length then src else e7) i' j=some p:=by
       unfold cellAt at hp ⊢
       rw[FQ zV] at hp
       split at hp
       ·rename_i h;rw[if_pos h];exact hp
       ·rename_i h;rw[if_neg h];exact hp
      by_cases GA:i'<src.length
      ·rw[if_pos GA] at n9
       have TG:j=0:=by
        unfold cellAt at n9
        rw[aZ GA] at n9
        have h6:=hk _ (cT GA)
        have:=(aT.1 n9).1
        omega
       subst TG
       have nf:i'<n:=by omega
       refine⟨vs i' 0,?_,G.rp (C:=(δ.cx g κ).less i) (P_ i' 0 p n9)⟩
       rw[cG,a8,aQ aG,WT i' nf]
      ·rw[if_neg GA] at n9
       obtain⟨u,h6,h7⟩:=jZ i' j p n9
       have TG:j=0:=by
        unfold cellAt at n9
        rw[aZ zV] at n9
        have h8:=M6.hk _ (cT zV)
        have:=(aT.1 n9).1
        omega
       subst TG
       refine⟨u,?_,G.rp (C:=(δ.cx g κ).less i) h7⟩
       rw[cG,a8] at h6 ⊢
       rw[aS aG,bD,nt,← h6]
       congr 1;omega
    refine⟨.value (goInt n),goInt n,w.setRow b nw.toArray,κ,?_,.inl rfl,ra.eZ (fE Fy) (by rw[ny];exact .pv (.lit _))⟩
    rw[nt] at gQ
    simp [execOp,resolve,invoke,builtin,hv,Nc,gQ,Result.andThen]
theorem a_.copy {dT sT elem:TypeId} (ts:List Nat) {x y:Operand} {i:Nat} {e:TypeId} {e7 src:List (List PV)} (hx:δ.ev x=.own i e 1 e7) (hy:δ.ev y=.pv (.slice 1 src)) (M5:Al δ (.own i e 1 e7) ts) (hr:δ.ob i=some .row)
  (hu:P.underlying dT=some (.slice elem)) (mX:(P.info? elem).map (·.size)=some 1) (ho:fk x=true) (gi:fk y=true) (hd:gb δ.n dst=true)
  (hK:a_ .plain P g ops rest Q ((jJ (δ.ib (AV.kill i)) (.own i e 1 (copied src e7)) ts).eZ dst (eU (min src.length e7.length:Nat)))):
  a_ .plain P g ops (⟨dst,.call {callee:=.builtin .copy,args:= #[x,y],argTypes:= #[dT,sT]},ty,pos,af,none⟩::rest) Q δ:=a_.vA rfl rfl (je.copy ts hx hy M5 hr hu mX ho gi hd) hK
theorem J5 {α:Type} {f:α→List PV} (hf:∀x,∃u,f x=[.lit u]) (l:List α):∀c∈l.map f,∀p∈c,∃u,p=PV.lit u:=by
 intro c hc p hp
 obtain⟨x,_,rfl⟩:=bt.1 hc
 obtain⟨u,hu⟩:=hf x
 rw[hu] at hp
 simp at hp
 exact⟨u,hp⟩
theorem a_.S4 {f:FuncId} {xs:List Operand} {tys:Array TypeId} {args:List AV} {e:TypeId} {k:Nat} {e7:List (List PV)} (hf:Qb P f args e k e7) (gA:∀c∈e7,∀p∈c,∃u,p=PV.lit u) (gp:rV true δ xs args) (hd:gb δ.n dst=true)
  (hK:a_ .plain P g ops rest Q ((δ.fM .row).eZ dst (.own δ.nx e k e7))):a_ .plain P g ops (⟨dst,.call {callee:=.value (.func f),args:=xs.toArray,argTypes:=tys},ty,pos,af,none⟩::rest) Q δ:=by
 intro κ a w r0
 show wpListIn _ _ P ops _ (_::rest) a w
 refine iu rfl rfl fun K rf=>?_
 unfold Oper.AL
 rw[mD (f:=f) rfl hf.enters,Oper.uponIn_enter]
 refine⟨fun h=>by simp at h,(kb (hf.calls (fun _=>True) w _ (fun _ _=>trivial) (by simp [gp.len]) (gp.Vf r0 (fun _ _ _=>trivial) (fun _ _ _ _ _=>trivial)))).mono ?_⟩
 rintro en w' ⟨v,rfl,hb,hv⟩
 have Hu:∀b,v.ownBlock=some b→w.heap.size≤b∧b<w'.heap.size∧∃c e,w'.heap[b]? =some (.cells c e (0,0)):=by
  intro b D0
  obtain⟨xs,⟨_,hX⟩,_⟩:=hv.row
  rcases hX with ⟨rfl,_⟩|⟨b0,cap,cur,rfl,h1,h2,_⟩
  ·cases D0
  ·cases D0
   exact⟨h1,(aL.1 h2).1,cur,e,h2⟩
 obtain⟨r1,G⟩:=r0.FH hb v.ownBlock Hu
 refine rf _ _ (hK _ _ _ (r1.eZ (fE hd) (.own ?_)))
 obtain⟨xs,⟨F9,hX⟩,h1,hx⟩:=hv.row
 refine⟨by show(δ.fM .row).ob _=_;rw[gh,if_pos rfl],hv.lim,hv.hk,fun b D0=>by show ix _ _ _ _=_;simp [ix,D0],xs,⟨F9,?_⟩,h1,fun i' j p hp=>?_⟩
 ·rcases hX with h|⟨b0,cap,cur,h2,h3,h4⟩
  ·exact .inl h
  ·exact .inr ⟨b0,cap,cur,h2,aN r0.hB h3,h4⟩
 ·obtain⟨u,hu,hr⟩:=hx i' j p hp
  refine⟨u,hu,?_⟩
  unfold cellAt at hp
  cases hq:e7[i']? with
  |none=>rw[hq] at hp;simp at hp
  |some q=>
   rw[hq] at hp
   obtain⟨u',Sw⟩:=gA q (aR hq) p (aR hp)
   subst Sw
   cases hr
   exact .lit _
end Go.Ab
/- An index into an own row of any form. -/
namespace Go.Ab
open Go Go.RowKit
variable {q:Md} {P:Program} {g:eY} {δ:DS} {ops:Array Oper} {rest:List Oper} {Q:Exit→DS→Prop} {dst:Option Nat} {ty:TypeId} {pos:String} {af:Array Edge}
end Go.Ab
/- The last bit of a number turned;objects renumbered ahead of a region. -/
namespace Go.Ab
open Go Go.RowKit
variable {P:Program} {g:eY} {δ:DS} {q:Md}
variable {ops:Array Oper} {rest:List Oper} {Q:Exit→DS→Prop} {dst:Option Nat} {ty:TypeId} {pos:String} {af:Array Edge}
def CF (m:Int):Int:=if m % 2=0 then m+1 else m - 1
theorem KZ (n:Nat):n ^^^ 1=if n % 2=0 then n+1 else n - 1:=by
 have h1:(n ^^^ 1) / 2=n / 2 ^^^ 1 / 2:=Nat.xor_div_two
 have h2:=Nat.xor_mod_two_eq_one (a:=n) (b:=1)
 rw[show(1:Nat) / 2=0 from rfl,Nat.xor_zero] at h1
 split<;>omega
theorem KJ (t:TypeId) (x y:Operand) (m:Int) (h0:0≤m) (h1:m<1000000000000) (w:World):
  (do eqGuard .xor t x y (.int .i64 m) (.int .i64 1);Go.binOp .xor t (.int .i64 m) (.int .i64 1):Sem Value).run P w=.ok (.int .i64 (CF m)) w:=by
 have h3:(eqGuard .xor t x y (.int .i64 m) (.int .i64 1)).run P w=.ok () w:=by
  unfold eqGuard
  simp [Sem.run,pure,Sem.bind,bind]
 have h2:Go.binOp .xor t (.int .i64 m) (.int .i64 1)=.pure (.int .i64 (CF m)):=by
  obtain⟨n,rfl⟩:∃n:Nat,m=n:=⟨m.toNat,by omega⟩
  have hx:(BitVec.ofInt 64 (n:Int) ^^^ BitVec.ofInt 64 1).toNat=n ^^^ 1:=by
   rw[BitVec.toNat_xor,BitVec.toNat_ofInt,BitVec.toNat_ofInt]
   congr 1
   omega
  have hw:IntKind.wrap .i64 ((n ^^^ 1:Nat):Int)=CF n:=by
   have e:((n ^^^ 1:Nat):Int)=CF n:=by
    rw[KZ]
    unfold CF
    split<;>split<;>omega
   rw[e]
   exact IntWalk.i64_in _ (by unfold CF;split<;>omega)
  show Op.intBits .xor .i64 _ _=_
  unfold Op.intBits
  show(pure (Value.int .i64 (IntKind.wrap .i64 ((BitVec.ofInt 64 (n:Int) ^^^ BitVec.ofInt 64 1).toNat:Int))):Sem Value)=_
  rw[hx,hw]
  rfl
 simp only[Sem.run_bind,h3,Result.andThen_ok,h2]
 rfl
theorem a_.Z4 {x y:Operand} {t t':TypeId} {m:Int} (hx:δ.ev x=eU m) (hy:δ.ev y=eU 1) (ho:fk x=true) (gi:fk y=true) (hd:gb δ.n dst=true) (h0:0≤m∧m<1000000000000)
  (hK:a_ q P g ops rest Q (δ.eZ dst (eU (CF m)))):a_ q P g ops (⟨dst,.binOp .xor t x y t',ty,pos,af,none⟩::rest) Q δ:=
 a_.bin hx hy ho gi (KJ _ _ _ _ h0.1 h0.2) hd hK
theorem a_.Dz {fn:Go.Fn} {x:Operand} {u1:AV} (hx:δ.ev x=u1) (ho:fk x=true) (hd:gb δ.n dst=true) (hK:a_ q P g ops rest Q (δ.eZ dst (.jd fn [u1] []))):a_ q P g ops (⟨dst,.makeFunc fn #[x] #[],ty,pos,af,none⟩::rest) Q δ:=
 a_.jK _ hd (fun κ a w r=>⟨.func fn #[a.eval x] #[],fun w' _=>by simp [execOp,Instr.makeFunc],.jd rfl (fun j u c h1 h2=>by
  match j with
  |0=>simp at h1 h2;subst h1;subst h2;exact r.ra hx ho
  |j+1=>simp at h2) rfl (fun j u c h=>by simp at h)⟩) hK
theorem AW.swP (id t j i:Nat) {b:Bool} {l:Array Oper} {cc:Code} (jz:g.wt=none) (_h:δ.ev (.tmp t)=.ptr j 0) (hi:aV i δ.nx=true) (hj:aV j δ.nx=true) (hK:AW P g ((Code.region id l b).seq cc) Q (δ.sw i j)):AW P g ((Code.region id l b).seq cc) Q δ:=
 AW.e_ (lD.sw i j jz hi hj (fun κ a w r=>⟨κ,r⟩)) hK
end Go.Ab
/- v,is:=m[k] over a map whose entries are told one by one. -/
namespace Go.Ab
open Go Go.RowKit
variable {q:Md} {P:Program} {g:eY} {δ:DS} {ops:Array Oper} {rest:List Oper} {Q:Exit→DS→Prop} {dst:Option Nat} {ty:TypeId} {pos:String} {af:Array Edge}
theorem AW.EV {c:Operand} {x y:Code} {b:Bool} (ho:fk c=true) (hc:δ.ev c=fe b) (hb:b=true) (h1:AW P g x Q δ):AW P g (.cond c x y) Q δ:=AW.L0 hb ho hc h1
theorem AW.Et {c:Operand} {x y:Code} {b:Bool} (ho:fk c=true) (hc:δ.ev c=fe b) (hb:b=false) (h1:AW P g y Q δ):AW P g (.cond c x y) Q δ:=AW.L2 hb ho hc h1
end Go.Ab
/- Eight values laid out. -/
namespace Go.Ab
open Go Go.RowKit
variable {q:Md} {P:Program} {g:eY} {δ:DS} {κ:Kp} {a:Act} {w:World}
variable {ops:Array Oper} {rest:List Oper} {Q:Exit→DS→Prop} {dst:Option Nat} {ty:TypeId} {pos:String} {af:Array Edge}
theorem je.Zt {gd:Option (Tmp×Bool)} {t e:TypeId} {z:Value} {x0 x1 x2 x3 x4 x5 x6 x7:Operand} {p0 p1 p2 p3 p4 p5 p6 p7:PV} (ht:P.underlying t=some (.slice e)) (h0:δ.ev x0=.pv p0) (h1:δ.ev x1=.pv p1) (h2:δ.ev x2=.pv p2) (h3:δ.ev x3=.pv p3) (h4:δ.ev x4=.pv p4) (h5:δ.ev x5=.pv p5) (h6:δ.ev x6=.pv p6) (h7:δ.ev x7=.pv p7) (hi:(P.info? e).map (fun i=>(i.size,i.zero))=some (1,some z)) (hz:z.cells.toList.all (·.oneCell')=true) (mK:aI z.cells.size 1=true) (k0:AV.one (.pv p0)=true) (k1:AV.one (.pv p1)=true) (k2:AV.one (.pv p2)=true) (k3:AV.one (.pv p3)=true) (k4:AV.one (.pv p4)=true) (k5:AV.one (.pv p5)=true) (k6:AV.one (.pv p6)=true) (k7:AV.one (.pv p7)=true) (o0:fk x0=true) (o1:fk x1=true) (o2:fk x2=true) (o3:fk x3=true) (o4:fk x4=true) (o5:fk x5=true) (o6:fk x6=true) (o7:fk x7=true) (hd:gb δ.n dst=true):je P g ⟨dst,.buildSlice t 8 [(0,x0),(1,x1),(2,x2),(3,x3),(4,x4),(5,x5),(6,x6),(7,x7)].toArray,ty,pos,af,gd⟩ δ ((δ.fM .row).eZ dst (.own δ.nx e 1 [[p0],[p1],[p2],[p3],[p4],[p5],[p6],[p7]])):=by
 have hf:iN (fun i=>some (i*1,1)) (jb z (8*1)) (([(0,x0),(1,x1),(2,x2),(3,x3),(4,x4),(5,x5),(6,x6),(7,x7)]:List (Nat×Operand)).map fun p=>(p.1,δ.ev p.2))=some [.pv p0,.pv p1,.pv p2,.pv p3,.pv p4,.pv p5,.pv p6,.pv p7]:=by
  simp [iN,lk,AV.cellsOf,AV.mE,jb,h0,h1,h2,h3,h4,h5,h6,h7,k0,k1,k2,k3,k4,k5,k6,k7,bz,bY]<;>rfl
 exact je.buildSlice (len:=8) (k:=1) (parts:=[(0,x0),(1,x1),(2,x2),(3,x3),(4,x4),(5,x5),(6,x6),(7,x7)]) (cells:=[.pv p0,.pv p1,.pv p2,.pv p3,.pv p4,.pv p5,.pv p6,.pv p7]) ht hi mK rfl rfl hz (by simp [o0,o1,o2,o3,o4,o5,o6,o7]) hf (by simp [AV.xw]) hd
theorem a_.Zt {t e:TypeId} {z:Value} {x0 x1 x2 x3 x4 x5 x6 x7:Operand} {p0 p1 p2 p3 p4 p5 p6 p7:PV} (ht:P.underlying t=some (.slice e)) (h0:δ.ev x0=.pv p0) (h1:δ.ev x1=.pv p1) (h2:δ.ev x2=.pv p2) (h3:δ.ev x3=.pv p3) (h4:δ.ev x4=.pv p4) (h5:δ.ev x5=.pv p5) (h6:δ.ev x6=.pv p6) (h7:δ.ev x7=.pv p7) (hi:(P.info? e).map (fun i=>(i.size,i.zero))=some (1,some z)) (hz:z.cells.toList.all (·.oneCell')=true) (mK:aI z.cells.size 1=true) (k0:AV.one (.pv p0)=true) (k1:AV.one (.pv p1)=true) (k2:AV.one (.pv p2)=true) (k3:AV.one (.pv p3)=true) (k4:AV.one (.pv p4)=true) (k5:AV.one (.pv p5)=true) (k6:AV.one (.pv p6)=true) (k7:AV.one (.pv p7)=true) (o0:fk x0=true) (o1:fk x1=true) (o2:fk x2=true) (o3:fk x3=true) (o4:fk x4=true) (o5:fk x5=true) (o6:fk x6=true) (o7:fk x7=true) (hd:gb δ.n dst=true) (hK:a_ .plain P g ops rest Q ((δ.fM .row).eZ dst (.own δ.nx e 1 [[p0],[p1],[p2],[p3],[p4],[p5],[p6],[p7]]))):a_ .plain P g ops (⟨dst,.buildSlice t 8 [(0,x0),(1,x1),(2,x2),(3,x3),(4,x4),(5,x5),(6,x6),(7,x7)].toArray,ty,pos,af,none⟩::rest) Q δ:=a_.vA rfl rfl (je.Zt ht h0 h1 h2 h3 h4 h5 h6 h7 hi hz mK k0 k1 k2 k3 k4 k5 k6 k7 o0 o1 o2 o3 o4 o5 o6 o7 hd) hK
end Go.Ab
/- Values of interface type,type switches;a string appended to a row of bytes. -/
namespace Go.Ab
open Go Go.RowKit
variable {q:Md} {P:Program} {g:eY} {δ:DS} {κ:Kp} {a:Act} {w:World}
variable {ops:Array Oper} {rest:List Oper} {Q:Exit→DS→Prop} {dst:Option Nat} {ty:TypeId} {pos:String} {af:Array Edge}
section ints
variable {x y:Operand} {t t':TypeId} {m n:Int} {k:IntKind} (hx:δ.ev x=.pv (.lit (.int k m))) (hy:δ.ev y=.pv (.lit (.int k n))) (ho:fk x=true) (gi:fk y=true) (hd:gb δ.n dst=true)
include hx hy ho gi hd
end ints
end Go.Ab
/- Any number of values of one cell laid out. -/
namespace Go.Ab
open Go Go.RowKit
variable {q:Md} {P:Program} {g:eY} {δ:DS} {κ:Kp} {a:Act} {w:World}
variable {ops:Array Oper} {rest:List Oper} {Q:Exit→DS→Prop} {dst:Option Nat} {ty:TypeId} {pos:String} {af:Array Edge}
inductive Wz (δ:DS):Nat→List (Nat×Operand)→List PV→Prop
 |nil {i:Nat}:Wz δ i [] []
 |cons {i:Nat} {x:Operand} {p:PV} {ps:List PV} {r:List (Nat×Operand)} (h:δ.ev x=.pv p) (h1:AV.one (.pv p)=true) (ho:fk x=true) (hr:Wz δ (i+1) r ps):Wz δ i ((i,x)::r) (p::ps)
theorem Wz.ok {δ:DS} {i:Nat} {parts:List (Nat×Operand)} {ps:List PV} (h:Wz δ i parts ps):parts.all (fun p=>fk p.2)=true:=by
 induction h with
 |nil=>rfl
 |cons h h1 ho hr ih=>simp [ho,ih]
end Go.Ab
/- Pools:rows of one-cell values,reached by slices that are told whole. -/
namespace Go.Ab
open Go Go.RowKit
variable {q:Md} {P:Program} {g:eY} {δ:DS} {κ:Kp} {a:Act} {w:World}
variable {ops:Array Oper} {rest:List Oper} {Q:Exit→DS→Prop} {dst:Option Nat} {ty:TypeId} {pos:String} {af:Array Edge} {gd:Option (Tmp×Bool)}
abbrev qf:=Nat→Value×List Value
def nk (rows:qf) (k:Nat) (p:Value×List Value):qf:=fun j=>if j=k then p else rows j
def jR (n:Nat):Value→Value
 |.slice (some ⟨b,o,x⟩) _ _=> .pointer (some ⟨b,o+n,x⟩)
 |v=>v
theorem sn {w:World} {B:Nat} {e:TypeId} {sz:Nat} {v:Value} {n:Nat} {xs:List Value} (h:w.ownsRow B e sz v n xs) {b:Nat} (hb:v.ownBlock=some b):∃cur,w.heap[b]? =some (.cells cur e (0,0))∧B≤b:=by
 rcases h.2 with ⟨rfl,_⟩|⟨b',cap,cur,rfl,h1,h2,_⟩
 ·cases hb
 ·cases hb;exact⟨cur,h2,h1⟩
theorem DS.L3 {δ:DS} {i:Nat} {o o':Ob} (ho:δ.ob i=some o) (j:Nat):(δ.gl i (some o')).live j↔δ.live j:=by
 unfold DS.live
 rw[iG]
 by_cases e:i=j
 ·subst e;simp [ho]
 ·simp [e]
theorem Rel.z7 (r:Rel g δ κ a w) {i:Nat} {e:PT} {rows:qf} (ho:δ.ob i=some (.fm e rows)) {k:Nat} {w':World} (t:gm w w' (rows k).1.ownBlock) {v':Value} {ys:List Value}
  (hX:w'.ownsRow g.B e.t e.k v' (nK e ys) ys) (hl:ys.length≤140737488355328) (h1:∀u∈ys,u.oneCell'=true) (il:∀b,v'.ownBlock=some b→(rows k).1.ownBlock=some b∨w.heap.size≤b):
  ∃κ',Rel g (δ.gl i (some (.fm e (nk rows k (v',ys))))) κ' a w'∧j6 (δ.cx g κ) w ((δ.gl i (some (.fm e (nk rows k (v',ys))))).cx g κ') w':=by
 obtain⟨CX,tK,Cn⟩:=r.obj i _ ho
 have hi:δ.live i:=⟨_,ho⟩
 have hF:∀kk b,(rows kk).1.ownBlock=some b→κ.F i b:=fun kk b hb=>(tK kk).2.2.1 b hb
 have TD:∀b,κ.Fs b→b<w.heap.size:=fun b hb=>r.fr.Da hb
 have fH:=fun j=>DS.L3 (o':=.fm e (nk rows k (v',ys))) ho j
 have oy:∀j,(δ.gl i (some (.fm e (nk rows k (v',ys))))).lr j↔δ.lr j:=by
  intro j
  unfold DS.lr
  rw[iG]
  by_cases e':i=j
  ·subst e';rw[if_pos rfl,ho];simp
  ·simp [e']
 have uu:∀j,δ.lb j→(δ.gl i (some (.fm e (nk rows k (v',ys))))).lb j:=by
  rintro j ⟨o,h2,h3⟩
  unfold DS.lb
  rw[iG]
  by_cases e':i=j
  ·subst e';rw[if_pos rfl];exact⟨_,rfl,rfl⟩
  ·rw[if_neg e'];exact⟨o,h2,h3⟩
 have pz:∀b,b<w.heap.size→¬(rows k).1.ownBlock=some b→w'.heap[b]? =w.heap[b]?:=fun b h2 h3=>t.block b h2 h3
 have WZ:∀b,b<w.heap.size→¬κ.Fs b→w'.heap[b]? =w.heap[b]?:=fun b h2 h3=>pz b h2 fun h4=>h3 ⟨i,hF k b h4⟩
 have hv'lt:∀b,v'.ownBlock=some b→b<w'.heap.size∧g.B≤b:=fun b hb=>let ⟨_,h2,h3⟩:=sn hX hb;⟨iM h2,h3⟩
 let κ':Kp:=⟨κ.f,fun j b=>κ.F j b∨(j=i∧v'.ownBlock=some b)⟩
 have hold:∀j b,κ'.F j b→b<w.heap.size→κ.F j b:=by
  rintro j b (h2|⟨rfl,h2⟩) h3
  ·exact h2
  ·rcases il b h2 with h4|h4
   ·exact hF k b h4
   ·omega
 have G:j6 (δ.cx g κ) w ((δ.gl i (some (.fm e (nk rows k (v',ys))))).cx g κ') w':=
  {B:=rfl,size:=t.size
   N:=fun b h2 h3=>⟨⟨⟨h3.1.1,fun⟨j,hj⟩=>h3.1.2 ⟨j,hold j b hj h2⟩⟩,fun j hj=>h3.2 j ((fH j).1 hj)⟩,WZ b h2 h3.1.2⟩
   Lr:=fun j hj=>⟨(oy j).2 hj,rfl,fun b hb=>WZ b (r.lo j b (DS.iw hj) hb).2 (r.fr.kZ (DS.iw hj) hb)⟩
   Lb:=fun j hj=>⟨uu j hj,rfl⟩}
 refine⟨κ',?_,G⟩
 exact
  {n:=r.n
   dfr:=r.dfr.kY fun b _ hb=>pz b (iM hb) fun h2=>by
    obtain⟨cur,h3,_⟩:=sn (tK k).1 h2
    rw[hb] at h3;cases h3
   env:=fun j=>G.ra (r.env j)
   obj:=fun j x h=>by
    rw[iG] at h
    by_cases e':i=j
    ·subst e'
     rw[if_pos rfl] at h
     cases h
     refine⟨CX,fun kk=>?_,fun k1 k2 b h2 h3=>?_⟩
     ·unfold nk
      by_cases hk:kk=k
      ·rw[if_pos hk];exact⟨hX,hl,fun b hb=> .inr ⟨rfl,hb⟩,h1⟩
      ·rw[if_neg hk]
       exact(tK kk).kY rfl fun b hb h2 h3=>⟨.inl h2,pz b h3 fun h4=>hk (Cn kk k b hb h4)⟩
     ·unfold nk at h2 h3
      by_cases we:k1=k
      ·by_cases yx:k2=k
       ·rw[we,yx]
       ·rw[if_pos we] at h2
        rw[if_neg yx] at h3
        rcases il b h2 with h4|h4
        ·exact we.trans (Cn k k2 b h4 h3)
        ·exact absurd (TD b ⟨i,hF k2 b h3⟩) (by omega)
      ·by_cases yx:k2=k
       ·rw[if_neg we] at h2
        rw[if_pos yx] at h3
        rcases il b h3 with h4|h4
        ·exact(Cn k1 k b h2 h4).trans yx.symm
        ·exact absurd (TD b ⟨i,hF k1 b h2⟩) (by omega)
       ·rw[if_neg we] at h2
        rw[if_neg yx] at h3
        exact Cn k1 k2 b h2 h3
    ·rw[if_neg e'] at h
     exact(r.obj j x h).kY G rfl (fun b hb=>WZ b (r.lo j b ⟨x,h⟩ hb).2 (r.fr.kZ ⟨x,h⟩ hb)) fun b h2 h3=>⟨.inl h2,pz b h3 fun h4=>e' ((r.fr.2 j b h2).2.2.2.2 i (hF k b h4))⟩
   inj:=fun i' j b h2 h3=>r.inj i' j b ((fH i').1 h2) ((fH j).1 h3)
   lo:=fun j b h2 h3=>by have:=r.lo j b ((fH j).1 h2) h3;exact⟨this.1,aH this.2 t.size⟩
   nx:=fun j h=>r.nx j ((fH j).1 h)
   wt:=fun kk hk=>⟨fun b hb=>⟨((r.wt kk hk).1 b hb).1,(pz b (r9 ((r.wt kk hk).1 b hb)) (fun h4=>(r.fr.2 i b (hF k b h4)).1.2 kk hk hb)).trans ((r.wt kk hk).1 b hb).2⟩,fun j b hj uR=>(r.wt kk hk).2 j b ((fH j).1 hj) (uR.imp (oy j).1 id)⟩
   below:=r.tb t (fun b hb=>(r.fr.2 i b (hF k b hb)).1.1)
   hB:=aN r.hB t.size
   N0:=r.N0
   kI:=r.kI
   fr:=by
    refine⟨fun b hb=>?_,fun j b hb=>?_⟩
    ·obtain⟨h2,h3,h4⟩:=r.fr.1 b hb
     refine⟨h2,(WZ b (r.fr.NZ hb) fun⟨j,hj⟩=>(r.fr.2 j b hj).2.2.1 hb).trans h3,fun j hj=>h4 j ((fH j).1 hj)⟩
    ·have T3:κ.F j b∨(j=i∧v'.ownBlock=some b∧w.heap.size≤b):=by
      rcases hb with h2|⟨rfl,h2⟩
      ·exact .inl h2
      ·rcases il b h2 with h3|h3
       ·exact .inl (hF k b h3)
       ·exact .inr ⟨rfl,h2,h3⟩
     rcases T3 with h2|⟨rfl,h2,h3⟩
     ·obtain⟨h4,h5,h6,h7,h8⟩:=r.fr.2 j b h2
      exact⟨h4,aH h5 t.size,h6,fun j' ql=>h7 j' ((fH j').1 ql),fun j' ql=>h8 j' (hold j' b ql h5)⟩
     ·refine⟨⟨(hv'lt b h2).2,fun kk hk hb=>by have:=r9 ((r.wt kk hk).1 b hb);omega⟩,(hv'lt b h2).1,fun h4=>?_,fun j' ql h4=>?_,fun j' ql=>?_⟩
      ·have:=r.fr.NZ h4;omega
      ·have:=r.lo j' b ((fH j').1 ql) h4;omega
      ·rcases ql with h4|⟨rfl,_⟩
       ·have:=TD b ⟨j',h4⟩;omega
       ·rfl}
theorem tS (r:Rel g δ κ a w) {i:Nat} {e:TypeId} {rows:qf} (ho:δ.ob i=some (.fm e rows)) (k:Nat):w.ownsRow g.B e 1 (rows k).1 (rows k).2.length (rows k).2:=((r.obj i _ ho).2.1 k).1
theorem Ov (r:Rel g δ κ a w) {i:Nat} {e:PT} {rows:qf} (ho:δ.ob i=some (.fm e rows)) {k b:Nat} (hb:(rows k).1.ownBlock=some b):b<w.heap.size∧∀j,δ.lr j→κ j≠some b:=by
 have hF:=((r.obj i _ ho).2.1 k).2.2.1 b hb
 exact⟨r.fr.Da ⟨i,hF⟩,fun j hj e=>r.fr.kZ (DS.iw hj) e ⟨i,hF⟩⟩
end Go.Ab
/- Pools:slices of a row,append,rows taken in,a new pool. -/
namespace Go.Ab
open Go Go.RowKit
variable {q:Md} {P:Program} {g:eY} {δ:DS} {κ:Kp} {a:Act} {w:World}
variable {ops:Array Oper} {rest:List Oper} {Q:Exit→DS→Prop} {dst:Option Nat} {ty:TypeId} {pos:String} {af:Array Edge} {gd:Option (Tmp×Bool)}
def L9 (m:Nat):Value→Value
 |.slice (some ⟨b,o,x⟩) n c=> .slice (some (if c=m then ⟨b,o,x⟩ else ⟨b,o+m,x⟩)) (n - m) (c - m)
 |v=>v
theorem JV {C:Cx} {w:World} {v:Value} {us:List Value} (h:Src C w v 1 (us.map fun u=>[.lit u])):∃xa xc,v=.slice xa us.length xc∧(us.length≠0→∃ad,xa=some ad∧∀(j:Nat) (u:Value),us[j]? =some u→w.cell? (ad.add j)=some u)∧∀u∈us,u.oneCell'=true:=by
 obtain⟨mP,hk,xa,xc,hv,hx⟩:=h
 rw[aX] at hv
 have hc:∀(j:Nat) (u:Value),us[j]? =some u→cellAt (us.map fun u=>[PV.lit u]) j 0=some (.lit u):=fun j u hu=>by simp [cellAt,hu]
 refine⟨xa,xc,hv,fun h0=>?_,fun u hu=>?_⟩
 ·obtain⟨b,off,vs,rfl,h1⟩:=hx (by intro h;simp at h;exact h0 (by simp [h]))
  refine⟨_,rfl,fun j u hu=>?_⟩
  obtain⟨h2,_,h3⟩:=h1 j 0 _ (hc j u hu)
  have:vs j 0=u:=(RA.pv (C:=C) h3).lit
  rw[this,cG,a8] at h2
  rw[iV];exact h2
 ·obtain⟨j,hj⟩:=bx hu
  obtain⟨b,off,vs,rfl,h1⟩:=hx (by intro h;simp at h;subst h;simp at hu)
  obtain⟨_,h2,h3⟩:=h1 j 0 _ (hc j u hj)
  have:vs j 0=u:=(RA.pv (C:=C) h3).lit
  rw[← this];exact h2
inductive OX (δ:DS) (x:Operand):List Value→Prop
 |src {us:List Value} {e7:List (List PV)} (h:wk δ x 1 e7) (he:e7=us.map fun u=>[.lit u]):OX δ x us
 |tail {i k m:Nat} {e:TypeId} {rows:qf} {H:Value} {ys:List Value} (ho:δ.ob i=some (.fm e rows)) (hk:rows k=(H,ys)) (hm:m≤ys.length) (h:δ.ev x=.pv (.lit (L9 m H))) (gz:ys≠ []):OX δ x (ys.drop m)
theorem OX.at {x:Operand} {us:List Value} (h:OX δ x us) (r:Rel g δ κ a w) (wu:fk x=true):∃xa xc,a.eval x=.slice xa us.length xc∧(us.length≠0→∃ad,xa=some ad∧∀(j:Nat) (u:Value),us[j]? =some u→w.cell? (ad.add j)=some u)∧∀u∈us,u.oneCell'=true:=by
 cases h with
 |src h he=>subst he;exact JV (h.src r wu)
 | @tail i k m e rows H ys ho hk hm h gz=>
  have h0:=tS r ho k
  have M1:=((r.obj i _ ho).2.1 k).2.2.2
  rw[hk] at h0 M1
  simp only at h0 M1
  have hv:a.eval x=L9 m H:=r.lit h wu
  rcases h0.2 with ⟨h1,h2⟩|⟨b,cap,cur,h1,_,h3,hle,_,sE,yH⟩
  ·exact absurd (bf h2) gz
  ·subst h1
   rw[cG] at yH
   refine⟨_,_,by rw[hv,cQ];rfl,fun h4=>⟨_,rfl,fun j u hu=>?_⟩,fun u hu=>M1 u (bJ hu)⟩
   rw[cQ] at h4
   rw[if_neg aG,iV,cell_of h3]
   rw[bD] at hu
   have ft:=(aT.1 hu).1
   rw[← yH,bC,if_pos ft] at hu
   rw[a6,← bA];exact hu
end Go.Ab
/- Pools:a row of the walk's own taken in;a shorter slice;a new pool. -/
namespace Go.Ab
open Go Go.RowKit
variable {q:Md} {P:Program} {g:eY} {δ:DS} {κ:Kp} {a:Act} {w:World}
variable {ops:Array Oper} {rest:List Oper} {Q:Exit→DS→Prop}
theorem oo.zY {C C':Cx} {w w':World} {i j:Nat} {o:Ob} (G:j6 (C.less i) w C' w') (hκ:C'.κ j=C.κ j) (hb:∀b,C.κ j=some b→w'.heap[b]? =w.heap[b]?) (hP:∀b,C.κ.F j b→b<w.heap.size→C'.κ.F j b∧w'.heap[b]? =w.heap[b]?) (h:oo C w j o):oo C' w' j (o.xq (AV.kill i)):=by
 cases o with
 |row=>
  intro b js
  rw[hκ] at js
  obtain⟨c,e,h1⟩:=h b js
  exact⟨c,e,(hb b js).trans h1⟩
 |box cs=>
  obtain⟨b,c,e,h1,h2,h3,h4⟩:=h
  refine⟨b,c,e,hκ.trans h1,(hb b h1).trans h2,by simpa using h3,fun k u av h5 h6=>?_⟩
  simp only[aY,Option.map_eq_some_iff] at h6
  obtain⟨av',h6,rfl⟩:=h6
  exact⟨(h4 k u av' h5 h6).1.kill G,(h4 k u av' h5 h6).2⟩
 |mp l=>
  obtain⟨b,es,clock,h1,h2,h3,h4⟩:=h
  refine⟨b,es,clock,hκ.trans h1,(hb b h1).trans h2,⟨h3.1,fun k e p h5 h6=>?_⟩,h4⟩
  exact⟨(h3.2 k e p h5 h6).1,G.ra ((h3.2 k e p h5 h6).2.less (h4.2 p (aR h6)))⟩
 |mpl l kk v=>
  obtain⟨b,es,clock,h1,h2,h3,h4⟩:=h
  refine⟨b,es,clock,hκ.trans h1,(hb b h1).trans h2,?_,h4⟩
  exact h3.last (fun u p hp h=>G.ra (h.less (h4.2 p hp))) (fun u h=>h.kill G)
 |it l seen=>
  obtain⟨b,h1,h2⟩:=h
  exact⟨b,hκ.trans h1,h2.mono G.size G.N (hb b h1)⟩
 |lit T vals=>
  obtain⟨b,h1,h2⟩:=h
  exact⟨b,hκ.trans h1,(hb b h1).trans h2⟩
 |fm e rows=>exact⟨hκ.trans h.1,fun k=>(h.2.1 k).kY G.B fun b _ hF ft=>hP b hF ft,h.2.2⟩
 |loop l tm ps iQ body st=>
  obtain⟨b,lr,h1,h2,h3⟩:=h
  exact⟨b,lr,hκ.trans h1,(hb b h1).trans h2,h3⟩
theorem Rel.sH (r:Rel g δ κ a w) {i j k t:Nat} {e:TypeId} {rows:qf} {us:List Value} {e7:List (List PV)} (ho:δ.ob i=some (.fm e rows)) (hj:δ.ob j=some .row) (ht:δ.get t=.own j e 1 e7) (he:e7=us.map fun u=>[.lit u]) (hk:(rows k).1=.slice none 0 0):
  ∃v κ',Rel g (((δ.ib (AV.kill j)).gl i (some (.fm e (nk rows k (v,us))))).put t (.pv (.lit v))) κ' a w:=by
 subst he
 have Ad:i≠j:=by rintro rfl;rw[ho] at hj;cases hj
 have yG:δ.live j:=⟨_,hj⟩
 have B7:δ.live i:=⟨_,ho⟩
 have hv:=r.env t
 rw[ht] at hv
 have hv:=hv.jt
 generalize Y4:g.val a t=v at hv
 obtain⟨CX,tK,Cn⟩:=r.obj i _ ho
 obtain⟨xs,hX,TE,QW⟩:=hv.row
 have mP:=hv.lim
 rw[aX] at hX mP
 have Gy:xs=us:=by
  apply cU
  intro n
  by_cases hn:n<us.length
  ·obtain⟨u,h1,h2⟩:=QW n 0 (.lit us[n]) (by simp [cellAt,hn])
   rw[cG,a8] at h1
   rw[h1,aZ hn]
   cases h2;rfl
  ·have:=hX.1
   rw[cB aG,cB aG]
 subst Gy
 have B5:∀b,v.ownBlock=some b→κ j=some b:=fun b hb=>hv.yD b hb
 let κ':Kp:=⟨(ix κ j none).f,fun n b=>κ.F n b∨(n=i∧v.ownBlock=some b)⟩
 let δ1:=(δ.ib (AV.kill j)).gl i (some (.fm e (nk rows k (v,xs))))
 have jo:∀n,δ1.ob n=if i=n then some (.fm e (nk rows k (v,xs))) else (δ.ob n).map (Ob.xq (AV.kill j)):=fun n=>by
  show((δ.ib (AV.kill j)).gl i _).ob n=_
  rw[iG,kj]
 have fH:∀n,δ1.live n↔δ.live n:=by
  intro n
  unfold DS.live
  rw[jo]
  by_cases h:i=n
  ·subst h;simp [ho]
  ·rw[if_neg h];cases δ.ob n<;>simp
 have oy:∀n,δ1.lr n↔δ.lr n:=by
  intro n
  unfold DS.lr
  rw[jo]
  by_cases h:i=n
  ·subst h;simp [ho]
  ·rw[if_neg h]
   cases δ.ob n with
   |none=>simp
   |some o=>cases o<;>simp [Ob.xq]
 have uu:∀n,δ.lb n→δ1.lb n:=by
  rintro n ⟨o,h1,h2⟩
  unfold DS.lb
  rw[jo]
  by_cases h:i=n
  ·rw[if_pos h];exact⟨_,rfl,rfl⟩
  ·rw[if_neg h,h1];exact⟨_,rfl,by cases o<;>simp_all [Ob.xq,Ob.ld]⟩
 have BF:∀n b,κ' n=some b→n≠j∧κ n=some b:=by
  intro n b h
  by_cases hn:j=n
  ·subst hn
   have:κ' j=none:=by show ix κ j none j=none;simp [ix]
   rw[this] at h;cases h
  ·have:κ' n=κ n:=by show ix κ j none n=κ n;simp [ix,hn]
   rw[this] at h
   exact⟨fun e=>hn e.symm,h⟩
 have KT:∀n,n≠j→κ' n=κ n:=fun n hn=>by show ix κ j none n=κ n;simp [ix,Ne.symm hn]
 have SO:∀n,δ.lb n→n≠j:=by
  rintro n ⟨o,h1,h2⟩ rfl
  rw[hj] at h1;cases h1;simp [Ob.ld] at h2
 have TD:∀b,κ.Fs b→b<w.heap.size:=fun b hb=>r.fr.Da hb
 have G:j6 ((δ.cx g κ).less j) w (δ1.cx g κ') w:=
  {B:=rfl,size:=aM _
   N:=fun b _ h2=>⟨⟨⟨h2.1.1,by
    rintro⟨n,h3|⟨_,h3⟩⟩
    ·exact h2.1.2 ⟨n,h3⟩
    ·exact h2.2 j yG (B5 b h3)⟩,fun n hn e=>h2.2 n ((fH n).1 hn) (BF n b e).2⟩,rfl⟩
   Lr:=fun n hn=>⟨(oy n).2 hn.1,KT n hn.2,fun _ _=>rfl⟩
   Lb:=fun n hn=>⟨uu n hn,KT n (SO n hn)⟩}
 have R1:Rel g δ1 κ' a w:=
  {n:=r.n,dfr:=r.dfr
   env:=fun n=>by
    show RA _ w _ ((δ.ib (AV.kill j)).get n)
    rw[qT _ rfl];exact(r.env n).kill G
   obj:=fun n x h=>by
    rw[jo] at h
    by_cases hn:i=n
    ·subst hn
     rw[if_pos rfl] at h
     cases h
     refine⟨(KT i Ad).trans CX,fun kk=>?_,fun k1 k2 b h2 h3=>?_⟩
     ·unfold nk
      by_cases jN:kk=k
      ·rw[if_pos jN];exact⟨hX,mP,fun b hb=> .inr ⟨rfl,hb⟩,TE⟩
      ·rw[if_neg jN];exact(tK kk).kY rfl fun b _ h2 _=>⟨.inl h2,rfl⟩
     ·have gz:∀kk b,(rows kk).1.ownBlock=some b→v.ownBlock=some b→False:=fun kk b h4 h5=>r.fr.kZ yG (B5 b h5) ⟨i,(tK kk).2.2.1 b h4⟩
      unfold nk at h2 h3
      by_cases we:k1=k
      ·by_cases yx:k2=k
       ·rw[we,yx]
       ·rw[if_pos we] at h2
        rw[if_neg yx] at h3
        exact(gz k2 b h3 h2).elim
      ·by_cases yx:k2=k
       ·rw[if_neg we] at h2
        rw[if_pos yx] at h3
        exact(gz k1 b h2 h3).elim
       ·rw[if_neg we] at h2
        rw[if_neg yx] at h3
        exact Cn k1 k2 b h2 h3
    ·rw[if_neg hn] at h
     cases gi:δ.ob n with
     |none=>rw[gi] at h;simp at h
     |some o=>
      rw[gi] at h
      simp only[bm,Option.some.injEq] at h
      subst h
      by_cases VT:n=j
      ·subst VT
       rw[hj] at gi
       cases gi
       intro b hb
       exact absurd rfl (BF n b hb).1
      ·exact(r.obj n o gi).zY G (KT n VT) (fun _ _=>rfl) fun b h2 _=>⟨.inl h2,rfl⟩
   inj:=fun n m b h1 h2 h3 h4=>r.inj n m b ((fH n).1 h1) ((fH m).1 h2) (BF n b h3).2 (BF m b h4).2
   lo:=fun n b h1 h2=>r.lo n b ((fH n).1 h1) (BF n b h2).2
   nx:=fun n h=>r.nx n ((fH n).1 h)
   wt:=fun kk hk=>⟨(r.wt kk hk).1,fun n b h1 uR h2=>(r.wt kk hk).2 n b ((fH n).1 h1) (uR.imp (oy n).1 id) (BF n b h2).2⟩
   below:=r.below,hB:=r.hB,N0:=r.N0,kI:=r.kI
   fr:=by
    refine⟨fun b hb=>?_,fun n b hb=>?_⟩
    ·obtain⟨h2,h3,h4⟩:=r.fr.1 b hb
     exact⟨h2,h3,fun m hm e=>h4 m ((fH m).1 hm) (BF m b e).2⟩
    ·rcases hb with h2|⟨rfl,h2⟩
     ·obtain⟨h4,h5,h6,h7,h8⟩:=r.fr.2 n b h2
      refine⟨h4,h5,h6,fun m hm e=>h7 m ((fH m).1 hm) (BF m b e).2,fun m hm=>?_⟩
      rcases hm with hm|⟨rfl,hm⟩
      ·exact h8 m hm
      ·exact(r.fr.kZ yG (B5 b hm) ⟨n,h2⟩).elim
     ·have Ht:=B5 b h2
      obtain⟨h3,h4⟩:=r.lo j b yG Ht
      refine⟨⟨h3,fun kk hk=>(r.wt kk hk).2 j b yG (.inl hj) Ht⟩,h4,fun hf=>(r.fr.1 b hf).2.2 j yG Ht,fun m hm e=>?_,fun m hm=>?_⟩
      ·obtain⟨h5,h6⟩:=BF m b e
       exact h5 (r.inj m j b ((fH m).1 hm) yG h6 Ht)
      ·rcases hm with hm|⟨rfl,_⟩
       ·exact(r.fr.kZ yG Ht ⟨m,hm⟩).elim
       ·rfl}
 exact⟨v,κ',R1.KE (by rw[Y4];exact .pv (.lit _))⟩
theorem AW.sH {c:Code} (i j k t:Nat) {e:TypeId} {rows:qf} {us:List Value} {e7:List (List PV)} (ho:δ.ob i=some (.fm e rows)) (hj:δ.ob j=some .row) (ht:δ.get t=.own j e 1 e7) (he:e7=us.map fun u=>[.lit u]) (hk:(rows k).1=.slice none 0 0)
  (hK:∀v,AW P g c Q (((δ.ib (AV.kill j)).gl i (some (.fm e (nk rows k (v,us))))).put t (.pv (.lit v)))):AW P g c Q δ:=fun κ a w r=>by
 obtain⟨v,κ',r'⟩:=r.sH ho hj ht he hk
 exact hK v κ' a w r'
theorem Rel.xd (r:Rel g δ κ a w) (e:TypeId):Rel g (δ.fM (.fm e fun _=>(.slice none 0 0,[]))) (ix κ δ.nx none) a w:=by
 have rU:¬δ.live δ.nx:=fun h=>aU _ (r.nx _ h)
 have gz:∀i,δ.live i→δ.nx≠i:=fun i h e=>rU (e▸h)
 have fH:∀i,(δ.fM (.fm e fun _=>(.slice none 0 0,[]))).live i→i=δ.nx∨δ.live i:=by
  intro i ⟨o',h⟩
  rw[gh] at h
  by_cases e:δ.nx=i
  ·exact .inl e.symm
  ·rw[if_neg e] at h;exact .inr ⟨o',h⟩
 have oP:∀i b,(δ.fM (.fm e fun _=>(.slice none 0 0,[]))).live i→ix κ δ.nx none i=some b→δ.live i∧κ i=some b:=by
  intro i b hi h
  rcases fH i hi with rfl|hi
  ·simp [ix] at h
  ·simp only[ix,gz i hi,if_false] at h;exact⟨hi,h⟩
 have G:j6 (δ.cx g κ) w ((δ.fM (.fm e fun _=>(.slice none 0 0,[]))).cx g (ix κ δ.nx none)) w:=
  {B:=rfl,size:=aM _
   N:=fun b h1 h2=>⟨⟨h2.1,fun i hi e=>let ⟨h3,h4⟩:=oP i b hi e;h2.2 i h3 h4⟩,rfl⟩
   Lr:=fun i hi=>by
    have jS:=gz i (DS.iw hi)
    refine⟨?_,by show ix _ _ _ i=κ i;simp [ix,jS],fun b hκ=>rfl⟩
    show(δ.fM _).ob i=_
    rw[gh,if_neg jS];exact hi
   Lb:=fun i hi=>by
    have jS:=gz i (DS.mm hi)
    refine⟨?_,by show ix _ _ _ i=κ i;simp [ix,jS]⟩
    obtain⟨o',h1,h2⟩:=hi
    exact⟨o',by rw[gh,if_neg jS];exact h1,h2⟩}
 exact
  {n:=r.n,dfr:=r.dfr,env:=fun j=>G.ra (r.env j)
   obj:=fun i o' h=>by
    rw[gh] at h
    by_cases e:δ.nx=i
    ·rw[if_pos e] at h;cases h;subst e
     exact⟨by show ix _ _ _ _=_;simp [ix],fun k=>⟨w.ownsRow_nil _ _ _,by simp,fun b hb=>by simp [Value.ownBlock] at hb,fun u hu=>by simp at hu⟩,fun k k' b hb=>by simp [Value.ownBlock] at hb⟩
    ·rw[if_neg e] at h
     exact(r.obj i o' h).kY G (by show ix _ _ _ i=κ i;simp [ix,e]) (fun b hκ=>rfl) (fun b hF ft=>⟨hF,rfl⟩)
   inj:=fun i j b h1 h2 h3 h4=>let ⟨h5,h6⟩:=oP i b h1 h3;let ⟨h7,h8⟩:=oP j b h2 h4;r.inj i j b h5 h7 h6 h8
   lo:=fun i b h1 h2=>let ⟨h5,h6⟩:=oP i b h1 h2;r.lo i b h5 h6
   nx:=fun i h=>by
    show i<δ.nx+1
    rcases fH i h with rfl|h
    ·omega
    ·have:=r.nx i h;omega
   wt:=fun k hk=>⟨(r.wt k hk).1,fun i b hi jS hκ hb=>by
    obtain⟨h5,h6⟩:=oP i b hi hκ
    refine(r.wt k hk).2 i b h5 (jS.imp (fun h=>?_) id) h6 hb
    have h7:(δ.fM _).ob i=some .row:=h
    rw[gh,if_neg (gz i h5)] at h7
    exact h7⟩
   below:=r.below,hB:=r.hB,N0:=r.N0,kI:=r.kI
   fr:=r.fr.sub fun i b h1 h2=>let ⟨h5,h6⟩:=oP i b h1 h2;⟨i,h5,h6⟩}
theorem AW.xd {c:Code} (e:TypeId) (hK:AW P g c Q (δ.fM (.fm e fun _=>(.slice none 0 0,[])))):AW P g c Q δ:=fun _ a w r=>hK _ a w (r.xd e)
end Go.Ab
/- Contracts with more than one outcome:of the caller's objects,and of the result,only a relation is told. -/
namespace Go.Ab
open Go Go.RowKit
variable {P:Program} {g:eY} {δ:DS} {κ:Kp} {a:Act} {w:World}
variable {ops:Array Oper} {rest:List Oper} {Q:Exit→DS→Prop} {dst:Option Nat} {ty:TypeId} {pos:String} {af:Array Edge}
abbrev Hi {α:Type} (P:Program) (f:FuncId) (n0:Nat) (eW:List (Nat×Option Ob)) (args:List AV) (p:α→Prop) (e9:α→List (Nat×Option Ob)) (r:α→AV):Prop:=
 DJ (fun _=>True) P (fun(x:α) C w e=>p x∧PG (r x) C w e) f n0 eW args e9
def vK {α:Type} (P:Program) (rs:List ResultVar) (eW:List (Nat×Option Ob)) (p:α→Prop) (e9:α→List (Nat×Option Ob)) (r:α→AV):Exit→DS→Prop
 |.normal,δ|.ret,δ=>∃x,p x∧∃v,fZ P δ rs v∧WV δ (XF δ eW (e9 x)) v (r x)∧WV δ (XF δ eW (e9 x)) (δ.get 1000) (.agg (ir eW))∧th δ (XF δ eW (e9 x)) (e9 x)∧wA δ.nx (e9 x)=true
 |_,_=>False
theorem u7 {α:Type} {rs:List ResultVar} {eW:List (Nat×Option Ob)} {p:α→Prop} {e9:α→List (Nat×Option Ob)} {r:α→AV} {v:AV} (x:α) (hp:p x) (h:fZ P δ rs v) (hw:Jm δ (XF δ eW (e9 x)) [v,δ.get 1000] [r x,.agg (ir eW)]) (ho:th δ (XF δ eW (e9 x)) (e9 x)) (hx:wA δ.nx (e9 x)=true):vK P rs eW p e9 r .ret δ:=⟨x,hp,v,h,hw.1,hw.2.1,ho,hx⟩
theorem uM {α:Type} {rs:List ResultVar} {eW:List (Nat×Option Ob)} {p:α→Prop} {e9:α→List (Nat×Option Ob)} {r:α→AV} {v:AV} (x:α) (hp:p x) (h:fZ P δ rs v) (hw:Jm δ (XF δ eW (e9 x)) [v,δ.get 1000] [r x,.agg (ir eW)]) (ho:th δ (XF δ eW (e9 x)) (e9 x)) (hx:wA δ.nx (e9 x)=true):vK P rs eW p e9 r .normal δ:=⟨x,hp,v,h,hw.1,hw.2.1,ho,hx⟩
theorem Hi.enter {α:Type} {f:FuncId} {fn:Func} {c:Code} {rs:List ResultVar} {n n0:Nat} {eW:List (Nat×Option Ob)} {args:List AV} {p:α→Prop} {e9:α→List (Nat×Option Ob)} {r:α→AV} (hf:P.funcs[f]? =some fn) (hb:fn.body=some c) (oh:fn.results=rs.toArray) (hn:fn.ntmps=n) (F2:bu args.length n=true)
  (xx:bu n HS=true) (he:(fn.name== "runtime.NumGoroutine")=false) (BV:v8 eW eW=true) (GC:∀x,wA n0 (e9 x)=true)
  (h:∀g:eY,g.ro=none→g.wt=none→AW P g c (vK P rs eW p e9 r) ⟨n,enum 0 args++ [(1000,.agg (ir eW))],eW,n0⟩):Hi P f n0 eW args p e9 r:=by
 refine DJ.enter (Q:=vK P rs eW p e9 r) hf hb hn F2 xx he BV GC (fun g h1 h2 _=>h g h1 h2) fun g e δ' κ' a' w' R jz FP hq r' hR=>?_
 have fin:(∃x,p x∧∃v,fZ P δ' rs v∧WV δ' (XF δ' eW (e9 x)) v (r x)∧WV δ' (XF δ' eW (e9 x)) (δ'.get 1000) (.agg (ir eW))∧th δ' (XF δ' eW (e9 x)) (e9 x)∧wA δ'.nx (e9 x)=true)→
   LeavesInM Fence.wide 0 P fn a'.tmps R a'.defers .returning w':=fun⟨x,Rt,v,h1,hv,hp,ho,hx⟩=>
  leaves (g:=g) jz FP oh h1 r' fun w2 r2 u hu=>hR x hp ho hx _ _ r2 ⟨Rt,u,rfl,hu.wv (δ:=δ') (δ':=XF δ' eW (e9 x)) r2.mF r2.obj hv⟩
 cases e with
 |normal=>exact fin hq
 |ret=>exact fin hq
 |_=>exact hq.elim
theorem a_.ri {α:Type} {y:Operand} {f:FuncId} {xs:List Operand} {tys:Array TypeId} {first cap args:List AV} {n0:Nat} {eW:List (Nat×Option Ob)} {p:α→Prop} {e9:α→List (Nat×Option Ob)} {r:α→AV} (jz:g.wt=none) (hf:Hi P f n0 eW args p e9 r) (hy:δ.ev y=.jd (.func f) first cap) (np:fk y=true) (lK:xs.all fk=true)
  (pt:Cq δ eW) (gp:wa (XS eW n0).qR (XS eW n0).qq (first++xs.map δ.ev++cap) args) (hk:∀x,j8 eW (e9 x)=true) (wG:wA n0 eW=true) (tE:mU (XS eW n0).qR (XS eW n0).qq eW)
  (pU:∀x,mU (XS (e9 x) n0).qR (XS (e9 x) n0).qq (e9 x)) (hr:∀x,(r x).ids (XS (e9 x) n0).qR (XS (e9 x) n0).qq=true) (hd:gb δ.n dst=true)
  (hK:∀x,p x→a_ .plain P g ops rest Q ((δ.iJ eW (e9 x)).eZ dst (r x))):
  a_ .plain P g ops (⟨dst,.call {callee:=.value y,args:=xs.toArray,argTypes:=tys},ty,pos,af,none⟩::rest) Q δ:=
 xm jz (fun _ _=>trivial) hf hy np lK pt gp hk wG tE pU (fun x κ a w' C v hR hE oz=>by
  obtain⟨hp,u,he,hu⟩:=hE
  cases he
  exact hK x hp _ _ _ (hR.eZ (fE hd) (oz (r x) hu (hr x)))) (fun _ C w' ch hE=>by obtain⟨_,u,he,_⟩:=hE;cases he) (fun _ C w' hE=>by obtain⟨_,u,he,_⟩:=hE;cases he)
end Go.Ab
/- Pools of numbers. -/
namespace Go.Ab
open Go Go.RowKit
variable {q:Md} {P:Program} {g:eY} {δ:DS} {κ:Kp} {a:Act} {w:World}
variable {ops:Array Oper} {rest:List Oper} {Q:Exit→DS→Prop} {dst:Option Nat} {ty:TypeId} {pos:String} {af:Array Edge} {gd:Option (Tmp×Bool)}
abbrev vI (x:Int):Value:=.int .i64 x
def iC {α:Type} (f:Nat→α) (k:Nat) (v:α):Nat→α:=fun j=>if j=k then v else f j
theorem o8 {α:Type} (f:Nat→α) (k:Nat) (v:α):iC f k v k=v:=by simp [iC]
theorem tD {α:Type} (f:Nat→α) {k j:Nat} (v:α) (h:j≠k):iC f k v j=f j:=by simp [iC,h]
theorem AK {α:Type} (f:Nat→α) (k:Nat):iC f k (f k)=f:=by funext j;unfold iC;split<;>simp_all
def pA (hs:Nat→Value) (ls:Nat→List Int):qf:=fun k=>(hs k,(ls k).map vI)
theorem Di (hs:Nat→Value) (ls:Nat→List Int) (k:Nat) (h:Value) (xs:List Int) {ys:List Value} (hy:ys=xs.map vI):nk (pA hs ls) k (h,ys)=pA (iC hs k h) (iC ls k xs):=by
 subst hy
 funext j
 unfold nk pA iC
 split<;>rfl
section
variable {i k:Nat} {e:TypeId} {hs:Nat→Value} {ls:Nat→List Int}
end
def jD (n:Nat) (h:Nat→Value):List (List PV):=(a7 n).map fun j=>[.lit (h j)]
theorem tI (n:Nat) (h:Nat→Value):(jD n h).length=n:=by simp [jD]
theorem Dd {n k:Nat} (h:Nat→Value) (hk:k<n):(jD n h)[k]? =some [.lit (h k)]:=by simp [jD,hk]
theorem HW (n:Nat) (h:Nat→Value):jD n h++ [[.lit (h n)]]=jD (n+1) h:=by
 simp only[jD,List.range_succ,cV,bz,bY]
theorem a_.FB {x y:Operand} {t e e':TypeId} {i n:Nat} {m:Int} {h:Nat→Value} (hx:δ.ev x=.own i e' 1 (jD n h)) (hy:δ.ev y=eU m) (ht:P.underlying t=some (.slice e)) (hk:(P.info? e).map (·.size)=some 1) (ho:fk x=true) (gi:fk y=true) (hd:gb δ.n dst=true) (h0:0≤m) (hn:m.toNat<n)
  (hK:a_ q P g ops rest Q (δ.eZ dst (.gY i e' 1 (jD n h) m.toNat))):a_ q P g ops (⟨dst,.indexAddr t x y,ty,pos,af,none⟩::rest) Q δ:=
 a_.uP (n:=m.toNat) hx (by rw[bZ h0];exact hy) (by rw[Go.Ab.tI];exact hn) ht hk ho gi hd hK
theorem a_.Io {x:Operand} {t e:TypeId} {i n m:Nat} {h:Nat→Value} (hx:δ.ev x=.gY i e 1 (jD n h) m) (ht:iS P t=true) (ho:fk x=true) (hd:gb δ.n dst=true) (hq:q≠ .held) (hn:m<n)
  (hK:a_ q P g ops rest Q (δ.eZ dst (.pv (.lit (h m))))):a_ q P g ops (⟨dst,.load t x,ty,pos,af,none⟩::rest) Q δ:=
 a_.Gb hq hx (Dd h hn) ht ho hd hK
theorem AW.NT {c:Code} (e:TypeId) (hK:AW P g c Q (δ.fM (.fm e (pA (fun _=> .slice none 0 0) fun _=>[])))):AW P g c Q δ:=AW.xd e hK
theorem WV.fy {δ δ':DS} {u v:Value} (h:u=v):WV δ δ' (.pv (.lit u)) (.pv (.lit v)):=.eq (by rw[h]) rfl
namespace Nf
variable {i n j:Nat} {c:List PV}
theorem s_any:AV.qg i n c .any=.any:=rfl
theorem s_pv (p:PV):AV.qg i n c (.pv p)=.pv p:=rfl
theorem Z5 (a b:Nat):AV.qg i n c (.ptr a b)=.ptr a b:=rfl
theorem ZZ (d:List PV):AV.qg i n c (.gy d)=.gy d:=rfl
theorem X7 (a:Nat):AV.qg i n c (.gH a)=.gH a:=rfl
theorem s_yld (a:Nat):AV.qg i n c (.kS a)=.kS a:=rfl
theorem s_own (e e7):AV.qg i n c (.own j e 1 e7)=bif aI i j then .own j e 1 (e7.set n c) else .own j e 1 e7:=rfl
theorem Y3 (e e7):AV.qg i n c (.own j e 3 e7)=bif aI i j then .any else .own j e 3 e7:=rfl
theorem Y0 (e k e7 m):AV.qg i n c (.gY j e k e7 m)=bif aI i j then .any else .gY j e k e7 m:=rfl
end Nf
end Go.Ab
/- Pools of numbers:a row forgotten;a row appended to a row of the walk's own. -/
namespace Go.Ab
open Go Go.RowKit
variable {q:Md} {P:Program} {g:eY} {δ:DS} {κ:Kp} {a:Act} {w:World} {Q:Exit→DS→Prop}
variable {ops:Array Oper} {rest:List Oper} {dst:Option Nat} {ty:TypeId} {pos:String} {af:Array Edge} {gd:Option (Tmp×Bool)}
end Go.Ab
/- A row of the walk's own with elements is not nil. -/
namespace Go.Ab
open Go Go.RowKit
variable {q:Md} {P:Program} {g:eY} {δ:DS} {κ:Kp} {a:Act} {w:World} {Q:Exit→DS→Prop}
variable {ops:Array Oper} {rest:List Oper} {dst:Option Nat} {ty:TypeId} {pos:String} {af:Array Edge} {gd:Option (Tmp×Bool)}
end Go.Ab
/- Pools whose rows are relations (an arity and a slice that is told whole):two cells an element;pointers told whole. -/
namespace Go.Ab
open Go Go.RowKit
variable {q:Md} {P:Program} {g:eY} {δ:DS} {κ:Kp} {a:Act} {w:World}
variable {ops:Array Oper} {rest:List Oper} {Q:Exit→DS→Prop} {dst:Option Nat} {ty:TypeId} {pos:String} {af:Array Edge} {gd:Option (Tmp×Bool)}
def kg (l:List (Int×Value)):List Value:=l.flatMap fun p=>[vI p.1,p.2]
def rT (hs:Nat→Value) (ls:Nat→List (Int×Value)):qf:=fun k=>(hs k,kg (ls k))
theorem l9:∀l:List (Int×Value),(kg l).length=2*l.length
 |[]=>rfl
 |p::l=>by
  have:=l9 l
  unfold kg at this ⊢
  rw[List.flatMap_cons,bV,this];simp;omega
theorem tN:∀(l:List (Int×Value)) (n:Nat) (h:n<l.length),(kg l)[2*n]? =some (vI l[n].1)∧(kg l)[2*n+1]? =some l[n].2
 |[],n,h=>by simp at h
 |p::l,0,h=>⟨rfl,rfl⟩
 |p::l,n+1,h=>by
  have ih:=tN l n (by simpa using h)
  have e:kg (p::l)=vI p.1::p.2::kg l:=rfl
  rw[e,show 2*(n+1)=2*n+1+1 by omega,show 2*n+1+1+1=(2*n+1)+1+1 by omega]
  simp only[cW,cX]
  exact ih
theorem Au:∀(l:List (Int×Value)) (n:Nat) (h:n<l.length) (v:Value),(kg l).set (2*n+1) v=kg (l.set n (l[n].1,v))
 |[],n,h,v=>by simp at h
 |p::l,0,h,v=>rfl
 |p::l,n+1,h,v=>by
  have ih:=Au l n (by simpa using h) v
  have e:∀p l,kg (p::l)=vI p.1::p.2::kg l:=fun p l=>rfl
  rw[e,show 2*(n+1)+1=(2*n+1)+1+1 by omega]
  simp only[List.set_cons_succ,cX,e]
  rw[ih]
theorem Rr (e:TypeId) (l:List (Int×Value)):nK ⟨e,2⟩ (kg l)=l.length:=by
 show(kg l).length / 2=l.length
 rw[l9];omega
theorem Dw (hs:Nat→Value) (ls:Nat→List (Int×Value)) (k:Nat) (h:Value) (xs:List (Int×Value)) {ys:List Value} (hy:ys=kg xs):nk (rT hs ls) k (h,ys)=rT (iC hs k h) (iC ls k xs):=by
 subst hy
 funext j
 unfold nk rT iC
 split<;>rfl
theorem pH (r:Rel g δ κ a w) {i:Nat} {e:TypeId} {hs:Nat→Value} {ls:Nat→List (Int×Value)} (ho:δ.ob i=some (.fm ⟨e,2⟩ (rT hs ls))) (k:Nat):w.ownsRow g.B e 2 (hs k) (ls k).length (kg (ls k)):=by
 have h:=((r.obj i _ ho).2.1 k).1
 have e2:=Rr e (ls k)
 show w.ownsRow g.B e 2 (rT hs ls k).1 (ls k).length (kg (ls k))
 rw[← e2]
 exact h
variable {e:TypeId} {hs:Nat→Value} {ls:Nat→List (Int×Value)} {k:Nat}
theorem a_.Jf (i:Nat) {x y:Operand} {t e':TypeId} {m:Int} (ho:δ.ob i=some (.fm ⟨e,2⟩ (rT hs ls))) (hx:δ.ev x=.pv (.lit (hs k))) (hy:δ.ev y=eU m) (ht:P.underlying t=some (.slice e')) (mL:(P.info? e').map (·.size)=some 2) (wu:fk x=true) (np:fk y=true) (hd:gb δ.n dst=true)
  (h0:0≤m) (hm:m<(ls k).length) (hK:a_ q P g ops rest Q (δ.eZ dst (.pv (.lit (jR (2*m.toNat) (hs k)))))):a_ q P g ops (⟨dst,.indexAddr t x y,ty,pos,af,none⟩::rest) Q δ:=
 a_.jK _ hd (fun κ a w r=>by
  have P7:=pH r ho k
  have hv:a.eval x=hs k:=r.lit hx wu
  rcases P7.2 with ⟨h1,h2⟩|⟨b,cap,cur,h1,_⟩
  ·exfalso;omega
  ·refine⟨_,fun w' _=>?_,.pv (.lit _)⟩
   rw[h1] at hv ⊢
   have PW:a.eval y=.int .i64 ((m.toNat:Nat):Int):=by rw[bZ h0];exact r.lit hy np
   have:=kG (dst:=dst) (ty:=ty) (pos:=pos) (af:=af) ht mL hv PW aG w'
   rw[show m.toNat*2=2*m.toNat by omega] at this
   exact this) hK
theorem a_.IJ (i:Nat) (t:TypeId) {x:Operand} {n:Nat} (ho:δ.ob i=some (.fm ⟨e,2⟩ (rT hs ls))) (hx:δ.ev x=.pv (.lit (jR (2*n) (hs k)))) (hB:Ex P t 1 1=true) (wu:fk x=true) (hd:gb δ.n dst=true)
  (hn:n<(ls k).length) (hK:a_ q P g ops rest Q (δ.eZ dst (.pv (.lit (jR (2*n+1) (hs k)))))):a_ q P g ops (⟨dst,.fieldAddr t x 1,ty,pos,af,none⟩::rest) Q δ:=
 a_.jK _ hd (fun κ a w r=>by
  have P7:=pH r ho k
  have hv:a.eval x=jR (2*n) (hs k):=r.lit hx wu
  rcases P7.2 with ⟨h1,h2⟩|⟨b,cap,cur,h1,_⟩
  ·exfalso;omega
  ·refine⟨_,fun w' _=>?_,.pv (.lit _)⟩
   rw[h1] at hv ⊢
   have Rv:a.eval x=.pointer (some ⟨b,2*n,none⟩):=hv.trans (by simp [jR])
   unfold Ex at hB
   split at hB
   ·rename_i fs Is
    split at hB
    ·rename_i pD hf
     simp only[aW,beq_iff_eq] at hB
     have hk:=aJ hB.1
     have:=kK (dst:=dst) (ty:=ty) (pos:=pos) (af:=af) Is hf hB.2 Rv w'
     rw[hk] at this
     rw[this]
     simp [jR]
    ·cases hB
   ·cases hB) hK
theorem a_.AM (i:Nat) {x:Operand} {n:Nat} (ho:δ.ob i=some (.fm ⟨e,2⟩ (rT hs ls))) (hx:δ.ev x=.pv (.lit (jR (2*n) (hs k)))) (wu:fk x=true) (hd:gb δ.n dst=true)
  (hn:n<(ls k).length) (hK:a_ q P g ops rest Q (δ.eZ dst (.pv (.lit (jR (2*n) (hs k)))))):a_ q P g ops (⟨dst,.nilCheck x,ty,pos,af,none⟩::rest) Q δ:=
 a_.jK _ hd (fun κ a w r=>by
  have P7:=pH r ho k
  have hv:a.eval x=jR (2*n) (hs k):=r.lit hx wu
  rcases P7.2 with ⟨h1,h2⟩|⟨b,cap,cur,h1,_⟩
  ·exfalso;omega
  ·refine⟨_,fun w' _=>?_,.pv (.lit _)⟩
   rw[h1] at hv ⊢
   have Rv:a.eval x=.pointer (some ⟨b,2*n,none⟩):=hv.trans (by simp [jR])
   simp [execOp,Rv,jR]) hK
theorem a_.KR (i:Nat) {x:Operand} {t:TypeId} {n:Nat} (ho:δ.ob i=some (.fm ⟨e,2⟩ (rT hs ls))) (hx:δ.ev x=.pv (.lit (jR (2*n+1) (hs k)))) (ht:iS P t=true) (wu:fk x=true) (hd:gb δ.n dst=true) (hq:q≠ .held)
  (hn:n<(ls k).length) (hK:a_ q P g ops rest Q (δ.eZ dst (.pv (.lit (ls k)[n].2)))):a_ q P g ops (⟨dst,.load t x,ty,pos,af,none⟩::rest) Q δ:=
 a_.RU _ hq rfl rfl hd (fun κ a w r=>by
  have h0:=pH r ho k
  have ft:=fun b hb=>Ov r ho (k:=k) (b:=b) hb
  have hv:a.eval x=jR (2*n+1) (hs k):=r.lit hx wu
  have P7:=h0
  rcases h0.2 with ⟨h1,h2⟩|⟨b,cap,cur,h1,_⟩
  ·exfalso;omega
  ·rw[h1] at hv P7
   have h3:=P7.cellAt (2*n+1) (by omega)
   have Rv:a.eval x=.pointer (some ⟨b,2*n+1,none⟩):=hv.trans (by simp [jR])
   obtain⟨h4,h5⟩:=ft b (by show(hs k).ownBlock=some b;rw[h1];rfl)
   exact⟨_,fun w' ly=>kU ht Rv ((ly.cell (p:=⟨b,2*n+1,none⟩) h4).trans (h3.trans (tN (ls k) n hn).2)),.pv (.lit _)⟩) hK
theorem je.vm (i:Nat) {x y:Operand} {t:TypeId} {n:Nat} {u:Value} (ho:δ.ob i=some (.fm ⟨e,2⟩ (rT hs ls))) (hx:δ.ev x=.pv (.lit (jR (2*n+1) (hs k)))) (hy:δ.ev y=.pv (.lit u)) (hn:n<(ls k).length)
  (hu:u.oneCell'=true) (ht:(P.info? t).map (·.size)=some 1) (wu:fk x=true) (np:fk y=true) (hd:gb δ.n dst=true):
  je P g ⟨dst,.store t x y,ty,pos,af,gd⟩ δ ((δ.gl i (some (.fm ⟨e,2⟩ (rT hs (iC ls k ((ls k).set n ((ls k)[n].1,u))))))).eZ dst .any):=by
 intro κ a w r
 have h0:=pH r ho k
 have hl:=((r.obj i _ ho).2.1 k).2.1
 have M1:=((r.obj i _ ho).2.1 k).2.2.2
 have hl:(kg (ls k)).length≤140737488355328:=hl
 have M1:∀u∈kg (ls k),u.oneCell'=true:=M1
 have hv:a.eval x=jR (2*n+1) (hs k):=r.lit hx wu
 have FN:a.eval y=u:=r.lit hy np
 have nt:=l9 (ls k)
 rcases h0.2 with ⟨h1,h2⟩|⟨b,cap,cur,h1,hB,h3,hle,Lx,sE,yH⟩
 ·exfalso;omega
 ·have Rv:a.eval x=.pointer (some ⟨b,2*n+1,none⟩):=hv.trans (by rw[h1];simp [jR])
  have gQ:(execOp a.eval ⟨dst,.store t x y,ty,pos,af,gd⟩).run P w=.ok .skip (w.setCell ⟨b,2*n+1,none⟩ u):=by
   obtain⟨i0,mB,qo⟩:∃i0,P.info? t=some i0∧i0.size=1:=by
    cases h:P.info? t with
    |none=>rw[h] at ht;simp at ht
    |some i0=>rw[h] at ht;exact⟨i0,rfl,by simpa using ht⟩
   have hc:w.cell? ⟨b,2*n+1,none⟩=some (cur[2*n+1]'(by omega)):=by rw[cell_of h3,aK aG]
   have ij:(store ⟨b,2*n+1,none⟩ u).run P w=.ok () (w.setCell ⟨b,2*n+1,none⟩ u):=by
    rw[run_store P w _ _ _ hu,hc];simp [lq h3]
   simp [execOp,Instr.storeAt,Instr.sureAddr,storeVar,Rv,FN,rn hu,sizeOf,typeInfo,mB,qo,storeCells,iV,ij]
  have jo:(rT hs ls k).1.ownBlock=some b:=by show(hs k).ownBlock=some b;rw[h1];rfl
  have CK:=Au (ls k) n hn u
  obtain⟨κ',r',_⟩:=r.z7 ho (k:=k) (w':=w.setCell ⟨b,2*n+1,none⟩ u) (by rw[jo];exact gm.setCell w ⟨b,2*n+1,none⟩ u) (v':=hs k) (ys:=kg ((ls k).set n ((ls k)[n].1,u)))
   (by
    rw[Rr,cL]
    show(w.setCell _ _).ownsRow g.B e 2 (hs k) _ _
    refine⟨by rw[l9,cL];omega,.inr ⟨b,cap,_,h1,hB,ku h3 _,hle,Lx,by simpa using sE,?_⟩⟩
    rw[Array.toList_setIfInBounds,List.take_set,yH,CK])
   (by rw[← CK,cL];exact hl)
   (fun v hv=>by
    rw[← CK] at hv
    rcases List.mem_or_eq_of_mem_set hv with hv|rfl
    ·exact M1 v hv
    ·exact hu)
   (fun b' js=> .inl js)
  rw[Dw hs ls k (hs k) _ rfl,AK] at r'
  exact .inl ⟨_,_,_,κ',gQ,.inr ⟨rfl,rfl⟩,r'.eZ (fE hd) (.any _)⟩
theorem a_.vm (i:Nat) {x y:Operand} {t:TypeId} {n:Nat} {u:Value} (ho:δ.ob i=some (.fm ⟨e,2⟩ (rT hs ls))) (hx:δ.ev x=.pv (.lit (jR (2*n+1) (hs k)))) (hy:δ.ev y=.pv (.lit u)) (ht:(P.info? t).map (·.size)=some 1) (wu:fk x=true) (np:fk y=true) (hd:gb δ.n dst=true)
  (hn:n<(ls k).length) (hu:u.oneCell'=true) (hK:a_ .plain P g ops rest Q ((δ.gl i (some (.fm ⟨e,2⟩ (rT hs (iC ls k ((ls k).set n ((ls k)[n].1,u))))))).eZ dst .any)):
  a_ .plain P g ops (⟨dst,.store t x y,ty,pos,af,none⟩::rest) Q δ:=a_.vA rfl rfl (je.vm i ho hx hy hn hu ht wu np hd) hK
theorem Rel.Cy (r:Rel g δ κ a w) {i j k t:Nat} {e:PT} {rows:qf} {us:List Value} {e7:List (List PV)} (ho:δ.ob i=some (.fm e rows)) (hj:δ.ob j=some .row) (ht:δ.get t=.own j e.t e.k e7) (hlen:e7.length=nK e us) (Wg:us.length≤140737488355328)
  (oZ:∀(N:Nat→Prop) (w:World) (xs:List Value),xs.length=e7.length*e.k→(∀n j p,cellAt e7 n j=some p→∃u,xs[n*e.k+j]? =some u∧RP N w u p)→xs=us) (hk:(rows k).1=.slice none 0 0):
  ∃v κ',Rel g (((δ.ib (AV.kill j)).gl i (some (.fm e (nk rows k (v,us))))).put t (.pv (.lit v))) κ' a w:=by
 have Ad:i≠j:=by rintro rfl;rw[ho] at hj;cases hj
 have yG:δ.live j:=⟨_,hj⟩
 have B7:δ.live i:=⟨_,ho⟩
 have hv:=r.env t
 rw[ht] at hv
 have hv:=hv.jt
 generalize Y4:g.val a t=v at hv
 obtain⟨CX,tK,Cn⟩:=r.obj i _ ho
 obtain⟨xs,hX,TE,QW⟩:=hv.row
 have mP:=hv.lim
 have Gy:xs=us:=oZ _ w xs hX.1 QW
 rw[hlen] at hX
 subst Gy
 have B5:∀b,v.ownBlock=some b→κ j=some b:=fun b hb=>hv.yD b hb
 let κ':Kp:=⟨(ix κ j none).f,fun n b=>κ.F n b∨(n=i∧v.ownBlock=some b)⟩
 let δ1:=(δ.ib (AV.kill j)).gl i (some (.fm e (nk rows k (v,xs))))
 have jo:∀n,δ1.ob n=if i=n then some (.fm e (nk rows k (v,xs))) else (δ.ob n).map (Ob.xq (AV.kill j)):=fun n=>by
  show((δ.ib (AV.kill j)).gl i _).ob n=_
  rw[iG,kj]
 have fH:∀n,δ1.live n↔δ.live n:=by
  intro n
  unfold DS.live
  rw[jo]
  by_cases h:i=n
  ·subst h;simp [ho]
  ·rw[if_neg h];cases δ.ob n<;>simp
 have oy:∀n,δ1.lr n↔δ.lr n:=by
  intro n
  unfold DS.lr
  rw[jo]
  by_cases h:i=n
  ·subst h;simp [ho]
  ·rw[if_neg h]
   cases δ.ob n with
   |none=>simp
   |some o=>cases o<;>simp [Ob.xq]
 have uu:∀n,δ.lb n→δ1.lb n:=by
  rintro n ⟨o,h1,h2⟩
  unfold DS.lb
  rw[jo]
  by_cases h:i=n
  ·rw[if_pos h];exact⟨_,rfl,rfl⟩
  ·rw[if_neg h,h1];exact⟨_,rfl,by cases o<;>simp_all [Ob.xq,Ob.ld]⟩
 have BF:∀n b,κ' n=some b→n≠j∧κ n=some b:=by
  intro n b h
  by_cases hn:j=n
  ·subst hn
   have:κ' j=none:=by show ix κ j none j=none;simp [ix]
   rw[this] at h;cases h
  ·have:κ' n=κ n:=by show ix κ j none n=κ n;simp [ix,hn]
   rw[this] at h
   exact⟨fun e=>hn e.symm,h⟩
 have KT:∀n,n≠j→κ' n=κ n:=fun n hn=>by show ix κ j none n=κ n;simp [ix,Ne.symm hn]
 have SO:∀n,δ.lb n→n≠j:=by
  rintro n ⟨o,h1,h2⟩ rfl
  rw[hj] at h1;cases h1;simp [Ob.ld] at h2
 have TD:∀b,κ.Fs b→b<w.heap.size:=fun b hb=>r.fr.Da hb
 have G:j6 ((δ.cx g κ).less j) w (δ1.cx g κ') w:=
  {B:=rfl,size:=aM _
   N:=fun b _ h2=>⟨⟨⟨h2.1.1,by
    rintro⟨n,h3|⟨_,h3⟩⟩
    ·exact h2.1.2 ⟨n,h3⟩
    ·exact h2.2 j yG (B5 b h3)⟩,fun n hn e=>h2.2 n ((fH n).1 hn) (BF n b e).2⟩,rfl⟩
   Lr:=fun n hn=>⟨(oy n).2 hn.1,KT n hn.2,fun _ _=>rfl⟩
   Lb:=fun n hn=>⟨uu n hn,KT n (SO n hn)⟩}
 have R1:Rel g δ1 κ' a w:=
  {n:=r.n,dfr:=r.dfr
   env:=fun n=>by
    show RA _ w _ ((δ.ib (AV.kill j)).get n)
    rw[qT _ rfl];exact(r.env n).kill G
   obj:=fun n x h=>by
    rw[jo] at h
    by_cases hn:i=n
    ·subst hn
     rw[if_pos rfl] at h
     cases h
     refine⟨(KT i Ad).trans CX,fun kk=>?_,fun k1 k2 b h2 h3=>?_⟩
     ·unfold nk
      by_cases jN:kk=k
      ·rw[if_pos jN];exact⟨hX,Wg,fun b hb=> .inr ⟨rfl,hb⟩,TE⟩
      ·rw[if_neg jN];exact(tK kk).kY rfl fun b _ h2 _=>⟨.inl h2,rfl⟩
     ·have gz:∀kk b,(rows kk).1.ownBlock=some b→v.ownBlock=some b→False:=fun kk b h4 h5=>r.fr.kZ yG (B5 b h5) ⟨i,(tK kk).2.2.1 b h4⟩
      unfold nk at h2 h3
      by_cases we:k1=k
      ·by_cases yx:k2=k
       ·rw[we,yx]
       ·rw[if_pos we] at h2
        rw[if_neg yx] at h3
        exact(gz k2 b h3 h2).elim
      ·by_cases yx:k2=k
       ·rw[if_neg we] at h2
        rw[if_pos yx] at h3
        exact(gz k1 b h2 h3).elim
       ·rw[if_neg we] at h2
        rw[if_neg yx] at h3
        exact Cn k1 k2 b h2 h3
    ·rw[if_neg hn] at h
     cases gi:δ.ob n with
     |none=>rw[gi] at h;simp at h
     |some o=>
      rw[gi] at h
      simp only[bm,Option.some.injEq] at h
      subst h
      by_cases VT:n=j
      ·subst VT
       rw[hj] at gi
       cases gi
       intro b hb
       exact absurd rfl (BF n b hb).1
      ·exact(r.obj n o gi).zY G (KT n VT) (fun _ _=>rfl) fun b h2 _=>⟨.inl h2,rfl⟩
   inj:=fun n m b h1 h2 h3 h4=>r.inj n m b ((fH n).1 h1) ((fH m).1 h2) (BF n b h3).2 (BF m b h4).2
   lo:=fun n b h1 h2=>r.lo n b ((fH n).1 h1) (BF n b h2).2
   nx:=fun n h=>r.nx n ((fH n).1 h)
   wt:=fun kk hk=>⟨(r.wt kk hk).1,fun n b h1 uR h2=>(r.wt kk hk).2 n b ((fH n).1 h1) (uR.imp (oy n).1 id) (BF n b h2).2⟩
   below:=r.below,hB:=r.hB,N0:=r.N0,kI:=r.kI
   fr:=by
    refine⟨fun b hb=>?_,fun n b hb=>?_⟩
    ·obtain⟨h2,h3,h4⟩:=r.fr.1 b hb
     exact⟨h2,h3,fun m hm e=>h4 m ((fH m).1 hm) (BF m b e).2⟩
    ·rcases hb with h2|⟨rfl,h2⟩
     ·obtain⟨h4,h5,h6,h7,h8⟩:=r.fr.2 n b h2
      refine⟨h4,h5,h6,fun m hm e=>h7 m ((fH m).1 hm) (BF m b e).2,fun m hm=>?_⟩
      rcases hm with hm|⟨rfl,hm⟩
      ·exact h8 m hm
      ·exact(r.fr.kZ yG (B5 b hm) ⟨n,h2⟩).elim
     ·have Ht:=B5 b h2
      obtain⟨h3,h4⟩:=r.lo j b yG Ht
      refine⟨⟨h3,fun kk hk=>(r.wt kk hk).2 j b yG (.inl hj) Ht⟩,h4,fun hf=>(r.fr.1 b hf).2.2 j yG Ht,fun m hm e=>?_,fun m hm=>?_⟩
      ·obtain⟨h5,h6⟩:=BF m b e
       exact h5 (r.inj m j b ((fH m).1 hm) yG h6 Ht)
      ·rcases hm with hm|⟨rfl,_⟩
       ·exact(r.fr.kZ yG Ht ⟨m,hm⟩).elim
       ·rfl}
 exact⟨v,κ',R1.KE (by rw[Y4];exact .pv (.lit _))⟩
theorem AW.IU {c:Code} (i j k t:Nat) {e:TypeId} {hs:Nat→Value} {ls:Nat→List (Int×Value)} {us:List (Int×Value)} {e7:List (List PV)} (ho:δ.ob i=some (.fm ⟨e,2⟩ (rT hs ls))) (hj:δ.ob j=some .row) (ht:δ.get t=.own j e 2 e7) (he:e7=us.map fun u=>[.lit (vI u.1),.lit u.2]) (hl:us.length≤1000000) (hk:hs k=.slice none 0 0)
  (hK:∀v,AW P g c Q (((δ.ib (AV.kill j)).gl i (some (.fm ⟨e,2⟩ (rT (iC hs k v) (iC ls k us))))).put t (.pv (.lit v)))):AW P g c Q δ:=fun κ a w r=>by
 obtain⟨v,κ',r'⟩:=r.Cy (e:=⟨e,2⟩) (us:=kg us) ho hj ht (by rw[Rr,he,aX]) (by rw[l9];omega) (fun N w xs h1 h2=>by
  subst he
  rw[aX] at h1
  have h1:xs.length=us.length*2:=h1
  apply cU
  intro n
  by_cases hn:n<2*us.length
  ·obtain⟨m,hm⟩:∃m,n=2*m∨n=2*m+1:=⟨n / 2,by omega⟩
   have B3:m<us.length:=by omega
   have hc:=tN us m B3
   rcases hm with rfl|rfl
   ·obtain⟨u,g1,g2⟩:=h2 m 0 (.lit (vI us[m].1)) (by simp [cellAt,B3])
    have g1:xs[m*2+0]? =some u:=g1
    rw[show 2*m=m*2+0 by omega,g1,← show 2*m=m*2+0 by omega,hc.1]
    cases g2;rfl
   ·obtain⟨u,g1,g2⟩:=h2 m 1 (.lit us[m].2) (by simp [cellAt,B3])
    have g1:xs[m*2+1]? =some u:=g1
    rw[show 2*m+1=m*2+1 by omega,g1,← show 2*m+1=m*2+1 by omega,hc.2]
    cases g2;rfl
  ·have:=l9 us
   rw[cB aG,cB aG]) hk
 have r':Rel g (((δ.ib (AV.kill j)).gl i (some (.fm ⟨e,2⟩ (nk (rT hs ls) k (v,kg us))))).put t (.pv (.lit v))) κ' a w:=r'
 rw[Dw hs ls k v us rfl] at r'
 exact hK v κ' a w r'
end Go.Ab
/- Go's slices.Insert and slices.BinarySearch on a row of a pool of numbers. -/
namespace Go.Ab
open Go Go.RowKit Go.Proofs Go.Shelf
variable {P:Program}
theorem gm.trans {w w1 w2:World} {b:Option Nat} (h:gm w w1 b) (h':gm w1 w2 b):gm w w2 b:=
 ⟨h'.os.trans h.os,h'.tape.trans h.tape,h'.output.trans h.output,aN h.size h'.size,fun k hk gz=>(h'.block k (aH hk h.size) gz).trans (h.block k hk gz)⟩
theorem gm.drew (w:World) (b:Option Nat):gm w w.drew b:=⟨rfl,rfl,rfl,aM _,fun _ _ _=>rfl⟩
theorem gm.alloc (w:World) (o:Obj) (b:Option Nat):gm w (w.alloc o) b:=⟨rfl,rfl,rfl,by show w.heap.size≤(w.heap.push o).size;simp,fun k hk _=>by
 show(w.heap.push o)[k]? =_
 rw[cr,if_neg aG]⟩
theorem gm.setCells (b:Nat):∀(vs:List Value) (o:Nat) (w:World),gm w (w.setCells b o vs) (some b)
 |[],_,w=>⟨rfl,rfl,rfl,aM _,fun _ _ _=>rfl⟩
 |v::r,o,w=>(gm.setCell w ⟨b,o,none⟩ v).trans (gm.setCells b r (o+1) _)
theorem gm.fresh {w w1 w2:World} {b:Option Nat} {n:Nat} (h:gm w w1 b) (h':gm w1 w2 (some n)) (hn:w.heap.size≤n):gm w w2 b:=
 ⟨h'.os.trans h.os,h'.tape.trans h.tape,h'.output.trans h.output,aN h.size h'.size,fun k hk gz=>(h'.block k (aH hk h.size) (fun e=>by cases e;omega)).trans (h.block k hk gz)⟩
theorem jU {b:Nat} {e:TypeId}:∀(vs:List Value) (o:Nat) (w:World) (cur:Array Value),w.heap[b]? =some (.cells cur e (0,0))→
  ∃cur',(w.setCells b o vs).heap[b]? =some (.cells cur' e (0,0))∧cur'.size=cur.size∧∀j,cur'[j]? =if o≤j∧j<o+vs.length∧j<cur.size then vs[j - o]? else cur[j]?
 |[],o,w,cur,h=>⟨cur,h,rfl,fun j=>by rw[if_neg (by simp;omega)]⟩
 |v::r,o,w,cur,h=>by
  obtain⟨c,h1,h2,h3⟩:=jU r (o+1) _ _ (ku (off:=o) h v)
  refine⟨c,h1,by rw[h2];simp,fun j=>?_⟩
  rw[h3 j,Array.size_setIfInBounds,Array.getElem?_setIfInBounds]
  simp only[cb]
  by_cases hj:o=j
  ·subst hj
   rw[if_neg aG,if_pos rfl]
   by_cases hs:o<cur.size
   ·rw[if_pos aG];simp [hs]
   ·rw[if_neg hs,if_neg aG,Array.getElem?_eq_none aG]
  ·rw[if_neg hj]
   by_cases nf:o+1≤j∧j<o+1+r.length∧j<cur.size
   ·rw[if_pos nf,if_pos aG,show j - o=(j - (o+1))+1 by omega,cW]
   ·rw[if_neg nf,if_neg aG]
theorem uB {cur':Array Value} {ys:List Value} {n:Nat} (hl:ys.length=n) (h:∀j,j<n→cur'[j]? =ys[j]?) (hs:n≤cur'.size):cur'.toList.take n=ys:=by
 apply cU
 intro j
 by_cases hj:j<n
 ·rw[bC,if_pos hj,bA,h j hj]
 ·rw[bC,if_neg hj,cB aG]
theorem Bs {cs:List Value} {i:Nat} {u:Value} (hi:i≤cs.length) (j:Nat):(cs.take i++ [u]++cs.drop i)[j]? =if j<i then cs[j]? else if j=i then some u else cs[j - 1]?:=by
 have hl:(cs.take i).length=i:=by rw[List.length_take];omega
 rw[List.append_assoc]
 by_cases h1:j<i
 ·rw[if_pos h1,aQ aG,bC,if_pos h1]
 ·rw[if_neg h1,aS aG,hl]
  by_cases h2:j=i
  ·subst h2;rw[if_pos rfl];simp
  ·rw[if_neg h2,aS (by simp;omega),bD]
   congr 1
   simp only[cb,bU]
   omega
theorem kP (n:Nat):(Builtin.zeroCells (Value.int .i64 0).cells n).size=n:=by simp [Builtin.zeroCells,Value.cells]
theorem EL {ρ:Ren} (L:Lays2.n21 P ρ) {w:World} {B i n vb vc:Nat} {v:Value} {cs:List Value} {curv:Array Value} {x:Int} (jD:w.ownsRow B (ρ.t 3) 1 v n cs) (hB:B≤w.heap.size) (hi:i≤n) (hn:n≤1000000) (M1:∀u∈cs,u.oneCell'=true)
  (B5:∀b,v.ownBlock=some b→vb≠b) (hv:w.heap[vb]? =some (.cells curv (ρ.t 3) (0,0))) (hx:curv[0]? =some (.int .i64 x)):
  Calls P (ρ.f 21) #[v,.int .i64 i,.slice (some ⟨vb,0,none⟩) 1 vc] w fun e w'=>∃v',e=.returned v'∧gm w w' v.ownBlock∧w'.ownsRow B (ρ.t 3) 1 v' (n+1) (cs.take i++ [Value.int .i64 x]++cs.drop i)∧∀b,v'.ownBlock=some b→v.ownBlock=some b∨w.heap.size≤b:=by
 obtain⟨nt,jD⟩:=jD
 rw[cG] at nt
 have zN:∀j u,([.int .i64 x]:List Value)[j]? =some u→w.cell? ⟨vb,0+j,none⟩=some u:=fun j u hj=>by
  cases j with
  |zero=>rw[cell_of hv];simpa [hx] using hj
  |succ j=>simp at hj
 have V3:∀u∈([.int .i64 x]:List Value),u.oneCell'=true:=fun u hu=>by simp at hu;subst hu;rfl
 have W0:(cs.take i++ [Value.int .i64 x]++cs.drop i).length=(n+1)*1:=by simp;omega
 have B3:(1000001:Nat)≤maxLen:=by decide
 have hmx:maxLen≤9223372036854775807:=by decide
 have MY:∀(c:Nat),n+1≤grownCap w (n+1) c (ρ.t 3)∧grownCap w (n+1) c (ρ.t 3)≤maxLen:=fun c=>⟨grownCap_ge _ _ _ _,grownCap_le_maxLen _ _ _ _ aG⟩
 rcases jD with ⟨rfl,rfl⟩|⟨b,cap,cur,rfl,hBb,hb,Xa,Lx,sE,yH⟩
 ·obtain rfl:i=0:=by omega
  obtain rfl:cs=[]:=bf nt
  refine(Any2.slices_Insert_int_end_grow L none 0 0 vb 0 1 vc [] [Value.int .i64 x] w aG aG aG aG rfl rfl (fun _=>rfl) (fun a ha=>by cases ha) zN V3).mono fun e w' ⟨he,hw⟩=>⟨_,he,?_,?_,fun b hb=>?_⟩
  ·rw[hw];exact(gm.drew w _).trans (gm.alloc _ _ _)
  ·have hh:=heap_alloc_new w.drew (.cells ((([]:List Value)++ [Value.int .i64 x]).toArray++Builtin.zeroCells (Value.int .i64 0).cells (grownCap w (0+1) 0 (ρ.t 3) - (0+1))) (ρ.t 3))
   rw[← hw] at hh
   refine⟨by simp,.inr ⟨w.heap.size,_,_,rfl,hB,hh,(MY 0).1,(MY 0).2,?_,?_⟩⟩
   ·have:=(MY 0).1
    simp only[cY,kP,cZ,bV,bU,cb];omega
   ·simp
  ·cases hb;exact .inr (aM _)
 ·rw[cG] at sE yH
  have D0:=B5 b rfl
  have ot:∀j,j<n→cur[j]? =cs[j]?:=fun j hj=>by
   rw[← yH,bC,if_pos hj,bA]
  have jZ:∀j u,cs[j]? =some u→w.cell? ⟨b,0+j,none⟩=some u:=fun j u hj=>by
   rw[a6,cell_of hb,ot j (by have:=(aT.1 hj).1;omega)];exact hj
  by_cases nf:i=n
  ·subst nf
   have B6:cs.take i++ [Value.int .i64 x]++cs.drop i=cs++ [Value.int .i64 x]:=by
    rw[cE aG,List.drop_eq_nil_of_le aG,List.append_nil]
   by_cases oL:i+1≤cap
   ·refine(Any2.slices_Insert_int_end_room L b 0 i cap vb 0 1 vc [Value.int .i64 x] w aG oL aG rfl (fun j hj=>by rw[cell_of hb,aK aG];rfl) (fun j hj=>lq hb _) zN V3).mono fun e w' ⟨he,hw⟩=>⟨_,he,?_,?_,fun b' js=> .inl js⟩
    ·rw[hw];exact gm.setCells b _ _ w
    ·obtain⟨c,c1,c2,c3⟩:=jU [Value.int .i64 x] (0+i) w cur hb
     refine⟨W0,.inr ⟨b,cap,c,rfl,hBb,by rw[hw];exact c1,oL,Lx,by omega,?_⟩⟩
     rw[cG]
     refine uB aG (fun j hj=>?_) (by omega)
     rw[c3 j,Bs aG]
     by_cases Ed:j<i
     ·rw[if_neg (by simp;omega),if_pos Ed,ot j Ed]
     ·obtain rfl:j=i:=by omega
      rw[if_pos (by simp;omega),if_neg Ed,if_pos rfl];simp
   ·refine(Any2.slices_Insert_int_end_grow L (some ⟨b,0,none⟩) i cap vb 0 1 vc cs [Value.int .i64 x] w aG Xa aG aG nt rfl (fun h=>by cases h) (fun a ha j u hj=>by cases ha;rw[Addr.add_lit];exact jZ j u hj) zN V3).mono fun e w' ⟨he,hw⟩=>⟨_,he,?_,?_,fun b' js=>?_⟩
    ·rw[hw];exact(gm.drew w _).trans (gm.alloc _ _ _)
    ·have hh:=heap_alloc_new w.drew (.cells ((cs++ [Value.int .i64 x]).toArray++Builtin.zeroCells (Value.int .i64 0).cells (grownCap w (i+1) cap (ρ.t 3) - (i+1))) (ρ.t 3))
     rw[← hw] at hh
     refine⟨W0,.inr ⟨w.heap.size,_,_,rfl,hB,hh,(MY cap).1,(MY cap).2,?_,?_⟩⟩
     ·have:=(MY cap).1
      simp only[cY,kP,cZ,bV,bU,cb];omega
     ·rw[B6,Array.toList_append,cG,List.take_append_of_le_length (by simp;omega),cE (by simp;omega)]
    ·cases js;exact .inr (aM _)
  ·by_cases oL:n+1≤cap
   ·refine(Any2.slices_Insert_int_shift L b 0 n cap i vb 0 1 vc cs [Value.int .i64 x] w aG aG oL aG D0 nt rfl jZ (fun j hj=>by rw[a6,cell_of hb,aK aG];rfl) (fun j hj=>lq hb _) zN M1 V3 (ρ.t 3) (ρ.t 3) curv.size cur.size (by unfold World.shape?;rw[hv]) (by unfold World.shape?;rw[hb]) aG (lq hv _) (lq hv _)).mono fun e w' ⟨he,hw⟩=>⟨_,he,?_,?_,fun b' js=> .inl js⟩
    ·rw[hw];exact((gm.drew w _).trans (gm.setCells b _ _ _)).trans (gm.setCells b _ _ _)
    ·obtain⟨c,c1,c2,c3⟩:=jU (cs.drop i) (0+(i+1)) w.drew cur hb
     obtain⟨d,d1,d2,d3⟩:=jU [Value.int .i64 x] (0+i) _ c c1
     refine⟨W0,.inr ⟨b,cap,d,rfl,hBb,by rw[hw];exact d1,oL,Lx,by omega,?_⟩⟩
     rw[cG]
     refine uB aG (fun j hj=>?_) (by omega)
     rw[d3 j,Bs aG]
     by_cases Ed:j<i
     ·rw[if_neg (by simp;omega),c3 j,if_neg (by simp;omega),if_pos Ed,ot j aG]
     ·rw[if_neg Ed]
      by_cases TR:j=i
      ·subst TR
       rw[if_pos (by simp;omega),if_pos rfl];simp
      ·rw[if_neg (by simp;omega),if_neg TR,c3 j,if_pos (by simp;omega),bD]
       congr 1;omega
   ·refine(Any2.slices_Insert_int_grow L b 0 n cap i vb 0 1 vc cs [Value.int .i64 x] w aG aG Xa aG aG nt rfl jZ zN M1 V3).mono fun e w' ⟨he,hw⟩=>⟨_,he,?_,?_,fun b' js=>?_⟩
    ·rw[hw]
     exact((gm.alloc w _ _).fresh ((gm.drew _ _).trans (gm.setCells w.heap.size _ _ _)) (aM _)).fresh ((gm.drew _ _).trans (gm.setCells w.heap.size _ _ _)) (aM _)
    ·have hg:=MY cap
     obtain⟨c,c1,c2,c3⟩:=jU [Value.int .i64 x] i (w.alloc (.cells ((cs.take i).toArray++Builtin.zeroCells (Value.int .i64 0).cells (n+1 - i)++Builtin.zeroCells (Value.int .i64 0).cells (grownCap w (n+1) cap (ρ.t 3) - (n+1))) (ρ.t 3))).drew _ (heap_alloc_new w _)
     obtain⟨d,d1,d2,d3⟩:=jU (cs.drop i) (i+1) (World.drew (World.setCells _ w.heap.size i [Value.int .i64 x])) c c1
     refine⟨W0,.inr ⟨w.heap.size,_,d,rfl,hB,by rw[hw];exact d1,hg.1,hg.2,?_,?_⟩⟩
     ·rw[d2,c2];simp [kP];omega
     have mX:d.size=grownCap w (n+1) cap (ρ.t 3):=by rw[d2,c2];simp [kP];omega
     have YX:c.size=grownCap w (n+1) cap (ρ.t 3):=by omega
     rw[cG]
     refine uB aG (fun j hj=>?_) (by omega)
     rw[d3 j,Bs aG]
     by_cases Ed:j<i
     ·rw[if_neg (by simp;omega),c3 j,if_neg (by simp;omega),if_pos Ed]
      rw[cd (by simp;omega),cd (by simp;omega)]
      simp [Ed]
     ·rw[if_neg Ed]
      by_cases TR:j=i
      ·subst TR
       rw[if_neg aG,if_pos rfl,c3 j,if_pos (by rw[← YX,c2] at hg;simp at hg ⊢;omega)];simp
      ·rw[if_pos (by simp;omega),if_neg TR,bD]
       congr 1;omega
    ·cases js;exact .inr (aM _)
variable {g:eY} {κ:Kp} {w:World}
theorem OF {ρ:Ren} (L:Lays2.n21 P ρ) (Xb:∀vals w,(callFunc (ρ.f 21) vals).run P w=.ok (.enter (ρ.f 21) vals) w) (a j n0:Nat) (haj:aI a j=false) (kQ:wA n0 [(a,none),(j,none)]=true) (us:Nat→Value) (T:Nat→List Int) (k i:Nat) (x:Int) (hi:i≤(T k).length) (hl:(T k).length≤1000000):
  Hi P (ρ.f 21) n0 [(a,some (.fm ⟨ρ.t 3,1⟩ (pA us T))),(j,some .row)] [.pv (.lit (us k)),eU (i:Nat),.own j (ρ.t 3) 1 [[.lit (vI x)]]] (fun v:Value=>v.oneCell'=true)
   (fun v=>[(a,some (.fm ⟨ρ.t 3,1⟩ (pA (iC us k v) (iC T k ((T k).take i++ [x]++(T k).drop i))))),(j,some .row)]) (fun v=> .pv (.lit v)):=by
 have gz:a≠j:=fun e=>by subst e;simp at haj
 refine⟨Xb,fun g κ w vals Gx jz Tb r hs gp=>?_⟩
 have TK:(XS [(a,some (.fm ⟨ρ.t 3,1⟩ (pA us T))),(j,some .row)] n0).ob a=some (.fm ⟨ρ.t 3,1⟩ (pA us T)):=by
  show fc _ a=_
  rw[fj,if_pos rfl]
 obtain⟨v0,v1,v2,rfl⟩:∃v0 v1 v2,vals= #[v0,v1,v2]:=by
  rcases vals with ⟨l⟩
  match l,hs with
  |[p,q,r],_=>exact⟨p,q,r,rfl⟩
 have h0:=(gp 0 v0 _ rfl rfl).lit
 have h1:=(gp 1 v1 _ rfl rfl).lit
 have h2:=(gp 2 v2 _ rfl rfl).jt
 subst h0 h1
 obtain⟨xs,⟨F9,jD⟩,TE,QW⟩:=h2.row
 obtain⟨u,hu,P_⟩:=QW 0 0 (.lit (vI x)) rfl
 obtain rfl:u=vI x:=by cases P_;rfl
 rcases jD with ⟨_,hh⟩|⟨vb,vc,curv,rfl,hB,hvh,WX,hvm,zN,hvt⟩
 ·exact absurd hh (by simp)
 have Ht:κ j=some vb:=h2.yD vb rfl
 have XY:curv[0]? =some (vI x):=by
  have:=congrArg (·[0]?) hvt
  rw[bC,if_pos (by simp),bA] at this
  exact this.trans hu
 have hp:=tS (e:=ρ.t 3) r TK k
 have sB:=((r.obj a _ TK).2.1 k).2.2.2
 have hlen:(pA us T k).2.length=(T k).length:=by show((T k).map vI).length=_;rw[aX]
 rw[hlen] at hp
 have B5:∀b,(us k).ownBlock=some b→vb≠b:=fun b hb e=>by
  subst e
  refine r.fr.kZ (i:=j) ⟨.row,?_⟩ Ht ⟨a,((r.obj a _ TK).2.1 k).2.2.1 vb hb⟩
  show fc _ j=_
  rw[fj,if_neg gz,fj,if_pos rfl]
 refine(EL L (x:=x) (vc:=vc) hp r.hB hi hl sB B5 hvh XY).mono fun e w' ⟨v',he,ht,hX,il⟩=>?_
 have B6:((T k).map vI).take i++ [Value.int .i64 x]++((T k).map vI).drop i=((T k).take i++ [x]++(T k).drop i).map vI:=by
  rw[cV,cV,List.map_take,List.map_drop];rfl
 have rU:(((T k).take i++ [x]++(T k).drop i).map vI).length=(T k).length+1:=by simp;omega
 obtain⟨κ',r',_⟩:=r.z7 TK (k:=k) ht (v':=v') (ys:=((T k).take i++ [x]++(T k).drop i).map vI) (by
  rw[← B6]
  have e1:nK ⟨ρ.t 3,1⟩ (((T k).map vI).take i++ [Value.int .i64 x]++((T k).map vI).drop i)=(T k).length+1:=by rw[B6];exact rU
  rw[e1];exact hX) (by rw[rU];omega) (fun u hu=>by obtain⟨y,_,rfl⟩:=bt.1 hu;rfl) il
 rw[Di us T k v' _ rfl] at r'
 have jo:∀n,fc [(a,some (Ob.fm ⟨ρ.t 3,1⟩ (pA (iC us k v') (iC T k ((T k).take i++ [x]++(T k).drop i))))),(j,some .row)] n=((XS [(a,some (.fm ⟨ρ.t 3,1⟩ (pA us T))),(j,some .row)] n0).gl a (some (.fm ⟨ρ.t 3,1⟩ (pA (iC us k v') (iC T k ((T k).take i++ [x]++(T k).drop i)))))).ob n:=fun n=>by
  rw[iG]
  show _=if a=n then _ else fc _ n
  rw[fj,fj (i:=a)]
  by_cases e:a=n
  ·rw[if_pos e,if_pos e]
  ·rw[if_neg e,if_neg e,if_neg e]
 refine⟨v',κ',⟨?_,v',he,.pv (.lit _)⟩,Rel.congr (δ:=(XS [(a,some (.fm ⟨ρ.t 3,1⟩ (pA us T))),(j,some .row)] n0).gl a _) rfl rfl (fun _=>rfl) jo r',fun n b hn=>by simp [ir] at hn⟩
 rcases hX.2 with ⟨rfl,h⟩|⟨b,cap,cur,rfl,_⟩
 ·rfl
 ·rfl
end Go.Ab
/- Rows of rows of relations,told whole again:two pools are given up. -/
namespace Go.Ab
open Go Go.RowKit
variable {P:Program} {g:eY} {δ:DS} {κ:Kp} {a:Act} {w:World} {Q:Exit→DS→Prop}
def iZ:qf:=fun _=>(.slice none 0 0,[])
def LZ (l:List Int):PV:=.slice 1 (l.map fun x=>[.lit (vI x)])
def AF (n:Nat) (Fs:Nat→Nat) (ar:Nat→Int) (T:Nat→List Int):PV:=.slice 1 ((a7 n).map fun s=>[.slice 2 ((a7 (Fs s)).map fun f=>[.lit (vI (ar f)),LZ (T (8*s+f))])])
theorem Lp {N:Nat→Prop} {e:TypeId} {B k n:Nat} {v:Value} {us:List Value} {e7:List (List PV)} (h:w.ownsRow B e k v n us) (hk:0<k) (hl:e7.length=n) (hle:n≤140737488355328) (Yx:∀c∈e7,c.length=k) (hN:∀b,v.ownBlock=some b→N b) (h1:∀u∈us,u.oneCell'=true)
  (hr:∀i j p,cellAt e7 i j=some p→∃u,us[i*k+j]? =some u∧RP N w u p):RP N w v (.slice k e7):=by
 have nt:∀i j p,cellAt e7 i j=some p→i<n∧j<k:=fun i j p hp=>by
  unfold cellAt at hp
  rw[Option.bind_eq_some_iff] at hp
  obtain⟨c,h2,h3⟩:=hp
  have h4:=(aT.1 h2).1
  have h5:=(aT.1 h3).1
  have h6:=Yx c (aR h2)
  omega
 rcases h.2 with ⟨rfl,rfl⟩|⟨b,cap,cur,rfl,hB,hh,Xq,Lx,sE,yH⟩
 ·have he:e7=[]:=bf hl
  subst he
  exact .slice 0 0 (fun _ _=>vI 0) rfl (aM _) (Nat.zero_le _) (fun h=>absurd rfl h) Yx (fun i j p hp=>by simp [cellAt] at hp) (fun i j p hp=>by simp [cellAt] at hp)
 ·have jZ:∀i j p,cellAt e7 i j=some p→w.cell? ⟨b,i*k+j,none⟩=some ((us[i*k+j]?).getD (vI 0)):=fun i j p hp=>by
   obtain⟨u,hu,_⟩:=hr i j p hp
   rw[cell_of hh,hu,← bA]
   have ft:=(aT.1 hu).1
   have:=congrArg (·[i*k+j]?) yH
   simp only[hu] at this
   rw[bC] at this
   split at this
   ·exact this
   ·cases this
  refine .slice b 0 (fun i j=>(us[i*k+j]?).getD (vI 0)) hl Xq hle (fun _=>⟨rfl,hN b rfl,iM hh⟩) Yx (fun i j p hp=>⟨?_,?_⟩) (fun i j p hp=>?_)
  ·rw[a6];exact jZ i j p hp
  ·obtain⟨u,hu,_⟩:=hr i j p hp
   rw[hu];exact h1 u (aR hu)
  ·obtain⟨u,hu,h2⟩:=hr i j p hp
   rw[hu];exact h2
theorem Rel.xG (r:Rel g δ κ a w) {i iA iB c n:Nat} {tA tB:TypeId} {us hs:Nat→Value} {T:Nat→List Int} {ls:Nat→List (Int×Value)} {Fs:Nat→Nat} {ar:Nat→Int} {cs:List AV} (hb:δ.ob i=some (.box cs)) (hA:δ.ob iA=some (.fm ⟨tA,1⟩ (pA us T))) (hB:δ.ob iB=some (.fm ⟨tB,2⟩ (rT hs ls)))
  (hAB:iA≠iB) (hc:cs[c]? =some (.pv (.slice 1 (jD n hs)))) (Hz:∀s,s<n→ls s=(a7 (Fs s)).map fun f=>(ar f,us (8*s+f))):
  ∃κ',Rel g (((δ.gl iA (some (.fm ⟨tA,1⟩ iZ))).gl iB (some (.fm ⟨tB,2⟩ iZ))).gl i (some (.box (cs.set c (.pv (AF n Fs ar T)))))) κ' a w:=by
 have hiA:i≠iA:=by rintro rfl;rw[hb] at hA;cases hA
 have hiB:i≠iB:=by rintro rfl;rw[hb] at hB;cases hB
 let κ':Kp:=⟨κ.f,fun j b=>κ.F j b∧j≠iA∧j≠iB⟩
 let δ1:=((δ.gl iA (some (.fm ⟨tA,1⟩ iZ))).gl iB (some (.fm ⟨tB,2⟩ iZ))).gl i (some (.box (cs.set c (.pv (AF n Fs ar T)))))
 have jo:∀j,δ1.ob j=if i=j then some (.box (cs.set c (.pv (AF n Fs ar T)))) else if iB=j then some (.fm ⟨tB,2⟩ iZ) else if iA=j then some (.fm ⟨tA,1⟩ iZ) else δ.ob j:=fun j=>by
  show DS.ob _ j=_
  rw[iG,iG,iG]
 have fH:∀j,δ1.live j↔δ.live j:=fun j=>by
  unfold DS.live
  rw[jo]
  by_cases e1:i=j
  ·subst e1;simp [hb]
  ·rw[if_neg e1]
   by_cases e2:iB=j
   ·subst e2;simp [hB]
   ·rw[if_neg e2]
    by_cases e3:iA=j
    ·subst e3;simp [hA]
    ·rw[if_neg e3]
 have oy:∀j,δ1.lr j↔δ.lr j:=fun j=>by
  unfold DS.lr
  rw[jo]
  by_cases e1:i=j
  ·subst e1;simp [hb]
  ·rw[if_neg e1]
   by_cases e2:iB=j
   ·subst e2;simp [hB]
   ·rw[if_neg e2]
    by_cases e3:iA=j
    ·subst e3;simp [hA]
    ·rw[if_neg e3]
 have uu:∀j,δ.lb j→δ1.lb j:=by
  rintro j ⟨o,h1,h2⟩
  unfold DS.lb
  rw[jo]
  by_cases e1:i=j
  ·rw[if_pos e1];exact⟨_,rfl,rfl⟩
  ·rw[if_neg e1]
   by_cases e2:iB=j
   ·rw[if_pos e2];exact⟨_,rfl,rfl⟩
   ·rw[if_neg e2]
    by_cases e3:iA=j
    ·rw[if_pos e3];exact⟨_,rfl,rfl⟩
    ·rw[if_neg e3];exact⟨o,h1,h2⟩
 have G:j6 (δ.cx g κ) w (δ1.cx g κ') w:=
  {B:=rfl,size:=aM _
   N:=fun b _ h2=>⟨⟨⟨h2.1.1,fun⟨j,hj⟩=>h2.1.2 ⟨j,hj.1⟩⟩,fun j hj=>h2.2 j ((fH j).1 hj)⟩,rfl⟩
   Lr:=fun j hj=>⟨(oy j).2 hj,rfl,fun _ _=>rfl⟩
   Lb:=fun j hj=>⟨uu j hj,rfl⟩}
 have hN:∀ip b,(ip=iA∨ip=iB)→κ.F ip b→(δ1.cx g κ').N b:=fun ip b hip hF=>by
  obtain⟨h1,h2,h3,h4,h5⟩:=r.fr.2 ip b hF
  refine⟨⟨r.N0 b h1.1 h3,fun⟨j,hj,hjA,hjB⟩=>?_⟩,fun j hj=>h4 j ((fH j).1 hj)⟩
  have:=h5 j hj
  rcases hip with rfl|rfl
  ·exact hjA this
  ·exact hjB this
 have hrA:∀k,RP (δ1.cx g κ').N w (us k) (LZ (T k)):=fun k=>by
  obtain⟨h1,h2,h3,h4⟩:=(r.obj iA _ hA).2.1 k
  have hlen:((T k).map vI).length=(T k).length:=aX _
  have h2:((T k).map vI).length≤140737488355328:=h2
  rw[hlen] at h2
  have h1:w.ownsRow g.B tA 1 (us k) ((T k).map vI).length ((T k).map vI):=h1
  rw[hlen] at h1
  refine Lp h1 aG (by simp) h2 (fun c hc=>by obtain⟨x,_,rfl⟩:=bt.1 hc;rfl) (fun b hb=>hN iA b (.inl rfl) (h3 b hb)) h4 (fun i j p hp=>?_)
  unfold cellAt at hp
  rw[aY] at hp
  cases hx:(T k)[i]? with
  |none=>rw[hx] at hp;simp at hp
  |some x=>
   rw[hx] at hp
   cases j with
   |zero=>
    have hp:some (PV.lit (vI x))=some p:=hp
    cases hp
    exact⟨vI x,by rw[cG,a8,aY,hx];rfl,.lit _⟩
   |succ j=>simp at hp
 have hrB:∀s,s<n→RP (δ1.cx g κ').N w (hs s) (.slice 2 ((a7 (Fs s)).map fun f=>[.lit (vI (ar f)),LZ (T (8*s+f))])):=fun s Is=>by
  have h1:=pH r hB s
  obtain⟨_,h2,h3,h4⟩:=(r.obj iB _ hB).2.1 s
  have h2:(kg (ls s)).length≤140737488355328:=h2
  have h4:∀u∈kg (ls s),u.oneCell'=true:=h4
  have hl:(ls s).length=Fs s:=by rw[Hz s Is];simp
  rw[l9] at h2
  refine Lp h1 aG (by rw[hl];simp) aG (fun c hc=>by obtain⟨x,_,rfl⟩:=bt.1 hc;rfl) (fun b hb=>hN iB b (.inr rfl) (h3 b hb)) h4 (fun f j p hp=>?_)
  unfold cellAt at hp
  rw[aY] at hp
  by_cases hf:f<Fs s
  ·rw[bd hf] at hp
   have hc:=tN (ls s) f (by omega)
   have hg:(ls s)[f]'(by omega)=(ar f,us (8*s+f)):=by simp [Hz s Is]
   rw[hg] at hc
   match j,hp with
   |0,hp=>
    have hp:some (PV.lit (vI (ar f)))=some p:=hp
    cases hp
    exact⟨_,by rw[a8,bQ];exact hc.1,.lit _⟩
   |1,hp=>
    have hp:some (LZ (T (8*s+f)))=some p:=hp
    cases hp
    exact⟨_,by rw[bQ];exact hc.2,hrA _⟩
   |j+2,hp=>simp at hp
  ·rw[cB (by simp;omega)] at hp;simp at hp
 refine⟨κ',?_⟩
 exact
  {n:=r.n,dfr:=r.dfr
   env:=fun j=>G.ra (r.env j)
   obj:=fun j x h=>by
    rw[jo] at h
    by_cases e1:i=j
    ·subst e1
     rw[if_pos rfl] at h
     cases h
     obtain⟨b,cc,e,h1,h2,h3,h4⟩:=r.obj i _ hb
     refine⟨b,cc,e,h1,h2,by rw[h3,cL],fun k u av h5 h6=>?_⟩
     rw[List.getElem?_set] at h6
     by_cases ek:c=k
     ·subst ek
      rw[if_pos rfl] at h6
      split at h6
      ·cases h6
       obtain⟨h7,h8⟩:=h4 c u _ h5 hc
       refine⟨.pv ?_,h8⟩
       have h7:=h7.kf
       generalize Nc:PV.slice 1 (jD n hs)=ev at h7
       cases h7 with
       |slice b' off vs hl p_ Ju ha hk hcc hr=>
        cases Nc
        rw[Go.Ab.tI] at hl
        refine .slice b' off vs (by simp [hl]) p_ Ju (fun gz=>?_) (fun c hc=>by obtain⟨x,_,rfl⟩:=bt.1 hc;rfl) (fun s j p hp=>?_) (fun s j p hp=>?_)
        ·have Zc:jD n hs≠ []:=by
          intro he
          have:=congrArg List.length he
          rw[Go.Ab.tI] at this
          have h0:n=0:=this
          subst h0
          exact gz rfl
         obtain⟨q1,q2,q3⟩:=ha Zc
         exact⟨q1,(G.N b' q3 q2).1,q3⟩
        all_goals
         unfold cellAt at hp
         rw[aY] at hp
         by_cases gZ:s<n
         ·rw[bd gZ] at hp
          have nt:cellAt (jD n hs) s 0=some (.lit (hs s)):=by unfold cellAt;rw[Dd _ gZ];rfl
          cases j with
          |zero=>
           have hp:some (PV.slice 2 ((a7 (Fs s)).map fun f=>[.lit (vI (ar f)),LZ (T (8*s+f))]))=some p:=hp
           cases hp
           have q1:=hr s 0 _ nt
           have q2:=hcc s 0 _ nt
           have q3:vs s 0=hs s:=(RA.pv (C:=δ.cx g κ) q1).lit
           first|exact q2|(rw[q3];exact hrB s gZ)
          |succ j=>simp at hp
         ·rw[cB (by simp;omega)] at hp;simp at hp
       |_=>cases Nc
      ·cases h6
     ·rw[if_neg ek] at h6
      obtain⟨h7,h8⟩:=h4 k u av h5 h6
      exact⟨G.ra h7,h8⟩
    ·rw[if_neg e1] at h
     by_cases e2:iB=j
     ·subst e2
      rw[if_pos rfl] at h
      cases h
      exact⟨(r.obj iB _ hB).1,fun k=>⟨(by rw[show nK ⟨tB,2⟩ (iZ k).2=0 from by simp [nK,iZ]];exact w.ownsRow_nil _ _ _),by simp [iZ],fun b hb=>by simp [iZ,Value.ownBlock] at hb,fun u hu=>by simp [iZ] at hu⟩,fun k k' b hb=>by simp [iZ,Value.ownBlock] at hb⟩
     ·rw[if_neg e2] at h
      by_cases e3:iA=j
      ·subst e3
       rw[if_pos rfl] at h
       cases h
       exact⟨(r.obj iA _ hA).1,fun k=>⟨w.ownsRow_nil _ _ _,by simp [iZ],fun b hb=>by simp [iZ,Value.ownBlock] at hb,fun u hu=>by simp [iZ] at hu⟩,fun k k' b hb=>by simp [iZ,Value.ownBlock] at hb⟩
      ·rw[if_neg e3] at h
       exact(r.obj j x h).kY G rfl (fun _ _=>rfl) fun b h2 _=>⟨⟨h2,fun e=>e3 e.symm,fun e=>e2 e.symm⟩,rfl⟩
   inj:=fun i' j b h2 h3=>r.inj i' j b ((fH i').1 h2) ((fH j).1 h3)
   lo:=fun j b h2 h3=>r.lo j b ((fH j).1 h2) h3
   nx:=fun j h=>r.nx j ((fH j).1 h)
   wt:=fun kk hk=>⟨(r.wt kk hk).1,fun j b hj uR=>(r.wt kk hk).2 j b ((fH j).1 hj) (uR.imp (oy j).1 id)⟩
   below:=r.below,hB:=r.hB,N0:=r.N0,kI:=r.kI
   fr:=⟨fun b hb=>by
     obtain⟨h2,h3,h4⟩:=r.fr.1 b hb
     exact⟨h2,h3,fun j hj=>h4 j ((fH j).1 hj)⟩,fun j b hb=>by
     obtain⟨h4,h5,h6,h7,h8⟩:=r.fr.2 j b hb.1
     exact⟨h4,h5,h6,fun m hm=>h7 m ((fH m).1 hm),fun m hm=>h8 m hm.1⟩⟩}
theorem AW.xG {c:Code} (i iA iB k:Nat) {n:Nat} {tA tB:TypeId} {us hs:Nat→Value} {T:Nat→List Int} {ls:Nat→List (Int×Value)} (Fs:Nat→Nat) (ar:Nat→Int) {cs:List AV} (hb:δ.ob i=some (.box cs)) (hA:δ.ob iA=some (.fm ⟨tA,1⟩ (pA us T))) (hB:δ.ob iB=some (.fm ⟨tB,2⟩ (rT hs ls)))
  (hAB:iA≠iB) (hc:cs[k]? =some (.pv (.slice 1 (jD n hs)))) (Hz:∀s,s<n→ls s=(a7 (Fs s)).map fun f=>(ar f,us (8*s+f)))
  (hK:AW P g c Q (((δ.gl iA (some (.fm ⟨tA,1⟩ iZ))).gl iB (some (.fm ⟨tB,2⟩ iZ))).gl i (some (.box (cs.set k (.pv (AF n Fs ar T))))))):AW P g c Q δ:=fun κ a w r=>by
 obtain⟨κ',r'⟩:=r.xG hb hA hB hAB hc Hz
 exact hK κ' a w r'
theorem Rel.IY (r:Rel g δ κ a w) (e:PT) (h0:nK e []=0):Rel g (δ.fM (.fm e fun _=>(.slice none 0 0,[]))) (ix κ δ.nx none) a w:=by
 have rU:¬δ.live δ.nx:=fun h=>aU _ (r.nx _ h)
 have gz:∀i,δ.live i→δ.nx≠i:=fun i h e=>rU (e▸h)
 have fH:∀i,(δ.fM (.fm e fun _=>(.slice none 0 0,[]))).live i→i=δ.nx∨δ.live i:=by
  intro i ⟨o',h⟩
  rw[gh] at h
  by_cases e:δ.nx=i
  ·exact .inl e.symm
  ·rw[if_neg e] at h;exact .inr ⟨o',h⟩
 have oP:∀i b,(δ.fM (.fm e fun _=>(.slice none 0 0,[]))).live i→ix κ δ.nx none i=some b→δ.live i∧κ i=some b:=by
  intro i b hi h
  rcases fH i hi with rfl|hi
  ·simp [ix] at h
  ·simp only[ix,gz i hi,if_false] at h;exact⟨hi,h⟩
 have G:j6 (δ.cx g κ) w ((δ.fM (.fm e fun _=>(.slice none 0 0,[]))).cx g (ix κ δ.nx none)) w:=
  {B:=rfl,size:=aM _
   N:=fun b h1 h2=>⟨⟨h2.1,fun i hi e=>let ⟨h3,h4⟩:=oP i b hi e;h2.2 i h3 h4⟩,rfl⟩
   Lr:=fun i hi=>by
    have jS:=gz i (DS.iw hi)
    refine⟨?_,by show ix _ _ _ i=κ i;simp [ix,jS],fun b hκ=>rfl⟩
    show(δ.fM _).ob i=_
    rw[gh,if_neg jS];exact hi
   Lb:=fun i hi=>by
    have jS:=gz i (DS.mm hi)
    refine⟨?_,by show ix _ _ _ i=κ i;simp [ix,jS]⟩
    obtain⟨o',h1,h2⟩:=hi
    exact⟨o',by rw[gh,if_neg jS];exact h1,h2⟩}
 exact
  {n:=r.n,dfr:=r.dfr,env:=fun j=>G.ra (r.env j)
   obj:=fun i o' h=>by
    rw[gh] at h
    by_cases e:δ.nx=i
    ·rw[if_pos e] at h;cases h;subst e
     exact⟨by show ix _ _ _ _=_;simp [ix],fun k=>⟨(by rw[h0];exact w.ownsRow_nil _ _ _),by simp,fun b hb=>by simp [Value.ownBlock] at hb,fun u hu=>by simp at hu⟩,fun k k' b hb=>by simp [Value.ownBlock] at hb⟩
    ·rw[if_neg e] at h
     exact(r.obj i o' h).kY G (by show ix _ _ _ i=κ i;simp [ix,e]) (fun b hκ=>rfl) (fun b hF ft=>⟨hF,rfl⟩)
   inj:=fun i j b h1 h2 h3 h4=>let ⟨h5,h6⟩:=oP i b h1 h3;let ⟨h7,h8⟩:=oP j b h2 h4;r.inj i j b h5 h7 h6 h8
   lo:=fun i b h1 h2=>let ⟨h5,h6⟩:=oP i b h1 h2;r.lo i b h5 h6
   nx:=fun i h=>by
    show i<δ.nx+1
    rcases fH i h with rfl|h
    ·omega
    ·have:=r.nx i h;omega
   wt:=fun k hk=>⟨(r.wt k hk).1,fun i b hi jS hκ hb=>by
    obtain⟨h5,h6⟩:=oP i b hi hκ
    refine(r.wt k hk).2 i b h5 (jS.imp (fun h=>?_) id) h6 hb
    have h7:(δ.fM _).ob i=some .row:=h
    rw[gh,if_neg (gz i h5)] at h7
    exact h7⟩
   below:=r.below,hB:=r.hB,N0:=r.N0,kI:=r.kI
   fr:=r.fr.sub fun i b h1 h2=>let ⟨h5,h6⟩:=oP i b h1 h2;⟨i,h5,h6⟩}
theorem AW.Ou {c:Code} (e:TypeId) (hK:AW P g c Q (δ.fM (.fm ⟨e,2⟩ (rT (fun _=> .slice none 0 0) fun _=>[])))):AW P g c Q δ:=fun _ a w r=>hK _ a w (r.IY ⟨e,2⟩ (by simp [nK]))
end Go.Ab
/- Slices whose capacity is their length:made by x[:n:n],appended to. -/
namespace Go.Ab
open Go Go.RowKit
variable {q:Md} {P:Program} {g:eY} {δ:DS} {κ:Kp} {a:Act} {w:World}
variable {gd:Option (Tmp×Bool)} {ops:Array Oper} {rest:List Oper} {Q:Exit→DS→Prop} {dst:Option Nat} {ty:TypeId} {pos:String} {af:Array Edge}
theorem je.ll {s x:Operand} {t e:TypeId} {k bytes:Nat} {z:Value} {e7 news:List (List PV)} (hs:δ.ev s=.pv (.clip k e7)) (hx:wk δ x k news) (ht:P.underlying t=some (.slice e))
  (hi:(P.info? e).map (fun i=>(i.size,i.zero,i.bytes))=some (k,some z,bytes)) (R5:bu bytes 64=true) (mK:aI z.cells.size k=true) (nh:aV 0 k=true) (ho:fk s=true) (gi:fk x=true) (hd:gb δ.n dst=true)
  (gz:0<e7.length) (Fy:0<news.length) (hl:e7.length+news.length≤1000000000000):
  je P g ⟨dst,.call {callee:=.builtin .append,args:= #[s,x],argTypes:= #[t,t]},ty,pos,af,gd⟩ δ ((δ.fM .row).eZ dst (.own δ.nx e k (e7++news))):=by
 intro κ a w r
 have Rz:0<k:=by simpa using nh
 obtain⟨i0,mB,qo,Aw,GO⟩:∃i0,P.info? e=some i0∧i0.size=k∧i0.zero=some z∧i0.bytes=bytes:=by
  cases h:P.info? e with
  |none=>rw[h] at hi;simp at hi
  |some i0=>rw[h] at hi;simp at hi;exact⟨i0,rfl,hi.1,hi.2.1,hi.2.2⟩
 have oh:=r.ra hs ho
 obtain⟨sv,hsv⟩:∃sv,sv=a.eval s:=⟨_,rfl⟩
 rw[← hsv] at oh
 cases oh with
 |pv oh=>
  cases oh with
  | @clip sa len _ _ h0=>
   have Vz:=RP.src h0
   obtain⟨a1,c1,olds,e1,o1,o2,o3,o4⟩:=Vz.flat Rz
   obtain⟨rfl,rfl,rfl⟩:sa=a1∧len=e7.length∧len=c1:=by
    simp only[Value.slice.injEq] at e1
    exact e1
   have Gy:=hx.src r gi
   obtain⟨xa,xc,JC,M6,n1,n2,n3,n4⟩:=Gy.flat Rz
   obtain⟨b,rfl,hb⟩:=o2 (fun h=>by rw[h] at gz;simp at gz)
   obtain⟨ad,rfl,W8⟩:=n2 (fun h=>by rw[h] at Fy;simp at Fy)
   have Yc:(e7.length+news.length)*bytes≤140737488355328:=zK R5 hl
   obtain⟨v',w',gQ,hX,r7⟩:=run_append_arg_grows (P:=P) (w:=w) (ty:=ty) t e i0 z k bytes ht mB Aw qo GO (aJ mK) Rz b e7.length e7.length olds o1 hb ad news.length xc JC n1 W8 aG (by simp only[maxLen];omega) Yc
   have LQ:Below w.heap.size w w':=(Below.refl _ _).grown r7 (aM _) (fun k h=>by cases h)
   have Hu:∀b,v'.ownBlock=some b→w.heap.size≤b∧b<w'.heap.size∧∃c e,w'.heap[b]? =some (.cells c e (0,0)):=by
    intro b D0
    rcases hX.2 with ⟨rfl,_⟩|⟨b0,cap,cur,rfl,h1,h2,_⟩
    ·cases D0
    ·cases D0
     exact⟨h1,(aL.1 h2).1,cur,e,h2⟩
   obtain⟨r1,G⟩:=r.FH LQ v'.ownBlock Hu
   refine .inl ⟨_,_,_,_,se (by rw[← hsv,M6];exact gQ),.inl rfl,r1.eZ (fE hd) (.own ?_)⟩
   refine⟨by show(δ.fM .row).ob _=_;rw[gh,if_pos rfl],by rw[bV];omega,fun c hc=>(bW.1 hc).elim (Vz.hk c) (Gy.hk c),fun b D0=>by show ix _ _ _ _=_;simp [ix,D0],olds++JC,⟨by rw[@bV _ e7];exact hX.1,?_⟩,fun u hu=>(bW.1 hu).elim (o3 u) (n3 u),fun i' j p hp=>?_⟩
   ·rw[@bV _ e7]
    rcases hX.2 with h|⟨b0,cap,cur,h2,h3,h4⟩
    ·exact .inl h
    ·exact .inr ⟨b0,cap,cur,h2,aN r.hB h3,h4⟩
   ·have hkn:(δ.fM .row).cx g (ix κ δ.nx v'.ownBlock)=(δ.fM .row).cx g (ix κ δ.nx v'.ownBlock):=rfl
    rcases sd hp with ⟨ft,h2⟩|⟨hle,h2⟩
    ·obtain⟨u,h3,h4⟩:=o4 i' j p h2
     refine⟨u,?_,G.rp h4⟩
     rw[aQ (aT.1 h3).1];exact h3
    ·obtain⟨u,h3,h4⟩:=n4 (i' - e7.length) j p h2
     refine⟨u,?_,G.rp h4⟩
     have e2:i'*k+j=olds.length+((i' - e7.length)*k+j):=by
      rw[o1,← Nat.add_assoc,← Nat.add_mul]
      congr 2
      omega
     rw[e2,aS aG]
     simpa using h3
theorem a_.ll {s x:Operand} {t e:TypeId} {k bytes:Nat} {z:Value} {e7 news:List (List PV)} (hs:δ.ev s=.pv (.clip k e7)) (hx:wk δ x k news) (ht:P.underlying t=some (.slice e))
  (hi:(P.info? e).map (fun i=>(i.size,i.zero,i.bytes))=some (k,some z,bytes)) (R5:bu bytes 64=true) (mK:aI z.cells.size k=true) (nh:aV 0 k=true) (ho:fk s=true) (gi:fk x=true) (hd:gb δ.n dst=true)
  (gz:0<e7.length) (Fy:0<news.length) (hl:e7.length+news.length≤1000000000000) (hK:a_ .plain P g ops rest Q ((δ.fM .row).eZ dst (.own δ.nx e k (e7++news)))):
  a_ .plain P g ops (⟨dst,.call {callee:=.builtin .append,args:= #[s,x],argTypes:= #[t,t]},ty,pos,af,none⟩::rest) Q δ:=a_.vA rfl rfl (je.ll hs hx ht hi R5 mK nh ho gi hd gz Fy hl) hK
theorem a_.Ew {α:Type} {t e:TypeId} {x y m:Operand} {k:Nat} {f:α→List PV} {l:List α} (hx:δ.ev x=.pv (.slice k (l.map f))) (hy:δ.ev y=eU (l.length:Nat)) (hm:δ.ev m=eU (l.length:Nat)) (ht:P.underlying t=some (.slice e)) (hk:(P.info? e).map (·.size)=some k)
  (ho:fk x=true) (gi:fk y=true) (hom:fk m=true) (hd:gb δ.n dst=true) (gz:0<l.length) (hK:a_ q P g ops rest Q (δ.eZ dst (.pv (.clip k (l.map f))))):a_ q P g ops (⟨dst,.slice t x none (some y) (some m),ty,pos,af,none⟩::rest) Q δ:=
 a_.jK _ hd (fun κ a w r=>by
  have h1:=(r.ra hx ho).kf
  generalize hv:a.eval x=v at h1
  obtain⟨i0,mB,nh⟩:∃i0,P.info? e=some i0∧i0.size=k:=by
   cases h:P.info? e with
   |none=>rw[h] at hk;simp at hk
   |some i0=>rw[h] at hk;exact⟨i0,rfl,by simpa using hk⟩
  have PW:=r.lit hy gi
  have To:=r.lit hm hom
  have h0:=h1
  cases h1 with
  | @slice a0 len cap _ _ b off vs hl p_ hb ha A7 hc hr=>
   have hlen:len=l.length:=by rw[← hl];simp
   subst hlen
   obtain⟨rfl,h4,h5⟩:=ha (fun e=>by rw[List.map_eq_nil_iff] at e;rw[e] at gz;simp at gz)
   have MV:∀w,(Instr.sliceBounds true l.length cap none (some (Value.int .i64 l.length)) (some (Value.int .i64 l.length))).run P w=.ok (0,l.length,l.length) w:=by
    intro w
    have e1:(0:Int)≤(l.length:Int)∧(l.length:Int)≤(cap:Int):=by omega
    simp [Instr.sliceBounds,Instr.sliceBound,asIntOf,e1,show ¬cap<l.length by omega]
   have gQ:∀w,(execOp a.eval ⟨dst,.slice t x none (some y) (some m),ty,pos,af,none⟩).run P w=.ok (.value (.slice (some ⟨b,off,none⟩) l.length l.length)) w:=by
    intro w
    have NH:¬l.length=0:=by omega
    simp only[execOp,Instr.sliceAt,Instr.slice,run_underlying ht,hv,Sem.run_bind,Result.andThen_ok,Option.map_none,bm,PW,To,MV,sizeOf,typeInfo,Sem.run_pure]
    simp [mB,nh,NH,Addr.add_lit]
   refine⟨_,fun w' _=>gQ w',.pv (.clip ?_)⟩
   exact .slice b off vs hl (aM _) hb (fun _=>⟨rfl,h4,h5⟩) A7 hc hr) hK
end Go.Ab
