/- Maps from numbers to numbers; the address of a field, taken first. -/
import Derived.Test.YtijkecidjjicbaaGreatDoorAbL2
import Derived.Sort.Row
import Derived.Sort.Grow
import Derived.Lib.AppendZeros
import Derived.Lib.AppendStr
import Derived.LoopNIn
import Derived.WalkSmall
import Derived.Shelf.Strings.Builder1
import Derived.RecoverIn
import Derived.Laws.BytesArg
set_option linter.unusedSimpArgs false
set_option linter.unusedVariables false
namespace Go.Ab
open Go Go.RowKit
def cntI (l:List (Int×Int)):List (Int×AV):=l.map fun p=>(p.1,litI p.2)
def getL:List (Int×Int)→Int→Int
 |[],_=>0
 |(k,v)::l,m=>if m=k then v else getL l m
def setL':List (Int×Int)→Int→Int→List (Int×Int)
 |[],m,n=>[(m,n)]
 |(k,v)::l,m,n=>if m=k then (k,n)::l else (k,v)::setL' l m n
theorem lookI_cnt:∀(l:List (Int×Int)) (m:Int),(lookI (cntI l) m).getD (.pv (.lit (.int .i64 0)))=litI (getL l m)
 |[],_=>rfl
 |(k,v)::l,m=>by
  show(if m=k then some (litI v) else lookI (cntI l) m).getD _=litI (if m=k then v else getL l m)
  by_cases h:m=k
  ·rw[if_pos h,if_pos h];rfl
  ·rw[if_neg h,if_neg h];exact lookI_cnt l m
theorem updI_cnt:∀(l:List (Int×Int)) (m n:Int),updI (cntI l) m (litI n)=cntI (setL' l m n)
 |[],_,_=>rfl
 |(k,v)::l,m,n=>by
  show(if m=k then (k,litI n)::cntI l else (k,litI v)::updI (cntI l) m (litI n))=cntI (if m=k then (k,n)::l else (k,v)::setL' l m n)
  by_cases h:m=k
  ·rw[if_pos h,if_pos h];rfl
  ·rw[if_neg h,if_neg h,updI_cnt l m n];rfl
theorem getL_set:∀(l:List (Int×Int)) (m n x:Int),getL (setL' l m n) x=if x=m then n else getL l x
 |[],m,n,x=>rfl
 |(k,v)::l,m,n,x=>by
  unfold setL'
  by_cases h:m=k
  ·rw[if_pos h]
   show(if x=k then n else getL l x)=if x=m then n else (if x=k then v else getL l x)
   by_cases hx:x=m
   ·rw[if_pos hx,if_pos (hx.trans h)]
   ·rw[if_neg hx,if_neg (fun e=>hx (e.trans h.symm)),if_neg (fun e=>hx (e.trans h.symm))]
  ·rw[if_neg h]
   show(if x=k then v else getL (setL' l m n) x)=if x=m then n else (if x=k then v else getL l x)
   rw[getL_set l m n x]
   by_cases hx:x=k
   ·rw[if_pos hx,if_pos hx,if_neg (fun e=>h (e.symm.trans hx))]
   ·rw[if_neg hx,if_neg hx]
section
variable {P:Program} {g:Ghost} {δ δ':DS} {q:Md}
variable {ops:Array Oper} {rest:List Oper} {Q:Exit→DS→Prop} {dst:Option Nat} {ty:TypeId} {pos:String} {af:Array Edge}
theorem AOps.lookup_cnt {x y:Operand} {t kt et:TypeId} {i:Nat} {l:List (Int×Int)} {m:Int} (hx:δ.ev x=.mapr i) (hob:δ.ob i=some (.mp (mpI (cntI l)))) (hy:δ.ev y=litI m) (ht:P.underlying t=some (.map kt et)) (hk:P.underlying kt=some (.int .i64)) (hz:(P.info? et).bind (·.zero)=some (.int .i64 0))
  (ho:okT x=true) (ho':okT y=true) (hd:okD δ.n dst=true) (hK:AOps q P g ops rest Q (δ.putd dst (litI (getL l m)))):AOps q P g ops (⟨dst,.lookup t x y false,ty,pos,af,none⟩::rest) Q δ:=
 AOps.lookup hx hob hy ht hk hz (lookI_cnt l m) ho ho' hd hK
theorem AOps.mapUpdate_cnt {x y z:Operand} {t kt et:TypeId} {i:Nat} {l:List (Int×Int)} {m n:Int} (hx:δ.ev x=.mapr i) (hob:δ.ob i=some (.mp (mpI (cntI l)))) (hy:δ.ev y=litI m) (hz:δ.ev z=litI n) (ht:P.underlying t=some (.map kt et)) (hk:P.underlying kt=some (.int .i64))
  (ho:okT x=true) (ho':okT y=true) (hoz:okT z=true) (hd:okD δ.n dst=true) (hwt:g.wt=none)
  (hK:AOps .plain P g ops rest Q ((δ.setOb i (some (.mp (mpI (cntI (setL' l m n)))))).putd dst .any)):AOps .plain P g ops (⟨dst,.mapUpdate t x y z,ty,pos,af,none⟩::rest) Q δ:=
 AOps.eff rfl rfl (Eff.mapUpdate hx hob hy hz rfl ht hk ho ho' hoz hd (wtOk_none hwt i)) (by rw[updI_cnt];exact hK)
theorem AOps.makeCnt {t:TypeId} (hd:okD δ.n dst=true) (hK:AOps .plain P g ops rest Q ((δ.addOb (.mp (mpI (cntI [])))).putd dst (.mapr δ.nx))):AOps .plain P g ops (⟨dst,.makeMap t none,ty,pos,af,none⟩::rest) Q δ:=AOps.makeMap hd hK
theorem cnt_ids (l:List (Int×Int)) (f h:Nat→Bool):∀p∈mpI (cntI l),p.2.ids f h=true:=by
 intro p hp
 simp only[mpI,cntI,List.map_map,List.mem_map] at hp
 obtain⟨x,_,rfl⟩:=hp
 rfl
theorem WO.cnt {i:Nat} {l:List (Int×Int)} (h:δ.ob i=some (.mp (mpI (cntI l)))):WO δ δ' i (.mp (mpI (cntI l))):=.mp h (cnt_ids l _ _)
theorem WO.cntE {i:Nat} {l l':List (Int×Int)} (h:δ.ob i=some (.mp (mpI (cntI l)))) (e:l=l'):WO δ δ' i (.mp (mpI (cntI l'))):=e▸ .cnt h
variable {t n:Nat} {K:DS→Prop}
theorem inlEnds_rmapr {i:Nat} (ht:Nat.blt t HS=true) (h:δ.get t=.mapr i) (hK:K ((roundBack n δ).putd dst (.mapr i))):inlEnds P [.tmp t] n dst K .ret δ:=inlEnds_r (.one (.tmp ht h)) hK
theorem inlEnds_rclo {f:Go.Fn} {a b:List AV} (ht:Nat.blt t HS=true) (h:δ.get t=.clo f a b) (hK:K ((roundBack n δ).putd dst (.clo f a b))):inlEnds P [.tmp t] n dst K .ret δ:=inlEnds_r (.one (.tmp ht h)) hK
end
theorem Frees.fieldAddr {P:Program} {δ:DS} {dst:Option Nat} {ty:TypeId} {pos:String} {af:Array Edge} {gd:Option (Tmp×Bool)} (s:TypeId) (f k:Nat) {x:Operand} {i off:Nat} (hx:δ.ev x=.ptr i off) (hB:offB P s f k=true) (ho:okT x=true):
  Frees P ⟨dst,.fieldAddr s x f,ty,pos,af,gd⟩ δ (.ptr i (off+k)):=by
 intro g κ a w r
 unfold offB at hB
 split at hB
 ·rename_i fs hs
  split at hB
  ·rename_i fld hf
   simp only[Bool.and_eq_true,beq_iff_eq] at hB
   have hk:=Nat.eq_of_beq_eq_true hB.1
   subst hk
   have hra:=r.ra hx ho
   generalize hu:a.eval x=u at hra
   cases hra with
   |ptr hl hκ=>exact⟨_,fun w'=>by have:=run_fieldAddr (dst:=dst) (ty:=ty) (pos:=pos) (af:=af) hs hf hB.2 hu w';simpa [execOp] using this,.ptr hl hκ⟩
  ·cases hB
 ·cases hB
section
variable {P:Program} {g:Ghost} {δ:DS} {l:List Oper} {late dn:List Nat} {k:Wt} {QD:Exit→DS→Prop}
theorem AR.step2L {i j:Nat} {o p:Oper} (hl:Nat.blt dn.length l.length=true) (hr:readyIs l dn [i,j]=true) (ho:l[i]? =some o) (hp:l[j]? =some p) (hlt:lateIn late (setL l.length (j::dn))=true)
  (h:∀g':Ghost,Gs g' g→(∀j,k.2.2≤j→g'.wtOk j)→AOps .plain P g' l.toArray [o] (onlyN (AR P g k late l QD (i::dn))) δ)
  (h':∀g':Ghost,Gs g' g→g'.wt=none→AOps .plain P g' l.toArray [p] (onlyN (AR P g k late l QD (j::dn))) δ):AR P g k late l QD dn δ:=
 AR.all hl hr (by simp) fun i' hi'=>by
  have hw:∀i',∀j,k.2.2≤j→(gOf g k late (setL l.length (i'::dn))).wtOk j:=by
   intro i' j hj k' hk'
   have:(if lateIn late (setL l.length (i'::dn))=true then none else some k)=some k':=hk'
   split at this
   ·cases this
   ·cases this;exact hj
  simp only[List.mem_cons,List.not_mem_nil,or_false] at hi'
  rcases hi' with rfl|rfl
  ·exact⟨o,ho,h _ ⟨rfl,rfl,rfl⟩ (hw _)⟩
  ·exact⟨p,hp,h' _ ⟨rfl,rfl,rfl⟩ (if_pos hlt)⟩
end
end Go.Ab
/- In the midst of a region that draws its order:operations that only read are taken in one order;the watch over memory begins anew. -/
namespace Go.Ab
open Go Go.RowKit
variable {P:Program} {g:Ghost} {δ:DS} {k:Wt} {late:List Nat} {l:List Oper} {dn:List Nat} {QD:Exit→DS→Prop} {ro:Option Nat}
def directB (ops:Array Oper) (i j:Nat):Bool:=match ops[j]? with
 |some o=>o.after.any fun e=>Region.binds .any e && e.on==i
 |none=>false
theorem directB_waits {ops:Array Oper} {i j n:Nat} (h:directB ops i j=true):waitsB ops i (n+1) j=true:=by
 unfold directB at h
 unfold waitsB
 cases ho:ops[j]? with
 |none=>rw[ho] at h;cases h
 |some o=>
  rw[ho] at h
  simp only at h ⊢
  obtain⟨e,he,hb⟩:=Array.any_eq_true'.1 h
  refine Array.any_eq_true'.2 ⟨e,he,?_⟩
  simp only[Bool.and_eq_true,Bool.or_eq_true] at hb ⊢
  exact⟨hb.1,.inl hb.2⟩
def firstD (l:List Oper) (late:List Nat):List Nat→List Nat→Bool
 |[],_=>true
 |i::r,dn=>freeB l late dn i && late.all (fun j=>directB l.toArray i j||waitsB l.toArray i l.length j) && firstD l late r (i::dn)
theorem firstD_first:∀(l2 dn:List Nat),firstD l late l2 dn=true→firstB l late l2 dn=true
 |[],_,_=>rfl
 |i::r,dn,h=>by
  unfold firstD at h
  unfold firstB
  simp only[Bool.and_eq_true] at h ⊢
  refine⟨⟨h.1.1,List.all_eq_true.2 fun j hj=>?_⟩,firstD_first r _ h.2⟩
  have h1:=(List.all_eq_true.1 h.1.2) j hj
  rcases Bool.or_eq_true _ _▸h1 with h2|h2
  ·cases hl:l.length with
   |zero=>simp only[List.length_eq_zero_iff] at hl;subst hl;simp [directB] at h2
   |succ n=>exact directB_waits h2
  ·exact h2
theorem AR.reads (l2:List Nat) (hB:firstD l late l2 dn=true) (hL:lateIn late (setL l.length dn)=false) (hle:Nat.ble (l2.length+dn.length) l.length=true)
  (h:∀g':Ghost,Gs g' g→AOps .held P g' l.toArray (pick l l2) (onlyN fun δ'=>∀k':Wt,k'.2.2=δ.nx→AR P g k' late l QD (l2.reverse++dn) δ') δ):AR P g k late l QD dn δ:=by
 intro hdc κ a w r
 have hle':l2.length+dn.length≤l.length:=by simpa using hle
 have h1:=h (gOf g k late (setL l.length dn)) ⟨rfl,rfl,rfl⟩ κ a w r
 have hwt:=r.wt k (show(if lateIn late (setL l.length dn)=true then none else some k)=some k by rw[hL];rfl)
 obtain⟨k',hk⟩:∃k':Wt,k'=(w,(fun b=>b<w.heap.size∧∀i,δ.lr i→κ i≠some b),δ.nx):=⟨_,rfl⟩
 have hsub:∀listed w',Sof k' late listed w'→Sof k late listed w':=by
  intro listed w' h3 hl b hb
  obtain⟨h4,h5⟩:=hwt.1 b hb
  have h6:b<w.heap.size:=by
   rw[Array.getElem?_eq_getElem h4] at h5
   exact(Array.getElem?_eq_some_iff.1 h5).1
  have h7:k'.2.1 b:=by
   rw[hk]
   exact⟨h6,fun i hi hκ=>hwt.2 i b ⟨_,hi⟩ (.inl hi) hκ hb⟩
  have h8:=(h3 hl b h7).2
  rw[hk] at h8
  exact⟨h4,h8.trans h5⟩
 have hfrom:∀(fuel:Nat) (listed:Array Bool) (a:Act) (w':World),wpAnyL g.ro P l.toArray (postN g QD) (Sof k' late) fuel listed a w'→wpAnyL g.ro P l.toArray (postN g QD) (Sof k late) fuel listed a w':=by
  intro fuel
  induction fuel with
  |zero=>intro _ _ _ h;exact h
  |succ fuel ih=>intro listed a w' h;exact⟨h.1,fun i hi=>wpOpIn_mono (fun a' w'' h'=>⟨hsub _ _ h'.1,ih _ _ _ h'.2⟩) (h.2 i hi)⟩
 have hfu:l.length - dn.length=l2.length+(l.length - (l2.reverse++dn).length):=by simp;omega
 rw[hfu]
 have hk0:Sof k' late (setL l.length dn) w:=fun _ b hb=>by subst hk;exact⟨hb.1,rfl⟩
 refine hfrom _ _ _ _ (heldIn (ro:=g.ro) (g:=g) (QD:=QD) (late:=late) (l:=l) (P:=P) (δ0:=δ) (κ1:=κ) (w1:=w) (k:=k') (by rw[hk]) (by rw[hk]) (N:=l.length - (l2.reverse++dn).length) l2 dn a (firstD_first _ _ hB) hdc hk0 h1 (fun a' ha' hd'=>?_))
 obtain⟨δ',hq,hobj,r2⟩:=ha'
 refine hq k' (by rw[hk]) hd' κ a' w ?_
 have hob:∀i,δ'.ob i=δ.ob i:=fun i=>by unfold DS.ob;rw[hobj]
 refine Rel.rewt (g:=gOf g k late (setL l.length dn)) r2 (wt':=if lateIn late (setL l.length (l2.reverse++dn))=true then none else some k') fun k'' hk'=>?_
 split at hk'
 ·cases hk'
 ·cases hk'
  subst hk
  refine⟨fun b hb=>⟨hb.1,rfl⟩,fun i b hli hor hκ hb=>?_⟩
  rcases hor with hor|hor
  ·exact hb.2 i (by have:δ'.ob i=some .row:=hor;rw[hob] at this;exact this) hκ
  ·obtain⟨o,hli⟩:=hli
   rw[hob] at hli
   exact absurd (r.nx i ⟨o,hli⟩) (Nat.not_lt.2 hor)
end Go.Ab
/- A part of a box,loaded as a whole. -/
namespace Go.Ab
open Go Go.RowKit
inductive Sub:Nat→Nat→List AV→List AV→Prop where
 |nil {l}:Sub 0 0 l []
 |take {n a l vs}:Sub 0 n l vs→Sub 0 (n+1) (a::l) (a::vs)
 |skip {k n a l vs}:Sub k n l vs→Sub (k+1) n (a::l) vs
theorem Sub.spec {k n:Nat} {l vs:List AV} (h:Sub k n l vs):(l.drop k).take n=vs∧k+n≤l.length:=by
 induction h with
 |nil=>simp
 |take _ ih=>simp at ih ⊢;exact⟨ih.1,ih.2⟩
 |skip _ ih=>simp at ih ⊢;exact⟨ih.1,by omega⟩
variable {q:Md} {P:Program} {g:Ghost} {δ:DS} {ops:Array Oper} {rest:List Oper} {Q:Exit→DS→Prop} {dst:Option Nat} {ty:TypeId} {pos:String} {af:Array Edge}
theorem AOps.load_bs {x:Operand} {t:TypeId} {i off n:Nat} {cells vs:List AV} (hx:δ.ev x=.ptr i off) (hb:δ.ob i=some (.box cells)) (hn:(P.info? t).map (·.size)=some n) (hs:Sub off n cells vs) (ht:aggT P t n=true) (ho:okT x=true) (hd:okD δ.n dst=true)
  (hK:AOps q P g ops rest Q (δ.putd dst (.agg vs))):AOps q P g ops (⟨dst,.load t x,ty,pos,af,none⟩::rest) Q δ:=
 AOps.load_bn (n:=n) hx hb ht (by simpa using hs.spec.2) ho hd (by rw[hs.spec.1];exact hK)
theorem AOps.pickBt {x y z:Operand} {b:Bool} {v:PV} (hx:δ.ev x=litB b) (hy:δ.ev y=.pv v) (hb:b=true) (ho:okT x=true) (hoy:okT y=true) (hoz:okT z=true) (hd:okD δ.n dst=true)
  (hK:AOps q P g ops rest Q (δ.putd dst (.pv v))):AOps q P g ops (⟨dst,.pick x y z,ty,pos,af,none⟩::rest) Q δ:=AOps.pick_lt (hb▸hx) hy ho hoy hoz hd hK
theorem AOps.pickBf {x y z:Operand} {b:Bool} {v:PV} (hx:δ.ev x=litB b) (hz:δ.ev z=.pv v) (hb:b=false) (ho:okT x=true) (hoy:okT y=true) (hoz:okT z=true) (hd:okD δ.n dst=true)
  (hK:AOps q P g ops rest Q (δ.putd dst (.pv v))):AOps q P g ops (⟨dst,.pick x y z,ty,pos,af,none⟩::rest) Q δ:=AOps.pick_lf (hb▸hx) hz ho hoy hoz hd hK
variable {gd:Option (Tmp×Bool)}
end Go.Ab
/- The checks over a region's orders,quick for the kernel:what is listed lies as the bits of one number. -/
namespace Go.Ab
open Go Go.RowKit
variable {P:Program} {g:Ghost} {δ:DS} {k:Wt} {late:List Nat} {l:List Oper} {dn:List Nat} {QD:Exit→DS→Prop}
def maskL (n:Nat):List Nat→Nat
 |[]=>0
 |i::d=>bif Nat.blt i n then maskL n d|||(1<<<i) else maskL n d
theorem maskL_spec {n:Nat}:∀{d:List Nat} {j:Nat},(maskL n d).testBit j=(setL n d).getD j false
 |[],j=>by
  show Nat.testBit 0 j=(Array.replicate n false).getD j false
  rw[Nat.zero_testBit]
  simp [Array.getD_eq_getD_getElem?,Array.getElem?_replicate]
  split<;>rfl
 |i::d,j=>by
  show(bif Nat.blt i n then maskL n d|||(1<<<i) else maskL n d).testBit j=((setL n d).setIfInBounds i true).getD j false
  rw[getD_set]
  have hsz:(setL n d).size=n:=by
   clear j
   induction d with
   |nil=>simp [setL]
   |cons i d ih=>simp [setL,ih]
  by_cases hi:i<n
  ·have hb:Nat.blt i n=true:=by simpa using hi
   rw[hb,cond_true,Nat.testBit_or,maskL_spec,Nat.one_shiftLeft,Nat.testBit_two_pow]
   by_cases hij:i=j
   ·subst hij;simp [hsz,hi]
   ·simp [hij]
  ·have hb:Nat.blt i n=false:=by
    cases h:Nat.blt i n with
    |false=>rfl
    |true=>exact absurd (by simpa using h) hi
   rw[hb,cond_false,maskL_spec]
   by_cases hij:i=j
   ·subst hij
    rw[if_pos rfl,if_neg (by omega)]
    simp [Array.getD_eq_getD_getElem?,Array.getElem?_eq_none (by omega:(setL n d).size≤i)]
   ·rw[if_neg hij]
def afterM (m:Nat) (o:Oper):Bool:=o.after.toList.all fun e=>!Region.binds .any e||m.testBit e.on
def readyM (m:Nat):Nat→List Oper→List Nat
 |_,[]=>[]
 |j,o::r=>bif !m.testBit j && afterM m o then j::readyM m (j+1) r else readyM m (j+1) r
theorem readyM_filter (m:Nat):∀(l:List Oper) (j:Nat),readyM m j l=((List.range l.length).filter fun i=>!m.testBit (j+i) && ((l[i]?).map (afterM m)).getD false).map (j+·)
 |[],_=>rfl
 |o::r,j=>by
  rw[List.length_cons,List.range_succ_eq_map,List.filter_cons,readyM,readyM_filter m r (j+1)]
  simp only[Nat.add_zero,List.getElem?_cons_zero,Option.map_some,Option.getD_some,List.filter_map]
  have e:(List.map (fun x=>j+x) (List.map Nat.succ (List.filter ((fun i=>!m.testBit (j+i) && (Option.map (afterM m) (o::r)[i]?).getD false)∘Nat.succ) (List.range r.length))))=List.map (fun x=>j+1+x) (List.filter (fun i=>!m.testBit (j+1+i) && (Option.map (afterM m) r[i]?).getD false) (List.range r.length)):=by
   rw[List.map_map]
   have e2:((fun i=>!m.testBit (j+i) && (Option.map (afterM m) (o::r)[i]?).getD false)∘Nat.succ)=(fun i=>!m.testBit (j+1+i) && (Option.map (afterM m) r[i]?).getD false):=by
    funext i
    simp only[Function.comp,Nat.succ_eq_add_one,List.getElem?_cons_succ]
    rw[show j+(i+1)=j+1+i by omega]
   rw[e2]
   apply List.map_congr_left
   intro i _
   simp only[Function.comp,Nat.succ_eq_add_one]
   omega
  cases (!m.testBit j && afterM m o) with
  |true=>simp only[cond_true,if_true,List.map_cons,Nat.add_zero];rw[e]
  |false=>simp only[cond_false,Bool.false_eq_true,if_false];rw[e]
theorem readyM_eq:Region.ready .any l.toArray (setL l.length dn)=readyM (maskL l.length dn) 0 l:=by
 rw[readyM_filter]
 unfold Region.ready
 simp only[Nat.zero_add,List.size_toArray]
 rw[show(fun x:Nat=>x)=id from rfl,List.map_id]
 apply List.filter_congr
 intro i hi
 have hil:i<l.length:=List.mem_range.1 hi
 have e1:(setL l.length dn).getD i true=(maskL l.length dn).testBit i:=by
  rw[maskL_spec]
  have hsz:(setL l.length dn).size=l.length:=by
   clear hi hil
   generalize l.length=n
   induction dn with
   |nil=>simp [setL]
   |cons i d ih=>simp [setL,ih]
  rw[Array.getD_eq_getD_getElem?,Array.getD_eq_getD_getElem?,Array.getElem?_eq_getElem (by omega)];rfl
 rw[e1]
 congr 1
 rw[List.getElem?_toArray]
 congr 2
 funext o
 unfold afterM
 rw[← Array.all_toList]
 congr 1
 funext e
 rw[maskL_spec]
theorem readyIs_M {rs:List Nat} (h:(readyM (maskL l.length dn) 0 l==rs)=true):readyIs l dn rs=true:=by
 unfold readyIs;rw[readyM_eq];exact h
def lateM (late:List Nat) (m:Nat):Bool:=late.any m.testBit
theorem lateM_eq:lateIn late (setL l.length dn)=lateM late (maskL l.length dn):=by
 unfold lateIn lateM
 congr 1
 funext j
 rw[maskL_spec]
def freeJ (ops:Array Oper) (m i:Nat) (oi:Oper):Nat→List Oper→Bool
 |_,[]=>true
 |j,o::r=>(Nat.beq j i||m.testBit j||o.after.toList.any (fun e=>Region.binds .any e && Nat.beq e.on i)||oi.apart ops o) && freeJ ops m i oi (j+1) r
theorem freeJ_spec {ops:Array Oper} {m i:Nat} {oi:Oper}:∀{l:List Oper} {j:Nat},freeJ ops m i oi j l=true→∀(x:Nat) (o:Oper),l[x]? =some o→(j+x==i||m.testBit (j+x)||(o.after.any (fun e=>Region.binds .any e && e.on==i)||oi.apart ops o))=true
 |[],_,_,x,o,h=>by simp at h
 |o'::r,j,h,x,o,hx=>by
  unfold freeJ at h
  rw[Bool.and_eq_true] at h
  cases x with
  |zero=>
   simp only[List.getElem?_cons_zero,Option.some.injEq] at hx
   subst hx
   have h1:=h.1
   simp only[Nat.add_zero]
   rw[← Array.any_toList]
   simpa [Bool.or_assoc] using h1
  |succ x=>
   rw[List.getElem?_cons_succ] at hx
   have:=freeJ_spec h.2 x o hx
   rwa [show j+1+x=j+(x+1) by omega] at this
def freeM (l:List Oper) (late:List Nat) (m:Nat) (i:Nat):Bool:=
 (readyM m 0 l).contains i && (match l[i]? with|some oi=>freeJ l.toArray m i oi 0 l|none=>false) && !late.contains i
def firstM (l:List Oper) (late:List Nat):List Nat→List Nat→Bool
 |[],_=>true
 |i::r,dn=>freeM l late (maskL l.length dn) i && late.all (fun j=>directB l.toArray i j||waitsB l.toArray i l.length j) && firstM l late r (i::dn)
def fineL (l:List Oper):Bool:=Region.noSelect l.toArray && l.all noDefer
theorem freeM_free {i:Nat} (hf:fineL l=true) (hl:Nat.blt dn.length l.length=true) (h:freeM l late (maskL l.length dn) i=true):freeB l late dn i=true:=by
 unfold fineL at hf
 unfold freeM at h
 unfold freeB
 simp only[Bool.and_eq_true] at hf h ⊢
 refine⟨⟨⟨⟨hf,by rw[readyM_eq];exact h.1.1⟩,?_⟩,h.2⟩,hl⟩
 have h2:=h.1.2
 unfold Region.free
 rw[List.getElem?_toArray]
 cases ho:l[i]? with
 |none=>rw[ho] at h2;cases h2
 |some oi=>
  rw[ho] at h2
  simp only at h2 ⊢
  rw[List.all_eq_true]
  intro j hj
  have hj':j<l.length:=by simpa using hj
  have h3:=freeJ_spec h2 j _ (List.getElem?_eq_getElem hj')
  rw[Nat.zero_add,maskL_spec] at h3
  have hsz:(setL l.length dn).size=l.length:=by
   clear hf h h2 h3 hl
   generalize l.length=n
   induction dn with
   |nil=>simp [setL]
   |cons i d ih=>simp [setL,ih]
  have e1:(setL l.length dn).getD j true=(setL l.length dn).getD j false:=by
   rw[Array.getD_eq_getD_getElem?,Array.getD_eq_getD_getElem?,Array.getElem?_eq_getElem (by omega)];rfl
  rw[e1,List.getElem?_toArray,List.getElem?_eq_getElem hj']
  exact h3
theorem firstM_first (hf:fineL l=true):∀(l2 dn:List Nat),Nat.ble (l2.length+dn.length) l.length=true→firstM l late l2 dn=true→firstD l late l2 dn=true
 |[],_,_,_=>rfl
 |i::r,dn,hle,h=>by
  unfold firstM at h
  unfold firstD
  simp only[Bool.and_eq_true] at h ⊢
  have hle':(i::r).length+dn.length≤l.length:=by simpa using hle
  simp only[List.length_cons] at hle'
  exact⟨⟨freeM_free hf (by simp;omega) h.1.1,h.1.2⟩,firstM_first hf r _ (by simp;omega) h.2⟩
theorem AR.readsM (l2:List Nat) (hf:fineL l=true) (hB:firstM l late l2 dn=true) (hL:lateM late (maskL l.length dn)=false) (hle:Nat.ble (l2.length+dn.length) l.length=true)
  (h:∀g':Ghost,Gs g' g→AOps .held P g' l.toArray (pick l l2) (onlyN fun δ'=>∀k':Wt,k'.2.2=δ.nx→AR P g k' late l QD (l2.reverse++dn) δ') δ):AR P g k late l QD dn δ:=
 AR.reads l2 (firstM_first hf _ _ hle hB) (by rw[lateM_eq];exact hL) hle h
theorem AR.doneM (hwt:g.wt=none) (hr:(readyM (maskL l.length dn) 0 l==[])=true) (h:QD .normal δ):AR P g k late l QD dn δ:=AR.done hwt (readyIs_M hr) h
theorem AR.step1M {i:Nat} {o:Oper} (hl:Nat.blt dn.length l.length=true) (hr:(readyM (maskL l.length dn) 0 l==[i])=true) (ho:l[i]? =some o)
  (h:∀g':Ghost,Gs g' g→(∀j,k.2.2≤j→g'.wtOk j)→AOps .plain P g' l.toArray [o] (onlyN (AR P g k late l QD (i::dn))) δ):AR P g k late l QD dn δ:=AR.step1 hl (readyIs_M hr) ho h
theorem AR.step1LM {i:Nat} {o:Oper} (hl:Nat.blt dn.length l.length=true) (hr:(readyM (maskL l.length dn) 0 l==[i])=true) (ho:l[i]? =some o) (hlt:lateM late (maskL l.length (i::dn))=true)
  (h:∀g':Ghost,Gs g' g→g'.wt=none→AOps .plain P g' l.toArray [o] (onlyN (AR P g k late l QD (i::dn))) δ):AR P g k late l QD dn δ:=AR.step1L hl (readyIs_M hr) ho (by rw[lateM_eq];exact hlt) h
theorem AR.step2M {i j:Nat} {o p:Oper} (hl:Nat.blt dn.length l.length=true) (hr:(readyM (maskL l.length dn) 0 l==[i,j])=true) (ho:l[i]? =some o) (hp:l[j]? =some p)
  (h:∀g':Ghost,Gs g' g→(∀j,k.2.2≤j→g'.wtOk j)→AOps .plain P g' l.toArray [o] (onlyN (AR P g k late l QD (i::dn))) δ)
  (h':∀g':Ghost,Gs g' g→(∀j,k.2.2≤j→g'.wtOk j)→AOps .plain P g' l.toArray [p] (onlyN (AR P g k late l QD (j::dn))) δ):AR P g k late l QD dn δ:=AR.step2 hl (readyIs_M hr) ho hp h h'
theorem AW.regionM {id:Nat} (l1:List Nat) (late:List Nat) {l:List Oper} (hm:P.follows .mixedOrders=true) (hwt:g.wt=none) (hf:fineL l=true) (hB:firstM l late l1 []=true) (hle:Nat.ble l1.length l.length=true)
  (h:AOps .held P g l.toArray (pick l l1) (onlyN fun δ'=>∀k:Wt,k.2.2=δ.nx→AR P g k late l QD l1.reverse δ') δ):AW P g (.region id l.toArray true) QD δ:=
 AW.regionE l1 late hm hwt (firstD_first _ _ (firstM_first hf _ _ (by simpa using hle) hB)) hle h
end Go.Ab
/- A loop's state told by what stays of the state before it and what changes. -/
namespace Go.Ab
open Go Go.RowKit
variable {P:Program} {g:Ghost} {δ:DS}
def selE (e:List (Nat×AV)):List Nat→List (Nat×AV)
 |[]=>[]
 |k::ks=>(k,look e k)::selE e ks
def selO (o:List (Nat×Option Ob)):List Nat→List (Nat×Option Ob)
 |[]=>[]
 |k::ks=>(k,lookOb o k)::selO o ks
def nxUp:List (Nat×Option Ob)→Nat→Nat
 |[],n=>n
 |(k,_)::r,n=>nxUp r (bif Nat.ble n k then k+1 else n)
namespace Nf
theorem nx0 (n:Nat):nxUp [] n=n:=rfl
theorem nx1 (k n:Nat) (v:Option Ob) (r:List (Nat×Option Ob)):nxUp ((k,v)::r) n=nxUp r (bif Nat.ble n k then k+1 else n):=rfl
def ao:List (Nat×Option Ob)→List (Nat×Option Ob)→List (Nat×Option Ob)
 |[],m=>m
 |v::r,m=>v::ao r m
theorem ao0 (m:List (Nat×Option Ob)):ao [] m=m:=rfl
theorem ao1 (v:Nat×Option Ob) (r m:List (Nat×Option Ob)):ao (v::r) m=v::ao r m:=rfl
theorem se0 (e:List (Nat×AV)):selE e []=[]:=rfl
theorem se1 (e:List (Nat×AV)) (k:Nat) (ks:List Nat):selE e (k::ks)=(k,look e k)::selE e ks:=rfl
theorem so0 (e:List (Nat×Option Ob)):selO e []=[]:=rfl
theorem so1 (e:List (Nat×Option Ob)) (k:Nat) (ks:List Nat):selO e (k::ks)=(k,lookOb e k)::selO e ks:=rfl
set_option linter.defProp false in
def lpR:=And.intro @nx0 (And.intro @nx1 (And.intro @ao0 (And.intro @ao1 (And.intro @se0 (And.intro @se1 (And.intro @so0 @so1))))))
end Nf
theorem AW.loopR {S:Type} {c:Code} {Q:Exit→DS→Prop} (ks os:List Nat) (u:S→List (Nat×AV)) (ou:S→List (Nat×Option Ob)) (I:S→Prop) (μ:S→Nat) (s0:S) {D:S→DS}
  (hD:(fun s=>(⟨δ.n,Nf.ae (u s) (selE δ.env ks),Nf.ao (ou s) (selO δ.objs os),nxUp (ou s) δ.nx⟩:DS))=D) (hs:I s0) (hw:Weak g δ (D s0))
  (round:∀s,I s→AW P g c (thenD (fun δ'=>∃s',I s'∧μ s'<μ s∧Weak g δ' (D s')) Q) (D s)):AW P g (.loop c) Q δ:=AW.loop D I μ s0 hs hw round
theorem Rd.raw {P:Program} {t e:TypeId} (ht:P.underlying t=some (.slice e)):Rd P t (fun s:Option Addr×Nat×Nat=>[.lit (.slice s.1 s.2.1 s.2.2)]) (fun _=>True):=by
 intro H en w sp fuel cs x hx _
 rcases DataW.trod_slice ht hx with ⟨rfl,rfl⟩|⟨a,len,cap,elems,rest,n,rfl,rfl,rfl,_⟩
 ·exact⟨(_,_,_),.one (.lit _) rfl,trivial⟩
 ·exact⟨(_,_,_),.one (.lit _) rfl,trivial⟩
end Go.Ab
/- Quotient and remainder of numbers that are not below zero. -/
namespace Go.Ab
open Go Go.RowKit
variable {q:Md} {P:Program} {g:Ghost} {δ:DS} {ops:Array Oper} {rest:List Oper} {Q:Exit→DS→Prop} {dst:Option Nat} {ty:TypeId} {pos:String} {af:Array Edge} {x y:Operand} {m n:Int} {t t':TypeId}
theorem AOps.remE (hx:δ.ev x=litI m) (hy:δ.ev y=litI n) (ho:okT x=true) (ho':okT y=true) (hd:okD δ.n dst=true) (h0:0≤m∧0<n) (hK:AOps q P g ops rest Q (δ.putd dst (litI (m % n)))):AOps q P g ops (⟨dst,.binOp .rem t x y t',ty,pos,af,none⟩::rest) Q δ:=
 AOps.rem hx hy ho ho' hd (by omega) (by rw[Int.tmod_eq_emod_of_nonneg h0.1];exact hK)
theorem AOps.quoE (hx:δ.ev x=litI m) (hy:δ.ev y=litI n) (ho:okT x=true) (ho':okT y=true) (hd:okD δ.n dst=true) (h0:0≤m∧m≤9223372036854775807∧0<n) (hK:AOps q P g ops rest Q (δ.putd dst (litI (m / n)))):AOps q P g ops (⟨dst,.binOp .quo t x y t',ty,pos,af,none⟩::rest) Q δ:=
 AOps.quo hx hy ho ho' hd (by omega) (by
  have h1:m.tdiv n=m / n:=Int.tdiv_eq_ediv_of_nonneg h0.1
  have h2:0≤m / n:=Int.ediv_nonneg h0.1 (by omega)
  have h3:m / n≤m:=Int.ediv_le_self _ h0.1
  rw[h1,IntWalk.i64_in _ (by omega)]
  exact hK)
end Go.Ab
/- Two objects' names exchanged;the orders of a drawn region brought together again. -/
namespace Go.Ab
open Go Go.RowKit
variable {P:Program} {g:Ghost} {δ:DS} {κ:Nat→Option Nat} {a:Act} {w:World}
namespace Nf
variable {n x:Nat} {e:List (Nat×AV)} {o:List (Nat×Option Ob)} {i j k:Nat}
end Nf
variable {k:Wt} {late:List Nat} {l:List Oper} {dn:List Nat} {QD:Exit→DS→Prop}
theorem AR.weakG {δ':DS} (hw:∀g':Ghost,(∀k',g'.wt=some k'→k'=k)→Weak g' δ δ') (h:AR P g k late l QD dn δ'):AR P g k late l QD dn δ:=by
 intro hdc κ a w r
 obtain⟨κ',r'⟩:=hw _ (fun k' hk'=>by
  have:(if lateIn late (setL l.length dn)=true then none else some k)=some k':=hk'
  split at this
  ·cases this
  ·cases this;rfl) κ a w r
 exact h hdc κ' a w r'
theorem setL_size (n:Nat) (d:List Nat):(setL n d).size=n:=by
 induction d with
 |nil=>simp [setL]
 |cons i d ih=>simp [setL,ih]
theorem setL_mask {n:Nat} {d d':List Nat} (h:maskL n d=maskL n d'):setL n d=setL n d':=by
 apply Array.ext
 ·rw[setL_size,setL_size]
 ·intro i h1 h2
  have e1:=maskL_spec (n:=n) (d:=d) (j:=i)
  have e2:=maskL_spec (n:=n) (d:=d') (j:=i)
  rw[h] at e1
  rw[e1] at e2
  rw[Array.getD_eq_getD_getElem?,Array.getD_eq_getD_getElem?,Array.getElem?_eq_getElem h1,Array.getElem?_eq_getElem h2] at e2
  exact e2
theorem AR.perm {J:List Nat} (hm:(maskL l.length dn==maskL l.length J && Nat.beq dn.length J.length)=true) (h:AR P g k late l QD J δ):AR P g k late l QD dn δ:=by
 simp only[Bool.and_eq_true,beq_iff_eq] at hm
 have hm:maskL l.length dn=maskL l.length J∧dn.length=J.length:=⟨hm.1,Nat.eq_of_beq_eq_true hm.2⟩
 have e:=setL_mask hm.1
 intro hdc κ a w r
 rw[hm.2]
 have h1:=h (by rw[← e];exact hdc) κ a w (by rw[← e];exact r)
 rw[e];exact h1
theorem AR.cut (J:List Nat) {δc:DS} (h1:AR P g k late l QD J δc→AR P g k late l QD dn δ) (h2:AR P g k late l QD J δc):AR P g k late l QD dn δ:=h1 h2
theorem AR.meet {J:List Nat} {δc:DS} (hJ:AR P g k late l QD J δc) (hm:(maskL l.length dn==maskL l.length J && Nat.beq dn.length J.length)=true) (hw:∀g':Ghost,Weak g' δ δc):AR P g k late l QD dn δ:=
 AR.weakG (fun g' _=>hw g') (AR.perm hm hJ)
theorem AR.step3M {i j m:Nat} {o p q:Oper} (hl:Nat.blt dn.length l.length=true) (hr:(readyM (maskL l.length dn) 0 l==[i,j,m])=true) (ho:l[i]? =some o) (hp:l[j]? =some p) (hq:l[m]? =some q)
  (h:∀g':Ghost,Gs g' g→(∀j,k.2.2≤j→g'.wtOk j)→AOps .plain P g' l.toArray [o] (onlyN (AR P g k late l QD (i::dn))) δ)
  (h':∀g':Ghost,Gs g' g→(∀j,k.2.2≤j→g'.wtOk j)→AOps .plain P g' l.toArray [p] (onlyN (AR P g k late l QD (j::dn))) δ)
  (h'':∀g':Ghost,Gs g' g→(∀j,k.2.2≤j→g'.wtOk j)→AOps .plain P g' l.toArray [q] (onlyN (AR P g k late l QD (m::dn))) δ):AR P g k late l QD dn δ:=
 AR.all hl (readyIs_M hr) (by simp) fun i' hi'=>by
  have hw:∀i',∀j,k.2.2≤j→(gOf g k late (setL l.length (i'::dn))).wtOk j:=by
   intro i' j hj k' hk'
   have:(if lateIn late (setL l.length (i'::dn))=true then none else some k)=some k':=hk'
   split at this
   ·cases this
   ·cases this;exact hj
  simp only[List.mem_cons,List.not_mem_nil,or_false] at hi'
  rcases hi' with rfl|rfl|rfl
  ·exact⟨o,ho,h _ ⟨rfl,rfl,rfl⟩ (hw _)⟩
  ·exact⟨p,hp,h' _ ⟨rfl,rfl,rfl⟩ (hw _)⟩
  ·exact⟨q,hq,h'' _ ⟨rfl,rfl,rfl⟩ (hw _)⟩
theorem AR.step2LL {i j:Nat} {o p:Oper} (hl:Nat.blt dn.length l.length=true) (hr:(readyM (maskL l.length dn) 0 l==[i,j])=true) (ho:l[i]? =some o) (hp:l[j]? =some p) (hlt:lateM late (maskL l.length dn)=true)
  (h:∀g':Ghost,Gs g' g→g'.wt=none→AOps .plain P g' l.toArray [o] (onlyN (AR P g k late l QD (i::dn))) δ)
  (h':∀g':Ghost,Gs g' g→g'.wt=none→AOps .plain P g' l.toArray [p] (onlyN (AR P g k late l QD (j::dn))) δ):AR P g k late l QD dn δ:=
 AR.all hl (readyIs_M hr) (by simp) fun i' hi'=>by
  have hlt':lateIn late (setL l.length dn)=true:=by rw[lateM_eq];exact hlt
  have hw:∀i',(gOf g k late (setL l.length (i'::dn))).wt=none:=fun i'=>if_pos (lateIn_mono hlt')
  simp only[List.mem_cons,List.not_mem_nil,or_false] at hi'
  rcases hi' with rfl|rfl
  ·exact⟨o,ho,h _ ⟨rfl,rfl,rfl⟩ (hw _)⟩
  ·exact⟨p,hp,h' _ ⟨rfl,rfl,rfl⟩ (hw _)⟩
def memB (k:Nat):List Nat→Bool
 |[]=>false
 |x::r=>bif Nat.beq x k then true else memB k r
def ddE (s:List Nat):List (Nat×AV)→List (Nat×AV)
 |[]=>[]
 |(k,v)::r=>bif memB k s then ddE s r else (k,v)::ddE (k::s) r
def ddO (s:List Nat):List (Nat×Option Ob)→List (Nat×Option Ob)
 |[]=>[]
 |(k,v)::r=>bif memB k s then ddO s r else (k,v)::ddO (k::s) r
theorem memB_iff {k:Nat}:∀{s:List Nat},memB k s=true↔k∈s
 |[]=>by simp [memB]
 |x::r=>by
  unfold memB
  by_cases h:x=k
  ·subst h;simp
  ·rw[beq_ne h,cond_false,memB_iff,List.mem_cons]
   constructor
   ·exact .inr
   ·rintro(h'|h')
    ·exact absurd h'.symm h
    ·exact h'
theorem look_ddE {j:Nat}:∀{e:List (Nat×AV)} {s:List Nat},j∉s→look (ddE s e) j=look e j
 |[],_,_=>rfl
 |(k,v)::r,s,h=>by
  unfold ddE
  cases hm:memB k s with
  |true=>
   have:k≠j:=by rintro rfl;exact h (memB_iff.1 hm)
   rw[cond_true,look_cons,if_neg this,look_ddE h]
  |false=>
   rw[cond_false,look_cons,look_cons]
   by_cases e:k=j
   ·rw[if_pos e,if_pos e]
   ·rw[if_neg e,if_neg e,look_ddE (by simp only[List.mem_cons,not_or];exact⟨fun h'=>e h'.symm,h⟩)]
theorem lookOb_ddO {j:Nat}:∀{e:List (Nat×Option Ob)} {s:List Nat},j∉s→lookOb (ddO s e) j=lookOb e j
 |[],_,_=>rfl
 |(k,v)::r,s,h=>by
  unfold ddO
  cases hm:memB k s with
  |true=>
   have:k≠j:=by rintro rfl;exact h (memB_iff.1 hm)
   rw[cond_true,lookOb_cons,if_neg this,lookOb_ddO h]
  |false=>
   rw[cond_false,lookOb_cons,lookOb_cons]
   by_cases e:k=j
   ·rw[if_pos e,if_pos e]
   ·rw[if_neg e,if_neg e,lookOb_ddO (by simp only[List.mem_cons,not_or];exact⟨fun h'=>e h'.symm,h⟩)]
def DS.dd (δ:DS):DS:=⟨δ.n,ddE [] δ.env,ddO [] δ.objs,δ.nx⟩
theorem Rel.congr {δ':DS} (hn:δ'.n=δ.n) (hx:δ'.nx=δ.nx) (he:∀j,δ'.get j=δ.get j) (ho:∀j,δ'.ob j=δ.ob j) (r:Rel g δ κ a w):Rel g δ' κ a w:=by
 have hob:δ'.ob=δ.ob:=funext ho
 have hl:δ'.live=δ.live:=by unfold DS.live;rw[hob]
 have hlr:δ'.lr=δ.lr:=by unfold DS.lr;rw[hob]
 have hlb:δ'.lb=δ.lb:=by unfold DS.lb;rw[hob]
 have hcx:δ'.cx g κ=δ.cx g κ:=by unfold DS.cx;rw[hl,hlr,hlb]
 exact
  {n:=r.n.trans hn.symm,dfr:=r.dfr
   env:=fun j=>by rw[hcx,he];exact r.env j
   obj:=fun i o h=>by rw[hcx];rw[ho] at h;exact r.obj i o h
   inj:=by rw[hl];exact r.inj
   lo:=by rw[hl];exact r.lo
   nx:=by rw[hl,hx];exact r.nx
   wt:=by rw[hl,hlr];exact r.wt
   below:=r.below,hB:=r.hB,N0:=r.N0,mkf:=r.mkf,fr:=by rw[hl];exact r.fr}
theorem Weak.dd:Weak g δ δ.dd:=fun κ _ _ r=>⟨κ,Rel.congr (δ:=δ) (δ':=δ.dd) rfl rfl (fun j=>look_ddE (s:=[]) (by simp)) (fun j=>lookOb_ddO (s:=[]) (by simp)) r⟩
theorem AR.dd (h:AR P g k late l QD dn δ.dd):AR P g k late l QD dn δ:=AR.weakG (fun _ _=>Weak.dd) h
def ddEc (b:Bool) (s:List Nat) (k:Nat) (v:AV) (r:List (Nat×AV)):List (Nat×AV):=bif b then ddE s r else (k,v)::ddE (k::s) r
def ddOc (b:Bool) (s:List Nat) (k:Nat) (v:Option Ob) (r:List (Nat×Option Ob)):List (Nat×Option Ob):=bif b then ddO s r else (k,v)::ddO (k::s) r
namespace Nf
variable {n x:Nat} {e:List (Nat×AV)} {o:List (Nat×Option Ob)} {i j m:Nat}
theorem dd:DS.dd ⟨n,e,o,x⟩=⟨n,ddE [] e,ddO [] o,x⟩:=rfl
theorem ddE0 (s:List Nat):ddE s []=[]:=rfl
theorem ddE1 (s:List Nat) (v:AV) (r:List (Nat×AV)):ddE s ((m,v)::r)=ddEc (memB m s) s m v r:=rfl
theorem ddEt (s:List Nat) (v:AV) (r:List (Nat×AV)):ddEc true s m v r=ddE s r:=rfl
theorem ddEf (s:List Nat) (v:AV) (r:List (Nat×AV)):ddEc false s m v r=(m,v)::ddE (m::s) r:=rfl
theorem ddO0 (s:List Nat):ddO s []=[]:=rfl
theorem ddO1 (s:List Nat) (v:Option Ob) (r:List (Nat×Option Ob)):ddO s ((m,v)::r)=ddOc (memB m s) s m v r:=rfl
theorem ddOt (s:List Nat) (v:Option Ob) (r:List (Nat×Option Ob)):ddOc true s m v r=ddO s r:=rfl
theorem ddOf (s:List Nat) (v:Option Ob) (r:List (Nat×Option Ob)):ddOc false s m v r=(m,v)::ddO (m::s) r:=rfl
theorem me0:memB m []=false:=rfl
theorem me1 (y:Nat) (r:List Nat):memB m (y::r)=bif Nat.beq y m then true else memB m r:=rfl
set_option linter.defProp false in
def ddR:=And.intro @dd (And.intro @ddE0 (And.intro @ddE1 (And.intro @ddEt (And.intro @ddEf (And.intro @ddO0 (And.intro @ddO1 (And.intro @ddOt (And.intro @ddOf (And.intro @me0 @me1)))))))))
end Nf
end Go.Ab
/- Contracts under a premise on the world at the call that no own memory touches (a table laid,a function value's ways);calls of told closures;functions that take functions. -/
namespace Go.Ab
open Go Go.RowKit
variable {P:Program} {g:Ghost} {δ:DS} {κ:Nat→Option Nat} {a:Act} {w:World}
variable {ops:Array Oper} {rest:List Oper} {Q:Exit→DS→Prop} {dst:Option Nat} {ty:TypeId} {pos:String} {af:Array Edge}
def Stay (T:World→Prop):Prop:=∀w w',T w→Below w.heap.size w w'→T w'
structure FnW (T:World→Prop) (P:Program) (f:FuncId) (args:List AV) (r:AV):Prop where
 enters:∀vals w,(callFunc f vals).run P w=.ok (.enter f vals) w
 calls:∀(N:Nat→Prop) (w:World) (vals:Array Value),T w→(∀b,w.heap.size≤b→N b)→vals.size=args.length→
  (∀(j:Nat) (v:Value) (av:AV),vals[j]? =some v→args[j]? =some av→RA (pcx N) w v av)→
  Calls P f vals w fun e w'=>∃v,e=.returned v∧RA (pcx N) w' v r∧Below w.heap.size w w'
theorem FnW.sub {T T':World→Prop} {f:FuncId} {args:List AV} {r:AV} (h:FnW T P f args r) (hT:∀w,T' w→T w):FnW T' P f args r:=⟨h.enters,fun N w vals ht=>h.calls N w vals (hT w ht)⟩
def TB (T:World→Prop) (g:Ghost):Prop:=∀w',Below g.B g.w0 w'→T w'
theorem TB.gs {T:World→Prop} {g g':Ghost} (h:TB T g) (hg:Gs g' g):TB T g':=fun w' hb=>h w' (by rw[← hg.2.1,← hg.2.2];exact hb)
def Gi (g' g:Ghost):Prop:=g'.B=g.B∧g'.w0=g.w0
theorem TB.gi {T:World→Prop} {g g':Ghost} (h:TB T g) (hg:Gi g' g):TB T g':=fun w' hb=>h w' (by rw[← hg.1,← hg.2];exact hb)
theorem TB.sub {T T':World→Prop} {g:Ghost} (h:TB T g) (hT:∀w,T w→T' w):TB T' g:=fun w' hb=>hT w' (h w' hb)
theorem FnW.enter {T:World→Prop} (hst:Stay T) {f:FuncId} {fn:Func} {c:Code} {rs:List ResultVar} {n:Nat} {args:List AV} {r:AV} (hf:P.funcs[f]? =some fn) (hb:fn.body=some c) (hrs:fn.results=rs.toArray) (hn:fn.ntmps=n) (hna:Nat.ble args.length n=true)
  (hna':Nat.ble n HS=true) (he:(fn.name== "runtime.NumGoroutine")=false) (h:∀g:Ghost,g.ro=none→g.wt=none→TB T g→AW P g c (Ends P rs r) (start n args)):FnW T P f args r:=by
 refine⟨fun vals w=>by simp [callFunc,hf,hb];simpa using he,fun N w vals hTw hN hs hargs=>?_⟩
 have hle:args.length≤n:=by simpa using hna
 have hnH:n≤HS:=by simpa using hna'
 let g:Ghost:={B:=w.heap.size,w0:=w,N0:=N,held:=fun _=>undef,ro:=none,mks:=[],wt:=none,fr:=fun _=>False,w1:=w}
 have hnl:∀i,¬(start n args).live i:=fun i ⟨o,h⟩=>by cases h
 refine callsIn_wide.1 (callsIn_of_wp_marks (n:=0) hf hb trivial (wpIn_mono (h g rfl rfl (fun w' hb=>hst w w' hTw hb) (fun _=>none) _ w ?_) ?_))
 ·exact
  {n:=by simp [hn,start];omega
   dfr:=⟨[],rfl,by simp [g],by simp [g]⟩
   env:=fun j=>by
    by_cases hj:j<args.length
    ·have h1:(start n args).get j=args[j]:=look_enum args 0 j _ (Nat.zero_le _) (by simp [hj])
     have h2:g.val {tmps:=vals++Array.replicate (fn.ntmps - vals.size) undef,defers:=[]} j=vals[j]'(by omega):=by
      unfold Ghost.val
      rw[if_pos (by omega)]
      simp [Array.getD_eq_getD_getElem?,Array.getElem?_append,hs,hj]
     rw[h1,h2]
     exact(hargs j _ _ (Array.getElem?_eq_getElem (by omega)) (List.getElem?_eq_getElem hj)).of_pcx _ fun b _ h=>⟨h,fun i hi=>absurd hi (hnl i)⟩
    ·have h1:(start n args).get j=.any:=look_enum_out args 0 j (by omega)
     rw[h1];exact .any _
   obj:=fun i o h=>by cases h
   inj:=fun i j b h=>absurd h (hnl i)
   lo:=fun i b h=>absurd h (hnl i)
   nx:=fun i h=>absurd h (hnl i)
   wt:=fun k hk=>by cases hk
   below:=Below.refl _ _
   hB:=Nat.le_refl _
   N0:=fun b h _=>hN b h
   fr:=fun b hb=>hb.elim
   mkf:=fun d hd=>by cases hd}
 ·rintro e a' w' ⟨δ',κ',hq,r'⟩
  have fin:∀v,Res P δ' rs v→Le true v r→LeavesInM Fence.wide 0 P fn a'.tmps (fun e w'=>∃v,e=.returned v∧RA (pcx N) w' v r∧Below w.heap.size w w') a'.defers .returning w':=by
   intro v h1 h2
   exact leaves (g:=g) rfl rfl hrs h1 r' (fun w2 r2 u hu=>by
    exact⟨u,rfl,hu.le h2 (fun b _ h=>h.1) (fun _ i b hi hκ=>hN b (r2.lo i b (DS.lr_live hi) hκ).1),r2.below⟩)
  cases e with
  |normal=>obtain⟨v,h1,h2⟩:=hq;exact fin v h1 h2
  |ret=>obtain⟨v,h1,h2⟩:=hq;exact fin v h1 h2
  |_=>exact hq.elim
theorem TB.at {T:World→Prop} (h:TB T g) (r:Rel g δ κ a w) {w':World} (hb:Below w.heap.size w w'):T w':=h w' (r.below.trans (hb.mono r.hB))
theorem AOps.callW {q:Md} {T:World→Prop} {f:FuncId} {xs:List Operand} {tys:Array TypeId} {args:List AV} {r:AV} (hT:TB T g) (hf:FnW T P f args r) (hargs:Args true δ xs args) (hdet:r.det=true) (hd:okD δ.n dst=true) (hq:q≠ .held)
  (hK:AOps q P g ops rest Q (δ.putd dst r)):AOps q P g ops (⟨dst,.call {callee:=.value (.func f),args:=xs.toArray,argTypes:=tys},ty,pos,af,none⟩::rest) Q δ:=by
 intro κ a w r0
 have hc:∀w',Below w.heap.size w w'→Calls P f (xs.toArray.map a.eval) w' fun e w''=>e=.returned r.out∧Below w'.heap.size w' w'':=fun w' hw'=>
  (hf.calls (fun _=>True) w' _ (hT.at r0 hw') (fun _ _=>trivial) (by simp [hargs.len]) (hargs.ras (r0.ext hw') (fun _ _ _=>trivial) (fun _ _ _ _ _=>trivial))).mono (by
   rintro e w'' ⟨v,rfl,hv,hb⟩
   exact⟨by rw[hv.det (AV.out_ra (C:=pcx (fun _=>True)) (w:=w) hdet) hdet],hb⟩)
 have hK1:=hK κ _ _ (r0.putd (okD_spec hd) (AV.out_ra hdet))
 cases q with
 |quiet=>
  show wpQuiet P ops _ _ (_::rest) a
  unfold wpQuiet
  rw[if_pos (by simp [Region.wanted])]
  refine⟨r.out,fun w' hw'=>?_,hK1⟩
  unfold Oper.quietAt
  rw[run_call (f:=f) rfl hf.enters]
  exact⟨rfl,(hc w' hw').mono fun e w'' ⟨h1,h2⟩=>⟨h1,hw'.trans (h2.mono hw'.size)⟩⟩
 |held=>exact absurd rfl hq
 |plain=>
  show wpListIn _ _ P ops _ (_::rest) a w
  refine wpl_plain rfl rfl fun K hK'=>?_
  unfold Oper.wpF
  rw[run_call (f:=f) rfl hf.enters,Oper.uponIn_enter]
  refine⟨fun h=>by simp at h,(callsIn_any (hc w (Below.refl _ _))).mono ?_⟩
  rintro e w' ⟨rfl,hb⟩
  exact hK' _ _ (hK κ _ _ ((r0.ext hb).putd (okD_spec hd) (AV.out_ra hdet)))
theorem AOps.callWp {T:World→Prop} {f:FuncId} {xs:List Operand} {tys:Array TypeId} {args:List AV} {r:AV} (hT:TB T g) (hf:FnW T P f args r) (hargs:Args false δ xs args) (hd:okD δ.n dst=true)
  (hK:AOps .plain P g ops rest Q (δ.putd dst r)):AOps .plain P g ops (⟨dst,.call {callee:=.value (.func f),args:=xs.toArray,argTypes:=tys},ty,pos,af,none⟩::rest) Q δ:=by
 intro κ a w r0
 show wpListIn _ _ P ops _ (_::rest) a w
 refine wpl_plain rfl rfl fun K hK'=>?_
 unfold Oper.wpF
 rw[run_call (f:=f) rfl hf.enters,Oper.uponIn_enter]
 refine⟨fun h=>by simp at h,(callsIn_any (hf.calls (fun b=>(δ.cx g κ).N b∨w.heap.size≤b) w _ (hT.at r0 (Below.refl _ _)) (fun _ h=> .inr h) (by simp [hargs.len]) (hargs.ras r0 (fun _ _ h=> .inl h) (fun h=>by simp at h)))).mono ?_⟩
 rintro e w' ⟨v,rfl,hv,hb⟩
 have r1:=r0.ext hb
 refine hK' _ _ (hK κ _ _ (r1.putd (okD_spec hd) (hv.of_pcx _ fun b _ h=>?_)))
 rcases h with h|h
 ·exact h
 ·refine⟨r0.N0new h,fun i hi e=>?_⟩
  have:=(r0.lo i b hi e).2
  omega
def AV.seen:AV→PV
 |.pv p=>p
 |.own _ _ k els=> .slice k els
 |_=> .any
inductive LeB (δ:DS):AV→AV→Prop
 |le {v r:AV} (h:Le true v r):LeB δ v r
 |box {i off:Nat} {cells:List AV} {ps:List PV} (h:δ.ob i=some (.box cells)) (hc:(cells.drop off).map AV.seen=ps):LeB δ (.ptr i off) (.rptr ps)
inductive LeBs (δ:DS):List AV→List AV→Prop
 |nil:LeBs δ [] []
 |cons {c d:AV} {cs ds:List AV} (h:LeB δ c d) (hs:LeBs δ cs ds):LeBs δ (c::cs) (d::ds)
theorem LeBs.len {cs ds:List AV} (h:LeBs δ cs ds):cs.length=ds.length:=by induction h with|nil=>rfl|cons h hs ih=>simp [ih]
theorem LeBs.at {cs ds:List AV} (h:LeBs δ cs ds):∀(j:Nat) (c d:AV),cs[j]? =some c→ds[j]? =some d→LeB δ c d:=by
 induction h with
 |nil=>intro j c d h1;simp at h1
 |cons h hs ih=>
  intro j c d h1 h2
  cases j with
  |zero=>simp at h1 h2;subst h1;subst h2;exact h
  |succ j=>exact ih j c d (by simpa using h1) (by simpa using h2)
theorem RA.seen {C:Cx} {u:Value} {av:AV} (h:RA C w u av):RP (fun _=>True) w u av.seen:=by
 cases h with
 |pv h=>exact h.mono (Nat.le_refl _) fun _ _ _=>⟨trivial,rfl⟩
 |own h=>exact h.pv (fun _ _ _=>trivial) (fun _ _ _ _=>trivial)
 |_=>exact .any _
theorem LeB.ra {v r:AV} (h:LeB δ v r) (rl:Rel g δ κ a w) {u:Value} (hu:RA (δ.cx g κ) w u v):RA (pcx fun _=>True) w u r:=by
 cases h with
 |le h=>exact hu.le h (fun _ _ _=>trivial) (fun _ _ _ _ _=>trivial)
 | @box i off cells ps hb hc=>
  obtain⟨b,c,e,rfl,hκ,h3,h4,h5⟩:=rl.box hu hb
  have hcell:∀j,w.cell? ⟨b,off+j,none⟩=c[off+j]?:=fun j=>cell_of h3 _
  have hat:∀(j:Nat) (p:PV),ps[j]? =some p→∃av,cells[off+j]? =some av∧p=av.seen:=by
   intro j p hp
   rw[← hc,List.getElem?_map,List.getElem?_drop] at hp
   obtain⟨av,h1,h2⟩:=Option.map_eq_some_iff.1 hp
   exact⟨av,h1,h2.symm⟩
  refine .rptr b off (fun j=>(c[off+j]?).getD undef) trivial (heap_lt h3) (fun j p hp=>?_) (fun j p hp=>?_)
  ·obtain⟨av,h1,rfl⟩:=hat j p hp
   have hlt:=(List.getElem?_eq_some_iff.1 h1).1
   have hcj:c[off+j]? =some c[off+j]:=Array.getElem?_eq_getElem (by omega)
   rw[hcell,hcj]
   exact⟨rfl,(h5 _ _ _ hcj h1).2⟩
  ·obtain⟨av,h1,rfl⟩:=hat j p hp
   have hlt:=(List.getElem?_eq_some_iff.1 h1).1
   have hcj:c[off+j]? =some c[off+j]:=Array.getElem?_eq_getElem (by omega)
   simp only[hcj,Option.getD_some]
   exact(h5 _ _ _ hcj h1).1.seen
theorem TB.none (g:Ghost):TB (fun _=>True) g:=fun _ _=>trivial
def Acts (P:Program) (v:Value) (w:World) (arg r:AV):Prop:=∃(f:FuncId) (vs us:Array Value),v=.func (.func f) vs us∧(∀vals w,(callFunc f vals).run P w=.ok (.enter f vals) w)∧
 ∀w',Below w.heap.size w w'→∀u,RA (pcx fun _=>True) w' u arg→Calls P f (vs++ #[u]++us) w' fun e w''=>e=.returned r.out∧Below w'.heap.size w' w''
def Ways (P:Program) {α:Type} (v:Value) (A R:α→AV) (l:List α) (w:World):Prop:=∀x∈l,Acts P v w (A x) (R x)
theorem TB.way {α:Type} {v:Value} {A R:α→AV} {l:List α} (h:TB (Ways P v A R l) g) {x:α} (hx:x∈l):TB (fun w=>Acts P v w (A x) (R x)) g:=h.sub fun w hw=>hw x hx
inductive ArgsV (δ:DS) (z:Operand) (v:Value):List Operand→List AV→Prop
 |nil:ArgsV δ z v [] []
 |here {xs:List Operand} {vs:List AV} (hs:ArgsV δ z v xs vs):ArgsV δ z v (z::xs) (.pv (.lit v)::vs)
 |cons {x:Operand} {u:AV} {xs:List Operand} {vs:List AV} (ho:okT x=true) (h:LeB δ (δ.ev x) u) (hs:ArgsV δ z v xs vs):ArgsV δ z v (x::xs) (u::vs)
theorem ArgsV.len {z:Operand} {v:Value} {xs:List Operand} {vs:List AV} (h:ArgsV δ z v xs vs):xs.length=vs.length:=by induction h with|nil=>rfl|here hs ih=>simp [ih]|cons ho h hs ih=>simp [ih]
end Go.Ab
/- Objects that nothing names any more are given up. -/
namespace Go.Ab
open Go Go.RowKit
variable {P:Program} {g:Ghost} {δ:DS} {κ:Nat→Option Nat} {a:Act} {w:World}
def keepO (ks:List Nat):List (Nat×Option Ob)→List (Nat×Option Ob)
 |[]=>[]
 |(i,o)::r=>bif memN i ks then (i,o)::keepO ks r else keepO ks r
theorem kO0 (ks:List Nat):keepO ks []=[]:=rfl
theorem kO1 (ks:List Nat) (i:Nat) (o:Option Ob) (r:List (Nat×Option Ob)):keepO ks ((i,o)::r)=bif memN i ks then (i,o)::keepO ks r else keepO ks r:=rfl
def DS.gc (δ:DS) (ks:List Nat):DS:={δ with objs:=keepO ks δ.objs}
theorem gcE (ks:List Nat) (n x:Nat) (e:List (Nat×AV)) (o:List (Nat×Option Ob)):DS.gc ⟨n,e,o,x⟩ ks=⟨n,e,keepO ks o,x⟩:=rfl
theorem ob_gc {ks:List Nat} {i:Nat}:(δ.gc ks).ob i=if memN i ks=true then δ.ob i else none:=by
 show lookOb (keepO ks δ.objs) i=if memN i ks=true then lookOb δ.objs i else none
 generalize δ.objs=l
 induction l with
 |nil=>simp [keepO,lookOb]
 |cons p r ih=>
  obtain⟨j,o⟩:=p
  rw[kO1]
  cases hm:memN j ks with
  |true=>
   rw[cond_true,lookOb_cons,lookOb_cons,ih]
   by_cases e:j=i
   ·subst e;rw[if_pos rfl,if_pos rfl,if_pos hm]
   ·rw[if_neg e,if_neg e]
  |false=>
   rw[cond_false,ih,lookOb_cons]
   by_cases e:j=i
   ·subst e;rw[hm];simp
   ·rw[if_neg e]
def obIds (lr lb:Nat→Bool):Ob→Bool
 |.row|.it _ _|.loop _ _ _ _ _ _|.lit _ _=>true
 |.box cs=>AV.idsL lr lb cs
 |.mp l=>l.all fun p=>p.2.ids lr lb
 |.mpl l _ v=>(l.all fun p=>p.2.ids lr lb) && v.ids lr lb
def gcB (ks:List Nat) (δ:DS):Bool:=
 (δ.env.all fun p=>p.2.ids (δ.gc ks).lrB (δ.gc ks).lbB) && ((δ.gc ks).objs.all fun p=>match p.2 with|some o=>obIds (δ.gc ks).lrB (δ.gc ks).lbB o|none=>true)
theorem look_ids {lr lb:Nat→Bool}:∀{l:List (Nat×AV)},(l.all fun p=>p.2.ids lr lb)=true→∀j,(look l j).ids lr lb=true
 |[],_,j=>rfl
 |(i,v)::r,h,j=>by
  simp only[List.all_cons,Bool.and_eq_true] at h
  rw[look_cons]
  by_cases e:i=j
  ·rw[if_pos e];exact h.1
  ·rw[if_neg e];exact look_ids h.2 j
theorem lookOb_ids {lr lb:Nat→Bool}:∀{l:List (Nat×Option Ob)},(l.all fun p=>match p.2 with|some o=>obIds lr lb o|none=>true)=true→∀i o,lookOb l i=some o→obIds lr lb o=true
 |[],_,i,o,h=>by simp [lookOb] at h
 |(j,x)::r,h,i,o,ho=>by
  simp only[List.all_cons,Bool.and_eq_true] at h
  rw[lookOb_cons] at ho
  by_cases e:j=i
  ·rw[if_pos e] at ho;subst ho;exact h.1
  ·rw[if_neg e] at ho;exact lookOb_ids h.2 i o ho
theorem WVs.refl {δ δ':DS}:∀{cs:List AV},AV.idsL δ'.lrB δ'.lbB cs=true→WVs δ δ' cs cs
 |[],_=>trivial
 |c::cs,h=>by
  simp only[AV.idsL,Bool.and_eq_true] at h
  exact⟨.eq rfl h.1,WVs.refl h.2⟩
theorem Weak.gc (ks:List Nat) (hb:gcB ks δ=true):Weak g δ (δ.gc ks):=by
 intro κ a w r
 unfold gcB at hb
 rw[Bool.and_eq_true] at hb
 refine weakF (g:=g) (δ:=δ) (δ':=δ.gc ks) rfl (fun j=> .eq rfl (look_ids hb.1 j)) (fun i o h=>?_) (fun i o h=>?_) κ a w r
 ·have h1:=lookOb_ids hb.2 i o h
  have h2:δ.ob i=some o:=by
   rw[ob_gc] at h
   split at h
   ·exact h
   ·cases h
  cases o with
  |row=>exact .row h2
  |box cs=>exact .box cs h2 (WVs.refl h1)
  |mp l=>exact .mp h2 fun p hp=>List.all_eq_true.1 h1 p hp
  |mpl l k v=>
   simp only[obIds,Bool.and_eq_true] at h1
   exact .mpl h2 rfl rfl (fun p hp=>List.all_eq_true.1 h1.1 p hp) (.eq rfl h1.2)
  |it l seen=>exact .it h2
  |lit T vals=>exact .lit h2
  |loop=>exact .loop h2
 ·rw[ob_gc] at h
  split at h
  ·exact r.nx i ⟨o,h⟩
  ·cases h
variable {k:Wt} {late:List Nat} {l:List Oper} {dn:List Nat} {QD:Exit→DS→Prop}
theorem AR.gc (ks:List Nat) (hb:gcB ks δ=true) (h:AR P g k late l QD dn (δ.gc ks)):AR P g k late l QD dn δ:=AR.weakG (fun _ _=>Weak.gc ks hb) h
end Go.Ab
/- Contracts of functions that change objects of their caller's. -/
namespace Go.Ab
open Go Go.RowKit
variable {P:Program} {g:Ghost} {δ:DS} {κ:Nat→Option Nat} {a:Act} {w:World}
variable {ops:Array Oper} {rest:List Oper} {Q:Exit→DS→Prop} {dst:Option Nat} {ty:TypeId} {pos:String} {af:Array Edge}
abbrev XS (objs:List (Nat×Option Ob)) (n:Nat):DS:=⟨0,[],objs,n⟩
abbrev act0:Act:={tmps:= #[],defers:=[]}
def pinL:List (Nat×Option Ob)→List AV
 |[]=>[]
 |(i,some (.box _))::r=> .ptr i 0::pinL r
 |(i,some (.lit _ _))::r=> .ptr i 0::pinL r
 |(i,some (.mp _))::r=> .mapr i::pinL r
 |_::r=>pinL r
structure FnXG (T:World→Prop) (P:Program) (E:Cx→World→Ending→Prop) (f:FuncId) (n0:Nat) (objs0:List (Nat×Option Ob)) (args:List AV) (objs1:List (Nat×Option Ob)):Prop where
 enters:∀vals w,(callFunc f vals).run P w=.ok (.enter f vals) w
 calls:∀(g:Ghost) (κ:Nat→Option Nat) (w:World) (vals:Array Value),g.ro=none→g.wt=none→TB T g→Rel g (XS objs0 n0) κ act0 w→vals.size=args.length→
  (∀(j:Nat) (v:Value) (av:AV),vals[j]? =some v→args[j]? =some av→RA ((XS objs0 n0).cx g κ) w v av)→
  Calls P f vals w fun e w'=>∃κ',E ((XS objs1 n0).cx g κ') w' e∧Rel g (XS objs1 n0) κ' act0 w'∧∀i b,(AV.ptr i 0∈pinL objs0∨AV.mapr i∈pinL objs0)→κ i=some b→κ' i=some b
def ERet (r:AV) (C:Cx) (w:World) (e:Ending):Prop:=∃v,e=.returned v∧RA C w v r
def Pan (t:TypeId) (ch:List PanicEntry):Prop:=∃u:Value,ch=[{v:=.iface t (.agg #[u]),recovered:=false}]∧u.oneCell'=true
def EPan (t:TypeId) (_:Cx) (_:World) (e:Ending):Prop:=∃ch,e=.panicked ch∧Pan t ch
abbrev FnXT (T:World→Prop) (P:Program) (f:FuncId) (n0:Nat) (objs0:List (Nat×Option Ob)) (args:List AV) (objs1:List (Nat×Option Ob)) (r:AV):Prop:=FnXG T P (ERet r) f n0 objs0 args objs1
abbrev FnX (P:Program) (f:FuncId) (n0:Nat) (objs0:List (Nat×Option Ob)) (args:List AV) (objs1:List (Nat×Option Ob)) (r:AV):Prop:=FnXG (fun _=>True) P (ERet r) f n0 objs0 args objs1
abbrev FnD (T:World→Prop) (P:Program) (t:TypeId) (f:FuncId) (n0:Nat) (objs0:List (Nat×Option Ob)) (args:List AV) (objs1:List (Nat×Option Ob)):Prop:=FnXG T P (EPan t) f n0 objs0 args objs1
theorem FnXG.sub {T T':World→Prop} {P:Program} {E:Cx→World→Ending→Prop} {f:FuncId} {n0:Nat} {objs0:List (Nat×Option Ob)} {args:List AV} {objs1:List (Nat×Option Ob)} (h:FnXG T P E f n0 objs0 args objs1) (hT:∀w,T' w→T w):FnXG T' P E f n0 objs0 args objs1:=⟨h.enters,fun g κ w vals h1 h2 h3=>h.calls g κ w vals h1 h2 (h3.sub hT)⟩
def pinB (objs:List (Nat×Option Ob)):List (Nat×Option Ob)→Bool
 |[]=>true
 |(i,some (.box _))::r=>(XS objs 0).lbB i && pinB objs r
 |(i,some (.lit _ _))::r=>(XS objs 0).lbB i && pinB objs r
 |(i,some (.mp _))::r=>(XS objs 0).lbB i && pinB objs r
 |_::r=>pinB objs r
theorem lbB_at {δ:DS} {i:Nat} (h:δ.lbB i=true) {C:Cx} {w:World} (ho:∀i o,δ.ob i=some o→ObIs C w i o):∃b,C.κ i=some b:=by
 obtain⟨o,h1,h2⟩:=lbB_spec h
 have h3:=ho i o h1
 cases o with
 |row=>simp [Ob.isRow] at h2
 |box cs=>obtain⟨b,_,_,h4,_⟩:=h3;exact⟨b,h4⟩
 |lit T vals=>obtain⟨b,h4,_⟩:=h3;exact⟨b,h4⟩
 |mp l=>obtain⟨b,_,_,h4,_⟩:=h3;exact⟨b,h4⟩
 |mpl l k v=>obtain⟨b,_,_,h4,_⟩:=h3;exact⟨b,h4⟩
 |it l seen=>obtain⟨b,h4,_⟩:=h3;exact⟨b,h4⟩
 |loop l tm ps asg body st=>obtain⟨b,_,h4,_⟩:=h3;exact⟨b,h4⟩
theorem pin_vals {objs:List (Nat×Option Ob)} {n:Nat} (ho:∀i o,(XS objs n).ob i=some o→ObIs ((XS objs n).cx g κ) w i o):∀{l:List (Nat×Option Ob)},pinB objs l=true→∃vs:List Value,vs.length=(pinL l).length∧∀(j:Nat) (u:Value) (c:AV),vs[j]? =some u→(pinL l)[j]? =some c→RA ((XS objs n).cx g κ) w u c
 |[],_=>⟨[],rfl,fun j u c h=>by simp at h⟩
 |(i,none)::r,h=>pin_vals ho (l:=r) h
 |(i,some .row)::r,h=>pin_vals ho (l:=r) h
 |(i,some (.mpl _ _ _))::r,h=>pin_vals ho (l:=r) h
 |(i,some (.it _ _))::r,h=>pin_vals ho (l:=r) h
 |(i,some (.loop _ _ _ _ _ _))::r,h=>pin_vals ho (l:=r) h
 |(i,some (.box cs))::r,h=>by
  simp only[pinB,Bool.and_eq_true] at h
  obtain⟨vs,h1,h2⟩:=pin_vals ho h.2
  obtain⟨b,hb⟩:=lbB_at (δ:=XS objs n) h.1 ho
  refine⟨.pointer (some ⟨b,0,none⟩)::vs,by simp [pinL,h1],fun j u c h3 h4=>?_⟩
  cases j with
  |zero=>simp [pinL] at h3 h4;subst h3;subst h4;exact .ptr (lbB_spec (δ:=XS objs n) h.1) hb
  |succ j=>exact h2 j u c (by simpa using h3) (by simpa [pinL] using h4)
 |(i,some (.lit _ _))::r,h=>by
  simp only[pinB,Bool.and_eq_true] at h
  obtain⟨vs,h1,h2⟩:=pin_vals ho h.2
  obtain⟨b,hb⟩:=lbB_at (δ:=XS objs n) h.1 ho
  refine⟨.pointer (some ⟨b,0,none⟩)::vs,by simp [pinL,h1],fun j u c h3 h4=>?_⟩
  cases j with
  |zero=>simp [pinL] at h3 h4;subst h3;subst h4;exact .ptr (lbB_spec (δ:=XS objs n) h.1) hb
  |succ j=>exact h2 j u c (by simpa using h3) (by simpa [pinL] using h4)
 |(i,some (.mp m))::r,h=>by
  simp only[pinB,Bool.and_eq_true] at h
  obtain⟨vs,h1,h2⟩:=pin_vals ho h.2
  obtain⟨b,hb⟩:=lbB_at (δ:=XS objs n) h.1 ho
  refine⟨.map (some b)::vs,by simp [pinL,h1],fun j u c h3 h4=>?_⟩
  cases j with
  |zero=>simp [pinL] at h3 h4;subst h3;subst h4;exact .mapr (lbB_spec (δ:=XS objs n) h.1) hb
  |succ j=>exact h2 j u c (by simpa using h3) (by simpa [pinL] using h4)
abbrev XF (δ:DS) (objs0 objs1:List (Nat×Option Ob)):DS:=⟨δ.n,[(1000,.agg (pinL objs0))],objs1,δ.nx⟩
def EndsX (P:Program) (rs:List ResultVar) (objs0 objs1:List (Nat×Option Ob)) (r:AV):Exit→DS→Prop
 |.normal,δ|.ret,δ=>∃v,Res P δ rs v∧WV δ (XF δ objs0 objs1) v r∧WV δ (XF δ objs0 objs1) (δ.get 1000) (.agg (pinL objs0))∧WObs δ (XF δ objs0 objs1) objs1∧nxB δ.nx objs1=true
 |_,_=>False
def EndsP (t:TypeId) (objs0 objs1:List (Nat×Option Ob)):Exit→DS→Prop
 |.panic ch,δ=>Pan t ch∧WV δ (XF δ objs0 objs1) (δ.get 1000) (.agg (pinL objs0))∧WObs δ (XF δ objs0 objs1) objs1∧nxB δ.nx objs1=true
 |_,_=>False
theorem RA.ptr_inv {C:Cx} {w:World} {u:Value} {i off:Nat} (h:RA C w u (.ptr i off)):∃b,u=.pointer (some ⟨b,off,none⟩)∧C.κ i=some b:=by
 cases h with
 |ptr hl hκ=>exact⟨_,rfl,hκ⟩
theorem RA.mapr_inv {C:Cx} {w:World} {u:Value} {i:Nat} (h:RA C w u (.mapr i)):∃b,u=.map (some b)∧C.κ i=some b:=by
 cases h with
 |mapr hl hκ=>exact⟨_,rfl,hκ⟩
theorem pin_same {C C':Cx} {w w':World} {vs:Array Value} {ps:List AV} (h:RA C w (.agg vs) (.agg ps)) (h':RA C' w' (.agg vs) (.agg ps)) {i b:Nat} (hp:AV.ptr i 0∈ps∨AV.mapr i∈ps) (hb:C.κ i=some b):C'.κ i=some b:=by
 cases h with
 |agg hs h=>
  cases h' with
  |agg hs' h'=>
   rcases hp with hp|hp
   ·obtain⟨j,hj⟩:=List.getElem?_of_mem hp
    have hlt:j<vs.size:=by rw[hs];exact(List.getElem?_eq_some_iff.1 hj).1
    have h1:=h j _ _ (Array.getElem?_eq_getElem hlt) hj
    have h2:=h' j _ _ (Array.getElem?_eq_getElem hlt) hj
    obtain⟨b1,e1,k1⟩:=h1.ptr_inv
    obtain⟨b2,e2,k2⟩:=h2.ptr_inv
    rw[e1] at e2
    cases e2
    rw[k1] at hb
    cases hb
    exact k2
   ·obtain⟨j,hj⟩:=List.getElem?_of_mem hp
    have hlt:j<vs.size:=by rw[hs];exact(List.getElem?_eq_some_iff.1 hj).1
    have h1:=h j _ _ (Array.getElem?_eq_getElem hlt) hj
    have h2:=h' j _ _ (Array.getElem?_eq_getElem hlt) hj
    obtain⟨b1,e1,k1⟩:=h1.mapr_inv
    obtain⟨b2,e2,k2⟩:=h2.mapr_inv
    rw[e1] at e2
    cases e2
    rw[k1] at hb
    cases hb
    exact k2
theorem FnXG.enter {T:World→Prop} {E:Cx→World→Ending→Prop} {Q:Exit→DS→Prop} {f:FuncId} {fn:Func} {c:Code} {n n0:Nat} {objs0 objs1:List (Nat×Option Ob)} {args:List AV} (hf:P.funcs[f]? =some fn) (hb:fn.body=some c) (hn:fn.ntmps=n) (hna:Nat.ble args.length n=true)
  (hna':Nat.ble n HS=true) (he:(fn.name== "runtime.NumGoroutine")=false) (hpin:pinB objs0 objs0=true) (hn1:nxB n0 objs1=true)
  (h:∀g:Ghost,g.ro=none→g.wt=none→TB T g→AW P g c Q ⟨n,enum 0 args++ [(1000,.agg (pinL objs0))],objs0,n0⟩)
  (hQ:∀(g:Ghost) (e:Exit) (δ':DS) (κ':Nat→Option Nat) (a':Act) (w':World) (R:Ending→World→Prop),g.wt=none→g.base=[]→Q e δ'→Rel g δ' κ' a' w'→
   (WV δ' (XF δ' objs0 objs1) (δ'.get 1000) (.agg (pinL objs0))→WObs δ' (XF δ' objs0 objs1) objs1→nxB δ'.nx objs1=true→
    ∀en w2,Rel g δ' κ' {a' with defers:=[]} w2→E ((XF δ' objs0 objs1).cx g (κof δ' κ')) w2 en→R en w2)→bodyPostM Fence.wide 0 P fn R e a' w'):FnXG T P E f n0 objs0 args objs1:=by
 refine⟨fun vals w=>by simp [callFunc,hf,hb];simpa using he,fun g κ w vals hro hwt hTB hrel hs hargs=>?_⟩
 have hle:args.length≤n:=by simpa using hna
 have hnH:n≤HS:=by simpa using hna'
 have hHS:HS=1000:=rfl
 obtain⟨ps,hps,hpv⟩:=pin_vals hrel.obj hpin
 have hbs:g.base=[]:=by
  obtain⟨rs,e,_,_⟩:=hrel.dfr
  exact(List.append_eq_nil_iff.1 e.symm).2
 have hpa:RA ((XS objs0 n0).cx g κ) w (.agg ps.toArray) (.agg (pinL objs0)):=.agg (by simpa using hps) fun j u c h1 h2=>hpv j u c (by simpa using h1) h2
 let g':Ghost:={g with held:=fun _=> .agg ps.toArray}
 let δ0:DS:=⟨n,enum 0 args++ [(1000,.agg (pinL objs0))],objs0,n0⟩
 have happ:∀(l:List AV) (i j:Nat),look (enum i l++ [(1000,AV.agg (pinL objs0))]) j=if i≤j∧j<i+l.length then look (enum i l) j else look [(1000,AV.agg (pinL objs0))] j:=by
  intro l
  induction l with
  |nil=>intro i j;rw[if_neg (by simp)];rfl
  |cons x l ih=>
   intro i j
   show look ((i,x)::(enum (i+1) l++_)) j=_
   rw[look_cons]
   by_cases e:i=j
   ·subst e
    rw[if_pos rfl,if_pos (by simp)]
    show x=look ((i,x)::enum (i+1) l) i
    rw[look_cons,if_pos rfl]
   ·rw[if_neg e,ih]
    simp only[List.length_cons]
    by_cases hj:i+1≤j∧j<i+1+l.length
    ·rw[if_pos hj,if_pos (by omega)]
     show _=look ((i,x)::enum (i+1) l) j
     rw[look_cons,if_neg e]
    ·rw[if_neg hj,if_neg (by omega)]
 have hR:Rel g' δ0 κ {tmps:=vals++Array.replicate (fn.ntmps - vals.size) undef,defers:=[]} w:=
  {n:=by show _=n;simp [hn];omega
   dfr:=by
    obtain⟨rs,e,h1,h2⟩:=hrel.dfr
    have e0:=(List.append_eq_nil_iff.1 e.symm).1
    have e0:rs=[]:=by simpa using e0
    subst e0
    exact⟨[],by show []=_++g.base;rw[hbs];rfl,h1,h2⟩
   env:=fun j=>by
    show RA ((XS objs0 n0).cx g κ) w _ (look (enum 0 args++ [(1000,AV.agg (pinL objs0))]) j)
    rw[happ]
    by_cases hj:j<args.length
    ·rw[if_pos (by omega)]
     have h1:look (enum 0 args) j=args[j]:=look_enum args 0 j _ (Nat.zero_le _) (by simp [hj])
     have h2:g'.val {tmps:=vals++Array.replicate (fn.ntmps - vals.size) undef,defers:=[]} j=vals[j]'(by omega):=by
      unfold Ghost.val
      rw[if_pos (by omega)]
      simp [Array.getD_eq_getD_getElem?,Array.getElem?_append,hs,hj]
     rw[h1,h2]
     exact hargs j _ _ (Array.getElem?_eq_getElem (by omega)) (List.getElem?_eq_getElem hj)
    ·rw[if_neg (by omega),look_cons]
     by_cases e:1000=j
     ·rw[if_pos e]
      have h2:g'.val {tmps:=vals++Array.replicate (fn.ntmps - vals.size) undef,defers:=[]} j=.agg ps.toArray:=by
       unfold Ghost.val
       rw[if_neg (by omega)]
      rw[h2];exact hpa
     ·rw[if_neg e];exact .any _
   obj:=hrel.obj,inj:=hrel.inj,lo:=hrel.lo,nx:=hrel.nx,wt:=hrel.wt,below:=hrel.below,hB:=hrel.hB,N0:=hrel.N0,fr:=hrel.fr
   mkf:=fun d hd=>by cases hd}
 have hw:=h g' hro hwt hTB κ _ w hR
 rw[show g'.ro=none from hro] at hw
 refine callsIn_wide.1 (callsIn_of_wp_marks (n:=0) hf hb trivial (wpIn_mono hw ?_))
 rintro e a' w' ⟨δ',κ',hq,r'⟩
 refine hQ g' e δ' κ' a' w' _ hwt hbs hq r' fun hp ho hx en w2 r2 hE=>?_
 have hg:∀j,(XF δ' objs0 objs1).get j=if 1000=j then .agg (pinL objs0) else .any:=fun j=>look_cons _ _ _ _
 have r3:Rel g' (XF δ' objs0 objs1) (κof δ' κ') {a' with defers:=[]} w2:=weakR (g:=g') (δ:=δ') (δ':=XF δ' objs0 objs1) rfl (fun j=>by
   rw[hg]
   by_cases e:1000=j
   ·subst e;rw[if_pos rfl];exact hp
   ·rw[if_neg e];exact .any _) (fun i o h=>ho.at i o h) (fun i o h=>nxB_spec hx i o h) r2
 refine⟨κof δ' κ',hE,?_,fun i b hpi hb=>?_⟩
 ·exact
   {n:=rfl
    dfr:=by
     obtain⟨rs,e,h1,h2⟩:=r3.dfr
     have e0:=(List.append_eq_nil_iff.1 e.symm).1
     have e0:rs=[]:=by simpa using e0
     subst e0
     exact⟨[],by show []=_++g.base;rw[hbs];rfl,h1,h2⟩
    env:=fun j=> .any _
    obj:=r3.obj,inj:=r3.inj,lo:=r3.lo,nx:=fun i ⟨o,h⟩=>nxB_spec hn1 i o h,wt:=fun k hk=>by rw[hwt] at hk;cases hk
    below:=r3.below,hB:=r3.hB,N0:=r3.N0,fr:=r3.fr,mkf:=fun d hd=>by cases hd}
 ·have h3:=r3.env 1000
  rw[hg,if_pos rfl] at h3
  have h4:g'.val {a' with defers:=[]} 1000=.agg ps.toArray:=by
   unfold Ghost.val
   rw[if_neg (by omega)]
  rw[h4] at h3
  exact pin_same (C:=(XS objs0 n0).cx g κ) (w:=w) hpa h3 hpi hb
theorem FnXT.enter {T:World→Prop} {f:FuncId} {fn:Func} {c:Code} {rs:List ResultVar} {n n0:Nat} {objs0 objs1:List (Nat×Option Ob)} {args:List AV} {r:AV} (hf:P.funcs[f]? =some fn) (hb:fn.body=some c) (hrs:fn.results=rs.toArray) (hn:fn.ntmps=n) (hna:Nat.ble args.length n=true)
  (hna':Nat.ble n HS=true) (he:(fn.name== "runtime.NumGoroutine")=false) (hpin:pinB objs0 objs0=true) (hn1:nxB n0 objs1=true)
  (h:∀g:Ghost,g.ro=none→g.wt=none→TB T g→AW P g c (EndsX P rs objs0 objs1 r) ⟨n,enum 0 args++ [(1000,.agg (pinL objs0))],objs0,n0⟩):FnXT T P f n0 objs0 args objs1 r:=by
 refine FnXG.enter (Q:=EndsX P rs objs0 objs1 r) hf hb hn hna hna' he hpin hn1 h fun g e δ' κ' a' w' R hwt hbs hq r' hR=>?_
 have fin:∀v,Res P δ' rs v→WV δ' (XF δ' objs0 objs1) v r→WV δ' (XF δ' objs0 objs1) (δ'.get 1000) (.agg (pinL objs0))→WObs δ' (XF δ' objs0 objs1) objs1→nxB δ'.nx objs1=true→
   LeavesInM Fence.wide 0 P fn a'.tmps R a'.defers .returning w':=fun v h1 hv hp ho hx=>
  leaves (g:=g) hwt hbs hrs h1 r' fun w2 r2 u hu=>hR hp ho hx _ _ r2 ⟨u,rfl,hu.wv (δ:=δ') (δ':=XF δ' objs0 objs1) r2.hdrop r2.obj hv⟩
 cases e with
 |normal=>obtain⟨v,h1,h2,h3,h4,h5⟩:=hq;exact fin v h1 h2 h3 h4 h5
 |ret=>obtain⟨v,h1,h2,h3,h4,h5⟩:=hq;exact fin v h1 h2 h3 h4 h5
 |_=>exact hq.elim
theorem FnX.enter {f:FuncId} {fn:Func} {c:Code} {rs:List ResultVar} {n n0:Nat} {objs0 objs1:List (Nat×Option Ob)} {args:List AV} {r:AV} (hf:P.funcs[f]? =some fn) (hb:fn.body=some c) (hrs:fn.results=rs.toArray) (hn:fn.ntmps=n) (hna:Nat.ble args.length n=true)
  (hna':Nat.ble n HS=true) (he:(fn.name== "runtime.NumGoroutine")=false) (hpin:pinB objs0 objs0=true) (hn1:nxB n0 objs1=true)
  (h:∀g:Ghost,g.ro=none→g.wt=none→AW P g c (EndsX P rs objs0 objs1 r) ⟨n,enum 0 args++ [(1000,.agg (pinL objs0))],objs0,n0⟩):FnX P f n0 objs0 args objs1 r:=FnXT.enter hf hb hrs hn hna hna' he hpin hn1 fun g h1 h2 _=>h g h1 h2
end Go.Ab
namespace Go.Ab
open Go Go.RowKit
variable {P:Program} {g:Ghost} {δ:DS} {κ:Nat→Option Nat} {a:Act} {w:World}
variable {ops:Array Oper} {rest:List Oper} {Q:Exit→DS→Prop} {dst:Option Nat} {ty:TypeId} {pos:String} {af:Array Edge}
theorem RA.to {C C':Cx} (hB:C'.B=C.B) (hN:∀b,C.N b→C'.N b) {lr lb:Nat→Bool} (hlr:∀i,lr i=true→C'.Lr i∧C'.κ i=C.κ i) (hlb:∀i,lb i=true→C'.Lb i∧C'.κ i=C.κ i) {v:Value} {av:AV} (h:RA C w v av) (hi:av.ids lr lb=true):RA C' w v av:=by
 have hp:∀{v:Value} {p:PV},RP C.N w v p→RP C'.N w v p:=fun h=>h.mono (Nat.le_refl _) fun b _ h2=>⟨hN b h2,rfl⟩
 have ho:∀{v:Value} {i e k els},OwnV C w v i e k els→lr i=true→OwnV C' w v i e k els:=by
  intro v i e k els h hl
  obtain⟨h1,h2,h3,h4,xs,h5,h6,h7⟩:=h
  refine⟨(hlr i hl).1,h2,h3,fun b hb=>(hlr i hl).2.trans (h4 b hb),xs,?_,h6,fun i' j p hp'=>let ⟨u,h8,h9⟩:=h7 i' j p hp';⟨u,h8,hp h9⟩⟩
  rw[hB];exact h5
 induction h with
 |any v=>exact .any v
 |pv h=>exact .pv (hp h)
 |own h=>exact .own (ho h hi)
 |ptr hl hκ=>exact .ptr (hlb _ hi).1 ((hlb _ hi).2.trans hκ)
 |rptr b off vs hN' hb hc hr=>exact .rptr b off vs (hN _ hN') hb hc (fun j p h=>hp (hr j p h))
 |optr hlt h=>exact .optr hlt (ho h hi)
 |agg hs h ih=>exact .agg hs fun j u c h1 h2=>ih j u c h1 h2 (AV.idsL_at _ hi j c h2)
 |tup hs h ih=>exact .tup hs fun j u c h1 h2=>ih j u c h1 h2 (AV.idsL_at _ hi j c h2)
 |clo hs h ht h' ih ih'=>
  simp only[AV.ids,Bool.and_eq_true] at hi
  exact .clo hs (fun j u c h1 h2=>ih j u c h1 h2 (AV.idsL_at _ hi.1 j c h2)) ht (fun j u c h1 h2=>ih' j u c h1 h2 (AV.idsL_at _ hi.2 j c h2))
 |mapr hl hκ=>exact .mapr (hlb _ hi).1 ((hlb _ hi).2.trans hκ)
 |yld hl hκ=>exact .yld (hlb _ hi).1 ((hlb _ hi).2.trans hκ)
theorem ObIs.to {C C':Cx} (hB:C'.B=C.B) (hN:∀b,C.N b→C'.N b) {lr lb:Nat→Bool} (hlr:∀i,lr i=true→C'.Lr i∧C'.κ i=C.κ i) (hlb:∀i,lb i=true→C'.Lb i∧C'.κ i=C.κ i) {i:Nat} {o:Ob} (hκ:C'.κ i=C.κ i) (h:ObIs C w i o) (hi:obIds lr lb o=true):ObIs C' w i o:=by
 cases o with
 |row=>intro b hb;rw[hκ] at hb;exact h b hb
 |lit T vals=>obtain⟨b,h1,h2⟩:=h;exact⟨b,hκ.trans h1,h2⟩
 |box cs=>
  obtain⟨b,c,e,h1,h2,h3,h4⟩:=h
  exact⟨b,c,e,hκ.trans h1,h2,h3,fun j u av h5 h6=>⟨(h4 j u av h5 h6).1.to hB hN hlr hlb (AV.idsL_at _ hi j av h6),(h4 j u av h5 h6).2⟩⟩
 |mp l=>
  obtain⟨b,es,clock,h1,h2,h3,h4⟩:=h
  exact⟨b,es,clock,hκ.trans h1,h2,⟨h3.1,fun j e p h5 h6=>⟨(h3.2 j e p h5 h6).1,(h3.2 j e p h5 h6).2.to hB hN hlr hlb (List.all_eq_true.1 hi p (List.mem_of_getElem? h6))⟩⟩,h4⟩
 |mpl l k v=>
  obtain⟨b,es,clock,h1,h2,h3,h4⟩:=h
  simp only[obIds,Bool.and_eq_true] at hi
  exact⟨b,es,clock,hκ.trans h1,h2,h3.last (fun u p hp h=>h.to hB hN hlr hlb (List.all_eq_true.1 hi.1 p hp)) (fun u h=>h.to hB hN hlr hlb hi.2),h4⟩
 |it l seen=>
  obtain⟨b,h1,h2⟩:=h
  exact⟨b,hκ.trans h1,h2.mono (Nat.le_refl _) (fun b _ h=>⟨hN b h,rfl⟩) rfl⟩
 |loop l tm ps asg body st=>
  obtain⟨b,lr',h1,h2⟩:=h
  exact⟨b,lr',hκ.trans h1,h2⟩
def kindB:List (Nat×Option Ob)→List (Nat×Option Ob)→Bool
 |[],[]=>true
 |(i,some .row)::r,(j,some .row)::r'=>Nat.beq i j && kindB r r'
 |(i,some (.box _))::r,(j,some (.box _))::r'=>Nat.beq i j && kindB r r'
 |(i,some (.lit _ _))::r,(j,some (.box _))::r'=>Nat.beq i j && kindB r r'
 |(i,some (.mp _))::r,(j,some (.mp _))::r'=>Nat.beq i j && kindB r r'
 |_,_=>false
inductive Kind (l0 l1:List (Nat×Option Ob)) (i:Nat):Prop
 |none (h0:lookOb l0 i=.none) (h1:lookOb l1 i=.none)
 |row (h0:lookOb l0 i=some .row) (h1:lookOb l1 i=some .row)
 |box (c d:List AV) (h0:lookOb l0 i=some (.box c)) (h1:lookOb l1 i=some (.box d)) (hp:AV.ptr i 0∈pinL l0)
 |lit (T:TypeId) (vals:Array Value) (d:List AV) (h0:lookOb l0 i=some (.lit T vals)) (h1:lookOb l1 i=some (.box d)) (hp:AV.ptr i 0∈pinL l0)
 |mp (c d:List (Value×AV)) (h0:lookOb l0 i=some (.mp c)) (h1:lookOb l1 i=some (.mp d)) (hp:AV.mapr i∈pinL l0)
theorem Kind.skip {j:Nat} {o o':Option Ob} {r r':List (Nat×Option Ob)} {i:Nat} (h:Kind r r' i) (hne:¬j=i):Kind ((j,o)::r) ((j,o')::r') i:=by
 have e0:∀(o:Option Ob) (r:List (Nat×Option Ob)),lookOb ((j,o)::r) i=lookOb r i:=fun o r=>by rw[lookOb_cons,if_neg hne]
 have hp:∀{c:AV},c∈pinL r→c∈pinL ((j,o)::r):=fun {c} h=>by
  rcases o with _|o
  ·exact h
  ·cases o<;>simp only[pinL]<;>first|exact h|exact List.mem_cons_of_mem _ h
 cases h with
 |none h0 h1=>exact .none ((e0 _ _).trans h0) ((e0 _ _).trans h1)
 |row h0 h1=>exact .row ((e0 _ _).trans h0) ((e0 _ _).trans h1)
 |box c d h0 h1 h2=>exact .box c d ((e0 _ _).trans h0) ((e0 _ _).trans h1) (hp h2)
 |lit T vals d h0 h1 h2=>exact .lit T vals d ((e0 _ _).trans h0) ((e0 _ _).trans h1) (hp h2)
 |mp c d h0 h1 h2=>exact .mp c d ((e0 _ _).trans h0) ((e0 _ _).trans h1) (hp h2)
theorem kindB_at:∀{l0 l1:List (Nat×Option Ob)},kindB l0 l1=true→∀i,Kind l0 l1 i
 |[],[],_,i=> .none rfl rfl
 |(j,some .row)::r,(j',some .row)::r',h,i=>by
  simp only[kindB,Bool.and_eq_true] at h
  obtain rfl:=Nat.eq_of_beq_eq_true h.1
  by_cases e:j=i
  ·subst e;exact .row (by rw[lookOb_cons,if_pos rfl]) (by rw[lookOb_cons,if_pos rfl])
  ·exact(kindB_at h.2 i).skip e
 |(j,some (.box c))::r,(j',some (.box d))::r',h,i=>by
  simp only[kindB,Bool.and_eq_true] at h
  obtain rfl:=Nat.eq_of_beq_eq_true h.1
  by_cases e:j=i
  ·subst e;exact .box c d (by rw[lookOb_cons,if_pos rfl]) (by rw[lookOb_cons,if_pos rfl]) (by simp [pinL])
  ·exact(kindB_at h.2 i).skip e
 |(j,some (.lit T c))::r,(j',some (.box d))::r',h,i=>by
  simp only[kindB,Bool.and_eq_true] at h
  obtain rfl:=Nat.eq_of_beq_eq_true h.1
  by_cases e:j=i
  ·subst e;exact .lit T c d (by rw[lookOb_cons,if_pos rfl]) (by rw[lookOb_cons,if_pos rfl]) (by simp [pinL])
  ·exact(kindB_at h.2 i).skip e
 |(j,some (.mp c))::r,(j',some (.mp d))::r',h,i=>by
  simp only[kindB,Bool.and_eq_true] at h
  obtain rfl:=Nat.eq_of_beq_eq_true h.1
  by_cases e:j=i
  ·subst e;exact .mp c d (by rw[lookOb_cons,if_pos rfl]) (by rw[lookOb_cons,if_pos rfl]) (by simp [pinL])
  ·exact(kindB_at h.2 i).skip e
def rowsL:List (Nat×Option Ob)→List Nat
 |[]=>[]
 |(i,some .row)::r=>i::rowsL r
 |_::r=>rowsL r
theorem rowsL_mem:∀{l:List (Nat×Option Ob)} {i:Nat},lookOb l i=some .row→memN i (rowsL l)=true
 |[],i,h=>by simp [lookOb] at h
 |(j,o)::r,i,h=>by
  rw[lookOb_cons] at h
  have hm:∀(b:Bool),(bif b then true else memN i (rowsL r))=true∨memN i (rowsL r)=false:=fun b=>by cases b<;>cases memN i (rowsL r)<;>simp
  by_cases e:j=i
  ·rw[if_pos e] at h
   subst h
   subst e
   simp only[rowsL,memN1,beq_self_eq_true,cond_true]
  ·rw[if_neg e] at h
   have:=rowsL_mem h
   rcases o with _|o
   ·exact this
   ·cases o<;>simp only[rowsL,memN1]<;>first|exact this|(rw[this];cases (i==j)<;>rfl)
def killSF (rs:List Nat):AV→AV
 |.own j e k els=>bif memN j rs then .any else .own j e k els
 |.optr j e k els n=>bif memN j rs then .any else .optr j e k els n
 |v=>v
def AV.killS (rs:List Nat):AV→AV:=AV.mp (killSF rs)
def Cx.lessS (C:Cx) (rs:List Nat):Cx:={C with Lr:=fun j=>C.Lr j∧memN j rs=false}
theorem RA.killS {C C':Cx} {rs:List Nat} {w w':World} (G:Goes (C.lessS rs) w C' w') {v:Value} {av:AV} (h:RA C w v av):RA C' w' v (av.killS rs):=by
 have hless:∀{v j e k els},OwnV C w v j e k els→memN j rs=false→OwnV (C.lessS rs) w v j e k els:=fun h hj=>⟨⟨h.live,hj⟩,h.lim,h.hk,h.blk,h.row⟩
 unfold AV.killS
 induction h with
 |any v=>exact .any v
 |pv h=>exact .pv (G.rp h)
 | @own v j e k els h=>
  simp only[AV.mp,killSF]
  cases hj:memN j rs with
  |true=>exact .any _
  |false=>exact .own (G.ownV (hless h hj))
 |ptr hl hκ=>exact .ptr (G.Lb _ hl).1 ((G.Lb _ hl).2.trans hκ)
 |rptr b off vs hN hb hc hr=>exact G.ra (C:=C.lessS rs) (.rptr b off vs hN hb hc hr)
 | @optr j e k els n b cap hn h=>
  simp only[AV.mp,killSF]
  cases hj:memN j rs with
  |true=>exact .any _
  |false=>exact .optr hn (G.ownV (hless h hj))
 | @agg vs cs hs h ih=>
  simp only[AV.mp,AV.mpL_eq]
  refine .agg (by simpa using hs) fun j u c h1 h2=>?_
  simp only[List.getElem?_map,Option.map_eq_some_iff] at h2
  obtain⟨c',h2,rfl⟩:=h2
  exact ih j u c' h1 h2
 | @tup vs cs hs h ih=>
  simp only[AV.mp,AV.mpL_eq]
  refine .tup (by simpa using hs) fun j u c h1 h2=>?_
  simp only[List.getElem?_map,Option.map_eq_some_iff] at h2
  obtain⟨c',h2,rfl⟩:=h2
  exact ih j u c' h1 h2
 | @clo fn vs us cs ds hs h ht h' ih ih'=>
  simp only[AV.mp,AV.mpL_eq]
  refine .clo (by simpa using hs) (fun j u c h1 h2=>?_) (by simpa using ht) (fun j u c h1 h2=>?_)
  ·simp only[List.getElem?_map,Option.map_eq_some_iff] at h2
   obtain⟨c',h2,rfl⟩:=h2
   exact ih j u c' h1 h2
  ·simp only[List.getElem?_map,Option.map_eq_some_iff] at h2
   obtain⟨c',h2,rfl⟩:=h2
   exact ih' j u c' h1 h2
 |mapr hl hκ=>exact .mapr (G.Lb _ hl).1 ((G.Lb _ hl).2.trans hκ)
 |yld hl hκ=>exact .yld (G.Lb _ hl).1 ((G.Lb _ hl).2.trans hκ)
theorem RA.lessS {C:Cx} {rs:List Nat} {w:World} {v:Value} {av:AV} (h:RA C w v av) (hn:av.noOwn=true):RA (C.lessS rs) w v av:=by
 cases h with
 |any v=>exact .any v
 |pv h=>exact .pv h
 |own h=>simp [AV.noOwn] at hn
 |ptr hl hκ=>exact .ptr hl hκ
 |rptr b off vs hN hb hc hr=>exact .rptr b off vs hN hb hc hr
 |optr hi h=>simp [AV.noOwn] at hn
 |agg hs h=>simp [AV.noOwn] at hn
 |tup hs h=>simp [AV.noOwn] at hn
 |clo hs h ht h'=>simp [AV.noOwn] at hn
 |mapr hl hκ=>exact .mapr hl hκ
 |yld hl hκ=>exact .yld hl hκ
def SubO (δ:DS):List (Nat×Option Ob)→Prop
 |[]=>True
 |(i,o)::r=>δ.ob i=o∧SubO δ r
theorem SubO.at {δ:DS}:∀{l:List (Nat×Option Ob)},SubO δ l→∀i o,lookOb l i=some o→δ.ob i=some o
 |[],_,i,o,h=>by simp [lookOb] at h
 |(j,x)::r,hs,i,o,h=>by
  rw[lookOb_cons] at h
  by_cases e:j=i
  ·rw[if_pos e] at h;subst e;rw[hs.1];exact h
  ·rw[if_neg e] at h;exact hs.2.at i o h
inductive LeX (lr lb:Nat→Bool):AV→AV→Prop
 |any (c:AV):LeX lr lb c .any
 |eq {c d:AV} (h:c=d) (hi:d.ids lr lb=true):LeX lr lb c d
 |nil (k:Nat):LeX lr lb (.pv (.lit (.slice none 0 0))) (.pv (.slice k []))
inductive LeXs (lr lb:Nat→Bool):List AV→List AV→Prop
 |nil:LeXs lr lb [] []
 |cons {c d:AV} {cs ds:List AV} (h:LeX lr lb c d) (hs:LeXs lr lb cs ds):LeXs lr lb (c::cs) (d::ds)
theorem LeXs.len {lr lb:Nat→Bool} {cs ds:List AV} (h:LeXs lr lb cs ds):cs.length=ds.length:=by induction h with|nil=>rfl|cons h hs ih=>simp [ih]
theorem LeXs.at {lr lb:Nat→Bool} {cs ds:List AV} (h:LeXs lr lb cs ds):∀(j:Nat) (c d:AV),cs[j]? =some c→ds[j]? =some d→LeX lr lb c d:=by
 induction h with
 |nil=>intro j c d h1;simp at h1
 |cons h hs ih=>
  intro j c d h1 h2
  cases j with
  |zero=>simp at h1 h2;subst h1;subst h2;exact h
  |succ j=>exact ih j c d (by simpa using h1) (by simpa using h2)
def DS.afterX (δ:DS) (objs0 objs1:List (Nat×Option Ob)):DS:={(δ.mapV (AV.killS (rowsL objs0))) with objs:=objs1++(δ.mapV (AV.killS (rowsL objs0))).objs}
theorem look_app:∀{l l':List (Nat×Option Ob)} {i:Nat},(∀p∈l,p.2.isSome=true)→lookOb (l++l') i=match lookOb l i with|some o=>some o|none=>lookOb l' i
 |[],l',i,_=>rfl
 |(j,o)::r,l',i,h=>by
  rw[List.cons_append,lookOb_cons,lookOb_cons]
  by_cases e:j=i
  ·rw[if_pos e,if_pos e]
   have:=h (j,o) (by simp)
   cases o with
   |none=>simp at this
   |some o=>rfl
  ·rw[if_neg e,if_neg e];exact look_app fun p hp=>h p (by simp [hp])
theorem kindB_some:∀{l0 l1:List (Nat×Option Ob)},kindB l0 l1=true→∀p∈l1,p.2.isSome=true
 |[],[],_,p,hp=>by simp at hp
 |(j,some .row)::r,(j',some .row)::r',h,p,hp=>by
  simp only[kindB,Bool.and_eq_true] at h
  rcases List.mem_cons.1 hp with rfl|hp
  ·rfl
  ·exact kindB_some h.2 p hp
 |(j,some (.box c))::r,(j',some (.box d))::r',h,p,hp=>by
  simp only[kindB,Bool.and_eq_true] at h
  rcases List.mem_cons.1 hp with rfl|hp
  ·rfl
  ·exact kindB_some h.2 p hp
 |(j,some (.lit T c))::r,(j',some (.box d))::r',h,p,hp=>by
  simp only[kindB,Bool.and_eq_true] at h
  rcases List.mem_cons.1 hp with rfl|hp
  ·rfl
  ·exact kindB_some h.2 p hp
 |(j,some (.mp c))::r,(j',some (.mp d))::r',h,p,hp=>by
  simp only[kindB,Bool.and_eq_true] at h
  rcases List.mem_cons.1 hp with rfl|hp
  ·rfl
  ·exact kindB_some h.2 p hp
theorem killS_any (rs:List Nat):AV.killS rs .any=.any:=rfl
end Go.Ab
/- Callees that rewrite a row of numbers in place:Go's slices.Sort,slices.Compact. -/
namespace Go.Ab
open Go Go.RowKit
variable {P:Program} {g:Ghost} {δ:DS} {κ:Nat→Option Nat} {a:Act} {w:World}
variable {ops:Array Oper} {rest:List Oper} {Q:Exit→DS→Prop} {dst:Option Nat} {ty:TypeId} {pos:String} {af:Array Edge} {gd:Option (Tmp×Bool)}
theorem enters_of {f:FuncId} {fn:Func} {c:Code} (hf:P.funcs[f]? =some fn) (hb:fn.body=some c) (he:(fn.name== "runtime.NumGoroutine")=false):∀vals w,(callFunc f vals).run P w=.ok (.enter f vals) w:=fun vals w=>by
 simp [callFunc,hf,hb];simpa using he
end Go.Ab
/- A call by a contract over objects. -/
namespace Go.Ab
open Go Go.RowKit
variable {P:Program} {g:Ghost} {δ:DS} {κ:Nat→Option Nat} {a:Act} {w:World}
variable {ops:Array Oper} {rest:List Oper} {Q:Exit→DS→Prop} {dst:Option Nat} {ty:TypeId} {pos:String} {af:Array Edge}
def hiE:List (Nat×AV)→List (Nat×AV)
 |[]=>[]
 |(i,v)::r=>bif Nat.ble HS i then (i,v)::hiE r else hiE r
abbrev DS.hi (δ:DS):DS:=⟨δ.n,hiE δ.env,δ.objs,δ.nx⟩
theorem look_hiE:∀(e:List (Nat×AV)) (j:Nat),look (hiE e) j=if j<HS then .any else look e j
 |[],j=>by simp [hiE,look]
 |(i,v)::r,j=>by
  have ih:=look_hiE r j
  rw[look_cons]
  unfold hiE
  cases hb:Nat.ble HS i with
  |true=>
   have hb':HS≤i:=by simpa using hb
   rw[cond_true,look_cons,ih]
   by_cases e:i=j
   ·subst e;rw[if_pos rfl,if_pos rfl,if_neg (by omega)]
   ·rw[if_neg e,if_neg e]
  |false=>
   have hb':¬HS≤i:=by
    intro h
    have h':Nat.ble HS i=true:=by simpa using h
    rw[hb] at h'
    cases h'
   rw[cond_false,ih]
   by_cases e:i=j
   ·subst e;rw[if_pos (by omega),if_pos (by omega)]
   ·rw[if_neg e]
theorem Rel.hi (r:Rel g δ κ a w):Rel g δ.hi κ a w:=
 {n:=r.n,dfr:=r.dfr
  env:=fun j=>by
   have:=r.env j
   show RA (δ.cx g κ) w _ (look (hiE δ.env) j)
   rw[look_hiE]
   by_cases h:j<HS
   ·rw[if_pos h];exact .any _
   ·rw[if_neg h];exact this
  obj:=r.obj,inj:=r.inj,lo:=r.lo,nx:=r.nx,wt:=r.wt,below:=r.below,hB:=r.hB,N0:=r.N0,fr:=r.fr,mkf:=r.mkf}
theorem lift_hi {e:Exit} (h:Q e δ.hi) (r:Rel g δ κ a w):lift g Q e a w:=⟨δ.hi,κ,h,r.hi⟩
namespace Nf
theorem hi (n:Nat) (e:List (Nat×AV)) (o:List (Nat×Option Ob)) (x:Nat):DS.hi ⟨n,e,o,x⟩=⟨n,hiE e,o,x⟩:=rfl
theorem hi0:hiE []=[]:=rfl
theorem hi1 (i:Nat) (v:AV) (r:List (Nat×AV)):hiE ((i,v)::r)=bif Nat.ble 1000 i then (i,v)::hiE r else hiE r:=rfl
end Nf
def SelfO (lr lb:Nat→Bool):List (Nat×Option Ob)→Prop
 |[]=>True
 |(_,none)::r=>SelfO lr lb r
 |(_,some o)::r=>obIds lr lb o=true∧SelfO lr lb r
theorem SelfO.at {lr lb:Nat→Bool}:∀{l:List (Nat×Option Ob)},SelfO lr lb l→∀i o,lookOb l i=some o→obIds lr lb o=true
 |[],_,i,o,h=>by simp [lookOb] at h
 |(j,none)::r,hs,i,o,h=>by
  rw[lookOb_cons] at h
  by_cases e:j=i
  ·rw[if_pos e] at h;cases h
  ·rw[if_neg e] at h;exact SelfO.at (l:=r) hs i o h
 |(j,some x)::r,hs,i,o,h=>by
  rw[lookOb_cons] at h
  by_cases e:j=i
  ·rw[if_pos e] at h;cases h;exact hs.1
  ·rw[if_neg e] at h;exact SelfO.at (l:=r) hs.2 i o h
theorem obIds_set {lr lb:Nat→Bool} {l:List Int}:obIds lr lb (.mp (mpI (setI l)))=true:=by
 unfold obIds
 rw[List.all_eq_true]
 intro p hp
 unfold mpI setI at hp
 obtain⟨q,hq,rfl⟩:=List.mem_map.1 hp
 obtain⟨x,_,rfl⟩:=List.mem_map.1 hq
 rfl
open Classical in
noncomputable def κX (objs0:List (Nat×Option Ob)) (κ κ':Nat→Option Nat):Nat→Option Nat:=fun i=>if (lookOb objs0 i).isSome=true then κ' i else κ i
theorem afterX_ob {objs0 objs1:List (Nat×Option Ob)} (hk:kindB objs0 objs1=true) (i:Nat):(δ.afterX objs0 objs1).ob i=match lookOb objs1 i with|some o=>some o|none=>(δ.ob i).map (Ob.mp' (AV.killS (rowsL objs0))):=by
 show lookOb (objs1++(δ.mapV (AV.killS (rowsL objs0))).objs) i=_
 rw[look_app (kindB_some hk)]
 cases h:lookOb objs1 i with
 |some o=>rfl
 |none=>exact ob_mapV _ _ _
theorem callX_core {T:World→Prop} {E:Cx→World→Ending→Prop} {y:Operand} {f:FuncId} {xs:List Operand} {tys:Array TypeId} {first cap args:List AV} {n0:Nat} {objs0 objs1:List (Nat×Option Ob)} (hwt:g.wt=none) (hTB:TB T g) (hf:FnXG T P E f n0 objs0 args objs1) (hy:δ.ev y=.clo (.func f) first cap) (hoy:okT y=true) (hos:xs.all okT=true)
  (hsub:SubO δ objs0) (hargs:LeXs (XS objs0 n0).lrB (XS objs0 n0).lbB (first++xs.map δ.ev++cap) args) (hk:kindB objs0 objs1=true) (hn0:nxB n0 objs0=true) (hself:SelfO (XS objs0 n0).lrB (XS objs0 n0).lbB objs0)
  (hself1:SelfO (XS objs1 n0).lrB (XS objs1 n0).lbB objs1)
  (hKr:∀(κ:Nat→Option Nat) (a:Act) (w':World) (C:Cx) (v:Value),Rel g (δ.afterX objs0 objs1) κ a w'→E C w' (.returned v)→(∀r,RA C w' v r→r.ids (XS objs1 n0).lrB (XS objs1 n0).lbB=true→RA ((δ.afterX objs0 objs1).cx g κ) w' v r)→wpListIn (Fw g.ro) 0 P ops (lift g Q) rest (a.put dst v) w')
  (hKp:∀(C:Cx) (w':World) (ch:List PanicEntry),E C w' (.panicked ch)→Q (.panic ch) (δ.afterX objs0 objs1).hi∨Q (.panic ch) (δ.afterX objs0 objs1)) (hno:∀(C:Cx) (w':World),¬E C w' .outgrown):
  AOps .plain P g ops (⟨dst,.call {callee:=.value y,args:=xs.toArray,argTypes:=tys},ty,pos,af,none⟩::rest) Q δ:=by
 intro κ a w r0
 have hra:=r0.ra hy hoy
 generalize hv:a.eval y=v at hra
 cases hra with
 | @clo _ vs us _ _ hs hvs ht hus=>
  obtain⟨ms,hm1,hm2,hm3⟩:=r0.dfr
  have hlive0:∀i,(XS objs0 n0).live i→δ.live i:=fun i ⟨o,h⟩=>⟨o,hsub.at i o h⟩
  let g':Ghost:={B:=g.B,w0:=w,N0:=fun b=>(δ.cx g κ).N b∨(∃i,(XS objs0 n0).live i∧κ i=some b)∨w.heap.size≤b,held:=fun _=>undef,ro:=none,mks:=ms++g.mks,wt:=none,fr:=fun b=>b<w.heap.size∧∀i,(XS objs0 n0).live i→κ i≠some b,w1:=w}
  have hN1:∀b,(δ.cx g κ).N b→((XS objs0 n0).cx g' κ).N b:=fun b h=>⟨.inl h,fun i hi=>h.2 i (hlive0 i hi)⟩
  have hlr1:∀i,(XS objs0 n0).lrB i=true→((XS objs0 n0).cx g' κ).Lr i∧((XS objs0 n0).cx g' κ).κ i=(δ.cx g κ).κ i:=fun i h=>⟨lrB_spec (δ:=XS objs0 n0) h,rfl⟩
  have hlb1:∀i,(XS objs0 n0).lbB i=true→((XS objs0 n0).cx g' κ).Lb i∧((XS objs0 n0).cx g' κ).κ i=(δ.cx g κ).κ i:=fun i h=>⟨lbB_spec (δ:=XS objs0 n0) h,rfl⟩
  have hrel:Rel g' (XS objs0 n0) κ act0 w:=
   {n:=rfl,dfr:=⟨[],rfl,hm2,hm3⟩,env:=fun j=> .any _
    obj:=fun i o h=>ObIs.to (C:=δ.cx g κ) (C':=(XS objs0 n0).cx g' κ) rfl hN1 hlr1 hlb1 rfl (r0.obj i o (hsub.at i o h)) (hself.at i o h)
    inj:=fun i j b h1 h2=>r0.inj i j b (hlive0 i h1) (hlive0 j h2)
    lo:=fun i b h1=>r0.lo i b (hlive0 i h1)
    nx:=fun i ⟨o,h⟩=>nxB_spec hn0 i o h
    wt:=fun k hk=>by cases hk
    below:=Below.refl _ _,hB:=r0.hB
    N0:=fun b hb hf=>by
     by_cases h1:w.heap.size≤b
     ·exact .inr (.inr h1)
     ·by_cases h2:∃i,(XS objs0 n0).live i∧κ i=some b
      ·exact .inr (.inl h2)
      ·exact absurd ⟨by omega,fun i hi e=>h2 ⟨i,hi,e⟩⟩ hf
    fr:=fun b hb=>⟨hb.1,rfl,hb.2⟩
    mkf:=fun d hd=>by cases hd}
  have hl:=hargs.len
  simp only[List.length_append,List.length_map] at hl
  have hvals:∀(j:Nat) (v:Value) (av:AV),(vs++xs.toArray.map a.eval++us)[j]? =some v→args[j]? =some av→RA ((XS objs0 n0).cx g' κ) w v av:=by
   intro j v av h1 h2
   have hjl:j<(first++xs.map δ.ev++cap).length:=by rw[hargs.len];exact(List.getElem?_eq_some_iff.1 h2).1
   have h3:=List.getElem?_eq_getElem hjl
   have hle:=hargs.at j _ av h3 h2
   generalize (first++xs.map δ.ev++cap)[j]=c at h3 hle
   have hc:RA (δ.cx g κ) w v c:=by
    by_cases hj:j<first.length+xs.length
    ·rw[List.getElem?_append_left (by simp;omega)] at h3
     rw[Array.getElem?_append_left (by simp;omega)] at h1
     by_cases hj1:j<first.length
     ·rw[List.getElem?_append_left hj1] at h3
      rw[Array.getElem?_append_left (by omega)] at h1
      exact hvs j v c h1 h3
     ·rw[List.getElem?_append_right (by omega)] at h3
      rw[Array.getElem?_append_right (by omega),hs] at h1
      simp only[List.map_toArray,List.getElem?_toArray,List.getElem?_map,Option.map_eq_some_iff] at h1 h3
      obtain⟨y,h5,rfl⟩:=h1
      obtain⟨y',h4,rfl⟩:=h3
      rw[h5] at h4;cases h4
      exact r0.evc y (okT_spec ((List.all_eq_true.1 hos) y (List.mem_of_getElem? h5)))
    ·rw[List.getElem?_append_right (by simp;omega)] at h3
     rw[Array.getElem?_append_right (by simp;omega)] at h1
     have e1:(vs++xs.toArray.map a.eval).size=(first++xs.map δ.ev).length:=by simp;omega
     rw[e1] at h1
     exact hus _ v c h1 h3
   cases hle with
   |any=>exact .any _
   |eq e hi=>subst e;exact RA.to (C:=δ.cx g κ) (C':=(XS objs0 n0).cx g' κ) rfl hN1 hlr1 hlb1 hc hi
   |nil k=>rw[hc.lit];exact .pv (rp_nil k)
  show wpListIn _ _ P ops _ (_::rest) a w
  refine wpl_plain rfl rfl fun K hK'=>?_
  unfold Oper.wpF
  rw[run_callv hv hf.enters,Oper.uponIn_enter]
  refine⟨fun h=>by simp at h,(callsIn_any (hf.calls g' κ w _ rfl rfl (fun w' hb=>hTB w' (r0.below.trans hb)) hrel (by simp;omega) hvals)).mono ?_⟩
  rintro e w' ⟨κ',hE,r1,hpin⟩
  obtain⟨F,hF⟩:∃F,F=AV.killS (rowsL objs0):=⟨_,rfl⟩
  have hob:=fun i=>afterX_ob (δ:=δ) hk i
  have hkind:=kindB_at hk
  have hsz:w.heap.size≤w'.heap.size:=r1.below.size
  have hfr:∀b,b<w.heap.size→(∀i,(XS objs0 n0).live i→κ i≠some b)→w'.heap[b]? =w.heap[b]?∧∀i,(XS objs1 n0).live i→κ' i≠some b:=fun b h1 h2=>(r1.fr b ⟨h1,h2⟩).2
  -- in and out
  have hin:∀i,(lookOb objs0 i).isSome=true→(XS objs0 n0).live i∧(XS objs1 n0).live i∧κX objs0 κ κ' i=κ' i:=fun i h=>by
   refine⟨Option.isSome_iff_exists.1 h,?_,if_pos h⟩
   cases hkind i with
   |none h0 _=>rw[h0] at h;cases h
   |row _ h1=>exact⟨_,h1⟩
   |box c d _ h1 _=>exact⟨_,h1⟩
   |lit T c d _ h1 _=>exact⟨_,h1⟩
   |mp c d _ h1 _=>exact⟨_,h1⟩
  have hout:∀i,¬(lookOb objs0 i).isSome=true→lookOb objs1 i=.none∧κX objs0 κ κ' i=κ i:=fun i h=>by
   refine⟨?_,if_neg h⟩
   cases hkind i with
   |none _ h1=>exact h1
   |row h0 _=>rw[h0] at h;exact absurd rfl h
   |box c d h0 _ _=>rw[h0] at h;exact absurd rfl h
   |lit T c d h0 _ _=>rw[h0] at h;exact absurd rfl h
   |mp c d h0 _ _=>rw[h0] at h;exact absurd rfl h
  have hob1:∀i,(lookOb objs0 i).isSome=true→(δ.afterX objs0 objs1).ob i=lookOb objs1 i:=fun i h=>by
   obtain⟨_,⟨o,h1⟩,_⟩:=hin i h
   rw[hob i]
   have h1:lookOb objs1 i=some o:=h1
   rw[h1]
  have hob2:∀i,¬(lookOb objs0 i).isSome=true→(δ.afterX objs0 objs1).ob i=(δ.ob i).map (Ob.mp' F):=fun i h=>by rw[hob i,(hout i h).1,hF]
  have hlive1:∀i,(lookOb objs0 i).isSome=true→δ.live i:=fun i h=>hlive0 i (hin i h).1
  have hlive2:∀i,¬(lookOb objs0 i).isSome=true→(δ.afterX objs0 objs1).live i→δ.live i:=fun i h ⟨o,ho⟩=>by
   rw[hob2 i h] at ho
   obtain⟨o',h1,_⟩:=Option.map_eq_some_iff.1 ho
   exact⟨o',h1⟩
  have hnd:∀i,¬(lookOb objs0 i).isSome=true→∀j,(XS objs0 n0).live j→j≠i:=fun i h j ⟨o,ho⟩ e=>by
   subst e
   have ho:lookOb objs0 j=some o:=ho
   rw[ho] at h
   exact h rfl
  have hold:∀i b,¬(lookOb objs0 i).isSome=true→δ.live i→κ i=some b→b<w.heap.size∧∀j,(XS objs0 n0).live j→κ j≠some b:=fun i b h hl hb=>
   ⟨(r0.lo i b hl hb).2,fun j hj e=>hnd i h j hj (r0.inj j i b (hlive0 j hj) hl e hb)⟩
  have hoN:∀b,(δ.cx g κ).N b→∀j,(XS objs0 n0).live j→κ j≠some b:=fun b h j hj=>h.2 j (hlive0 j hj)
  have hNN:∀b,b<w.heap.size→(δ.cx g κ).N b→((δ.afterX objs0 objs1).cx g (κX objs0 κ κ')).N b:=fun b h1 h2=>by
   refine⟨h2.1,fun i hi e=>?_⟩
   by_cases h:(lookOb objs0 i).isSome=true
   ·rw[(hin i h).2.2] at e
    exact(hfr b h1 (hoN b h2)).2 i (hin i h).2.1 e
   ·rw[(hout i h).2] at e
    exact h2.2 i (hlive2 i h hi) e
  have hsame:∀i b,(AV.ptr i 0∈pinL objs0∨AV.mapr i∈pinL objs0)→κ i=some b→κX objs0 κ κ' i=κ i:=fun i b hp hb=>by
   by_cases h:(lookOb objs0 i).isSome=true
   ·rw[(hin i h).2.2,hpin i b hp hb,hb]
   ·exact(hout i h).2
  have G:Goes ((δ.cx g κ).lessS (rowsL objs0)) w ((δ.afterX objs0 objs1).cx g (κX objs0 κ κ')) w':=
   {B:=rfl,size:=hsz
    N:=fun b h1 h2=>⟨hNN b h1 h2,(hfr b h1 (hoN b h2)).1⟩
    Lr:=fun i hi=>by
     have hl:δ.ob i=some .row:=hi.1
     have h:¬(lookOb objs0 i).isSome=true:=fun h=>by
      obtain⟨⟨o,ho⟩,_,_⟩:=hin i h
      have h1:=hsub.at i o ho
      rw[hl] at h1
      cases h1
      have:=rowsL_mem (l:=objs0) ho
      rw[hi.2] at this
      cases this
     refine⟨?_,(hout i h).2,fun b hb=>?_⟩
     ·show(δ.afterX objs0 objs1).ob i=_
      rw[hob2 i h,hl];rfl
     ·obtain⟨h1,h2⟩:=hold i b h ⟨_,hl⟩ hb
      exact(hfr b h1 h2).1
    Lb:=fun i hi=>by
     obtain⟨o,h1,h2⟩:=hi
     by_cases h:(lookOb objs0 i).isSome=true
     ·have h3:=hob1 i h
      cases hkind i with
      |none h0 _=>rw[h0] at h;cases h
      |row h0 _=>
       have:=hsub.at i _ h0
       rw[h1] at this
       cases this
       simp [Ob.isRow] at h2
      |box c d h0 h4 hp=>
       obtain⟨b,_,_,h5,_⟩:=r0.obj i _ (hsub.at i _ h0)
       exact⟨⟨_,h3.trans h4,rfl⟩,hsame i b (.inl hp) h5⟩
      |lit T c d h0 h4 hp=>
       obtain⟨b,h5,_⟩:=r0.obj i _ (hsub.at i _ h0)
       exact⟨⟨_,h3.trans h4,rfl⟩,hsame i b (.inl hp) h5⟩
      |mp c d h0 h4 hp=>
       obtain⟨b,_,_,h5,_⟩:=r0.obj i _ (hsub.at i _ h0)
       exact⟨⟨_,h3.trans h4,rfl⟩,hsame i b (.inr hp) h5⟩
     ·refine⟨⟨_,by rw[hob2 i h,h1];rfl,?_⟩,(hout i h).2⟩
      cases o<;>first|rfl|(simp [Ob.isRow] at h2)}
  have HF:∀{u:Value} {av:AV},RA (δ.cx g κ) w u av→RA ((δ.afterX objs0 objs1).cx g (κX objs0 κ κ')) w' u (F av):=fun h=>by rw[hF];exact h.killS G
  have hN2:∀b,((XS objs1 n0).cx g' κ').N b→((δ.afterX objs0 objs1).cx g (κX objs0 κ κ')).N b:=fun b h=>by
   obtain⟨h1,h2⟩:=h
   have hkk:∀i,(δ.afterX objs0 objs1).live i→κX objs0 κ κ' i=some b→¬(lookOb objs0 i).isSome=true∧δ.live i∧κ i=some b:=fun i hi e=>by
    by_cases h:(lookOb objs0 i).isSome=true
    ·rw[(hin i h).2.2] at e
     exact absurd e (h2 i (hin i h).2.1)
    ·rw[(hout i h).2] at e
     exact⟨h,hlive2 i h hi,e⟩
   rcases h1 with h1|⟨j,hj,hjb⟩|h1
   ·exact⟨h1.1,fun i hi e=>let ⟨_,h3,h4⟩:=hkk i hi e;h1.2 i h3 h4⟩
   ·refine⟨r0.N0own (hlive0 j hj) hjb,fun i hi e=>?_⟩
    obtain⟨h3,h4,h5⟩:=hkk i hi e
    exact hnd i h3 j hj (r0.inj j i b (hlive0 j hj) h4 hjb h5)
   ·refine⟨r0.N0new h1,fun i hi e=>?_⟩
    obtain⟨_,h4,h5⟩:=hkk i hi e
    have:=(r0.lo i b h4 h5).2
    omega
  have hlr2:∀i,(XS objs1 n0).lrB i=true→((δ.afterX objs0 objs1).cx g (κX objs0 κ κ')).Lr i∧((δ.afterX objs0 objs1).cx g (κX objs0 κ κ')).κ i=((XS objs1 n0).cx g' κ').κ i:=fun i h=>by
   have h1:lookOb objs1 i=some .row:=lrB_spec (δ:=XS objs1 n0) h
   have h2:(lookOb objs0 i).isSome=true:=by
    cases hkind i with
    |none _ h0=>rw[h0] at h1;cases h1
    |row h0 _=>rw[h0];rfl
    |box c d h0 _ _=>rw[h0];rfl
    |lit T c d h0 _ _=>rw[h0];rfl
    |mp c d h0 _ _=>rw[h0];rfl
   exact⟨(hob1 i h2).trans h1,(hin i h2).2.2⟩
  have hlb2:∀i,(XS objs1 n0).lbB i=true→((δ.afterX objs0 objs1).cx g (κX objs0 κ κ')).Lb i∧((δ.afterX objs0 objs1).cx g (κX objs0 κ κ')).κ i=((XS objs1 n0).cx g' κ').κ i:=fun i h=>by
   obtain⟨o,h1,h3⟩:=lbB_spec (δ:=XS objs1 n0) h
   have h1:lookOb objs1 i=some o:=h1
   have h2:(lookOb objs0 i).isSome=true:=by
    cases hkind i with
    |none _ h0=>rw[h0] at h1;cases h1
    |row h0 _=>rw[h0];rfl
    |box c d h0 _ _=>rw[h0];rfl
    |lit T c d h0 _ _=>rw[h0];rfl
    |mp c d h0 _ _=>rw[h0];rfl
   exact⟨⟨o,(hob1 i h2).trans h1,h3⟩,(hin i h2).2.2⟩
  have hR:Rel g (δ.afterX objs0 objs1) (κX objs0 κ κ') a w':=
   {n:=r0.n
    dfr:=by
     obtain⟨rs,_,_,k3⟩:=r1.dfr
     exact⟨ms,hm1,hm2,fun k hk=>k3 k (List.mem_append.2 (.inr hk))⟩
    env:=fun j=>by
     have:(δ.afterX objs0 objs1).get j=F (δ.get j):=by rw[hF];exact get_mapV _ (killS_any _) δ j
     rw[this];exact HF (r0.env j)
    obj:=fun i o h=>by
     by_cases hi:(lookOb objs0 i).isSome=true
     ·rw[hob1 i hi] at h
      exact ObIs.to (C:=(XS objs1 n0).cx g' κ') (C':=(δ.afterX objs0 objs1).cx g (κX objs0 κ κ')) rfl hN2 hlr2 hlb2 (hin i hi).2.2 (r1.obj i o h) (hself1.at i o h)
     ·rw[hob2 i hi] at h
      obtain⟨o',ho',rfl⟩:=Option.map_eq_some_iff.1 h
      have h0:=r0.obj i o' ho'
      have hκi:=(hout i hi).2
      have hbl:∀b,κ i=some b→w'.heap[b]? =w.heap[b]?:=fun b hb=>let ⟨h1,h2⟩:=hold i b hi ⟨_,ho'⟩ hb;(hfr b h1 h2).1
      cases o' with
      |row=>
       intro b hb
       have hb':κ i=some b:=by rw[← hκi];exact hb
       obtain⟨c,e,h1⟩:=h0 b hb'
       exact⟨c,e,(hbl b hb').trans h1⟩
      |lit T vals=>obtain⟨b,h1,h2⟩:=h0;exact⟨b,hκi.trans h1,(hbl b h1).trans h2⟩
      |box cs=>
       obtain⟨b,c,e,h1,h2,h3,h4⟩:=h0
       refine⟨b,c,e,hκi.trans h1,(hbl b h1).trans h2,by simpa using h3,fun k u av h5 h6=>?_⟩
       simp only[List.getElem?_map,Option.map_eq_some_iff] at h6
       obtain⟨av',h6,rfl⟩:=h6
       exact⟨HF (h4 k u av' h5 h6).1,(h4 k u av' h5 h6).2⟩
      |mp l=>
       obtain⟨b,es,clock,h1,h2,h3,h4⟩:=h0
       exact⟨b,es,clock,hκi.trans h1,(hbl b h1).trans h2,⟨h3.1,fun k e p h5 h6=>⟨(h3.2 k e p h5 h6).1,G.ra ((h3.2 k e p h5 h6).2.lessS (h4.2 p (List.mem_of_getElem? h6)))⟩⟩,h4⟩
      |mpl l kk v=>
       obtain⟨b,es,clock,h1,h2,h3,h4⟩:=h0
       exact⟨b,es,clock,hκi.trans h1,(hbl b h1).trans h2,h3.last (fun u p hp h=>G.ra (h.lessS (h4.2 p hp))) (fun u h=>HF h),h4⟩
      |it l seen=>
       obtain⟨b,h1,h2⟩:=h0
       exact⟨b,hκi.trans h1,h2.mono G.size G.N (hbl b h1)⟩
      |loop l tm ps asg body st=>
       obtain⟨b,lr,h1,h2,h3⟩:=h0
       exact⟨b,lr,hκi.trans h1,(hbl b h1).trans h2,h3⟩
    inj:=fun i j b h1 h2 h3 h4=>by
     by_cases hi:(lookOb objs0 i).isSome=true
     ·rw[(hin i hi).2.2] at h3
      by_cases hj:(lookOb objs0 j).isSome=true
      ·rw[(hin j hj).2.2] at h4
       exact r1.inj i j b (hin i hi).2.1 (hin j hj).2.1 h3 h4
      ·rw[(hout j hj).2] at h4
       obtain⟨k1,k2⟩:=hold j b hj (hlive2 j hj h2) h4
       exact absurd h3 ((hfr b k1 k2).2 i (hin i hi).2.1)
     ·rw[(hout i hi).2] at h3
      by_cases hj:(lookOb objs0 j).isSome=true
      ·rw[(hin j hj).2.2] at h4
       obtain⟨k1,k2⟩:=hold i b hi (hlive2 i hi h1) h3
       exact absurd h4 ((hfr b k1 k2).2 j (hin j hj).2.1)
      ·rw[(hout j hj).2] at h4
       exact r0.inj i j b (hlive2 i hi h1) (hlive2 j hj h2) h3 h4
    lo:=fun i b h1 h2=>by
     by_cases hi:(lookOb objs0 i).isSome=true
     ·rw[(hin i hi).2.2] at h2
      exact r1.lo i b (hin i hi).2.1 h2
     ·rw[(hout i hi).2] at h2
      have:=r0.lo i b (hlive2 i hi h1) h2
      exact⟨this.1,Nat.lt_of_lt_of_le this.2 hsz⟩
    nx:=fun i h=>by
     by_cases hi:(lookOb objs0 i).isSome=true
     ·exact r0.nx i (hlive1 i hi)
     ·exact r0.nx i (hlive2 i hi h)
    wt:=fun k hk=>by rw[hwt] at hk;cases hk
    below:=r0.below.trans r1.below
    hB:=r1.hB
    N0:=r0.N0
    fr:=fun b hb=>by
     obtain⟨h1,h2,h3⟩:=r0.fr b hb
     have hlt:=r0.fr.old hb
     have h4:=hfr b hlt fun i hi=>h3 i (hlive0 i hi)
     refine⟨h1,h4.1.trans h2,fun i hi e=>?_⟩
     by_cases hii:(lookOb objs0 i).isSome=true
     ·rw[(hin i hii).2.2] at e
      exact h4.2 i (hin i hii).2.1 e
     ·rw[(hout i hii).2] at e
      exact h3 i (hlive2 i hii hi) e
    mkf:=r0.mkf}
  cases e with
  |returned v=>exact hK' _ _ (hKr _ _ _ _ v hR hE fun r hvr hr=>RA.to (C:=(XS objs1 n0).cx g' κ') (C':=(δ.afterX objs0 objs1).cx g (κX objs0 κ κ')) rfl hN2 hlr2 hlb2 hvr hr)
  |panicked ch=>
           rcases hKp _ _ ch hE with h|h;·exact lift_hi h hR
           ·exact⟨_,_,h,hR⟩
  |outgrown=>exact absurd hE (hno _ _)
theorem AOps.callXT {T:World→Prop} {y:Operand} {f:FuncId} {xs:List Operand} {tys:Array TypeId} {first cap args:List AV} {r:AV} {n0:Nat} {objs0 objs1:List (Nat×Option Ob)} (hwt:g.wt=none) (hTB:TB T g) (hf:FnXT T P f n0 objs0 args objs1 r) (hy:δ.ev y=.clo (.func f) first cap) (hoy:okT y=true) (hos:xs.all okT=true)
  (hsub:SubO δ objs0) (hargs:LeXs (XS objs0 n0).lrB (XS objs0 n0).lbB (first++xs.map δ.ev++cap) args) (hk:kindB objs0 objs1=true) (hn0:nxB n0 objs0=true) (hself:SelfO (XS objs0 n0).lrB (XS objs0 n0).lbB objs0)
  (hself1:SelfO (XS objs1 n0).lrB (XS objs1 n0).lbB objs1) (hr:r.ids (XS objs1 n0).lrB (XS objs1 n0).lbB=true) (hd:okD δ.n dst=true)
  (hK:AOps .plain P g ops rest Q ((δ.afterX objs0 objs1).putd dst r)):
  AOps .plain P g ops (⟨dst,.call {callee:=.value y,args:=xs.toArray,argTypes:=tys},ty,pos,af,none⟩::rest) Q δ:=
 callX_core hwt hTB hf hy hoy hos hsub hargs hk hn0 hself hself1 (fun κ a w' C v hR hE hra=>by
  obtain⟨u,he,hu⟩:=hE
  cases he
  exact hK _ _ _ (hR.putd (okD_spec hd) (hra r hu hr))) (fun C w' ch hE=>by obtain⟨u,he,_⟩:=hE;cases he) (fun C w' hE=>by obtain⟨u,he,_⟩:=hE;cases he)
theorem AOps.callX {y:Operand} {f:FuncId} {xs:List Operand} {tys:Array TypeId} {first cap args:List AV} {r:AV} {n0:Nat} {objs0 objs1:List (Nat×Option Ob)} (hwt:g.wt=none) (hf:FnX P f n0 objs0 args objs1 r) (hy:δ.ev y=.clo (.func f) first cap) (hoy:okT y=true) (hos:xs.all okT=true)
  (hsub:SubO δ objs0) (hargs:LeXs (XS objs0 n0).lrB (XS objs0 n0).lbB (first++xs.map δ.ev++cap) args) (hk:kindB objs0 objs1=true) (hn0:nxB n0 objs0=true) (hself:SelfO (XS objs0 n0).lrB (XS objs0 n0).lbB objs0)
  (hself1:SelfO (XS objs1 n0).lrB (XS objs1 n0).lbB objs1) (hr:r.ids (XS objs1 n0).lrB (XS objs1 n0).lbB=true) (hd:okD δ.n dst=true)
  (hK:AOps .plain P g ops rest Q ((δ.afterX objs0 objs1).putd dst r)):
  AOps .plain P g ops (⟨dst,.call {callee:=.value y,args:=xs.toArray,argTypes:=tys},ty,pos,af,none⟩::rest) Q δ:=AOps.callXT hwt (fun _ _=>trivial) hf hy hoy hos hsub hargs hk hn0 hself hself1 hr hd hK
theorem AOps.callD {T:World→Prop} {t:TypeId} {y:Operand} {f:FuncId} {xs:List Operand} {tys:Array TypeId} {first cap args:List AV} {n0:Nat} {objs0 objs1:List (Nat×Option Ob)} (hwt:g.wt=none) (hTB:TB T g) (hf:FnD T P t f n0 objs0 args objs1) (hy:δ.ev y=.clo (.func f) first cap) (hoy:okT y=true) (hos:xs.all okT=true)
  (hsub:SubO δ objs0) (hargs:LeXs (XS objs0 n0).lrB (XS objs0 n0).lbB (first++xs.map δ.ev++cap) args) (hk:kindB objs0 objs1=true) (hn0:nxB n0 objs0=true) (hself:SelfO (XS objs0 n0).lrB (XS objs0 n0).lbB objs0)
  (hself1:SelfO (XS objs1 n0).lrB (XS objs1 n0).lbB objs1)
  (hK:∀ch,Pan t ch→Q (.panic ch) (δ.afterX objs0 objs1).hi):
  AOps .plain P g ops (⟨dst,.call {callee:=.value y,args:=xs.toArray,argTypes:=tys},ty,pos,af,none⟩::rest) Q δ:=
 callX_core hwt hTB hf hy hoy hos hsub hargs hk hn0 hself hself1 (fun κ a w' C v hR hE hra=>by obtain⟨u,he,_⟩:=hE;cases he) (fun C w' ch hE=>by
  obtain⟨u,he,hu⟩:=hE
  cases he
  exact .inl (hK _ hu)) (fun C w' hE=>by obtain⟨u,he,_⟩:=hE;cases he)
theorem AOps.callDK {T:World→Prop} {t:TypeId} {y:Operand} {f:FuncId} {xs:List Operand} {tys:Array TypeId} {first cap args:List AV} {n0:Nat} {objs0 objs1:List (Nat×Option Ob)} (hwt:g.wt=none) (hTB:TB T g) (hf:FnD T P t f n0 objs0 args objs1) (hy:δ.ev y=.clo (.func f) first cap) (hoy:okT y=true) (hos:xs.all okT=true)
  (hsub:SubO δ objs0) (hargs:LeXs (XS objs0 n0).lrB (XS objs0 n0).lbB (first++xs.map δ.ev++cap) args) (hk:kindB objs0 objs1=true) (hn0:nxB n0 objs0=true) (hself:SelfO (XS objs0 n0).lrB (XS objs0 n0).lbB objs0)
  (hself1:SelfO (XS objs1 n0).lrB (XS objs1 n0).lbB objs1)
  (hK:∀ch,Pan t ch→Q (.panic ch) (δ.afterX objs0 objs1)):
  AOps .plain P g ops (⟨dst,.call {callee:=.value y,args:=xs.toArray,argTypes:=tys},ty,pos,af,none⟩::rest) Q δ:=
 callX_core hwt hTB hf hy hoy hos hsub hargs hk hn0 hself hself1 (fun κ a w' C v hR hE hra=>by obtain⟨u,he,_⟩:=hE;cases he) (fun C w' ch hE=>by
  obtain⟨u,he,hu⟩:=hE
  cases he
  exact .inr (hK _ hu)) (fun C w' hE=>by obtain⟨u,he,_⟩:=hE;cases he)
end Go.Ab
namespace Go.Ab
open Go Go.RowKit
variable {P:Program} {g:Ghost} {δ:DS}
theorem endsX_ret {rs:List ResultVar} {objs0 objs1:List (Nat×Option Ob)} {r v:AV} (h:Res P δ rs v) (hw:WVs δ (XF δ objs0 objs1) [v,δ.get 1000] [r,.agg (pinL objs0)]) (ho:WObs δ (XF δ objs0 objs1) objs1) (hx:nxB δ.nx objs1=true):EndsX P rs objs0 objs1 r .ret δ:=⟨v,h,hw.1,hw.2.1,ho,hx⟩
theorem endsX_nor {rs:List ResultVar} {objs0 objs1:List (Nat×Option Ob)} {r v:AV} (h:Res P δ rs v) (hw:WVs δ (XF δ objs0 objs1) [v,δ.get 1000] [r,.agg (pinL objs0)]) (ho:WObs δ (XF δ objs0 objs1) objs1) (hx:nxB δ.nx objs1=true):EndsX P rs objs0 objs1 r .normal δ:=⟨v,h,hw.1,hw.2.1,ho,hx⟩
namespace Nf
variable {n x i:Nat} {e:List (Nat×AV)} {o l0 l1 l:List (Nat×Option Ob)} {rs:List Nat}
def kEs (rs:List Nat):List (Nat×AV)→List (Nat×AV)
 |[]=>[]
 |(i,v)::r=>(i,v.killS rs)::kEs rs r
def kOs (rs:List Nat):List (Nat×Option Ob)→List (Nat×Option Ob)
 |[]=>[]
 |(i,o)::r=>(i,o.map (Ob.mp' (AV.killS rs)))::kOs rs r
def kLs (rs:List Nat):List AV→List AV
 |[]=>[]
 |v::r=>v.killS rs::kLs rs r
theorem kEs_eq:∀e:List (Nat×AV),e.map (fun p=>(p.1,p.2.killS rs))=kEs rs e
 |[]=>rfl
 |(i,v)::r=>by rw[List.map_cons,kEs_eq r];rfl
theorem kOs_eq:∀o:List (Nat×Option Ob),o.map (fun p=>(p.1,p.2.map (Ob.mp' (AV.killS rs))))=kOs rs o
 |[]=>rfl
 |(i,v)::r=>by rw[List.map_cons,kOs_eq r];rfl
theorem kLs_eq:∀l:List AV,AV.mpL (killSF rs) l=kLs rs l
 |[]=>rfl
 |v::r=>by rw[AV.mpL,kLs_eq r];rfl
theorem kLs_map (l:List AV):l.map (AV.killS rs)=kLs rs l:=by
 induction l with
 |nil=>rfl
 |cons v r ih=>rw[List.map_cons,ih];rfl
theorem af:DS.afterX ⟨n,e,o,x⟩ l0 l1=⟨n,kEs (rowsL l0) e,l1++kOs (rowsL l0) o,x⟩:=by
 show(⟨n,e.map (fun p=>(p.1,p.2.killS (rowsL l0))),l1++o.map (fun p=>(p.1,p.2.map (Ob.mp' (AV.killS (rowsL l0))))),x⟩:DS)=_
 rw[kEs_eq,kOs_eq]
theorem xe0:kEs rs []=[]:=rfl
theorem xe1 (i:Nat) (v:AV) (r:List (Nat×AV)):kEs rs ((i,v)::r)=(i,v.killS rs)::kEs rs r:=rfl
theorem xo0:kOs rs []=[]:=rfl
theorem xon (i:Nat) (r:List (Nat×Option Ob)):kOs rs ((i,none)::r)=(i,none)::kOs rs r:=rfl
theorem xor (i:Nat) (r:List (Nat×Option Ob)):kOs rs ((i,some .row)::r)=(i,some .row)::kOs rs r:=rfl
theorem xob (i:Nat) (cs:List AV) (r:List (Nat×Option Ob)):kOs rs ((i,some (.box cs))::r)=(i,some (.box (kLs rs cs)))::kOs rs r:=by
 show(i,some (Ob.box (cs.map (AV.killS rs))))::kOs rs r=_
 rw[kLs_map]
theorem xot (i:Nat) (T:TypeId) (vs:Array Value) (r:List (Nat×Option Ob)):kOs rs ((i,some (.lit T vs))::r)=(i,some (.lit T vs))::kOs rs r:=rfl
theorem xom (i:Nat) (l:List (Value×AV)) (r:List (Nat×Option Ob)):kOs rs ((i,some (.mp l))::r)=(i,some (.mp l))::kOs rs r:=rfl
theorem xoi (i:Nat) (l:List (Value×PV)) (s:List Nat) (r:List (Nat×Option Ob)):kOs rs ((i,some (.it l s))::r)=(i,some (.it l s))::kOs rs r:=rfl
theorem xol (i:Nat) (l:List (Value×AV)) (k:Value) (v:AV) (r:List (Nat×Option Ob)):kOs rs ((i,some (.mpl l k v))::r)=(i,some (.mpl l k (v.killS rs)))::kOs rs r:=rfl
theorem xop (i m:Nat) (tm:Array Value) (ps:Array Tmp) (a b:Code) (st:LpSt) (r:List (Nat×Option Ob)):kOs rs ((i,some (.loop m tm ps a b st))::r)=(i,some (.loop m tm ps a b st))::kOs rs r:=rfl
theorem xl0:kLs rs []=[]:=rfl
theorem xl1 (v:AV) (r:List AV):kLs rs (v::r)=v.killS rs::kLs rs r:=rfl
theorem xk_any:AV.killS rs .any=.any:=rfl
theorem xk_pv (p:PV):AV.killS rs (.pv p)=.pv p:=rfl
theorem xk_ptr (j k:Nat):AV.killS rs (.ptr j k)=.ptr j k:=rfl
theorem xk_rptr (c:List PV):AV.killS rs (.rptr c)=.rptr c:=rfl
theorem xk_mapr (j:Nat):AV.killS rs (.mapr j)=.mapr j:=rfl
theorem xk_yld (j:Nat):AV.killS rs (.yld j)=.yld j:=rfl
theorem xk_own (j:Nat) (t:TypeId) (k:Nat) (els:List (List PV)):AV.killS rs (.own j t k els)=bif memN j rs then .any else .own j t k els:=rfl
theorem xk_optr (j:Nat) (t:TypeId) (k:Nat) (els:List (List PV)) (m:Nat):AV.killS rs (.optr j t k els m)=bif memN j rs then .any else .optr j t k els m:=rfl
theorem xk_agg (cs:List AV):AV.killS rs (.agg cs)=.agg (kLs rs cs):=by show AV.agg (AV.mpL (killSF rs) cs)=_;rw[kLs_eq]
theorem xk_tup (cs:List AV):AV.killS rs (.tup cs)=.tup (kLs rs cs):=by show AV.tup (AV.mpL (killSF rs) cs)=_;rw[kLs_eq]
theorem xk_clo (fn:Go.Fn) (cs ds:List AV):AV.killS rs (.clo fn cs ds)=.clo fn (kLs rs cs) (kLs rs ds):=by show AV.clo fn (AV.mpL (killSF rs) cs) (AV.mpL (killSF rs) ds)=_;rw[kLs_eq,kLs_eq]
theorem rw0:rowsL []=[]:=rfl
theorem rwr (i:Nat) (r:List (Nat×Option Ob)):rowsL ((i,some .row)::r)=i::rowsL r:=rfl
theorem rwb (i:Nat) (c:List AV) (r:List (Nat×Option Ob)):rowsL ((i,some (.box c))::r)=rowsL r:=rfl
theorem rwt (i:Nat) (T:TypeId) (vs:Array Value) (r:List (Nat×Option Ob)):rowsL ((i,some (.lit T vs))::r)=rowsL r:=rfl
theorem rwm (i:Nat) (c:List (Value×AV)) (r:List (Nat×Option Ob)):rowsL ((i,some (.mp c))::r)=rowsL r:=rfl
theorem pi0:pinL []=[]:=rfl
theorem pir (i:Nat) (r:List (Nat×Option Ob)):pinL ((i,some .row)::r)=pinL r:=rfl
theorem pib (i:Nat) (c:List AV) (r:List (Nat×Option Ob)):pinL ((i,some (.box c))::r)=.ptr i 0::pinL r:=rfl
theorem pit (i:Nat) (T:TypeId) (vs:Array Value) (r:List (Nat×Option Ob)):pinL ((i,some (.lit T vs))::r)=.ptr i 0::pinL r:=rfl
theorem pim (i:Nat) (c:List (Value×AV)) (r:List (Nat×Option Ob)):pinL ((i,some (.mp c))::r)=.mapr i::pinL r:=rfl
theorem cn {α:Type} (a:α) (r s:List α):(a::r)++s=a::(r++s):=rfl
theorem nn {α:Type} (s:List α):[]++s=s:=rfl
end Nf
end Go.Ab
/- Short names of the rules that a walk takes most often;what is plain is filled in. -/
namespace Go.Ab
open Go Go.RowKit
variable {P:Program} {g:Ghost} {δ:DS} {q:Md} {ops:Array Oper} {rest:List Oper} {Q:Exit→DS→Prop} {dst:Option Nat} {ty:TypeId} {pos:String} {af:Array Edge}
theorem nz {A:DS→Prop} {δ δ':DS} (h:A δ') (e:δ=δ':=by conv=>lhs;simp only[Nf.all,Nat.reduceBEq,Nat.reduceAdd,Nat.reduceSub]):A δ:=e▸h
theorem zm {x:Operand} {p:PV} (hK:AOps q P g ops rest Q (δ.putd dst (.pv p))) (hx:δ.ev x=.pv p:=by exact rfl) (ho:okT x=true:=by exact rfl) (hd:okD δ.n dst=true:=by exact rfl):AOps q P g ops (⟨dst,.move x,ty,pos,af,none⟩::rest) Q δ:=AOps.move_pv hx ho hd hK
theorem za {x:Operand} {p:PV} (hK:AOps q P g ops rest Q (δ.putd dst (.pv p))) (hx:δ.ev x=.pv p:=by exact rfl) (ho:okT x=true:=by exact rfl) (hd:okD δ.n dst=true:=by exact rfl):AOps q P g ops (⟨dst,.assign x,ty,pos,af,none⟩::rest) Q δ:=AOps.assign_pv hx ho hd hK
theorem zl {op:Op} {gj d:Nat} {want b:Bool} {o':Oper} (hy:AOps q P g ops (⟨dst,op,ty,pos,af,none⟩::rest) Q δ) (ho:ops[gj]? =some o':=by exact rfl) (hd:o'.dst=some d:=by exact rfl) (hd0:Nat.blt d HS=true:=by exact rfl) (hdn:Nat.blt d δ.n=true:=by exact rfl) (hb:δ.get d=litB b:=by exact rfl) (hbw:b=want:=by exact rfl) (hdd:okD δ.n dst=true:=by exact rfl):
  AOps q P g ops (⟨dst,op,ty,pos,af,some (gj,want)⟩::rest) Q δ:=AOps.guard_lt ho hd hd0 hdn hb hbw hdd hy
theorem zy {op:Op} {gj d:Nat} {o':Oper} {p:Prop} {_:Decidable p} (hy:AOps q P g ops (⟨dst,op,ty,pos,af,none⟩::rest) Q δ) (ho:ops[gj]? =some o':=by exact rfl) (hd:o'.dst=some d:=by exact rfl) (hd0:Nat.blt d HS=true:=by exact rfl) (hdn:Nat.blt d δ.n=true:=by exact rfl) (hb:δ.get d=litB (decide p):=by exact rfl) (hdd:okD δ.n dst=true:=by exact rfl) (hp:¬p:=by first|(with_reducible assumption)|omega|decide):
  AOps q P g ops (⟨dst,op,ty,pos,af,some (gj,false)⟩::rest) Q δ:=AOps.guardFy ho hd hb hd0 hdn hdd hp hy
theorem zt {op:Op} {gj d:Nat} {o':Oper} {p:Prop} {_:Decidable p} (hy:AOps q P g ops (⟨dst,op,ty,pos,af,none⟩::rest) Q δ) (ho:ops[gj]? =some o':=by exact rfl) (hd:o'.dst=some d:=by exact rfl) (hd0:Nat.blt d HS=true:=by exact rfl) (hdn:Nat.blt d δ.n=true:=by exact rfl) (hb:δ.get d=litB (decide p):=by exact rfl) (hdd:okD δ.n dst=true:=by exact rfl) (hp:p:=by first|(with_reducible assumption)|omega|decide):
  AOps q P g ops (⟨dst,op,ty,pos,af,some (gj,true)⟩::rest) Q δ:=AOps.guardTy ho hd hb hd0 hdn hdd hp hy
theorem zb {x:Operand} {t:TypeId} {i off:Nat} {cells:List AV} {v:AV} (hK:AOps q P g ops rest Q (δ.putd dst v)) (hx:δ.ev x=.ptr i off:=by exact rfl) (hb:δ.ob i=some (.box cells):=by exact rfl) (hv:cells[off]? =some v:=by exact rfl) (ht:scalarT P t=true:=by exact rfl) (ho:okT x=true:=by exact rfl) (hd:okD δ.n dst=true:=by exact rfl):
  AOps q P g ops (⟨dst,.load t x,ty,pos,af,none⟩::rest) Q δ:=AOps.load_b1 hx hb hv ht ho hd hK
theorem zn {α:Type} {x:Operand} {t e:TypeId} {k:Nat} {f:α→List PV} {l:List α} (hK:AOps q P g ops rest Q (δ.putd dst (litI (l.length:Nat)))) (hx:δ.ev x=.pv (.slice k (l.map f)):=by exact rfl) (ht:P.underlying t=some (.slice e):=by exact rfl) (ho:okT x=true:=by exact rfl) (hd:okD δ.n dst=true:=by exact rfl):
  AOps q P g ops (⟨dst,.call {callee:=.builtin .len,args:= #[x],argTypes:= #[t]},ty,pos,af,none⟩::rest) Q δ:=AOps.len_map hx ht ho hd hK
theorem zs {x y:Operand} {t t':TypeId} {m n:Int} (hK:AOps q P g ops rest Q (δ.putd dst (litB (decide (m<n))))) (hx:δ.ev x=litI m:=by exact rfl) (hy:δ.ev y=litI n:=by exact rfl) (ho:okT x=true:=by exact rfl) (ho':okT y=true:=by exact rfl) (hd:okD δ.n dst=true:=by exact rfl):
  AOps q P g ops (⟨dst,.binOp .lss t x y t',ty,pos,af,none⟩::rest) Q δ:=AOps.lss hx hy ho ho' hd hK
set_option linter.defProp false in
abbrev zd:= @AOps.nilD
set_option linter.defProp false in
abbrev zq:= @AW.seqR
set_option linter.defProp false in
abbrev zo:= @AW.seq
theorem zc {c:Operand} {x y:Code} {p:Prop} {_:Decidable p} (h1:AW P g x Q δ) (ho:okT c=true:=by exact rfl) (hc:δ.ev c=litB (decide p):=by exact rfl) (hp:p:=by first|(with_reducible assumption)|omega|decide):AW P g (.cond c x y) Q δ:=AW.condY ho hc hp h1
theorem zk {c:Operand} {x y:Code} {p:Prop} {_:Decidable p} (h1:AW P g y Q δ) (ho:okT c=true:=by exact rfl) (hc:δ.ev c=litB (decide p):=by exact rfl) (hp:¬p:=by first|(with_reducible assumption)|omega|decide):AW P g (.cond c x y) Q δ:=AW.condN ho hc hp h1
theorem zr {x:Operand} {t:TypeId} {p:PV} (hK:AOps q P g ops rest Q (δ.putd dst (.pv p))) (hx:δ.ev x=.rptr [p]:=by exact rfl) (ht:scalarT P t=true:=by exact rfl) (ho:okT x=true:=by exact rfl) (hd:okD δ.n dst=true:=by exact rfl):AOps q P g ops (⟨dst,.load t x,ty,pos,af,none⟩::rest) Q δ:=AOps.load_r1 hx ht ho hd hK
theorem zA {f:FuncId} {xs:List Operand} {tys:Array TypeId} {args:List AV} {r:AV} (hf:Fn P f args r) (hK:AOps q P g ops rest Q (δ.putd dst r)) (hargs:Args true δ xs args:=by repeat (first|exact .nil|(refine .cons rfl ?_ ?_;(first|exact .pv _|exact .own _ _ _ _ rfl|exact .nil _|exact .any _|exact .rptr _|(refine .aggL ?_;repeat (first|exact .nil|(refine .cons ?_ ?_;(first|exact .pv _|exact .own _ _ _ _ rfl|exact .nil _)))))))) (hdet:r.det=true:=by exact rfl) (hd:okD δ.n dst=true:=by exact rfl) (hq:q≠ .held:=by exact(fun h_=>by cases h_)):
  AOps q P g ops (⟨dst,.call {callee:=.value (.func f),args:=xs.toArray,argTypes:=tys},ty,pos,af,none⟩::rest) Q δ:=AOps.call hf hargs hdet hd hq hK
theorem zP {f:FuncId} {xs:List Operand} {tys:Array TypeId} {args:List AV} {r:AV} (hf:Fn P f args r) (hK:AOps .plain P g ops rest Q (δ.putd dst r)) (hargs:Args false δ xs args:=by repeat (first|exact .nil|(refine .cons rfl ?_ ?_;(first|exact .pv _|exact .own _ _ _ _ rfl|exact .nil _|exact .any _|exact .rptr _|(refine .aggL ?_;repeat (first|exact .nil|(refine .cons ?_ ?_;(first|exact .pv _|exact .own _ _ _ _ rfl|exact .nil _)))))))) (hd:okD δ.n dst=true:=by exact rfl):
  AOps .plain P g ops (⟨dst,.call {callee:=.value (.func f),args:=xs.toArray,argTypes:=tys},ty,pos,af,none⟩::rest) Q δ:=AOps.callp hf hargs hd hK
theorem zX {y:Operand} {f:FuncId} {xs:List Operand} {tys:Array TypeId} {first cap args:List AV} {r:AV} {n0:Nat} {objs0 objs1:List (Nat×Option Ob)} (hf:FnX P f n0 objs0 args objs1 r) (hK:AOps .plain P g ops rest Q ((δ.afterX objs0 objs1).putd dst r)) (hwt:g.wt=none:=by with_reducible assumption) (hy:δ.ev y=.clo (.func f) first cap:=by exact rfl) (hoy:okT y=true:=by exact rfl) (hos:xs.all okT=true:=by exact rfl)
  (hsub:SubO δ objs0:=by repeat (first|exact trivial|refine⟨rfl,?_⟩)) (hargs:LeXs (XS objs0 n0).lrB (XS objs0 n0).lbB (first++xs.map δ.ev++cap) args:=by repeat (first|exact .nil|(refine .cons ?_ ?_;(first|exact .eq rfl rfl|exact .nil _|exact .any _)))) (hk:kindB objs0 objs1=true:=by exact rfl) (hn0:nxB n0 objs0=true:=by exact rfl) (hself:SelfO (XS objs0 n0).lrB (XS objs0 n0).lbB objs0:=by repeat (first|exact trivial|refine⟨rfl,?_⟩|refine⟨obIds_set,?_⟩))
  (hself1:SelfO (XS objs1 n0).lrB (XS objs1 n0).lbB objs1:=by repeat (first|exact trivial|refine⟨rfl,?_⟩|refine⟨obIds_set,?_⟩)) (hr:r.ids (XS objs1 n0).lrB (XS objs1 n0).lbB=true:=by exact rfl) (hd:okD δ.n dst=true:=by exact rfl):
  AOps .plain P g ops (⟨dst,.call {callee:=.value y,args:=xs.toArray,argTypes:=tys},ty,pos,af,none⟩::rest) Q δ:=AOps.callX hwt hf hy hoy hos hsub hargs hk hn0 hself hself1 hr hd hK
theorem nx {A:DS→Prop} {δ δ':DS} (h:A δ') (e:δ=δ':=by conv=>lhs;simp only[Nf.af,Nf.xe0,Nf.xe1,Nf.xo0,Nf.xon,Nf.xor,Nf.xob,Nf.xom,Nf.xoi,Nf.xol,Nf.xop,Nf.xl0,Nf.xl1,Nf.xk_any,Nf.xk_pv,Nf.xk_ptr,Nf.xk_rptr,Nf.xk_mapr,Nf.xk_yld,Nf.xk_own,Nf.xk_optr,Nf.xk_agg,Nf.xk_tup,Nf.xk_clo,Nf.rw0,Nf.rwr,Nf.rwb,Nf.rwm,Nf.cn,Nf.nn,memN0,memN1,Nat.reduceBEq,cond_true,cond_false]):A δ:=e▸h
theorem zB {x y:Operand} {t:TypeId} {i:Nat} {cells cs:List AV} (hK:AOps .plain P g ops rest Q ((δ.setOb i (some (.box cs))).putd dst .any)) (hx:δ.ev x=.ptr i 0:=by exact rfl) (hy:δ.ev y=.agg cs:=by exact rfl) (hb:δ.ob i=some (.box cells):=by exact rfl) (hlen:cells.length=cs.length:=by exact rfl) (ht:(P.info? t).map (·.size)=some cs.length:=by exact rfl) (h1:AV.ones cs=true:=by exact rfl) (ho:okT x=true:=by exact rfl) (ho':okT y=true:=by exact rfl) (hd:okD δ.n dst=true:=by exact rfl) (hwt:g.wt=none:=by with_reducible assumption):
  AOps .plain P g ops (⟨dst,.store t x y,ty,pos,af,none⟩::rest) Q δ:=AOps.store_bn hx hy hb hlen ht h1 ho ho' hd hwt hK
theorem zL {x:Operand} {t:TypeId} {i:Nat} {cells:List AV} (hK:AOps q P g ops rest Q (δ.putd dst (.agg cells))) (hx:δ.ev x=.ptr i 0:=by exact rfl) (hb:δ.ob i=some (.box cells):=by exact rfl) (ht:aggT P t cells.length=true:=by exact rfl) (ho:okT x=true:=by exact rfl) (hd:okD δ.n dst=true:=by exact rfl):
  AOps q P g ops (⟨dst,.load t x,ty,pos,af,none⟩::rest) Q δ:=AOps.load_ball hx hb ht ho hd hK
theorem zj {x y:Operand} {t t':TypeId} {m n:Int} (hK:AOps q P g ops rest Q (δ.putd dst (litI (m+n)))) (hx:δ.ev x=litI m:=by exact rfl) (hy:δ.ev y=litI n:=by exact rfl) (ho:okT x=true:=by exact rfl) (ho':okT y=true:=by exact rfl) (hd:okD δ.n dst=true:=by exact rfl) (hb: -9223372036854775808≤m+n∧m+n≤9223372036854775807:=by omega):
  AOps q P g ops (⟨dst,.binOp .add t x y t',ty,pos,af,none⟩::rest) Q δ:=AOps.add hx hy ho ho' hd hb hK
theorem zF {x y z:Operand} {p:Prop} {_:Decidable p} {v:PV} (hK:AOps q P g ops rest Q (δ.putd dst (.pv v))) (hx:δ.ev x=litB (decide p):=by exact rfl) (hz:δ.ev z=.pv v:=by exact rfl) (hp:¬p:=by first|(with_reducible assumption)|omega|decide) (ho:okT x=true:=by exact rfl) (hoy:okT y=true:=by exact rfl) (hoz:okT z=true:=by exact rfl) (hd:okD δ.n dst=true:=by exact rfl):
  AOps q P g ops (⟨dst,.pick x y z,ty,pos,af,none⟩::rest) Q δ:=AOps.pickF_pv hx hz hp ho hoy hoz hd hK
theorem zT {x y z:Operand} {p:Prop} {_:Decidable p} {v:PV} (hK:AOps q P g ops rest Q (δ.putd dst (.pv v))) (hx:δ.ev x=litB (decide p):=by exact rfl) (hy:δ.ev y=.pv v:=by exact rfl) (hp:p:=by first|(with_reducible assumption)|omega|decide) (ho:okT x=true:=by exact rfl) (hoy:okT y=true:=by exact rfl) (hoz:okT z=true:=by exact rfl) (hd:okD δ.n dst=true:=by exact rfl):
  AOps q P g ops (⟨dst,.pick x y z,ty,pos,af,none⟩::rest) Q δ:=AOps.pickT_pv hx hy hp ho hoy hoz hd hK
end Go.Ab
/- A row's first part;append of made zeros to nothing;a capacity. -/
namespace Go.Ab
open Go Go.RowKit
variable {q:Md} {P:Program} {g:Ghost} {δ:DS} {κ:Nat→Option Nat} {a:Act} {w:World}
variable {ops:Array Oper} {rest:List Oper} {Q:Exit→DS→Prop} {dst:Option Nat} {ty:TypeId} {pos:String} {af:Array Edge} {gd:Option (Tmp×Bool)}
namespace Nf
variable {n x:Nat} {e:List (Nat×AV)} {o:List (Nat×Option Ob)}
end Nf
end Go.Ab
/- Contracts of callees that return a row of their own making;the caller owns it from then on. -/
namespace Go.Ab
open Go Go.RowKit
variable {P:Program} {g:Ghost} {δ:DS} {κ:Nat→Option Nat} {a:Act} {w:World}
variable {ops:Array Oper} {rest:List Oper} {Q:Exit→DS→Prop} {dst:Option Nat} {ty:TypeId} {pos:String} {af:Array Edge}
structure Fresh (N:Nat→Prop) (w:World) (B:Nat) (v:Value) (e:TypeId) (k:Nat) (els:List (List PV)):Prop where
 lim:els.length≤140737488355328
 hk:∀c∈els,c.length=k
 row:∃xs,w.ownsRow B e k v els.length xs∧(∀u∈xs,u.oneCell'=true)∧∀i' j p,cellAt els i' j=some p→∃u,xs[i'*k+j]? =some u∧RP (fun b=>N b∧v.ownBlock≠some b) w u p
structure FnO (P:Program) (f:FuncId) (args:List AV) (e:TypeId) (k:Nat) (els:List (List PV)):Prop where
 enters:∀vals w,(callFunc f vals).run P w=.ok (.enter f vals) w
 calls:∀(N:Nat→Prop) (w:World) (vals:Array Value),(∀b,w.heap.size≤b→N b)→vals.size=args.length→
  (∀(j:Nat) (v:Value) (av:AV),vals[j]? =some v→args[j]? =some av→RA (pcx N) w v av)→
  Calls P f vals w fun en w'=>∃v,en=.returned v∧Below w.heap.size w w'∧Fresh N w' w.heap.size v e k els
def EndsO (P:Program) (rs:List ResultVar) (e:TypeId) (k:Nat) (els:List (List PV)):Exit→DS→Prop
 |.normal,δ|.ret,δ=>(∃i,Res P δ rs (.own i e k els))∨(els=[]∧Res P δ rs (.pv (.lit (.slice none 0 0))))
 |_,_=>False
theorem FnO.enter {f:FuncId} {fn:Func} {c:Code} {rs:List ResultVar} {n:Nat} {args:List AV} {e:TypeId} {k:Nat} {els:List (List PV)} (hf:P.funcs[f]? =some fn) (hb:fn.body=some c) (hrs:fn.results=rs.toArray) (hn:fn.ntmps=n) (hna:Nat.ble args.length n=true)
  (hna':Nat.ble n HS=true) (he:(fn.name== "runtime.NumGoroutine")=false) (h:∀g:Ghost,g.ro=none→g.wt=none→AW P g c (EndsO P rs e k els) (start n args)):FnO P f args e k els:=by
 refine⟨fun vals w=>by simp [callFunc,hf,hb];simpa using he,fun N w vals hN hs hargs=>?_⟩
 have hle:args.length≤n:=by simpa using hna
 have hnH:n≤HS:=by simpa using hna'
 let g:Ghost:={B:=w.heap.size,w0:=w,N0:=N,held:=fun _=>undef,ro:=none,mks:=[],wt:=none,fr:=fun _=>False,w1:=w}
 have hnl:∀i,¬(start n args).live i:=fun i ⟨o,h⟩=>by cases h
 refine callsIn_wide.1 (callsIn_of_wp_marks (n:=0) hf hb trivial (wpIn_mono (h g rfl rfl (fun _=>none) _ w ?_) ?_))
 ·exact
  {n:=by simp [hn,start];omega
   dfr:=⟨[],rfl,by simp [g],by simp [g]⟩
   env:=fun j=>by
    by_cases hj:j<args.length
    ·have h1:(start n args).get j=args[j]:=look_enum args 0 j _ (Nat.zero_le _) (by simp [hj])
     have h2:g.val {tmps:=vals++Array.replicate (fn.ntmps - vals.size) undef,defers:=[]} j=vals[j]'(by omega):=by
      unfold Ghost.val
      rw[if_pos (by omega)]
      simp [Array.getD_eq_getD_getElem?,Array.getElem?_append,hs,hj]
     rw[h1,h2]
     exact(hargs j _ _ (Array.getElem?_eq_getElem (by omega)) (List.getElem?_eq_getElem hj)).of_pcx _ fun b _ h=>⟨h,fun i hi=>absurd hi (hnl i)⟩
    ·have h1:(start n args).get j=.any:=look_enum_out args 0 j (by omega)
     rw[h1];exact .any _
   obj:=fun i o h=>by cases h
   inj:=fun i j b h=>absurd h (hnl i)
   lo:=fun i b h=>absurd h (hnl i)
   nx:=fun i h=>absurd h (hnl i)
   wt:=fun k hk=>by cases hk
   below:=Below.refl _ _
   hB:=Nat.le_refl _
   N0:=fun b h _=>hN b h
   fr:=fun b hb=>hb.elim
   mkf:=fun d hd=>by cases hd}
 ·rintro ex a' w' ⟨δ',κ',hq,r'⟩
  have fin:∀i,Res P δ' rs (.own i e k els)→LeavesInM Fence.wide 0 P fn a'.tmps (fun en w'=>∃v,en=.returned v∧Below w.heap.size w w'∧Fresh N w' w.heap.size v e k els) a'.defers .returning w':=by
   intro i h1
   exact leaves (g:=g) rfl rfl hrs h1 r' (fun w2 r2 u hu=>by
    have ho:=hu.own_inv
    refine⟨u,rfl,r2.below,ho.lim,ho.hk,?_⟩
    obtain⟨xs,h3,h4,h5⟩:=ho.row
    refine⟨xs,h3,h4,fun i' j p hp=>?_⟩
    obtain⟨v,hv,hr⟩:=h5 i' j p hp
    refine⟨v,hv,hr.mono (Nat.le_refl _) fun b _ hN=>⟨⟨hN.1,fun hb=>?_⟩,rfl⟩⟩
    exact hN.2 i (DS.lr_live ho.live) (ho.blk b hb))
  have finN:els=[]→Res P δ' rs (.pv (.lit (.slice none 0 0)))→LeavesInM Fence.wide 0 P fn a'.tmps (fun en w'=>∃v,en=.returned v∧Below w.heap.size w w'∧Fresh N w' w.heap.size v e k els) a'.defers .returning w':=by
   intro h0 h1
   exact leaves (g:=g) rfl rfl hrs h1 r' (fun w2 r2 u hu=>by
    have hu:=hu.lit
    subst hu
    subst h0
    exact⟨_,rfl,r2.below,by simp,fun c hc=>by simp at hc,[],World.ownsRow_nil _ _ _ _,fun u hu=>by simp at hu,fun i' j p hp=>by simp [cellAt] at hp⟩)
  cases ex with
  |normal=>
   rcases hq with ⟨i,h1⟩|⟨h0,h1⟩
   ·exact fin i h1
   ·exact finN h0 h1
  |ret=>
   rcases hq with ⟨i,h1⟩|⟨h0,h1⟩
   ·exact fin i h1
   ·exact finN h0 h1
  |_=>exact hq.elim
end Go.Ab
/- Strings:joined,compared,measured,indexed,cut;numbers of any kind compared. -/
namespace Go.Ab
open Go Go.RowKit
variable {q:Md} {P:Program} {g:Ghost} {δ:DS} {κ:Nat→Option Nat} {a:Act} {w:World}
variable {ops:Array Oper} {rest:List Oper} {Q:Exit→DS→Prop} {dst:Option Nat} {ty:TypeId} {pos:String} {af:Array Edge}
abbrev litS (s:ByteArray):AV:=.pv (.lit (.string s))
theorem toList_beq (s u:ByteArray):(s.toList==u.toList)=decide (s=u):=by
 rw[ByteArray.toList_eq,ByteArray.toList_eq]
 by_cases h:s=u
 ·subst h;simp
 ·rw[decide_eq_false h,beq_eq_false_iff_ne]
  intro h2
  exact h (ByteArray.ext (Array.toList_inj.1 h2))
theorem run_str (op:BinOp) (t:TypeId) (x y:Operand) (s u:ByteArray) (c:Value) (h:∀w,(Go.binOp op t (.string s) (.string u):Sem Value).run P w=.ok c w) (w:World):
  (do eqGuard op t x y (.string s) (.string u);Go.binOp op t (.string s) (.string u):Sem Value).run P w=.ok c w:=by
 have h1:(eqGuard op t x y (.string s) (.string u)).run P w=.ok () w:=by
  unfold eqGuard
  cases op<;>simp [Sem.run,pure,Sem.bind,bind]
 rw[Sem.run_bind,h1,Result.andThen_ok,h]
section strs
variable {x y:Operand} {t t':TypeId} {s u:ByteArray} (hx:δ.ev x=litS s) (hy:δ.ev y=litS u) (ho:okT x=true) (ho':okT y=true) (hd:okD δ.n dst=true)
include hx hy ho ho' hd
theorem AOps.catS (hb:s.size+u.size≤9223372036854775807) (hK:AOps q P g ops rest Q (δ.putd dst (litS (s++u)))):AOps q P g ops (⟨dst,.binOp .add t x y t',ty,pos,af,none⟩::rest) Q δ:=
 AOps.bin hx hy ho ho' (run_str _ _ _ _ _ _ _ fun w=>by rw[binOp_string_add];exact run_string_add_sum w s u hb) hd hK
theorem AOps.eqlS (hK:AOps q P g ops rest Q (δ.putd dst (litB (decide (s=u))))):AOps q P g ops (⟨dst,.binOp .eql t x y t',ty,pos,af,none⟩::rest) Q δ:=
 AOps.bin hx hy ho ho' (run_str _ _ _ _ _ _ _ fun w=>by rw[binOp_string_eql,toList_beq];rfl) hd hK
theorem AOps.neqS (hK:AOps q P g ops rest Q (δ.putd dst (litB (decide (¬s=u))))):AOps q P g ops (⟨dst,.binOp .neq t x y t',ty,pos,af,none⟩::rest) Q δ:=
 AOps.bin hx hy ho ho' (run_str _ _ _ _ _ _ _ fun w=>by
  have:(Go.binOp .neq t (.string s) (.string u):Sem Value)=pure (.bool (!(s.toList==u.toList))):=by simp [Go.binOp,Op.stringOp]
  rw[this,toList_beq]
  by_cases h:s=u<;>simp [h]) hd hK
end strs
theorem AOps.len_str {x:Operand} {t:TypeId} {s:ByteArray} (hx:δ.ev x=litS s) (ht:P.underlying t=some .string) (ho:okT x=true) (hd:okD δ.n dst=true)
  (hK:AOps q P g ops rest Q (δ.putd dst (litI (s.size:Nat)))):AOps q P g ops (⟨dst,.call {callee:=.builtin .len,args:= #[x],argTypes:= #[t]},ty,pos,af,none⟩::rest) Q δ:=
 AOps.valw _ hd (fun κ a w r=>⟨_,fun w' _=>by
  have h:=r.lit hx ho
  simp [execOp,resolve,invoke,builtin,Builtin.len_,run_underlying ht,h,goInt],.pv (.lit _)⟩) hK
def byteAt (s:ByteArray) (n:Nat):Int:=((s.data.toList.getD n 0).toNat:Nat)
theorem AOps.index_str {x y:Operand} {t:TypeId} {s:ByteArray} {ik:IntKind} {n:Nat} (hx:δ.ev x=litS s) (hy:δ.ev y=.pv (.lit (.int ik (n:Int)))) (ht:P.underlying t=some .string) (ho:okT x=true) (ho':okT y=true) (hd:okD δ.n dst=true) (hn:n<s.size)
  (hK:AOps q P g ops rest Q (δ.putd dst (.pv (.lit (.int .u8 (byteAt s n)))))):AOps q P g ops (⟨dst,.index t x y,ty,pos,af,none⟩::rest) Q δ:=
 AOps.valw _ hd (fun κ a w r=>⟨_,fun w' _=>by
  have h:=r.lit hx ho
  have h2:=r.lit hy ho'
  have h3:=run_index_string (P:=P) w' t s ik n ht
  rw[dif_pos ⟨by omega,by omega⟩] at h3
  have e:s[((n:Int)).toNat]'(by omega)=s.data.toList.getD n 0:=by
   have h':n<s.data.toList.length:=by simpa using hn
   rw[List.getD,List.getElem?_eq_getElem h']
   simp
   rfl
  simp only[execOp,h,h2,Sem.run_bind,h3,Result.andThen_ok]
  rw[e]
  rfl,.pv (.lit _)⟩) hK
theorem AOps.slice_strT {x y:Operand} {t:TypeId} {s:ByteArray} {n:Int} (hx:δ.ev x=litS s) (hy:δ.ev y=litI n) (ht:P.underlying t=some .string) (ho:okT x=true) (ho':okT y=true) (hd:okD δ.n dst=true) (h0:0≤n) (hn:n≤s.size)
  (hK:AOps q P g ops rest Q (δ.putd dst (litS (s.extract 0 n.toNat)))):AOps q P g ops (⟨dst,.slice t x none (some y) none,ty,pos,af,none⟩::rest) Q δ:=
 AOps.valw _ hd (fun κ a w r=>⟨_,fun w' _=>by
  have h:=r.lit hx ho
  have h2:=r.lit hy ho'
  have h3:=run_slice_string_to_if (P:=P) w' t s .i64 n ht
  rw[if_pos ⟨h0,hn⟩] at h3
  simp only[execOp,h,h2,Option.map_none,Option.map_some,Sem.run_bind,run_sliceAt_string w' t _ _ _ _ ht,h3,Result.andThen_ok]
  rfl,.pv (.lit _)⟩) hK
end Go.Ab
/- Values of interface type,type switches;a string appended to a row of bytes. -/
namespace Go.Ab
open Go Go.RowKit
variable {q:Md} {P:Program} {g:Ghost} {δ:DS} {κ:Nat→Option Nat} {a:Act} {w:World}
variable {ops:Array Oper} {rest:List Oper} {Q:Exit→DS→Prop} {dst:Option Nat} {ty:TypeId} {pos:String} {af:Array Edge}
theorem AOps.makeIfc {t:TypeId} {x:Operand} {v:Value} (hx:δ.ev x=.pv (.lit v)) (hc:P.concrete t=true) (ho:okT x=true) (hd:okD δ.n dst=true) (hK:AOps q P g ops rest Q (δ.putd dst (.pv (.lit (.iface t v))))):
  AOps q P g ops (⟨dst,.makeInterface t x,ty,pos,af,none⟩::rest) Q δ:=
 AOps.valw _ hd (fun κ a w r=>⟨.iface t v,fun w' _=>by
  have h:=r.lit hx ho
  simp only[execOp,h,Sem.run_bind,run_makeInterface w' t v hc,Result.andThen_ok]
  rfl,.pv (.lit _)⟩) hK
theorem run_ta_yes {t xt:TypeId} {v:Value} (h:P.concrete t=true) (w:World):(Instr.typeAssert (.iface t v) xt t true).run P w=.ok (.tuple #[v,.bool true]) w:=by
 unfold Program.concrete at h
 cases hd:P.underlying t with
 |none=>simp [hd] at h
 |some d=>cases d<;>first|(simp [hd] at h;done)|simp [Instr.typeAssert,run_underlying hd]
theorem run_ta_no {t u xt:TypeId} {v z:Value} (h:P.concrete u=true) (hne:Nat.beq t u=false) (hz:(P.info? u).map (fun i=>i.zero)=some (some z)) (w:World):(Instr.typeAssert (.iface t v) xt u true).run P w=.ok (.tuple #[z,.bool false]) w:=by
 have hne':t≠u:=fun e=>by subst e;simp at hne
 obtain⟨i0,h0,h1⟩:∃i0,P.info? u=some i0∧i0.zero=some z:=by
  cases h:P.info? u with
  |none=>rw[h] at hz;simp at hz
  |some i0=>rw[h] at hz;simp at hz;exact⟨i0,rfl,hz⟩
 unfold Program.concrete at h
 cases hd:P.underlying u with
 |none=>simp [hd] at h
 |some d=>cases d<;>first|(simp [hd] at h;done)|simp [Instr.typeAssert,run_underlying hd,hne',zeroValue,typeInfo,h0,h1]
theorem AOps.taY {t xt:TypeId} {x:Operand} {v:Value} (hx:δ.ev x=.pv (.lit (.iface t v))) (hc:P.concrete t=true) (ho:okT x=true) (hd:okD δ.n dst=true) (hK:AOps q P g ops rest Q (δ.putd dst (.tup [.pv (.lit v),litB true]))):
  AOps q P g ops (⟨dst,.typeAssert x xt t true,ty,pos,af,none⟩::rest) Q δ:=
 AOps.valw _ hd (fun κ a w r=>⟨.tuple #[v,.bool true],fun w' _=>by
  have h:=r.lit hx ho
  simp only[execOp,h,Sem.run_bind,run_ta_yes hc,Result.andThen_ok]
  rfl,.tup rfl fun j u c h1 h2=>by
   match j,h1,h2 with
   |0,h1,h2=>simp at h1 h2;subst h1;subst h2;exact .pv (.lit _)
   |1,h1,h2=>simp at h1 h2;subst h1;subst h2;exact .pv (.lit _)
   |j+2,h1,h2=>simp at h2⟩) hK
theorem AOps.taN {t u xt:TypeId} {x:Operand} {v z:Value} (hx:δ.ev x=.pv (.lit (.iface t v))) (hne:Nat.beq t u=false) (hc:P.concrete u=true) (hz:(P.info? u).map (fun i=>i.zero)=some (some z)) (ho:okT x=true) (hd:okD δ.n dst=true) (hK:AOps q P g ops rest Q (δ.putd dst (.tup [.pv (.lit z),litB false]))):
  AOps q P g ops (⟨dst,.typeAssert x xt u true,ty,pos,af,none⟩::rest) Q δ:=
 AOps.valw _ hd (fun κ a w r=>⟨.tuple #[z,.bool false],fun w' _=>by
  have h:=r.lit hx ho
  simp only[execOp,h,Sem.run_bind,run_ta_no hc hne hz,Result.andThen_ok]
  rfl,.tup rfl fun j u c h1 h2=>by
   match j,h1,h2 with
   |0,h1,h2=>simp at h1 h2;subst h1;subst h2;exact .pv (.lit _)
   |1,h1,h2=>simp at h1 h2;subst h1;subst h2;exact .pv (.lit _)
   |j+2,h1,h2=>simp at h2⟩) hK
theorem AOps.taYe {t xt:TypeId} {x:Operand} {v:Value} {p:PV} (hx:δ.ev x=.pv p) (hp:p=.lit (.iface t v)) (hc:P.concrete t=true) (ho:okT x=true) (hd:okD δ.n dst=true) (hK:AOps q P g ops rest Q (δ.putd dst (.tup [.pv (.lit v),litB true]))):
  AOps q P g ops (⟨dst,.typeAssert x xt t true,ty,pos,af,none⟩::rest) Q δ:=AOps.taY (by rw[hx,hp]) hc ho hd hK
theorem AOps.taNe {t u xt:TypeId} {x:Operand} {v z:Value} {p:PV} (hx:δ.ev x=.pv p) (hp:p=.lit (.iface t v)) (hne:Nat.beq t u=false) (hc:P.concrete u=true) (hz:(P.info? u).map (fun i=>i.zero)=some (some z)) (ho:okT x=true) (hd:okD δ.n dst=true) (hK:AOps q P g ops rest Q (δ.putd dst (.tup [.pv (.lit z),litB false]))):
  AOps q P g ops (⟨dst,.typeAssert x xt u true,ty,pos,af,none⟩::rest) Q δ:=AOps.taN (by rw[hx,hp]) hne hc hz ho hd hK
def bytesE (l:List UInt8):List (List PV):=l.map fun b=>[.lit (.int .u8 b.toNat)]
theorem bytesE_len (l:List UInt8):(bytesE l).length=l.length:=by simp [bytesE]
theorem bytesE_cell {l:List UInt8} {i j:Nat} {p:PV} (h:cellAt (bytesE l) i j=some p):j=0∧∃b,l[i]? =some b∧p=.lit (.int .u8 b.toNat):=by
 unfold cellAt bytesE at h
 rw[List.getElem?_map] at h
 cases hb:l[i]? with
 |none=>rw[hb] at h;simp at h
 |some b=>
  rw[hb] at h
  cases j with
  |zero=>simp at h;exact⟨rfl,b,rfl,h.symm⟩
  |succ j=>simp at h
theorem append_str_core (r:Rel g δ κ a w) {i:Nat} {e t u:TypeId} {l:List UInt8} {v:Value} {s:ByteArray} (ho:δ.ob i=some .row) (hv:OwnV (δ.cx g κ) w v i e 1 (bytesE l)) (ht:P.underlying t=some (.slice e)) (hu:P.underlying u=some .string)
  (hi:(P.info? e).map (fun i=>(i.size,i.zero,i.bytes))=some (1,some (.int .u8 0),1)) (hl:l.length+s.size≤140737488355328):
  ∃v' w' κ',(Builtin.append_ #[t,u] ty #[v,.string s]).run P w=.ok v' w'∧Rel g (δ.mapV (AV.kill i)) κ' a w'∧OwnV ((δ.mapV (AV.kill i)).cx g κ') w' v' i e 1 (bytesE (l++s.data.toList)):=by
 obtain⟨i0,hi0,hs0,hz0,hb0⟩:∃i0,P.info? e=some i0∧i0.size=1∧i0.zero=some (.int .u8 0)∧i0.bytes=1:=by
  cases h:P.info? e with
  |none=>rw[h] at hi;simp at hi
  |some i0=>rw[h] at hi;simp at hi;exact⟨i0,rfl,hi.1,hi.2.1,hi.2.2⟩
 obtain⟨hlr,hlim,hk,hblk,xs,hown,h1,hxs⟩:=hv
 rw[bytesE_len] at hown hlim
 have hml:l.length+s.size≤maxLen:=by simp only[maxLen];omega
 have hB:g.B≤w.heap.size:=r.hB
 obtain⟨v',w',hrun,hown',hgrow,_⟩:=Lib.run_append_own_string (P:=P) w g.B t u ty e i0 ht hu hi0 hz0 hs0 hb0 v l.length xs hown s hml hl hB
 have hκi:∀b,v.ownBlock=some b→κ i=some b:=hblk
 have hT:Turns w w' (κ i):=by
  cases hob:v.ownBlock with
  |none=>rw[hob] at hgrow;exact⟨hgrow.os,hgrow.tape,hgrow.output,hgrow.size,fun k' hk' _=>hgrow.block k' hk' (by simp)⟩
  |some b=>rw[hob] at hgrow;rw[hκi b hob];exact Turns.grownBy hgrow
 let κ':Nat→Option Nat:=upd κ i v'.ownBlock
 have hκo:∀j,j≠i→κ' j=κ j:=fun j hj=>by show upd _ _ _ _=_;simp [upd,Ne.symm hj]
 have hκ'i:κ' i=v'.ownBlock:=by show upd _ _ _ _=_;simp [upd]
 have hnew:∀b,κ' i=some b→(κ i=some b∨w.heap.size≤b)∧b<w'.heap.size∧∃c e,w'.heap[b]? =some (.cells c e (0,0)):=by
  intro b hb'
  rw[hκ'i] at hb'
  rcases hown'.2 with ⟨rfl,_⟩|⟨b',cap,cur,rfl,h2,h3,_⟩
  ·simp [Value.ownBlock] at hb'
  ·simp only[Value.ownBlock,Option.some.injEq] at hb'
   subst hb'
   refine⟨?_,(Array.getElem?_eq_some_iff.1 h3).1,cur,e,h3⟩
   by_cases hlt:w.heap.size≤b'
   ·exact .inr hlt
   ·left
    have hlt':b'<w.heap.size:=by omega
    rcases hown.2 with ⟨rfl,h0⟩|⟨b0,cap0,cur0,rfl,h4,h5,h6⟩
    ·exfalso
     by_cases hm:s.size=0
     ·have hf:=Lib.run_firstCells_string (P:=P) w 1 s
      have hn:Lib.strCells s=[]:=List.eq_nil_of_length_eq_zero (by rw[Lib.strCells_length];exact hm)
      rw[hm,hn] at hf
      have hr2:(Builtin.append_ #[t,u] ty #[.slice none 0 0,.string s]).run P w=.ok (.slice none 0 0) w:=by
       simp [Builtin.append_,run_underlying ht,run_underlying hu,sizeOf,typeInfo,hi0,hs0,Builtin.lenOf,hm,hf]
      rw[hr2] at hrun
      simp at hrun
     ·have hr2:=run_append_nil_string (P:=P) w t u ty e i0 (.int .u8 0) ht hu hi0 hz0 s (by omega) (by omega) (by rw[hb0];omega)
      rw[hr2] at hrun
      simp only[Result.ok.injEq,Value.slice.injEq,Option.some.injEq,Addr.mk.injEq] at hrun
      omega
    ·rw[hκi b0 rfl]
     by_cases hbb:b'=b0
     ·rw[hbb]
     ·exfalso
      by_cases hroom:l.length+s.size≤cap0
      ·have hr2:=Lib.run_append_room_string (P:=P) w t u ty e i0 ht hu hi0 hs0 b0 l.length cap0 cur0 h5 s hroom (by have:=h6.2.2.1;simp at this;omega)
       rw[hr2] at hrun
       simp only[Result.ok.injEq,Value.slice.injEq,Option.some.injEq,Addr.mk.injEq] at hrun
       exact hbb hrun.1.1.1.symm
      ·have hr2:=Lib.run_append_grow_string (P:=P) w t u ty e i0 (.int .u8 0) ht hu hi0 hz0 ⟨b0,0,none⟩ l.length cap0 xs (by rw[hs0];exact hown.1) (hown.cells (g:=b0) rfl) s (by omega) (by omega) (by rw[hb0];exact growslice_fits (by omega) (by omega))
       rw[hr2] at hrun
       simp only[Result.ok.injEq,Value.slice.injEq,Option.some.injEq,Addr.mk.injEq] at hrun
       omega
 obtain⟨r',G⟩:=r.row ho hκo hT hnew (AV.kill i) rfl (fun G v av h=>h.kill G)
 refine⟨v',w',κ',hrun,r',?_⟩
 have hsl:s.data.toList.length=s.size:=by rw[Array.length_toList];rfl
 refine⟨?_,by rw[bytesE_len,List.length_append,hsl];exact hl,fun c hc=>?_,fun b hb'=>hκ'i.trans hb',xs++Lib.strCells s,by rw[bytesE_len,List.length_append,hsl];exact hown',fun u hu=>(List.mem_append.1 hu).elim (h1 u) (Lib.strCells_oneCell s u),fun i' j p hp=>?_⟩
 ·show(δ.mapV _).ob i=_
  rw[ob_mapV,ho];rfl
 ·unfold bytesE at hc
  obtain⟨b,_,rfl⟩:=List.mem_map.1 hc
  rfl
 ·obtain⟨rfl,b,hb,rfl⟩:=bytesE_cell hp
  refine⟨.int .u8 b.toNat,?_,.lit _⟩
  have hxl:xs.length=l.length:=by simpa using hown.1
  simp only[Nat.mul_one,Nat.add_zero]
  by_cases hlt:i'<l.length
  ·rw[List.getElem?_append_left hlt] at hb
   rw[List.getElem?_append_left (by omega)]
   obtain⟨u,h3,h4⟩:=hxs i' 0 (.lit (.int .u8 b.toNat)) (by unfold cellAt bytesE;rw[List.getElem?_map,hb];rfl)
   simp only[Nat.mul_one,Nat.add_zero] at h3
   rw[h3]
   cases h4
   rfl
  ·rw[List.getElem?_append_right (by omega)] at hb
   rw[List.getElem?_append_right (by omega),hxl]
   unfold Lib.strCells
   rw[List.getElem?_map,hb]
   rfl
theorem run_append_opS {gd:Option (Tmp×Bool)} {s x:Operand} {t u:TypeId} {ρ:Operand→Value} {v:Value} {w':World} (h:(Builtin.append_ #[t,u] ty #[ρ s,ρ x]).run P w=.ok v w'):
  (execOp ρ ⟨dst,.call {callee:=.builtin .append,args:= #[s,x],argTypes:= #[t,u]},ty,pos,af,gd⟩).run P w=.ok (.value v) w':=by
 simp only[execOp,resolve,invoke,builtin,Sem.run_bind,Sem.run_pure,Result.andThen_ok,List.map_toArray,List.map_cons,List.map_nil,h]
theorem Eff.append_str {gd:Option (Tmp×Bool)} {s x:Operand} {t u e:TypeId} {i:Nat} {l:List UInt8} {z:ByteArray} (hs:δ.ev s=.own i e 1 (bytesE l)) (hx:δ.ev x=litS z) (hr:δ.ob i=some .row) (ht:P.underlying t=some (.slice e)) (hu:P.underlying u=some .string)
  (hi:(P.info? e).map (fun i=>(i.size,i.zero,i.bytes))=some (1,some (.int .u8 0),1)) (ho:okT s=true) (ho':okT x=true) (hd:okD δ.n dst=true) (hl:l.length+z.size≤140737488355328):
  Eff P g ⟨dst,.call {callee:=.builtin .append,args:= #[s,x],argTypes:= #[t,u]},ty,pos,af,gd⟩ δ ((δ.mapV (AV.kill i)).putd dst (.own i e 1 (bytesE (l++z.data.toList)))):=by
 intro κ a w r
 obtain⟨v',w',κ',h1,h2,h3⟩:=append_str_core (ty:=ty) r hr (r.ra hs ho).own_inv ht hu hi hl
 rw[← r.lit hx ho'] at h1
 exact .inl ⟨_,_,_,_,run_append_opS h1,.inl rfl,h2.putd (okD_spec hd) (.own h3)⟩
theorem AOps.append_str {s x:Operand} {t u e:TypeId} {i:Nat} {l:List UInt8} {z:ByteArray} (hs:δ.ev s=.own i e 1 (bytesE l)) (hx:δ.ev x=litS z) (hr:δ.ob i=some .row) (ht:P.underlying t=some (.slice e)) (hu:P.underlying u=some .string)
  (hi:(P.info? e).map (fun i=>(i.size,i.zero,i.bytes))=some (1,some (.int .u8 0),1)) (ho:okT s=true) (ho':okT x=true) (hd:okD δ.n dst=true) (hl:l.length+z.size≤140737488355328)
  (hK:AOps .plain P g ops rest Q ((δ.mapV (AV.kill i)).putd dst (.own i e 1 (bytesE (l++z.data.toList))))):AOps .plain P g ops (⟨dst,.call {callee:=.builtin .append,args:= #[s,x],argTypes:= #[t,u]},ty,pos,af,none⟩::rest) Q δ:=
 AOps.eff rfl rfl (Eff.append_str hs hx hr ht hu hi ho ho' hd hl) hK
theorem AOps.append_str0 {s x:Operand} {t u e:TypeId} {i:Nat} {z:ByteArray} (hs:δ.ev s=.own i e 1 []) (hx:δ.ev x=litS z) (hr:δ.ob i=some .row) (ht:P.underlying t=some (.slice e)) (hu:P.underlying u=some .string)
  (hi:(P.info? e).map (fun i=>(i.size,i.zero,i.bytes))=some (1,some (.int .u8 0),1)) (ho:okT s=true) (ho':okT x=true) (hd:okD δ.n dst=true) (hl:z.size≤140737488355328)
  (hK:AOps .plain P g ops rest Q ((δ.mapV (AV.kill i)).putd dst (.own i e 1 (bytesE z.data.toList)))):AOps .plain P g ops (⟨dst,.call {callee:=.builtin .append,args:= #[s,x],argTypes:= #[t,u]},ty,pos,af,none⟩::rest) Q δ:=
 AOps.append_str (l:=[]) hs hx hr ht hu hi ho ho' hd (by simpa using hl) hK
theorem AOps.slice_strF {x y:Operand} {t:TypeId} {s:ByteArray} {n:Int} (hx:δ.ev x=litS s) (hy:δ.ev y=litI n) (ht:P.underlying t=some .string) (ho:okT x=true) (ho':okT y=true) (hd:okD δ.n dst=true) (h0:0≤n) (hn:n≤s.size)
  (hK:AOps q P g ops rest Q (δ.putd dst (litS (s.extract n.toNat s.size)))):AOps q P g ops (⟨dst,.slice t x (some y) none none,ty,pos,af,none⟩::rest) Q δ:=
 AOps.valw _ hd (fun κ a w r=>⟨_,fun w' _=>by
  have h:=r.lit hx ho
  have h2:=r.lit hy ho'
  have h3:=run_slice_string_from_if (P:=P) w' t s .i64 n ht
  rw[if_pos ⟨h0,hn⟩] at h3
  simp only[execOp,h,h2,Option.map_none,Option.map_some,Sem.run_bind,run_sliceAt_string w' t _ _ _ _ ht,h3,Result.andThen_ok]
  rfl,.pv (.lit _)⟩) hK
section ints
variable {x y:Operand} {t t':TypeId} {m n:Int} {k:IntKind} (hx:δ.ev x=.pv (.lit (.int k m))) (hy:δ.ev y=.pv (.lit (.int k n))) (ho:okT x=true) (ho':okT y=true) (hd:okD δ.n dst=true)
include hx hy ho ho' hd
theorem AOps.geqU (hK:AOps q P g ops rest Q (δ.putd dst (litB (decide (n≤m))))):AOps q P g ops (⟨dst,.binOp .geq t x y t',ty,pos,af,none⟩::rest) Q δ:=
 AOps.bin hx hy ho ho' (run_int _ _ _ _ _ _ _ _ (by simp) rfl) hd hK
theorem AOps.leqU (hK:AOps q P g ops rest Q (δ.putd dst (litB (decide (m≤n))))):AOps q P g ops (⟨dst,.binOp .leq t x y t',ty,pos,af,none⟩::rest) Q δ:=
 AOps.bin hx hy ho ho' (run_int _ _ _ _ _ _ _ _ (by simp) rfl) hd hK
theorem AOps.lssU (hK:AOps q P g ops rest Q (δ.putd dst (litB (decide (m<n))))):AOps q P g ops (⟨dst,.binOp .lss t x y t',ty,pos,af,none⟩::rest) Q δ:=
 AOps.bin hx hy ho ho' (run_int _ _ _ _ _ _ _ _ (by simp) rfl) hd hK
end ints
theorem run_neq_in {t:TypeId} {ms:Array (String×TypeId)} (ht:P.underlying t=some (.interface ms)) (u:TypeId) (v:Value) (w:World):(Go.binOp .neq t (.iface u v) .nilIface).run P w=.ok (.bool true) w:=by
 have h:∀d:Nat,(Op.equalIn (d+1) t (.iface u v) .nilIface).run P w=.ok false w:=fun d=>by simp [Op.equalIn,run_underlying ht]
 simp only[Go.binOp]
 simp [Op.equal,Op.maxDepth,h 9999]
theorem run_neq_nn {t:TypeId} {ms:Array (String×TypeId)} (ht:P.underlying t=some (.interface ms)) (w:World):(Go.binOp .neq t .nilIface .nilIface).run P w=.ok (.bool false) w:=by
 have h:∀d:Nat,(Op.equalIn (d+1) t .nilIface .nilIface).run P w=.ok true w:=fun d=>by simp [Op.equalIn,run_underlying ht]
 simp only[Go.binOp]
 simp [Op.equal,Op.maxDepth,h 9999]
theorem AOps.neqIN {x y:Operand} {t t' u:TypeId} {v:Value} {ms:Array (String×TypeId)} (hx:δ.ev x=.pv (.lit (.iface u v))) (hy:δ.ev y=.pv (.lit .nilIface)) (ht:P.underlying t=some (.interface ms)) (ho:okT x=true) (ho':okT y=true) (hd:okD δ.n dst=true)
  (hK:AOps q P g ops rest Q (δ.putd dst (litB true))):AOps q P g ops (⟨dst,.binOp .neq t x y t',ty,pos,af,none⟩::rest) Q δ:=
 AOps.bin hx hy ho ho' (fun w=>by
  have h1:(eqGuard .neq t x y (.iface u v) .nilIface).run P w=.ok () w:=rfl
  rw[Sem.run_bind,h1,Result.andThen_ok,run_neq_in ht]) hd hK
theorem AOps.neqNN {x:Operand} {c:Value} {t t':TypeId} {ms:Array (String×TypeId)} (hx:δ.ev x=.pv (.lit .nilIface)) (hc:c=.nilIface) (ht:P.underlying t=some (.interface ms)) (ho:okT x=true) (hd:okD δ.n dst=true)
  (hK:AOps q P g ops rest Q (δ.putd dst (litB false))):AOps q P g ops (⟨dst,.binOp .neq t x (.const c) t',ty,pos,af,none⟩::rest) Q δ:=
 AOps.bin hx (by subst hc;rfl) ho rfl (fun w=>by
  rw[Sem.run_bind,eqGuard_nil_constR]
  exact run_neq_nn ht w) hd hK
structure FnWE (T:World→Prop) (P:Program) (f:FuncId) (args:List AV) {α:Type} (R:α→AV):Prop where
 enters:∀vals w,(callFunc f vals).run P w=.ok (.enter f vals) w
 calls:∀(N:Nat→Prop) (w:World) (vals:Array Value),T w→(∀b,w.heap.size≤b→N b)→vals.size=args.length→
  (∀(j:Nat) (v:Value) (av:AV),vals[j]? =some v→args[j]? =some av→RA (pcx N) w v av)→
  Calls P f vals w fun e w'=>∃v x,e=.returned v∧RA (pcx N) w' v (R x)∧Below w.heap.size w w'
theorem AOps.callWE {T:World→Prop} {f:FuncId} {xs:List Operand} {tys:Array TypeId} {args:List AV} {α:Type} {R:α→AV} (hT:TB T g) (hf:FnWE T P f args R) (hargs:Args false δ xs args) (hd:okD δ.n dst=true)
  (hK:∀x,AOps .plain P g ops rest Q (δ.putd dst (R x))):AOps .plain P g ops (⟨dst,.call {callee:=.value (.func f),args:=xs.toArray,argTypes:=tys},ty,pos,af,none⟩::rest) Q δ:=by
 intro κ a w r0
 show wpListIn _ _ P ops _ (_::rest) a w
 refine wpl_plain rfl rfl fun K hK'=>?_
 unfold Oper.wpF
 rw[run_call (f:=f) rfl hf.enters,Oper.uponIn_enter]
 refine⟨fun h=>by simp at h,(callsIn_any (hf.calls (fun b=>(δ.cx g κ).N b∨w.heap.size≤b) w _ (hT.at r0 (Below.refl _ _)) (fun _ h=> .inr h) (by simp [hargs.len]) (hargs.ras r0 (fun _ _ h=> .inl h) (fun h=>by simp at h)))).mono ?_⟩
 rintro e w' ⟨v,x,rfl,hv,hb⟩
 have r1:=r0.ext hb
 refine hK' _ _ (hK x _ _ _ (r1.putd (okD_spec hd) (hv.of_pcx _ fun b _ h=>?_)))
 rcases h with h|h
 ·exact h
 ·refine⟨r0.N0new h,fun i hi e=>?_⟩
  have:=(r0.lo i b hi e).2
  omega
end Go.Ab
/- Contracts of functions that panic;an own panic. -/
namespace Go.Ab
open Go Go.RowKit
variable {q:Md} {P:Program} {g:Ghost} {δ:DS} {κ:Nat→Option Nat} {a:Act} {w:World}
variable {ops:Array Oper} {rest:List Oper} {Q:Exit→DS→Prop} {dst:Option Nat} {ty:TypeId} {pos:String} {af:Array Edge}
theorem thenD_pan {next:DS→Prop} {ch:List PanicEntry} (h:Q (.panic ch) δ):thenD next Q (.panic ch) δ:=h
theorem inBlockD_pan {id:Nat} {ch:List PanicEntry} (h:Q (.panic ch) δ):inBlockD id Q (.panic ch) δ:=h
theorem leavesP (hwt:g.wt=none) (hbs:g.base=[]) {fn:Func} {ch:List PanicEntry} {R:Ending→World→Prop}:∀{a:Act} {w:World},Rel g δ κ a w→
  (∀w2,Rel g δ κ {a with defers:=[]} w2→R (.panicked ch) w2)→LeavesInM Fence.wide 0 P fn a.tmps R a.defers (.panicking ch) w:=by
 intro a w r hR
 obtain⟨ms,h1,h2,h3⟩:=r.dfr
 rw[hbs,List.append_nil] at h1
 rw[h1]
 induction ms generalizing a w with
 |nil=>
  have ra:Rel g δ κ {a with defers:=[]} w:={r with dfr:=⟨[],by rw[hbs];rfl,h2,h3⟩,mkf:=fun d hd=>by cases hd}
  exact hR w ra
 |cons m ms ih=>
  refine⟨by simp,.inl ⟨m,_,rfl,run_takeDeferred (h3 m (by simp)).2,?_⟩⟩
  have hm:=h3 m (by simp)
  rw[List.cons_append] at h2
  have hnd:=List.nodup_cons.1 h2
  have hkeep:∀k∈ms++g.mks,g.B≤k∧(w.putObj m (.deferred none)).heap[k]? =some (.deferred (some [])):=fun k hk=>
   ⟨(h3 k (by simp only[List.cons_append,List.mem_cons];exact .inr hk)).1,by rw[World.putObj_heap_other (by intro e;subst e;exact hnd.1 hk)];exact(h3 k (by simp only[List.cons_append,List.mem_cons];exact .inr hk)).2⟩
  have hd:Dfr g {a with defers:=ms.map fun r=>({target:=.collected r,args:= #[]}:Deferred)} (w.putObj m (.deferred none)):=⟨ms,by rw[hbs,List.append_nil],hnd.2,hkeep⟩
  have r2:=r.shut hwt hm.1 hm.2 (a':={a with defers:=ms.map fun r=>({target:=.collected r,args:= #[]}:Deferred)}) rfl (fun d hd=>by rw[h1];exact List.mem_map.2 (let ⟨x,hx,e⟩:=List.mem_map.1 hd;⟨x,by simp [hx],e⟩)) (r.mkf {target:=.collected m,args:= #[]} (by rw[h1];exact List.mem_map.2 ⟨m,by simp,rfl⟩) m rfl) hd
  exact ih (a:={a with defers:=ms.map fun r=>({target:=.collected r,args:= #[]}:Deferred)}) r2 (fun w2 r3=>hR w2 r3) rfl hnd.2 hkeep
theorem FnD.enter {T:World→Prop} {t:TypeId} {f:FuncId} {fn:Func} {c:Code} {n n0:Nat} {objs0 objs1:List (Nat×Option Ob)} {args:List AV} (hf:P.funcs[f]? =some fn) (hb:fn.body=some c) (hn:fn.ntmps=n) (hna:Nat.ble args.length n=true)
  (hna':Nat.ble n HS=true) (he:(fn.name== "runtime.NumGoroutine")=false) (hpin:pinB objs0 objs0=true) (hn1:nxB n0 objs1=true)
  (h:∀g:Ghost,g.ro=none→g.wt=none→TB T g→AW P g c (EndsP t objs0 objs1) ⟨n,enum 0 args++ [(1000,.agg (pinL objs0))],objs0,n0⟩):FnD T P t f n0 objs0 args objs1:=by
 refine FnXG.enter (Q:=EndsP t objs0 objs1) hf hb hn hna hna' he hpin hn1 h fun g e δ' κ' a' w' R hwt hbs hq r' hR=>?_
 cases e with
 |panic ch=>
  obtain⟨h1,h2,h3,h4⟩:=hq
  exact leavesP (g:=g) hwt hbs r' fun w2 r2=>hR h2 h3 h4 _ _ r2 ⟨ch,rfl,h1⟩
 |_=>exact hq.elim
theorem endsP {t:TypeId} {objs0 objs1:List (Nat×Option Ob)} {ch:List PanicEntry} (h:Pan t ch) (hw:WVs δ (XF δ objs0 objs1) [δ.get 1000] [.agg (pinL objs0)]) (ho:WObs δ (XF δ objs0 objs1) objs1) (hx:nxB δ.nx objs1=true):EndsP t objs0 objs1 (.panic ch) δ:=⟨h,hw.1,ho,hx⟩
def onlyP (Q:Exit→DS→Prop):Exit→DS→Prop
 |.panic c,δ=>Q (.panic c) δ∧∀j,j<HS→δ.get j=.any
 |_,_=>False
theorem onlyP_1 {Q:Exit→DS→Prop} {ch:List PanicEntry} {n x:Nat} {v:AV} {o:List (Nat×Option Ob)} (h:Q (.panic ch) ⟨n,[(1000,v)],o,x⟩):onlyP Q (.panic ch) ⟨n,[(1000,v)],o,x⟩:=by
 refine⟨h,fun j hj=>?_⟩
 show look _ j=_
 have hj:j<1000:=hj
 rw[look_cons,if_neg (by omega)]
 rfl
theorem WV.aggL {δ δ':DS} {cs ds:List AV} (h:WVs δ δ' cs ds):WV δ δ' (.agg cs) (.agg ds):=by
 have key:∀{cs ds:List AV},WVs δ δ' cs ds→cs.length=ds.length∧∀(j:Nat) (c d:AV),cs[j]? =some c→ds[j]? =some d→WV δ δ' c d:=by
  intro cs
  induction cs with
  |nil=>
   intro ds h
   cases ds with
   |nil=>exact⟨rfl,fun j c d h1=>by simp at h1⟩
   |cons d ds=>exact h.elim
  |cons c cs ih=>
   intro ds h
   cases ds with
   |nil=>exact h.elim
   |cons d ds=>
    obtain⟨h1,h2⟩:=h
    obtain⟨h3,h4⟩:=ih h2
    refine⟨by simp [h3],fun j c' d' h5 h6=>?_⟩
    cases j with
    |zero=>simp at h5 h6;subst h5;subst h6;exact h1
    |succ j=>exact h4 j c' d' (by simpa using h5) (by simpa using h6)
 exact .agg (key h).1 (key h).2
variable {k:Wt} {late:List Nat} {l:List Oper} {dn:List Nat} {QD:Exit→DS→Prop}
theorem AR.stepD {i:Nat} {o:Oper} (hl:Nat.blt dn.length l.length=true) (hr:readyIs l dn [i]=true) (ho:l[i]? =some o)
  (h:∀g':Ghost,Gs g' g→g'.wt=none→AOps .plain P g' l.toArray [o] (onlyP QD) δ):AR P g k late l QD dn δ:=by
 intro hdc κ a w r
 have hr':Region.ready .any l.toArray (setL l.length dn)=[i]:=by simpa [readyIs] using hr
 have hl':dn.length<l.length:=by simpa using hl
 obtain⟨n,hn⟩:∃n,l.length - dn.length=n+1:=⟨l.length - dn.length - 1,by omega⟩
 rw[hn]
 refine⟨fun h0=>absurd (hr'▸h0) (by simp),fun i' hi=>?_⟩
 rw[hr'] at hi
 simp only[List.mem_singleton] at hi
 subst hi
 have ho':l.toArray[i']? =some o:=by simpa using ho
 have r1:Rel {g with wt:=none} δ κ a w:=by
  have:=Rel.rewt r (wt':=none) (fun k hk=>by cases hk)
  exact this
 have hA':wpListIn (Fw g.ro) 0 P l.toArray (lift {g with wt:=none} (onlyP QD)) [o] a w:=h {g with wt:=none} ⟨rfl,rfl,rfl⟩ rfl κ a w r1
 unfold wpListIn at hA'
 unfold wpOpIn
 simp only[ho']
 have hno:∀a w,¬lift {g with wt:=none} (onlyP QD) .normal a w:=by
  rintro a w ⟨δ',κ',h2,_⟩
  exact h2
 have hpa:∀c a w,lift {g with wt:=none} (onlyP QD) (.panic c) a w→postN g QD (.panic c) a w:=by
  rintro c a w ⟨δ',κ',⟨h2,h3⟩,r2⟩
  exact⟨δ',κ',h2,h3,r2⟩
 split
 ·rename_i hw
  rw[if_pos hw] at hA'
  obtain⟨h2,h3⟩:=hA'
  refine⟨h2,?_⟩
  revert h3
  generalize (o.semAt (Fw g.ro).round a.eval).run P w=res
  intro h3
  cases res with
  |ok x w'=>
   cases x<;>simp only[Oper.uponIn] at h3 ⊢
   case value u=>exact absurd h3 (hno _ _)
   case skip=>exact absurd h3 (hno _ _)
   case defer d=>exact absurd h3 (hno _ _)
   case enter f args=>
    refine⟨h3.1,CallsIn.mono h3.2 fun e w'' he=>?_⟩
    cases e with
    |returned u=>exact absurd he (hno _ _)
    |panicked c=>exact hpa _ _ _ he
    |outgrown=>
     exfalso
     obtain⟨a2,w2,δ',κ',he,_⟩:=he
     exact he
   case row row args=>exact⟨h3.1,RowsIn.mono h3.2 fun u w'' he=>absurd he (hno _ _)⟩
   case round l' f tmps assign body=>
    refine⟨h3.1,RoundIn.mono h3.2 fun e w'' he=>?_⟩
    cases e with
    |returned u=>exact absurd he (hno _ _)
    |panicked c=>exact hpa _ _ _ he
    |outgrown=>
     exfalso
     obtain⟨a2,w2,δ',κ',he,_⟩:=he
     exact he
  |halt x w'=>
   cases x<;>simp only[Oper.uponIn] at h3 ⊢
   case panic u=>exact hpa _ _ _ h3
 ·rename_i hw
  rw[if_neg hw] at hA'
  exact absurd hA'.2 (hno _ _)
theorem AOps.mkPanic {t:TypeId} {d:Nat} {x:Operand} {ty':TypeId} {pos':String} {af':Array Edge} {c:AV} (hx:δ.ev x=.agg [c]) (ho:okT x=true) (h1:c.one=true) (hc:P.concrete t=true) (hd:okD δ.n (some d)=true)
  (hK:∀ch,Pan t ch→Q (.panic ch) δ.hi):AOps .plain P g ops (⟨some d,.makeInterface t x,ty,pos,af,none⟩::⟨dst,.panic (.tmp d),ty',pos',af',none⟩::rest) Q δ:=by
 intro κ a w r
 show wpListIn _ _ P ops _ (_::_::rest) a w
 refine wpl_plain rfl rfl fun K hK'=>?_
 have hr:(execOp a.eval ⟨some d,.makeInterface t x,ty,pos,af,none⟩).run P w=.ok (.value (.iface t (a.eval x))) w:=by
  simp only[execOp,Sem.run_bind,run_makeInterface w t _ hc,Result.andThen_ok]
  rfl
 unfold Oper.wpF
 rw[hr]
 simp only[Oper.uponIn]
 refine hK' _ _ ?_
 have r1:Rel g (δ.putd (some d) .any) κ (a.put (some d) (.iface t (a.eval x))) w:=r.putd (okD_spec hd) (.any _)
 refine wpl_plain rfl rfl fun K hK'=>?_
 have hlt:d<a.tmps.size:=by rw[r.n];exact(okD_spec hd d rfl).1
 have hev:(a.put (some d) (.iface t (a.eval x))).eval (.tmp d)=.iface t (a.eval x):=by
  simp [Act.put,Act.eval,hlt]
 have hr2:(execOp (a.put (some d) (.iface t (a.eval x))).eval ⟨dst,.panic (.tmp d),ty',pos',af',none⟩).run P w=.halt (.panic (.iface t (a.eval x))) w:=by
  simp only[execOp,hev,Sem.run_bind,run_panic_iface]
  rfl
 unfold Oper.wpF
 rw[hr2]
 simp only[Oper.uponIn]
 refine lift_hi (δ:=δ.putd (some d) .any) ?_ r1
 have e:(δ.putd (some d) .any).hi=δ.hi:=by
  show(⟨δ.n,hiE ((d,.any)::δ.env),δ.objs,δ.nx⟩:DS)=_
  have:Nat.ble HS d=false:=by
   have:=(okD_spec hd d rfl).2
   cases hb:Nat.ble HS d with
   |false=>rfl
   |true=>
    have h':HS≤d:=by simpa using hb
    omega
  unfold hiE
  rw[this]
  rfl
 rw[e]
 have hv:=r.ra hx ho
 generalize a.eval x=v at hv
 cases hv with
 | @agg vs _ hs h=>
  have hs:vs.size=1:=hs
  obtain⟨u,rfl⟩:∃u,vs= #[u]:=by
   rcases vs with ⟨_|⟨u,_|_⟩⟩<;>simp at hs
   exact⟨u,rfl⟩
  exact hK _ ⟨u,rfl,(h 0 u c rfl rfl).one h1⟩
theorem AW.rounds2 {c:Code} (h:AW P g c (thenD (fun δ1=>AW P g c (thenD (fun _=>False) Q) δ1) Q) δ):AW P g (.loop c) Q δ:=by
 intro κ a w r
 refine wpIn_loop_rounds 2 ?_
 have key:∀(Q1 Q2:Exit→Act→World→Prop) (c:Code) a w,c.wpIn (Fw g.ro) 0 P Q1 a w→(∀e a w,Q1 e a w→Q2 e a w)→c.wpIn (Fw g.ro) 0 P Q2 a w:=fun Q1 Q2 c a w h h'=>wpIn_mono h h'
 refine key _ _ _ _ _ (h κ a w r) fun e a' w'=>?_
 rintro⟨δ1,κ1,h1,r1⟩
 cases e with
 |normal=>
  refine key _ _ _ _ _ (h1 κ1 a' w' r1) fun e a2 w2=>?_
  rintro⟨δ2,κ2,h2,r2⟩
  cases e with
  |normal=>exact h2.elim
  |_=>exact⟨δ2,κ2,h2,r2⟩
 |_=>exact⟨δ1,κ1,h1,r1⟩
end Go.Ab
/- A strings.Builder's own steps:a variable told by its very cells and its type,pointers through unsafe.Pointer,pointers held against nil and themselves;String. -/
namespace Go.Ab
open Go Go.RowKit
variable {q:Md} {P:Program} {g:Ghost} {δ:DS} {κ:Nat→Option Nat} {a:Act} {w:World}
variable {ops:Array Oper} {rest:List Oper} {Q:Exit→DS→Prop} {dst:Option Nat} {ty:TypeId} {pos:String} {af:Array Edge} {gd:Option (Tmp×Bool)}
theorem Rel.litb (r:Rel g δ κ a w) {u:Value} {i off:Nat} {T:TypeId} {vals:Array Value} (h:RA (δ.cx g κ) w u (.ptr i off)) (ho:δ.ob i=some (.lit T vals)):
  ∃b,u=.pointer (some ⟨b,off,none⟩)∧κ i=some b∧w.heap[b]? =some (.cells vals T (0,0)):=by
 cases h with
 | @ptr _ _ b hl hκ=>
  obtain⟨b',h1,h2⟩:=r.obj i _ ho
  have:b'=b:=by have:=h1.symm.trans hκ;simpa using this
  subst this
  exact⟨b',rfl,h1,h2⟩
theorem AOps.load_lit {x:Operand} {t T:TypeId} {i off:Nat} {vals:Array Value} {v:Value} (hx:δ.ev x=.ptr i off) (hb:δ.ob i=some (.lit T vals)) (hv:vals.toList[off]? =some v) (ht:scalarT P t=true) (ho:okT x=true) (hd:okD δ.n dst=true)
  (hK:AOps q P g ops rest Q (δ.putd dst (.pv (.lit v)))):AOps q P g ops (⟨dst,.load t x,ty,pos,af,none⟩::rest) Q δ:=
 AOps.valw _ hd (fun κ a w r=>by
  obtain⟨b,h1,h2,h3⟩:=r.litb (r.ra hx ho) hb
  exact⟨v,fun w' hw'=>run_load_scalar ht h1 ((hw'.cell (ad:=⟨b,off,none⟩) (Array.getElem?_eq_some_iff.1 h3).1 (r.notrow ⟨_,hb,rfl⟩ h2)).trans (by rw[cell_of h3,← Array.getElem?_toList,hv])),.pv (.lit _)⟩) hK
theorem Eff.allocL {e:TypeId} {z:Value} {vals:Array Value} (hz:(P.info? e).bind (·.zero)=some z) (hl:z.cells=vals) (hd:okD δ.n dst=true):
  Eff P g ⟨dst,.alloc e,ty,pos,af,gd⟩ δ ((δ.addOb (.lit e vals)).putd dst (.ptr δ.nx 0)):=by
 intro κ a w r
 have hrun:(execOp a.eval ⟨dst,.alloc e,ty,pos,af,gd⟩).run P w=.ok (.value (.pointer (some ⟨w.heap.size,0,none⟩))) (w.alloc (.cells vals e)):=by
  cases hi:P.info? e with
  |none=>rw[hi] at hz;simp at hz
  |some i=>rw[hi] at hz;simp at hz;simp [execOp,Instr.alloc,zeroValue,typeInfo,hi,hz,newVar,newRow,hl]
 obtain⟨r',G⟩:=r.grow (.lit e vals) (.cells vals e) (fun C G hκ=>⟨w.heap.size,hκ,heap_alloc_new w _⟩)
 refine .inl ⟨_,_,_,_,hrun,.inl rfl,r'.putd (okD_spec hd) ?_⟩
 exact .ptr ⟨_,by show(δ.addOb _).ob _=_;rw[ob_addOb,if_pos rfl],rfl⟩ (by show upd _ _ _ _=_;simp [upd])
theorem AOps.allocL {e:TypeId} {z:Value} {vals:Array Value} (hz:(P.info? e).bind (·.zero)=some z) (hl:z.cells=vals) (hd:okD δ.n dst=true)
  (hK:AOps .plain P g ops rest Q ((δ.addOb (.lit e vals)).putd dst (.ptr δ.nx 0))):AOps .plain P g ops (⟨dst,.alloc e,ty,pos,af,none⟩::rest) Q δ:=AOps.eff rfl rfl (Eff.allocL hz hl hd) hK
theorem AOps.adopt {l:List Oper} (h:AOps .plain P g ops l Q (δ.addOb .row)):AOps .plain P g ops l Q δ:=fun κ a w r=>by
 obtain⟨r1,_⟩:=r.adopt
 exact h _ _ _ r1
theorem eqG_ptr (op:BinOp) (t:TypeId) (x y:Operand) (u v:Option Addr) (w:World):(eqGuard op t x y (.pointer u) (.pointer v)).run P w=.ok () w:=by
 unfold eqGuard
 cases op<;>simp [Sem.run,pure,Sem.bind,bind]
theorem run_eq_ptr_nil {tp te:TypeId} (u:Option Addr) (hp:P.underlying tp=some (.pointer te)) (hte:(P.info? te).isSome=true) (w:World):(Go.binOp .eql tp (.pointer u) (.pointer none)).run P w=.ok (.bool u.isNone) w:=by
 obtain⟨j,hj⟩:=Option.isSome_iff_exists.1 hte
 have h:∀d:Nat,(Op.equalIn (d+1) tp (.pointer u) (.pointer none)).run P w=.ok u.isNone w:=fun d=>by
  cases u<;>simp [Op.equalIn,run_underlying hp,sizeOf,typeInfo,hj]
 simp only[Go.binOp]
 simp [Op.equal,Op.maxDepth,h 9999]
theorem AOps.eqlPN {x y:Operand} {t te t':TypeId} (hx:δ.ev x=.pv (.lit (.pointer none))) (hy:δ.ev y=.pv (.lit (.pointer none))) (hp:P.underlying t=some (.pointer te)) (hte:(P.info? te).isSome=true) (ho:okT x=true) (ho':okT y=true) (hd:okD δ.n dst=true)
  (hK:AOps q P g ops rest Q (δ.putd dst (litB true))):AOps q P g ops (⟨dst,.binOp .eql t x y t',ty,pos,af,none⟩::rest) Q δ:=
 AOps.bin hx hy ho ho' (fun w=>by rw[Sem.run_bind,eqG_ptr,Result.andThen_ok,run_eq_ptr_nil none hp hte];rfl) hd hK
theorem AOps.eqlPS {x y:Operand} {t te t':TypeId} {i off:Nat} (hx:δ.ev x=.ptr i off) (hy:δ.ev y=.pv (.lit (.pointer none))) (hp:P.underlying t=some (.pointer te)) (hte:(P.info? te).isSome=true) (ho:okT x=true) (ho':okT y=true) (hd:okD δ.n dst=true)
  (hK:AOps q P g ops rest Q (δ.putd dst (litB false))):AOps q P g ops (⟨dst,.binOp .eql t x y t',ty,pos,af,none⟩::rest) Q δ:=
 AOps.valw _ hd (fun κ a w r=>⟨.bool false,fun w' _=>by
  have h1:=r.ra hx ho
  have h2:=r.lit hy ho'
  generalize hv:a.eval x=v at h1
  cases h1 with
  | @ptr _ _ b hl hκ=>
   have:=run_eq_ptr_nil (P:=P) (some ⟨b,off,none⟩) hp hte w'
   simp only[execOp,hv,h2,Sem.run_bind,eqG_ptr,Result.andThen_ok,this]
   rfl,.pv (.lit _)⟩) hK
theorem AOps.neqPP {x y:Operand} {t te t':TypeId} {i off:Nat} (hx:δ.ev x=.ptr i off) (hy:δ.ev y=.ptr i off) (hp:P.underlying t=some (.pointer te)) (hte:(P.info? te).isSome=true) (ho:okT x=true) (ho':okT y=true) (hd:okD δ.n dst=true)
  (hK:AOps q P g ops rest Q (δ.putd dst (litB false))):AOps q P g ops (⟨dst,.binOp .neq t x y t',ty,pos,af,none⟩::rest) Q δ:=
 AOps.valw _ hd (fun κ a w r=>⟨.bool false,fun w' _=>by
  obtain⟨j,hj⟩:=Option.isSome_iff_exists.1 hte
  have h1:=r.ra hx ho
  have h2:=r.ra hy ho'
  generalize hv:a.eval x=v at h1
  generalize hu:a.eval y=u at h2
  cases h1 with
  | @ptr _ _ b hl hκ=>
   cases h2 with
   | @ptr _ _ b' hl' hκ'=>
    have e:b=b':=Option.some.inj (hκ.symm.trans hκ')
    subst e
    have:=Lib.run_neq_ptr_same (P:=P) w' ⟨b,off,none⟩ hp hj
    simp only[execOp,hv,hu,Sem.run_bind,eqG_ptr,Result.andThen_ok,this]
    rfl,.pv (.lit _)⟩) hK
theorem shape_of {b:Nat} {c:Array Value} {e:TypeId} (h:w.heap[b]? =some (.cells c e (0,0))):w.shape? b=some (e,c.size):=by simp [World.shape?,h]
theorem AOps.toUnsafe {x:Operand} {s d t T:TypeId} {i:Nat} {vals:Array Value} (hx:δ.ev x=.ptr i 0) (hb:δ.ob i=some (.lit T vals)) (hs:P.underlying s=some (.pointer t)) (hdd:P.underlying d=some .unsafePointer) (ht:((P.info? t).map fun i=>Nat.blt 0 i.size)=some true) (h0:Nat.blt 0 vals.size=true) (ho:okT x=true) (hd:okD δ.n dst=true)
  (hK:AOps .plain P g ops rest Q (δ.putd dst (.ptr i 0))):AOps .plain P g ops (⟨dst,.convert s d x,ty,pos,af,none⟩::rest) Q δ:=
 AOps.eff rfl rfl (fun κ a w r=>by
  obtain⟨j,hj,hjs⟩:∃j,P.info? t=some j∧j.size≠0:=by
   cases h:P.info? t with
   |none=>rw[h] at ht;simp at ht
   |some j=>rw[h] at ht;simp at ht;exact⟨j,rfl,by omega⟩
  obtain⟨b,h1,h2,h3⟩:=r.litb (r.ra hx ho) hb
  have hr:=Lib.run_to_unsafe (P:=P) w ⟨b,0,none⟩ hs hdd hj hjs (shape_of h3) (by simpa using h0)
  refine .inl ⟨.value (.pointer (some ⟨b,0,none⟩)),_,w,_,?_,.inl rfl,r.putd (okD_spec hd) (by rw[← h1];exact r.ra hx ho)⟩
  simp only[execOp,h1,Sem.run_bind,hr,Result.andThen_ok]
  rfl) hK
theorem AOps.fromUnsafe {x:Operand} {s d t T:TypeId} {i:Nat} {vals:Array Value} (hx:δ.ev x=.ptr i 0) (hb:δ.ob i=some (.lit T vals)) (hs:P.underlying s=some .unsafePointer) (hdd:P.underlying d=some (.pointer t)) (ht:(P.info? t).isSome=true) (hl:liesAt P P.depth T (vals.size / P.cellsOf T) 0 t 1=true) (ho:okT x=true) (hd:okD δ.n dst=true)
  (hK:AOps .plain P g ops rest Q (δ.putd dst (.ptr i 0))):AOps .plain P g ops (⟨dst,.convert s d x,ty,pos,af,none⟩::rest) Q δ:=
 AOps.eff rfl rfl (fun κ a w r=>by
  obtain⟨j,hj⟩:=Option.isSome_iff_exists.1 ht
  obtain⟨b,h1,h2,h3⟩:=r.litb (r.ra hx ho) hb
  have hr:=Lib.run_from_unsafe (P:=P) w ⟨b,0,none⟩ hs hdd hj (shape_of h3) hl
  refine .inl ⟨.value (.pointer (some ⟨b,0,none⟩)),_,w,_,?_,.inl rfl,r.putd (okD_spec hd) (by rw[← h1];exact r.ra hx ho)⟩
  simp only[execOp,h1,Sem.run_bind,hr,Result.andThen_ok]
  rfl) hK
theorem AOps.noEscape {f:FuncId} {fn:Func} {x:Operand} {tys:Array TypeId} {v:AV} (hf:P.funcs[f]? =some fn) (hname:(fn.name== "runtime.NumGoroutine")=false) (hbn:fn.body.isNone=true) (hn:Extern.findNext fn=none) (he:Extern.find fn=some Extern.AbiNoEscape.same) (hx:δ.ev x=v) (ho:okT x=true) (hd:okD δ.n dst=true)
  (hK:AOps .plain P g ops rest Q (δ.putd dst v)):AOps .plain P g ops (⟨dst,.call {callee:=.value (.func f),args:= #[x],argTypes:=tys},ty,pos,af,none⟩::rest) Q δ:=
 AOps.eff rfl rfl (fun κ a w r=>by
  have hr:=run_callFunc_extern hf hname hbn hn he #[a.eval x] w
  rw[Lib.run_noEscape,Result.andThen_ok] at hr
  have key:∀ρ:Operand→Value,ρ (.func f)=.func (.func f) #[] #[]→(callFunc f #[ρ x]).run P w=.ok (.value (ρ x)) w→(execOp ρ ⟨dst,.call {callee:=.value (.func f),args:= #[x],argTypes:=tys},ty,pos,af,none⟩).run P w=.ok (.value (ρ x)) w:=by
   intro ρ h1 h2
   simp [execOp,resolve,Deferred.ofValue,invoke,h1,h2]
  exact .inl ⟨.value (a.eval x),_,w,_,key _ rfl hr,.inl rfl,r.putd (okD_spec hd) (r.ra hx ho)⟩) hK
inductive LitL:List Value→List AV→Prop
 |nil:LitL [] []
 |cons {v:Value} {vs:List Value} {l:List AV} (h:LitL vs l):LitL (v::vs) (.pv (.lit v)::l)
theorem LitL.eq {vs:List Value} {l:List AV} (h:LitL vs l):vs.map (fun u=> .pv (.lit u))=l:=by
 induction h with
 |nil=>rfl
 |cons h ih=>rw[List.map_cons,ih]
theorem Eff.store_lit {x y:Operand} {t T:TypeId} {i off:Nat} {vals:Array Value} {v:AV} (hx:δ.ev x=.ptr i off) (hy:δ.ev y=v) (hb:δ.ob i=some (.lit T vals)) (hlt:Nat.blt off vals.size=true) (hall:vals.toList.all (·.oneCell')=true) (ht:(P.info? t).map (·.size)=some 1) (h1:v.one=true) (ho:okT x=true) (ho':okT y=true) (hd:okD δ.n dst=true) (hwk:g.wtOk i):
  Eff P g ⟨dst,.store t x y,ty,pos,af,gd⟩ δ ((δ.setOb i (some (.box ((vals.toList.map fun u=> .pv (.lit u)).set off v)))).putd dst .any):=by
 intro κ a w r
 obtain⟨b,hv,hκ,h3⟩:=r.litb (r.ra hx ho) hb
 have hlt':off<vals.size:=by simpa using hlt
 have hyv:=r.ra hy ho'
 have hone:=hyv.one h1
 have hrun:(execOp a.eval ⟨dst,.store t x y,ty,pos,af,gd⟩).run P w=.ok .skip (w.setCell ⟨b,off,none⟩ (a.eval y)):=by
  obtain⟨i0,hi0,hs0⟩:∃i0,P.info? t=some i0∧i0.size=1:=by
   cases h:P.info? t with
   |none=>rw[h] at ht;simp at ht
   |some i0=>rw[h] at ht;exact⟨i0,rfl,by simpa using ht⟩
  have hc:w.cell? ⟨b,off,none⟩=some vals[off]:=by rw[cell_of h3,Array.getElem?_eq_getElem (by omega)]
  have hst:(store ⟨b,off,none⟩ (a.eval y)).run P w=.ok () (w.setCell ⟨b,off,none⟩ (a.eval y)):=by
   rw[run_store P w _ _ _ hone,hc];simp [frozen_of h3]
  simp [execOp,Instr.storeAt,Instr.sureAddr,storeVar,hv,cells_one hone,sizeOf,typeInfo,hi0,hs0,storeCells,addr_add,hst]
 obtain⟨r',G⟩:=r.modify (o':=.box ((vals.toList.map fun u=> .pv (.lit u)).set off v)) hb rfl rfl hκ hwk (Turns.setCell w ⟨b,off,none⟩ (a.eval y)) (by simp [World.setCell]) (fun C hCκ G=>⟨b,_,T,by rw[hCκ];exact hκ,setCell_heap h3 _,by simp,fun j u av h6 h7=>by
  rw[Array.getElem?_setIfInBounds] at h6
  rw[List.getElem?_set] at h7
  by_cases ej:off=j
  ·rw[if_pos ej] at h6 h7
   rw[if_pos (by omega)] at h6
   rw[if_pos (by simp;omega)] at h7
   cases h6;cases h7
   exact⟨G.ra hyv,hone⟩
  ·rw[if_neg ej] at h6 h7
   simp only[List.getElem?_map,Option.map_eq_some_iff] at h7
   obtain⟨z,h8,rfl⟩:=h7
   rw[Array.getElem?_toList] at h8
   rw[h6] at h8
   cases h8
   exact⟨.pv (.lit _),(List.all_eq_true.1 hall) _ (List.mem_of_getElem? (by rw[Array.getElem?_toList];exact h6))⟩⟩)
 exact .inl ⟨_,_,_,_,hrun,.inr ⟨rfl,rfl⟩,r'.putd (okD_spec hd) (.any _)⟩
theorem AOps.store_lit {x y:Operand} {t T:TypeId} {i off:Nat} {vals:Array Value} {v:AV} {cs:List AV} (hx:δ.ev x=.ptr i off) (hy:δ.ev y=v) (hb:δ.ob i=some (.lit T vals)) (hcs:LitL vals.toList cs) (hlt:Nat.blt off vals.size=true) (hall:vals.toList.all (·.oneCell')=true) (ht:(P.info? t).map (·.size)=some 1) (h1:v.one=true) (ho:okT x=true) (ho':okT y=true) (hd:okD δ.n dst=true) (hwt:g.wt=none)
  (hK:AOps .plain P g ops rest Q ((δ.setOb i (some (.box (cs.set off v)))).putd dst .any)):AOps .plain P g ops (⟨dst,.store t x y,ty,pos,af,none⟩::rest) Q δ:=AOps.eff rfl rfl (Eff.store_lit hx hy hb hlt hall ht h1 ho ho' hd (wtOk_none hwt i)) (by rw[hcs.eq];exact hK)
end Go.Ab
/- strings.Builder's String over objects. -/
set_option maxHeartbeats 1000000
set_option maxRecDepth 100000
namespace Go.Ab
open Go Go.RowKit Go.Proofs Go.Shelf
variable {P:Program} {ρ:Ren}
theorem freeze_other (w:World) (p:Addr) (n k:Nat) (h:p.block≠k):(w.freeze p n).heap[k]? =w.heap[k]?:=by
 unfold World.freeze
 split
 ·rfl
 ·simp only[Array.getElem?_modify]
  rw[if_neg h]
theorem freeze_size (w:World) (p:Addr) (n:Nat):(w.freeze p n).heap.size=w.heap.size:=by
 unfold World.freeze
 split
 ·rfl
 ·simp
theorem string_at (L:Lays.n169 P ρ) (X:Builder.Extra P ρ) {T:TypeId} {B b:Nat} {p v:Value} (l:List UInt8) (w:World) (hbk:w.heap[b]? =some (.cells #[p,v] T (0,0))) (hown:w.ownsRow B (ρ.t 5) 1 v l.length (Lib.byteCells l)) (h0:l≠ []):
  Calls P (ρ.f 169) #[.pointer (some ⟨b,0,none⟩)] w fun e w'=>e=.returned (.string ⟨l.toArray⟩)∧∃g,v.ownBlock=some g∧w'=w.drew.freeze ⟨g,0,none⟩ l.length:=by
 have hl0:l.length≠0:=by simpa using h0
 obtain⟨g,cap,cur,rfl,hbg,hg,hnc,hcm,hcs,htake⟩:∃g cap cur,v=.slice (some ⟨g,0,none⟩) l.length cap∧B≤g∧w.heap[g]? =some (.cells cur (ρ.t 5) (0,0))∧l.length≤cap∧cap≤maxLen∧cur.size=cap*1∧cur.toList.take (l.length*1)=Lib.byteCells l:=by
  rcases hown.2 with ⟨_,hz⟩|⟨g,cap,cur,hv,r⟩
  ·exact absurd hz hl0
  ·exact⟨g,cap,cur,hv,r⟩
 have c1:w.drew.cell? ⟨b,1,none⟩=some (.slice (some ⟨g,0,none⟩) l.length cap):=by
  have:w.drew.heap[b]? =some (.cells #[p,.slice (some ⟨g,0,none⟩) l.length cap] T (0,0)):=hbk
  rw[Lib.cell_of_heap this];rfl
 have hSD:(Builtin.unsafeSliceData_ #[(ρ.t 37)] (ρ.t 127) #[.slice (some ⟨g,0,none⟩) l.length cap]).run P w.drew=.ok (.pointer (some ⟨g,0,none⟩)) w.drew:=
  Lib.run_unsafeSliceData_row _ _ _ _ _ _ (by omega)
 have hUS:(Builtin.unsafeString_ #[(ρ.t 127),(ρ.t 3)] (ρ.t 9) #[.pointer (some ⟨g,0,none⟩),.int .i64 l.length]).run P w.drew=.ok (.string ⟨l.toArray⟩) (w.drew.freeze ⟨g,0,none⟩ l.length):=by
  refine Lib.run_unsafeString_row w.drew (ρ.t 127) (ρ.t 3) (ρ.t 9) (ρ.t 5) L.t127 X.cellsByte g cur.size (by have hg':w.drew.heap[g]? =some (.cells cur (ρ.t 5) (0,0)):=hg;simp [World.shape?,hg']) l h0 (by omega) (by unfold maxLen at hcm;omega) ?_
  intro j x hx
  exact hown.cells (g:=g) rfl j (.int .u8 x.toNat) (by simp [Lib.byteCells,hx])
 have mixed:=L.mixed
 have t72:=L.t72;have a72:=L.a72;have z72:=L.z72;have v72:=L.v72;have u72:=run_underlying L.t72
 have t70:=L.t70;have a70:=L.a70;have z70:=L.z70;have v70:=L.v70;have u70:=run_underlying L.t70
 have t37:=L.t37;have a37:=L.a37;have z37:=L.z37;have v37:=L.v37;have u37:=run_underlying L.t37
 have t127:=L.t127;have a127:=L.a127;have z127:=L.z127;have v127:=L.v127;have u127:=run_underlying L.t127
 have t3:=L.t3;have a3:=L.a3;have z3:=L.z3;have v3:=L.v3;have u3:=run_underlying L.t3
 have t9:=L.t9;have a9:=L.a9;have z9:=L.z9;have v9:=L.v9;have u9:=run_underlying L.t9
 have t5:=X.t5;have a5:=X.a5;have z5:=X.z5;have v5:=X.v5;have u5:=run_underlying X.t5
 go_enter L.f169,Body.n169_ntmps ρ
 go_wp2
 go_region_o
 all_goals (go_wp2;go_ret;exact⟨rfl,g,rfl,rfl⟩)
theorem bytesE_cells {C:Cx} {w:World} {v:Value} {i:Nat} {e:TypeId} {l:List UInt8} (h:OwnV C w v i e 1 (bytesE l)):w.ownsRow C.B e 1 v l.length (Lib.byteCells l):=by
 obtain⟨xs,h1,h2,h3⟩:=h.row
 rw[bytesE_len] at h1
 have:xs=Lib.byteCells l:=by
  have hl:xs.length=l.length:=by simpa using h1.1
  apply List.ext_getElem?
  intro j
  unfold Lib.byteCells
  rw[List.getElem?_map]
  cases hb:l[j]? with
  |none=>rw[List.getElem?_eq_none];rfl;rw[List.getElem?_eq_none_iff] at hb;omega
  |some b=>
   obtain⟨u,h4,h5⟩:=h3 j 0 (.lit (.int .u8 b.toNat)) (by unfold cellAt bytesE;rw[List.getElem?_map,hb];rfl)
   simp only[Nat.mul_one,Nat.add_zero] at h4
   rw[h4]
   cases h5
   rfl
 rw[← this]
 exact h1
theorem string_fnX (L:Lays.n169 P ρ) (X:Builder.Extra P ρ) (i j n0:Nat) (hij:i≠j) (hi:i<n0) (hj:j<n0) (l:List UInt8) (h0:l≠ []) (hen:∀vals w,(callFunc (ρ.f 169) vals).run P w=.ok (.enter (ρ.f 169) vals) w):
  FnX P (ρ.f 169) n0 [(i,some (.box [.ptr i 0,.own j (ρ.t 5) 1 (bytesE l)])),(j,some .row)] [.ptr i 0] [(i,some (.box [.any,.any])),(j,some .row)] (litS ⟨l.toArray⟩):=by
 refine⟨hen,fun g κ w vals hro hwt _ r hs hargs=>?_⟩
 have hs:vals.size=1:=hs
 obtain⟨v0,rfl⟩:∃v0,vals= #[v0]:=by
  rcases vals with ⟨_|⟨v0,_|_⟩⟩<;>simp at hs
  exact⟨v0,rfl⟩
 have hoi:(XS [(i,some (.box [.ptr i 0,.own j (ρ.t 5) 1 (bytesE l)])),(j,some .row)] n0).ob i=some (.box [.ptr i 0,.own j (ρ.t 5) 1 (bytesE l)]):=by
  show lookOb _ _=_
  rw[lookOb_cons,if_pos rfl]
 have hoj:(XS [(i,some (.box [.ptr i 0,.own j (ρ.t 5) 1 (bytesE l)])),(j,some .row)] n0).ob j=some .row:=by
  show lookOb _ _=_
  rw[lookOb_cons,if_neg hij,lookOb_cons,if_pos rfl]
 obtain⟨b,c,e,rfl,hκ,h3,h4,h5⟩:=r.box (hargs 0 v0 _ rfl rfl) hoi
 have h4:c.size=2:=h4
 obtain⟨p,v,rfl⟩:∃p v,c= #[p,v]:=by
  rcases c with ⟨_|⟨p,_|⟨v,_|_⟩⟩⟩<;>simp at h4
  exact⟨p,v,rfl⟩
 have hv:=(h5 1 v _ rfl rfl).1.own_inv
 have h51:=(h5 0 p _ rfl rfl).2
 have h52:=(h5 1 v _ rfl rfl).2
 refine(string_at L X l w h3 (bytesE_cells hv) h0).mono ?_
 rintro en w' ⟨rfl,gb,hgb,rfl⟩
 have hκj:κ j=some gb:=hv.blk gb hgb
 have hlj:(XS [(i,some (.box [.ptr i 0,.own j (ρ.t 5) 1 (bytesE l)])),(j,some .row)] n0).live j:=⟨_,hoj⟩
 have hli:(XS [(i,some (.box [.ptr i 0,.own j (ρ.t 5) 1 (bytesE l)])),(j,some .row)] n0).live i:=⟨_,hoi⟩
 have hne:gb≠b:=fun e=>hij (r.inj i j b hli hlj hκ (e▸hκj))
 have hgB:=r.lo j gb hlj hκj
 have hoth:∀k,gb≠k→(w.drew.freeze ⟨gb,0,none⟩ l.length).heap[k]? =w.heap[k]?:=fun k hk=>freeze_other _ _ _ _ hk
 have hrow:∃cur,w.heap[gb]? =some (.cells cur (ρ.t 5) (0,0)):=by
  rcases(bytesE_cells hv).2 with ⟨rfl,_⟩|⟨g',cap,cur,rfl,_,hg,_⟩
  ·simp [Value.ownBlock] at hgb
  ·simp only[Value.ownBlock,Option.some.injEq] at hgb
   subst hgb
   exact⟨cur,hg⟩
 obtain⟨cur,hcur⟩:=hrow
 let objs1:List (Nat×Option Ob):=[(i,some (.box [.any,.any])),(j,some .row)]
 have ho1:∀k o,(XS objs1 n0).ob k=some o→(k=i∧o=.box [.any,.any])∨(k=j∧o=.row):=by
  intro k o h
  have h:lookOb objs1 k=some o:=h
  rw[lookOb_cons] at h
  by_cases e1:i=k
  ·rw[if_pos e1] at h;cases h;exact .inl ⟨e1.symm,rfl⟩
  ·rw[if_neg e1,lookOb_cons] at h
   by_cases e2:j=k
   ·rw[if_pos e2] at h;cases h;exact .inr ⟨e2.symm,rfl⟩
   ·rw[if_neg e2] at h;cases h
 have hκ':∀k,upd κ j none k=if j=k then none else κ k:=fun k=>rfl
 have hlive1:∀k bb,(XS objs1 n0).live k→upd κ j none k=some bb→k=i∧κ i=some bb:=by
  rintro k bb ⟨o,h⟩ e
  rw[hκ'] at e
  rcases ho1 k o h with ⟨rfl,_⟩|⟨rfl,_⟩
  ·rw[if_neg (Ne.symm hij)] at e;exact⟨rfl,e⟩
  ·rw[if_pos rfl] at e;cases e
 refine⟨upd κ j none,⟨_,rfl,.pv (.lit _)⟩,?_,fun k bb hp hk=>?_⟩
 ·exact
   {n:=rfl
    dfr:=by
     obtain⟨rs,e1,e2,e3⟩:=r.dfr
     refine⟨rs,e1,e2,fun k hk=>⟨(e3 k hk).1,?_⟩⟩
     rw[hoth k (by rintro rfl;have:=(e3 _ hk).2;rw[hcur] at this;cases this)]
     exact(e3 k hk).2
    env:=fun k=> .any _
    obj:=fun k o h=>by
     rcases ho1 k o h with ⟨rfl,rfl⟩|⟨rfl,rfl⟩
     ·refine⟨b, #[p,v],e,by show upd κ j none k=_;rw[hκ',if_neg (Ne.symm hij)];exact hκ,(hoth b hne).trans h3,rfl,fun m u av h6 h7=>?_⟩
      match m,h6,h7 with
      |0,h6,h7=>simp at h6 h7;subst h6;subst h7;exact⟨.any _,h51⟩
      |1,h6,h7=>simp at h6 h7;subst h6;subst h7;exact⟨.any _,h52⟩
      |m+2,h6,h7=>simp at h7
     ·intro bb hbb
      have hbb:upd κ k none k=some bb:=hbb
      rw[hκ',if_pos rfl] at hbb
      cases hbb
    inj:=fun k k' bb h1 h2 h3 h4=>by rw[(hlive1 k bb h1 h3).1,(hlive1 k' bb h2 h4).1]
    lo:=fun k bb h1 h2=>by
     obtain⟨rfl,h6⟩:=hlive1 k bb h1 h2
     have:=r.lo k bb hli h6
     exact⟨this.1,by rw[freeze_size];exact this.2⟩
    nx:=fun k ⟨o,h⟩=>by rcases ho1 k o h with ⟨rfl,_⟩|⟨rfl,_⟩<;>assumption
    wt:=fun k hk=>by rw[hwt] at hk;cases hk
    below:=Lib.below_freeze (Below.drew r.below) (p:=⟨gb,0,none⟩) hgB.1 _
    hB:=by rw[freeze_size];exact r.hB
    N0:=r.N0
    fr:=fun bb hbb=>by
     obtain⟨h1,h2,h3⟩:=r.fr bb hbb
     refine⟨h1,(hoth bb fun e=>h3 j hlj (e▸hκj)).trans h2,fun k hk e=>?_⟩
     obtain⟨rfl,h6⟩:=hlive1 k bb hk e
     exact h3 k hli h6
    mkf:=fun d hd=>by cases hd}
 ·have:k=i:=by
   rcases hp with hp|hp
   ·simp only[pinL,List.mem_cons,AV.ptr.injEq,List.not_mem_nil,or_false] at hp
    exact hp.1
   ·simp [pinL] at hp
  subst this
  rw[hκ',if_neg (Ne.symm hij)]
  exact hk
end Go.Ab
/- A function that defers a closure over two of its variables,which recovers. -/
namespace Go.Ab
open Go Go.RowKit
variable {P:Program} {g:Ghost} {δ:DS} {κ:Nat→Option Nat} {a:Act} {w:World} {Q:Exit→DS→Prop}
def AWr (P:Program) (g:Ghost) (c:Code) (R:Exit→Act→World→Prop) (δ:DS):Prop:=∀κ a w,Rel g δ κ a w→c.wpIn (Fw g.ro) 0 P R a w
theorem AWr.of {c:Code} {R:Exit→Act→World→Prop} (h:AW P g c Q δ) (hR:∀e a w,lift g Q e a w→R e a w):AWr P g c R δ:=fun κ a w r=>wpIn_mono (h κ a w r) hR
def AW0 (P:Program) (g:Ghost) (c:Code) (R:Exit→Act→World→Prop) (δ:DS):Prop:=∀κ a w,a.defers=[]→Rel g δ κ a w→c.wpIn (Fw g.ro) 0 P R a w
def AO0 (P:Program) (g:Ghost) (ops:Array Oper) (l:List Oper) (c:Code) (R:Exit→Act→World→Prop) (δ:DS):Prop:=∀κ a w,a.defers=[]→Rel g δ κ a w→wpListIn (Fw g.ro) 0 P ops (Exit.then (c.wpIn (Fw g.ro) 0 P R) R) l a w
theorem AW0.region {id:Nat} {l:List Oper} {c:Code} {R:Exit→Act→World→Prop} (h:AO0 P g l.toArray l c R δ):AW0 P g (.seq (.region id l.toArray false) c) R δ:=
 fun κ a w ha r=>wpIn_seq (wpIn_region_lit (h κ a w ha r))
theorem AO0.nil {ops:Array Oper} {c:Code} {R:Exit→Act→World→Prop} (h:AW0 P g c R δ):AO0 P g ops [] c R δ:=fun κ a w ha r=>by
 unfold wpListIn
 exact h κ a w ha r
theorem AO0.eff {ops:Array Oper} {o:Oper} {rest:List Oper} {c:Code} {R:Exit→Act→World→Prop} {δ':DS} (hg:o.guard=none) (hnd:noDefer o=true) (h:Eff P g o δ δ') (hc:∀(a:Act) (w:World) f vals,(execOp a.eval o).run P w≠ .ok (.enter f vals) w) (hK:AO0 P g ops rest c R δ'):AO0 P g ops (o::rest) c R δ:=by
 intro κ a w ha r
 refine wpl_plain hg hnd fun K hK'=>?_
 unfold Oper.wpF
 rcases h κ a w r with ⟨x,v,w',κ',hrun,hx,r'⟩|⟨f,vals,hrun,_⟩
 ·rw[hrun]
  rcases hx with rfl|⟨rfl,rfl⟩
  ·simp only[Oper.uponIn]
   exact hK' _ _ (hK κ' _ _ (by cases o.dst<;>exact ha) r')
  ·simp only[Oper.uponIn]
   exact hK' _ _ (hK κ' _ _ (by cases o.dst<;>exact ha) r')
 ·exact absurd hrun (hc _ _ _ _)
theorem AW0.defer {id d p1 p2 i1 i2:Nat} {fc:FuncId} {ty1 ty2:TypeId} {pos1 pos2:String} {af1 af2:Array Edge} {tys:Array TypeId} {c:Code} {R:Exit→Act→World→Prop}
  (hro:g.ro=none) (hwt:g.wt=none) (h1:δ.get p1=.ptr i1 0) (h2:δ.get p2=.ptr i2 0) (hp1:Nat.blt p1 HS=true) (hp2:Nat.blt p2 HS=true) (hd:okD δ.n (some d)=true) (hhi:hiE δ.env=[]) (hmk:g.mks=[])
  (h:∀(g':Ghost) (v1 v2:Value),g'.ro=none→g'.wt=none→Gi g' g→g'.N0=g.N0→g'.base=[{target:=.fn (.func fc) #[v1,v2],args:= #[]}]→g'.held 1000=.agg #[v1,v2]→AWr P g' c R ⟨δ.n,(d,.any)::(1000,.agg [.ptr i1 0,.ptr i2 0])::δ.env,δ.objs,δ.nx⟩):
  AW0 P g (.seq (.region id #[⟨some d,.makeFunc (.func fc) #[] #[.tmp p1,.tmp p2],ty1,pos1,af1,none⟩,⟨none,.defer {callee:=.value (.tmp d),args:= #[],argTypes:=tys},ty2,pos2,af2,none⟩] false) c) R δ:=by
 intro κ a w ha r
 have hv1:=r.env p1
 have hv2:=r.env p2
 rw[h1] at hv1
 rw[h2] at hv2
 have e1:∀q,Nat.blt q HS=true→g.val a q=a.eval (.tmp q):=fun q hq=>by
  have hq:q<HS:=by simpa using hq
  unfold Ghost.val
  rw[if_pos hq]
  rfl
 rw[e1 p1 hp1] at hv1
 rw[e1 p2 hp2] at hv2
 generalize hev1:a.eval (.tmp p1)=v1 at hv1
 generalize hev2:a.eval (.tmp p2)=v2 at hv2
 have hdl:=okD_spec hd d rfl
 have hlt:d<a.tmps.size:=by rw[r.n];exact hdl.1
 refine wpIn_seq ?_
 refine wpIn_region_lit (l:=[_,_]) ?_
 refine wpl_plain (ro:=g.ro) rfl rfl fun K hK=>?_
 have hr1:(execOp a.eval ⟨some d,.makeFunc (.func fc) #[] #[.tmp p1,.tmp p2],ty1,pos1,af1,none⟩).run P w=.ok (.value (.func (.func fc) #[] #[v1,v2])) w:=by
  have e:(#[Operand.tmp p1,Operand.tmp p2]:Array Operand).map a.eval= #[v1,v2]:=by
   rw[List.map_toArray,List.map_cons,List.map_cons,List.map_nil,hev1,hev2]
  have e':(#[]:Array Operand).map a.eval= #[]:=by simp
  simp only[execOp,e,e']
  rfl
 unfold Oper.wpF
 rw[hr1]
 simp only[Oper.uponIn]
 refine hK _ _ ?_
 have hev:(a.put (some d) (.func (.func fc) #[] #[v1,v2])).eval (.tmp d)=.func (.func fc) #[] #[v1,v2]:=by
  simp [Act.put,Act.eval,hlt]
 refine wpListIn_plain rfl fun K hK=>⟨fun _ _=>trivial,?_⟩
 have hr2:((⟨none,.defer {callee:=.value (.tmp d),args:= #[],argTypes:=tys},ty2,pos2,af2,none⟩:Oper).semAt (Fw g.ro).round (a.put (some d) (.func (.func fc) #[] #[v1,v2])).eval).run P w=.ok (.defer {target:=.fn (.func fc) #[v1,v2],args:= #[]}) w:=by
  rw[show(Fw g.ro).round=none from hro]
  simp [Oper.semAt,execOp,resolve,Deferred.ofValue,hev]
 rw[hr2]
 rw[Oper.uponIn_defer]
 refine hK _ _ ?_
 unfold wpListIn
 show c.wpIn (Fw g.ro) 0 P R {a.put (some d) (.func (.func fc) #[] #[v1,v2]) with defers:=[{target:=.fn (.func fc) #[v1,v2],args:= #[]}]++a.defers} w
 rw[ha,List.append_nil]
 let g':Ghost:={g with base:=[{target:=.fn (.func fc) #[v1,v2],args:= #[]}],held:=fun _=> .agg #[v1,v2]}
 have r':Rel g' ⟨δ.n,(d,.any)::(1000,.agg [.ptr i1 0,.ptr i2 0])::δ.env,δ.objs,δ.nx⟩ κ {a.put (some d) (.func (.func fc) #[] #[v1,v2]) with defers:=[{target:=.fn (.func fc) #[v1,v2],args:= #[]}]} w:=
  {n:=by show(a.put (some d) (.func (.func fc) #[] #[v1,v2])).tmps.size=_;simpa [Act.put] using r.n
   dfr:=⟨[],rfl,by rw[show g'.mks=[] from hmk];simp,by rw[show g'.mks=[] from hmk];simp⟩
   env:=fun j=>by
    show RA (δ.cx g κ) w (g'.val {a.put (some d) (.func (.func fc) #[] #[v1,v2]) with defers:=[{target:=.fn (.func fc) #[v1,v2],args:= #[]}]} j) (look ((d,.any)::(1000,.agg [.ptr i1 0,.ptr i2 0])::δ.env) j)
    rw[look_cons]
    by_cases e:d=j
    ·rw[if_pos e];exact .any _
    ·rw[if_neg e,look_cons]
     by_cases e':1000=j
     ·subst e'
      rw[if_pos rfl]
      have:g'.val {a.put (some d) (.func (.func fc) #[] #[v1,v2]) with defers:=[{target:=.fn (.func fc) #[v1,v2],args:= #[]}]} 1000=.agg #[v1,v2]:=by unfold Ghost.val;rw[if_neg (by show ¬1000<1000;omega)]
      rw[this]
      refine .agg rfl fun j u c h5 h6=>?_
      match j,h5,h6 with
      |0,h5,h6=>simp at h5 h6;subst h5;subst h6;exact hv1
      |1,h5,h6=>simp at h5 h6;subst h5;subst h6;exact hv2
      |j+2,h5,h6=>simp at h6
     ·rw[if_neg e']
      by_cases hj:j<HS
      ·have h5:=r.env j
       have e5:g'.val {a.put (some d) (.func (.func fc) #[] #[v1,v2]) with defers:=[{target:=.fn (.func fc) #[v1,v2],args:= #[]}]} j=g.val a j:=by
        unfold Ghost.val
        rw[if_pos hj,if_pos hj]
        simp [Act.put,Array.getD_eq_getD_getElem?,Array.getElem?_setIfInBounds,e]
       rw[e5]
       exact h5
      ·have h6:=look_hiE δ.env j
       rw[hhi,if_neg hj] at h6
       rw[← h6]
       exact .any _
   obj:=r.obj,inj:=r.inj,lo:=r.lo,nx:=r.nx,wt:=r.wt,below:=r.below,hB:=r.hB,N0:=r.N0,fr:=r.fr
   mkf:=fun d' hd'=>by
    have hd':d'∈ [({target:=.fn (.func fc) #[v1,v2],args:= #[]}:Deferred)]:=hd'
    simp only[List.mem_singleton] at hd'
    subst hd'
    intro k hk
    cases hk}
 exact h g' v1 v2 hro hwt ⟨rfl,rfl⟩ rfl rfl rfl κ _ w r'
theorem leavesBase (hwt:g.wt=none) {fn:Func} {u:FrameMode} (hu:u≠ .run) {R:Ending→World→Prop}:∀{a:Act} {w:World},Rel g δ κ a w→
  (∀w2,Rel g δ κ {a with defers:=g.base} w2→LeavesInM Fence.wide 0 P fn a.tmps R g.base u w2)→LeavesInM Fence.wide 0 P fn a.tmps R a.defers u w:=by
 intro a w r hR
 obtain⟨ms,h1,h2,h3⟩:=r.dfr
 rw[h1]
 induction ms generalizing a w with
 |nil=>
  have ra:Rel g δ κ {a with defers:=g.base} w:={r with dfr:=⟨[],rfl,h2,h3⟩,mkf:=fun d hd=>r.mkf d (by rw[h1];exact hd)}
  exact hR w ra
 |cons m ms ih=>
  refine⟨hu,.inl ⟨m,_,rfl,run_takeDeferred (h3 m (by simp)).2,?_⟩⟩
  have hm:=h3 m (by simp)
  rw[List.cons_append] at h2
  have hnd:=List.nodup_cons.1 h2
  have hkeep:∀k∈ms++g.mks,g.B≤k∧(w.putObj m (.deferred none)).heap[k]? =some (.deferred (some [])):=fun k hk=>
   ⟨(h3 k (by simp only[List.cons_append,List.mem_cons];exact .inr hk)).1,by rw[World.putObj_heap_other (by intro e;subst e;exact hnd.1 hk)];exact(h3 k (by simp only[List.cons_append,List.mem_cons];exact .inr hk)).2⟩
  have hd:Dfr g {a with defers:=(ms.map fun r=>({target:=.collected r,args:= #[]}:Deferred))++g.base} (w.putObj m (.deferred none)):=⟨ms,rfl,hnd.2,hkeep⟩
  have r2:=r.shut hwt hm.1 hm.2 (a':={a with defers:=(ms.map fun r=>({target:=.collected r,args:= #[]}:Deferred))++g.base}) rfl (fun d hd=>by rw[h1,List.map_cons,List.cons_append];exact List.mem_cons_of_mem _ hd) (r.mkf {target:=.collected m,args:= #[]} (by rw[h1];simp) m rfl) hd
  exact ih (a:={a with defers:=(ms.map fun r=>({target:=.collected r,args:= #[]}:Deferred))++g.base}) r2 (fun w2 r3=>hR w2 r3) rfl hnd.2 hkeep
def EndsR (P:Program) (rs:List ResultVar) (r:AV) (t:TypeId) (i1 i2 n1 n2 q1 q2:Nat):Exit→DS→Prop
 |.normal,δ|.ret,δ=>∃v,Res P δ rs v∧Le true v r
 |.panic ch,δ=>Pan t ch∧δ.get 1000=.agg [.ptr i1 0,.ptr i2 0]∧δ.get q1=.ptr i1 0∧δ.get q2=.ptr i2 0∧(∃c1,δ.ob i1=some (.box c1)∧c1.length=n1)∧(∃c2,δ.ob i2=some (.box c2)∧c2.length=n2)
 |_,_=>False
theorem endsR_ret {rs:List ResultVar} {r v:AV} {t:TypeId} {i1 i2 n1 n2 q1 q2:Nat} (h:Res P δ rs v) (hl:Le true v r):EndsR P rs r t i1 i2 n1 n2 q1 q2 .ret δ:=⟨v,h,hl⟩
theorem endsR_pan {rs:List ResultVar} {r:AV} {t:TypeId} {i1 i2 n1 n2 q1 q2:Nat} {ch:List PanicEntry} (h:Pan t ch) (h1:δ.get 1000=.agg [.ptr i1 0,.ptr i2 0]) (h2:δ.get q1=.ptr i1 0) (h3:δ.get q2=.ptr i2 0) (h4:∃c1,δ.ob i1=some (.box c1)∧c1.length=n1) (h5:∃c2,δ.ob i2=some (.box c2)∧c2.length=n2):EndsR P rs r t i1 i2 n1 n2 q1 q2 (.panic ch) δ:=⟨h,h1,h2,h3,h4,h5⟩
theorem run_store_whole {dst:Option Nat} {ty t:TypeId} {pos:String} {af:Array Edge} {x y:Operand} {ρ:Operand→Value} {b:Nat} {c:Array Value} {e:TypeId} (hx:ρ x=.pointer (some ⟨b,0,none⟩)) (h3:w.heap[b]? =some (.cells c e (0,0))) (hs:(ρ y).cells.size=c.size) (ht:(P.info? t).map (·.size)=some c.size) (hall:∀u∈(ρ y).cells.toList,u.oneCell'=true):
  (execOp ρ ⟨dst,.store t x y,ty,pos,af,none⟩).run P w=.ok .skip (w.setRow b (ρ y).cells):=by
 have hst:=run_storeCells_at P b 0 e (ρ y).cells.toList 0 c w h3 (by simp;omega) hall
 have hrow:(c.toList.take (0+0)++(ρ y).cells.toList++c.toList.drop (0+0+(ρ y).cells.toList.length)).toArray=(ρ y).cells:=by
  have:c.toList.drop (0+0+(ρ y).cells.toList.length)=[]:=List.drop_eq_nil_of_le (by simp;omega)
  rw[this];simp
 rw[hrow] at hst
 obtain⟨i0,hi0,hs0⟩:∃i0,P.info? t=some i0∧i0.size=c.size:=by
  cases h:P.info? t with
  |none=>rw[h] at ht;simp at ht
  |some i0=>rw[h] at ht;exact⟨i0,rfl,by simpa using ht⟩
 simp [execOp,Instr.storeAt,Instr.sureAddr,storeVar,hx,hs,sizeOf,typeInfo,hi0,hs0,hst]
theorem endsR_post {T:World→Prop} {fn:Func} {rs:List ResultVar} {r:AV} {t:TypeId} {i1 i2 n1 n2 q1 q2:Nat} {fc:FuncId} {Z1 Z2:Array Value} {v1 v2:Value} {N:Nat→Prop} {w0:World} (hrs:fn.results=rs.toArray) (hwt:g.wt=none) (hB:g.B=w0.heap.size) (hw0:g.w0=w0) (hN0:g.N0=N) (hN:∀b,w0.heap.size≤b→N b)
  (hbase:g.base=[{target:=.fn (.func fc) #[v1,v2],args:= #[]}]) (hheld:g.held 1000=.agg #[v1,v2]) (hen:∀vals w,(callFunc fc vals).run P w=.ok (.enter fc vals) w) (hne:i1≠i2) (hq1:Nat.blt q1 HS=true) (hq2:Nat.blt q2 HS=true)
  (hidle:∀w,CallsDIn Fence.wide 0 P fc #[v1,v2] .returning w fun e u' w'=>e=.returned (.tuple #[])∧u'=.returning∧w'=w)
  (hpan:∀(b1 b2:Nat) (c1 c2:Array Value) (e1 e2:TypeId) (w:World) (u:Value),v1=.pointer (some ⟨b1,0,none⟩)→v2=.pointer (some ⟨b2,0,none⟩)→u.oneCell'=true→b1≠b2→w.heap[b1]? =some (.cells c1 e1 (0,0))→c1.size=n1→w.heap[b2]? =some (.cells c2 e2 (0,0))→c2.size=n2→
   CallsDIn Fence.wide 0 P fc #[v1,v2] (.panicking [{v:=.iface t (.agg #[u]),recovered:=false}]) w fun e u' w'=>e=.returned (.tuple #[])∧u'=.panicking [{v:=.iface t (.agg #[u]),recovered:=true}]∧∃o,w'=((w.alloc o).setRow b1 Z1).setRow b2 Z2)
  (hz1:Z1.toList.all (·.oneCell')=true) (hz2:Z2.toList.all (·.oneCell')=true)
  (hres:∀δ':DS,δ'.get q1=.ptr i1 0→δ'.get q2=.ptr i2 0→δ'.ob i1=some (.box (Z1.toList.map fun u=> .pv (.lit u)))→δ'.ob i2=some (.box (Z2.toList.map fun u=> .pv (.lit u)))→∃v,Res P δ' rs v∧Le true v r):
  ∀e a w,lift g (EndsR P rs r t i1 i2 n1 n2 q1 q2) e a w→bodyPostM Fence.wide 0 P fn (fun e w'=>∃v,e=.returned v∧RA (pcx N) w' v r∧Below w0.heap.size w0 w') e a w:=by
 have htake:∀{a:Act} {w3:World} {δ3:DS} {κ3:Nat→Option Nat} {v:AV},Rel g δ3 κ3 {a with defers:=g.base} w3→Res P δ3 rs v→Le true v r→LeavesInM Fence.wide 0 P fn a.tmps (fun e w'=>∃v,e=.returned v∧RA (pcx N) w' v r∧Below w0.heap.size w0 w') [] .returning w3:=by
  intro a w3 δ3 κ3 v r3 h1 h2
  obtain⟨u,h4,h5⟩:=h1.run hrs r3
  refine⟨u,h4,u,rfl,h5.le h2 (fun b _ h=>hN0▸h.1) (fun _ i b hi hκ=>hN b (hB▸(r3.lo i b (DS.lr_live hi) hκ).1)),?_⟩
  have:=r3.below
  rw[hB,hw0] at this
  exact this
 rintro e a w ⟨δ,κ,hq,r'⟩
 have hret:(∃v,Res P δ rs v∧Le true v r)→LeavesInM Fence.wide 0 P fn a.tmps (fun e w'=>∃v,e=.returned v∧RA (pcx N) w' v r∧Below w0.heap.size w0 w') a.defers .returning w:=by
  rintro⟨v,h1,h2⟩
  refine leavesBase hwt (by simp) r' fun w2 r2=>?_
  have hb2:=hbase
  rw[hbase]
  refine⟨by simp,.inr ⟨by simp [Fence.wide],_,_,fc, #[v1,v2],rfl,by simp [invoke,hen],fun _ _=>trivial,?_⟩⟩
  refine(hidle w2).mono ?_
  rintro e u' w' ⟨rfl,rfl,rfl⟩
  exact htake r2 h1 h2
 cases e with
 |normal=>exact hret hq
 |ret=>exact hret hq
 |panic ch=>
  obtain⟨⟨u,rfl,hu⟩,h1000,hg1,hg2,⟨c1,ho1,hc1⟩,⟨c2,ho2,hc2⟩⟩:=hq
  refine leavesBase hwt (by simp) r' fun w2 r2=>?_
  rw[hbase]
  have h5:=r2.env 1000
  rw[h1000] at h5
  have h6:g.val {a with defers:=g.base} 1000=.agg #[v1,v2]:=by unfold Ghost.val;rw[if_neg (by show ¬1000<1000;omega)];exact hheld
  rw[h6] at h5
  cases h5 with
  |agg hs h=>
   have hp1:=h 0 v1 _ rfl rfl
   have hp2:=h 1 v2 _ rfl rfl
   obtain⟨b1,d1,e1,hv1,hκ1,hh1,hd1,_⟩:=r2.box hp1 ho1
   obtain⟨b2,d2,e2,hv2,hκ2,hh2,hd2,_⟩:=r2.box hp2 ho2
   have hbne:b1≠b2:=fun e=>hne (r2.inj i1 i2 b1 ⟨_,ho1⟩ ⟨_,ho2⟩ hκ1 (e▸hκ2))
   refine⟨by simp,.inr ⟨by simp [Fence.wide],_,_,fc, #[v1,v2],rfl,by simp [invoke,hen],fun _ _=>trivial,?_⟩⟩
   refine(hpan b1 b2 d1 d2 e1 e2 w2 u hv1 hv2 hu hbne hh1 (hd1.trans hc1) hh2 (hd2.trans hc2)).mono ?_
   rintro e u' w' ⟨rfl,rfl,o,rfl⟩
   have r3:Rel g δ κ {a with defers:=g.base} (w2.alloc o):=r2.ext ((Below.refl _ _).alloc (Nat.le_refl _) _)
   have hh1':(w2.alloc o).heap[b1]? =some (.cells d1 e1 (0,0)):=(Lib.alloc_old w2 o b1 (heap_lt hh1)).trans hh1
   have hh2':(w2.alloc o).heap[b2]? =some (.cells d2 e2 (0,0)):=(Lib.alloc_old w2 o b2 (heap_lt hh2)).trans hh2
   have hlit:∀{Z:Array Value} {C:Cx} {w:World},Z.toList.all (·.oneCell')=true→∀(j:Nat) (u:Value) (av:AV),Z[j]? =some u→(Z.toList.map fun u=>AV.pv (.lit u))[j]? =some av→RA C w u av∧u.oneCell'=true:=by
    intro Z C w hz j u av h1 h2
    simp only[List.getElem?_map,Option.map_eq_some_iff] at h2
    obtain⟨x,h3,rfl⟩:=h2
    rw[Array.getElem?_toList,h1] at h3
    cases h3
    exact⟨.pv (.lit _),(List.all_eq_true.1 hz) _ (List.mem_of_getElem? (by rw[Array.getElem?_toList];exact h1))⟩
   obtain⟨r4,_⟩:=r3.modify (o':=.box (Z1.toList.map fun u=> .pv (.lit u))) ho1 rfl rfl hκ1 (wtOk_none hwt i1) (Turns.setRow _ b1 Z1) (by simp) (fun C hCκ G=>⟨b1,_,e1,by rw[hCκ];exact hκ1,setRow_heap _ b1 d1 _ e1 _ hh1',by simp,hlit hz1⟩)
   have hh2'':((w2.alloc o).setRow b1 Z1).heap[b2]? =some (.cells d2 e2 (0,0)):=(setRow_other _ b1 b2 _ (Ne.symm hbne)).trans hh2'
   have ho2':(δ.setOb i1 (some (.box (Z1.toList.map fun u=> .pv (.lit u))))).ob i2=some (.box c2):=by rw[ob_setOb,if_neg hne];exact ho2
   obtain⟨r5,_⟩:=r4.modify (o':=.box (Z2.toList.map fun u=> .pv (.lit u))) ho2' rfl rfl hκ2 (wtOk_none hwt i2) (Turns.setRow _ b2 Z2) (by simp) (fun C hCκ G=>⟨b2,_,e2,by rw[hCκ];exact hκ2,setRow_heap _ b2 d2 _ e2 _ hh2'',by simp,hlit hz2⟩)
   obtain⟨v,hv,hle⟩:=hres ((δ.setOb i1 (some (.box (Z1.toList.map fun u=> .pv (.lit u))))).setOb i2 (some (.box (Z2.toList.map fun u=> .pv (.lit u))))) (by exact hg1) (by exact hg2) (by rw[ob_setOb,if_neg (Ne.symm hne),ob_setOb,if_pos rfl]) (by rw[ob_setOb,if_pos rfl])
   exact htake r5 hv hle
 |_=>exact hq.elim
theorem FnW.enterR {T:World→Prop} (hst:Stay T) {f:FuncId} {fn:Func} {c:Code} {n:Nat} {args:List AV} {r:AV} (hf:P.funcs[f]? =some fn) (hb:fn.body=some c) (hn:fn.ntmps=n) (hna:Nat.ble args.length n=true)
  (hna':Nat.ble n HS=true) (he:(fn.name== "runtime.NumGoroutine")=false)
  (h:∀(g:Ghost) (N:Nat→Prop) (w0:World),g.ro=none→g.wt=none→g.mks=[]→g.B=w0.heap.size→g.w0=w0→g.N0=N→(∀b,w0.heap.size≤b→N b)→TB T g→AW0 P g c (bodyPostM Fence.wide 0 P fn (fun e w'=>∃v,e=.returned v∧RA (pcx N) w' v r∧Below w0.heap.size w0 w')) (start n args)):FnW T P f args r:=by
 refine⟨fun vals w=>by simp [callFunc,hf,hb];simpa using he,fun N w vals hTw hN hs hargs=>?_⟩
 have hle:args.length≤n:=by simpa using hna
 have hnH:n≤HS:=by simpa using hna'
 let g:Ghost:={B:=w.heap.size,w0:=w,N0:=N,held:=fun _=>undef,ro:=none,mks:=[],wt:=none,fr:=fun _=>False,w1:=w}
 have hnl:∀i,¬(start n args).live i:=fun i ⟨o,h⟩=>by cases h
 refine callsIn_wide.1 (callsIn_of_wp_marks (n:=0) hf hb trivial (h g N w rfl rfl rfl rfl rfl rfl hN (fun w' hb=>hst w w' hTw hb) (fun _=>none) _ w rfl ?_))
 exact
  {n:=by simp [hn,start];omega
   dfr:=⟨[],rfl,by simp [g],by simp [g]⟩
   env:=fun j=>by
    by_cases hj:j<args.length
    ·have h1:(start n args).get j=args[j]:=look_enum args 0 j _ (Nat.zero_le _) (by simp [hj])
     have h2:g.val {tmps:=vals++Array.replicate (fn.ntmps - vals.size) undef,defers:=[]} j=vals[j]'(by omega):=by
      unfold Ghost.val
      rw[if_pos (by omega)]
      simp [Array.getD_eq_getD_getElem?,Array.getElem?_append,hs,hj]
     rw[h1,h2]
     exact(hargs j _ _ (Array.getElem?_eq_getElem (by omega)) (List.getElem?_eq_getElem hj)).of_pcx _ fun b _ h=>⟨h,fun i hi=>absurd hi (hnl i)⟩
    ·have h1:(start n args).get j=.any:=look_enum_out args 0 j (by omega)
     rw[h1];exact .any _
   obj:=fun i o h=>by cases h
   inj:=fun i j b h=>absurd h (hnl i)
   lo:=fun i b h=>absurd h (hnl i)
   nx:=fun i h=>absurd h (hnl i)
   wt:=fun k hk=>by cases hk
   below:=Below.refl _ _
   hB:=Nat.le_refl _
   N0:=fun b h _=>hN b h
   fr:=fun b hb=>hb.elim
   mkf:=fun d hd=>by cases hd}
end Go.Ab
/- Eight values laid out. -/
namespace Go.Ab
open Go Go.RowKit
variable {q:Md} {P:Program} {g:Ghost} {δ:DS} {κ:Nat→Option Nat} {a:Act} {w:World}
variable {ops:Array Oper} {rest:List Oper} {Q:Exit→DS→Prop} {dst:Option Nat} {ty:TypeId} {pos:String} {af:Array Edge}
end Go.Ab
/- Maps from whole numbers to slices:elder entries told whole,the last one over a row of the walk's own. -/
namespace Go.Ab
open Go Go.RowKit
variable {q:Md} {P:Program} {g:Ghost} {δ:DS} {κ:Nat→Option Nat} {a:Act} {w:World}
variable {gd:Option (Tmp×Bool)} {ops:Array Oper} {rest:List Oper} {Q:Exit→DS→Prop} {dst:Option Nat} {ty:TypeId} {pos:String} {af:Array Edge}
def rowsM (D:List (Int×List Int)):List (Int×AV):=D.map fun p=>(p.1,.pv (ints p.2))
theorem rows_ids (D:List (Int×List Int)) (A B:Nat→Bool):∀p∈mpI (rowsM D),p.2.ids A B=true:=by
 intro p hp
 simp only[mpI,rowsM,List.map_map,List.mem_map] at hp
 obtain⟨x,_,rfl⟩:=hp
 rfl
theorem WO.rows {δ δ':DS} {i:Nat} {D:List (Int×List Int)} (h:δ.ob i=some (.mp (mpI (rowsM D)))):WO δ δ' i (.mp (mpI (rowsM D))):=.mp h (rows_ids D _ _)
theorem AW.frzI (i:Nat) {c:Code} (hi:δ.ob i=some .row) (hK:AW P g c Q (frzD δ i)):AW P g c Q δ:=by
 intro κ a w r
 obtain⟨κ',r'⟩:=r.freeze hi
 exact hK κ' a w r'
section
variable {k:Wt} {late:List Nat} {l:List Oper} {dn:List Nat} {QD:Exit→DS→Prop}
end
end Go.Ab
/- The last bit of a number turned;objects renumbered ahead of a region. -/
namespace Go.Ab
open Go Go.RowKit
variable {P:Program} {g:Ghost} {δ:DS} {q:Md}
variable {ops:Array Oper} {rest:List Oper} {Q:Exit→DS→Prop} {dst:Option Nat} {ty:TypeId} {pos:String} {af:Array Edge}
end Go.Ab
/- Any number of values of one cell laid out. -/
namespace Go.Ab
open Go Go.RowKit
variable {q:Md} {P:Program} {g:Ghost} {δ:DS} {κ:Nat→Option Nat} {a:Act} {w:World}
variable {ops:Array Oper} {rest:List Oper} {Q:Exit→DS→Prop} {dst:Option Nat} {ty:TypeId} {pos:String} {af:Array Edge}
inductive PvS (δ:DS):Nat→List (Nat×Operand)→List PV→Prop
 |nil {i:Nat}:PvS δ i [] []
 |cons {i:Nat} {x:Operand} {p:PV} {ps:List PV} {r:List (Nat×Operand)} (h:δ.ev x=.pv p) (h1:AV.one (.pv p)=true) (ho:okT x=true) (hr:PvS δ (i+1) r ps):PvS δ i ((i,x)::r) (p::ps)
theorem PvS.fill {δ:DS} {i:Nat} {parts:List (Nat×Operand)} {ps:List PV} (h:PvS δ i parts ps):∀cells:List AV,cells.length=i+ps.length→fillA (fun i=>some (i*1,1)) cells (parts.map fun p=>(p.1,δ.ev p.2))=some (cells.take i++ps.map .pv):=by
 induction h with
 |nil=>
  intro cells hc
  simp [fillA]
  rw[List.take_of_length_le]
  simp at hc;omega
 | @cons i x p ps r h h1 ho hr ih=>
  intro cells hc
  simp only[List.length_cons] at hc
  have hle:i<cells.length:=by omega
  show(match some (i*1,1) with
   |none=>none
   |some (off,size)=>bif Nat.beq (δ.ev x).cellsOf.length size && Nat.ble (off+(δ.ev x).cellsOf.length) cells.length && AV.ones (δ.ev x).cellsOf then fillA _ (setsA cells off (δ.ev x).cellsOf) _ else none)=_
  rw[h]
  have hb2:Nat.ble (i*1+1) cells.length=true:=by rw[Nat.ble_eq];omega
  have hb3:AV.ones [.pv p]=true:=by simp [AV.ones];exact h1
  simp only[AV.cellsOf,List.length_cons,List.length_nil,Nat.zero_add,show Nat.beq 1 1=true from rfl,hb2,hb3,Bool.and_self,cond_true]
  rw[show setsA cells (i*1) [.pv p]=cells.set i (.pv p) by rw[Nat.mul_one];rfl,ih _ (by rw[List.length_set];omega)]
  have e1:(cells.set i (.pv p)).take (i+1)=cells.take i++ [.pv p]:=by
   rw[List.take_succ_eq_append_getElem (by rw[List.length_set];omega),List.getElem_set_self]
   congr 1
   rw[List.take_set,List.set_eq_of_length_le (by rw[List.length_take];omega)]
  rw[e1];simp
theorem PvS.ok {δ:DS} {i:Nat} {parts:List (Nat×Operand)} {ps:List PV} (h:PvS δ i parts ps):parts.all (fun p=>okT p.2)=true:=by
 induction h with
 |nil=>rfl
 |cons h h1 ho hr ih=>simp [ho,ih]
theorem flat1:∀ps:List PV,ps=(ps.map fun p=>[p]).flatten
 |[]=>rfl
 |p::ps=>by rw[List.map_cons,List.flatten_cons,← flat1 ps];rfl
theorem AOps.bsS {t e:TypeId} {len:Nat} {parts:List (Nat×Operand)} {ps:List PV} {z:Value} (ht:P.underlying t=some (.slice e)) (hi:(P.info? e).map (fun i=>(i.size,i.zero))=some (1,some z)) (hzk:Nat.beq z.cells.size 1=true)
  (hlen:Nat.ble (len*1) 16777216=true) (h1:z.cells.toList.all (·.oneCell')=true) (hR:PvS δ 0 parts ps) (hn:ps.length=len) (hd:okD δ.n dst=true) (hK:AOps .plain P g ops rest Q ((δ.addOb .row).putd dst (.own δ.nx e 1 (ps.map fun p=>[p])))):
  AOps .plain P g ops (⟨dst,.buildSlice t len parts.toArray,ty,pos,af,none⟩::rest) Q δ:=by
 have hf:=hR.fill (zerosA z (len*1)) (by simp [zerosA,hn])
 rw[List.take_zero,List.nil_append] at hf
 have:=Eff.buildSlice (P:=P) (g:=g) (δ:=δ) (gd:=none) (dst:=dst) (ty:=ty) (pos:=pos) (af:=af) ht hi hzk rfl hlen h1 hR.ok hf (by simp [AV.isPv]) hd
 have e2:(ps.map AV.pv)=((ps.map fun p=>[p]).flatten.map .pv):=by
  congr 1
  exact flat1 ps
 rw[e2,show len=(ps.map fun p=>[p]).length by rw[List.length_map,hn],chunk_flat 1 _ (by simp)] at this
 rw[show len=(ps.map fun p=>[p]).length by rw[List.length_map,hn]]
 exact AOps.eff rfl rfl this hK
theorem AOps.neqU {x y:Operand} {t t':TypeId} {m n:Int} {k:IntKind} (hx:δ.ev x=.pv (.lit (.int k m))) (hy:δ.ev y=.pv (.lit (.int k n))) (ho:okT x=true) (ho':okT y=true) (hd:okD δ.n dst=true)
  (hK:AOps q P g ops rest Q (δ.putd dst (litB (decide (¬m=n))))):AOps q P g ops (⟨dst,.binOp .neq t x y t',ty,pos,af,none⟩::rest) Q δ:=
 AOps.bin hx hy ho ho' (run_int _ _ _ _ _ _ _ _ (by simp) (by simp only[Op.intCmp,bne_dec];rfl)) hd hK
theorem AOps.index_strI {x y:Operand} {t:TypeId} {s:ByteArray} {i:Int} (hx:δ.ev x=litS s) (hy:δ.ev y=litI i) (ht:P.underlying t=some .string) (ho:okT x=true) (ho':okT y=true) (hd:okD δ.n dst=true) (h0:0≤i) (hn:i<s.size)
  (hK:AOps q P g ops rest Q (δ.putd dst (.pv (.lit (.int .u8 (byteAt s i.toNat)))))):AOps q P g ops (⟨dst,.index t x y,ty,pos,af,none⟩::rest) Q δ:=by
 obtain⟨n,rfl⟩:∃n:Nat,i=n:=⟨i.toNat,by omega⟩
 rw[Int.toNat_natCast] at hK
 exact AOps.index_str hx hy ht ho ho' hd (by omega) hK
theorem WV.strE {δ':DS} {s s':ByteArray} (h:s=s'):WV δ δ' (.pv (.lit (.string s))) (.pv (.lit (.string s'))):=.eq (by rw[h]) rfl
theorem AOps.slice_strFT {x y z:Operand} {t:TypeId} {s:ByteArray} {n m:Int} (hx:δ.ev x=litS s) (hy:δ.ev y=litI n) (hz:δ.ev z=litI m) (ht:P.underlying t=some .string) (ho:okT x=true) (ho':okT y=true) (hoz:okT z=true) (hd:okD δ.n dst=true) (h0:0≤n) (hn:n≤m) (hm:m≤s.size)
  (hK:AOps q P g ops rest Q (δ.putd dst (litS (s.extract n.toNat m.toNat)))):AOps q P g ops (⟨dst,.slice t x (some y) (some z) none,ty,pos,af,none⟩::rest) Q δ:=
 AOps.valw _ hd (fun κ a w r=>⟨_,fun w' _=>by
  have h:=r.lit hx ho
  have h2:=r.lit hy ho'
  have h4:=r.lit hz hoz
  have h3:=run_slice_string_if (P:=P) w' t s .i64 .i64 n m ht
  rw[if_pos ⟨by omega,hm⟩,if_pos ⟨h0,hn⟩] at h3
  simp only[execOp,h,h2,h4,Option.map_none,Option.map_some,Sem.run_bind,run_sliceAt_string w' t _ _ _ _ ht,h3,Result.andThen_ok]
  rfl,.pv (.lit _)⟩) hK
end Go.Ab
/- A number turned into a byte;a row of one byte turned into a string. -/
namespace Go.Ab
open Go Go.RowKit
variable {P:Program} {g:Ghost} {δ:DS} {q:Md}
variable {ops:Array Oper} {rest:List Oper} {Q:Exit→DS→Prop} {dst:Option Nat} {ty:TypeId} {pos:String} {af:Array Edge}
theorem AOps.convU8 {x:Operand} {s t:TypeId} {ks:IntKind} {d:TypeDesc} {m:Int} (hx:δ.ev x=.pv (.lit (.int ks m))) (hs:P.underlying s=some d) (ht:P.underlying t=some (.int .u8)) (ho:okT x=true) (hd:okD δ.n dst=true)
  (hb:0≤m∧m≤255) (hK:AOps q P g ops rest Q (δ.putd dst (.pv (.lit (.int .u8 m))))):AOps q P g ops (⟨dst,.convert s t x,ty,pos,af,none⟩::rest) Q δ:=
 AOps.conv hx hs ht ho hd (by
  have e:IntKind.u8.wrap m=m:=by
   simp [IntKind.wrap,IntKind.bits,IntKind.signed]
   omega
  rw[e];exact hK)
theorem AOps.byteS {x:Operand} {s t e:TypeId} {m:Int} (hx:δ.ev x=.pv (.slice 1 [[.lit (.int .u8 m)]])) (hs:P.underlying s=some (.slice e)) (he:P.underlying e=some (.int .u8)) (ht:P.underlying t=some .string) (ho:okT x=true) (hd:okD δ.n dst=true)
  (hK:AOps q P g ops rest Q (δ.putd dst (litS ⟨#[UInt8.ofNat m.toNat]⟩))):AOps q P g ops (⟨dst,.convert s t x,ty,pos,af,none⟩::rest) Q δ:=
 AOps.valw _ hd (fun κ a w r=>by
  have h1:=(r.ra hx ho).pv_inv
  generalize hv:a.eval x=v at h1
  cases h1 with
  | @slice av len cap k els b off vs hl hcap hb ha hk hc hr=>
   obtain⟨rfl,hN,hlt⟩:=ha (by simp)
   have hl:1=len:=hl
   subst hl
   have h2:=(hc 0 0 _ rfl).1
   have h3:=hr 0 0 _ rfl
   generalize vs 0 0=u at h2 h3
   cases h3
   simp only[Nat.zero_mul,Nat.add_zero] at h2
   refine⟨_,fun w' hw'=>?_,.pv (.lit _)⟩
   have h4:=(hw'.cell (ad:=⟨b,off,none⟩) hlt (fun i hi=>hN.2 i (DS.lr_live hi))).trans h2
   have h5:=run_convert_bytes_arg (P:=P) w' s e hs he b off 1 cap [m] rfl (fun i hi=>by
                                                 obtain rfl:i=0:=by omega
                                                 exact h4) t ht
   simp only[execOp,hv,Sem.run_bind,h5,Result.andThen_ok]
   rfl) hK
end Go.Ab
