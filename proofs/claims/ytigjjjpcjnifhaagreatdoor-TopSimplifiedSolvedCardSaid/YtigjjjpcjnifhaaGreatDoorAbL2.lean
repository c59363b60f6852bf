/- Laws in the forms that the walk's list of steps tries. -/
import Derived.Test.YtigjjjpcjnifhaaGreatDoorAbL1
import Derived.OrdersIn
import Derived.MapKept
import Derived.Maps.RangeRun
import Derived.ProofKit
import Derived.OpenShut
import Derived.ChangeOld
import Derived.SizedLaws
import Derived.JoinedCond
import Derived.Deep.CondSized
import Derived.ChangeKeysEq
import Derived.Laws.StructEq
import Derived.WalkSpells
import Derived.Lib.SliceRun
import Derived.Laws.Small
import Derived.Scope
set_option linter.unusedSimpArgs false
set_option linter.unusedVariables false
open Nat renaming blt→aY,beq→aL,ble→bz,le_refl→aP,zero_le→bm,sub_zero→cg,add_sub_cancel→cm,eq_of_beq_eq_true→aM,lt_or_ge→cv,mul_le_mul_right→bS,mul_comm→bR,mul_one→cI
open List renaming map_cons→bB,map_nil→b8,getElem?_eq_some_iff→aW,cons_append→bu,mem_cons→bw,getElem?_eq_getElem→a8,getElem?_append_left→aT,getElem?_append_right→aV,nodup_append→cp,mem_append→bX,mem_singleton→cq,zip_cons_cons→cr,foldl_cons→ct,all_eq_true→bD,getElem?_map→a7,mem_of_getElem?→aU,map_toArray→bp,not_mem_nil→cy,eq_nil_of_length_eq_zero→bj,mem_map→bx,drop_zero→cC,toList_toArray→cD,getElem?_eq_none→cE,getElem?_of_mem→bA,exists_cons_of_ne_nil→cF,take_of_length_le→cG,replicate→bZ,length_replicate→cM,length_set→cN,mem_or_eq_of_mem_set→cO,getElem?_set→bH
open Array renaming getElem?_eq_getElem→aN,replicate→ca,size_append→cb,size_replicate→cd,getD_eq_getD_getElem?→aR,getElem?_append_left→cj,getElem?_append_right→ck,getElem?_setIfInBounds→aS,getElem?_eq_none→cw,getElem?_push→cA,getElem?_eq_some_iff→aO,getElem?_modify→cB,getElem?_toList→bC,range→bM,eq_empty_of_size_eq_zero→cP
open Int renaming toNat_of_nonneg→b9,natCast_mul→cH,lt_irrefl→cL
open Bool renaming and_eq_true→aZ,false_eq_true→cu,not_eq_true'→cz,or_false→cJ,false_or→cK
open Option renaming map_eq_some_iff→bg,map_some→br,bind_some→bI
namespace Go.Ab
open Go Go.RowKit
variable {q:Md} {P:Program} {g:eR} {δ:DS} {κ:Kp} {a:Act} {w:World}
variable {ops:Array Oper} {rest:List Oper} {Q:Exit→DS→Prop} {dst:Option Nat} {ty:TypeId} {pos:String} {af:Array Edge}
theorem a_.N1 {op:Op} {gj d:Nat} {p:Prop} {_:Decidable p} {o':Oper} (ho:ops[gj]? =some o') (hd:o'.dst=some d) (u_:aY d HS=true) (vu:aY d δ.n=true) (hb:δ.get d=fh (decide p)) (vL:fO δ.n dst=true)
  (hy:p→a_ q P g ops (⟨dst,op,ty,pos,af,none⟩::rest) Q δ) (hn:¬p→a_ q P g ops rest Q (δ.eS dst (.pv (.lit undef)))):a_ q P g ops (⟨dst,op,ty,pos,af,some (gj,true)⟩::rest) Q δ:=
 a_.guard ho hd u_ vu hb vL (fun h=>hy (of_decide_eq_true h)) (fun h=>hn (of_decide_eq_false h))
theorem a_.ID {x:Operand} {t:TypeId} {p:Prop} {_:Decidable p} (hx:δ.ev x=fh (decide p)) (ho:ff x=true) (hd:fO δ.n dst=true) (hK:a_ q P g ops rest Q (δ.eS dst (fh (decide (¬p))))):
  a_ q P g ops (⟨dst,.unOp .not t x,ty,pos,af,none⟩::rest) Q δ:=a_.not hx ho hd (by
                                                  have:(!decide p)=decide (¬p):=by simp
                                                  rw[this];exact hK)
theorem a_.SU {x y z:Operand} {p:Prop} {_:Decidable p} {v:AV} (hx:δ.ev x=fh (decide p)) (hy:δ.ev y=v) (hp:p) (ho:ff x=true) (kv:ff y=true) (oA:ff z=true) (hd:fO δ.n dst=true)
  (hK:a_ q P g ops rest Q (δ.eS dst v)):a_ q P g ops (⟨dst,.pick x y z,ty,pos,af,none⟩::rest) Q δ:=
 a_.pick hx ho kv oA (fun _=>hy) (fun h=>absurd hp (of_decide_eq_false h)) hd hK
theorem a_.Sc {x y z:Operand} {p:Prop} {_:Decidable p} {v:AV} (hx:δ.ev x=fh (decide p)) (hz:δ.ev z=v) (hp:¬p) (ho:ff x=true) (kv:ff y=true) (oA:ff z=true) (hd:fO δ.n dst=true)
  (hK:a_ q P g ops rest Q (δ.eS dst v)):a_ q P g ops (⟨dst,.pick x y z,ty,pos,af,none⟩::rest) Q δ:=
 a_.pick hx ho kv oA (fun h=>absurd (of_decide_eq_true h) hp) (fun _=>hz) hd hK
theorem AW.mu {c:Operand} {x y:Code} (ho:ff c=true) (hc:δ.ev c=fh true) (h1:AW P g x Q δ):AW P g (.cond c x y) Q δ:=AW.Hc rfl ho hc h1
theorem AW.jT {c:Operand} {x y:Code} (ho:ff c=true) (hc:δ.ev c=fh false) (h1:AW P g y Q δ):AW P g (.cond c x y) Q δ:=AW.IA rfl ho hc h1
theorem a_.A4 {op:Op} {gj d:Nat} {want b:Bool} {o':Oper} (ho:ops[gj]? =some o') (hd:o'.dst=some d) (u_:aY d HS=true) (vu:aY d δ.n=true) (hb:δ.get d=fh b) (x7:b=want) (vL:fO δ.n dst=true)
  (hy:a_ q P g ops (⟨dst,op,ty,pos,af,none⟩::rest) Q δ):a_ q P g ops (⟨dst,op,ty,pos,af,some (gj,want)⟩::rest) Q δ:=
 a_.guard ho hd u_ vu hb vL (fun _=>hy) (fun h=>by subst x7;cases b<;>simp at h)
theorem a_.gg {op:Op} {gj d:Nat} {want b:Bool} {o':Oper} (ho:ops[gj]? =some o') (hd:o'.dst=some d) (u_:aY d HS=true) (vu:aY d δ.n=true) (hb:δ.get d=fh b) (x7:b=!want) (vL:fO δ.n dst=true)
  (hn:a_ q P g ops rest Q (δ.eS dst (.pv (.lit undef)))):a_ q P g ops (⟨dst,op,ty,pos,af,some (gj,want)⟩::rest) Q δ:=
 a_.guard ho hd u_ vu hb vL (fun h=>by subst h;cases b<;>simp at x7) (fun _=>hn)
end Go.Ab
namespace Go.Ab
variable {P:Program} {g:eR} {δ:DS} {Q:Exit→DS→Prop}
theorem AW.P9 {c:Operand} {x y:Code} {p:Prop} {_:Decidable p} (ho:ff c=true) (hc:δ.ev c=fh (decide p)) (hp:p) (h1:AW P g x Q δ):AW P g (.cond c x y) Q δ:=AW.Hc (decide_eq_true hp) ho hc h1
theorem AW.QK {c:Operand} {x y:Code} {p:Prop} {_:Decidable p} (ho:ff c=true) (hc:δ.ev c=fh (decide p)) (hp:¬p) (h1:AW P g y Q δ):AW P g (.cond c x y) Q δ:=AW.IA (decide_eq_false hp) ho hc h1
end Go.Ab
namespace Go.Ab
section
variable {q:Md} {P:Program} {g:eR} {δ:DS} {ops:Array Oper} {rest:List Oper} {Q:Exit→DS→Prop} {dst:Option Nat} {ty:TypeId} {pos:String} {af:Array Edge}
variable {op:Op} {gj d:Nat} {p:Prop} {inst:Decidable p} {o':Oper} (ho:ops[gj]? =some o') (hd:o'.dst=some d) (hb:δ.get d=fh (@decide p inst)) (u_:aY d HS=true) (vu:aY d δ.n=true) (vL:fO δ.n dst=true)
include ho hd hb u_ vu vL
theorem a_.Kk (hp:p) (hy:a_ q P g ops (⟨dst,op,ty,pos,af,none⟩::rest) Q δ):a_ q P g ops (⟨dst,op,ty,pos,af,some (gj,true)⟩::rest) Q δ:=
 a_.guard ho hd u_ vu hb vL (fun _=>hy) (fun h=>absurd hp (of_decide_eq_false h))
theorem a_.oo (hp:¬p) (hn:a_ q P g ops rest Q (δ.eS dst (.pv (.lit undef)))):a_ q P g ops (⟨dst,op,ty,pos,af,some (gj,true)⟩::rest) Q δ:=
 a_.guard ho hd u_ vu hb vL (fun h=>absurd (of_decide_eq_true h) hp) (fun _=>hn)
theorem a_.L6 (hp:¬p) (hy:a_ q P g ops (⟨dst,op,ty,pos,af,none⟩::rest) Q δ):a_ q P g ops (⟨dst,op,ty,pos,af,some (gj,false)⟩::rest) Q δ:=
 a_.guard ho hd u_ vu hb vL (fun _=>hy) (fun h=>absurd (of_decide_eq_true h) hp)
theorem a_.jV (hp:p) (hn:a_ q P g ops rest Q (δ.eS dst (.pv (.lit undef)))):a_ q P g ops (⟨dst,op,ty,pos,af,some (gj,false)⟩::rest) Q δ:=
 a_.guard ho hd u_ vu hb vL (fun h=>absurd hp (of_decide_eq_false h)) (fun _=>hn)
end
end Go.Ab
namespace Go.Ab
section
variable {q:Md} {P:Program} {g:eR} {δ:DS} {ops:Array Oper} {rest:List Oper} {Q:Exit→DS→Prop} {dst:Option Nat} {ty:TypeId} {pos:String} {af:Array Edge} {x:Operand}
theorem a_.iu {p:PV} (hx:δ.ev x=.pv p) (ho:ff x=true) (hd:fO δ.n dst=true) (hK:a_ q P g ops rest Q (δ.eS dst (.pv p))):a_ q P g ops (⟨dst,.move x,ty,pos,af,none⟩::rest) Q δ:=a_.move hx ho hd hK
theorem a_.FG {p:PV} (hx:δ.ev x=.pv p) (ho:ff x=true) (hd:fO δ.n dst=true) (hK:a_ q P g ops rest Q (δ.eS dst (.pv p))):a_ q P g ops (⟨dst,.assign x,ty,pos,af,none⟩::rest) Q δ:=a_.assign hx ho hd hK
theorem a_.fT {i e k e7} (hx:δ.ev x=.own i e k e7) (ho:ff x=true) (hd:fO δ.n dst=true) (hK:a_ q P g ops rest Q (δ.eS dst (.own i e k e7))):a_ q P g ops (⟨dst,.move x,ty,pos,af,none⟩::rest) Q δ:=a_.move hx ho hd hK
theorem a_.oy {i e k e7} (hx:δ.ev x=.own i e k e7) (ho:ff x=true) (hd:fO δ.n dst=true) (hK:a_ q P g ops rest Q (δ.eS dst (.own i e k e7))):a_ q P g ops (⟨dst,.assign x,ty,pos,af,none⟩::rest) Q δ:=a_.assign hx ho hd hK
theorem a_.fH {i o} (hx:δ.ev x=.ptr i o) (ho:ff x=true) (hd:fO δ.n dst=true) (hK:a_ q P g ops rest Q (δ.eS dst (.ptr i o))):a_ q P g ops (⟨dst,.move x,ty,pos,af,none⟩::rest) Q δ:=a_.move hx ho hd hK
theorem a_.oQ {i o} (hx:δ.ev x=.ptr i o) (ho:ff x=true) (hd:fO δ.n dst=true) (hK:a_ q P g ops rest Q (δ.eS dst (.ptr i o))):a_ q P g ops (⟨dst,.assign x,ty,pos,af,none⟩::rest) Q δ:=a_.assign hx ho hd hK
theorem a_.pR {l} (hx:δ.ev x=.gX l) (ho:ff x=true) (hd:fO δ.n dst=true) (hK:a_ q P g ops rest Q (δ.eS dst (.gX l))):a_ q P g ops (⟨dst,.move x,ty,pos,af,none⟩::rest) Q δ:=a_.move hx ho hd hK
end
end Go.Ab
namespace Go.Ab
section
variable {q:Md} {P:Program} {g:eR} {δ:DS} {ops:Array Oper} {rest:List Oper} {Q:Exit→DS→Prop} {dst:Option Nat} {ty:TypeId} {pos:String} {af:Array Edge}
theorem a_.jz {x y z:Operand} {v:PV} (hx:δ.ev x=fh true) (hy:δ.ev y=.pv v) (ho:ff x=true) (kv:ff y=true) (oA:ff z=true) (hd:fO δ.n dst=true)
  (hK:a_ q P g ops rest Q (δ.eS dst (.pv v))):a_ q P g ops (⟨dst,.pick x y z,ty,pos,af,none⟩::rest) Q δ:=a_.pick hx ho kv oA (fun _=>hy) (fun h=>by cases h) hd hK
theorem a_.gO {x y z:Operand} {v:PV} (hx:δ.ev x=fh false) (hz:δ.ev z=.pv v) (ho:ff x=true) (kv:ff y=true) (oA:ff z=true) (hd:fO δ.n dst=true)
  (hK:a_ q P g ops rest Q (δ.eS dst (.pv v))):a_ q P g ops (⟨dst,.pick x y z,ty,pos,af,none⟩::rest) Q δ:=a_.pick hx ho kv oA (fun h=>by cases h) (fun _=>hz) hd hK
theorem a_.Hy {x y z:Operand} {p:Prop} {_:Decidable p} {v:PV} (hx:δ.ev x=fh (decide p)) (hy:δ.ev y=.pv v) (hp:p) (ho:ff x=true) (kv:ff y=true) (oA:ff z=true) (hd:fO δ.n dst=true)
  (hK:a_ q P g ops rest Q (δ.eS dst (.pv v))):a_ q P g ops (⟨dst,.pick x y z,ty,pos,af,none⟩::rest) Q δ:=a_.SU hx hy hp ho kv oA hd hK
theorem a_.H9 {x y z:Operand} {p:Prop} {_:Decidable p} {v:PV} (hx:δ.ev x=fh (decide p)) (hz:δ.ev z=.pv v) (hp:¬p) (ho:ff x=true) (kv:ff y=true) (oA:ff z=true) (hd:fO δ.n dst=true)
  (hK:a_ q P g ops rest Q (δ.eS dst (.pv v))):a_ q P g ops (⟨dst,.pick x y z,ty,pos,af,none⟩::rest) Q δ:=a_.Sc hx hz hp ho kv oA hd hK
end
end Go.Ab
namespace Go.Ab
section
variable {P:Program} {g:eR} {δ:DS} {ops:Array Oper} {rest:List Oper} {Q:Exit→DS→Prop} {dst:Option Nat} {ty:TypeId} {pos:String} {af:Array Edge}
theorem iO.PI {gd:Option (Tmp×Bool)} {t e:TypeId} {z:Value} (ht:P.underlying t=some (.slice e)) (hi:(P.info? e).map (fun i=>(i.size,i.zero))=some (1,some z)) (hz:z.cells.toList.all (·.oneCell')=true) (l7:aL z.cells.size 1=true) (hd:fO δ.n dst=true):iO P g ⟨dst,.buildSlice t 0 [].toArray,ty,pos,af,gd⟩ δ ((δ.fK .row).eS dst (.own δ.nx e 1 [])):=by
 have hf:jq (fun i=>some (i*1,1)) (jQ z (0*1)) (([]:List (Nat×Operand)).map fun p=>(p.1,δ.ev p.2))=some []:=by
  simp [jq,ns,AV.cellsOf,AV.nj,jQ,bB,b8]<;>rfl
 exact iO.buildSlice (len:=0) (k:=1) (parts:=[]) (cells:=[]) ht hi l7 rfl rfl hz (by simp []) hf (by simp [AV.zf]) hd
theorem a_.PI {t e:TypeId} {z:Value} (ht:P.underlying t=some (.slice e)) (hi:(P.info? e).map (fun i=>(i.size,i.zero))=some (1,some z)) (hz:z.cells.toList.all (·.oneCell')=true) (l7:aL z.cells.size 1=true) (hd:fO δ.n dst=true) (hK:a_ .plain P g ops rest Q ((δ.fK .row).eS dst (.own δ.nx e 1 []))):a_ .plain P g ops (⟨dst,.buildSlice t 0 [].toArray,ty,pos,af,none⟩::rest) Q δ:=a_.r_ rfl rfl (iO.PI ht hi hz l7 hd) hK
theorem iO.nr {gd:Option (Tmp×Bool)} {t e:TypeId} {z:Value} {x0:Operand} {p0:PV} (ht:P.underlying t=some (.slice e)) (h0:δ.ev x0=.pv p0) (hi:(P.info? e).map (fun i=>(i.size,i.zero))=some (1,some z)) (hz:z.cells.toList.all (·.oneCell')=true) (l7:aL z.cells.size 1=true) (k0:AV.one (.pv p0)=true) (o0:ff x0=true) (hd:fO δ.n dst=true):iO P g ⟨dst,.buildSlice t 1 [(0,x0)].toArray,ty,pos,af,gd⟩ δ ((δ.fK .row).eS dst (.own δ.nx e 1 [[p0]])):=by
 have hf:jq (fun i=>some (i*1,1)) (jQ z (1*1)) (([(0,x0)]:List (Nat×Operand)).map fun p=>(p.1,δ.ev p.2))=some [.pv p0]:=by
  simp [jq,ns,AV.cellsOf,AV.nj,jQ,h0,k0,bB,b8]<;>rfl
 exact iO.buildSlice (len:=1) (k:=1) (parts:=[(0,x0)]) (cells:=[.pv p0]) ht hi l7 rfl rfl hz (by simp [o0]) hf (by simp [AV.zf]) hd
theorem a_.nr {t e:TypeId} {z:Value} {x0:Operand} {p0:PV} (ht:P.underlying t=some (.slice e)) (h0:δ.ev x0=.pv p0) (hi:(P.info? e).map (fun i=>(i.size,i.zero))=some (1,some z)) (hz:z.cells.toList.all (·.oneCell')=true) (l7:aL z.cells.size 1=true) (k0:AV.one (.pv p0)=true) (o0:ff x0=true) (hd:fO δ.n dst=true) (hK:a_ .plain P g ops rest Q ((δ.fK .row).eS dst (.own δ.nx e 1 [[p0]]))):a_ .plain P g ops (⟨dst,.buildSlice t 1 [(0,x0)].toArray,ty,pos,af,none⟩::rest) Q δ:=a_.r_ rfl rfl (iO.nr ht h0 hi hz l7 k0 o0 hd) hK
theorem iO.V8 {gd:Option (Tmp×Bool)} {t e:TypeId} {z:Value} {x0 x1:Operand} {p0 p1:PV} (ht:P.underlying t=some (.slice e)) (h0:δ.ev x0=.pv p0) (h1:δ.ev x1=.pv p1) (hi:(P.info? e).map (fun i=>(i.size,i.zero))=some (1,some z)) (hz:z.cells.toList.all (·.oneCell')=true) (l7:aL z.cells.size 1=true) (k0:AV.one (.pv p0)=true) (k1:AV.one (.pv p1)=true) (o0:ff x0=true) (o1:ff x1=true) (hd:fO δ.n dst=true):iO P g ⟨dst,.buildSlice t 2 [(0,x0),(1,x1)].toArray,ty,pos,af,gd⟩ δ ((δ.fK .row).eS dst (.own δ.nx e 1 [[p0],[p1]])):=by
 have hf:jq (fun i=>some (i*1,1)) (jQ z (2*1)) (([(0,x0),(1,x1)]:List (Nat×Operand)).map fun p=>(p.1,δ.ev p.2))=some [.pv p0,.pv p1]:=by
  simp [jq,ns,AV.cellsOf,AV.nj,jQ,h0,h1,k0,k1,bB,b8]<;>rfl
 exact iO.buildSlice (len:=2) (k:=1) (parts:=[(0,x0),(1,x1)]) (cells:=[.pv p0,.pv p1]) ht hi l7 rfl rfl hz (by simp [o0,o1]) hf (by simp [AV.zf]) hd
theorem a_.V8 {t e:TypeId} {z:Value} {x0 x1:Operand} {p0 p1:PV} (ht:P.underlying t=some (.slice e)) (h0:δ.ev x0=.pv p0) (h1:δ.ev x1=.pv p1) (hi:(P.info? e).map (fun i=>(i.size,i.zero))=some (1,some z)) (hz:z.cells.toList.all (·.oneCell')=true) (l7:aL z.cells.size 1=true) (k0:AV.one (.pv p0)=true) (k1:AV.one (.pv p1)=true) (o0:ff x0=true) (o1:ff x1=true) (hd:fO δ.n dst=true) (hK:a_ .plain P g ops rest Q ((δ.fK .row).eS dst (.own δ.nx e 1 [[p0],[p1]]))):a_ .plain P g ops (⟨dst,.buildSlice t 2 [(0,x0),(1,x1)].toArray,ty,pos,af,none⟩::rest) Q δ:=a_.r_ rfl rfl (iO.V8 ht h0 h1 hi hz l7 k0 k1 o0 o1 hd) hK
theorem iO.UD {gd:Option (Tmp×Bool)} {t e:TypeId} {z:Value} {x0 x1 x2:Operand} {p0 p1 p2:PV} (ht:P.underlying t=some (.slice e)) (h0:δ.ev x0=.pv p0) (h1:δ.ev x1=.pv p1) (h2:δ.ev x2=.pv p2) (hi:(P.info? e).map (fun i=>(i.size,i.zero))=some (1,some z)) (hz:z.cells.toList.all (·.oneCell')=true) (l7:aL z.cells.size 1=true) (k0:AV.one (.pv p0)=true) (k1:AV.one (.pv p1)=true) (k2:AV.one (.pv p2)=true) (o0:ff x0=true) (o1:ff x1=true) (o2:ff x2=true) (hd:fO δ.n dst=true):iO P g ⟨dst,.buildSlice t 3 [(0,x0),(1,x1),(2,x2)].toArray,ty,pos,af,gd⟩ δ ((δ.fK .row).eS dst (.own δ.nx e 1 [[p0],[p1],[p2]])):=by
 have hf:jq (fun i=>some (i*1,1)) (jQ z (3*1)) (([(0,x0),(1,x1),(2,x2)]:List (Nat×Operand)).map fun p=>(p.1,δ.ev p.2))=some [.pv p0,.pv p1,.pv p2]:=by
  simp [jq,ns,AV.cellsOf,AV.nj,jQ,h0,h1,h2,k0,k1,k2,bB,b8]<;>rfl
 exact iO.buildSlice (len:=3) (k:=1) (parts:=[(0,x0),(1,x1),(2,x2)]) (cells:=[.pv p0,.pv p1,.pv p2]) ht hi l7 rfl rfl hz (by simp [o0,o1,o2]) hf (by simp [AV.zf]) hd
theorem a_.UD {t e:TypeId} {z:Value} {x0 x1 x2:Operand} {p0 p1 p2:PV} (ht:P.underlying t=some (.slice e)) (h0:δ.ev x0=.pv p0) (h1:δ.ev x1=.pv p1) (h2:δ.ev x2=.pv p2) (hi:(P.info? e).map (fun i=>(i.size,i.zero))=some (1,some z)) (hz:z.cells.toList.all (·.oneCell')=true) (l7:aL z.cells.size 1=true) (k0:AV.one (.pv p0)=true) (k1:AV.one (.pv p1)=true) (k2:AV.one (.pv p2)=true) (o0:ff x0=true) (o1:ff x1=true) (o2:ff x2=true) (hd:fO δ.n dst=true) (hK:a_ .plain P g ops rest Q ((δ.fK .row).eS dst (.own δ.nx e 1 [[p0],[p1],[p2]]))):a_ .plain P g ops (⟨dst,.buildSlice t 3 [(0,x0),(1,x1),(2,x2)].toArray,ty,pos,af,none⟩::rest) Q δ:=a_.r_ rfl rfl (iO.UD ht h0 h1 h2 hi hz l7 k0 k1 k2 o0 o1 o2 hd) hK
theorem iO.Us {gd:Option (Tmp×Bool)} {t e:TypeId} {z:Value} {x0 x1 x2 x3:Operand} {p0 p1 p2 p3:PV} (ht:P.underlying t=some (.slice e)) (h0:δ.ev x0=.pv p0) (h1:δ.ev x1=.pv p1) (h2:δ.ev x2=.pv p2) (h3:δ.ev x3=.pv p3) (hi:(P.info? e).map (fun i=>(i.size,i.zero))=some (1,some z)) (hz:z.cells.toList.all (·.oneCell')=true) (l7:aL z.cells.size 1=true) (k0:AV.one (.pv p0)=true) (k1:AV.one (.pv p1)=true) (k2:AV.one (.pv p2)=true) (k3:AV.one (.pv p3)=true) (o0:ff x0=true) (o1:ff x1=true) (o2:ff x2=true) (o3:ff x3=true) (hd:fO δ.n dst=true):iO P g ⟨dst,.buildSlice t 4 [(0,x0),(1,x1),(2,x2),(3,x3)].toArray,ty,pos,af,gd⟩ δ ((δ.fK .row).eS dst (.own δ.nx e 1 [[p0],[p1],[p2],[p3]])):=by
 have hf:jq (fun i=>some (i*1,1)) (jQ z (4*1)) (([(0,x0),(1,x1),(2,x2),(3,x3)]:List (Nat×Operand)).map fun p=>(p.1,δ.ev p.2))=some [.pv p0,.pv p1,.pv p2,.pv p3]:=by
  simp [jq,ns,AV.cellsOf,AV.nj,jQ,h0,h1,h2,h3,k0,k1,k2,k3,bB,b8]<;>rfl
 exact iO.buildSlice (len:=4) (k:=1) (parts:=[(0,x0),(1,x1),(2,x2),(3,x3)]) (cells:=[.pv p0,.pv p1,.pv p2,.pv p3]) ht hi l7 rfl rfl hz (by simp [o0,o1,o2,o3]) hf (by simp [AV.zf]) hd
theorem a_.Us {t e:TypeId} {z:Value} {x0 x1 x2 x3:Operand} {p0 p1 p2 p3:PV} (ht:P.underlying t=some (.slice e)) (h0:δ.ev x0=.pv p0) (h1:δ.ev x1=.pv p1) (h2:δ.ev x2=.pv p2) (h3:δ.ev x3=.pv p3) (hi:(P.info? e).map (fun i=>(i.size,i.zero))=some (1,some z)) (hz:z.cells.toList.all (·.oneCell')=true) (l7:aL z.cells.size 1=true) (k0:AV.one (.pv p0)=true) (k1:AV.one (.pv p1)=true) (k2:AV.one (.pv p2)=true) (k3:AV.one (.pv p3)=true) (o0:ff x0=true) (o1:ff x1=true) (o2:ff x2=true) (o3:ff x3=true) (hd:fO δ.n dst=true) (hK:a_ .plain P g ops rest Q ((δ.fK .row).eS dst (.own δ.nx e 1 [[p0],[p1],[p2],[p3]]))):a_ .plain P g ops (⟨dst,.buildSlice t 4 [(0,x0),(1,x1),(2,x2),(3,x3)].toArray,ty,pos,af,none⟩::rest) Q δ:=a_.r_ rfl rfl (iO.Us ht h0 h1 h2 h3 hi hz l7 k0 k1 k2 k3 o0 o1 o2 o3 hd) hK
theorem xO {n bytes:Nat} (h:bz bytes 64=true) (hl:n≤1000000000000):n*bytes≤140737488355328:=by
 have h':bytes≤64:=by simpa using h
 have:=Nat.mul_le_mul hl h'
 omega
theorem iO.fI {gd:Option (Tmp×Bool)} {s x:Operand} {t e:TypeId} {i k bytes:Nat} {z:Value} {e7 news:List (List PV)} (hs:δ.ev s=.own i e k e7) (hx:qv δ x k news) (hr:δ.ob i=some .row) (ht:P.underlying t=some (.slice e))
  (hi:(P.info? e).map (fun i=>(i.size,i.zero,i.bytes))=some (k,some z,bytes)) (Jk:bz bytes 64=true) (l7:aL z.cells.size k=true) (nE:aY 0 k=true) (ho:ff s=true) (fZ:ff x=true) (hd:fO δ.n dst=true)
  (hl:e7.length+news.length≤1000000000000):iO P g ⟨dst,.call {callee:=.builtin .append,args:= #[s,x],argTypes:= #[t,t]},ty,pos,af,gd⟩ δ ((δ.gG (AV.kill i)).eS dst (.own i e k (e7++news))):=
 iO.append hs hx hr ht hi l7 nE ho fZ hd (xO Jk hl) (by omega)
theorem a_.fI {s x:Operand} {t e:TypeId} {i k bytes:Nat} {z:Value} {e7 news:List (List PV)} (hs:δ.ev s=.own i e k e7) (hx:qv δ x k news) (hr:δ.ob i=some .row) (ht:P.underlying t=some (.slice e))
  (hi:(P.info? e).map (fun i=>(i.size,i.zero,i.bytes))=some (k,some z,bytes)) (Jk:bz bytes 64=true) (l7:aL z.cells.size k=true) (nE:aY 0 k=true) (ho:ff s=true) (fZ:ff x=true) (hd:fO δ.n dst=true)
  (hl:e7.length+news.length≤1000000000000) (hK:a_ .plain P g ops rest Q ((δ.gG (AV.kill i)).eS dst (.own i e k (e7++news)))):
  a_ .plain P g ops (⟨dst,.call {callee:=.builtin .append,args:= #[s,x],argTypes:= #[t,t]},ty,pos,af,none⟩::rest) Q δ:=a_.r_ rfl rfl (iO.fI hs hx hr ht hi Jk l7 nE ho fZ hd hl) hK
end
end Go.Ab
namespace Go.Ab
theorem AW.u6 {P:Program} {g:eR} {δ:DS} {Q:Exit→DS→Prop} {α:Type} {c:Code} (j i:Nat) {k:Nat} {cs:List AV} {f:α→List PV} {l:List α} (h:δ.get j=.agg cs) (hc:cs[i]? =some (.pv (.slice k (l.map f)))) (hK:l.length≤140737488355328→AW P g c Q δ):AW P g c Q δ:=
 AW.fact (fun κ a w r=>by
  have h1:=r.env j
  rw[h] at h1
  generalize hu:g.val a j=u at h1
  cases h1 with
  | @agg vs _ hs hv=>
   have fm:i<vs.size:=by rw[hs];exact(aW.1 hc).1
   obtain⟨_,_,_,h2⟩:=(hv i _ _ (aN fm) hc).k9.tv
   simpa using h2) hK
end Go.Ab
namespace Go.Ab
theorem a_.E5 {q:Md} {P:Program} {g:eR} {δ:DS} {ops:Array Oper} {rest:List Oper} {Q:Exit→DS→Prop} {dst:Option Nat} {ty:TypeId} {pos:String} {af:Array Edge} {x:Operand} {t:TypeId} {i:Nat} {cells:List AV} (hx:δ.ev x=.ptr i 0) (hb:δ.ob i=some (.box cells)) (ht:zu P t cells.length=true) (ho:ff x=true) (hd:fO δ.n dst=true)
  (hK:a_ q P g ops rest Q (δ.eS dst (.agg cells))):a_ q P g ops (⟨dst,.load t x,ty,pos,af,none⟩::rest) Q δ:=
 a_.Eo (n:=cells.length) hx hb ht (by simp) ho hd (by simpa using hK)
end Go.Ab
namespace Go.Ab
section
variable {q:Md} {P:Program} {g:eR} {δ:DS} {ops:Array Oper} {rest:List Oper} {Q:Exit→DS→Prop} {dst:Option Nat} {ty:TypeId} {pos:String} {af:Array Edge}
end
end Go.Ab
namespace Go.Ab
section
variable {q:Md} {P:Program} {g:eR} {δ:DS} {ops:Array Oper} {rest:List Oper} {Q:Exit→DS→Prop} {dst:Option Nat} {ty:TypeId} {pos:String} {af:Array Edge}
theorem a_.CN {α:Type} {x y:Operand} {t e:TypeId} {k:Nat} {m:Int} {f:α→List PV} {l:List α} (hx:δ.ev x=.pv (.slice k (l.map f))) (hy:δ.ev y=eV m)
  (ht:P.underlying t=some (.slice e)) (hk:(P.info? e).map (·.size)=some k) (ho:ff x=true) (fZ:ff y=true) (hd:fO δ.n dst=true) (h0:0≤m) (hn:m.toNat<l.length)
  (hK:a_ q P g ops rest Q (δ.eS dst (.fV (f l[m.toNat])))):a_ q P g ops (⟨dst,.indexAddr t x y,ty,pos,af,none⟩::rest) Q δ:=
 a_.xW (n:=m.toNat) hx (by rw[hy,b9 h0]) hn ht hk ho fZ hd hK
end
end Go.Ab
/- Ranging over a function:the iterator is walked in place,each call of yield walks the loop's body. -/
namespace Go.Ab
open Go Go.RowKit
attribute [local irreducible] HS
variable {P:Program} {g:eR} {δ:DS} {κ:Kp} {a:Act} {w:World}
variable {ops:Array Oper} {rest:List Oper} {Q:Exit→DS→Prop} {dst:Option Nat} {ty:TypeId} {pos:String} {af:Array Edge}
def gK (e:List (Nat×AV)):List (Nat×AV):=e.map fun p=>(p.1+HS,p.2)
def iG:List (Nat×AV)→List (Nat×AV)
 |[]=>[]
 |(i,v)::r=>bif bz HS i then (i - HS,v)::iG r else iG r
def e9:List (Nat×AV)→List (Nat×AV)
 |[]=>[]
 |(i,v)::r=>bif bz HS i && aY i (HS+HS) then (i - HS,v)::e9 r else e9 r
theorem lM:∀(e:List (Nat×AV)) (j:Nat),j<HS→look (gK e) j=.any
 |[],_,_=>rfl
 |(i,v)::r,j,h=>by
  show look ((i+HS,v)::gK r) j=_
  rw[fC,if_neg aJ]
  exact lM r j h
theorem lA:∀(e:List (Nat×AV)) (j:Nat),look (gK e) (j+HS)=look e j
 |[],_=>rfl
 |(i,v)::r,j=>by
  show look ((i+HS,v)::gK r) (j+HS)=_
  rw[fC,fC,lA r j]
  by_cases e:i=j
  ·rw[if_pos aJ,if_pos e]
  ·rw[if_neg aJ,if_neg e]
theorem mn:∀(e:List (Nat×AV)) (j:Nat),look (iG e) j=look e (j+HS)
 |[],_=>rfl
 |(i,v)::r,j=>by
  rw[fC]
  simp only[iG]
  cases h:bz HS i with
  |true=>
   have h':HS≤i:=by simpa using h
   show look ((i - HS,v)::iG r) j=_
   rw[fC,mn r j]
   by_cases e:i=j+HS
   ·rw[if_pos aJ,if_pos e]
   ·rw[if_neg aJ,if_neg e]
  |false=>
   have h':¬HS≤i:=by
                intro hh;have:bz HS i=true:=by simpa using hh
                rw[this] at h;cases h
   show look (iG r) j=_
   rw[mn r j,if_neg aJ]
theorem r7:∀(e:List (Nat×AV)) (j:Nat),look (e9 e) j=if j<HS then look e (j+HS) else .any
 |[],j=>by show AV.any=_;split<;>rfl
 |(i,v)::r,j=>by
  rw[fC]
  simp only[e9]
  cases h:(bz HS i && aY i (HS+HS)) with
  |true=>
   simp only[aZ] at h
   have h1:HS≤i:=by simpa using h.1
   have h2:i<HS+HS:=by simpa using h.2
   show look ((i - HS,v)::e9 r) j=_
   rw[fC,r7 r j]
   by_cases e:i=j+HS
   ·rw[if_pos aJ,if_pos aJ,if_pos e]
   ·rw[if_neg aJ,if_neg e]
  |false=>
   show look (e9 r) j=_
   rw[r7 r j]
   by_cases hj:j<HS
   ·rw[if_pos hj,if_pos hj]
    by_cases e:i=j+HS
    ·exfalso
     have:(bz HS i && aY i (HS+HS))=true:=by simp only[aZ];exact⟨by simpa using (by omega:HS≤i),by simpa using (by omega:i<HS+HS)⟩
     rw[this] at h;cases h
    ·rw[if_neg e]
   ·rw[if_neg hj,if_neg hj]
def D0 (l:Nat) (Q:Exit→DS→Prop) (δ:DS):Option Ob→Prop
 |some (.loop l' _ _ _ _ .ready)=>l'=l∧Q .normal δ
 |some (.loop l' _ _ _ _ (.done .ret))=>l'=l∧Q .ret δ
 |some (.loop l' _ _ _ _ (.done (.exit id)))=>l'=l∧Q (.exit id) δ
 |_=>False
def la (n i:Nat) (δ:DS):DS:={n,env:=iG δ.env,gm:=(match δ.ob i with|some (.loop l tm ps iK body _)=>(i,some (.loop l tm ps iK body .over))|o=>(i,o))::δ.gm,nx:=δ.nx}
def fz (n i l:Nat) (Q:Exit→DS→Prop):Exit→DS→Prop
 |.normal,δ|.ret,δ=>D0 l Q (la n i δ) (δ.ob i)
 |_,_=>False
theorem ir.putObj (w:World) (b:Nat) (o:Obj):ir w (w.putObj b o) (some b):=⟨rfl,rfl,rfl,by simp,fun k _ h=>World.putObj_heap_other (fun e=>h (by rw[e]))⟩
theorem rN (g:eR) (a:Act) (j:Nat):g.val a (j+HS)=g.held (j+HS):=by unfold eR.val;rw[if_neg aJ]
theorem KF {n i l:Nat} {tm ps iK body st} (h:δ.ob i=some (.loop l tm ps iK body st)):∀j,(la n i δ).ob j=if i=j then some (.loop l tm ps iK body .over) else δ.ob j:=by
 intro j
 unfold la
 rw[h]
 exact fA _ _ _ _
theorem Rel.back {g':eR} {a2 a':Act} {w w':World} {n i b l:Nat} {tm ps iK body st} {r:Loop} (r2:Rel g' δ κ a2 w) (i_:g.wt=none) (Sy:g'.wt=none) (hg:g'.B=g.B∧g'.w0=g.w0∧g'.N0=g.N0∧g'.fr=g.fr∧g'.w1=g.w1) (kj:∀j,g'.held (j+HS)=g.val a' j) (hn:a'.tmps.size=n)
  (ho:δ.ob i=some (.loop l tm ps iK body st)) (hκ:κ i=some b) (hr:w.heap[b]? =some (.loop r)) (r':Loop) (hk:r'.tmps=r.tmps∧r'.params=r.params∧r'.assign=r.assign∧r'.body=r.body) (hw:w'=w.putObj b (.loop r'))
  (hd:Fe g a' w') (MO:∀d∈a'.defers,∀r,d.target=.collected r→¬g.fr r):Rel g (la n i δ) κ a' w':=by
 subst hw
 have fm:b<w.heap.size:=iv hr
 obtain⟨r3,G⟩:=r2.modify (o':=.loop l tm ps iK body .over) ho rfl rfl hκ (jM Sy i) (ir.putObj w b (.loop r')) (by simp) (fun C hC G=>by
  obtain⟨b',r0,h1,h2,xK,h3,h4,h5,h6,_⟩:=r2.obj i _ ho
  have:b'=b:=Option.some.inj (h1.symm.trans hκ)
  subst this
  rw[hr] at h2
  cases h2
  exact⟨b',r',by rw[hC];exact hκ,World.putObj_heap_same fm,xK,hk.1.trans h3,hk.2.1.trans h4,hk.2.2.1.trans h5,hk.2.2.2.trans h6,trivial⟩)
 have iQ:∀j,(la n i δ).ob j=(δ.ga i (some (.loop l tm ps iK body .over))).ob j:=by
  intro j;rw[KF ho,jw]
 have Ch:(la n i δ).cx g κ=(δ.ga i (some (.loop l tm ps iK body .over))).cx g' κ:=by
  have h1:(la n i δ).live=(δ.ga i (some (.loop l tm ps iK body .over))).live:=funext fun j=>by unfold DS.live;rw[iQ]
  have h2:(la n i δ).lr=(δ.ga i (some (.loop l tm ps iK body .over))).lr:=funext fun j=>by unfold DS.lr;rw[iQ]
  have h3:(la n i δ).lb=(δ.ga i (some (.loop l tm ps iK body .over))).lb:=funext fun j=>by unfold DS.lb;rw[iQ]
  unfold DS.cx
  rw[h1,h2,h3,hg.1,hg.2.2.1]
 have fM:∀j,(la n i δ).live j↔(δ.ga i (some (.loop l tm ps iK body .over))).live j:=fun j=>by unfold DS.live;rw[iQ]
 exact
  {n:=hn,dfr:=hd
   env:=fun j=>by
    have h1:=r3.env (j+HS)
    rw[rN,kj j] at h1
    have h2:(la n i δ).get j=(δ.ga i (some (.loop l tm ps iK body .over))).get (j+HS):=mn δ.env j
    rw[h2,Ch];exact h1
   obj:=fun j o h=>by rw[iQ] at h;rw[Ch];exact r3.obj j o h
   inj:=fun i j b h1 h2=>r3.inj i j b ((fM i).1 h1) ((fM j).1 h2)
   lo:=fun j b h1 h2=>by rw[← hg.1];exact r3.lo j b ((fM j).1 h1) h2
   nx:=fun j h=>r3.nx j ((fM j).1 h)
   wt:=fun k hk=>by rw[i_] at hk;cases hk
   below:=by rw[← hg.1,← hg.2.1];exact r3.below
   kc:=MO
   fr:=by
    have h1:o8 g' (la n i δ).live κ (w.putObj b (.loop r')):=r3.fr.sub fun j b h1 h2=>⟨j,(fM j).1 h1,h2⟩
    exact h1.re hg.1.symm hg.2.2.2.1.symm hg.2.2.2.2.symm i_
   hB:=by rw[← hg.1];exact r3.hB
   N0:=by rw[← hg.1,← hg.2.2.1,← hg.2.2.2.1];exact r3.N0}
theorem Ll {x:Operand} {f:FuncId} {vs us:Array Value} {a:Act} (hx:a.eval x=.func (.func f) vs us) (l:Nat) (w:World):
  (resolve a.eval (rangeCall x l) 0).run P w=.ok {target:=.fn (.func f) us,args:=vs++ #[.func (.yield l) #[] #[]]} w:=by
 have hc:a.eval (.const (.func (.yield l) #[] #[]))=.func (.yield l) #[] #[]:=rfl
 simp [resolve,rangeCall,Deferred.ofValue,hx,hc]
theorem AW.rangeFunc {x:Operand} {ps:Array Tmp} {iK body:Code} {f:FuncId} {first cap:List AV} {fn:Func} {c:Code} {n':Nat} (Ao:g.ro=none) (i_:g.wt=none) (hx:δ.ev x=.jk (.func f) first cap) (ho:ff x=true)
  (hf:P.funcs[f]? =some fn) (hb:fn.body=some c) (DT:fn.results= #[]) (hn:fn.ntmps=n') (hle:bz (first.length+1+cap.length) n'=true) (KE:bz n' HS=true) (gF:bz δ.n HS=true) (he:(fn.name== "runtime.NumGoroutine")=false)
  (h:∀(g':eR) (tm:Array Value) (l:Nat),g'.ro=none→g'.wt=none→(∀j,j<HS→g'.held (j+HS)=tm.getD j undef)→tm.size=δ.n→
   AW P g' c (fz δ.n δ.nx l Q) {n:=n',env:=enum 0 (first++ .kO δ.nx::cap)++gK δ.env,gm:=(δ.nx,some (.loop l tm ps iK body .ready))::δ.gm,nx:=δ.nx+1}):
  AW P g (.rangeFunc x ps iK body) Q δ:=by
 intro κ a w r
 have sJ:=r.ra hx ho
 generalize hv:a.eval x=v at sJ
 cases sJ with
 | @jk _ vs us _ _ hs Ly ht Ko=>
  rw[Ao]
  have F8:first.length+1+cap.length≤n':=by simpa using hle
  have Vk:n'≤HS:=by simpa using KE
  obtain⟨ms,EK,pP,J5⟩:=r.dfr
  refine wpIn_rangeFunc fun fnid _=>?_
  let w1:=w.alloc (.deferred (some []))
  let lp:Loop:={state:=.ready,pending:=none,fn:=fnid,tmps:=a.tmps,params:=ps,assign:=iK,body,defers:=w.heap.size}
  let w2:=w1.alloc (.loop lp)
  have Kc:w1.heap.size=w.heap.size+1:=by show(w.heap.push _).size=_;simp
  refine⟨w.heap.size+1,[{target:=.collected w.heap.size,args:= #[]}],w2,_,w2,f,vs++ #[.func (.yield (w.heap.size+1)) #[] #[]]++us,w2,run_enterLoop_outer fnid a.tmps ps iK body,Ll hv _ _,fun _ _=>trivial,?_,fun h=>by simp at h,?_⟩
  ·have fW:(fn.name== "runtime.NumGoroutine")=false:=he
   simp [invoke,callFunc,hf,hb]
   simpa using fW
  let g':eR:={B:=g.B,w0:=g.w0,N0:=g.N0,held:=fun j=>g.val a (j - HS),ro:=none,mks:=w.heap.size::(ms++g.mks),wt:=none,fr:=g.fr,w1:=g.w1}
  have Wf:Rel g δ κ a w1:=r.ext ((Below.refl _ _).alloc (aP _) _)
  obtain⟨qy,G⟩:=Wf.grow (.loop (w.heap.size+1) a.tmps ps iK body .ready) (.loop lp) (fun C G hκ=>⟨_,lp,hκ,heap_alloc_new w1 _,Kc,rfl,rfl,rfl,rfl,rfl,rfl⟩)
  let κ2:=gY κ δ.nx (some w1.heap.size)
  have hκ2:κ2 δ.nx=some (w.heap.size+1):=by show gY _ _ _ _=_;simp [gY,Kc]
  let δ2:DS:={n:=n',env:=enum 0 (first++ .kO δ.nx::cap)++gK δ.env,gm:=(δ.nx,some (.loop (w.heap.size+1) a.tmps ps iK body .ready))::δ.gm,nx:=δ.nx+1}
  have Ch:δ2.cx g' κ2=(δ.fK (.loop (w.heap.size+1) a.tmps ps iK body .ready)).cx g κ2:=rfl
  have FI:∀(e1 e2:List (Nat×AV)) (j:Nat),look (e1++e2) j=look e1 j∨(look e1 j=.any∧look (e1++e2) j=look e2 j):=by
   intro e1 e2 j
   induction e1 with
   |nil=>exact .inr ⟨rfl,rfl⟩
   |cons p e1 ih=>
    obtain⟨i,v⟩:=p
    rw[bu,fC,fC]
    by_cases e:i=j
    ·rw[if_pos e,if_pos e];exact .inl rfl
    ·rw[if_neg e,if_neg e];exact ih
  let args:Array Value:=vs++ #[.func (.yield (w.heap.size+1)) #[] #[]]++us
  have mZ:args.size=first.length+1+cap.length:=by simp [args];omega
  have nZ:Rel g' δ2 κ2 {tmps:=args++ca (fn.ntmps - args.size) undef,defers:=[]} w2:=
   {n:=by show(args++ca (fn.ntmps - args.size) undef).size=n';rw[cb,cd,hn,mZ];omega
    dfr:=⟨[],rfl,by
      show(w.heap.size::(ms++g.mks)).Nodup
      refine List.nodup_cons.2 ⟨fun wQ=>?_,pP⟩
      have:=iv (J5 _ wQ).2
      omega,fun k hk=>by
      rw[List.nil_append] at hk
      rcases bw.1 hk with rfl|hk
      ·refine⟨r.hB,?_⟩
       rw[show w2.heap[w.heap.size]? =w1.heap[w.heap.size]? from Below.heap_alloc w1 _ _ aJ]
       exact heap_alloc_new w _
      ·have h3:=J5 k hk
       have fm:=iv h3.2
       refine⟨h3.1,?_⟩
       rw[show w2.heap[k]? =w1.heap[k]? from Below.heap_alloc w1 _ _ aJ,show w1.heap[k]? =w.heap[k]? from Below.heap_alloc w _ _ fm]
       exact h3.2⟩
    env:=fun j=>by
     rw[Ch]
     by_cases hj:j<HS
     ·have kj:g'.val {tmps:=args++ca (fn.ntmps - args.size) undef,defers:=[]} j=(args++ca (fn.ntmps - args.size) undef).getD j undef:=if_pos hj
      rw[kj]
      have Gu:δ2.get j=look (enum 0 (first++ .kO δ.nx::cap)) j:=by
       rcases FI (enum 0 (first++ .kO δ.nx::cap)) (gK δ.env) j with h1|⟨h1,h2⟩
       ·exact h1
       ·show look (_++_) j=_
        rw[h2,h1,lM _ _ hj]
      rw[Gu]
      by_cases P5:j<args.size
      ·have hl:j<(first++ .kO δ.nx::cap).length:=by simp;omega
       rw[mH _ 0 j ((first++ .kO δ.nx::cap)[j]) (bm _) (by rw[cg];exact a8 hl)]
       have Cg:(args++ca (fn.ntmps - args.size) undef).getD j undef=args[j]:=by
        rw[aR,cj P5,aN P5];rfl
       rw[Cg]
       have hA:args[j]? =some args[j]:=aN P5
       have hL:(first++ .kO δ.nx::cap)[j]? =some (first++ .kO δ.nx::cap)[j]:=a8 hl
       generalize args[j]=u at hA ⊢
       generalize (first++ .kO δ.nx::cap)[j]=d at hL ⊢
       simp only[args] at hA
       by_cases h1:j<first.length
       ·rw[aT h1] at hL
        rw[cj (by simp;omega),cj aJ] at hA
        exact G.ra ((j4.ra ⟨rfl,by rw[Kc];omega,fun b hb hN=>⟨hN,Below.heap_alloc w _ _ hb⟩,fun i hi=>⟨hi,rfl,fun b hκ=>Below.heap_alloc w _ _ (r.lo i b (DS.gA hi) hκ).2⟩,fun i hi=>⟨hi,rfl⟩⟩ (Ly j u d hA hL)))
       ·rw[aV aJ] at hL
        by_cases h2:j=first.length
        ·subst h2
         simp at hL
         subst hL
         rw[cj (by simp;omega),ck aJ] at hA
         simp [hs] at hA
         subst hA
         exact .kO ⟨_,by show(δ.fK _).ob _=_;rw[fU,if_pos rfl],rfl⟩ hκ2
        ·obtain⟨m,hm⟩:∃m,j=first.length+1+m:=⟨j - first.length - 1,by omega⟩
         subst hm
         rw[show first.length+1+m - first.length=m+1 by omega,List.getElem?_cons_succ] at hL
         rw[ck (by simp;omega)] at hA
         have e0:first.length+1+m - (vs++ #[Value.func (.yield (w.heap.size+1)) #[] #[]]).size=m:=by simp;omega
         rw[e0] at hA
         exact G.ra ((j4.ra ⟨rfl,by rw[Kc];omega,fun b hb hN=>⟨hN,Below.heap_alloc w _ _ hb⟩,fun i hi=>⟨hi,rfl,fun b hκ=>Below.heap_alloc w _ _ (r.lo i b (DS.gA hi) hκ).2⟩,fun i hi=>⟨hi,rfl⟩⟩ (Ko m u d hA hL)))
      ·rw[jb _ 0 j (.inr (by simp;omega))];exact .any _
     ·obtain⟨m,rfl⟩:∃m,j=m+HS:=⟨j - HS,by omega⟩
      have kj:g'.val {tmps:=args++ca (fn.ntmps - args.size) undef,defers:=[]} (m+HS)=g.val a m:=by
       rw[rN];exact congrArg (g.val a) (cm m HS)
      rw[kj]
      have Gu:δ2.get (m+HS)=δ.get m:=by
       have h0:look (enum 0 (first++ .kO δ.nx::cap)) (m+HS)=.any:=jb _ 0 _ (.inr (by simp;omega))
       rcases FI (enum 0 (first++ .kO δ.nx::cap)) (gK δ.env) (m+HS) with h1|⟨h1,h2⟩
       ·
        have:∀(e1:List (Nat×AV)),(∀p∈e1,p.1≠m+HS)→look (e1++gK δ.env) (m+HS)=look (gK δ.env) (m+HS):=by
         intro e1 fW
         induction e1 with
         |nil=>rfl
         |cons p e1 ih=>
          rw[bu]
          show look ((p.1,p.2)::(e1++gK δ.env)) _=_
          rw[fC,if_neg (fW p (by simp))]
          exact ih (fun q hq=>fW q (by simp [hq]))
        have hk:∀(l:List AV) (i:Nat),∀p∈enum i l,p.1<i+l.length:=by
         intro l
         induction l with
         |nil=>intro i p hp;simp [enum] at hp
         |cons v l ih=>
          intro i p hp
          simp only[enum,bw] at hp
          rcases hp with rfl|hp
          ·simp
          ·have:=ih (i+1) p hp;simp;omega
        show look (_++_) _=_
        rw[this _ (fun p hp=>by have:=hk _ 0 p hp;simp at this;omega),lA];rfl
       ·show look (_++_) _=_
        rw[h2,lA];rfl
      rw[Gu]
      exact qy.env m
    obj:=qy.obj,inj:=qy.inj,lo:=qy.lo,nx:=qy.nx,wt:=fun k hk=>(by cases hk),below:=qy.below,hB:=qy.hB,N0:=qy.N0,fr:=qy.fr.re rfl rfl rfl rfl,kc:=fun d hd=>by cases hd}
  have Sl:=h g' a.tmps (w.heap.size+1) rfl rfl (fun j hj=>(congrArg (g.val a) (cm j HS)).trans (by unfold eR.val;rw[if_pos hj])) r.n κ2 _ w2 nZ
  refine callsIn_of_wp_marks (n:=0) hf hb trivial (wpIn_mono Sl ?_)
  rintro e a2 w3 ⟨δ3,κ3,hq,r3⟩
  have fin:D0 (w.heap.size+1) Q (la δ.n δ.nx δ3) (δ3.ob δ.nx)→LeavesInM (Fw none) 0 P fn a2.tmps (rangePost (Fw none) 0 P (w.heap.size+1) (lift g Q) {a with defers:=[{target:=.collected w.heap.size,args:= #[]}]++a.defers}) a2.defers .returning w3:=by
   intro hj
   obtain⟨tm3,ps3,asg3,body3,st3,iQ⟩:∃tm ps iK body st,δ3.ob δ.nx=some (.loop (w.heap.size+1) tm ps iK body st):=by
    cases Xd:δ3.ob δ.nx with
    |none=>rw[Xd] at hj;exact hj.elim
    |some o=>
     rw[Xd] at hj
     cases o with
     |row=>exact hj.elim
     |box cs=>exact hj.elim
     |mp l=>exact hj.elim
     |mpl l k v=>exact hj.elim
     |it l seen=>exact hj.elim
     |lit T vals=>exact hj.elim
     |e8 e rows=>exact hj.elim
     |loop l' tm ps iK body st=>
      cases st with
      |ready=>obtain⟨rfl,_⟩:=hj;exact⟨tm,ps,iK,body,_,rfl⟩
      |busy=>exact hj.elim
      |over=>exact hj.elim
      |done c=>cases c<;>first|exact hj.elim|(obtain⟨rfl,_⟩:=hj;exact⟨tm,ps,iK,body,_,rfl⟩)
   refine leaves (g:=g') rfl rfl (rs:=[]) DT .none r3 (fun w4 r4 u hu=>?_)
   obtain⟨b,rl,h1,h2,xK,h3,h4,h5,h6,h7⟩:=r4.obj _ _ iQ
   have JT:κ3 δ.nx=some b:=h1
   subst xK
   have TM:rl.state≠ .busy:=by
    rw[iQ] at hj
    cases st3 with
    |ready=>rw[h7.1];simp
    |busy=>exact hj.elim
    |over=>exact hj.elim
    |done c=>rw[h7.1];simp
   have yL:=run_endLoop (P:=P) (w:=w4) h2 TM
   have hd:Fe g {a with defers:=[{target:=.collected w.heap.size,args:= #[]}]++a.defers} (w4.putObj (w.heap.size+1) (.loop {rl with state:=.exhausted})):=by
    obtain⟨rs4,k1,k2,k3⟩:=r4.dfr
    refine⟨w.heap.size::ms,by simp [EK],?_,fun k hk=>?_⟩
    ·have:(rs4++g'.mks).Nodup:=k2
     exact(cp.1 this).2.1
    ·have lV:=k3 k (bX.2 (.inr hk))
     refine⟨lV.1,?_⟩
     rw[World.putObj_heap_other (by intro e;subst e;rw[h2] at lV;cases lV.2)]
     exact lV.2
   have rb:=r4.back (g:=g) (n:=δ.n) (a':={a with defers:=[{target:=.collected w.heap.size,args:= #[]}]++a.defers}) i_ rfl ⟨rfl,rfl,rfl,rfl,rfl⟩ (fun j=>congrArg (g.val a) (cm j HS)) r.n iQ JT h2 {rl with state:=.exhausted} ⟨rfl,rfl,rfl,rfl⟩ rfl hd (fun d hd r0 e=>by
    rcases bX.1 hd with hd|hd
    ·rw[cq] at hd
     subst hd
     cases e
     exact fun hf=>Nat.lt_irrefl _ (r.fr.Au hf)
    ·exact r.kc d hd r0 e)
   refine⟨rl.pending,_,yL,?_⟩
   rw[iQ] at hj
   cases st3 with
   |ready=>rw[h7.2] at rb ⊢;exact⟨_,κ3,hj.2,rb⟩
   |busy=>exact hj.elim
   |over=>exact hj.elim
   |done c=>
    rw[h7.2] at rb ⊢
    cases c with
    |ret=>exact wpIn_ret ⟨_,κ3,hj.2,rb⟩
    |exit id=>exact wpIn_exit ⟨_,κ3,hj.2,rb⟩
    |_=>exact hj.elim
  cases e with
  |normal=>exact fin hq
  |ret=>exact fin hq
  |_=>exact hq.elim
def A_:List Tmp→List AV→List (Nat×AV)→List (Nat×AV)
 |t::ts,v::vs,e=>A_ ts vs ((t,v)::e)
 |_,_,e=>e
def tG (n:Nat) (ps:List Tmp) (tE:List AV) (δ:DS):DS:={n,env:=A_ ps tE (e9 δ.env++gK δ.env),gm:=δ.gm,nx:=δ.nx}
def fL (n:Nat) (δ:DS):DS:={n,env:=iG δ.env,gm:=δ.gm,nx:=δ.nx}
theorem pM:∀(e1 e2:List (Nat×AV)) (j:Nat),(look (e1++e2) j=look e1 j)∨((∀p∈e1,p.1≠j)∧look (e1++e2) j=look e2 j)
 |[],e2,j=> .inr ⟨by simp,rfl⟩
 |(i,v)::e1,e2,j=>by
  rw[bu,fC,fC]
  by_cases e:i=j
  ·rw[if_pos e,if_pos e];exact .inl rfl
  ·rw[if_neg e,if_neg e]
   rcases pM e1 e2 j with h|⟨h1,h2⟩
   ·exact .inl h
   ·refine .inr ⟨fun p hp=>?_,h2⟩
    rcases bw.1 hp with rfl|hp
    ·exact e
    ·exact h1 p hp
theorem tN:∀(e:List (Nat×AV)) (j:Nat),(∀p∈e,p.1≠j)→look e j=.any
 |[],_,_=>rfl
 |(i,v)::e,j,h=>by rw[fC,if_neg (h (i,v) (by simp))];exact tN e j fun p hp=>h p (by simp [hp])
theorem vP:∀(e:List (Nat×AV)),∀p∈e9 e,p.1<HS
 |[],p,h=>by simp [e9] at h
 |(i,v)::e,p,h=>by
  simp only[e9] at h
  cases hc:(bz HS i && aY i (HS+HS)) with
  |true=>
   rw[hc] at h
   simp only[aZ] at hc
   have h1:HS≤i:=by simpa using hc.1
   have h2:i<HS+HS:=by simpa using hc.2
   rcases bw.1 h with rfl|h
   ·show i - HS<HS;omega
   ·exact vP e p h
  |false=>rw[hc] at h;exact vP e p h
theorem Db (e:List (Nat×AV)) (j:Nat):look (e9 e++gK e) j=if j<HS then look e (j+HS) else look e (j - HS):=by
 by_cases hj:j<HS
 ·rw[if_pos hj]
  rcases pM (e9 e) (gK e) j with h|⟨h1,h2⟩
  ·rw[h,r7,if_pos hj]
  ·have h3:=tN _ _ h1
   rw[r7,if_pos hj] at h3
   rw[h2,lM _ _ hj,h3]
 ·rw[if_neg hj]
  have h1:∀p∈e9 e,p.1≠j:=fun p hp e'=>hj (e'▸vP e p hp)
  rcases pM (e9 e) (gK e) j with h|⟨_,h2⟩
  ·rw[tN _ _ h1] at h
   -- both are any or the other
   have:∀(e1:List (Nat×AV)),(∀p∈e1,p.1≠j)→look (e1++gK e) j=look (gK e) j:=by
    intro e1 fW
    induction e1 with
    |nil=>rfl
    |cons p e1 ih=>
     rw[bu]
     show look ((p.1,p.2)::(e1++gK e)) j=_
     rw[fC,if_neg (fW p (by simp))]
     exact ih fun q hq=>fW q (by simp [hq])
   rw[this _ h1]
   obtain⟨m,rfl⟩:∃m,j=m+HS:=⟨j - HS,by omega⟩
   rw[lA,cm]
  ·rw[h2]
   obtain⟨m,rfl⟩:∃m,j=m+HS:=⟨j - HS,by omega⟩
   rw[lA,cm]
theorem JK {C:Cx} {w:World} {hv:Nat→Value}:∀(ps:List Tmp) (vals:List Value) (tE:List AV) (tm:Array Value) (e:List (Nat×AV)),vals.length=ps.length→tE.length=ps.length→
  (∀t∈ps,t<tm.size∧t<HS)→(∀(j:Nat) (u:Value) (v:AV),vals[j]? =some u→tE[j]? =some v→RA C w u v)→
  (∀j,RA C w (if j<HS then tm.getD j undef else hv j) (look e j))→
  ∀j,RA C w (if j<HS then ((ps.zip vals).foldl (fun tmps (t,a)=>tmps.setIfInBounds t a) tm).getD j undef else hv j) (look (A_ ps tE e) j)
 |[],[],[],tm,e,_,_,_,_,h=>h
 |t::ps,u::vals,v::tE,tm,e,h1,h2,h3,h4,h=>by
  simp only[cr,ct,A_]
  refine JK ps vals tE _ _ (by simpa using h1) (by simpa using h2) (fun t' Sv=>by simpa using h3 t' (by simp [Sv])) (fun j x y hx hy=>h4 (j+1) x y (by simpa using hx) (by simpa using hy)) (fun j=>?_)
  rw[fC]
  by_cases e':t=j
  ·subst e'
   obtain⟨h5,h6⟩:=h3 t (by simp)
   rw[if_pos rfl,if_pos h6,aR,aS,if_pos rfl,if_pos h5]
   exact h4 0 u v rfl rfl
  ·rw[if_neg e']
   have:=h j
   by_cases hj:j<HS
   ·rw[if_pos hj] at this ⊢
    rw[aR,aS,if_neg e',← aR]
    exact this
   ·rw[if_neg hj] at this ⊢;exact this
 |[],_::_,_,_,_,h,_,_,_,_=>by simp at h
 |[],[],_::_,_,_,_,h,_,_,_=>by simp at h
 |_::_,[],_,_,_,h,_,_,_,_=>by simp at h
 |_::_,_::_,[],_,_,_,h,_,_,_=>by simp at h
theorem BK:∀(l:List (Tmp×Value)) (tm:Array Value),(l.foldl (fun tmps (t,a)=>tmps.setIfInBounds t a) tm).size=tm.size
 |[],_=>rfl
 |(t,a)::l,tm=>by simp only[ct];rw[BK l];simp
def pt (δ:DS) (i l:Nat) (st:uL):Prop:=∃tm ps iK body,δ.ob i=some (.loop l tm ps iK body st)
def DS.n4 (δ:DS) (i:Nat) (st:uL):DS:=match δ.ob i with|some (.loop l tm ps iK body _)=>δ.ga i (some (.loop l tm ps iK body st))|_=>δ
def sS (n i l:Nat) (K:Bool→uL→DS→Prop):Exit→DS→Prop
 |.normal,δ=>pt δ i l .busy∧K true .ready (fL n δ)
 |.ret,δ=>pt δ i l .busy∧K false (.done .ret) (fL n δ)
 |.exit id,δ=>pt δ i l .busy∧K false (.done (.exit id)) (fL n δ)
 |_,_=>False
theorem Rel.n4 {i l:Nat} {st st':uL} {rl r':Loop} (i_:g.wt=none) (r:Rel g δ κ a w) (h:pt δ i l st) (hr:w.heap[l]? =some (.loop rl)) (hk:r'.tmps=rl.tmps∧r'.params=rl.params∧r'.assign=rl.assign∧r'.body=rl.body)
  (jn:match st' with|.ready=>r'.state=.ready∧r'.pending=none|.busy=>r'.state=.busy|.done c=>r'.state=.done∧r'.pending=some c|.over=>True):Rel g (δ.n4 i st') κ a (w.putObj l (.loop r')):=by
 obtain⟨tm,ps,iK,body,ho⟩:=h
 obtain⟨b,r0,h1,h2,xK,h3,h4,h5,h6,_⟩:=r.obj i _ ho
 have JT:κ i=some b:=h1
 subst xK
 rw[hr] at h2
 cases h2
 obtain⟨r3,G⟩:=r.modify (o':=.loop b tm ps iK body st') ho rfl rfl JT (jM i_ i) (ir.putObj w b (.loop r')) (by simp) (fun C hC G=>
  ⟨b,r',by rw[hC];exact JT,World.putObj_heap_same (iv hr),rfl,hk.1.trans h3,hk.2.1.trans h4,hk.2.2.1.trans h5,hk.2.2.2.trans h6,jn⟩)
 unfold DS.n4
 rw[ho]
 exact r3
theorem Rel.frame {g':eR} {a2 a':Act} {n:Nat} (r2:Rel g' δ κ a2 w) (i_:g.wt=none) (Sy:g'.wt=none) (hg:g'.B=g.B∧g'.w0=g.w0∧g'.N0=g.N0∧g'.fr=g.fr∧g'.w1=g.w1) (kj:∀j,g'.held (j+HS)=g.val a' j) (hn:a'.tmps.size=n) (hd:Fe g a' w) (MO:∀d∈a'.defers,∀r,d.target=.collected r→¬g.fr r):Rel g (fL n δ) κ a' w:=by
 have Ch:(fL n δ).cx g κ=δ.cx g' κ:=by
  show(δ.cx g κ)=_
  unfold DS.cx
  rw[hg.1,hg.2.2.1]
 exact
  {n:=hn,dfr:=hd
   env:=fun j=>by
    have h1:=r2.env (j+HS)
    rw[rN,kj j] at h1
    have h2:(fL n δ).get j=δ.get (j+HS):=mn δ.env j
    rw[h2,Ch];exact h1
   obj:=fun j o h=>by rw[Ch];exact r2.obj j o h
   inj:=r2.inj
   lo:=fun j b h1 h2=>by rw[← hg.1];exact r2.lo j b h1 h2
   nx:=r2.nx
   wt:=fun k hk=>by rw[i_] at hk;cases hk
   below:=by rw[← hg.1,← hg.2.1];exact r2.below
   kc:=MO
   fr:=by
    have h1:o8 g' δ.live κ w:=r2.fr
    exact h1.re hg.1.symm hg.2.2.2.1.symm hg.2.2.2.2.symm i_
   hB:=by rw[← hg.1];exact r2.hB
   N0:=by rw[← hg.1,← hg.2.2.1,← hg.2.2.2.1];exact r2.N0}
theorem Bq {x:Operand} {ys:Array Operand} {tys:Array TypeId} {l:Nat} {r:Loop} {a:Act} (hx:a.eval x=.func (.yield l) #[] #[]) (h:w.heap[l]? =some (.loop r)) (hs:ys.size=r.params.size):
  (execOp a.eval ⟨dst,.call {callee:=.value x,args:=ys,argTypes:=tys},ty,pos,af,none⟩).run P w=
   .ok (.round l r.fn ((r.params.zip (ys.map a.eval)).foldl (fun tmps (t,a)=>tmps.setIfInBounds t a) r.tmps) r.assign r.body) w:=by
 have:=run_yield (P:=P) (w:=w) (args:=ys.map a.eval) h (by simpa using hs)
 simp only[execOp,resolve,Deferred.ofValue,hx,invoke,Sem.run_bind,Sem.run_pure,Result.andThen_ok,Array.empty_append]
 exact this
theorem a_.yield {x:Operand} {ys:List Operand} {tys:Array TypeId} {i l n0:Nat} {tm:Array Value} {ps:List Tmp} {iK body:Code} (Ao:g.ro=none) (i_:g.wt=none) (ui:∀j,j<HS→g.held (j+HS)=tm.getD j undef) (Gd:tm.size=n0) (Bc:bz n0 HS=true)
  (hx:δ.ev x=.kO i) (iQ:δ.ob i=some (.loop l tm ps.toArray iK body .ready)) (ho:ff x=true) (Sp:ys.all ff=true) (hlen:aL ys.length ps.length=true) (NQ:ps.all (fun t=>aY t n0)=true) (uH:fO δ.n dst=true)
  (h:∀g':eR,g'.ro=some l→g'.wt=none→AW P g' iK (gb (fun δ1=>pt δ1 i l .ready∧AW P g' body (sS δ.n i l (fun b st δ2=>a_ .plain P g ops rest Q ((δ2.n4 i st).eS dst (fh b)))) (δ1.n4 i .busy)) (fun _ _=>False)) (tG n0 ps (ys.map δ.ev) δ)):
  a_ .plain P g ops (⟨dst,.call {callee:=.value x,args:=ys.toArray,argTypes:=tys},ty,pos,af,none⟩::rest) Q δ:=by
 intro κ a w r
 have sJ:=r.ra hx ho
 generalize hv:a.eval x=v at sJ
 cases sJ with
 | @kO _ b hl hκ=>
  obtain⟨b',rl,h1,h2,xK,h3,h4,h5,h6,h7⟩:=r.obj _ _ iQ
  have:b'=b:=Option.some.inj (h1.symm.trans hκ)
  subst this
  subst xK
  obtain⟨ms,EK,pP,J5⟩:=r.dfr
  have EE:ys.length=ps.length:=aM hlen
  show wpListIn _ _ P ops _ (_::rest) a w
  refine gw rfl rfl fun K nb=>?_
  unfold Oper.wW
  rw[Bq hv h2 (by rw[h4];simpa using EE),Oper.uponIn_round,Ao]
  refine⟨fun h=>by simp at h,?_⟩
  let tm':Array Value:=(rl.params.zip (ys.toArray.map a.eval)).foldl (fun tmps (t,a)=>tmps.setIfInBounds t a) rl.tmps
  have G4:tm'=(ps.zip (ys.map a.eval)).foldl (fun tmps (t,a)=>tmps.setIfInBounds t a) tm:=by
   show(rl.params.zip (ys.toArray.map a.eval)).foldl _ rl.tmps=_
   rw[h3,h4,← Array.foldl_toList,Array.toList_zip]
   simp
  let g':eR:={B:=g.B,w0:=g.w0,N0:=g.N0,held:=fun j=>g.val a (j - HS),ro:=some b',mks:=ms++g.mks,wt:=none,fr:=g.fr,w1:=g.w1}
  have NH:∀j,g'.held (j+HS)=g.val a j:=fun j=>congrArg (g.val a) (cm j HS)
  have nZ:Rel g' (tG n0 ps (ys.map δ.ev) δ) κ {tmps:=tm',defers:=[]} w:=
   {n:=by show tm'.size=n0;rw[G4,BK];exact Gd
    dfr:=⟨[],rfl,pP,J5⟩
    env:=fun j=>by
     have hp:=JK (C:=δ.cx g κ) (w:=w) (hv:=g'.held) ps (ys.map a.eval) (ys.map δ.ev) tm (e9 δ.env++gK δ.env) (by simpa using EE) (by simpa using EE)
      (fun t ht=>by
       have h8:=(bD.1 NQ) t ht
       have h9:t<n0:=by simpa using h8
       have ub:n0≤HS:=by simpa using Bc
       exact⟨Gd▸h9,Nat.lt_of_lt_of_le h9 ub⟩)
      (fun j u v h8 h9=>by
       simp only[a7,bg] at h8 h9
       obtain⟨y,h8,rfl⟩:=h8
       obtain⟨y',h9,rfl⟩:=h9
       rw[h8] at h9;cases h9
       exact r.CB y (iD ((bD.1 Sp) y (aU h8))))
      (fun j=>by
       rw[Db]
       by_cases hj:j<HS
       ·rw[if_pos hj,if_pos hj,← ui j hj,← rN]
        exact r.env (j+HS)
       ·rw[if_neg hj,if_neg hj]
        exact r.env (j - HS)) j
     rw[← G4] at hp
     exact hp
    obj:=r.obj,inj:=r.inj,lo:=r.lo,nx:=r.nx,wt:=fun k hk=>(by cases hk),below:=r.below,hB:=r.hB,N0:=r.N0,fr:=r.fr.re rfl rfl rfl rfl,kc:=fun d hd=>by cases hd}
  rw[h5,h6]
  refine roundIn_of_wpIn (F:=Fw none) trivial (wpIn_mono (h g' rfl rfl κ _ w nZ) ?_)
  rintro e a1 w1 ⟨δ1,κ1,hq,r1⟩
  cases e with
  |normal=>
   obtain⟨RW,hq⟩:=hq
   have VH:=RW
   obtain⟨tm1,ps1,asg1,body1,Yq⟩:=RW
   obtain⟨b1,rl1,k1,k2,kbl,k3,k4,k5,k6,k7⟩:=r1.obj _ _ Yq
   subst kbl
   have r1':=r1.n4 rfl (st':=.busy) (r':={rl1 with state:=.busy}) VH k2 ⟨rfl,rfl,rfl,rfl⟩ rfl
   refine⟨_,run_beginRound k2 k7.1,wpIn_mono (hq κ1 a1 _ r1') ?_⟩
   rintro e2 a2 w2 ⟨δ2,κ2,je,r2⟩
   have fin:∀(jump:Option Code) (st:uL) (bb:Bool),bb=jump.isNone→pt δ2 i b1 .busy→a_ .plain P g ops rest Q (((fL δ.n δ2).n4 i st).eS dst (fh bb))→
     (match st with|.ready=>jump=none|.done c=>jump=some c|_=>False)→
     ∃v w',(Instr.endRound b1 jump).run P w2=.ok v w'∧K (a.put dst v) w':=by
    intro jump st bb ML GI hA jn
    have Uc:=GI
    obtain⟨tm2,ps2,asg2,body2,JY⟩:=GI
    obtain⟨b2,rl2,m1,m2,mbl,m3,m4,m5,m6,m7⟩:=r2.obj _ _ JY
    subst mbl
    have r3:=r2.n4 rfl (st':=st) (r':={rl2 with state:=if jump.isNone then .ready else .done,pending:=jump}) Uc m2 ⟨rfl,rfl,rfl,rfl⟩ (by
     cases st with
     |ready=>simp only at jn;subst jn;exact⟨rfl,rfl⟩
     |done c=>simp only at jn;subst jn;exact⟨rfl,rfl⟩
     |_=>exact jn.elim)
    refine⟨_,_,run_endRound jump m2,?_⟩
    have hd:Fe g a (w2.putObj b2 (.loop {rl2 with state:=if jump.isNone then .ready else .done,pending:=jump})):=by
     obtain⟨rs4,k1,k2,k3⟩:=r3.dfr
     exact⟨ms,EK,(cp.1 k2).2.1,fun k hk=>k3 k (bX.2 (.inr hk))⟩
    have r4:=r3.frame (g:=g) (a':=a) (n:=δ.n) i_ rfl ⟨rfl,rfl,rfl,rfl,rfl⟩ NH r.n hd r.kc
    have he:fL δ.n (δ2.n4 i st)=(fL δ.n δ2).n4 i st:=by
     unfold DS.n4
     have:(fL δ.n δ2).ob i=δ2.ob i:=rfl
     rw[this,JY];rfl
    rw[he] at r4
    subst ML
    have qR:((fL δ.n δ2).n4 i st).n=δ.n:=by
     unfold DS.n4
     have:(fL δ.n δ2).ob i=δ2.ob i:=rfl
     rw[this,JY];rfl
    exact nb _ _ (hA κ2 _ _ (r4.eS (v:=.bool jump.isNone) (fi (by rw[qR];exact uH)) (.pv (.lit _))))
   cases e2 with
   |normal=>exact fin none .ready true rfl je.1 je.2 rfl
   |ret=>exact fin (some .ret) (.done .ret) false rfl je.1 je.2 rfl
   |exit id=>exact fin (some (.exit id)) (.done (.exit id)) false rfl je.1 je.2 rfl
   |_=>exact je.elim
  |_=>exact hq.elim
end Go.Ab
/- Calls walked in place:the callee's body over the caller's own objects. -/
namespace Go.Ab
open Go Go.RowKit
attribute [local irreducible] HS
variable {P:Program} {g:eR} {δ:DS} {κ:Kp} {a:Act} {w:World}
variable {ops:Array Oper} {rest:List Oper} {Q:Exit→DS→Prop} {dst:Option Nat} {ty:TypeId} {pos:String} {af:Array Edge}
theorem uz (l:List AV) (e:List (Nat×AV)) (hl:l.length≤HS) (j:Nat):look (enum 0 l++gK e) j=if j<HS then look (enum 0 l) j else look e (j - HS):=by
 have FI:∀(l:List AV) (i:Nat),(∀j,i+l.length≤j∨j<i→look (enum i l++gK e) j=look (gK e) j)∧(∀j,i≤j→j<i+l.length→look (enum i l++gK e) j=look (enum i l) j):=by
  intro l
  induction l with
  |nil=>intro i;exact⟨fun j _=>rfl,fun j h1 h2=>by simp at h2;omega⟩
  |cons v l ih=>
   intro i
   obtain⟨h1,h2⟩:=ih (i+1)
   simp only[List.length_cons]
   refine⟨fun j hj=>?_,fun j h3 h4=>?_⟩
   ·show look ((i,v)::(enum (i+1) l++gK e)) j=_
    rw[fC,if_neg aJ]
    exact h1 j (by omega)
   ·show look ((i,v)::(enum (i+1) l++gK e)) j=look ((i,v)::enum (i+1) l) j
    rw[fC,fC]
    by_cases e:i=j
    ·rw[if_pos e,if_pos e]
    ·rw[if_neg e,if_neg e]
     exact h2 j aJ (by omega)
 obtain⟨h1,h2⟩:=FI l 0
 by_cases hj:j<HS
 ·rw[if_pos hj]
  by_cases rB:j<l.length
  ·exact h2 j (bm _) (by omega)
  ·rw[h1 j aJ,lM _ _ hj,jb l 0 j aJ]
 ·rw[if_neg hj,h1 j aJ]
  obtain⟨m,rfl⟩:∃m,j=m+HS:=⟨j - HS,by omega⟩
  rw[lA,cm]
def fJ (P:Program) (rs:List ResultVar) (n:Nat) (dst:Option Nat) (K:DS→Prop):Exit→DS→Prop
 |.normal,δ|.ret,δ=>∃v,gk P δ rs v∧K ((fL n δ).eS dst v)
 |_,_=>False
theorem n9 {rs:List ResultVar} {n:Nat} {K:DS→Prop} {v:AV} (h:gk P δ rs v) (hK:K ((fL n δ).eS dst v)):fJ P rs n dst K .ret δ:=⟨v,h,hK⟩
theorem FE {rs:List ResultVar} {n:Nat} {K:DS→Prop} {v:AV} (h:gk P δ rs v) (hK:K ((fL n δ).eS dst v)):fJ P rs n dst K .normal δ:=⟨v,h,hK⟩
theorem sO {gd:Option (Tmp×Bool)} {x:Operand} {f:FuncId} {vs us:Array Value} {xs:Array Operand} {tys:Array TypeId} {ρ:Operand→Value} (hx:ρ x=.func (.func f) vs us) (he:∀vals w,(callFunc f vals).run P w=.ok (.enter f vals) w) (w:World):
  (execOp ρ ⟨dst,.call {callee:=.value x,args:=xs,argTypes:=tys},ty,pos,af,gd⟩).run P w=.ok (.enter f (vs++xs.map ρ++us)) w:=by
 simp [execOp,resolve,Deferred.ofValue,invoke,hx,he]
theorem a_.inline {x:Operand} {xs:List Operand} {tys:Array TypeId} {f:FuncId} {first cap:List AV} {fn:Func} {c:Code} {n':Nat} {rs:List ResultVar} (i_:g.wt=none) (hx:δ.ev x=.jk (.func f) first cap) (ho:ff x=true) (rX:xs.all ff=true)
  (hf:P.funcs[f]? =some fn) (hb:fn.body=some c) (sI:fn.results=rs.toArray) (hn:fn.ntmps=n') (hle:bz (first.length+xs.length+cap.length) n'=true) (KE:bz n' HS=true) (hd:fO δ.n dst=true) (he:(fn.name== "runtime.NumGoroutine")=false)
  (h:∀g':eR,g'.ro=none→g'.wt=none→AW P g' c (fJ P rs δ.n dst fun δ2=>a_ .plain P g ops rest Q δ2) {n:=n',env:=enum 0 (first++xs.map δ.ev++cap)++gK δ.env,gm:=δ.gm,nx:=δ.nx}):
  a_ .plain P g ops (⟨dst,.call {callee:=.value x,args:=xs.toArray,argTypes:=tys},ty,pos,af,none⟩::rest) Q δ:=by
 intro κ a w r
 have sJ:=r.ra hx ho
 generalize hv:a.eval x=v at sJ
 cases sJ with
 | @jk _ vs us _ _ hs Ly ht Ko=>
  have F8:first.length+xs.length+cap.length≤n':=by simpa using hle
  have Vk:n'≤HS:=by simpa using KE
  obtain⟨ms,EK,pP,J5⟩:=r.dfr
  have Wj:∀vals w,(callFunc f vals).run P w=.ok (.enter f vals) w:=fun vals w=>by simp [callFunc,hf,hb];simpa using he
  show wpListIn _ _ P ops _ (_::rest) a w
  refine gw rfl rfl fun K nb=>?_
  unfold Oper.wW
  rw[sO hv Wj,Oper.uponIn_enter]
  refine⟨fun h=>by simp at h,?_⟩
  let args:Array Value:=vs++xs.toArray.map a.eval++us
  let tE:List AV:=first++xs.map δ.ev++cap
  have mZ:args.size=tE.length:=by simp [args,tE];omega
  have BY:tE.length=first.length+xs.length+cap.length:=by simp [tE];omega
  let g':eR:={B:=g.B,w0:=g.w0,N0:=g.N0,held:=fun j=>g.val a (j - HS),ro:=none,mks:=ms++g.mks,wt:=none,fr:=g.fr,w1:=g.w1}
  let δ2:DS:={n:=n',env:=enum 0 tE++gK δ.env,gm:=δ.gm,nx:=δ.nx}
  have gf:∀(j:Nat) (u:Value) (av:AV),args[j]? =some u→tE[j]? =some av→RA (δ.cx g κ) w u av:=by
   intro j u av h1 h2
   simp only[args] at h1
   simp only[tE] at h2
   by_cases hj:j<first.length+xs.length
   ·rw[aT (by simp;omega)] at h2
    rw[cj (by simp;omega)] at h1
    by_cases N3:j<first.length
    ·rw[aT N3] at h2
     rw[cj aJ] at h1
     exact Ly j u av h1 h2
    ·rw[aV aJ] at h2
     rw[ck aJ,hs] at h1
     simp only[bp,List.getElem?_toArray,a7,bg] at h1 h2
     obtain⟨y,h3,rfl⟩:=h1
     obtain⟨y',h4,rfl⟩:=h2
     rw[h3] at h4;cases h4
     exact r.CB y (iD ((bD.1 rX) y (aU h3)))
   ·rw[aV (by simp;omega)] at h2
    rw[ck (by simp;omega)] at h1
    have e1:(vs++xs.toArray.map a.eval).size=(first++xs.map δ.ev).length:=by simp;omega
    rw[e1] at h1
    exact Ko _ u av h1 h2
  have nZ:Rel g' δ2 κ {tmps:=args++ca (fn.ntmps - args.size) undef,defers:=[]} w:=
   {n:=by show(args++ca (fn.ntmps - args.size) undef).size=n';rw[cb,cd,hn,mZ];omega
    dfr:=⟨[],rfl,pP,J5⟩
    env:=fun j=>by
     show RA (δ.cx g κ) w _ (look (enum 0 tE++gK δ.env) j)
     rw[uz tE δ.env aJ]
     unfold eR.val
     by_cases hj:j<HS
     ·rw[if_pos hj,if_pos hj]
      show RA (δ.cx g κ) w ((args++ca (fn.ntmps - args.size) undef).getD j undef) _
      by_cases P5:j<tE.length
      ·have Cg:(args++ca (fn.ntmps - args.size) undef).getD j undef=args[j]:=by
        rw[aR,cj aJ,aN aJ];rfl
       rw[Cg,mH tE 0 j tE[j] (bm _) (by rw[cg];exact a8 P5)]
       exact gf j _ _ (aN aJ) (a8 P5)
      ·rw[jb tE 0 j aJ];exact .any _
     ·rw[if_neg hj,if_neg hj]
      exact r.env (j - HS)
    obj:=r.obj,inj:=r.inj,lo:=r.lo,nx:=r.nx,wt:=fun k hk=>(by cases hk),below:=r.below,hB:=r.hB,N0:=r.N0,fr:=r.fr.re rfl rfl rfl rfl,kc:=fun d hd=>by cases hd}
  refine(show CallsIn (Fw none) (0 - 1) P f args w _ from callsIn_of_wp_marks (n:=0) hf hb trivial (wpIn_mono (h g' rfl rfl κ _ w nZ) ?_))
  rintro e a2 w2 ⟨δ3,κ3,hq,r3⟩
  have fin:∀v,gk P δ3 rs v→a_ .plain P g ops rest Q ((fL δ.n δ3).eS dst v)→LeavesInM (Fw none) 0 P fn a2.tmps (fun
    |.returned v,w''=>K (a.put dst v) w''
    |.panicked chain,w''=>lift g Q (.panic chain) a w''
    |.outgrown,_=>LetsOut (lift g Q)) a2.defers .returning w2:=by
   intro v h1 h2
   refine leaves (g:=g') rfl rfl sI h1 r3 (fun w4 r4 u hu=>?_)
   have Yd:Fe g a w4:=by
    obtain⟨rs4,k1,k2,k3⟩:=r4.dfr
    exact⟨ms,EK,(cp.1 k2).2.1,fun k hk=>k3 k (bX.2 (.inr hk))⟩
   have r5:=r4.frame (g:=g) (a':=a) (n:=δ.n) i_ rfl ⟨rfl,rfl,rfl,rfl,rfl⟩ (fun j=>congrArg (g.val a) (cm j HS)) r.n Yd r.kc
   exact nb _ _ (h2 κ3 _ _ (r5.eS (fi hd) hu))
  cases e with
  |normal=>obtain⟨v,h1,h2⟩:=hq;exact fin v h1 h2
  |ret=>obtain⟨v,h1,h2⟩:=hq;exact fin v h1 h2
  |_=>exact hq.elim
end Go.Ab
namespace Go.Ab
section
variable {P:Program} {δ:DS} {n:Nat} {dst:Option Nat} {K:DS→Prop} {t t':Tmp}
theorem kF {p:PV} (ht:aY t HS=true) (h:δ.get t=.pv p) (hK:K ((fL n δ).eS dst (.pv p))):fJ P [.tmp t] n dst K .ret δ:=n9 (.one (.tmp ht h)) hK
theorem zp {i e k e7} (ht:aY t HS=true) (h:δ.get t=.own i e k e7) (hK:K ((fL n δ).eS dst (.own i e k e7))):fJ P [.tmp t] n dst K .ret δ:=n9 (.one (.tmp ht h)) hK
theorem ze {i o} (ht:aY t HS=true) (h:δ.get t=.ptr i o) (hK:K ((fL n δ).eS dst (.ptr i o))):fJ P [.tmp t] n dst K .ret δ:=n9 (.one (.tmp ht h)) hK
theorem j8 (hK:K ((fL n δ).eS dst (.gX []))):fJ P [] n dst K .normal δ:=FE .none hK
theorem BA {p p':PV} (ht:aY t HS=true) (h:δ.get t=.pv p) (Sv:aY t' HS=true) (h':δ.get t'=.pv p') (hK:K ((fL n δ).eS dst (.gX [.pv p,.pv p']))):fJ P [.tmp t,.tmp t'] n dst K .ret δ:=n9 (.two (.tmp ht h) (.tmp Sv h')) hK
theorem BZ {i e k e7} {p':PV} (ht:aY t HS=true) (h:δ.get t=.own i e k e7) (Sv:aY t' HS=true) (h':δ.get t'=.pv p') (hK:K ((fL n δ).eS dst (.gX [.own i e k e7,.pv p']))):fJ P [.tmp t,.tmp t'] n dst K .ret δ:=n9 (.two (.tmp ht h) (.tmp Sv h')) hK
end
end Go.Ab
/- Regions that draw their order and hold operations with an effect:what only reads is taken first,the rest is walked in each order. -/
namespace Go.Ab
open Go Go.RowKit
variable {P:Program} {g:eR} {δ:DS} {κ:Kp} {a:Act} {w:World}
variable {ops:Array Oper} {Q:Exit→Act→World→Prop} {ro:Option Nat}
theorem BL {j:Nat} {oi oj:Oper} {v:Value} {I:Act→Prop} (hj:ops[j]? =some oj) (jl:jC oj=true) (Tf:oi.apart ops oj=true)
  (hsj:∀cs b,oj.op≠ .select cs b) (hQ:∀c a w,Q (.panic c) (a.put oi.dst v) w→Q (.panic c) a w) (keep:∀a u,I a→I (a.put oj.dst u)) (keepD:∀(a:Act) d,I a→I {a with defers:=d::a.defers}) {K:Act→World→Prop} {a:Act} {w:World}
  (hy:I a) (h:wpOpIn (Fw ro) 0 P ops Q j K (a.put oi.dst v) w):wpOpIn (Fw ro) 0 P ops Q j (fun a' w'=>I a'∧K (a'.put oi.dst v) w') a w:=by
 obtain⟨h1,h2,h3⟩:=Oper.apart_spec Tf
 unfold wpOpIn at*
 simp only[hj] at*
 rw[wanted_put oj a oi.dst v h1,about_put oj w a oi.dst v h1] at h
 have RU:∀ρ,oj.semAt (Fw ro).round ρ=execOp ρ oj:=fun ρ=>Oper.semAt_eq _ _ _ (by intro c e;simp [jC,e] at jl)
 split
 ·rename_i hw
  simp only[hw,if_true] at h
  unfold Oper.wpIn at*
  rw[about_put oj w a oi.dst v h1] at h
  refine⟨h.1,?_⟩
  have h:=h.2
  rw[RU,execOp_put oj hsj a oi.dst v h1] at h
  rw[RU]
  generalize (execOp a.eval oj).run P w=r at*
  cases r with
  |ok x w'=>
   cases x<;>simp only[Oper.uponIn] at h ⊢
   case value u=>exact⟨keep a u hy,by rw[← Act.put_comm a v u h2];exact h⟩
   case skip=>exact⟨keep a _ hy,by rw[← Act.put_comm a v undef h2];exact h⟩
   case defer d=>
    refine⟨keep _ _ (keepD _ _ hy),?_⟩
    rw[← Act.put_comm _ v undef h2,← Act.put_defers]
    exact h
   case enter f args=>
    refine⟨h.1,CallsIn.mono h.2 fun e w'' he=>?_⟩
    cases e with
    |returned u=>exact⟨keep a u hy,by rw[← Act.put_comm a v u h2];exact he⟩
    |panicked c=>exact hQ _ _ _ he
    |outgrown=>exact he
   case row row args=>exact⟨h.1,RowsIn.mono h.2 fun u w'' he=>⟨keep a u hy,by rw[← Act.put_comm a v u h2];exact he⟩⟩
   case round l f tmps assign body=>
    refine⟨h.1,RoundIn.mono h.2 fun e w'' he=>?_⟩
    cases e with
    |returned u=>exact⟨keep a u hy,by rw[← Act.put_comm a v u h2];exact he⟩
    |panicked c=>exact hQ _ _ _ he
    |outgrown=>exact he
  |halt x w'=>
   cases x<;>simp only[Oper.uponIn] at h ⊢
   case panic u=>exact hQ _ _ _ h
 ·rename_i hw
  simp only[hw] at h
  exact⟨h.1,keep a _ hy,by rw[← Act.put_comm a v undef h2];exact h.2⟩
def nC (ro:Option Nat) (P:Program) (ops:Array Oper) (Q:Exit→Act→World→Prop) (S:Array Bool→World→Prop):Nat→Array Bool→Act→World→Prop
 |0,listed,a,w=>Region.ready .any ops listed=[]∧Q .normal a w
 |fuel+1,listed,a,w=>
  (Region.ready .any ops listed=[]→Q .normal a w)∧
  ∀i∈Region.ready .any ops listed,wpOpIn (Fw ro) 0 P ops Q i (fun a' w'=>S (listed.setIfInBounds i true) w'∧nC ro P ops Q S fuel (listed.setIfInBounds i true) a' w') a w
theorem wM {S:Array Bool→World→Prop}:∀(fuel:Nat) (listed:Array Bool) (a:Act) (w:World),nC ro P ops Q S fuel listed a w→wpAnyIn (Fw ro) 0 P .any ops Q fuel listed a w
 |0,_,_,_,h=>h
 |fuel+1,_,_,_,h=>⟨h.1,fun i hi=>wpOpIn_mono (fun a' w' h'=>wM fuel _ a' w' h'.2) (h.2 i hi)⟩
def DC (ops:Array Oper) (listed:Array Bool):Prop:=∀j o,ops[j]? =some o→listed.getD j false=true→∀e∈o.after,Region.binds .any e=true→listed.getD e.on false=true
theorem Iw (listed:Array Bool) (i j:Nat) (d:Bool):(listed.setIfInBounds i true).getD j d=if i=j then (if i<listed.size then true else d) else listed.getD j d:=by
 by_cases h:i=j
 ·subst h
  rw[if_pos rfl]
  by_cases fm:i<listed.size
  ·simp [fm]
  ·simp [fm]
 ·rw[if_neg h];exact getD_set_ne d h
theorem DC.ready {listed:Array Bool} (h:DC ops listed) {i:Nat} (hi:i∈Region.ready .any ops listed):DC ops (listed.setIfInBounds i true):=by
 intro j o ho hj e he hb
 obtain⟨_,o',fZ,jO⟩:=mem_ready.1 hi
 by_cases va:i=j
 ·subst va
  rw[fZ] at ho;cases ho
  exact getD_set_true (jO e he hb)
 ·rw[getD_set_ne false va] at hj
  exact getD_set_true (h j o ho hj e he hb)
theorem sc {S:Array Bool→World→Prop} {C:World→Prop} {i:Nat} {oi:Oper} {v:Value} (hi:ops[i]? =some oi) (S7:∀(j:Nat) (o:Oper) cs b,ops[j]? =some o→o.op≠ .select cs b) (jl:∀(j:Nat) (o:Oper),ops[j]? =some o→jC o=true)
  (hQ:∀c a w,Q (.panic c) (a.put oi.dst v) w→Q (.panic c) a w)
  (hC:∀listed w,DC ops listed→listed.getD i true=false→S listed w→C w) (hS:∀listed w,S (listed.setIfInBounds i true) w↔S listed w):
  ∀(fuel:Nat) (listed:Array Bool) (a:Act) (w:World),DC ops listed→
   (∀j oj,ops[j]? =some oj→j≠i→listed.getD j true=false→(∀e∈oj.after,Region.binds .any e=true→e.on≠i)→oi.apart ops oj=true)→
   i∈Region.ready .any ops listed→YieldsIf P ops C oi v a→S listed w→
   nC ro P ops Q S fuel (listed.setIfInBounds i true) (a.put oi.dst v) w→nC ro P ops Q S (fuel+1) listed a w:=by
 have o9:∀{K:Act→World→Prop} {a:Act} {w:World},YieldsIf P ops C oi v a→C w→K (a.put oi.dst v) w→wpOpIn (Fw ro) 0 P ops Q i K a w:=by
  intro K a w hy hw hk
  unfold wpOpIn
  simp only[hi]
  rcases hy with ⟨MD,hv⟩|⟨MD,rfl⟩
  ·simp only[MD,if_true,Oper.wpIn]
   refine⟨fun _ _=>trivial,?_⟩
   rw[Oper.semAt_eq _ _ _ (by intro c e;have:=jl i oi hi;simp [jC,e] at this),hv w hw]
   exact hk
  ·simp only[MD,cu,if_false];exact⟨fun _ _=>trivial,hk⟩
 intro fuel
 induction fuel with
 |zero=>
  intro listed a w uC _ hr hy Sa H
  refine⟨fun h=>(by rw[h] at hr;cases hr),fun j hj=>?_⟩
  by_cases pg:j=i
  ·subst pg;exact o9 hy (hC listed w uC (mem_ready.1 hr).1 Sa) ⟨(hS _ _).2 Sa,H⟩
  ·have:=ready_mono hj pg
   rw[H.1] at this
   cases this
 |succ fuel ih=>
  intro listed a w uC MR hr hy Sa H
  refine⟨fun h=>(by rw[h] at hr;cases hr),fun j hj=>?_⟩
  by_cases pg:j=i
  ·subst pg;exact o9 hy (hC listed w uC (mem_ready.1 hr).1 Sa) ⟨(hS _ _).2 Sa,H⟩
  ·have h1:=H.2 j (ready_mono hj pg)
   obtain⟨Tb,oj,Tq,jO⟩:=mem_ready.1 hj
   have GH:∀e∈oj.after,Region.binds .any e=true→e.on≠i:=fun e he hb heq=>by
    have h1:=jO e he hb
    have h0:=(mem_ready.1 hr).1
    rw[heq] at h1
    rcases cv i listed.size with h'|h'
    ·simp [h'] at h0 h1;rw[h0] at h1;cases h1
    ·simp [cw h'] at h1
   have Tf:=MR j oj Tq pg Tb GH
   obtain⟨_,_,h3⟩:=Oper.apart_spec Tf
   have h2:=BL (I:=YieldsIf P ops C oi v) Tq (jl j oj Tq) Tf (fun cs b=>S7 j oj cs b Tq) hQ
    (fun a u hy=>hy.of_same (execOp_put oi (fun cs b=>S7 i oi cs b hi) a oj.dst u h3) (wanted_put oi a oj.dst u h3)) (fun a d hy=>hy.of_same rfl rfl) hy h1
   have Ph:∀k ok,ops[k]? =some ok→k≠i→(listed.setIfInBounds j true).getD k true=false→
     (∀e∈ok.after,Region.binds .any e=true→e.on≠i)→oi.apart ops ok=true:=fun k ok hk hki PM kY=>by
    refine MR k ok hk hki ?_ kY
    by_cases TX:j=k
    ·subst TX;exact Tb
    ·rw[getD_set_ne true TX] at PM;exact PM
   refine wpOpIn_mono (fun a' w' h3=>?_) h2
   obtain⟨h4,h5,h6⟩:=h3
   rw[Array.setIfInBounds_comm _ _ (Ne.symm pg)] at h5 h6
   have h7:=(hS _ _).1 h5
   exact⟨h7,ih (listed.setIfInBounds j true) a' w' (uC.ready hj) Ph (ready_mono hr (Ne.symm pg)) h4 h7 h6⟩
abbrev Wt:=World×(Nat→Prop)×Nat
def gQ (late:List Nat) (listed:Array Bool):Bool:=late.any fun j=>listed.getD j false
def As (k:Wt) (late:List Nat) (listed:Array Bool) (w:World):Prop:=gQ late listed=false→∀b,k.2.1 b→b<k.1.heap.size∧w.heap[b]? =k.1.heap[b]?
def Gs (g' g:eR):Prop:=g'.ro=g.ro∧g'.B=g.B∧g'.w0=g.w0
def Aj (g:eR) (k:Wt) (late:List Nat) (listed:Array Bool):eR:={g with wt:=if gQ late listed=true then none else some k}
def gz (n:Nat):List Nat→Array Bool
 |[]=>ca n false
 |i::done=>(gz n done).setIfInBounds i true
theorem vo {late:List Nat} {i:Nat} (h:late.contains i=false) (listed:Array Bool):gQ late (listed.setIfInBounds i true)=gQ late listed:=by
 unfold gQ
 induction late with
 |nil=>rfl
 |cons j late ih=>
  simp only[List.contains_cons,Bool.or_eq_false_iff] at h
  have va:i≠j:=by simpa using h.1
  simp only[List.any_cons]
  rw[getD_set_ne false va,ih h.2]
theorem ue {late:List Nat} {i:Nat} {listed:Array Bool} (h:gQ late listed=true):gQ late (listed.setIfInBounds i true)=true:=by
 unfold gQ at*
 rw[List.any_eq_true] at*
 obtain⟨j,h1,h2⟩:=h
 exact⟨j,h1,getD_set_true h2⟩
theorem Rel.LF (r:Rel g δ κ a w) {wt':Option Wt} (h:∀k,wt'=some k→(∀b,k.2.1 b→b<k.1.heap.size∧w.heap[b]? =k.1.heap[b]?)∧∀i b,δ.live i→(δ.lr i∨k.2.2≤i)→κ i=some b→¬k.2.1 b) (hF:∀k,wt'=some k→∀b,κ.Fs b→¬k.2.1 b):Rel {g with wt:=wt'} δ κ a w:=
 {n:=r.n,dfr:=r.dfr,env:=r.env,obj:=r.obj,inj:=r.inj,lo:=r.lo,nx:=r.nx,wt:=h,below:=r.below,hB:=r.hB,N0:=r.N0,kc:=r.kc
  fr:=⟨r.fr.1,fun i b hb=>let ⟨h1,h2⟩:=r.fr.2 i b hb;⟨⟨h1.1,fun k hk=>hF k hk b ⟨i,hb⟩⟩,h2⟩⟩}
theorem Bz {k:Wt} {late:List Nat} {listed:Array Bool} (i:Nat) (r:Rel (Aj g k late listed) δ κ a w):Rel (Aj g k late (listed.setIfInBounds i true)) δ κ a w:=by
 have hk:∀k',(if gQ late (listed.setIfInBounds i true)=true then none else some k)=some k'→(Aj g k late listed).wt=some k':=fun k' lV=>by
  by_cases h:gQ late (listed.setIfInBounds i true)=true
  ·rw[if_pos h] at lV;cases lV
  ·rw[if_neg h] at lV
   cases lV
   show(if gQ late listed=true then none else some k)=some k
   rw[if_neg (fun h'=>h (ue h'))]
 exact Rel.LF (g:=Aj g k late listed) r (wt':=if gQ late (listed.setIfInBounds i true)=true then none else some k) (fun k' lV=>r.wt k' (hk k' lV)) (fun k' lV b ⟨j,hj⟩=>(r.fr.2 j b hj).1.2 k' (hk k' lV))
theorem M7 {k:Wt} {late:List Nat} {listed:Array Bool} (r:Rel (Aj g k late listed) δ κ a w):As k late listed w:=by
 intro h
 refine(r.wt k ?_).1
 show(if gQ late listed=true then none else some k)=some k
 rw[if_neg (by simp [h])]
theorem Hd {k:Wt} {late:List Nat} {listed:Array Bool} (i_:g.wt=none) (r:Rel (Aj g k late listed) δ κ a w):Rel g δ κ a w:=by
 have:=Rel.LF r (wt':=none) (fun k hk=>by cases hk) (fun k hk=>by cases hk)
 cases g
 cases i_
 exact this
def jJ (f:DS→Prop):Exit→DS→Prop
 |.normal,δ=>f δ
 |_,_=>False
theorem K0 {f:DS→Prop} (h:f δ):jJ f .normal δ:=h
def qO (g:eR) (Q:Exit→DS→Prop):Exit→Act→World→Prop
 |.normal,a,w=>lift g Q .normal a w
 |.panic c,a,w=>∃δ κ,Q (.panic c) δ∧(∀j,j<HS→δ.get j=.any)∧Rel {g with wt:=none} δ κ a w
 |_,_,_=>False
theorem yn {g:eR} {Q:Exit→DS→Prop} {c:List PanicEntry} {a:Act} {w:World} {d:Option Nat} {v:Value} (h:qO g Q (.panic c) (a.put d v) w):qO g Q (.panic c) a w:=by
 obtain⟨δ,κ,h1,h2,r⟩:=h
 refine⟨δ,κ,h1,h2,?_⟩
 exact
  {n:=by have:=r.n;cases d<;>simpa [Act.put] using this
   dfr:=by have:=r.dfr;cases d<;>exact this
   env:=fun j=>by
    by_cases hj:j<HS
    ·rw[h2 j hj];exact .any _
    ·have:=r.env j
     have e:∀b:Act,eR.val {g with wt:=none} b j=g.held j:=fun b=>by unfold eR.val;rw[if_neg hj]
     rw[e] at this
     rw[e]
     exact this
   obj:=r.obj,inj:=r.inj,lo:=r.lo,nx:=r.nx,wt:=r.wt,below:=r.below,hB:=r.hB,N0:=r.N0,fr:=r.fr
   kc:=by have:=r.kc;cases d<;>exact this}
def AR (P:Program) (g:eR) (k:Wt) (late:List Nat) (l:List Oper) (Q:Exit→DS→Prop) (done:List Nat) (δ:DS):Prop:=
 DC l.toArray (gz l.length done)→∀κ a w,Rel (Aj g k late (gz l.length done)) δ κ a w→nC g.ro P l.toArray (qO g Q) (As k late) (l.length - done.length) (gz l.length done) a w
def lK (l:List Oper) (done rs:List Nat):Bool:=Region.ready .any l.toArray (gz l.length done)==rs
variable {k:Wt} {late:List Nat} {l:List Oper} {dn:List Nat} {QD:Exit→DS→Prop}
theorem AR.done (i_:g.wt=none) (hr:lK l dn []=true) (h:QD .normal δ):AR P g k late l QD dn δ:=by
 intro _ κ a w r
 have wX:Region.ready .any l.toArray (gz l.length dn)=[]:=by simpa [lK] using hr
 have hp:qO g QD .normal a w:=⟨δ,κ,h,Hd i_ r⟩
 cases l.length - dn.length with
 |zero=>exact⟨wX,hp⟩
 |succ n=>exact⟨fun _=>hp,by rw[wX];simp⟩
theorem AR.all {rs:List Nat} (hl:aY dn.length l.length=true) (hr:lK l dn rs=true) (fW:rs≠ []) (h:∀i∈rs,∃o,l[i]? =some o∧
  a_ .plain P (Aj g k late (gz l.length (i::dn))) l.toArray [o] (jJ (AR P g k late l QD (i::dn))) δ):AR P g k late l QD dn δ:=by
 intro uC κ a w r
 have wX:Region.ready .any l.toArray (gz l.length dn)=rs:=by simpa [lK] using hr
 have Xo:dn.length<l.length:=by simpa using hl
 obtain⟨n,hn⟩:∃n,l.length - dn.length=n+1:=⟨l.length - dn.length - 1,by omega⟩
 rw[hn]
 refine⟨fun h0=>absurd (wX▸h0) fW,fun i hi=>?_⟩
 have kb:=hi
 rw[wX] at hi
 obtain⟨o,ho,hA⟩:=h i hi
 have fZ:l.toArray[i]? =some o:=by simpa using ho
 have h1:=hA κ a w (Bz i r)
 have Pm:DC l.toArray (gz l.length (i::dn)):=uC.ready kb
 have wj:∀a' w',lift (Aj g k late (gz l.length (i::dn))) (jJ (AR P g k late l QD (i::dn))) .normal a' w'→
   As k late ((gz l.length dn).setIfInBounds i true) w'∧nC g.ro P l.toArray (qO g QD) (As k late) n ((gz l.length dn).setIfInBounds i true) a' w':=by
  rintro a' w' ⟨δ',κ',h2,r2⟩
  refine⟨M7 r2,?_⟩
  have h3:=h2 Pm κ' a' w' r2
  have e1:l.length - (i::dn).length=n:=by simp;omega
  rw[e1] at h3
  exact h3
 have PX:wpListIn (Fw g.ro) 0 P l.toArray (lift (Aj g k late (gz l.length (i::dn))) (jJ (AR P g k late l QD (i::dn)))) [o] a w:=h1
 unfold wpListIn at PX
 unfold wpOpIn
 simp only[fZ]
 have kY:∀e a w,lift (Aj g k late (gz l.length (i::dn))) (jJ (AR P g k late l QD (i::dn))) e a w→e=.normal:=by
  rintro e a w ⟨δ',κ',h2,_⟩
  cases e<;>first|rfl|exact h2.elim
 split
 ·rename_i hw
  rw[if_pos hw] at PX
  obtain⟨h2,h3⟩:=PX
  refine⟨h2,?_⟩
  revert h3
  generalize (o.semAt (Fw g.ro).round a.eval).run P w=res
  intro h3
  cases res with
  |ok x w'=>
   cases x<;>simp only[Oper.uponIn] at h3 ⊢
   case value u=>exact wj _ _ h3
   case skip=>exact wj _ _ h3
   case defer d=>exact wj _ _ h3
   case enter f args=>
    refine⟨h3.1,CallsIn.mono h3.2 fun e w'' he=>?_⟩
    cases e with
    |returned u=>exact wj _ _ he
    |panicked c=>exact absurd (kY _ _ _ he) (by simp)
    |outgrown=>
     exfalso
     obtain⟨a2,w2,he⟩:=he
     have:=kY _ _ _ he
     cases this
   case row row args=>exact⟨h3.1,RowsIn.mono h3.2 fun u w'' he=>wj _ _ he⟩
   case round l' f tmps assign body=>
    refine⟨h3.1,RoundIn.mono h3.2 fun e w'' he=>?_⟩
    cases e with
    |returned u=>exact wj _ _ he
    |panicked c=>exact absurd (kY _ _ _ he) (by simp)
    |outgrown=>
     exfalso
     obtain⟨a2,w2,he⟩:=he
     have:=kY _ _ _ he
     cases this
  |halt x w'=>
   cases x<;>simp only[Oper.uponIn] at h3 ⊢
   case panic u=>exact absurd (kY _ _ _ h3) (by simp)
 ·rename_i hw
  rw[if_neg hw] at PX
  exact⟨PX.1,wj _ _ PX.2⟩
theorem AR.step1 {i:Nat} {o:Oper} (hl:aY dn.length l.length=true) (hr:lK l dn [i]=true) (ho:l[i]? =some o)
  (h:∀g':eR,Gs g' g→(∀j,k.2.2≤j→g'.ni j)→a_ .plain P g' l.toArray [o] (jJ (AR P g k late l QD (i::dn))) δ):AR P g k late l QD dn δ:=
 AR.all hl hr (by simp) fun i' kb=>by
  simp only[cq] at kb
  subst kb
  refine⟨o,ho,h _ ⟨rfl,rfl,rfl⟩ fun j hj k' lV=>?_⟩
  have:(if gQ late (gz l.length (i'::dn))=true then none else some k)=some k':=lV
  split at this
  ·cases this
  ·cases this;exact hj
theorem AR.vA {i:Nat} {o:Oper} (hl:aY dn.length l.length=true) (hr:lK l dn [i]=true) (ho:l[i]? =some o) (fm:gQ late (gz l.length (i::dn))=true)
  (h:∀g':eR,Gs g' g→g'.wt=none→a_ .plain P g' l.toArray [o] (jJ (AR P g k late l QD (i::dn))) δ):AR P g k late l QD dn δ:=
 AR.all hl hr (by simp) fun i' kb=>by
  simp only[cq] at kb
  subst kb
  exact⟨o,ho,h _ ⟨rfl,rfl,rfl⟩ (if_pos fm)⟩
theorem AR.step2 {i j:Nat} {o p:Oper} (hl:aY dn.length l.length=true) (hr:lK l dn [i,j]=true) (ho:l[i]? =some o) (hp:l[j]? =some p)
  (h:∀g':eR,Gs g' g→(∀j,k.2.2≤j→g'.ni j)→a_ .plain P g' l.toArray [o] (jJ (AR P g k late l QD (i::dn))) δ)
  (h':∀g':eR,Gs g' g→(∀j,k.2.2≤j→g'.ni j)→a_ .plain P g' l.toArray [p] (jJ (AR P g k late l QD (j::dn))) δ):AR P g k late l QD dn δ:=
 AR.all hl hr (by simp) fun i' kb=>by
  have hw:∀i',∀j,k.2.2≤j→(Aj g k late (gz l.length (i'::dn))).ni j:=by
   intro i' j hj k' lV
   have:(if gQ late (gz l.length (i'::dn))=true then none else some k)=some k':=lV
   split at this
   ·cases this
   ·cases this;exact hj
  simp only[bw,cy,or_false] at kb
  rcases kb with rfl|rfl
  ·exact⟨o,ho,h _ ⟨rfl,rfl,rfl⟩ (hw _)⟩
  ·exact⟨p,hp,h' _ ⟨rfl,rfl,rfl⟩ (hw _)⟩
def fS (P:Program) (o:Oper) (δ:DS) (v:AV):Prop:=∀(g:eR) κ a w,Rel g δ κ a w→∃u,(∀w',(execOp a.eval o).run P w'=.ok (.value u) w')∧RA (δ.cx g κ) w u v
def vy (l:List Oper) (late dn:List Nat) (i:Nat):Bool:=
 Region.noSelect l.toArray && l.all jC && (Region.ready .any l.toArray (gz l.length dn)).contains i && Region.free .any l.toArray (gz l.length dn) i && !late.contains i && aY dn.length l.length
theorem AR.free (i:Nat) {o:Oper} {v:AV} (hB:vy l late dn i=true) (ho:l[i]? =some o) (hg:o.guard=none) (hd:fO δ.n o.dst=true) (hF:fS P o δ v) (h:AR P g k late l QD (i::dn) (δ.eS o.dst v)):AR P g k late l QD dn δ:=by
 intro uC κ a w r
 simp only[vy,aZ,cz] at hB
 obtain⟨⟨⟨⟨⟨hs,jl⟩,hr⟩,hf⟩,TG⟩,hl⟩:=hB
 have Xo:dn.length<l.length:=by simpa using hl
 obtain⟨n,hn⟩:∃n,l.length - dn.length=n+1:=⟨l.length - dn.length - 1,by omega⟩
 obtain⟨u,hu,sJ⟩:=hF _ κ a w r
 have wX:i∈Region.ready .any l.toArray (gz l.length dn):=by simpa using hr
 have fZ:l.toArray[i]? =some o:=by simpa using ho
 have Pm:DC l.toArray (gz l.length (i::dn)):=uC.ready wX
 have r2:Rel (Aj g k late (gz l.length (i::dn))) (δ.eS o.dst v) κ (a.put o.dst u) w:=(Bz i r).eS (fi hd) sJ
 have h2:=h Pm κ _ w r2
 have e1:l.length - (i::dn).length=n:=by simp;omega
 rw[e1] at h2
 rw[hn]
 refine sc (C:=fun _=>True) fZ (Region.noSelect_spec hs) (fun j o hj=>?_) (fun c a w h=>yn h) (fun _ _ _ _ _=>trivial) (fun listed w=>?_) n _ a w uC (Region.free_spec fZ hf) wX (.inl ⟨by simp [Region.wanted,hg],fun w' _=>hu w'⟩) (M7 r) h2
 ·exact(bD.1 jl) o (aU (by simpa using hj))
 ·unfold As;rw[vo TG]
def oG (ops:Array Oper) (i:Nat):Nat→Nat→Bool
 |0,_=>false
 |n+1,j=>match ops[j]? with
  |some o=>o.after.any fun e=>Region.binds .any e && (e.on==i||oG ops i n e.on)
  |none=>false
theorem A0 {ops:Array Oper} {i:Nat} {listed:Array Bool} (uC:DC ops listed):∀n j,oG ops i n j=true→listed.getD j false=true→listed.getD i false=true:=by
 intro n
 induction n with
 |zero=>intro j h;simp [oG] at h
 |succ n ih=>
  intro j h hj
  unfold oG at h
  cases ho:ops[j]? with
  |none=>rw[ho] at h;cases h
  |some o=>
   rw[ho] at h
   simp only at h
   obtain⟨e,he,hb⟩:=Array.any_eq_true'.1 h
   simp only[aZ,Bool.or_eq_true,beq_iff_eq] at hb
   have h1:=uC j o ho hj e he hb.1
   rcases hb.2 with h2|h2
   ·rw[← h2];exact h1
   ·exact ih _ h2 h1
def tL (l:List Oper) (late:List Nat):List Nat→List Nat→Bool
 |[],_=>true
 |i::r,dn=>vy l late dn i && late.all (oG l.toArray i l.length) && tL l late r (i::dn)
def pick (l:List Oper) (is:List Nat):List Oper:=is.filterMap (l[·]?)
theorem Ji {κ1:Kp} {w1:World} {k:Wt} {δ0:DS} (EJ:k.1=w1) (rE:k.2.1=fun b=>b<w1.heap.size∧((∀i,δ0.lr i→κ1 i≠some b)∧¬κ1.Fs b)) {post:Act→Prop} {N:Nat}:
  ∀(l1 dn:List Nat) (a:Act),tL l late l1 dn=true→DC l.toArray (gz l.length dn)→As k late (gz l.length dn) w1→wc P l.toArray (kB δ0 κ1 w1) post (pick l l1) a→
   (∀a',post a'→DC l.toArray (gz l.length (l1.reverse++dn))→nC ro P l.toArray (qO g QD) (As k late) N (gz l.length (l1.reverse++dn)) a' w1)→nC ro P l.toArray (qO g QD) (As k late) (l1.length+N) (gz l.length dn) a w1:=by
 intro l1
 induction l1 with
 |nil=>intro dn a _ uC _ h hp;simpa using hp a h uC
 |cons i r ih=>
  intro dn a hB uC hS h hp
  simp only[tL,vy,aZ,cz] at hB
  obtain⟨⟨⟨⟨⟨⟨⟨hs,jl⟩,hr⟩,hf⟩,TG⟩,hl⟩,SC⟩,QS⟩:=hB
  have wX:i∈Region.ready .any l.toArray (gz l.length dn):=by simpa using hr
  obtain⟨_,o,fZ,_⟩:=mem_ready.1 wX
  have ho:l[i]? =some o:=by simpa using fZ
  have YJ:pick l (i::r)=o::pick l r:=by simp [pick,ho]
  rw[YJ] at h
  obtain⟨v,hy,h⟩:=h
  have mq:∀listed w,As k late (listed.setIfInBounds i true) w↔As k late listed w:=fun listed w=>by unfold As;rw[vo TG]
  have UU:(i::r).length+N=(r.length+N)+1:=by simp;omega
  rw[UU]
  refine sc (C:=kB δ0 κ1 w1) fZ (Region.noSelect_spec hs) (fun j o hj=>?_) (fun c a w h=>yn h) (fun listed w hd hi hSl=>?_) mq _ _ a w1 uC (Region.free_spec fZ hf) wX hy hS ?_
  ·exact(bD.1 jl) o (aU (by simpa using hj))
  ·have kY:gQ late listed=false:=by
    unfold gQ
    rw[List.any_eq_false]
    intro j hj qz
    have h1:=A0 hd _ _ ((bD.1 SC) j hj) qz
    rcases cv i listed.size with h'|h'
    ·simp [h'] at hi h1;rw[hi] at h1;cases h1
    ·simp [cw h'] at h1
   have h2:=hSl kY
   rw[EJ,rE] at h2
   exact fun b hb hn=>(h2 b ⟨hb,hn⟩).2
  ·have:=ih (i::dn) (a.put o.dst v) QS (uC.ready wX) ((mq _ _).2 hS) h
   refine this fun a' Li uH=>?_
   have e:(i::r).reverse++dn=r.reverse++i::dn:=by simp
   rw[← e]
   exact hp a' Li (by rw[e];exact uH)
theorem DC.start (l:List Oper):DC l.toArray (gz l.length []):=by
 intro j o _ hj
 have:(ca l.length false).getD j false=true:=hj
 simp [Array.getElem?_replicate] at this
 split at this<;>cases this
theorem AW.yK {id:Nat} (l1:List Nat) (late:List Nat) {l:List Oper} (hm:P.follows .mixedOrders=true) (i_:g.wt=none) (hB:tL l late l1 []=true) (hle:bz l1.length l.length=true)
  (h:a_ .held P g l.toArray (pick l l1) (jJ fun δ'=>∀k:Wt,k.2.2=δ.nx→AR P g k late l QD l1.reverse δ') δ):AW P g (.region id l.toArray true) QD δ:=by
 intro κ a w r
 have F8:l1.length≤l.length:=by simpa using hle
 have r1:Rel g δ κ a {w with drawn:=w.drawn+1}:=r.ext (Below.drew (Below.refl _ _))
 have h1:=h κ a _ r1
 obtain⟨k,hk⟩:∃k:Wt,k=({w with drawn:=w.drawn+1},(fun b=>b<w.heap.size∧((∀i,δ.lr i→κ i≠some b)∧¬κ.Fs b)),δ.nx):=⟨_,rfl⟩
 refine wpIn_mono (Q:=qO g QD) (wpIn_region_any hm (wM (S:=As k late) _ _ _ _ ?_)) (fun e a w h=>by
  cases e with
  |normal=>exact h
  |panic c=>
   obtain⟨δ',κ',h1,_,r'⟩:=h
   have e:({g with wt:=none}:eR)=g:=by cases g;cases i_;rfl
   rw[e] at r'
   exact⟨δ',κ',h1,r'⟩
  |_=>exact h.elim)
 have nE:As k late (gz l.length []) {w with drawn:=w.drawn+1}:=fun _ b hb=>by subst hk;exact⟨hb.1,rfl⟩
 have h2:=Ji (ro:=g.ro) (g:=g) (QD:=QD) (late:=late) (l:=l) (P:=P) (δ0:=δ) (κ1:=κ) (w1:={w with drawn:=w.drawn+1}) (k:=k) (by rw[hk]) (by rw[hk]) (N:=l.length - l1.length) l1 [] a hB (DC.start l) nE h1 (fun a' Li uH=>by
  obtain⟨δ',hq,Gh,r2⟩:=Li
  have h3:=hq k (by rw[hk]) (by simpa using uH) κ a' {w with drawn:=w.drawn+1} (by
   have iQ:∀i,δ'.ob i=δ.ob i:=fun i=>by unfold DS.ob;rw[Gh]
   refine Rel.LF r2 (wt':=if gQ late (gz l.length l1.reverse)=true then none else some k) (fun k' lV=>?_) (fun k' lV b hb xx=>?_)
   rotate_left
   ·split at lV
    ·cases lV
    ·cases lV
     subst hk
     exact xx.2.2 hb
   split at lV
   ·cases lV
   ·cases lV
    subst hk
    refine⟨fun b hb=>⟨hb.1,rfl⟩,fun i b Ct vM hκ hb=>?_⟩
    rcases vM with vM|vM
    ·exact hb.2.1 i (by have:δ'.ob i=some .row:=vM;rw[iQ] at this;exact this) hκ
    ·obtain⟨o,Ct⟩:=Ct
     rw[iQ] at Ct
     exact absurd (r.nx i ⟨o,Ct⟩) (Nat.not_lt.2 vM))
  simpa using h3)
 have e:l1.length+(l.length - l1.length)=l.toArray.size:=by simp;omega
 rw[e] at h2
 have e2:gz l.length []=ca l.toArray.size false:=by simp [gz]
 rw[e2] at h2
 exact h2
end Go.Ab
/- Maps with whole numbers as keys:read,grown,written. -/
namespace Go.Ab
open Go Go.RowKit
variable {q:Md} {P:Program} {g:eR} {δ:DS} {κ:Kp} {a:Act} {w:World}
variable {gd:Option (Tmp×Bool)} {ops:Array Oper} {rest:List Oper} {Q:Exit→DS→Prop} {dst:Option Nat} {ty:TypeId} {pos:String} {af:Array Edge}
def jK:List (Int×AV)→Int→Option AV
 |[],_=>none
 |(k,v)::l,m=>if m=k then some v else jK l m
def jL (l:List (Int×AV)):List (Value×AV):=l.map fun p=>(.int .i64 p.1,p.2)
def lZ (xs:List Int):List (Int×AV):=xs.map fun x=>(x,fh true)
theorem yt (xs:List Int) (m:Int):jK (lZ xs) m=if m∈xs then some (fh true) else none:=by
 induction xs with
 |nil=>rfl
 |cons x xs ih=>
  show(if m=x then some (fh true) else jK (lZ xs) m)=_
  by_cases h:m=x
  ·simp [h]
  ·simp [h,ih]
theorem ot {C:Cx} {w:World} (m:Int):∀(es:List MapEntry) (l:List (Int×AV)) (i:Nat),es.length=l.length→
  (∀(j:Nat) (e:MapEntry) (p:Int×AV),es[j]? =some e→l[j]? =some p→e.key=.int .i64 p.1∧RA C w e.val p.2)→
  (jK l m=none∧Instr.findNow (.int .i64) (.int .i64 m) es i=some none)∨
  (∃(j:Nat) (e:MapEntry) (v:AV),jK l m=some v∧Instr.findNow (.int .i64) (.int .i64 m) es i=some (some (i+j,e.val))∧es[j]? =some e∧l[j]? =some (m,v)∧RA C w e.val v):=by
 intro es
 induction es with
 |nil=>intro l i hs _;have:l=[]:=bj hs.symm;subst this;exact .inl ⟨rfl,rfl⟩
 |cons e es ih=>
  intro l i hs h
  cases l with
  |nil=>simp at hs
  |cons p l=>
   obtain⟨k,v⟩:=p
   have h0:=h 0 e (k,v) rfl rfl
   by_cases hk:m=k
   ·subst hk
    refine .inr ⟨0,e,v,by simp [jK],?_,rfl,rfl,h0.2⟩
    simp [Instr.findNow,h0.1,Instr.sameNow]
   ·have hf:Instr.findNow (.int .i64) (.int .i64 m) (e::es) i=Instr.findNow (.int .i64) (.int .i64 m) es (i+1):=by
     have hb:(m==k)=false:=by simp [hk]
     simp [Instr.findNow,h0.1,Instr.sameNow,hb]
    rcases ih l (i+1) (by simpa using hs) (fun j e p h1 h2=>h (j+1) e p (by simpa using h1) (by simpa using h2)) with ⟨h1,h2⟩|⟨j,e',v',h1,h2,h3,h4,h5⟩
    ·exact .inl ⟨by simp [jK,hk,h1],hf.trans h2⟩
    ·exact .inr ⟨j+1,e',v',by simp [jK,hk,h1],by rw[hf,h2];simp;omega,by simpa using h3,by simpa using h4,h5⟩
theorem Rel.PR (r:Rel g δ κ a w) {u:Value} {i:Nat} {l:List (Value×AV)} (h:RA (δ.cx g κ) w u (.gq i)) (ho:δ.ob i=some (.mp l)):
  ∃b es clock,u=.map (some b)∧κ i=some b∧w.heap[b]? =some (.map es clock)∧kR (δ.cx g κ) w es l∧pX es clock∧∀p∈l,p.2.km=true:=by
 cases h with
 | @gq _ b hl hκ=>
  obtain⟨b',es,clock,h1,h2,h3,h4⟩:=r.obj i _ ho
  have:b'=b:=Option.some.inj (h1.symm.trans hκ)
  subst this
  exact⟨b',es,clock,rfl,h1,h2,h3,h4⟩
theorem kR.jL {C:Cx} {w:World} {es:Array MapEntry} {l:List (Int×AV)} (h:kR C w es (jL l)):
  es.toList.length=l.length∧∀(j:Nat) (e:MapEntry) (p:Int×AV),es.toList[j]? =some e→l[j]? =some p→e.key=.int .i64 p.1∧RA C w e.val p.2:=by
 refine⟨by simpa [Ab.jL] using h.1,fun j e p h1 h2=>?_⟩
 exact h.2 j e (.int .i64 p.1,p.2) (by simpa using h1) (by simp [Ab.jL,h2])
theorem nm {kt:TypeId} {es:Array MapEntry} {m:Int} {x:Option (Nat×Value)} (hk:P.underlying kt=some (.int .i64)) (h:Instr.findNow (.int .i64) (.int .i64 m) es.toList 0=some x) (w:World):(Instr.findKey kt (.int .i64 m) es.toList).run P w=.ok x w:=MapKept.run_findKey hk h
theorem oM {t kt et:TypeId} {b:Nat} {es:Array MapEntry} {clock:Nat} {m:Int} {z:Value} {x:Option (Nat×Value)} {w:World} (ht:P.underlying t=some (.map kt et)) (hk:P.underlying kt=some (.int .i64)) (hz:(P.info? et).bind (·.zero)=some z)
  (hb:w.heap[b]? =some (.map es clock)) (h:Instr.findNow (.int .i64) (.int .i64 m) es.toList 0=some x) (ok:Bool):
  (Instr.lookup t (.map (some b)) (.int .i64 m) ok).run P w=.ok (if ok then .tuple #[(x.map (·.2)).getD z,.bool x.isSome] else (x.map (·.2)).getD z) w:=by
 have Ai:∀w,(zeroValue et).run P w=.ok z w:=fun w=>by
  cases hi:P.info? et with
  |none=>rw[hi] at hz;simp at hz
  |some i=>rw[hi] at hz;simp at hz;simp [zeroValue,typeInfo,hi,hz]
 have HG:∀e,(Instr.checkKey e (9999+1) kt (.int .i64 m)).run P w=.ok () w:=fun e=>MapKept.run_checkKey hk (by simp [MapKept.IsKey]) e 9999
 cases x with
 |none=>simp [Instr.lookup,run_underlying ht,MapKept.run_getObj_map hb,HG,nm hk h,Ai]
 |some p=>simp [Instr.lookup,run_underlying ht,MapKept.run_getObj_map hb,HG,nm hk h]
theorem a_.lookup {x y:Operand} {t kt et:TypeId} {i:Nat} {l:List (Int×AV)} {m:Int} {z:Value} {v:AV} (hx:δ.ev x=.gq i) (iQ:δ.ob i=some (.mp (jL l))) (hy:δ.ev y=eV m) (ht:P.underlying t=some (.map kt et)) (hk:P.underlying kt=some (.int .i64)) (hz:(P.info? et).bind (·.zero)=some z)
  (hv:(jK l m).getD (.pv (.lit z))=v) (ho:ff x=true) (fZ:ff y=true) (hd:fO δ.n dst=true) (hK:a_ q P g ops rest Q (δ.eS dst v)):a_ q P g ops (⟨dst,.lookup t x y false,ty,pos,af,none⟩::rest) Q δ:=
 a_.jc _ hd (fun κ a w r=>by
  obtain⟨b,es,clock,h1,h2,h3,h4,h5,z_⟩:=r.PR (r.ra hx ho) iQ
  obtain⟨h6,h7⟩:=h4.jL
  have hb:∀w',kB δ κ w w'→w'.heap[b]? =some (.map es clock):=fun w' iP=>(iP b (iv h3) (r.y6 ⟨_,iQ,rfl⟩ h2)).trans h3
  subst hv
  rcases ot m es.toList l 0 h6 h7 with ⟨h8,h9⟩|⟨j,e,v',h8,h9,ub,q7,Ce⟩
  ·refine⟨z,fun w' iP=>?_,by rw[h8];exact .pv (.lit _)⟩
   have:=oM ht hk hz (hb w' iP) h9 false
   simp [execOp,r.lit hy fZ,h1,this]
  ·refine⟨e.val,fun w' iP=>?_,by rw[h8];exact Ce⟩
   have:=oM ht hk hz (hb w' iP) h9 false
   simp [execOp,r.lit hy fZ,h1,this]) hK
theorem a_.rA {x y:Operand} {t kt et:TypeId} {i:Nat} {xs:List Int} {m:Int} (hx:δ.ev x=.gq i) (iQ:δ.ob i=some (.mp (jL (lZ xs)))) (hy:δ.ev y=eV m) (ht:P.underlying t=some (.map kt et)) (hk:P.underlying kt=some (.int .i64)) (hz:(P.info? et).bind (·.zero)=some (.bool false))
  (ho:ff x=true) (fZ:ff y=true) (hd:fO δ.n dst=true) (hK:a_ q P g ops rest Q (δ.eS dst (fh (decide (m∈xs))))):a_ q P g ops (⟨dst,.lookup t x y false,ty,pos,af,none⟩::rest) Q δ:=
 a_.lookup hx iQ hy ht hk hz (by rw[yt];by_cases h:m∈xs<;>simp [h]) ho fZ hd hK
theorem iO.makeMap {t:TypeId} (hd:fO δ.n dst=true):iO P g ⟨dst,.makeMap t none,ty,pos,af,gd⟩ δ ((δ.fK (.mp (jL []))).eS dst (.gq δ.nx)):=by
 intro κ a w r
 have fu:(execOp a.eval ⟨dst,.makeMap t none,ty,pos,af,gd⟩).run P w=.ok (.value (.map (some w.heap.size))) (w.alloc (.map #[] 0)):=by
  have h0:(Instr.makeMap t none).run P w=.ok (.map (some w.heap.size)) (w.alloc (.map #[] 0)):=rfl
  simp [execOp,h0]
 obtain⟨r',G⟩:=r.grow (.mp (jL [])) (.map #[] 0) (fun C G hκ=>⟨w.heap.size, #[],0,hκ,heap_alloc_new w _,⟨rfl,fun j e p h=>by simp at h⟩,⟨rfl,fun j e h=>by simp at h⟩,fun p h=>by simp [jL] at h⟩)
 refine .inl ⟨_,_,_,_,fu,.inl rfl,r'.eS (fi hd) ?_⟩
 exact .gq ⟨_,by show(δ.fK _).ob _=_;rw[fU,if_pos rfl],rfl⟩ (by show gY _ _ _ _=_;simp [gY])
theorem a_.makeMap {t:TypeId} (hd:fO δ.n dst=true) (hK:a_ .plain P g ops rest Q ((δ.fK (.mp (jL []))).eS dst (.gq δ.nx))):a_ .plain P g ops (⟨dst,.makeMap t none,ty,pos,af,none⟩::rest) Q δ:=a_.r_ rfl rfl (iO.makeMap hd) hK
theorem ir.rT (w:World) (b:Nat) (o:Obj):ir w {w with heap:=w.heap.setIfInBounds b o} (some b):=
 ⟨rfl,rfl,rfl,by simp,fun k _ h=>by
  show(w.heap.setIfInBounds b o)[k]? =_
  rw[aS,if_neg (fun e=>h (by rw[e]))]⟩
theorem kV {w:World} {b:Nat} {o o':Obj} (h:w.heap[b]? =some o):({w with heap:=w.heap.setIfInBounds b o'}:World).heap[b]? =some o':=(MapKept.heap_set h).1
theorem jF (l l':List (Int×AV)):jL (l++l')=jL l++jL l':=by simp [jL]
theorem kR.push {C:Cx} {w:World} {es:Array MapEntry} {l:List (Int×AV)} {clock:Nat} (h:kR C w es (Ab.jL l)) (hs:pX es clock) (m:Int) {u:Value} {v:AV} (hu:RA C w u v):
  kR C w (es.push {key:=.int .i64 m,val:=u,born:=clock}) (Ab.jL (l++ [(m,v)]))∧pX (es.push {key:=.int .i64 m,val:=u,born:=clock}) (clock+1):=by
 have mZ:es.size=(Ab.jL l).length:=h.1
 refine⟨⟨by rw[jF];simp [mZ,Ab.jL],fun j e p h1 h2=>?_⟩,by simp [hs.1],fun j e h1=>?_⟩
 ·rw[jF] at h2
  rw[cA] at h1
  by_cases hj:j=es.size
  ·rw[if_pos hj] at h1
   cases h1
   rw[aV aJ,hj,mZ] at h2
   simp [Ab.jL] at h2
   subst h2
   exact⟨rfl,hu⟩
  ·rw[if_neg hj] at h1
   have fm:j<es.size:=(aO.1 h1).1
   rw[aT aJ] at h2
   exact h.2 j e p h1 h2
 ·rw[cA] at h1
  by_cases hj:j=es.size
  ·rw[if_pos hj] at h1;cases h1;rw[hs.1,hj]
  ·rw[if_neg hj] at h1;exact hs.2 j e h1
theorem iO.om {x y:Operand} {t kt et:TypeId} {i:Nat} {l:List (Int×AV)} {m:Int} {z:Value} (hx:δ.ev x=.gq i) (iQ:δ.ob i=some (.mp (jL l))) (hy:δ.ev y=eV m) (hn:jK l m=none) (ht:P.underlying t=some (.map kt et)) (hk:P.underlying kt=some (.int .i64)) (hz:(P.info? et).bind (·.zero)=some z)
  (ho:ff x=true) (fZ:ff y=true) (hd:fO δ.n dst=true) (CJ:g.ni i):
  iO P g ⟨dst,.mapEntry t x y,ty,pos,af,gd⟩ δ ((δ.ga i (some (.mp (jL (l++ [(m,.pv (.lit z))]))))).eS dst (.gX [.pv (.lit z),eV l.length])):=by
 intro κ a w r
 obtain⟨b,es,clock,h1,h2,h3,h4,h5,z_⟩:=r.PR (r.ra hx ho) iQ
 obtain⟨h6,h7⟩:=h4.jL
 have Ai:∀w,(zeroValue et).run P w=.ok z w:=fun w=>by
  cases hi:P.info? et with
  |none=>rw[hi] at hz;simp at hz
  |some i=>rw[hi] at hz;simp at hz;simp [zeroValue,typeInfo,hi,hz]
 have HG:∀e,(Instr.checkKey e (9999+1) kt (.int .i64 m)).run P w=.ok () w:=fun e=>MapKept.run_checkKey hk (by simp [MapKept.IsKey]) e 9999
 have hf:Instr.findNow (.int .i64) (.int .i64 m) es.toList 0=some none:=by
  rcases ot m es.toList l 0 h6 h7 with ⟨h8,h9⟩|⟨j,e,v',h8,h9,ub,q7,Ce⟩
  ·exact h9
  ·rw[hn] at h8;cases h8
 have fu:(execOp a.eval ⟨dst,.mapEntry t x y,ty,pos,af,gd⟩).run P w=.ok (.value (.tuple #[z,.int .i64 clock])) {w with heap:=w.heap.setIfInBounds b (.map (es.push {key:=.int .i64 m,val:=z,born:=clock}) (clock+1))}:=by
  simp [execOp,r.lit hy fZ,h1,Instr.mapEntry,run_underlying ht,MapKept.run_getObj_map h3,HG,nm hk hf,Ai,MapKept.run_setObj_map _ h3,goInt]
 have iR:(clock:Int)=(l.length:Int):=by
  have:es.size=l.length:=by simpa using h6
  rw[h5.1,this]
 obtain⟨r',G⟩:=r.modify (o':=.mp (jL (l++ [(m,.pv (.lit z))]))) iQ rfl rfl h2 CJ (ir.rT w b (.map (es.push {key:=.int .i64 m,val:=z,born:=clock}) (clock+1))) (by simp) (fun C hC G=>by
  have h8:kR C {w with heap:=w.heap.setIfInBounds b (.map (es.push {key:=.int .i64 m,val:=z,born:=clock}) (clock+1))} es (jL l):=h4.goes G
  obtain⟨h9,ub⟩:=h8.push h5 m (u:=z) (v:=.pv (.lit z)) (.pv (.lit _))
  exact⟨b,_,_,by rw[hC];exact h2,kV h3,h9,ub,fun p hp=>by
   rw[jF] at hp
   rcases bX.1 hp with hp|hp
   ·exact z_ p hp
   ·simp [jL] at hp;subst hp;rfl⟩)
 refine .inl ⟨_,_,_,_,fu,.inl rfl,r'.eS (fi hd) ?_⟩
 exact CG (.pv (.lit _)) (by rw[iR];exact .pv (.lit _))
theorem iO.uM {x y s:Operand} {t:TypeId} {i n:Nat} {l:List (Int×AV)} {m:Int} {v0 v:AV} (hx:δ.ev x=.gq i) (iQ:δ.ob i=some (.mp (jL (l++ [(m,v0)])))) (hs:δ.ev s=eV n) (hn:n=l.length) (hy:δ.ev y=v) (KV:v.km=true)
  (ho:ff x=true) (rX:ff s=true) (fZ:ff y=true) (hd:fO δ.n dst=true) (CJ:g.ni i):
  iO P g ⟨dst,.entryStore t x s y,ty,pos,af,gd⟩ δ ((δ.ga i (some (.mp (jL (l++ [(m,v)]))))).eS dst .any):=by
 intro κ a w r
 subst hn
 obtain⟨b,es,clock,h1,h2,h3,h4,h5,z_⟩:=r.PR (r.ra hx ho) iQ
 have vW:=r.ra hy fZ
 have mZ:es.size=l.length+1:=by have:=h4.1;simpa [jL] using this
 have Lj:es.findIdx? (fun e=>(e.born:Int)==(l.length:Int))=some l.length:=by
  rw[Array.findIdx?_eq_some_iff_getElem]
  refine⟨by omega,?_,fun j hj=>?_⟩
  ·have:=h5.2 l.length es[l.length] (aN aJ)
   simp [this]
  ·have:=h5.2 j es[j] (aN aJ)
   simp only[this]
   simp
   omega
 have fu:(execOp a.eval ⟨dst,.entryStore t x s y,ty,pos,af,gd⟩).run P w=.ok .skip {w with heap:=w.heap.setIfInBounds b (.map (es.modify l.length fun e=>{e with val:=a.eval y}) clock)}:=by
  have hai:∀w,(asInt (.int .i64 (l.length:Int))).run P w=.ok (l.length:Int) w:=fun _=>rfl
  simp only[execOp,r.lit hs rX,h1,Instr.entryStore,Sem.run_bind,MapKept.run_getObj_map h3,Result.andThen_ok,hai,Lj,MapKept.run_setObj_map _ h3,Sem.run_pure]
 obtain⟨r',G⟩:=r.modify (o':=.mp (jL (l++ [(m,v)]))) iQ rfl rfl h2 CJ (ir.rT w b (.map (es.modify l.length fun e=>{e with val:=a.eval y}) clock)) (by simp) (fun C hC G=>by
  refine⟨b,_,_,by rw[hC];exact h2,kV h3,⟨by simp [jL,mZ],fun j e p h8 h9=>?_⟩,⟨by simp [h5.1],fun j e h8=>?_⟩,fun p hp=>?_⟩
  ·rw[cB] at h8
   rw[jF] at h9
   by_cases hj:l.length=j
   ·rw[if_pos hj] at h8
    subst hj
    rw[bg] at h8
    obtain⟨e0,h8,rfl⟩:=h8
    rw[aV (by simp [jL])] at h9
    simp [jL] at h9
    subst h9
    refine⟨?_,G.ra vW⟩
    exact(h4.2 l.length e0 (.int .i64 m,v0) h8 (by rw[jF,aV (by simp [jL])];simp [jL])).1
   ·rw[if_neg hj] at h8
    have fm:j<l.length:=by have:=(aO.1 h8).1;omega
    rw[aT (by simpa [jL] using fm)] at h9
    obtain⟨ub,q7⟩:=h4.2 j e p h8 (by rw[jF,aT (by simpa [jL] using fm)];exact h9)
    exact⟨ub,G.ra q7⟩
  ·rw[cB] at h8
   by_cases hj:l.length=j
   ·rw[if_pos hj] at h8
    rw[bg] at h8
    obtain⟨e0,h8,rfl⟩:=h8
    exact h5.2 j e0 h8
   ·rw[if_neg hj] at h8;exact h5.2 j e h8
  ·rw[jF] at hp
   rcases bX.1 hp with hp|hp
   ·exact z_ p (by rw[jF];exact bX.2 (.inl hp))
   ·simp [jL] at hp;subst hp;exact KV)
 exact .inl ⟨_,_,_,_,fu,.inr ⟨rfl,rfl⟩,r'.eS (fi hd) (.any _)⟩
theorem B_ (xs:List Int) (m:Int):lZ (xs++ [m])=lZ xs++ [(m,fh true)]:=by simp [lZ]
end Go.Ab
namespace Go.Ab
section
variable {q:Md} {P:Program} {g:eR} {δ:DS} {ops:Array Oper} {rest:List Oper} {Q:Exit→DS→Prop} {dst:Option Nat} {ty:TypeId} {pos:String} {af:Array Edge}
theorem a_.lE {fn:Go.Fn} {x:Operand} {i o:Nat} (hx:δ.ev x=.ptr i o) (ho:ff x=true) (hd:fO δ.n dst=true) (hK:a_ q P g ops rest Q (δ.eS dst (.jk fn [] [.ptr i o]))):a_ q P g ops (⟨dst,.makeFunc fn #[] #[x],ty,pos,af,none⟩::rest) Q δ:=
 a_.jc _ hd (fun κ a w r=>⟨.func fn #[] #[a.eval x],fun w' _=>by simp [execOp,Instr.makeFunc],.jk rfl (fun j u c h=>by simp at h) rfl (fun j u c h1 h2=>by
  match j with
  |0=>simp at h1 h2;subst h1;subst h2;exact r.ra hx ho
  |j+1=>simp at h2)⟩) hK
theorem a_.CK {fn:Go.Fn} {x:Operand} {i o:Nat} (hx:δ.ev x=.ptr i o) (ho:ff x=true) (hd:fO δ.n dst=true) (hK:a_ q P g ops rest Q (δ.eS dst (.jk fn [.ptr i o] []))):a_ q P g ops (⟨dst,.makeFunc fn #[x] #[],ty,pos,af,none⟩::rest) Q δ:=
 a_.jc _ hd (fun κ a w r=>⟨.func fn #[a.eval x] #[],fun w' _=>by simp [execOp,Instr.makeFunc],.jk rfl (fun j u c h1 h2=>by
  match j with
  |0=>simp at h1 h2;subst h1;subst h2;exact r.ra hx ho
  |j+1=>simp at h2) rfl (fun j u c h=>by simp at h)⟩) hK
theorem a_.j7 {x:Operand} {fn:Go.Fn} {a b:List AV} (hx:δ.ev x=.jk fn a b) (ho:ff x=true) (hd:fO δ.n dst=true) (hK:a_ q P g ops rest Q (δ.eS dst (.jk fn a b))):a_ q P g ops (⟨dst,.move x,ty,pos,af,none⟩::rest) Q δ:=a_.move hx ho hd hK
end
end Go.Ab
namespace Go.Ab
section
variable {P:Program} {δ:DS} {dst:Option Nat} {ty:TypeId} {pos:String} {af:Array Edge} {gd:Option (Tmp×Bool)}
theorem fS.iu {x:Operand} {p:PV} (hx:δ.ev x=.pv p) (ho:ff x=true):fS P ⟨dst,.move x,ty,pos,af,gd⟩ δ (.pv p):=fun _ _ a _ r=>⟨a.eval x,fun _=>rfl,hx▸r.CB x (iD ho)⟩
theorem fS.fH {x:Operand} {i o:Nat} (hx:δ.ev x=.ptr i o) (ho:ff x=true):fS P ⟨dst,.move x,ty,pos,af,gd⟩ δ (.ptr i o):=fun _ _ a _ r=>⟨a.eval x,fun _=>rfl,hx▸r.CB x (iD ho)⟩
theorem fS.nilCheck {x:Operand} {i o:Nat} (hx:δ.ev x=.ptr i o) (ho:ff x=true):fS P ⟨dst,.nilCheck x,ty,pos,af,gd⟩ δ (.ptr i o):=fun _ _ a _ r=>by
 have h1:=r.ra hx ho
 generalize hu:a.eval x=u at h1
 cases h1 with
 |ptr hl hκ=>exact⟨_,fun w'=>by simp [execOp,hu],.ptr hl hκ⟩
end
section
variable {P:Program} {g:eR} {δ:DS} {ops:Array Oper} {rest:List Oper} {Q:Exit→DS→Prop} {dst:Option Nat} {ty:TypeId} {pos:String} {af:Array Edge}
theorem a_.om {x y:Operand} {t kt et:TypeId} {i:Nat} {xs:List Int} {m:Int} (hx:δ.ev x=.gq i) (iQ:δ.ob i=some (.mp (jL (lZ xs)))) (hy:δ.ev y=eV m) (ht:P.underlying t=some (.map kt et)) (hk:P.underlying kt=some (.int .i64)) (hz:(P.info? et).bind (·.zero)=some (.bool false))
  (ho:ff x=true) (fZ:ff y=true) (hd:fO δ.n dst=true) (i_:g.wt=none) (hn:m∉xs)
  (hK:a_ .plain P g ops rest Q ((δ.ga i (some (.mp (jL (lZ xs++ [(m,fh false)]))))).eS dst (.gX [fh false,eV xs.length]))):a_ .plain P g ops (⟨dst,.mapEntry t x y,ty,pos,af,none⟩::rest) Q δ:=
 a_.r_ rfl rfl (iO.om hx iQ hy (by rw[yt,if_neg hn]) ht hk hz ho fZ hd (jM i_ i)) (by simpa [lZ] using hK)
theorem a_.wC {x y s:Operand} {t:TypeId} {i:Nat} {xs:List Int} {m:Int} (hx:δ.ev x=.gq i) (iQ:δ.ob i=some (.mp (jL (lZ xs++ [(m,fh false)])))) (hs:δ.ev s=eV xs.length) (hy:δ.ev y=fh true)
  (ho:ff x=true) (rX:ff s=true) (fZ:ff y=true) (hd:fO δ.n dst=true) (i_:g.wt=none)
  (hK:a_ .plain P g ops rest Q ((δ.ga i (some (.mp (jL (lZ (xs++ [m])))))).eS dst .any)):a_ .plain P g ops (⟨dst,.entryStore t x s y,ty,pos,af,none⟩::rest) Q δ:=
 a_.r_ rfl rfl (iO.uM (l:=lZ xs) hx iQ hs (by simp [lZ]) hy rfl ho rX fZ hd (jM i_ i)) (by rw[B_] at hK;exact hK)
end
end Go.Ab
/- Ranging over a function:the loop's code behind names. -/
namespace Go.Ab
open Go Go.RowKit
attribute [local irreducible] HS
variable {P:Program} {g:eR} {δ:DS} {κ:Kp} {a:Act} {w:World}
variable {ops:Array Oper} {rest:List Oper} {Q:Exit→DS→Prop} {dst:Option Nat} {ty:TypeId} {pos:String} {af:Array Edge}
def CA (ps':Array Tmp) (asg' body':Code) (ps:List Tmp) (iK body:Code):Prop:=ps'=ps.toArray∧asg'=iK∧body'=body
theorem AW.C7 {x:Operand} {ps:List Tmp} {iK body:Code} {f:FuncId} {first cap:List AV} {fn:Func} {c:Code} {n':Nat} (Ao:g.ro=none) (i_:g.wt=none) (hx:δ.ev x=.jk (.func f) first cap) (ho:ff x=true)
  (hf:P.funcs[f]? =some fn) (hb:fn.body=some c) (DT:fn.results= #[]) (hn:fn.ntmps=n') (hle:bz (first.length+1+cap.length) n'=true) (KE:bz n' HS=true) (gF:bz δ.n HS=true) (he:(fn.name== "runtime.NumGoroutine")=false)
  (h:∀(g':eR) (tm:Array Value) (l:Nat) (ps':Array Tmp) (asg' body':Code),CA ps' asg' body' ps iK body→g'.ro=none→g'.wt=none→(∀j,j<HS→g'.held (j+HS)=tm.getD j undef)→tm.size=δ.n→
   AW P g' c (fz δ.n δ.nx l Q) {n:=n',env:=enum 0 (first++ .kO δ.nx::cap)++gK δ.env,gm:=(δ.nx,some (.loop l tm ps' asg' body' .ready))::δ.gm,nx:=δ.nx+1}):
  AW P g (.rangeFunc x ps.toArray iK body) Q δ:=
 AW.rangeFunc Ao i_ hx ho hf hb DT hn hle KE gF he fun g' tm l h1 h2 h3 h4=>h g' tm l _ _ _ ⟨rfl,rfl,rfl⟩ h1 h2 h3 h4
theorem a_.N4 {x:Operand} {ys:List Operand} {tys:Array TypeId} {i l n0:Nat} {tm:Array Value} {ps:List Tmp} {iK body:Code} {ps':Array Tmp} {asg' body':Code} (yp:CA ps' asg' body' ps iK body) (Ao:g.ro=none) (i_:g.wt=none) (ui:∀j,j<HS→g.held (j+HS)=tm.getD j undef) (Gd:tm.size=n0)
  (Bc:bz n0 HS=true)
  (hx:δ.ev x=.kO i) (iQ:δ.ob i=some (.loop l tm ps' asg' body' .ready)) (ho:ff x=true) (Sp:ys.all ff=true) (hlen:aL ys.length ps.length=true) (NQ:ps.all (fun t=>aY t n0)=true) (uH:fO δ.n dst=true)
  (h:∀g':eR,g'.ro=some l→g'.wt=none→AW P g' iK (gb (fun δ1=>pt δ1 i l .ready∧AW P g' body (sS δ.n i l (fun b st δ2=>a_ .plain P g ops rest Q ((δ2.n4 i st).eS dst (fh b)))) (δ1.n4 i .busy)) (fun _ _=>False)) (tG n0 ps (ys.map δ.ev) δ)):
  a_ .plain P g ops (⟨dst,.call {callee:=.value x,args:=ys.toArray,argTypes:=tys},ty,pos,af,none⟩::rest) Q δ:=by
 obtain⟨rfl,rfl,rfl⟩:=yp
 exact a_.yield Ao i_ ui Gd Bc hx iQ ho Sp hlen NQ uH h
theorem vp {n i l:Nat} {tm ps iK body} {e:Exit} (he:e=.normal∨e=.ret) (ho:δ.ob i=some (.loop l tm ps iK body .ready)) (h:Q .normal (la n i δ)):fz n i l Q e δ:=by
 rcases he with rfl|rfl<;>(show D0 l Q (la n i δ) (δ.ob i);rw[ho];exact⟨rfl,h⟩)
theorem xb {n i l id:Nat} {tm ps iK body} {e:Exit} (he:e=.normal∨e=.ret) (ho:δ.ob i=some (.loop l tm ps iK body (.done (.exit id)))) (h:Q (.exit id) (la n i δ)):fz n i l Q e δ:=by
 rcases he with rfl|rfl<;>(show D0 l Q (la n i δ) (δ.ob i);rw[ho];exact⟨rfl,h⟩)
end Go.Ab
/- Weakening:maps told as sets,loops. -/
namespace Go.Ab
open Go Go.RowKit
variable {δ δ':DS} {i:Nat}
theorem Jo {lr lb:Nat→Bool} (xs:List Int):∀p∈jL (lZ xs),p.2.ids lr lb=true:=by
 intro p hp
 unfold jL lZ at hp
 simp only[List.map_map,bx] at hp
 obtain⟨x,_,rfl⟩:=hp
 rfl
theorem WO.set {xs:List Int} (h:δ.ob i=some (.mp (jL (lZ xs)))):WO δ δ' i (.mp (jL (lZ xs))):=.mp h (Jo xs)
theorem WO.SN {xs ys:List Int} (h:δ.ob i=some (.mp (jL (lZ xs)))) (e:xs=ys):WO δ δ' i (.mp (jL (lZ ys))):=e▸ .set h
end Go.Ab
namespace Go.Ab
open Go Go.RowKit
section
variable {q:Md} {P:Program} {g:eR} {δ:DS} {ops:Array Oper} {rest:List Oper} {Q:Exit→DS→Prop} {dst:Option Nat} {ty:TypeId} {pos:String} {af:Array Edge}
theorem a_.vQ {α:Type} {x y:Operand} {t e e':TypeId} {i k:Nat} {m:Int} {f:α→List PV} {l:List α} (hx:δ.ev x=.own i e' k (l.map f)) (hy:δ.ev y=eV m)
  (ht:P.underlying t=some (.slice e)) (hk:(P.info? e).map (·.size)=some k) (ho:ff x=true) (fZ:ff y=true) (hd:fO δ.n dst=true) (h0:0≤m) (hn:m<l.length)
  (hK:a_ q P g ops rest Q (δ.eS dst (.gJ i e' k (l.map f) m.toNat))):a_ q P g ops (⟨dst,.indexAddr t x y,ty,pos,af,none⟩::rest) Q δ:=
 a_.qj (n:=m.toNat) hx (by rw[hy];show eV m=eV _;rw[b9 h0]) (by simp;omega) ht hk ho fZ hd hK
theorem a_.yA {α:Type} {x:Operand} {t e:TypeId} {i:Nat} {m:Nat} {f:α→PV} {l:List α} (hx:δ.ev x=.gJ i e 1 (l.map fun z=>[f z]) m) (ht:jW P t=true) (ho:ff x=true) (hd:fO δ.n dst=true) (hq:q≠ .held) (hn:m<l.length)
  (hK:a_ q P g ops rest Q (δ.eS dst (.pv (f l[m])))):a_ q P g ops (⟨dst,.load t x,ty,pos,af,none⟩::rest) Q δ:=
 a_.BN hq hx hn ht ho hd hK
end
end Go.Ab
/- States written out:laws by which a state's term is brought to its plain form. -/
namespace Go.Ab
open Go Go.RowKit
namespace Nf
variable {n x:Nat} {e:List (Nat×AV)} {o:List (Nat×Option Ob)}
theorem beq (i j:Nat):aL i j=(i==j):=by
 by_cases h:i=j
 ·subst h;simp
 ·rw[me h];exact(beq_eq_false_iff_ne.2 h).symm
theorem ble (i j:Nat):bz i j=(i - j==0):=by
 by_cases h:i≤j
 ·have h1:bz i j=true:=by simpa using h
  have h2:i - j=0:=by omega
  rw[h1,h2];rfl
 ·have h1:bz i j=false:=by
   cases hh:bz i j with
   |false=>rfl
   |true=>exact absurd (by simpa using hh) h
  rw[h1];exact(beq_eq_false_iff_ne.2 aJ).symm
theorem hs:HS=1000:=rfl
theorem Yj {α:Type} (a b:α):(bif true then a else b)=a:=rfl
theorem c_f {α:Type} (a b:α):(bif false then a else b)=b:=rfl
theorem put (d:Nat) (v:AV):DS.eS ⟨n,e,o,x⟩ (some d) v=⟨n,(d,v)::e,o,x⟩:=rfl
theorem VP (v:AV):DS.eS ⟨n,e,o,x⟩ none v=⟨n,e,o,x⟩:=rfl
theorem add (b:Ob):DS.fK ⟨n,e,o,x⟩ b=⟨n,e,(x,some b)::o,x+1⟩:=rfl
theorem set (i:Nat) (b:Option Ob):DS.ga ⟨n,e,o,x⟩ i b=⟨n,e,(i,b)::o,x⟩:=rfl
theorem pn:(DS.mk n e o x).n=n:=rfl
theorem pe:(DS.mk n e o x).env=e:=rfl
theorem po:(DS.mk n e o x).gm=o:=rfl
theorem px:(DS.mk n e o x).nx=x:=rfl
theorem TW (t:Nat):DS.ev ⟨n,e,o,x⟩ (.tmp t)=look e t:=rfl
theorem Uk (v:Value):DS.ev ⟨n,e,o,x⟩ (.const v)=.pv (.lit v):=rfl
theorem Vn (f:Nat):DS.ev ⟨n,e,o,x⟩ (.func f)=.jk (.func f) [] []:=rfl
theorem RQ (j:Nat):look [] j=.any:=rfl
theorem Qr (i j:Nat) (v:AV) (r:List (Nat×AV)):look ((i,v)::r) j=bif aL i j then v else look r j:=rfl
theorem start (args:List AV):start n args=⟨n,enum 0 args,[],0⟩:=rfl
theorem WK (i:Nat):enum i []=[]:=rfl
theorem Xw (i:Nat) (v:AV) (r:List AV):enum i (v::r)=(i,v)::enum (i+1) r:=rfl
def zi (e:List (Nat×AV)):List Operand→List AV
 |[]=>[]
 |.tmp t::r=>look e t::zi e r
 |.const v::r=> .pv (.lit v)::zi e r
 |.global _::r=> .any::zi e r
 |.func f::r=> .jk (.func f) [] []::zi e r
theorem tF:∀xs:List Operand,xs.map (DS.ev ⟨n,e,o,x⟩)=zi e xs
 |[]=>rfl
 |.tmp t::r=>by simp only[bB,zi,tF r];rfl
 |.const v::r=>by simp only[bB,zi,tF r];rfl
 |.global v::r=>by simp only[bB,zi,tF r];rfl
 |.func f::r=>by simp only[bB,zi,tF r];rfl
theorem K7 (δ:DS) (xs:List Operand):xs.map δ.ev=zi δ.env xs:=tF (n:=δ.n) (o:=δ.gm) (x:=δ.nx) xs
theorem WE:zi e []=[]:=rfl
theorem RR (t:Nat) (r:List Operand):zi e (.tmp t::r)=look e t::zi e r:=rfl
theorem R9 (v:Value) (r:List Operand):zi e (.const v::r)=.pv (.lit v)::zi e r:=rfl
theorem SO (f:Nat) (r:List Operand):zi e (.func f::r)=.jk (.func f) [] []::zi e r:=rfl
def av:List AV→List AV→List AV
 |[],m=>m
 |v::r,m=>v::av r m
theorem MX:∀l m:List AV,l++m=av l m
 |[],_=>rfl
 |v::r,m=>by rw[bu,MX r m];rfl
theorem Y2 (m:List AV):av [] m=m:=rfl
theorem X_ (v:AV) (r m:List AV):av (v::r) m=v::av r m:=rfl
def ae:List (Nat×AV)→List (Nat×AV)→List (Nat×AV)
 |[],m=>m
 |v::r,m=>v::ae r m
theorem Ik:∀l m:List (Nat×AV),l++m=ae l m
 |[],_=>rfl
 |v::r,m=>by rw[bu,Ik r m];rfl
theorem YG (m:List (Nat×AV)):ae [] m=m:=rfl
theorem Yo (v:Nat×AV) (r m:List (Nat×AV)):ae (v::r) m=v::ae r m:=rfl
def sh:List (Nat×AV)→List (Nat×AV)
 |[]=>[]
 |(i,v)::r=>(i+HS,v)::sh r
theorem Jb:∀l,gK l=sh l
 |[]=>rfl
 |(i,v)::r=>by show(i+HS,v)::gK r=_;rw[Jb r];rfl
theorem sh0:sh []=[]:=rfl
theorem Zm (i:Nat) (v:AV) (r:List (Nat×AV)):sh ((i,v)::r)=(i+1000,v)::sh r:=rfl
theorem YR:iG []=[]:=rfl
theorem YY (i:Nat) (v:AV) (r:List (Nat×AV)):iG ((i,v)::r)=bif bz 1000 i then (i - 1000,v)::iG r else iG r:=rfl
theorem ZZ:e9 []=[]:=rfl
theorem Ys (i:Nat) (v:AV) (r:List (Nat×AV)):e9 ((i,v)::r)=bif bz 1000 i then (bif bz i 1999 then (i - 1000,v)::e9 r else e9 r) else e9 r:=by
 have h:aY i (HS+HS)=bz i 1999:=by
  show bz (i+1) 2000=bz i 1999
  rfl
 show(bif bz HS i && aY i (HS+HS) then _ else _)=_
 rw[h]
 show(bif bz 1000 i && bz i 1999 then _ else _)=_
 cases bz 1000 i<;>rfl
theorem pa (t:Tmp) (ts:List Tmp) (v:AV) (vs:List AV):A_ (t::ts) (v::vs) e=A_ ts vs ((t,v)::e):=rfl
theorem Yx:A_ [] [] e=e:=rfl
theorem RI (m:Nat):fL m ⟨n,e,o,x⟩=⟨m,iG e,o,x⟩:=rfl
theorem round (m:Nat) (ps:List Tmp) (vs:List AV):tG m ps vs ⟨n,e,o,x⟩=⟨m,A_ ps vs (ae (e9 e) (sh e)),o,x⟩:=by
 unfold tG
 rw[Ik,Jb]
def C8 (f:AV→AV):List (Nat×AV)→List (Nat×AV)
 |[]=>[]
 |(i,v)::r=>(i,f v)::C8 f r
def lD (f:AV→AV):List AV→List AV
 |[]=>[]
 |v::r=>f v::lD f r
def mo (f:AV→AV):List (Nat×Option Ob)→List (Nat×Option Ob)
 |[]=>[]
 |(i,b)::r=>(i,b.map (Ob.wo f))::mo f r
theorem EV (f:AV→AV):∀l:List (Nat×AV),(l.map fun p=>(p.1,f p.2))=C8 f l
 |[]=>rfl
 |(i,v)::r=>by rw[bB,EV f r];rfl
theorem Ed (f:AV→AV):∀l:List (Nat×Option Ob),(l.map fun p=>(p.1,p.2.map (Ob.wo f)))=mo f l
 |[]=>rfl
 |(i,v)::r=>by rw[bB,Ed f r];rfl
theorem lJ (f:AV→AV):∀l:List AV,l.map f=lD f l
 |[]=>rfl
 |v::r=>by rw[bB,lJ f r];rfl
theorem mv (f:AV→AV):DS.gG ⟨n,e,o,x⟩ f=⟨n,C8 f e,mo f o,x⟩:=by
 unfold DS.gG
 rw[EV,Ed]
theorem Zc (f:AV→AV):C8 f []=[]:=rfl
theorem mE1 (f:AV→AV) (i:Nat) (v:AV) (r:List (Nat×AV)):C8 f ((i,v)::r)=(i,f v)::C8 f r:=rfl
theorem Yb (f:AV→AV):lD f []=[]:=rfl
theorem Ya (f:AV→AV) (v:AV) (r:List AV):lD f (v::r)=f v::lD f r:=rfl
theorem Y0 (f:AV→AV):mo f []=[]:=rfl
theorem YT (f:AV→AV) (i:Nat) (r:List (Nat×Option Ob)):mo f ((i,none)::r)=(i,none)::mo f r:=rfl
theorem mOr (f:AV→AV) (i:Nat) (r:List (Nat×Option Ob)):mo f ((i,some .row)::r)=(i,some .row)::mo f r:=rfl
theorem Z0 (f:AV→AV) (i:Nat) (cs:List AV) (r:List (Nat×Option Ob)):mo f ((i,some (.box cs))::r)=(i,some (.box (lD f cs)))::mo f r:=by
 show(i,some (Ob.box (cs.map f)))::mo f r=_
 rw[lJ]
theorem YB (f:AV→AV) (i:Nat) (l:List (Value×AV)) (r:List (Nat×Option Ob)):mo f ((i,some (.mp l))::r)=(i,some (.mp l))::mo f r:=rfl
theorem Zs (f:AV→AV) (i:Nat) (l:List (Value×AV)) (k:Value) (v:AV) (r:List (Nat×Option Ob)):mo f ((i,some (.mpl l k v))::r)=(i,some (.mpl l k (f v)))::mo f r:=rfl
theorem ZK (f:AV→AV) (i:Nat) (e:TypeId) (p:Nat→Value×List Value) (r:List (Nat×Option Ob)):mo f ((i,some (.e8 e p))::r)=(i,some (.e8 e p))::mo f r:=rfl
theorem ZA (f:AV→AV) (i:Nat) (T:TypeId) (vs:Array Value) (r:List (Nat×Option Ob)):mo f ((i,some (.lit T vs))::r)=(i,some (.lit T vs))::mo f r:=rfl
theorem YP (f:AV→AV) (i l:Nat) (tm ps iK body st) (r:List (Nat×Option Ob)):mo f ((i,some (.loop l tm ps iK body st))::r)=(i,some (.loop l tm ps iK body st))::mo f r:=rfl
section
variable (i j:Nat)
theorem QY:AV.kill i .any=.any:=rfl
theorem U9 (p:PV):AV.kill i (.pv p)=.pv p:=rfl
theorem Qg (a b:Nat):AV.kill i (.ptr a b)=.ptr a b:=rfl
theorem NJ (c:List PV):AV.kill i (.fV c)=.fV c:=rfl
theorem O3 (a:Nat):AV.kill i (.gq a)=.gq a:=rfl
theorem Rz (a:Nat):AV.kill i (.kO a)=.kO a:=rfl
theorem Rr (e k e7):AV.kill i (.own j e k e7)=bif aL i j then .any else .own j e k e7:=rfl
theorem Nz (e k e7 m):AV.kill i (.gJ j e k e7 m)=bif aL i j then .any else .gJ j e k e7 m:=rfl
theorem S9 (cs:List AV):AV.kill i (.agg cs)=.agg (lD (AV.kill i) cs):=by
 show AV.mp _ _=_
 rw[AV.mp,AV.jo,lJ];rfl
theorem R7 (cs:List AV):AV.kill i (.gX cs)=.gX (lD (AV.kill i) cs):=by
 show AV.mp _ _=_
 rw[AV.mp,AV.jo,lJ];rfl
theorem QB (fn:Go.Fn) (cs ds:List AV):AV.kill i (.jk fn cs ds)=.jk fn (lD (AV.kill i) cs) (lD (AV.kill i) ds):=by
 show AV.mp _ _=_
 rw[AV.mp,AV.jo,AV.jo,lJ,lJ];rfl
end
theorem OJ (cs:List AV):AV.cellsOf (.agg cs)=cs:=rfl
theorem Sg (p:PV):AV.cellsOf (.pv p)=[.pv p]:=rfl
theorem Pv (a b:Nat):AV.cellsOf (.ptr a b)=[.ptr a b]:=rfl
theorem NT (i e k e7):AV.cellsOf (.own i e k e7)=[.own i e k e7]:=rfl
theorem Pu:AV.cellsOf .any=[.any]:=rfl
theorem K6 (i:Nat):AV.cellsOf (.gq i)=[.gq i]:=rfl
theorem OX (fn a b):AV.cellsOf (.jk fn a b)=[.jk fn a b]:=rfl
theorem Mo (c):AV.cellsOf (.fV c)=[.fV c]:=rfl
def Dx:List AV→Nat→AV→List AV
 |[],_,_=>[]
 |_::r,0,w=>w::r
 |v::r,n+1,w=>v::Dx r n w
theorem yU:∀(l:List AV) (n:Nat) (w:AV),l.set n w=Dx l n w
 |[],_,_=>rfl
 |_::_,0,_=>rfl
 |v::r,n+1,w=>by rw[List.set_cons_succ,yU r n w];rfl
theorem Y8 (i j:Nat) (v:Option Ob) (r:List (Nat×Option Ob)):fb ((i,v)::r) j=bif aL i j then v else fb r j:=rfl
end Nf
end Go.Ab
/- Laws of operations whose results stand in plain form. -/
namespace Go.Ab
open Go Go.RowKit
attribute [local irreducible] HS
variable {q:Md} {P:Program} {g:eR} {δ:DS} {κ:Kp} {a:Act} {w:World}
variable {ops:Array Oper} {rest:List Oper} {Q:Exit→DS→Prop} {dst:Option Nat} {ty:TypeId} {pos:String} {af:Array Edge}
def KK (P:Program) (s:TypeId) (f k:Nat):Bool:=match P.underlying s with
 |some (.struct fs)=>(match fs[f]? with|some fld=>aL fld.offset k && ((P.info? fld.type).map fun i=>aY 0 i.size)==some true|none=>false)
 |_=>false
theorem a_.c_ (s:TypeId) (f k:Nat) {x:Operand} {i off:Nat} (hx:δ.ev x=.ptr i off) (hB:KK P s f k=true) (ho:ff x=true) (hd:fO δ.n dst=true)
  (hK:a_ q P g ops rest Q (δ.eS dst (.ptr i (off+k)))):a_ q P g ops (⟨dst,.fieldAddr s x f,ty,pos,af,none⟩::rest) Q δ:=by
 unfold KK at hB
 split at hB
 ·rename_i fs hs
  split at hB
  ·rename_i fld hf
   simp only[aZ,beq_iff_eq] at hB
   have hk:=aM hB.1
   subst hk
   exact a_.fieldAddr hx hs hf hB.2 ho hd hK
  ·cases hB
 ·cases hB
def FZ:List AV→Nat→Nat→List AV
 |[],_,_=>[]
 |v::r,k,n=>bif k==0 then (bif n==0 then [] else v::FZ r 0 (n - 1)) else FZ r (k - 1) n
def uN:List PV→Nat→Nat→List PV
 |[],_,_=>[]
 |v::r,k,n=>bif k==0 then (bif n==0 then [] else v::uN r 0 (n - 1)) else uN r (k - 1) n
theorem zG:∀(l:List PV) (k n:Nat),(l.drop k).take n=uN l k n
 |[],k,n=>by simp [uN]
 |v::r,0,0=>by simp [uN]
 |v::r,0,n+1=>by
  have:=zG r 0 n
  simp only[cC] at this
  simp [uN,← this]
 |v::r,k+1,n=>by simp [uN,← zG r k n]
def ME (P:Program) (s:TypeId) (f k n:Nat):Bool:=match P.underlying s with
 |some (.struct fs)=>(match fs[f]? with|some fld=>aL fld.offset k && (((P.info? fld.type).map fun i=>aY 0 i.size)==some true && (P.info? fld.type).map (·.size)==some n)|none=>false)
 |_=>false
theorem a_.rZ (s:TypeId) (f k n:Nat) {x:Operand} {cs:List PV} (hx:δ.ev x=.fV cs) (hB:ME P s f k n=true) (ho:ff x=true) (hd:fO δ.n dst=true)
  (hK:a_ q P g ops rest Q (δ.eS dst (.fV (uN cs k n)))):a_ q P g ops (⟨dst,.fieldAddr s x f,ty,pos,af,none⟩::rest) Q δ:=by
 unfold ME at hB
 split at hB
 ·rename_i fs hs
  split at hB
  ·rename_i fld hf
   simp only[aZ,beq_iff_eq] at hB
   have hk:=aM hB.1
   subst hk
   exact a_.AZ hx hs hf hB.2.1 hB.2.2 ho hd (by rw[zG];exact hK)
  ·cases hB
 ·cases hB
def AI:List Value→List AV
 |[]=>[]
 |v::r=> .pv (.lit v)::AI r
theorem uY:∀l:List Value,(l.map fun v=>AV.pv (PV.lit v))=AI l
 |[]=>rfl
 |v::r=>by rw[bB,uY r];rfl
def tR:List AV→List (Nat×AV)→List AV
 |cs,[]=>cs
 |cs,(k,v)::r=>tR (setN cs k v.cellsOf) r
where setN:List AV→Nat→List AV→List AV
 |cs,_,[]=>cs
 |cs,k,v::r=>setN (Nf.Dx cs k v) (k+1) r
theorem D2:∀(vs cs:List AV) (k:Nat),ns cs k vs=tR.setN cs k vs
 |[],cs,k=>rfl
 |v::r,cs,k=>by
  unfold ns tR.setN
  rw[Nf.yU,D2 r]
theorem sQ {place:Nat→Option (Nat×Nat)}:∀(ps:List (Nat×AV)) (pK:List Nat) (cs cells:List AV),jq place cs ps=some cells→(ps.map fun p=>(place p.1).map (·.1))=pK.map some→
  cells=tR cs (pK.zip (ps.map (·.2)))
 |[],pK,cs,cells,h,_=>by simp only[jq,Option.some.injEq] at h;subst h;cases pK<;>rfl
 |(i,v)::ps,[],cs,cells,h,ho=>by simp at ho
 |(i,v)::ps,k::pK,cs,cells,h,ho=>by
  simp only[bB,List.cons.injEq] at ho
  unfold jq at h
  cases hp:place i with
  |none=>rw[hp] at h;cases h
  |some x=>
   obtain⟨off,size⟩:=x
   rw[hp] at h ho
   simp only[br,Option.some.injEq] at ho
   obtain⟨rfl,ho⟩:=ho
   simp only at h
   cases hb:(aL v.cellsOf.length size && bz (off+v.cellsOf.length) cs.length && AV.nj v.cellsOf) with
   |false=>rw[hb] at h;cases h
   |true=>
    rw[hb] at h
    have:=sQ ps pK _ cells h ho
    rw[this,D2]
    rfl
def rG (e:List (Nat×AV)):List Nat→List (Nat×Operand)→List (Nat×AV)
 |k::ks,(_,.tmp t)::ps=>(k,look e t)::rG e ks ps
 |k::ks,(_,.const v)::ps=>(k,.pv (.lit v))::rG e ks ps
 |k::ks,(_,.global _)::ps=>(k,.any)::rG e ks ps
 |k::ks,(_,.func f)::ps=>(k,.jk (.func f) [] [])::rG e ks ps
 |_,_=>[]
theorem zQ (δ:DS):∀(pK:List Nat) (ps:List (Nat×Operand)),pK.zip ((ps.map fun p=>(p.1,δ.ev p.2)).map (·.2))=rG δ.env pK ps
 |[],[]=>rfl
 |[],_::_=>rfl
 |_::_,[]=>rfl
 |k::ks,(i,x)::ps=>by
  simp only[bB,cr,zQ δ ks ps]
  cases x<;>rfl
theorem a_.Ag (t:TypeId) (pK:List Nat) {l:List Value} {parts:List (Nat×Operand)} {fs:Array Field} {z:Value} {cells:List AV} (hs:P.underlying t=some (.struct fs)) (hz:(P.info? t).bind (·.zero)=some z) (hl:z.cells=l.toArray) (h1:z.cells.toList.all (·.oneCell')=true) (jO:fs.toList.all (fun f=>(P.info? f.type).isSome)=true)
  (ho:parts.all (fun p=>ff p.2)=true) (uD:((parts.map fun p=>(p.1,δ.ev p.2)).map fun p=>(placeOf P fs p.1).map (·.1))=pK.map some) (hf:jq (placeOf P fs) (z.cells.toList.map fun v=> .pv (.lit v)) (parts.map fun p=>(p.1,δ.ev p.2))=some cells) (hd:fO δ.n dst=true)
  (hK:a_ q P g ops rest Q (δ.eS dst (.agg (tR (AI l) (rG δ.env pK parts))))):a_ q P g ops (⟨dst,.build t parts.toArray,ty,pos,af,none⟩::rest) Q δ:=by
 refine a_.build hs hz h1 jO ho hf hd ?_
 have:=sQ _ pK _ cells hf uD
 rw[zQ,hl,cD,uY] at this
 rw[this]
 exact hK
theorem a_.rM {e:TypeId} {z:Value} {l:List Value} (hz:(P.info? e).bind (·.zero)=some z) (hl:z.cells=l.toArray) (h1:z.cells.toList.all (·.oneCell')=true) (hd:fO δ.n dst=true)
  (hK:a_ .plain P g ops rest Q ((δ.fK (.box (AI l))).eS dst (.ptr δ.nx 0))):a_ .plain P g ops (⟨dst,.alloc e,ty,pos,af,none⟩::rest) Q δ:=by
 refine a_.alloc hz h1 hd ?_
 rw[hl,cD,uY]
 exact hK
def AA:Option Ob→uL→Option Ob
 |some (.loop l tm ps iK body _),st=>some (.loop l tm ps iK body st)
 |o,_=>o
def Mi (δ:DS) (i:Nat) (st:uL):DS:=⟨δ.n,δ.env,(i,AA (fb δ.gm i) st)::δ.gm,δ.nx⟩
theorem zU {i l:Nat} {s:uL} (st:uL) (h:pt δ i l s):δ.n4 i st=Mi δ i st:=by
 obtain⟨tm,ps,iK,body,ho⟩:=h
 unfold DS.n4 Mi
 rw[ho]
 have:fb δ.gm i=some (.loop l tm ps iK body s):=ho
 rw[this]
 rfl
def fk (P:Program) (g:eR) (ops:Array Oper) (rest:List Oper) (Q:Exit→DS→Prop) (dst:Option Nat) (n i l:Nat):Exit→DS→Prop
 |.normal,δ=>pt δ i l .busy∧a_ .plain P g ops rest Q ((Mi (fL n δ) i .ready).eS dst (fh true))
 |.ret,δ=>pt δ i l .busy∧a_ .plain P g ops rest Q ((Mi (fL n δ) i (.done .ret)).eS dst (fh false))
 |.exit id,δ=>pt δ i l .busy∧a_ .plain P g ops rest Q ((Mi (fL n δ) i (.done (.exit id))).eS dst (fh false))
 |_,_=>False
theorem tJ {n i l:Nat} {st} (h:pt δ i l st):pt (fL n δ) i l st:=h
theorem a_.IB {x:Operand} {ys:List Operand} {tys:Array TypeId} {i l n0:Nat} {tm:Array Value} {ps:List Tmp} {iK body:Code} {ps':Array Tmp} {asg' body':Code} (yp:CA ps' asg' body' ps iK body) (Ao:g.ro=none) (i_:g.wt=none) (ui:∀j,j<HS→g.held (j+HS)=tm.getD j undef) (Gd:tm.size=n0)
  (Bc:bz n0 HS=true)
  (hx:δ.ev x=.kO i) (iQ:δ.ob i=some (.loop l tm ps' asg' body' .ready)) (ho:ff x=true) (Sp:ys.all ff=true) (hlen:aL ys.length ps.length=true) (NQ:ps.all (fun t=>aY t n0)=true) (uH:fO δ.n dst=true)
  (h:∀g':eR,g'.ro=some l→g'.wt=none→AW P g' iK (gb (fun δ1=>pt δ1 i l .ready∧AW P g' body (fk P g ops rest Q dst δ.n i l) (Mi δ1 i .busy)) (fun _ _=>False)) (tG n0 ps (ys.map δ.ev) δ)):
  a_ .plain P g ops (⟨dst,.call {callee:=.value x,args:=ys.toArray,argTypes:=tys},ty,pos,af,none⟩::rest) Q δ:=by
 refine a_.N4 yp Ao i_ ui Gd Bc hx iQ ho Sp hlen NQ uH fun g' h1 h2=>(h g' h1 h2).mono ?_
 intro e δ1 he
 cases e with
 |normal=>
  obtain⟨h3,h4⟩:=he
  refine⟨h3,?_⟩
  rw[zU _ h3]
  refine AW.mono h4 ?_
  intro e2 δ2 Fi
  cases e2 with
  |normal=>exact⟨Fi.1,by show a_ .plain P g ops rest Q (((fL δ.n δ2).n4 i .ready).eS dst (fh true));rw[zU .ready (tJ (n:=δ.n) Fi.1)];exact Fi.2⟩
  |ret=>exact⟨Fi.1,by show a_ .plain P g ops rest Q (((fL δ.n δ2).n4 i (.done .ret)).eS dst (fh false));rw[zU (.done .ret) (tJ (n:=δ.n) Fi.1)];exact Fi.2⟩
  |exit id=>exact⟨Fi.1,by show a_ .plain P g ops rest Q (((fL δ.n δ2).n4 i (.done (.exit id))).eS dst (fh false));rw[zU (.done (.exit id)) (tJ (n:=δ.n) Fi.1)];exact Fi.2⟩
  |_=>exact Fi.elim
 |_=>exact he.elim
theorem oD {n i l:Nat} (h1:pt δ i l .busy) (h2:a_ .plain P g ops rest Q ((Mi (fL n δ) i .ready).eS dst (fh true))):fk P g ops rest Q dst n i l .normal δ:=⟨h1,h2⟩
theorem so {n i l id:Nat} (h1:pt δ i l .busy) (h2:a_ .plain P g ops rest Q ((Mi (fL n δ) i (.done (.exit id))).eS dst (fh false))):fk P g ops rest Q dst n i l (.exit id) δ:=⟨h1,h2⟩
def Qh (n i:Nat) (δ:DS):DS:=⟨n,iG δ.env,(i,AA (fb δ.gm i) .over)::δ.gm,δ.nx⟩
theorem HE {n i l:Nat} {tm ps iK body st} (ho:δ.ob i=some (.loop l tm ps iK body st)):la n i δ=Qh n i δ:=by
 unfold la Qh
 rw[ho]
 have:fb δ.gm i=some (.loop l tm ps iK body st):=ho
 rw[this];rfl
theorem uu {n i l:Nat} {tm ps iK body} {e:Exit} (he:e=.normal∨e=.ret) (ho:δ.ob i=some (.loop l tm ps iK body .ready)) (h:Q .normal (Qh n i δ)):fz n i l Q e δ:=vp he ho (by rw[HE ho];exact h)
theorem vz {n i l id:Nat} {tm ps iK body} {e:Exit} (he:e=.normal∨e=.ret) (ho:δ.ob i=some (.loop l tm ps iK body (.done (.exit id)))) (h:Q (.exit id) (Qh n i δ)):fz n i l Q e δ:=xb he ho (by rw[HE ho];exact h)
namespace Nf
variable {n x:Nat} {e:List (Nat×AV)} {o:List (Nat×Option Ob)}
theorem ZX (i:Nat) (st:uL):Mi ⟨n,e,o,x⟩ i st=⟨n,e,(i,AA (fb o i) st)::o,x⟩:=rfl
theorem bko (m i:Nat):Qh m i ⟨n,e,o,x⟩=⟨m,iG e,(i,AA (fb o i) .over)::o,x⟩:=rfl
theorem Y1 (l:Nat) (tm ps iK body st st'):AA (some (.loop l tm ps iK body st)) st'=some (.loop l tm ps iK body st'):=rfl
theorem ll0:AI []=[]:=rfl
theorem YM (v:Value) (r:List Value):AI (v::r)=.pv (.lit v)::AI r:=rfl
theorem la0 (cs:List AV):tR cs []=cs:=rfl
theorem Zb (cs:List AV) (k:Nat) (v:AV) (r:List (Nat×AV)):tR cs ((k,v)::r)=tR (tR.setN cs k v.cellsOf) r:=rfl
theorem Z6 (cs:List AV) (k:Nat):tR.setN cs k []=cs:=rfl
theorem Yr (cs:List AV) (k:Nat) (v:AV) (r:List AV):tR.setN cs k (v::r)=tR.setN (Dx cs k v) (k+1) r:=rfl
theorem XM (k:Nat) (w:AV):Dx [] k w=[]:=rfl
theorem ZG (v:AV) (r:List AV) (k:Nat) (w:AV):Dx (v::r) k w=bif k==0 then w::r else v::Dx r (k - 1) w:=by cases k<;>rfl
theorem UK (k:Nat) (ks:List Nat) (i t:Nat) (ps:List (Nat×Operand)):rG e (k::ks) ((i,.tmp t)::ps)=(k,look e t)::rG e ks ps:=rfl
theorem UF (k:Nat) (ks:List Nat) (i:Nat) (v:Value) (ps:List (Nat×Operand)):rG e (k::ks) ((i,.const v)::ps)=(k,.pv (.lit v))::rG e ks ps:=rfl
theorem TS (k:Nat) (ks:List Nat) (i f:Nat) (ps:List (Nat×Operand)):rG e (k::ks) ((i,.func f)::ps)=(k,.jk (.func f) [] [])::rG e ks ps:=rfl
theorem Zd:rG e [] []=[]:=rfl
theorem Yk (k n:Nat):FZ [] k n=[]:=rfl
theorem YI (v:AV) (r:List AV) (k n:Nat):FZ (v::r) k n=bif k==0 then (bif n==0 then [] else v::FZ r 0 (n - 1)) else FZ r (k - 1) n:=rfl
theorem sp0 (k n:Nat):uN [] k n=[]:=rfl
theorem Ze (v:PV) (r:List PV) (k n:Nat):uN (v::r) k n=bif k==0 then (bif n==0 then [] else v::uN r 0 (n - 1)) else uN r (k - 1) n:=rfl
end Nf
end Go.Ab
namespace Go.Ab
open Go Go.RowKit
section
variable {q:Md} {P:Program} {g:eR} {δ:DS} {ops:Array Oper} {rest:List Oper} {Q:Exit→DS→Prop} {dst:Option Nat} {ty:TypeId} {pos:String} {af:Array Edge}
theorem a_.sV {x:Operand} {c:List PV} (hx:δ.ev x=.fV c) (ho:ff x=true) (hd:fO δ.n dst=true) (hK:a_ q P g ops rest Q (δ.eS dst (.fV c))):a_ q P g ops (⟨dst,.move x,ty,pos,af,none⟩::rest) Q δ:=a_.move hx ho hd hK
theorem a_.lQ {x:Operand} {c:List PV} (hx:δ.ev x=.fV c) (ho:ff x=true) (hd:fO δ.n dst=true) (hK:a_ q P g ops rest Q (δ.eS dst (.fV c))):a_ q P g ops (⟨dst,.assign x,ty,pos,af,none⟩::rest) Q δ:=a_.assign hx ho hd hK
theorem a_.tZ {x:Operand} {i:Nat} (hx:δ.ev x=.gq i) (ho:ff x=true) (hd:fO δ.n dst=true) (hK:a_ q P g ops rest Q (δ.eS dst (.gq i))):a_ q P g ops (⟨dst,.assign x,ty,pos,af,none⟩::rest) Q δ:=a_.assign hx ho hd hK
theorem a_.p9 {x:Operand} {i:Nat} (hx:δ.ev x=.gq i) (ho:ff x=true) (hd:fO δ.n dst=true) (hK:a_ q P g ops rest Q (δ.eS dst (.gq i))):a_ q P g ops (⟨dst,.move x,ty,pos,af,none⟩::rest) Q δ:=a_.move hx ho hd hK
theorem a_.qE {x:Operand} {c:List PV} (hx:δ.ev x=.fV c) (ho:ff x=true) (hd:fO δ.n dst=true) (hK:a_ q P g ops rest Q (δ.eS dst (.fV c))):
  a_ q P g ops (⟨dst,.nilCheck x,ty,pos,af,none⟩::rest) Q δ:=
 a_.jc _ hd (fun κ a w r=>by
  have h1:=r.ra hx ho
  have h2:=h1
  generalize hu:a.eval x=u at h1
  cases h1 with
  |fV b off vs hN hb hc hr=>exact⟨_,fun w' _=>by simp [execOp,hu],hu▸h2⟩) hK
end
end Go.Ab
/- Maps:written,counted,ranged over;told as sets and frozen. -/
namespace Go.Ab
open Go Go.RowKit
variable {q:Md} {P:Program} {g:eR} {δ:DS} {κ:Kp} {a:Act} {w:World}
variable {gd:Option (Tmp×Bool)} {ops:Array Oper} {rest:List Oper} {Q:Exit→DS→Prop} {dst:Option Nat} {ty:TypeId} {pos:String} {af:Array Edge}
theorem xh {C:Cx} {w:World} (m:Int):∀(es:List MapEntry) (l:List (Int×AV)) (i:Nat),es.length=l.length→
  (∀(j:Nat) (e:MapEntry) (p:Int×AV),es[j]? =some e→l[j]? =some p→e.key=.int .i64 p.1∧RA C w e.val p.2)→
  (jK l m=none∧Instr.findNow (.int .i64) (.int .i64 m) es i=some none)∨
  (∃(j:Nat) (e:MapEntry) (v:AV),Instr.findNow (.int .i64) (.int .i64 m) es i=some (some (i+j,e.val))∧es[j]? =some e∧l[j]? =some (m,v)∧e.key=.int .i64 m∧∀i,i<j→∀p,l[i]? =some p→p.1≠m):=by
 intro es
 induction es with
 |nil=>intro l i hs _;have:l=[]:=bj hs.symm;subst this;exact .inl ⟨rfl,rfl⟩
 |cons e es ih=>
  intro l i hs h
  cases l with
  |nil=>simp at hs
  |cons p l=>
   obtain⟨k,v⟩:=p
   have h0:=h 0 e (k,v) rfl rfl
   by_cases hk:m=k
   ·subst hk
    refine .inr ⟨0,e,v,?_,rfl,rfl,h0.1,fun i hi=>by omega⟩
    simp [Instr.findNow,h0.1,Instr.sameNow]
   ·have hf:Instr.findNow (.int .i64) (.int .i64 m) (e::es) i=Instr.findNow (.int .i64) (.int .i64 m) es (i+1):=by
     have hb:(m==k)=false:=by simp [hk]
     simp [Instr.findNow,h0.1,Instr.sameNow,hb]
    rcases ih l (i+1) (by simpa using hs) (fun j e p h1 h2=>h (j+1) e p (by simpa using h1) (by simpa using h2)) with ⟨h1,h2⟩|⟨j,e',v',h2,h3,h4,h5,h6⟩
    ·exact .inl ⟨by simp [jK,hk,h1],hf.trans h2⟩
    ·refine .inr ⟨j+1,e',v',by rw[hf,h2];simp;omega,by simpa using h3,by simpa using h4,h5,fun i' kb p hp=>?_⟩
     cases i' with
     |zero=>simp at hp;subst hp;exact fun e=>hk e.symm
     |succ i'=>exact h6 i' aJ p (by simpa using hp)
theorem Rel.WQ (r:Rel g δ κ a w) {u:Value} {i:Nat} {l:List (Value×PV)} {seen:List Nat} (h:RA (δ.cx g κ) w u (.ptr i 0)) (ho:δ.ob i=some (.it l seen)):
  ∃b,u=.pointer (some ⟨b,0,none⟩)∧κ i=some b∧Jp (δ.cx g κ).N w b l seen:=by
 cases h with
 | @ptr _ _ b hl hκ=>
  obtain⟨b',h1,h2⟩:=r.obj i _ ho
  have:b'=b:=Option.some.inj (h1.symm.trans hκ)
  subst this
  exact⟨b',rfl,h1,h2⟩
theorem L7 {C:Cx} {w:World} {u1 u2 u3:Value} {v1 v2 v3:AV} (h1:RA C w u1 v1) (h2:RA C w u2 v2) (h3:RA C w u3 v3):RA C w (.tuple #[u1,u2,u3]) (.gX [v1,v2,v3]):=BO h1 h2 h3
theorem yD {es:Array MapEntry} {clock:Nat} (h:pX es clock):(es.toList.map (·.born)).Nodup:=by
 have:es.toList.map (·.born)=List.range es.size:=by
  apply List.ext_getElem?
  intro j
  rw[a7,bC]
  by_cases hj:j<es.size
  ·rw[aN hj,br,h.2 j _ (aN hj),List.getElem?_range hj]
  ·rw[cw aJ,cE (by simpa using hj)];rfl
 rw[this];exact List.nodup_range
theorem a_.next {x:Operand} {i:Nat} {l:List (Value×PV)} {seen:List Nat} (hx:δ.ev x=.ptr i 0) (iQ:δ.ob i=some (.it l seen)) (ho:ff x=true) (hd:fO δ.n dst=true) (i_:g.wt=none)
  (XU:(∀j,j<l.length→j∈seen)→a_ .plain P g ops rest Q (δ.eS dst (.gX [fh false])))
  (uX:∀j (hj:j<l.length),j∉seen→a_ .plain P g ops rest Q ((δ.ga i (some (.it l (seen++ [j])))).eS dst (.gX [fh true,.pv (.lit l[j].1),.pv l[j].2]))):
  a_ .plain P g ops (⟨dst,.next x false,ty,pos,af,none⟩::rest) Q δ:=by
 intro κ a w r
 obtain⟨b,hv,h2,h3⟩:=r.WQ (r.ra hx ho) iQ
 show wpListIn _ _ P ops _ (_::rest) a w
 refine gw rfl rfl fun K nb=>?_
 unfold Oper.wW
 rcases h3 with ⟨rfl,h3⟩|⟨m,es,clock,hN,hm,hh,hs,jn,yR,hit,Mz⟩
 ·have fu:(execOp a.eval ⟨dst,.next x false,ty,pos,af,none⟩).run P w=.ok (.value (.tuple #[.bool false])) w:=by
   have:(Instr.next (.pointer (some ⟨b,0,none⟩)) false ty).run P w=.ok (.tuple #[.bool false]) w:=by
    simp only[Instr.next,getObj,Sem.run_bind,Sem.run,h3,Result.andThen]
    rfl
   simp [execOp,hv,this]
  rw[fu,Oper.uponIn_value]
  exact nb _ _ (XU (by simp) κ _ _ (r.eS (fi hd) (.gX rfl fun j u c h4 h5=>by
   cases j with
   |zero=>simp at h4 h5;subst h4;subst h5;exact .pv (.lit _)
   |succ j=>simp at h5)))
 ·have hold:∀e∈es.toList,e.born<clock:=by
   intro e he
   obtain⟨j,hj⟩:=bA he
   have ng:es[j]? =some e:=by simpa using hj
   rw[jn.2 j e ng,jn.1]
   exact(aO.1 ng).1
  rcases run_next_at (P:=P) w ty b m clock clock seen.toArray es clock hit hh hold (aP _) with ⟨h4,h5⟩|⟨e,he,w1,Qx,h5⟩
  ·have fu:(execOp a.eval ⟨dst,.next x false,ty,pos,af,none⟩).run P w=.ok (.value (.tuple #[.bool false])) w:=by simp [execOp,hv,h5]
   rw[fu,Oper.uponIn_value]
   have jO:=all_seen es seen.toArray h4
   exact nb _ _ (XU (fun j hj=>by
    have rB:j<es.size:=by omega
    have:=jO es[j] (by simp)
    rw[jn.2 j _ (aN rB)] at this
    simpa using this) κ _ _ (r.eS (fi hd) (.gX rfl fun j u c h4 h5=>by
    cases j with
    |zero=>simp at h4 h5;subst h4;subst h5;exact .pv (.lit _)
    |succ j=>simp at h5)))
  ·obtain⟨ZM,Fi⟩:=mem_left he
   obtain⟨j,hj⟩:=bA ZM
   have ng:es[j]? =some e:=by simpa using hj
   have hb:=jn.2 j e ng
   have Fv:j<l.length:=by rw[← hs];exact(aO.1 ng).1
   have Aq:j∉seen:=by rw[hb] at Fi;simpa using Fi
   obtain⟨hke,ZV⟩:=yR j e _ ng (a8 Fv)
   have fu:(execOp a.eval ⟨dst,.next x false,ty,pos,af,none⟩).run P w=.ok (.value (.tuple #[.bool true,e.key,e.val])) (ChangeMaps.setBlock w1 b (.mapIter (some m) clock (seen.toArray.push e.born) clock)):=by simp [execOp,hv,h5]
   rw[fu,Oper.uponIn_value]
   have Pg:Below w.heap.size w w1:=by
    rcases Qx with rfl|rfl
    ·exact Below.refl _ _
    ·exact Below.drew (Below.refl _ _)
   have r1:=r.ext Pg
   have JO:w1.heap=w.heap:=by rcases Qx with rfl|rfl<;>rfl
   have fm:b<w1.heap.size:=by rw[JO];exact iv hit
   obtain⟨r2,G⟩:=r1.modify (o':=.it l (seen++ [j])) iQ rfl rfl h2 (jM i_ i) (ir.rT w1 b (.mapIter (some m) clock (seen.toArray.push e.born) clock)) (by simp) (fun C hC G=>by
    have R_:=G.N m (by rw[JO];exact hm) hN
    refine⟨b,by rw[hC];exact h2,.inr ⟨m,es,clock,R_.1,by simp [JO];exact hm,by rw[R_.2,JO];exact hh,hs,jn,fun j e p h6 h7=>⟨(yR j e p h6 h7).1,?_⟩,?_,fun k hk=>?_⟩⟩
    ·have h8:=(yR j e p h6 h7).2
     refine h8.mono (by simp [JO]) fun b' ja GL=>?_
     have:=G.N b' (by rw[JO];exact ja) GL
     exact⟨this.1,by rw[this.2,JO]⟩
    ·rw[kV (o:=.mapIter (some m) clock seen.toArray clock) (by rw[JO];exact hit)]
     rw[hb];simp
    ·rcases bX.1 hk with hk|hk
     ·exact Mz k hk
     ·simp at hk;subst hk;exact Fv)
   refine nb _ _ (uX j Fv Aq κ _ _ (r2.eS (fi hd) (L7 (.pv (.lit _)) ?_ ?_)))
   ·rw[hke];exact .pv (.lit _)
   ·refine .pv (ZV.mono (by simp [JO]) fun b' ja GL=>?_)
    have:=G.N b' (by rw[JO];exact ja) GL
    exact⟨this.1,by rw[this.2,JO]⟩
theorem a_.entry {x:Operand} {i j:Nat} {l:List (Value×PV)} {seen:List Nat} (hx:δ.ev x=.ptr i 0) (iQ:δ.ob i=some (.it l (seen++ [j]))) (ho:ff x=true) (hd:fO δ.n dst=true) (hq:q≠ .held) (hj:j<l.length)
  (hK:a_ q P g ops rest Q (δ.eS dst (.gX [.pv (.lit l[j].1),.pv l[j].2]))):
  a_ q P g ops (⟨dst,.entry x,ty,pos,af,none⟩::rest) Q δ:=
 a_.O_ _ hq rfl rfl hd (fun κ a w r=>by
  obtain⟨b,hv,h2,h3⟩:=r.WQ (r.ra hx ho) iQ
  rcases h3 with ⟨rfl,h3⟩|⟨m,es,clock,hN,hm,hh,hs,jn,yR,hit,Mz⟩
  ·simp at hj
  ·have ZW:j<es.size:=by omega
   have Bj:=aN ZW
   obtain⟨h4,h5⟩:=yR j _ _ Bj (a8 hj)
   have hb:=jn.2 j _ Bj
   refine⟨.tuple #[es[j].key,es[j].val],fun w' iP=>?_,CG (by rw[h4];exact .pv (.lit _)) (.pv h5)⟩
   have h6:w'.heap[b]? =some (.mapIter (some m) clock (seen.toArray.push es[j].born) clock):=by
    rw[iP.block b (iv hit),hit,hb];simp
   have h7:w'.heap[m]? =some (.map es clock):=(iP.block m hm).trans hh
   have:=run_entry_at (P:=P) w' b m clock seen.toArray es clock es[j] h6 h7 (by simp) (yD jn)
   simp [execOp,hv,this]) hK
theorem a_.DU {t:TypeId} (hd:fO δ.n dst=true) (hK:a_ .plain P g ops rest Q ((δ.fK (.mp (jL (lZ [])))).eS dst (.gq δ.nx))):a_ .plain P g ops (⟨dst,.makeMap t none,ty,pos,af,none⟩::rest) Q δ:=a_.makeMap hd hK
theorem Nf.YX (f:AV→AV) (i:Nat) (l:List (Value×PV)) (seen:List Nat) (r:List (Nat×Option Ob)):Nf.mo f ((i,some (.it l seen))::r)=(i,some (.it l seen))::Nf.mo f r:=rfl
theorem WV.LW {δ δ':DS} {i e k} {e7:List (List PV)} (he:e7=[]) (h:δ'.qu i=true) (hn:δ.ob i=none):WV δ δ' (.pv (.lit (.slice none 0 0))) (.own i e k e7):=by rw[he];exact .jt i e k h hn
end Go.Ab
/- Rows given up in the middle of a walk. -/
namespace Go.Ab
open Go Go.RowKit
variable {q:Md} {P:Program} {g:eR} {δ:DS} {κ:Kp} {a:Act} {w:World}
variable {ops:Array Oper} {rest:List Oper} {Q:Exit→DS→Prop} {dst:Option Nat} {ty:TypeId} {pos:String} {af:Array Edge}
def II (i:Nat):AV→AV
 |.own j e k e7=>bif aL i j then .pv (.slice k e7) else .own j e k e7
 |.gJ j e k e7 n=>bif aL i j then .any else .gJ j e k e7 n
 |v=>v
def AV.sE (i:Nat):AV→AV:=AV.mp (II i)
def pE (δ:DS) (i:Nat):DS:=(δ.gG (AV.sE i)).ga i none
theorem wG (δ:DS) (i j:Nat):(pE δ i).ob j=if i=j then none else (δ.ob j).map (Ob.wo (AV.sE i)):=by
 unfold pE
 rw[jw,j_]
theorem Ld (δ:DS) (i j:Nat):(pE δ i).get j=AV.sE i (δ.get j):=pL (AV.sE i) rfl δ j
theorem Rel.freeze (r:Rel g δ κ a w) {i:Nat} (hi:δ.ob i=some .row):∃κ',Rel g (pE δ i) κ' a w:=by
 have fM:∀j,(pE δ i).live j→j≠i∧δ.live j:=by
  rintro j ⟨o,h⟩
  rw[wG] at h
  by_cases e:i=j
  ·rw[if_pos e] at h;cases h
  ·rw[if_neg e] at h
   cases ho:δ.ob j with
   |none=>rw[ho] at h;simp at h
   |some o'=>exact⟨fun e'=>e e'.symm,o',ho⟩
 have m_:∀j,(pE δ i).lr j↔j≠i∧δ.lr j:=by
  intro j
  unfold DS.lr
  rw[wG]
  by_cases e:i=j
  ·rw[if_pos e];simp [e]
  ·rw[if_neg e]
   have e':j≠i:=fun h=>e h.symm
   cases δ.ob j with
   |none=>simp
   |some o=>cases o<;>simp [Ob.wo,e']
 have u7:∀j,δ.lb j→(pE δ i).lb j:=by
  rintro j ⟨o,h1,h2⟩
  have e:i≠j:=by rintro rfl;rw[hi] at h1;cases h1;simp [Ob.ln] at h2
  refine⟨Ob.wo (AV.sE i) o,?_,?_⟩
  ·rw[wG,if_neg e,h1];rfl
  ·cases o<;>first|rfl|(simp [Ob.ln] at h2)
 have lu:∀j b,δ.live j→(pE δ i).ob j=none→κ j=some b→((pE δ i).cx g (tV δ κ)).N b:=by
  intro j b hl kY hκ
  refine⟨r.EC hl hκ,fun m hm e=>?_⟩
  obtain⟨h1,h2⟩:=gr e
  have:=r.inj j m b hl h1 hκ h2
  subst this
  obtain⟨o,hm⟩:=hm
  rw[kY] at hm;cases hm
 have G:j4 ((δ.cx g κ).less i) w ((pE δ i).cx g (tV δ κ)) w:=
  {B:=rfl,size:=aP _
   N:=fun b _ hN=>⟨⟨hN.1,fun j hj e=>by
    obtain⟨h1,h2⟩:=gr e
    exact hN.2 j h1 h2⟩,rfl⟩
   Lr:=fun j hj=>⟨(m_ j).2 ⟨hj.2,hj.1⟩,iC (DS.gA hj.1),fun _ _=>rfl⟩
   Lb:=fun j hj=>⟨u7 j hj,iC (DS.lI hj)⟩}
 have F:∀{v:Value} {av:AV},RA (δ.cx g κ) w v av→RA ((pE δ i).cx g (tV δ κ)) w v (AV.sE i av):=by
  intro v av h
  refine RA.mp G rfl (fun j e k e7 hj=>?_) (fun j e k e7 n hj=>?_) (fun v e k e7 ho=>?_) (fun b cap e k e7 n _ _=>?_) h
  ·simp only[II,me (Ne.symm hj)];rfl
  ·simp only[II,me (Ne.symm hj)];rfl
  ·simp only[II,nU]
   exact .pv ((RA.own ho).sE lu (by rw[wG,if_pos rfl]))
  ·simp only[II,nU];exact .any _
 refine⟨tV δ κ,?_⟩
 exact
  {n:=r.n
   dfr:=r.dfr
   env:=fun j=>by rw[Ld];exact F (r.env j)
   obj:=fun j o h=>by
    rw[wG] at h
    by_cases e:i=j
    ·rw[if_pos e] at h;cases h
    ·rw[if_neg e] at h
     cases ho:δ.ob j with
     |none=>rw[ho] at h;simp at h
     |some o'=>
      rw[ho] at h
      simp only[br,Option.some.injEq] at h
      subst h
      have h0:=r.obj j o' ho
      have hκ:tV δ κ j=κ j:=iC ⟨_,ho⟩
      cases o' with
      |row=>intro b hb;exact h0 b (hκ.symm.trans hb)
      |box cs=>
       obtain⟨b,c,e',h1,h2,h3,h4⟩:=h0
       refine⟨b,c,e',hκ.trans h1,h2,by simpa using h3,fun k u av h5 h6=>?_⟩
       simp only[a7,bg] at h6
       obtain⟨av',h6,rfl⟩:=h6
       exact⟨F (h4 k u av' h5 h6).1,(h4 k u av' h5 h6).2⟩
      |mp l=>
       obtain⟨b,es,clock,h1,h2,h3,h4⟩:=h0
       exact⟨b,es,clock,hκ.trans h1,h2,⟨h3.1,fun k e' p h5 h6=>⟨(h3.2 k e' p h5 h6).1,G.ra ((h3.2 k e' p h5 h6).2.less (h4.2 p (aU h6)))⟩⟩,h4⟩
      |mpl l kk v=>
       obtain⟨b,es,clock,h1,h2,h3,h4⟩:=h0
       exact⟨b,es,clock,hκ.trans h1,h2,h3.last (fun u p hp h=>G.ra (h.less (h4.2 p hp))) (fun u h=>F h),h4⟩
      |it l seen=>
       obtain⟨b,h1,h2⟩:=h0
       exact⟨b,hκ.trans h1,h2.mono G.size G.N rfl⟩
      |lit T vals=>obtain⟨b,h1,h2⟩:=h0;exact⟨b,hκ.trans h1,h2⟩
      |e8 e rows=>exact⟨hκ.trans h0.1,fun k=>(h0.2.1 k).goes rfl fun b _ h2 _=>⟨h2,rfl⟩,h0.2.2⟩
      |loop l tm ps iK body st=>
       obtain⟨b,lr,h1,h2⟩:=h0
       exact⟨b,lr,hκ.trans h1,h2⟩
   inj:=fun j m b _ _ h3 h4=>r.inj j m b (gr h3).1 (gr h4).1 (gr h3).2 (gr h4).2
   lo:=fun j b _ h2=>r.lo j b (gr h2).1 (gr h2).2
   nx:=fun j h=>r.nx j (fM j h).2
   wt:=fun k hk=>⟨(r.wt k hk).1,fun j b _ hj hb=>by
    obtain⟨hl,hκ⟩:=gr hb
    exact(r.wt k hk).2 j b hl (hj.imp (fun h=>((m_ j).1 h).2) id) hκ⟩
   below:=r.below
   hB:=r.hB
   N0:=r.N0
   kc:=r.kc
   fr:=r.fr.sub fun j b _ h2=>⟨j,(gr h2).1,(gr h2).2⟩}
mutual
def AV.fo:AV→Option Nat
 |.own i _ _ _=>some i
 |.agg cs=>AV.Rp cs
 |.gX cs=>AV.Rp cs
 |_=>none
def AV.Rp:List AV→Option Nat
 |[]=>none
 |v::r=>match AV.fo v with|some i=>some i|none=>AV.Rp r
end
theorem a_.freeze (i:Nat) {l:List Oper} (hi:δ.ob i=some .row) (hK:a_ .plain P g ops l Q (pE δ i)):a_ .plain P g ops l Q δ:=by
 intro κ a w r
 obtain⟨κ',r'⟩:=r.freeze hi
 exact hK κ' a w r'
theorem a_.P_ {t:TypeId} {n i:Nat} {parts:List (Nat×Operand)} (h:AV.Rp (Nf.zi δ.env (parts.map (·.2)))=some i) (hi:δ.ob i=some .row) (hK:a_ .plain P g ops (⟨dst,.buildSlice t n parts.toArray,ty,pos,af,none⟩::rest) Q (pE δ i)):
  a_ .plain P g ops (⟨dst,.buildSlice t n parts.toArray,ty,pos,af,none⟩::rest) Q δ:=a_.freeze i hi hK
theorem a_.L1 {x:Operand} {i:Nat} {xs:List Operand} {tys:Array TypeId} (h:AV.Rp (Nf.zi δ.env xs)=some i) (hi:δ.ob i=some .row) (hK:a_ .plain P g ops (⟨dst,.call {callee:=.value x,args:=xs.toArray,argTypes:=tys},ty,pos,af,none⟩::rest) Q (pE δ i)):
  a_ .plain P g ops (⟨dst,.call {callee:=.value x,args:=xs.toArray,argTypes:=tys},ty,pos,af,none⟩::rest) Q δ:=a_.freeze i hi hK
namespace Nf
variable {n x:Nat} {e:List (Nat×AV)} {o:List (Nat×Option Ob)} (i j:Nat)
theorem fd:pE ⟨n,e,o,x⟩ i=⟨n,C8 (AV.sE i) e,(i,none)::mo (AV.sE i) o,x⟩:=by
 unfold pE
 rw[mv];rfl
theorem Ri:AV.sE i .any=.any:=rfl
theorem V5 (p:PV):AV.sE i (.pv p)=.pv p:=rfl
theorem S1 (a b:Nat):AV.sE i (.ptr a b)=.ptr a b:=rfl
theorem Oj (c:List PV):AV.sE i (.fV c)=.fV c:=rfl
theorem NM (a:Nat):AV.sE i (.gq a)=.gq a:=rfl
theorem QH (a:Nat):AV.sE i (.kO a)=.kO a:=rfl
theorem RO (e k e7):AV.sE i (.own j e k e7)=bif aL i j then .pv (.slice k e7) else .own j e k e7:=rfl
theorem O2 (e k e7 m):AV.sE i (.gJ j e k e7 m)=bif aL i j then .any else .gJ j e k e7 m:=rfl
theorem Sh (cs:List AV):AV.sE i (.agg cs)=.agg (lD (AV.sE i) cs):=by
 show AV.mp _ _=_
 rw[AV.mp,AV.jo,lJ];rfl
theorem SM (cs:List AV):AV.sE i (.gX cs)=.gX (lD (AV.sE i) cs):=by
 show AV.mp _ _=_
 rw[AV.mp,AV.jo,lJ];rfl
theorem S3 (fn:Go.Fn) (cs ds:List AV):AV.sE i (.jk fn cs ds)=.jk fn (lD (AV.sE i) cs) (lD (AV.sE i) ds):=by
 show AV.mp _ _=_
 rw[AV.mp,AV.jo,AV.jo,lJ,lJ];rfl
end Nf
end Go.Ab
/- Arguments read as data,told as values. -/
namespace Go.Ab
open Go Go.RowKit
variable {P:Program}
def Reads (w:World) (cs:List Value) (ps:List PV):Prop:=cs.length=ps.length∧∀(j:Nat) (c:Value) (p:PV),cs[j]? =some c→ps[j]? =some p→RP (fun _=>True) w c p∧c.oneCell'=true
theorem Reads.one {w:World} {c:Value} {p:PV} (h:RP (fun _=>True) w c p) (h1:c.oneCell'=true):Reads w [c] [p]:=
 ⟨rfl,fun j c' p' h2 h3=>by
  cases j with
  |zero=>simp at h2 h3;subst h2;subst h3;exact⟨h,h1⟩
  |succ j=>simp at h2⟩
theorem Reads.nil {w:World}:Reads w [] []:=⟨rfl,fun j c p h=>by simp at h⟩
theorem Reads.append {w:World} {cs cs':List Value} {ps ps':List PV} (h:Reads w cs ps) (h':Reads w cs' ps'):Reads w (cs++cs') (ps++ps'):=by
 refine⟨by simp [h.1,h'.1],fun j c p h1 h2=>?_⟩
 by_cases hj:j<cs.length
 ·rw[aT hj] at h1
  rw[aT (by rw[← h.1];exact hj)] at h2
  exact h.2 j c p h1 h2
 ·rw[aV aJ] at h1
  rw[aV (by rw[← h.1];omega),← h.1] at h2
  exact h'.2 _ c p h1 h2
def Rd (P:Program) (t:TypeId) {α:Type} (enc:α→List PV) (ok:α→Prop):Prop:=
 ∀{H:Type} (en:TypeId×Value→H) (w:World) (sp:Nat→Bool) (fuel:Nat) (cs:List Value) (x:DataW H×List MemPlace),DataW.trod en P w 0 sp true fuel t cs=some x→
  (∀n∈x.1.weights P t,n≤reachBytes)→∃a:α,Reads w cs (enc a)∧ok a
theorem Rd.int {t:TypeId} {k:IntKind} (ht:P.underlying t=some (.int k)):Rd P t (fun n:Int=>[.lit (.int k n)]) (fun n=>(Lit.int k n).wf=true):=by
 intro H en w sp fuel cs x h _
 obtain⟨n,rfl,_,hw⟩:=DataW.trod_int ht h
 exact⟨n,.one (.lit _) rfl,hw⟩
theorem Rd.bool {t:TypeId} (ht:P.underlying t=some .bool):Rd P t (fun b:Bool=>[.lit (.bool b)]) (fun _=>True):=by
 intro H en w sp fuel cs x h _
 obtain⟨b,rfl,_⟩:=DataW.trod_bool ht h
 exact⟨b,.one (.lit _) rfl,trivial⟩
theorem Rd.string {t:TypeId} (ht:P.underlying t=some .string):Rd P t (fun s:ByteArray=>[.lit (.string s)]) (fun s=>s.size≤reachBytes):=by
 intro H en w sp fuel cs x h hw
 obtain⟨s,rfl,rfl,hs⟩:=DataW.trod_string ht h
 exact⟨s,.one (.lit _) rfl,by have:=hw s.data.toList.length (by simp [DataW.weights]);simpa using this⟩
theorem pV {H:Type} {e:TypeId}:∀{ds:List (DataW H)} {d:DataW H},d∈ds→∀n∈d.weights P e,n∈DataW.weightsAll P e ds
 |d0::ds,d,h,n,hn=>by
  simp only[DataW.weightsAll,bX]
  rcases bw.1 h with rfl|h
  ·exact .inl hn
  ·exact .inr (pV h n hn)
theorem mapM_at {α β:Type} {f:α→Option β}:∀{l:List α} {r:List β},l.mapM f=some r→r.length=l.length∧∀(j:Nat) (x:α),l[j]? =some x→f x=r[j]?:=by
 intro l
 induction l with
 |nil=>intro r h;simp at h;subst h;simp
 |cons x l ih=>
  intro r h
  rw[List.mapM_cons] at h
  cases hx:f x with
  |none=>rw[hx] at h;simp at h
  |some y=>
   rw[hx] at h
   cases hl:l.mapM f with
   |none=>rw[hl] at h;simp at h
   |some r'=>
    rw[hl] at h
    simp at h
    subst h
    obtain⟨h1,h2⟩:=ih hl
    refine⟨by simp [h1],fun j z hz=>?_⟩
    cases j with
    |zero=>simp at hz;subst hz;simp [hx]
    |succ j=>simp at hz;simpa using h2 j z hz
theorem vH {w:World} {a:Addr} {n:Nat} {cs:List Value} (h:w.cells? 0 a n=some cs):cs.length=n∧∀j,j<n→w.cell? (a.add j)=cs[j]?:=by
 unfold World.cells? at h
 rw[if_pos (bm _)] at h
 obtain⟨h1,h2⟩:=mapM_at h
 refine⟨by simpa using h1,fun j hj=>?_⟩
 exact h2 j j (by simp [hj])
theorem F4 {w:World} {ad:Addr} {v:Value} (h:w.cell? ad=some v):ad.spot=none:=World.cell?_spot h
theorem Rd.slice {α:Type} {t e:TypeId} {k by':Nat} {enc:α→List PV} {ok:α→Prop} (ht:P.underlying t=some (.slice e)) (hk:P.cellsOf e=k) (nE:0<k) (hb:P.bytesOf e=by') (Br:0<by') (hen:∀a,(enc a).length=k) (h:Rd P e enc ok):
  Rd P t (fun l:List α=>[.slice k (l.map enc)]) (fun l=>l.length*by'≤reachBytes∧∀a∈l,ok a):=by
 intro H en w sp fuel cs x hx hw
 rcases DataW.trod_slice ht hx with ⟨rfl,rfl⟩|⟨a,len,cap,elems,rest,n,rfl,rfl,rfl,_,PC,Cn,PQ,sH,_,_⟩
 ·refine⟨[],.one (sN k) rfl,by simp,by simp⟩
 ·have Aw:(elems.length+rest.length)*by'≤reachBytes:=by
   have:=hw ((elems.length+rest.length)*by') (by simp [DataW.weights,ht,hb])
   exact this
  have Ww:elems.length*by'≤reachBytes:=Nat.le_trans (bS _ aJ) Aw
  have hlen:elems.length≤140737488355328:=by
   have h1:elems.length*1≤elems.length*by':=Nat.mul_le_mul_left _ Br
   have h2:reachBytes≤140737488355328:=by decide
   omega
  -- the elements,one by one
  have key:∀i,i<len→∃c a',w.cells? 0 (a.add (i*k)) k=some c∧Reads w c (enc a')∧ok a':=by
   intro i hi
   have h1:=sH i hi
   rw[hk] at h1
   have qW:i<elems.length:=by omega
   rw[a8 qW] at h1
   cases hc:w.cells? 0 (a.add (i*k)) k with
   |none=>rw[hc] at h1;simp at h1
   |some c=>
    rw[hc,bI] at h1
    obtain⟨a',h2,h3⟩:=h en w sp n c elems[i] h1 (fun m hm=>hw m (by
     simp only[DataW.weights,ht,bw,bX]
     exact .inr (.inl (pV (bx.2 ⟨elems[i],List.getElem_mem qW,rfl⟩) m hm))))
    exact⟨c,a',rfl,h2,h3⟩
  have PK:∃l:List α,l.length=len∧∀i (a':α),l[i]? =some a'→∃c,w.cells? 0 (a.add (i*k)) k=some c∧Reads w c (enc a')∧ok a':=by
   clear sH hx PQ hw
   have:∀m,m≤len→∃l:List α,l.length=m∧∀i (a':α),l[i]? =some a'→∃c,w.cells? 0 (a.add (i*k)) k=some c∧Reads w c (enc a')∧ok a':=by
    intro m
    induction m with
    |zero=>intro _;exact⟨[],rfl,by simp⟩
    |succ m ih=>
     intro hm
     obtain⟨l,h1,h2⟩:=ih (by omega)
     obtain⟨c,a',h3,h4⟩:=key m (by omega)
     refine⟨l++ [a'],by simp [h1],fun i b hb=>?_⟩
     by_cases hi:i<l.length
     ·rw[aT hi] at hb;exact h2 i b hb
     ·rw[aV aJ] at hb
      have qW:i=m:=by have:=(aW.1 hb).1;simp at this;omega
      subst qW
      rw[h1] at hb
      simp at hb
      subst hb
      exact⟨c,h3,h4⟩
   exact this len (aP _)
  obtain⟨l,hl,GI⟩:=PK
  have hle:l.length=elems.length:=by omega
  refine⟨l,.one ?_ rfl,by rw[hle];exact Ww,fun b hb=>?_⟩
  ·have PS:l≠ []→a.spot=none:=by
    intro fW
    obtain⟨b,l',rfl⟩:=cF fW
    obtain⟨c,h1,h2,_⟩:=GI 0 b rfl
    obtain⟨h3,h4⟩:=vH h1
    have h5:=h4 0 nE
    rw[a8 aJ] at h5
    have h6:=F4 h5
    simpa [Addr.add] using h6
   have xK:l≠ []→a.block<w.heap.size:=by
    intro fW
    obtain⟨b,l',rfl⟩:=cF fW
    obtain⟨c,h1,h2,_⟩:=GI 0 b rfl
    obtain⟨h3,h4⟩:=vH h1
    have h5:=h4 0 nE
    rw[a8 aJ] at h5
    simp only[Nat.zero_mul,Addr.add,if_true] at h5
    unfold World.cell? at h5
    rcases cv a.block w.heap.size with fm|Bj
    ·exact fm
    ·rw[cw Bj] at h5;simp at h5
   obtain⟨bl,off,spot⟩:=a
   have iR:∀(i j:Nat) (p:PV),cellAt (l.map enc) i j=some p→∃c:Value,w.cell? ⟨bl,off+i*k+j,none⟩=some c∧RP (fun _=>True) w c p∧c.oneCell'=true:=by
    intro i j p hp
    unfold cellAt at hp
    rw[a7] at hp
    cases Ct:l[i]? with
    |none=>rw[Ct] at hp;simp at hp
    |some b=>
     rw[Ct] at hp
     simp at hp
     have fW:l≠ []:=by rintro rfl;simp at Ct
     have l5:spot=none:=PS fW
     subst l5
     obtain⟨c,h1,h2,_⟩:=GI i b Ct
     obtain⟨h3,h4⟩:=vH h1
     have hj:j<k:=by have:=(aW.1 hp).1;rw[hen] at this;exact this
     have h5:=h4 j hj
     rw[a8 aJ] at h5
     rw[addr_add,addr_add] at h5
     obtain⟨h6,h7⟩:=h2.2 j _ p (a8 aJ) hp
     exact⟨_,h5,h6,h7⟩
   refine .slice bl off (fun i j=>(w.cell? ⟨bl,off+i*k+j,none⟩).getD undef) (by simp [hl]) aJ aJ (fun fW=>?_) (fun c hc=>?_) (fun i j p hp=>?_) (fun i j p hp=>?_)
   ·have R8:l≠ []:=by rintro rfl;simp at fW
    have l5:spot=none:=PS R8
    subst l5
    exact⟨rfl,trivial,xK R8⟩
   ·obtain⟨b,_,rfl⟩:=bx.1 hc;exact hen b
   ·obtain⟨c,h1,h2,h3⟩:=iR i j p hp
    rw[h1];exact⟨rfl,h3⟩
   ·obtain⟨c,h1,h2,h3⟩:=iR i j p hp
    rw[h1];exact h2
  ·obtain⟨i,hi⟩:=bA hb
   obtain⟨c,_,_,h3⟩:=GI i b hi
   exact h3
def L5 (P:Program) (off n:Nat) (fs:List Field) {α:Type} (enc:α→List PV) (ok:α→Prop):Prop:=
 ∀{H:Type} (en:TypeId×Value→H) (w:World) (sp:Nat→Bool) (fuel:Nat) (cs:List Value) (xs:List (DataW H×List MemPlace)),xs.length=fs.length→
  (∀(i:Nat) (f:Field),fs[i]? =some f→DataW.trod en P w 0 sp true fuel f.type ((cs.drop f.offset).take (P.cellsOf f.type))=xs[i]?)→
  (∀m∈DataW.weightsEach P (fs.map (·.type)) (xs.map (·.1)),m≤reachBytes)→∃a:α,Reads w ((cs.drop off).take n) (enc a)∧ok a
theorem L5.nil {off:Nat}:L5 P off 0 [] (fun _:Unit=>[]) (fun _=>True):=fun _ _ _ _ _ _ _ _ _=>⟨(),by simp;exact Reads.nil,trivial⟩
theorem L5.cons {off k n:Nat} {f:Field} {fs:List Field} {α β:Type} {e1:α→List PV} {o1:α→Prop} {e2:β→List PV} {o2:β→Prop} (T8:f.offset=off) (hk:P.cellsOf f.type=k) (h1:Rd P f.type e1 o1) (h2:L5 P (off+k) n fs e2 o2):
  L5 P off (k+n) (f::fs) (fun p:α×β=>e1 p.1++e2 p.2) (fun p=>o1 p.1∧o2 p.2):=by
 intro H en w sp fuel cs xs hl hx hw
 cases xs with
 |nil=>simp at hl
 |cons y ys=>
  have h3:=hx 0 f rfl
  obtain⟨a,ha,Wu⟩:=h1 en w sp fuel _ y h3 (fun m hm=>hw m (by simp [DataW.weightsEach,hm]))
  obtain⟨b,hb,TF⟩:=h2 en w sp fuel cs ys (by simpa using hl) (fun i f' hf=>by simpa using hx (i+1) f' (by simpa using hf)) (fun m hm=>hw m (by simp only[bB,DataW.weightsEach,bX];exact .inr hm))
  refine⟨(a,b),?_,Wu,TF⟩
  rw[T8,hk] at ha
  have e:(cs.drop off).take (k+n)=(cs.drop off).take k++(cs.drop (off+k)).take n:=by
   rw[List.take_add,List.drop_drop]
  rw[e]
  exact ha.append hb
theorem Rd.struct {t:TypeId} {fs:Array Field} {n:Nat} {α:Type} {enc:α→List PV} {ok:α→Prop} (ht:P.underlying t=some (.struct fs)) (hn:P.cellsOf t=n) (h:L5 P 0 n fs.toList enc ok):Rd P t enc ok:=by
 intro H en w sp fuel cs x hx hw
 obtain⟨xs,m,rfl,rfl,iR,hl,sH⟩:=DataW.trod_struct ht hx
 obtain⟨a,ha,Wu⟩:=h en w sp m cs xs (by simpa using hl) (fun i f hf=>sH i f (by simpa using hf)) (fun k hk=>hw k (by simpa [DataW.weights,ht] using hk))
 rw[cC,cG aJ] at ha
 exact⟨a,ha,Wu⟩
theorem Rd.map {t:TypeId} {α β:Type} {e1:α→List PV} {o1:α→Prop} {e2:β→List PV} {o2:β→Prop} (h:Rd P t e1 o1) (f:α→β) (he:∀a,e1 a=e2 (f a)) (ho:∀a,o1 a→o2 (f a)):Rd P t e2 o2:=by
 intro H en w sp fuel cs x hx hw
 obtain⟨a,h1,h2⟩:=h en w sp fuel cs x hx hw
 exact⟨f a,he a▸h1,ho a h2⟩
section
variable {H:Type} {en:TypeId×Value→H} {w:World} {sp:Nat→Bool} {t:TypeId} {v:Value} {d:DataW H} {ps:List MemPlace} {α:Type} {enc:α→List PV} {ok:α→Prop}
theorem KU (h:Rd P t enc ok) (ht:DataW.Trod en P w 0 sp true t v d ps) (hw:∀n∈d.weights P t,n≤reachBytes) {cs:Array Value} (hv:v=.agg cs):∃a:α,RA (uU fun _=>True) w v (.agg ((enc a).map .pv))∧ok a:=by
 subst hv
 obtain⟨fuel,hf⟩:=ht
 obtain⟨a,h1,h2⟩:=h en w sp fuel _ _ hf hw
 refine⟨a,.agg (by rw[List.length_map];exact h1.1) fun j u c h3 h4=>?_,h2⟩
 rw[a7,bg] at h4
 obtain⟨p,hp,rfl⟩:=h4
 exact .pv (h1.2 j u p (by simpa [Value.cells] using h3) hp).1
theorem okWide_struct {r:Reach} {b:Nat} {fs:Array Field} (ht:P.underlying t=some (.struct fs)) (h:Value.okWide P w r b t v):∃cs,v=.agg cs:=by
 unfold Value.okWide at h
 simp only[ht] at h
 obtain⟨cs,h,_⟩:=h
 exact⟨cs,h⟩
end
theorem AH {H:Type} {ts ts':List TypeId} {ds gs:List (DataW H)} (h:(DataW.weightsEach P (ts++ts') (ds++gs)).all (·≤reachBytes)=true) {j:Nat} {t:TypeId} {d:DataW H} (ht:(ts++ts')[j]? =some t) (hd:(ds++gs)[j]? =some d):∀n∈d.weights P t,n≤reachBytes:=by
 intro n hn
 have:=(bD.1 h) n (DataW.weights_mem_each ht hd n hn)
 simpa using this
end Go.Ab
/- Equality of pairs;bools compared. -/
namespace Go.Ab
open Go Go.RowKit
variable {q:Md} {P:Program} {g:eR} {δ:DS} {κ:Kp} {a:Act} {w:World}
variable {ops:Array Oper} {rest:List Oper} {Q:Exit→DS→Prop} {dst:Option Nat} {ty:TypeId} {pos:String} {af:Array Edge}
theorem L8 (op:BinOp) (wy:op=.eql∨op=.neq) (t:TypeId) (x y:Operand) (ht:P.underlying t=some .bool) (m n:Bool) (w:World):
  (do eqGuard op t x y (.bool m) (.bool n);Go.binOp op t (.bool m) (.bool n):Sem Value).run P w=.ok (.bool (if op=.eql then decide (m=n) else decide (¬m=n))) w:=by
 have h1:(eqGuard op t x y (.bool m) (.bool n)).run P w=.ok () w:=by
  unfold eqGuard
  cases op<;>simp [Sem.run,pure,Sem.bind,bind]
 rw[Sem.run_bind,h1,Result.andThen_ok]
 have h2:=run_equalIn_bool' (P:=P) w 9999 t m n ht
 rcases wy with rfl|rfl
 ·simp [Go.binOp,Op.equal,Op.maxDepth,h2];cases m<;>cases n<;>rfl
 ·simp [Go.binOp,Op.equal,Op.maxDepth,h2];cases m<;>cases n<;>rfl
theorem a_.Qz {x y:Operand} {t t':TypeId} {m n:Bool} (hx:δ.ev x=fh m) (hy:δ.ev y=fh n) (ht:P.underlying t=some .bool) (ho:ff x=true) (fZ:ff y=true) (hd:fO δ.n dst=true)
  (hK:a_ q P g ops rest Q (δ.eS dst (fh (decide (¬m=n))))):a_ q P g ops (⟨dst,.binOp .neq t x y t',ty,pos,af,none⟩::rest) Q δ:=
 a_.bin hx hy ho fZ (fun w=>L8 _ (.inr rfl) t x y ht m n w) hd (by simpa using hK)
def PJ:List PV→List AV
 |[]=>[]
 |p::r=> .pv p::PJ r
theorem Hi:∀l:List PV,l.map AV.pv=PJ l
 |[]=>rfl
 |p::r=>by rw[bB,Hi r];rfl
theorem Nf.YU:PJ []=[]:=rfl
theorem Nf.WU (p:PV) (r:List PV):PJ (p::r)=.pv p::PJ r:=rfl
theorem Nf.pl:∀l:List PV,l.map AV.pv=PJ l:=Hi
section
variable {α:Type} {f:α→List PV} {l:List α} {x y z:Operand} {t e:TypeId} {k:Nat} {m n:Int}
theorem a_.qk (hx:δ.ev x=.pv (.slice k (l.map f))) (hz:δ.ev z=eV m) (ht:P.underlying t=some (.slice e)) (hk:(P.info? e).map (·.size)=some k)
  (ho:ff x=true) (NO:ff z=true) (hd:fO δ.n dst=true) (h0:0≤m) (hn:m≤l.length) (hK:a_ q P g ops rest Q (δ.eS dst (.pv (.slice k ((l.drop m.toNat).map f))))):
  a_ q P g ops (⟨dst,.slice t x (some z) none none,ty,pos,af,none⟩::rest) Q δ:=
 a_.slice (l:=m.toNat) (h:=(l.map f).length) (hi:=none) (lo:=some z) hx ht hk ⟨NO,by rw[hz,b9 h0]⟩ rfl (by simp;omega) (aP _) ho hd (by
  have:((l.map f).drop m.toNat).take ((l.map f).length - m.toNat)=(l.drop m.toNat).map f:=by
   rw[cG (by simp),List.map_drop]
  rw[this];exact hK)
end
end Go.Ab
/- Drawn regions:an operation under a guard that is known to hold,taken first. -/
namespace Go.Ab
open Go Go.RowKit
attribute [local irreducible] HS
variable {P:Program} {g:eR} {δ:DS} {l:List Oper} {late dn:List Nat} {k:Wt} {QD:Exit→DS→Prop}
end Go.Ab
/- The plain form's laws in one. -/
namespace Go.Ab
open Go Go.RowKit
set_option linter.defProp false in
def Nf.all:=And.intro @Nf.beq
 (And.intro @Nf.ble
 (And.intro @Nf.hs
 (And.intro @Nf.Yj
 (And.intro @Nf.c_f
 (And.intro @Nf.put
 (And.intro @Nf.VP
 (And.intro @Nf.add
 (And.intro @Nf.set
 (And.intro @Nf.pn
 (And.intro @Nf.pe
 (And.intro @Nf.po
 (And.intro @Nf.px
 (And.intro @Nf.TW
 (And.intro @Nf.Uk
 (And.intro @Nf.Vn
 (And.intro @Nf.RQ
 (And.intro @Nf.Qr
 (And.intro @Nf.start
 (And.intro @Nf.WK
 (And.intro @Nf.Xw
 (And.intro @Nf.tF
 (And.intro @Nf.K7
 (And.intro @Nf.WE
 (And.intro @Nf.RR
 (And.intro @Nf.R9
 (And.intro @Nf.SO
 (And.intro @Nf.MX
 (And.intro @Nf.Y2
 (And.intro @Nf.X_
 (And.intro @Nf.Ik
 (And.intro @Nf.YG
 (And.intro @Nf.Yo
 (And.intro @Nf.Jb
 (And.intro @Nf.sh0
 (And.intro @Nf.Zm
 (And.intro @Nf.YR
 (And.intro @Nf.YY
 (And.intro @Nf.ZZ
 (And.intro @Nf.Ys
 (And.intro @Nf.pa
 (And.intro @Nf.Yx
 (And.intro @Nf.RI
 (And.intro @Nf.round
 (And.intro @Nf.mv
 (And.intro @Nf.Zc
 (And.intro @Nf.mE1
 (And.intro @Nf.Yb
 (And.intro @Nf.Ya
 (And.intro @Nf.Y0
 (And.intro @Nf.YT
 (And.intro @Nf.mOr
 (And.intro @Nf.Z0
 (And.intro @Nf.ZK (And.intro @Nf.ZA
 (And.intro @Nf.YB
 (And.intro @Nf.Zs
 (And.intro @Nf.YP
 (And.intro @Nf.YX
 (And.intro @Nf.QY
 (And.intro @Nf.U9
 (And.intro @Nf.Qg
 (And.intro @Nf.NJ
 (And.intro @Nf.O3
 (And.intro @Nf.Rz
 (And.intro @Nf.Rr
 (And.intro @Nf.Nz
 (And.intro @Nf.S9
 (And.intro @Nf.R7
 (And.intro @Nf.QB
 (And.intro @Nf.OJ
 (And.intro @Nf.Sg
 (And.intro @Nf.Pv
 (And.intro @Nf.NT
 (And.intro @Nf.Pu
 (And.intro @Nf.K6
 (And.intro @Nf.OX
 (And.intro @Nf.Mo
 (And.intro @Nf.yU
 (And.intro @Nf.Y8
 (And.intro @Nf.ZX
 (And.intro @Nf.bko
 (And.intro @Nf.Y1
 (And.intro @Nf.ll0
 (And.intro @Nf.YM
 (And.intro @Nf.la0
 (And.intro @Nf.Zb
 (And.intro @Nf.Z6
 (And.intro @Nf.Yr
 (And.intro @Nf.XM
 (And.intro @Nf.ZG
 (And.intro @Nf.UK
 (And.intro @Nf.UF
 (And.intro @Nf.TS
 (And.intro @Nf.Zd
 (And.intro @Nf.Yk
 (And.intro @Nf.YI
 (And.intro @Nf.sp0
 (And.intro @Nf.Ze
 (And.intro @Nf.fd
 (And.intro @Nf.Ri
 (And.intro @Nf.V5
 (And.intro @Nf.S1
 (And.intro @Nf.Oj
 (And.intro @Nf.NM
 (And.intro @Nf.QH
 (And.intro @Nf.RO
 (And.intro @Nf.O2
 (And.intro @Nf.Sh
 (And.intro @Nf.SM
 (And.intro @Nf.S3
 (And.intro @Nf.pl
 (And.intro @Nf.YU ((@Nf.WU))))))))))))))))))))))))))))))))))))))))))))))))))))))))))))))))))))))))))))))))))))))))))))))))))))))))))))))))))
end Go.Ab
/- A number turned into an int. -/
namespace Go.Ab
open Go Go.RowKit
variable {P:Program} {g:eR} {δ:DS} {q:Md}
variable {ops:Array Oper} {rest:List Oper} {Q:Exit→DS→Prop} {dst:Option Nat} {ty:TypeId} {pos:String} {af:Array Edge}
end Go.Ab
/- One shifted left by a number;bool slices. -/
namespace Go.Ab
open Go Go.RowKit
variable {P:Program} {g:eR} {δ:DS} {q:Md}
variable {ops:Array Oper} {rest:List Oper} {Q:Exit→DS→Prop} {dst:Option Nat} {ty:TypeId} {pos:String} {af:Array Edge}
end Go.Ab
/- A slice made with make:a row of zeros. -/
namespace Go.Ab
open Go Go.RowKit
variable {P:Program} {g:eR} {δ:DS} {q:Md}
variable {ops:Array Oper} {rest:List Oper} {Q:Exit→DS→Prop} {dst:Option Nat} {ty:TypeId} {pos:String} {af:Array Edge}
theorem iO.mY {gd:Option (Tmp×Bool)} {t e:TypeId} {x y:Operand} {m:Int} {z:Value} {by':Nat} (hx:δ.ev x=eV m) (hy:δ.ev y=eV m) (ht:P.underlying t=some (.slice e)) (hi:(P.info? e).map (fun i=>(i.size,i.zero,i.bytes))=some (1,some z,by')) (Ud:z.cells= #[z]) (h1:z.oneCell'=true) (hb:bz by' 64=true)
  (ho:ff x=true) (fZ:ff y=true) (hd:fO δ.n dst=true) (hm:0≤m∧m≤100000):
  iO P g ⟨dst,.makeSlice t x y,ty,pos,af,gd⟩ δ ((δ.fK .row).eS dst (.own δ.nx e 1 (bZ m.toNat [.lit z]))):=by
 intro κ a w r
 have ja:by'≤64:=by simpa using hb
 obtain⟨i0,ju,l5,nv,Br⟩:∃i0,P.info? e=some i0∧i0.size=1∧i0.zero=some z∧i0.bytes=by':=by
  cases h:P.info? e with
  |none=>rw[h] at hi;simp at hi
  |some i0=>rw[h] at hi;simp at hi;exact⟨i0,rfl,hi.1,hi.2.1,hi.2.2⟩
 have J0:=r.lit hx ho
 have VM:=r.lit hy fZ
 have QC:IntKind.i64.wrap m=m:=IntWalk.i64_in _ (by omega)
 generalize xS:((bM m.toNat).map (fun _=>z))=c'
 have pk:c'.size=m.toNat:=by rw[← xS];simp
 have hmul:by'*m.toNat≤6400000:=by
  have h1:by'*m.toNat≤64*m.toNat:=bS _ ja
  omega
 have Rs:(by':Int)*m≤6400000:=by
  have:((by'*m.toNat:Nat):Int)≤6400000:=by omega
  rw[cH,b9 hm.1] at this
  exact this
 have fu:(execOp a.eval ⟨dst,.makeSlice t x y,ty,pos,af,gd⟩).run P w=.ok (.value (.slice (some ⟨w.heap.size,0,none⟩) m.toNat m.toNat)) (w.alloc (.cells c' e)):=by
  have l6:∀w,(typeInfo e).run P w=.ok i0 w:=fun w=>by simp [typeInfo,ju]
  have Ai:∀w,(zeroValue e).run P w=.ok z w:=fun w=>by simp [zeroValue,typeInfo,ju,nv]
  have PY:∀w,(sizeOf e).run P w=.ok 1 w:=fun w=>by simp [sizeOf,typeInfo,ju,l5]
  have has:∀w,(asInt (.int .i64 m)).run P w=.ok m w:=fun w=>by simp [asInt,asIntOf,Sem.run_bind,Sem.run_pure,Result.andThen_ok]
  have NR:¬(by':Int)*m>2 ^ 48:=by
   have:(2:Int) ^ 48=281474976710656:=by decide
   omega
  have Ac:¬m<0:=by omega
  have kD:¬m.toNat*by'>roomBytes:=by
   have:(6400000:Nat)≤roomBytes:=by decide
   have h2:m.toNat*by'=by'*m.toNat:=bR _ _
   omega
  have U2:(bM (m.toNat*1)).map (fun j=>(#[z]:Array Value)[j % (#[z]:Array Value).size]!)=c':=by
   rw[← xS,cI]
   apply Array.ext
   ·simp
   ·intro i h1 h2
    simp [Nat.mod_one]
  simp only[execOp,Instr.makeSlice,Sem.run_bind,Result.andThen_ok,run_underlying ht,J0,VM,has,l6,Br,QC]
  simp only[decide_eq_false NR,decide_eq_false Ac,cJ,cK,cL,decide_false,gt_iff_lt,cu,if_false,askRoom,Sem.run_pure,Result.andThen_ok,Sem.run_bind]
  have Di:¬roomBytes<m.toNat*by':=kD
  simp only[if_neg Di,Sem.run_pure,Result.andThen_ok,PY]
  by_cases h0:m.toNat*1=0
  ·have Py:(bM (m.toNat*1)).map (fun j=>(#[]:Array Value)[j % (#[]:Array Value).size]!)=c':=by
    rw[← xS,h0,show m.toNat=0 from by omega];simp [Array.range_zero']
   simp only[if_pos h0,Sem.run_bind,Sem.run_pure,Result.andThen_ok,newRow]
   simp only[pure_bind,Py]
   rfl
  ·simp only[if_neg h0,Sem.run_bind,Sem.run_pure,Result.andThen_ok,Ai,newRow,Ud,U2]
   rfl
 have nk:m.toNat≤maxLen:=by simp only[maxLen];omega
 obtain⟨r',G⟩:=r.grow .row (.cells c' e) (fun C G hκ b hb=>by
  have:w.heap.size=b:=Option.some.inj (hκ.symm.trans hb)
  subst this
  exact⟨c',e,heap_alloc_new w _⟩)
 have gx:=World.ownsRow_lit (base:=g.B) (e:=e) (size:=1) w c' m.toNat r.hB nk (by rw[pk];omega)
 have sH:∀(j:Nat) (u:Value),c'.toList[j]? =some u→u=z:=by
  intro j u h
  rw[← xS] at h
  simp at h
  exact h.2.symm
 refine .inl ⟨_,_,_,_,fu,.inl rfl,r'.eS (fi hd) (.own ?_)⟩
 refine⟨by show(δ.fK .row).ob _=_;rw[fU,if_pos rfl],by rw[cM];omega,fun c hc=>by rw[List.eq_of_mem_replicate hc];rfl,fun b hb=>?_,c'.toList,by rw[cM];exact gx,fun u hu=>?_,fun i' j p l9=>?_⟩
 ·simp only[Value.ownBlock,Option.some.injEq] at hb
  subst hb
  show gY _ _ _ _=_
  simp [gY]
 ·obtain⟨j,hj⟩:=bA hu
  rw[sH j u hj];exact h1
 ·unfold cellAt at l9
  have hi:i'<m.toNat:=by
   rcases cv i' m.toNat with h|h
   ·exact h
   ·rw[cE (by simpa using h)] at l9;simp at l9
  rw[List.getElem?_replicate,if_pos hi] at l9
  have hj:j=0∧p=.lit z:=by
   cases j with
   |zero=>simp at l9;exact⟨rfl,l9.symm⟩
   |succ j=>simp at l9
  obtain⟨rfl,rfl⟩:=hj
  refine⟨z,?_,.lit _⟩
  rw[bC,← xS]
  simp [hi]
end Go.Ab
namespace Go.Ab
open Go Go.RowKit
variable {P:Program} {g:eR} {δ:DS} {q:Md}
variable {ops:Array Oper} {rest:List Oper} {Q:Exit→DS→Prop} {dst:Option Nat} {ty:TypeId} {pos:String} {af:Array Edge}
theorem a_.mY {t e:TypeId} {x y:Operand} {m:Int} {z:Value} {by':Nat} (hx:δ.ev x=eV m) (hy:δ.ev y=eV m) (ht:P.underlying t=some (.slice e)) (hi:(P.info? e).map (fun i=>(i.size,i.zero,i.bytes))=some (1,some z,by')) (Ud:z.cells= #[z]) (h1:z.oneCell'=true) (hb:bz by' 64=true)
  (ho:ff x=true) (fZ:ff y=true) (hd:fO δ.n dst=true) (hm:0≤m∧m≤100000) (hK:a_ .plain P g ops rest Q ((δ.fK .row).eS dst (.own δ.nx e 1 (bZ m.toNat [.lit z])))):
  a_ .plain P g ops (⟨dst,.makeSlice t x y,ty,pos,af,none⟩::rest) Q δ:=a_.r_ rfl rfl (iO.mY hx hy ht hi Ud h1 hb ho fZ hd hm) hK
end Go.Ab
/- A store into an element of a row of the walk's own (elements of one cell). -/
namespace Go.Ab
open Go Go.RowKit
variable {P:Program} {g:eR} {δ:DS} {q:Md}
variable {ops:Array Oper} {rest:List Oper} {Q:Exit→DS→Prop} {dst:Option Nat} {ty:TypeId} {pos:String} {af:Array Edge}
def q6 (i n:Nat) (c:List PV):AV→AV
 |.own j e k e7=>bif aL i j then (bif aL k 1 then .own j e k (e7.set n c) else .any) else .own j e k e7
 |.gJ j e k e7 m=>bif aL i j then .any else .gJ j e k e7 m
 |v=>v
def AV.mg (i n:Nat) (c:List PV):AV→AV:=AV.mp (q6 i n c)
theorem iO.gu {gd:Option (Tmp×Bool)} {x y:Operand} {t e:TypeId} {i idx:Nat} {e7:List (List PV)} {p:PV} (hx:δ.ev x=.gJ i e 1 e7 idx) (hy:δ.ev y=.pv p) (hr:δ.ob i=some .row) (ht:(P.info? t).map (·.size)=some 1) (h1:AV.one (.pv p)=true)
  (ho:ff x=true) (fZ:ff y=true) (hd:fO δ.n dst=true):
  iO P g ⟨dst,.store t x y,ty,pos,af,gd⟩ δ ((δ.gG (AV.mg i idx [p])).eS dst .any):=by
 intro κ a w r
 have XK:=r.ra hx ho
 have vW:=r.ra hy fZ
 have o9:=vW.one h1
 generalize J0:a.eval x=u at XK
 cases XK with
 | @gJ _ _ _ _ _ b cap hi h=>
  have hκ:κ i=some b:=h.wI b rfl
  obtain⟨xs,⟨sD,gF⟩,hxo,Wi⟩:=h.row
  rcases gF with ⟨hn,_⟩|⟨g0,cap0,cur,hv,hg,h3,hle,Cn,pk,rL⟩
  ·cases hn
  ·simp only[Value.slice.injEq,Option.some.injEq,Addr.mk.injEq] at hv
   obtain⟨⟨rfl,_⟩,_,rfl⟩:=hv
   have fu:(execOp a.eval ⟨dst,.store t x y,ty,pos,af,gd⟩).run P w=.ok .skip (w.setCell ⟨b,idx*1,none⟩ (a.eval y)):=by
    obtain⟨i0,ju,l5⟩:∃i0,P.info? t=some i0∧i0.size=1:=by
     cases h:P.info? t with
     |none=>rw[h] at ht;simp at ht
     |some i0=>rw[h] at ht;exact⟨i0,rfl,by simpa using ht⟩
    have hc:w.cell? ⟨b,idx*1,none⟩=some (cur[idx*1]'(by omega)):=by rw[cell_of h3,aN aJ]
    have jn:(store ⟨b,idx*1,none⟩ (a.eval y)).run P w=.ok () (w.setCell ⟨b,idx*1,none⟩ (a.eval y)):=by
     rw[run_store P w _ _ _ o9,hc];simp [nS h3]
    rw[cI] at jn ⊢
    rw[cI] at J0
    simp [execOp,Instr.storeAt,Instr.sureAddr,storeVar,J0,mK o9,sizeOf,typeInfo,ju,l5,storeCells,addr_add,jn]
   obtain⟨r',G⟩:=r.row hr (κ':=κ) (fun _ _=>rfl) (by rw[hκ];exact ir.setCell w ⟨b,idx*1,none⟩ (a.eval y)) (fun b' ja=>by
     have e1:b=b':=Option.some.inj (hκ.symm.trans ja)
     subst e1
     refine⟨.inl hκ,?_,_,_,kT h3 _⟩
     have:=(aO.1 (kT (off:=idx*1) h3 (a.eval y))).1
     exact this)
    (AV.mg i idx [p]) rfl (fun G v av Ra=>by
     refine Ra.mp G rfl (fun j e' k' els' hj=>?_) (fun j e' k' els' n hj=>?_) (fun v' e' k' els' JY=>?_) (fun b' cap' e' k' els' n _ _=>?_)
     ·simp only[q6,me (Ne.symm hj)];rfl
     ·simp only[q6,me (Ne.symm hj)];rfl
     ·simp only[q6,nU,cond_true]
      cases EJ:aL k' 1 with
      |false=>exact .any _
      |true=>
       obtain rfl:k'=1:=aM EJ
       obtain⟨xs',⟨SH,qM⟩,T0,Vv⟩:=JY.row
       refine .own ⟨?_,by rw[cN];exact JY.lim,?_,JY.wI,xs'.set idx (a.eval y),?_,?_,?_⟩
       ·show(δ.gG _).ob i=_
        rw[j_,hr];rfl
       ·intro c hc
        rcases cO hc with hc|rfl
        ·exact JY.hk c hc
        ·rfl
       ·rw[cN]
        refine⟨by rw[cN];exact SH,?_⟩
        rcases qM with ⟨hn,h0⟩|⟨g1,cap1,cur1,Cf,JW,Wv,Ug,VU,TK,Vm⟩
        ·exact .inl ⟨hn,h0⟩
        ·have Ec:κ i=some g1:=JY.wI g1 (by rw[Cf];rfl)
         have e1:b=g1:=Option.some.inj (hκ.symm.trans Ec)
         subst e1
         rw[h3] at Wv
         simp only[Option.some.injEq,Obj.cells.injEq] at Wv
         obtain⟨rfl,rfl,_⟩:=Wv
         refine .inr ⟨b,cap1,_,Cf,JW,kT h3 _,Ug,VU,by simpa using TK,?_⟩
         rw[← Vm,Array.toList_setIfInBounds,cI,cI,List.take_set]
       ·intro u hu
        rcases cO hu with hu|rfl
        ·exact T0 u hu
        ·exact o9
       ·intro i' j q hq
        unfold cellAt at hq
        rw[bH] at hq
        by_cases Ol:idx=i'
        ·subst Ol
         by_cases fm:idx<els'.length
         ·rw[if_pos rfl,if_pos fm] at hq
          have Zu:j=0∧q=p:=by
           cases j with
           |zero=>simp at hq;exact⟨rfl,hq.symm⟩
           |succ j=>simp at hq
          obtain⟨rfl,rfl⟩:=Zu
          refine⟨a.eval y,?_,G.rp (C:=(δ.cx g κ).less i) vW.k9⟩
          rw[bH,if_pos aJ,if_pos aJ]
         ·rw[if_pos rfl,if_neg fm] at hq;simp at hq
        ·rw[if_neg Ol] at hq
         obtain⟨u,hu,MT⟩:=Vv i' j q (by unfold cellAt;exact hq)
         have hj:j=0:=by
          rw[Option.bind_eq_some_iff] at hq
          obtain⟨c,Dq,PD⟩:=hq
          have:=JY.hk c (aU Dq)
          have:=(aW.1 PD).1
          omega
         subst hj
         exact⟨u,by rw[bH,if_neg aJ];exact hu,G.rp (C:=(δ.cx g κ).less i) MT⟩
     ·simp only[q6,nU,cond_true];exact .any _)
   exact .inl ⟨_,_,_,_,fu,.inr ⟨rfl,rfl⟩,r'.eS (fi hd) (.any _)⟩
theorem a_.gu {x y:Operand} {t e:TypeId} {i idx:Nat} {e7:List (List PV)} {p:PV} (hx:δ.ev x=.gJ i e 1 e7 idx) (hy:δ.ev y=.pv p) (hr:δ.ob i=some .row) (ht:(P.info? t).map (·.size)=some 1) (h1:AV.one (.pv p)=true)
  (ho:ff x=true) (fZ:ff y=true) (hd:fO δ.n dst=true) (hK:a_ .plain P g ops rest Q ((δ.gG (AV.mg i idx [p])).eS dst .any)):a_ .plain P g ops (⟨dst,.store t x y,ty,pos,af,none⟩::rest) Q δ:=
 a_.r_ rfl rfl (iO.gu hx hy hr ht h1 ho fZ hd) hK
end Go.Ab
/- A field of an element of a row of the walk's own,read;a store of a whole element of several cells into such a row. -/
namespace Go.Ab
open Go Go.RowKit
variable {P:Program} {g:eR} {δ:DS} {q:Md}
variable {ops:Array Oper} {rest:List Oper} {Q:Exit→DS→Prop} {dst:Option Nat} {ty:TypeId} {pos:String} {af:Array Edge}
inductive C1:Bool→List AV→List AV→Prop
 |nil:C1 false [] []
 |here {b:Bool} {vs vs':List AV} (h:C1 b vs vs'):C1 true (.pv (.lit (.slice none 0 0))::vs) (.pv (.slice 1 [])::vs')
 |skip {b:Bool} {v:AV} {vs vs':List AV} (h:C1 b vs vs'):C1 b (v::vs) (v::vs')
theorem N5 {C:Cx} {w:World} {v:Value} (h:RA C w v (.pv (.lit (.slice none 0 0)))) (k:Nat):RA C w v (.pv (.slice k [])):=by
 have h1:=h.lit
 subst h1
 exact .pv (.slice 0 0 (fun _ _=>undef) rfl (by simp) (by simp) (fun h=>absurd rfl h) (fun c hc=>by simp at hc) (fun i j p hp=>by simp [cellAt] at hp) (fun i j p hp=>by simp [cellAt] at hp))
theorem C1.ra {C:Cx} {w:World} {b:Bool} {vs vs':List AV} (h:C1 b vs vs'):vs.length=vs'.length∧∀(j:Nat) (u:Value) (c c':AV),vs[j]? =some c→vs'[j]? =some c'→RA C w u c→RA C w u c':=by
 induction h with
 |nil=>exact⟨rfl,fun j u c c' h=>by simp at h⟩
 |here h ih=>
  refine⟨by simp [ih.1],fun j u c c' h1 h2 h3=>?_⟩
  cases j with
  |zero=>simp at h1 h2;subst h1;subst h2;exact N5 h3 1
  |succ j=>exact ih.2 j u c c' (by simpa using h1) (by simpa using h2) h3
 |skip h ih=>
  refine⟨by simp [ih.1],fun j u c c' h1 h2 h3=>?_⟩
  cases j with
  |zero=>simp at h1 h2;subst h1;subst h2;exact h3
  |succ j=>exact ih.2 j u c c' (by simpa using h1) (by simpa using h2) h3
theorem a_.xQ {x y:Operand} {t e:TypeId} {k:Nat} {m:Int} {ik:IntKind} {e7:List (List PV)} {cs:List PV} (hx:δ.ev x=.pv (.slice k e7)) (hy:δ.ev y=.pv (.lit (.int ik m))) (hn:e7[m.toNat]? =some cs)
  (ht:P.underlying t=some (.slice e)) (hk:(P.info? e).map (·.size)=some k) (ho:ff x=true) (fZ:ff y=true) (hd:fO δ.n dst=true) (h0:0≤m)
  (hK:a_ q P g ops rest Q (δ.eS dst (.fV cs))):a_ q P g ops (⟨dst,.indexAddr t x y,ty,pos,af,none⟩::rest) Q δ:=
 a_.B5 (n:=m.toNat) hx (by rw[hy,b9 h0]) hn ht hk ho fZ hd hK
def nQ (i:Nat):List Nat→Bool
 |[]=>false
 |j::r=>bif i==j then true else nQ i r
def qI (ks:List Nat):List (Nat×AV)→List (Nat×AV)
 |[]=>[]
 |(i,v)::r=>bif nQ i ks then (i,v)::qI ks r else qI ks r
theorem Qv (ks:List Nat):qI ks []=[]:=rfl
theorem Ng (ks:List Nat) (i:Nat) (v:AV) (r:List (Nat×AV)):qI ks ((i,v)::r)=bif nQ i ks then (i,v)::qI ks r else qI ks r:=rfl
theorem GY (i:Nat):nQ i []=false:=rfl
theorem Be (i j:Nat) (r:List Nat):nQ i (j::r)=bif i==j then true else nQ i r:=rfl
theorem xV (ks:List Nat):∀(e:List (Nat×AV)) (j:Nat),look (qI ks e) j=if nQ j ks=true then look e j else .any
 |[],j=>by simp [qI,look]
 |(i,v)::r,j=>by
  rw[Ng]
  have ih:=xV ks r j
  cases hm:nQ i ks with
  |true=>
   rw[cond_true,fC,fC]
   by_cases e:i=j
   ·subst e;rw[if_pos rfl,if_pos rfl,if_pos hm]
   ·rw[if_neg e,if_neg e,ih]
  |false=>
   rw[cond_false,fC,ih]
   by_cases e:i=j
   ·subst e;rw[if_neg (by rw[hm];simp),if_neg (by rw[hm];simp)]
   ·rw[if_neg e]
theorem AW.Mv (id m:Nat) (ks:List Nat) {b:Bool} {l:Array Oper} (_h:aY m δ.env.length=true) (hK:AW P g (.region id l b) Q {δ with env:=qI ks δ.env}):AW P g (.region id l b) Q δ:=by
 intro κ a w r
 refine hK κ a w ?_
 exact
  {n:=r.n,dfr:=r.dfr
   env:=fun j=>by
    show RA _ w _ (look (qI ks δ.env) j)
    rw[xV]
    split
    ·exact r.env j
    ·exact .any _
   obj:=r.obj,inj:=r.inj,lo:=r.lo,nx:=r.nx,wt:=r.wt,below:=r.below,hB:=r.hB,N0:=r.N0,fr:=r.fr,kc:=r.kc}
theorem fS.NP {gd:Option (Tmp×Bool)} {t:TypeId} {parts:List (Nat×Operand)} {fs:Array Field} {z:Value} {cells:List AV} (hs:P.underlying t=some (.struct fs)) (hz:(P.info? t).bind (·.zero)=some z) (h1:z.cells.toList.all (·.oneCell')=true) (jO:fs.toList.all (fun f=>(P.info? f.type).isSome)=true)
  (ho:parts.all (fun p=>ff p.2)=true) (hf:jq (placeOf P fs) (z.cells.toList.map fun v=> .pv (.lit v)) (parts.map fun p=>(p.1,δ.ev p.2))=some cells):
  fS P ⟨dst,.build t parts.toArray,ty,pos,af,gd⟩ δ (.agg cells):=by
 intro g κ a w r
 obtain⟨i0,ju,nv⟩:∃i0,P.info? t=some i0∧i0.zero=some z:=by
  cases h:P.info? t with
  |none=>rw[h] at hz;simp at hz
  |some i0=>rw[h] at hz;exact⟨i0,rfl,by simpa using hz⟩
 have IL:=fun w1=>run_places (P:=P) fs.toList w1 #[] jO
 obtain⟨c',h2,h3⟩:=oJ (C:=δ.cx g κ) (w:=w) (place:=placeOf P fs) (place':=fun i=>((#[]:Array (Nat×Nat))++(fs.toList.map fun f=>(f.offset,((P.info? f.type).map (·.size)).getD 0)).toArray)[i]?)
  (fun i x h=>by
   unfold placeOf at h
   cases Lj:fs[i]? with
   |none=>rw[Lj] at h;simp at h
   |some f=>
    rw[Lj] at h
    simp only[bI,bg] at h
    obtain⟨ii,h4,rfl⟩:=h
    simp [Lj,h4])
  (parts.map fun p=>(p.1,a.eval p.2)) (parts.map fun p=>(p.1,δ.ev p.2)) z.cells _ cells (by simp) (fun j x y h4 h5=>by
   simp only[a7,bg] at h4 h5
   obtain⟨p,h6,rfl⟩:=h4
   obtain⟨p',h7,rfl⟩:=h5
   rw[h6] at h7;cases h7
   exact⟨rfl,r.CB p.2 (iD (by simpa using (bD.1 ho) p (aU h6)))⟩)
  ⟨by simp,fun j u av h4 h5=>by
   simp only[a7,bg] at h5
   obtain⟨v,h5,rfl⟩:=h5
   have:v=u:=by have:=h4;rw[← bC,h5] at this;exact Option.some.inj this
   subst this
   exact⟨.pv (.lit _),by simpa using (bD.1 h1) _ (aU h5)⟩⟩ hf
 refine⟨.agg c',fun w1=>?_,.agg h3.1 fun j u c h4 h5=>(h3.2 j u c h4 h5).1⟩
 have Od:(fs.mapM fun(f:Field)=>(do pure (f.offset,← sizeOf f.type):Sem (Nat×Nat)))=fs.toList.foldlM (fun(acc:Array (Nat×Nat)) (f:Field)=>do let s ← sizeOf f.type;pure (acc.push (f.offset,s))) #[]:=by
  rw[Array.mapM_eq_foldlM,← Array.foldlM_toList]
  congr 1
  funext acc f
  simp
 have Ai:∀w,(zeroValue t).run P w=.ok z w:=fun w=>by simp [zeroValue,typeInfo,ju,nv]
 simp only[execOp,Instr.build,Sem.run_bind,Ai,Result.andThen_ok,run_underlying hs,Od,IL,bp,h2,Sem.run_pure]
theorem fS.build (t:TypeId) (pK:List Nat) {gd:Option (Tmp×Bool)} {l:List Value} {parts:List (Nat×Operand)} {fs:Array Field} {z:Value} {cells:List AV} (hs:P.underlying t=some (.struct fs)) (hz:(P.info? t).bind (·.zero)=some z) (hl:z.cells=l.toArray) (h1:z.cells.toList.all (·.oneCell')=true) (jO:fs.toList.all (fun f=>(P.info? f.type).isSome)=true)
  (ho:parts.all (fun p=>ff p.2)=true) (uD:((parts.map fun p=>(p.1,δ.ev p.2)).map fun p=>(placeOf P fs p.1).map (·.1))=pK.map some) (hf:jq (placeOf P fs) (z.cells.toList.map fun v=> .pv (.lit v)) (parts.map fun p=>(p.1,δ.ev p.2))=some cells):
  fS P ⟨dst,.build t parts.toArray,ty,pos,af,gd⟩ δ (.agg (tR (AI l) (rG δ.env pK parts))):=by
 have h2:=fS.NP (gd:=gd) (dst:=dst) (ty:=ty) (pos:=pos) (af:=af) hs hz h1 jO ho hf
 have:=sQ _ pK _ cells hf uD
 rw[zQ,hl,cD,uY] at this
 rw[← this]
 exact h2
end Go.Ab
/- The rest of a row of statements walked once,from a weaker state. -/
namespace Go.Ab
open Go Go.RowKit
variable {P:Program} {g:eR} {δ δc:DS} {Q:Exit→DS→Prop} {c rest:Code}
theorem AW.cut (h:AW P g c (jJ fun δ'=>pw g δ' δc) δ) (hK:AW P g rest Q δc):AW P g (.seq c rest) Q δ:=by
 refine AW.seq (AW.mono h fun e δ' h1=>?_)
 cases e with
 |normal=>exact AW.fp h1 hK
 |_=>exact h1.elim
end Go.Ab
namespace Go.Ab
open Go Go.RowKit
end Go.Ab
/- The address of an array's element. -/
namespace Go.Ab
open Go Go.RowKit
variable {P:Program} {g:eR} {δ:DS} {q:Md}
variable {ops:Array Oper} {rest:List Oper} {Q:Exit→DS→Prop} {dst:Option Nat} {ty:TypeId} {pos:String} {af:Array Edge}
theorem a_.vq {α:Type} {x y:Operand} {t e e':TypeId} {i k n:Nat} {f:α→List PV} {l:List α} (hx:δ.ev x=.own i e' k (l.map f)) (hy:δ.ev y=eV (n:Nat))
  (ht:P.underlying t=some (.slice e)) (hk:(P.info? e).map (·.size)=some k) (ho:ff x=true) (fZ:ff y=true) (hd:fO δ.n dst=true) (hn:n<l.length)
  (hK:a_ q P g ops rest Q (δ.eS dst (.gJ i e' k (l.map f) n))):a_ q P g ops (⟨dst,.indexAddr t x y,ty,pos,af,none⟩::rest) Q δ:=
 a_.qj (n:=n) hx hy (by simp;omega) ht hk ho fZ hd hK
end Go.Ab
namespace Go.Ab
open Go Go.RowKit
attribute [local irreducible] HS
variable {P:Program} {g:eR} {δ:DS} {l:List Oper} {late dn:List Nat} {k:Wt} {QD:Exit→DS→Prop}
section
variable {q:Md} {P:Program} {g:eR} {δ:DS} {ops:Array Oper} {f:DS→Prop} {Q:Exit→DS→Prop} {y:Code}
theorem a_.Vh (h:f δ):a_ q P g ops [] (gb f Q) δ:=a_.nil (ic h)
theorem AW.TJ {id:Nat} {l:List Oper} (h:a_ .plain P g l.toArray l (gb (AW P g y Q) Q) δ):AW P g (.seq (.region id l.toArray false) y) Q δ:=AW.seq (AW.region h)
end
end Go.Ab
/- A slice held against nil;a slice made with room and no element. -/
namespace Go.Ab
open Go Go.RowKit
variable {P:Program} {g:eR} {δ:DS} {q:Md}
theorem a_.VF {ι:Type} {ops:Array Oper} {o:Oper} {rest:List Oper} {Q:Exit→DS→Prop} (v:ι→AV) (φ:ι→Prop) (hg:o.guard=none) (jl:jC o=true) (hd:fO δ.n o.dst=true)
  (h:∀κ a w,Rel g δ κ a w→∃i,φ i∧∃u,(∀w',kB δ κ w w'→(execOp a.eval o).run P w'=.ok (.value u) w')∧RA (δ.cx g κ) w u (v i)) (hK:∀i,φ i→a_ q P g ops rest Q (δ.eS o.dst (v i))):a_ q P g ops (o::rest) Q δ:=by
 intro κ a w r
 obtain⟨i,hi,u,h1,h2⟩:=h κ a w r
 have uX:=hK i hi κ _ _ (r.eS (fi hd) h2)
 cases q with
 |quiet=>
  show wpQuiet P ops _ _ (o::rest) a
  unfold wpQuiet
  rw[if_pos (by simp [Region.wanted,hg])]
  refine⟨u,fun w' iP=>?_,uX⟩
  unfold Oper.quietAt
  rw[h1 w' (kB.BQ iP)]
  exact⟨rfl,rfl⟩
 |held=>
  show wc P ops _ _ (o::rest) a
  refine⟨u,.inl ⟨by simp [Region.wanted,hg],fun w' iP=>h1 w' iP⟩,?_⟩
  ·have hH:kB (δ.eS o.dst (v i)) κ w=kB δ κ w:=by unfold kB;rw[u0]
   simp only[hH,qi] at uX
   exact uX
 |plain=>
  show wpListIn _ _ P ops _ (o::rest) a w
  refine gw hg jl fun K nb=>?_
  unfold Oper.wW
  rw[h1 w (kB.refl _ _ _),Oper.uponIn_value]
  exact nb _ _ uX
variable {ops:Array Oper} {rest:List Oper} {Q:Exit→DS→Prop} {dst:Option Nat} {ty:TypeId} {pos:String} {af:Array Edge}
theorem ru {t e:TypeId} (ht:P.underlying t=some (.slice e)) (x y:Operand) (b:Option Addr) (n c:Nat) (w:World):
  (do eqGuard .eql t x y (.slice b n c) (.slice none 0 0);Go.binOp .eql t (.slice b n c) (.slice none 0 0):Sem Value).run P w=.ok (.bool b.isNone) w:=by
 have h1:(eqGuard .eql t x y (.slice b n c) (.slice none 0 0)).run P w=.ok () w:=by
  unfold eqGuard
  simp [Sem.run,pure,Sem.bind,bind]
 rw[Sem.run_bind,h1,Result.andThen_ok]
 exact Lib.run_eql_slice_nil w t e b n c 0 0 ht
theorem a_.ri {x y:Operand} {t e t':TypeId} {k:Nat} {e7:List (List PV)} (hx:δ.ev x=.pv (.slice k e7)) (hy:δ.ev y=.pv (.lit (.slice none 0 0))) (ht:P.underlying t=some (.slice e)) (ho:ff x=true) (fZ:ff y=true) (hd:fO δ.n dst=true)
  (hT:e7=[]→a_ q P g ops rest Q (δ.eS dst (fh true))) (hF:True→a_ q P g ops rest Q (δ.eS dst (fh false))):a_ q P g ops (⟨dst,.binOp .eql t x y t',ty,pos,af,none⟩::rest) Q δ:=by
 refine a_.VF (ι:=Bool) (fun b=>fh b) (fun b=>b=true→e7=[]) rfl rfl hd (fun κ a w r=>?_) (fun b hb=>?_)
 ·have h1:=(r.ra hx ho).k9
  have h2:=r.lit hy fZ
  generalize hv:a.eval x=v at h1
  cases h1 with
  | @slice ad len cap k e7 bl off vs hl mM hb ha ED hc hr=>
   refine⟨ad.isNone,fun hn=>?_,.bool ad.isNone,fun w' _=>?_,.pv (.lit _)⟩
   ·rcases e7 with _|⟨c,e7⟩
    ·rfl
    ·have:=(ha (by simp)).1
     rw[this] at hn;simp at hn
   ·have:=ru ht x y ad len cap w'
    simp only[execOp,hv,h2]
    simp only[Sem.run_bind,this,Result.andThen_ok] at*
    first|rfl|simp [this]
 ·cases b with
  |true=>exact hT (hb rfl)
  |false=>exact hF trivial
theorem iO.qT {gd:Option (Tmp×Bool)} {t e:TypeId} {x y:Operand} {m:Int} {z:Value} {k by':Nat} (hx:δ.ev x=eV 0) (hy:δ.ev y=eV m) (ht:P.underlying t=some (.slice e)) (hi:(P.info? e).map (fun i=>(i.size,i.zero,i.bytes))=some (k,some z,by')) (hb:bz by' 64=true)
  (ho:ff x=true) (fZ:ff y=true) (hd:fO δ.n dst=true) (hm:0≤m∧m≤100000):
  iO P g ⟨dst,.makeSlice t x y,ty,pos,af,gd⟩ δ ((δ.fK .row).eS dst (.own δ.nx e k [])):=by
 intro κ a w r
 have ja:by'≤64:=by simpa using hb
 obtain⟨i0,ju,l5,nv,Br⟩:∃i0,P.info? e=some i0∧i0.size=k∧i0.zero=some z∧i0.bytes=by':=by
  cases h:P.info? e with
  |none=>rw[h] at hi;simp at hi
  |some i0=>rw[h] at hi;simp at hi;exact⟨i0,rfl,hi.1,hi.2.1,hi.2.2⟩
 have J0:=r.lit hx ho
 have VM:=r.lit hy fZ
 have QC:IntKind.i64.wrap m=m:=IntWalk.i64_in _ (by omega)
 have Uz:IntKind.i64.wrap 0=0:=IntWalk.i64_in _ (by omega)
 generalize xS:((bM (m.toNat*k)).map (fun j=>z.cells[j % z.cells.size]!))=c'
 have pk:c'.size=m.toNat*k:=by rw[← xS];simp
 have hmul:by'*m.toNat≤6400000:=by
  have h1:by'*m.toNat≤64*m.toNat:=bS _ ja
  omega
 have Rs:(by':Int)*m≤6400000:=by
  have:((by'*m.toNat:Nat):Int)≤6400000:=by omega
  rw[cH,b9 hm.1] at this
  exact this
 have fu:(execOp a.eval ⟨dst,.makeSlice t x y,ty,pos,af,gd⟩).run P w=.ok (.value (.slice (some ⟨w.heap.size,0,none⟩) 0 m.toNat)) (w.alloc (.cells c' e)):=by
  have l6:∀w,(typeInfo e).run P w=.ok i0 w:=fun w=>by simp [typeInfo,ju]
  have Ai:∀w,(zeroValue e).run P w=.ok z w:=fun w=>by simp [zeroValue,typeInfo,ju,nv]
  have PY:∀w,(sizeOf e).run P w=.ok k w:=fun w=>by simp [sizeOf,typeInfo,ju,l5]
  have has:∀(m:Int) w,(asInt (.int .i64 m)).run P w=.ok m w:=fun m w=>by simp [asInt,asIntOf,Sem.run_bind,Sem.run_pure,Result.andThen_ok]
  have NR:¬(by':Int)*m>2 ^ 48:=by
   have:(2:Int) ^ 48=281474976710656:=by decide
   omega
  have R3:¬(by':Int)*0>2 ^ 48:=by rw[Int.mul_zero];decide
  have Ac:¬m<0:=by omega
  have Xr:¬m<0:=by omega
  have kD:¬m.toNat*by'>roomBytes:=by
   have:(6400000:Nat)≤roomBytes:=by decide
   have h2:m.toNat*by'=by'*m.toNat:=bR _ _
   omega
  simp only[execOp,Instr.makeSlice,Sem.run_bind,Result.andThen_ok,run_underlying ht,J0,VM,has,l6,Br,QC,Uz]
  simp only[decide_eq_false NR,decide_eq_false R3,decide_eq_false Ac,cJ,cK,cL,decide_false,gt_iff_lt,cu,if_false,askRoom,Sem.run_pure,Result.andThen_ok,Sem.run_bind]
  have Di:¬roomBytes<m.toNat*by':=kD
  simp only[if_neg Di,Sem.run_pure,Result.andThen_ok,PY]
  by_cases h0:m.toNat*k=0
  ·have Py:(bM (m.toNat*k)).map (fun j=>(#[]:Array Value)[j % (#[]:Array Value).size]!)=c':=by
    rw[← xS,h0];simp [Array.range_zero']
   simp only[if_pos h0,Sem.run_bind,Sem.run_pure,Result.andThen_ok,newRow]
   simp only[pure_bind,Py]
   rfl
  ·simp only[if_neg h0,Sem.run_bind,Sem.run_pure,Result.andThen_ok,Ai,newRow,xS]
   rfl
 have nk:m.toNat≤maxLen:=by simp only[maxLen];omega
 obtain⟨r',G⟩:=r.grow .row (.cells c' e) (fun C G hκ b hb=>by
  have:w.heap.size=b:=Option.some.inj (hκ.symm.trans hb)
  subst this
  exact⟨c',e,heap_alloc_new w _⟩)
 refine .inl ⟨_,_,_,_,fu,.inl rfl,r'.eS (fi hd) (.own ?_)⟩
 refine⟨by show(δ.fK .row).ob _=_;rw[fU,if_pos rfl],by simp,fun c hc=>by simp at hc,fun b hb=>?_,[],⟨by simp,.inr ⟨w.heap.size,m.toNat,c',rfl,r.hB,heap_alloc_new w _,bm _,nk,pk,by simp⟩⟩,by simp,fun i' j p l9=>by simp [cellAt] at l9⟩
 simp only[Value.ownBlock,Option.some.injEq] at hb
 subst hb
 show gY _ _ _ _=_
 simp [gY]
theorem a_.qT {t e:TypeId} {x y:Operand} {m:Int} {z:Value} {k by':Nat} (hx:δ.ev x=eV 0) (hy:δ.ev y=eV m) (ht:P.underlying t=some (.slice e)) (hi:(P.info? e).map (fun i=>(i.size,i.zero,i.bytes))=some (k,some z,by')) (hb:bz by' 64=true)
  (ho:ff x=true) (fZ:ff y=true) (hd:fO δ.n dst=true) (hm:0≤m∧m≤100000) (hK:a_ .plain P g ops rest Q ((δ.fK .row).eS dst (.own δ.nx e k []))):
  a_ .plain P g ops (⟨dst,.makeSlice t x y,ty,pos,af,none⟩::rest) Q δ:=a_.r_ rfl rfl (iO.qT hx hy ht hi hb ho fZ hd hm) hK
end Go.Ab
/- A call of a function value that is told:a function of the program's,nothing captured. -/
namespace Go.Ab
open Go Go.RowKit
variable {P:Program} {g:eR} {δ:DS} {κ:Kp} {a:Act} {w:World}
variable {ops:Array Oper} {rest:List Oper} {Q:Exit→DS→Prop} {dst:Option Nat} {ty:TypeId} {pos:String} {af:Array Edge}
theorem Vr {C:Cx} {w:World} {v:Value} {f:Go.Fn} (h:RA C w v (.jk f [] [])):v=.func f #[] #[]:=by
 cases h with
 |jk hs h ht h'=>
  rename_i vs us
  have e1:vs= #[]:=cP (by simpa using hs)
  have e2:us= #[]:=cP (by simpa using ht)
  rw[e1,e2]
theorem a_.N7 {f:FuncId} {xs:List Operand} {tys:Array TypeId} {args:List AV} {r:AV} {y:Operand} (hy:δ.ev y=.jk (.func f) [] []) (kv:ff y=true) (hf:Fn P f args r) (gf:oC false δ xs args) (hd:fO δ.n dst=true)
  (hK:a_ .plain P g ops rest Q (δ.eS dst r)):a_ .plain P g ops (⟨dst,.call {callee:=.value y,args:=xs.toArray,argTypes:=tys},ty,pos,af,none⟩::rest) Q δ:=by
 intro κ a w r0
 have vW:a.eval y=.func (.func f) #[] #[]:=Vr (hy▸r0.CB y (iD kv))
 show wpListIn _ _ P ops _ (_::rest) a w
 refine gw rfl rfl fun K nb=>?_
 unfold Oper.wW
 rw[iB (f:=f) vW hf.enters,Oper.uponIn_enter]
 refine⟨fun h=>by simp at h,(ia (hf.calls (fun b=>(δ.cx g κ).N b∨w.heap.size≤b) w _ (fun _ h=> .inr h) (by simp [gf.len]) (gf.J1 r0 (fun _ _ h=> .inl h) (fun h=>by simp at h)))).mono ?_⟩
 rintro e w' ⟨v,rfl,hv,hb⟩
 have r1:=r0.ext hb
 refine nb _ _ (hK κ _ _ (r1.eS (fi hd) (hv.sR _ fun b _ h=>?_)))
 rcases h with h|h
 ·exact h
 ·refine⟨r0.A2 h,fun i hi e=>?_⟩
  have:=(r0.lo i b hi e).2
  omega
end Go.Ab
/- min and max of two numbers. -/
namespace Go.Ab
open Go Go.RowKit
variable {P:Program} {g:eR} {δ:DS} {q:Md}
variable {ops:Array Oper} {rest:List Oper} {Q:Exit→DS→Prop} {dst:Option Nat} {ty:TypeId} {pos:String} {af:Array Edge}
theorem a_.max2 {x y:Operand} {tys:Array TypeId} {m n:Int} (hx:δ.ev x=eV m) (hy:δ.ev y=eV n) (ho:ff x=true) (fZ:ff y=true) (hd:fO δ.n dst=true)
  (hK:a_ q P g ops rest Q (δ.eS dst (eV (max m n)))):a_ q P g ops (⟨dst,.call {callee:=.builtin .max,args:= #[x,y],argTypes:=tys},ty,pos,af,none⟩::rest) Q δ:=
 a_.jc _ hd (fun κ a w r=>⟨.int .i64 (max m n),fun w' _=>by
  have h1:=r.lit hx ho
  have h2:=r.lit hy fZ
  have h3:(if n>m then n else m)=max m n:=by split<;>omega
  simp [execOp,resolve,invoke,builtin,h1,h2,run_max_int2,h3],.pv (.lit _)⟩) hK
theorem a_.min2 {x y:Operand} {tys:Array TypeId} {m n:Int} (hx:δ.ev x=eV m) (hy:δ.ev y=eV n) (ho:ff x=true) (fZ:ff y=true) (hd:fO δ.n dst=true)
  (hK:a_ q P g ops rest Q (δ.eS dst (eV (min m n)))):a_ q P g ops (⟨dst,.call {callee:=.builtin .min,args:= #[x,y],argTypes:=tys},ty,pos,af,none⟩::rest) Q δ:=
 a_.jc _ hd (fun κ a w r=>⟨.int .i64 (min m n),fun w' _=>by
  have h1:=r.lit hx ho
  have h2:=r.lit hy fZ
  have h3:(if n<m then n else m)=min m n:=by split<;>omega
  simp [execOp,resolve,invoke,builtin,h1,h2,run_min_int2,h3],.pv (.lit _)⟩) hK
theorem a_.CE {fn:Go.Fn} {x y z:Operand} {u1 u2 u3:AV} (hx:δ.ev x=u1) (hy:δ.ev y=u2) (hz:δ.ev z=u3) (ho:ff x=true) (fZ:ff y=true) (NO:ff z=true) (hd:fO δ.n dst=true) (hK:a_ q P g ops rest Q (δ.eS dst (.jk fn [] [u1,u2,u3]))):a_ q P g ops (⟨dst,.makeFunc fn #[] #[x,y,z],ty,pos,af,none⟩::rest) Q δ:=
 a_.jc _ hd (fun κ a w r=>⟨.func fn #[] #[a.eval x,a.eval y,a.eval z],fun w' _=>by simp [execOp,Instr.makeFunc],.jk rfl (fun j u c h=>by simp at h) rfl (fun j u c h1 h2=>by
  match j with
  |0=>simp at h1 h2;subst h1;subst h2;exact r.ra hx ho
  |1=>simp at h1 h2;subst h1;subst h2;exact r.ra hy fZ
  |2=>simp at h1 h2;subst h1;subst h2;exact r.ra hz NO
  |j+3=>simp at h2)⟩) hK
end Go.Ab
/- Labelled statements whose labels are left by break and continue alone. -/
namespace Go.Ab
open Go Go.RowKit
section
variable {P:Program} {F:Fence} {n:Nat} {a:Act} {w:World} {b:Frame} {k:List Item} {cs:List Frame}
theorem kJ {c:Code}:step P (lone (b.atR a (.code (.scope c)::k)) cs w)=.next (lone (b.atR a (.code c::.inScope c::k)) cs w):=
 step_lone_go (by simp [stepG,stepG.exec,Frame.atR])
theorem xn {c:Code}:step P (lone (b.atR a (.inScope c::k)) cs w)=.next (lone (b.atR a k) cs w):=
 step_lone_go (by simp [stepG,stepG.exec,Frame.atR])
theorem Cz {c:Code} {Q:Exit→Act→World→Prop} (h:c.wpIn F n P (Exit.noGoto Q) a w):(Code.scope c).wpIn F n P Q a w:=by
 intro b k cs Ao hb hr
 have h0:(lone (b.atR a (.code (.scope c)::k)) cs w).fenced P F:=fenced_calm hb hr rfl
 obtain⟨e,a₁,w₁,hq,qU⟩:=h b (.inScope c::k) cs Ao hb hr
 cases e with
 |normal=>exact⟨.normal,a₁,w₁,hq,.head h0 kJ (StepsIn.trans qU (.one (fenced_calm hb hr rfl) xn))⟩
 |exit id=>
  exact⟨.exit id,a₁,w₁,hq,fun k' hk=> .head h0 kJ (qU.1 k' (by simp [exitTo,hk])),
   fun wX hk=>let ⟨k₁,h1,h2⟩:=qU.2 wX (by simp [exitTo,hk]);⟨k₁,h1,.head h0 kJ h2⟩⟩
 |goto l=>exact hq.elim
 |ret=>exact⟨_,a₁,w₁,hq,.of_steps (.one h0 kJ) qU⟩
 |panic ch=>exact⟨_,a₁,w₁,hq,.of_steps (.one h0 kJ) qU⟩
 |outgrown=>exact⟨_,a₁,w₁,hq,.of_steps (.one h0 kJ) qU⟩
end
variable {P:Program} {g:eR} {δ:DS}
def fX (Q:Exit→DS→Prop):Exit→DS→Prop
 |.goto _,_=>False
 |e,δ=>Q e δ
theorem nt {Q:Exit→DS→Prop} (h:Q .ret δ):fX Q .ret δ:=h
theorem AW.scope {c:Code} {Q:Exit→DS→Prop} (h:AW P g c (fX Q) δ):AW P g (.scope c) Q δ:=by
 intro κ a w r
 refine Cz (wpIn_mono (h κ a w r) fun e a' w'=>?_)
 rintro⟨δ',κ',h1,h2⟩
 cases e with
 |goto l=>exact h1.elim
 |_=>exact⟨δ',κ',h1,h2⟩
theorem AW.label {l:Nat} {Q:Exit→DS→Prop} (h:Q .normal δ):AW P g (.label l) Q δ:=fun κ _ _ r=>wpIn_label ⟨δ,κ,h,r⟩
end Go.Ab
/- Loops over functions within loops over functions:a yield from a round,to a loop some frames above. -/
namespace Go.Ab
open Go Go.RowKit
attribute [local irreducible] HS
variable {P:Program} {g:eR} {δ:DS} {κ:Kp} {a:Act} {w:World}
variable {ops:Array Oper} {rest:List Oper} {Q:Exit→DS→Prop} {dst:Option Nat} {ty:TypeId} {pos:String} {af:Array Edge}
end Go.Ab
/- Maps from numbers to numbers;the address of a field,taken first. -/
namespace Go.Ab
open Go Go.RowKit
section
variable {P:Program} {g:eR} {δ δ':DS} {q:Md}
variable {ops:Array Oper} {rest:List Oper} {Q:Exit→DS→Prop} {dst:Option Nat} {ty:TypeId} {pos:String} {af:Array Edge}
variable {t n:Nat} {K:DS→Prop}
end
theorem fS.fieldAddr {P:Program} {δ:DS} {dst:Option Nat} {ty:TypeId} {pos:String} {af:Array Edge} {gd:Option (Tmp×Bool)} (s:TypeId) (f k:Nat) {x:Operand} {i off:Nat} (hx:δ.ev x=.ptr i off) (hB:KK P s f k=true) (ho:ff x=true):
  fS P ⟨dst,.fieldAddr s x f,ty,pos,af,gd⟩ δ (.ptr i (off+k)):=by
 intro g κ a w r
 unfold KK at hB
 split at hB
 ·rename_i fs hs
  split at hB
  ·rename_i fld hf
   simp only[aZ,beq_iff_eq] at hB
   have hk:=aM hB.1
   subst hk
   have sJ:=r.ra hx ho
   generalize hu:a.eval x=u at sJ
   cases sJ with
   |ptr hl hκ=>exact⟨_,fun w'=>by have:=nH (dst:=dst) (ty:=ty) (pos:=pos) (af:=af) hs hf hB.2 hu w';simpa [execOp] using this,.ptr hl hκ⟩
  ·cases hB
 ·cases hB
section
variable {P:Program} {g:eR} {δ:DS} {l:List Oper} {late dn:List Nat} {k:Wt} {QD:Exit→DS→Prop}
theorem AR.z7 {i j:Nat} {o p:Oper} (hl:aY dn.length l.length=true) (hr:lK l dn [i,j]=true) (ho:l[i]? =some o) (hp:l[j]? =some p) (fm:gQ late (gz l.length (j::dn))=true)
  (h:∀g':eR,Gs g' g→(∀j,k.2.2≤j→g'.ni j)→a_ .plain P g' l.toArray [o] (jJ (AR P g k late l QD (i::dn))) δ)
  (h':∀g':eR,Gs g' g→g'.wt=none→a_ .plain P g' l.toArray [p] (jJ (AR P g k late l QD (j::dn))) δ):AR P g k late l QD dn δ:=
 AR.all hl hr (by simp) fun i' kb=>by
  have hw:∀i',∀j,k.2.2≤j→(Aj g k late (gz l.length (i'::dn))).ni j:=by
   intro i' j hj k' lV
   have:(if gQ late (gz l.length (i'::dn))=true then none else some k)=some k':=lV
   split at this
   ·cases this
   ·cases this;exact hj
  simp only[bw,cy,or_false] at kb
  rcases kb with rfl|rfl
  ·exact⟨o,ho,h _ ⟨rfl,rfl,rfl⟩ (hw _)⟩
  ·exact⟨p,hp,h' _ ⟨rfl,rfl,rfl⟩ (if_pos fm)⟩
end
end Go.Ab
