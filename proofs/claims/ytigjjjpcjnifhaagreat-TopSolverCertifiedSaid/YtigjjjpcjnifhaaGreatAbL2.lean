/- Laws in the forms that the walk's list of steps tries. -/
import Derived.Test.YtigjjjpcjnifhaaGreatAbL1
import Derived.OrdersIn
import Derived.MapKept
import Derived.Maps.RangeRun
import Derived.ProofKit
import Derived.OpenShut
import Derived.ChangeOld
import Derived.SizedLaws
import Derived.JoinedCond
import Derived.Deep.CondSized
import Derived.ChangeKeysEq
import Derived.Laws.StructEq
import Derived.WalkSpells
import Derived.Lib.SliceRun
import Derived.Laws.Small
import Derived.Scope
set_option linter.unusedSimpArgs false
set_option linter.unusedVariables false
namespace Go.Ab
open Go Go.RowKit
variable {q:Md} {P:Program} {g:au} {δ:DS} {κ:Kp} {a:Act} {w:World}
variable {ops:Array Oper} {rest:List Oper} {Q:Exit→DS→Prop} {dst:Option Nat} {ty:TypeId} {pos:String} {af:Array Edge}
theorem aa.HU {op:Op} {gj d:Nat} {p:Prop} {_:Decidable p} {o':Oper} (ho:ops[gj]? =some o') (hd:o'.dst=some d) (hd0:Nat.blt d HS=true) (qP:Nat.blt d δ.n=true) (hb:δ.get d=aF (decide p)) (p8:bn δ.n dst=true)
  (hy:p→aa q P g ops (⟨dst,op,ty,pos,af,none⟩::rest) Q δ) (hn:¬p→aa q P g ops rest Q (δ.aw dst (.pv (.lit undef)))):aa q P g ops (⟨dst,op,ty,pos,af,some (gj,true)⟩::rest) Q δ:=
 aa.guard ho hd hd0 qP hb p8 (fun h=>hy (of_decide_eq_true h)) (fun h=>hn (of_decide_eq_false h))
theorem aa.D9 {x:Operand} {t:TypeId} {p:Prop} {_:Decidable p} (hx:δ.ev x=aF (decide p)) (ho:aK x=true) (hd:bn δ.n dst=true) (hK:aa q P g ops rest Q (δ.aw dst (aF (decide (¬p))))):
  aa q P g ops (⟨dst,.unOp .not t x,ty,pos,af,none⟩::rest) Q δ:=aa.not hx ho hd (by
                                                  have:(!decide p)=decide (¬p):=by simp
                                                  rw[this];exact hK)
theorem aa.J9 {x y z:Operand} {p:Prop} {_:Decidable p} {v:AV} (hx:δ.ev x=aF (decide p)) (hy:δ.ev y=v) (hp:p) (ho:aK x=true) (fb:aK y=true) (kF:aK z=true) (hd:bn δ.n dst=true)
  (hK:aa q P g ops rest Q (δ.aw dst v)):aa q P g ops (⟨dst,.pick x y z,ty,pos,af,none⟩::rest) Q δ:=
 aa.pick hx ho fb kF (fun _=>hy) (fun h=>absurd hp (of_decide_eq_false h)) hd hK
theorem aa.J6 {x y z:Operand} {p:Prop} {_:Decidable p} {v:AV} (hx:δ.ev x=aF (decide p)) (hz:δ.ev z=v) (hp:¬p) (ho:aK x=true) (fb:aK y=true) (kF:aK z=true) (hd:bn δ.n dst=true)
  (hK:aa q P g ops rest Q (δ.aw dst v)):aa q P g ops (⟨dst,.pick x y z,ty,pos,af,none⟩::rest) Q δ:=
 aa.pick hx ho fb kF (fun h=>absurd (of_decide_eq_true h) hp) (fun _=>hz) hd hK
theorem AW.ix {c:Operand} {x y:Code} (ho:aK c=true) (hc:δ.ev c=aF true) (h1:AW P g x Q δ):AW P g (.cond c x y) Q δ:=AW.Cs rfl ho hc h1
theorem AW.e8 {c:Operand} {x y:Code} (ho:aK c=true) (hc:δ.ev c=aF false) (h1:AW P g y Q δ):AW P g (.cond c x y) Q δ:=AW.Cr rfl ho hc h1
theorem aa.uW {op:Op} {gj d:Nat} {want b:Bool} {o':Oper} (ho:ops[gj]? =some o') (hd:o'.dst=some d) (hd0:Nat.blt d HS=true) (qP:Nat.blt d δ.n=true) (hb:δ.get d=aF b) (va:b=want) (p8:bn δ.n dst=true)
  (hy:aa q P g ops (⟨dst,op,ty,pos,af,none⟩::rest) Q δ):aa q P g ops (⟨dst,op,ty,pos,af,some (gj,want)⟩::rest) Q δ:=
 aa.guard ho hd hd0 qP hb p8 (fun _=>hy) (fun h=>by subst va;cases b<;>simp at h)
theorem aa.bY {op:Op} {gj d:Nat} {want b:Bool} {o':Oper} (ho:ops[gj]? =some o') (hd:o'.dst=some d) (hd0:Nat.blt d HS=true) (qP:Nat.blt d δ.n=true) (hb:δ.get d=aF b) (va:b=!want) (p8:bn δ.n dst=true)
  (hn:aa q P g ops rest Q (δ.aw dst (.pv (.lit undef)))):aa q P g ops (⟨dst,op,ty,pos,af,some (gj,want)⟩::rest) Q δ:=
 aa.guard ho hd hd0 qP hb p8 (fun h=>by subst h;cases b<;>simp at va) (fun _=>hn)
end Go.Ab
namespace Go.Ab
variable {P:Program} {g:au} {δ:DS} {Q:Exit→DS→Prop}
theorem AW.Lv {c:Operand} {x y:Code} {p:Prop} {_:Decidable p} (ho:aK c=true) (hc:δ.ev c=aF (decide p)) (hp:p) (h1:AW P g x Q δ):AW P g (.cond c x y) Q δ:=AW.Cs (decide_eq_true hp) ho hc h1
theorem AW.MI {c:Operand} {x y:Code} {p:Prop} {_:Decidable p} (ho:aK c=true) (hc:δ.ev c=aF (decide p)) (hp:¬p) (h1:AW P g y Q δ):AW P g (.cond c x y) Q δ:=AW.Cr (decide_eq_false hp) ho hc h1
end Go.Ab
namespace Go.Ab
section
variable {q:Md} {P:Program} {g:au} {δ:DS} {ops:Array Oper} {rest:List Oper} {Q:Exit→DS→Prop} {dst:Option Nat} {ty:TypeId} {pos:String} {af:Array Edge}
variable {op:Op} {gj d:Nat} {p:Prop} {inst:Decidable p} {o':Oper} (ho:ops[gj]? =some o') (hd:o'.dst=some d) (hb:δ.get d=aF (@decide p inst)) (hd0:Nat.blt d HS=true) (qP:Nat.blt d δ.n=true) (p8:bn δ.n dst=true)
include ho hd hb hd0 qP p8
theorem aa.Fg (hp:p) (hy:aa q P g ops (⟨dst,op,ty,pos,af,none⟩::rest) Q δ):aa q P g ops (⟨dst,op,ty,pos,af,some (gj,true)⟩::rest) Q δ:=
 aa.guard ho hd hd0 qP hb p8 (fun _=>hy) (fun h=>absurd hp (of_decide_eq_false h))
theorem aa.gG (hp:¬p) (hn:aa q P g ops rest Q (δ.aw dst (.pv (.lit undef)))):aa q P g ops (⟨dst,op,ty,pos,af,some (gj,true)⟩::rest) Q δ:=
 aa.guard ho hd hd0 qP hb p8 (fun h=>absurd (of_decide_eq_true h) hp) (fun _=>hn)
theorem aa.Gd (hp:¬p) (hy:aa q P g ops (⟨dst,op,ty,pos,af,none⟩::rest) Q δ):aa q P g ops (⟨dst,op,ty,pos,af,some (gj,false)⟩::rest) Q δ:=
 aa.guard ho hd hd0 qP hb p8 (fun _=>hy) (fun h=>absurd (of_decide_eq_true h) hp)
theorem aa.db (hp:p) (hn:aa q P g ops rest Q (δ.aw dst (.pv (.lit undef)))):aa q P g ops (⟨dst,op,ty,pos,af,some (gj,false)⟩::rest) Q δ:=
 aa.guard ho hd hd0 qP hb p8 (fun h=>absurd hp (of_decide_eq_false h)) (fun _=>hn)
end
end Go.Ab
namespace Go.Ab
section
variable {q:Md} {P:Program} {g:au} {δ:DS} {ops:Array Oper} {rest:List Oper} {Q:Exit→DS→Prop} {dst:Option Nat} {ty:TypeId} {pos:String} {af:Array Edge} {x:Operand}
theorem aa.cU {p:PV} (hx:δ.ev x=.pv p) (ho:aK x=true) (hd:bn δ.n dst=true) (hK:aa q P g ops rest Q (δ.aw dst (.pv p))):aa q P g ops (⟨dst,.move x,ty,pos,af,none⟩::rest) Q δ:=aa.move hx ho hd hK
theorem aa.zG {p:PV} (hx:δ.ev x=.pv p) (ho:aK x=true) (hd:bn δ.n dst=true) (hK:aa q P g ops rest Q (δ.aw dst (.pv p))):aa q P g ops (⟨dst,.assign x,ty,pos,af,none⟩::rest) Q δ:=aa.assign hx ho hd hK
theorem aa.bz {i e k els} (hx:δ.ev x=.own i e k els) (ho:aK x=true) (hd:bn δ.n dst=true) (hK:aa q P g ops rest Q (δ.aw dst (.own i e k els))):aa q P g ops (⟨dst,.move x,ty,pos,af,none⟩::rest) Q δ:=aa.move hx ho hd hK
theorem aa.jI {i e k els} (hx:δ.ev x=.own i e k els) (ho:aK x=true) (hd:bn δ.n dst=true) (hK:aa q P g ops rest Q (δ.aw dst (.own i e k els))):aa q P g ops (⟨dst,.assign x,ty,pos,af,none⟩::rest) Q δ:=aa.assign hx ho hd hK
theorem aa.bc {i o} (hx:δ.ev x=.ptr i o) (ho:aK x=true) (hd:bn δ.n dst=true) (hK:aa q P g ops rest Q (δ.aw dst (.ptr i o))):aa q P g ops (⟨dst,.move x,ty,pos,af,none⟩::rest) Q δ:=aa.move hx ho hd hK
theorem aa.jx {i o} (hx:δ.ev x=.ptr i o) (ho:aK x=true) (hd:bn δ.n dst=true) (hK:aa q P g ops rest Q (δ.aw dst (.ptr i o))):aa q P g ops (⟨dst,.assign x,ty,pos,af,none⟩::rest) Q δ:=aa.assign hx ho hd hK
theorem aa.jk {l} (hx:δ.ev x=.tup l) (ho:aK x=true) (hd:bn δ.n dst=true) (hK:aa q P g ops rest Q (δ.aw dst (.tup l))):aa q P g ops (⟨dst,.move x,ty,pos,af,none⟩::rest) Q δ:=aa.move hx ho hd hK
end
end Go.Ab
namespace Go.Ab
section
variable {q:Md} {P:Program} {g:au} {δ:DS} {ops:Array Oper} {rest:List Oper} {Q:Exit→DS→Prop} {dst:Option Nat} {ty:TypeId} {pos:String} {af:Array Edge}
theorem aa.bL {x y z:Operand} {v:PV} (hx:δ.ev x=aF true) (hy:δ.ev y=.pv v) (ho:aK x=true) (fb:aK y=true) (kF:aK z=true) (hd:bn δ.n dst=true)
  (hK:aa q P g ops rest Q (δ.aw dst (.pv v))):aa q P g ops (⟨dst,.pick x y z,ty,pos,af,none⟩::rest) Q δ:=aa.pick hx ho fb kF (fun _=>hy) (fun h=>by cases h) hd hK
theorem aa.dm {x y z:Operand} {v:PV} (hx:δ.ev x=aF false) (hz:δ.ev z=.pv v) (ho:aK x=true) (fb:aK y=true) (kF:aK z=true) (hd:bn δ.n dst=true)
  (hK:aa q P g ops rest Q (δ.aw dst (.pv v))):aa q P g ops (⟨dst,.pick x y z,ty,pos,af,none⟩::rest) Q δ:=aa.pick hx ho fb kF (fun h=>by cases h) (fun _=>hz) hd hK
theorem aa.Ds {x y z:Operand} {p:Prop} {_:Decidable p} {v:PV} (hx:δ.ev x=aF (decide p)) (hy:δ.ev y=.pv v) (hp:p) (ho:aK x=true) (fb:aK y=true) (kF:aK z=true) (hd:bn δ.n dst=true)
  (hK:aa q P g ops rest Q (δ.aw dst (.pv v))):aa q P g ops (⟨dst,.pick x y z,ty,pos,af,none⟩::rest) Q δ:=aa.J9 hx hy hp ho fb kF hd hK
theorem aa.D7 {x y z:Operand} {p:Prop} {_:Decidable p} {v:PV} (hx:δ.ev x=aF (decide p)) (hz:δ.ev z=.pv v) (hp:¬p) (ho:aK x=true) (fb:aK y=true) (kF:aK z=true) (hd:bn δ.n dst=true)
  (hK:aa q P g ops rest Q (δ.aw dst (.pv v))):aa q P g ops (⟨dst,.pick x y z,ty,pos,af,none⟩::rest) Q δ:=aa.J6 hx hz hp ho fb kF hd hK
end
end Go.Ab
namespace Go.Ab
section
variable {P:Program} {g:au} {δ:DS} {ops:Array Oper} {rest:List Oper} {Q:Exit→DS→Prop} {dst:Option Nat} {ty:TypeId} {pos:String} {af:Array Edge}
theorem dv.JO {gd:Option (Tmp×Bool)} {t e:TypeId} {z:Value} (ht:P.underlying t=some (.slice e)) (hi:(P.info? e).map (fun i=>(i.size,i.zero))=some (1,some z)) (hz:z.cells.toList.all (·.oneCell')=true) (gz:Nat.beq z.cells.size 1=true) (hd:bn δ.n dst=true):dv P g ⟨dst,.buildSlice t 0 [].toArray,ty,pos,af,gd⟩ δ ((δ.bf .row).aw dst (.own δ.nx e 1 [])):=by
 have hf:dL (fun i=>some (i*1,1)) (ef z (0*1)) (([]:List (Nat×Operand)).map fun p=>(p.1,δ.ev p.2))=some []:=by
  simp [dL,iC,AV.cellsOf,AV.iu,ef,List.map_cons,List.map_nil]<;>rfl
 exact dv.buildSlice (len:=0) (k:=1) (parts:=[]) (cells:=[]) ht hi gz rfl rfl hz (by simp []) hf (by simp [AV.s7]) hd
theorem aa.JO {t e:TypeId} {z:Value} (ht:P.underlying t=some (.slice e)) (hi:(P.info? e).map (fun i=>(i.size,i.zero))=some (1,some z)) (hz:z.cells.toList.all (·.oneCell')=true) (gz:Nat.beq z.cells.size 1=true) (hd:bn δ.n dst=true) (hK:aa .plain P g ops rest Q ((δ.bf .row).aw dst (.own δ.nx e 1 []))):aa .plain P g ops (⟨dst,.buildSlice t 0 [].toArray,ty,pos,af,none⟩::rest) Q δ:=aa.n9 rfl rfl (dv.JO ht hi hz gz hd) hK
theorem dv.iD {gd:Option (Tmp×Bool)} {t e:TypeId} {z:Value} {x0:Operand} {p0:PV} (ht:P.underlying t=some (.slice e)) (h0:δ.ev x0=.pv p0) (hi:(P.info? e).map (fun i=>(i.size,i.zero))=some (1,some z)) (hz:z.cells.toList.all (·.oneCell')=true) (gz:Nat.beq z.cells.size 1=true) (k0:AV.one (.pv p0)=true) (o0:aK x0=true) (hd:bn δ.n dst=true):dv P g ⟨dst,.buildSlice t 1 [(0,x0)].toArray,ty,pos,af,gd⟩ δ ((δ.bf .row).aw dst (.own δ.nx e 1 [[p0]])):=by
 have hf:dL (fun i=>some (i*1,1)) (ef z (1*1)) (([(0,x0)]:List (Nat×Operand)).map fun p=>(p.1,δ.ev p.2))=some [.pv p0]:=by
  simp [dL,iC,AV.cellsOf,AV.iu,ef,h0,k0,List.map_cons,List.map_nil]<;>rfl
 exact dv.buildSlice (len:=1) (k:=1) (parts:=[(0,x0)]) (cells:=[.pv p0]) ht hi gz rfl rfl hz (by simp [o0]) hf (by simp [AV.s7]) hd
theorem aa.iD {t e:TypeId} {z:Value} {x0:Operand} {p0:PV} (ht:P.underlying t=some (.slice e)) (h0:δ.ev x0=.pv p0) (hi:(P.info? e).map (fun i=>(i.size,i.zero))=some (1,some z)) (hz:z.cells.toList.all (·.oneCell')=true) (gz:Nat.beq z.cells.size 1=true) (k0:AV.one (.pv p0)=true) (o0:aK x0=true) (hd:bn δ.n dst=true) (hK:aa .plain P g ops rest Q ((δ.bf .row).aw dst (.own δ.nx e 1 [[p0]]))):aa .plain P g ops (⟨dst,.buildSlice t 1 [(0,x0)].toArray,ty,pos,af,none⟩::rest) Q δ:=aa.n9 rfl rfl (dv.iD ht h0 hi hz gz k0 o0 hd) hK
theorem dv.O0 {gd:Option (Tmp×Bool)} {t e:TypeId} {z:Value} {x0 x1:Operand} {p0 p1:PV} (ht:P.underlying t=some (.slice e)) (h0:δ.ev x0=.pv p0) (h1:δ.ev x1=.pv p1) (hi:(P.info? e).map (fun i=>(i.size,i.zero))=some (1,some z)) (hz:z.cells.toList.all (·.oneCell')=true) (gz:Nat.beq z.cells.size 1=true) (k0:AV.one (.pv p0)=true) (k1:AV.one (.pv p1)=true) (o0:aK x0=true) (o1:aK x1=true) (hd:bn δ.n dst=true):dv P g ⟨dst,.buildSlice t 2 [(0,x0),(1,x1)].toArray,ty,pos,af,gd⟩ δ ((δ.bf .row).aw dst (.own δ.nx e 1 [[p0],[p1]])):=by
 have hf:dL (fun i=>some (i*1,1)) (ef z (2*1)) (([(0,x0),(1,x1)]:List (Nat×Operand)).map fun p=>(p.1,δ.ev p.2))=some [.pv p0,.pv p1]:=by
  simp [dL,iC,AV.cellsOf,AV.iu,ef,h0,h1,k0,k1,List.map_cons,List.map_nil]<;>rfl
 exact dv.buildSlice (len:=2) (k:=1) (parts:=[(0,x0),(1,x1)]) (cells:=[.pv p0,.pv p1]) ht hi gz rfl rfl hz (by simp [o0,o1]) hf (by simp [AV.s7]) hd
theorem aa.O0 {t e:TypeId} {z:Value} {x0 x1:Operand} {p0 p1:PV} (ht:P.underlying t=some (.slice e)) (h0:δ.ev x0=.pv p0) (h1:δ.ev x1=.pv p1) (hi:(P.info? e).map (fun i=>(i.size,i.zero))=some (1,some z)) (hz:z.cells.toList.all (·.oneCell')=true) (gz:Nat.beq z.cells.size 1=true) (k0:AV.one (.pv p0)=true) (k1:AV.one (.pv p1)=true) (o0:aK x0=true) (o1:aK x1=true) (hd:bn δ.n dst=true) (hK:aa .plain P g ops rest Q ((δ.bf .row).aw dst (.own δ.nx e 1 [[p0],[p1]]))):aa .plain P g ops (⟨dst,.buildSlice t 2 [(0,x0),(1,x1)].toArray,ty,pos,af,none⟩::rest) Q δ:=aa.n9 rfl rfl (dv.O0 ht h0 h1 hi hz gz k0 k1 o0 o1 hd) hK
theorem dv.O3 {gd:Option (Tmp×Bool)} {t e:TypeId} {z:Value} {x0 x1 x2:Operand} {p0 p1 p2:PV} (ht:P.underlying t=some (.slice e)) (h0:δ.ev x0=.pv p0) (h1:δ.ev x1=.pv p1) (h2:δ.ev x2=.pv p2) (hi:(P.info? e).map (fun i=>(i.size,i.zero))=some (1,some z)) (hz:z.cells.toList.all (·.oneCell')=true) (gz:Nat.beq z.cells.size 1=true) (k0:AV.one (.pv p0)=true) (k1:AV.one (.pv p1)=true) (k2:AV.one (.pv p2)=true) (o0:aK x0=true) (o1:aK x1=true) (o2:aK x2=true) (hd:bn δ.n dst=true):dv P g ⟨dst,.buildSlice t 3 [(0,x0),(1,x1),(2,x2)].toArray,ty,pos,af,gd⟩ δ ((δ.bf .row).aw dst (.own δ.nx e 1 [[p0],[p1],[p2]])):=by
 have hf:dL (fun i=>some (i*1,1)) (ef z (3*1)) (([(0,x0),(1,x1),(2,x2)]:List (Nat×Operand)).map fun p=>(p.1,δ.ev p.2))=some [.pv p0,.pv p1,.pv p2]:=by
  simp [dL,iC,AV.cellsOf,AV.iu,ef,h0,h1,h2,k0,k1,k2,List.map_cons,List.map_nil]<;>rfl
 exact dv.buildSlice (len:=3) (k:=1) (parts:=[(0,x0),(1,x1),(2,x2)]) (cells:=[.pv p0,.pv p1,.pv p2]) ht hi gz rfl rfl hz (by simp [o0,o1,o2]) hf (by simp [AV.s7]) hd
theorem aa.O3 {t e:TypeId} {z:Value} {x0 x1 x2:Operand} {p0 p1 p2:PV} (ht:P.underlying t=some (.slice e)) (h0:δ.ev x0=.pv p0) (h1:δ.ev x1=.pv p1) (h2:δ.ev x2=.pv p2) (hi:(P.info? e).map (fun i=>(i.size,i.zero))=some (1,some z)) (hz:z.cells.toList.all (·.oneCell')=true) (gz:Nat.beq z.cells.size 1=true) (k0:AV.one (.pv p0)=true) (k1:AV.one (.pv p1)=true) (k2:AV.one (.pv p2)=true) (o0:aK x0=true) (o1:aK x1=true) (o2:aK x2=true) (hd:bn δ.n dst=true) (hK:aa .plain P g ops rest Q ((δ.bf .row).aw dst (.own δ.nx e 1 [[p0],[p1],[p2]]))):aa .plain P g ops (⟨dst,.buildSlice t 3 [(0,x0),(1,x1),(2,x2)].toArray,ty,pos,af,none⟩::rest) Q δ:=aa.n9 rfl rfl (dv.O3 ht h0 h1 h2 hi hz gz k0 k1 k2 o0 o1 o2 hd) hK
theorem dv.O_ {gd:Option (Tmp×Bool)} {t e:TypeId} {z:Value} {x0 x1 x2 x3:Operand} {p0 p1 p2 p3:PV} (ht:P.underlying t=some (.slice e)) (h0:δ.ev x0=.pv p0) (h1:δ.ev x1=.pv p1) (h2:δ.ev x2=.pv p2) (h3:δ.ev x3=.pv p3) (hi:(P.info? e).map (fun i=>(i.size,i.zero))=some (1,some z)) (hz:z.cells.toList.all (·.oneCell')=true) (gz:Nat.beq z.cells.size 1=true) (k0:AV.one (.pv p0)=true) (k1:AV.one (.pv p1)=true) (k2:AV.one (.pv p2)=true) (k3:AV.one (.pv p3)=true) (o0:aK x0=true) (o1:aK x1=true) (o2:aK x2=true) (o3:aK x3=true) (hd:bn δ.n dst=true):dv P g ⟨dst,.buildSlice t 4 [(0,x0),(1,x1),(2,x2),(3,x3)].toArray,ty,pos,af,gd⟩ δ ((δ.bf .row).aw dst (.own δ.nx e 1 [[p0],[p1],[p2],[p3]])):=by
 have hf:dL (fun i=>some (i*1,1)) (ef z (4*1)) (([(0,x0),(1,x1),(2,x2),(3,x3)]:List (Nat×Operand)).map fun p=>(p.1,δ.ev p.2))=some [.pv p0,.pv p1,.pv p2,.pv p3]:=by
  simp [dL,iC,AV.cellsOf,AV.iu,ef,h0,h1,h2,h3,k0,k1,k2,k3,List.map_cons,List.map_nil]<;>rfl
 exact dv.buildSlice (len:=4) (k:=1) (parts:=[(0,x0),(1,x1),(2,x2),(3,x3)]) (cells:=[.pv p0,.pv p1,.pv p2,.pv p3]) ht hi gz rfl rfl hz (by simp [o0,o1,o2,o3]) hf (by simp [AV.s7]) hd
theorem aa.O_ {t e:TypeId} {z:Value} {x0 x1 x2 x3:Operand} {p0 p1 p2 p3:PV} (ht:P.underlying t=some (.slice e)) (h0:δ.ev x0=.pv p0) (h1:δ.ev x1=.pv p1) (h2:δ.ev x2=.pv p2) (h3:δ.ev x3=.pv p3) (hi:(P.info? e).map (fun i=>(i.size,i.zero))=some (1,some z)) (hz:z.cells.toList.all (·.oneCell')=true) (gz:Nat.beq z.cells.size 1=true) (k0:AV.one (.pv p0)=true) (k1:AV.one (.pv p1)=true) (k2:AV.one (.pv p2)=true) (k3:AV.one (.pv p3)=true) (o0:aK x0=true) (o1:aK x1=true) (o2:aK x2=true) (o3:aK x3=true) (hd:bn δ.n dst=true) (hK:aa .plain P g ops rest Q ((δ.bf .row).aw dst (.own δ.nx e 1 [[p0],[p1],[p2],[p3]]))):aa .plain P g ops (⟨dst,.buildSlice t 4 [(0,x0),(1,x1),(2,x2),(3,x3)].toArray,ty,pos,af,none⟩::rest) Q δ:=aa.n9 rfl rfl (dv.O_ ht h0 h1 h2 h3 hi hz gz k0 k1 k2 k3 o0 o1 o2 o3 hd) hK
theorem sf {n bytes:Nat} (h:Nat.ble bytes 64=true) (hl:n≤1000000000000):n*bytes≤140737488355328:=by
 have h':bytes≤64:=by simpa using h
 have:=Nat.mul_le_mul hl h'
 omega
theorem dv.bh {gd:Option (Tmp×Bool)} {s x:Operand} {t e:TypeId} {i k bytes:Nat} {z:Value} {els news:List (List PV)} (hs:δ.ev s=.own i e k els) (hx:ln δ x k news) (hr:δ.ob i=some .row) (ht:P.underlying t=some (.slice e))
  (hi:(P.info? e).map (fun i=>(i.size,i.zero,i.bytes))=some (k,some z,bytes)) (CB:Nat.ble bytes 64=true) (gz:Nat.beq z.cells.size k=true) (hk0:Nat.blt 0 k=true) (ho:aK s=true) (ho':aK x=true) (hd:bn δ.n dst=true)
  (hl:els.length+news.length≤1000000000000):dv P g ⟨dst,.call {callee:=.builtin .append,args:= #[s,x],argTypes:= #[t,t]},ty,pos,af,gd⟩ δ ((δ.cw (AV.kill i)).aw dst (.own i e k (els++news))):=
 dv.append hs hx hr ht hi gz hk0 ho ho' hd (sf CB hl) (by omega)
theorem aa.bh {s x:Operand} {t e:TypeId} {i k bytes:Nat} {z:Value} {els news:List (List PV)} (hs:δ.ev s=.own i e k els) (hx:ln δ x k news) (hr:δ.ob i=some .row) (ht:P.underlying t=some (.slice e))
  (hi:(P.info? e).map (fun i=>(i.size,i.zero,i.bytes))=some (k,some z,bytes)) (CB:Nat.ble bytes 64=true) (gz:Nat.beq z.cells.size k=true) (hk0:Nat.blt 0 k=true) (ho:aK s=true) (ho':aK x=true) (hd:bn δ.n dst=true)
  (hl:els.length+news.length≤1000000000000) (hK:aa .plain P g ops rest Q ((δ.cw (AV.kill i)).aw dst (.own i e k (els++news)))):
  aa .plain P g ops (⟨dst,.call {callee:=.builtin .append,args:= #[s,x],argTypes:= #[t,t]},ty,pos,af,none⟩::rest) Q δ:=aa.n9 rfl rfl (dv.bh hs hx hr ht hi CB gz hk0 ho ho' hd hl) hK
end
end Go.Ab
namespace Go.Ab
theorem AW.mr {P:Program} {g:au} {δ:DS} {Q:Exit→DS→Prop} {α:Type} {c:Code} (j i:Nat) {k:Nat} {cs:List AV} {f:α→List PV} {l:List α} (h:δ.get j=.agg cs) (hc:cs[i]? =some (.pv (.slice k (l.map f)))) (hK:l.length≤140737488355328→AW P g c Q δ):AW P g c Q δ:=
 AW.fact (fun κ a w r=>by
  have h1:=r.env j
  rw[h] at h1
  generalize hu:g.val a j=u at h1
  cases h1 with
  | @agg vs _ hs hv=>
   have aM:i<vs.size:=by rw[hs];exact(List.getElem?_eq_some_iff.1 hc).1
   obtain⟨_,_,_,h2⟩:=(hv i _ _ (Array.getElem?_eq_getElem aM) hc).gv.oc
   simpa using h2) hK
end Go.Ab
namespace Go.Ab
theorem aa.Bd {q:Md} {P:Program} {g:au} {δ:DS} {ops:Array Oper} {rest:List Oper} {Q:Exit→DS→Prop} {dst:Option Nat} {ty:TypeId} {pos:String} {af:Array Edge} {x:Operand} {t:TypeId} {i:Nat} {cells:List AV} (hx:δ.ev x=.ptr i 0) (hb:δ.ob i=some (.box cells)) (ht:tG P t cells.length=true) (ho:aK x=true) (hd:bn δ.n dst=true)
  (hK:aa q P g ops rest Q (δ.aw dst (.agg cells))):aa q P g ops (⟨dst,.load t x,ty,pos,af,none⟩::rest) Q δ:=
 aa.yI (n:=cells.length) hx hb ht (by simp) ho hd (by simpa using hK)
end Go.Ab
namespace Go.Ab
section
variable {q:Md} {P:Program} {g:au} {δ:DS} {ops:Array Oper} {rest:List Oper} {Q:Exit→DS→Prop} {dst:Option Nat} {ty:TypeId} {pos:String} {af:Array Edge}
end
end Go.Ab
namespace Go.Ab
section
variable {q:Md} {P:Program} {g:au} {δ:DS} {ops:Array Oper} {rest:List Oper} {Q:Exit→DS→Prop} {dst:Option Nat} {ty:TypeId} {pos:String} {af:Array Edge}
theorem aa.bs {α:Type} {x y:Operand} {t e:TypeId} {k:Nat} {m:Int} {f:α→List PV} {l:List α} (hx:δ.ev x=.pv (.slice k (l.map f))) (hy:δ.ev y=al m)
  (ht:P.underlying t=some (.slice e)) (hk:(P.info? e).map (·.size)=some k) (ho:aK x=true) (ho':aK y=true) (hd:bn δ.n dst=true) (h0:0≤m) (hn:m.toNat<l.length)
  (hK:aa q P g ops rest Q (δ.aw dst (.rptr (f l[m.toNat])))):aa q P g ops (⟨dst,.indexAddr t x y,ty,pos,af,none⟩::rest) Q δ:=
 aa.aj (n:=m.toNat) hx (by rw[hy,Int.toNat_of_nonneg h0]) hn ht hk ho ho' hd hK
theorem aa.Ea {α:Type} {t e:TypeId} {x y z:Operand} {k m n:Nat} {f:α→List PV} {l:List α} (hx:δ.ev x=.pv (.slice k (l.map f))) (hz:δ.ev z=al (m:Nat)) (hy:δ.ev y=al (n:Nat)) (ht:P.underlying t=some (.slice e)) (hk:(P.info? e).map (·.size)=some k)
  (ho:aK x=true) (ho'':aK z=true) (ho':aK y=true) (hd:bn δ.n dst=true) (Pz:m≤n) (hn:n≤l.length) (hK:aa q P g ops rest Q (δ.aw dst (.pv (.slice k (((l.drop m).take (n - m)).map f))))):aa q P g ops (⟨dst,.slice t x (some z) (some y) none,ty,pos,af,none⟩::rest) Q δ:=
 aa.slice (l:=m) (h:=n) (hi:=some y) (lo:=some z) hx ht hk ⟨ho'',hz⟩ ⟨ho',hy⟩ Pz (by simpa using hn) ho hd (by simpa [List.map_take,List.map_drop] using hK)
end
end Go.Ab
/- Ranging over a function:the iterator is walked in place,each call of yield walks the loop's body. -/
namespace Go.Ab
open Go Go.RowKit
attribute [local irreducible] HS
variable {P:Program} {g:au} {δ:DS} {κ:Kp} {a:Act} {w:World}
variable {ops:Array Oper} {rest:List Oper} {Q:Exit→DS→Prop} {dst:Option Nat} {ty:TypeId} {pos:String} {af:Array Edge}
def cd (e:List (Nat×AV)):List (Nat×AV):=e.map fun p=>(p.1+HS,p.2)
def c8:List (Nat×AV)→List (Nat×AV)
 |[]=>[]
 |(i,v)::r=>bif Nat.ble HS i then (i - HS,v)::c8 r else c8 r
def ak:List (Nat×AV)→List (Nat×AV)
 |[]=>[]
 |(i,v)::r=>bif Nat.ble HS i && Nat.blt i (HS+HS) then (i - HS,v)::ak r else ak r
theorem fY:∀(e:List (Nat×AV)) (j:Nat),j<HS→look (cd e) j=.any
 |[],_,_=>rfl
 |(i,v)::r,j,h=>by
  show look ((i+HS,v)::cd r) j=_
  rw[a7,if_neg (by omega)]
  exact fY r j h
theorem fT:∀(e:List (Nat×AV)) (j:Nat),look (cd e) (j+HS)=look e j
 |[],_=>rfl
 |(i,v)::r,j=>by
  show look ((i+HS,v)::cd r) (j+HS)=_
  rw[a7,a7,fT r j]
  by_cases e:i=j
  ·rw[if_pos (by omega),if_pos e]
  ·rw[if_neg (by omega),if_neg e]
theorem gF:∀(e:List (Nat×AV)) (j:Nat),look (c8 e) j=look e (j+HS)
 |[],_=>rfl
 |(i,v)::r,j=>by
  rw[a7]
  simp only[c8]
  cases h:Nat.ble HS i with
  |true=>
   have h':HS≤i:=by simpa using h
   show look ((i - HS,v)::c8 r) j=_
   rw[a7,gF r j]
   by_cases e:i=j+HS
   ·rw[if_pos (by omega),if_pos e]
   ·rw[if_neg (by omega),if_neg e]
  |false=>
   have h':¬HS≤i:=by
                intro hh;have:Nat.ble HS i=true:=by simpa using hh
                rw[this] at h;cases h
   show look (c8 r) j=_
   rw[gF r j,if_neg (by omega)]
theorem mJ:∀(e:List (Nat×AV)) (j:Nat),look (ak e) j=if j<HS then look e (j+HS) else .any
 |[],j=>by show AV.any=_;split<;>rfl
 |(i,v)::r,j=>by
  rw[a7]
  simp only[ak]
  cases h:(Nat.ble HS i && Nat.blt i (HS+HS)) with
  |true=>
   simp only[Bool.and_eq_true] at h
   have h1:HS≤i:=by simpa using h.1
   have h2:i<HS+HS:=by simpa using h.2
   show look ((i - HS,v)::ak r) j=_
   rw[a7,mJ r j]
   by_cases e:i=j+HS
   ·rw[if_pos (by omega),if_pos (by omega),if_pos e]
   ·rw[if_neg (by omega),if_neg e]
  |false=>
   show look (ak r) j=_
   rw[mJ r j]
   by_cases hj:j<HS
   ·rw[if_pos hj,if_pos hj]
    by_cases e:i=j+HS
    ·exfalso
     have:(Nat.ble HS i && Nat.blt i (HS+HS))=true:=by simp only[Bool.and_eq_true];exact⟨by simpa using (by omega:HS≤i),by simpa using (by omega:i<HS+HS)⟩
     rw[this] at h;cases h
    ·rw[if_neg e]
   ·rw[if_neg hj,if_neg hj]
def yc (l:Nat) (Q:Exit→DS→Prop) (δ:DS):Option Ob→Prop
 |some (.loop l' _ _ _ _ .ready)=>l'=l∧Q .normal δ
 |some (.loop l' _ _ _ _ (.done .ret))=>l'=l∧Q .ret δ
 |some (.loop l' _ _ _ _ (.done (.exit id)))=>l'=l∧Q (.exit id) δ
 |_=>False
def fv (n i:Nat) (δ:DS):DS:={n,env:=c8 δ.env,objs:=(match δ.ob i with|some (.loop l tm ps asg body _)=>(i,some (.loop l tm ps asg body .js))|o=>(i,o))::δ.objs,nx:=δ.nx}
def bd (n i l:Nat) (Q:Exit→DS→Prop):Exit→DS→Prop
 |.normal,δ|.ret,δ=>yc l Q (fv n i δ) (δ.ob i)
 |_,_=>False
theorem c7.putObj (w:World) (b:Nat) (o:Obj):c7 w (w.putObj b o) (some b):=⟨rfl,rfl,rfl,by simp,fun k _ h=>World.putObj_heap_other (fun e=>h (by rw[e]))⟩
theorem mF (g:au) (a:Act) (j:Nat):g.val a (j+HS)=g.held (j+HS):=by unfold au.val;rw[if_neg (by omega)]
theorem Et {n i l:Nat} {tm ps asg body st} (h:δ.ob i=some (.loop l tm ps asg body st)):∀j,(fv n i δ).ob j=if i=j then some (.loop l tm ps asg body .js) else δ.ob j:=by
 intro j
 unfold fv
 rw[h]
 exact a6 _ _ _ _
theorem Rel.back {g':au} {a2 a':Act} {w w':World} {n i b l:Nat} {tm ps asg body st} {r:Loop} (r2:Rel g' δ κ a2 w) (du:g.wt=none) (MK:g'.wt=none) (hg:g'.B=g.B∧g'.w0=g.w0∧g'.N0=g.N0∧g'.fr=g.fr∧g'.w1=g.w1) (cW:∀j,g'.held (j+HS)=g.val a' j) (hn:a'.tmps.size=n)
  (ho:δ.ob i=some (.loop l tm ps asg body st)) (hκ:κ i=some b) (hr:w.heap[b]? =some (.loop r)) (r':Loop) (hk:r'.tmps=r.tmps∧r'.params=r.params∧r'.assign=r.assign∧r'.body=r.body) (hw:w'=w.putObj b (.loop r'))
  (hd:zS g a' w') (GZ:∀d∈a'.defers,∀r,d.target=.collected r→¬g.fr r):Rel g (fv n i δ) κ a' w':=by
 subst hw
 have aM:b<w.heap.size:=da hr
 obtain⟨r3,G⟩:=r2.modify (o':=.loop l tm ps asg body .js) ho rfl rfl hκ (eK MK i) (c7.putObj w b (.loop r')) (by simp) (fun C hC G=>by
  obtain⟨b',r0,h1,h2,q_,h3,h4,h5,h6,_⟩:=r2.obj i _ ho
  have:b'=b:=Option.some.inj (h1.symm.trans hκ)
  subst this
  rw[hr] at h2
  cases h2
  exact⟨b',r',by rw[hC];exact hκ,World.putObj_heap_same aM,q_,hk.1.trans h3,hk.2.1.trans h4,hk.2.2.1.trans h5,hk.2.2.2.trans h6,trivial⟩)
 have dJ:∀j,(fv n i δ).ob j=(δ.bB i (some (.loop l tm ps asg body .js))).ob j:=by
  intro j;rw[Et ho,dD]
 have wa:(fv n i δ).cx g κ=(δ.bB i (some (.loop l tm ps asg body .js))).cx g' κ:=by
  have h1:(fv n i δ).live=(δ.bB i (some (.loop l tm ps asg body .js))).live:=funext fun j=>by unfold DS.live;rw[dJ]
  have h2:(fv n i δ).lr=(δ.bB i (some (.loop l tm ps asg body .js))).lr:=funext fun j=>by unfold DS.lr;rw[dJ]
  have h3:(fv n i δ).lb=(δ.bB i (some (.loop l tm ps asg body .js))).lb:=funext fun j=>by unfold DS.lb;rw[dJ]
  unfold DS.cx
  rw[h1,h2,h3,hg.1,hg.2.2.1]
 have bj:∀j,(fv n i δ).live j↔(δ.bB i (some (.loop l tm ps asg body .js))).live j:=fun j=>by unfold DS.live;rw[dJ]
 exact
  {n:=hn,dfr:=hd
   env:=fun j=>by
    have h1:=r3.env (j+HS)
    rw[mF,cW j] at h1
    have h2:(fv n i δ).get j=(δ.bB i (some (.loop l tm ps asg body .js))).get (j+HS):=gF δ.env j
    rw[h2,wa];exact h1
   obj:=fun j o h=>by rw[dJ] at h;rw[wa];exact r3.obj j o h
   inj:=fun i j b h1 h2=>r3.inj i j b ((bj i).1 h1) ((bj j).1 h2)
   lo:=fun j b h1 h2=>by rw[← hg.1];exact r3.lo j b ((bj j).1 h1) h2
   nx:=fun j h=>r3.nx j ((bj j).1 h)
   wt:=fun k hk=>by rw[du] at hk;cases hk
   below:=by rw[← hg.1,← hg.2.1];exact r3.below
   mkf:=GZ
   fr:=by
    have h1:ka g' (fv n i δ).live κ (w.putObj b (.loop r')):=r3.fr.sub fun j b h1 h2=>⟨j,(bj j).1 h1,h2⟩
    exact h1.re hg.1.symm hg.2.2.2.1.symm hg.2.2.2.2.symm du
   hB:=by rw[← hg.1];exact r3.hB
   N0:=by rw[← hg.1,← hg.2.2.1,← hg.2.2.2.1];exact r3.N0}
theorem Gj {x:Operand} {f:FuncId} {vs us:Array Value} {a:Act} (hx:a.eval x=.func (.func f) vs us) (l:Nat) (w:World):
  (resolve a.eval (rangeCall x l) 0).run P w=.ok {target:=.fn (.func f) us,args:=vs++ #[.func (.yield l) #[] #[]]} w:=by
 have hc:a.eval (.const (.func (.yield l) #[] #[]))=.func (.yield l) #[] #[]:=rfl
 simp [resolve,rangeCall,Deferred.ofValue,hx,hc]
theorem AW.rangeFunc {x:Operand} {ps:Array Tmp} {asg body:Code} {f:FuncId} {first cap:List AV} {fn:Func} {c:Code} {n':Nat} (uh:g.ro=none) (du:g.wt=none) (hx:δ.ev x=.clo (.func f) first cap) (ho:aK x=true)
  (hf:P.funcs[f]? =some fn) (hb:fn.body=some c) (wM:fn.results= #[]) (hn:fn.ntmps=n') (hle:Nat.ble (first.length+1+cap.length) n'=true) (hnH:Nat.ble n' HS=true) (cp:Nat.ble δ.n HS=true) (he:(fn.name== "runtime.NumGoroutine")=false)
  (h:∀(g':au) (tm:Array Value) (l:Nat),g'.ro=none→g'.wt=none→(∀j,j<HS→g'.held (j+HS)=tm.getD j undef)→tm.size=δ.n→
   AW P g' c (bd δ.n δ.nx l Q) {n:=n',env:=enum 0 (first++ .yld δ.nx::cap)++cd δ.env,objs:=(δ.nx,some (.loop l tm ps asg body .ready))::δ.objs,nx:=δ.nx+1}):
  AW P g (.rangeFunc x ps asg body) Q δ:=by
 intro κ a w r
 have ng:=r.ra hx ho
 generalize hv:a.eval x=v at ng
 cases ng with
 | @clo _ vs us _ _ hs Fz ht Gc=>
  rw[uh]
  have zK:first.length+1+cap.length≤n':=by simpa using hle
  have hnH':n'≤HS:=by simpa using hnH
  obtain⟨ms,hm1,hm2,hm3⟩:=r.dfr
  refine wpIn_rangeFunc fun fnid _=>?_
  let w1:=w.alloc (.deferred (some []))
  let lp:Loop:={state:=.ready,pending:=none,fn:=fnid,tmps:=a.tmps,params:=ps,assign:=asg,body,defers:=w.heap.size}
  let w2:=w1.alloc (.loop lp)
  have hw1s:w1.heap.size=w.heap.size+1:=by show(w.heap.push _).size=_;simp
  refine⟨w.heap.size+1,[{target:=.collected w.heap.size,args:= #[]}],w2,_,w2,f,vs++ #[.func (.yield (w.heap.size+1)) #[] #[]]++us,w2,run_enterLoop_outer fnid a.tmps ps asg body,Gj hv _ _,fun _ _=>trivial,?_,fun h=>by simp at h,?_⟩
  ·have bx:(fn.name== "runtime.NumGoroutine")=false:=he
   simp [invoke,callFunc,hf,hb]
   simpa using bx
  let g':au:={B:=g.B,w0:=g.w0,N0:=g.N0,held:=fun j=>g.val a (j - HS),ro:=none,mks:=w.heap.size::(ms++g.mks),wt:=none,fr:=g.fr,w1:=g.w1}
  have hr1:Rel g δ κ a w1:=r.ext ((Below.refl _ _).alloc (Nat.le_refl _) _)
  obtain⟨hr2,G⟩:=hr1.grow (.loop (w.heap.size+1) a.tmps ps asg body .ready) (.loop lp) (fun C G hκ=>⟨_,lp,hκ,heap_alloc_new w1 _,hw1s,rfl,rfl,rfl,rfl,rfl,rfl⟩)
  let κ2:=cA κ δ.nx (some w1.heap.size)
  have hκ2:κ2 δ.nx=some (w.heap.size+1):=by show cA _ _ _ _=_;simp [cA,hw1s]
  let δ2:DS:={n:=n',env:=enum 0 (first++ .yld δ.nx::cap)++cd δ.env,objs:=(δ.nx,some (.loop (w.heap.size+1) a.tmps ps asg body .ready))::δ.objs,nx:=δ.nx+1}
  have wa:δ2.cx g' κ2=(δ.bf (.loop (w.heap.size+1) a.tmps ps asg body .ready)).cx g κ2:=rfl
  have Ap:∀(e1 e2:List (Nat×AV)) (j:Nat),look (e1++e2) j=look e1 j∨(look e1 j=.any∧look (e1++e2) j=look e2 j):=by
   intro e1 e2 j
   induction e1 with
   |nil=>exact .inr ⟨rfl,rfl⟩
   |cons p e1 ih=>
    obtain⟨i,v⟩:=p
    rw[List.cons_append,a7,a7]
    by_cases e:i=j
    ·rw[if_pos e,if_pos e];exact .inl rfl
    ·rw[if_neg e,if_neg e];exact ih
  let args:Array Value:=vs++ #[.func (.yield (w.heap.size+1)) #[] #[]]++us
  have jm:args.size=first.length+1+cap.length:=by simp [args];omega
  have jh:Rel g' δ2 κ2 {tmps:=args++Array.replicate (fn.ntmps - args.size) undef,defers:=[]} w2:=
   {n:=by show(args++Array.replicate (fn.ntmps - args.size) undef).size=n';rw[Array.size_append,Array.size_replicate,hn,jm];omega
    dfr:=⟨[],rfl,by
      show(w.heap.size::(ms++g.mks)).Nodup
      refine List.nodup_cons.2 ⟨fun pV=>?_,hm2⟩
      have:=da (hm3 _ pV).2
      omega,fun k hk=>by
      rw[List.nil_append] at hk
      rcases List.mem_cons.1 hk with rfl|hk
      ·refine⟨r.hB,?_⟩
       rw[show w2.heap[w.heap.size]? =w1.heap[w.heap.size]? from Below.heap_alloc w1 _ _ (by omega)]
       exact heap_alloc_new w _
      ·have h3:=hm3 k hk
       have aM:=da h3.2
       refine⟨h3.1,?_⟩
       rw[show w2.heap[k]? =w1.heap[k]? from Below.heap_alloc w1 _ _ (by omega),show w1.heap[k]? =w.heap[k]? from Below.heap_alloc w _ _ aM]
       exact h3.2⟩
    env:=fun j=>by
     rw[wa]
     by_cases hj:j<HS
     ·have cW:g'.val {tmps:=args++Array.replicate (fn.ntmps - args.size) undef,defers:=[]} j=(args++Array.replicate (fn.ntmps - args.size) undef).getD j undef:=if_pos hj
      rw[cW]
      have zY:δ2.get j=look (enum 0 (first++ .yld δ.nx::cap)) j:=by
       rcases Ap (enum 0 (first++ .yld δ.nx::cap)) (cd δ.env) j with h1|⟨h1,h2⟩
       ·exact h1
       ·show look (_++_) j=_
        rw[h2,h1,fY _ _ hj]
      rw[zY]
      by_cases JL:j<args.size
      ·have hl:j<(first++ .yld δ.nx::cap).length:=by simp;omega
       rw[gX _ 0 j ((first++ .yld δ.nx::cap)[j]) (Nat.zero_le _) (by rw[Nat.sub_zero];exact List.getElem?_eq_getElem hl)]
       have uo:(args++Array.replicate (fn.ntmps - args.size) undef).getD j undef=args[j]:=by
        rw[Array.getD_eq_getD_getElem?,Array.getElem?_append_left JL,Array.getElem?_eq_getElem JL];rfl
       rw[uo]
       have hA:args[j]? =some args[j]:=Array.getElem?_eq_getElem JL
       have hL:(first++ .yld δ.nx::cap)[j]? =some (first++ .yld δ.nx::cap)[j]:=List.getElem?_eq_getElem hl
       generalize args[j]=u at hA ⊢
       generalize (first++ .yld δ.nx::cap)[j]=d at hL ⊢
       simp only[args] at hA
       by_cases h1:j<first.length
       ·rw[List.getElem?_append_left h1] at hL
        rw[Array.getElem?_append_left (by simp;omega),Array.getElem?_append_left (by omega)] at hA
        exact G.ra ((eD.ra ⟨rfl,by rw[hw1s];omega,fun b hb hN=>⟨hN,Below.heap_alloc w _ _ hb⟩,fun i hi=>⟨hi,rfl,fun b hκ=>Below.heap_alloc w _ _ (r.lo i b (DS.bU hi) hκ).2⟩,fun i hi=>⟨hi,rfl⟩⟩ (Fz j u d hA hL)))
       ·rw[List.getElem?_append_right (by omega)] at hL
        by_cases h2:j=first.length
        ·subst h2
         simp at hL
         subst hL
         rw[Array.getElem?_append_left (by simp;omega),Array.getElem?_append_right (by omega)] at hA
         simp [hs] at hA
         subst hA
         exact .yld ⟨_,by show(δ.bf _).ob _=_;rw[bt,if_pos rfl],rfl⟩ hκ2
        ·obtain⟨m,hm⟩:∃m,j=first.length+1+m:=⟨j - first.length - 1,by omega⟩
         subst hm
         rw[show first.length+1+m - first.length=m+1 by omega,List.getElem?_cons_succ] at hL
         rw[Array.getElem?_append_right (by simp;omega)] at hA
         have e0:first.length+1+m - (vs++ #[Value.func (.yield (w.heap.size+1)) #[] #[]]).size=m:=by simp;omega
         rw[e0] at hA
         exact G.ra ((eD.ra ⟨rfl,by rw[hw1s];omega,fun b hb hN=>⟨hN,Below.heap_alloc w _ _ hb⟩,fun i hi=>⟨hi,rfl,fun b hκ=>Below.heap_alloc w _ _ (r.lo i b (DS.bU hi) hκ).2⟩,fun i hi=>⟨hi,rfl⟩⟩ (Gc m u d hA hL)))
      ·rw[dt _ 0 j (.inr (by simp;omega))];exact .any _
     ·obtain⟨m,rfl⟩:∃m,j=m+HS:=⟨j - HS,by omega⟩
      have cW:g'.val {tmps:=args++Array.replicate (fn.ntmps - args.size) undef,defers:=[]} (m+HS)=g.val a m:=by
       rw[mF];exact congrArg (g.val a) (Nat.add_sub_cancel m HS)
      rw[cW]
      have zY:δ2.get (m+HS)=δ.get m:=by
       have h0:look (enum 0 (first++ .yld δ.nx::cap)) (m+HS)=.any:=dt _ 0 _ (.inr (by simp;omega))
       rcases Ap (enum 0 (first++ .yld δ.nx::cap)) (cd δ.env) (m+HS) with h1|⟨h1,h2⟩
       ·
        have:∀(e1:List (Nat×AV)),(∀p∈e1,p.1≠m+HS)→look (e1++cd δ.env) (m+HS)=look (cd δ.env) (m+HS):=by
         intro e1 bx
         induction e1 with
         |nil=>rfl
         |cons p e1 ih=>
          rw[List.cons_append]
          show look ((p.1,p.2)::(e1++cd δ.env)) _=_
          rw[a7,if_neg (bx p (by simp))]
          exact ih (fun q hq=>bx q (by simp [hq]))
        have hk:∀(l:List AV) (i:Nat),∀p∈enum i l,p.1<i+l.length:=by
         intro l
         induction l with
         |nil=>intro i p hp;simp [enum] at hp
         |cons v l ih=>
          intro i p hp
          simp only[enum,List.mem_cons] at hp
          rcases hp with rfl|hp
          ·simp
          ·have:=ih (i+1) p hp;simp;omega
        show look (_++_) _=_
        rw[this _ (fun p hp=>by have:=hk _ 0 p hp;simp at this;omega),fT];rfl
       ·show look (_++_) _=_
        rw[h2,fT];rfl
      rw[zY]
      exact hr2.env m
    obj:=hr2.obj,inj:=hr2.inj,lo:=hr2.lo,nx:=hr2.nx,wt:=fun k hk=>(by cases hk),below:=hr2.below,hB:=hr2.hB,N0:=hr2.N0,fr:=hr2.fr.re rfl rfl rfl rfl,mkf:=fun d hd=>by cases hd}
  have MH:=h g' a.tmps (w.heap.size+1) rfl rfl (fun j hj=>(congrArg (g.val a) (Nat.add_sub_cancel j HS)).trans (by unfold au.val;rw[if_pos hj])) r.n κ2 _ w2 jh
  refine callsIn_of_wp_marks (n:=0) hf hb trivial (wpIn_mono MH ?_)
  rintro e a2 w3 ⟨δ3,κ3,hq,r3⟩
  have fin:yc (w.heap.size+1) Q (fv δ.n δ.nx δ3) (δ3.ob δ.nx)→LeavesInM (Fw none) 0 P fn a2.tmps (rangePost (Fw none) 0 P (w.heap.size+1) (lift g Q) {a with defers:=[{target:=.collected w.heap.size,args:= #[]}]++a.defers}) a2.defers .returning w3:=by
   intro hj
   obtain⟨tm3,ps3,asg3,body3,st3,dJ⟩:∃tm ps asg body st,δ3.ob δ.nx=some (.loop (w.heap.size+1) tm ps asg body st):=by
    cases Qj:δ3.ob δ.nx with
    |none=>rw[Qj] at hj;exact hj.elim
    |some o=>
     rw[Qj] at hj
     cases o with
     |row=>exact hj.elim
     |box cs=>exact hj.elim
     |mp l=>exact hj.elim
     |mpl l k v=>exact hj.elim
     |it l seen=>exact hj.elim
     |lit T vals=>exact hj.elim
     |pool e rows=>exact hj.elim
     |loop l' tm ps asg body st=>
      cases st with
      |ready=>obtain⟨rfl,_⟩:=hj;exact⟨tm,ps,asg,body,_,rfl⟩
      |busy=>exact hj.elim
      |js=>exact hj.elim
      |done c=>cases c<;>first|exact hj.elim|(obtain⟨rfl,_⟩:=hj;exact⟨tm,ps,asg,body,_,rfl⟩)
   refine leaves (g:=g') rfl rfl (rs:=[]) wM .none r3 (fun w4 r4 u hu=>?_)
   obtain⟨b,rl,h1,h2,q_,h3,h4,h5,h6,h7⟩:=r4.obj _ _ dJ
   have h1':κ3 δ.nx=some b:=h1
   subst q_
   have NP:rl.state≠ .busy:=by
    rw[dJ] at hj
    cases st3 with
    |ready=>rw[h7.1];simp
    |busy=>exact hj.elim
    |js=>exact hj.elim
    |done c=>rw[h7.1];simp
   have uc:=run_endLoop (P:=P) (w:=w4) h2 NP
   have hd:zS g {a with defers:=[{target:=.collected w.heap.size,args:= #[]}]++a.defers} (w4.putObj (w.heap.size+1) (.loop {rl with state:=.exhausted})):=by
    obtain⟨rs4,k1,k2,k3⟩:=r4.dfr
    refine⟨w.heap.size::ms,by simp [hm1],?_,fun k hk=>?_⟩
    ·have:(rs4++g'.mks).Nodup:=k2
     exact(List.nodup_append.1 this).2.1
    ·have hk':=k3 k (List.mem_append.2 (.inr hk))
     refine⟨hk'.1,?_⟩
     rw[World.putObj_heap_other (by intro e;subst e;rw[h2] at hk';cases hk'.2)]
     exact hk'.2
   have rb:=r4.back (g:=g) (n:=δ.n) (a':={a with defers:=[{target:=.collected w.heap.size,args:= #[]}]++a.defers}) du rfl ⟨rfl,rfl,rfl,rfl,rfl⟩ (fun j=>congrArg (g.val a) (Nat.add_sub_cancel j HS)) r.n dJ h1' h2 {rl with state:=.exhausted} ⟨rfl,rfl,rfl,rfl⟩ rfl hd (fun d hd r0 e=>by
    rcases List.mem_append.1 hd with hd|hd
    ·rw[List.mem_singleton] at hd
     subst hd
     cases e
     exact fun hf=>Nat.lt_irrefl _ (r.fr.uk hf)
    ·exact r.mkf d hd r0 e)
   refine⟨rl.pending,_,uc,?_⟩
   rw[dJ] at hj
   cases st3 with
   |ready=>rw[h7.2] at rb ⊢;exact⟨_,κ3,hj.2,rb⟩
   |busy=>exact hj.elim
   |js=>exact hj.elim
   |done c=>
    rw[h7.2] at rb ⊢
    cases c with
    |ret=>exact wpIn_ret ⟨_,κ3,hj.2,rb⟩
    |exit id=>exact wpIn_exit ⟨_,κ3,hj.2,rb⟩
    |_=>exact hj.elim
  cases e with
  |normal=>exact fin hq
  |ret=>exact fin hq
  |_=>exact hq.elim
def vP:List Tmp→List AV→List (Nat×AV)→List (Nat×AV)
 |t::ts,v::vs,e=>vP ts vs ((t,v)::e)
 |_,_,e=>e
def nE (n:Nat) (ps:List Tmp) (avs:List AV) (δ:DS):DS:={n,env:=vP ps avs (ak δ.env++cd δ.env),objs:=δ.objs,nx:=δ.nx}
def bg (n:Nat) (δ:DS):DS:={n,env:=c8 δ.env,objs:=δ.objs,nx:=δ.nx}
theorem kM:∀(e1 e2:List (Nat×AV)) (j:Nat),(look (e1++e2) j=look e1 j)∨((∀p∈e1,p.1≠j)∧look (e1++e2) j=look e2 j)
 |[],e2,j=> .inr ⟨by simp,rfl⟩
 |(i,v)::e1,e2,j=>by
  rw[List.cons_append,a7,a7]
  by_cases e:i=j
  ·rw[if_pos e,if_pos e];exact .inl rfl
  ·rw[if_neg e,if_neg e]
   rcases kM e1 e2 j with h|⟨h1,h2⟩
   ·exact .inl h
   ·refine .inr ⟨fun p hp=>?_,h2⟩
    rcases List.mem_cons.1 hp with rfl|hp
    ·exact e
    ·exact h1 p hp
theorem nW:∀(e:List (Nat×AV)) (j:Nat),(∀p∈e,p.1≠j)→look e j=.any
 |[],_,_=>rfl
 |(i,v)::e,j,h=>by rw[a7,if_neg (h (i,v) (by simp))];exact nW e j fun p hp=>h p (by simp [hp])
theorem qu:∀(e:List (Nat×AV)),∀p∈ak e,p.1<HS
 |[],p,h=>by simp [ak] at h
 |(i,v)::e,p,h=>by
  simp only[ak] at h
  cases hc:(Nat.ble HS i && Nat.blt i (HS+HS)) with
  |true=>
   rw[hc] at h
   simp only[Bool.and_eq_true] at hc
   have h1:HS≤i:=by simpa using hc.1
   have h2:i<HS+HS:=by simpa using hc.2
   rcases List.mem_cons.1 h with rfl|h
   ·show i - HS<HS;omega
   ·exact qu e p h
  |false=>rw[hc] at h;exact qu e p h
theorem xZ (e:List (Nat×AV)) (j:Nat):look (ak e++cd e) j=if j<HS then look e (j+HS) else look e (j - HS):=by
 by_cases hj:j<HS
 ·rw[if_pos hj]
  rcases kM (ak e) (cd e) j with h|⟨h1,h2⟩
  ·rw[h,mJ,if_pos hj]
  ·have h3:=nW _ _ h1
   rw[mJ,if_pos hj] at h3
   rw[h2,fY _ _ hj,h3]
 ·rw[if_neg hj]
  have h1:∀p∈ak e,p.1≠j:=fun p hp e'=>hj (e'▸qu e p hp)
  rcases kM (ak e) (cd e) j with h|⟨_,h2⟩
  ·rw[nW _ _ h1] at h
   -- both are any or the other
   have:∀(e1:List (Nat×AV)),(∀p∈e1,p.1≠j)→look (e1++cd e) j=look (cd e) j:=by
    intro e1 bx
    induction e1 with
    |nil=>rfl
    |cons p e1 ih=>
     rw[List.cons_append]
     show look ((p.1,p.2)::(e1++cd e)) j=_
     rw[a7,if_neg (bx p (by simp))]
     exact ih fun q hq=>bx q (by simp [hq])
   rw[this _ h1]
   obtain⟨m,rfl⟩:∃m,j=m+HS:=⟨j - HS,by omega⟩
   rw[fT,Nat.add_sub_cancel]
  ·rw[h2]
   obtain⟨m,rfl⟩:∃m,j=m+HS:=⟨j - HS,by omega⟩
   rw[fT,Nat.add_sub_cancel]
theorem Di {C:Cx} {w:World} {hv:Nat→Value}:∀(ps:List Tmp) (vals:List Value) (avs:List AV) (tm:Array Value) (e:List (Nat×AV)),vals.length=ps.length→avs.length=ps.length→
  (∀t∈ps,t<tm.size∧t<HS)→(∀(j:Nat) (u:Value) (v:AV),vals[j]? =some u→avs[j]? =some v→RA C w u v)→
  (∀j,RA C w (if j<HS then tm.getD j undef else hv j) (look e j))→
  ∀j,RA C w (if j<HS then ((ps.zip vals).foldl (fun tmps (t,a)=>tmps.setIfInBounds t a) tm).getD j undef else hv j) (look (vP ps avs e) j)
 |[],[],[],tm,e,_,_,_,_,h=>h
 |t::ps,u::vals,v::avs,tm,e,h1,h2,h3,h4,h=>by
  simp only[List.zip_cons_cons,List.foldl_cons,vP]
  refine Di ps vals avs _ _ (by simpa using h1) (by simpa using h2) (fun t' ht'=>by simpa using h3 t' (by simp [ht'])) (fun j x y hx hy=>h4 (j+1) x y (by simpa using hx) (by simpa using hy)) (fun j=>?_)
  rw[a7]
  by_cases e':t=j
  ·subst e'
   obtain⟨h5,h6⟩:=h3 t (by simp)
   rw[if_pos rfl,if_pos h6,Array.getD_eq_getD_getElem?,Array.getElem?_setIfInBounds,if_pos rfl,if_pos h5]
   exact h4 0 u v rfl rfl
  ·rw[if_neg e']
   have:=h j
   by_cases hj:j<HS
   ·rw[if_pos hj] at this ⊢
    rw[Array.getD_eq_getD_getElem?,Array.getElem?_setIfInBounds,if_neg e',← Array.getD_eq_getD_getElem?]
    exact this
   ·rw[if_neg hj] at this ⊢;exact this
 |[],_::_,_,_,_,h,_,_,_,_=>by simp at h
 |[],[],_::_,_,_,_,h,_,_,_=>by simp at h
 |_::_,[],_,_,_,h,_,_,_,_=>by simp at h
 |_::_,_::_,[],_,_,_,h,_,_,_=>by simp at h
theorem uX:∀(l:List (Tmp×Value)) (tm:Array Value),(l.foldl (fun tmps (t,a)=>tmps.setIfInBounds t a) tm).size=tm.size
 |[],_=>rfl
 |(t,a)::l,tm=>by simp only[List.foldl_cons];rw[uX l];simp
def ke (δ:DS) (i l:Nat) (st:o5):Prop:=∃tm ps asg body,δ.ob i=some (.loop l tm ps asg body st)
def DS.jg (δ:DS) (i:Nat) (st:o5):DS:=match δ.ob i with|some (.loop l tm ps asg body _)=>δ.bB i (some (.loop l tm ps asg body st))|_=>δ
def n5 (n i l:Nat) (K:Bool→o5→DS→Prop):Exit→DS→Prop
 |.normal,δ=>ke δ i l .busy∧K true .ready (bg n δ)
 |.ret,δ=>ke δ i l .busy∧K false (.done .ret) (bg n δ)
 |.exit id,δ=>ke δ i l .busy∧K false (.done (.exit id)) (bg n δ)
 |_,_=>False
theorem Rel.jg {i l:Nat} {st st':o5} {rl r':Loop} (du:g.wt=none) (r:Rel g δ κ a w) (h:ke δ i l st) (hr:w.heap[l]? =some (.loop rl)) (hk:r'.tmps=rl.tmps∧r'.params=rl.params∧r'.assign=rl.assign∧r'.body=rl.body)
  (de:match st' with|.ready=>r'.state=.ready∧r'.pending=none|.busy=>r'.state=.busy|.done c=>r'.state=.done∧r'.pending=some c|.js=>True):Rel g (δ.jg i st') κ a (w.putObj l (.loop r')):=by
 obtain⟨tm,ps,asg,body,ho⟩:=h
 obtain⟨b,r0,h1,h2,q_,h3,h4,h5,h6,_⟩:=r.obj i _ ho
 have h1':κ i=some b:=h1
 subst q_
 rw[hr] at h2
 cases h2
 obtain⟨r3,G⟩:=r.modify (o':=.loop b tm ps asg body st') ho rfl rfl h1' (eK du i) (c7.putObj w b (.loop r')) (by simp) (fun C hC G=>
  ⟨b,r',by rw[hC];exact h1',World.putObj_heap_same (da hr),rfl,hk.1.trans h3,hk.2.1.trans h4,hk.2.2.1.trans h5,hk.2.2.2.trans h6,de⟩)
 unfold DS.jg
 rw[ho]
 exact r3
theorem Rel.frame {g':au} {a2 a':Act} {n:Nat} (r2:Rel g' δ κ a2 w) (du:g.wt=none) (MK:g'.wt=none) (hg:g'.B=g.B∧g'.w0=g.w0∧g'.N0=g.N0∧g'.fr=g.fr∧g'.w1=g.w1) (cW:∀j,g'.held (j+HS)=g.val a' j) (hn:a'.tmps.size=n) (hd:zS g a' w) (GZ:∀d∈a'.defers,∀r,d.target=.collected r→¬g.fr r):Rel g (bg n δ) κ a' w:=by
 have wa:(bg n δ).cx g κ=δ.cx g' κ:=by
  show(δ.cx g κ)=_
  unfold DS.cx
  rw[hg.1,hg.2.2.1]
 exact
  {n:=hn,dfr:=hd
   env:=fun j=>by
    have h1:=r2.env (j+HS)
    rw[mF,cW j] at h1
    have h2:(bg n δ).get j=δ.get (j+HS):=gF δ.env j
    rw[h2,wa];exact h1
   obj:=fun j o h=>by rw[wa];exact r2.obj j o h
   inj:=r2.inj
   lo:=fun j b h1 h2=>by rw[← hg.1];exact r2.lo j b h1 h2
   nx:=r2.nx
   wt:=fun k hk=>by rw[du] at hk;cases hk
   below:=by rw[← hg.1,← hg.2.1];exact r2.below
   mkf:=GZ
   fr:=by
    have h1:ka g' δ.live κ w:=r2.fr
    exact h1.re hg.1.symm hg.2.2.2.1.symm hg.2.2.2.2.symm du
   hB:=by rw[← hg.1];exact r2.hB
   N0:=by rw[← hg.1,← hg.2.2.1,← hg.2.2.2.1];exact r2.N0}
theorem vy {x:Operand} {ys:Array Operand} {tys:Array TypeId} {l:Nat} {r:Loop} {a:Act} (hx:a.eval x=.func (.yield l) #[] #[]) (h:w.heap[l]? =some (.loop r)) (hs:ys.size=r.params.size):
  (execOp a.eval ⟨dst,.call {callee:=.value x,args:=ys,argTypes:=tys},ty,pos,af,none⟩).run P w=
   .ok (.round l r.fn ((r.params.zip (ys.map a.eval)).foldl (fun tmps (t,a)=>tmps.setIfInBounds t a) r.tmps) r.assign r.body) w:=by
 have:=run_yield (P:=P) (w:=w) (args:=ys.map a.eval) h (by simpa using hs)
 simp only[execOp,resolve,Deferred.ofValue,hx,invoke,Sem.run_bind,Sem.run_pure,Result.andThen_ok,Array.empty_append]
 exact this
theorem aa.yield {x:Operand} {ys:List Operand} {tys:Array TypeId} {i l n0:Nat} {tm:Array Value} {ps:List Tmp} {asg body:Code} (uh:g.ro=none) (du:g.wt=none) (oy:∀j,j<HS→g.held (j+HS)=tm.getD j undef) (Ax:tm.size=n0) (hn0:Nat.ble n0 HS=true)
  (hx:δ.ev x=.yld i) (dJ:δ.ob i=some (.loop l tm ps.toArray asg body .ready)) (ho:aK x=true) (Ks:ys.all aK=true) (hlen:Nat.beq ys.length ps.length=true) (IA:ps.all (fun t=>Nat.blt t n0)=true) (hd':bn δ.n dst=true)
  (h:∀g':au,g'.ro=some l→g'.wt=none→AW P g' asg (bE (fun δ1=>ke δ1 i l .ready∧AW P g' body (n5 δ.n i l (fun b st δ2=>aa .plain P g ops rest Q ((δ2.jg i st).aw dst (aF b)))) (δ1.jg i .busy)) (fun _ _=>False)) (nE n0 ps (ys.map δ.ev) δ)):
  aa .plain P g ops (⟨dst,.call {callee:=.value x,args:=ys.toArray,argTypes:=tys},ty,pos,af,none⟩::rest) Q δ:=by
 intro κ a w r
 have ng:=r.ra hx ho
 generalize hv:a.eval x=v at ng
 cases ng with
 | @yld _ b hl hκ=>
  obtain⟨b',rl,h1,h2,q_,h3,h4,h5,h6,h7⟩:=r.obj _ _ dJ
  have:b'=b:=Option.some.inj (h1.symm.trans hκ)
  subst this
  subst q_
  obtain⟨ms,hm1,hm2,hm3⟩:=r.dfr
  have yJ:ys.length=ps.length:=Nat.eq_of_beq_eq_true hlen
  show wpListIn _ _ P ops _ (_::rest) a w
  refine b8 rfl rfl fun K hK'=>?_
  unfold Oper.sr
  rw[vy hv h2 (by rw[h4];simpa using yJ),Oper.uponIn_round,uh]
  refine⟨fun h=>by simp at h,?_⟩
  let tm':Array Value:=(rl.params.zip (ys.toArray.map a.eval)).foldl (fun tmps (t,a)=>tmps.setIfInBounds t a) rl.tmps
  have DD:tm'=(ps.zip (ys.map a.eval)).foldl (fun tmps (t,a)=>tmps.setIfInBounds t a) tm:=by
   show(rl.params.zip (ys.toArray.map a.eval)).foldl _ rl.tmps=_
   rw[h3,h4,← Array.foldl_toList,Array.toList_zip]
   simp
  let g':au:={B:=g.B,w0:=g.w0,N0:=g.N0,held:=fun j=>g.val a (j - HS),ro:=some b',mks:=ms++g.mks,wt:=none,fr:=g.fr,w1:=g.w1}
  have Ib:∀j,g'.held (j+HS)=g.val a j:=fun j=>congrArg (g.val a) (Nat.add_sub_cancel j HS)
  have jh:Rel g' (nE n0 ps (ys.map δ.ev) δ) κ {tmps:=tm',defers:=[]} w:=
   {n:=by show tm'.size=n0;rw[DD,uX];exact Ax
    dfr:=⟨[],rfl,hm2,hm3⟩
    env:=fun j=>by
     have hp:=Di (C:=δ.cx g κ) (w:=w) (hv:=g'.held) ps (ys.map a.eval) (ys.map δ.ev) tm (ak δ.env++cd δ.env) (by simpa using yJ) (by simpa using yJ)
      (fun t ht=>by
       have h8:=(List.all_eq_true.1 IA) t ht
       have h9:t<n0:=by simpa using h8
       have h10:n0≤HS:=by simpa using hn0
       exact⟨Ax▸h9,Nat.lt_of_lt_of_le h9 h10⟩)
      (fun j u v h8 h9=>by
       simp only[List.getElem?_map,Option.map_eq_some_iff] at h8 h9
       obtain⟨y,h8,rfl⟩:=h8
       obtain⟨y',h9,rfl⟩:=h9
       rw[h8] at h9;cases h9
       exact r.xj y (c_ ((List.all_eq_true.1 Ks) y (List.mem_of_getElem? h8))))
      (fun j=>by
       rw[xZ]
       by_cases hj:j<HS
       ·rw[if_pos hj,if_pos hj,← oy j hj,← mF]
        exact r.env (j+HS)
       ·rw[if_neg hj,if_neg hj]
        exact r.env (j - HS)) j
     rw[← DD] at hp
     exact hp
    obj:=r.obj,inj:=r.inj,lo:=r.lo,nx:=r.nx,wt:=fun k hk=>(by cases hk),below:=r.below,hB:=r.hB,N0:=r.N0,fr:=r.fr.re rfl rfl rfl rfl,mkf:=fun d hd=>by cases hd}
  rw[h5,h6]
  refine roundIn_of_wpIn (F:=Fw none) trivial (wpIn_mono (h g' rfl rfl κ _ w jh) ?_)
  rintro e a1 w1 ⟨δ1,κ1,hq,r1⟩
  cases e with
  |normal=>
   obtain⟨Ml,hq⟩:=hq
   have NX:=Ml
   obtain⟨tm1,ps1,asg1,body1,ho1⟩:=Ml
   obtain⟨b1,rl1,k1,k2,kbl,k3,k4,k5,k6,k7⟩:=r1.obj _ _ ho1
   subst kbl
   have r1':=r1.jg rfl (st':=.busy) (r':={rl1 with state:=.busy}) NX k2 ⟨rfl,rfl,rfl,rfl⟩ rfl
   refine⟨_,run_beginRound k2 k7.1,wpIn_mono (hq κ1 a1 _ r1') ?_⟩
   rintro e2 a2 w2 ⟨δ2,κ2,hq2,r2⟩
   have fin:∀(jump:Option Code) (st:o5) (bb:Bool),bb=jump.isNone→ke δ2 i b1 .busy→aa .plain P g ops rest Q (((bg δ.n δ2).jg i st).aw dst (aF bb))→
     (match st with|.ready=>jump=none|.done c=>jump=some c|_=>False)→
     ∃v w',(Instr.endRound b1 jump).run P w2=.ok v w'∧K (a.put dst v) w':=by
    intro jump st bb Ha hl2 hA de
    have hl20:=hl2
    obtain⟨tm2,ps2,asg2,body2,ho2⟩:=hl2
    obtain⟨b2,rl2,m1,m2,mbl,m3,m4,m5,m6,m7⟩:=r2.obj _ _ ho2
    subst mbl
    have r3:=r2.jg rfl (st':=st) (r':={rl2 with state:=if jump.isNone then .ready else .done,pending:=jump}) hl20 m2 ⟨rfl,rfl,rfl,rfl⟩ (by
     cases st with
     |ready=>simp only at de;subst de;exact⟨rfl,rfl⟩
     |done c=>simp only at de;subst de;exact⟨rfl,rfl⟩
     |_=>exact de.elim)
    refine⟨_,_,run_endRound jump m2,?_⟩
    have hd:zS g a (w2.putObj b2 (.loop {rl2 with state:=if jump.isNone then .ready else .done,pending:=jump})):=by
     obtain⟨rs4,k1,k2,k3⟩:=r3.dfr
     exact⟨ms,hm1,(List.nodup_append.1 k2).2.1,fun k hk=>k3 k (List.mem_append.2 (.inr hk))⟩
    have r4:=r3.frame (g:=g) (a':=a) (n:=δ.n) du rfl ⟨rfl,rfl,rfl,rfl,rfl⟩ Ib r.n hd r.mkf
    have he:bg δ.n (δ2.jg i st)=(bg δ.n δ2).jg i st:=by
     unfold DS.jg
     have:(bg δ.n δ2).ob i=δ2.ob i:=rfl
     rw[this,ho2];rfl
    rw[he] at r4
    subst Ha
    have nb:((bg δ.n δ2).jg i st).n=δ.n:=by
     unfold DS.jg
     have:(bg δ.n δ2).ob i=δ2.ob i:=rfl
     rw[this,ho2];rfl
    exact hK' _ _ (hA κ2 _ _ (r4.aw (v:=.bool jump.isNone) (aS (by rw[nb];exact hd')) (.pv (.lit _))))
   cases e2 with
   |normal=>exact fin none .ready true rfl hq2.1 hq2.2 rfl
   |ret=>exact fin (some .ret) (.done .ret) false rfl hq2.1 hq2.2 rfl
   |exit id=>exact fin (some (.exit id)) (.done (.exit id)) false rfl hq2.1 hq2.2 rfl
   |_=>exact hq2.elim
  |_=>exact hq.elim
end Go.Ab
/- Calls walked in place:the callee's body over the caller's own objects. -/
namespace Go.Ab
open Go Go.RowKit
attribute [local irreducible] HS
variable {P:Program} {g:au} {δ:DS} {κ:Kp} {a:Act} {w:World}
variable {ops:Array Oper} {rest:List Oper} {Q:Exit→DS→Prop} {dst:Option Nat} {ty:TypeId} {pos:String} {af:Array Edge}
theorem o4 (l:List AV) (e:List (Nat×AV)) (hl:l.length≤HS) (j:Nat):look (enum 0 l++cd e) j=if j<HS then look (enum 0 l) j else look e (j - HS):=by
 have Ap:∀(l:List AV) (i:Nat),(∀j,i+l.length≤j∨j<i→look (enum i l++cd e) j=look (cd e) j)∧(∀j,i≤j→j<i+l.length→look (enum i l++cd e) j=look (enum i l) j):=by
  intro l
  induction l with
  |nil=>intro i;exact⟨fun j _=>rfl,fun j h1 h2=>by simp at h2;omega⟩
  |cons v l ih=>
   intro i
   obtain⟨h1,h2⟩:=ih (i+1)
   simp only[List.length_cons]
   refine⟨fun j hj=>?_,fun j h3 h4=>?_⟩
   ·show look ((i,v)::(enum (i+1) l++cd e)) j=_
    rw[a7,if_neg (by omega)]
    exact h1 j (by omega)
   ·show look ((i,v)::(enum (i+1) l++cd e)) j=look ((i,v)::enum (i+1) l) j
    rw[a7,a7]
    by_cases e:i=j
    ·rw[if_pos e,if_pos e]
    ·rw[if_neg e,if_neg e]
     exact h2 j (by omega) (by omega)
 obtain⟨h1,h2⟩:=Ap l 0
 by_cases hj:j<HS
 ·rw[if_pos hj]
  by_cases hj2:j<l.length
  ·exact h2 j (Nat.zero_le _) (by omega)
  ·rw[h1 j (by omega),fY _ _ hj,dt l 0 j (by omega)]
 ·rw[if_neg hj,h1 j (by omega)]
  obtain⟨m,rfl⟩:∃m,j=m+HS:=⟨j - HS,by omega⟩
  rw[fT,Nat.add_sub_cancel]
def bm (P:Program) (rs:List ResultVar) (n:Nat) (dst:Option Nat) (K:DS→Prop):Exit→DS→Prop
 |.normal,δ|.ret,δ=>∃v,bA P δ rs v∧K ((bg n δ).aw dst v)
 |_,_=>False
theorem jd {rs:List ResultVar} {n:Nat} {K:DS→Prop} {v:AV} (h:bA P δ rs v) (hK:K ((bg n δ).aw dst v)):bm P rs n dst K .ret δ:=⟨v,h,hK⟩
theorem z8 {rs:List ResultVar} {n:Nat} {K:DS→Prop} {v:AV} (h:bA P δ rs v) (hK:K ((bg n δ).aw dst v)):bm P rs n dst K .normal δ:=⟨v,h,hK⟩
theorem ns {gd:Option (Tmp×Bool)} {x:Operand} {f:FuncId} {vs us:Array Value} {xs:Array Operand} {tys:Array TypeId} {ρ:Operand→Value} (hx:ρ x=.func (.func f) vs us) (he:∀vals w,(callFunc f vals).run P w=.ok (.enter f vals) w) (w:World):
  (execOp ρ ⟨dst,.call {callee:=.value x,args:=xs,argTypes:=tys},ty,pos,af,gd⟩).run P w=.ok (.enter f (vs++xs.map ρ++us)) w:=by
 simp [execOp,resolve,Deferred.ofValue,invoke,hx,he]
theorem aa.inline {x:Operand} {xs:List Operand} {tys:Array TypeId} {f:FuncId} {first cap:List AV} {fn:Func} {c:Code} {n':Nat} {rs:List ResultVar} (du:g.wt=none) (hx:δ.ev x=.clo (.func f) first cap) (ho:aK x=true) (mD:xs.all aK=true)
  (hf:P.funcs[f]? =some fn) (hb:fn.body=some c) (ni:fn.results=rs.toArray) (hn:fn.ntmps=n') (hle:Nat.ble (first.length+xs.length+cap.length) n'=true) (hnH:Nat.ble n' HS=true) (hd:bn δ.n dst=true) (he:(fn.name== "runtime.NumGoroutine")=false)
  (h:∀g':au,g'.ro=none→g'.wt=none→AW P g' c (bm P rs δ.n dst fun δ2=>aa .plain P g ops rest Q δ2) {n:=n',env:=enum 0 (first++xs.map δ.ev++cap)++cd δ.env,objs:=δ.objs,nx:=δ.nx}):
  aa .plain P g ops (⟨dst,.call {callee:=.value x,args:=xs.toArray,argTypes:=tys},ty,pos,af,none⟩::rest) Q δ:=by
 intro κ a w r
 have ng:=r.ra hx ho
 generalize hv:a.eval x=v at ng
 cases ng with
 | @clo _ vs us _ _ hs Fz ht Gc=>
  have zK:first.length+xs.length+cap.length≤n':=by simpa using hle
  have hnH':n'≤HS:=by simpa using hnH
  obtain⟨ms,hm1,hm2,hm3⟩:=r.dfr
  have OA:∀vals w,(callFunc f vals).run P w=.ok (.enter f vals) w:=fun vals w=>by simp [callFunc,hf,hb];simpa using he
  show wpListIn _ _ P ops _ (_::rest) a w
  refine b8 rfl rfl fun K hK'=>?_
  unfold Oper.sr
  rw[ns hv OA,Oper.uponIn_enter]
  refine⟨fun h=>by simp at h,?_⟩
  let args:Array Value:=vs++xs.toArray.map a.eval++us
  let avs:List AV:=first++xs.map δ.ev++cap
  have jm:args.size=avs.length:=by simp [args,avs];omega
  have oU:avs.length=first.length+xs.length+cap.length:=by simp [avs];omega
  let g':au:={B:=g.B,w0:=g.w0,N0:=g.N0,held:=fun j=>g.val a (j - HS),ro:=none,mks:=ms++g.mks,wt:=none,fr:=g.fr,w1:=g.w1}
  let δ2:DS:={n:=n',env:=enum 0 avs++cd δ.env,objs:=δ.objs,nx:=δ.nx}
  have bS:∀(j:Nat) (u:Value) (av:AV),args[j]? =some u→avs[j]? =some av→RA (δ.cx g κ) w u av:=by
   intro j u av h1 h2
   simp only[args] at h1
   simp only[avs] at h2
   by_cases hj:j<first.length+xs.length
   ·rw[List.getElem?_append_left (by simp;omega)] at h2
    rw[Array.getElem?_append_left (by simp;omega)] at h1
    by_cases hj1:j<first.length
    ·rw[List.getElem?_append_left hj1] at h2
     rw[Array.getElem?_append_left (by omega)] at h1
     exact Fz j u av h1 h2
    ·rw[List.getElem?_append_right (by omega)] at h2
     rw[Array.getElem?_append_right (by omega),hs] at h1
     simp only[List.map_toArray,List.getElem?_toArray,List.getElem?_map,Option.map_eq_some_iff] at h1 h2
     obtain⟨y,h3,rfl⟩:=h1
     obtain⟨y',h4,rfl⟩:=h2
     rw[h3] at h4;cases h4
     exact r.xj y (c_ ((List.all_eq_true.1 mD) y (List.mem_of_getElem? h3)))
   ·rw[List.getElem?_append_right (by simp;omega)] at h2
    rw[Array.getElem?_append_right (by simp;omega)] at h1
    have e1:(vs++xs.toArray.map a.eval).size=(first++xs.map δ.ev).length:=by simp;omega
    rw[e1] at h1
    exact Gc _ u av h1 h2
  have jh:Rel g' δ2 κ {tmps:=args++Array.replicate (fn.ntmps - args.size) undef,defers:=[]} w:=
   {n:=by show(args++Array.replicate (fn.ntmps - args.size) undef).size=n';rw[Array.size_append,Array.size_replicate,hn,jm];omega
    dfr:=⟨[],rfl,hm2,hm3⟩
    env:=fun j=>by
     show RA (δ.cx g κ) w _ (look (enum 0 avs++cd δ.env) j)
     rw[o4 avs δ.env (by omega)]
     unfold au.val
     by_cases hj:j<HS
     ·rw[if_pos hj,if_pos hj]
      show RA (δ.cx g κ) w ((args++Array.replicate (fn.ntmps - args.size) undef).getD j undef) _
      by_cases JL:j<avs.length
      ·have uo:(args++Array.replicate (fn.ntmps - args.size) undef).getD j undef=args[j]:=by
        rw[Array.getD_eq_getD_getElem?,Array.getElem?_append_left (by omega),Array.getElem?_eq_getElem (by omega)];rfl
       rw[uo,gX avs 0 j avs[j] (Nat.zero_le _) (by rw[Nat.sub_zero];exact List.getElem?_eq_getElem JL)]
       exact bS j _ _ (Array.getElem?_eq_getElem (by omega)) (List.getElem?_eq_getElem JL)
      ·rw[dt avs 0 j (by omega)];exact .any _
     ·rw[if_neg hj,if_neg hj]
      exact r.env (j - HS)
    obj:=r.obj,inj:=r.inj,lo:=r.lo,nx:=r.nx,wt:=fun k hk=>(by cases hk),below:=r.below,hB:=r.hB,N0:=r.N0,fr:=r.fr.re rfl rfl rfl rfl,mkf:=fun d hd=>by cases hd}
  refine(show CallsIn (Fw none) (0 - 1) P f args w _ from callsIn_of_wp_marks (n:=0) hf hb trivial (wpIn_mono (h g' rfl rfl κ _ w jh) ?_))
  rintro e a2 w2 ⟨δ3,κ3,hq,r3⟩
  have fin:∀v,bA P δ3 rs v→aa .plain P g ops rest Q ((bg δ.n δ3).aw dst v)→LeavesInM (Fw none) 0 P fn a2.tmps (fun
    |.returned v,w''=>K (a.put dst v) w''
    |.panicked chain,w''=>lift g Q (.panic chain) a w''
    |.outgrown,_=>LetsOut (lift g Q)) a2.defers .returning w2:=by
   intro v h1 h2
   refine leaves (g:=g') rfl rfl ni h1 r3 (fun w4 r4 u hu=>?_)
   have hd4:zS g a w4:=by
    obtain⟨rs4,k1,k2,k3⟩:=r4.dfr
    exact⟨ms,hm1,(List.nodup_append.1 k2).2.1,fun k hk=>k3 k (List.mem_append.2 (.inr hk))⟩
   have r5:=r4.frame (g:=g) (a':=a) (n:=δ.n) du rfl ⟨rfl,rfl,rfl,rfl,rfl⟩ (fun j=>congrArg (g.val a) (Nat.add_sub_cancel j HS)) r.n hd4 r.mkf
   exact hK' _ _ (h2 κ3 _ _ (r5.aw (aS hd) hu))
  cases e with
  |normal=>obtain⟨v,h1,h2⟩:=hq;exact fin v h1 h2
  |ret=>obtain⟨v,h1,h2⟩:=hq;exact fin v h1 h2
  |_=>exact hq.elim
end Go.Ab
namespace Go.Ab
section
variable {P:Program} {δ:DS} {n:Nat} {dst:Option Nat} {K:DS→Prop} {t t':Tmp}
theorem iw {p:PV} (ht:Nat.blt t HS=true) (h:δ.get t=.pv p) (hK:K ((bg n δ).aw dst (.pv p))):bm P [.tmp t] n dst K .ret δ:=jd (.one (.tmp ht h)) hK
theorem sQ {i e k els} (ht:Nat.blt t HS=true) (h:δ.get t=.own i e k els) (hK:K ((bg n δ).aw dst (.own i e k els))):bm P [.tmp t] n dst K .ret δ:=jd (.one (.tmp ht h)) hK
theorem tT {i o} (ht:Nat.blt t HS=true) (h:δ.get t=.ptr i o) (hK:K ((bg n δ).aw dst (.ptr i o))):bm P [.tmp t] n dst K .ret δ:=jd (.one (.tmp ht h)) hK
theorem lT (hK:K ((bg n δ).aw dst (.tup []))):bm P [] n dst K .normal δ:=z8 .none hK
theorem vu {p p':PV} (ht:Nat.blt t HS=true) (h:δ.get t=.pv p) (ht':Nat.blt t' HS=true) (h':δ.get t'=.pv p') (hK:K ((bg n δ).aw dst (.tup [.pv p,.pv p']))):bm P [.tmp t,.tmp t'] n dst K .ret δ:=jd (.two (.tmp ht h) (.tmp ht' h')) hK
theorem vK {i e k els} {p':PV} (ht:Nat.blt t HS=true) (h:δ.get t=.own i e k els) (ht':Nat.blt t' HS=true) (h':δ.get t'=.pv p') (hK:K ((bg n δ).aw dst (.tup [.own i e k els,.pv p']))):bm P [.tmp t,.tmp t'] n dst K .ret δ:=jd (.two (.tmp ht h) (.tmp ht' h')) hK
end
end Go.Ab
/- Regions that draw their order and hold operations with an effect:what only reads is taken first,the rest is walked in each order. -/
namespace Go.Ab
open Go Go.RowKit
variable {P:Program} {g:au} {δ:DS} {κ:Kp} {a:Act} {w:World}
variable {ops:Array Oper} {Q:Exit→Act→World→Prop} {ro:Option Nat}
theorem uy {j:Nat} {oi oj:Oper} {v:Value} {I:Act→Prop} (hj:ops[j]? =some oj) (dB:dQ oj=true) (MR:oi.apart ops oj=true)
  (Rn:∀cs b,oj.op≠ .select cs b) (hQ:∀c a w,Q (.panic c) (a.put oi.dst v) w→Q (.panic c) a w) (keep:∀a u,I a→I (a.put oj.dst u)) (keepD:∀(a:Act) d,I a→I {a with defers:=d::a.defers}) {K:Act→World→Prop} {a:Act} {w:World}
  (hy:I a) (h:wpOpIn (Fw ro) 0 P ops Q j K (a.put oi.dst v) w):wpOpIn (Fw ro) 0 P ops Q j (fun a' w'=>I a'∧K (a'.put oi.dst v) w') a w:=by
 obtain⟨h1,h2,h3⟩:=Oper.apart_spec MR
 unfold wpOpIn at*
 simp only[hj] at*
 rw[wanted_put oj a oi.dst v h1,about_put oj w a oi.dst v h1] at h
 have KG:∀ρ,oj.semAt (Fw ro).round ρ=execOp ρ oj:=fun ρ=>Oper.semAt_eq _ _ _ (by intro c e;simp [dQ,e] at dB)
 split
 ·rename_i hw
  simp only[hw,if_true] at h
  unfold Oper.wpIn at*
  rw[about_put oj w a oi.dst v h1] at h
  refine⟨h.1,?_⟩
  have h:=h.2
  rw[KG,execOp_put oj Rn a oi.dst v h1] at h
  rw[KG]
  generalize (execOp a.eval oj).run P w=r at*
  cases r with
  |ok x w'=>
   cases x<;>simp only[Oper.uponIn] at h ⊢
   case value u=>exact⟨keep a u hy,by rw[← Act.put_comm a v u h2];exact h⟩
   case skip=>exact⟨keep a _ hy,by rw[← Act.put_comm a v undef h2];exact h⟩
   case defer d=>
    refine⟨keep _ _ (keepD _ _ hy),?_⟩
    rw[← Act.put_comm _ v undef h2,← Act.put_defers]
    exact h
   case enter f args=>
    refine⟨h.1,CallsIn.mono h.2 fun e w'' he=>?_⟩
    cases e with
    |returned u=>exact⟨keep a u hy,by rw[← Act.put_comm a v u h2];exact he⟩
    |panicked c=>exact hQ _ _ _ he
    |outgrown=>exact he
   case row row args=>exact⟨h.1,RowsIn.mono h.2 fun u w'' he=>⟨keep a u hy,by rw[← Act.put_comm a v u h2];exact he⟩⟩
   case round l f tmps assign body=>
    refine⟨h.1,RoundIn.mono h.2 fun e w'' he=>?_⟩
    cases e with
    |returned u=>exact⟨keep a u hy,by rw[← Act.put_comm a v u h2];exact he⟩
    |panicked c=>exact hQ _ _ _ he
    |outgrown=>exact he
  |halt x w'=>
   cases x<;>simp only[Oper.uponIn] at h ⊢
   case panic u=>exact hQ _ _ _ h
 ·rename_i hw
  simp only[hw] at h
  exact⟨h.1,keep a _ hy,by rw[← Act.put_comm a v undef h2];exact h.2⟩
def iL (ro:Option Nat) (P:Program) (ops:Array Oper) (Q:Exit→Act→World→Prop) (S:Array Bool→World→Prop):Nat→Array Bool→Act→World→Prop
 |0,listed,a,w=>Region.ready .any ops listed=[]∧Q .normal a w
 |fuel+1,listed,a,w=>
  (Region.ready .any ops listed=[]→Q .normal a w)∧
  ∀i∈Region.ready .any ops listed,wpOpIn (Fw ro) 0 P ops Q i (fun a' w'=>S (listed.setIfInBounds i true) w'∧iL ro P ops Q S fuel (listed.setIfInBounds i true) a' w') a w
theorem pW {S:Array Bool→World→Prop}:∀(fuel:Nat) (listed:Array Bool) (a:Act) (w:World),iL ro P ops Q S fuel listed a w→wpAnyIn (Fw ro) 0 P .any ops Q fuel listed a w
 |0,_,_,_,h=>h
 |fuel+1,_,_,_,h=>⟨h.1,fun i hi=>wpOpIn_mono (fun a' w' h'=>pW fuel _ a' w' h'.2) (h.2 i hi)⟩
def DC (ops:Array Oper) (listed:Array Bool):Prop:=∀j o,ops[j]? =some o→listed.getD j false=true→∀e∈o.after,Region.binds .any e=true→listed.getD e.on false=true
theorem Co (listed:Array Bool) (i j:Nat) (d:Bool):(listed.setIfInBounds i true).getD j d=if i=j then (if i<listed.size then true else d) else listed.getD j d:=by
 by_cases h:i=j
 ·subst h
  rw[if_pos rfl]
  by_cases aM:i<listed.size
  ·simp [aM]
  ·simp [aM]
 ·rw[if_neg h];exact getD_set_ne d h
theorem DC.ready {listed:Array Bool} (h:DC ops listed) {i:Nat} (hi:i∈Region.ready .any ops listed):DC ops (listed.setIfInBounds i true):=by
 intro j o ho hj e he hb
 obtain⟨_,o',ho',dV⟩:=mem_ready.1 hi
 by_cases o_:i=j
 ·subst o_
  rw[ho'] at ho;cases ho
  exact getD_set_true (dV e he hb)
 ·rw[getD_set_ne false o_] at hj
  exact getD_set_true (h j o ho hj e he hb)
theorem mK {S:Array Bool→World→Prop} {C:World→Prop} {i:Nat} {oi:Oper} {v:Value} (hi:ops[i]? =some oi) (J5:∀(j:Nat) (o:Oper) cs b,ops[j]? =some o→o.op≠ .select cs b) (dB:∀(j:Nat) (o:Oper),ops[j]? =some o→dQ o=true)
  (hQ:∀c a w,Q (.panic c) (a.put oi.dst v) w→Q (.panic c) a w)
  (hC:∀listed w,DC ops listed→listed.getD i true=false→S listed w→C w) (hS:∀listed w,S (listed.setIfInBounds i true) w↔S listed w):
  ∀(fuel:Nat) (listed:Array Bool) (a:Act) (w:World),DC ops listed→
   (∀j oj,ops[j]? =some oj→j≠i→listed.getD j true=false→(∀e∈oj.after,Region.binds .any e=true→e.on≠i)→oi.apart ops oj=true)→
   i∈Region.ready .any ops listed→YieldsIf P ops C oi v a→S listed w→
   iL ro P ops Q S fuel (listed.setIfInBounds i true) (a.put oi.dst v) w→iL ro P ops Q S (fuel+1) listed a w:=by
 have lk:∀{K:Act→World→Prop} {a:Act} {w:World},YieldsIf P ops C oi v a→C w→K (a.put oi.dst v) w→wpOpIn (Fw ro) 0 P ops Q i K a w:=by
  intro K a w hy hw hk
  unfold wpOpIn
  simp only[hi]
  rcases hy with ⟨HJ,hv⟩|⟨HJ,rfl⟩
  ·simp only[HJ,if_true,Oper.wpIn]
   refine⟨fun _ _=>trivial,?_⟩
   rw[Oper.semAt_eq _ _ _ (by intro c e;have:=dB i oi hi;simp [dQ,e] at this),hv w hw]
   exact hk
  ·simp only[HJ,Bool.false_eq_true,if_false];exact⟨fun _ _=>trivial,hk⟩
 intro fuel
 induction fuel with
 |zero=>
  intro listed a w oZ _ hr hy hSw H
  refine⟨fun h=>(by rw[h] at hr;cases hr),fun j hj=>?_⟩
  by_cases j5:j=i
  ·subst j5;exact lk hy (hC listed w oZ (mem_ready.1 hr).1 hSw) ⟨(hS _ _).2 hSw,H⟩
  ·have:=ready_mono hj j5
   rw[H.1] at this
   cases this
 |succ fuel ih=>
  intro listed a w oZ GS hr hy hSw H
  refine⟨fun h=>(by rw[h] at hr;cases hr),fun j hj=>?_⟩
  by_cases j5:j=i
  ·subst j5;exact lk hy (hC listed w oZ (mem_ready.1 hr).1 hSw) ⟨(hS _ _).2 hSw,H⟩
  ·have h1:=H.2 j (ready_mono hj j5)
   obtain⟨L5,oj,MT,dV⟩:=mem_ready.1 hj
   have AH:∀e∈oj.after,Region.binds .any e=true→e.on≠i:=fun e he hb heq=>by
    have h1:=dV e he hb
    have h0:=(mem_ready.1 hr).1
    rw[heq] at h1
    rcases Nat.lt_or_ge i listed.size with h'|h'
    ·simp [h'] at h0 h1;rw[h0] at h1;cases h1
    ·simp [Array.getElem?_eq_none h'] at h1
   have MR:=GS j oj MT j5 L5 AH
   obtain⟨_,_,h3⟩:=Oper.apart_spec MR
   have h2:=uy (I:=YieldsIf P ops C oi v) MT (dB j oj MT) MR (fun cs b=>J5 j oj cs b MT) hQ
    (fun a u hy=>hy.of_same (execOp_put oi (fun cs b=>J5 i oi cs b hi) a oj.dst u h3) (wanted_put oi a oj.dst u h3)) (fun a d hy=>hy.of_same rfl rfl) hy h1
   have Jd:∀k ok,ops[k]? =some ok→k≠i→(listed.setIfInBounds j true).getD k true=false→
     (∀e∈ok.after,Region.binds .any e=true→e.on≠i)→oi.apart ops ok=true:=fun k ok hk S9 JK ew=>by
    refine GS k ok hk S9 ?_ ew
    by_cases OF:j=k
    ·subst OF;exact L5
    ·rw[getD_set_ne true OF] at JK;exact JK
   refine wpOpIn_mono (fun a' w' h3=>?_) h2
   obtain⟨h4,h5,h6⟩:=h3
   rw[Array.setIfInBounds_comm _ _ (Ne.symm j5)] at h5 h6
   have h7:=(hS _ _).1 h5
   exact⟨h7,ih (listed.setIfInBounds j true) a' w' (oZ.ready hj) Jd (ready_mono hr (Ne.symm j5)) h4 h7 h6⟩
abbrev Wt:=World×(Nat→Prop)×Nat
def cm (late:List Nat) (listed:Array Bool):Bool:=late.any fun j=>listed.getD j false
def uq (k:Wt) (late:List Nat) (listed:Array Bool) (w:World):Prop:=cm late listed=false→∀b,k.2.1 b→b<k.1.heap.size∧w.heap[b]? =k.1.heap[b]?
def Gs (g' g:au):Prop:=g'.ro=g.ro∧g'.B=g.B∧g'.w0=g.w0
def ur (g:au) (k:Wt) (late:List Nat) (listed:Array Bool):au:={g with wt:=if cm late listed=true then none else some k}
def bR (n:Nat):List Nat→Array Bool
 |[]=>Array.replicate n false
 |i::done=>(bR n done).setIfInBounds i true
theorem pY {late:List Nat} {i:Nat} (h:late.contains i=false) (listed:Array Bool):cm late (listed.setIfInBounds i true)=cm late listed:=by
 unfold cm
 induction late with
 |nil=>rfl
 |cons j late ih=>
  simp only[List.contains_cons,Bool.or_eq_false_iff] at h
  have o_:i≠j:=by simpa using h.1
  simp only[List.any_cons]
  rw[getD_set_ne false o_,ih h.2]
theorem oh {late:List Nat} {i:Nat} {listed:Array Bool} (h:cm late listed=true):cm late (listed.setIfInBounds i true)=true:=by
 unfold cm at*
 rw[List.any_eq_true] at*
 obtain⟨j,h1,h2⟩:=h
 exact⟨j,h1,getD_set_true h2⟩
theorem Rel.FN (r:Rel g δ κ a w) {wt':Option Wt} (h:∀k,wt'=some k→(∀b,k.2.1 b→b<k.1.heap.size∧w.heap[b]? =k.1.heap[b]?)∧∀i b,δ.live i→(δ.lr i∨k.2.2≤i)→κ i=some b→¬k.2.1 b) (hF:∀k,wt'=some k→∀b,κ.Fs b→¬k.2.1 b):Rel {g with wt:=wt'} δ κ a w:=
 {n:=r.n,dfr:=r.dfr,env:=r.env,obj:=r.obj,inj:=r.inj,lo:=r.lo,nx:=r.nx,wt:=h,below:=r.below,hB:=r.hB,N0:=r.N0,mkf:=r.mkf
  fr:=⟨r.fr.1,fun i b hb=>let ⟨h1,h2⟩:=r.fr.2 i b hb;⟨⟨h1.1,fun k hk=>hF k hk b ⟨i,hb⟩⟩,h2⟩⟩}
theorem vY {k:Wt} {late:List Nat} {listed:Array Bool} (i:Nat) (r:Rel (ur g k late listed) δ κ a w):Rel (ur g k late (listed.setIfInBounds i true)) δ κ a w:=by
 have hk:∀k',(if cm late (listed.setIfInBounds i true)=true then none else some k)=some k'→(ur g k late listed).wt=some k':=fun k' hk'=>by
  by_cases h:cm late (listed.setIfInBounds i true)=true
  ·rw[if_pos h] at hk';cases hk'
  ·rw[if_neg h] at hk'
   cases hk'
   show(if cm late listed=true then none else some k)=some k
   rw[if_neg (fun h'=>h (oh h'))]
 exact Rel.FN (g:=ur g k late listed) r (wt':=if cm late (listed.setIfInBounds i true)=true then none else some k) (fun k' hk'=>r.wt k' (hk k' hk')) (fun k' hk' b ⟨j,hj⟩=>(r.fr.2 j b hj).1.2 k' (hk k' hk'))
theorem Hq {k:Wt} {late:List Nat} {listed:Array Bool} (r:Rel (ur g k late listed) δ κ a w):uq k late listed w:=by
 intro h
 refine(r.wt k ?_).1
 show(if cm late listed=true then none else some k)=some k
 rw[if_neg (by simp [h])]
theorem Ct {k:Wt} {late:List Nat} {listed:Array Bool} (du:g.wt=none) (r:Rel (ur g k late listed) δ κ a w):Rel g δ κ a w:=by
 have:=Rel.FN r (wt':=none) (fun k hk=>by cases hk) (fun k hk=>by cases hk)
 cases g
 cases du
 exact this
def ed (f:DS→Prop):Exit→DS→Prop
 |.normal,δ=>f δ
 |_,_=>False
theorem E3 {f:DS→Prop} (h:f δ):ed f .normal δ:=h
def lC (g:au) (Q:Exit→DS→Prop):Exit→Act→World→Prop
 |.normal,a,w=>lift g Q .normal a w
 |.panic c,a,w=>∃δ κ,Q (.panic c) δ∧(∀j,j<HS→δ.get j=.any)∧Rel {g with wt:=none} δ κ a w
 |_,_,_=>False
theorem sq {g:au} {Q:Exit→DS→Prop} {c:List PanicEntry} {a:Act} {w:World} {d:Option Nat} {v:Value} (h:lC g Q (.panic c) (a.put d v) w):lC g Q (.panic c) a w:=by
 obtain⟨δ,κ,h1,h2,r⟩:=h
 refine⟨δ,κ,h1,h2,?_⟩
 exact
  {n:=by have:=r.n;cases d<;>simpa [Act.put] using this
   dfr:=by have:=r.dfr;cases d<;>exact this
   env:=fun j=>by
    by_cases hj:j<HS
    ·rw[h2 j hj];exact .any _
    ·have:=r.env j
     have e:∀b:Act,au.val {g with wt:=none} b j=g.held j:=fun b=>by unfold au.val;rw[if_neg hj]
     rw[e] at this
     rw[e]
     exact this
   obj:=r.obj,inj:=r.inj,lo:=r.lo,nx:=r.nx,wt:=r.wt,below:=r.below,hB:=r.hB,N0:=r.N0,fr:=r.fr
   mkf:=by have:=r.mkf;cases d<;>exact this}
def AR (P:Program) (g:au) (k:Wt) (late:List Nat) (l:List Oper) (Q:Exit→DS→Prop) (done:List Nat) (δ:DS):Prop:=
 DC l.toArray (bR l.length done)→∀κ a w,Rel (ur g k late (bR l.length done)) δ κ a w→iL g.ro P l.toArray (lC g Q) (uq k late) (l.length - done.length) (bR l.length done) a w
def fZ (l:List Oper) (done rs:List Nat):Bool:=Region.ready .any l.toArray (bR l.length done)==rs
variable {k:Wt} {late:List Nat} {l:List Oper} {dn:List Nat} {QD:Exit→DS→Prop}
theorem AR.done (du:g.wt=none) (hr:fZ l dn []=true) (h:QD .normal δ):AR P g k late l QD dn δ:=by
 intro _ κ a w r
 have hr':Region.ready .any l.toArray (bR l.length dn)=[]:=by simpa [fZ] using hr
 have hp:lC g QD .normal a w:=⟨δ,κ,h,Ct du r⟩
 cases l.length - dn.length with
 |zero=>exact⟨hr',hp⟩
 |succ n=>exact⟨fun _=>hp,by rw[hr'];simp⟩
theorem AR.all {rs:List Nat} (hl:Nat.blt dn.length l.length=true) (hr:fZ l dn rs=true) (bx:rs≠ []) (h:∀i∈rs,∃o,l[i]? =some o∧
  aa .plain P (ur g k late (bR l.length (i::dn))) l.toArray [o] (ed (AR P g k late l QD (i::dn))) δ):AR P g k late l QD dn δ:=by
 intro oZ κ a w r
 have hr':Region.ready .any l.toArray (bR l.length dn)=rs:=by simpa [fZ] using hr
 have hl':dn.length<l.length:=by simpa using hl
 obtain⟨n,hn⟩:∃n,l.length - dn.length=n+1:=⟨l.length - dn.length - 1,by omega⟩
 rw[hn]
 refine⟨fun h0=>absurd (hr'▸h0) bx,fun i hi=>?_⟩
 have hi':=hi
 rw[hr'] at hi
 obtain⟨o,ho,hA⟩:=h i hi
 have ho':l.toArray[i]? =some o:=by simpa using ho
 have h1:=hA κ a w (vY i r)
 have Jj:DC l.toArray (bR l.length (i::dn)):=oZ.ready hi'
 have ql:∀a' w',lift (ur g k late (bR l.length (i::dn))) (ed (AR P g k late l QD (i::dn))) .normal a' w'→
   uq k late ((bR l.length dn).setIfInBounds i true) w'∧iL g.ro P l.toArray (lC g QD) (uq k late) n ((bR l.length dn).setIfInBounds i true) a' w':=by
  rintro a' w' ⟨δ',κ',h2,r2⟩
  refine⟨Hq r2,?_⟩
  have h3:=h2 Jj κ' a' w' r2
  have e1:l.length - (i::dn).length=n:=by simp;omega
  rw[e1] at h3
  exact h3
 have hA':wpListIn (Fw g.ro) 0 P l.toArray (lift (ur g k late (bR l.length (i::dn))) (ed (AR P g k late l QD (i::dn)))) [o] a w:=h1
 unfold wpListIn at hA'
 unfold wpOpIn
 simp only[ho']
 have ew:∀e a w,lift (ur g k late (bR l.length (i::dn))) (ed (AR P g k late l QD (i::dn))) e a w→e=.normal:=by
  rintro e a w ⟨δ',κ',h2,_⟩
  cases e<;>first|rfl|exact h2.elim
 split
 ·rename_i hw
  rw[if_pos hw] at hA'
  obtain⟨h2,h3⟩:=hA'
  refine⟨h2,?_⟩
  revert h3
  generalize (o.semAt (Fw g.ro).round a.eval).run P w=res
  intro h3
  cases res with
  |ok x w'=>
   cases x<;>simp only[Oper.uponIn] at h3 ⊢
   case value u=>exact ql _ _ h3
   case skip=>exact ql _ _ h3
   case defer d=>exact ql _ _ h3
   case enter f args=>
    refine⟨h3.1,CallsIn.mono h3.2 fun e w'' he=>?_⟩
    cases e with
    |returned u=>exact ql _ _ he
    |panicked c=>exact absurd (ew _ _ _ he) (by simp)
    |outgrown=>
     exfalso
     obtain⟨a2,w2,he⟩:=he
     have:=ew _ _ _ he
     cases this
   case row row args=>exact⟨h3.1,RowsIn.mono h3.2 fun u w'' he=>ql _ _ he⟩
   case round l' f tmps assign body=>
    refine⟨h3.1,RoundIn.mono h3.2 fun e w'' he=>?_⟩
    cases e with
    |returned u=>exact ql _ _ he
    |panicked c=>exact absurd (ew _ _ _ he) (by simp)
    |outgrown=>
     exfalso
     obtain⟨a2,w2,he⟩:=he
     have:=ew _ _ _ he
     cases this
  |halt x w'=>
   cases x<;>simp only[Oper.uponIn] at h3 ⊢
   case panic u=>exact absurd (ew _ _ _ h3) (by simp)
 ·rename_i hw
  rw[if_neg hw] at hA'
  exact⟨hA'.1,ql _ _ hA'.2⟩
theorem AR.bX {i:Nat} {o:Oper} (hl:Nat.blt dn.length l.length=true) (hr:fZ l dn [i]=true) (ho:l[i]? =some o)
  (h:∀g':au,Gs g' g→(∀j,k.2.2≤j→g'.iI j)→aa .plain P g' l.toArray [o] (ed (AR P g k late l QD (i::dn))) δ):AR P g k late l QD dn δ:=
 AR.all hl hr (by simp) fun i' hi'=>by
  simp only[List.mem_singleton] at hi'
  subst hi'
  refine⟨o,ho,h _ ⟨rfl,rfl,rfl⟩ fun j hj k' hk'=>?_⟩
  have:(if cm late (bR l.length (i'::dn))=true then none else some k)=some k':=hk'
  split at this
  ·cases this
  ·cases this;exact hj
theorem AR.pI {i:Nat} {o:Oper} (hl:Nat.blt dn.length l.length=true) (hr:fZ l dn [i]=true) (ho:l[i]? =some o) (aM:cm late (bR l.length (i::dn))=true)
  (h:∀g':au,Gs g' g→g'.wt=none→aa .plain P g' l.toArray [o] (ed (AR P g k late l QD (i::dn))) δ):AR P g k late l QD dn δ:=
 AR.all hl hr (by simp) fun i' hi'=>by
  simp only[List.mem_singleton] at hi'
  subst hi'
  exact⟨o,ho,h _ ⟨rfl,rfl,rfl⟩ (if_pos aM)⟩
theorem AR.lD {i j:Nat} {o p:Oper} (hl:Nat.blt dn.length l.length=true) (hr:fZ l dn [i,j]=true) (ho:l[i]? =some o) (hp:l[j]? =some p)
  (h:∀g':au,Gs g' g→(∀j,k.2.2≤j→g'.iI j)→aa .plain P g' l.toArray [o] (ed (AR P g k late l QD (i::dn))) δ)
  (h':∀g':au,Gs g' g→(∀j,k.2.2≤j→g'.iI j)→aa .plain P g' l.toArray [p] (ed (AR P g k late l QD (j::dn))) δ):AR P g k late l QD dn δ:=
 AR.all hl hr (by simp) fun i' hi'=>by
  have hw:∀i',∀j,k.2.2≤j→(ur g k late (bR l.length (i'::dn))).iI j:=by
   intro i' j hj k' hk'
   have:(if cm late (bR l.length (i'::dn))=true then none else some k)=some k':=hk'
   split at this
   ·cases this
   ·cases this;exact hj
  simp only[List.mem_cons,List.not_mem_nil,or_false] at hi'
  rcases hi' with rfl|rfl
  ·exact⟨o,ho,h _ ⟨rfl,rfl,rfl⟩ (hw _)⟩
  ·exact⟨p,hp,h' _ ⟨rfl,rfl,rfl⟩ (hw _)⟩
def bq (P:Program) (o:Oper) (δ:DS) (v:AV):Prop:=∀(g:au) κ a w,Rel g δ κ a w→∃u,(∀w',(execOp a.eval o).run P w'=.ok (.value u) w')∧RA (δ.cx g κ) w u v
def qm (l:List Oper) (late dn:List Nat) (i:Nat):Bool:=
 Region.noSelect l.toArray && l.all dQ && (Region.ready .any l.toArray (bR l.length dn)).contains i && Region.free .any l.toArray (bR l.length dn) i && !late.contains i && Nat.blt dn.length l.length
theorem AR.free (i:Nat) {o:Oper} {v:AV} (hB:qm l late dn i=true) (ho:l[i]? =some o) (hg:o.guard=none) (hd:bn δ.n o.dst=true) (hF:bq P o δ v) (h:AR P g k late l QD (i::dn) (δ.aw o.dst v)):AR P g k late l QD dn δ:=by
 intro oZ κ a w r
 simp only[qm,Bool.and_eq_true,Bool.not_eq_true'] at hB
 obtain⟨⟨⟨⟨⟨hs,dB⟩,hr⟩,hf⟩,IL⟩,hl⟩:=hB
 have hl':dn.length<l.length:=by simpa using hl
 obtain⟨n,hn⟩:∃n,l.length - dn.length=n+1:=⟨l.length - dn.length - 1,by omega⟩
 obtain⟨u,hu,ng⟩:=hF _ κ a w r
 have hr':i∈Region.ready .any l.toArray (bR l.length dn):=by simpa using hr
 have ho':l.toArray[i]? =some o:=by simpa using ho
 have Jj:DC l.toArray (bR l.length (i::dn)):=oZ.ready hr'
 have r2:Rel (ur g k late (bR l.length (i::dn))) (δ.aw o.dst v) κ (a.put o.dst u) w:=(vY i r).aw (aS hd) ng
 have h2:=h Jj κ _ w r2
 have e1:l.length - (i::dn).length=n:=by simp;omega
 rw[e1] at h2
 rw[hn]
 refine mK (C:=fun _=>True) ho' (Region.noSelect_spec hs) (fun j o hj=>?_) (fun c a w h=>sq h) (fun _ _ _ _ _=>trivial) (fun listed w=>?_) n _ a w oZ (Region.free_spec ho' hf) hr' (.inl ⟨by simp [Region.wanted,hg],fun w' _=>hu w'⟩) (Hq r) h2
 ·exact(List.all_eq_true.1 dB) o (List.mem_of_getElem? (by simpa using hj))
 ·unfold uq;rw[pY IL]
def jQ (ops:Array Oper) (i:Nat):Nat→Nat→Bool
 |0,_=>false
 |n+1,j=>match ops[j]? with
  |some o=>o.after.any fun e=>Region.binds .any e && (e.on==i||jQ ops i n e.on)
  |none=>false
theorem vL {ops:Array Oper} {i:Nat} {listed:Array Bool} (oZ:DC ops listed):∀n j,jQ ops i n j=true→listed.getD j false=true→listed.getD i false=true:=by
 intro n
 induction n with
 |zero=>intro j h;simp [jQ] at h
 |succ n ih=>
  intro j h hj
  unfold jQ at h
  cases ho:ops[j]? with
  |none=>rw[ho] at h;cases h
  |some o=>
   rw[ho] at h
   simp only at h
   obtain⟨e,he,hb⟩:=Array.any_eq_true'.1 h
   simp only[Bool.and_eq_true,Bool.or_eq_true,beq_iff_eq] at hb
   have h1:=oZ j o ho hj e he hb.1
   rcases hb.2 with h2|h2
   ·rw[← h2];exact h1
   ·exact ih _ h2 h1
def nv (l:List Oper) (late:List Nat):List Nat→List Nat→Bool
 |[],_=>true
 |i::r,dn=>qm l late dn i && late.all (jQ l.toArray i l.length) && nv l late r (i::dn)
def pick (l:List Oper) (is:List Nat):List Oper:=is.filterMap (l[·]?)
theorem Cp {κ1:Kp} {w1:World} {k:Wt} {δ0:DS} (hk1:k.1=w1) (hk2:k.2.1=fun b=>b<w1.heap.size∧((∀i,δ0.lr i→κ1 i≠some b)∧¬κ1.Fs b)) {post:Act→Prop} {N:Nat}:
  ∀(l1 dn:List Nat) (a:Act),nv l late l1 dn=true→DC l.toArray (bR l.length dn)→uq k late (bR l.length dn) w1→qn P l.toArray (fm δ0 κ1 w1) post (pick l l1) a→
   (∀a',post a'→DC l.toArray (bR l.length (l1.reverse++dn))→iL ro P l.toArray (lC g QD) (uq k late) N (bR l.length (l1.reverse++dn)) a' w1)→iL ro P l.toArray (lC g QD) (uq k late) (l1.length+N) (bR l.length dn) a w1:=by
 intro l1
 induction l1 with
 |nil=>intro dn a _ oZ _ h hp;simpa using hp a h oZ
 |cons i r ih=>
  intro dn a hB oZ hS h hp
  simp only[nv,qm,Bool.and_eq_true,Bool.not_eq_true'] at hB
  obtain⟨⟨⟨⟨⟨⟨⟨hs,dB⟩,hr⟩,hf⟩,IL⟩,hl⟩,LG⟩,Kb⟩:=hB
  have hr':i∈Region.ready .any l.toArray (bR l.length dn):=by simpa using hr
  obtain⟨_,o,ho',_⟩:=mem_ready.1 hr'
  have ho:l[i]? =some o:=by simpa using ho'
  have R8:pick l (i::r)=o::pick l r:=by simp [pick,ho]
  rw[R8] at h
  obtain⟨v,hy,h⟩:=h
  have gR:∀listed w,uq k late (listed.setIfInBounds i true) w↔uq k late listed w:=fun listed w=>by unfold uq;rw[pY IL]
  have O6:(i::r).length+N=(r.length+N)+1:=by simp;omega
  rw[O6]
  refine mK (C:=fm δ0 κ1 w1) ho' (Region.noSelect_spec hs) (fun j o hj=>?_) (fun c a w h=>sq h) (fun listed w hd hi hSl=>?_) gR _ _ a w1 oZ (Region.free_spec ho' hf) hr' hy hS ?_
  ·exact(List.all_eq_true.1 dB) o (List.mem_of_getElem? (by simpa using hj))
  ·have ew:cm late listed=false:=by
    unfold cm
    rw[List.any_eq_false]
    intro j hj kL
    have h1:=vL hd _ _ ((List.all_eq_true.1 LG) j hj) kL
    rcases Nat.lt_or_ge i listed.size with h'|h'
    ·simp [h'] at hi h1;rw[hi] at h1;cases h1
    ·simp [Array.getElem?_eq_none h'] at h1
   have h2:=hSl ew
   rw[hk1,hk2] at h2
   exact fun b hb hn=>(h2 b ⟨hb,hn⟩).2
  ·have:=ih (i::dn) (a.put o.dst v) Kb (oZ.ready hr') ((gR _ _).2 hS) h
   refine this fun a' ha' hd'=>?_
   have e:(i::r).reverse++dn=r.reverse++i::dn:=by simp
   rw[← e]
   exact hp a' ha' (by rw[e];exact hd')
theorem DC.start (l:List Oper):DC l.toArray (bR l.length []):=by
 intro j o _ hj
 have:(Array.replicate l.length false).getD j false=true:=hj
 simp [Array.getElem?_replicate] at this
 split at this<;>cases this
theorem AW.tN {id:Nat} (l1:List Nat) (late:List Nat) {l:List Oper} (hm:P.follows .mixedOrders=true) (du:g.wt=none) (hB:nv l late l1 []=true) (hle:Nat.ble l1.length l.length=true)
  (h:aa .held P g l.toArray (pick l l1) (ed fun δ'=>∀k:Wt,k.2.2=δ.nx→AR P g k late l QD l1.reverse δ') δ):AW P g (.region id l.toArray true) QD δ:=by
 intro κ a w r
 have zK:l1.length≤l.length:=by simpa using hle
 have r1:Rel g δ κ a {w with drawn:=w.drawn+1}:=r.ext (Below.drew (Below.refl _ _))
 have h1:=h κ a _ r1
 obtain⟨k,hk⟩:∃k:Wt,k=({w with drawn:=w.drawn+1},(fun b=>b<w.heap.size∧((∀i,δ.lr i→κ i≠some b)∧¬κ.Fs b)),δ.nx):=⟨_,rfl⟩
 refine wpIn_mono (Q:=lC g QD) (wpIn_region_any hm (pW (S:=uq k late) _ _ _ _ ?_)) (fun e a w h=>by
  cases e with
  |normal=>exact h
  |panic c=>
   obtain⟨δ',κ',h1,_,r'⟩:=h
   have e:({g with wt:=none}:au)=g:=by cases g;cases du;rfl
   rw[e] at r'
   exact⟨δ',κ',h1,r'⟩
  |_=>exact h.elim)
 have hk0:uq k late (bR l.length []) {w with drawn:=w.drawn+1}:=fun _ b hb=>by subst hk;exact⟨hb.1,rfl⟩
 have h2:=Cp (ro:=g.ro) (g:=g) (QD:=QD) (late:=late) (l:=l) (P:=P) (δ0:=δ) (κ1:=κ) (w1:={w with drawn:=w.drawn+1}) (k:=k) (by rw[hk]) (by rw[hk]) (N:=l.length - l1.length) l1 [] a hB (DC.start l) hk0 h1 (fun a' ha' hd'=>by
  obtain⟨δ',hq,Au,r2⟩:=ha'
  have h3:=hq k (by rw[hk]) (by simpa using hd') κ a' {w with drawn:=w.drawn+1} (by
   have dJ:∀i,δ'.ob i=δ.ob i:=fun i=>by unfold DS.ob;rw[Au]
   refine Rel.FN r2 (wt':=if cm late (bR l.length l1.reverse)=true then none else some k) (fun k' hk'=>?_) (fun k' hk' b hb rN=>?_)
   rotate_left
   ·split at hk'
    ·cases hk'
    ·cases hk'
     subst hk
     exact rN.2.2 hb
   split at hk'
   ·cases hk'
   ·cases hk'
    subst hk
    refine⟨fun b hb=>⟨hb.1,rfl⟩,fun i b wk pH hκ hb=>?_⟩
    rcases pH with pH|pH
    ·exact hb.2.1 i (by have:δ'.ob i=some .row:=pH;rw[dJ] at this;exact this) hκ
    ·obtain⟨o,wk⟩:=wk
     rw[dJ] at wk
     exact absurd (r.nx i ⟨o,wk⟩) (Nat.not_lt.2 pH))
  simpa using h3)
 have e:l1.length+(l.length - l1.length)=l.toArray.size:=by simp;omega
 rw[e] at h2
 have e2:bR l.length []=Array.replicate l.toArray.size false:=by simp [bR]
 rw[e2] at h2
 exact h2
end Go.Ab
/- Maps with whole numbers as keys:read,grown,written. -/
namespace Go.Ab
open Go Go.RowKit
variable {q:Md} {P:Program} {g:au} {δ:DS} {κ:Kp} {a:Act} {w:World}
variable {gd:Option (Tmp×Bool)} {ops:Array Oper} {rest:List Oper} {Q:Exit→DS→Prop} {dst:Option Nat} {ty:TypeId} {pos:String} {af:Array Edge}
def eb:List (Int×AV)→Int→Option AV
 |[],_=>none
 |(k,v)::l,m=>if m=k then some v else eb l m
def eg (l:List (Int×AV)):List (Value×AV):=l.map fun p=>(.int .i64 p.1,p.2)
def gn (xs:List Int):List (Int×AV):=xs.map fun x=>(x,aF true)
theorem sA (xs:List Int) (m:Int):eb (gn xs) m=if m∈xs then some (aF true) else none:=by
 induction xs with
 |nil=>rfl
 |cons x xs ih=>
  show(if m=x then some (aF true) else eb (gn xs) m)=_
  by_cases h:m=x
  ·simp [h]
  ·simp [h,ih]
theorem jA {C:Cx} {w:World} (m:Int):∀(es:List MapEntry) (l:List (Int×AV)) (i:Nat),es.length=l.length→
  (∀(j:Nat) (e:MapEntry) (p:Int×AV),es[j]? =some e→l[j]? =some p→e.key=.int .i64 p.1∧RA C w e.val p.2)→
  (eb l m=none∧Instr.findNow (.int .i64) (.int .i64 m) es i=some none)∨
  (∃(j:Nat) (e:MapEntry) (v:AV),eb l m=some v∧Instr.findNow (.int .i64) (.int .i64 m) es i=some (some (i+j,e.val))∧es[j]? =some e∧l[j]? =some (m,v)∧RA C w e.val v):=by
 intro es
 induction es with
 |nil=>intro l i hs _;have:l=[]:=List.eq_nil_of_length_eq_zero hs.symm;subst this;exact .inl ⟨rfl,rfl⟩
 |cons e es ih=>
  intro l i hs h
  cases l with
  |nil=>simp at hs
  |cons p l=>
   obtain⟨k,v⟩:=p
   have h0:=h 0 e (k,v) rfl rfl
   by_cases hk:m=k
   ·subst hk
    refine .inr ⟨0,e,v,by simp [eb],?_,rfl,rfl,h0.2⟩
    simp [Instr.findNow,h0.1,Instr.sameNow]
   ·have hf:Instr.findNow (.int .i64) (.int .i64 m) (e::es) i=Instr.findNow (.int .i64) (.int .i64 m) es (i+1):=by
     have hb:(m==k)=false:=by simp [hk]
     simp [Instr.findNow,h0.1,Instr.sameNow,hb]
    rcases ih l (i+1) (by simpa using hs) (fun j e p h1 h2=>h (j+1) e p (by simpa using h1) (by simpa using h2)) with ⟨h1,h2⟩|⟨j,e',v',h1,h2,h3,h4,h5⟩
    ·exact .inl ⟨by simp [eb,hk,h1],hf.trans h2⟩
    ·exact .inr ⟨j+1,e',v',by simp [eb,hk,h1],by rw[hf,h2];simp;omega,by simpa using h3,by simpa using h4,h5⟩
theorem Rel.MV (r:Rel g δ κ a w) {u:Value} {i:Nat} {l:List (Value×AV)} (h:RA (δ.cx g κ) w u (.mapr i)) (ho:δ.ob i=some (.mp l)):
  ∃b es clock,u=.map (some b)∧κ i=some b∧w.heap[b]? =some (.map es clock)∧gB (δ.cx g κ) w es l∧kq es clock∧∀p∈l,p.2.eS=true:=by
 cases h with
 | @mapr _ b hl hκ=>
  obtain⟨b',es,clock,h1,h2,h3,h4⟩:=r.obj i _ ho
  have:b'=b:=Option.some.inj (h1.symm.trans hκ)
  subst this
  exact⟨b',es,clock,rfl,h1,h2,h3,h4⟩
theorem gB.eg {C:Cx} {w:World} {es:Array MapEntry} {l:List (Int×AV)} (h:gB C w es (eg l)):
  es.toList.length=l.length∧∀(j:Nat) (e:MapEntry) (p:Int×AV),es.toList[j]? =some e→l[j]? =some p→e.key=.int .i64 p.1∧RA C w e.val p.2:=by
 refine⟨by simpa [Ab.eg] using h.1,fun j e p h1 h2=>?_⟩
 exact h.2 j e (.int .i64 p.1,p.2) (by simpa using h1) (by simp [Ab.eg,h2])
theorem iv {kt:TypeId} {es:Array MapEntry} {m:Int} {x:Option (Nat×Value)} (hk:P.underlying kt=some (.int .i64)) (h:Instr.findNow (.int .i64) (.int .i64 m) es.toList 0=some x) (w:World):(Instr.findKey kt (.int .i64 m) es.toList).run P w=.ok x w:=MapKept.run_findKey hk h
theorem jy {t kt et:TypeId} {b:Nat} {es:Array MapEntry} {clock:Nat} {m:Int} {z:Value} {x:Option (Nat×Value)} {w:World} (ht:P.underlying t=some (.map kt et)) (hk:P.underlying kt=some (.int .i64)) (hz:(P.info? et).bind (·.zero)=some z)
  (hb:w.heap[b]? =some (.map es clock)) (h:Instr.findNow (.int .i64) (.int .i64 m) es.toList 0=some x) (ok:Bool):
  (Instr.lookup t (.map (some b)) (.int .i64 m) ok).run P w=.ok (if ok then .tuple #[(x.map (·.2)).getD z,.bool x.isSome] else (x.map (·.2)).getD z) w:=by
 have wg:∀w,(zeroValue et).run P w=.ok z w:=fun w=>by
  cases hi:P.info? et with
  |none=>rw[hi] at hz;simp at hz
  |some i=>rw[hi] at hz;simp at hz;simp [zeroValue,typeInfo,hi,hz]
 have y6:∀e,(Instr.checkKey e (9999+1) kt (.int .i64 m)).run P w=.ok () w:=fun e=>MapKept.run_checkKey hk (by simp [MapKept.IsKey]) e 9999
 cases x with
 |none=>simp [Instr.lookup,run_underlying ht,MapKept.run_getObj_map hb,y6,iv hk h,wg]
 |some p=>simp [Instr.lookup,run_underlying ht,MapKept.run_getObj_map hb,y6,iv hk h]
theorem aa.lookup {x y:Operand} {t kt et:TypeId} {i:Nat} {l:List (Int×AV)} {m:Int} {z:Value} {v:AV} (hx:δ.ev x=.mapr i) (dJ:δ.ob i=some (.mp (eg l))) (hy:δ.ev y=al m) (ht:P.underlying t=some (.map kt et)) (hk:P.underlying kt=some (.int .i64)) (hz:(P.info? et).bind (·.zero)=some z)
  (hv:(eb l m).getD (.pv (.lit z))=v) (ho:aK x=true) (ho':aK y=true) (hd:bn δ.n dst=true) (hK:aa q P g ops rest Q (δ.aw dst v)):aa q P g ops (⟨dst,.lookup t x y false,ty,pos,af,none⟩::rest) Q δ:=
 aa.dA _ hd (fun κ a w r=>by
  obtain⟨b,es,clock,h1,h2,h3,h4,h5,AP⟩:=r.MV (r.ra hx ho) dJ
  obtain⟨h6,h7⟩:=h4.eg
  have hb:∀w',fm δ κ w w'→w'.heap[b]? =some (.map es clock):=fun w' hw'=>(hw' b (da h3) (r.xg ⟨_,dJ,rfl⟩ h2)).trans h3
  subst hv
  rcases jA m es.toList l 0 h6 h7 with ⟨h8,h9⟩|⟨j,e,v',h8,h9,h10,h11,h12⟩
  ·refine⟨z,fun w' hw'=>?_,by rw[h8];exact .pv (.lit _)⟩
   have:=jy ht hk hz (hb w' hw') h9 false
   simp [execOp,r.lit hy ho',h1,this]
  ·refine⟨e.val,fun w' hw'=>?_,by rw[h8];exact h12⟩
   have:=jy ht hk hz (hb w' hw') h9 false
   simp [execOp,r.lit hy ho',h1,this]) hK
theorem aa.mh {x y:Operand} {t kt et:TypeId} {i:Nat} {xs:List Int} {m:Int} (hx:δ.ev x=.mapr i) (dJ:δ.ob i=some (.mp (eg (gn xs)))) (hy:δ.ev y=al m) (ht:P.underlying t=some (.map kt et)) (hk:P.underlying kt=some (.int .i64)) (hz:(P.info? et).bind (·.zero)=some (.bool false))
  (ho:aK x=true) (ho':aK y=true) (hd:bn δ.n dst=true) (hK:aa q P g ops rest Q (δ.aw dst (aF (decide (m∈xs))))):aa q P g ops (⟨dst,.lookup t x y false,ty,pos,af,none⟩::rest) Q δ:=
 aa.lookup hx dJ hy ht hk hz (by rw[sA];by_cases h:m∈xs<;>simp [h]) ho ho' hd hK
theorem dv.makeMap {t:TypeId} (hd:bn δ.n dst=true):dv P g ⟨dst,.makeMap t none,ty,pos,af,gd⟩ δ ((δ.bf (.mp (eg []))).aw dst (.mapr δ.nx)):=by
 intro κ a w r
 have aV:(execOp a.eval ⟨dst,.makeMap t none,ty,pos,af,gd⟩).run P w=.ok (.value (.map (some w.heap.size))) (w.alloc (.map #[] 0)):=by
  have h0:(Instr.makeMap t none).run P w=.ok (.map (some w.heap.size)) (w.alloc (.map #[] 0)):=rfl
  simp [execOp,h0]
 obtain⟨r',G⟩:=r.grow (.mp (eg [])) (.map #[] 0) (fun C G hκ=>⟨w.heap.size, #[],0,hκ,heap_alloc_new w _,⟨rfl,fun j e p h=>by simp at h⟩,⟨rfl,fun j e h=>by simp at h⟩,fun p h=>by simp [eg] at h⟩)
 refine .inl ⟨_,_,_,_,aV,.inl rfl,r'.aw (aS hd) ?_⟩
 exact .mapr ⟨_,by show(δ.bf _).ob _=_;rw[bt,if_pos rfl],rfl⟩ (by show cA _ _ _ _=_;simp [cA])
theorem aa.makeMap {t:TypeId} (hd:bn δ.n dst=true) (hK:aa .plain P g ops rest Q ((δ.bf (.mp (eg []))).aw dst (.mapr δ.nx))):aa .plain P g ops (⟨dst,.makeMap t none,ty,pos,af,none⟩::rest) Q δ:=aa.n9 rfl rfl (dv.makeMap hd) hK
theorem c7.pf (w:World) (b:Nat) (o:Obj):c7 w {w with heap:=w.heap.setIfInBounds b o} (some b):=
 ⟨rfl,rfl,rfl,by simp,fun k _ h=>by
  show(w.heap.setIfInBounds b o)[k]? =_
  rw[Array.getElem?_setIfInBounds,if_neg (fun e=>h (by rw[e]))]⟩
theorem gL {w:World} {b:Nat} {o o':Obj} (h:w.heap[b]? =some o):({w with heap:=w.heap.setIfInBounds b o'}:World).heap[b]? =some o':=(MapKept.heap_set h).1
theorem dR (l l':List (Int×AV)):eg (l++l')=eg l++eg l':=by simp [eg]
theorem gB.push {C:Cx} {w:World} {es:Array MapEntry} {l:List (Int×AV)} {clock:Nat} (h:gB C w es (Ab.eg l)) (hs:kq es clock) (m:Int) {u:Value} {v:AV} (hu:RA C w u v):
  gB C w (es.push {key:=.int .i64 m,val:=u,born:=clock}) (Ab.eg (l++ [(m,v)]))∧kq (es.push {key:=.int .i64 m,val:=u,born:=clock}) (clock+1):=by
 have jm:es.size=(Ab.eg l).length:=h.1
 refine⟨⟨by rw[dR];simp [jm,Ab.eg],fun j e p h1 h2=>?_⟩,by simp [hs.1],fun j e h1=>?_⟩
 ·rw[dR] at h2
  rw[Array.getElem?_push] at h1
  by_cases hj:j=es.size
  ·rw[if_pos hj] at h1
   cases h1
   rw[List.getElem?_append_right (by omega),hj,jm] at h2
   simp [Ab.eg] at h2
   subst h2
   exact⟨rfl,hu⟩
  ·rw[if_neg hj] at h1
   have aM:j<es.size:=(Array.getElem?_eq_some_iff.1 h1).1
   rw[List.getElem?_append_left (by omega)] at h2
   exact h.2 j e p h1 h2
 ·rw[Array.getElem?_push] at h1
  by_cases hj:j=es.size
  ·rw[if_pos hj] at h1;cases h1;rw[hs.1,hj]
  ·rw[if_neg hj] at h1;exact hs.2 j e h1
theorem dv.ju {x y:Operand} {t kt et:TypeId} {i:Nat} {l:List (Int×AV)} {m:Int} {z:Value} (hx:δ.ev x=.mapr i) (dJ:δ.ob i=some (.mp (eg l))) (hy:δ.ev y=al m) (hn:eb l m=none) (ht:P.underlying t=some (.map kt et)) (hk:P.underlying kt=some (.int .i64)) (hz:(P.info? et).bind (·.zero)=some z)
  (ho:aK x=true) (ho':aK y=true) (hd:bn δ.n dst=true) (zM:g.iI i):
  dv P g ⟨dst,.mapEntry t x y,ty,pos,af,gd⟩ δ ((δ.bB i (some (.mp (eg (l++ [(m,.pv (.lit z))]))))).aw dst (.tup [.pv (.lit z),al l.length])):=by
 intro κ a w r
 obtain⟨b,es,clock,h1,h2,h3,h4,h5,AP⟩:=r.MV (r.ra hx ho) dJ
 obtain⟨h6,h7⟩:=h4.eg
 have wg:∀w,(zeroValue et).run P w=.ok z w:=fun w=>by
  cases hi:P.info? et with
  |none=>rw[hi] at hz;simp at hz
  |some i=>rw[hi] at hz;simp at hz;simp [zeroValue,typeInfo,hi,hz]
 have y6:∀e,(Instr.checkKey e (9999+1) kt (.int .i64 m)).run P w=.ok () w:=fun e=>MapKept.run_checkKey hk (by simp [MapKept.IsKey]) e 9999
 have hf:Instr.findNow (.int .i64) (.int .i64 m) es.toList 0=some none:=by
  rcases jA m es.toList l 0 h6 h7 with ⟨h8,h9⟩|⟨j,e,v',h8,h9,h10,h11,h12⟩
  ·exact h9
  ·rw[hn] at h8;cases h8
 have aV:(execOp a.eval ⟨dst,.mapEntry t x y,ty,pos,af,gd⟩).run P w=.ok (.value (.tuple #[z,.int .i64 clock])) {w with heap:=w.heap.setIfInBounds b (.map (es.push {key:=.int .i64 m,val:=z,born:=clock}) (clock+1))}:=by
  simp [execOp,r.lit hy ho',h1,Instr.mapEntry,run_underlying ht,MapKept.run_getObj_map h3,y6,iv hk hf,wg,MapKept.run_setObj_map _ h3,goInt]
 have dq:(clock:Int)=(l.length:Int):=by
  have:es.size=l.length:=by simpa using h6
  rw[h5.1,this]
 obtain⟨r',G⟩:=r.modify (o':=.mp (eg (l++ [(m,.pv (.lit z))]))) dJ rfl rfl h2 zM (c7.pf w b (.map (es.push {key:=.int .i64 m,val:=z,born:=clock}) (clock+1))) (by simp) (fun C hC G=>by
  have h8:gB C {w with heap:=w.heap.setIfInBounds b (.map (es.push {key:=.int .i64 m,val:=z,born:=clock}) (clock+1))} es (eg l):=h4.fp G
  obtain⟨h9,h10⟩:=h8.push h5 m (u:=z) (v:=.pv (.lit z)) (.pv (.lit _))
  exact⟨b,_,_,by rw[hC];exact h2,gL h3,h9,h10,fun p hp=>by
   rw[dR] at hp
   rcases List.mem_append.1 hp with hp|hp
   ·exact AP p hp
   ·simp [eg] at hp;subst hp;rfl⟩)
 refine .inl ⟨_,_,_,_,aV,.inl rfl,r'.aw (aS hd) ?_⟩
 exact wC (.pv (.lit _)) (by rw[dq];exact .pv (.lit _))
theorem dv.oN {x y s:Operand} {t:TypeId} {i n:Nat} {l:List (Int×AV)} {m:Int} {v0 v:AV} (hx:δ.ev x=.mapr i) (dJ:δ.ob i=some (.mp (eg (l++ [(m,v0)])))) (hs:δ.ev s=al n) (hn:n=l.length) (hy:δ.ev y=v) (Fx:v.eS=true)
  (ho:aK x=true) (mD:aK s=true) (ho':aK y=true) (hd:bn δ.n dst=true) (zM:g.iI i):
  dv P g ⟨dst,.entryStore t x s y,ty,pos,af,gd⟩ δ ((δ.bB i (some (.mp (eg (l++ [(m,v)]))))).aw dst .any):=by
 intro κ a w r
 subst hn
 obtain⟨b,es,clock,h1,h2,h3,h4,h5,AP⟩:=r.MV (r.ra hx ho) dJ
 have sa:=r.ra hy ho'
 have jm:es.size=l.length+1:=by have:=h4.1;simpa [eg] using this
 have EE:es.findIdx? (fun e=>(e.born:Int)==(l.length:Int))=some l.length:=by
  rw[Array.findIdx?_eq_some_iff_getElem]
  refine⟨by omega,?_,fun j hj=>?_⟩
  ·have:=h5.2 l.length es[l.length] (Array.getElem?_eq_getElem (by omega))
   simp [this]
  ·have:=h5.2 j es[j] (Array.getElem?_eq_getElem (by omega))
   simp only[this]
   simp
   omega
 have aV:(execOp a.eval ⟨dst,.entryStore t x s y,ty,pos,af,gd⟩).run P w=.ok .skip {w with heap:=w.heap.setIfInBounds b (.map (es.modify l.length fun e=>{e with val:=a.eval y}) clock)}:=by
  have SV:∀w,(asInt (.int .i64 (l.length:Int))).run P w=.ok (l.length:Int) w:=fun _=>rfl
  simp only[execOp,r.lit hs mD,h1,Instr.entryStore,Sem.run_bind,MapKept.run_getObj_map h3,Result.andThen_ok,SV,EE,MapKept.run_setObj_map _ h3,Sem.run_pure]
 obtain⟨r',G⟩:=r.modify (o':=.mp (eg (l++ [(m,v)]))) dJ rfl rfl h2 zM (c7.pf w b (.map (es.modify l.length fun e=>{e with val:=a.eval y}) clock)) (by simp) (fun C hC G=>by
  refine⟨b,_,_,by rw[hC];exact h2,gL h3,⟨by simp [eg,jm],fun j e p h8 h9=>?_⟩,⟨by simp [h5.1],fun j e h8=>?_⟩,fun p hp=>?_⟩
  ·rw[Array.getElem?_modify] at h8
   rw[dR] at h9
   by_cases hj:l.length=j
   ·rw[if_pos hj] at h8
    subst hj
    rw[Option.map_eq_some_iff] at h8
    obtain⟨e0,h8,rfl⟩:=h8
    rw[List.getElem?_append_right (by simp [eg])] at h9
    simp [eg] at h9
    subst h9
    refine⟨?_,G.ra sa⟩
    exact(h4.2 l.length e0 (.int .i64 m,v0) h8 (by rw[dR,List.getElem?_append_right (by simp [eg])];simp [eg])).1
   ·rw[if_neg hj] at h8
    have aM:j<l.length:=by have:=(Array.getElem?_eq_some_iff.1 h8).1;omega
    rw[List.getElem?_append_left (by simpa [eg] using aM)] at h9
    obtain⟨h10,h11⟩:=h4.2 j e p h8 (by rw[dR,List.getElem?_append_left (by simpa [eg] using aM)];exact h9)
    exact⟨h10,G.ra h11⟩
  ·rw[Array.getElem?_modify] at h8
   by_cases hj:l.length=j
   ·rw[if_pos hj] at h8
    rw[Option.map_eq_some_iff] at h8
    obtain⟨e0,h8,rfl⟩:=h8
    exact h5.2 j e0 h8
   ·rw[if_neg hj] at h8;exact h5.2 j e h8
  ·rw[dR] at hp
   rcases List.mem_append.1 hp with hp|hp
   ·exact AP p (by rw[dR];exact List.mem_append.2 (.inl hp))
   ·simp [eg] at hp;subst hp;exact Fx)
 exact .inl ⟨_,_,_,_,aV,.inr ⟨rfl,rfl⟩,r'.aw (aS hd) (.any _)⟩
theorem vG (xs:List Int) (m:Int):gn (xs++ [m])=gn xs++ [(m,aF true)]:=by simp [gn]
end Go.Ab
namespace Go.Ab
section
variable {q:Md} {P:Program} {g:au} {δ:DS} {ops:Array Oper} {rest:List Oper} {Q:Exit→DS→Prop} {dst:Option Nat} {ty:TypeId} {pos:String} {af:Array Edge}
theorem aa.dT {fn:Go.Fn} {x:Operand} {i o:Nat} (hx:δ.ev x=.ptr i o) (ho:aK x=true) (hd:bn δ.n dst=true) (hK:aa q P g ops rest Q (δ.aw dst (.clo fn [] [.ptr i o]))):aa q P g ops (⟨dst,.makeFunc fn #[] #[x],ty,pos,af,none⟩::rest) Q δ:=
 aa.dA _ hd (fun κ a w r=>⟨.func fn #[] #[a.eval x],fun w' _=>by simp [execOp,Instr.makeFunc],.clo rfl (fun j u c h=>by simp at h) rfl (fun j u c h1 h2=>by
  match j with
  |0=>simp at h1 h2;subst h1;subst h2;exact r.ra hx ho
  |j+1=>simp at h2)⟩) hK
theorem aa.wx {fn:Go.Fn} {x:Operand} {i o:Nat} (hx:δ.ev x=.ptr i o) (ho:aK x=true) (hd:bn δ.n dst=true) (hK:aa q P g ops rest Q (δ.aw dst (.clo fn [.ptr i o] []))):aa q P g ops (⟨dst,.makeFunc fn #[x] #[],ty,pos,af,none⟩::rest) Q δ:=
 aa.dA _ hd (fun κ a w r=>⟨.func fn #[a.eval x] #[],fun w' _=>by simp [execOp,Instr.makeFunc],.clo rfl (fun j u c h1 h2=>by
  match j with
  |0=>simp at h1 h2;subst h1;subst h2;exact r.ra hx ho
  |j+1=>simp at h2) rfl (fun j u c h=>by simp at h)⟩) hK
theorem aa.dM {x:Operand} {fn:Go.Fn} {a b:List AV} (hx:δ.ev x=.clo fn a b) (ho:aK x=true) (hd:bn δ.n dst=true) (hK:aa q P g ops rest Q (δ.aw dst (.clo fn a b))):aa q P g ops (⟨dst,.move x,ty,pos,af,none⟩::rest) Q δ:=aa.move hx ho hd hK
end
end Go.Ab
namespace Go.Ab
section
variable {P:Program} {δ:DS} {dst:Option Nat} {ty:TypeId} {pos:String} {af:Array Edge} {gd:Option (Tmp×Bool)}
theorem bq.cU {x:Operand} {p:PV} (hx:δ.ev x=.pv p) (ho:aK x=true):bq P ⟨dst,.move x,ty,pos,af,gd⟩ δ (.pv p):=fun _ _ a _ r=>⟨a.eval x,fun _=>rfl,hx▸r.xj x (c_ ho)⟩
theorem bq.bc {x:Operand} {i o:Nat} (hx:δ.ev x=.ptr i o) (ho:aK x=true):bq P ⟨dst,.move x,ty,pos,af,gd⟩ δ (.ptr i o):=fun _ _ a _ r=>⟨a.eval x,fun _=>rfl,hx▸r.xj x (c_ ho)⟩
theorem bq.nilCheck {x:Operand} {i o:Nat} (hx:δ.ev x=.ptr i o) (ho:aK x=true):bq P ⟨dst,.nilCheck x,ty,pos,af,gd⟩ δ (.ptr i o):=fun _ _ a _ r=>by
 have h1:=r.ra hx ho
 generalize hu:a.eval x=u at h1
 cases h1 with
 |ptr hl hκ=>exact⟨_,fun w'=>by simp [execOp,hu],.ptr hl hκ⟩
end
section
variable {P:Program} {g:au} {δ:DS} {ops:Array Oper} {rest:List Oper} {Q:Exit→DS→Prop} {dst:Option Nat} {ty:TypeId} {pos:String} {af:Array Edge}
theorem aa.ju {x y:Operand} {t kt et:TypeId} {i:Nat} {xs:List Int} {m:Int} (hx:δ.ev x=.mapr i) (dJ:δ.ob i=some (.mp (eg (gn xs)))) (hy:δ.ev y=al m) (ht:P.underlying t=some (.map kt et)) (hk:P.underlying kt=some (.int .i64)) (hz:(P.info? et).bind (·.zero)=some (.bool false))
  (ho:aK x=true) (ho':aK y=true) (hd:bn δ.n dst=true) (du:g.wt=none) (hn:m∉xs)
  (hK:aa .plain P g ops rest Q ((δ.bB i (some (.mp (eg (gn xs++ [(m,aF false)]))))).aw dst (.tup [aF false,al xs.length]))):aa .plain P g ops (⟨dst,.mapEntry t x y,ty,pos,af,none⟩::rest) Q δ:=
 aa.n9 rfl rfl (dv.ju hx dJ hy (by rw[sA,if_neg hn]) ht hk hz ho ho' hd (eK du i)) (by simpa [gn] using hK)
theorem aa.qN {x y s:Operand} {t:TypeId} {i:Nat} {xs:List Int} {m:Int} (hx:δ.ev x=.mapr i) (dJ:δ.ob i=some (.mp (eg (gn xs++ [(m,aF false)])))) (hs:δ.ev s=al xs.length) (hy:δ.ev y=aF true)
  (ho:aK x=true) (mD:aK s=true) (ho':aK y=true) (hd:bn δ.n dst=true) (du:g.wt=none)
  (hK:aa .plain P g ops rest Q ((δ.bB i (some (.mp (eg (gn (xs++ [m])))))).aw dst .any)):aa .plain P g ops (⟨dst,.entryStore t x s y,ty,pos,af,none⟩::rest) Q δ:=
 aa.n9 rfl rfl (dv.oN (l:=gn xs) hx dJ hs (by simp [gn]) hy rfl ho mD ho' hd (eK du i)) (by rw[vG] at hK;exact hK)
end
end Go.Ab
/- Ranging over a function:the loop's code behind names. -/
namespace Go.Ab
open Go Go.RowKit
attribute [local irreducible] HS
variable {P:Program} {g:au} {δ:DS} {κ:Kp} {a:Act} {w:World}
variable {ops:Array Oper} {rest:List Oper} {Q:Exit→DS→Prop} {dst:Option Nat} {ty:TypeId} {pos:String} {af:Array Edge}
def xb (ps':Array Tmp) (asg' body':Code) (ps:List Tmp) (asg body:Code):Prop:=ps'=ps.toArray∧asg'=asg∧body'=body
theorem AW.xR {x:Operand} {ps:List Tmp} {asg body:Code} {f:FuncId} {first cap:List AV} {fn:Func} {c:Code} {n':Nat} (uh:g.ro=none) (du:g.wt=none) (hx:δ.ev x=.clo (.func f) first cap) (ho:aK x=true)
  (hf:P.funcs[f]? =some fn) (hb:fn.body=some c) (wM:fn.results= #[]) (hn:fn.ntmps=n') (hle:Nat.ble (first.length+1+cap.length) n'=true) (hnH:Nat.ble n' HS=true) (cp:Nat.ble δ.n HS=true) (he:(fn.name== "runtime.NumGoroutine")=false)
  (h:∀(g':au) (tm:Array Value) (l:Nat) (ps':Array Tmp) (asg' body':Code),xb ps' asg' body' ps asg body→g'.ro=none→g'.wt=none→(∀j,j<HS→g'.held (j+HS)=tm.getD j undef)→tm.size=δ.n→
   AW P g' c (bd δ.n δ.nx l Q) {n:=n',env:=enum 0 (first++ .yld δ.nx::cap)++cd δ.env,objs:=(δ.nx,some (.loop l tm ps' asg' body' .ready))::δ.objs,nx:=δ.nx+1}):
  AW P g (.rangeFunc x ps.toArray asg body) Q δ:=
 AW.rangeFunc uh du hx ho hf hb wM hn hle hnH cp he fun g' tm l h1 h2 h3 h4=>h g' tm l _ _ _ ⟨rfl,rfl,rfl⟩ h1 h2 h3 h4
theorem aa.HC {x:Operand} {ys:List Operand} {tys:Array TypeId} {i l n0:Nat} {tm:Array Value} {ps:List Tmp} {asg body:Code} {ps':Array Tmp} {asg' body':Code} (rW:xb ps' asg' body' ps asg body) (uh:g.ro=none) (du:g.wt=none) (oy:∀j,j<HS→g.held (j+HS)=tm.getD j undef) (Ax:tm.size=n0)
  (hn0:Nat.ble n0 HS=true)
  (hx:δ.ev x=.yld i) (dJ:δ.ob i=some (.loop l tm ps' asg' body' .ready)) (ho:aK x=true) (Ks:ys.all aK=true) (hlen:Nat.beq ys.length ps.length=true) (IA:ps.all (fun t=>Nat.blt t n0)=true) (hd':bn δ.n dst=true)
  (h:∀g':au,g'.ro=some l→g'.wt=none→AW P g' asg (bE (fun δ1=>ke δ1 i l .ready∧AW P g' body (n5 δ.n i l (fun b st δ2=>aa .plain P g ops rest Q ((δ2.jg i st).aw dst (aF b)))) (δ1.jg i .busy)) (fun _ _=>False)) (nE n0 ps (ys.map δ.ev) δ)):
  aa .plain P g ops (⟨dst,.call {callee:=.value x,args:=ys.toArray,argTypes:=tys},ty,pos,af,none⟩::rest) Q δ:=by
 obtain⟨rfl,rfl,rfl⟩:=rW
 exact aa.yield uh du oy Ax hn0 hx dJ ho Ks hlen IA hd' h
theorem q7 {n i l:Nat} {tm ps asg body} {e:Exit} (he:e=.normal∨e=.ret) (ho:δ.ob i=some (.loop l tm ps asg body .ready)) (h:Q .normal (fv n i δ)):bd n i l Q e δ:=by
 rcases he with rfl|rfl<;>(show yc l Q (fv n i δ) (δ.ob i);rw[ho];exact⟨rfl,h⟩)
theorem rS {n i l id:Nat} {tm ps asg body} {e:Exit} (he:e=.normal∨e=.ret) (ho:δ.ob i=some (.loop l tm ps asg body (.done (.exit id)))) (h:Q (.exit id) (fv n i δ)):bd n i l Q e δ:=by
 rcases he with rfl|rfl<;>(show yc l Q (fv n i δ) (δ.ob i);rw[ho];exact⟨rfl,h⟩)
end Go.Ab
/- Weakening:maps told as sets,loops. -/
namespace Go.Ab
open Go Go.RowKit
variable {δ δ':DS} {i:Nat}
theorem Cc {lr lb:Nat→Bool} (xs:List Int):∀p∈eg (gn xs),p.2.ids lr lb=true:=by
 intro p hp
 unfold eg gn at hp
 simp only[List.map_map,List.mem_map] at hp
 obtain⟨x,_,rfl⟩:=hp
 rfl
theorem WO.set {xs:List Int} (h:δ.ob i=some (.mp (eg (gn xs)))):WO δ δ' i (.mp (eg (gn xs))):=.mp h (Cc xs)
theorem WO.MC {xs ys:List Int} (h:δ.ob i=some (.mp (eg (gn xs)))) (e:xs=ys):WO δ δ' i (.mp (eg (gn ys))):=e▸ .set h
end Go.Ab
namespace Go.Ab
open Go Go.RowKit
section
variable {q:Md} {P:Program} {g:au} {δ:DS} {ops:Array Oper} {rest:List Oper} {Q:Exit→DS→Prop} {dst:Option Nat} {ty:TypeId} {pos:String} {af:Array Edge}
theorem aa.qj {α:Type} {x y:Operand} {t e e':TypeId} {i k:Nat} {m:Int} {f:α→List PV} {l:List α} (hx:δ.ev x=.own i e' k (l.map f)) (hy:δ.ev y=al m)
  (ht:P.underlying t=some (.slice e)) (hk:(P.info? e).map (·.size)=some k) (ho:aK x=true) (ho':aK y=true) (hd:bn δ.n dst=true) (h0:0≤m) (hn:m<l.length)
  (hK:aa q P g ops rest Q (δ.aw dst (.optr i e' k (l.map f) m.toNat))):aa q P g ops (⟨dst,.indexAddr t x y,ty,pos,af,none⟩::rest) Q δ:=
 aa.kW (n:=m.toNat) hx (by rw[hy];show al m=al _;rw[Int.toNat_of_nonneg h0]) (by simp;omega) ht hk ho ho' hd hK
theorem aa.aD {α:Type} {x:Operand} {t e:TypeId} {i:Nat} {m:Nat} {f:α→PV} {l:List α} (hx:δ.ev x=.optr i e 1 (l.map fun z=>[f z]) m) (ht:eu P t=true) (ho:aK x=true) (hd:bn δ.n dst=true) (hq:q≠ .held) (hn:m<l.length)
  (hK:aa q P g ops rest Q (δ.aw dst (.pv (f l[m])))):aa q P g ops (⟨dst,.load t x,ty,pos,af,none⟩::rest) Q δ:=
 aa.uU hq hx hn ht ho hd hK
end
end Go.Ab
/- States written out:laws by which a state's term is brought to its plain form. -/
namespace Go.Ab
open Go Go.RowKit
namespace Nf
variable {n x:Nat} {e:List (Nat×AV)} {o:List (Nat×Option Ob)}
theorem beq (i j:Nat):Nat.beq i j=(i==j):=by
 by_cases h:i=j
 ·subst h;simp
 ·rw[gA h];exact(beq_eq_false_iff_ne.2 h).symm
theorem ble (i j:Nat):Nat.ble i j=(i - j==0):=by
 by_cases h:i≤j
 ·have h1:Nat.ble i j=true:=by simpa using h
  have h2:i - j=0:=by omega
  rw[h1,h2];rfl
 ·have h1:Nat.ble i j=false:=by
   cases hh:Nat.ble i j with
   |false=>rfl
   |true=>exact absurd (by simpa using hh) h
  rw[h1];exact(beq_eq_false_iff_ne.2 (by omega)).symm
theorem hs:HS=1000:=rfl
theorem R9 {α:Type} (a b:α):(bif true then a else b)=a:=rfl
theorem RG {α:Type} (a b:α):(bif false then a else b)=b:=rfl
theorem put (d:Nat) (v:AV):DS.aw ⟨n,e,o,x⟩ (some d) v=⟨n,(d,v)::e,o,x⟩:=rfl
theorem PF (v:AV):DS.aw ⟨n,e,o,x⟩ none v=⟨n,e,o,x⟩:=rfl
theorem add (b:Ob):DS.bf ⟨n,e,o,x⟩ b=⟨n,e,(x,some b)::o,x+1⟩:=rfl
theorem set (i:Nat) (b:Option Ob):DS.bB ⟨n,e,o,x⟩ i b=⟨n,e,(i,b)::o,x⟩:=rfl
theorem pn:(DS.mk n e o x).n=n:=rfl
theorem pe:(DS.mk n e o x).env=e:=rfl
theorem po:(DS.mk n e o x).objs=o:=rfl
theorem px:(DS.mk n e o x).nx=x:=rfl
theorem Ov (t:Nat):DS.ev ⟨n,e,o,x⟩ (.tmp t)=look e t:=rfl
theorem Oj (v:Value):DS.ev ⟨n,e,o,x⟩ (.const v)=.pv (.lit v):=rfl
theorem NO (f:Nat):DS.ev ⟨n,e,o,x⟩ (.func f)=.clo (.func f) [] []:=rfl
theorem L4 (j:Nat):look [] j=.any:=rfl
theorem Mo (i j:Nat) (v:AV) (r:List (Nat×AV)):look ((i,v)::r) j=bif Nat.beq i j then v else look r j:=rfl
theorem start (args:List AV):start n args=⟨n,enum 0 args,[],0⟩:=rfl
theorem P9 (i:Nat):enum i []=[]:=rfl
theorem P5 (i:Nat) (v:AV) (r:List AV):enum i (v::r)=(i,v)::enum (i+1) r:=rfl
def th (e:List (Nat×AV)):List Operand→List AV
 |[]=>[]
 |.tmp t::r=>look e t::th e r
 |.const v::r=> .pv (.lit v)::th e r
 |.global _::r=> .any::th e r
 |.func f::r=> .clo (.func f) [] []::th e r
theorem nK:∀xs:List Operand,xs.map (DS.ev ⟨n,e,o,x⟩)=th e xs
 |[]=>rfl
 |.tmp t::r=>by simp only[List.map_cons,th,nK r];rfl
 |.const v::r=>by simp only[List.map_cons,th,nK r];rfl
 |.global v::r=>by simp only[List.map_cons,th,nK r];rfl
 |.func f::r=>by simp only[List.map_cons,th,nK r];rfl
theorem Ex (δ:DS) (xs:List Operand):xs.map δ.ev=th δ.env xs:=nK (n:=δ.n) (o:=δ.objs) (x:=δ.nx) xs
theorem OO:th e []=[]:=rfl
theorem J4 (t:Nat) (r:List Operand):th e (.tmp t::r)=look e t::th e r:=rfl
theorem K5 (v:Value) (r:List Operand):th e (.const v::r)=.pv (.lit v)::th e r:=rfl
theorem ME (f:Nat) (r:List Operand):th e (.func f::r)=.clo (.func f) [] []::th e r:=rfl
def av:List AV→List AV→List AV
 |[],m=>m
 |v::r,m=>v::av r m
theorem G8:∀l m:List AV,l++m=av l m
 |[],_=>rfl
 |v::r,m=>by rw[List.cons_append,G8 r m];rfl
theorem Rt (m:List AV):av [] m=m:=rfl
theorem Sz (v:AV) (r m:List AV):av (v::r) m=v::av r m:=rfl
def ae:List (Nat×AV)→List (Nat×AV)→List (Nat×AV)
 |[],m=>m
 |v::r,m=>v::ae r m
theorem BS:∀l m:List (Nat×AV),l++m=ae l m
 |[],_=>rfl
 |v::r,m=>by rw[List.cons_append,BS r m];rfl
theorem QZ (m:List (Nat×AV)):ae [] m=m:=rfl
theorem RQ (v:Nat×AV) (r m:List (Nat×AV)):ae (v::r) m=v::ae r m:=rfl
def sh:List (Nat×AV)→List (Nat×AV)
 |[]=>[]
 |(i,v)::r=>(i+HS,v)::sh r
theorem BU:∀l,cd l=sh l
 |[]=>rfl
 |(i,v)::r=>by show(i+HS,v)::cd r=_;rw[BU r];rfl
theorem SM:sh []=[]:=rfl
theorem R3 (i:Nat) (v:AV) (r:List (Nat×AV)):sh ((i,v)::r)=(i+1000,v)::sh r:=rfl
theorem Ri:c8 []=[]:=rfl
theorem Sf (i:Nat) (v:AV) (r:List (Nat×AV)):c8 ((i,v)::r)=bif Nat.ble 1000 i then (i - 1000,v)::c8 r else c8 r:=rfl
theorem Su:ak []=[]:=rfl
theorem RU (i:Nat) (v:AV) (r:List (Nat×AV)):ak ((i,v)::r)=bif Nat.ble 1000 i then (bif Nat.ble i 1999 then (i - 1000,v)::ak r else ak r) else ak r:=by
 have h:Nat.blt i (HS+HS)=Nat.ble i 1999:=by
  show Nat.ble (i+1) 2000=Nat.ble i 1999
  rfl
 show(bif Nat.ble HS i && Nat.blt i (HS+HS) then _ else _)=_
 rw[h]
 show(bif Nat.ble 1000 i && Nat.ble i 1999 then _ else _)=_
 cases Nat.ble 1000 i<;>rfl
theorem pa (t:Tmp) (ts:List Tmp) (v:AV) (vs:List AV):vP (t::ts) (v::vs) e=vP ts vs ((t,v)::e):=rfl
theorem Sp:vP [] [] e=e:=rfl
theorem Kj (m:Nat):bg m ⟨n,e,o,x⟩=⟨m,c8 e,o,x⟩:=rfl
theorem round (m:Nat) (ps:List Tmp) (vs:List AV):nE m ps vs ⟨n,e,o,x⟩=⟨m,vP ps vs (ae (ak e) (sh e)),o,x⟩:=by
 unfold nE
 rw[BS,BU]
def wF (f:AV→AV):List (Nat×AV)→List (Nat×AV)
 |[]=>[]
 |(i,v)::r=>(i,f v)::wF f r
def fO (f:AV→AV):List AV→List AV
 |[]=>[]
 |v::r=>f v::fO f r
def gJ (f:AV→AV):List (Nat×Option Ob)→List (Nat×Option Ob)
 |[]=>[]
 |(i,b)::r=>(i,b.map (Ob.qB f))::gJ f r
theorem yw (f:AV→AV):∀l:List (Nat×AV),(l.map fun p=>(p.1,f p.2))=wF f l
 |[]=>rfl
 |(i,v)::r=>by rw[List.map_cons,yw f r];rfl
theorem yl (f:AV→AV):∀l:List (Nat×Option Ob),(l.map fun p=>(p.1,p.2.map (Ob.qB f)))=gJ f l
 |[]=>rfl
 |(i,v)::r=>by rw[List.map_cons,yl f r];rfl
theorem f_ (f:AV→AV):∀l:List AV,l.map f=fO f l
 |[]=>rfl
 |v::r=>by rw[List.map_cons,f_ f r];rfl
theorem mv (f:AV→AV):DS.cw ⟨n,e,o,x⟩ f=⟨n,wF f e,gJ f o,x⟩:=by
 unfold DS.cw
 rw[yw,yl]
theorem S0 (f:AV→AV):wF f []=[]:=rfl
theorem Sb (f:AV→AV) (i:Nat) (v:AV) (r:List (Nat×AV)):wF f ((i,v)::r)=(i,f v)::wF f r:=rfl
theorem Tj (f:AV→AV):fO f []=[]:=rfl
theorem R5 (f:AV→AV) (v:AV) (r:List AV):fO f (v::r)=f v::fO f r:=rfl
theorem S7 (f:AV→AV):gJ f []=[]:=rfl
theorem R6 (f:AV→AV) (i:Nat) (r:List (Nat×Option Ob)):gJ f ((i,none)::r)=(i,none)::gJ f r:=rfl
theorem S3 (f:AV→AV) (i:Nat) (r:List (Nat×Option Ob)):gJ f ((i,some .row)::r)=(i,some .row)::gJ f r:=rfl
theorem RZ (f:AV→AV) (i:Nat) (cs:List AV) (r:List (Nat×Option Ob)):gJ f ((i,some (.box cs))::r)=(i,some (.box (fO f cs)))::gJ f r:=by
 show(i,some (Ob.box (cs.map f)))::gJ f r=_
 rw[f_]
theorem SN (f:AV→AV) (i:Nat) (l:List (Value×AV)) (r:List (Nat×Option Ob)):gJ f ((i,some (.mp l))::r)=(i,some (.mp l))::gJ f r:=rfl
theorem Q_ (f:AV→AV) (i:Nat) (l:List (Value×AV)) (k:Value) (v:AV) (r:List (Nat×Option Ob)):gJ f ((i,some (.mpl l k v))::r)=(i,some (.mpl l k (f v)))::gJ f r:=rfl
theorem Sw (f:AV→AV) (i:Nat) (e:TypeId) (p:Nat→Value×List Value) (r:List (Nat×Option Ob)):gJ f ((i,some (.pool e p))::r)=(i,some (.pool e p))::gJ f r:=rfl
theorem R_ (f:AV→AV) (i:Nat) (T:TypeId) (vs:Array Value) (r:List (Nat×Option Ob)):gJ f ((i,some (.lit T vs))::r)=(i,some (.lit T vs))::gJ f r:=rfl
theorem QV (f:AV→AV) (i l:Nat) (tm ps asg body st) (r:List (Nat×Option Ob)):gJ f ((i,some (.loop l tm ps asg body st))::r)=(i,some (.loop l tm ps asg body st))::gJ f r:=rfl
section
variable (i j:Nat)
theorem LD:AV.kill i .any=.any:=rfl
theorem OQ (p:PV):AV.kill i (.pv p)=.pv p:=rfl
theorem LJ (a b:Nat):AV.kill i (.ptr a b)=.ptr a b:=rfl
theorem HT (c:List PV):AV.kill i (.rptr c)=.rptr c:=rfl
theorem H4 (a:Nat):AV.kill i (.mapr a)=.mapr a:=rfl
theorem Kx (a:Nat):AV.kill i (.yld a)=.yld a:=rfl
theorem Kg (e k els):AV.kill i (.own j e k els)=bif Nat.beq i j then .any else .own j e k els:=rfl
theorem Ix (e k els m):AV.kill i (.optr j e k els m)=bif Nat.beq i j then .any else .optr j e k els m:=rfl
theorem KT (cs:List AV):AV.kill i (.agg cs)=.agg (fO (AV.kill i) cs):=by
 show AV.mp _ _=_
 rw[AV.mp,AV.dI,f_];rfl
theorem LH (cs:List AV):AV.kill i (.tup cs)=.tup (fO (AV.kill i) cs):=by
 show AV.mp _ _=_
 rw[AV.mp,AV.dI,f_];rfl
theorem LY (fn:Go.Fn) (cs ds:List AV):AV.kill i (.clo fn cs ds)=.clo fn (fO (AV.kill i) cs) (fO (AV.kill i) ds):=by
 show AV.mp _ _=_
 rw[AV.mp,AV.dI,AV.dI,f_,f_];rfl
end
theorem JC (cs:List AV):AV.cellsOf (.agg cs)=cs:=rfl
theorem K0 (p:PV):AV.cellsOf (.pv p)=[.pv p]:=rfl
theorem I1 (a b:Nat):AV.cellsOf (.ptr a b)=[.ptr a b]:=rfl
theorem IE (i e k els):AV.cellsOf (.own i e k els)=[.own i e k els]:=rfl
theorem Jq:AV.cellsOf .any=[.any]:=rfl
theorem EO (i:Nat):AV.cellsOf (.mapr i)=[.mapr i]:=rfl
theorem IH (fn a b):AV.cellsOf (.clo fn a b)=[.clo fn a b]:=rfl
theorem F1 (c):AV.cellsOf (.rptr c)=[.rptr c]:=rfl
def wy:List AV→Nat→AV→List AV
 |[],_,_=>[]
 |_::r,0,w=>w::r
 |v::r,n+1,w=>v::wy r n w
theorem t_:∀(l:List AV) (n:Nat) (w:AV),l.set n w=wy l n w
 |[],_,_=>rfl
 |_::_,0,_=>rfl
 |v::r,n+1,w=>by rw[List.set_cons_succ,t_ r n w];rfl
theorem RH (i j:Nat) (v:Option Ob) (r:List (Nat×Option Ob)):aH ((i,v)::r) j=bif Nat.beq i j then v else aH r j:=rfl
end Nf
end Go.Ab
/- Laws of operations whose results stand in plain form. -/
namespace Go.Ab
open Go Go.RowKit
attribute [local irreducible] HS
variable {q:Md} {P:Program} {g:au} {δ:DS} {κ:Kp} {a:Act} {w:World}
variable {ops:Array Oper} {rest:List Oper} {Q:Exit→DS→Prop} {dst:Option Nat} {ty:TypeId} {pos:String} {af:Array Edge}
def F9 (P:Program) (s:TypeId) (f k:Nat):Bool:=match P.underlying s with
 |some (.struct fs)=>(match fs[f]? with|some fld=>Nat.beq fld.offset k && ((P.info? fld.type).map fun i=>Nat.blt 0 i.size)==some true|none=>false)
 |_=>false
theorem aa.ah (s:TypeId) (f k:Nat) {x:Operand} {i off:Nat} (hx:δ.ev x=.ptr i off) (hB:F9 P s f k=true) (ho:aK x=true) (hd:bn δ.n dst=true)
  (hK:aa q P g ops rest Q (δ.aw dst (.ptr i (off+k)))):aa q P g ops (⟨dst,.fieldAddr s x f,ty,pos,af,none⟩::rest) Q δ:=by
 unfold F9 at hB
 split at hB
 ·rename_i fs hs
  split at hB
  ·rename_i fld hf
   simp only[Bool.and_eq_true,beq_iff_eq] at hB
   have hk:=Nat.eq_of_beq_eq_true hB.1
   subst hk
   exact aa.fieldAddr hx hs hf hB.2 ho hd hK
  ·cases hB
 ·cases hB
def Ao:List AV→Nat→Nat→List AV
 |[],_,_=>[]
 |v::r,k,n=>bif k==0 then (bif n==0 then [] else v::Ao r 0 (n - 1)) else Ao r (k - 1) n
def oP:List PV→Nat→Nat→List PV
 |[],_,_=>[]
 |v::r,k,n=>bif k==0 then (bif n==0 then [] else v::oP r 0 (n - 1)) else oP r (k - 1) n
theorem tS:∀(l:List PV) (k n:Nat),(l.drop k).take n=oP l k n
 |[],k,n=>by simp [oP]
 |v::r,0,0=>by simp [oP]
 |v::r,0,n+1=>by
  have:=tS r 0 n
  simp only[List.drop_zero] at this
  simp [oP,← this]
 |v::r,k+1,n=>by simp [oP,← tS r k n]
def GV (P:Program) (s:TypeId) (f k n:Nat):Bool:=match P.underlying s with
 |some (.struct fs)=>(match fs[f]? with|some fld=>Nat.beq fld.offset k && (((P.info? fld.type).map fun i=>Nat.blt 0 i.size)==some true && (P.info? fld.type).map (·.size)==some n)|none=>false)
 |_=>false
theorem aa.gN (s:TypeId) (f k n:Nat) {x:Operand} {cs:List PV} (hx:δ.ev x=.rptr cs) (hB:GV P s f k n=true) (ho:aK x=true) (hd:bn δ.n dst=true)
  (hK:aa q P g ops rest Q (δ.aw dst (.rptr (oP cs k n)))):aa q P g ops (⟨dst,.fieldAddr s x f,ty,pos,af,none⟩::rest) Q δ:=by
 unfold GV at hB
 split at hB
 ·rename_i fs hs
  split at hB
  ·rename_i fld hf
   simp only[Bool.and_eq_true,beq_iff_eq] at hB
   have hk:=Nat.eq_of_beq_eq_true hB.1
   subst hk
   exact aa.vV hx hs hf hB.2.1 hB.2.2 ho hd (by rw[tS];exact hK)
  ·cases hB
 ·cases hB
def uL:List Value→List AV
 |[]=>[]
 |v::r=> .pv (.lit v)::uL r
theorem pw:∀l:List Value,(l.map fun v=>AV.pv (PV.lit v))=uL l
 |[]=>rfl
 |v::r=>by rw[List.map_cons,pw r];rfl
def nJ:List AV→List (Nat×AV)→List AV
 |cs,[]=>cs
 |cs,(k,v)::r=>nJ (setN cs k v.cellsOf) r
where setN:List AV→Nat→List AV→List AV
 |cs,_,[]=>cs
 |cs,k,v::r=>setN (Nf.wy cs k v) (k+1) r
theorem yT:∀(vs cs:List AV) (k:Nat),iC cs k vs=nJ.setN cs k vs
 |[],cs,k=>rfl
 |v::r,cs,k=>by
  unfold iC nJ.setN
  rw[Nf.t_,yT r]
theorem nY {place:Nat→Option (Nat×Nat)}:∀(ps:List (Nat×AV)) (offs:List Nat) (cs cells:List AV),dL place cs ps=some cells→(ps.map fun p=>(place p.1).map (·.1))=offs.map some→
  cells=nJ cs (offs.zip (ps.map (·.2)))
 |[],offs,cs,cells,h,_=>by simp only[dL,Option.some.injEq] at h;subst h;cases offs<;>rfl
 |(i,v)::ps,[],cs,cells,h,ho=>by simp at ho
 |(i,v)::ps,k::offs,cs,cells,h,ho=>by
  simp only[List.map_cons,List.cons.injEq] at ho
  unfold dL at h
  cases hp:place i with
  |none=>rw[hp] at h;cases h
  |some x=>
   obtain⟨off,size⟩:=x
   rw[hp] at h ho
   simp only[Option.map_some,Option.some.injEq] at ho
   obtain⟨rfl,ho⟩:=ho
   simp only at h
   cases hb:(Nat.beq v.cellsOf.length size && Nat.ble (off+v.cellsOf.length) cs.length && AV.iu v.cellsOf) with
   |false=>rw[hb] at h;cases h
   |true=>
    rw[hb] at h
    have:=nY ps offs _ cells h ho
    rw[this,yT]
    rfl
def m_ (e:List (Nat×AV)):List Nat→List (Nat×Operand)→List (Nat×AV)
 |k::ks,(_,.tmp t)::ps=>(k,look e t)::m_ e ks ps
 |k::ks,(_,.const v)::ps=>(k,.pv (.lit v))::m_ e ks ps
 |k::ks,(_,.global _)::ps=>(k,.any)::m_ e ks ps
 |k::ks,(_,.func f)::ps=>(k,.clo (.func f) [] [])::m_ e ks ps
 |_,_=>[]
theorem tD (δ:DS):∀(offs:List Nat) (ps:List (Nat×Operand)),offs.zip ((ps.map fun p=>(p.1,δ.ev p.2)).map (·.2))=m_ δ.env offs ps
 |[],[]=>rfl
 |[],_::_=>rfl
 |_::_,[]=>rfl
 |k::ks,(i,x)::ps=>by
  simp only[List.map_cons,List.zip_cons_cons,tD δ ks ps]
  cases x<;>rfl
theorem aa.xz (t:TypeId) (offs:List Nat) {l:List Value} {parts:List (Nat×Operand)} {fs:Array Field} {z:Value} {cells:List AV} (hs:P.underlying t=some (.struct fs)) (hz:(P.info? t).bind (·.zero)=some z) (hl:z.cells=l.toArray) (h1:z.cells.toList.all (·.oneCell')=true) (dV:fs.toList.all (fun f=>(P.info? f.type).isSome)=true)
  (ho:parts.all (fun p=>aK p.2)=true) (mm:((parts.map fun p=>(p.1,δ.ev p.2)).map fun p=>(placeOf P fs p.1).map (·.1))=offs.map some) (hf:dL (placeOf P fs) (z.cells.toList.map fun v=> .pv (.lit v)) (parts.map fun p=>(p.1,δ.ev p.2))=some cells) (hd:bn δ.n dst=true)
  (hK:aa q P g ops rest Q (δ.aw dst (.agg (nJ (uL l) (m_ δ.env offs parts))))):aa q P g ops (⟨dst,.build t parts.toArray,ty,pos,af,none⟩::rest) Q δ:=by
 refine aa.build hs hz h1 dV ho hf hd ?_
 have:=nY _ offs _ cells hf mm
 rw[tD,hl,List.toList_toArray,pw] at this
 rw[this]
 exact hK
theorem aa.mx {e:TypeId} {z:Value} {l:List Value} (hz:(P.info? e).bind (·.zero)=some z) (hl:z.cells=l.toArray) (h1:z.cells.toList.all (·.oneCell')=true) (hd:bn δ.n dst=true)
  (hK:aa .plain P g ops rest Q ((δ.bf (.box (uL l))).aw dst (.ptr δ.nx 0))):aa .plain P g ops (⟨dst,.alloc e,ty,pos,af,none⟩::rest) Q δ:=by
 refine aa.alloc hz h1 hd ?_
 rw[hl,List.toList_toArray,pw]
 exact hK
def vH:Option Ob→o5→Option Ob
 |some (.loop l tm ps asg body _),st=>some (.loop l tm ps asg body st)
 |o,_=>o
def Ey (δ:DS) (i:Nat) (st:o5):DS:=⟨δ.n,δ.env,(i,vH (aH δ.objs i) st)::δ.objs,δ.nx⟩
theorem ub {i l:Nat} {s:o5} (st:o5) (h:ke δ i l s):δ.jg i st=Ey δ i st:=by
 obtain⟨tm,ps,asg,body,ho⟩:=h
 unfold DS.jg Ey
 rw[ho]
 have:aH δ.objs i=some (.loop l tm ps asg body s):=ho
 rw[this]
 rfl
def aW (P:Program) (g:au) (ops:Array Oper) (rest:List Oper) (Q:Exit→DS→Prop) (dst:Option Nat) (n i l:Nat):Exit→DS→Prop
 |.normal,δ=>ke δ i l .busy∧aa .plain P g ops rest Q ((Ey (bg n δ) i .ready).aw dst (aF true))
 |.ret,δ=>ke δ i l .busy∧aa .plain P g ops rest Q ((Ey (bg n δ) i (.done .ret)).aw dst (aF false))
 |.exit id,δ=>ke δ i l .busy∧aa .plain P g ops rest Q ((Ey (bg n δ) i (.done (.exit id))).aw dst (aF false))
 |_,_=>False
theorem ny {n i l:Nat} {st} (h:ke δ i l st):ke (bg n δ) i l st:=h
theorem aa.Ec {x:Operand} {ys:List Operand} {tys:Array TypeId} {i l n0:Nat} {tm:Array Value} {ps:List Tmp} {asg body:Code} {ps':Array Tmp} {asg' body':Code} (rW:xb ps' asg' body' ps asg body) (uh:g.ro=none) (du:g.wt=none) (oy:∀j,j<HS→g.held (j+HS)=tm.getD j undef) (Ax:tm.size=n0)
  (hn0:Nat.ble n0 HS=true)
  (hx:δ.ev x=.yld i) (dJ:δ.ob i=some (.loop l tm ps' asg' body' .ready)) (ho:aK x=true) (Ks:ys.all aK=true) (hlen:Nat.beq ys.length ps.length=true) (IA:ps.all (fun t=>Nat.blt t n0)=true) (hd':bn δ.n dst=true)
  (h:∀g':au,g'.ro=some l→g'.wt=none→AW P g' asg (bE (fun δ1=>ke δ1 i l .ready∧AW P g' body (aW P g ops rest Q dst δ.n i l) (Ey δ1 i .busy)) (fun _ _=>False)) (nE n0 ps (ys.map δ.ev) δ)):
  aa .plain P g ops (⟨dst,.call {callee:=.value x,args:=ys.toArray,argTypes:=tys},ty,pos,af,none⟩::rest) Q δ:=by
 refine aa.HC rW uh du oy Ax hn0 hx dJ ho Ks hlen IA hd' fun g' h1 h2=>(h g' h1 h2).mono ?_
 intro e δ1 he
 cases e with
 |normal=>
  obtain⟨h3,h4⟩:=he
  refine⟨h3,?_⟩
  rw[ub _ h3]
  refine AW.mono h4 ?_
  intro e2 δ2 he2
  cases e2 with
  |normal=>exact⟨he2.1,by show aa .plain P g ops rest Q (((bg δ.n δ2).jg i .ready).aw dst (aF true));rw[ub .ready (ny (n:=δ.n) he2.1)];exact he2.2⟩
  |ret=>exact⟨he2.1,by show aa .plain P g ops rest Q (((bg δ.n δ2).jg i (.done .ret)).aw dst (aF false));rw[ub (.done .ret) (ny (n:=δ.n) he2.1)];exact he2.2⟩
  |exit id=>exact⟨he2.1,by show aa .plain P g ops rest Q (((bg δ.n δ2).jg i (.done (.exit id))).aw dst (aF false));rw[ub (.done (.exit id)) (ny (n:=δ.n) he2.1)];exact he2.2⟩
  |_=>exact he2.elim
 |_=>exact he.elim
theorem jF {n i l:Nat} (h1:ke δ i l .busy) (h2:aa .plain P g ops rest Q ((Ey (bg n δ) i .ready).aw dst (aF true))):aW P g ops rest Q dst n i l .normal δ:=⟨h1,h2⟩
theorem mU {n i l id:Nat} (h1:ke δ i l .busy) (h2:aa .plain P g ops rest Q ((Ey (bg n δ) i (.done (.exit id))).aw dst (aF false))):aW P g ops rest Q dst n i l (.exit id) δ:=⟨h1,h2⟩
def Lo (n i:Nat) (δ:DS):DS:=⟨n,c8 δ.env,(i,vH (aH δ.objs i) .js)::δ.objs,δ.nx⟩
theorem DO {n i l:Nat} {tm ps asg body st} (ho:δ.ob i=some (.loop l tm ps asg body st)):fv n i δ=Lo n i δ:=by
 unfold fv Lo
 rw[ho]
 have:aH δ.objs i=some (.loop l tm ps asg body st):=ho
 rw[this];rfl
theorem oQ {n i l:Nat} {tm ps asg body} {e:Exit} (he:e=.normal∨e=.ret) (ho:δ.ob i=some (.loop l tm ps asg body .ready)) (h:Q .normal (Lo n i δ)):bd n i l Q e δ:=q7 he ho (by rw[DO ho];exact h)
theorem qG {n i l id:Nat} {tm ps asg body} {e:Exit} (he:e=.normal∨e=.ret) (ho:δ.ob i=some (.loop l tm ps asg body (.done (.exit id)))) (h:Q (.exit id) (Lo n i δ)):bd n i l Q e δ:=rS he ho (by rw[DO ho];exact h)
namespace Nf
variable {n x:Nat} {e:List (Nat×AV)} {o:List (Nat×Option Ob)}
theorem S1 (i:Nat) (st:o5):Ey ⟨n,e,o,x⟩ i st=⟨n,e,(i,vH (aH o i) st)::o,x⟩:=rfl
theorem R4 (m i:Nat):Lo m i ⟨n,e,o,x⟩=⟨m,c8 e,(i,vH (aH o i) .js)::o,x⟩:=rfl
theorem SX (l:Nat) (tm ps asg body st st'):vH (some (.loop l tm ps asg body st)) st'=some (.loop l tm ps asg body st'):=rfl
theorem Ru:uL []=[]:=rfl
theorem Sn (v:Value) (r:List Value):uL (v::r)=.pv (.lit v)::uL r:=rfl
theorem Td (cs:List AV):nJ cs []=cs:=rfl
theorem RT (cs:List AV) (k:Nat) (v:AV) (r:List (Nat×AV)):nJ cs ((k,v)::r)=nJ (nJ.setN cs k v.cellsOf) r:=rfl
theorem Rc (cs:List AV) (k:Nat):nJ.setN cs k []=cs:=rfl
theorem SD (cs:List AV) (k:Nat) (v:AV) (r:List AV):nJ.setN cs k (v::r)=nJ.setN (wy cs k v) (k+1) r:=rfl
theorem Qy (k:Nat) (w:AV):wy [] k w=[]:=rfl
theorem RR (v:AV) (r:List AV) (k:Nat) (w:AV):wy (v::r) k w=bif k==0 then w::r else v::wy r (k - 1) w:=by cases k<;>rfl
theorem PH (k:Nat) (ks:List Nat) (i t:Nat) (ps:List (Nat×Operand)):m_ e (k::ks) ((i,.tmp t)::ps)=(k,look e t)::m_ e ks ps:=rfl
theorem PA (k:Nat) (ks:List Nat) (i:Nat) (v:Value) (ps:List (Nat×Operand)):m_ e (k::ks) ((i,.const v)::ps)=(k,.pv (.lit v))::m_ e ks ps:=rfl
theorem NQ (k:Nat) (ks:List Nat) (i f:Nat) (ps:List (Nat×Operand)):m_ e (k::ks) ((i,.func f)::ps)=(k,.clo (.func f) [] [])::m_ e ks ps:=rfl
theorem Sv:m_ e [] []=[]:=rfl
theorem RM (k n:Nat):Ao [] k n=[]:=rfl
theorem Rk (v:AV) (r:List AV) (k n:Nat):Ao (v::r) k n=bif k==0 then (bif n==0 then [] else v::Ao r 0 (n - 1)) else Ao r (k - 1) n:=rfl
theorem SP (k n:Nat):oP [] k n=[]:=rfl
theorem Rj (v:PV) (r:List PV) (k n:Nat):oP (v::r) k n=bif k==0 then (bif n==0 then [] else v::oP r 0 (n - 1)) else oP r (k - 1) n:=rfl
end Nf
end Go.Ab
namespace Go.Ab
open Go Go.RowKit
section
variable {q:Md} {P:Program} {g:au} {δ:DS} {ops:Array Oper} {rest:List Oper} {Q:Exit→DS→Prop} {dst:Option Nat} {ty:TypeId} {pos:String} {af:Array Edge}
theorem aa.n7 {x:Operand} {c:List PV} (hx:δ.ev x=.rptr c) (ho:aK x=true) (hd:bn δ.n dst=true) (hK:aa q P g ops rest Q (δ.aw dst (.rptr c))):aa q P g ops (⟨dst,.move x,ty,pos,af,none⟩::rest) Q δ:=aa.move hx ho hd hK
theorem aa.gp {x:Operand} {c:List PV} (hx:δ.ev x=.rptr c) (ho:aK x=true) (hd:bn δ.n dst=true) (hK:aa q P g ops rest Q (δ.aw dst (.rptr c))):aa q P g ops (⟨dst,.assign x,ty,pos,af,none⟩::rest) Q δ:=aa.assign hx ho hd hK
theorem aa.u6 {x:Operand} {i:Nat} (hx:δ.ev x=.mapr i) (ho:aK x=true) (hd:bn δ.n dst=true) (hK:aa q P g ops rest Q (δ.aw dst (.mapr i))):aa q P g ops (⟨dst,.assign x,ty,pos,af,none⟩::rest) Q δ:=aa.assign hx ho hd hK
theorem aa.Bb {x:Operand} {i:Nat} (hx:δ.ev x=.mapr i) (ho:aK x=true) (hd:bn δ.n dst=true) (hK:aa q P g ops rest Q (δ.aw dst (.mapr i))):aa q P g ops (⟨dst,.move x,ty,pos,af,none⟩::rest) Q δ:=aa.move hx ho hd hK
theorem aa.lN {x:Operand} {c:List PV} (hx:δ.ev x=.rptr c) (ho:aK x=true) (hd:bn δ.n dst=true) (hK:aa q P g ops rest Q (δ.aw dst (.rptr c))):
  aa q P g ops (⟨dst,.nilCheck x,ty,pos,af,none⟩::rest) Q δ:=
 aa.dA _ hd (fun κ a w r=>by
  have h1:=r.ra hx ho
  have h2:=h1
  generalize hu:a.eval x=u at h1
  cases h1 with
  |rptr b off vs hN hb hc hr=>exact⟨_,fun w' _=>by simp [execOp,hu],hu▸h2⟩) hK
end
end Go.Ab
/- Maps:written,counted,ranged over;told as sets and frozen. -/
namespace Go.Ab
open Go Go.RowKit
variable {q:Md} {P:Program} {g:au} {δ:DS} {κ:Kp} {a:Act} {w:World}
variable {gd:Option (Tmp×Bool)} {ops:Array Oper} {rest:List Oper} {Q:Exit→DS→Prop} {dst:Option Nat} {ty:TypeId} {pos:String} {af:Array Edge}
theorem rJ {C:Cx} {w:World} (m:Int):∀(es:List MapEntry) (l:List (Int×AV)) (i:Nat),es.length=l.length→
  (∀(j:Nat) (e:MapEntry) (p:Int×AV),es[j]? =some e→l[j]? =some p→e.key=.int .i64 p.1∧RA C w e.val p.2)→
  (eb l m=none∧Instr.findNow (.int .i64) (.int .i64 m) es i=some none)∨
  (∃(j:Nat) (e:MapEntry) (v:AV),Instr.findNow (.int .i64) (.int .i64 m) es i=some (some (i+j,e.val))∧es[j]? =some e∧l[j]? =some (m,v)∧e.key=.int .i64 m∧∀i,i<j→∀p,l[i]? =some p→p.1≠m):=by
 intro es
 induction es with
 |nil=>intro l i hs _;have:l=[]:=List.eq_nil_of_length_eq_zero hs.symm;subst this;exact .inl ⟨rfl,rfl⟩
 |cons e es ih=>
  intro l i hs h
  cases l with
  |nil=>simp at hs
  |cons p l=>
   obtain⟨k,v⟩:=p
   have h0:=h 0 e (k,v) rfl rfl
   by_cases hk:m=k
   ·subst hk
    refine .inr ⟨0,e,v,?_,rfl,rfl,h0.1,fun i hi=>by omega⟩
    simp [Instr.findNow,h0.1,Instr.sameNow]
   ·have hf:Instr.findNow (.int .i64) (.int .i64 m) (e::es) i=Instr.findNow (.int .i64) (.int .i64 m) es (i+1):=by
     have hb:(m==k)=false:=by simp [hk]
     simp [Instr.findNow,h0.1,Instr.sameNow,hb]
    rcases ih l (i+1) (by simpa using hs) (fun j e p h1 h2=>h (j+1) e p (by simpa using h1) (by simpa using h2)) with ⟨h1,h2⟩|⟨j,e',v',h2,h3,h4,h5,h6⟩
    ·exact .inl ⟨by simp [eb,hk,h1],hf.trans h2⟩
    ·refine .inr ⟨j+1,e',v',by rw[hf,h2];simp;omega,by simpa using h3,by simpa using h4,h5,fun i' hi' p hp=>?_⟩
     cases i' with
     |zero=>simp at hp;subst hp;exact fun e=>hk e.symm
     |succ i'=>exact h6 i' (by omega) p (by simpa using hp)
theorem Rel.QI (r:Rel g δ κ a w) {u:Value} {i:Nat} {l:List (Value×PV)} {seen:List Nat} (h:RA (δ.cx g κ) w u (.ptr i 0)) (ho:δ.ob i=some (.it l seen)):
  ∃b,u=.pointer (some ⟨b,0,none⟩)∧κ i=some b∧Dm (δ.cx g κ).N w b l seen:=by
 cases h with
 | @ptr _ _ b hl hκ=>
  obtain⟨b',h1,h2⟩:=r.obj i _ ho
  have:b'=b:=Option.some.inj (h1.symm.trans hκ)
  subst this
  exact⟨b',rfl,h1,h2⟩
theorem Gx {C:Cx} {w:World} {u1 u2 u3:Value} {v1 v2 v3:AV} (h1:RA C w u1 v1) (h2:RA C w u2 v2) (h3:RA C w u3 v3):RA C w (.tuple #[u1,u2,u3]) (.tup [v1,v2,v3]):=uM h1 h2 h3
theorem tf {es:Array MapEntry} {clock:Nat} (h:kq es clock):(es.toList.map (·.born)).Nodup:=by
 have:es.toList.map (·.born)=List.range es.size:=by
  apply List.ext_getElem?
  intro j
  rw[List.getElem?_map,Array.getElem?_toList]
  by_cases hj:j<es.size
  ·rw[Array.getElem?_eq_getElem hj,Option.map_some,h.2 j _ (Array.getElem?_eq_getElem hj),List.getElem?_range hj]
  ·rw[Array.getElem?_eq_none (by omega),List.getElem?_eq_none (by simpa using hj)];rfl
 rw[this];exact List.nodup_range
theorem aa.next {x:Operand} {i:Nat} {l:List (Value×PV)} {seen:List Nat} (hx:δ.ev x=.ptr i 0) (dJ:δ.ob i=some (.it l seen)) (ho:aK x=true) (hd:bn δ.n dst=true) (du:g.wt=none)
  (hK0:(∀j,j<l.length→j∈seen)→aa .plain P g ops rest Q (δ.aw dst (.tup [aF false])))
  (hK1:∀j (hj:j<l.length),j∉seen→aa .plain P g ops rest Q ((δ.bB i (some (.it l (seen++ [j])))).aw dst (.tup [aF true,.pv (.lit l[j].1),.pv l[j].2]))):
  aa .plain P g ops (⟨dst,.next x false,ty,pos,af,none⟩::rest) Q δ:=by
 intro κ a w r
 obtain⟨b,hv,h2,h3⟩:=r.QI (r.ra hx ho) dJ
 show wpListIn _ _ P ops _ (_::rest) a w
 refine b8 rfl rfl fun K hK'=>?_
 unfold Oper.sr
 rcases h3 with ⟨rfl,h3⟩|⟨m,es,clock,hN,hm,hh,hs,de,tF,Ht,G6⟩
 ·have aV:(execOp a.eval ⟨dst,.next x false,ty,pos,af,none⟩).run P w=.ok (.value (.tuple #[.bool false])) w:=by
   have:(Instr.next (.pointer (some ⟨b,0,none⟩)) false ty).run P w=.ok (.tuple #[.bool false]) w:=by
    simp only[Instr.next,getObj,Sem.run_bind,Sem.run,h3,Result.andThen]
    rfl
   simp [execOp,hv,this]
  rw[aV,Oper.uponIn_value]
  exact hK' _ _ (hK0 (by simp) κ _ _ (r.aw (aS hd) (.tup rfl fun j u c h4 h5=>by
   cases j with
   |zero=>simp at h4 h5;subst h4;subst h5;exact .pv (.lit _)
   |succ j=>simp at h5)))
 ·have hold:∀e∈es.toList,e.born<clock:=by
   intro e he
   obtain⟨j,hj⟩:=List.getElem?_of_mem he
   have hj':es[j]? =some e:=by simpa using hj
   rw[de.2 j e hj',de.1]
   exact(Array.getElem?_eq_some_iff.1 hj').1
  rcases run_next_at (P:=P) w ty b m clock clock seen.toArray es clock Ht hh hold (Nat.le_refl _) with ⟨h4,h5⟩|⟨e,he,w1,hw1,h5⟩
  ·have aV:(execOp a.eval ⟨dst,.next x false,ty,pos,af,none⟩).run P w=.ok (.value (.tuple #[.bool false])) w:=by simp [execOp,hv,h5]
   rw[aV,Oper.uponIn_value]
   have dV:=all_seen es seen.toArray h4
   exact hK' _ _ (hK0 (fun j hj=>by
    have hj2:j<es.size:=by omega
    have:=dV es[j] (by simp)
    rw[de.2 j _ (Array.getElem?_eq_getElem hj2)] at this
    simpa using this) κ _ _ (r.aw (aS hd) (.tup rfl fun j u c h4 h5=>by
    cases j with
    |zero=>simp at h4 h5;subst h4;subst h5;exact .pv (.lit _)
    |succ j=>simp at h5)))
  ·obtain⟨he1,he2⟩:=mem_left he
   obtain⟨j,hj⟩:=List.getElem?_of_mem he1
   have hj':es[j]? =some e:=by simpa using hj
   have hb:=de.2 j e hj'
   have Ek:j<l.length:=by rw[← hs];exact(Array.getElem?_eq_some_iff.1 hj').1
   have uH:j∉seen:=by rw[hb] at he2;simpa using he2
   obtain⟨Ti,RX⟩:=tF j e _ hj' (List.getElem?_eq_getElem Ek)
   have aV:(execOp a.eval ⟨dst,.next x false,ty,pos,af,none⟩).run P w=.ok (.value (.tuple #[.bool true,e.key,e.val])) (ChangeMaps.setBlock w1 b (.mapIter (some m) clock (seen.toArray.push e.born) clock)):=by simp [execOp,hv,h5]
   rw[aV,Oper.uponIn_value]
   have Ju:Below w.heap.size w w1:=by
    rcases hw1 with rfl|rfl
    ·exact Below.refl _ _
    ·exact Below.drew (Below.refl _ _)
   have r1:=r.ext Ju
   have hh1:w1.heap=w.heap:=by rcases hw1 with rfl|rfl<;>rfl
   have aM:b<w1.heap.size:=by rw[hh1];exact da Ht
   obtain⟨r2,G⟩:=r1.modify (o':=.it l (seen++ [j])) dJ rfl rfl h2 (eK du i) (c7.pf w1 b (.mapIter (some m) clock (seen.toArray.push e.born) clock)) (by simp) (fun C hC G=>by
    have hN1:=G.N m (by rw[hh1];exact hm) hN
    refine⟨b,by rw[hC];exact h2,.inr ⟨m,es,clock,hN1.1,by simp [hh1];exact hm,by rw[hN1.2,hh1];exact hh,hs,de,fun j e p h6 h7=>⟨(tF j e p h6 h7).1,?_⟩,?_,fun k hk=>?_⟩⟩
    ·have h8:=(tF j e p h6 h7).2
     refine h8.mono (by simp [hh1]) fun b' hb' hN'=>?_
     have:=G.N b' (by rw[hh1];exact hb') hN'
     exact⟨this.1,by rw[this.2,hh1]⟩
    ·rw[gL (o:=.mapIter (some m) clock seen.toArray clock) (by rw[hh1];exact Ht)]
     rw[hb];simp
    ·rcases List.mem_append.1 hk with hk|hk
     ·exact G6 k hk
     ·simp at hk;subst hk;exact Ek)
   refine hK' _ _ (hK1 j Ek uH κ _ _ (r2.aw (aS hd) (Gx (.pv (.lit _)) ?_ ?_)))
   ·rw[Ti];exact .pv (.lit _)
   ·refine .pv (RX.mono (by simp [hh1]) fun b' hb' hN'=>?_)
    have:=G.N b' (by rw[hh1];exact hb') hN'
    exact⟨this.1,by rw[this.2,hh1]⟩
theorem aa.entry {x:Operand} {i j:Nat} {l:List (Value×PV)} {seen:List Nat} (hx:δ.ev x=.ptr i 0) (dJ:δ.ob i=some (.it l (seen++ [j]))) (ho:aK x=true) (hd:bn δ.n dst=true) (hq:q≠ .held) (hj:j<l.length)
  (hK:aa q P g ops rest Q (δ.aw dst (.tup [.pv (.lit l[j].1),.pv l[j].2]))):
  aa q P g ops (⟨dst,.entry x,ty,pos,af,none⟩::rest) Q δ:=
 aa.IU _ hq rfl rfl hd (fun κ a w r=>by
  obtain⟨b,hv,h2,h3⟩:=r.QI (r.ra hx ho) dJ
  rcases h3 with ⟨rfl,h3⟩|⟨m,es,clock,hN,hm,hh,hs,de,tF,Ht,G6⟩
  ·simp at hj
  ·have Ra:j<es.size:=by omega
   have tu:=Array.getElem?_eq_getElem Ra
   obtain⟨h4,h5⟩:=tF j _ _ tu (List.getElem?_eq_getElem hj)
   have hb:=de.2 j _ tu
   refine⟨.tuple #[es[j].key,es[j].val],fun w' hw'=>?_,wC (by rw[h4];exact .pv (.lit _)) (.pv h5)⟩
   have h6:w'.heap[b]? =some (.mapIter (some m) clock (seen.toArray.push es[j].born) clock):=by
    rw[hw'.block b (da Ht),Ht,hb];simp
   have h7:w'.heap[m]? =some (.map es clock):=(hw'.block m hm).trans hh
   have:=run_entry_at (P:=P) w' b m clock seen.toArray es clock es[j] h6 h7 (by simp) (tf de)
   simp [execOp,hv,this]) hK
theorem aa.E0 {t:TypeId} (hd:bn δ.n dst=true) (hK:aa .plain P g ops rest Q ((δ.bf (.mp (eg (gn [])))).aw dst (.mapr δ.nx))):aa .plain P g ops (⟨dst,.makeMap t none,ty,pos,af,none⟩::rest) Q δ:=aa.makeMap hd hK
theorem Nf.Tf (f:AV→AV) (i:Nat) (l:List (Value×PV)) (seen:List Nat) (r:List (Nat×Option Ob)):Nf.gJ f ((i,some (.it l seen))::r)=(i,some (.it l seen))::Nf.gJ f r:=rfl
theorem WV.Fq {δ δ':DS} {i e k} {els:List (List PV)} (he:els=[]) (h:δ'.lu i=true) (hn:δ.ob i=none):WV δ δ' (.pv (.lit (.slice none 0 0))) (.own i e k els):=by rw[he];exact .nilown i e k h hn
end Go.Ab
/- Rows given up in the middle of a walk. -/
namespace Go.Ab
open Go Go.RowKit
variable {q:Md} {P:Program} {g:au} {δ:DS} {κ:Kp} {a:Act} {w:World}
variable {ops:Array Oper} {rest:List Oper} {Q:Exit→DS→Prop} {dst:Option Nat} {ty:TypeId} {pos:String} {af:Array Edge}
def C1 (i:Nat):AV→AV
 |.own j e k els=>bif Nat.beq i j then .pv (.slice k els) else .own j e k els
 |.optr j e k els n=>bif Nat.beq i j then .any else .optr j e k els n
 |v=>v
def AV.nj (i:Nat):AV→AV:=AV.mp (C1 i)
def kJ (δ:DS) (i:Nat):DS:=(δ.cw (AV.nj i)).bB i none
theorem qX (δ:DS) (i j:Nat):(kJ δ i).ob j=if i=j then none else (δ.ob j).map (Ob.qB (AV.nj i)):=by
 unfold kJ
 rw[dD,e_]
theorem E2 (δ:DS) (i j:Nat):(kJ δ i).get j=AV.nj i (δ.get j):=kz (AV.nj i) rfl δ j
theorem Rel.freeze (r:Rel g δ κ a w) {i:Nat} (hi:δ.ob i=some .row):∃κ',Rel g (kJ δ i) κ' a w:=by
 have bj:∀j,(kJ δ i).live j→j≠i∧δ.live j:=by
  rintro j ⟨o,h⟩
  rw[qX] at h
  by_cases e:i=j
  ·rw[if_pos e] at h;cases h
  ·rw[if_neg e] at h
   cases ho:δ.ob j with
   |none=>rw[ho] at h;simp at h
   |some o'=>exact⟨fun e'=>e e'.symm,o',ho⟩
 have iJ:∀j,(kJ δ i).lr j↔j≠i∧δ.lr j:=by
  intro j
  unfold DS.lr
  rw[qX]
  by_cases e:i=j
  ·rw[if_pos e];simp [e]
  ·rw[if_neg e]
   have e':j≠i:=fun h=>e h.symm
   cases δ.ob j with
   |none=>simp
   |some o=>cases o<;>simp [Ob.qB,e']
 have o6:∀j,δ.lb j→(kJ δ i).lb j:=by
  rintro j ⟨o,h1,h2⟩
  have e:i≠j:=by rintro rfl;rw[hi] at h1;cases h1;simp [Ob.fJ] at h2
  refine⟨Ob.qB (AV.nj i) o,?_,?_⟩
  ·rw[qX,if_neg e,h1];rfl
  ·cases o<;>first|rfl|(simp [Ob.fJ] at h2)
 have fG:∀j b,δ.live j→(kJ δ i).ob j=none→κ j=some b→((kJ δ i).cx g (om δ κ)).N b:=by
  intro j b hl ew hκ
  refine⟨r.yk hl hκ,fun m hm e=>?_⟩
  obtain⟨h1,h2⟩:=bI e
  have:=r.inj j m b hl h1 hκ h2
  subst this
  obtain⟨o,hm⟩:=hm
  rw[ew] at hm;cases hm
 have G:eD ((δ.cx g κ).less i) w ((kJ δ i).cx g (om δ κ)) w:=
  {B:=rfl,size:=Nat.le_refl _
   N:=fun b _ hN=>⟨⟨hN.1,fun j hj e=>by
    obtain⟨h1,h2⟩:=bI e
    exact hN.2 j h1 h2⟩,rfl⟩
   Lr:=fun j hj=>⟨(iJ j).2 ⟨hj.2,hj.1⟩,cY (DS.bU hj.1),fun _ _=>rfl⟩
   Lb:=fun j hj=>⟨o6 j hj,cY (DS.fX hj)⟩}
 have F:∀{v:Value} {av:AV},RA (δ.cx g κ) w v av→RA ((kJ δ i).cx g (om δ κ)) w v (AV.nj i av):=by
  intro v av h
  refine RA.mp G rfl (fun j e k els hj=>?_) (fun j e k els n hj=>?_) (fun v e k els ho=>?_) (fun b cap e k els n _ _=>?_) h
  ·simp only[C1,gA (Ne.symm hj)];rfl
  ·simp only[C1,gA (Ne.symm hj)];rfl
  ·simp only[C1,iU]
   exact .pv ((RA.own ho).nj fG (by rw[qX,if_pos rfl]))
  ·simp only[C1,iU];exact .any _
 refine⟨om δ κ,?_⟩
 exact
  {n:=r.n
   dfr:=r.dfr
   env:=fun j=>by rw[E2];exact F (r.env j)
   obj:=fun j o h=>by
    rw[qX] at h
    by_cases e:i=j
    ·rw[if_pos e] at h;cases h
    ·rw[if_neg e] at h
     cases ho:δ.ob j with
     |none=>rw[ho] at h;simp at h
     |some o'=>
      rw[ho] at h
      simp only[Option.map_some,Option.some.injEq] at h
      subst h
      have h0:=r.obj j o' ho
      have hκ:om δ κ j=κ j:=cY ⟨_,ho⟩
      cases o' with
      |row=>intro b hb;exact h0 b (hκ.symm.trans hb)
      |box cs=>
       obtain⟨b,c,e',h1,h2,h3,h4⟩:=h0
       refine⟨b,c,e',hκ.trans h1,h2,by simpa using h3,fun k u av h5 h6=>?_⟩
       simp only[List.getElem?_map,Option.map_eq_some_iff] at h6
       obtain⟨av',h6,rfl⟩:=h6
       exact⟨F (h4 k u av' h5 h6).1,(h4 k u av' h5 h6).2⟩
      |mp l=>
       obtain⟨b,es,clock,h1,h2,h3,h4⟩:=h0
       exact⟨b,es,clock,hκ.trans h1,h2,⟨h3.1,fun k e' p h5 h6=>⟨(h3.2 k e' p h5 h6).1,G.ra ((h3.2 k e' p h5 h6).2.less (h4.2 p (List.mem_of_getElem? h6)))⟩⟩,h4⟩
      |mpl l kk v=>
       obtain⟨b,es,clock,h1,h2,h3,h4⟩:=h0
       exact⟨b,es,clock,hκ.trans h1,h2,h3.last (fun u p hp h=>G.ra (h.less (h4.2 p hp))) (fun u h=>F h),h4⟩
      |it l seen=>
       obtain⟨b,h1,h2⟩:=h0
       exact⟨b,hκ.trans h1,h2.mono G.size G.N rfl⟩
      |lit T vals=>obtain⟨b,h1,h2⟩:=h0;exact⟨b,hκ.trans h1,h2⟩
      |pool e rows=>exact⟨hκ.trans h0.1,fun k=>(h0.2.1 k).fp rfl fun b _ h2 _=>⟨h2,rfl⟩,h0.2.2⟩
      |loop l tm ps asg body st=>
       obtain⟨b,lr,h1,h2⟩:=h0
       exact⟨b,lr,hκ.trans h1,h2⟩
   inj:=fun j m b _ _ h3 h4=>r.inj j m b (bI h3).1 (bI h4).1 (bI h3).2 (bI h4).2
   lo:=fun j b _ h2=>r.lo j b (bI h2).1 (bI h2).2
   nx:=fun j h=>r.nx j (bj j h).2
   wt:=fun k hk=>⟨(r.wt k hk).1,fun j b _ hj hb=>by
    obtain⟨hl,hκ⟩:=bI hb
    exact(r.wt k hk).2 j b hl (hj.imp (fun h=>((iJ j).1 h).2) id) hκ⟩
   below:=r.below
   hB:=r.hB
   N0:=r.N0
   mkf:=r.mkf
   fr:=r.fr.sub fun j b _ h2=>⟨j,(bI h2).1,(bI h2).2⟩}
mutual
def AV.fo:AV→Option Nat
 |.own i _ _ _=>some i
 |.agg cs=>AV.KD cs
 |.tup cs=>AV.KD cs
 |_=>none
def AV.KD:List AV→Option Nat
 |[]=>none
 |v::r=>match AV.fo v with|some i=>some i|none=>AV.KD r
end
theorem aa.freeze (i:Nat) {l:List Oper} (hi:δ.ob i=some .row) (hK:aa .plain P g ops l Q (kJ δ i)):aa .plain P g ops l Q δ:=by
 intro κ a w r
 obtain⟨κ',r'⟩:=r.freeze hi
 exact hK κ' a w r'
theorem aa.BT {t:TypeId} {n i:Nat} {parts:List (Nat×Operand)} (h:AV.KD (Nf.th δ.env (parts.map (·.2)))=some i) (hi:δ.ob i=some .row) (hK:aa .plain P g ops (⟨dst,.buildSlice t n parts.toArray,ty,pos,af,none⟩::rest) Q (kJ δ i)):
  aa .plain P g ops (⟨dst,.buildSlice t n parts.toArray,ty,pos,af,none⟩::rest) Q δ:=aa.freeze i hi hK
theorem aa.ED {x:Operand} {i:Nat} {xs:List Operand} {tys:Array TypeId} (h:AV.KD (Nf.th δ.env xs)=some i) (hi:δ.ob i=some .row) (hK:aa .plain P g ops (⟨dst,.call {callee:=.value x,args:=xs.toArray,argTypes:=tys},ty,pos,af,none⟩::rest) Q (kJ δ i)):
  aa .plain P g ops (⟨dst,.call {callee:=.value x,args:=xs.toArray,argTypes:=tys},ty,pos,af,none⟩::rest) Q δ:=aa.freeze i hi hK
namespace Nf
variable {n x:Nat} {e:List (Nat×AV)} {o:List (Nat×Option Ob)} (i j:Nat)
theorem fd:kJ ⟨n,e,o,x⟩ i=⟨n,wF (AV.nj i) e,(i,none)::gJ (AV.nj i) o,x⟩:=by
 unfold kJ
 rw[mv];rfl
theorem KK:AV.nj i .any=.any:=rfl
theorem Pk (p:PV):AV.nj i (.pv p)=.pv p:=rfl
theorem J3 (a b:Nat):AV.nj i (.ptr a b)=.ptr a b:=rfl
theorem Hx (c:List PV):AV.nj i (.rptr c)=.rptr c:=rfl
theorem H5 (a:Nat):AV.nj i (.mapr a)=.mapr a:=rfl
theorem Lq (a:Nat):AV.nj i (.yld a)=.yld a:=rfl
theorem Ma (e k els):AV.nj i (.own j e k els)=bif Nat.beq i j then .pv (.slice k els) else .own j e k els:=rfl
theorem Ie (e k els m):AV.nj i (.optr j e k els m)=bif Nat.beq i j then .any else .optr j e k els m:=rfl
theorem LA (cs:List AV):AV.nj i (.agg cs)=.agg (fO (AV.nj i) cs):=by
 show AV.mp _ _=_
 rw[AV.mp,AV.dI,f_];rfl
theorem KR (cs:List AV):AV.nj i (.tup cs)=.tup (fO (AV.nj i) cs):=by
 show AV.mp _ _=_
 rw[AV.mp,AV.dI,f_];rfl
theorem Me (fn:Go.Fn) (cs ds:List AV):AV.nj i (.clo fn cs ds)=.clo fn (fO (AV.nj i) cs) (fO (AV.nj i) ds):=by
 show AV.mp _ _=_
 rw[AV.mp,AV.dI,AV.dI,f_,f_];rfl
end Nf
end Go.Ab
/- Arguments read as data,told as values. -/
namespace Go.Ab
open Go Go.RowKit
variable {P:Program}
def Reads (w:World) (cs:List Value) (ps:List PV):Prop:=cs.length=ps.length∧∀(j:Nat) (c:Value) (p:PV),cs[j]? =some c→ps[j]? =some p→RP (fun _=>True) w c p∧c.oneCell'=true
theorem Reads.one {w:World} {c:Value} {p:PV} (h:RP (fun _=>True) w c p) (h1:c.oneCell'=true):Reads w [c] [p]:=
 ⟨rfl,fun j c' p' h2 h3=>by
  cases j with
  |zero=>simp at h2 h3;subst h2;subst h3;exact⟨h,h1⟩
  |succ j=>simp at h2⟩
theorem Reads.nil {w:World}:Reads w [] []:=⟨rfl,fun j c p h=>by simp at h⟩
theorem Reads.append {w:World} {cs cs':List Value} {ps ps':List PV} (h:Reads w cs ps) (h':Reads w cs' ps'):Reads w (cs++cs') (ps++ps'):=by
 refine⟨by simp [h.1,h'.1],fun j c p h1 h2=>?_⟩
 by_cases hj:j<cs.length
 ·rw[List.getElem?_append_left hj] at h1
  rw[List.getElem?_append_left (by rw[← h.1];exact hj)] at h2
  exact h.2 j c p h1 h2
 ·rw[List.getElem?_append_right (by omega)] at h1
  rw[List.getElem?_append_right (by rw[← h.1];omega),← h.1] at h2
  exact h'.2 _ c p h1 h2
def Rd (P:Program) (t:TypeId) {α:Type} (enc:α→List PV) (ok:α→Prop):Prop:=
 ∀{H:Type} (en:TypeId×Value→H) (w:World) (sp:Nat→Bool) (fuel:Nat) (cs:List Value) (x:DataW H×List MemPlace),DataW.trod en P w 0 sp true fuel t cs=some x→
  (∀n∈x.1.weights P t,n≤reachBytes)→∃a:α,Reads w cs (enc a)∧ok a
theorem Rd.int {t:TypeId} {k:IntKind} (ht:P.underlying t=some (.int k)):Rd P t (fun n:Int=>[.lit (.int k n)]) (fun n=>(Lit.int k n).wf=true):=by
 intro H en w sp fuel cs x h _
 obtain⟨n,rfl,_,hw⟩:=DataW.trod_int ht h
 exact⟨n,.one (.lit _) rfl,hw⟩
theorem Rd.bool {t:TypeId} (ht:P.underlying t=some .bool):Rd P t (fun b:Bool=>[.lit (.bool b)]) (fun _=>True):=by
 intro H en w sp fuel cs x h _
 obtain⟨b,rfl,_⟩:=DataW.trod_bool ht h
 exact⟨b,.one (.lit _) rfl,trivial⟩
theorem Rd.string {t:TypeId} (ht:P.underlying t=some .string):Rd P t (fun s:ByteArray=>[.lit (.string s)]) (fun s=>s.size≤reachBytes):=by
 intro H en w sp fuel cs x h hw
 obtain⟨s,rfl,rfl,hs⟩:=DataW.trod_string ht h
 exact⟨s,.one (.lit _) rfl,by have:=hw s.data.toList.length (by simp [DataW.weights]);simpa using this⟩
theorem kN {H:Type} {e:TypeId}:∀{ds:List (DataW H)} {d:DataW H},d∈ds→∀n∈d.weights P e,n∈DataW.weightsAll P e ds
 |d0::ds,d,h,n,hn=>by
  simp only[DataW.weightsAll,List.mem_append]
  rcases List.mem_cons.1 h with rfl|h
  ·exact .inl hn
  ·exact .inr (kN h n hn)
theorem GB {α β:Type} {f:α→Option β}:∀{l:List α} {r:List β},l.mapM f=some r→r.length=l.length∧∀(j:Nat) (x:α),l[j]? =some x→f x=r[j]?:=by
 intro l
 induction l with
 |nil=>intro r h;simp at h;subst h;simp
 |cons x l ih=>
  intro r h
  rw[List.mapM_cons] at h
  cases hx:f x with
  |none=>rw[hx] at h;simp at h
  |some y=>
   rw[hx] at h
   cases hl:l.mapM f with
   |none=>rw[hl] at h;simp at h
   |some r'=>
    rw[hl] at h
    simp at h
    subst h
    obtain⟨h1,h2⟩:=ih hl
    refine⟨by simp [h1],fun j z hz=>?_⟩
    cases j with
    |zero=>simp at hz;subst hz;simp [hx]
    |succ j=>simp at hz;simpa using h2 j z hz
theorem qs {w:World} {a:Addr} {n:Nat} {cs:List Value} (h:w.cells? 0 a n=some cs):cs.length=n∧∀j,j<n→w.cell? (a.add j)=cs[j]?:=by
 unfold World.cells? at h
 rw[if_pos (Nat.zero_le _)] at h
 obtain⟨h1,h2⟩:=GB h
 refine⟨by simpa using h1,fun j hj=>?_⟩
 exact h2 j j (by simp [hj])
theorem Aj {w:World} {ad:Addr} {v:Value} (h:w.cell? ad=some v):ad.spot=none:=World.cell?_spot h
theorem Rd.slice {α:Type} {t e:TypeId} {k by':Nat} {enc:α→List PV} {ok:α→Prop} (ht:P.underlying t=some (.slice e)) (hk:P.cellsOf e=k) (hk0:0<k) (hb:P.bytesOf e=by') (hb0:0<by') (hen:∀a,(enc a).length=k) (h:Rd P e enc ok):
  Rd P t (fun l:List α=>[.slice k (l.map enc)]) (fun l=>l.length*by'≤reachBytes∧∀a∈l,ok a):=by
 intro H en w sp fuel cs x hx hw
 rcases DataW.trod_slice ht hx with ⟨rfl,rfl⟩|⟨a,len,cap,elems,rest,n,rfl,rfl,rfl,_,I6,Bo,J1,kT,_,_⟩
 ·refine⟨[],.one (nP k) rfl,by simp,by simp⟩
 ·have ug:(elems.length+rest.length)*by'≤reachBytes:=by
   have:=hw ((elems.length+rest.length)*by') (by simp [DataW.weights,ht,hb])
   exact this
  have NT:elems.length*by'≤reachBytes:=Nat.le_trans (Nat.mul_le_mul_right _ (by omega)) ug
  have hlen:elems.length≤140737488355328:=by
   have h1:elems.length*1≤elems.length*by':=Nat.mul_le_mul_left _ hb0
   have h2:reachBytes≤140737488355328:=by decide
   omega
  -- the elements,one by one
  have key:∀i,i<len→∃c a',w.cells? 0 (a.add (i*k)) k=some c∧Reads w c (enc a')∧ok a':=by
   intro i hi
   have h1:=kT i hi
   rw[hk] at h1
   have hi2:i<elems.length:=by omega
   rw[List.getElem?_eq_getElem hi2] at h1
   cases hc:w.cells? 0 (a.add (i*k)) k with
   |none=>rw[hc] at h1;simp at h1
   |some c=>
    rw[hc,Option.bind_some] at h1
    obtain⟨a',h2,h3⟩:=h en w sp n c elems[i] h1 (fun m hm=>hw m (by
     simp only[DataW.weights,ht,List.mem_cons,List.mem_append]
     exact .inr (.inl (kN (List.mem_map.2 ⟨elems[i],List.getElem_mem hi2,rfl⟩) m hm))))
    exact⟨c,a',rfl,h2,h3⟩
  have M5:∃l:List α,l.length=len∧∀i (a':α),l[i]? =some a'→∃c,w.cells? 0 (a.add (i*k)) k=some c∧Reads w c (enc a')∧ok a':=by
   clear kT hx J1 hw
   have:∀m,m≤len→∃l:List α,l.length=m∧∀i (a':α),l[i]? =some a'→∃c,w.cells? 0 (a.add (i*k)) k=some c∧Reads w c (enc a')∧ok a':=by
    intro m
    induction m with
    |zero=>intro _;exact⟨[],rfl,by simp⟩
    |succ m ih=>
     intro hm
     obtain⟨l,h1,h2⟩:=ih (by omega)
     obtain⟨c,a',h3,h4⟩:=key m (by omega)
     refine⟨l++ [a'],by simp [h1],fun i b hb=>?_⟩
     by_cases hi:i<l.length
     ·rw[List.getElem?_append_left hi] at hb;exact h2 i b hb
     ·rw[List.getElem?_append_right (by omega)] at hb
      have hi2:i=m:=by have:=(List.getElem?_eq_some_iff.1 hb).1;simp at this;omega
      subst hi2
      rw[h1] at hb
      simp at hb
      subst hb
      exact⟨c,h3,h4⟩
   exact this len (Nat.le_refl _)
  obtain⟨l,hl,hl2⟩:=M5
  have hle:l.length=elems.length:=by omega
  refine⟨l,.one ?_ rfl,by rw[hle];exact NT,fun b hb=>?_⟩
  ·have QL:l≠ []→a.spot=none:=by
    intro bx
    obtain⟨b,l',rfl⟩:=List.exists_cons_of_ne_nil bx
    obtain⟨c,h1,h2,_⟩:=hl2 0 b rfl
    obtain⟨h3,h4⟩:=qs h1
    have h5:=h4 0 hk0
    rw[List.getElem?_eq_getElem (by omega)] at h5
    have h6:=Aj h5
    simpa [Addr.add] using h6
   have q_:l≠ []→a.block<w.heap.size:=by
    intro bx
    obtain⟨b,l',rfl⟩:=List.exists_cons_of_ne_nil bx
    obtain⟨c,h1,h2,_⟩:=hl2 0 b rfl
    obtain⟨h3,h4⟩:=qs h1
    have h5:=h4 0 hk0
    rw[List.getElem?_eq_getElem (by omega)] at h5
    simp only[Nat.zero_mul,Addr.add,if_true] at h5
    unfold World.cell? at h5
    rcases Nat.lt_or_ge a.block w.heap.size with aM|tu
    ·exact aM
    ·rw[Array.getElem?_eq_none tu] at h5;simp at h5
   obtain⟨bl,off,spot⟩:=a
   have dq:∀(i j:Nat) (p:PV),cellAt (l.map enc) i j=some p→∃c:Value,w.cell? ⟨bl,off+i*k+j,none⟩=some c∧RP (fun _=>True) w c p∧c.oneCell'=true:=by
    intro i j p hp
    unfold cellAt at hp
    rw[List.getElem?_map] at hp
    cases wk:l[i]? with
    |none=>rw[wk] at hp;simp at hp
    |some b=>
     rw[wk] at hp
     simp at hp
     have bx:l≠ []:=by rintro rfl;simp at wk
     have hs0:spot=none:=QL bx
     subst hs0
     obtain⟨c,h1,h2,_⟩:=hl2 i b wk
     obtain⟨h3,h4⟩:=qs h1
     have hj:j<k:=by have:=(List.getElem?_eq_some_iff.1 hp).1;rw[hen] at this;exact this
     have h5:=h4 j hj
     rw[List.getElem?_eq_getElem (by omega)] at h5
     rw[dH,dH] at h5
     obtain⟨h6,h7⟩:=h2.2 j _ p (List.getElem?_eq_getElem (by omega)) hp
     exact⟨_,h5,h6,h7⟩
   refine .slice bl off (fun i j=>(w.cell? ⟨bl,off+i*k+j,none⟩).getD undef) (by simp [hl]) (by omega) (by omega) (fun bx=>?_) (fun c hc=>?_) (fun i j p hp=>?_) (fun i j p hp=>?_)
   ·have Lz:l≠ []:=by rintro rfl;simp at bx
    have hs0:spot=none:=QL Lz
    subst hs0
    exact⟨rfl,trivial,q_ Lz⟩
   ·obtain⟨b,_,rfl⟩:=List.mem_map.1 hc;exact hen b
   ·obtain⟨c,h1,h2,h3⟩:=dq i j p hp
    rw[h1];exact⟨rfl,h3⟩
   ·obtain⟨c,h1,h2,h3⟩:=dq i j p hp
    rw[h1];exact h2
  ·obtain⟨i,hi⟩:=List.getElem?_of_mem hb
   obtain⟨c,_,_,h3⟩:=hl2 i b hi
   exact h3
def FI (P:Program) (off n:Nat) (fs:List Field) {α:Type} (enc:α→List PV) (ok:α→Prop):Prop:=
 ∀{H:Type} (en:TypeId×Value→H) (w:World) (sp:Nat→Bool) (fuel:Nat) (cs:List Value) (xs:List (DataW H×List MemPlace)),xs.length=fs.length→
  (∀(i:Nat) (f:Field),fs[i]? =some f→DataW.trod en P w 0 sp true fuel f.type ((cs.drop f.offset).take (P.cellsOf f.type))=xs[i]?)→
  (∀m∈DataW.weightsEach P (fs.map (·.type)) (xs.map (·.1)),m≤reachBytes)→∃a:α,Reads w ((cs.drop off).take n) (enc a)∧ok a
theorem FI.nil {off:Nat}:FI P off 0 [] (fun _:Unit=>[]) (fun _=>True):=fun _ _ _ _ _ _ _ _ _=>⟨(),by simp;exact Reads.nil,trivial⟩
theorem FI.cons {off k n:Nat} {f:Field} {fs:List Field} {α β:Type} {e1:α→List PV} {o1:α→Prop} {e2:β→List PV} {o2:β→Prop} (Nu:f.offset=off) (hk:P.cellsOf f.type=k) (h1:Rd P f.type e1 o1) (h2:FI P (off+k) n fs e2 o2):
  FI P off (k+n) (f::fs) (fun p:α×β=>e1 p.1++e2 p.2) (fun p=>o1 p.1∧o2 p.2):=by
 intro H en w sp fuel cs xs hl hx hw
 cases xs with
 |nil=>simp at hl
 |cons y ys=>
  have h3:=hx 0 f rfl
  obtain⟨a,ha,ha2⟩:=h1 en w sp fuel _ y h3 (fun m hm=>hw m (by simp [DataW.weightsEach,hm]))
  obtain⟨b,hb,hb2⟩:=h2 en w sp fuel cs ys (by simpa using hl) (fun i f' hf=>by simpa using hx (i+1) f' (by simpa using hf)) (fun m hm=>hw m (by simp only[List.map_cons,DataW.weightsEach,List.mem_append];exact .inr hm))
  refine⟨(a,b),?_,ha2,hb2⟩
  rw[Nu,hk] at ha
  have e:(cs.drop off).take (k+n)=(cs.drop off).take k++(cs.drop (off+k)).take n:=by
   rw[List.take_add,List.drop_drop]
  rw[e]
  exact ha.append hb
theorem Rd.struct {t:TypeId} {fs:Array Field} {n:Nat} {α:Type} {enc:α→List PV} {ok:α→Prop} (ht:P.underlying t=some (.struct fs)) (hn:P.cellsOf t=n) (h:FI P 0 n fs.toList enc ok):Rd P t enc ok:=by
 intro H en w sp fuel cs x hx hw
 obtain⟨xs,m,rfl,rfl,dq,hl,kT⟩:=DataW.trod_struct ht hx
 obtain⟨a,ha,ha2⟩:=h en w sp m cs xs (by simpa using hl) (fun i f hf=>kT i f (by simpa using hf)) (fun k hk=>hw k (by simpa [DataW.weights,ht] using hk))
 rw[List.drop_zero,List.take_of_length_le (by omega)] at ha
 exact⟨a,ha,ha2⟩
theorem Rd.map {t:TypeId} {α β:Type} {e1:α→List PV} {o1:α→Prop} {e2:β→List PV} {o2:β→Prop} (h:Rd P t e1 o1) (f:α→β) (he:∀a,e1 a=e2 (f a)) (ho:∀a,o1 a→o2 (f a)):Rd P t e2 o2:=by
 intro H en w sp fuel cs x hx hw
 obtain⟨a,h1,h2⟩:=h en w sp fuel cs x hx hw
 exact⟨f a,he a▸h1,ho a h2⟩
section
variable {H:Type} {en:TypeId×Value→H} {w:World} {sp:Nat→Bool} {t:TypeId} {v:Value} {d:DataW H} {ps:List MemPlace} {α:Type} {enc:α→List PV} {ok:α→Prop}
theorem FP {p:α→PV} (h:Rd P t (fun a=>[p a]) ok) (ht:DataW.Trod en P w 0 sp true t v d ps) (hw:∀n∈d.weights P t,n≤reachBytes) (hv:v.cells.toList=[v]):∃a:α,RA (oO fun _=>True) w v (.pv (p a))∧ok a:=by
 obtain⟨fuel,hf⟩:=ht
 obtain⟨a,h1,h2⟩:=h en w sp fuel _ _ hf hw
 rw[hv] at h1
 exact⟨a,.pv (h1.2 0 v (p a) rfl rfl).1,h2⟩
theorem E4 (h:Rd P t enc ok) (ht:DataW.Trod en P w 0 sp true t v d ps) (hw:∀n∈d.weights P t,n≤reachBytes) {cs:Array Value} (hv:v=.agg cs):∃a:α,RA (oO fun _=>True) w v (.agg ((enc a).map .pv))∧ok a:=by
 subst hv
 obtain⟨fuel,hf⟩:=ht
 obtain⟨a,h1,h2⟩:=h en w sp fuel _ _ hf hw
 refine⟨a,.agg (by rw[List.length_map];exact h1.1) fun j u c h3 h4=>?_,h2⟩
 rw[List.getElem?_map,Option.map_eq_some_iff] at h4
 obtain⟨p,hp,rfl⟩:=h4
 exact .pv (h1.2 j u p (by simpa [Value.cells] using h3) hp).1
theorem okWide_struct {r:Reach} {b:Nat} {fs:Array Field} (ht:P.underlying t=some (.struct fs)) (h:Value.okWide P w r b t v):∃cs,v=.agg cs:=by
 unfold Value.okWide at h
 simp only[ht] at h
 obtain⟨cs,h,_⟩:=h
 exact⟨cs,h⟩
theorem uv {a:Option Addr} {l c:Nat}:(Value.slice a l c).cells.toList=[.slice a l c]:=rfl
end
theorem vk {H:Type} {ts ts':List TypeId} {ds gs:List (DataW H)} (h:(DataW.weightsEach P (ts++ts') (ds++gs)).all (·≤reachBytes)=true) {j:Nat} {t:TypeId} {d:DataW H} (ht:(ts++ts')[j]? =some t) (hd:(ds++gs)[j]? =some d):∀n∈d.weights P t,n≤reachBytes:=by
 intro n hn
 have:=(List.all_eq_true.1 h) n (DataW.weights_mem_each ht hd n hn)
 simpa using this
end Go.Ab
/- Equality of pairs;bools compared. -/
namespace Go.Ab
open Go Go.RowKit
variable {q:Md} {P:Program} {g:au} {δ:DS} {κ:Kp} {a:Act} {w:World}
variable {ops:Array Oper} {rest:List Oper} {Q:Exit→DS→Prop} {dst:Option Nat} {ty:TypeId} {pos:String} {af:Array Edge}
theorem yP (op:BinOp) (qA:op=.eql∨op=.neq) (t:TypeId) (x y:Operand) (ht:P.underlying t=some .bool) (m n:Bool) (w:World):
  (do eqGuard op t x y (.bool m) (.bool n);Go.binOp op t (.bool m) (.bool n):Sem Value).run P w=.ok (.bool (if op=.eql then decide (m=n) else decide (¬m=n))) w:=by
 have h1:(eqGuard op t x y (.bool m) (.bool n)).run P w=.ok () w:=by
  unfold eqGuard
  cases op<;>simp [Sem.run,pure,Sem.bind,bind]
 rw[Sem.run_bind,h1,Result.andThen_ok]
 have h2:=run_equalIn_bool' (P:=P) w 9999 t m n ht
 rcases qA with rfl|rfl
 ·simp [Go.binOp,Op.equal,Op.maxDepth,h2];cases m<;>cases n<;>rfl
 ·simp [Go.binOp,Op.equal,Op.maxDepth,h2];cases m<;>cases n<;>rfl
theorem aa.Mw {x y:Operand} {t t':TypeId} {m n:Bool} (hx:δ.ev x=aF m) (hy:δ.ev y=aF n) (ht:P.underlying t=some .bool) (ho:aK x=true) (ho':aK y=true) (hd:bn δ.n dst=true)
  (hK:aa q P g ops rest Q (δ.aw dst (aF (decide (m=n))))):aa q P g ops (⟨dst,.binOp .eql t x y t',ty,pos,af,none⟩::rest) Q δ:=
 aa.bin hx hy ho ho' (fun w=>yP _ (.inl rfl) t x y ht m n w) hd (by simpa using hK)
theorem aa.Mj {x y:Operand} {t t':TypeId} {m n:Bool} (hx:δ.ev x=aF m) (hy:δ.ev y=aF n) (ht:P.underlying t=some .bool) (ho:aK x=true) (ho':aK y=true) (hd:bn δ.n dst=true)
  (hK:aa q P g ops rest Q (δ.aw dst (aF (decide (¬m=n))))):aa q P g ops (⟨dst,.binOp .neq t x y t',ty,pos,af,none⟩::rest) Q δ:=
 aa.bin hx hy ho ho' (fun w=>yP _ (.inr rfl) t x y ht m n w) hd (by simpa using hK)
def JF:List PV→List AV
 |[]=>[]
 |p::r=> .pv p::JF r
theorem BL:∀l:List PV,l.map AV.pv=JF l
 |[]=>rfl
 |p::r=>by rw[List.map_cons,BL r];rfl
theorem Nf.Tc:JF []=[]:=rfl
theorem Nf.PS (p:PV) (r:List PV):JF (p::r)=.pv p::JF r:=rfl
theorem Nf.pl:∀l:List PV,l.map AV.pv=JF l:=BL
section
variable {α:Type} {f:α→List PV} {l:List α} {x y z:Operand} {t e:TypeId} {k:Nat} {m n:Int}
theorem aa.A_ (hx:δ.ev x=.pv (.slice k (l.map f))) (hz:δ.ev z=al m) (hy:δ.ev y=al n) (ht:P.underlying t=some (.slice e)) (hk:(P.info? e).map (·.size)=some k)
  (ho:aK x=true) (ho'':aK z=true) (ho':aK y=true) (hd:bn δ.n dst=true) (h0:0≤m) (Pz:m≤n) (hn:n≤l.length) (hK:aa q P g ops rest Q (δ.aw dst (.pv (.slice k (((l.drop m.toNat).take (n.toNat - m.toNat)).map f))))):
  aa q P g ops (⟨dst,.slice t x (some z) (some y) none,ty,pos,af,none⟩::rest) Q δ:=
 aa.Ea (m:=m.toNat) (n:=n.toNat) hx (by rw[hz,Int.toNat_of_nonneg h0]) (by rw[hy,Int.toNat_of_nonneg (by omega)]) ht hk ho ho'' ho' hd (by omega) (by omega) hK
theorem aa.se (hx:δ.ev x=.pv (.slice k (l.map f))) (hz:δ.ev z=al m) (ht:P.underlying t=some (.slice e)) (hk:(P.info? e).map (·.size)=some k)
  (ho:aK x=true) (ho'':aK z=true) (hd:bn δ.n dst=true) (h0:0≤m) (hn:m≤l.length) (hK:aa q P g ops rest Q (δ.aw dst (.pv (.slice k ((l.drop m.toNat).map f))))):
  aa q P g ops (⟨dst,.slice t x (some z) none none,ty,pos,af,none⟩::rest) Q δ:=
 aa.slice (l:=m.toNat) (h:=(l.map f).length) (hi:=none) (lo:=some z) hx ht hk ⟨ho'',by rw[hz,Int.toNat_of_nonneg h0]⟩ rfl (by simp;omega) (Nat.le_refl _) ho hd (by
  have:((l.map f).drop m.toNat).take ((l.map f).length - m.toNat)=(l.drop m.toNat).map f:=by
   rw[List.take_of_length_le (by simp),List.map_drop]
  rw[this];exact hK)
end
end Go.Ab
/- Drawn regions:an operation under a guard that is known to hold,taken first. -/
namespace Go.Ab
open Go Go.RowKit
attribute [local irreducible] HS
variable {P:Program} {g:au} {δ:DS} {l:List Oper} {late dn:List Nat} {k:Wt} {QD:Exit→DS→Prop}
end Go.Ab
/- The plain form's laws in one. -/
namespace Go.Ab
open Go Go.RowKit
set_option linter.defProp false in
def Nf.all:=And.intro @Nf.beq
 (And.intro @Nf.ble
 (And.intro @Nf.hs
 (And.intro @Nf.R9
 (And.intro @Nf.RG
 (And.intro @Nf.put
 (And.intro @Nf.PF
 (And.intro @Nf.add
 (And.intro @Nf.set
 (And.intro @Nf.pn
 (And.intro @Nf.pe
 (And.intro @Nf.po
 (And.intro @Nf.px
 (And.intro @Nf.Ov
 (And.intro @Nf.Oj
 (And.intro @Nf.NO
 (And.intro @Nf.L4
 (And.intro @Nf.Mo
 (And.intro @Nf.start
 (And.intro @Nf.P9
 (And.intro @Nf.P5
 (And.intro @Nf.nK
 (And.intro @Nf.Ex
 (And.intro @Nf.OO
 (And.intro @Nf.J4
 (And.intro @Nf.K5
 (And.intro @Nf.ME
 (And.intro @Nf.G8
 (And.intro @Nf.Rt
 (And.intro @Nf.Sz
 (And.intro @Nf.BS
 (And.intro @Nf.QZ
 (And.intro @Nf.RQ
 (And.intro @Nf.BU
 (And.intro @Nf.SM
 (And.intro @Nf.R3
 (And.intro @Nf.Ri
 (And.intro @Nf.Sf
 (And.intro @Nf.Su
 (And.intro @Nf.RU
 (And.intro @Nf.pa
 (And.intro @Nf.Sp
 (And.intro @Nf.Kj
 (And.intro @Nf.round
 (And.intro @Nf.mv
 (And.intro @Nf.S0
 (And.intro @Nf.Sb
 (And.intro @Nf.Tj
 (And.intro @Nf.R5
 (And.intro @Nf.S7
 (And.intro @Nf.R6
 (And.intro @Nf.S3
 (And.intro @Nf.RZ
 (And.intro @Nf.Sw (And.intro @Nf.R_
 (And.intro @Nf.SN
 (And.intro @Nf.Q_
 (And.intro @Nf.QV
 (And.intro @Nf.Tf
 (And.intro @Nf.LD
 (And.intro @Nf.OQ
 (And.intro @Nf.LJ
 (And.intro @Nf.HT
 (And.intro @Nf.H4
 (And.intro @Nf.Kx
 (And.intro @Nf.Kg
 (And.intro @Nf.Ix
 (And.intro @Nf.KT
 (And.intro @Nf.LH
 (And.intro @Nf.LY
 (And.intro @Nf.JC
 (And.intro @Nf.K0
 (And.intro @Nf.I1
 (And.intro @Nf.IE
 (And.intro @Nf.Jq
 (And.intro @Nf.EO
 (And.intro @Nf.IH
 (And.intro @Nf.F1
 (And.intro @Nf.t_
 (And.intro @Nf.RH
 (And.intro @Nf.S1
 (And.intro @Nf.R4
 (And.intro @Nf.SX
 (And.intro @Nf.Ru
 (And.intro @Nf.Sn
 (And.intro @Nf.Td
 (And.intro @Nf.RT
 (And.intro @Nf.Rc
 (And.intro @Nf.SD
 (And.intro @Nf.Qy
 (And.intro @Nf.RR
 (And.intro @Nf.PH
 (And.intro @Nf.PA
 (And.intro @Nf.NQ
 (And.intro @Nf.Sv
 (And.intro @Nf.RM
 (And.intro @Nf.Rk
 (And.intro @Nf.SP
 (And.intro @Nf.Rj
 (And.intro @Nf.fd
 (And.intro @Nf.KK
 (And.intro @Nf.Pk
 (And.intro @Nf.J3
 (And.intro @Nf.Hx
 (And.intro @Nf.H5
 (And.intro @Nf.Lq
 (And.intro @Nf.Ma
 (And.intro @Nf.Ie
 (And.intro @Nf.LA
 (And.intro @Nf.KR
 (And.intro @Nf.Me
 (And.intro @Nf.pl
 (And.intro @Nf.Tc ((@Nf.PS))))))))))))))))))))))))))))))))))))))))))))))))))))))))))))))))))))))))))))))))))))))))))))))))))))))))))))))))))
end Go.Ab
/- A number turned into an int. -/
namespace Go.Ab
open Go Go.RowKit
variable {P:Program} {g:au} {δ:DS} {q:Md}
variable {ops:Array Oper} {rest:List Oper} {Q:Exit→DS→Prop} {dst:Option Nat} {ty:TypeId} {pos:String} {af:Array Edge}
end Go.Ab
/- One shifted left by a number;bool slices. -/
namespace Go.Ab
open Go Go.RowKit
variable {P:Program} {g:au} {δ:DS} {q:Md}
variable {ops:Array Oper} {rest:List Oper} {Q:Exit→DS→Prop} {dst:Option Nat} {ty:TypeId} {pos:String} {af:Array Edge}
theorem Fu (t:TypeId) (x y:Operand) (m n:Int) (h0:0≤n) (h1:n<64) (w:World):
  (do eqGuard .shl t x y (.int .i64 m) (.int .i64 n);Go.binOp .shl t (.int .i64 m) (.int .i64 n):Sem Value).run P w=.ok (.int .i64 (IntKind.i64.wrap (m*2 ^ n.toNat))) w:=by
 have h1:(eqGuard .shl t x y (.int .i64 m) (.int .i64 n)).run P w=.ok () w:=by
  unfold eqGuard
  simp [Sem.run,pure,Sem.bind,bind]
 have h2:Go.binOp .shl t (.int .i64 m) (.int .i64 n)=.pure (.int .i64 (IntKind.i64.wrap (m*2 ^ n.toNat))):=by
  have h3:¬n<0:=by omega
  have h4:n.toNat<64:=by omega
  simp [Go.binOp,Op.shift,h3,IntKind.bits,h4,Int.shiftLeft_eq]
  first|rfl|done
 simp only[Sem.run_bind,h1,Result.andThen_ok,h2]
 rfl
theorem aa.shl {x y:Operand} {t t':TypeId} {m n:Int} (hx:δ.ev x=al m) (hy:δ.ev y=al n) (ho:aK x=true) (ho':aK y=true) (hd:bn δ.n dst=true) (h0:0≤n∧n<64)
  (hK:aa q P g ops rest Q (δ.aw dst (al (IntKind.i64.wrap (m*2 ^ n.toNat))))):aa q P g ops (⟨dst,.binOp .shl t x y t',ty,pos,af,none⟩::rest) Q δ:=
 aa.bin hx hy ho ho' (Fu _ _ _ _ _ h0.1 h0.2) hd hK
end Go.Ab
/- A slice made with make:a row of zeros. -/
namespace Go.Ab
open Go Go.RowKit
variable {P:Program} {g:au} {δ:DS} {q:Md}
variable {ops:Array Oper} {rest:List Oper} {Q:Exit→DS→Prop} {dst:Option Nat} {ty:TypeId} {pos:String} {af:Array Edge}
theorem dv.lR {gd:Option (Tmp×Bool)} {t e:TypeId} {x y:Operand} {m:Int} {z:Value} {by':Nat} (hx:δ.ev x=al m) (hy:δ.ev y=al m) (ht:P.underlying t=some (.slice e)) (hi:(P.info? e).map (fun i=>(i.size,i.zero,i.bytes))=some (1,some z,by')) (Pg:z.cells= #[z]) (h1:z.oneCell'=true) (hb:Nat.ble by' 64=true)
  (ho:aK x=true) (ho':aK y=true) (hd:bn δ.n dst=true) (hm:0≤m∧m≤100000):
  dv P g ⟨dst,.makeSlice t x y,ty,pos,af,gd⟩ δ ((δ.bf .row).aw dst (.own δ.nx e 1 (List.replicate m.toNat [.lit z]))):=by
 intro κ a w r
 have hb':by'≤64:=by simpa using hb
 obtain⟨i0,dF,hs0,hz0,hb0⟩:∃i0,P.info? e=some i0∧i0.size=1∧i0.zero=some z∧i0.bytes=by':=by
  cases h:P.info? e with
  |none=>rw[h] at hi;simp at hi
  |some i0=>rw[h] at hi;simp at hi;exact⟨i0,rfl,hi.1,hi.2.1,hi.2.2⟩
 have Hg:=r.lit hx ho
 have Oa:=r.lit hy ho'
 have JI:IntKind.i64.wrap m=m:=IntWalk.i64_in _ (by omega)
 generalize hc':((Array.range m.toNat).map (fun _=>z))=c'
 have kG:c'.size=m.toNat:=by rw[← hc'];simp
 have hmul:by'*m.toNat≤6400000:=by
  have h1:by'*m.toNat≤64*m.toNat:=Nat.mul_le_mul_right _ hb'
  omega
 have hmulI:(by':Int)*m≤6400000:=by
  have:((by'*m.toNat:Nat):Int)≤6400000:=by omega
  rw[Int.natCast_mul,Int.toNat_of_nonneg hm.1] at this
  exact this
 have aV:(execOp a.eval ⟨dst,.makeSlice t x y,ty,pos,af,gd⟩).run P w=.ok (.value (.slice (some ⟨w.heap.size,0,none⟩) m.toNat m.toNat)) (w.alloc (.cells c' e)):=by
  have gu:∀w,(typeInfo e).run P w=.ok i0 w:=fun w=>by simp [typeInfo,dF]
  have wg:∀w,(zeroValue e).run P w=.ok z w:=fun w=>by simp [zeroValue,typeInfo,dF,hz0]
  have JQ:∀w,(sizeOf e).run P w=.ok 1 w:=fun w=>by simp [sizeOf,typeInfo,dF,hs0]
  have has:∀w,(asInt (.int .i64 m)).run P w=.ok m w:=fun w=>by simp [asInt,asIntOf,Sem.run_bind,Sem.run_pure,Result.andThen_ok]
  have Ij:¬(by':Int)*m>2 ^ 48:=by
   have:(2:Int) ^ 48=281474976710656:=by decide
   omega
  have sV:¬m<0:=by omega
  have ff:¬m.toNat*by'>roomBytes:=by
   have:(6400000:Nat)≤roomBytes:=by decide
   have h2:m.toNat*by'=by'*m.toNat:=Nat.mul_comm _ _
   omega
  have RL:(Array.range (m.toNat*1)).map (fun j=>(#[z]:Array Value)[j % (#[z]:Array Value).size]!)=c':=by
   rw[← hc',Nat.mul_one]
   apply Array.ext
   ·simp
   ·intro i h1 h2
    simp [Nat.mod_one]
  simp only[execOp,Instr.makeSlice,Sem.run_bind,Result.andThen_ok,run_underlying ht,Hg,Oa,has,gu,hb0,JI]
  simp only[decide_eq_false Ij,decide_eq_false sV,Bool.or_false,Bool.false_or,Int.lt_irrefl,decide_false,gt_iff_lt,Bool.false_eq_true,if_false,askRoom,Sem.run_pure,Result.andThen_ok,Sem.run_bind]
  have wT:¬roomBytes<m.toNat*by':=ff
  simp only[if_neg wT,Sem.run_pure,Result.andThen_ok,JQ]
  by_cases h0:m.toNat*1=0
  ·have Ik:(Array.range (m.toNat*1)).map (fun j=>(#[]:Array Value)[j % (#[]:Array Value).size]!)=c':=by
    rw[← hc',h0,show m.toNat=0 from by omega];simp [Array.range_zero']
   simp only[if_pos h0,Sem.run_bind,Sem.run_pure,Result.andThen_ok,newRow]
   simp only[pure_bind,Ik]
   rfl
  ·simp only[if_neg h0,Sem.run_bind,Sem.run_pure,Result.andThen_ok,wg,newRow,Pg,RL]
   rfl
 have iG:m.toNat≤maxLen:=by simp only[maxLen];omega
 obtain⟨r',G⟩:=r.grow .row (.cells c' e) (fun C G hκ b hb=>by
  have:w.heap.size=b:=Option.some.inj (hκ.symm.trans hb)
  subst this
  exact⟨c',e,heap_alloc_new w _⟩)
 have bO:=World.ownsRow_lit (base:=g.B) (e:=e) (size:=1) w c' m.toNat r.hB iG (by rw[kG];omega)
 have kT:∀(j:Nat) (u:Value),c'.toList[j]? =some u→u=z:=by
  intro j u h
  rw[← hc'] at h
  simp at h
  exact h.2.symm
 refine .inl ⟨_,_,_,_,aV,.inl rfl,r'.aw (aS hd) (.own ?_)⟩
 refine⟨by show(δ.bf .row).ob _=_;rw[bt,if_pos rfl],by rw[List.length_replicate];omega,fun c hc=>by rw[List.eq_of_mem_replicate hc];rfl,fun b hb=>?_,c'.toList,by rw[List.length_replicate];exact bO,fun u hu=>?_,fun i' j p hp'=>?_⟩
 ·simp only[Value.ownBlock,Option.some.injEq] at hb
  subst hb
  show cA _ _ _ _=_
  simp [cA]
 ·obtain⟨j,hj⟩:=List.getElem?_of_mem hu
  rw[kT j u hj];exact h1
 ·unfold cellAt at hp'
  have hi:i'<m.toNat:=by
   rcases Nat.lt_or_ge i' m.toNat with h|h
   ·exact h
   ·rw[List.getElem?_eq_none (by simpa using h)] at hp';simp at hp'
  rw[List.getElem?_replicate,if_pos hi] at hp'
  have hj:j=0∧p=.lit z:=by
   cases j with
   |zero=>simp at hp';exact⟨rfl,hp'.symm⟩
   |succ j=>simp at hp'
  obtain⟨rfl,rfl⟩:=hj
  refine⟨z,?_,.lit _⟩
  rw[Array.getElem?_toList,← hc']
  simp [hi]
end Go.Ab
namespace Go.Ab
open Go Go.RowKit
variable {P:Program} {g:au} {δ:DS} {q:Md}
variable {ops:Array Oper} {rest:List Oper} {Q:Exit→DS→Prop} {dst:Option Nat} {ty:TypeId} {pos:String} {af:Array Edge}
theorem aa.lR {t e:TypeId} {x y:Operand} {m:Int} {z:Value} {by':Nat} (hx:δ.ev x=al m) (hy:δ.ev y=al m) (ht:P.underlying t=some (.slice e)) (hi:(P.info? e).map (fun i=>(i.size,i.zero,i.bytes))=some (1,some z,by')) (Pg:z.cells= #[z]) (h1:z.oneCell'=true) (hb:Nat.ble by' 64=true)
  (ho:aK x=true) (ho':aK y=true) (hd:bn δ.n dst=true) (hm:0≤m∧m≤100000) (hK:aa .plain P g ops rest Q ((δ.bf .row).aw dst (.own δ.nx e 1 (List.replicate m.toNat [.lit z])))):
  aa .plain P g ops (⟨dst,.makeSlice t x y,ty,pos,af,none⟩::rest) Q δ:=aa.n9 rfl rfl (dv.lR hx hy ht hi Pg h1 hb ho ho' hd hm) hK
end Go.Ab
/- A store into an element of a row of the walk's own (elements of one cell). -/
namespace Go.Ab
open Go Go.RowKit
variable {P:Program} {g:au} {δ:DS} {q:Md}
variable {ops:Array Oper} {rest:List Oper} {Q:Exit→DS→Prop} {dst:Option Nat} {ty:TypeId} {pos:String} {af:Array Edge}
def lX (i n:Nat) (c:List PV):AV→AV
 |.own j e k els=>bif Nat.beq i j then (bif Nat.beq k 1 then .own j e k (els.set n c) else .any) else .own j e k els
 |.optr j e k els m=>bif Nat.beq i j then .any else .optr j e k els m
 |v=>v
def AV.gD (i n:Nat) (c:List PV):AV→AV:=AV.mp (lX i n c)
theorem dv.bQ {gd:Option (Tmp×Bool)} {x y:Operand} {t e:TypeId} {i idx:Nat} {els:List (List PV)} {p:PV} (hx:δ.ev x=.optr i e 1 els idx) (hy:δ.ev y=.pv p) (hr:δ.ob i=some .row) (ht:(P.info? t).map (·.size)=some 1) (h1:AV.one (.pv p)=true)
  (ho:aK x=true) (ho':aK y=true) (hd:bn δ.n dst=true):
  dv P g ⟨dst,.store t x y,ty,pos,af,gd⟩ δ ((δ.cw (AV.gD i idx [p])).aw dst .any):=by
 intro κ a w r
 have QB:=r.ra hx ho
 have sa:=r.ra hy ho'
 have lk:=sa.one h1
 generalize Hg:a.eval x=u at QB
 cases QB with
 | @optr _ _ _ _ _ b cap hi h=>
  have hκ:κ i=some b:=h.blk b rfl
  obtain⟨xs,⟨q9,cp⟩,Tk,Nz⟩:=h.row
  rcases cp with ⟨hn,_⟩|⟨g0,cap0,cur,hv,hg,h3,hle,Bo,kG,ot⟩
  ·cases hn
  ·simp only[Value.slice.injEq,Option.some.injEq,Addr.mk.injEq] at hv
   obtain⟨⟨rfl,_⟩,_,rfl⟩:=hv
   have aV:(execOp a.eval ⟨dst,.store t x y,ty,pos,af,gd⟩).run P w=.ok .skip (w.setCell ⟨b,idx*1,none⟩ (a.eval y)):=by
    obtain⟨i0,dF,hs0⟩:∃i0,P.info? t=some i0∧i0.size=1:=by
     cases h:P.info? t with
     |none=>rw[h] at ht;simp at ht
     |some i0=>rw[h] at ht;exact⟨i0,rfl,by simpa using ht⟩
    have hc:w.cell? ⟨b,idx*1,none⟩=some (cur[idx*1]'(by omega)):=by rw[cell_of h3,Array.getElem?_eq_getElem (by omega)]
    have de:(store ⟨b,idx*1,none⟩ (a.eval y)).run P w=.ok () (w.setCell ⟨b,idx*1,none⟩ (a.eval y)):=by
     rw[run_store P w _ _ _ lk,hc];simp [jb h3]
    rw[Nat.mul_one] at de ⊢
    rw[Nat.mul_one] at Hg
    simp [execOp,Instr.storeAt,Instr.sureAddr,storeVar,Hg,gZ lk,sizeOf,typeInfo,dF,hs0,storeCells,dH,de]
   obtain⟨r',G⟩:=r.row hr (κ':=κ) (fun _ _=>rfl) (by rw[hκ];exact c7.setCell w ⟨b,idx*1,none⟩ (a.eval y)) (fun b' hb'=>by
     have e1:b=b':=Option.some.inj (hκ.symm.trans hb')
     subst e1
     refine⟨.inl hκ,?_,_,_,fC h3 _⟩
     have:=(Array.getElem?_eq_some_iff.1 (fC (off:=idx*1) h3 (a.eval y))).1
     exact this)
    (AV.gD i idx [p]) rfl (fun G v av J7=>by
     refine J7.mp G rfl (fun j e' k' els' hj=>?_) (fun j e' k' els' n hj=>?_) (fun v' e' k' els' ho2=>?_) (fun b' cap' e' k' els' n _ _=>?_)
     ·simp only[lX,gA (Ne.symm hj)];rfl
     ·simp only[lX,gA (Ne.symm hj)];rfl
     ·simp only[lX,iU,cond_true]
      cases hk1:Nat.beq k' 1 with
      |false=>exact .any _
      |true=>
       obtain rfl:k'=1:=Nat.eq_of_beq_eq_true hk1
       obtain⟨xs',⟨Ng,oo⟩,PJ,OY⟩:=ho2.row
       refine .own ⟨?_,by rw[List.length_set];exact ho2.lim,?_,ho2.blk,xs'.set idx (a.eval y),?_,?_,?_⟩
       ·show(δ.cw _).ob i=_
        rw[e_,hr];rfl
       ·intro c hc
        rcases List.mem_or_eq_of_mem_set hc with hc|rfl
        ·exact ho2.hk c hc
        ·rfl
       ·rw[List.length_set]
        refine⟨by rw[List.length_set];exact Ng,?_⟩
        rcases oo with ⟨hn,h0⟩|⟨g1,cap1,cur1,hv1,hg1,h31,OD,NF,NW,N9⟩
        ·exact .inl ⟨hn,h0⟩
        ·have hb1:κ i=some g1:=ho2.blk g1 (by rw[hv1];rfl)
         have e1:b=g1:=Option.some.inj (hκ.symm.trans hb1)
         subst e1
         rw[h3] at h31
         simp only[Option.some.injEq,Obj.cells.injEq] at h31
         obtain⟨rfl,rfl,_⟩:=h31
         refine .inr ⟨b,cap1,_,hv1,hg1,fC h3 _,OD,NF,by simpa using NW,?_⟩
         rw[← N9,Array.toList_setIfInBounds,Nat.mul_one,Nat.mul_one,List.take_set]
       ·intro u hu
        rcases List.mem_or_eq_of_mem_set hu with hu|rfl
        ·exact PJ u hu
        ·exact lk
       ·intro i' j q hq
        unfold cellAt at hq
        rw[List.getElem?_set] at hq
        by_cases F8:idx=i'
        ·subst F8
         by_cases aM:idx<els'.length
         ·rw[if_pos rfl,if_pos aM] at hq
          have RY:j=0∧q=p:=by
           cases j with
           |zero=>simp at hq;exact⟨rfl,hq.symm⟩
           |succ j=>simp at hq
          obtain⟨rfl,rfl⟩:=RY
          refine⟨a.eval y,?_,G.rp (C:=(δ.cx g κ).less i) sa.gv⟩
          rw[List.getElem?_set,if_pos (by omega),if_pos (by omega)]
         ·rw[if_pos rfl,if_neg aM] at hq;simp at hq
        ·rw[if_neg F8] at hq
         obtain⟨u,hu,hu2⟩:=OY i' j q (by unfold cellAt;exact hq)
         have hj:j=0:=by
          rw[Option.bind_eq_some_iff] at hq
          obtain⟨c,hc1,hc2⟩:=hq
          have:=ho2.hk c (List.mem_of_getElem? hc1)
          have:=(List.getElem?_eq_some_iff.1 hc2).1
          omega
         subst hj
         exact⟨u,by rw[List.getElem?_set,if_neg (by omega)];exact hu,G.rp (C:=(δ.cx g κ).less i) hu2⟩
     ·simp only[lX,iU,cond_true];exact .any _)
   exact .inl ⟨_,_,_,_,aV,.inr ⟨rfl,rfl⟩,r'.aw (aS hd) (.any _)⟩
theorem aa.bQ {x y:Operand} {t e:TypeId} {i idx:Nat} {els:List (List PV)} {p:PV} (hx:δ.ev x=.optr i e 1 els idx) (hy:δ.ev y=.pv p) (hr:δ.ob i=some .row) (ht:(P.info? t).map (·.size)=some 1) (h1:AV.one (.pv p)=true)
  (ho:aK x=true) (ho':aK y=true) (hd:bn δ.n dst=true) (hK:aa .plain P g ops rest Q ((δ.cw (AV.gD i idx [p])).aw dst .any)):aa .plain P g ops (⟨dst,.store t x y,ty,pos,af,none⟩::rest) Q δ:=
 aa.n9 rfl rfl (dv.bQ hx hy hr ht h1 ho ho' hd) hK
end Go.Ab
/- A field of an element of a row of the walk's own,read;a store of a whole element of several cells into such a row. -/
namespace Go.Ab
open Go Go.RowKit
variable {P:Program} {g:au} {δ:DS} {q:Md}
variable {ops:Array Oper} {rest:List Oper} {Q:Exit→DS→Prop} {dst:Option Nat} {ty:TypeId} {pos:String} {af:Array Edge}
inductive wq:Bool→List AV→List AV→Prop
 |nil:wq false [] []
 |here {b:Bool} {vs vs':List AV} (h:wq b vs vs'):wq true (.pv (.lit (.slice none 0 0))::vs) (.pv (.slice 1 [])::vs')
 |skip {b:Bool} {v:AV} {vs vs':List AV} (h:wq b vs vs'):wq b (v::vs) (v::vs')
theorem I4 {C:Cx} {w:World} {v:Value} (h:RA C w v (.pv (.lit (.slice none 0 0)))) (k:Nat):RA C w v (.pv (.slice k [])):=by
 have h1:=h.lit
 subst h1
 exact .pv (.slice 0 0 (fun _ _=>undef) rfl (by simp) (by simp) (fun h=>absurd rfl h) (fun c hc=>by simp at hc) (fun i j p hp=>by simp [cellAt] at hp) (fun i j p hp=>by simp [cellAt] at hp))
theorem wq.ra {C:Cx} {w:World} {b:Bool} {vs vs':List AV} (h:wq b vs vs'):vs.length=vs'.length∧∀(j:Nat) (u:Value) (c c':AV),vs[j]? =some c→vs'[j]? =some c'→RA C w u c→RA C w u c':=by
 induction h with
 |nil=>exact⟨rfl,fun j u c c' h=>by simp at h⟩
 |here h ih=>
  refine⟨by simp [ih.1],fun j u c c' h1 h2 h3=>?_⟩
  cases j with
  |zero=>simp at h1 h2;subst h1;subst h2;exact I4 h3 1
  |succ j=>exact ih.2 j u c c' (by simpa using h1) (by simpa using h2) h3
 |skip h ih=>
  refine⟨by simp [ih.1],fun j u c c' h1 h2 h3=>?_⟩
  cases j with
  |zero=>simp at h1 h2;subst h1;subst h2;exact h3
  |succ j=>exact ih.2 j u c c' (by simpa using h1) (by simpa using h2) h3
theorem aa.A2 {x y:Operand} {t e:TypeId} {k:Nat} {m:Int} {ik:IntKind} {els:List (List PV)} {cs:List PV} (hx:δ.ev x=.pv (.slice k els)) (hy:δ.ev y=.pv (.lit (.int ik m))) (hn:els[m.toNat]? =some cs)
  (ht:P.underlying t=some (.slice e)) (hk:(P.info? e).map (·.size)=some k) (ho:aK x=true) (ho':aK y=true) (hd:bn δ.n dst=true) (h0:0≤m)
  (hK:aa q P g ops rest Q (δ.aw dst (.rptr cs))):aa q P g ops (⟨dst,.indexAddr t x y,ty,pos,af,none⟩::rest) Q δ:=
 aa.vo (n:=m.toNat) hx (by rw[hy,Int.toNat_of_nonneg h0]) hn ht hk ho ho' hd hK
def jn (i:Nat):List Nat→Bool
 |[]=>false
 |j::r=>bif i==j then true else jn i r
def lE (ks:List Nat):List (Nat×AV)→List (Nat×AV)
 |[]=>[]
 |(i,v)::r=>bif jn i ks then (i,v)::lE ks r else lE ks r
theorem K6 (ks:List Nat):lE ks []=[]:=rfl
theorem G_ (ks:List Nat) (i:Nat) (v:AV) (r:List (Nat×AV)):lE ks ((i,v)::r)=bif jn i ks then (i,v)::lE ks r else lE ks r:=rfl
theorem CW (i:Nat):jn i []=false:=rfl
theorem uZ (i j:Nat) (r:List Nat):jn i (j::r)=bif i==j then true else jn i r:=rfl
theorem so (ks:List Nat):∀(e:List (Nat×AV)) (j:Nat),look (lE ks e) j=if jn j ks=true then look e j else .any
 |[],j=>by simp [lE,look]
 |(i,v)::r,j=>by
  rw[G_]
  have ih:=so ks r j
  cases hm:jn i ks with
  |true=>
   rw[cond_true,a7,a7]
   by_cases e:i=j
   ·subst e;rw[if_pos rfl,if_pos rfl,if_pos hm]
   ·rw[if_neg e,if_neg e,ih]
  |false=>
   rw[cond_false,a7,ih]
   by_cases e:i=j
   ·subst e;rw[if_neg (by rw[hm];simp),if_neg (by rw[hm];simp)]
   ·rw[if_neg e]
theorem AW.G2 (id m:Nat) (ks:List Nat) {b:Bool} {l:Array Oper} (_h:Nat.blt m δ.env.length=true) (hK:AW P g (.region id l b) Q {δ with env:=lE ks δ.env}):AW P g (.region id l b) Q δ:=by
 intro κ a w r
 refine hK κ a w ?_
 exact
  {n:=r.n,dfr:=r.dfr
   env:=fun j=>by
    show RA _ w _ (look (lE ks δ.env) j)
    rw[so]
    split
    ·exact r.env j
    ·exact .any _
   obj:=r.obj,inj:=r.inj,lo:=r.lo,nx:=r.nx,wt:=r.wt,below:=r.below,hB:=r.hB,N0:=r.N0,fr:=r.fr,mkf:=r.mkf}
theorem bq.Jf {gd:Option (Tmp×Bool)} {t:TypeId} {parts:List (Nat×Operand)} {fs:Array Field} {z:Value} {cells:List AV} (hs:P.underlying t=some (.struct fs)) (hz:(P.info? t).bind (·.zero)=some z) (h1:z.cells.toList.all (·.oneCell')=true) (dV:fs.toList.all (fun f=>(P.info? f.type).isSome)=true)
  (ho:parts.all (fun p=>aK p.2)=true) (hf:dL (placeOf P fs) (z.cells.toList.map fun v=> .pv (.lit v)) (parts.map fun p=>(p.1,δ.ev p.2))=some cells):
  bq P ⟨dst,.build t parts.toArray,ty,pos,af,gd⟩ δ (.agg cells):=by
 intro g κ a w r
 obtain⟨i0,dF,hz0⟩:∃i0,P.info? t=some i0∧i0.zero=some z:=by
  cases h:P.info? t with
  |none=>rw[h] at hz;simp at hz
  |some i0=>rw[h] at hz;exact⟨i0,rfl,by simpa using hz⟩
 have BK:=fun w1=>run_places (P:=P) fs.toList w1 #[] dV
 obtain⟨c',h2,h3⟩:=jr (C:=δ.cx g κ) (w:=w) (place:=placeOf P fs) (place':=fun i=>((#[]:Array (Nat×Nat))++(fs.toList.map fun f=>(f.offset,((P.info? f.type).map (·.size)).getD 0)).toArray)[i]?)
  (fun i x h=>by
   unfold placeOf at h
   cases EE:fs[i]? with
   |none=>rw[EE] at h;simp at h
   |some f=>
    rw[EE] at h
    simp only[Option.bind_some,Option.map_eq_some_iff] at h
    obtain⟨ii,h4,rfl⟩:=h
    simp [EE,h4])
  (parts.map fun p=>(p.1,a.eval p.2)) (parts.map fun p=>(p.1,δ.ev p.2)) z.cells _ cells (by simp) (fun j x y h4 h5=>by
   simp only[List.getElem?_map,Option.map_eq_some_iff] at h4 h5
   obtain⟨p,h6,rfl⟩:=h4
   obtain⟨p',h7,rfl⟩:=h5
   rw[h6] at h7;cases h7
   exact⟨rfl,r.xj p.2 (c_ (by simpa using (List.all_eq_true.1 ho) p (List.mem_of_getElem? h6)))⟩)
  ⟨by simp,fun j u av h4 h5=>by
   simp only[List.getElem?_map,Option.map_eq_some_iff] at h5
   obtain⟨v,h5,rfl⟩:=h5
   have:v=u:=by have:=h4;rw[← Array.getElem?_toList,h5] at this;exact Option.some.inj this
   subst this
   exact⟨.pv (.lit _),by simpa using (List.all_eq_true.1 h1) _ (List.mem_of_getElem? h5)⟩⟩ hf
 refine⟨.agg c',fun w1=>?_,.agg h3.1 fun j u c h4 h5=>(h3.2 j u c h4 h5).1⟩
 have I5:(fs.mapM fun(f:Field)=>(do pure (f.offset,← sizeOf f.type):Sem (Nat×Nat)))=fs.toList.foldlM (fun(acc:Array (Nat×Nat)) (f:Field)=>do let s ← sizeOf f.type;pure (acc.push (f.offset,s))) #[]:=by
  rw[Array.mapM_eq_foldlM,← Array.foldlM_toList]
  congr 1
  funext acc f
  simp
 have wg:∀w,(zeroValue t).run P w=.ok z w:=fun w=>by simp [zeroValue,typeInfo,dF,hz0]
 simp only[execOp,Instr.build,Sem.run_bind,wg,Result.andThen_ok,run_underlying hs,I5,BK,List.map_toArray,h2,Sem.run_pure]
theorem bq.build (t:TypeId) (offs:List Nat) {gd:Option (Tmp×Bool)} {l:List Value} {parts:List (Nat×Operand)} {fs:Array Field} {z:Value} {cells:List AV} (hs:P.underlying t=some (.struct fs)) (hz:(P.info? t).bind (·.zero)=some z) (hl:z.cells=l.toArray) (h1:z.cells.toList.all (·.oneCell')=true) (dV:fs.toList.all (fun f=>(P.info? f.type).isSome)=true)
  (ho:parts.all (fun p=>aK p.2)=true) (mm:((parts.map fun p=>(p.1,δ.ev p.2)).map fun p=>(placeOf P fs p.1).map (·.1))=offs.map some) (hf:dL (placeOf P fs) (z.cells.toList.map fun v=> .pv (.lit v)) (parts.map fun p=>(p.1,δ.ev p.2))=some cells):
  bq P ⟨dst,.build t parts.toArray,ty,pos,af,gd⟩ δ (.agg (nJ (uL l) (m_ δ.env offs parts))):=by
 have h2:=bq.Jf (gd:=gd) (dst:=dst) (ty:=ty) (pos:=pos) (af:=af) hs hz h1 dV ho hf
 have:=nY _ offs _ cells hf mm
 rw[tD,hl,List.toList_toArray,pw] at this
 rw[← this]
 exact h2
end Go.Ab
/- The rest of a row of statements walked once,from a weaker state. -/
namespace Go.Ab
open Go Go.RowKit
variable {P:Program} {g:au} {δ δc:DS} {Q:Exit→DS→Prop} {c rest:Code}
theorem AW.cut (h:AW P g c (ed fun δ'=>kd g δ' δc) δ) (hK:AW P g rest Q δc):AW P g (.seq c rest) Q δ:=by
 refine AW.seq (AW.mono h fun e δ' h1=>?_)
 cases e with
 |normal=>exact AW.aO h1 hK
 |_=>exact h1.elim
end Go.Ab
namespace Go.Ab
open Go Go.RowKit
end Go.Ab
/- The address of an array's element. -/
namespace Go.Ab
open Go Go.RowKit
variable {P:Program} {g:au} {δ:DS} {q:Md}
variable {ops:Array Oper} {rest:List Oper} {Q:Exit→DS→Prop} {dst:Option Nat} {ty:TypeId} {pos:String} {af:Array Edge}
theorem aa.pU {α:Type} {x y:Operand} {t e e':TypeId} {i k n:Nat} {f:α→List PV} {l:List α} (hx:δ.ev x=.own i e' k (l.map f)) (hy:δ.ev y=al (n:Nat))
  (ht:P.underlying t=some (.slice e)) (hk:(P.info? e).map (·.size)=some k) (ho:aK x=true) (ho':aK y=true) (hd:bn δ.n dst=true) (hn:n<l.length)
  (hK:aa q P g ops rest Q (δ.aw dst (.optr i e' k (l.map f) n))):aa q P g ops (⟨dst,.indexAddr t x y,ty,pos,af,none⟩::rest) Q δ:=
 aa.kW (n:=n) hx hy (by simp;omega) ht hk ho ho' hd hK
end Go.Ab
namespace Go.Ab
open Go Go.RowKit
attribute [local irreducible] HS
variable {P:Program} {g:au} {δ:DS} {l:List Oper} {late dn:List Nat} {k:Wt} {QD:Exit→DS→Prop}
section
variable {q:Md} {P:Program} {g:au} {δ:DS} {ops:Array Oper} {f:DS→Prop} {Q:Exit→DS→Prop} {y:Code}
theorem aa.PI (h:f δ):aa q P g ops [] (bE f Q) δ:=aa.nil (b_ h)
theorem AW.Pb {id:Nat} {l:List Oper} (h:aa .plain P g l.toArray l (bE (AW P g y Q) Q) δ):AW P g (.seq (.region id l.toArray false) y) Q δ:=AW.seq (AW.region h)
end
end Go.Ab
/- A slice held against nil;a slice made with room and no element. -/
namespace Go.Ab
open Go Go.RowKit
variable {P:Program} {g:au} {δ:DS} {q:Md}
theorem aa.OH {ι:Type} {ops:Array Oper} {o:Oper} {rest:List Oper} {Q:Exit→DS→Prop} (v:ι→AV) (φ:ι→Prop) (hg:o.guard=none) (dB:dQ o=true) (hd:bn δ.n o.dst=true)
  (h:∀κ a w,Rel g δ κ a w→∃i,φ i∧∃u,(∀w',fm δ κ w w'→(execOp a.eval o).run P w'=.ok (.value u) w')∧RA (δ.cx g κ) w u (v i)) (hK:∀i,φ i→aa q P g ops rest Q (δ.aw o.dst (v i))):aa q P g ops (o::rest) Q δ:=by
 intro κ a w r
 obtain⟨i,hi,u,h1,h2⟩:=h κ a w r
 have hK1:=hK i hi κ _ _ (r.aw (aS hd) h2)
 cases q with
 |quiet=>
  show wpQuiet P ops _ _ (o::rest) a
  unfold wpQuiet
  rw[if_pos (by simp [Region.wanted,hg])]
  refine⟨u,fun w' hw'=>?_,hK1⟩
  unfold Oper.quietAt
  rw[h1 w' (fm.uR hw')]
  exact⟨rfl,rfl⟩
 |held=>
  show qn P ops _ _ (o::rest) a
  refine⟨u,.inl ⟨by simp [Region.wanted,hg],fun w' hw'=>h1 w' hw'⟩,?_⟩
  ·have hH:fm (δ.aw o.dst (v i)) κ w=fm δ κ w:=by unfold fm;rw[pq]
   simp only[hH,kP] at hK1
   exact hK1
 |plain=>
  show wpListIn _ _ P ops _ (o::rest) a w
  refine b8 hg dB fun K hK'=>?_
  unfold Oper.sr
  rw[h1 w (fm.refl _ _ _),Oper.uponIn_value]
  exact hK' _ _ hK1
variable {ops:Array Oper} {rest:List Oper} {Q:Exit→DS→Prop} {dst:Option Nat} {ty:TypeId} {pos:String} {af:Array Edge}
theorem lU {t e:TypeId} (ht:P.underlying t=some (.slice e)) (x y:Operand) (b:Option Addr) (n c:Nat) (w:World):
  (do eqGuard .eql t x y (.slice b n c) (.slice none 0 0);Go.binOp .eql t (.slice b n c) (.slice none 0 0):Sem Value).run P w=.ok (.bool b.isNone) w:=by
 have h1:(eqGuard .eql t x y (.slice b n c) (.slice none 0 0)).run P w=.ok () w:=by
  unfold eqGuard
  simp [Sem.run,pure,Sem.bind,bind]
 rw[Sem.run_bind,h1,Result.andThen_ok]
 exact Lib.run_eql_slice_nil w t e b n c 0 0 ht
theorem aa.qO {x y:Operand} {t e t':TypeId} {k:Nat} {els:List (List PV)} (hx:δ.ev x=.pv (.slice k els)) (hy:δ.ev y=.pv (.lit (.slice none 0 0))) (ht:P.underlying t=some (.slice e)) (ho:aK x=true) (ho':aK y=true) (hd:bn δ.n dst=true)
  (hT:els=[]→aa q P g ops rest Q (δ.aw dst (aF true))) (hF:True→aa q P g ops rest Q (δ.aw dst (aF false))):aa q P g ops (⟨dst,.binOp .eql t x y t',ty,pos,af,none⟩::rest) Q δ:=by
 refine aa.OH (ι:=Bool) (fun b=>aF b) (fun b=>b=true→els=[]) rfl rfl hd (fun κ a w r=>?_) (fun b hb=>?_)
 ·have h1:=(r.ra hx ho).gv
  have h2:=r.lit hy ho'
  generalize hv:a.eval x=v at h1
  cases h1 with
  | @slice ad len cap k els bl off vs hl jC hb ha x9 hc hr=>
   refine⟨ad.isNone,fun hn=>?_,.bool ad.isNone,fun w' _=>?_,.pv (.lit _)⟩
   ·rcases els with _|⟨c,els⟩
    ·rfl
    ·have:=(ha (by simp)).1
     rw[this] at hn;simp at hn
   ·have:=lU ht x y ad len cap w'
    simp only[execOp,hv,h2]
    simp only[Sem.run_bind,this,Result.andThen_ok] at*
    first|rfl|simp [this]
 ·cases b with
  |true=>exact hT (hb rfl)
  |false=>exact hF trivial
theorem dv.mj {gd:Option (Tmp×Bool)} {t e:TypeId} {x y:Operand} {m:Int} {z:Value} {k by':Nat} (hx:δ.ev x=al 0) (hy:δ.ev y=al m) (ht:P.underlying t=some (.slice e)) (hi:(P.info? e).map (fun i=>(i.size,i.zero,i.bytes))=some (k,some z,by')) (hb:Nat.ble by' 64=true)
  (ho:aK x=true) (ho':aK y=true) (hd:bn δ.n dst=true) (hm:0≤m∧m≤100000):
  dv P g ⟨dst,.makeSlice t x y,ty,pos,af,gd⟩ δ ((δ.bf .row).aw dst (.own δ.nx e k [])):=by
 intro κ a w r
 have hb':by'≤64:=by simpa using hb
 obtain⟨i0,dF,hs0,hz0,hb0⟩:∃i0,P.info? e=some i0∧i0.size=k∧i0.zero=some z∧i0.bytes=by':=by
  cases h:P.info? e with
  |none=>rw[h] at hi;simp at hi
  |some i0=>rw[h] at hi;simp at hi;exact⟨i0,rfl,hi.1,hi.2.1,hi.2.2⟩
 have Hg:=r.lit hx ho
 have Oa:=r.lit hy ho'
 have JI:IntKind.i64.wrap m=m:=IntWalk.i64_in _ (by omega)
 have NI:IntKind.i64.wrap 0=0:=IntWalk.i64_in _ (by omega)
 generalize hc':((Array.range (m.toNat*k)).map (fun j=>z.cells[j % z.cells.size]!))=c'
 have kG:c'.size=m.toNat*k:=by rw[← hc'];simp
 have hmul:by'*m.toNat≤6400000:=by
  have h1:by'*m.toNat≤64*m.toNat:=Nat.mul_le_mul_right _ hb'
  omega
 have hmulI:(by':Int)*m≤6400000:=by
  have:((by'*m.toNat:Nat):Int)≤6400000:=by omega
  rw[Int.natCast_mul,Int.toNat_of_nonneg hm.1] at this
  exact this
 have aV:(execOp a.eval ⟨dst,.makeSlice t x y,ty,pos,af,gd⟩).run P w=.ok (.value (.slice (some ⟨w.heap.size,0,none⟩) 0 m.toNat)) (w.alloc (.cells c' e)):=by
  have gu:∀w,(typeInfo e).run P w=.ok i0 w:=fun w=>by simp [typeInfo,dF]
  have wg:∀w,(zeroValue e).run P w=.ok z w:=fun w=>by simp [zeroValue,typeInfo,dF,hz0]
  have JQ:∀w,(sizeOf e).run P w=.ok k w:=fun w=>by simp [sizeOf,typeInfo,dF,hs0]
  have has:∀(m:Int) w,(asInt (.int .i64 m)).run P w=.ok m w:=fun m w=>by simp [asInt,asIntOf,Sem.run_bind,Sem.run_pure,Result.andThen_ok]
  have Ij:¬(by':Int)*m>2 ^ 48:=by
   have:(2:Int) ^ 48=281474976710656:=by decide
   omega
  have Mb:¬(by':Int)*0>2 ^ 48:=by rw[Int.mul_zero];decide
  have sV:¬m<0:=by omega
  have QR:¬m<0:=by omega
  have ff:¬m.toNat*by'>roomBytes:=by
   have:(6400000:Nat)≤roomBytes:=by decide
   have h2:m.toNat*by'=by'*m.toNat:=Nat.mul_comm _ _
   omega
  simp only[execOp,Instr.makeSlice,Sem.run_bind,Result.andThen_ok,run_underlying ht,Hg,Oa,has,gu,hb0,JI,NI]
  simp only[decide_eq_false Ij,decide_eq_false Mb,decide_eq_false sV,Bool.or_false,Bool.false_or,Int.lt_irrefl,decide_false,gt_iff_lt,Bool.false_eq_true,if_false,askRoom,Sem.run_pure,Result.andThen_ok,Sem.run_bind]
  have wT:¬roomBytes<m.toNat*by':=ff
  simp only[if_neg wT,Sem.run_pure,Result.andThen_ok,JQ]
  by_cases h0:m.toNat*k=0
  ·have Ik:(Array.range (m.toNat*k)).map (fun j=>(#[]:Array Value)[j % (#[]:Array Value).size]!)=c':=by
    rw[← hc',h0];simp [Array.range_zero']
   simp only[if_pos h0,Sem.run_bind,Sem.run_pure,Result.andThen_ok,newRow]
   simp only[pure_bind,Ik]
   rfl
  ·simp only[if_neg h0,Sem.run_bind,Sem.run_pure,Result.andThen_ok,wg,newRow,hc']
   rfl
 have iG:m.toNat≤maxLen:=by simp only[maxLen];omega
 obtain⟨r',G⟩:=r.grow .row (.cells c' e) (fun C G hκ b hb=>by
  have:w.heap.size=b:=Option.some.inj (hκ.symm.trans hb)
  subst this
  exact⟨c',e,heap_alloc_new w _⟩)
 refine .inl ⟨_,_,_,_,aV,.inl rfl,r'.aw (aS hd) (.own ?_)⟩
 refine⟨by show(δ.bf .row).ob _=_;rw[bt,if_pos rfl],by simp,fun c hc=>by simp at hc,fun b hb=>?_,[],⟨by simp,.inr ⟨w.heap.size,m.toNat,c',rfl,r.hB,heap_alloc_new w _,Nat.zero_le _,iG,kG,by simp⟩⟩,by simp,fun i' j p hp'=>by simp [cellAt] at hp'⟩
 simp only[Value.ownBlock,Option.some.injEq] at hb
 subst hb
 show cA _ _ _ _=_
 simp [cA]
theorem aa.mj {t e:TypeId} {x y:Operand} {m:Int} {z:Value} {k by':Nat} (hx:δ.ev x=al 0) (hy:δ.ev y=al m) (ht:P.underlying t=some (.slice e)) (hi:(P.info? e).map (fun i=>(i.size,i.zero,i.bytes))=some (k,some z,by')) (hb:Nat.ble by' 64=true)
  (ho:aK x=true) (ho':aK y=true) (hd:bn δ.n dst=true) (hm:0≤m∧m≤100000) (hK:aa .plain P g ops rest Q ((δ.bf .row).aw dst (.own δ.nx e k []))):
  aa .plain P g ops (⟨dst,.makeSlice t x y,ty,pos,af,none⟩::rest) Q δ:=aa.n9 rfl rfl (dv.mj hx hy ht hi hb ho ho' hd hm) hK
end Go.Ab
/- A call of a function value that is told:a function of the program's,nothing captured. -/
namespace Go.Ab
open Go Go.RowKit
variable {P:Program} {g:au} {δ:DS} {κ:Kp} {a:Act} {w:World}
variable {ops:Array Oper} {rest:List Oper} {Q:Exit→DS→Prop} {dst:Option Nat} {ty:TypeId} {pos:String} {af:Array Edge}
theorem PD {C:Cx} {w:World} {v:Value} {f:Go.Fn} (h:RA C w v (.clo f [] [])):v=.func f #[] #[]:=by
 cases h with
 |clo hs h ht h'=>
  rename_i vs us
  have e1:vs= #[]:=Array.eq_empty_of_size_eq_zero (by simpa using hs)
  have e2:us= #[]:=Array.eq_empty_of_size_eq_zero (by simpa using ht)
  rw[e1,e2]
theorem aa.IB {f:FuncId} {xs:List Operand} {tys:Array TypeId} {args:List AV} {r:AV} {y:Operand} (hy:δ.ev y=.clo (.func f) [] []) (fb:aK y=true) (hf:Fn P f args r) (bS:kI false δ xs args) (hd:bn δ.n dst=true)
  (hK:aa .plain P g ops rest Q (δ.aw dst r)):aa .plain P g ops (⟨dst,.call {callee:=.value y,args:=xs.toArray,argTypes:=tys},ty,pos,af,none⟩::rest) Q δ:=by
 intro κ a w r0
 have sa:a.eval y=.func (.func f) #[] #[]:=PD (hy▸r0.xj y (c_ fb))
 show wpListIn _ _ P ops _ (_::rest) a w
 refine b8 rfl rfl fun K hK'=>?_
 unfold Oper.sr
 rw[dE (f:=f) sa hf.enters,Oper.uponIn_enter]
 refine⟨fun h=>by simp at h,(dj (hf.calls (fun b=>(δ.cx g κ).N b∨w.heap.size≤b) w _ (fun _ h=> .inr h) (by simp [bS.len]) (bS.GW r0 (fun _ _ h=> .inl h) (fun h=>by simp at h)))).mono ?_⟩
 rintro e w' ⟨v,rfl,hv,hb⟩
 have r1:=r0.ext hb
 refine hK' _ _ (hK κ _ _ (r1.aw (aS hd) (hv.qL _ fun b _ h=>?_)))
 rcases h with h|h
 ·exact h
 ·refine⟨r0.yS h,fun i hi e=>?_⟩
  have:=(r0.lo i b hi e).2
  omega
end Go.Ab
/- min and max of two numbers. -/
namespace Go.Ab
open Go Go.RowKit
variable {P:Program} {g:au} {δ:DS} {q:Md}
variable {ops:Array Oper} {rest:List Oper} {Q:Exit→DS→Prop} {dst:Option Nat} {ty:TypeId} {pos:String} {af:Array Edge}
theorem aa.max2 {x y:Operand} {tys:Array TypeId} {m n:Int} (hx:δ.ev x=al m) (hy:δ.ev y=al n) (ho:aK x=true) (ho':aK y=true) (hd:bn δ.n dst=true)
  (hK:aa q P g ops rest Q (δ.aw dst (al (max m n)))):aa q P g ops (⟨dst,.call {callee:=.builtin .max,args:= #[x,y],argTypes:=tys},ty,pos,af,none⟩::rest) Q δ:=
 aa.dA _ hd (fun κ a w r=>⟨.int .i64 (max m n),fun w' _=>by
  have h1:=r.lit hx ho
  have h2:=r.lit hy ho'
  have h3:(if n>m then n else m)=max m n:=by split<;>omega
  simp [execOp,resolve,invoke,builtin,h1,h2,run_max_int2,h3],.pv (.lit _)⟩) hK
theorem aa.min2 {x y:Operand} {tys:Array TypeId} {m n:Int} (hx:δ.ev x=al m) (hy:δ.ev y=al n) (ho:aK x=true) (ho':aK y=true) (hd:bn δ.n dst=true)
  (hK:aa q P g ops rest Q (δ.aw dst (al (min m n)))):aa q P g ops (⟨dst,.call {callee:=.builtin .min,args:= #[x,y],argTypes:=tys},ty,pos,af,none⟩::rest) Q δ:=
 aa.dA _ hd (fun κ a w r=>⟨.int .i64 (min m n),fun w' _=>by
  have h1:=r.lit hx ho
  have h2:=r.lit hy ho'
  have h3:(if n<m then n else m)=min m n:=by split<;>omega
  simp [execOp,resolve,invoke,builtin,h1,h2,run_min_int2,h3],.pv (.lit _)⟩) hK
theorem aa.xU {fn:Go.Fn} {x y z:Operand} {u1 u2 u3:AV} (hx:δ.ev x=u1) (hy:δ.ev y=u2) (hz:δ.ev z=u3) (ho:aK x=true) (ho':aK y=true) (ho'':aK z=true) (hd:bn δ.n dst=true) (hK:aa q P g ops rest Q (δ.aw dst (.clo fn [] [u1,u2,u3]))):aa q P g ops (⟨dst,.makeFunc fn #[] #[x,y,z],ty,pos,af,none⟩::rest) Q δ:=
 aa.dA _ hd (fun κ a w r=>⟨.func fn #[] #[a.eval x,a.eval y,a.eval z],fun w' _=>by simp [execOp,Instr.makeFunc],.clo rfl (fun j u c h=>by simp at h) rfl (fun j u c h1 h2=>by
  match j with
  |0=>simp at h1 h2;subst h1;subst h2;exact r.ra hx ho
  |1=>simp at h1 h2;subst h1;subst h2;exact r.ra hy ho'
  |2=>simp at h1 h2;subst h1;subst h2;exact r.ra hz ho''
  |j+3=>simp at h2)⟩) hK
end Go.Ab
/- Labelled statements whose labels are left by break and continue alone. -/
namespace Go.Ab
open Go Go.RowKit
section
variable {P:Program} {F:Fence} {n:Nat} {a:Act} {w:World} {b:Frame} {k:List Item} {cs:List Frame}
theorem fl {c:Code}:step P (lone (b.atR a (.code (.scope c)::k)) cs w)=.next (lone (b.atR a (.code c::.inScope c::k)) cs w):=
 step_lone_go (by simp [stepG,stepG.exec,Frame.atR])
theorem rG {c:Code}:step P (lone (b.atR a (.inScope c::k)) cs w)=.next (lone (b.atR a k) cs w):=
 step_lone_go (by simp [stepG,stepG.exec,Frame.atR])
theorem xm {c:Code} {Q:Exit→Act→World→Prop} (h:c.wpIn F n P (Exit.noGoto Q) a w):(Code.scope c).wpIn F n P Q a w:=by
 intro b k cs uh hb hr
 have h0:(lone (b.atR a (.code (.scope c)::k)) cs w).fenced P F:=fenced_calm hb hr rfl
 obtain⟨e,a₁,w₁,hq,lQ⟩:=h b (.inScope c::k) cs uh hb hr
 cases e with
 |normal=>exact⟨.normal,a₁,w₁,hq,.head h0 fl (StepsIn.trans lQ (.one (fenced_calm hb hr rfl) rG))⟩
 |exit id=>
  exact⟨.exit id,a₁,w₁,hq,fun k' hk=> .head h0 fl (lQ.1 k' (by simp [exitTo,hk])),
   fun hr' hk=>let ⟨k₁,h1,h2⟩:=lQ.2 hr' (by simp [exitTo,hk]);⟨k₁,h1,.head h0 fl h2⟩⟩
 |goto l=>exact hq.elim
 |ret=>exact⟨_,a₁,w₁,hq,.of_steps (.one h0 fl) lQ⟩
 |panic ch=>exact⟨_,a₁,w₁,hq,.of_steps (.one h0 fl) lQ⟩
 |outgrown=>exact⟨_,a₁,w₁,hq,.of_steps (.one h0 fl) lQ⟩
end
variable {P:Program} {g:au} {δ:DS}
def bD (Q:Exit→DS→Prop):Exit→DS→Prop
 |.goto _,_=>False
 |e,δ=>Q e δ
theorem iA {Q:Exit→DS→Prop} (h:Q .ret δ):bD Q .ret δ:=h
theorem AW.scope {c:Code} {Q:Exit→DS→Prop} (h:AW P g c (bD Q) δ):AW P g (.scope c) Q δ:=by
 intro κ a w r
 refine xm (wpIn_mono (h κ a w r) fun e a' w'=>?_)
 rintro⟨δ',κ',h1,h2⟩
 cases e with
 |goto l=>exact h1.elim
 |_=>exact⟨δ',κ',h1,h2⟩
theorem AW.label {l:Nat} {Q:Exit→DS→Prop} (h:Q .normal δ):AW P g (.label l) Q δ:=fun κ _ _ r=>wpIn_label ⟨δ,κ,h,r⟩
end Go.Ab
/- Loops over functions within loops over functions:a yield from a round,to a loop some frames above. -/
namespace Go.Ab
open Go Go.RowKit
attribute [local irreducible] HS
variable {P:Program} {g:au} {δ:DS} {κ:Kp} {a:Act} {w:World}
variable {ops:Array Oper} {rest:List Oper} {Q:Exit→DS→Prop} {dst:Option Nat} {ty:TypeId} {pos:String} {af:Array Edge}
end Go.Ab
