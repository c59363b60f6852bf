/- Laws in the forms that the walk's list of steps tries. -/
import Derived.Test.YtigjjjpcjnifhaaAbL1
import Derived.OrdersIn
import Derived.MapKept
import Derived.Maps.RangeRun
import Derived.ProofKit
import Derived.OpenShut
import Derived.ChangeOld
import Derived.SizedLaws
import Derived.JoinedCond
import Derived.Deep.CondSized
import Derived.ChangeKeysEq
import Derived.Laws.StructEq
import Derived.WalkSpells
import Derived.Lib.SliceRun
import Derived.Laws.Small
set_option linter.unusedSimpArgs false
set_option linter.unusedVariables false
namespace Go.Ab
open Go Go.RowKit
variable {q:Md} {P:Program} {g:ar} {δ:DS} {κ:Kp} {a:Act} {w:World}
variable {ops:Array Oper} {rest:List Oper} {Q:Exit→DS→Prop} {dst:Option Nat} {ty:TypeId} {pos:String} {af:Array Edge}
theorem aa.H5 {op:Op} {gj d:Nat} {p:Prop} {_:Decidable p} {o':Oper} (ho:ops[gj]? =some o') (hd:o'.dst=some d) (hd0:Nat.blt d HS=true) (pQ:Nat.blt d δ.n=true) (hb:δ.get d=aM (decide p)) (qo:bk δ.n dst=true)
  (hy:p→aa q P g ops (⟨dst,op,ty,pos,af,none⟩::rest) Q δ) (hn:¬p→aa q P g ops rest Q (δ.au dst (.pv (.lit undef)))):aa q P g ops (⟨dst,op,ty,pos,af,some (gj,true)⟩::rest) Q δ:=
 aa.guard ho hd hd0 pQ hb qo (fun h=>hy (of_decide_eq_true h)) (fun h=>hn (of_decide_eq_false h))
theorem aa.AN {x:Operand} {t:TypeId} {p:Prop} {_:Decidable p} (hx:δ.ev x=aM (decide p)) (ho:aK x=true) (hd:bk δ.n dst=true) (hK:aa q P g ops rest Q (δ.au dst (aM (decide (¬p))))):
  aa q P g ops (⟨dst,.unOp .not t x,ty,pos,af,none⟩::rest) Q δ:=aa.not hx ho hd (by
                                                  have:(!decide p)=decide (¬p):=by simp
                                                  rw[this];exact hK)
theorem aa.Ka {x y z:Operand} {p:Prop} {_:Decidable p} {v:AV} (hx:δ.ev x=aM (decide p)) (hy:δ.ev y=v) (hp:p) (ho:aK x=true) (e8:aK y=true) (lA:aK z=true) (hd:bk δ.n dst=true)
  (hK:aa q P g ops rest Q (δ.au dst v)):aa q P g ops (⟨dst,.pick x y z,ty,pos,af,none⟩::rest) Q δ:=
 aa.pick hx ho e8 lA (fun _=>hy) (fun h=>absurd hp (of_decide_eq_false h)) hd hK
theorem aa.JA {x y z:Operand} {p:Prop} {_:Decidable p} {v:AV} (hx:δ.ev x=aM (decide p)) (hz:δ.ev z=v) (hp:¬p) (ho:aK x=true) (e8:aK y=true) (lA:aK z=true) (hd:bk δ.n dst=true)
  (hK:aa q P g ops rest Q (δ.au dst v)):aa q P g ops (⟨dst,.pick x y z,ty,pos,af,none⟩::rest) Q δ:=
 aa.pick hx ho e8 lA (fun h=>absurd (of_decide_eq_true h) hp) (fun _=>hz) hd hK
theorem AW.fN {c:Operand} {x y:Code} (ho:aK c=true) (hc:δ.ev c=aM true) (h1:AW P g x Q δ):AW P g (.cond c x y) Q δ:=AW.B3 rfl ho hc h1
theorem AW.fT {c:Operand} {x y:Code} (ho:aK c=true) (hc:δ.ev c=aM false) (h1:AW P g y Q δ):AW P g (.cond c x y) Q δ:=AW.Be rfl ho hc h1
theorem aa.uz {op:Op} {gj d:Nat} {want b:Bool} {o':Oper} (ho:ops[gj]? =some o') (hd:o'.dst=some d) (hd0:Nat.blt d HS=true) (pQ:Nat.blt d δ.n=true) (hb:δ.get d=aM b) (tX:b=want) (qo:bk δ.n dst=true)
  (hy:aa q P g ops (⟨dst,op,ty,pos,af,none⟩::rest) Q δ):aa q P g ops (⟨dst,op,ty,pos,af,some (gj,want)⟩::rest) Q δ:=
 aa.guard ho hd hd0 pQ hb qo (fun _=>hy) (fun h=>by subst tX;cases b<;>simp at h)
theorem aa.bV {op:Op} {gj d:Nat} {want b:Bool} {o':Oper} (ho:ops[gj]? =some o') (hd:o'.dst=some d) (hd0:Nat.blt d HS=true) (pQ:Nat.blt d δ.n=true) (hb:δ.get d=aM b) (tX:b=!want) (qo:bk δ.n dst=true)
  (hn:aa q P g ops rest Q (δ.au dst (.pv (.lit undef)))):aa q P g ops (⟨dst,op,ty,pos,af,some (gj,want)⟩::rest) Q δ:=
 aa.guard ho hd hd0 pQ hb qo (fun h=>by subst h;cases b<;>simp at tX) (fun _=>hn)
end Go.Ab
namespace Go.Ab
variable {P:Program} {g:ar} {δ:DS} {Q:Exit→DS→Prop}
theorem AW.Ji {c:Operand} {x y:Code} {p:Prop} {_:Decidable p} (ho:aK c=true) (hc:δ.ev c=aM (decide p)) (hp:p) (h1:AW P g x Q δ):AW P g (.cond c x y) Q δ:=AW.B3 (decide_eq_true hp) ho hc h1
theorem AW.J7 {c:Operand} {x y:Code} {p:Prop} {_:Decidable p} (ho:aK c=true) (hc:δ.ev c=aM (decide p)) (hp:¬p) (h1:AW P g y Q δ):AW P g (.cond c x y) Q δ:=AW.Be (decide_eq_false hp) ho hc h1
end Go.Ab
namespace Go.Ab
section
variable {q:Md} {P:Program} {g:ar} {δ:DS} {ops:Array Oper} {rest:List Oper} {Q:Exit→DS→Prop} {dst:Option Nat} {ty:TypeId} {pos:String} {af:Array Edge}
variable {op:Op} {gj d:Nat} {p:Prop} {inst:Decidable p} {o':Oper} (ho:ops[gj]? =some o') (hd:o'.dst=some d) (hb:δ.get d=aM (@decide p inst)) (hd0:Nat.blt d HS=true) (pQ:Nat.blt d δ.n=true) (qo:bk δ.n dst=true)
include ho hd hb hd0 pQ qo
theorem aa.E1 (hp:p) (hy:aa q P g ops (⟨dst,op,ty,pos,af,none⟩::rest) Q δ):aa q P g ops (⟨dst,op,ty,pos,af,some (gj,true)⟩::rest) Q δ:=
 aa.guard ho hd hd0 pQ hb qo (fun _=>hy) (fun h=>absurd hp (of_decide_eq_false h))
theorem aa.jn (hp:¬p) (hn:aa q P g ops rest Q (δ.au dst (.pv (.lit undef)))):aa q P g ops (⟨dst,op,ty,pos,af,some (gj,true)⟩::rest) Q δ:=
 aa.guard ho hd hd0 pQ hb qo (fun h=>absurd (of_decide_eq_true h) hp) (fun _=>hn)
theorem aa.Ea (hp:¬p) (hy:aa q P g ops (⟨dst,op,ty,pos,af,none⟩::rest) Q δ):aa q P g ops (⟨dst,op,ty,pos,af,some (gj,false)⟩::rest) Q δ:=
 aa.guard ho hd hd0 pQ hb qo (fun _=>hy) (fun h=>absurd (of_decide_eq_true h) hp)
theorem aa.dK (hp:p) (hn:aa q P g ops rest Q (δ.au dst (.pv (.lit undef)))):aa q P g ops (⟨dst,op,ty,pos,af,some (gj,false)⟩::rest) Q δ:=
 aa.guard ho hd hd0 pQ hb qo (fun h=>absurd hp (of_decide_eq_false h)) (fun _=>hn)
end
end Go.Ab
namespace Go.Ab
section
variable {q:Md} {P:Program} {g:ar} {δ:DS} {ops:Array Oper} {rest:List Oper} {Q:Exit→DS→Prop} {dst:Option Nat} {ty:TypeId} {pos:String} {af:Array Edge} {x:Operand}
theorem aa.cK {p:PV} (hx:δ.ev x=.pv p) (ho:aK x=true) (hd:bk δ.n dst=true) (hK:aa q P g ops rest Q (δ.au dst (.pv p))):aa q P g ops (⟨dst,.move x,ty,pos,af,none⟩::rest) Q δ:=aa.move hx ho hd hK
theorem aa.yq {p:PV} (hx:δ.ev x=.pv p) (ho:aK x=true) (hd:bk δ.n dst=true) (hK:aa q P g ops rest Q (δ.au dst (.pv p))):aa q P g ops (⟨dst,.assign x,ty,pos,af,none⟩::rest) Q δ:=aa.assign hx ho hd hK
theorem aa.bt {i e k els} (hx:δ.ev x=.own i e k els) (ho:aK x=true) (hd:bk δ.n dst=true) (hK:aa q P g ops rest Q (δ.au dst (.own i e k els))):aa q P g ops (⟨dst,.move x,ty,pos,af,none⟩::rest) Q δ:=aa.move hx ho hd hK
theorem aa.jv {i e k els} (hx:δ.ev x=.own i e k els) (ho:aK x=true) (hd:bk δ.n dst=true) (hK:aa q P g ops rest Q (δ.au dst (.own i e k els))):aa q P g ops (⟨dst,.assign x,ty,pos,af,none⟩::rest) Q δ:=aa.assign hx ho hd hK
theorem aa.a7 {i o} (hx:δ.ev x=.ptr i o) (ho:aK x=true) (hd:bk δ.n dst=true) (hK:aa q P g ops rest Q (δ.au dst (.ptr i o))):aa q P g ops (⟨dst,.move x,ty,pos,af,none⟩::rest) Q δ:=aa.move hx ho hd hK
theorem aa.jw {i o} (hx:δ.ev x=.ptr i o) (ho:aK x=true) (hd:bk δ.n dst=true) (hK:aa q P g ops rest Q (δ.au dst (.ptr i o))):aa q P g ops (⟨dst,.assign x,ty,pos,af,none⟩::rest) Q δ:=aa.assign hx ho hd hK
theorem aa.qi {l} (hx:δ.ev x=.tup l) (ho:aK x=true) (hd:bk δ.n dst=true) (hK:aa q P g ops rest Q (δ.au dst (.tup l))):aa q P g ops (⟨dst,.move x,ty,pos,af,none⟩::rest) Q δ:=aa.move hx ho hd hK
end
end Go.Ab
namespace Go.Ab
section
variable {q:Md} {P:Program} {g:ar} {δ:DS} {ops:Array Oper} {rest:List Oper} {Q:Exit→DS→Prop} {dst:Option Nat} {ty:TypeId} {pos:String} {af:Array Edge}
theorem aa.cY {x y z:Operand} {v:PV} (hx:δ.ev x=aM true) (hy:δ.ev y=.pv v) (ho:aK x=true) (e8:aK y=true) (lA:aK z=true) (hd:bk δ.n dst=true)
  (hK:aa q P g ops rest Q (δ.au dst (.pv v))):aa q P g ops (⟨dst,.pick x y z,ty,pos,af,none⟩::rest) Q δ:=aa.pick hx ho e8 lA (fun _=>hy) (fun h=>by cases h) hd hK
theorem aa.dr {x y z:Operand} {v:PV} (hx:δ.ev x=aM false) (hz:δ.ev z=.pv v) (ho:aK x=true) (e8:aK y=true) (lA:aK z=true) (hd:bk δ.n dst=true)
  (hK:aa q P g ops rest Q (δ.au dst (.pv v))):aa q P g ops (⟨dst,.pick x y z,ty,pos,af,none⟩::rest) Q δ:=aa.pick hx ho e8 lA (fun h=>by cases h) (fun _=>hz) hd hK
theorem aa.BE {x y z:Operand} {p:Prop} {_:Decidable p} {v:PV} (hx:δ.ev x=aM (decide p)) (hy:δ.ev y=.pv v) (hp:p) (ho:aK x=true) (e8:aK y=true) (lA:aK z=true) (hd:bk δ.n dst=true)
  (hK:aa q P g ops rest Q (δ.au dst (.pv v))):aa q P g ops (⟨dst,.pick x y z,ty,pos,af,none⟩::rest) Q δ:=aa.Ka hx hy hp ho e8 lA hd hK
theorem aa.BU {x y z:Operand} {p:Prop} {_:Decidable p} {v:PV} (hx:δ.ev x=aM (decide p)) (hz:δ.ev z=.pv v) (hp:¬p) (ho:aK x=true) (e8:aK y=true) (lA:aK z=true) (hd:bk δ.n dst=true)
  (hK:aa q P g ops rest Q (δ.au dst (.pv v))):aa q P g ops (⟨dst,.pick x y z,ty,pos,af,none⟩::rest) Q δ:=aa.JA hx hz hp ho e8 lA hd hK
end
end Go.Ab
namespace Go.Ab
section
variable {P:Program} {g:ar} {δ:DS} {ops:Array Oper} {rest:List Oper} {Q:Exit→DS→Prop} {dst:Option Nat} {ty:TypeId} {pos:String} {af:Array Edge}
theorem c9.FR {gd:Option (Tmp×Bool)} {t e:TypeId} {z:Value} (ht:P.underlying t=some (.slice e)) (hi:(P.info? e).map (fun i=>(i.size,i.zero))=some (1,some z)) (hz:z.cells.toList.all (·.oneCell')=true) (fD:Nat.beq z.cells.size 1=true) (hd:bk δ.n dst=true):c9 P g ⟨dst,.buildSlice t 0 [].toArray,ty,pos,af,gd⟩ δ ((δ.ba .row).au dst (.own δ.nx e 1 [])):=by
 have hf:c6 (fun i=>some (i*1,1)) (dD z (0*1)) (([]:List (Nat×Operand)).map fun p=>(p.1,δ.ev p.2))=some []:=by
  simp [c6,fx,AV.cellsOf,AV.gx,dD,List.map_cons,List.map_nil]<;>rfl
 exact c9.buildSlice (len:=0) (k:=1) (parts:=[]) (cells:=[]) ht hi fD rfl rfl hz (by simp []) hf (by simp [AV.qV]) hd
theorem aa.FR {t e:TypeId} {z:Value} (ht:P.underlying t=some (.slice e)) (hi:(P.info? e).map (fun i=>(i.size,i.zero))=some (1,some z)) (hz:z.cells.toList.all (·.oneCell')=true) (fD:Nat.beq z.cells.size 1=true) (hd:bk δ.n dst=true) (hK:aa .plain P g ops rest Q ((δ.ba .row).au dst (.own δ.nx e 1 []))):aa .plain P g ops (⟨dst,.buildSlice t 0 [].toArray,ty,pos,af,none⟩::rest) Q δ:=aa.mI rfl rfl (c9.FR ht hi hz fD hd) hK
theorem c9.il {gd:Option (Tmp×Bool)} {t e:TypeId} {z:Value} {x0:Operand} {p0:PV} (ht:P.underlying t=some (.slice e)) (h0:δ.ev x0=.pv p0) (hi:(P.info? e).map (fun i=>(i.size,i.zero))=some (1,some z)) (hz:z.cells.toList.all (·.oneCell')=true) (fD:Nat.beq z.cells.size 1=true) (k0:AV.one (.pv p0)=true) (o0:aK x0=true) (hd:bk δ.n dst=true):c9 P g ⟨dst,.buildSlice t 1 [(0,x0)].toArray,ty,pos,af,gd⟩ δ ((δ.ba .row).au dst (.own δ.nx e 1 [[p0]])):=by
 have hf:c6 (fun i=>some (i*1,1)) (dD z (1*1)) (([(0,x0)]:List (Nat×Operand)).map fun p=>(p.1,δ.ev p.2))=some [.pv p0]:=by
  simp [c6,fx,AV.cellsOf,AV.gx,dD,h0,k0,List.map_cons,List.map_nil]<;>rfl
 exact c9.buildSlice (len:=1) (k:=1) (parts:=[(0,x0)]) (cells:=[.pv p0]) ht hi fD rfl rfl hz (by simp [o0]) hf (by simp [AV.qV]) hd
theorem aa.il {t e:TypeId} {z:Value} {x0:Operand} {p0:PV} (ht:P.underlying t=some (.slice e)) (h0:δ.ev x0=.pv p0) (hi:(P.info? e).map (fun i=>(i.size,i.zero))=some (1,some z)) (hz:z.cells.toList.all (·.oneCell')=true) (fD:Nat.beq z.cells.size 1=true) (k0:AV.one (.pv p0)=true) (o0:aK x0=true) (hd:bk δ.n dst=true) (hK:aa .plain P g ops rest Q ((δ.ba .row).au dst (.own δ.nx e 1 [[p0]]))):aa .plain P g ops (⟨dst,.buildSlice t 1 [(0,x0)].toArray,ty,pos,af,none⟩::rest) Q δ:=aa.mI rfl rfl (c9.il ht h0 hi hz fD k0 o0 hd) hK
theorem c9.M8 {gd:Option (Tmp×Bool)} {t e:TypeId} {z:Value} {x0 x1:Operand} {p0 p1:PV} (ht:P.underlying t=some (.slice e)) (h0:δ.ev x0=.pv p0) (h1:δ.ev x1=.pv p1) (hi:(P.info? e).map (fun i=>(i.size,i.zero))=some (1,some z)) (hz:z.cells.toList.all (·.oneCell')=true) (fD:Nat.beq z.cells.size 1=true) (k0:AV.one (.pv p0)=true) (k1:AV.one (.pv p1)=true) (o0:aK x0=true) (o1:aK x1=true) (hd:bk δ.n dst=true):c9 P g ⟨dst,.buildSlice t 2 [(0,x0),(1,x1)].toArray,ty,pos,af,gd⟩ δ ((δ.ba .row).au dst (.own δ.nx e 1 [[p0],[p1]])):=by
 have hf:c6 (fun i=>some (i*1,1)) (dD z (2*1)) (([(0,x0),(1,x1)]:List (Nat×Operand)).map fun p=>(p.1,δ.ev p.2))=some [.pv p0,.pv p1]:=by
  simp [c6,fx,AV.cellsOf,AV.gx,dD,h0,h1,k0,k1,List.map_cons,List.map_nil]<;>rfl
 exact c9.buildSlice (len:=2) (k:=1) (parts:=[(0,x0),(1,x1)]) (cells:=[.pv p0,.pv p1]) ht hi fD rfl rfl hz (by simp [o0,o1]) hf (by simp [AV.qV]) hd
theorem aa.M8 {t e:TypeId} {z:Value} {x0 x1:Operand} {p0 p1:PV} (ht:P.underlying t=some (.slice e)) (h0:δ.ev x0=.pv p0) (h1:δ.ev x1=.pv p1) (hi:(P.info? e).map (fun i=>(i.size,i.zero))=some (1,some z)) (hz:z.cells.toList.all (·.oneCell')=true) (fD:Nat.beq z.cells.size 1=true) (k0:AV.one (.pv p0)=true) (k1:AV.one (.pv p1)=true) (o0:aK x0=true) (o1:aK x1=true) (hd:bk δ.n dst=true) (hK:aa .plain P g ops rest Q ((δ.ba .row).au dst (.own δ.nx e 1 [[p0],[p1]]))):aa .plain P g ops (⟨dst,.buildSlice t 2 [(0,x0),(1,x1)].toArray,ty,pos,af,none⟩::rest) Q δ:=aa.mI rfl rfl (c9.M8 ht h0 h1 hi hz fD k0 k1 o0 o1 hd) hK
theorem c9.LG {gd:Option (Tmp×Bool)} {t e:TypeId} {z:Value} {x0 x1 x2:Operand} {p0 p1 p2:PV} (ht:P.underlying t=some (.slice e)) (h0:δ.ev x0=.pv p0) (h1:δ.ev x1=.pv p1) (h2:δ.ev x2=.pv p2) (hi:(P.info? e).map (fun i=>(i.size,i.zero))=some (1,some z)) (hz:z.cells.toList.all (·.oneCell')=true) (fD:Nat.beq z.cells.size 1=true) (k0:AV.one (.pv p0)=true) (k1:AV.one (.pv p1)=true) (k2:AV.one (.pv p2)=true) (o0:aK x0=true) (o1:aK x1=true) (o2:aK x2=true) (hd:bk δ.n dst=true):c9 P g ⟨dst,.buildSlice t 3 [(0,x0),(1,x1),(2,x2)].toArray,ty,pos,af,gd⟩ δ ((δ.ba .row).au dst (.own δ.nx e 1 [[p0],[p1],[p2]])):=by
 have hf:c6 (fun i=>some (i*1,1)) (dD z (3*1)) (([(0,x0),(1,x1),(2,x2)]:List (Nat×Operand)).map fun p=>(p.1,δ.ev p.2))=some [.pv p0,.pv p1,.pv p2]:=by
  simp [c6,fx,AV.cellsOf,AV.gx,dD,h0,h1,h2,k0,k1,k2,List.map_cons,List.map_nil]<;>rfl
 exact c9.buildSlice (len:=3) (k:=1) (parts:=[(0,x0),(1,x1),(2,x2)]) (cells:=[.pv p0,.pv p1,.pv p2]) ht hi fD rfl rfl hz (by simp [o0,o1,o2]) hf (by simp [AV.qV]) hd
theorem aa.LG {t e:TypeId} {z:Value} {x0 x1 x2:Operand} {p0 p1 p2:PV} (ht:P.underlying t=some (.slice e)) (h0:δ.ev x0=.pv p0) (h1:δ.ev x1=.pv p1) (h2:δ.ev x2=.pv p2) (hi:(P.info? e).map (fun i=>(i.size,i.zero))=some (1,some z)) (hz:z.cells.toList.all (·.oneCell')=true) (fD:Nat.beq z.cells.size 1=true) (k0:AV.one (.pv p0)=true) (k1:AV.one (.pv p1)=true) (k2:AV.one (.pv p2)=true) (o0:aK x0=true) (o1:aK x1=true) (o2:aK x2=true) (hd:bk δ.n dst=true) (hK:aa .plain P g ops rest Q ((δ.ba .row).au dst (.own δ.nx e 1 [[p0],[p1],[p2]]))):aa .plain P g ops (⟨dst,.buildSlice t 3 [(0,x0),(1,x1),(2,x2)].toArray,ty,pos,af,none⟩::rest) Q δ:=aa.mI rfl rfl (c9.LG ht h0 h1 h2 hi hz fD k0 k1 k2 o0 o1 o2 hd) hK
theorem c9.Mb {gd:Option (Tmp×Bool)} {t e:TypeId} {z:Value} {x0 x1 x2 x3:Operand} {p0 p1 p2 p3:PV} (ht:P.underlying t=some (.slice e)) (h0:δ.ev x0=.pv p0) (h1:δ.ev x1=.pv p1) (h2:δ.ev x2=.pv p2) (h3:δ.ev x3=.pv p3) (hi:(P.info? e).map (fun i=>(i.size,i.zero))=some (1,some z)) (hz:z.cells.toList.all (·.oneCell')=true) (fD:Nat.beq z.cells.size 1=true) (k0:AV.one (.pv p0)=true) (k1:AV.one (.pv p1)=true) (k2:AV.one (.pv p2)=true) (k3:AV.one (.pv p3)=true) (o0:aK x0=true) (o1:aK x1=true) (o2:aK x2=true) (o3:aK x3=true) (hd:bk δ.n dst=true):c9 P g ⟨dst,.buildSlice t 4 [(0,x0),(1,x1),(2,x2),(3,x3)].toArray,ty,pos,af,gd⟩ δ ((δ.ba .row).au dst (.own δ.nx e 1 [[p0],[p1],[p2],[p3]])):=by
 have hf:c6 (fun i=>some (i*1,1)) (dD z (4*1)) (([(0,x0),(1,x1),(2,x2),(3,x3)]:List (Nat×Operand)).map fun p=>(p.1,δ.ev p.2))=some [.pv p0,.pv p1,.pv p2,.pv p3]:=by
  simp [c6,fx,AV.cellsOf,AV.gx,dD,h0,h1,h2,h3,k0,k1,k2,k3,List.map_cons,List.map_nil]<;>rfl
 exact c9.buildSlice (len:=4) (k:=1) (parts:=[(0,x0),(1,x1),(2,x2),(3,x3)]) (cells:=[.pv p0,.pv p1,.pv p2,.pv p3]) ht hi fD rfl rfl hz (by simp [o0,o1,o2,o3]) hf (by simp [AV.qV]) hd
theorem aa.Mb {t e:TypeId} {z:Value} {x0 x1 x2 x3:Operand} {p0 p1 p2 p3:PV} (ht:P.underlying t=some (.slice e)) (h0:δ.ev x0=.pv p0) (h1:δ.ev x1=.pv p1) (h2:δ.ev x2=.pv p2) (h3:δ.ev x3=.pv p3) (hi:(P.info? e).map (fun i=>(i.size,i.zero))=some (1,some z)) (hz:z.cells.toList.all (·.oneCell')=true) (fD:Nat.beq z.cells.size 1=true) (k0:AV.one (.pv p0)=true) (k1:AV.one (.pv p1)=true) (k2:AV.one (.pv p2)=true) (k3:AV.one (.pv p3)=true) (o0:aK x0=true) (o1:aK x1=true) (o2:aK x2=true) (o3:aK x3=true) (hd:bk δ.n dst=true) (hK:aa .plain P g ops rest Q ((δ.ba .row).au dst (.own δ.nx e 1 [[p0],[p1],[p2],[p3]]))):aa .plain P g ops (⟨dst,.buildSlice t 4 [(0,x0),(1,x1),(2,x2),(3,x3)].toArray,ty,pos,af,none⟩::rest) Q δ:=aa.mI rfl rfl (c9.Mb ht h0 h1 h2 h3 hi hz fD k0 k1 k2 k3 o0 o1 o2 o3 hd) hK
theorem rC {n bytes:Nat} (h:Nat.ble bytes 64=true) (hl:n≤1000000000000):n*bytes≤140737488355328:=by
 have h':bytes≤64:=by simpa using h
 have:=Nat.mul_le_mul hl h'
 omega
theorem c9.aZ {gd:Option (Tmp×Bool)} {s x:Operand} {t e:TypeId} {i k bytes:Nat} {z:Value} {els news:List (List PV)} (hs:δ.ev s=.own i e k els) (hx:kP δ x k news) (hr:δ.ob i=some .row) (ht:P.underlying t=some (.slice e))
  (hi:(P.info? e).map (fun i=>(i.size,i.zero,i.bytes))=some (k,some z,bytes)) (Bs:Nat.ble bytes 64=true) (fD:Nat.beq z.cells.size k=true) (hk0:Nat.blt 0 k=true) (ho:aK s=true) (ho':aK x=true) (hd:bk δ.n dst=true)
  (hl:els.length+news.length≤1000000000000):c9 P g ⟨dst,.call {callee:=.builtin .append,args:= #[s,x],argTypes:= #[t,t]},ty,pos,af,gd⟩ δ ((δ.cj (AV.kill i)).au dst (.own i e k (els++news))):=
 c9.append hs hx hr ht hi fD hk0 ho ho' hd (rC Bs hl) (by omega)
theorem aa.aZ {s x:Operand} {t e:TypeId} {i k bytes:Nat} {z:Value} {els news:List (List PV)} (hs:δ.ev s=.own i e k els) (hx:kP δ x k news) (hr:δ.ob i=some .row) (ht:P.underlying t=some (.slice e))
  (hi:(P.info? e).map (fun i=>(i.size,i.zero,i.bytes))=some (k,some z,bytes)) (Bs:Nat.ble bytes 64=true) (fD:Nat.beq z.cells.size k=true) (hk0:Nat.blt 0 k=true) (ho:aK s=true) (ho':aK x=true) (hd:bk δ.n dst=true)
  (hl:els.length+news.length≤1000000000000) (hK:aa .plain P g ops rest Q ((δ.cj (AV.kill i)).au dst (.own i e k (els++news)))):
  aa .plain P g ops (⟨dst,.call {callee:=.builtin .append,args:= #[s,x],argTypes:= #[t,t]},ty,pos,af,none⟩::rest) Q δ:=aa.mI rfl rfl (c9.aZ hs hx hr ht hi Bs fD hk0 ho ho' hd hl) hK
end
end Go.Ab
namespace Go.Ab
theorem AW.oH {P:Program} {g:ar} {δ:DS} {Q:Exit→DS→Prop} {α:Type} {c:Code} (j i:Nat) {k:Nat} {cs:List AV} {f:α→List PV} {l:List α} (h:δ.get j=.agg cs) (hc:cs[i]? =some (.pv (.slice k (l.map f)))) (hK:l.length≤140737488355328→AW P g c Q δ):AW P g c Q δ:=
 AW.fact (fun κ a w r=>by
  have h1:=r.env j
  rw[h] at h1
  generalize hu:g.val a j=u at h1
  cases h1 with
  | @agg vs _ hs hv=>
   have aP:i<vs.size:=by rw[hs];exact(List.getElem?_eq_some_iff.1 hc).1
   obtain⟨_,_,_,h2⟩:=(hv i _ _ (Array.getElem?_eq_getElem aP) hc).gp.nC
   simpa using h2) hK
end Go.Ab
namespace Go.Ab
theorem aa.yG {q:Md} {P:Program} {g:ar} {δ:DS} {ops:Array Oper} {rest:List Oper} {Q:Exit→DS→Prop} {dst:Option Nat} {ty:TypeId} {pos:String} {af:Array Edge} {x:Operand} {t:TypeId} {i:Nat} {cells:List AV} (hx:δ.ev x=.ptr i 0) (hb:δ.ob i=some (.box cells)) (ht:sF P t cells.length=true) (ho:aK x=true) (hd:bk δ.n dst=true)
  (hK:aa q P g ops rest Q (δ.au dst (.agg cells))):aa q P g ops (⟨dst,.load t x,ty,pos,af,none⟩::rest) Q δ:=
 aa.xM (n:=cells.length) hx hb ht (by simp) ho hd (by simpa using hK)
end Go.Ab
namespace Go.Ab
section
variable {q:Md} {P:Program} {g:ar} {δ:DS} {ops:Array Oper} {rest:List Oper} {Q:Exit→DS→Prop} {dst:Option Nat} {ty:TypeId} {pos:String} {af:Array Edge}
end
end Go.Ab
namespace Go.Ab
section
variable {q:Md} {P:Program} {g:ar} {δ:DS} {ops:Array Oper} {rest:List Oper} {Q:Exit→DS→Prop} {dst:Option Nat} {ty:TypeId} {pos:String} {af:Array Edge}
theorem aa.bH {α:Type} {x y:Operand} {t e:TypeId} {k:Nat} {m:Int} {f:α→List PV} {l:List α} (hx:δ.ev x=.pv (.slice k (l.map f))) (hy:δ.ev y=aw m)
  (ht:P.underlying t=some (.slice e)) (hk:(P.info? e).map (·.size)=some k) (ho:aK x=true) (ho':aK y=true) (hd:bk δ.n dst=true) (h0:0≤m) (hn:m.toNat<l.length)
  (hK:aa q P g ops rest Q (δ.au dst (.rptr (f l[m.toNat])))):aa q P g ops (⟨dst,.indexAddr t x y,ty,pos,af,none⟩::rest) Q δ:=
 aa.ak (n:=m.toNat) hx (by rw[hy,Int.toNat_of_nonneg h0]) hn ht hk ho ho' hd hK
end
end Go.Ab
/- Ranging over a function:the iterator is walked in place,each call of yield walks the loop's body. -/
namespace Go.Ab
open Go Go.RowKit
attribute [local irreducible] HS
variable {P:Program} {g:ar} {δ:DS} {κ:Kp} {a:Act} {w:World}
variable {ops:Array Oper} {rest:List Oper} {Q:Exit→DS→Prop} {dst:Option Nat} {ty:TypeId} {pos:String} {af:Array Edge}
def bU (e:List (Nat×AV)):List (Nat×AV):=e.map fun p=>(p.1+HS,p.2)
def cR:List (Nat×AV)→List (Nat×AV)
 |[]=>[]
 |(i,v)::r=>bif Nat.ble HS i then (i - HS,v)::cR r else cR r
def aj:List (Nat×AV)→List (Nat×AV)
 |[]=>[]
 |(i,v)::r=>bif Nat.ble HS i && Nat.blt i (HS+HS) then (i - HS,v)::aj r else aj r
theorem fP:∀(e:List (Nat×AV)) (j:Nat),j<HS→look (bU e) j=.any
 |[],_,_=>rfl
 |(i,v)::r,j,h=>by
  show look ((i+HS,v)::bU r) j=_
  rw[aX,if_neg (by omega)]
  exact fP r j h
theorem fK:∀(e:List (Nat×AV)) (j:Nat),look (bU e) (j+HS)=look e j
 |[],_=>rfl
 |(i,v)::r,j=>by
  show look ((i+HS,v)::bU r) (j+HS)=_
  rw[aX,aX,fK r j]
  by_cases e:i=j
  ·rw[if_pos (by omega),if_pos e]
  ·rw[if_neg (by omega),if_neg e]
theorem gA:∀(e:List (Nat×AV)) (j:Nat),look (cR e) j=look e (j+HS)
 |[],_=>rfl
 |(i,v)::r,j=>by
  rw[aX]
  simp only[cR]
  cases h:Nat.ble HS i with
  |true=>
   have h':HS≤i:=by simpa using h
   show look ((i - HS,v)::cR r) j=_
   rw[aX,gA r j]
   by_cases e:i=j+HS
   ·rw[if_pos (by omega),if_pos e]
   ·rw[if_neg (by omega),if_neg e]
  |false=>
   have h':¬HS≤i:=by
                intro hh;have:Nat.ble HS i=true:=by simpa using hh
                rw[this] at h;cases h
   show look (cR r) j=_
   rw[gA r j,if_neg (by omega)]
theorem l8:∀(e:List (Nat×AV)) (j:Nat),look (aj e) j=if j<HS then look e (j+HS) else .any
 |[],j=>by show AV.any=_;split<;>rfl
 |(i,v)::r,j=>by
  rw[aX]
  simp only[aj]
  cases h:(Nat.ble HS i && Nat.blt i (HS+HS)) with
  |true=>
   simp only[Bool.and_eq_true] at h
   have h1:HS≤i:=by simpa using h.1
   have h2:i<HS+HS:=by simpa using h.2
   show look ((i - HS,v)::aj r) j=_
   rw[aX,l8 r j]
   by_cases e:i=j+HS
   ·rw[if_pos (by omega),if_pos (by omega),if_pos e]
   ·rw[if_neg (by omega),if_neg e]
  |false=>
   show look (aj r) j=_
   rw[l8 r j]
   by_cases hj:j<HS
   ·rw[if_pos hj,if_pos hj]
    by_cases e:i=j+HS
    ·exfalso
     have:(Nat.ble HS i && Nat.blt i (HS+HS))=true:=by simp only[Bool.and_eq_true];exact⟨by simpa using (by omega:HS≤i),by simpa using (by omega:i<HS+HS)⟩
     rw[this] at h;cases h
    ·rw[if_neg e]
   ·rw[if_neg hj,if_neg hj]
def xp (l:Nat) (Q:Exit→DS→Prop) (δ:DS):Option Ob→Prop
 |some (.loop l' _ _ _ _ .ready)=>l'=l∧Q .normal δ
 |some (.loop l' _ _ _ _ (.done .ret))=>l'=l∧Q .ret δ
 |some (.loop l' _ _ _ _ (.done (.exit id)))=>l'=l∧Q (.exit id) δ
 |_=>False
def fl (n i:Nat) (δ:DS):DS:={n,env:=cR δ.env,objs:=(match δ.ob i with|some (.loop l tm ps asg body _)=>(i,some (.loop l tm ps asg body .jk))|o=>(i,o))::δ.objs,nx:=δ.nx}
def bm (n i l:Nat) (Q:Exit→DS→Prop):Exit→DS→Prop
 |.normal,δ|.ret,δ=>xp l Q (fl n i δ) (δ.ob i)
 |_,_=>False
theorem cS.putObj (w:World) (b:Nat) (o:Obj):cS w (w.putObj b o) (some b):=⟨rfl,rfl,rfl,by simp,fun k _ h=>World.putObj_heap_other (fun e=>h (by rw[e]))⟩
theorem l7 (g:ar) (a:Act) (j:Nat):g.val a (j+HS)=g.held (j+HS):=by unfold ar.val;rw[if_neg (by omega)]
theorem Ej {n i l:Nat} {tm ps asg body st} (h:δ.ob i=some (.loop l tm ps asg body st)):∀j,(fl n i δ).ob j=if i=j then some (.loop l tm ps asg body .jk) else δ.ob j:=by
 intro j
 unfold fl
 rw[h]
 exact aV _ _ _ _
theorem Rel.back {g':ar} {a2 a':Act} {w w':World} {n i b l:Nat} {tm ps asg body st} {r:Loop} (r2:Rel g' δ κ a2 w) (dg:g.wt=none) (I5:g'.wt=none) (hg:g'.B=g.B∧g'.w0=g.w0∧g'.N0=g.N0∧g'.fr=g.fr∧g'.w1=g.w1) (eK:∀j,g'.held (j+HS)=g.val a' j) (hn:a'.tmps.size=n)
  (ho:δ.ob i=some (.loop l tm ps asg body st)) (hκ:κ i=some b) (hr:w.heap[b]? =some (.loop r)) (r':Loop) (hk:r'.tmps=r.tmps∧r'.params=r.params∧r'.assign=r.assign∧r'.body=r.body) (hw:w'=w.putObj b (.loop r'))
  (hd:zf g a' w') (FV:∀d∈a'.defers,∀r,d.target=.collected r→¬g.fr r):Rel g (fl n i δ) κ a' w':=by
 subst hw
 have aP:b<w.heap.size:=cW hr
 obtain⟨r3,G⟩:=r2.modify (o':=.loop l tm ps asg body .jk) ho rfl rfl hκ (eA I5 i) (cS.putObj w b (.loop r')) (by simp) (fun C hC G=>by
  obtain⟨b',r0,h1,h2,rq,h3,h4,h5,h6,_⟩:=r2.obj i _ ho
  have:b'=b:=Option.some.inj (h1.symm.trans hκ)
  subst this
  rw[hr] at h2
  cases h2
  exact⟨b',r',by rw[hC];exact hκ,World.putObj_heap_same aP,rq,hk.1.trans h3,hk.2.1.trans h4,hk.2.2.1.trans h5,hk.2.2.2.trans h6,trivial⟩)
 have dx:∀j,(fl n i δ).ob j=(δ.bx i (some (.loop l tm ps asg body .jk))).ob j:=by
  intro j;rw[Ej ho,du]
 have vk:(fl n i δ).cx g κ=(δ.bx i (some (.loop l tm ps asg body .jk))).cx g' κ:=by
  have h1:(fl n i δ).live=(δ.bx i (some (.loop l tm ps asg body .jk))).live:=funext fun j=>by unfold DS.live;rw[dx]
  have h2:(fl n i δ).lr=(δ.bx i (some (.loop l tm ps asg body .jk))).lr:=funext fun j=>by unfold DS.lr;rw[dx]
  have h3:(fl n i δ).lb=(δ.bx i (some (.loop l tm ps asg body .jk))).lb:=funext fun j=>by unfold DS.lb;rw[dx]
  unfold DS.cx
  rw[h1,h2,h3,hg.1,hg.2.2.1]
 have bf:∀j,(fl n i δ).live j↔(δ.bx i (some (.loop l tm ps asg body .jk))).live j:=fun j=>by unfold DS.live;rw[dx]
 exact
  {n:=hn,dfr:=hd
   env:=fun j=>by
    have h1:=r3.env (j+HS)
    rw[l7,eK j] at h1
    have h2:(fl n i δ).get j=(δ.bx i (some (.loop l tm ps asg body .jk))).get (j+HS):=gA δ.env j
    rw[h2,vk];exact h1
   obj:=fun j o h=>by rw[dx] at h;rw[vk];exact r3.obj j o h
   inj:=fun i j b h1 h2=>r3.inj i j b ((bf i).1 h1) ((bf j).1 h2)
   lo:=fun j b h1 h2=>by rw[← hg.1];exact r3.lo j b ((bf j).1 h1) h2
   nx:=fun j h=>r3.nx j ((bf j).1 h)
   wt:=fun k hk=>by rw[dg] at hk;cases hk
   below:=by rw[← hg.1,← hg.2.1];exact r3.below
   mkf:=FV
   fr:=by
    have h1:jV g' (fl n i δ).live κ (w.putObj b (.loop r')):=r3.fr.sub fun j b h1 h2=>⟨j,(bf j).1 h1,h2⟩
    exact h1.re hg.1.symm hg.2.2.2.1.symm hg.2.2.2.2.symm dg
   hB:=by rw[← hg.1];exact r3.hB
   N0:=by rw[← hg.1,← hg.2.2.1,← hg.2.2.2.1];exact r3.N0}
theorem Eb {x:Operand} {f:FuncId} {vs us:Array Value} {a:Act} (hx:a.eval x=.func (.func f) vs us) (l:Nat) (w:World):
  (resolve a.eval (rangeCall x l) 0).run P w=.ok {target:=.fn (.func f) us,args:=vs++ #[.func (.yield l) #[] #[]]} w:=by
 have hc:a.eval (.const (.func (.yield l) #[] #[]))=.func (.yield l) #[] #[]:=rfl
 simp [resolve,rangeCall,Deferred.ofValue,hx,hc]
theorem AW.rangeFunc {x:Operand} {ps:Array Tmp} {asg body:Code} {f:FuncId} {first cap:List AV} {fn:Func} {c:Code} {n':Nat} (tk:g.ro=none) (dg:g.wt=none) (hx:δ.ev x=.clo (.func f) first cap) (ho:aK x=true)
  (hf:P.funcs[f]? =some fn) (hb:fn.body=some c) (vt:fn.results= #[]) (hn:fn.ntmps=n') (hle:Nat.ble (first.length+1+cap.length) n'=true) (hnH:Nat.ble n' HS=true) (b8:Nat.ble δ.n HS=true) (he:(fn.name== "runtime.NumGoroutine")=false)
  (h:∀(g':ar) (tm:Array Value) (l:Nat),g'.ro=none→g'.wt=none→(∀j,j<HS→g'.held (j+HS)=tm.getD j undef)→tm.size=δ.n→
   AW P g' c (bm δ.n δ.nx l Q) {n:=n',env:=enum 0 (first++ .yld δ.nx::cap)++bU δ.env,objs:=(δ.nx,some (.loop l tm ps asg body .ready))::δ.objs,nx:=δ.nx+1}):
  AW P g (.rangeFunc x ps asg body) Q δ:=by
 intro κ a w r
 have oo:=r.ra hx ho
 generalize hv:a.eval x=v at oo
 cases oo with
 | @clo _ vs us _ _ hs KJ ht KZ=>
  rw[tk]
  have zJ:first.length+1+cap.length≤n':=by simpa using hle
  have hnH':n'≤HS:=by simpa using hnH
  obtain⟨ms,hm1,hm2,hm3⟩:=r.dfr
  refine wpIn_rangeFunc fun fnid _=>?_
  let w1:=w.alloc (.deferred (some []))
  let lp:Loop:={state:=.ready,pending:=none,fn:=fnid,tmps:=a.tmps,params:=ps,assign:=asg,body,defers:=w.heap.size}
  let w2:=w1.alloc (.loop lp)
  have hw1s:w1.heap.size=w.heap.size+1:=by show(w.heap.push _).size=_;simp
  refine⟨w.heap.size+1,[{target:=.collected w.heap.size,args:= #[]}],w2,_,w2,f,vs++ #[.func (.yield (w.heap.size+1)) #[] #[]]++us,w2,run_enterLoop_outer fnid a.tmps ps asg body,Eb hv _ _,fun _ _=>trivial,?_,fun h=>by simp at h,?_⟩
  ·have br:(fn.name== "runtime.NumGoroutine")=false:=he
   simp [invoke,callFunc,hf,hb]
   simpa using br
  let g':ar:={B:=g.B,w0:=g.w0,N0:=g.N0,held:=fun j=>g.val a (j - HS),ro:=none,mks:=w.heap.size::(ms++g.mks),wt:=none,fr:=g.fr,w1:=g.w1}
  have hr1:Rel g δ κ a w1:=r.ext ((Below.refl _ _).alloc (Nat.le_refl _) _)
  obtain⟨hr2,G⟩:=hr1.grow (.loop (w.heap.size+1) a.tmps ps asg body .ready) (.loop lp) (fun C G hκ=>⟨_,lp,hκ,heap_alloc_new w1 _,hw1s,rfl,rfl,rfl,rfl,rfl,rfl⟩)
  let κ2:=cp κ δ.nx (some w1.heap.size)
  have hκ2:κ2 δ.nx=some (w.heap.size+1):=by show cp _ _ _ _=_;simp [cp,hw1s]
  let δ2:DS:={n:=n',env:=enum 0 (first++ .yld δ.nx::cap)++bU δ.env,objs:=(δ.nx,some (.loop (w.heap.size+1) a.tmps ps asg body .ready))::δ.objs,nx:=δ.nx+1}
  have vk:δ2.cx g' κ2=(δ.ba (.loop (w.heap.size+1) a.tmps ps asg body .ready)).cx g κ2:=rfl
  have y_:∀(e1 e2:List (Nat×AV)) (j:Nat),look (e1++e2) j=look e1 j∨(look e1 j=.any∧look (e1++e2) j=look e2 j):=by
   intro e1 e2 j
   induction e1 with
   |nil=>exact .inr ⟨rfl,rfl⟩
   |cons p e1 ih=>
    obtain⟨i,v⟩:=p
    rw[List.cons_append,aX,aX]
    by_cases e:i=j
    ·rw[if_pos e,if_pos e];exact .inl rfl
    ·rw[if_neg e,if_neg e];exact ih
  let args:Array Value:=vs++ #[.func (.yield (w.heap.size+1)) #[] #[]]++us
  have iK:args.size=first.length+1+cap.length:=by simp [args];omega
  have i_:Rel g' δ2 κ2 {tmps:=args++Array.replicate (fn.ntmps - args.size) undef,defers:=[]} w2:=
   {n:=by show(args++Array.replicate (fn.ntmps - args.size) undef).size=n';rw[Array.size_append,Array.size_replicate,hn,iK];omega
    dfr:=⟨[],rfl,by
      show(w.heap.size::(ms++g.mks)).Nodup
      refine List.nodup_cons.2 ⟨fun pX=>?_,hm2⟩
      have:=cW (hm3 _ pX).2
      omega,fun k hk=>by
      rw[List.nil_append] at hk
      rcases List.mem_cons.1 hk with rfl|hk
      ·refine⟨r.hB,?_⟩
       rw[show w2.heap[w.heap.size]? =w1.heap[w.heap.size]? from Below.heap_alloc w1 _ _ (by omega)]
       exact heap_alloc_new w _
      ·have h3:=hm3 k hk
       have aP:=cW h3.2
       refine⟨h3.1,?_⟩
       rw[show w2.heap[k]? =w1.heap[k]? from Below.heap_alloc w1 _ _ (by omega),show w1.heap[k]? =w.heap[k]? from Below.heap_alloc w _ _ aP]
       exact h3.2⟩
    env:=fun j=>by
     rw[vk]
     by_cases hj:j<HS
     ·have eK:g'.val {tmps:=args++Array.replicate (fn.ntmps - args.size) undef,defers:=[]} j=(args++Array.replicate (fn.ntmps - args.size) undef).getD j undef:=if_pos hj
      rw[eK]
      have zI:δ2.get j=look (enum 0 (first++ .yld δ.nx::cap)) j:=by
       rcases y_ (enum 0 (first++ .yld δ.nx::cap)) (bU δ.env) j with h1|⟨h1,h2⟩
       ·exact h1
       ·show look (_++_) j=_
        rw[h2,h1,fP _ _ hj]
      rw[zI]
      by_cases Ih:j<args.size
      ·have hl:j<(first++ .yld δ.nx::cap).length:=by simp;omega
       rw[gM _ 0 j ((first++ .yld δ.nx::cap)[j]) (Nat.zero_le _) (by rw[Nat.sub_zero];exact List.getElem?_eq_getElem hl)]
       have vo:(args++Array.replicate (fn.ntmps - args.size) undef).getD j undef=args[j]:=by
        rw[Array.getD_eq_getD_getElem?,Array.getElem?_append_left Ih,Array.getElem?_eq_getElem Ih];rfl
       rw[vo]
       have hA:args[j]? =some args[j]:=Array.getElem?_eq_getElem Ih
       have hL:(first++ .yld δ.nx::cap)[j]? =some (first++ .yld δ.nx::cap)[j]:=List.getElem?_eq_getElem hl
       generalize args[j]=u at hA ⊢
       generalize (first++ .yld δ.nx::cap)[j]=d at hL ⊢
       simp only[args] at hA
       by_cases h1:j<first.length
       ·rw[List.getElem?_append_left h1] at hL
        rw[Array.getElem?_append_left (by simp;omega),Array.getElem?_append_left (by omega)] at hA
        exact G.ra ((ez.ra ⟨rfl,by rw[hw1s];omega,fun b hb hN=>⟨hN,Below.heap_alloc w _ _ hb⟩,fun i hi=>⟨hi,rfl,fun b hκ=>Below.heap_alloc w _ _ (r.lo i b (DS.bN hi) hκ).2⟩,fun i hi=>⟨hi,rfl⟩⟩ (KJ j u d hA hL)))
       ·rw[List.getElem?_append_right (by omega)] at hL
        by_cases h2:j=first.length
        ·subst h2
         simp at hL
         subst hL
         rw[Array.getElem?_append_left (by simp;omega),Array.getElem?_append_right (by omega)] at hA
         simp [hs] at hA
         subst hA
         exact .yld ⟨_,by show(δ.ba _).ob _=_;rw[bp,if_pos rfl],rfl⟩ hκ2
        ·obtain⟨m,hm⟩:∃m,j=first.length+1+m:=⟨j - first.length - 1,by omega⟩
         subst hm
         rw[show first.length+1+m - first.length=m+1 by omega,List.getElem?_cons_succ] at hL
         rw[Array.getElem?_append_right (by simp;omega)] at hA
         have e0:first.length+1+m - (vs++ #[Value.func (.yield (w.heap.size+1)) #[] #[]]).size=m:=by simp;omega
         rw[e0] at hA
         exact G.ra ((ez.ra ⟨rfl,by rw[hw1s];omega,fun b hb hN=>⟨hN,Below.heap_alloc w _ _ hb⟩,fun i hi=>⟨hi,rfl,fun b hκ=>Below.heap_alloc w _ _ (r.lo i b (DS.bN hi) hκ).2⟩,fun i hi=>⟨hi,rfl⟩⟩ (KZ m u d hA hL)))
      ·rw[dh _ 0 j (.inr (by simp;omega))];exact .any _
     ·obtain⟨m,rfl⟩:∃m,j=m+HS:=⟨j - HS,by omega⟩
      have eK:g'.val {tmps:=args++Array.replicate (fn.ntmps - args.size) undef,defers:=[]} (m+HS)=g.val a m:=by
       rw[l7];exact congrArg (g.val a) (Nat.add_sub_cancel m HS)
      rw[eK]
      have zI:δ2.get (m+HS)=δ.get m:=by
       have h0:look (enum 0 (first++ .yld δ.nx::cap)) (m+HS)=.any:=dh _ 0 _ (.inr (by simp;omega))
       rcases y_ (enum 0 (first++ .yld δ.nx::cap)) (bU δ.env) (m+HS) with h1|⟨h1,h2⟩
       ·
        have:∀(e1:List (Nat×AV)),(∀p∈e1,p.1≠m+HS)→look (e1++bU δ.env) (m+HS)=look (bU δ.env) (m+HS):=by
         intro e1 br
         induction e1 with
         |nil=>rfl
         |cons p e1 ih=>
          rw[List.cons_append]
          show look ((p.1,p.2)::(e1++bU δ.env)) _=_
          rw[aX,if_neg (br p (by simp))]
          exact ih (fun q hq=>br q (by simp [hq]))
        have hk:∀(l:List AV) (i:Nat),∀p∈enum i l,p.1<i+l.length:=by
         intro l
         induction l with
         |nil=>intro i p hp;simp [enum] at hp
         |cons v l ih=>
          intro i p hp
          simp only[enum,List.mem_cons] at hp
          rcases hp with rfl|hp
          ·simp
          ·have:=ih (i+1) p hp;simp;omega
        show look (_++_) _=_
        rw[this _ (fun p hp=>by have:=hk _ 0 p hp;simp at this;omega),fK];rfl
       ·show look (_++_) _=_
        rw[h2,fK];rfl
      rw[zI]
      exact hr2.env m
    obj:=hr2.obj,inj:=hr2.inj,lo:=hr2.lo,nx:=hr2.nx,wt:=fun k hk=>(by cases hk),below:=hr2.below,hB:=hr2.hB,N0:=hr2.N0,fr:=hr2.fr.re rfl rfl rfl rfl,mkf:=fun d hd=>by cases hd}
  have J4:=h g' a.tmps (w.heap.size+1) rfl rfl (fun j hj=>(congrArg (g.val a) (Nat.add_sub_cancel j HS)).trans (by unfold ar.val;rw[if_pos hj])) r.n κ2 _ w2 i_
  refine callsIn_of_wp_marks (n:=0) hf hb trivial (wpIn_mono J4 ?_)
  rintro e a2 w3 ⟨δ3,κ3,hq,r3⟩
  have fin:xp (w.heap.size+1) Q (fl δ.n δ.nx δ3) (δ3.ob δ.nx)→LeavesInM (Fw none) 0 P fn a2.tmps (rangePost (Fw none) 0 P (w.heap.size+1) (lift g Q) {a with defers:=[{target:=.collected w.heap.size,args:= #[]}]++a.defers}) a2.defers .returning w3:=by
   intro hj
   obtain⟨tm3,ps3,asg3,body3,st3,dx⟩:∃tm ps asg body st,δ3.ob δ.nx=some (.loop (w.heap.size+1) tm ps asg body st):=by
    cases OC:δ3.ob δ.nx with
    |none=>rw[OC] at hj;exact hj.elim
    |some o=>
     rw[OC] at hj
     cases o with
     |row=>exact hj.elim
     |box cs=>exact hj.elim
     |mp l=>exact hj.elim
     |mpl l k v=>exact hj.elim
     |it l seen=>exact hj.elim
     |lit T vals=>exact hj.elim
     |pool e rows=>exact hj.elim
     |loop l' tm ps asg body st=>
      cases st with
      |ready=>obtain⟨rfl,_⟩:=hj;exact⟨tm,ps,asg,body,_,rfl⟩
      |busy=>exact hj.elim
      |jk=>exact hj.elim
      |done c=>cases c<;>first|exact hj.elim|(obtain⟨rfl,_⟩:=hj;exact⟨tm,ps,asg,body,_,rfl⟩)
   refine leaves (g:=g') rfl rfl (rs:=[]) vt .none r3 (fun w4 r4 u hu=>?_)
   obtain⟨b,rl,h1,h2,rq,h3,h4,h5,h6,h7⟩:=r4.obj _ _ dx
   have h1':κ3 δ.nx=some b:=h1
   subst rq
   have MO:rl.state≠ .busy:=by
    rw[dx] at hj
    cases st3 with
    |ready=>rw[h7.1];simp
    |busy=>exact hj.elim
    |jk=>exact hj.elim
    |done c=>rw[h7.1];simp
   have r_:=run_endLoop (P:=P) (w:=w4) h2 MO
   have hd:zf g {a with defers:=[{target:=.collected w.heap.size,args:= #[]}]++a.defers} (w4.putObj (w.heap.size+1) (.loop {rl with state:=.exhausted})):=by
    obtain⟨rs4,k1,k2,k3⟩:=r4.dfr
    refine⟨w.heap.size::ms,by simp [hm1],?_,fun k hk=>?_⟩
    ·have:(rs4++g'.mks).Nodup:=k2
     exact(List.nodup_append.1 this).2.1
    ·have hk':=k3 k (List.mem_append.2 (.inr hk))
     refine⟨hk'.1,?_⟩
     rw[World.putObj_heap_other (by intro e;subst e;rw[h2] at hk';cases hk'.2)]
     exact hk'.2
   have rb:=r4.back (g:=g) (n:=δ.n) (a':={a with defers:=[{target:=.collected w.heap.size,args:= #[]}]++a.defers}) dg rfl ⟨rfl,rfl,rfl,rfl,rfl⟩ (fun j=>congrArg (g.val a) (Nat.add_sub_cancel j HS)) r.n dx h1' h2 {rl with state:=.exhausted} ⟨rfl,rfl,rfl,rfl⟩ rfl hd (fun d hd r0 e=>by
    rcases List.mem_append.1 hd with hd|hd
    ·rw[List.mem_singleton] at hd
     subst hd
     cases e
     exact fun hf=>Nat.lt_irrefl _ (r.fr.tu hf)
    ·exact r.mkf d hd r0 e)
   refine⟨rl.pending,_,r_,?_⟩
   rw[dx] at hj
   cases st3 with
   |ready=>rw[h7.2] at rb ⊢;exact⟨_,κ3,hj.2,rb⟩
   |busy=>exact hj.elim
   |jk=>exact hj.elim
   |done c=>
    rw[h7.2] at rb ⊢
    cases c with
    |ret=>exact wpIn_ret ⟨_,κ3,hj.2,rb⟩
    |exit id=>exact wpIn_exit ⟨_,κ3,hj.2,rb⟩
    |_=>exact hj.elim
  cases e with
  |normal=>exact fin hq
  |ret=>exact fin hq
  |_=>exact hq.elim
def uX:List Tmp→List AV→List (Nat×AV)→List (Nat×AV)
 |t::ts,v::vs,e=>uX ts vs ((t,v)::e)
 |_,_,e=>e
def mM (n:Nat) (ps:List Tmp) (avs:List AV) (δ:DS):DS:={n,env:=uX ps avs (aj δ.env++bU δ.env),objs:=δ.objs,nx:=δ.nx}
def bc (n:Nat) (δ:DS):DS:={n,env:=cR δ.env,objs:=δ.objs,nx:=δ.nx}
theorem ki:∀(e1 e2:List (Nat×AV)) (j:Nat),(look (e1++e2) j=look e1 j)∨((∀p∈e1,p.1≠j)∧look (e1++e2) j=look e2 j)
 |[],e2,j=> .inr ⟨by simp,rfl⟩
 |(i,v)::e1,e2,j=>by
  rw[List.cons_append,aX,aX]
  by_cases e:i=j
  ·rw[if_pos e,if_pos e];exact .inl rfl
  ·rw[if_neg e,if_neg e]
   rcases ki e1 e2 j with h|⟨h1,h2⟩
   ·exact .inl h
   ·refine .inr ⟨fun p hp=>?_,h2⟩
    rcases List.mem_cons.1 hp with rfl|hp
    ·exact e
    ·exact h1 p hp
theorem ns:∀(e:List (Nat×AV)) (j:Nat),(∀p∈e,p.1≠j)→look e j=.any
 |[],_,_=>rfl
 |(i,v)::e,j,h=>by rw[aX,if_neg (h (i,v) (by simp))];exact ns e j fun p hp=>h p (by simp [hp])
theorem qc:∀(e:List (Nat×AV)),∀p∈aj e,p.1<HS
 |[],p,h=>by simp [aj] at h
 |(i,v)::e,p,h=>by
  simp only[aj] at h
  cases hc:(Nat.ble HS i && Nat.blt i (HS+HS)) with
  |true=>
   rw[hc] at h
   simp only[Bool.and_eq_true] at hc
   have h1:HS≤i:=by simpa using hc.1
   have h2:i<HS+HS:=by simpa using hc.2
   rcases List.mem_cons.1 h with rfl|h
   ·show i - HS<HS;omega
   ·exact qc e p h
  |false=>rw[hc] at h;exact qc e p h
theorem wW (e:List (Nat×AV)) (j:Nat):look (aj e++bU e) j=if j<HS then look e (j+HS) else look e (j - HS):=by
 by_cases hj:j<HS
 ·rw[if_pos hj]
  rcases ki (aj e) (bU e) j with h|⟨h1,h2⟩
  ·rw[h,l8,if_pos hj]
  ·have h3:=ns _ _ h1
   rw[l8,if_pos hj] at h3
   rw[h2,fP _ _ hj,h3]
 ·rw[if_neg hj]
  have h1:∀p∈aj e,p.1≠j:=fun p hp e'=>hj (e'▸qc e p hp)
  rcases ki (aj e) (bU e) j with h|⟨_,h2⟩
  ·rw[ns _ _ h1] at h
   -- both are any or the other
   have:∀(e1:List (Nat×AV)),(∀p∈e1,p.1≠j)→look (e1++bU e) j=look (bU e) j:=by
    intro e1 br
    induction e1 with
    |nil=>rfl
    |cons p e1 ih=>
     rw[List.cons_append]
     show look ((p.1,p.2)::(e1++bU e)) j=_
     rw[aX,if_neg (br p (by simp))]
     exact ih fun q hq=>br q (by simp [hq])
   rw[this _ h1]
   obtain⟨m,rfl⟩:∃m,j=m+HS:=⟨j - HS,by omega⟩
   rw[fK,Nat.add_sub_cancel]
  ·rw[h2]
   obtain⟨m,rfl⟩:∃m,j=m+HS:=⟨j - HS,by omega⟩
   rw[fK,Nat.add_sub_cancel]
theorem BY {C:Cx} {w:World} {hv:Nat→Value}:∀(ps:List Tmp) (vals:List Value) (avs:List AV) (tm:Array Value) (e:List (Nat×AV)),vals.length=ps.length→avs.length=ps.length→
  (∀t∈ps,t<tm.size∧t<HS)→(∀(j:Nat) (u:Value) (v:AV),vals[j]? =some u→avs[j]? =some v→RA C w u v)→
  (∀j,RA C w (if j<HS then tm.getD j undef else hv j) (look e j))→
  ∀j,RA C w (if j<HS then ((ps.zip vals).foldl (fun tmps (t,a)=>tmps.setIfInBounds t a) tm).getD j undef else hv j) (look (uX ps avs e) j)
 |[],[],[],tm,e,_,_,_,_,h=>h
 |t::ps,u::vals,v::avs,tm,e,h1,h2,h3,h4,h=>by
  simp only[List.zip_cons_cons,List.foldl_cons,uX]
  refine BY ps vals avs _ _ (by simpa using h1) (by simpa using h2) (fun t' ht'=>by simpa using h3 t' (by simp [ht'])) (fun j x y hx hy=>h4 (j+1) x y (by simpa using hx) (by simpa using hy)) (fun j=>?_)
  rw[aX]
  by_cases e':t=j
  ·subst e'
   obtain⟨h5,h6⟩:=h3 t (by simp)
   rw[if_pos rfl,if_pos h6,Array.getD_eq_getD_getElem?,Array.getElem?_setIfInBounds,if_pos rfl,if_pos h5]
   exact h4 0 u v rfl rfl
  ·rw[if_neg e']
   have:=h j
   by_cases hj:j<HS
   ·rw[if_pos hj] at this ⊢
    rw[Array.getD_eq_getD_getElem?,Array.getElem?_setIfInBounds,if_neg e',← Array.getD_eq_getD_getElem?]
    exact this
   ·rw[if_neg hj] at this ⊢;exact this
 |[],_::_,_,_,_,h,_,_,_,_=>by simp at h
 |[],[],_::_,_,_,_,h,_,_,_=>by simp at h
 |_::_,[],_,_,_,h,_,_,_,_=>by simp at h
 |_::_,_::_,[],_,_,_,h,_,_,_=>by simp at h
theorem uv:∀(l:List (Tmp×Value)) (tm:Array Value),(l.foldl (fun tmps (t,a)=>tmps.setIfInBounds t a) tm).size=tm.size
 |[],_=>rfl
 |(t,a)::l,tm=>by simp only[List.foldl_cons];rw[uv l];simp
def jM (δ:DS) (i l:Nat) (st:oh):Prop:=∃tm ps asg body,δ.ob i=some (.loop l tm ps asg body st)
def DS.iV (δ:DS) (i:Nat) (st:oh):DS:=match δ.ob i with|some (.loop l tm ps asg body _)=>δ.bx i (some (.loop l tm ps asg body st))|_=>δ
def nA (n i l:Nat) (K:Bool→oh→DS→Prop):Exit→DS→Prop
 |.normal,δ=>jM δ i l .busy∧K true .ready (bc n δ)
 |.ret,δ=>jM δ i l .busy∧K false (.done .ret) (bc n δ)
 |.exit id,δ=>jM δ i l .busy∧K false (.done (.exit id)) (bc n δ)
 |_,_=>False
theorem Rel.iV {i l:Nat} {st st':oh} {rl r':Loop} (dg:g.wt=none) (r:Rel g δ κ a w) (h:jM δ i l st) (hr:w.heap[l]? =some (.loop rl)) (hk:r'.tmps=rl.tmps∧r'.params=rl.params∧r'.assign=rl.assign∧r'.body=rl.body)
  (dp:match st' with|.ready=>r'.state=.ready∧r'.pending=none|.busy=>r'.state=.busy|.done c=>r'.state=.done∧r'.pending=some c|.jk=>True):Rel g (δ.iV i st') κ a (w.putObj l (.loop r')):=by
 obtain⟨tm,ps,asg,body,ho⟩:=h
 obtain⟨b,r0,h1,h2,rq,h3,h4,h5,h6,_⟩:=r.obj i _ ho
 have h1':κ i=some b:=h1
 subst rq
 rw[hr] at h2
 cases h2
 obtain⟨r3,G⟩:=r.modify (o':=.loop b tm ps asg body st') ho rfl rfl h1' (eA dg i) (cS.putObj w b (.loop r')) (by simp) (fun C hC G=>
  ⟨b,r',by rw[hC];exact h1',World.putObj_heap_same (cW hr),rfl,hk.1.trans h3,hk.2.1.trans h4,hk.2.2.1.trans h5,hk.2.2.2.trans h6,dp⟩)
 unfold DS.iV
 rw[ho]
 exact r3
theorem Rel.frame {g':ar} {a2 a':Act} {n:Nat} (r2:Rel g' δ κ a2 w) (dg:g.wt=none) (I5:g'.wt=none) (hg:g'.B=g.B∧g'.w0=g.w0∧g'.N0=g.N0∧g'.fr=g.fr∧g'.w1=g.w1) (eK:∀j,g'.held (j+HS)=g.val a' j) (hn:a'.tmps.size=n) (hd:zf g a' w) (FV:∀d∈a'.defers,∀r,d.target=.collected r→¬g.fr r):Rel g (bc n δ) κ a' w:=by
 have vk:(bc n δ).cx g κ=δ.cx g' κ:=by
  show(δ.cx g κ)=_
  unfold DS.cx
  rw[hg.1,hg.2.2.1]
 exact
  {n:=hn,dfr:=hd
   env:=fun j=>by
    have h1:=r2.env (j+HS)
    rw[l7,eK j] at h1
    have h2:(bc n δ).get j=δ.get (j+HS):=gA δ.env j
    rw[h2,vk];exact h1
   obj:=fun j o h=>by rw[vk];exact r2.obj j o h
   inj:=r2.inj
   lo:=fun j b h1 h2=>by rw[← hg.1];exact r2.lo j b h1 h2
   nx:=r2.nx
   wt:=fun k hk=>by rw[dg] at hk;cases hk
   below:=by rw[← hg.1,← hg.2.1];exact r2.below
   mkf:=FV
   fr:=by
    have h1:jV g' δ.live κ w:=r2.fr
    exact h1.re hg.1.symm hg.2.2.2.1.symm hg.2.2.2.2.symm dg
   hB:=by rw[← hg.1];exact r2.hB
   N0:=by rw[← hg.1,← hg.2.2.1,← hg.2.2.2.1];exact r2.N0}
theorem t_ {x:Operand} {ys:Array Operand} {tys:Array TypeId} {l:Nat} {r:Loop} {a:Act} (hx:a.eval x=.func (.yield l) #[] #[]) (h:w.heap[l]? =some (.loop r)) (hs:ys.size=r.params.size):
  (execOp a.eval ⟨dst,.call {callee:=.value x,args:=ys,argTypes:=tys},ty,pos,af,none⟩).run P w=
   .ok (.round l r.fn ((r.params.zip (ys.map a.eval)).foldl (fun tmps (t,a)=>tmps.setIfInBounds t a) r.tmps) r.assign r.body) w:=by
 have:=run_yield (P:=P) (w:=w) (args:=ys.map a.eval) h (by simpa using hs)
 simp only[execOp,resolve,Deferred.ofValue,hx,invoke,Sem.run_bind,Sem.run_pure,Result.andThen_ok,Array.empty_append]
 exact this
theorem aa.yield {x:Operand} {ys:List Operand} {tys:Array TypeId} {i l n0:Nat} {tm:Array Value} {ps:List Tmp} {asg body:Code} (tk:g.ro=none) (dg:g.wt=none) (nW:∀j,j<HS→g.held (j+HS)=tm.getD j undef) (zN:tm.size=n0) (hn0:Nat.ble n0 HS=true)
  (hx:δ.ev x=.yld i) (dx:δ.ob i=some (.loop l tm ps.toArray asg body .ready)) (ho:aK x=true) (KD:ys.all aK=true) (hlen:Nat.beq ys.length ps.length=true) (GA:ps.all (fun t=>Nat.blt t n0)=true) (hd':bk δ.n dst=true)
  (h:∀g':ar,g'.ro=some l→g'.wt=none→AW P g' asg (bM (fun δ1=>jM δ1 i l .ready∧AW P g' body (nA δ.n i l (fun b st δ2=>aa .plain P g ops rest Q ((δ2.iV i st).au dst (aM b)))) (δ1.iV i .busy)) (fun _ _=>False)) (mM n0 ps (ys.map δ.ev) δ)):
  aa .plain P g ops (⟨dst,.call {callee:=.value x,args:=ys.toArray,argTypes:=tys},ty,pos,af,none⟩::rest) Q δ:=by
 intro κ a w r
 have oo:=r.ra hx ho
 generalize hv:a.eval x=v at oo
 cases oo with
 | @yld _ b hl hκ=>
  obtain⟨b',rl,h1,h2,rq,h3,h4,h5,h6,h7⟩:=r.obj _ _ dx
  have:b'=b:=Option.some.inj (h1.symm.trans hκ)
  subst this
  subst rq
  obtain⟨ms,hm1,hm2,hm3⟩:=r.dfr
  have xy:ys.length=ps.length:=Nat.eq_of_beq_eq_true hlen
  show wpListIn _ _ P ops _ (_::rest) a w
  refine cr rfl rfl fun K hK'=>?_
  unfold Oper.uT
  rw[t_ hv h2 (by rw[h4];simpa using xy),Oper.uponIn_round,tk]
  refine⟨fun h=>by simp at h,?_⟩
  let tm':Array Value:=(rl.params.zip (ys.toArray.map a.eval)).foldl (fun tmps (t,a)=>tmps.setIfInBounds t a) rl.tmps
  have Ck:tm'=(ps.zip (ys.map a.eval)).foldl (fun tmps (t,a)=>tmps.setIfInBounds t a) tm:=by
   show(rl.params.zip (ys.toArray.map a.eval)).foldl _ rl.tmps=_
   rw[h3,h4,← Array.foldl_toList,Array.toList_zip]
   simp
  let g':ar:={B:=g.B,w0:=g.w0,N0:=g.N0,held:=fun j=>g.val a (j - HS),ro:=some b',mks:=ms++g.mks,wt:=none,fr:=g.fr,w1:=g.w1}
  have GG:∀j,g'.held (j+HS)=g.val a j:=fun j=>congrArg (g.val a) (Nat.add_sub_cancel j HS)
  have i_:Rel g' (mM n0 ps (ys.map δ.ev) δ) κ {tmps:=tm',defers:=[]} w:=
   {n:=by show tm'.size=n0;rw[Ck,uv];exact zN
    dfr:=⟨[],rfl,hm2,hm3⟩
    env:=fun j=>by
     have hp:=BY (C:=δ.cx g κ) (w:=w) (hv:=g'.held) ps (ys.map a.eval) (ys.map δ.ev) tm (aj δ.env++bU δ.env) (by simpa using xy) (by simpa using xy)
      (fun t ht=>by
       have h8:=(List.all_eq_true.1 GA) t ht
       have h9:t<n0:=by simpa using h8
       have h10:n0≤HS:=by simpa using hn0
       exact⟨zN▸h9,Nat.lt_of_lt_of_le h9 h10⟩)
      (fun j u v h8 h9=>by
       simp only[List.getElem?_map,Option.map_eq_some_iff] at h8 h9
       obtain⟨y,h8,rfl⟩:=h8
       obtain⟨y',h9,rfl⟩:=h9
       rw[h8] at h9;cases h9
       exact r.wO y (cQ ((List.all_eq_true.1 KD) y (List.mem_of_getElem? h8))))
      (fun j=>by
       rw[wW]
       by_cases hj:j<HS
       ·rw[if_pos hj,if_pos hj,← nW j hj,← l7]
        exact r.env (j+HS)
       ·rw[if_neg hj,if_neg hj]
        exact r.env (j - HS)) j
     rw[← Ck] at hp
     exact hp
    obj:=r.obj,inj:=r.inj,lo:=r.lo,nx:=r.nx,wt:=fun k hk=>(by cases hk),below:=r.below,hB:=r.hB,N0:=r.N0,fr:=r.fr.re rfl rfl rfl rfl,mkf:=fun d hd=>by cases hd}
  rw[h5,h6]
  refine roundIn_of_wpIn (F:=Fw none) trivial (wpIn_mono (h g' rfl rfl κ _ w i_) ?_)
  rintro e a1 w1 ⟨δ1,κ1,hq,r1⟩
  cases e with
  |normal=>
   obtain⟨Ja,hq⟩:=hq
   have NG:=Ja
   obtain⟨tm1,ps1,asg1,body1,ho1⟩:=Ja
   obtain⟨b1,rl1,k1,k2,kbl,k3,k4,k5,k6,k7⟩:=r1.obj _ _ ho1
   subst kbl
   have r1':=r1.iV rfl (st':=.busy) (r':={rl1 with state:=.busy}) NG k2 ⟨rfl,rfl,rfl,rfl⟩ rfl
   refine⟨_,run_beginRound k2 k7.1,wpIn_mono (hq κ1 a1 _ r1') ?_⟩
   rintro e2 a2 w2 ⟨δ2,κ2,hq2,r2⟩
   have fin:∀(jump:Option Code) (st:oh) (bb:Bool),bb=jump.isNone→jM δ2 i b1 .busy→aa .plain P g ops rest Q (((bc δ.n δ2).iV i st).au dst (aM bb))→
     (match st with|.ready=>jump=none|.done c=>jump=some c|_=>False)→
     ∃v w',(Instr.endRound b1 jump).run P w2=.ok v w'∧K (a.put dst v) w':=by
    intro jump st bb Fv hl2 hA dp
    have hl20:=hl2
    obtain⟨tm2,ps2,asg2,body2,ho2⟩:=hl2
    obtain⟨b2,rl2,m1,m2,mbl,m3,m4,m5,m6,m7⟩:=r2.obj _ _ ho2
    subst mbl
    have r3:=r2.iV rfl (st':=st) (r':={rl2 with state:=if jump.isNone then .ready else .done,pending:=jump}) hl20 m2 ⟨rfl,rfl,rfl,rfl⟩ (by
     cases st with
     |ready=>simp only at dp;subst dp;exact⟨rfl,rfl⟩
     |done c=>simp only at dp;subst dp;exact⟨rfl,rfl⟩
     |_=>exact dp.elim)
    refine⟨_,_,run_endRound jump m2,?_⟩
    have hd:zf g a (w2.putObj b2 (.loop {rl2 with state:=if jump.isNone then .ready else .done,pending:=jump})):=by
     obtain⟨rs4,k1,k2,k3⟩:=r3.dfr
     exact⟨ms,hm1,(List.nodup_append.1 k2).2.1,fun k hk=>k3 k (List.mem_append.2 (.inr hk))⟩
    have r4:=r3.frame (g:=g) (a':=a) (n:=δ.n) dg rfl ⟨rfl,rfl,rfl,rfl,rfl⟩ GG r.n hd r.mkf
    have he:bc δ.n (δ2.iV i st)=(bc δ.n δ2).iV i st:=by
     unfold DS.iV
     have:(bc δ.n δ2).ob i=δ2.ob i:=rfl
     rw[this,ho2];rfl
    rw[he] at r4
    subst Fv
    have mG:((bc δ.n δ2).iV i st).n=δ.n:=by
     unfold DS.iV
     have:(bc δ.n δ2).ob i=δ2.ob i:=rfl
     rw[this,ho2];rfl
    exact hK' _ _ (hA κ2 _ _ (r4.au (v:=.bool jump.isNone) (aU (by rw[mG];exact hd')) (.pv (.lit _))))
   cases e2 with
   |normal=>exact fin none .ready true rfl hq2.1 hq2.2 rfl
   |ret=>exact fin (some .ret) (.done .ret) false rfl hq2.1 hq2.2 rfl
   |exit id=>exact fin (some (.exit id)) (.done (.exit id)) false rfl hq2.1 hq2.2 rfl
   |_=>exact hq2.elim
  |_=>exact hq.elim
end Go.Ab
/- Calls walked in place:the callee's body over the caller's own objects. -/
namespace Go.Ab
open Go Go.RowKit
attribute [local irreducible] HS
variable {P:Program} {g:ar} {δ:DS} {κ:Kp} {a:Act} {w:World}
variable {ops:Array Oper} {rest:List Oper} {Q:Exit→DS→Prop} {dst:Option Nat} {ty:TypeId} {pos:String} {af:Array Edge}
theorem oC (l:List AV) (e:List (Nat×AV)) (hl:l.length≤HS) (j:Nat):look (enum 0 l++bU e) j=if j<HS then look (enum 0 l) j else look e (j - HS):=by
 have y_:∀(l:List AV) (i:Nat),(∀j,i+l.length≤j∨j<i→look (enum i l++bU e) j=look (bU e) j)∧(∀j,i≤j→j<i+l.length→look (enum i l++bU e) j=look (enum i l) j):=by
  intro l
  induction l with
  |nil=>intro i;exact⟨fun j _=>rfl,fun j h1 h2=>by simp at h2;omega⟩
  |cons v l ih=>
   intro i
   obtain⟨h1,h2⟩:=ih (i+1)
   simp only[List.length_cons]
   refine⟨fun j hj=>?_,fun j h3 h4=>?_⟩
   ·show look ((i,v)::(enum (i+1) l++bU e)) j=_
    rw[aX,if_neg (by omega)]
    exact h1 j (by omega)
   ·show look ((i,v)::(enum (i+1) l++bU e)) j=look ((i,v)::enum (i+1) l) j
    rw[aX,aX]
    by_cases e:i=j
    ·rw[if_pos e,if_pos e]
    ·rw[if_neg e,if_neg e]
     exact h2 j (by omega) (by omega)
 obtain⟨h1,h2⟩:=y_ l 0
 by_cases hj:j<HS
 ·rw[if_pos hj]
  by_cases hj2:j<l.length
  ·exact h2 j (Nat.zero_le _) (by omega)
  ·rw[h1 j (by omega),fP _ _ hj,dh l 0 j (by omega)]
 ·rw[if_neg hj,h1 j (by omega)]
  obtain⟨m,rfl⟩:∃m,j=m+HS:=⟨j - HS,by omega⟩
  rw[fK,Nat.add_sub_cancel]
def bs (P:Program) (rs:List ResultVar) (n:Nat) (dst:Option Nat) (K:DS→Prop):Exit→DS→Prop
 |.normal,δ|.ret,δ=>∃v,bD P δ rs v∧K ((bc n δ).au dst v)
 |_,_=>False
theorem iJ {rs:List ResultVar} {n:Nat} {K:DS→Prop} {v:AV} (h:bD P δ rs v) (hK:K ((bc n δ).au dst v)):bs P rs n dst K .ret δ:=⟨v,h,hK⟩
theorem Al {rs:List ResultVar} {n:Nat} {K:DS→Prop} {v:AV} (h:bD P δ rs v) (hK:K ((bc n δ).au dst v)):bs P rs n dst K .normal δ:=⟨v,h,hK⟩
theorem rH {gd:Option (Tmp×Bool)} {x:Operand} {f:FuncId} {vs us:Array Value} {xs:Array Operand} {tys:Array TypeId} {ρ:Operand→Value} (hx:ρ x=.func (.func f) vs us) (he:∀vals w,(callFunc f vals).run P w=.ok (.enter f vals) w) (w:World):
  (execOp ρ ⟨dst,.call {callee:=.value x,args:=xs,argTypes:=tys},ty,pos,af,gd⟩).run P w=.ok (.enter f (vs++xs.map ρ++us)) w:=by
 simp [execOp,resolve,Deferred.ofValue,invoke,hx,he]
theorem aa.inline {x:Operand} {xs:List Operand} {tys:Array TypeId} {f:FuncId} {first cap:List AV} {fn:Func} {c:Code} {n':Nat} {rs:List ResultVar} (dg:g.wt=none) (hx:δ.ev x=.clo (.func f) first cap) (ho:aK x=true) (l9:xs.all aK=true)
  (hf:P.funcs[f]? =some fn) (hb:fn.body=some c) (mE:fn.results=rs.toArray) (hn:fn.ntmps=n') (hle:Nat.ble (first.length+xs.length+cap.length) n'=true) (hnH:Nat.ble n' HS=true) (hd:bk δ.n dst=true) (he:(fn.name== "runtime.NumGoroutine")=false)
  (h:∀g':ar,g'.ro=none→g'.wt=none→AW P g' c (bs P rs δ.n dst fun δ2=>aa .plain P g ops rest Q δ2) {n:=n',env:=enum 0 (first++xs.map δ.ev++cap)++bU δ.env,objs:=δ.objs,nx:=δ.nx}):
  aa .plain P g ops (⟨dst,.call {callee:=.value x,args:=xs.toArray,argTypes:=tys},ty,pos,af,none⟩::rest) Q δ:=by
 intro κ a w r
 have oo:=r.ra hx ho
 generalize hv:a.eval x=v at oo
 cases oo with
 | @clo _ vs us _ _ hs KJ ht KZ=>
  have zJ:first.length+xs.length+cap.length≤n':=by simpa using hle
  have hnH':n'≤HS:=by simpa using hnH
  obtain⟨ms,hm1,hm2,hm3⟩:=r.dfr
  have M9:∀vals w,(callFunc f vals).run P w=.ok (.enter f vals) w:=fun vals w=>by simp [callFunc,hf,hb];simpa using he
  show wpListIn _ _ P ops _ (_::rest) a w
  refine cr rfl rfl fun K hK'=>?_
  unfold Oper.uT
  rw[rH hv M9,Oper.uponIn_enter]
  refine⟨fun h=>by simp at h,?_⟩
  let args:Array Value:=vs++xs.toArray.map a.eval++us
  let avs:List AV:=first++xs.map δ.ev++cap
  have iK:args.size=avs.length:=by simp [args,avs];omega
  have kO:avs.length=first.length+xs.length+cap.length:=by simp [avs];omega
  let g':ar:={B:=g.B,w0:=g.w0,N0:=g.N0,held:=fun j=>g.val a (j - HS),ro:=none,mks:=ms++g.mks,wt:=none,fr:=g.fr,w1:=g.w1}
  let δ2:DS:={n:=n',env:=enum 0 avs++bU δ.env,objs:=δ.objs,nx:=δ.nx}
  have b9:∀(j:Nat) (u:Value) (av:AV),args[j]? =some u→avs[j]? =some av→RA (δ.cx g κ) w u av:=by
   intro j u av h1 h2
   simp only[args] at h1
   simp only[avs] at h2
   by_cases hj:j<first.length+xs.length
   ·rw[List.getElem?_append_left (by simp;omega)] at h2
    rw[Array.getElem?_append_left (by simp;omega)] at h1
    by_cases hj1:j<first.length
    ·rw[List.getElem?_append_left hj1] at h2
     rw[Array.getElem?_append_left (by omega)] at h1
     exact KJ j u av h1 h2
    ·rw[List.getElem?_append_right (by omega)] at h2
     rw[Array.getElem?_append_right (by omega),hs] at h1
     simp only[List.map_toArray,List.getElem?_toArray,List.getElem?_map,Option.map_eq_some_iff] at h1 h2
     obtain⟨y,h3,rfl⟩:=h1
     obtain⟨y',h4,rfl⟩:=h2
     rw[h3] at h4;cases h4
     exact r.wO y (cQ ((List.all_eq_true.1 l9) y (List.mem_of_getElem? h3)))
   ·rw[List.getElem?_append_right (by simp;omega)] at h2
    rw[Array.getElem?_append_right (by simp;omega)] at h1
    have e1:(vs++xs.toArray.map a.eval).size=(first++xs.map δ.ev).length:=by simp;omega
    rw[e1] at h1
    exact KZ _ u av h1 h2
  have i_:Rel g' δ2 κ {tmps:=args++Array.replicate (fn.ntmps - args.size) undef,defers:=[]} w:=
   {n:=by show(args++Array.replicate (fn.ntmps - args.size) undef).size=n';rw[Array.size_append,Array.size_replicate,hn,iK];omega
    dfr:=⟨[],rfl,hm2,hm3⟩
    env:=fun j=>by
     show RA (δ.cx g κ) w _ (look (enum 0 avs++bU δ.env) j)
     rw[oC avs δ.env (by omega)]
     unfold ar.val
     by_cases hj:j<HS
     ·rw[if_pos hj,if_pos hj]
      show RA (δ.cx g κ) w ((args++Array.replicate (fn.ntmps - args.size) undef).getD j undef) _
      by_cases Ih:j<avs.length
      ·have vo:(args++Array.replicate (fn.ntmps - args.size) undef).getD j undef=args[j]:=by
        rw[Array.getD_eq_getD_getElem?,Array.getElem?_append_left (by omega),Array.getElem?_eq_getElem (by omega)];rfl
       rw[vo,gM avs 0 j avs[j] (Nat.zero_le _) (by rw[Nat.sub_zero];exact List.getElem?_eq_getElem Ih)]
       exact b9 j _ _ (Array.getElem?_eq_getElem (by omega)) (List.getElem?_eq_getElem Ih)
      ·rw[dh avs 0 j (by omega)];exact .any _
     ·rw[if_neg hj,if_neg hj]
      exact r.env (j - HS)
    obj:=r.obj,inj:=r.inj,lo:=r.lo,nx:=r.nx,wt:=fun k hk=>(by cases hk),below:=r.below,hB:=r.hB,N0:=r.N0,fr:=r.fr.re rfl rfl rfl rfl,mkf:=fun d hd=>by cases hd}
  refine(show CallsIn (Fw none) (0 - 1) P f args w _ from callsIn_of_wp_marks (n:=0) hf hb trivial (wpIn_mono (h g' rfl rfl κ _ w i_) ?_))
  rintro e a2 w2 ⟨δ3,κ3,hq,r3⟩
  have fin:∀v,bD P δ3 rs v→aa .plain P g ops rest Q ((bc δ.n δ3).au dst v)→LeavesInM (Fw none) 0 P fn a2.tmps (fun
    |.returned v,w''=>K (a.put dst v) w''
    |.panicked chain,w''=>lift g Q (.panic chain) a w''
    |.outgrown,_=>LetsOut (lift g Q)) a2.defers .returning w2:=by
   intro v h1 h2
   refine leaves (g:=g') rfl rfl mE h1 r3 (fun w4 r4 u hu=>?_)
   have hd4:zf g a w4:=by
    obtain⟨rs4,k1,k2,k3⟩:=r4.dfr
    exact⟨ms,hm1,(List.nodup_append.1 k2).2.1,fun k hk=>k3 k (List.mem_append.2 (.inr hk))⟩
   have r5:=r4.frame (g:=g) (a':=a) (n:=δ.n) dg rfl ⟨rfl,rfl,rfl,rfl,rfl⟩ (fun j=>congrArg (g.val a) (Nat.add_sub_cancel j HS)) r.n hd4 r.mkf
   exact hK' _ _ (h2 κ3 _ _ (r5.au (aU hd) hu))
  cases e with
  |normal=>obtain⟨v,h1,h2⟩:=hq;exact fin v h1 h2
  |ret=>obtain⟨v,h1,h2⟩:=hq;exact fin v h1 h2
  |_=>exact hq.elim
end Go.Ab
namespace Go.Ab
section
variable {P:Program} {δ:DS} {n:Nat} {dst:Option Nat} {K:DS→Prop} {t t':Tmp}
theorem f_ {p:PV} (ht:Nat.blt t HS=true) (h:δ.get t=.pv p) (hK:K ((bc n δ).au dst (.pv p))):bs P [.tmp t] n dst K .ret δ:=iJ (.one (.tmp ht h)) hK
theorem sP {i e k els} (ht:Nat.blt t HS=true) (h:δ.get t=.own i e k els) (hK:K ((bc n δ).au dst (.own i e k els))):bs P [.tmp t] n dst K .ret δ:=iJ (.one (.tmp ht h)) hK
theorem sD {i o} (ht:Nat.blt t HS=true) (h:δ.get t=.ptr i o) (hK:K ((bc n δ).au dst (.ptr i o))):bs P [.tmp t] n dst K .ret δ:=iJ (.one (.tmp ht h)) hK
theorem ee (hK:K ((bc n δ).au dst (.tup []))):bs P [] n dst K .normal δ:=Al .none hK
theorem tE {p p':PV} (ht:Nat.blt t HS=true) (h:δ.get t=.pv p) (ht':Nat.blt t' HS=true) (h':δ.get t'=.pv p') (hK:K ((bc n δ).au dst (.tup [.pv p,.pv p']))):bs P [.tmp t,.tmp t'] n dst K .ret δ:=iJ (.two (.tmp ht h) (.tmp ht' h')) hK
theorem tT {i e k els} {p':PV} (ht:Nat.blt t HS=true) (h:δ.get t=.own i e k els) (ht':Nat.blt t' HS=true) (h':δ.get t'=.pv p') (hK:K ((bc n δ).au dst (.tup [.own i e k els,.pv p']))):bs P [.tmp t,.tmp t'] n dst K .ret δ:=iJ (.two (.tmp ht h) (.tmp ht' h')) hK
end
end Go.Ab
/- Regions that draw their order and hold operations with an effect:what only reads is taken first,the rest is walked in each order. -/
namespace Go.Ab
open Go Go.RowKit
variable {P:Program} {g:ar} {δ:DS} {κ:Kp} {a:Act} {w:World}
variable {ops:Array Oper} {Q:Exit→Act→World→Prop} {ro:Option Nat}
theorem uw {j:Nat} {oi oj:Oper} {v:Value} {I:Act→Prop} (hj:ops[j]? =some oj) (dt:dI oj=true) (Ln:oi.apart ops oj=true)
  (QI:∀cs b,oj.op≠ .select cs b) (hQ:∀c a w,Q (.panic c) (a.put oi.dst v) w→Q (.panic c) a w) (keep:∀a u,I a→I (a.put oj.dst u)) (keepD:∀(a:Act) d,I a→I {a with defers:=d::a.defers}) {K:Act→World→Prop} {a:Act} {w:World}
  (hy:I a) (h:wpOpIn (Fw ro) 0 P ops Q j K (a.put oi.dst v) w):wpOpIn (Fw ro) 0 P ops Q j (fun a' w'=>I a'∧K (a'.put oi.dst v) w') a w:=by
 obtain⟨h1,h2,h3⟩:=Oper.apart_spec Ln
 unfold wpOpIn at*
 simp only[hj] at*
 rw[wanted_put oj a oi.dst v h1,about_put oj w a oi.dst v h1] at h
 have KH:∀ρ,oj.semAt (Fw ro).round ρ=execOp ρ oj:=fun ρ=>Oper.semAt_eq _ _ _ (by intro c e;simp [dI,e] at dt)
 split
 ·rename_i hw
  simp only[hw,if_true] at h
  unfold Oper.wpIn at*
  rw[about_put oj w a oi.dst v h1] at h
  refine⟨h.1,?_⟩
  have h:=h.2
  rw[KH,execOp_put oj QI a oi.dst v h1] at h
  rw[KH]
  generalize (execOp a.eval oj).run P w=r at*
  cases r with
  |ok x w'=>
   cases x<;>simp only[Oper.uponIn] at h ⊢
   case value u=>exact⟨keep a u hy,by rw[← Act.put_comm a v u h2];exact h⟩
   case skip=>exact⟨keep a _ hy,by rw[← Act.put_comm a v undef h2];exact h⟩
   case defer d=>
    refine⟨keep _ _ (keepD _ _ hy),?_⟩
    rw[← Act.put_comm _ v undef h2,← Act.put_defers]
    exact h
   case enter f args=>
    refine⟨h.1,CallsIn.mono h.2 fun e w'' he=>?_⟩
    cases e with
    |returned u=>exact⟨keep a u hy,by rw[← Act.put_comm a v u h2];exact he⟩
    |panicked c=>exact hQ _ _ _ he
    |outgrown=>exact he
   case row row args=>exact⟨h.1,RowsIn.mono h.2 fun u w'' he=>⟨keep a u hy,by rw[← Act.put_comm a v u h2];exact he⟩⟩
   case round l f tmps assign body=>
    refine⟨h.1,RoundIn.mono h.2 fun e w'' he=>?_⟩
    cases e with
    |returned u=>exact⟨keep a u hy,by rw[← Act.put_comm a v u h2];exact he⟩
    |panicked c=>exact hQ _ _ _ he
    |outgrown=>exact he
  |halt x w'=>
   cases x<;>simp only[Oper.uponIn] at h ⊢
   case panic u=>exact hQ _ _ _ h
 ·rename_i hw
  simp only[hw] at h
  exact⟨h.1,keep a _ hy,by rw[← Act.put_comm a v undef h2];exact h.2⟩
def iz (ro:Option Nat) (P:Program) (ops:Array Oper) (Q:Exit→Act→World→Prop) (S:Array Bool→World→Prop):Nat→Array Bool→Act→World→Prop
 |0,listed,a,w=>Region.ready .any ops listed=[]∧Q .normal a w
 |fuel+1,listed,a,w=>
  (Region.ready .any ops listed=[]→Q .normal a w)∧
  ∀i∈Region.ready .any ops listed,wpOpIn (Fw ro) 0 P ops Q i (fun a' w'=>S (listed.setIfInBounds i true) w'∧iz ro P ops Q S fuel (listed.setIfInBounds i true) a' w') a w
theorem pI {S:Array Bool→World→Prop}:∀(fuel:Nat) (listed:Array Bool) (a:Act) (w:World),iz ro P ops Q S fuel listed a w→wpAnyIn (Fw ro) 0 P .any ops Q fuel listed a w
 |0,_,_,_,h=>h
 |fuel+1,_,_,_,h=>⟨h.1,fun i hi=>wpOpIn_mono (fun a' w' h'=>pI fuel _ a' w' h'.2) (h.2 i hi)⟩
def DC (ops:Array Oper) (listed:Array Bool):Prop:=∀j o,ops[j]? =some o→listed.getD j false=true→∀e∈o.after,Region.binds .any e=true→listed.getD e.on false=true
theorem CO (listed:Array Bool) (i j:Nat) (d:Bool):(listed.setIfInBounds i true).getD j d=if i=j then (if i<listed.size then true else d) else listed.getD j d:=by
 by_cases h:i=j
 ·subst h
  rw[if_pos rfl]
  by_cases aP:i<listed.size
  ·simp [aP]
  ·simp [aP]
 ·rw[if_neg h];exact getD_set_ne d h
theorem DC.ready {listed:Array Bool} (h:DC ops listed) {i:Nat} (hi:i∈Region.ready .any ops listed):DC ops (listed.setIfInBounds i true):=by
 intro j o ho hj e he hb
 obtain⟨_,o',ho',ec⟩:=mem_ready.1 hi
 by_cases oJ:i=j
 ·subst oJ
  rw[ho'] at ho;cases ho
  exact getD_set_true (ec e he hb)
 ·rw[getD_set_ne false oJ] at hj
  exact getD_set_true (h j o ho hj e he hb)
theorem mr {S:Array Bool→World→Prop} {C:World→Prop} {i:Nat} {oi:Oper} {v:Value} (hi:ops[i]? =some oi) (JP:∀(j:Nat) (o:Oper) cs b,ops[j]? =some o→o.op≠ .select cs b) (dt:∀(j:Nat) (o:Oper),ops[j]? =some o→dI o=true)
  (hQ:∀c a w,Q (.panic c) (a.put oi.dst v) w→Q (.panic c) a w)
  (hC:∀listed w,DC ops listed→listed.getD i true=false→S listed w→C w) (hS:∀listed w,S (listed.setIfInBounds i true) w↔S listed w):
  ∀(fuel:Nat) (listed:Array Bool) (a:Act) (w:World),DC ops listed→
   (∀j oj,ops[j]? =some oj→j≠i→listed.getD j true=false→(∀e∈oj.after,Region.binds .any e=true→e.on≠i)→oi.apart ops oj=true)→
   i∈Region.ready .any ops listed→YieldsIf P ops C oi v a→S listed w→
   iz ro P ops Q S fuel (listed.setIfInBounds i true) (a.put oi.dst v) w→iz ro P ops Q S (fuel+1) listed a w:=by
 have kS:∀{K:Act→World→Prop} {a:Act} {w:World},YieldsIf P ops C oi v a→C w→K (a.put oi.dst v) w→wpOpIn (Fw ro) 0 P ops Q i K a w:=by
  intro K a w hy hw hk
  unfold wpOpIn
  simp only[hi]
  rcases hy with ⟨FL,hv⟩|⟨FL,rfl⟩
  ·simp only[FL,if_true,Oper.wpIn]
   refine⟨fun _ _=>trivial,?_⟩
   rw[Oper.semAt_eq _ _ _ (by intro c e;have:=dt i oi hi;simp [dI,e] at this),hv w hw]
   exact hk
  ·simp only[FL,Bool.false_eq_true,if_false];exact⟨fun _ _=>trivial,hk⟩
 intro fuel
 induction fuel with
 |zero=>
  intro listed a w oa _ hr hy hSw H
  refine⟨fun h=>(by rw[h] at hr;cases hr),fun j hj=>?_⟩
  by_cases jP:j=i
  ·subst jP;exact kS hy (hC listed w oa (mem_ready.1 hr).1 hSw) ⟨(hS _ _).2 hSw,H⟩
  ·have:=ready_mono hj jP
   rw[H.1] at this
   cases this
 |succ fuel ih=>
  intro listed a w oa FB hr hy hSw H
  refine⟨fun h=>(by rw[h] at hr;cases hr),fun j hj=>?_⟩
  by_cases jP:j=i
  ·subst jP;exact kS hy (hC listed w oa (mem_ready.1 hr).1 hSw) ⟨(hS _ _).2 hSw,H⟩
  ·have h1:=H.2 j (ready_mono hj jP)
   obtain⟨Kg,oj,Lk,ec⟩:=mem_ready.1 hj
   have zO:∀e∈oj.after,Region.binds .any e=true→e.on≠i:=fun e he hb heq=>by
    have h1:=ec e he hb
    have h0:=(mem_ready.1 hr).1
    rw[heq] at h1
    rcases Nat.lt_or_ge i listed.size with h'|h'
    ·simp [h'] at h0 h1;rw[h0] at h1;cases h1
    ·simp [Array.getElem?_eq_none h'] at h1
   have Ln:=FB j oj Lk jP Kg zO
   obtain⟨_,_,h3⟩:=Oper.apart_spec Ln
   have h2:=uw (I:=YieldsIf P ops C oi v) Lk (dt j oj Lk) Ln (fun cs b=>JP j oj cs b Lk) hQ
    (fun a u hy=>hy.of_same (execOp_put oi (fun cs b=>JP i oi cs b hi) a oj.dst u h3) (wanted_put oi a oj.dst u h3)) (fun a d hy=>hy.of_same rfl rfl) hy h1
   have HA:∀k ok,ops[k]? =some ok→k≠i→(listed.setIfInBounds j true).getD k true=false→
     (∀e∈ok.after,Region.binds .any e=true→e.on≠i)→oi.apart ops ok=true:=fun k ok hk QU Ia gB=>by
    refine FB k ok hk QU ?_ gB
    by_cases MH:j=k
    ·subst MH;exact Kg
    ·rw[getD_set_ne true MH] at Ia;exact Ia
   refine wpOpIn_mono (fun a' w' h3=>?_) h2
   obtain⟨h4,h5,h6⟩:=h3
   rw[Array.setIfInBounds_comm _ _ (Ne.symm jP)] at h5 h6
   have h7:=(hS _ _).1 h5
   exact⟨h7,ih (listed.setIfInBounds j true) a' w' (oa.ready hj) HA (ready_mono hr (Ne.symm jP)) h4 h7 h6⟩
abbrev Wt:=World×(Nat→Prop)×Nat
def bZ (late:List Nat) (listed:Array Bool):Bool:=late.any fun j=>listed.getD j false
def tw (k:Wt) (late:List Nat) (listed:Array Bool) (w:World):Prop:=bZ late listed=false→∀b,k.2.1 b→b<k.1.heap.size∧w.heap[b]? =k.1.heap[b]?
def Gs (g' g:ar):Prop:=g'.ro=g.ro∧g'.B=g.B∧g'.w0=g.w0
def tq (g:ar) (k:Wt) (late:List Nat) (listed:Array Bool):ar:={g with wt:=if bZ late listed=true then none else some k}
def bL (n:Nat):List Nat→Array Bool
 |[]=>Array.replicate n false
 |i::done=>(bL n done).setIfInBounds i true
theorem pq {late:List Nat} {i:Nat} (h:late.contains i=false) (listed:Array Bool):bZ late (listed.setIfInBounds i true)=bZ late listed:=by
 unfold bZ
 induction late with
 |nil=>rfl
 |cons j late ih=>
  simp only[List.contains_cons,Bool.or_eq_false_iff] at h
  have oJ:i≠j:=by simpa using h.1
  simp only[List.any_cons]
  rw[getD_set_ne false oJ,ih h.2]
theorem nP {late:List Nat} {i:Nat} {listed:Array Bool} (h:bZ late listed=true):bZ late (listed.setIfInBounds i true)=true:=by
 unfold bZ at*
 rw[List.any_eq_true] at*
 obtain⟨j,h1,h2⟩:=h
 exact⟨j,h1,getD_set_true h2⟩
theorem Rel.Eu (r:Rel g δ κ a w) {wt':Option Wt} (h:∀k,wt'=some k→(∀b,k.2.1 b→b<k.1.heap.size∧w.heap[b]? =k.1.heap[b]?)∧∀i b,δ.live i→(δ.lr i∨k.2.2≤i)→κ i=some b→¬k.2.1 b) (hF:∀k,wt'=some k→∀b,κ.Fs b→¬k.2.1 b):Rel {g with wt:=wt'} δ κ a w:=
 {n:=r.n,dfr:=r.dfr,env:=r.env,obj:=r.obj,inj:=r.inj,lo:=r.lo,nx:=r.nx,wt:=h,below:=r.below,hB:=r.hB,N0:=r.N0,mkf:=r.mkf
  fr:=⟨r.fr.1,fun i b hb=>let ⟨h1,h2⟩:=r.fr.2 i b hb;⟨⟨h1.1,fun k hk=>hF k hk b ⟨i,hb⟩⟩,h2⟩⟩}
theorem uA {k:Wt} {late:List Nat} {listed:Array Bool} (i:Nat) (r:Rel (tq g k late listed) δ κ a w):Rel (tq g k late (listed.setIfInBounds i true)) δ κ a w:=by
 have hk:∀k',(if bZ late (listed.setIfInBounds i true)=true then none else some k)=some k'→(tq g k late listed).wt=some k':=fun k' hk'=>by
  by_cases h:bZ late (listed.setIfInBounds i true)=true
  ·rw[if_pos h] at hk';cases hk'
  ·rw[if_neg h] at hk'
   cases hk'
   show(if bZ late listed=true then none else some k)=some k
   rw[if_neg (fun h'=>h (nP h'))]
 exact Rel.Eu (g:=tq g k late listed) r (wt':=if bZ late (listed.setIfInBounds i true)=true then none else some k) (fun k' hk'=>r.wt k' (hk k' hk')) (fun k' hk' b ⟨j,hj⟩=>(r.fr.2 j b hj).1.2 k' (hk k' hk'))
theorem Fo {k:Wt} {late:List Nat} {listed:Array Bool} (r:Rel (tq g k late listed) δ κ a w):tw k late listed w:=by
 intro h
 refine(r.wt k ?_).1
 show(if bZ late listed=true then none else some k)=some k
 rw[if_neg (by simp [h])]
theorem AD {k:Wt} {late:List Nat} {listed:Array Bool} (dg:g.wt=none) (r:Rel (tq g k late listed) δ κ a w):Rel g δ κ a w:=by
 have:=Rel.Eu r (wt':=none) (fun k hk=>by cases hk) (fun k hk=>by cases hk)
 cases g
 cases dg
 exact this
def dR (f:DS→Prop):Exit→DS→Prop
 |.normal,δ=>f δ
 |_,_=>False
theorem EA {f:DS→Prop} (h:f δ):dR f .normal δ:=h
def kW (g:ar) (Q:Exit→DS→Prop):Exit→Act→World→Prop
 |.normal,a,w=>lift g Q .normal a w
 |.panic c,a,w=>∃δ κ,Q (.panic c) δ∧(∀j,j<HS→δ.get j=.any)∧Rel {g with wt:=none} δ κ a w
 |_,_,_=>False
theorem rW {g:ar} {Q:Exit→DS→Prop} {c:List PanicEntry} {a:Act} {w:World} {d:Option Nat} {v:Value} (h:kW g Q (.panic c) (a.put d v) w):kW g Q (.panic c) a w:=by
 obtain⟨δ,κ,h1,h2,r⟩:=h
 refine⟨δ,κ,h1,h2,?_⟩
 exact
  {n:=by have:=r.n;cases d<;>simpa [Act.put] using this
   dfr:=by have:=r.dfr;cases d<;>exact this
   env:=fun j=>by
    by_cases hj:j<HS
    ·rw[h2 j hj];exact .any _
    ·have:=r.env j
     have e:∀b:Act,ar.val {g with wt:=none} b j=g.held j:=fun b=>by unfold ar.val;rw[if_neg hj]
     rw[e] at this
     rw[e]
     exact this
   obj:=r.obj,inj:=r.inj,lo:=r.lo,nx:=r.nx,wt:=r.wt,below:=r.below,hB:=r.hB,N0:=r.N0,fr:=r.fr
   mkf:=by have:=r.mkf;cases d<;>exact this}
def AR (P:Program) (g:ar) (k:Wt) (late:List Nat) (l:List Oper) (Q:Exit→DS→Prop) (done:List Nat) (δ:DS):Prop:=
 DC l.toArray (bL l.length done)→∀κ a w,Rel (tq g k late (bL l.length done)) δ κ a w→iz g.ro P l.toArray (kW g Q) (tw k late) (l.length - done.length) (bL l.length done) a w
def fQ (l:List Oper) (done rs:List Nat):Bool:=Region.ready .any l.toArray (bL l.length done)==rs
variable {k:Wt} {late:List Nat} {l:List Oper} {dn:List Nat} {QD:Exit→DS→Prop}
theorem AR.done (dg:g.wt=none) (hr:fQ l dn []=true) (h:QD .normal δ):AR P g k late l QD dn δ:=by
 intro _ κ a w r
 have hr':Region.ready .any l.toArray (bL l.length dn)=[]:=by simpa [fQ] using hr
 have hp:kW g QD .normal a w:=⟨δ,κ,h,AD dg r⟩
 cases l.length - dn.length with
 |zero=>exact⟨hr',hp⟩
 |succ n=>exact⟨fun _=>hp,by rw[hr'];simp⟩
theorem AR.all {rs:List Nat} (hl:Nat.blt dn.length l.length=true) (hr:fQ l dn rs=true) (br:rs≠ []) (h:∀i∈rs,∃o,l[i]? =some o∧
  aa .plain P (tq g k late (bL l.length (i::dn))) l.toArray [o] (dR (AR P g k late l QD (i::dn))) δ):AR P g k late l QD dn δ:=by
 intro oa κ a w r
 have hr':Region.ready .any l.toArray (bL l.length dn)=rs:=by simpa [fQ] using hr
 have hl':dn.length<l.length:=by simpa using hl
 obtain⟨n,hn⟩:∃n,l.length - dn.length=n+1:=⟨l.length - dn.length - 1,by omega⟩
 rw[hn]
 refine⟨fun h0=>absurd (hr'▸h0) br,fun i hi=>?_⟩
 have hi':=hi
 rw[hr'] at hi
 obtain⟨o,ho,hA⟩:=h i hi
 have ho':l.toArray[i]? =some o:=by simpa using ho
 have h1:=hA κ a w (uA i r)
 have Ht:DC l.toArray (bL l.length (i::dn)):=oa.ready hi'
 have qv:∀a' w',lift (tq g k late (bL l.length (i::dn))) (dR (AR P g k late l QD (i::dn))) .normal a' w'→
   tw k late ((bL l.length dn).setIfInBounds i true) w'∧iz g.ro P l.toArray (kW g QD) (tw k late) n ((bL l.length dn).setIfInBounds i true) a' w':=by
  rintro a' w' ⟨δ',κ',h2,r2⟩
  refine⟨Fo r2,?_⟩
  have h3:=h2 Ht κ' a' w' r2
  have e1:l.length - (i::dn).length=n:=by simp;omega
  rw[e1] at h3
  exact h3
 have hA':wpListIn (Fw g.ro) 0 P l.toArray (lift (tq g k late (bL l.length (i::dn))) (dR (AR P g k late l QD (i::dn)))) [o] a w:=h1
 unfold wpListIn at hA'
 unfold wpOpIn
 simp only[ho']
 have gB:∀e a w,lift (tq g k late (bL l.length (i::dn))) (dR (AR P g k late l QD (i::dn))) e a w→e=.normal:=by
  rintro e a w ⟨δ',κ',h2,_⟩
  cases e<;>first|rfl|exact h2.elim
 split
 ·rename_i hw
  rw[if_pos hw] at hA'
  obtain⟨h2,h3⟩:=hA'
  refine⟨h2,?_⟩
  revert h3
  generalize (o.semAt (Fw g.ro).round a.eval).run P w=res
  intro h3
  cases res with
  |ok x w'=>
   cases x<;>simp only[Oper.uponIn] at h3 ⊢
   case value u=>exact qv _ _ h3
   case skip=>exact qv _ _ h3
   case defer d=>exact qv _ _ h3
   case enter f args=>
    refine⟨h3.1,CallsIn.mono h3.2 fun e w'' he=>?_⟩
    cases e with
    |returned u=>exact qv _ _ he
    |panicked c=>exact absurd (gB _ _ _ he) (by simp)
    |outgrown=>
     exfalso
     obtain⟨a2,w2,he⟩:=he
     have:=gB _ _ _ he
     cases this
   case row row args=>exact⟨h3.1,RowsIn.mono h3.2 fun u w'' he=>qv _ _ he⟩
   case round l' f tmps assign body=>
    refine⟨h3.1,RoundIn.mono h3.2 fun e w'' he=>?_⟩
    cases e with
    |returned u=>exact qv _ _ he
    |panicked c=>exact absurd (gB _ _ _ he) (by simp)
    |outgrown=>
     exfalso
     obtain⟨a2,w2,he⟩:=he
     have:=gB _ _ _ he
     cases this
  |halt x w'=>
   cases x<;>simp only[Oper.uponIn] at h3 ⊢
   case panic u=>exact absurd (gB _ _ _ h3) (by simp)
 ·rename_i hw
  rw[if_neg hw] at hA'
  exact⟨hA'.1,qv _ _ hA'.2⟩
theorem AR.bQ {i:Nat} {o:Oper} (hl:Nat.blt dn.length l.length=true) (hr:fQ l dn [i]=true) (ho:l[i]? =some o)
  (h:∀g':ar,Gs g' g→(∀j,k.2.2≤j→g'.iu j)→aa .plain P g' l.toArray [o] (dR (AR P g k late l QD (i::dn))) δ):AR P g k late l QD dn δ:=
 AR.all hl hr (by simp) fun i' hi'=>by
  simp only[List.mem_singleton] at hi'
  subst hi'
  refine⟨o,ho,h _ ⟨rfl,rfl,rfl⟩ fun j hj k' hk'=>?_⟩
  have:(if bZ late (bL l.length (i'::dn))=true then none else some k)=some k':=hk'
  split at this
  ·cases this
  ·cases this;exact hj
theorem AR.pJ {i:Nat} {o:Oper} (hl:Nat.blt dn.length l.length=true) (hr:fQ l dn [i]=true) (ho:l[i]? =some o) (aP:bZ late (bL l.length (i::dn))=true)
  (h:∀g':ar,Gs g' g→g'.wt=none→aa .plain P g' l.toArray [o] (dR (AR P g k late l QD (i::dn))) δ):AR P g k late l QD dn δ:=
 AR.all hl hr (by simp) fun i' hi'=>by
  simp only[List.mem_singleton] at hi'
  subst hi'
  exact⟨o,ho,h _ ⟨rfl,rfl,rfl⟩ (if_pos aP)⟩
theorem AR.kY {i j:Nat} {o p:Oper} (hl:Nat.blt dn.length l.length=true) (hr:fQ l dn [i,j]=true) (ho:l[i]? =some o) (hp:l[j]? =some p)
  (h:∀g':ar,Gs g' g→(∀j,k.2.2≤j→g'.iu j)→aa .plain P g' l.toArray [o] (dR (AR P g k late l QD (i::dn))) δ)
  (h':∀g':ar,Gs g' g→(∀j,k.2.2≤j→g'.iu j)→aa .plain P g' l.toArray [p] (dR (AR P g k late l QD (j::dn))) δ):AR P g k late l QD dn δ:=
 AR.all hl hr (by simp) fun i' hi'=>by
  have hw:∀i',∀j,k.2.2≤j→(tq g k late (bL l.length (i'::dn))).iu j:=by
   intro i' j hj k' hk'
   have:(if bZ late (bL l.length (i'::dn))=true then none else some k)=some k':=hk'
   split at this
   ·cases this
   ·cases this;exact hj
  simp only[List.mem_cons,List.not_mem_nil,or_false] at hi'
  rcases hi' with rfl|rfl
  ·exact⟨o,ho,h _ ⟨rfl,rfl,rfl⟩ (hw _)⟩
  ·exact⟨p,hp,h' _ ⟨rfl,rfl,rfl⟩ (hw _)⟩
def bh (P:Program) (o:Oper) (δ:DS) (v:AV):Prop:=∀(g:ar) κ a w,Rel g δ κ a w→∃u,(∀w',(execOp a.eval o).run P w'=.ok (.value u) w')∧RA (δ.cx g κ) w u v
def qx (l:List Oper) (late dn:List Nat) (i:Nat):Bool:=
 Region.noSelect l.toArray && l.all dI && (Region.ready .any l.toArray (bL l.length dn)).contains i && Region.free .any l.toArray (bL l.length dn) i && !late.contains i && Nat.blt dn.length l.length
theorem AR.free (i:Nat) {o:Oper} {v:AV} (hB:qx l late dn i=true) (ho:l[i]? =some o) (hg:o.guard=none) (hd:bk δ.n o.dst=true) (hF:bh P o δ v) (h:AR P g k late l QD (i::dn) (δ.au o.dst v)):AR P g k late l QD dn δ:=by
 intro oa κ a w r
 simp only[qx,Bool.and_eq_true,Bool.not_eq_true'] at hB
 obtain⟨⟨⟨⟨⟨hs,dt⟩,hr⟩,hf⟩,LF⟩,hl⟩:=hB
 have hl':dn.length<l.length:=by simpa using hl
 obtain⟨n,hn⟩:∃n,l.length - dn.length=n+1:=⟨l.length - dn.length - 1,by omega⟩
 obtain⟨u,hu,oo⟩:=hF _ κ a w r
 have hr':i∈Region.ready .any l.toArray (bL l.length dn):=by simpa using hr
 have ho':l.toArray[i]? =some o:=by simpa using ho
 have Ht:DC l.toArray (bL l.length (i::dn)):=oa.ready hr'
 have r2:Rel (tq g k late (bL l.length (i::dn))) (δ.au o.dst v) κ (a.put o.dst u) w:=(uA i r).au (aU hd) oo
 have h2:=h Ht κ _ w r2
 have e1:l.length - (i::dn).length=n:=by simp;omega
 rw[e1] at h2
 rw[hn]
 refine mr (C:=fun _=>True) ho' (Region.noSelect_spec hs) (fun j o hj=>?_) (fun c a w h=>rW h) (fun _ _ _ _ _=>trivial) (fun listed w=>?_) n _ a w oa (Region.free_spec ho' hf) hr' (.inl ⟨by simp [Region.wanted,hg],fun w' _=>hu w'⟩) (Fo r) h2
 ·exact(List.all_eq_true.1 dt) o (List.mem_of_getElem? (by simpa using hj))
 ·unfold tw;rw[pq LF]
def jy (ops:Array Oper) (i:Nat):Nat→Nat→Bool
 |0,_=>false
 |n+1,j=>match ops[j]? with
  |some o=>o.after.any fun e=>Region.binds .any e && (e.on==i||jy ops i n e.on)
  |none=>false
theorem um {ops:Array Oper} {i:Nat} {listed:Array Bool} (oa:DC ops listed):∀n j,jy ops i n j=true→listed.getD j false=true→listed.getD i false=true:=by
 intro n
 induction n with
 |zero=>intro j h;simp [jy] at h
 |succ n ih=>
  intro j h hj
  unfold jy at h
  cases ho:ops[j]? with
  |none=>rw[ho] at h;cases h
  |some o=>
   rw[ho] at h
   simp only at h
   obtain⟨e,he,hb⟩:=Array.any_eq_true'.1 h
   simp only[Bool.and_eq_true,Bool.or_eq_true,beq_iff_eq] at hb
   have h1:=oa j o ho hj e he hb.1
   rcases hb.2 with h2|h2
   ·rw[← h2];exact h1
   ·exact ih _ h2 h1
def mN (l:List Oper) (late:List Nat):List Nat→List Nat→Bool
 |[],_=>true
 |i::r,dn=>qx l late dn i && late.all (jy l.toArray i l.length) && mN l late r (i::dn)
def pick (l:List Oper) (is:List Nat):List Oper:=is.filterMap (l[·]?)
theorem AH {κ1:Kp} {w1:World} {k:Wt} {δ0:DS} (hk1:k.1=w1) (hk2:k.2.1=fun b=>b<w1.heap.size∧((∀i,δ0.lr i→κ1 i≠some b)∧¬κ1.Fs b)) {post:Act→Prop} {N:Nat}:
  ∀(l1 dn:List Nat) (a:Act),mN l late l1 dn=true→DC l.toArray (bL l.length dn)→tw k late (bL l.length dn) w1→qd P l.toArray (e9 δ0 κ1 w1) post (pick l l1) a→
   (∀a',post a'→DC l.toArray (bL l.length (l1.reverse++dn))→iz ro P l.toArray (kW g QD) (tw k late) N (bL l.length (l1.reverse++dn)) a' w1)→iz ro P l.toArray (kW g QD) (tw k late) (l1.length+N) (bL l.length dn) a w1:=by
 intro l1
 induction l1 with
 |nil=>intro dn a _ oa _ h hp;simpa using hp a h oa
 |cons i r ih=>
  intro dn a hB oa hS h hp
  simp only[mN,qx,Bool.and_eq_true,Bool.not_eq_true'] at hB
  obtain⟨⟨⟨⟨⟨⟨⟨hs,dt⟩,hr⟩,hf⟩,LF⟩,hl⟩,KE⟩,Kb⟩:=hB
  have hr':i∈Region.ready .any l.toArray (bL l.length dn):=by simpa using hr
  obtain⟨_,o,ho',_⟩:=mem_ready.1 hr'
  have ho:l[i]? =some o:=by simpa using ho'
  have QE:pick l (i::r)=o::pick l r:=by simp [pick,ho]
  rw[QE] at h
  obtain⟨v,hy,h⟩:=h
  have gz:∀listed w,tw k late (listed.setIfInBounds i true) w↔tw k late listed w:=fun listed w=>by unfold tw;rw[pq LF]
  have MW:(i::r).length+N=(r.length+N)+1:=by simp;omega
  rw[MW]
  refine mr (C:=e9 δ0 κ1 w1) ho' (Region.noSelect_spec hs) (fun j o hj=>?_) (fun c a w h=>rW h) (fun listed w hd hi hSl=>?_) gz _ _ a w1 oa (Region.free_spec ho' hf) hr' hy hS ?_
  ·exact(List.all_eq_true.1 dt) o (List.mem_of_getElem? (by simpa using hj))
  ·have gB:bZ late listed=false:=by
    unfold bZ
    rw[List.any_eq_false]
    intro j hj kR
    have h1:=um hd _ _ ((List.all_eq_true.1 KE) j hj) kR
    rcases Nat.lt_or_ge i listed.size with h'|h'
    ·simp [h'] at hi h1;rw[hi] at h1;cases h1
    ·simp [Array.getElem?_eq_none h'] at h1
   have h2:=hSl gB
   rw[hk1,hk2] at h2
   exact fun b hb hn=>(h2 b ⟨hb,hn⟩).2
  ·have:=ih (i::dn) (a.put o.dst v) Kb (oa.ready hr') ((gz _ _).2 hS) h
   refine this fun a' ha' hd'=>?_
   have e:(i::r).reverse++dn=r.reverse++i::dn:=by simp
   rw[← e]
   exact hp a' ha' (by rw[e];exact hd')
theorem DC.start (l:List Oper):DC l.toArray (bL l.length []):=by
 intro j o _ hj
 have:(Array.replicate l.length false).getD j false=true:=hj
 simp [Array.getElem?_replicate] at this
 split at this<;>cases this
theorem AW.sk {id:Nat} (l1:List Nat) (late:List Nat) {l:List Oper} (hm:P.follows .mixedOrders=true) (dg:g.wt=none) (hB:mN l late l1 []=true) (hle:Nat.ble l1.length l.length=true)
  (h:aa .held P g l.toArray (pick l l1) (dR fun δ'=>∀k:Wt,k.2.2=δ.nx→AR P g k late l QD l1.reverse δ') δ):AW P g (.region id l.toArray true) QD δ:=by
 intro κ a w r
 have zJ:l1.length≤l.length:=by simpa using hle
 have r1:Rel g δ κ a {w with drawn:=w.drawn+1}:=r.ext (Below.drew (Below.refl _ _))
 have h1:=h κ a _ r1
 obtain⟨k,hk⟩:∃k:Wt,k=({w with drawn:=w.drawn+1},(fun b=>b<w.heap.size∧((∀i,δ.lr i→κ i≠some b)∧¬κ.Fs b)),δ.nx):=⟨_,rfl⟩
 refine wpIn_mono (Q:=kW g QD) (wpIn_region_any hm (pI (S:=tw k late) _ _ _ _ ?_)) (fun e a w h=>by
  cases e with
  |normal=>exact h
  |panic c=>
   obtain⟨δ',κ',h1,_,r'⟩:=h
   have e:({g with wt:=none}:ar)=g:=by cases g;cases dg;rfl
   rw[e] at r'
   exact⟨δ',κ',h1,r'⟩
  |_=>exact h.elim)
 have hk0:tw k late (bL l.length []) {w with drawn:=w.drawn+1}:=fun _ b hb=>by subst hk;exact⟨hb.1,rfl⟩
 have h2:=AH (ro:=g.ro) (g:=g) (QD:=QD) (late:=late) (l:=l) (P:=P) (δ0:=δ) (κ1:=κ) (w1:={w with drawn:=w.drawn+1}) (k:=k) (by rw[hk]) (by rw[hk]) (N:=l.length - l1.length) l1 [] a hB (DC.start l) hk0 h1 (fun a' ha' hd'=>by
  obtain⟨δ',hq,yI,r2⟩:=ha'
  have h3:=hq k (by rw[hk]) (by simpa using hd') κ a' {w with drawn:=w.drawn+1} (by
   have dx:∀i,δ'.ob i=δ.ob i:=fun i=>by unfold DS.ob;rw[yI]
   refine Rel.Eu r2 (wt':=if bZ late (bL l.length l1.reverse)=true then none else some k) (fun k' hk'=>?_) (fun k' hk' b hb qQ=>?_)
   rotate_left
   ·split at hk'
    ·cases hk'
    ·cases hk'
     subst hk
     exact qQ.2.2 hb
   split at hk'
   ·cases hk'
   ·cases hk'
    subst hk
    refine⟨fun b hb=>⟨hb.1,rfl⟩,fun i b vT o8 hκ hb=>?_⟩
    rcases o8 with o8|o8
    ·exact hb.2.1 i (by have:δ'.ob i=some .row:=o8;rw[dx] at this;exact this) hκ
    ·obtain⟨o,vT⟩:=vT
     rw[dx] at vT
     exact absurd (r.nx i ⟨o,vT⟩) (Nat.not_lt.2 o8))
  simpa using h3)
 have e:l1.length+(l.length - l1.length)=l.toArray.size:=by simp;omega
 rw[e] at h2
 have e2:bL l.length []=Array.replicate l.toArray.size false:=by simp [bL]
 rw[e2] at h2
 exact h2
end Go.Ab
/- Maps with whole numbers as keys:read,grown,written. -/
namespace Go.Ab
open Go Go.RowKit
variable {q:Md} {P:Program} {g:ar} {δ:DS} {κ:Kp} {a:Act} {w:World}
variable {gd:Option (Tmp×Bool)} {ops:Array Oper} {rest:List Oper} {Q:Exit→DS→Prop} {dst:Option Nat} {ty:TypeId} {pos:String} {af:Array Edge}
def dQ:List (Int×AV)→Int→Option AV
 |[],_=>none
 |(k,v)::l,m=>if m=k then some v else dQ l m
def dY (l:List (Int×AV)):List (Value×AV):=l.map fun p=>(.int .i64 p.1,p.2)
def gb (xs:List Int):List (Int×AV):=xs.map fun x=>(x,aM true)
theorem rS (xs:List Int) (m:Int):dQ (gb xs) m=if m∈xs then some (aM true) else none:=by
 induction xs with
 |nil=>rfl
 |cons x xs ih=>
  show(if m=x then some (aM true) else dQ (gb xs) m)=_
  by_cases h:m=x
  ·simp [h]
  ·simp [h,ih]
theorem jh {C:Cx} {w:World} (m:Int):∀(es:List MapEntry) (l:List (Int×AV)) (i:Nat),es.length=l.length→
  (∀(j:Nat) (e:MapEntry) (p:Int×AV),es[j]? =some e→l[j]? =some p→e.key=.int .i64 p.1∧RA C w e.val p.2)→
  (dQ l m=none∧Instr.findNow (.int .i64) (.int .i64 m) es i=some none)∨
  (∃(j:Nat) (e:MapEntry) (v:AV),dQ l m=some v∧Instr.findNow (.int .i64) (.int .i64 m) es i=some (some (i+j,e.val))∧es[j]? =some e∧l[j]? =some (m,v)∧RA C w e.val v):=by
 intro es
 induction es with
 |nil=>intro l i hs _;have:l=[]:=List.eq_nil_of_length_eq_zero hs.symm;subst this;exact .inl ⟨rfl,rfl⟩
 |cons e es ih=>
  intro l i hs h
  cases l with
  |nil=>simp at hs
  |cons p l=>
   obtain⟨k,v⟩:=p
   have h0:=h 0 e (k,v) rfl rfl
   by_cases hk:m=k
   ·subst hk
    refine .inr ⟨0,e,v,by simp [dQ],?_,rfl,rfl,h0.2⟩
    simp [Instr.findNow,h0.1,Instr.sameNow]
   ·have hf:Instr.findNow (.int .i64) (.int .i64 m) (e::es) i=Instr.findNow (.int .i64) (.int .i64 m) es (i+1):=by
     have hb:(m==k)=false:=by simp [hk]
     simp [Instr.findNow,h0.1,Instr.sameNow,hb]
    rcases ih l (i+1) (by simpa using hs) (fun j e p h1 h2=>h (j+1) e p (by simpa using h1) (by simpa using h2)) with ⟨h1,h2⟩|⟨j,e',v',h1,h2,h3,h4,h5⟩
    ·exact .inl ⟨by simp [dQ,hk,h1],hf.trans h2⟩
    ·exact .inr ⟨j+1,e',v',by simp [dQ,hk,h1],by rw[hf,h2];simp;omega,by simpa using h3,by simpa using h4,h5⟩
theorem Rel.Ld (r:Rel g δ κ a w) {u:Value} {i:Nat} {l:List (Value×AV)} (h:RA (δ.cx g κ) w u (.mapr i)) (ho:δ.ob i=some (.mp l)):
  ∃b es clock,u=.map (some b)∧κ i=some b∧w.heap[b]? =some (.map es clock)∧gu (δ.cx g κ) w es l∧j_ es clock∧∀p∈l,p.2.eJ=true:=by
 cases h with
 | @mapr _ b hl hκ=>
  obtain⟨b',es,clock,h1,h2,h3,h4⟩:=r.obj i _ ho
  have:b'=b:=Option.some.inj (h1.symm.trans hκ)
  subst this
  exact⟨b',es,clock,rfl,h1,h2,h3,h4⟩
theorem gu.dY {C:Cx} {w:World} {es:Array MapEntry} {l:List (Int×AV)} (h:gu C w es (dY l)):
  es.toList.length=l.length∧∀(j:Nat) (e:MapEntry) (p:Int×AV),es.toList[j]? =some e→l[j]? =some p→e.key=.int .i64 p.1∧RA C w e.val p.2:=by
 refine⟨by simpa [Ab.dY] using h.1,fun j e p h1 h2=>?_⟩
 exact h.2 j e (.int .i64 p.1,p.2) (by simpa using h1) (by simp [Ab.dY,h2])
theorem ic {kt:TypeId} {es:Array MapEntry} {m:Int} {x:Option (Nat×Value)} (hk:P.underlying kt=some (.int .i64)) (h:Instr.findNow (.int .i64) (.int .i64 m) es.toList 0=some x) (w:World):(Instr.findKey kt (.int .i64 m) es.toList).run P w=.ok x w:=MapKept.run_findKey hk h
theorem js {t kt et:TypeId} {b:Nat} {es:Array MapEntry} {clock:Nat} {m:Int} {z:Value} {x:Option (Nat×Value)} {w:World} (ht:P.underlying t=some (.map kt et)) (hk:P.underlying kt=some (.int .i64)) (hz:(P.info? et).bind (·.zero)=some z)
  (hb:w.heap[b]? =some (.map es clock)) (h:Instr.findNow (.int .i64) (.int .i64 m) es.toList 0=some x) (ok:Bool):
  (Instr.lookup t (.map (some b)) (.int .i64 m) ok).run P w=.ok (if ok then .tuple #[(x.map (·.2)).getD z,.bool x.isSome] else (x.map (·.2)).getD z) w:=by
 have vm:∀w,(zeroValue et).run P w=.ok z w:=fun w=>by
  cases hi:P.info? et with
  |none=>rw[hi] at hz;simp at hz
  |some i=>rw[hi] at hz;simp at hz;simp [zeroValue,typeInfo,hi,hz]
 have Ik:∀e,(Instr.checkKey e (9999+1) kt (.int .i64 m)).run P w=.ok () w:=fun e=>MapKept.run_checkKey hk (by simp [MapKept.IsKey]) e 9999
 cases x with
 |none=>simp [Instr.lookup,run_underlying ht,MapKept.run_getObj_map hb,Ik,ic hk h,vm]
 |some p=>simp [Instr.lookup,run_underlying ht,MapKept.run_getObj_map hb,Ik,ic hk h]
theorem aa.lookup {x y:Operand} {t kt et:TypeId} {i:Nat} {l:List (Int×AV)} {m:Int} {z:Value} {v:AV} (hx:δ.ev x=.mapr i) (dx:δ.ob i=some (.mp (dY l))) (hy:δ.ev y=aw m) (ht:P.underlying t=some (.map kt et)) (hk:P.underlying kt=some (.int .i64)) (hz:(P.info? et).bind (·.zero)=some z)
  (hv:(dQ l m).getD (.pv (.lit z))=v) (ho:aK x=true) (ho':aK y=true) (hd:bk δ.n dst=true) (hK:aa q P g ops rest Q (δ.au dst v)):aa q P g ops (⟨dst,.lookup t x y false,ty,pos,af,none⟩::rest) Q δ:=
 aa.dq _ hd (fun κ a w r=>by
  obtain⟨b,es,clock,h1,h2,h3,h4,h5,yT⟩:=r.Ld (r.ra hx ho) dx
  obtain⟨h6,h7⟩:=h4.dY
  have hb:∀w',e9 δ κ w w'→w'.heap[b]? =some (.map es clock):=fun w' hw'=>(hw' b (cW h3) (r.wP ⟨_,dx,rfl⟩ h2)).trans h3
  subst hv
  rcases jh m es.toList l 0 h6 h7 with ⟨h8,h9⟩|⟨j,e,v',h8,h9,h10,h11,h12⟩
  ·refine⟨z,fun w' hw'=>?_,by rw[h8];exact .pv (.lit _)⟩
   have:=js ht hk hz (hb w' hw') h9 false
   simp [execOp,r.lit hy ho',h1,this]
  ·refine⟨e.val,fun w' hw'=>?_,by rw[h8];exact h12⟩
   have:=js ht hk hz (hb w' hw') h9 false
   simp [execOp,r.lit hy ho',h1,this]) hK
theorem aa.lF {x y:Operand} {t kt et:TypeId} {i:Nat} {xs:List Int} {m:Int} (hx:δ.ev x=.mapr i) (dx:δ.ob i=some (.mp (dY (gb xs)))) (hy:δ.ev y=aw m) (ht:P.underlying t=some (.map kt et)) (hk:P.underlying kt=some (.int .i64)) (hz:(P.info? et).bind (·.zero)=some (.bool false))
  (ho:aK x=true) (ho':aK y=true) (hd:bk δ.n dst=true) (hK:aa q P g ops rest Q (δ.au dst (aM (decide (m∈xs))))):aa q P g ops (⟨dst,.lookup t x y false,ty,pos,af,none⟩::rest) Q δ:=
 aa.lookup hx dx hy ht hk hz (by rw[rS];by_cases h:m∈xs<;>simp [h]) ho ho' hd hK
theorem c9.makeMap {t:TypeId} (hd:bk δ.n dst=true):c9 P g ⟨dst,.makeMap t none,ty,pos,af,gd⟩ δ ((δ.ba (.mp (dY []))).au dst (.mapr δ.nx)):=by
 intro κ a w r
 have aR:(execOp a.eval ⟨dst,.makeMap t none,ty,pos,af,gd⟩).run P w=.ok (.value (.map (some w.heap.size))) (w.alloc (.map #[] 0)):=by
  have h0:(Instr.makeMap t none).run P w=.ok (.map (some w.heap.size)) (w.alloc (.map #[] 0)):=rfl
  simp [execOp,h0]
 obtain⟨r',G⟩:=r.grow (.mp (dY [])) (.map #[] 0) (fun C G hκ=>⟨w.heap.size, #[],0,hκ,heap_alloc_new w _,⟨rfl,fun j e p h=>by simp at h⟩,⟨rfl,fun j e h=>by simp at h⟩,fun p h=>by simp [dY] at h⟩)
 refine .inl ⟨_,_,_,_,aR,.inl rfl,r'.au (aU hd) ?_⟩
 exact .mapr ⟨_,by show(δ.ba _).ob _=_;rw[bp,if_pos rfl],rfl⟩ (by show cp _ _ _ _=_;simp [cp])
theorem aa.makeMap {t:TypeId} (hd:bk δ.n dst=true) (hK:aa .plain P g ops rest Q ((δ.ba (.mp (dY []))).au dst (.mapr δ.nx))):aa .plain P g ops (⟨dst,.makeMap t none,ty,pos,af,none⟩::rest) Q δ:=aa.mI rfl rfl (c9.makeMap hd) hK
theorem cS.oI (w:World) (b:Nat) (o:Obj):cS w {w with heap:=w.heap.setIfInBounds b o} (some b):=
 ⟨rfl,rfl,rfl,by simp,fun k _ h=>by
  show(w.heap.setIfInBounds b o)[k]? =_
  rw[Array.getElem?_setIfInBounds,if_neg (fun e=>h (by rw[e]))]⟩
theorem gw {w:World} {b:Nat} {o o':Obj} (h:w.heap[b]? =some o):({w with heap:=w.heap.setIfInBounds b o'}:World).heap[b]? =some o':=(MapKept.heap_set h).1
theorem dN (l l':List (Int×AV)):dY (l++l')=dY l++dY l':=by simp [dY]
theorem gu.push {C:Cx} {w:World} {es:Array MapEntry} {l:List (Int×AV)} {clock:Nat} (h:gu C w es (Ab.dY l)) (hs:j_ es clock) (m:Int) {u:Value} {v:AV} (hu:RA C w u v):
  gu C w (es.push {key:=.int .i64 m,val:=u,born:=clock}) (Ab.dY (l++ [(m,v)]))∧j_ (es.push {key:=.int .i64 m,val:=u,born:=clock}) (clock+1):=by
 have iK:es.size=(Ab.dY l).length:=h.1
 refine⟨⟨by rw[dN];simp [iK,Ab.dY],fun j e p h1 h2=>?_⟩,by simp [hs.1],fun j e h1=>?_⟩
 ·rw[dN] at h2
  rw[Array.getElem?_push] at h1
  by_cases hj:j=es.size
  ·rw[if_pos hj] at h1
   cases h1
   rw[List.getElem?_append_right (by omega),hj,iK] at h2
   simp [Ab.dY] at h2
   subst h2
   exact⟨rfl,hu⟩
  ·rw[if_neg hj] at h1
   have aP:j<es.size:=(Array.getElem?_eq_some_iff.1 h1).1
   rw[List.getElem?_append_left (by omega)] at h2
   exact h.2 j e p h1 h2
 ·rw[Array.getElem?_push] at h1
  by_cases hj:j=es.size
  ·rw[if_pos hj] at h1;cases h1;rw[hs.1,hj]
  ·rw[if_neg hj] at h1;exact hs.2 j e h1
theorem c9.jg {x y:Operand} {t kt et:TypeId} {i:Nat} {l:List (Int×AV)} {m:Int} {z:Value} (hx:δ.ev x=.mapr i) (dx:δ.ob i=some (.mp (dY l))) (hy:δ.ev y=aw m) (hn:dQ l m=none) (ht:P.underlying t=some (.map kt et)) (hk:P.underlying kt=some (.int .i64)) (hz:(P.info? et).bind (·.zero)=some z)
  (ho:aK x=true) (ho':aK y=true) (hd:bk δ.n dst=true) (Ac:g.iu i):
  c9 P g ⟨dst,.mapEntry t x y,ty,pos,af,gd⟩ δ ((δ.bx i (some (.mp (dY (l++ [(m,.pv (.lit z))]))))).au dst (.tup [.pv (.lit z),aw l.length])):=by
 intro κ a w r
 obtain⟨b,es,clock,h1,h2,h3,h4,h5,yT⟩:=r.Ld (r.ra hx ho) dx
 obtain⟨h6,h7⟩:=h4.dY
 have vm:∀w,(zeroValue et).run P w=.ok z w:=fun w=>by
  cases hi:P.info? et with
  |none=>rw[hi] at hz;simp at hz
  |some i=>rw[hi] at hz;simp at hz;simp [zeroValue,typeInfo,hi,hz]
 have Ik:∀e,(Instr.checkKey e (9999+1) kt (.int .i64 m)).run P w=.ok () w:=fun e=>MapKept.run_checkKey hk (by simp [MapKept.IsKey]) e 9999
 have hf:Instr.findNow (.int .i64) (.int .i64 m) es.toList 0=some none:=by
  rcases jh m es.toList l 0 h6 h7 with ⟨h8,h9⟩|⟨j,e,v',h8,h9,h10,h11,h12⟩
  ·exact h9
  ·rw[hn] at h8;cases h8
 have aR:(execOp a.eval ⟨dst,.mapEntry t x y,ty,pos,af,gd⟩).run P w=.ok (.value (.tuple #[z,.int .i64 clock])) {w with heap:=w.heap.setIfInBounds b (.map (es.push {key:=.int .i64 m,val:=z,born:=clock}) (clock+1))}:=by
  simp [execOp,r.lit hy ho',h1,Instr.mapEntry,run_underlying ht,MapKept.run_getObj_map h3,Ik,ic hk hf,vm,MapKept.run_setObj_map _ h3,goInt]
 have dO:(clock:Int)=(l.length:Int):=by
  have:es.size=l.length:=by simpa using h6
  rw[h5.1,this]
 obtain⟨r',G⟩:=r.modify (o':=.mp (dY (l++ [(m,.pv (.lit z))]))) dx rfl rfl h2 Ac (cS.oI w b (.map (es.push {key:=.int .i64 m,val:=z,born:=clock}) (clock+1))) (by simp) (fun C hC G=>by
  have h8:gu C {w with heap:=w.heap.setIfInBounds b (.map (es.push {key:=.int .i64 m,val:=z,born:=clock}) (clock+1))} es (dY l):=h4.e7 G
  obtain⟨h9,h10⟩:=h8.push h5 m (u:=z) (v:=.pv (.lit z)) (.pv (.lit _))
  exact⟨b,_,_,by rw[hC];exact h2,gw h3,h9,h10,fun p hp=>by
   rw[dN] at hp
   rcases List.mem_append.1 hp with hp|hp
   ·exact yT p hp
   ·simp [dY] at hp;subst hp;rfl⟩)
 refine .inl ⟨_,_,_,_,aR,.inl rfl,r'.au (aU hd) ?_⟩
 exact wy (.pv (.lit _)) (by rw[dO];exact .pv (.lit _))
theorem c9.n9 {x y s:Operand} {t:TypeId} {i n:Nat} {l:List (Int×AV)} {m:Int} {v0 v:AV} (hx:δ.ev x=.mapr i) (dx:δ.ob i=some (.mp (dY (l++ [(m,v0)])))) (hs:δ.ev s=aw n) (hn:n=l.length) (hy:δ.ev y=v) (Ff:v.eJ=true)
  (ho:aK x=true) (l9:aK s=true) (ho':aK y=true) (hd:bk δ.n dst=true) (Ac:g.iu i):
  c9 P g ⟨dst,.entryStore t x s y,ty,pos,af,gd⟩ δ ((δ.bx i (some (.mp (dY (l++ [(m,v)]))))).au dst .any):=by
 intro κ a w r
 subst hn
 obtain⟨b,es,clock,h1,h2,h3,h4,h5,yT⟩:=r.Ld (r.ra hx ho) dx
 have rN:=r.ra hy ho'
 have iK:es.size=l.length+1:=by have:=h4.1;simpa [dY] using this
 have D9:es.findIdx? (fun e=>(e.born:Int)==(l.length:Int))=some l.length:=by
  rw[Array.findIdx?_eq_some_iff_getElem]
  refine⟨by omega,?_,fun j hj=>?_⟩
  ·have:=h5.2 l.length es[l.length] (Array.getElem?_eq_getElem (by omega))
   simp [this]
  ·have:=h5.2 j es[j] (Array.getElem?_eq_getElem (by omega))
   simp only[this]
   simp
   omega
 have aR:(execOp a.eval ⟨dst,.entryStore t x s y,ty,pos,af,gd⟩).run P w=.ok .skip {w with heap:=w.heap.setIfInBounds b (.map (es.modify l.length fun e=>{e with val:=a.eval y}) clock)}:=by
  have O7:∀w,(asInt (.int .i64 (l.length:Int))).run P w=.ok (l.length:Int) w:=fun _=>rfl
  simp only[execOp,r.lit hs l9,h1,Instr.entryStore,Sem.run_bind,MapKept.run_getObj_map h3,Result.andThen_ok,O7,D9,MapKept.run_setObj_map _ h3,Sem.run_pure]
 obtain⟨r',G⟩:=r.modify (o':=.mp (dY (l++ [(m,v)]))) dx rfl rfl h2 Ac (cS.oI w b (.map (es.modify l.length fun e=>{e with val:=a.eval y}) clock)) (by simp) (fun C hC G=>by
  refine⟨b,_,_,by rw[hC];exact h2,gw h3,⟨by simp [dY,iK],fun j e p h8 h9=>?_⟩,⟨by simp [h5.1],fun j e h8=>?_⟩,fun p hp=>?_⟩
  ·rw[Array.getElem?_modify] at h8
   rw[dN] at h9
   by_cases hj:l.length=j
   ·rw[if_pos hj] at h8
    subst hj
    rw[Option.map_eq_some_iff] at h8
    obtain⟨e0,h8,rfl⟩:=h8
    rw[List.getElem?_append_right (by simp [dY])] at h9
    simp [dY] at h9
    subst h9
    refine⟨?_,G.ra rN⟩
    exact(h4.2 l.length e0 (.int .i64 m,v0) h8 (by rw[dN,List.getElem?_append_right (by simp [dY])];simp [dY])).1
   ·rw[if_neg hj] at h8
    have aP:j<l.length:=by have:=(Array.getElem?_eq_some_iff.1 h8).1;omega
    rw[List.getElem?_append_left (by simpa [dY] using aP)] at h9
    obtain⟨h10,h11⟩:=h4.2 j e p h8 (by rw[dN,List.getElem?_append_left (by simpa [dY] using aP)];exact h9)
    exact⟨h10,G.ra h11⟩
  ·rw[Array.getElem?_modify] at h8
   by_cases hj:l.length=j
   ·rw[if_pos hj] at h8
    rw[Option.map_eq_some_iff] at h8
    obtain⟨e0,h8,rfl⟩:=h8
    exact h5.2 j e0 h8
   ·rw[if_neg hj] at h8;exact h5.2 j e h8
  ·rw[dN] at hp
   rcases List.mem_append.1 hp with hp|hp
   ·exact yT p (by rw[dN];exact List.mem_append.2 (.inl hp))
   ·simp [dY] at hp;subst hp;exact Ff)
 exact .inl ⟨_,_,_,_,aR,.inr ⟨rfl,rfl⟩,r'.au (aU hd) (.any _)⟩
theorem tz (xs:List Int) (m:Int):gb (xs++ [m])=gb xs++ [(m,aM true)]:=by simp [gb]
end Go.Ab
namespace Go.Ab
section
variable {q:Md} {P:Program} {g:ar} {δ:DS} {ops:Array Oper} {rest:List Oper} {Q:Exit→DS→Prop} {dst:Option Nat} {ty:TypeId} {pos:String} {af:Array Edge}
theorem aa.gQ {fn:Go.Fn} {x:Operand} {i o:Nat} (hx:δ.ev x=.ptr i o) (ho:aK x=true) (hd:bk δ.n dst=true) (hK:aa q P g ops rest Q (δ.au dst (.clo fn [] [.ptr i o]))):aa q P g ops (⟨dst,.makeFunc fn #[] #[x],ty,pos,af,none⟩::rest) Q δ:=
 aa.dq _ hd (fun κ a w r=>⟨.func fn #[] #[a.eval x],fun w' _=>by simp [execOp,Instr.makeFunc],.clo rfl (fun j u c h=>by simp at h) rfl (fun j u c h1 h2=>by
  match j with
  |0=>simp at h1 h2;subst h1;subst h2;exact r.ra hx ho
  |j+1=>simp at h2)⟩) hK
theorem aa.wq {fn:Go.Fn} {x:Operand} {i o:Nat} (hx:δ.ev x=.ptr i o) (ho:aK x=true) (hd:bk δ.n dst=true) (hK:aa q P g ops rest Q (δ.au dst (.clo fn [.ptr i o] []))):aa q P g ops (⟨dst,.makeFunc fn #[x] #[],ty,pos,af,none⟩::rest) Q δ:=
 aa.dq _ hd (fun κ a w r=>⟨.func fn #[a.eval x] #[],fun w' _=>by simp [execOp,Instr.makeFunc],.clo rfl (fun j u c h1 h2=>by
  match j with
  |0=>simp at h1 h2;subst h1;subst h2;exact r.ra hx ho
  |j+1=>simp at h2) rfl (fun j u c h=>by simp at h)⟩) hK
theorem aa.eI {x:Operand} {fn:Go.Fn} {a b:List AV} (hx:δ.ev x=.clo fn a b) (ho:aK x=true) (hd:bk δ.n dst=true) (hK:aa q P g ops rest Q (δ.au dst (.clo fn a b))):aa q P g ops (⟨dst,.move x,ty,pos,af,none⟩::rest) Q δ:=aa.move hx ho hd hK
end
end Go.Ab
namespace Go.Ab
section
variable {P:Program} {δ:DS} {dst:Option Nat} {ty:TypeId} {pos:String} {af:Array Edge} {gd:Option (Tmp×Bool)}
theorem bh.cK {x:Operand} {p:PV} (hx:δ.ev x=.pv p) (ho:aK x=true):bh P ⟨dst,.move x,ty,pos,af,gd⟩ δ (.pv p):=fun _ _ a _ r=>⟨a.eval x,fun _=>rfl,hx▸r.wO x (cQ ho)⟩
theorem bh.a7 {x:Operand} {i o:Nat} (hx:δ.ev x=.ptr i o) (ho:aK x=true):bh P ⟨dst,.move x,ty,pos,af,gd⟩ δ (.ptr i o):=fun _ _ a _ r=>⟨a.eval x,fun _=>rfl,hx▸r.wO x (cQ ho)⟩
theorem bh.nilCheck {x:Operand} {i o:Nat} (hx:δ.ev x=.ptr i o) (ho:aK x=true):bh P ⟨dst,.nilCheck x,ty,pos,af,gd⟩ δ (.ptr i o):=fun _ _ a _ r=>by
 have h1:=r.ra hx ho
 generalize hu:a.eval x=u at h1
 cases h1 with
 |ptr hl hκ=>exact⟨_,fun w'=>by simp [execOp,hu],.ptr hl hκ⟩
end
section
variable {P:Program} {g:ar} {δ:DS} {ops:Array Oper} {rest:List Oper} {Q:Exit→DS→Prop} {dst:Option Nat} {ty:TypeId} {pos:String} {af:Array Edge}
theorem aa.jg {x y:Operand} {t kt et:TypeId} {i:Nat} {xs:List Int} {m:Int} (hx:δ.ev x=.mapr i) (dx:δ.ob i=some (.mp (dY (gb xs)))) (hy:δ.ev y=aw m) (ht:P.underlying t=some (.map kt et)) (hk:P.underlying kt=some (.int .i64)) (hz:(P.info? et).bind (·.zero)=some (.bool false))
  (ho:aK x=true) (ho':aK y=true) (hd:bk δ.n dst=true) (dg:g.wt=none) (hn:m∉xs)
  (hK:aa .plain P g ops rest Q ((δ.bx i (some (.mp (dY (gb xs++ [(m,aM false)]))))).au dst (.tup [aM false,aw xs.length]))):aa .plain P g ops (⟨dst,.mapEntry t x y,ty,pos,af,none⟩::rest) Q δ:=
 aa.mI rfl rfl (c9.jg hx dx hy (by rw[rS,if_neg hn]) ht hk hz ho ho' hd (eA dg i)) (by simpa [gb] using hK)
theorem aa.p_ {x y s:Operand} {t:TypeId} {i:Nat} {xs:List Int} {m:Int} (hx:δ.ev x=.mapr i) (dx:δ.ob i=some (.mp (dY (gb xs++ [(m,aM false)])))) (hs:δ.ev s=aw xs.length) (hy:δ.ev y=aM true)
  (ho:aK x=true) (l9:aK s=true) (ho':aK y=true) (hd:bk δ.n dst=true) (dg:g.wt=none)
  (hK:aa .plain P g ops rest Q ((δ.bx i (some (.mp (dY (gb (xs++ [m])))))).au dst .any)):aa .plain P g ops (⟨dst,.entryStore t x s y,ty,pos,af,none⟩::rest) Q δ:=
 aa.mI rfl rfl (c9.n9 (l:=gb xs) hx dx hs (by simp [gb]) hy rfl ho l9 ho' hd (eA dg i)) (by rw[tz] at hK;exact hK)
end
end Go.Ab
/- Ranging over a function:the loop's code behind names. -/
namespace Go.Ab
open Go Go.RowKit
attribute [local irreducible] HS
variable {P:Program} {g:ar} {δ:DS} {κ:Kp} {a:Act} {w:World}
variable {ops:Array Oper} {rest:List Oper} {Q:Exit→DS→Prop} {dst:Option Nat} {ty:TypeId} {pos:String} {af:Array Edge}
def v7 (ps':Array Tmp) (asg' body':Code) (ps:List Tmp) (asg body:Code):Prop:=ps'=ps.toArray∧asg'=asg∧body'=body
theorem AW.vF {x:Operand} {ps:List Tmp} {asg body:Code} {f:FuncId} {first cap:List AV} {fn:Func} {c:Code} {n':Nat} (tk:g.ro=none) (dg:g.wt=none) (hx:δ.ev x=.clo (.func f) first cap) (ho:aK x=true)
  (hf:P.funcs[f]? =some fn) (hb:fn.body=some c) (vt:fn.results= #[]) (hn:fn.ntmps=n') (hle:Nat.ble (first.length+1+cap.length) n'=true) (hnH:Nat.ble n' HS=true) (b8:Nat.ble δ.n HS=true) (he:(fn.name== "runtime.NumGoroutine")=false)
  (h:∀(g':ar) (tm:Array Value) (l:Nat) (ps':Array Tmp) (asg' body':Code),v7 ps' asg' body' ps asg body→g'.ro=none→g'.wt=none→(∀j,j<HS→g'.held (j+HS)=tm.getD j undef)→tm.size=δ.n→
   AW P g' c (bm δ.n δ.nx l Q) {n:=n',env:=enum 0 (first++ .yld δ.nx::cap)++bU δ.env,objs:=(δ.nx,some (.loop l tm ps' asg' body' .ready))::δ.objs,nx:=δ.nx+1}):
  AW P g (.rangeFunc x ps.toArray asg body) Q δ:=
 AW.rangeFunc tk dg hx ho hf hb vt hn hle hnH b8 he fun g' tm l h1 h2 h3 h4=>h g' tm l _ _ _ ⟨rfl,rfl,rfl⟩ h1 h2 h3 h4
theorem aa.Gi {x:Operand} {ys:List Operand} {tys:Array TypeId} {i l n0:Nat} {tm:Array Value} {ps:List Tmp} {asg body:Code} {ps':Array Tmp} {asg' body':Code} (rz:v7 ps' asg' body' ps asg body) (tk:g.ro=none) (dg:g.wt=none) (nW:∀j,j<HS→g.held (j+HS)=tm.getD j undef) (zN:tm.size=n0)
  (hn0:Nat.ble n0 HS=true)
  (hx:δ.ev x=.yld i) (dx:δ.ob i=some (.loop l tm ps' asg' body' .ready)) (ho:aK x=true) (KD:ys.all aK=true) (hlen:Nat.beq ys.length ps.length=true) (GA:ps.all (fun t=>Nat.blt t n0)=true) (hd':bk δ.n dst=true)
  (h:∀g':ar,g'.ro=some l→g'.wt=none→AW P g' asg (bM (fun δ1=>jM δ1 i l .ready∧AW P g' body (nA δ.n i l (fun b st δ2=>aa .plain P g ops rest Q ((δ2.iV i st).au dst (aM b)))) (δ1.iV i .busy)) (fun _ _=>False)) (mM n0 ps (ys.map δ.ev) δ)):
  aa .plain P g ops (⟨dst,.call {callee:=.value x,args:=ys.toArray,argTypes:=tys},ty,pos,af,none⟩::rest) Q δ:=by
 obtain⟨rfl,rfl,rfl⟩:=rz
 exact aa.yield tk dg nW zN hn0 hx dx ho KD hlen GA hd' h
theorem qs {n i l:Nat} {tm ps asg body} {e:Exit} (he:e=.normal∨e=.ret) (ho:δ.ob i=some (.loop l tm ps asg body .ready)) (h:Q .normal (fl n i δ)):bm n i l Q e δ:=by
 rcases he with rfl|rfl<;>(show xp l Q (fl n i δ) (δ.ob i);rw[ho];exact⟨rfl,h⟩)
theorem qD {n i l id:Nat} {tm ps asg body} {e:Exit} (he:e=.normal∨e=.ret) (ho:δ.ob i=some (.loop l tm ps asg body (.done (.exit id)))) (h:Q (.exit id) (fl n i δ)):bm n i l Q e δ:=by
 rcases he with rfl|rfl<;>(show xp l Q (fl n i δ) (δ.ob i);rw[ho];exact⟨rfl,h⟩)
end Go.Ab
/- Weakening:maps told as sets,loops. -/
namespace Go.Ab
open Go Go.RowKit
variable {δ δ':DS} {i:Nat}
theorem Co {lr lb:Nat→Bool} (xs:List Int):∀p∈dY (gb xs),p.2.ids lr lb=true:=by
 intro p hp
 unfold dY gb at hp
 simp only[List.map_map,List.mem_map] at hp
 obtain⟨x,_,rfl⟩:=hp
 rfl
theorem WO.set {xs:List Int} (h:δ.ob i=some (.mp (dY (gb xs)))):WO δ δ' i (.mp (dY (gb xs))):=.mp h (Co xs)
theorem WO.JC {xs ys:List Int} (h:δ.ob i=some (.mp (dY (gb xs)))) (e:xs=ys):WO δ δ' i (.mp (dY (gb ys))):=e▸ .set h
end Go.Ab
namespace Go.Ab
open Go Go.RowKit
section
variable {q:Md} {P:Program} {g:ar} {δ:DS} {ops:Array Oper} {rest:List Oper} {Q:Exit→DS→Prop} {dst:Option Nat} {ty:TypeId} {pos:String} {af:Array Edge}
theorem aa.qp {α:Type} {x y:Operand} {t e e':TypeId} {i k:Nat} {m:Int} {f:α→List PV} {l:List α} (hx:δ.ev x=.own i e' k (l.map f)) (hy:δ.ev y=aw m)
  (ht:P.underlying t=some (.slice e)) (hk:(P.info? e).map (·.size)=some k) (ho:aK x=true) (ho':aK y=true) (hd:bk δ.n dst=true) (h0:0≤m) (hn:m<l.length)
  (hK:aa q P g ops rest Q (δ.au dst (.optr i e' k (l.map f) m.toNat))):aa q P g ops (⟨dst,.indexAddr t x y,ty,pos,af,none⟩::rest) Q δ:=
 aa.kF (n:=m.toNat) hx (by rw[hy];show aw m=aw _;rw[Int.toNat_of_nonneg h0]) (by simp;omega) ht hk ho ho' hd hK
theorem aa.aC {α:Type} {x:Operand} {t e:TypeId} {i:Nat} {m:Nat} {f:α→PV} {l:List α} (hx:δ.ev x=.optr i e 1 (l.map fun z=>[f z]) m) (ht:eb P t=true) (ho:aK x=true) (hd:bk δ.n dst=true) (hq:q≠ .held) (hn:m<l.length)
  (hK:aa q P g ops rest Q (δ.au dst (.pv (f l[m])))):aa q P g ops (⟨dst,.load t x,ty,pos,af,none⟩::rest) Q δ:=
 aa.tL hq hx hn ht ho hd hK
end
end Go.Ab
/- States written out:laws by which a state's term is brought to its plain form. -/
namespace Go.Ab
open Go Go.RowKit
namespace Nf
variable {n x:Nat} {e:List (Nat×AV)} {o:List (Nat×Option Ob)}
theorem beq (i j:Nat):Nat.beq i j=(i==j):=by
 by_cases h:i=j
 ·subst h;simp
 ·rw[gm h];exact(beq_eq_false_iff_ne.2 h).symm
theorem ble (i j:Nat):Nat.ble i j=(i - j==0):=by
 by_cases h:i≤j
 ·have h1:Nat.ble i j=true:=by simpa using h
  have h2:i - j=0:=by omega
  rw[h1,h2];rfl
 ·have h1:Nat.ble i j=false:=by
   cases hh:Nat.ble i j with
   |false=>rfl
   |true=>exact absurd (by simpa using hh) h
  rw[h1];exact(beq_eq_false_iff_ne.2 (by omega)).symm
theorem hs:HS=1000:=rfl
theorem Rj {α:Type} (a b:α):(bif true then a else b)=a:=rfl
theorem Pn {α:Type} (a b:α):(bif false then a else b)=b:=rfl
theorem put (d:Nat) (v:AV):DS.au ⟨n,e,o,x⟩ (some d) v=⟨n,(d,v)::e,o,x⟩:=rfl
theorem NR (v:AV):DS.au ⟨n,e,o,x⟩ none v=⟨n,e,o,x⟩:=rfl
theorem add (b:Ob):DS.ba ⟨n,e,o,x⟩ b=⟨n,e,(x,some b)::o,x+1⟩:=rfl
theorem set (i:Nat) (b:Option Ob):DS.bx ⟨n,e,o,x⟩ i b=⟨n,e,(i,b)::o,x⟩:=rfl
theorem pn:(DS.mk n e o x).n=n:=rfl
theorem pe:(DS.mk n e o x).env=e:=rfl
theorem po:(DS.mk n e o x).objs=o:=rfl
theorem px:(DS.mk n e o x).nx=x:=rfl
theorem Lv (t:Nat):DS.ev ⟨n,e,o,x⟩ (.tmp t)=look e t:=rfl
theorem ML (v:Value):DS.ev ⟨n,e,o,x⟩ (.const v)=.pv (.lit v):=rfl
theorem L_ (f:Nat):DS.ev ⟨n,e,o,x⟩ (.func f)=.clo (.func f) [] []:=rfl
theorem KU (j:Nat):look [] j=.any:=rfl
theorem Ix (i j:Nat) (v:AV) (r:List (Nat×AV)):look ((i,v)::r) j=bif Nat.beq i j then v else look r j:=rfl
theorem start (args:List AV):start n args=⟨n,enum 0 args,[],0⟩:=rfl
theorem O3 (i:Nat):enum i []=[]:=rfl
theorem OG (i:Nat) (v:AV) (r:List AV):enum i (v::r)=(i,v)::enum (i+1) r:=rfl
def rZ (e:List (Nat×AV)):List Operand→List AV
 |[]=>[]
 |.tmp t::r=>look e t::rZ e r
 |.const v::r=> .pv (.lit v)::rZ e r
 |.global _::r=> .any::rZ e r
 |.func f::r=> .clo (.func f) [] []::rZ e r
theorem mZ:∀xs:List Operand,xs.map (DS.ev ⟨n,e,o,x⟩)=rZ e xs
 |[]=>rfl
 |.tmp t::r=>by simp only[List.map_cons,rZ,mZ r];rfl
 |.const v::r=>by simp only[List.map_cons,rZ,mZ r];rfl
 |.global v::r=>by simp only[List.map_cons,rZ,mZ r];rfl
 |.func f::r=>by simp only[List.map_cons,rZ,mZ r];rfl
theorem DR (δ:DS) (xs:List Operand):xs.map δ.ev=rZ δ.env xs:=mZ (n:=δ.n) (o:=δ.objs) (x:=δ.nx) xs
theorem Nc:rZ e []=[]:=rfl
theorem KW (t:Nat) (r:List Operand):rZ e (.tmp t::r)=look e t::rZ e r:=rfl
theorem JE (v:Value) (r:List Operand):rZ e (.const v::r)=.pv (.lit v)::rZ e r:=rfl
theorem JV (f:Nat) (r:List Operand):rZ e (.func f::r)=.clo (.func f) [] []::rZ e r:=rfl
def av:List AV→List AV→List AV
 |[],m=>m
 |v::r,m=>v::av r m
theorem FJ:∀l m:List AV,l++m=av l m
 |[],_=>rfl
 |v::r,m=>by rw[List.cons_append,FJ r m];rfl
theorem QL (m:List AV):av [] m=m:=rfl
theorem Pp (v:AV) (r m:List AV):av (v::r) m=v::av r m:=rfl
def ae:List (Nat×AV)→List (Nat×AV)→List (Nat×AV)
 |[],m=>m
 |v::r,m=>v::ae r m
theorem Cy:∀l m:List (Nat×AV),l++m=ae l m
 |[],_=>rfl
 |v::r,m=>by rw[List.cons_append,Cy r m];rfl
theorem O8 (m:List (Nat×AV)):ae [] m=m:=rfl
theorem PD (v:Nat×AV) (r m:List (Nat×AV)):ae (v::r) m=v::ae r m:=rfl
def sh:List (Nat×AV)→List (Nat×AV)
 |[]=>[]
 |(i,v)::r=>(i+HS,v)::sh r
theorem CK:∀l,bU l=sh l
 |[]=>rfl
 |(i,v)::r=>by show(i+HS,v)::bU r=_;rw[CK r];rfl
theorem QN:sh []=[]:=rfl
theorem Rl (i:Nat) (v:AV) (r:List (Nat×AV)):sh ((i,v)::r)=(i+1000,v)::sh r:=rfl
theorem P6:cR []=[]:=rfl
theorem QM (i:Nat) (v:AV) (r:List (Nat×AV)):cR ((i,v)::r)=bif Nat.ble 1000 i then (i - 1000,v)::cR r else cR r:=rfl
theorem P7:aj []=[]:=rfl
theorem P_ (i:Nat) (v:AV) (r:List (Nat×AV)):aj ((i,v)::r)=bif Nat.ble 1000 i then (bif Nat.ble i 1999 then (i - 1000,v)::aj r else aj r) else aj r:=by
 have h:Nat.blt i (HS+HS)=Nat.ble i 1999:=by
  show Nat.ble (i+1) 2000=Nat.ble i 1999
  rfl
 show(bif Nat.ble HS i && Nat.blt i (HS+HS) then _ else _)=_
 rw[h]
 show(bif Nat.ble 1000 i && Nat.ble i 1999 then _ else _)=_
 cases Nat.ble 1000 i<;>rfl
theorem pa (t:Tmp) (ts:List Tmp) (v:AV) (vs:List AV):uX (t::ts) (v::vs) e=uX ts vs ((t,v)::e):=rfl
theorem Qo:uX [] [] e=e:=rfl
theorem IK (m:Nat):bc m ⟨n,e,o,x⟩=⟨m,cR e,o,x⟩:=rfl
theorem round (m:Nat) (ps:List Tmp) (vs:List AV):mM m ps vs ⟨n,e,o,x⟩=⟨m,uX ps vs (ae (aj e) (sh e)),o,x⟩:=by
 unfold mM
 rw[Cy,CK]
def vE (f:AV→AV):List (Nat×AV)→List (Nat×AV)
 |[]=>[]
 |(i,v)::r=>(i,f v)::vE f r
def fq (f:AV→AV):List AV→List AV
 |[]=>[]
 |v::r=>f v::fq f r
def gF (f:AV→AV):List (Nat×Option Ob)→List (Nat×Option Ob)
 |[]=>[]
 |(i,b)::r=>(i,b.map (Ob.pM f))::gF f r
theorem xS (f:AV→AV):∀l:List (Nat×AV),(l.map fun p=>(p.1,f p.2))=vE f l
 |[]=>rfl
 |(i,v)::r=>by rw[List.map_cons,xS f r];rfl
theorem xI (f:AV→AV):∀l:List (Nat×Option Ob),(l.map fun p=>(p.1,p.2.map (Ob.pM f)))=gF f l
 |[]=>rfl
 |(i,v)::r=>by rw[List.map_cons,xI f r];rfl
theorem fM (f:AV→AV):∀l:List AV,l.map f=fq f l
 |[]=>rfl
 |v::r=>by rw[List.map_cons,fM f r];rfl
theorem mv (f:AV→AV):DS.cj ⟨n,e,o,x⟩ f=⟨n,vE f e,gF f o,x⟩:=by
 unfold DS.cj
 rw[xS,xI]
theorem Qs (f:AV→AV):vE f []=[]:=rfl
theorem Qk (f:AV→AV) (i:Nat) (v:AV) (r:List (Nat×AV)):vE f ((i,v)::r)=(i,f v)::vE f r:=rfl
theorem PZ (f:AV→AV):fq f []=[]:=rfl
theorem PL (f:AV→AV) (v:AV) (r:List AV):fq f (v::r)=f v::fq f r:=rfl
theorem Rf (f:AV→AV):gF f []=[]:=rfl
theorem Qu (f:AV→AV) (i:Nat) (r:List (Nat×Option Ob)):gF f ((i,none)::r)=(i,none)::gF f r:=rfl
theorem QG (f:AV→AV) (i:Nat) (r:List (Nat×Option Ob)):gF f ((i,some .row)::r)=(i,some .row)::gF f r:=rfl
theorem Qz (f:AV→AV) (i:Nat) (cs:List AV) (r:List (Nat×Option Ob)):gF f ((i,some (.box cs))::r)=(i,some (.box (fq f cs)))::gF f r:=by
 show(i,some (Ob.box (cs.map f)))::gF f r=_
 rw[fM]
theorem QK (f:AV→AV) (i:Nat) (l:List (Value×AV)) (r:List (Nat×Option Ob)):gF f ((i,some (.mp l))::r)=(i,some (.mp l))::gF f r:=rfl
theorem QC (f:AV→AV) (i:Nat) (l:List (Value×AV)) (k:Value) (v:AV) (r:List (Nat×Option Ob)):gF f ((i,some (.mpl l k v))::r)=(i,some (.mpl l k (f v)))::gF f r:=rfl
theorem Qr (f:AV→AV) (i:Nat) (e:TypeId) (p:Nat→Value×List Value) (r:List (Nat×Option Ob)):gF f ((i,some (.pool e p))::r)=(i,some (.pool e p))::gF f r:=rfl
theorem O9 (f:AV→AV) (i:Nat) (T:TypeId) (vs:Array Value) (r:List (Nat×Option Ob)):gF f ((i,some (.lit T vs))::r)=(i,some (.lit T vs))::gF f r:=rfl
theorem PW (f:AV→AV) (i l:Nat) (tm ps asg body st) (r:List (Nat×Option Ob)):gF f ((i,some (.loop l tm ps asg body st))::r)=(i,some (.loop l tm ps asg body st))::gF f r:=rfl
section
variable (i j:Nat)
theorem Ko:AV.kill i .any=.any:=rfl
theorem Nt (p:PV):AV.kill i (.pv p)=.pv p:=rfl
theorem Jy (a b:Nat):AV.kill i (.ptr a b)=.ptr a b:=rfl
theorem G5 (c:List PV):AV.kill i (.rptr c)=.rptr c:=rfl
theorem GI (a:Nat):AV.kill i (.mapr a)=.mapr a:=rfl
theorem IY (a:Nat):AV.kill i (.yld a)=.yld a:=rfl
theorem IX (e k els):AV.kill i (.own j e k els)=bif Nat.beq i j then .any else .own j e k els:=rfl
theorem HE (e k els m):AV.kill i (.optr j e k els m)=bif Nat.beq i j then .any else .optr j e k els m:=rfl
theorem J3 (cs:List AV):AV.kill i (.agg cs)=.agg (fq (AV.kill i) cs):=by
 show AV.mp _ _=_
 rw[AV.mp,AV.dC,fM];rfl
theorem IT (cs:List AV):AV.kill i (.tup cs)=.tup (fq (AV.kill i) cs):=by
 show AV.mp _ _=_
 rw[AV.mp,AV.dC,fM];rfl
theorem Kh (fn:Go.Fn) (cs ds:List AV):AV.kill i (.clo fn cs ds)=.clo fn (fq (AV.kill i) cs) (fq (AV.kill i) ds):=by
 show AV.mp _ _=_
 rw[AV.mp,AV.dC,AV.dC,fM,fM];rfl
end
theorem H3 (cs:List AV):AV.cellsOf (.agg cs)=cs:=rfl
theorem IP (p:PV):AV.cellsOf (.pv p)=[.pv p]:=rfl
theorem Gq (a b:Nat):AV.cellsOf (.ptr a b)=[.ptr a b]:=rfl
theorem HZ (i e k els):AV.cellsOf (.own i e k els)=[.own i e k els]:=rfl
theorem Gf:AV.cellsOf .any=[.any]:=rfl
theorem Ds (i:Nat):AV.cellsOf (.mapr i)=[.mapr i]:=rfl
theorem Hx (fn a b):AV.cellsOf (.clo fn a b)=[.clo fn a b]:=rfl
theorem El (c):AV.cellsOf (.rptr c)=[.rptr c]:=rfl
def wj:List AV→Nat→AV→List AV
 |[],_,_=>[]
 |_::r,0,w=>w::r
 |v::r,n+1,w=>v::wj r n w
theorem sH:∀(l:List AV) (n:Nat) (w:AV),l.set n w=wj l n w
 |[],_,_=>rfl
 |_::_,0,_=>rfl
 |v::r,n+1,w=>by rw[List.set_cons_succ,sH r n w];rfl
theorem PE (i j:Nat) (v:Option Ob) (r:List (Nat×Option Ob)):aG ((i,v)::r) j=bif Nat.beq i j then v else aG r j:=rfl
end Nf
end Go.Ab
/- Laws of operations whose results stand in plain form. -/
namespace Go.Ab
open Go Go.RowKit
attribute [local irreducible] HS
variable {q:Md} {P:Program} {g:ar} {δ:DS} {κ:Kp} {a:Act} {w:World}
variable {ops:Array Oper} {rest:List Oper} {Q:Exit→DS→Prop} {dst:Option Nat} {ty:TypeId} {pos:String} {af:Array Edge}
def Du (P:Program) (s:TypeId) (f k:Nat):Bool:=match P.underlying s with
 |some (.struct fs)=>(match fs[f]? with|some fld=>Nat.beq fld.offset k && ((P.info? fld.type).map fun i=>Nat.blt 0 i.size)==some true|none=>false)
 |_=>false
theorem aa.ah (s:TypeId) (f k:Nat) {x:Operand} {i off:Nat} (hx:δ.ev x=.ptr i off) (hB:Du P s f k=true) (ho:aK x=true) (hd:bk δ.n dst=true)
  (hK:aa q P g ops rest Q (δ.au dst (.ptr i (off+k)))):aa q P g ops (⟨dst,.fieldAddr s x f,ty,pos,af,none⟩::rest) Q δ:=by
 unfold Du at hB
 split at hB
 ·rename_i fs hs
  split at hB
  ·rename_i fld hf
   simp only[Bool.and_eq_true,beq_iff_eq] at hB
   have hk:=Nat.eq_of_beq_eq_true hB.1
   subst hk
   exact aa.fieldAddr hx hs hf hB.2 ho hd hK
  ·cases hB
 ·cases hB
def zG:List AV→Nat→Nat→List AV
 |[],_,_=>[]
 |v::r,k,n=>bif k==0 then (bif n==0 then [] else v::zG r 0 (n - 1)) else zG r (k - 1) n
def oe:List PV→Nat→Nat→List PV
 |[],_,_=>[]
 |v::r,k,n=>bif k==0 then (bif n==0 then [] else v::oe r 0 (n - 1)) else oe r (k - 1) n
theorem s_:∀(l:List PV) (k n:Nat),(l.drop k).take n=oe l k n
 |[],k,n=>by simp [oe]
 |v::r,0,0=>by simp [oe]
 |v::r,0,n+1=>by
  have:=s_ r 0 n
  simp only[List.drop_zero] at this
  simp [oe,← this]
 |v::r,k+1,n=>by simp [oe,← s_ r k n]
def FQ (P:Program) (s:TypeId) (f k n:Nat):Bool:=match P.underlying s with
 |some (.struct fs)=>(match fs[f]? with|some fld=>Nat.beq fld.offset k && (((P.info? fld.type).map fun i=>Nat.blt 0 i.size)==some true && (P.info? fld.type).map (·.size)==some n)|none=>false)
 |_=>false
theorem aa.eB (s:TypeId) (f k n:Nat) {x:Operand} {cs:List PV} (hx:δ.ev x=.rptr cs) (hB:FQ P s f k n=true) (ho:aK x=true) (hd:bk δ.n dst=true)
  (hK:aa q P g ops rest Q (δ.au dst (.rptr (oe cs k n)))):aa q P g ops (⟨dst,.fieldAddr s x f,ty,pos,af,none⟩::rest) Q δ:=by
 unfold FQ at hB
 split at hB
 ·rename_i fs hs
  split at hB
  ·rename_i fld hf
   simp only[Bool.and_eq_true,beq_iff_eq] at hB
   have hk:=Nat.eq_of_beq_eq_true hB.1
   subst hk
   exact aa.u0 hx hs hf hB.2.1 hB.2.2 ho hd (by rw[s_];exact hK)
  ·cases hB
 ·cases hB
def uK:List Value→List AV
 |[]=>[]
 |v::r=> .pv (.lit v)::uK r
theorem oG:∀l:List Value,(l.map fun v=>AV.pv (PV.lit v))=uK l
 |[]=>rfl
 |v::r=>by rw[List.map_cons,oG r];rfl
def ny:List AV→List (Nat×AV)→List AV
 |cs,[]=>cs
 |cs,(k,v)::r=>ny (setN cs k v.cellsOf) r
where setN:List AV→Nat→List AV→List AV
 |cs,_,[]=>cs
 |cs,k,v::r=>setN (Nf.wj cs k v) (k+1) r
theorem yh:∀(vs cs:List AV) (k:Nat),fx cs k vs=ny.setN cs k vs
 |[],cs,k=>rfl
 |v::r,cs,k=>by
  unfold fx ny.setN
  rw[Nf.sH,yh r]
theorem mQ {place:Nat→Option (Nat×Nat)}:∀(ps:List (Nat×AV)) (offs:List Nat) (cs cells:List AV),c6 place cs ps=some cells→(ps.map fun p=>(place p.1).map (·.1))=offs.map some→
  cells=ny cs (offs.zip (ps.map (·.2)))
 |[],offs,cs,cells,h,_=>by simp only[c6,Option.some.injEq] at h;subst h;cases offs<;>rfl
 |(i,v)::ps,[],cs,cells,h,ho=>by simp at ho
 |(i,v)::ps,k::offs,cs,cells,h,ho=>by
  simp only[List.map_cons,List.cons.injEq] at ho
  unfold c6 at h
  cases hp:place i with
  |none=>rw[hp] at h;cases h
  |some x=>
   obtain⟨off,size⟩:=x
   rw[hp] at h ho
   simp only[Option.map_some,Option.some.injEq] at ho
   obtain⟨rfl,ho⟩:=ho
   simp only at h
   cases hb:(Nat.beq v.cellsOf.length size && Nat.ble (off+v.cellsOf.length) cs.length && AV.gx v.cellsOf) with
   |false=>rw[hb] at h;cases h
   |true=>
    rw[hb] at h
    have:=mQ ps offs _ cells h ho
    rw[this,yh]
    rfl
def my (e:List (Nat×AV)):List Nat→List (Nat×Operand)→List (Nat×AV)
 |k::ks,(_,.tmp t)::ps=>(k,look e t)::my e ks ps
 |k::ks,(_,.const v)::ps=>(k,.pv (.lit v))::my e ks ps
 |k::ks,(_,.global _)::ps=>(k,.any)::my e ks ps
 |k::ks,(_,.func f)::ps=>(k,.clo (.func f) [] [])::my e ks ps
 |_,_=>[]
theorem sc (δ:DS):∀(offs:List Nat) (ps:List (Nat×Operand)),offs.zip ((ps.map fun p=>(p.1,δ.ev p.2)).map (·.2))=my δ.env offs ps
 |[],[]=>rfl
 |[],_::_=>rfl
 |_::_,[]=>rfl
 |k::ks,(i,x)::ps=>by
  simp only[List.map_cons,List.zip_cons_cons,sc δ ks ps]
  cases x<;>rfl
theorem aa.sb (t:TypeId) (offs:List Nat) {l:List Value} {parts:List (Nat×Operand)} {fs:Array Field} {z:Value} {cells:List AV} (hs:P.underlying t=some (.struct fs)) (hz:(P.info? t).bind (·.zero)=some z) (hl:z.cells=l.toArray) (h1:z.cells.toList.all (·.oneCell')=true) (ec:fs.toList.all (fun f=>(P.info? f.type).isSome)=true)
  (ho:parts.all (fun p=>aK p.2)=true) (lI:((parts.map fun p=>(p.1,δ.ev p.2)).map fun p=>(placeOf P fs p.1).map (·.1))=offs.map some) (hf:c6 (placeOf P fs) (z.cells.toList.map fun v=> .pv (.lit v)) (parts.map fun p=>(p.1,δ.ev p.2))=some cells) (hd:bk δ.n dst=true)
  (hK:aa q P g ops rest Q (δ.au dst (.agg (ny (uK l) (my δ.env offs parts))))):aa q P g ops (⟨dst,.build t parts.toArray,ty,pos,af,none⟩::rest) Q δ:=by
 refine aa.build hs hz h1 ec ho hf hd ?_
 have:=mQ _ offs _ cells hf lI
 rw[sc,hl,List.toList_toArray,oG] at this
 rw[this]
 exact hK
theorem aa.lY {e:TypeId} {z:Value} {l:List Value} (hz:(P.info? e).bind (·.zero)=some z) (hl:z.cells=l.toArray) (h1:z.cells.toList.all (·.oneCell')=true) (hd:bk δ.n dst=true)
  (hK:aa .plain P g ops rest Q ((δ.ba (.box (uK l))).au dst (.ptr δ.nx 0))):aa .plain P g ops (⟨dst,.alloc e,ty,pos,af,none⟩::rest) Q δ:=by
 refine aa.alloc hz h1 hd ?_
 rw[hl,List.toList_toArray,oG]
 exact hK
def tD:Option Ob→oh→Option Ob
 |some (.loop l tm ps asg body _),st=>some (.loop l tm ps asg body st)
 |o,_=>o
def Fb (δ:DS) (i:Nat) (st:oh):DS:=⟨δ.n,δ.env,(i,tD (aG δ.objs i) st)::δ.objs,δ.nx⟩
theorem sO {i l:Nat} {s:oh} (st:oh) (h:jM δ i l s):δ.iV i st=Fb δ i st:=by
 obtain⟨tm,ps,asg,body,ho⟩:=h
 unfold DS.iV Fb
 rw[ho]
 have:aG δ.objs i=some (.loop l tm ps asg body s):=ho
 rw[this]
 rfl
def a_ (P:Program) (g:ar) (ops:Array Oper) (rest:List Oper) (Q:Exit→DS→Prop) (dst:Option Nat) (n i l:Nat):Exit→DS→Prop
 |.normal,δ=>jM δ i l .busy∧aa .plain P g ops rest Q ((Fb (bc n δ) i .ready).au dst (aM true))
 |.ret,δ=>jM δ i l .busy∧aa .plain P g ops rest Q ((Fb (bc n δ) i (.done .ret)).au dst (aM false))
 |.exit id,δ=>jM δ i l .busy∧aa .plain P g ops rest Q ((Fb (bc n δ) i (.done (.exit id))).au dst (aM false))
 |_,_=>False
theorem nu {n i l:Nat} {st} (h:jM δ i l st):jM (bc n δ) i l st:=h
theorem aa.A5 {x:Operand} {ys:List Operand} {tys:Array TypeId} {i l n0:Nat} {tm:Array Value} {ps:List Tmp} {asg body:Code} {ps':Array Tmp} {asg' body':Code} (rz:v7 ps' asg' body' ps asg body) (tk:g.ro=none) (dg:g.wt=none) (nW:∀j,j<HS→g.held (j+HS)=tm.getD j undef) (zN:tm.size=n0)
  (hn0:Nat.ble n0 HS=true)
  (hx:δ.ev x=.yld i) (dx:δ.ob i=some (.loop l tm ps' asg' body' .ready)) (ho:aK x=true) (KD:ys.all aK=true) (hlen:Nat.beq ys.length ps.length=true) (GA:ps.all (fun t=>Nat.blt t n0)=true) (hd':bk δ.n dst=true)
  (h:∀g':ar,g'.ro=some l→g'.wt=none→AW P g' asg (bM (fun δ1=>jM δ1 i l .ready∧AW P g' body (a_ P g ops rest Q dst δ.n i l) (Fb δ1 i .busy)) (fun _ _=>False)) (mM n0 ps (ys.map δ.ev) δ)):
  aa .plain P g ops (⟨dst,.call {callee:=.value x,args:=ys.toArray,argTypes:=tys},ty,pos,af,none⟩::rest) Q δ:=by
 refine aa.Gi rz tk dg nW zN hn0 hx dx ho KD hlen GA hd' fun g' h1 h2=>(h g' h1 h2).mono ?_
 intro e δ1 he
 cases e with
 |normal=>
  obtain⟨h3,h4⟩:=he
  refine⟨h3,?_⟩
  rw[sO _ h3]
  refine AW.mono h4 ?_
  intro e2 δ2 he2
  cases e2 with
  |normal=>exact⟨he2.1,by show aa .plain P g ops rest Q (((bc δ.n δ2).iV i .ready).au dst (aM true));rw[sO .ready (nu (n:=δ.n) he2.1)];exact he2.2⟩
  |ret=>exact⟨he2.1,by show aa .plain P g ops rest Q (((bc δ.n δ2).iV i (.done .ret)).au dst (aM false));rw[sO (.done .ret) (nu (n:=δ.n) he2.1)];exact he2.2⟩
  |exit id=>exact⟨he2.1,by show aa .plain P g ops rest Q (((bc δ.n δ2).iV i (.done (.exit id))).au dst (aM false));rw[sO (.done (.exit id)) (nu (n:=δ.n) he2.1)];exact he2.2⟩
  |_=>exact he2.elim
 |_=>exact he.elim
theorem jB {n i l:Nat} (h1:jM δ i l .busy) (h2:aa .plain P g ops rest Q ((Fb (bc n δ) i .ready).au dst (aM true))):a_ P g ops rest Q dst n i l .normal δ:=⟨h1,h2⟩
theorem lV {n i l id:Nat} (h1:jM δ i l .busy) (h2:aa .plain P g ops rest Q ((Fb (bc n δ) i (.done (.exit id))).au dst (aM false))):a_ P g ops rest Q dst n i l (.exit id) δ:=⟨h1,h2⟩
def Jt (n i:Nat) (δ:DS):DS:=⟨n,cR δ.env,(i,tD (aG δ.objs i) .jk)::δ.objs,δ.nx⟩
theorem CE {n i l:Nat} {tm ps asg body st} (ho:δ.ob i=some (.loop l tm ps asg body st)):fl n i δ=Jt n i δ:=by
 unfold fl Jt
 rw[ho]
 have:aG δ.objs i=some (.loop l tm ps asg body st):=ho
 rw[this];rfl
theorem og {n i l:Nat} {tm ps asg body} {e:Exit} (he:e=.normal∨e=.ret) (ho:δ.ob i=some (.loop l tm ps asg body .ready)) (h:Q .normal (Jt n i δ)):bm n i l Q e δ:=qs he ho (by rw[CE ho];exact h)
theorem pS {n i l id:Nat} {tm ps asg body} {e:Exit} (he:e=.normal∨e=.ret) (ho:δ.ob i=some (.loop l tm ps asg body (.done (.exit id)))) (h:Q (.exit id) (Jt n i δ)):bm n i l Q e δ:=qD he ho (by rw[CE ho];exact h)
namespace Nf
variable {n x:Nat} {e:List (Nat×AV)} {o:List (Nat×Option Ob)}
theorem QP (i:Nat) (st:oh):Fb ⟨n,e,o,x⟩ i st=⟨n,e,(i,tD (aG o i) st)::o,x⟩:=rfl
theorem Qx (m i:Nat):Jt m i ⟨n,e,o,x⟩=⟨m,cR e,(i,tD (aG o i) .jk)::o,x⟩:=rfl
theorem QW (l:Nat) (tm ps asg body st st'):tD (some (.loop l tm ps asg body st)) st'=some (.loop l tm ps asg body st'):=rfl
theorem Rk:uK []=[]:=rfl
theorem Ql (v:Value) (r:List Value):uK (v::r)=.pv (.lit v)::uK r:=rfl
theorem Rq (cs:List AV):ny cs []=cs:=rfl
theorem P4 (cs:List AV) (k:Nat) (v:AV) (r:List (Nat×AV)):ny cs ((k,v)::r)=ny (ny.setN cs k v.cellsOf) r:=rfl
theorem Ph (cs:List AV) (k:Nat):ny.setN cs k []=cs:=rfl
theorem Qg (cs:List AV) (k:Nat) (v:AV) (r:List AV):ny.setN cs k (v::r)=ny.setN (wj cs k v) (k+1) r:=rfl
theorem N_ (k:Nat) (w:AV):wj [] k w=[]:=rfl
theorem Pg (v:AV) (r:List AV) (k:Nat) (w:AV):wj (v::r) k w=bif k==0 then w::r else v::wj r (k - 1) w:=by cases k<;>rfl
theorem LX (k:Nat) (ks:List Nat) (i t:Nat) (ps:List (Nat×Operand)):my e (k::ks) ((i,.tmp t)::ps)=(k,look e t)::my e ks ps:=rfl
theorem MB (k:Nat) (ks:List Nat) (i:Nat) (v:Value) (ps:List (Nat×Operand)):my e (k::ks) ((i,.const v)::ps)=(k,.pv (.lit v))::my e ks ps:=rfl
theorem Nx (k:Nat) (ks:List Nat) (i f:Nat) (ps:List (Nat×Operand)):my e (k::ks) ((i,.func f)::ps)=(k,.clo (.func f) [] [])::my e ks ps:=rfl
theorem PM:my e [] []=[]:=rfl
theorem P8 (k n:Nat):zG [] k n=[]:=rfl
theorem Rh (v:AV) (r:List AV) (k n:Nat):zG (v::r) k n=bif k==0 then (bif n==0 then [] else v::zG r 0 (n - 1)) else zG r (k - 1) n:=rfl
theorem Rb (k n:Nat):oe [] k n=[]:=rfl
theorem PI (v:PV) (r:List PV) (k n:Nat):oe (v::r) k n=bif k==0 then (bif n==0 then [] else v::oe r 0 (n - 1)) else oe r (k - 1) n:=rfl
end Nf
end Go.Ab
namespace Go.Ab
open Go Go.RowKit
section
variable {q:Md} {P:Program} {g:ar} {δ:DS} {ops:Array Oper} {rest:List Oper} {Q:Exit→DS→Prop} {dst:Option Nat} {ty:TypeId} {pos:String} {af:Array Edge}
theorem aa.nq {x:Operand} {c:List PV} (hx:δ.ev x=.rptr c) (ho:aK x=true) (hd:bk δ.n dst=true) (hK:aa q P g ops rest Q (δ.au dst (.rptr c))):aa q P g ops (⟨dst,.move x,ty,pos,af,none⟩::rest) Q δ:=aa.move hx ho hd hK
theorem aa.fW {x:Operand} {c:List PV} (hx:δ.ev x=.rptr c) (ho:aK x=true) (hd:bk δ.n dst=true) (hK:aa q P g ops rest Q (δ.au dst (.rptr c))):aa q P g ops (⟨dst,.assign x,ty,pos,af,none⟩::rest) Q δ:=aa.assign hx ho hd hK
theorem aa.tR {x:Operand} {i:Nat} (hx:δ.ev x=.mapr i) (ho:aK x=true) (hd:bk δ.n dst=true) (hK:aa q P g ops rest Q (δ.au dst (.mapr i))):aa q P g ops (⟨dst,.assign x,ty,pos,af,none⟩::rest) Q δ:=aa.assign hx ho hd hK
theorem aa.yY {x:Operand} {i:Nat} (hx:δ.ev x=.mapr i) (ho:aK x=true) (hd:bk δ.n dst=true) (hK:aa q P g ops rest Q (δ.au dst (.mapr i))):aa q P g ops (⟨dst,.move x,ty,pos,af,none⟩::rest) Q δ:=aa.move hx ho hd hK
theorem aa.k9 {x:Operand} {c:List PV} (hx:δ.ev x=.rptr c) (ho:aK x=true) (hd:bk δ.n dst=true) (hK:aa q P g ops rest Q (δ.au dst (.rptr c))):
  aa q P g ops (⟨dst,.nilCheck x,ty,pos,af,none⟩::rest) Q δ:=
 aa.dq _ hd (fun κ a w r=>by
  have h1:=r.ra hx ho
  have h2:=h1
  generalize hu:a.eval x=u at h1
  cases h1 with
  |rptr b off vs hN hb hc hr=>exact⟨_,fun w' _=>by simp [execOp,hu],hu▸h2⟩) hK
end
end Go.Ab
/- Maps:written,counted,ranged over;told as sets and frozen. -/
namespace Go.Ab
open Go Go.RowKit
variable {q:Md} {P:Program} {g:ar} {δ:DS} {κ:Kp} {a:Act} {w:World}
variable {gd:Option (Tmp×Bool)} {ops:Array Oper} {rest:List Oper} {Q:Exit→DS→Prop} {dst:Option Nat} {ty:TypeId} {pos:String} {af:Array Edge}
theorem qK {C:Cx} {w:World} (m:Int):∀(es:List MapEntry) (l:List (Int×AV)) (i:Nat),es.length=l.length→
  (∀(j:Nat) (e:MapEntry) (p:Int×AV),es[j]? =some e→l[j]? =some p→e.key=.int .i64 p.1∧RA C w e.val p.2)→
  (dQ l m=none∧Instr.findNow (.int .i64) (.int .i64 m) es i=some none)∨
  (∃(j:Nat) (e:MapEntry) (v:AV),Instr.findNow (.int .i64) (.int .i64 m) es i=some (some (i+j,e.val))∧es[j]? =some e∧l[j]? =some (m,v)∧e.key=.int .i64 m∧∀i,i<j→∀p,l[i]? =some p→p.1≠m):=by
 intro es
 induction es with
 |nil=>intro l i hs _;have:l=[]:=List.eq_nil_of_length_eq_zero hs.symm;subst this;exact .inl ⟨rfl,rfl⟩
 |cons e es ih=>
  intro l i hs h
  cases l with
  |nil=>simp at hs
  |cons p l=>
   obtain⟨k,v⟩:=p
   have h0:=h 0 e (k,v) rfl rfl
   by_cases hk:m=k
   ·subst hk
    refine .inr ⟨0,e,v,?_,rfl,rfl,h0.1,fun i hi=>by omega⟩
    simp [Instr.findNow,h0.1,Instr.sameNow]
   ·have hf:Instr.findNow (.int .i64) (.int .i64 m) (e::es) i=Instr.findNow (.int .i64) (.int .i64 m) es (i+1):=by
     have hb:(m==k)=false:=by simp [hk]
     simp [Instr.findNow,h0.1,Instr.sameNow,hb]
    rcases ih l (i+1) (by simpa using hs) (fun j e p h1 h2=>h (j+1) e p (by simpa using h1) (by simpa using h2)) with ⟨h1,h2⟩|⟨j,e',v',h2,h3,h4,h5,h6⟩
    ·exact .inl ⟨by simp [dQ,hk,h1],hf.trans h2⟩
    ·refine .inr ⟨j+1,e',v',by rw[hf,h2];simp;omega,by simpa using h3,by simpa using h4,h5,fun i' hi' p hp=>?_⟩
     cases i' with
     |zero=>simp at hp;subst hp;exact fun e=>hk e.symm
     |succ i'=>exact h6 i' (by omega) p (by simpa using hp)
theorem Rel.O1 (r:Rel g δ κ a w) {u:Value} {i:Nat} {l:List (Value×PV)} {seen:List Nat} (h:RA (δ.cx g κ) w u (.ptr i 0)) (ho:δ.ob i=some (.it l seen)):
  ∃b,u=.pointer (some ⟨b,0,none⟩)∧κ i=some b∧A_ (δ.cx g κ).N w b l seen:=by
 cases h with
 | @ptr _ _ b hl hκ=>
  obtain⟨b',h1,h2⟩:=r.obj i _ ho
  have:b'=b:=Option.some.inj (h1.symm.trans hκ)
  subst this
  exact⟨b',rfl,h1,h2⟩
theorem EB {C:Cx} {w:World} {u1 u2 u3:Value} {v1 v2 v3:AV} (h1:RA C w u1 v1) (h2:RA C w u2 v2) (h3:RA C w u3 v3):RA C w (.tuple #[u1,u2,u3]) (.tup [v1,v2,v3]):=uZ h1 h2 h3
theorem sQ {es:Array MapEntry} {clock:Nat} (h:j_ es clock):(es.toList.map (·.born)).Nodup:=by
 have:es.toList.map (·.born)=List.range es.size:=by
  apply List.ext_getElem?
  intro j
  rw[List.getElem?_map,Array.getElem?_toList]
  by_cases hj:j<es.size
  ·rw[Array.getElem?_eq_getElem hj,Option.map_some,h.2 j _ (Array.getElem?_eq_getElem hj),List.getElem?_range hj]
  ·rw[Array.getElem?_eq_none (by omega),List.getElem?_eq_none (by simpa using hj)];rfl
 rw[this];exact List.nodup_range
theorem aa.next {x:Operand} {i:Nat} {l:List (Value×PV)} {seen:List Nat} (hx:δ.ev x=.ptr i 0) (dx:δ.ob i=some (.it l seen)) (ho:aK x=true) (hd:bk δ.n dst=true) (dg:g.wt=none)
  (hK0:(∀j,j<l.length→j∈seen)→aa .plain P g ops rest Q (δ.au dst (.tup [aM false])))
  (hK1:∀j (hj:j<l.length),j∉seen→aa .plain P g ops rest Q ((δ.bx i (some (.it l (seen++ [j])))).au dst (.tup [aM true,.pv (.lit l[j].1),.pv l[j].2]))):
  aa .plain P g ops (⟨dst,.next x false,ty,pos,af,none⟩::rest) Q δ:=by
 intro κ a w r
 obtain⟨b,hv,h2,h3⟩:=r.O1 (r.ra hx ho) dx
 show wpListIn _ _ P ops _ (_::rest) a w
 refine cr rfl rfl fun K hK'=>?_
 unfold Oper.uT
 rcases h3 with ⟨rfl,h3⟩|⟨m,es,clock,hN,hm,hh,hs,dp,sz,H_,Gj⟩
 ·have aR:(execOp a.eval ⟨dst,.next x false,ty,pos,af,none⟩).run P w=.ok (.value (.tuple #[.bool false])) w:=by
   have:(Instr.next (.pointer (some ⟨b,0,none⟩)) false ty).run P w=.ok (.tuple #[.bool false]) w:=by
    simp only[Instr.next,getObj,Sem.run_bind,Sem.run,h3,Result.andThen]
    rfl
   simp [execOp,hv,this]
  rw[aR,Oper.uponIn_value]
  exact hK' _ _ (hK0 (by simp) κ _ _ (r.au (aU hd) (.tup rfl fun j u c h4 h5=>by
   cases j with
   |zero=>simp at h4 h5;subst h4;subst h5;exact .pv (.lit _)
   |succ j=>simp at h5)))
 ·have hold:∀e∈es.toList,e.born<clock:=by
   intro e he
   obtain⟨j,hj⟩:=List.getElem?_of_mem he
   have hj':es[j]? =some e:=by simpa using hj
   rw[dp.2 j e hj',dp.1]
   exact(Array.getElem?_eq_some_iff.1 hj').1
  rcases run_next_at (P:=P) w ty b m clock clock seen.toArray es clock H_ hh hold (Nat.le_refl _) with ⟨h4,h5⟩|⟨e,he,w1,hw1,h5⟩
  ·have aR:(execOp a.eval ⟨dst,.next x false,ty,pos,af,none⟩).run P w=.ok (.value (.tuple #[.bool false])) w:=by simp [execOp,hv,h5]
   rw[aR,Oper.uponIn_value]
   have ec:=all_seen es seen.toArray h4
   exact hK' _ _ (hK0 (fun j hj=>by
    have hj2:j<es.size:=by omega
    have:=ec es[j] (by simp)
    rw[dp.2 j _ (Array.getElem?_eq_getElem hj2)] at this
    simpa using this) κ _ _ (r.au (aU hd) (.tup rfl fun j u c h4 h5=>by
    cases j with
    |zero=>simp at h4 h5;subst h4;subst h5;exact .pv (.lit _)
    |succ j=>simp at h5)))
  ·obtain⟨he1,he2⟩:=mem_left he
   obtain⟨j,hj⟩:=List.getElem?_of_mem he1
   have hj':es[j]? =some e:=by simpa using hj
   have hb:=dp.2 j e hj'
   have Dh:j<l.length:=by rw[← hs];exact(Array.getElem?_eq_some_iff.1 hj').1
   have vh:j∉seen:=by rw[hb] at he2;simpa using he2
   obtain⟨Pq,Lo⟩:=sz j e _ hj' (List.getElem?_eq_getElem Dh)
   have aR:(execOp a.eval ⟨dst,.next x false,ty,pos,af,none⟩).run P w=.ok (.value (.tuple #[.bool true,e.key,e.val])) (ChangeMaps.setBlock w1 b (.mapIter (some m) clock (seen.toArray.push e.born) clock)):=by simp [execOp,hv,h5]
   rw[aR,Oper.uponIn_value]
   have F4:Below w.heap.size w w1:=by
    rcases hw1 with rfl|rfl
    ·exact Below.refl _ _
    ·exact Below.drew (Below.refl _ _)
   have r1:=r.ext F4
   have hh1:w1.heap=w.heap:=by rcases hw1 with rfl|rfl<;>rfl
   have aP:b<w1.heap.size:=by rw[hh1];exact cW H_
   obtain⟨r2,G⟩:=r1.modify (o':=.it l (seen++ [j])) dx rfl rfl h2 (eA dg i) (cS.oI w1 b (.mapIter (some m) clock (seen.toArray.push e.born) clock)) (by simp) (fun C hC G=>by
    have hN1:=G.N m (by rw[hh1];exact hm) hN
    refine⟨b,by rw[hC];exact h2,.inr ⟨m,es,clock,hN1.1,by simp [hh1];exact hm,by rw[hN1.2,hh1];exact hh,hs,dp,fun j e p h6 h7=>⟨(sz j e p h6 h7).1,?_⟩,?_,fun k hk=>?_⟩⟩
    ·have h8:=(sz j e p h6 h7).2
     refine h8.mono (by simp [hh1]) fun b' hb' hN'=>?_
     have:=G.N b' (by rw[hh1];exact hb') hN'
     exact⟨this.1,by rw[this.2,hh1]⟩
    ·rw[gw (o:=.mapIter (some m) clock seen.toArray clock) (by rw[hh1];exact H_)]
     rw[hb];simp
    ·rcases List.mem_append.1 hk with hk|hk
     ·exact Gj k hk
     ·simp at hk;subst hk;exact Dh)
   refine hK' _ _ (hK1 j Dh vh κ _ _ (r2.au (aU hd) (EB (.pv (.lit _)) ?_ ?_)))
   ·rw[Pq];exact .pv (.lit _)
   ·refine .pv (Lo.mono (by simp [hh1]) fun b' hb' hN'=>?_)
    have:=G.N b' (by rw[hh1];exact hb') hN'
    exact⟨this.1,by rw[this.2,hh1]⟩
theorem aa.entry {x:Operand} {i j:Nat} {l:List (Value×PV)} {seen:List Nat} (hx:δ.ev x=.ptr i 0) (dx:δ.ob i=some (.it l (seen++ [j]))) (ho:aK x=true) (hd:bk δ.n dst=true) (hq:q≠ .held) (hj:j<l.length)
  (hK:aa q P g ops rest Q (δ.au dst (.tup [.pv (.lit l[j].1),.pv l[j].2]))):
  aa q P g ops (⟨dst,.entry x,ty,pos,af,none⟩::rest) Q δ:=
 aa.Gl _ hq rfl rfl hd (fun κ a w r=>by
  obtain⟨b,hv,h2,h3⟩:=r.O1 (r.ra hx ho) dx
  rcases h3 with ⟨rfl,h3⟩|⟨m,es,clock,hN,hm,hh,hs,dp,sz,H_,Gj⟩
  ·simp at hj
  ·have QJ:j<es.size:=by omega
   have uc:=Array.getElem?_eq_getElem QJ
   obtain⟨h4,h5⟩:=sz j _ _ uc (List.getElem?_eq_getElem hj)
   have hb:=dp.2 j _ uc
   refine⟨.tuple #[es[j].key,es[j].val],fun w' hw'=>?_,wy (by rw[h4];exact .pv (.lit _)) (.pv h5)⟩
   have h6:w'.heap[b]? =some (.mapIter (some m) clock (seen.toArray.push es[j].born) clock):=by
    rw[hw'.block b (cW H_),H_,hb];simp
   have h7:w'.heap[m]? =some (.map es clock):=(hw'.block m hm).trans hh
   have:=run_entry_at (P:=P) w' b m clock seen.toArray es clock es[j] h6 h7 (by simp) (sQ dp)
   simp [execOp,hv,this]) hK
theorem aa.Dv {t:TypeId} (hd:bk δ.n dst=true) (hK:aa .plain P g ops rest Q ((δ.ba (.mp (dY (gb [])))).au dst (.mapr δ.nx))):aa .plain P g ops (⟨dst,.makeMap t none,ty,pos,af,none⟩::rest) Q δ:=aa.makeMap hd hK
theorem Nf.PO (f:AV→AV) (i:Nat) (l:List (Value×PV)) (seen:List Nat) (r:List (Nat×Option Ob)):Nf.gF f ((i,some (.it l seen))::r)=(i,some (.it l seen))::Nf.gF f r:=rfl
theorem WV.x5 {δ δ':DS} {i e k} {els:List (List PV)} (he:els=[]) (h:δ'.kK i=true) (hn:δ.ob i=none):WV δ δ' (.pv (.lit (.slice none 0 0))) (.own i e k els):=by rw[he];exact .nilown i e k h hn
end Go.Ab
/- Rows given up in the middle of a walk. -/
namespace Go.Ab
open Go Go.RowKit
variable {q:Md} {P:Program} {g:ar} {δ:DS} {κ:Kp} {a:Act} {w:World}
variable {ops:Array Oper} {rest:List Oper} {Q:Exit→DS→Prop} {dst:Option Nat} {ty:TypeId} {pos:String} {af:Array Edge}
def CI (i:Nat):AV→AV
 |.own j e k els=>bif Nat.beq i j then .pv (.slice k els) else .own j e k els
 |.optr j e k els n=>bif Nat.beq i j then .any else .optr j e k els n
 |v=>v
def AV.mJ (i:Nat):AV→AV:=AV.mp (CI i)
def j5 (δ:DS) (i:Nat):DS:=(δ.cj (AV.mJ i)).bx i none
theorem pN (δ:DS) (i j:Nat):(j5 δ i).ob j=if i=j then none else (δ.ob j).map (Ob.pM (AV.mJ i)):=by
 unfold j5
 rw[du,eO]
theorem DI (δ:DS) (i j:Nat):(j5 δ i).get j=AV.mJ i (δ.get j):=j4 (AV.mJ i) rfl δ j
theorem Rel.freeze (r:Rel g δ κ a w) {i:Nat} (hi:δ.ob i=some .row):∃κ',Rel g (j5 δ i) κ' a w:=by
 have bf:∀j,(j5 δ i).live j→j≠i∧δ.live j:=by
  rintro j ⟨o,h⟩
  rw[pN] at h
  by_cases e:i=j
  ·rw[if_pos e] at h;cases h
  ·rw[if_neg e] at h
   cases ho:δ.ob j with
   |none=>rw[ho] at h;simp at h
   |some o'=>exact⟨fun e'=>e e'.symm,o',ho⟩
 have ir:∀j,(j5 δ i).lr j↔j≠i∧δ.lr j:=by
  intro j
  unfold DS.lr
  rw[pN]
  by_cases e:i=j
  ·rw[if_pos e];simp [e]
  ·rw[if_neg e]
   have e':j≠i:=fun h=>e h.symm
   cases δ.ob j with
   |none=>simp
   |some o=>cases o<;>simp [Ob.pM,e']
 have oF:∀j,δ.lb j→(j5 δ i).lb j:=by
  rintro j ⟨o,h1,h2⟩
  have e:i≠j:=by rintro rfl;rw[hi] at h1;cases h1;simp [Ob.fy] at h2
  refine⟨Ob.pM (AV.mJ i) o,?_,?_⟩
  ·rw[pN,if_neg e,h1];rfl
  ·cases o<;>first|rfl|(simp [Ob.fy] at h2)
 have fv:∀j b,δ.live j→(j5 δ i).ob j=none→κ j=some b→((j5 δ i).cx g (nU δ κ)).N b:=by
  intro j b hl gB hκ
  refine⟨r.yi hl hκ,fun m hm e=>?_⟩
  obtain⟨h1,h2⟩:=bF e
  have:=r.inj j m b hl h1 hκ h2
  subst this
  obtain⟨o,hm⟩:=hm
  rw[gB] at hm;cases hm
 have G:ez ((δ.cx g κ).less i) w ((j5 δ i).cx g (nU δ κ)) w:=
  {B:=rfl,size:=Nat.le_refl _
   N:=fun b _ hN=>⟨⟨hN.1,fun j hj e=>by
    obtain⟨h1,h2⟩:=bF e
    exact hN.2 j h1 h2⟩,rfl⟩
   Lr:=fun j hj=>⟨(ir j).2 ⟨hj.2,hj.1⟩,cT (DS.bN hj.1),fun _ _=>rfl⟩
   Lb:=fun j hj=>⟨oF j hj,cT (DS.fU hj)⟩}
 have F:∀{v:Value} {av:AV},RA (δ.cx g κ) w v av→RA ((j5 δ i).cx g (nU δ κ)) w v (AV.mJ i av):=by
  intro v av h
  refine RA.mp G rfl (fun j e k els hj=>?_) (fun j e k els n hj=>?_) (fun v e k els ho=>?_) (fun b cap e k els n _ _=>?_) h
  ·simp only[CI,gm (Ne.symm hj)];rfl
  ·simp only[CI,gm (Ne.symm hj)];rfl
  ·simp only[CI,iX]
   exact .pv ((RA.own ho).mJ fv (by rw[pN,if_pos rfl]))
  ·simp only[CI,iX];exact .any _
 refine⟨nU δ κ,?_⟩
 exact
  {n:=r.n
   dfr:=r.dfr
   env:=fun j=>by rw[DI];exact F (r.env j)
   obj:=fun j o h=>by
    rw[pN] at h
    by_cases e:i=j
    ·rw[if_pos e] at h;cases h
    ·rw[if_neg e] at h
     cases ho:δ.ob j with
     |none=>rw[ho] at h;simp at h
     |some o'=>
      rw[ho] at h
      simp only[Option.map_some,Option.some.injEq] at h
      subst h
      have h0:=r.obj j o' ho
      have hκ:nU δ κ j=κ j:=cT ⟨_,ho⟩
      cases o' with
      |row=>intro b hb;exact h0 b (hκ.symm.trans hb)
      |box cs=>
       obtain⟨b,c,e',h1,h2,h3,h4⟩:=h0
       refine⟨b,c,e',hκ.trans h1,h2,by simpa using h3,fun k u av h5 h6=>?_⟩
       simp only[List.getElem?_map,Option.map_eq_some_iff] at h6
       obtain⟨av',h6,rfl⟩:=h6
       exact⟨F (h4 k u av' h5 h6).1,(h4 k u av' h5 h6).2⟩
      |mp l=>
       obtain⟨b,es,clock,h1,h2,h3,h4⟩:=h0
       exact⟨b,es,clock,hκ.trans h1,h2,⟨h3.1,fun k e' p h5 h6=>⟨(h3.2 k e' p h5 h6).1,G.ra ((h3.2 k e' p h5 h6).2.less (h4.2 p (List.mem_of_getElem? h6)))⟩⟩,h4⟩
      |mpl l kk v=>
       obtain⟨b,es,clock,h1,h2,h3,h4⟩:=h0
       exact⟨b,es,clock,hκ.trans h1,h2,h3.last (fun u p hp h=>G.ra (h.less (h4.2 p hp))) (fun u h=>F h),h4⟩
      |it l seen=>
       obtain⟨b,h1,h2⟩:=h0
       exact⟨b,hκ.trans h1,h2.mono G.size G.N rfl⟩
      |lit T vals=>obtain⟨b,h1,h2⟩:=h0;exact⟨b,hκ.trans h1,h2⟩
      |pool e rows=>exact⟨hκ.trans h0.1,fun k=>(h0.2.1 k).e7 rfl fun b _ h2 _=>⟨h2,rfl⟩,h0.2.2⟩
      |loop l tm ps asg body st=>
       obtain⟨b,lr,h1,h2⟩:=h0
       exact⟨b,lr,hκ.trans h1,h2⟩
   inj:=fun j m b _ _ h3 h4=>r.inj j m b (bF h3).1 (bF h4).1 (bF h3).2 (bF h4).2
   lo:=fun j b _ h2=>r.lo j b (bF h2).1 (bF h2).2
   nx:=fun j h=>r.nx j (bf j h).2
   wt:=fun k hk=>⟨(r.wt k hk).1,fun j b _ hj hb=>by
    obtain⟨hl,hκ⟩:=bF hb
    exact(r.wt k hk).2 j b hl (hj.imp (fun h=>((ir j).1 h).2) id) hκ⟩
   below:=r.below
   hB:=r.hB
   N0:=r.N0
   mkf:=r.mkf
   fr:=r.fr.sub fun j b _ h2=>⟨j,(bF h2).1,(bF h2).2⟩}
mutual
def AV.fo:AV→Option Nat
 |.own i _ _ _=>some i
 |.agg cs=>AV.KY cs
 |.tup cs=>AV.KY cs
 |_=>none
def AV.KY:List AV→Option Nat
 |[]=>none
 |v::r=>match AV.fo v with|some i=>some i|none=>AV.KY r
end
theorem aa.freeze (i:Nat) {l:List Oper} (hi:δ.ob i=some .row) (hK:aa .plain P g ops l Q (j5 δ i)):aa .plain P g ops l Q δ:=by
 intro κ a w r
 obtain⟨κ',r'⟩:=r.freeze hi
 exact hK κ' a w r'
theorem aa.Cs {t:TypeId} {n i:Nat} {parts:List (Nat×Operand)} (h:AV.KY (Nf.rZ δ.env (parts.map (·.2)))=some i) (hi:δ.ob i=some .row) (hK:aa .plain P g ops (⟨dst,.buildSlice t n parts.toArray,ty,pos,af,none⟩::rest) Q (j5 δ i)):
  aa .plain P g ops (⟨dst,.buildSlice t n parts.toArray,ty,pos,af,none⟩::rest) Q δ:=aa.freeze i hi hK
theorem aa.D7 {x:Operand} {i:Nat} {xs:List Operand} {tys:Array TypeId} (h:AV.KY (Nf.rZ δ.env xs)=some i) (hi:δ.ob i=some .row) (hK:aa .plain P g ops (⟨dst,.call {callee:=.value x,args:=xs.toArray,argTypes:=tys},ty,pos,af,none⟩::rest) Q (j5 δ i)):
  aa .plain P g ops (⟨dst,.call {callee:=.value x,args:=xs.toArray,argTypes:=tys},ty,pos,af,none⟩::rest) Q δ:=aa.freeze i hi hK
namespace Nf
variable {n x:Nat} {e:List (Nat×AV)} {o:List (Nat×Option Ob)} (i j:Nat)
theorem fd:j5 ⟨n,e,o,x⟩ i=⟨n,vE (AV.mJ i) e,(i,none)::gF (AV.mJ i) o,x⟩:=by
 unfold j5
 rw[mv];rfl
theorem IS:AV.mJ i .any=.any:=rfl
theorem LB (p:PV):AV.mJ i (.pv p)=.pv p:=rfl
theorem KN (a b:Nat):AV.mJ i (.ptr a b)=.ptr a b:=rfl
theorem H7 (c:List PV):AV.mJ i (.rptr c)=.rptr c:=rfl
theorem Gp (a:Nat):AV.mJ i (.mapr a)=.mapr a:=rfl
theorem KK (a:Nat):AV.mJ i (.yld a)=.yld a:=rfl
theorem JQ (e k els):AV.mJ i (.own j e k els)=bif Nat.beq i j then .pv (.slice k els) else .own j e k els:=rfl
theorem HT (e k els m):AV.mJ i (.optr j e k els m)=bif Nat.beq i j then .any else .optr j e k els m:=rfl
theorem Kd (cs:List AV):AV.mJ i (.agg cs)=.agg (fq (AV.mJ i) cs):=by
 show AV.mp _ _=_
 rw[AV.mp,AV.dC,fM];rfl
theorem JL (cs:List AV):AV.mJ i (.tup cs)=.tup (fq (AV.mJ i) cs):=by
 show AV.mp _ _=_
 rw[AV.mp,AV.dC,fM];rfl
theorem IW (fn:Go.Fn) (cs ds:List AV):AV.mJ i (.clo fn cs ds)=.clo fn (fq (AV.mJ i) cs) (fq (AV.mJ i) ds):=by
 show AV.mp _ _=_
 rw[AV.mp,AV.dC,AV.dC,fM,fM];rfl
end Nf
end Go.Ab
/- Arguments read as data,told as values. -/
namespace Go.Ab
open Go Go.RowKit
variable {P:Program}
def Reads (w:World) (cs:List Value) (ps:List PV):Prop:=cs.length=ps.length∧∀(j:Nat) (c:Value) (p:PV),cs[j]? =some c→ps[j]? =some p→RP (fun _=>True) w c p∧c.oneCell'=true
theorem Reads.one {w:World} {c:Value} {p:PV} (h:RP (fun _=>True) w c p) (h1:c.oneCell'=true):Reads w [c] [p]:=
 ⟨rfl,fun j c' p' h2 h3=>by
  cases j with
  |zero=>simp at h2 h3;subst h2;subst h3;exact⟨h,h1⟩
  |succ j=>simp at h2⟩
theorem Reads.nil {w:World}:Reads w [] []:=⟨rfl,fun j c p h=>by simp at h⟩
theorem Reads.append {w:World} {cs cs':List Value} {ps ps':List PV} (h:Reads w cs ps) (h':Reads w cs' ps'):Reads w (cs++cs') (ps++ps'):=by
 refine⟨by simp [h.1,h'.1],fun j c p h1 h2=>?_⟩
 by_cases hj:j<cs.length
 ·rw[List.getElem?_append_left hj] at h1
  rw[List.getElem?_append_left (by rw[← h.1];exact hj)] at h2
  exact h.2 j c p h1 h2
 ·rw[List.getElem?_append_right (by omega)] at h1
  rw[List.getElem?_append_right (by rw[← h.1];omega),← h.1] at h2
  exact h'.2 _ c p h1 h2
def Rd (P:Program) (t:TypeId) {α:Type} (enc:α→List PV) (ok:α→Prop):Prop:=
 ∀{H:Type} (en:TypeId×Value→H) (w:World) (sp:Nat→Bool) (fuel:Nat) (cs:List Value) (x:DataW H×List MemPlace),DataW.trod en P w 0 sp true fuel t cs=some x→
  (∀n∈x.1.weights P t,n≤reachBytes)→∃a:α,Reads w cs (enc a)∧ok a
theorem Rd.int {t:TypeId} {k:IntKind} (ht:P.underlying t=some (.int k)):Rd P t (fun n:Int=>[.lit (.int k n)]) (fun n=>(Lit.int k n).wf=true):=by
 intro H en w sp fuel cs x h _
 obtain⟨n,rfl,_,hw⟩:=DataW.trod_int ht h
 exact⟨n,.one (.lit _) rfl,hw⟩
theorem Rd.bool {t:TypeId} (ht:P.underlying t=some .bool):Rd P t (fun b:Bool=>[.lit (.bool b)]) (fun _=>True):=by
 intro H en w sp fuel cs x h _
 obtain⟨b,rfl,_⟩:=DataW.trod_bool ht h
 exact⟨b,.one (.lit _) rfl,trivial⟩
theorem Rd.string {t:TypeId} (ht:P.underlying t=some .string):Rd P t (fun s:ByteArray=>[.lit (.string s)]) (fun s=>s.size≤reachBytes):=by
 intro H en w sp fuel cs x h hw
 obtain⟨s,rfl,rfl,hs⟩:=DataW.trod_string ht h
 exact⟨s,.one (.lit _) rfl,by have:=hw s.data.toList.length (by simp [DataW.weights]);simpa using this⟩
theorem kl {H:Type} {e:TypeId}:∀{ds:List (DataW H)} {d:DataW H},d∈ds→∀n∈d.weights P e,n∈DataW.weightsAll P e ds
 |d0::ds,d,h,n,hn=>by
  simp only[DataW.weightsAll,List.mem_append]
  rcases List.mem_cons.1 h with rfl|h
  ·exact .inl hn
  ·exact .inr (kl h n hn)
theorem EC {α β:Type} {f:α→Option β}:∀{l:List α} {r:List β},l.mapM f=some r→r.length=l.length∧∀(j:Nat) (x:α),l[j]? =some x→f x=r[j]?:=by
 intro l
 induction l with
 |nil=>intro r h;simp at h;subst h;simp
 |cons x l ih=>
  intro r h
  rw[List.mapM_cons] at h
  cases hx:f x with
  |none=>rw[hx] at h;simp at h
  |some y=>
   rw[hx] at h
   cases hl:l.mapM f with
   |none=>rw[hl] at h;simp at h
   |some r'=>
    rw[hl] at h
    simp at h
    subst h
    obtain⟨h1,h2⟩:=ih hl
    refine⟨by simp [h1],fun j z hz=>?_⟩
    cases j with
    |zero=>simp at hz;subst hz;simp [hx]
    |succ j=>simp at hz;simpa using h2 j z hz
theorem pU {w:World} {a:Addr} {n:Nat} {cs:List Value} (h:w.cells? 0 a n=some cs):cs.length=n∧∀j,j<n→w.cell? (a.add j)=cs[j]?:=by
 unfold World.cells? at h
 rw[if_pos (Nat.zero_le _)] at h
 obtain⟨h1,h2⟩:=EC h
 refine⟨by simpa using h1,fun j hj=>?_⟩
 exact h2 j j (by simp [hj])
theorem yB {w:World} {ad:Addr} {v:Value} (h:w.cell? ad=some v):ad.spot=none:=World.cell?_spot h
theorem Rd.slice {α:Type} {t e:TypeId} {k by':Nat} {enc:α→List PV} {ok:α→Prop} (ht:P.underlying t=some (.slice e)) (hk:P.cellsOf e=k) (hk0:0<k) (hb:P.bytesOf e=by') (hb0:0<by') (O2:∀a,(enc a).length=k) (h:Rd P e enc ok):
  Rd P t (fun l:List α=>[.slice k (l.map enc)]) (fun l=>l.length*by'≤reachBytes∧∀a∈l,ok a):=by
 intro H en w sp fuel cs x hx hw
 rcases DataW.trod_slice ht hx with ⟨rfl,rfl⟩|⟨a,len,cap,elems,rest,n,rfl,rfl,rfl,_,Df,Da,Io,oq,_,_⟩
 ·refine⟨[],.one (mU k) rfl,by simp,by simp⟩
 ·have p8:(elems.length+rest.length)*by'≤reachBytes:=by
   have:=hw ((elems.length+rest.length)*by') (by simp [DataW.weights,ht,hb])
   exact this
  have Mo:elems.length*by'≤reachBytes:=Nat.le_trans (Nat.mul_le_mul_right _ (by omega)) p8
  have hlen:elems.length≤140737488355328:=by
   have h1:elems.length*1≤elems.length*by':=Nat.mul_le_mul_left _ hb0
   have h2:reachBytes≤140737488355328:=by decide
   omega
  -- the elements,one by one
  have key:∀i,i<len→∃c a',w.cells? 0 (a.add (i*k)) k=some c∧Reads w c (enc a')∧ok a':=by
   intro i hi
   have h1:=oq i hi
   rw[hk] at h1
   have hi2:i<elems.length:=by omega
   rw[List.getElem?_eq_getElem hi2] at h1
   cases hc:w.cells? 0 (a.add (i*k)) k with
   |none=>rw[hc] at h1;simp at h1
   |some c=>
    rw[hc,Option.bind_some] at h1
    obtain⟨a',h2,h3⟩:=h en w sp n c elems[i] h1 (fun m hm=>hw m (by
     simp only[DataW.weights,ht,List.mem_cons,List.mem_append]
     exact .inr (.inl (kl (List.mem_map.2 ⟨elems[i],List.getElem_mem hi2,rfl⟩) m hm))))
    exact⟨c,a',rfl,h2,h3⟩
  have Py:∃l:List α,l.length=len∧∀i (a':α),l[i]? =some a'→∃c,w.cells? 0 (a.add (i*k)) k=some c∧Reads w c (enc a')∧ok a':=by
   clear oq hx Io hw
   have:∀m,m≤len→∃l:List α,l.length=m∧∀i (a':α),l[i]? =some a'→∃c,w.cells? 0 (a.add (i*k)) k=some c∧Reads w c (enc a')∧ok a':=by
    intro m
    induction m with
    |zero=>intro _;exact⟨[],rfl,by simp⟩
    |succ m ih=>
     intro hm
     obtain⟨l,h1,h2⟩:=ih (by omega)
     obtain⟨c,a',h3,h4⟩:=key m (by omega)
     refine⟨l++ [a'],by simp [h1],fun i b hb=>?_⟩
     by_cases hi:i<l.length
     ·rw[List.getElem?_append_left hi] at hb;exact h2 i b hb
     ·rw[List.getElem?_append_right (by omega)] at hb
      have hi2:i=m:=by have:=(List.getElem?_eq_some_iff.1 hb).1;simp at this;omega
      subst hi2
      rw[h1] at hb
      simp at hb
      subst hb
      exact⟨c,h3,h4⟩
   exact this len (Nat.le_refl _)
  obtain⟨l,hl,hl2⟩:=Py
  have hle:l.length=elems.length:=by omega
  refine⟨l,.one ?_ rfl,by rw[hle];exact Mo,fun b hb=>?_⟩
  ·have Oi:l≠ []→a.spot=none:=by
    intro br
    obtain⟨b,l',rfl⟩:=List.exists_cons_of_ne_nil br
    obtain⟨c,h1,h2,_⟩:=hl2 0 b rfl
    obtain⟨h3,h4⟩:=pU h1
    have h5:=h4 0 hk0
    rw[List.getElem?_eq_getElem (by omega)] at h5
    have h6:=yB h5
    simpa [Addr.add] using h6
   have rq:l≠ []→a.block<w.heap.size:=by
    intro br
    obtain⟨b,l',rfl⟩:=List.exists_cons_of_ne_nil br
    obtain⟨c,h1,h2,_⟩:=hl2 0 b rfl
    obtain⟨h3,h4⟩:=pU h1
    have h5:=h4 0 hk0
    rw[List.getElem?_eq_getElem (by omega)] at h5
    simp only[Nat.zero_mul,Addr.add,if_true] at h5
    unfold World.cell? at h5
    rcases Nat.lt_or_ge a.block w.heap.size with aP|uc
    ·exact aP
    ·rw[Array.getElem?_eq_none uc] at h5;simp at h5
   obtain⟨bl,off,spot⟩:=a
   have dO:∀(i j:Nat) (p:PV),cellAt (l.map enc) i j=some p→∃c:Value,w.cell? ⟨bl,off+i*k+j,none⟩=some c∧RP (fun _=>True) w c p∧c.oneCell'=true:=by
    intro i j p hp
    unfold cellAt at hp
    rw[List.getElem?_map] at hp
    cases vT:l[i]? with
    |none=>rw[vT] at hp;simp at hp
    |some b=>
     rw[vT] at hp
     simp at hp
     have br:l≠ []:=by rintro rfl;simp at vT
     have hs0:spot=none:=Oi br
     subst hs0
     obtain⟨c,h1,h2,_⟩:=hl2 i b vT
     obtain⟨h3,h4⟩:=pU h1
     have hj:j<k:=by have:=(List.getElem?_eq_some_iff.1 hp).1;rw[O2] at this;exact this
     have h5:=h4 j hj
     rw[List.getElem?_eq_getElem (by omega)] at h5
     rw[dw,dw] at h5
     obtain⟨h6,h7⟩:=h2.2 j _ p (List.getElem?_eq_getElem (by omega)) hp
     exact⟨_,h5,h6,h7⟩
   refine .slice bl off (fun i j=>(w.cell? ⟨bl,off+i*k+j,none⟩).getD undef) (by simp [hl]) (by omega) (by omega) (fun br=>?_) (fun c hc=>?_) (fun i j p hp=>?_) (fun i j p hp=>?_)
   ·have Jg:l≠ []:=by rintro rfl;simp at br
    have hs0:spot=none:=Oi Jg
    subst hs0
    exact⟨rfl,trivial,rq Jg⟩
   ·obtain⟨b,_,rfl⟩:=List.mem_map.1 hc;exact O2 b
   ·obtain⟨c,h1,h2,h3⟩:=dO i j p hp
    rw[h1];exact⟨rfl,h3⟩
   ·obtain⟨c,h1,h2,h3⟩:=dO i j p hp
    rw[h1];exact h2
  ·obtain⟨i,hi⟩:=List.getElem?_of_mem hb
   obtain⟨c,_,_,h3⟩:=hl2 i b hi
   exact h3
def z_ (P:Program) (off n:Nat) (fs:List Field) {α:Type} (enc:α→List PV) (ok:α→Prop):Prop:=
 ∀{H:Type} (en:TypeId×Value→H) (w:World) (sp:Nat→Bool) (fuel:Nat) (cs:List Value) (xs:List (DataW H×List MemPlace)),xs.length=fs.length→
  (∀(i:Nat) (f:Field),fs[i]? =some f→DataW.trod en P w 0 sp true fuel f.type ((cs.drop f.offset).take (P.cellsOf f.type))=xs[i]?)→
  (∀m∈DataW.weightsEach P (fs.map (·.type)) (xs.map (·.1)),m≤reachBytes)→∃a:α,Reads w ((cs.drop off).take n) (enc a)∧ok a
theorem z_.nil {off:Nat}:z_ P off 0 [] (fun _:Unit=>[]) (fun _=>True):=fun _ _ _ _ _ _ _ _ _=>⟨(),by simp;exact Reads.nil,trivial⟩
theorem z_.cons {off k n:Nat} {f:Field} {fs:List Field} {α β:Type} {e1:α→List PV} {o1:α→Prop} {e2:β→List PV} {o2:β→Prop} (Ml:f.offset=off) (hk:P.cellsOf f.type=k) (h1:Rd P f.type e1 o1) (h2:z_ P (off+k) n fs e2 o2):
  z_ P off (k+n) (f::fs) (fun p:α×β=>e1 p.1++e2 p.2) (fun p=>o1 p.1∧o2 p.2):=by
 intro H en w sp fuel cs xs hl hx hw
 cases xs with
 |nil=>simp at hl
 |cons y ys=>
  have h3:=hx 0 f rfl
  obtain⟨a,ha,ha2⟩:=h1 en w sp fuel _ y h3 (fun m hm=>hw m (by simp [DataW.weightsEach,hm]))
  obtain⟨b,hb,hb2⟩:=h2 en w sp fuel cs ys (by simpa using hl) (fun i f' hf=>by simpa using hx (i+1) f' (by simpa using hf)) (fun m hm=>hw m (by simp only[List.map_cons,DataW.weightsEach,List.mem_append];exact .inr hm))
  refine⟨(a,b),?_,ha2,hb2⟩
  rw[Ml,hk] at ha
  have e:(cs.drop off).take (k+n)=(cs.drop off).take k++(cs.drop (off+k)).take n:=by
   rw[List.take_add,List.drop_drop]
  rw[e]
  exact ha.append hb
theorem Rd.struct {t:TypeId} {fs:Array Field} {n:Nat} {α:Type} {enc:α→List PV} {ok:α→Prop} (ht:P.underlying t=some (.struct fs)) (hn:P.cellsOf t=n) (h:z_ P 0 n fs.toList enc ok):Rd P t enc ok:=by
 intro H en w sp fuel cs x hx hw
 obtain⟨xs,m,rfl,rfl,dO,hl,oq⟩:=DataW.trod_struct ht hx
 obtain⟨a,ha,ha2⟩:=h en w sp m cs xs (by simpa using hl) (fun i f hf=>oq i f (by simpa using hf)) (fun k hk=>hw k (by simpa [DataW.weights,ht] using hk))
 rw[List.drop_zero,List.take_of_length_le (by omega)] at ha
 exact⟨a,ha,ha2⟩
theorem Rd.map {t:TypeId} {α β:Type} {e1:α→List PV} {o1:α→Prop} {e2:β→List PV} {o2:β→Prop} (h:Rd P t e1 o1) (f:α→β) (he:∀a,e1 a=e2 (f a)) (ho:∀a,o1 a→o2 (f a)):Rd P t e2 o2:=by
 intro H en w sp fuel cs x hx hw
 obtain⟨a,h1,h2⟩:=h en w sp fuel cs x hx hw
 exact⟨f a,he a▸h1,ho a h2⟩
section
variable {H:Type} {en:TypeId×Value→H} {w:World} {sp:Nat→Bool} {t:TypeId} {v:Value} {d:DataW H} {ps:List MemPlace} {α:Type} {enc:α→List PV} {ok:α→Prop}
theorem xX {p:α→PV} (h:Rd P t (fun a=>[p a]) ok) (ht:DataW.Trod en P w 0 sp true t v d ps) (hw:∀n∈d.weights P t,n≤reachBytes) (hv:v.cells.toList=[v]):∃a:α,RA (uC fun _=>True) w v (.pv (p a))∧ok a:=by
 obtain⟨fuel,hf⟩:=ht
 obtain⟨a,h1,h2⟩:=h en w sp fuel _ _ hf hw
 rw[hv] at h1
 exact⟨a,.pv (h1.2 0 v (p a) rfl rfl).1,h2⟩
theorem DZ (h:Rd P t enc ok) (ht:DataW.Trod en P w 0 sp true t v d ps) (hw:∀n∈d.weights P t,n≤reachBytes) {cs:Array Value} (hv:v=.agg cs):∃a:α,RA (uC fun _=>True) w v (.agg ((enc a).map .pv))∧ok a:=by
 subst hv
 obtain⟨fuel,hf⟩:=ht
 obtain⟨a,h1,h2⟩:=h en w sp fuel _ _ hf hw
 refine⟨a,.agg (by rw[List.length_map];exact h1.1) fun j u c h3 h4=>?_,h2⟩
 rw[List.getElem?_map,Option.map_eq_some_iff] at h4
 obtain⟨p,hp,rfl⟩:=h4
 exact .pv (h1.2 j u p (by simpa [Value.cells] using h3) hp).1
theorem okWide_struct {r:Reach} {b:Nat} {fs:Array Field} (ht:P.underlying t=some (.struct fs)) (h:Value.okWide P w r b t v):∃cs,v=.agg cs:=by
 unfold Value.okWide at h
 simp only[ht] at h
 obtain⟨cs,h,_⟩:=h
 exact⟨cs,h⟩
theorem nV {a:Option Addr} {l c:Nat}:(Value.slice a l c).cells.toList=[.slice a l c]:=rfl
end
theorem tS {H:Type} {ts ts':List TypeId} {ds gs:List (DataW H)} (h:(DataW.weightsEach P (ts++ts') (ds++gs)).all (·≤reachBytes)=true) {j:Nat} {t:TypeId} {d:DataW H} (ht:(ts++ts')[j]? =some t) (hd:(ds++gs)[j]? =some d):∀n∈d.weights P t,n≤reachBytes:=by
 intro n hn
 have:=(List.all_eq_true.1 h) n (DataW.weights_mem_each ht hd n hn)
 simpa using this
end Go.Ab
/- Equality of pairs;bools compared. -/
namespace Go.Ab
open Go Go.RowKit
variable {q:Md} {P:Program} {g:ar} {δ:DS} {κ:Kp} {a:Act} {w:World}
variable {ops:Array Oper} {rest:List Oper} {Q:Exit→DS→Prop} {dst:Option Nat} {ty:TypeId} {pos:String} {af:Array Edge}
theorem EU (op:BinOp) (qw:op=.eql∨op=.neq) (t:TypeId) (x y:Operand) (ht:P.underlying t=some .bool) (m n:Bool) (w:World):
  (do eqGuard op t x y (.bool m) (.bool n);Go.binOp op t (.bool m) (.bool n):Sem Value).run P w=.ok (.bool (if op=.eql then decide (m=n) else decide (¬m=n))) w:=by
 have h1:(eqGuard op t x y (.bool m) (.bool n)).run P w=.ok () w:=by
  unfold eqGuard
  cases op<;>simp [Sem.run,pure,Sem.bind,bind]
 rw[Sem.run_bind,h1,Result.andThen_ok]
 have h2:=run_equalIn_bool' (P:=P) w 9999 t m n ht
 rcases qw with rfl|rfl
 ·simp [Go.binOp,Op.equal,Op.maxDepth,h2];cases m<;>cases n<;>rfl
 ·simp [Go.binOp,Op.equal,Op.maxDepth,h2];cases m<;>cases n<;>rfl
theorem aa.KA {x y:Operand} {t t':TypeId} {m n:Bool} (hx:δ.ev x=aM m) (hy:δ.ev y=aM n) (ht:P.underlying t=some .bool) (ho:aK x=true) (ho':aK y=true) (hd:bk δ.n dst=true)
  (hK:aa q P g ops rest Q (δ.au dst (aM (decide (¬m=n))))):aa q P g ops (⟨dst,.binOp .neq t x y t',ty,pos,af,none⟩::rest) Q δ:=
 aa.bin hx hy ho ho' (fun w=>EU _ (.inr rfl) t x y ht m n w) hd (by simpa using hK)
def Ic:List PV→List AV
 |[]=>[]
 |p::r=> .pv p::Ic r
theorem BT:∀l:List PV,l.map AV.pv=Ic l
 |[]=>rfl
 |p::r=>by rw[List.map_cons,BT r];rfl
theorem Nf.QS:Ic []=[]:=rfl
theorem Nf.Ol (p:PV) (r:List PV):Ic (p::r)=.pv p::Ic r:=rfl
theorem Nf.pl:∀l:List PV,l.map AV.pv=Ic l:=BT
section
variable {α:Type} {f:α→List PV} {l:List α} {x y z:Operand} {t e:TypeId} {k:Nat} {m n:Int}
theorem aa.kp (hx:δ.ev x=.pv (.slice k (l.map f))) (hz:δ.ev z=aw m) (ht:P.underlying t=some (.slice e)) (hk:(P.info? e).map (·.size)=some k)
  (ho:aK x=true) (ho'':aK z=true) (hd:bk δ.n dst=true) (h0:0≤m) (hn:m≤l.length) (hK:aa q P g ops rest Q (δ.au dst (.pv (.slice k ((l.drop m.toNat).map f))))):
  aa q P g ops (⟨dst,.slice t x (some z) none none,ty,pos,af,none⟩::rest) Q δ:=
 aa.slice (l:=m.toNat) (h:=(l.map f).length) (hi:=none) (lo:=some z) hx ht hk ⟨ho'',by rw[hz,Int.toNat_of_nonneg h0]⟩ rfl (by simp;omega) (Nat.le_refl _) ho hd (by
  have:((l.map f).drop m.toNat).take ((l.map f).length - m.toNat)=(l.drop m.toNat).map f:=by
   rw[List.take_of_length_le (by simp),List.map_drop]
  rw[this];exact hK)
end
end Go.Ab
/- Drawn regions:an operation under a guard that is known to hold,taken first. -/
namespace Go.Ab
open Go Go.RowKit
attribute [local irreducible] HS
variable {P:Program} {g:ar} {δ:DS} {l:List Oper} {late dn:List Nat} {k:Wt} {QD:Exit→DS→Prop}
end Go.Ab
/- The plain form's laws in one. -/
namespace Go.Ab
open Go Go.RowKit
set_option linter.defProp false in
def Nf.all:=And.intro @Nf.beq
 (And.intro @Nf.ble
 (And.intro @Nf.hs
 (And.intro @Nf.Rj
 (And.intro @Nf.Pn
 (And.intro @Nf.put
 (And.intro @Nf.NR
 (And.intro @Nf.add
 (And.intro @Nf.set
 (And.intro @Nf.pn
 (And.intro @Nf.pe
 (And.intro @Nf.po
 (And.intro @Nf.px
 (And.intro @Nf.Lv
 (And.intro @Nf.ML
 (And.intro @Nf.L_
 (And.intro @Nf.KU
 (And.intro @Nf.Ix
 (And.intro @Nf.start
 (And.intro @Nf.O3
 (And.intro @Nf.OG
 (And.intro @Nf.mZ
 (And.intro @Nf.DR
 (And.intro @Nf.Nc
 (And.intro @Nf.KW
 (And.intro @Nf.JE
 (And.intro @Nf.JV
 (And.intro @Nf.FJ
 (And.intro @Nf.QL
 (And.intro @Nf.Pp
 (And.intro @Nf.Cy
 (And.intro @Nf.O8
 (And.intro @Nf.PD
 (And.intro @Nf.CK
 (And.intro @Nf.QN
 (And.intro @Nf.Rl
 (And.intro @Nf.P6
 (And.intro @Nf.QM
 (And.intro @Nf.P7
 (And.intro @Nf.P_
 (And.intro @Nf.pa
 (And.intro @Nf.Qo
 (And.intro @Nf.IK
 (And.intro @Nf.round
 (And.intro @Nf.mv
 (And.intro @Nf.Qs
 (And.intro @Nf.Qk
 (And.intro @Nf.PZ
 (And.intro @Nf.PL
 (And.intro @Nf.Rf
 (And.intro @Nf.Qu
 (And.intro @Nf.QG
 (And.intro @Nf.Qz
 (And.intro @Nf.Qr (And.intro @Nf.O9
 (And.intro @Nf.QK
 (And.intro @Nf.QC
 (And.intro @Nf.PW
 (And.intro @Nf.PO
 (And.intro @Nf.Ko
 (And.intro @Nf.Nt
 (And.intro @Nf.Jy
 (And.intro @Nf.G5
 (And.intro @Nf.GI
 (And.intro @Nf.IY
 (And.intro @Nf.IX
 (And.intro @Nf.HE
 (And.intro @Nf.J3
 (And.intro @Nf.IT
 (And.intro @Nf.Kh
 (And.intro @Nf.H3
 (And.intro @Nf.IP
 (And.intro @Nf.Gq
 (And.intro @Nf.HZ
 (And.intro @Nf.Gf
 (And.intro @Nf.Ds
 (And.intro @Nf.Hx
 (And.intro @Nf.El
 (And.intro @Nf.sH
 (And.intro @Nf.PE
 (And.intro @Nf.QP
 (And.intro @Nf.Qx
 (And.intro @Nf.QW
 (And.intro @Nf.Rk
 (And.intro @Nf.Ql
 (And.intro @Nf.Rq
 (And.intro @Nf.P4
 (And.intro @Nf.Ph
 (And.intro @Nf.Qg
 (And.intro @Nf.N_
 (And.intro @Nf.Pg
 (And.intro @Nf.LX
 (And.intro @Nf.MB
 (And.intro @Nf.Nx
 (And.intro @Nf.PM
 (And.intro @Nf.P8
 (And.intro @Nf.Rh
 (And.intro @Nf.Rb
 (And.intro @Nf.PI
 (And.intro @Nf.fd
 (And.intro @Nf.IS
 (And.intro @Nf.LB
 (And.intro @Nf.KN
 (And.intro @Nf.H7
 (And.intro @Nf.Gp
 (And.intro @Nf.KK
 (And.intro @Nf.JQ
 (And.intro @Nf.HT
 (And.intro @Nf.Kd
 (And.intro @Nf.JL
 (And.intro @Nf.IW
 (And.intro @Nf.pl
 (And.intro @Nf.QS ((@Nf.Ol))))))))))))))))))))))))))))))))))))))))))))))))))))))))))))))))))))))))))))))))))))))))))))))))))))))))))))))))))
end Go.Ab
/- A number turned into an int. -/
namespace Go.Ab
open Go Go.RowKit
variable {P:Program} {g:ar} {δ:DS} {q:Md}
variable {ops:Array Oper} {rest:List Oper} {Q:Exit→DS→Prop} {dst:Option Nat} {ty:TypeId} {pos:String} {af:Array Edge}
end Go.Ab
/- One shifted left by a number;bool slices. -/
namespace Go.Ab
open Go Go.RowKit
variable {P:Program} {g:ar} {δ:DS} {q:Md}
variable {ops:Array Oper} {rest:List Oper} {Q:Exit→DS→Prop} {dst:Option Nat} {ty:TypeId} {pos:String} {af:Array Edge}
end Go.Ab
/- A slice made with make:a row of zeros. -/
namespace Go.Ab
open Go Go.RowKit
variable {P:Program} {g:ar} {δ:DS} {q:Md}
variable {ops:Array Oper} {rest:List Oper} {Q:Exit→DS→Prop} {dst:Option Nat} {ty:TypeId} {pos:String} {af:Array Edge}
theorem c9.gX {gd:Option (Tmp×Bool)} {t e:TypeId} {x y:Operand} {m:Int} {z:Value} {by':Nat} (hx:δ.ev x=aw m) (hy:δ.ev y=aw m) (ht:P.underlying t=some (.slice e)) (hi:(P.info? e).map (fun i=>(i.size,i.zero,i.bytes))=some (1,some z,by')) (MU:z.cells= #[z]) (h1:z.oneCell'=true) (hb:Nat.ble by' 64=true)
  (ho:aK x=true) (ho':aK y=true) (hd:bk δ.n dst=true) (hm:0≤m∧m≤100000):
  c9 P g ⟨dst,.makeSlice t x y,ty,pos,af,gd⟩ δ ((δ.ba .row).au dst (.own δ.nx e 1 (List.replicate m.toNat [.lit z]))):=by
 intro κ a w r
 have hb':by'≤64:=by simpa using hb
 obtain⟨i0,dA,hs0,hz0,hb0⟩:∃i0,P.info? e=some i0∧i0.size=1∧i0.zero=some z∧i0.bytes=by':=by
  cases h:P.info? e with
  |none=>rw[h] at hi;simp at hi
  |some i0=>rw[h] at hi;simp at hi;exact⟨i0,rfl,hi.1,hi.2.1,hi.2.2⟩
 have FF:=r.lit hx ho
 have MQ:=r.lit hy ho'
 have NL:IntKind.i64.wrap m=m:=IntWalk.i64_in _ (by omega)
 generalize hc':((Array.range m.toNat).map (fun _=>z))=c'
 have jU:c'.size=m.toNat:=by rw[← hc'];simp
 have hmul:by'*m.toNat≤6400000:=by
  have h1:by'*m.toNat≤64*m.toNat:=Nat.mul_le_mul_right _ hb'
  omega
 have hmulI:(by':Int)*m≤6400000:=by
  have:((by'*m.toNat:Nat):Int)≤6400000:=by omega
  rw[Int.natCast_mul,Int.toNat_of_nonneg hm.1] at this
  exact this
 have aR:(execOp a.eval ⟨dst,.makeSlice t x y,ty,pos,af,gd⟩).run P w=.ok (.value (.slice (some ⟨w.heap.size,0,none⟩) m.toNat m.toNat)) (w.alloc (.cells c' e)):=by
  have gh:∀w,(typeInfo e).run P w=.ok i0 w:=fun w=>by simp [typeInfo,dA]
  have vm:∀w,(zeroValue e).run P w=.ok z w:=fun w=>by simp [zeroValue,typeInfo,dA,hz0]
  have FD:∀w,(sizeOf e).run P w=.ok 1 w:=fun w=>by simp [sizeOf,typeInfo,dA,hs0]
  have has:∀w,(asInt (.int .i64 m)).run P w=.ok m w:=fun w=>by simp [asInt,asIntOf,Sem.run_bind,Sem.run_pure,Result.andThen_ok]
  have Hf:¬(by':Int)*m>2 ^ 48:=by
   have:(2:Int) ^ 48=281474976710656:=by decide
   omega
  have sE:¬m<0:=by omega
  have eV:¬m.toNat*by'>roomBytes:=by
   have:(6400000:Nat)≤roomBytes:=by decide
   have h2:m.toNat*by'=by'*m.toNat:=Nat.mul_comm _ _
   omega
  have Qm:(Array.range (m.toNat*1)).map (fun j=>(#[z]:Array Value)[j % (#[z]:Array Value).size]!)=c':=by
   rw[← hc',Nat.mul_one]
   apply Array.ext
   ·simp
   ·intro i h1 h2
    simp [Nat.mod_one]
  simp only[execOp,Instr.makeSlice,Sem.run_bind,Result.andThen_ok,run_underlying ht,FF,MQ,has,gh,hb0,NL]
  simp only[decide_eq_false Hf,decide_eq_false sE,Bool.or_false,Bool.false_or,Int.lt_irrefl,decide_false,gt_iff_lt,Bool.false_eq_true,if_false,askRoom,Sem.run_pure,Result.andThen_ok,Sem.run_bind]
  have wX:¬roomBytes<m.toNat*by':=eV
  simp only[if_neg wX,Sem.run_pure,Result.andThen_ok,FD]
  by_cases h0:m.toNat*1=0
  ·have HR:(Array.range (m.toNat*1)).map (fun j=>(#[]:Array Value)[j % (#[]:Array Value).size]!)=c':=by
    rw[← hc',h0,show m.toNat=0 from by omega];simp [Array.range_zero']
   simp only[if_pos h0,Sem.run_bind,Sem.run_pure,Result.andThen_ok,newRow]
   simp only[pure_bind,HR]
   rfl
  ·simp only[if_neg h0,Sem.run_bind,Sem.run_pure,Result.andThen_ok,vm,newRow,MU,Qm]
   rfl
 have iD:m.toNat≤maxLen:=by simp only[maxLen];omega
 obtain⟨r',G⟩:=r.grow .row (.cells c' e) (fun C G hκ b hb=>by
  have:w.heap.size=b:=Option.some.inj (hκ.symm.trans hb)
  subst this
  exact⟨c',e,heap_alloc_new w _⟩)
 have bK:=World.ownsRow_lit (base:=g.B) (e:=e) (size:=1) w c' m.toNat r.hB iD (by rw[jU];omega)
 have oq:∀(j:Nat) (u:Value),c'.toList[j]? =some u→u=z:=by
  intro j u h
  rw[← hc'] at h
  simp at h
  exact h.2.symm
 refine .inl ⟨_,_,_,_,aR,.inl rfl,r'.au (aU hd) (.own ?_)⟩
 refine⟨by show(δ.ba .row).ob _=_;rw[bp,if_pos rfl],by rw[List.length_replicate];omega,fun c hc=>by rw[List.eq_of_mem_replicate hc];rfl,fun b hb=>?_,c'.toList,by rw[List.length_replicate];exact bK,fun u hu=>?_,fun i' j p hp'=>?_⟩
 ·simp only[Value.ownBlock,Option.some.injEq] at hb
  subst hb
  show cp _ _ _ _=_
  simp [cp]
 ·obtain⟨j,hj⟩:=List.getElem?_of_mem hu
  rw[oq j u hj];exact h1
 ·unfold cellAt at hp'
  have hi:i'<m.toNat:=by
   rcases Nat.lt_or_ge i' m.toNat with h|h
   ·exact h
   ·rw[List.getElem?_eq_none (by simpa using h)] at hp';simp at hp'
  rw[List.getElem?_replicate,if_pos hi] at hp'
  have hj:j=0∧p=.lit z:=by
   cases j with
   |zero=>simp at hp';exact⟨rfl,hp'.symm⟩
   |succ j=>simp at hp'
  obtain⟨rfl,rfl⟩:=hj
  refine⟨z,?_,.lit _⟩
  rw[Array.getElem?_toList,← hc']
  simp [hi]
end Go.Ab
namespace Go.Ab
open Go Go.RowKit
variable {P:Program} {g:ar} {δ:DS} {q:Md}
variable {ops:Array Oper} {rest:List Oper} {Q:Exit→DS→Prop} {dst:Option Nat} {ty:TypeId} {pos:String} {af:Array Edge}
theorem aa.gX {t e:TypeId} {x y:Operand} {m:Int} {z:Value} {by':Nat} (hx:δ.ev x=aw m) (hy:δ.ev y=aw m) (ht:P.underlying t=some (.slice e)) (hi:(P.info? e).map (fun i=>(i.size,i.zero,i.bytes))=some (1,some z,by')) (MU:z.cells= #[z]) (h1:z.oneCell'=true) (hb:Nat.ble by' 64=true)
  (ho:aK x=true) (ho':aK y=true) (hd:bk δ.n dst=true) (hm:0≤m∧m≤100000) (hK:aa .plain P g ops rest Q ((δ.ba .row).au dst (.own δ.nx e 1 (List.replicate m.toNat [.lit z])))):
  aa .plain P g ops (⟨dst,.makeSlice t x y,ty,pos,af,none⟩::rest) Q δ:=aa.mI rfl rfl (c9.gX hx hy ht hi MU h1 hb ho ho' hd hm) hK
end Go.Ab
/- A store into an element of a row of the walk's own (elements of one cell). -/
namespace Go.Ab
open Go Go.RowKit
variable {P:Program} {g:ar} {δ:DS} {q:Md}
variable {ops:Array Oper} {rest:List Oper} {Q:Exit→DS→Prop} {dst:Option Nat} {ty:TypeId} {pos:String} {af:Array Edge}
def lG (i n:Nat) (c:List PV):AV→AV
 |.own j e k els=>bif Nat.beq i j then (bif Nat.beq k 1 then .own j e k (els.set n c) else .any) else .own j e k els
 |.optr j e k els m=>bif Nat.beq i j then .any else .optr j e k els m
 |v=>v
def AV.gq (i n:Nat) (c:List PV):AV→AV:=AV.mp (lG i n c)
theorem c9.bI {gd:Option (Tmp×Bool)} {x y:Operand} {t e:TypeId} {i idx:Nat} {els:List (List PV)} {p:PV} (hx:δ.ev x=.optr i e 1 els idx) (hy:δ.ev y=.pv p) (hr:δ.ob i=some .row) (ht:(P.info? t).map (·.size)=some 1) (h1:AV.one (.pv p)=true)
  (ho:aK x=true) (ho':aK y=true) (hd:bk δ.n dst=true):
  c9 P g ⟨dst,.store t x y,ty,pos,af,gd⟩ δ ((δ.cj (AV.gq i idx [p])).au dst .any):=by
 intro κ a w r
 have OS:=r.ra hx ho
 have rN:=r.ra hy ho'
 have kS:=rN.one h1
 generalize FF:a.eval x=u at OS
 cases OS with
 | @optr _ _ _ _ _ b cap hi h=>
  have hκ:κ i=some b:=h.blk b rfl
  obtain⟨xs,⟨qz,b8⟩,RC,Np⟩:=h.row
  rcases b8 with ⟨hn,_⟩|⟨g0,cap0,cur,hv,hg,h3,hle,Da,jU,n4⟩
  ·cases hn
  ·simp only[Value.slice.injEq,Option.some.injEq,Addr.mk.injEq] at hv
   obtain⟨⟨rfl,_⟩,_,rfl⟩:=hv
   have aR:(execOp a.eval ⟨dst,.store t x y,ty,pos,af,gd⟩).run P w=.ok .skip (w.setCell ⟨b,idx*1,none⟩ (a.eval y)):=by
    obtain⟨i0,dA,hs0⟩:∃i0,P.info? t=some i0∧i0.size=1:=by
     cases h:P.info? t with
     |none=>rw[h] at ht;simp at ht
     |some i0=>rw[h] at ht;exact⟨i0,rfl,by simpa using ht⟩
    have hc:w.cell? ⟨b,idx*1,none⟩=some (cur[idx*1]'(by omega)):=by rw[cell_of h3,Array.getElem?_eq_getElem (by omega)]
    have dp:(store ⟨b,idx*1,none⟩ (a.eval y)).run P w=.ok () (w.setCell ⟨b,idx*1,none⟩ (a.eval y)):=by
     rw[run_store P w _ _ _ kS,hc];simp [jd h3]
    rw[Nat.mul_one] at dp ⊢
    rw[Nat.mul_one] at FF
    simp [execOp,Instr.storeAt,Instr.sureAddr,storeVar,FF,gJ kS,sizeOf,typeInfo,dA,hs0,storeCells,dw,dp]
   obtain⟨r',G⟩:=r.row hr (κ':=κ) (fun _ _=>rfl) (by rw[hκ];exact cS.setCell w ⟨b,idx*1,none⟩ (a.eval y)) (fun b' hb'=>by
     have e1:b=b':=Option.some.inj (hκ.symm.trans hb')
     subst e1
     refine⟨.inl hκ,?_,_,_,fh h3 _⟩
     have:=(Array.getElem?_eq_some_iff.1 (fh (off:=idx*1) h3 (a.eval y))).1
     exact this)
    (AV.gq i idx [p]) rfl (fun G v av J0=>by
     refine J0.mp G rfl (fun j e' k' els' hj=>?_) (fun j e' k' els' n hj=>?_) (fun v' e' k' els' ho2=>?_) (fun b' cap' e' k' els' n _ _=>?_)
     ·simp only[lG,gm (Ne.symm hj)];rfl
     ·simp only[lG,gm (Ne.symm hj)];rfl
     ·simp only[lG,iX,cond_true]
      cases hk1:Nat.beq k' 1 with
      |false=>exact .any _
      |true=>
       obtain rfl:k'=1:=Nat.eq_of_beq_eq_true hk1
       obtain⟨xs',⟨NH,nY⟩,NB,MY⟩:=ho2.row
       refine .own ⟨?_,by rw[List.length_set];exact ho2.lim,?_,ho2.blk,xs'.set idx (a.eval y),?_,?_,?_⟩
       ·show(δ.cj _).ob i=_
        rw[eO,hr];rfl
       ·intro c hc
        rcases List.mem_or_eq_of_mem_set hc with hc|rfl
        ·exact ho2.hk c hc
        ·rfl
       ·rw[List.length_set]
        refine⟨by rw[List.length_set];exact NH,?_⟩
        rcases nY with ⟨hn,h0⟩|⟨g1,cap1,cur1,hv1,hg1,h31,Mj,L6,NN,NA⟩
        ·exact .inl ⟨hn,h0⟩
        ·have hb1:κ i=some g1:=ho2.blk g1 (by rw[hv1];rfl)
         have e1:b=g1:=Option.some.inj (hκ.symm.trans hb1)
         subst e1
         rw[h3] at h31
         simp only[Option.some.injEq,Obj.cells.injEq] at h31
         obtain⟨rfl,rfl,_⟩:=h31
         refine .inr ⟨b,cap1,_,hv1,hg1,fh h3 _,Mj,L6,by simpa using NN,?_⟩
         rw[← NA,Array.toList_setIfInBounds,Nat.mul_one,Nat.mul_one,List.take_set]
       ·intro u hu
        rcases List.mem_or_eq_of_mem_set hu with hu|rfl
        ·exact NB u hu
        ·exact kS
       ·intro i' j q hq
        unfold cellAt at hq
        rw[List.getElem?_set] at hq
        by_cases GU:idx=i'
        ·subst GU
         by_cases aP:idx<els'.length
         ·rw[if_pos rfl,if_pos aP] at hq
          have QH:j=0∧q=p:=by
           cases j with
           |zero=>simp at hq;exact⟨rfl,hq.symm⟩
           |succ j=>simp at hq
          obtain⟨rfl,rfl⟩:=QH
          refine⟨a.eval y,?_,G.rp (C:=(δ.cx g κ).less i) rN.gp⟩
          rw[List.getElem?_set,if_pos (by omega),if_pos (by omega)]
         ·rw[if_pos rfl,if_neg aP] at hq;simp at hq
        ·rw[if_neg GU] at hq
         obtain⟨u,hu,hu2⟩:=MY i' j q (by unfold cellAt;exact hq)
         have hj:j=0:=by
          rw[Option.bind_eq_some_iff] at hq
          obtain⟨c,hc1,hc2⟩:=hq
          have:=ho2.hk c (List.mem_of_getElem? hc1)
          have:=(List.getElem?_eq_some_iff.1 hc2).1
          omega
         subst hj
         exact⟨u,by rw[List.getElem?_set,if_neg (by omega)];exact hu,G.rp (C:=(δ.cx g κ).less i) hu2⟩
     ·simp only[lG,iX,cond_true];exact .any _)
   exact .inl ⟨_,_,_,_,aR,.inr ⟨rfl,rfl⟩,r'.au (aU hd) (.any _)⟩
theorem aa.bI {x y:Operand} {t e:TypeId} {i idx:Nat} {els:List (List PV)} {p:PV} (hx:δ.ev x=.optr i e 1 els idx) (hy:δ.ev y=.pv p) (hr:δ.ob i=some .row) (ht:(P.info? t).map (·.size)=some 1) (h1:AV.one (.pv p)=true)
  (ho:aK x=true) (ho':aK y=true) (hd:bk δ.n dst=true) (hK:aa .plain P g ops rest Q ((δ.cj (AV.gq i idx [p])).au dst .any)):aa .plain P g ops (⟨dst,.store t x y,ty,pos,af,none⟩::rest) Q δ:=
 aa.mI rfl rfl (c9.bI hx hy hr ht h1 ho ho' hd) hK
end Go.Ab
/- A field of an element of a row of the walk's own,read;a store of a whole element of several cells into such a row. -/
namespace Go.Ab
open Go Go.RowKit
variable {P:Program} {g:ar} {δ:DS} {q:Md}
variable {ops:Array Oper} {rest:List Oper} {Q:Exit→DS→Prop} {dst:Option Nat} {ty:TypeId} {pos:String} {af:Array Edge}
inductive FT:List AV→List PV→Prop
 |nil:FT [] []
 |cons {p:PV} {vs:List AV} {ps:List PV} (h:FT vs ps):FT (.pv p::vs) (p::ps)
theorem FT.spec {vs:List AV} {ps:List PV} (h:FT vs ps):vs=ps.map .pv:=by
 induction h with
 |nil=>rfl
 |cons h ih=>rw[ih];rfl
inductive BX (δ:DS) (k:Nat):Nat→List (Nat×Operand)→List (List PV)→Prop
 |nil {i:Nat}:BX δ k i [] []
 |cons {i:Nat} {x:Operand} {vs:List AV} {ps:List PV} {r:List (Nat×Operand)} {pss:List (List PV)} (h:δ.ev x=.agg vs) (hp:FT vs ps) (hk:vs.length=k) (h1:AV.gx vs=true) (ho:aK x=true) (hr:BX δ k (i+1) r pss):BX δ k i ((i,x)::r) (ps::pss)
theorem tI:∀(vs cells:List AV) (off:Nat),off+vs.length≤cells.length→fx cells off vs=cells.take off++vs++cells.drop (off+vs.length)
 |[],cells,off,_=>by simp [fx]
 |v::vs,cells,off,h=>by
  have h':off+(vs.length+1)≤cells.length:=by simpa using h
  show fx (cells.set off v) (off+1) vs=_
  rw[tI vs (cells.set off v) (off+1) (by rw[List.length_set];omega)]
  have e1:(cells.set off v).take (off+1)=cells.take off++ [v]:=by
   rw[List.take_succ_eq_append_getElem (by rw[List.length_set];omega),List.getElem_set_self]
   congr 1
   rw[List.take_set,List.set_eq_of_length_le (by rw[List.length_take];omega)]
  have e2:(cells.set off v).drop (off+1+vs.length)=cells.drop (off+(v::vs).length):=by
   rw[List.drop_set_of_lt (by omega)]
   congr 1
   simp;omega
  rw[e1,e2]
  simp
theorem BX.fill {δ:DS} {k:Nat} {i:Nat} {parts:List (Nat×Operand)} {pss:List (List PV)} (h:BX δ k i parts pss):∀cells:List AV,cells.length=(i+pss.length)*k→c6 (fun i=>some (i*k,k)) cells (parts.map fun p=>(p.1,δ.ev p.2))=some (cells.take (i*k)++pss.flatten.map .pv):=by
 induction h with
 |nil=>
  intro cells hc
  simp [c6]
  rw[List.take_of_length_le]
  simp at hc;omega
 | @cons i x vs ps r pss h hp hk h1 ho hr ih=>
  intro cells hc
  have hm:(i+(ps::pss).length)*k=i*k+k+pss.length*k:=by
   rw[List.length_cons,show i+(pss.length+1)=i+1+pss.length by omega,Nat.add_mul,Nat.add_mul,Nat.one_mul]
  have hle:i*k+vs.length≤cells.length:=by omega
  show(match some (i*k,k) with
   |none=>none
   |some (off,size)=>bif Nat.beq (δ.ev x).cellsOf.length size && Nat.ble (off+(δ.ev x).cellsOf.length) cells.length && AV.gx (δ.ev x).cellsOf then c6 _ (fx cells off (δ.ev x).cellsOf) _ else none)=_
  rw[h]
  have hb1:Nat.beq vs.length k=true:=by rw[hk];simp
  have hb2:Nat.ble (i*k+vs.length) cells.length=true:=by simpa using hle
  simp only[AV.cellsOf,hb1,hb2,h1,Bool.and_self,cond_true]
  rw[tI vs cells (i*k) hle,ih _ (by
   simp only[List.length_append,List.length_take,List.length_drop]
   rw[show(i+1+pss.length)*k=i*k+k+pss.length*k by rw[Nat.add_mul,Nat.add_mul,Nat.one_mul]]
   omega)]
  have e:((cells.take (i*k)++vs++cells.drop (i*k+vs.length)).take ((i+1)*k))=cells.take (i*k)++vs:=by
   rw[List.take_left']
   rw[List.length_append,List.length_take,Nat.add_mul,Nat.one_mul]
   omega
  rw[e,hp.spec]
  simp
theorem BX.lens {δ:DS} {k:Nat} {i:Nat} {parts:List (Nat×Operand)} {pss:List (List PV)} (h:BX δ k i parts pss):parts.all (fun p=>aK p.2)=true∧∀c∈pss,c.length=k:=by
 induction h with
 |nil=>exact⟨rfl,fun c hc=>by simp at hc⟩
 |cons h hp hk h1 ho hr ih=>
  refine⟨by simp [ho,ih.1],fun c hc=>?_⟩
  rcases List.mem_cons.1 hc with rfl|hc
  ·rw[hp.spec] at hk;simpa using hk
  ·exact ih.2 c hc
theorem pB (k:Nat):∀(pss:List (List PV)),(∀c∈pss,c.length=k)→chunk k pss.length (pss.flatten.map .pv)=pss
 |[],_=>rfl
 |c::pss,h=>by
  have hc:=h c (by simp)
  show((((c::pss).flatten.map AV.pv).take k).map Kq)::chunk k pss.length (((c::pss).flatten.map AV.pv).drop k)=_
  have e:((c::pss).flatten.map AV.pv)=c.map AV.pv++pss.flatten.map AV.pv:=by simp
  rw[e,List.take_left' (by simpa using hc),List.drop_left' (by simpa using hc),pB k pss fun c hc=>h c (by simp [hc])]
  congr 1
  rw[List.map_map]
  exact List.map_id'' (fun p=>rfl) c
theorem c9.M4 {gd:Option (Tmp×Bool)} {t e:TypeId} {len k:Nat} {parts:List (Nat×Operand)} {pss:List (List PV)} {z:Value} (ht:P.underlying t=some (.slice e)) (hi:(P.info? e).map (fun i=>(i.size,i.zero))=some (k,some z)) (fD:Nat.beq z.cells.size k=true) (hk:Nat.blt 0 k=true)
  (hlen:Nat.ble (len*k) 16777216=true) (h1:z.cells.toList.all (·.oneCell')=true) (hR:BX δ k 0 parts pss) (hn:pss.length=len) (hd:bk δ.n dst=true):
  c9 P g ⟨dst,.buildSlice t len parts.toArray,ty,pos,af,gd⟩ δ ((δ.ba .row).au dst (.own δ.nx e k pss)):=by
 obtain⟨ho,hl⟩:=hR.lens
 have hf:=hR.fill (dD z (len*k)) (by simp [dD,hn])
 rw[Nat.zero_mul,List.take_zero,List.nil_append] at hf
 have:=c9.buildSlice (P:=P) (g:=g) (δ:=δ) (gd:=gd) (dst:=dst) (ty:=ty) (pos:=pos) (af:=af) ht hi fD hk hlen h1 ho hf (by simp [AV.qV]) hd
 rw[← hn,pB k pss hl] at this
 rw[← hn]
 exact this
theorem aa.M4 {t e:TypeId} {len k:Nat} {parts:List (Nat×Operand)} {pss:List (List PV)} {z:Value} (ht:P.underlying t=some (.slice e)) (hi:(P.info? e).map (fun i=>(i.size,i.zero))=some (k,some z)) (fD:Nat.beq z.cells.size k=true) (hk:Nat.blt 0 k=true)
  (hlen:Nat.ble (len*k) 16777216=true) (h1:z.cells.toList.all (·.oneCell')=true) (hR:BX δ k 0 parts pss) (hn:pss.length=len) (hd:bk δ.n dst=true) (hK:aa .plain P g ops rest Q ((δ.ba .row).au dst (.own δ.nx e k pss))):
  aa .plain P g ops (⟨dst,.buildSlice t len parts.toArray,ty,pos,af,none⟩::rest) Q δ:=aa.mI rfl rfl (c9.M4 ht hi fD hk hlen h1 hR hn hd) hK
inductive vU:Bool→List AV→List AV→Prop
 |nil:vU false [] []
 |here {b:Bool} {vs vs':List AV} (h:vU b vs vs'):vU true (.pv (.lit (.slice none 0 0))::vs) (.pv (.slice 1 [])::vs')
 |skip {b:Bool} {v:AV} {vs vs':List AV} (h:vU b vs vs'):vU b (v::vs) (v::vs')
theorem HJ {C:Cx} {w:World} {v:Value} (h:RA C w v (.pv (.lit (.slice none 0 0)))) (k:Nat):RA C w v (.pv (.slice k [])):=by
 have h1:=h.lit
 subst h1
 exact .pv (.slice 0 0 (fun _ _=>undef) rfl (by simp) (by simp) (fun h=>absurd rfl h) (fun c hc=>by simp at hc) (fun i j p hp=>by simp [cellAt] at hp) (fun i j p hp=>by simp [cellAt] at hp))
theorem vU.ra {C:Cx} {w:World} {b:Bool} {vs vs':List AV} (h:vU b vs vs'):vs.length=vs'.length∧∀(j:Nat) (u:Value) (c c':AV),vs[j]? =some c→vs'[j]? =some c'→RA C w u c→RA C w u c':=by
 induction h with
 |nil=>exact⟨rfl,fun j u c c' h=>by simp at h⟩
 |here h ih=>
  refine⟨by simp [ih.1],fun j u c c' h1 h2 h3=>?_⟩
  cases j with
  |zero=>simp at h1 h2;subst h1;subst h2;exact HJ h3 1
  |succ j=>exact ih.2 j u c c' (by simpa using h1) (by simpa using h2) h3
 |skip h ih=>
  refine⟨by simp [ih.1],fun j u c c' h1 h2 h3=>?_⟩
  cases j with
  |zero=>simp at h1 h2;subst h1;subst h2;exact h3
  |succ j=>exact ih.2 j u c c' (by simpa using h1) (by simpa using h2) h3
theorem aa.rY {x y:Operand} {t e:TypeId} {k:Nat} {m:Int} {ik:IntKind} {els:List (List PV)} {cs:List PV} (hx:δ.ev x=.pv (.slice k els)) (hy:δ.ev y=.pv (.lit (.int ik m))) (hn:els[m.toNat]? =some cs)
  (ht:P.underlying t=some (.slice e)) (hk:(P.info? e).map (·.size)=some k) (ho:aK x=true) (ho':aK y=true) (hd:bk δ.n dst=true) (h0:0≤m)
  (hK:aa q P g ops rest Q (δ.au dst (.rptr cs))):aa q P g ops (⟨dst,.indexAddr t x y,ty,pos,af,none⟩::rest) Q δ:=
 aa.tJ (n:=m.toNat) hx (by rw[hy,Int.toNat_of_nonneg h0]) hn ht hk ho ho' hd hK
def iT (i:Nat):List Nat→Bool
 |[]=>false
 |j::r=>bif i==j then true else iT i r
def lj (ks:List Nat):List (Nat×AV)→List (Nat×AV)
 |[]=>[]
 |(i,v)::r=>bif iT i ks then (i,v)::lj ks r else lj ks r
theorem IQ (ks:List Nat):lj ks []=[]:=rfl
theorem FX (ks:List Nat) (i:Nat) (v:AV) (r:List (Nat×AV)):lj ks ((i,v)::r)=bif iT i ks then (i,v)::lj ks r else lj ks r:=rfl
theorem Cj (i:Nat):iT i []=false:=rfl
theorem tM (i j:Nat) (r:List Nat):iT i (j::r)=bif i==j then true else iT i r:=rfl
theorem rI (ks:List Nat):∀(e:List (Nat×AV)) (j:Nat),look (lj ks e) j=if iT j ks=true then look e j else .any
 |[],j=>by simp [lj,look]
 |(i,v)::r,j=>by
  rw[FX]
  have ih:=rI ks r j
  cases hm:iT i ks with
  |true=>
   rw[cond_true,aX,aX]
   by_cases e:i=j
   ·subst e;rw[if_pos rfl,if_pos rfl,if_pos hm]
   ·rw[if_neg e,if_neg e,ih]
  |false=>
   rw[cond_false,aX,ih]
   by_cases e:i=j
   ·subst e;rw[if_neg (by rw[hm];simp),if_neg (by rw[hm];simp)]
   ·rw[if_neg e]
theorem AW.FZ (id m:Nat) (ks:List Nat) {b:Bool} {l:Array Oper} (_h:Nat.blt m δ.env.length=true) (hK:AW P g (.region id l b) Q {δ with env:=lj ks δ.env}):AW P g (.region id l b) Q δ:=by
 intro κ a w r
 refine hK κ a w ?_
 exact
  {n:=r.n,dfr:=r.dfr
   env:=fun j=>by
    show RA _ w _ (look (lj ks δ.env) j)
    rw[rI]
    split
    ·exact r.env j
    ·exact .any _
   obj:=r.obj,inj:=r.inj,lo:=r.lo,nx:=r.nx,wt:=r.wt,below:=r.below,hB:=r.hB,N0:=r.N0,fr:=r.fr,mkf:=r.mkf}
theorem bh.H2 {gd:Option (Tmp×Bool)} {t:TypeId} {parts:List (Nat×Operand)} {fs:Array Field} {z:Value} {cells:List AV} (hs:P.underlying t=some (.struct fs)) (hz:(P.info? t).bind (·.zero)=some z) (h1:z.cells.toList.all (·.oneCell')=true) (ec:fs.toList.all (fun f=>(P.info? f.type).isSome)=true)
  (ho:parts.all (fun p=>aK p.2)=true) (hf:c6 (placeOf P fs) (z.cells.toList.map fun v=> .pv (.lit v)) (parts.map fun p=>(p.1,δ.ev p.2))=some cells):
  bh P ⟨dst,.build t parts.toArray,ty,pos,af,gd⟩ δ (.agg cells):=by
 intro g κ a w r
 obtain⟨i0,dA,hz0⟩:∃i0,P.info? t=some i0∧i0.zero=some z:=by
  cases h:P.info? t with
  |none=>rw[h] at hz;simp at hz
  |some i0=>rw[h] at hz;exact⟨i0,rfl,by simpa using hz⟩
 have E9:=fun w1=>run_places (P:=P) fs.toList w1 #[] ec
 obtain⟨c',h2,h3⟩:=jq (C:=δ.cx g κ) (w:=w) (place:=placeOf P fs) (place':=fun i=>((#[]:Array (Nat×Nat))++(fs.toList.map fun f=>(f.offset,((P.info? f.type).map (·.size)).getD 0)).toArray)[i]?)
  (fun i x h=>by
   unfold placeOf at h
   cases D9:fs[i]? with
   |none=>rw[D9] at h;simp at h
   |some f=>
    rw[D9] at h
    simp only[Option.bind_some,Option.map_eq_some_iff] at h
    obtain⟨ii,h4,rfl⟩:=h
    simp [D9,h4])
  (parts.map fun p=>(p.1,a.eval p.2)) (parts.map fun p=>(p.1,δ.ev p.2)) z.cells _ cells (by simp) (fun j x y h4 h5=>by
   simp only[List.getElem?_map,Option.map_eq_some_iff] at h4 h5
   obtain⟨p,h6,rfl⟩:=h4
   obtain⟨p',h7,rfl⟩:=h5
   rw[h6] at h7;cases h7
   exact⟨rfl,r.wO p.2 (cQ (by simpa using (List.all_eq_true.1 ho) p (List.mem_of_getElem? h6)))⟩)
  ⟨by simp,fun j u av h4 h5=>by
   simp only[List.getElem?_map,Option.map_eq_some_iff] at h5
   obtain⟨v,h5,rfl⟩:=h5
   have:v=u:=by have:=h4;rw[← Array.getElem?_toList,h5] at this;exact Option.some.inj this
   subst this
   exact⟨.pv (.lit _),by simpa using (List.all_eq_true.1 h1) _ (List.mem_of_getElem? h5)⟩⟩ hf
 refine⟨.agg c',fun w1=>?_,.agg h3.1 fun j u c h4 h5=>(h3.2 j u c h4 h5).1⟩
 have HV:(fs.mapM fun(f:Field)=>(do pure (f.offset,← sizeOf f.type):Sem (Nat×Nat)))=fs.toList.foldlM (fun(acc:Array (Nat×Nat)) (f:Field)=>do let s ← sizeOf f.type;pure (acc.push (f.offset,s))) #[]:=by
  rw[Array.mapM_eq_foldlM,← Array.foldlM_toList]
  congr 1
  funext acc f
  simp
 have vm:∀w,(zeroValue t).run P w=.ok z w:=fun w=>by simp [zeroValue,typeInfo,dA,hz0]
 simp only[execOp,Instr.build,Sem.run_bind,vm,Result.andThen_ok,run_underlying hs,HV,E9,List.map_toArray,h2,Sem.run_pure]
theorem bh.build (t:TypeId) (offs:List Nat) {gd:Option (Tmp×Bool)} {l:List Value} {parts:List (Nat×Operand)} {fs:Array Field} {z:Value} {cells:List AV} (hs:P.underlying t=some (.struct fs)) (hz:(P.info? t).bind (·.zero)=some z) (hl:z.cells=l.toArray) (h1:z.cells.toList.all (·.oneCell')=true) (ec:fs.toList.all (fun f=>(P.info? f.type).isSome)=true)
  (ho:parts.all (fun p=>aK p.2)=true) (lI:((parts.map fun p=>(p.1,δ.ev p.2)).map fun p=>(placeOf P fs p.1).map (·.1))=offs.map some) (hf:c6 (placeOf P fs) (z.cells.toList.map fun v=> .pv (.lit v)) (parts.map fun p=>(p.1,δ.ev p.2))=some cells):
  bh P ⟨dst,.build t parts.toArray,ty,pos,af,gd⟩ δ (.agg (ny (uK l) (my δ.env offs parts))):=by
 have h2:=bh.H2 (gd:=gd) (dst:=dst) (ty:=ty) (pos:=pos) (af:=af) hs hz h1 ec ho hf
 have:=mQ _ offs _ cells hf lI
 rw[sc,hl,List.toList_toArray,oG] at this
 rw[← this]
 exact h2
end Go.Ab
/- The rest of a row of statements walked once,from a weaker state. -/
namespace Go.Ab
open Go Go.RowKit
variable {P:Program} {g:ar} {δ δc:DS} {Q:Exit→DS→Prop} {c rest:Code}
theorem AW.cut (h:AW P g c (dR fun δ'=>jT g δ' δc) δ) (hK:AW P g rest Q δc):AW P g (.seq c rest) Q δ:=by
 refine AW.seq (AW.mono h fun e δ' h1=>?_)
 cases e with
 |normal=>exact AW.aN h1 hK
 |_=>exact h1.elim
end Go.Ab
namespace Go.Ab
open Go Go.RowKit
end Go.Ab
/- The address of an array's element. -/
namespace Go.Ab
open Go Go.RowKit
variable {P:Program} {g:ar} {δ:DS} {q:Md}
variable {ops:Array Oper} {rest:List Oper} {Q:Exit→DS→Prop} {dst:Option Nat} {ty:TypeId} {pos:String} {af:Array Edge}
theorem aa.pd {α:Type} {x y:Operand} {t e e':TypeId} {i k n:Nat} {f:α→List PV} {l:List α} (hx:δ.ev x=.own i e' k (l.map f)) (hy:δ.ev y=aw (n:Nat))
  (ht:P.underlying t=some (.slice e)) (hk:(P.info? e).map (·.size)=some k) (ho:aK x=true) (ho':aK y=true) (hd:bk δ.n dst=true) (hn:n<l.length)
  (hK:aa q P g ops rest Q (δ.au dst (.optr i e' k (l.map f) n))):aa q P g ops (⟨dst,.indexAddr t x y,ty,pos,af,none⟩::rest) Q δ:=
 aa.kF (n:=n) hx hy (by simp;omega) ht hk ho ho' hd hK
end Go.Ab
namespace Go.Ab
open Go Go.RowKit
attribute [local irreducible] HS
variable {P:Program} {g:ar} {δ:DS} {l:List Oper} {late dn:List Nat} {k:Wt} {QD:Exit→DS→Prop}
section
variable {q:Md} {P:Program} {g:ar} {δ:DS} {ops:Array Oper} {f:DS→Prop} {Q:Exit→DS→Prop} {y:Code}
theorem aa.Nq (h:f δ):aa q P g ops [] (bM f Q) δ:=aa.nil (cw h)
theorem AW.Nr {id:Nat} {l:List Oper} (h:aa .plain P g l.toArray l (bM (AW P g y Q) Q) δ):AW P g (.seq (.region id l.toArray false) y) Q δ:=AW.seq (AW.region h)
end
end Go.Ab
/- A slice held against nil;a slice made with room and no element. -/
namespace Go.Ab
open Go Go.RowKit
variable {P:Program} {g:ar} {δ:DS} {q:Md}
theorem aa.MJ {ι:Type} {ops:Array Oper} {o:Oper} {rest:List Oper} {Q:Exit→DS→Prop} (v:ι→AV) (φ:ι→Prop) (hg:o.guard=none) (dt:dI o=true) (hd:bk δ.n o.dst=true)
  (h:∀κ a w,Rel g δ κ a w→∃i,φ i∧∃u,(∀w',e9 δ κ w w'→(execOp a.eval o).run P w'=.ok (.value u) w')∧RA (δ.cx g κ) w u (v i)) (hK:∀i,φ i→aa q P g ops rest Q (δ.au o.dst (v i))):aa q P g ops (o::rest) Q δ:=by
 intro κ a w r
 obtain⟨i,hi,u,h1,h2⟩:=h κ a w r
 have hK1:=hK i hi κ _ _ (r.au (aU hd) h2)
 cases q with
 |quiet=>
  show wpQuiet P ops _ _ (o::rest) a
  unfold wpQuiet
  rw[if_pos (by simp [Region.wanted,hg])]
  refine⟨u,fun w' hw'=>?_,hK1⟩
  unfold Oper.quietAt
  rw[h1 w' (e9.tK hw')]
  exact⟨rfl,rfl⟩
 |held=>
  show qd P ops _ _ (o::rest) a
  refine⟨u,.inl ⟨by simp [Region.wanted,hg],fun w' hw'=>h1 w' hw'⟩,?_⟩
  ·have hH:e9 (δ.au o.dst (v i)) κ w=e9 δ κ w:=by unfold e9;rw[oU]
   simp only[hH,kq] at hK1
   exact hK1
 |plain=>
  show wpListIn _ _ P ops _ (o::rest) a w
  refine cr hg dt fun K hK'=>?_
  unfold Oper.uT
  rw[h1 w (e9.refl _ _ _),Oper.uponIn_value]
  exact hK' _ _ hK1
variable {ops:Array Oper} {rest:List Oper} {Q:Exit→DS→Prop} {dst:Option Nat} {ty:TypeId} {pos:String} {af:Array Edge}
theorem lH {t e:TypeId} (ht:P.underlying t=some (.slice e)) (x y:Operand) (b:Option Addr) (n c:Nat) (w:World):
  (do eqGuard .eql t x y (.slice b n c) (.slice none 0 0);Go.binOp .eql t (.slice b n c) (.slice none 0 0):Sem Value).run P w=.ok (.bool b.isNone) w:=by
 have h1:(eqGuard .eql t x y (.slice b n c) (.slice none 0 0)).run P w=.ok () w:=by
  unfold eqGuard
  simp [Sem.run,pure,Sem.bind,bind]
 rw[Sem.run_bind,h1,Result.andThen_ok]
 exact Lib.run_eql_slice_nil w t e b n c 0 0 ht
theorem aa.p6 {x y:Operand} {t e t':TypeId} {k:Nat} {els:List (List PV)} (hx:δ.ev x=.pv (.slice k els)) (hy:δ.ev y=.pv (.lit (.slice none 0 0))) (ht:P.underlying t=some (.slice e)) (ho:aK x=true) (ho':aK y=true) (hd:bk δ.n dst=true)
  (hT:els=[]→aa q P g ops rest Q (δ.au dst (aM true))) (hF:True→aa q P g ops rest Q (δ.au dst (aM false))):aa q P g ops (⟨dst,.binOp .eql t x y t',ty,pos,af,none⟩::rest) Q δ:=by
 refine aa.MJ (ι:=Bool) (fun b=>aM b) (fun b=>b=true→els=[]) rfl rfl hd (fun κ a w r=>?_) (fun b hb=>?_)
 ·have h1:=(r.ra hx ho).gp
  have h2:=r.lit hy ho'
  generalize hv:a.eval x=v at h1
  cases h1 with
  | @slice ad len cap k els bl off vs hl jz hb ha xR hc hr=>
   refine⟨ad.isNone,fun hn=>?_,.bool ad.isNone,fun w' _=>?_,.pv (.lit _)⟩
   ·rcases els with _|⟨c,els⟩
    ·rfl
    ·have:=(ha (by simp)).1
     rw[this] at hn;simp at hn
   ·have:=lH ht x y ad len cap w'
    simp only[execOp,hv,h2]
    simp only[Sem.run_bind,this,Result.andThen_ok] at*
    first|rfl|simp [this]
 ·cases b with
  |true=>exact hT (hb rfl)
  |false=>exact hF trivial
theorem c9.lk {gd:Option (Tmp×Bool)} {t e:TypeId} {x y:Operand} {m:Int} {z:Value} {k by':Nat} (hx:δ.ev x=aw 0) (hy:δ.ev y=aw m) (ht:P.underlying t=some (.slice e)) (hi:(P.info? e).map (fun i=>(i.size,i.zero,i.bytes))=some (k,some z,by')) (hb:Nat.ble by' 64=true)
  (ho:aK x=true) (ho':aK y=true) (hd:bk δ.n dst=true) (hm:0≤m∧m≤100000):
  c9 P g ⟨dst,.makeSlice t x y,ty,pos,af,gd⟩ δ ((δ.ba .row).au dst (.own δ.nx e k [])):=by
 intro κ a w r
 have hb':by'≤64:=by simpa using hb
 obtain⟨i0,dA,hs0,hz0,hb0⟩:∃i0,P.info? e=some i0∧i0.size=k∧i0.zero=some z∧i0.bytes=by':=by
  cases h:P.info? e with
  |none=>rw[h] at hi;simp at hi
  |some i0=>rw[h] at hi;simp at hi;exact⟨i0,rfl,hi.1,hi.2.1,hi.2.2⟩
 have FF:=r.lit hx ho
 have MQ:=r.lit hy ho'
 have NL:IntKind.i64.wrap m=m:=IntWalk.i64_in _ (by omega)
 have NJ:IntKind.i64.wrap 0=0:=IntWalk.i64_in _ (by omega)
 generalize hc':((Array.range (m.toNat*k)).map (fun j=>z.cells[j % z.cells.size]!))=c'
 have jU:c'.size=m.toNat*k:=by rw[← hc'];simp
 have hmul:by'*m.toNat≤6400000:=by
  have h1:by'*m.toNat≤64*m.toNat:=Nat.mul_le_mul_right _ hb'
  omega
 have hmulI:(by':Int)*m≤6400000:=by
  have:((by'*m.toNat:Nat):Int)≤6400000:=by omega
  rw[Int.natCast_mul,Int.toNat_of_nonneg hm.1] at this
  exact this
 have aR:(execOp a.eval ⟨dst,.makeSlice t x y,ty,pos,af,gd⟩).run P w=.ok (.value (.slice (some ⟨w.heap.size,0,none⟩) 0 m.toNat)) (w.alloc (.cells c' e)):=by
  have gh:∀w,(typeInfo e).run P w=.ok i0 w:=fun w=>by simp [typeInfo,dA]
  have vm:∀w,(zeroValue e).run P w=.ok z w:=fun w=>by simp [zeroValue,typeInfo,dA,hz0]
  have FD:∀w,(sizeOf e).run P w=.ok k w:=fun w=>by simp [sizeOf,typeInfo,dA,hs0]
  have has:∀(m:Int) w,(asInt (.int .i64 m)).run P w=.ok m w:=fun m w=>by simp [asInt,asIntOf,Sem.run_bind,Sem.run_pure,Result.andThen_ok]
  have Hf:¬(by':Int)*m>2 ^ 48:=by
   have:(2:Int) ^ 48=281474976710656:=by decide
   omega
  have Jk:¬(by':Int)*0>2 ^ 48:=by rw[Int.mul_zero];decide
  have sE:¬m<0:=by omega
  have N3:¬m<0:=by omega
  have eV:¬m.toNat*by'>roomBytes:=by
   have:(6400000:Nat)≤roomBytes:=by decide
   have h2:m.toNat*by'=by'*m.toNat:=Nat.mul_comm _ _
   omega
  simp only[execOp,Instr.makeSlice,Sem.run_bind,Result.andThen_ok,run_underlying ht,FF,MQ,has,gh,hb0,NL,NJ]
  simp only[decide_eq_false Hf,decide_eq_false Jk,decide_eq_false sE,Bool.or_false,Bool.false_or,Int.lt_irrefl,decide_false,gt_iff_lt,Bool.false_eq_true,if_false,askRoom,Sem.run_pure,Result.andThen_ok,Sem.run_bind]
  have wX:¬roomBytes<m.toNat*by':=eV
  simp only[if_neg wX,Sem.run_pure,Result.andThen_ok,FD]
  by_cases h0:m.toNat*k=0
  ·have HR:(Array.range (m.toNat*k)).map (fun j=>(#[]:Array Value)[j % (#[]:Array Value).size]!)=c':=by
    rw[← hc',h0];simp [Array.range_zero']
   simp only[if_pos h0,Sem.run_bind,Sem.run_pure,Result.andThen_ok,newRow]
   simp only[pure_bind,HR]
   rfl
  ·simp only[if_neg h0,Sem.run_bind,Sem.run_pure,Result.andThen_ok,vm,newRow,hc']
   rfl
 have iD:m.toNat≤maxLen:=by simp only[maxLen];omega
 obtain⟨r',G⟩:=r.grow .row (.cells c' e) (fun C G hκ b hb=>by
  have:w.heap.size=b:=Option.some.inj (hκ.symm.trans hb)
  subst this
  exact⟨c',e,heap_alloc_new w _⟩)
 refine .inl ⟨_,_,_,_,aR,.inl rfl,r'.au (aU hd) (.own ?_)⟩
 refine⟨by show(δ.ba .row).ob _=_;rw[bp,if_pos rfl],by simp,fun c hc=>by simp at hc,fun b hb=>?_,[],⟨by simp,.inr ⟨w.heap.size,m.toNat,c',rfl,r.hB,heap_alloc_new w _,Nat.zero_le _,iD,jU,by simp⟩⟩,by simp,fun i' j p hp'=>by simp [cellAt] at hp'⟩
 simp only[Value.ownBlock,Option.some.injEq] at hb
 subst hb
 show cp _ _ _ _=_
 simp [cp]
theorem aa.lk {t e:TypeId} {x y:Operand} {m:Int} {z:Value} {k by':Nat} (hx:δ.ev x=aw 0) (hy:δ.ev y=aw m) (ht:P.underlying t=some (.slice e)) (hi:(P.info? e).map (fun i=>(i.size,i.zero,i.bytes))=some (k,some z,by')) (hb:Nat.ble by' 64=true)
  (ho:aK x=true) (ho':aK y=true) (hd:bk δ.n dst=true) (hm:0≤m∧m≤100000) (hK:aa .plain P g ops rest Q ((δ.ba .row).au dst (.own δ.nx e k []))):
  aa .plain P g ops (⟨dst,.makeSlice t x y,ty,pos,af,none⟩::rest) Q δ:=aa.mI rfl rfl (c9.lk hx hy ht hi hb ho ho' hd hm) hK
end Go.Ab
/- A call of a function value that is told:a function of the program's,nothing captured. -/
namespace Go.Ab
open Go Go.RowKit
variable {P:Program} {g:ar} {δ:DS} {κ:Kp} {a:Act} {w:World}
variable {ops:Array Oper} {rest:List Oper} {Q:Exit→DS→Prop} {dst:Option Nat} {ty:TypeId} {pos:String} {af:Array Edge}
theorem Mh {C:Cx} {w:World} {v:Value} {f:Go.Fn} (h:RA C w v (.clo f [] [])):v=.func f #[] #[]:=by
 cases h with
 |clo hs h ht h'=>
  rename_i vs us
  have e1:vs= #[]:=Array.eq_empty_of_size_eq_zero (by simpa using hs)
  have e2:us= #[]:=Array.eq_empty_of_size_eq_zero (by simpa using ht)
  rw[e1,e2]
theorem aa.Gr {f:FuncId} {xs:List Operand} {tys:Array TypeId} {args:List AV} {r:AV} {y:Operand} (hy:δ.ev y=.clo (.func f) [] []) (e8:aK y=true) (hf:Fn P f args r) (b9:kT false δ xs args) (hd:bk δ.n dst=true)
  (hK:aa .plain P g ops rest Q (δ.au dst r)):aa .plain P g ops (⟨dst,.call {callee:=.value y,args:=xs.toArray,argTypes:=tys},ty,pos,af,none⟩::rest) Q δ:=by
 intro κ a w r0
 have rN:a.eval y=.func (.func f) #[] #[]:=Mh (hy▸r0.wO y (cQ e8))
 show wpListIn _ _ P ops _ (_::rest) a w
 refine cr rfl rfl fun K hK'=>?_
 unfold Oper.uT
 rw[fg (f:=f) rN hf.enters,Oper.uponIn_enter]
 refine⟨fun h=>by simp at h,(eZ (hf.calls (fun b=>(δ.cx g κ).N b∨w.heap.size≤b) w _ (fun _ h=> .inr h) (by simp [b9.len]) (b9.J6 r0 (fun _ _ h=> .inl h) (fun h=>by simp at h)))).mono ?_⟩
 rintro e w' ⟨v,rfl,hv,hb⟩
 have r1:=r0.ext hb
 refine hK' _ _ (hK κ _ _ (r1.au (aU hd) (hv.o5 _ fun b _ h=>?_)))
 rcases h with h|h
 ·exact h
 ·refine⟨r0.xE h,fun i hi e=>?_⟩
  have:=(r0.lo i b hi e).2
  omega
end Go.Ab
/- min and max of two numbers. -/
namespace Go.Ab
open Go Go.RowKit
variable {P:Program} {g:ar} {δ:DS} {q:Md}
variable {ops:Array Oper} {rest:List Oper} {Q:Exit→DS→Prop} {dst:Option Nat} {ty:TypeId} {pos:String} {af:Array Edge}
theorem aa.max2 {x y:Operand} {tys:Array TypeId} {m n:Int} (hx:δ.ev x=aw m) (hy:δ.ev y=aw n) (ho:aK x=true) (ho':aK y=true) (hd:bk δ.n dst=true)
  (hK:aa q P g ops rest Q (δ.au dst (aw (max m n)))):aa q P g ops (⟨dst,.call {callee:=.builtin .max,args:= #[x,y],argTypes:=tys},ty,pos,af,none⟩::rest) Q δ:=
 aa.dq _ hd (fun κ a w r=>⟨.int .i64 (max m n),fun w' _=>by
  have h1:=r.lit hx ho
  have h2:=r.lit hy ho'
  have h3:(if n>m then n else m)=max m n:=by split<;>omega
  simp [execOp,resolve,invoke,builtin,h1,h2,run_max_int2,h3],.pv (.lit _)⟩) hK
theorem aa.min2 {x y:Operand} {tys:Array TypeId} {m n:Int} (hx:δ.ev x=aw m) (hy:δ.ev y=aw n) (ho:aK x=true) (ho':aK y=true) (hd:bk δ.n dst=true)
  (hK:aa q P g ops rest Q (δ.au dst (aw (min m n)))):aa q P g ops (⟨dst,.call {callee:=.builtin .min,args:= #[x,y],argTypes:=tys},ty,pos,af,none⟩::rest) Q δ:=
 aa.dq _ hd (fun κ a w r=>⟨.int .i64 (min m n),fun w' _=>by
  have h1:=r.lit hx ho
  have h2:=r.lit hy ho'
  have h3:(if n<m then n else m)=min m n:=by split<;>omega
  simp [execOp,resolve,invoke,builtin,h1,h2,run_min_int2,h3],.pv (.lit _)⟩) hK
theorem aa.w9 {fn:Go.Fn} {x y z:Operand} {u1 u2 u3:AV} (hx:δ.ev x=u1) (hy:δ.ev y=u2) (hz:δ.ev z=u3) (ho:aK x=true) (ho':aK y=true) (ho'':aK z=true) (hd:bk δ.n dst=true) (hK:aa q P g ops rest Q (δ.au dst (.clo fn [] [u1,u2,u3]))):aa q P g ops (⟨dst,.makeFunc fn #[] #[x,y,z],ty,pos,af,none⟩::rest) Q δ:=
 aa.dq _ hd (fun κ a w r=>⟨.func fn #[] #[a.eval x,a.eval y,a.eval z],fun w' _=>by simp [execOp,Instr.makeFunc],.clo rfl (fun j u c h=>by simp at h) rfl (fun j u c h1 h2=>by
  match j with
  |0=>simp at h1 h2;subst h1;subst h2;exact r.ra hx ho
  |1=>simp at h1 h2;subst h1;subst h2;exact r.ra hy ho'
  |2=>simp at h1 h2;subst h1;subst h2;exact r.ra hz ho''
  |j+3=>simp at h2)⟩) hK
end Go.Ab
