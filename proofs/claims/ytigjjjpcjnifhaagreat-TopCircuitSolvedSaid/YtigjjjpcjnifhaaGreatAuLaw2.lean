/- The solver finds an assignment of the translated formula if and only if the reference is true under some assignment of the inputs, namely the least one extended to the gates. No conditions. -/
import Derived.Test.YtigjjjpcjnifhaaGreatAuUH
import Derived.Test.YtigjjjpcjnifhaaGreatAbZ
import Derived.Test.YtigjjjpcjnifhaaGreatAbL3
import Derived.Test.YtigjjjpcjnifhaaGreatAuNC6
import Derived.Test.YtigjjjpcjnifhaaGreatAbL2
import Derived.Test.YtigjjjpcjnifhaaGreatRows
import Derived.WalkKit
import Derived.ProofKit
import Derived.OpenShut
import Derived.ChangeOld
import Derived.Below
set_option linter.unusedSimpArgs false
set_option linter.unusedVariables false
open Nat renaming reduceBEq→df,zero_le→bm
open List renaming getElem?_append_left→aT
namespace Go.Ab
open Go Go.Proofs
open Nat (reduceAdd reduceSub)
set_option maxRecDepth 20000
set_option maxHeartbeats 8000000
attribute [local irreducible] AW a_ gr fz AR fH fv fM gk canon kf kG pA qs nK e8 jm ia jy iv MC gI oU N19.lf N19.uM N19.jH N19.nj N19.oL N19.nH
theorem H9 (l:List N19.pG) (a:Int) (hs:∀s∈l,N19.Va s) (ha:0≤a∧a≤255):Fn Tryz.prog 4 [.pv (N19.FI l),N19.Ui a] (fq true):=by
 have hh:=KI
 by_cases kY:60<(l.length:Int)
 ·refine Fn.enter (n:=100) Tryz.func4 rfl rfl rfl rfl rfl (by decide) fun g fp fl=>?_;(try refine nz ?_)
  (refine u6 ?_;refine zA (hh) ?_;refine yf ?_;refine zn ?_;refine a_.gtr rfl rfl rfl rfl rfl ?_;refine jD ?_;refine j6 ?_;refine qP ?_)
  (apply eY;(exact gm.one (.tmp rfl rfl));(refine Le.fq ?_;(rfl)))
 have hb:N19.Hc l.length (N19.nj l):=by
  have h:=N19.yA (l:=l) (fun s h=>by have:=hs s h;unfold N19.Va at this;omega) aJ l.length (Nat.le_refl _)
  rwa [List.take_length] at h
 have h1:=N19.L6 l hs (by omega)
 obtain⟨hc,M4,Cu,M_⟩:=hb
 generalize N19.nj l=bg at h1 hc M4 Cu M_
 obtain⟨gs,refs⟩:=bg
 simp only at h1 hc M4 Cu M_
 have h2:=N19.A6 refs a aJ (fun r h=>by have:=M4 r h;unfold N19.gz at this;omega) ha
 have hr:=N19.tZ hc M4 ha.1
 generalize N19.oL refs a=r at h2 hr
 have h4:=N19.Sh hc aJ hr ((8:Nat):Int) (by omega)
 have iT:=N19.R5 hc hr (n:=((8:Nat):Int)) (by omega)
 have W4:=N19.xW hc hr (n:=((8:Nat):Int))
 have Xe:=Im (gs:=gs) (r:=r) (n:=((8:Nat):Int))
 have hS:=fun(n:Nat) hn q h=> @NP gs r n q hc hr hn h
 have hU:=fun(n:Nat) hn q h=> @H5 gs r n q hc hr hn h
 have XY:=fun i=>N19.Sk hc aJ hr 8 aJ (gI 8 i) (by rw[kM];omega)
 have MP:=fun i=>N19.Ep gs (gI 8 i) r hc hr aJ (by rw[kM];omega)
 generalize N19.lf gs r ((8:Nat):Int)=f at h4 iT W4 Xe hS hU
 obtain⟨V,cls⟩:=f
 simp only at h4 iT W4 Xe hS hU
 obtain⟨n,rfl⟩:∃n:Nat,V=n:=⟨V.toNat,by omega⟩
 have V0:∀c∈cls,e8 n c=true:=fun c hc=>pM fun x hx=>by
  have:=iT c hc x hx
  exact⟨this.1,by omega,by omega⟩
 have lY:∀c∈cls,∀x∈c,Lit n x:=fun c hc x hx=>by
  have:=iT c hc x hx
  exact⟨this.1,by omega,by omega⟩
 have ld:oU n cls=true:=by
  unfold oU
  rw[Bool.and_eq_true]
  exact⟨decide_eq_true aJ,List.all_eq_true.2 V0⟩
 have h5:=E_ n cls
 rw[ld] at h5
 have h6:=uQ n cls [] aJ aJ (fun c hc=>⟨by have:=Xe c hc;omega,lY c hc⟩) (by simp) (by simp)
 obtain⟨i,hi,tY,r8⟩:=xY (fun j=>N19.jH gs (gI 8 j) r) 256
 refine Fn.enter (n:=100) Tryz.func4 rfl rfl rfl rfl rfl (by decide) fun g fp fl=>?_;(try refine nz ?_)
 (refine u6 ?_;refine zA (hh) ?_;refine yf ?_;refine zn ?_;refine a_.gtr rfl rfl rfl rfl rfl ?_;refine uD ?_;refine j6 ?_;refine zP (h1) ?_;refine Gg ?_;refine mV ?_;refine kV ?_;refine rz ?_;(iterate 2 refine zm ?_);refine zA (h2) ?_;refine rz ?_;refine mJ ?_;refine zm ?_;refine zP (h4) ?_;refine mV ?_;refine kV ?_;refine kW ?_;refine zq ?_;refine mJ ?_;refine zA (h5) ?_;refine IJ ?_;refine QS ?_;refine zl ?_;refine zs ?_;refine Ku ?_;refine qS ?_;(with_reducible apply a_.kI (hf:=h6));(with_reducible assumption);(iterate 3 exact rfl);exact aq;exact ak;(intro x_;exact rfl);exact rfl;exact al;(intro x_;exact al);(intro x_;exact rfl);exact rfl;(intro x_ rL);refine Q1 ?_;refine nz ?_;refine QY ?_;refine kW ?_;refine AW.mS 10 ?_)
 obtain⟨k,vals,core,P⟩:=x_
 have zx:=rL
 simp only at zx ⊢
 refine Stop.go ?_
 by_cases hk:k=0
 ·have h8:8<n:=by
   rcases zx.three with ⟨_,e⟩|e|e
   ·exact e
   ·simp only at e;omega
   ·simp only at e;omega
  subst hk
  (refine iK ?_;refine qI ?_;refine oz ?_;(iterate 2 refine zm ?_);refine QS ?_;refine zl ?_;refine a_.gtr rfl rfl rfl rfl rfl ?_;refine a_.jL rfl rfl rfl rfl rfl rfl ?_;refine qP ?_)
  (apply eY;(exact gm.one (.tmp rfl rfl));(refine Le.fq ?_;(first|rfl|exact decide_eq_true aJ)))
 have X7:=fun(j:Nat) (hj:j<256)=>O_ 8 j aJ (by omega)
 by_cases fy:i<256
 ·obtain⟨ek,el,ev,es⟩:=hS n rfl _ zx hk fy (r8 fy) tY
  simp only at ek el ev es
  subst ek
  have DR:=L3 vals (by omega)
  have hsf:=N19.Tj n cls vals (fun c hc x hx=>by
   have:=lY c hc x hx
   obtain⟨_,_,_⟩:=this
   exact⟨by omega,by omega,by omega⟩) (by omega)
  rw[es] at hsf
  have Qx:=XY i
  rw[← ev] at Qx
  (refine iK ?_;refine qI ?_;refine nY ?_;refine zo ?_;refine iK ?_;refine wX ?_)
  (refine nz ?_;apply AW.gJ [13,12,11,10,9,8,6,5,1] [1,0] (fun j:Nat=>([(14,eU j)]:List (Nat×AV))) (fun j:Nat=>([]:List (Nat×Option Ob))) (fun j:Nat=>j≤i) (fun j:Nat=>256 - j) (0);(conv=>lhs;simp only[Nf.ot,Nf.all,df,reduceAdd,reduceSub]);(all_goals skip))
  ·exact bm _
  ·exact U5
  rintro j hj
  have hbj:=X7 j (by omega)
  have Sb:=MP j
  by_cases qb:j=i
  ·subst qb
   rw[r8 fy] at Sb
   (refine sd ?_;refine Sl ?_;refine oz ?_;(iterate 2 refine zm ?_);refine zl ?_;refine zm ?_;refine DF ?_;refine xy ?_;refine rA ?_;refine zn ?_;refine QS ?_;refine DF ?_;refine xy ?_;refine uW ?_;refine mJ ?_;refine uW ?_;refine zm ?_;refine zt ?_;refine zP (Qx) ?_;refine zt ?_;refine zA (DR) ?_;refine zT ?_;refine zm ?_;refine zl ?_;refine mJ ?_;refine rA ?_;refine zA (hsf) ?_;refine a_.jL rfl rfl rfl rfl rfl rfl ?_;refine qR ?_)
   (apply eY;(exact gm.one (.tmp rfl rfl));(refine Le.fq ?_;(rfl)))
  ·rw[tY j aJ] at Sb
   (refine sd ?_;refine Sl ?_;refine Ci ?_;refine uH ?_;refine xx ?_)
   exact TR
 ·have ek:=hU n rfl _ zx hk (fun j hj=>tY j aJ)
  simp only at ek
  subst ek
  have Ib:NO n cls [] (j2 P):=zx.Wb aJ (fun c hc=>⟨V0 c hc,by have:=Xe c hc;omega⟩) (by omega)
  have Vz:Fn Tryz.prog 15 [KA (n:Nat) cls,.pv (j3 []),.pv (steps (j2 P))] (fq (z6 n cls [] (j2 P))):=xD n cls [] (j2 P) Ib
  have hrb:=zx.z6 rfl rfl
  simp only at hrb
  rw[hrb,show steps (j2 P)=PV.slice 3 (P.map qv) from by rw[AN]] at Vz
  (refine iK ?_;refine qI ?_;refine nY ?_;refine zo ?_;refine iK ?_;refine wX ?_)
  (refine nz ?_;apply AW.gJ [13,12,11,10,9,8,6,5,1] [1,0] (fun j:Nat=>([(14,eU j)]:List (Nat×AV))) (fun j:Nat=>([]:List (Nat×Option Ob))) (fun j:Nat=>j≤256) (fun j:Nat=>256 - j) (0);(conv=>lhs;simp only[Nf.ot,Nf.all,df,reduceAdd,reduceSub]);(all_goals skip))
  ·exact bm _
  ·exact U5
  rintro j hj
  by_cases qN:j<256
  ·have hbj:=X7 j (by omega)
   have Sb:=MP j
   rw[tY j aJ] at Sb
   (refine sd ?_;refine Sl ?_;refine Ci ?_;refine uH ?_;refine xx ?_)
   exact TR
  ·obtain rfl:j=256:=by omega
   (refine sd ?_;refine zs ?_;refine zd ?_;refine AW.j8 rfl rfl ?_;refine I6 ?_;refine iK ?_;(iterate 2 refine zm ?_);refine zl ?_;refine zm ?_;refine DF ?_;refine xy ?_;refine zl ?_;refine mJ ?_;refine rA ?_;refine zA (Vz) ?_;refine a_.jL rfl rfl rfl rfl rfl rfl ?_;refine ku ?_)
   (apply eY;(exact gm.one (.tmp rfl rfl));(refine Le.fq ?_;(rfl)))
end Go.Ab
namespace Go.Proofs.YtigjjjpcjnifhaaGreat.Law2
open Go Go.Ab Go.ChangeShapes Go.WideShapes Go.ChangeAt Go.RowKit
set_option linter.unusedVariables false
theorem own:ownKnob Tryz.prog.godebug=none:=by kernel_rfl
theorem laidOut:laidOutB Tryz.prog=true:=by kernel_rfl
theorem Nx:Rd Tryz.prog 79 Go.Ab.N19.PN N19.Va:=
 Rd.map (Rd.struct (n:=3) Tryz.underlying79 aI (MO.cons (k:=1) (n:=2) rfl aI (Rd.int Tryz.underlying5) (MO.cons (k:=1) (n:=1) rfl aI (Rd.int Tryz.underlying5) (MO.cons (k:=1) (n:=0) rfl aI (Rd.int Tryz.underlying5) MO.nil)))) (fun p=>(⟨p.1,p.2.1,p.2.2.1⟩:N19.pG)) (fun p=>rfl) (fun _ h=>⟨wf_u8 h.1,wf_u8 h.2.1,wf_u8 h.2.2.1⟩)
theorem Lp:Rd Tryz.prog 47 (fun l:List N19.pG=>[N19.FI l]) (fun l=>∀s∈l,N19.Va s):=
 Rd.map (Rd.slice (e:=79) (k:=3) (by':=3) Tryz.underlying47 aI (by decide) aI (by decide) (fun _=>rfl) Nx) id (fun _=>rfl) (fun _ h=>h.2)
theorem SS {n:Int} (h:(Lit.int .u8 n).wf=true):0≤n∧n≤255:=by
 have e1:IntKind.u8.min=0:=rfl
 have e2:IntKind.u8.max=255:=rfl
 simp [Lit.wf,e1,e2] at h
 omega
theorem OG {N:Nat→Prop} {w:World} {v:Value} (h:RA (vx N) w v (fq true)):v=.bool true:=by
 cases h with
 |pv h=>cases h;rfl
set_option maxRecDepth 100000 in
theorem lifted (os:Os) (started:os.Started) (H:Type) (enc:TypeId×Value→H):
  ReturnsInHanded {} Tryz.checked os 4 .any (Rows.topCircuitSolvedSpec.pre6 enc Tryz.prog Tryz.f4 Rows.topCircuitSolvedRow.domain false) (Rows.topCircuitSolvedSpec.post enc Tryz.prog Tryz.f4 false true false false):=by
 refine returnsInHanded_of_change_sized (C:=Tryz.checked) own started aI Tryz.func4
  (ChangeSpec.witness6 (enc:=enc) (C:=Tryz.checked) false ⟨#[], #[.slice none 0 0,.int .u8 0],[]⟩ 8 aI aI aI aI) ?_
 intro W base args ds gs before Qw hW hcnd nQ _
 have ld:∀(j:Nat) t v,Tryz.f4.params[j]? =some t→args[j]? =some v→Value.okWide Tryz.prog W .any base t v:=Qw
 have hW':=hW
 obtain⟨p,q,Vf,hV,rfl,hfz,jg⟩:=hW
 have hA:DataW.TrodAll enc Tryz.prog W 0 (fun _=>true) true Tryz.f4.params.toList args.toList ds p:=Vf
 rw[Tryz.params4] at hA ld
 obtain⟨v0,vs0,d0,ds0,p0,q0,gp,rfl,rfl,h0,r0⟩:=trodAll_cons hA
 obtain⟨v1,vs1,d1,ds1,p1,q1,rfl,rfl,rfl,h1,r1⟩:=trodAll_cons r0
 obtain⟨rfl,rfl,rfl⟩:=trodAll_nil r1
 obtain rfl:args= #[v0,v1]:=by cases args;simp_all
 obtain⟨rfl,rfl⟩:=trodVars_none hV
 have wt:∀(j:Nat) (t:TypeId) (d:DataW H),[47,5][j]? =some t→[d0,d1][j]? =some d→∀n∈d.weights Tryz.prog t,n≤reachBytes:=by
  intro j t d ht hd
  have hj:j<2:=(List.getElem?_eq_some_iff.1 ht).1
  refine Dj nQ (j:=j) ?_ ?_
  ·rw[aT (by rw[Tryz.params4];exact hj),Tryz.params4];exact ht
  ·rw[aT (by simpa using hj)];exact hd
 obtain⟨a0,l0,c0,rfl⟩:=okWide_slice Tryz.underlying47 (ld 0 47 v0 rfl rfl)
 obtain⟨x0,s0,o0⟩:=Nt Lp h0 (wt 0 47 d0 rfl rfl) Dt
 obtain⟨x1,rfl,e1,e1',o1⟩:=open_int Tryz.underlying5 (ld 1 5 v1 rfl rfl) h1
 have s1:RA (vx fun _=>True) W (.int .u8 x1) (.pv (.lit (.int .u8 x1))):=.pv (.lit _)
 have lt0:∀x∈p0,x.block<W.heap.size:=by obtain⟨m,hm⟩:=h0;exact DataW.trod_lt m _ _ _ hm
 have lt1:∀x∈p1,x.block<W.heap.size:=by obtain⟨m,hm⟩:=h1;exact DataW.trod_lt m _ _ _ hm
 clear Vf Qw
 refine((H9 x0 x1 o0 (SS o1)).calls (fun _=>True) W _ (fun _ _=>trivial) rfl ?_).mono fun e W' ⟨v,he,hv,bel⟩=>?_
 ·intro j v av hj Ck
  match j,hj,Ck with
  |0,hj,Ck=>cases hj;cases Ck;exact s0
  |1,hj,Ck=>cases hj;cases Ck;exact s1
  |j+2,hj,Ck=>simp at Ck
 ·obtain rfl:=OG hv
  subst he
  exact⟨_,rfl,_,_,_,[],_,[],hW',trodAll_mk1 (shut_bool Tryz.underlying4 _),(trodAll_cons_mk (Below.trod laidOut aI (of_decide_eq_true aI) h0 bel lt0) (trodAll_cons_mk (Below.trod laidOut aI (of_decide_eq_true aI) h1 bel lt1) trodAll_mk0)),rfl,bel.frame _,fun h=>by cases h⟩
theorem pT:Rows.topCircuitSolvedRow.holds Tryz.pinned (OpenSpec.ofChange Rows.topCircuitSolvedSpec):=
 OpenClaim.holds_of_wide 4 Tryz.f4 rfl rfl rfl rfl rfl rfl rfl ⟨rfl,rfl,rfl,rfl,rfl⟩ rfl rfl rfl rfl rfl aI Tryz.func4 aI
  (of_decide_eq_true aI) (by unfold Func.isWrapper;first|(rw[if_pos (by decide+kernel)];kernel_rfl)|(rw[if_neg (by decide+kernel)];exact⟨rfl,rfl⟩))
  (fun os started H enc _=>lifted os started H enc)
theorem proved:Rows.TopCircuitSolvedSaid:=pT
#print axioms proved
end Go.Proofs.YtigjjjpcjnifhaaGreat.Law2
