/- For every valid model and every string of at most 3000 bytes, printing and parsing tables return what the reference implementation returns. No conditions. -/
import Derived.Test.YtijkecidjjicbaaGreatDoorAqQL
import Derived.Test.YtijkecidjjicbaaGreatDoorAbL2
import Derived.Test.YtijkecidjjicbaaGreatDoorAbL3
import Derived.Test.YtijkecidjjicbaaGreatDoorRows
import Derived.Test.YtijkecidjjicbaaGreatDoorTie
import Derived.Test.YtijkecidjjicbaaGreatDoorCards
import Derived.SevenTiedAt
import Derived.LaidMore
import Derived.Stop.Joined
import Derived.Stop.LaidErr
import Derived.ChangeMaps5
import Derived.WalkKit
import Derived.ProofKit
import Derived.OpenShut
import Derived.ChangeOld
import Derived.Below
set_option linter.unusedSimpArgs false
set_option linter.unusedVariables false
namespace Go.Proofs.YtijkecidjjicbaaGreatDoor.Law1
open Go Go.Ab Go.ChangeShapes Go.WideShapes Go.ChangeAt Go.RowKit
set_option linter.unusedVariables false
theorem own:ownKnob Tryz.prog.godebug=none:=by kernel_rfl
theorem laidOut:laidOutB Tryz.prog=true:=by kernel_rfl
theorem rdInts:Rd Tryz.prog 28 (fun l:List Int=>[ints l]) (fun _=>True):=
 Rd.map (Rd.slice (e:=3) (k:=1) (by':=8) Tryz.underlying28 (by kernel_rfl) (by decide) (by kernel_rfl) (by decide) (fun _=>rfl) (Rd.int Tryz.underlying3)) id (fun _=>rfl) (fun _ _=>trivial)
theorem rdSort:Rd Tryz.prog 50 encSo (fun _=>True):=
 Rd.map (Rd.struct (n:=2) Tryz.underlying50 (by kernel_rfl) (RdF.cons (k:=1) (n:=1) rfl (by kernel_rfl) (Rd.string Tryz.underlying9) (RdF.cons (k:=1) (n:=0) rfl (by kernel_rfl) (Rd.bool Tryz.underlying4) RdF.nil))) (fun p=>((p.1,p.2.1):SortM)) (fun p=>rfl) (fun _ _=>trivial)
theorem rdField:Rd Tryz.prog 52 encF (fun _=>True):=
 Rd.map (Rd.struct (n:=3) Tryz.underlying52 (by kernel_rfl) (RdF.cons (k:=1) (n:=2) rfl (by kernel_rfl) (Rd.string Tryz.underlying9) (RdF.cons (k:=1) (n:=1) rfl (by kernel_rfl) rdInts (RdF.cons (k:=1) (n:=0) rfl (by kernel_rfl) (Rd.bool Tryz.underlying4) RdF.nil)))) (fun p=>(⟨p.1,p.2.1,p.2.2.1⟩:FieldM)) (fun p=>rfl) (fun _ _=>trivial)
def encS (s:SpecM):List PV:=[.slice 2 (s.sorts.map encSo),.slice 3 (s.fields.map encF),.lit (.slice s.preds.a s.preds.l s.preds.c),.lit (.slice s.facts.a s.facts.l s.facts.c)]
theorem rdSpec:Rd Tryz.prog 27 encS (fun _=>True):=
 Rd.map (Rd.struct (n:=4) Tryz.underlying27 (by kernel_rfl) (RdF.cons (k:=1) (n:=3) rfl (by kernel_rfl) (Rd.slice (e:=50) (k:=2) (by':=24) Tryz.underlying22 (by kernel_rfl) (by decide) (by kernel_rfl) (by decide) (fun _=>rfl) rdSort) (RdF.cons (k:=1) (n:=2) rfl (by kernel_rfl) (Rd.slice (e:=52) (k:=3) (by':=48) Tryz.underlying23 (by kernel_rfl) (by decide) (by kernel_rfl) (by decide) (fun _=>rfl) rdField) (RdF.cons (k:=1) (n:=1) rfl (by kernel_rfl) (Rd.raw Tryz.underlying24) (RdF.cons (k:=1) (n:=0) rfl (by kernel_rfl) (Rd.raw Tryz.underlying25) RdF.nil)))))
  (fun p=>(⟨p.1,p.2.1,⟨p.2.2.1.1,p.2.2.1.2.1,p.2.2.1.2.2⟩,⟨p.2.2.2.1.1,p.2.2.2.1.2.1,p.2.2.2.1.2.2⟩⟩:SpecM)) (fun p=>rfl) (fun _ _=>trivial)
theorem rdScope:Rd Tryz.prog 30 (fun p:List Int×Int=>[ints p.1,.lit (.int .i64 p.2)]) (fun _=>True):=
 Rd.map (Rd.struct (n:=2) Tryz.underlying30 (by kernel_rfl) (RdF.cons (k:=1) (n:=1) rfl (by kernel_rfl) rdInts (RdF.cons (k:=1) (n:=0) rfl (by kernel_rfl) (Rd.int Tryz.underlying3) RdF.nil))) (fun p=>(p.1,p.2.1)) (fun p=>rfl) (fun _ _=>trivial)
theorem rdRel:Rd Tryz.prog 54 encR (fun _=>True):=
 Rd.map (Rd.struct (n:=2) Tryz.underlying54 (by kernel_rfl) (RdF.cons (k:=1) (n:=1) rfl (by kernel_rfl) (Rd.int Tryz.underlying3) (RdF.cons (k:=1) (n:=0) rfl (by kernel_rfl) rdInts RdF.nil))) (fun p=>(p.1,p.2.1)) (fun p=>rfl) (fun _ _=>trivial)
theorem rdRels:Rd Tryz.prog 55 (fun l:List RelM=>[rels l]) (fun _=>True):=
 Rd.map (Rd.slice (e:=54) (k:=2) (by':=32) Tryz.underlying55 (by kernel_rfl) (by decide) (by kernel_rfl) (by decide) (fun _=>rfl) rdRel) id (fun _=>rfl) (fun _ _=>trivial)
theorem rdStts:Rd Tryz.prog 31 (fun l:List (List RelM)=>[stts l]) (fun _=>True):=
 Rd.map (Rd.slice (e:=55) (k:=1) (by':=24) Tryz.underlying31 (by kernel_rfl) (by decide) (by kernel_rfl) (by decide) (fun _=>rfl) rdRels) id (fun _=>rfl) (fun _ _=>trivial)
def encM (m:ModM):List PV:=[ints m.atoms,.lit (.int .i64 m.steps),stts m.states,.lit (.int .i64 m.loop)]
theorem rdMdl:Rd Tryz.prog 33 encM (fun _=>True):=
 Rd.map (Rd.struct (n:=4) Tryz.underlying33 (by kernel_rfl) (RdF.cons (k:=2) (n:=2) rfl (by kernel_rfl) rdScope (RdF.cons (k:=1) (n:=1) rfl (by kernel_rfl) rdStts (RdF.cons (k:=1) (n:=0) rfl (by kernel_rfl) (Rd.int Tryz.underlying3) RdF.nil)))) (fun p=>(⟨p.1.1,p.1.2,p.2.1,p.2.2.1⟩:ModM)) (fun p=>rfl) (fun _ _=>trivial)
theorem ra_true {N:Nat→Prop} {w:World} {v:Value} (h:RA (pcx N) w v (litB true)):v=.bool true:=by
 cases h with
 |pv h=>cases h;rfl
noncomputable abbrev laidOf {H:Type}:List (String×DataW H):=[("math/bits.deBruijn32tab",Rows.laid_math_bits_deBruijn32tab),("math/bits.deBruijn64tab",Rows.laid_math_bits_deBruijn64tab),("internal/strconv.uint64pow10",Rows.laid_internal_strconv_uint64pow10),("strconv.ErrRange",Rows.laid_strconv_ErrRange),("strconv.ErrSyntax",Rows.laid_strconv_ErrSyntax)]
set_option maxRecDepth 100000 in
theorem door_met (os:Os) (args:Array Value):laidMetH Tryz.prog laidOf ((World.doorLaid Tryz.prog 62 os).forCall (fun _ _=>0) ⟨#[],args,[]⟩).memory:=
 laidMetH_of_parts3 (fuel:=8) (laidMet_of_run' 8 (by kernel_rfl) (by kernel_rfl)) (by kernel_rfl) (by kernel_rfl)
theorem rowErr (u:TypeId) (h:Tryz.prog.typeName? 3 u=some "*errors.errorString"):u=188:=
 typeName_ptr_named (nm:= "errors.errorString") (by rw[show "*" ++ "errors.errorString" = "*errors.errorString" by decide];kernel_rfl) (by kernel_rfl) (by decide) u (by rw[show "*" ++ "errors.errorString" = "*errors.errorString" by decide];exact h)
theorem errHere {W:World} (h:laidMetH Tryz.prog laidOf W):errT W:=by
 have h1:laidMet Tryz.prog laidOf W:=h
 obtain⟨a,_,hv,_⟩:=laid_sentinel h1.tail.tail.tail.tail (g:=1) (ti:=58) (tp:=188) (te:=190) (ts:=9) (by kernel_rfl) (by kernel_rfl) Tryz.underlying58 rowErr Tryz.underlying188 Tryz.underlying190 rfl rfl Tryz.underlying9 (by kernel_rfl) (by kernel_rfl)
 exact⟨_,_,hv⟩
set_option maxRecDepth 100000 in
theorem lifted (os:Os) (started:os.Started) (H:Type) (enc:TypeId×Value→H):
  ReturnsInHanded {} Tryz.checked os 3 .any (fun w args=>(Rows.tableMatchesReferenceSpec.pre enc Tryz.prog Tryz.f3 [] false w args∧laidMetH Tryz.prog laidOf w)∧sizedMet enc Tryz.prog Tryz.f3 (OpenSpec.ofChange Rows.tableMatchesReferenceSpec) false w args) (Rows.tableMatchesReferenceSpec.post enc Tryz.prog Tryz.f3 false true false false):=by
 refine returnsInHanded_of_change_and (C:=Tryz.checked) (X:=fun w _=>laidMetH Tryz.prog laidOf w) (fun _ _ _ hh h=>h.of_heap hh) own started (by kernel_rfl) Tryz.func3
  (ChangeSpec.witness_shaped (enc:=enc) (C:=Tryz.checked) (os:=os) (X:=fun w _=>laidMetH Tryz.prog laidOf w) false (World.doorLaid Tryz.prog 62 os) #[.agg #[.slice none 0 0,.slice none 0 0,.slice none 0 0,.slice none 0 0],.agg #[.slice none 0 0,.int .i64 0,.slice none 0 0,.int .i64 0],.string ⟨#[]⟩] 8 rfl (World.shaped_of_RefB (by kernel_rfl) (by kernel_rfl)) (by kernel_rfl) (by kernel_rfl) (by kernel_rfl) (door_met os _)) ?_
 intro W base args ds gs before hval0 hW hcnd hsz hL _
 have hval:∀(j:Nat) t v,Tryz.f3.params[j]? =some t→args[j]? =some v→Value.okWide Tryz.prog W .any base t v:=hval0
 have hW':=hW
 obtain⟨p,q,hA0,hV,rfl,hfz,hnd⟩:=hW
 have hA:DataW.TrodAll enc Tryz.prog W 0 (fun _=>true) true Tryz.f3.params.toList args.toList ds p:=hA0
 rw[Tryz.params3] at hA hval
 obtain⟨v0,vs0,d0,ds0,p0,q0,hargs,rfl,rfl,h0,r0⟩:=trodAll_cons hA
 obtain⟨v1,vs1,d1,ds1,p1,q1,rfl,rfl,rfl,h1,r1⟩:=trodAll_cons r0
 obtain⟨v2,vs2,d2,ds2,p2,q2,rfl,rfl,rfl,h2,r2⟩:=trodAll_cons r1
 obtain⟨rfl,rfl,rfl⟩:=trodAll_nil r2
 obtain rfl:args= #[v0,v1,v2]:=by cases args;simp_all
 obtain⟨rfl,rfl⟩:=trodVars_none hV
 have wt:∀(j:Nat) (t:TypeId) (d:DataW H),[27,33,9][j]? =some t→[d0,d1,d2][j]? =some d→∀n∈d.weights Tryz.prog t,n≤reachBytes:=by
  intro j t d ht hd
  have hj:j<3:=(List.getElem?_eq_some_iff.1 ht).1
  refine arg_weights hsz (j:=j) ?_ ?_
  ·rw[List.getElem?_append_left (by rw[Tryz.params3];exact hj),Tryz.params3];exact ht
  ·rw[List.getElem?_append_left (by simpa using hj)];exact hd
 obtain⟨cs0,rfl⟩:=Ab.okWide_struct Tryz.underlying27 (hval 0 27 v0 rfl rfl)
 obtain⟨cs1,rfl⟩:=Ab.okWide_struct Tryz.underlying33 (hval 1 33 v1 rfl rfl)
 obtain⟨x0,s0,o0⟩:=arg_agg rdSpec h0 (wt 0 27 d0 rfl rfl) rfl
 obtain⟨x1,s1,o1⟩:=arg_agg rdMdl h1 (wt 1 33 d1 rfl rfl) rfl
 obtain⟨b2,rfl,e2,e2',z2⟩:=ChangeMaps.open_string Tryz.underlying9 (hval 2 9 v2 rfl rfl) h2
 have s2:RA (pcx fun _=>True) W (.string b2) (litS (mkS (sL b2))):=by rw[mk_sL];exact .pv (.lit _)
 have lt0:∀x∈p0,x.block<W.heap.size:=by obtain⟨m,hm⟩:=h0;exact DataW.trod_lt m _ _ _ hm
 have lt1:∀x∈p1,x.block<W.heap.size:=by obtain⟨m,hm⟩:=h1;exact DataW.trod_lt m _ _ _ hm
 have lt2:∀x∈p2,x.block<W.heap.size:=by obtain⟨m,hm⟩:=h2;exact DataW.trod_lt m _ _ _ hm
 clear hA0 hval0
 refine((lawRef_fn x0 x1 (sL b2)).calls (fun _=>True) W _ (errHere hL) (fun _ _=>trivial) rfl ?_).mono fun e W' ⟨v,he,hv,bel⟩=>?_
 ·intro j v av hj hav
  match j,hj,hav with
  |0,hj,hav=>cases hj;cases hav;exact s0
  |1,hj,hav=>cases hj;cases hav;exact s1
  |2,hj,hav=>cases hj;cases hav;exact s2
  |j+3,hj,hav=>simp at hav
 ·obtain rfl:=ra_true hv
  subst he
  exact⟨_,rfl,_,_,_,[],_,[],hW',trodAll_mk1 (shut_bool Tryz.underlying4 _),(trodAll_cons_mk (Below.trod laidOut (by kernel_rfl) (of_decide_eq_true (by kernel_rfl)) h0 bel lt0) (trodAll_cons_mk (Below.trod laidOut (by kernel_rfl) (of_decide_eq_true (by kernel_rfl)) h1 bel lt1) (trodAll_cons_mk (Below.trod laidOut (by kernel_rfl) (of_decide_eq_true (by kernel_rfl)) h2 bel lt2) trodAll_mk0))),rfl,bel.frame _,fun h=>by cases h⟩
theorem over:Rows.tableMatchesReferenceRow.holds Tryz.pinned (OpenSpec.ofChange Rows.tableMatchesReferenceSpec):=
 OpenClaim.holds_of_wide 3 Tryz.f3 rfl rfl rfl rfl rfl rfl rfl ⟨rfl,rfl,rfl,rfl,rfl⟩ rfl rfl rfl rfl rfl (by kernel_rfl) Tryz.func3 (by kernel_rfl)
  (of_decide_eq_true (by kernel_rfl)) (by unfold Func.isWrapper;first|(rw[if_pos (by decide+kernel)];kernel_rfl)|(rw[if_neg (by decide+kernel)];exact⟨rfl,rfl⟩))
  (fun os started H enc _=>lifted os started H enc)
set_option maxRecDepth 100000 in
theorem proved:Rows.TableMatchesReferenceCardSaid:=
 Claim7.holds_tied_plain_at .later [] [.data,.data,.data,.sentinel,.sentinel] true (true, "0ece976bdfb03ccaad2ced6d24e0ca89ff43059ee33ad792ea19b17f3b6203ec") true
  over (fun _ h=>by cases h) (by kernel_rfl) (fun _ h=>by cases h) tableMatchesReference_row_tie rfl ⟨rfl,rfl⟩ (by kernel_rfl) rfl
  (fun f fn hf hfn=>by
   obtain rfl:f=3:=Option.some.inj ((show Tryz.prog.funcNamed "armature/armaturelaw34.TableMatchesReference" =some 3 by kernel_rfl).symm.trans hf)|>.symm
   obtain rfl:fn=Tryz.f3:=(Option.some.inj (Tryz.func3.symm.trans hfn)).symm
   exact⟨by kernel_rfl,fun j t ht=>by
    rw[Tryz.params3] at ht
    have hm:t∈ [27,33,9]:=by simpa using Array.mem_of_getElem? ht
    have hall:([27,33,9].all fun u=>!Tryz.prog.wantsStandIn u)=true:=by kernel_rfl
    exact(show Tryz.prog.wantsStandIn t=false by simpa using List.all_eq_true.1 hall t hm)⟩)
  (by kernel_rfl)
#print axioms proved
end Go.Proofs.YtijkecidjjicbaaGreatDoor.Law1
