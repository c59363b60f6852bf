/- For every formula, the proof of the solver is the same after it is written as text and read back, and the checker accepts it; without its last byte the text is not read. No conditions. -/
import Derived.Test.YtigjjjpcjnifhaaGreatDoorAvNC7
import Derived.Test.YtigjjjpcjnifhaaGreatDoorAbZ
import Derived.Test.YtigjjjpcjnifhaaGreatDoorAbL3
import Derived.Test.YtigjjjpcjnifhaaGreatDoorAvC2
import Derived.Test.YtigjjjpcjnifhaaGreatDoorAbL4
import Derived.Lib.AppendIntMem
import Derived.Test.YtigjjjpcjnifhaaGreatDoorAbL2
import Derived.Test.YtigjjjpcjnifhaaGreatDoorAvS7
import Derived.Test.YtigjjjpcjnifhaaGreatDoorRows
import Derived.Test.YtigjjjpcjnifhaaGreatDoorTie
import Derived.Test.YtigjjjpcjnifhaaGreatDoorCards
import Derived.SevenTiedAt
import Derived.LaidMore
import Derived.Stop.Joined
import Derived.Lay
import Derived.Stop.LaidErr
import Derived.Lib.LaidTab
import Derived.ChangeMaps5
import Derived.WalkKit
import Derived.ProofKit
import Derived.OpenShut
import Derived.ChangeOld
import Derived.Below
set_option linter.unusedSimpArgs false
set_option linter.unusedVariables false
open Nat renaming le_refl→aP,zero_le→bk,reduceBEq→di
open List renaming length_pos_iff→dK,length_map→a6,mem_map→bw,getElem?_map→a7,getElem?_eq_some_iff→aW,getD_eq_getElem?_getD→c8,map_append→cU,length_take→dI,mem_of_mem_take→cS,take_succ_eq_append_getElem→dp,flatMap_append→dM,flatMap_singleton→dN,take_length→da,flatMap_map→dO,getElem_mem→cZ,length_append→bV,length_cons→dP,length_drop→cQ,drop_eq_getElem_cons→dm,drop_length→dQ,length_take_le→dR,getElem?_append_left→aT
open Array renaming toList_inj→dL
namespace Go.Ab.N19
open Go Go.Proofs Go.RowKit Go.Ab
open Nat (reduceAdd reduceSub)
set_option maxRecDepth 20000
set_option maxHeartbeats 4000000
def AO (w:World):Prop:=Lib.TabIs Tryz.prog w "internal/strconv.uint64pow10" .u64 Lib.pow10Tab
theorem mU:To AO:=fun w w' h hb=>Lib.tabBelow_of_tabIs h w' hb
def CT (n:Int):ByteArray:=⟨(Lib.itoa n).toArray⟩
theorem wo {n:Int} (h: -1000000000<n∧n<1000000000):xX AO Tryz.prog 32 [e7 n] (iO (CT n)) where
 enters:=enters_of Tryz.func32 rfl (by decide)
 calls:=by
  intro N w vals hT hN hs fX
  have hs:vals.size=1:=hs
  obtain⟨v0,rfl⟩:∃v0,vals= #[v0]:=by
   rcases vals with ⟨_|⟨v0,_|_⟩⟩<;>simp at hs
   exact⟨v0,rfl⟩
  have h0:=(fX 0 v0 _ rfl rfl).lit
  subst h0
  exact(Tryz.strconv_Itoa n aJ aJ w hT).mono fun e w' ⟨he,k,os,hw⟩=>⟨_,he,.pv (.lit _),hw▸Lib.below_grow w.heap.size w (aP _) k os⟩
attribute [local irreducible] AW a_ ga ft AR fB fp fG fU canon eW Ai JW l4 Om
theorem yA (l:List Int) (hl:l.length≤1000000):L1 Tryz.prog 43 [.pv (ints l)] 3 1 (l.map nI):=by
 rw[show l.map nI=l.map encI from rfl]
 refine L1.enter (n:=8) Tryz.func43 rfl rfl rfl rfl rfl (by decide) fun g fE fD=>?_;(try refine nz ?_)
 by_cases h0:l=[]
 ·subst h0
  have e0:([]:List Int).length=0:=rfl
  (refine ta ?_;(focus ((with_reducible apply a_.rR);(iterate 6 exact rfl);all_goals intro r6));refine vc ?_;(all_goals skip);rotate_left;refine G0 ?_;refine uc ?_;(with_reducible apply a_.fJ);exact rfl;exact ah;(iterate 9 exact rfl);exact aa;refine nz ?_;refine tE ?_;(all_goals skip);rotate_left)
  all_goals ((first|(refine jj (gn.one (.tmp rfl rfl)) ?_)|(refine jj (gn.one (.cell1 rfl rfl rfl rfl)) ?_)|(refine mY (gn.one (.tmp rfl rfl)) ?_));(first|rfl|simp))
 ·have e0:0<l.length:=dK.2 h0
  have e1:¬l.map encI=[]:=by simpa using h0
  clear h0
  (refine ta ?_;(focus ((with_reducible apply a_.rR);(iterate 6 exact rfl);all_goals intro r6));refine vc ?_;(all_goals skip);rotate_left;refine G0 ?_;refine uc ?_;(with_reducible apply a_.fJ);exact rfl;exact ah;(iterate 9 exact rfl);exact aa;refine nz ?_;refine tE ?_;(all_goals skip);rotate_left)
  ·exact absurd r6 e1
  ·((first|(refine jj (gn.one (.tmp rfl rfl)) ?_)|(refine jj (gn.one (.cell1 rfl rfl rfl rfl)) ?_)|(refine mY (gn.one (.tmp rfl rfl)) ?_));(first|rfl|simp))
end Go.Ab.N19
/- The text of a proof:the library's functions on strings,and the builder. -/
namespace Go.Ab
open Go Go.Proofs Go.RowKit
set_option maxRecDepth 20000
set_option maxHeartbeats 4000000
theorem ko (l:Bt):(ic l).size=l.length:=rfl
theorem Fb (l:Bt):(ic l).data.toList=l:=rfl
theorem DY (a b:Bt):ic a++ic b=ic (a++b):=by
 apply ByteArray.ext
 apply dL.1
 simp [ic]
theorem D9 (l:Bt) (a b:Nat):(ic l).extract a b=ic ((l.drop a).take (b - a)):=by
 apply ByteArray.ext
 apply dL.1
 rw[Lib.extract_data]
 rfl
abbrev Yi (v:Bt):List PV:=[.lit (.string (ic v))]
abbrev KM (ws:List Bt):AV:=.pv (.slice 1 (ws.map Yi))
theorem Nw (a b:Bt):Fn Tryz.prog 97 [iO (ic a),iO (ic b)] (iO (ic (Lib.trimPrefix a b))) where
 enters:=enters_of Tryz.func97 rfl (by decide)
 calls:=by
  intro N w vals hN hs fX
  have hs:vals.size=2:=hs
  obtain⟨v0,v1,rfl⟩:∃v0 v1,vals= #[v0,v1]:=by
   rcases vals with ⟨_|⟨v0,_|⟨v1,_|_⟩⟩⟩<;>simp at hs
   exact⟨v0,v1,rfl⟩
  have h0:=(fX 0 v0 _ rfl rfl).lit
  have h1:=(fX 1 v1 _ rfl rfl).lit
  subst h0
  subst h1
  exact(Tryz.strings_TrimPrefix (ic a) (ic b) w).mono fun e w' ⟨he,hw⟩=>⟨_,he,.pv (.lit _),hw▸Below.refl _ _⟩
theorem FL (a:Bt) (c:UInt8):Fn Tryz.prog 95 [iO (ic a),iO (ic [c])] (e7 (Lib.indexByte a c)) where
 enters:=enters_of Tryz.func95 rfl (by decide)
 calls:=by
  intro N w vals hN hs fX
  have hs:vals.size=2:=hs
  obtain⟨v0,v1,rfl⟩:∃v0 v1,vals= #[v0,v1]:=by
   rcases vals with ⟨_|⟨v0,_|⟨v1,_|_⟩⟩⟩<;>simp at hs
   exact⟨v0,v1,rfl⟩
  have h0:=(fX 0 v0 _ rfl rfl).lit
  have h1:=(fX 1 v1 _ rfl rfl).lit
  subst h0
  subst h1
  exact(Tryz.stringslite_Index_one (ic a) c w).mono fun e w' ⟨he,hw⟩=>⟨_,he,.pv (.lit _),hw▸Below.refl _ _⟩
theorem Ly (a:Bt) (c:Int):Fn Tryz.prog 73 [iO (ic a),.pv (.lit (.int .u8 c))] (e7 (Lib.indexByte a c.toNat.toUInt8)) where
 enters:=enters_of Tryz.func73 rfl (by decide)
 calls:=by
  intro N w vals hN hs fX
  have hs:vals.size=2:=hs
  obtain⟨v0,v1,rfl⟩:∃v0 v1,vals= #[v0,v1]:=by
   rcases vals with ⟨_|⟨v0,_|⟨v1,_|_⟩⟩⟩<;>simp at hs
   exact⟨v0,v1,rfl⟩
  have h0:=(fX 0 v0 _ rfl rfl).lit
  have h1:=(fX 1 v1 _ rfl rfl).lit
  subst h0
  subst h1
  exact(Tryz.strings_IndexByte (ic a) c w).mono fun e w' ⟨he,hw⟩=>⟨_,he,.pv (.lit _),hw▸Below.refl _ _⟩
theorem KP {u:Bt} {v:Int} (hl:u.length≤18) (h:Lib.atoi u=some v):Fn Tryz.prog 98 [iO (ic u)] (.gM [e7 v,.pv (.lit .nilIface)]) where
 enters:=enters_of Tryz.func98 rfl (by decide)
 calls:=by
  intro N w vals hN hs fX
  have hs:vals.size=1:=hs
  obtain⟨v0,rfl⟩:∃v0,vals= #[v0]:=by
   rcases vals with ⟨_|⟨v0,_|_⟩⟩<;>simp at hs
   exact⟨v0,rfl⟩
  have h0:=(fX 0 v0 _ rfl rfl).lit
  subst h0
  refine(Tryz.strconv_Atoi (ic u) v (by rw[ko];exact hl) (by rw[Fb];exact h) w).mono fun e w' ⟨he,t,hw⟩=>⟨_,he,?_,hw▸Lib.bytesWorld_below _ _ _⟩
  refine .gM rfl fun j x c h1 h2=>?_
  match j,h1,h2 with
  |0,h1,h2=>simp at h1 h2;subst h1;subst h2;exact .pv (.lit _)
  |1,h1,h2=>simp at h1 h2;subst h1;subst h2;exact .pv (.lit _)
  |j+2,h1,h2=>simp at h2
theorem Pn (s:ByteArray) (c:UInt8) (hs:s.size<100000000):Fn Tryz.prog 96 [iO s,iO (ic [c]),e7 0,e7 (-1)] (.pv (.slice 1 ((Lib.splitB (ic [c]) 0 (Lib.countB s (ic [c])) s).map fun v=>[.lit (.string v)]))) where
 enters:=enters_of Tryz.func96 rfl (by decide)
 calls:=by
  intro N w vals hN Ns fX
  have Ns:vals.size=4:=Ns
  obtain⟨v0,v1,v2,v3,rfl⟩:∃v0 v1 v2 v3,vals= #[v0,v1,v2,v3]:=by
   rcases vals with ⟨_|⟨v0,_|⟨v1,_|⟨v2,_|⟨v3,_|_⟩⟩⟩⟩⟩<;>simp at Ns
   exact⟨v0,v1,v2,v3,rfl⟩
  have h0:=(fX 0 v0 _ rfl rfl).lit
  have h1:=(fX 1 v1 _ rfl rfl).lit
  have h2:=(fX 2 v2 _ rfl rfl).lit
  have h3:=(fX 3 v3 _ rfl rfl).lit
  subst h0
  subst h1
  subst h2
  subst h3
  have hp:1≤(ic [c]).size:=by rw[ko];simp
  have hle:=Lib.countB_le (ic [c]) hp s.size s (aP _)
  have hlen:=Lib.splitB_all (ic [c]) hp 0 _ s rfl
  have hC:Calls Tryz.prog 123 #[.string s,.string (ic [c])] w fun e w'=>e=.returned (.int .i64 (Lib.countB s (ic [c])))∧w'=w:=
   (Tryz.strings_Count_one s c w).mono fun e w' ⟨he,hw⟩=>⟨by rw[he];show _=Ending.returned (Value.int .i64 ((Lib.count s.data.toList [c]:Nat):Int));rw[Lib.count_one];rfl,hw⟩
  have key:=Any.strings_genSplit_core Tryz.Mn aI s (ic [c]) 0 (-1) (Lib.countB s (ic [c])+1) w aJ hp (bk _)
   (fun x cc _=>(Tryz.strings_Index_one x c _).mono fun e w' ⟨he,hw⟩=>⟨by rw[he];show _=Ending.returned (Value.int .i64 (Lib.index x.data.toList [c]));rw[Lib.index_one],hw⟩) hC (by decide) (by decide) (by rw[if_pos (by decide)];omega)
  rw[Nat.add_sub_cancel,hlen] at key
  generalize Lib.splitB (ic [c]) 0 (Lib.countB s (ic [c])) s=ps at key hlen
  refine key.mono fun e w' ⟨he,hw⟩=>⟨_,he,?_,hw▸(Below.refl _ _).alloc (aP _) _⟩
  rw[← hlen,Lib.cellsOf_full] at hw
  subst hw
  refine .pv (.slice w.heap.size 0 (fun i _=> .string (ps.getD i ByteArray.empty)) (by rw[a6,hlen]) (aP _) aJ (fun _=>⟨rfl,hN _ (aP _),iJ (heap_alloc_new w _)⟩) (fun c hc=>by obtain⟨_,_,rfl⟩:=bw.1 hc;rfl) (fun i j p hp=>?_) (fun i j p hp=>?_))
  ·have hi:i<ps.length∧j=0:=by
    unfold cellAt at hp
    rw[a7] at hp
    cases hq:ps[i]? with
    |none=>rw[hq] at hp;cases hp
    |some q=>
     rw[hq] at hp
     refine⟨(aW.1 hq).1,?_⟩
     rcases j with _|j
     ·rfl
     ·simp at hp
   obtain⟨hi,rfl⟩:=hi
   refine⟨?_,rfl⟩
   rw[Lib.cell_of_heap (heap_alloc_new w _)]
   simp [c8,hi]
  ·unfold cellAt at hp
   rw[a7] at hp
   cases hq:ps[i]? with
   |none=>rw[hq] at hp;cases hp
   |some q=>
    rw[hq] at hp
    rcases j with _|j
    ·simp only[Option.map_some,Option.bind_some,List.getElem?_cons_zero,Option.some.injEq] at hp
     subst hp
     rw[c8,hq]
     exact .lit _
    ·simp at hp
attribute [local irreducible] AW a_ ga ft AR fB fp fG fU jw ic
theorem IE (w:Bt) (ws:List Bt) (h:∀d∈w,d≠32) (h2:∀v∈ws,∀d∈v,d≠32) (hl:(iY w ws).length<100000000):Fn Tryz.prog 71 [iO (ic (iY w ws)),iO (ic [32])] (KM (w::ws)):=by
 have hg:=Pn (ic (iY w ws)) 32 (by rw[ko];exact hl)
 obtain⟨e1,e2⟩:=zI ws w h h2
 rw[e1,e2,List.map_map] at hg
 refine Fn.enter (n:=8) Tryz.func71 rfl rfl rfl rfl rfl (by decide) fun g fE fD=>?_;(try refine nz ?_)
 (refine sK ?_;(iterate 2 refine zm ?_);refine zP (hg) ?_;refine kH ?_)
 (apply e9;(exact gn.one (.tmp rfl rfl));(refine Le.ia ?_;(rfl)))
theorem E5 (a r:Bt) (h:∀d∈a,d≠10) (hl:(a++10::r).length≤100000000):Fn Tryz.prog 34 [iO (ic (a++10::r)),iO (ic [10])] (.gM [iO (ic a),iO (ic r),fu true]):=by
 have hi:=FL (a++10::r) 10
 rw[AH h] at hi
 have k1:=ko (a++10::r)
 have k2:=ko [10]
 have k3:(a++10::r).length=a.length+1+r.length:=by simp;omega
 have k4:[(10:UInt8)].length=1:=rfl
 have ea:ic a=(ic (a++10::r)).extract 0 ((a.length:Nat):Int).toNat:=by rw[D9];simp
 have er:ic r=(ic (a++10::r)).extract ((a.length:Int)+((ic [10]).size:Nat)).toNat (ic (a++10::r)).size:=by
  rw[D9,k2,k4,k1,show((a.length:Int)+((1:Nat):Int)).toNat=a.length+1 by omega,show(a++10::r).drop (a.length+1)=r by rw[show a++10::r=(a++ [10])++r by simp,show a.length+1=(a++ [10]).length by simp,List.drop_left],List.take_of_length_le aJ]
 have hc:Fn Tryz.prog 70 [iO (ic (a++10::r)),iO (ic [10])] (.gM [iO (ic a),iO (ic r),fu true]):=by
  rw[ea,er]
  clear ea er
  refine Fn.enter (n:=23) Tryz.func70 rfl rfl rfl rfl rfl (by decide) fun g fE fD=>?_;(try refine nz ?_)
  (refine Tw ?_;refine yW ?_;refine zo ?_;(with_reducible apply AW.gk);exact rfl;exact rfl;kernel_rfl;(with_reducible assumption);(iterate 2 refine zm ?_);refine a_.xk rfl rfl rfl rfl rfl rfl aJ aJ ?_;(iterate 3 refine zm ?_);refine a_.o5 rfl rfl rfl rfl ?_;refine zj ?_;refine a_.EL rfl rfl rfl rfl rfl rfl aJ aJ ?_;(iterate 3 refine za ?_);refine zd ?_;refine AW.ret ?_;refine im ?_)
  all_goals (apply e9;(exact gn.three (.tmp rfl rfl) (.tmp rfl rfl) (.tmp rfl rfl));(refine LG ?_;refine jO.cons ?_ ?_;refine Le.fu ?_;(rfl);exact jO.nil))
 refine Fn.enter (n:=13) Tryz.func34 rfl rfl rfl rfl rfl (by decide) fun g fE fD=>?_;(try refine nz ?_)
 (refine T6 ?_)
 (apply e9;(exact gn.three (.tmp rfl rfl) (.tmp rfl rfl) (.tmp rfl rfl));(refine LG ?_;refine jO.cons ?_ ?_;refine Le.fu ?_;(rfl);exact jO.nil))
theorem MM (a:Bt) (h:∀d∈a,d≠10):Fn Tryz.prog 34 [iO (ic a),iO (ic [10])] (.gM [iO (ic a),iO ByteArray.empty,fu false]):=by
 have hi:=FL a 10
 rw[Bq h] at hi
 have hc:Fn Tryz.prog 70 [iO (ic a),iO (ic [10])] (.gM [iO (ic a),iO ByteArray.empty,fu false]):=by
  refine Fn.enter (n:=23) Tryz.func70 rfl rfl rfl rfl rfl (by decide) fun g fE fD=>?_;(try refine nz ?_)
  (refine Tw ?_;refine C9 ?_;refine zm ?_;(iterate 3 refine za ?_);refine zd ?_;refine AW.ret ?_)
  all_goals (apply e9;(exact gn.three (.tmp rfl rfl) (.tmp rfl rfl) (.tmp rfl rfl));(refine LG ?_;refine jO.cons ?_ ?_;refine Le.fu ?_;(rfl);exact jO.nil))
 refine Fn.enter (n:=13) Tryz.func34 rfl rfl rfl rfl rfl (by decide) fun g fE fD=>?_;(try refine nz ?_)
 (refine T6 ?_)
 (apply e9;(exact gn.three (.tmp rfl rfl) (.tmp rfl rfl) (.tmp rfl rfl));(refine LG ?_;refine jO.cons ?_ ?_;refine Le.fu ?_;(rfl);exact jO.nil))
end Go.Ab
/- The text of a proof:the builder and Encode,walked. -/
namespace Go.Ab
open Go Go.Proofs Go.RowKit
set_option maxRecDepth 20000
set_option maxHeartbeats 4000000
def Pg:Nat→Bt→Ob
 |0,_=> .lit 63 #[.pointer none,.slice none 0 0]
 |_+1,l=> .box [.ptr 0 0,.own 1 5 1 (il l)]
abbrev V0:List (Nat×Option Ob):=[(0,some (.lit 63 #[.pointer none,.slice none 0 0])),(1,some .row)]
abbrev VB (l:List UInt8):List (Nat×Option Ob):=[(0,some (.box [.ptr 0 0,.own 1 5 1 (il l)])),(1,some .row)]
attribute [local irreducible] AW a_ ga ft AR fB fp fG fU jw ic
theorem Hg:mg Tryz.prog 68 2 V0 [.ptr 0 0] [(0,some (.box [.ptr 0 0,.own 1 5 1 []])),(1,some .row)] (.gM []):=by
 unfold V0
 refine mg.enter (n:=20) Tryz.func68 rfl rfl rfl rfl rfl (by decide) rfl rfl fun g fE fD=>?_;refine qz ?_
 (refine zq ?_;refine oF ?_;refine a_.b_ 63 0 0 rfl rfl rfl rfl ?_;refine a_.KG rfl rfl rfl rfl rfl rfl ?_;refine a_.T4 rfl rfl rfl rfl rfl rfl rfl ?_;refine yW ?_;refine p_ ?_;(iterate 2 refine a_.fC rfl rfl rfl ?_);(with_reducible apply a_.Kh);(iterate 8 exact rfl);(with_reducible apply a_.IP (hf:=Tryz.func93));decide;exact rfl;kernel_rfl;kernel_rfl;(iterate 3 exact rfl);(with_reducible apply a_.DB);(iterate 5 exact rfl);kernel_rfl;exact rfl;exact rfl;refine a_.fe rfl rfl rfl ?_;refine a_.b_ 63 0 0 rfl rfl rfl rfl ?_;(with_reducible apply a_.tQ);(iterate 3 exact rfl);(focus ((repeat (first|exact Bl.nil|apply Bl.cons));done));(iterate 7 exact rfl);(with_reducible assumption);refine nz ?_;refine a_.nil ?_)
 (apply lI;((exact gn.none));((exact py));((refine⟨.box _ rfl ?_,?_⟩;refine aC ?_;refine⟨.nilrow _ _ _ rfl,?_⟩;exact trivial;exact zQ));exact rfl)
theorem yY (l:List UInt8):mg Tryz.prog 68 2 (VB l) [.ptr 0 0] (VB l) (.gM []):=by
 unfold VB
 refine mg.enter (n:=20) Tryz.func68 rfl rfl rfl rfl rfl (by decide) rfl rfl fun g fE fD=>?_;refine qz ?_
 (refine zq ?_;refine oF ?_;refine a_.b_ 63 0 0 rfl rfl rfl rfl ?_;refine zb ?_;refine a_.OP rfl rfl rfl rfl rfl rfl rfl ?_;refine zd ?_;refine AW.jV rfl rfl ?_;refine mF ?_;refine oF ?_;refine a_.b_ 63 0 0 rfl rfl rfl rfl ?_;refine zb ?_;refine a_.fC rfl rfl rfl ?_;refine a_.RH rfl rfl rfl rfl rfl rfl rfl ?_;refine Ot ?_)
 (apply lI;((exact gn.none));((exact py));((exact PQ));exact rfl)
theorem HC (c:UInt8):mg Tryz.prog 29 2 V0 [.ptr 0 0,.pv (.lit (.int .u8 c.toNat))] (VB [c]) .any:=by
 have hc:=Hg
 have hl:(List.nil:List UInt8).length=0:=rfl
 unfold V0 VB at*
 refine mg.enter (n:=17) Tryz.func29 rfl rfl rfl rfl rfl (by decide) rfl rfl fun g fE fD=>?_;refine qz ?_
 (refine sK ?_;refine PK ?_;refine x7 ?_;(with_reducible apply a_.fJ);exact rfl;exact ah;(iterate 9 exact rfl);exact aa;refine nz ?_;refine Pz ?_;refine kH ?_)
 (apply hY;((exact gn.one (.tmp rfl rfl)));((refine⟨.any _,?_⟩;exact vw));((exact PQ));exact rfl)
theorem KO (l:List UInt8) (c:UInt8) (hl:l.length≤100000000):mg Tryz.prog 29 2 (VB l) [.ptr 0 0,.pv (.lit (.int .u8 c.toNat))] (VB (l++ [c])) .any:=by
 have hc:=yY l
 have hb:(il l).length≤100000000:=by rw[nv];exact hl
 unfold VB at*
 refine mg.enter (n:=17) Tryz.func29 rfl rfl rfl rfl rfl (by decide) rfl rfl fun g fE fD=>?_;refine qz ?_
 (refine sK ?_;refine PK ?_;refine x7 ?_;(with_reducible apply a_.fJ);exact rfl;exact ah;(iterate 9 exact rfl);exact aa;refine nz ?_;refine Pz ?_;refine kH ?_)
 (apply hY;((exact gn.one (.tmp rfl rfl)));((refine⟨.any _,?_⟩;exact vw));((refine⟨.box _ rfl ?_,?_⟩;refine aC ?_;refine⟨.fj (by first|rfl|(unfold il;rw[cU];rfl)) rfl,?_⟩;exact trivial;exact zQ));exact rfl)
theorem vz (l s:Bt) (hs:s.length≤100000000) (hl:l.length≤100000000):mg Tryz.prog 31 2 (VB l) [.ptr 0 0,iO (ic s)] (VB (l++s)) .any:=by
 have hc:=yY l
 have hz:=ko s
 have Ns:(ic s).size≤100000000:=by rw[hz];exact hs
 rw[show VB (l++s)=VB (l++(ic s).data.toList) by rw[Fb]]
 clear hz hs
 generalize ic s=z at*
 unfold VB at*
 refine mg.enter (n:=19) Tryz.func31 rfl rfl rfl rfl rfl (by decide) rfl rfl fun g fE fD=>?_;refine qz ?_
 (refine zq ?_;refine lj ?_;refine mF ?_;refine PK ?_;(with_reducible apply a_.rG);(iterate 9 exact rfl);exact aa;refine nz ?_;refine Pz ?_;refine zm ?_;refine a_.o5 rfl rfl rfl rfl ?_;refine lj ?_;refine AW.ret ?_)
 (apply hY;((exact gn.two (.tmp rfl rfl) (.tmp rfl rfl)));((refine⟨.any _,?_⟩;exact vw));((exact PQ));exact rfl)
theorem Ht:Fn Tryz.prog 30 [e7 1] (.pv (.lit (.int .u8 108))):=by
 show Fn Tryz.prog 30 [e7 ((1:Nat):Int)] (.pv (.lit (.int .u8 (tD ⟨#[63,108,100,101,115]⟩ 1))))
 have hz:(1:Nat)<(ByteArray.mk #[63,108,100,101,115]).size:=by decide
 refine Fn.enter (n:=12) Tryz.func30 rfl rfl rfl rfl rfl (by decide) fun g fE fD=>?_;(try refine nz ?_)
 (refine ta ?_;refine zs ?_;refine xH ?_;refine a_.geq rfl rfl rfl rfl rfl ?_;refine a_.iy rfl rfl rfl rfl rfl rfl ?_;refine C9 ?_;refine zm ?_;refine a_.yw rfl rfl rfl rfl rfl rfl aJ ?_;refine kH ?_)
 (apply e9;(exact gn.one (.tmp rfl rfl));(exact Le.pv _))
end Go.Ab
/- The text of a proof:Encode,walked. -/
namespace Go.Ab
open Go Go.Proofs Go.RowKit
open Nat (reduceAdd reduceSub)
set_option maxRecDepth 20000
set_option maxHeartbeats 4000000
theorem HY.take {P:List (List Int)} (h:HY P) (k:Nat):HY (P.take k):=⟨by have:=h.1;rw[dI];omega,fun c hc=>h.2 c (cS hc)⟩
theorem HI (P:List (List Int)) {k:Nat} (hk:k<P.length):gf (P.take (k+1))=gf (P.take k)++(gU P[k]++ [10]):=by
 unfold gf
 rw[dp hk,dM,dN]
def oT (l:Bt) (c:List Int) (j:Nat):Bt:=l++(c.take j).flatMap fun x=>32::Lib.itoa x
theorem B3 (l:Bt) (c:List Int) {j:Nat} (hj:j<c.length):oT l c (j+1)=oT l c j++(32::Lib.itoa c[j]):=by
 unfold oT
 rw[dp hj,dM,dN,List.append_assoc]
theorem iG (l:Bt) (c:List Int):oT l c 0=l:=by simp [oT]
theorem L2 (l:Bt) (c:List Int):oT (l++ [108]) c c.length++ [32,48,10]=l++(gU c++ [10]):=by
 unfold oT gU iY la
 rw[da]
 simp [dM,dO]
theorem LI {P:List (List Int)} (h:HY P) {k:Nat} (hk:k<P.length) {j:Nat} (hj:j≤P[k].length):(oT (gf (P.take k)++ [108]) P[k] j).length≤90000000:=by
 have h1:=su (h.take k)
 have h2:=h.2 _ (cZ hk)
 have h3:((P[k].take j).flatMap fun x=>32::Lib.itoa x).length≤(P[k].take j).length*3:=by
  have:=wG (m:=2) ((P[k].take j).map Lib.itoa) fun v hv=>by
   obtain⟨x,hx,rfl⟩:=bw.1 hv
   exact(yL (h2.2 x (cS hx)).2).1
  rw[dO,a6] at this
  exact this
 have h4:=h.1
 unfold oT
 rw[dI] at h1 h3
 rw[bV,bV,List.length_singleton]
 omega
theorem CF (x:Int):(⟨#[32]⟩:ByteArray)++N19.CT x=ic (32::Lib.itoa x):=DY [32] (Lib.itoa x)
theorem Iq:ic [32,48,10]=⟨#[32,48,10]⟩:=rfl
theorem Ip (l:Bt):Pg 0 l=.lit 63 #[.pointer none,.slice none 0 0]:=rfl
theorem E8 (k:Nat) (l:Bt):Pg (k+1) l=.box [.ptr 0 0,.own 1 5 1 (il l)]:=rfl
theorem C1:mg Tryz.prog 33 2 V0 [.ptr 0 0] [(0,some (.box [.any,.any])),(1,some .row)] (iO (ic [])):=by
 refine⟨enters_of Tryz.func33 rfl (by decide),fun g κ w vals yf je _ r hs fX=>?_⟩
 have hs:vals.size=1:=hs
 obtain⟨v0,rfl⟩:∃v0,vals= #[v0]:=by
  rcases vals with ⟨_|⟨v0,_|_⟩⟩<;>simp at hs
  exact⟨v0,rfl⟩
 have Rr:(XS V0 2).ob 0=some (.lit 63 #[.pointer none,.slice none 0 0]):=rfl
 have MD:(XS V0 2).ob 1=some .row:=rfl
 obtain⟨b,rfl,hκ,H_⟩:=r.Kv (fX 0 v0 _ rfl rfl) Rr
 refine(Any.Builder_String_nil Tryz.Fe Tryz.nQ w.heap.size b (.pointer none) w H_).mono ?_
 rintro en w' ⟨rfl,hb⟩
 have re:=r.ext hb
 obtain⟨b',h1,h2⟩:=re.obj 0 _ Rr
 have Dc:κ 0=some b':=h1
 let eZ:List (Nat×Option Ob):=[(0,some (.box [.any,.any])),(1,some .row)]
 have pk:∀k,(XS eZ 2).live k→(XS V0 2).live k:=by
  rintro k ⟨o,h⟩
  have h:fg eZ k=some o:=h
  rw[fl] at h
  by_cases e1:0=k
  ·subst e1;exact⟨_,Rr⟩
  ·rw[if_neg e1,fl] at h
   by_cases e2:1=k
   ·subst e2;exact⟨_,MD⟩
   ·rw[if_neg e2] at h;cases h
 refine⟨(),κ,⟨_,rfl,.pv (.lit _)⟩,?_,fun k bb hp hk=>hk⟩
 exact
  {n:=re.n
   dfr:=re.dfr
   env:=fun k=> .any _
   obj:=fun k o h=>by
    have h:fg eZ k=some o:=h
    rw[fl] at h
    by_cases e1:0=k
    ·subst e1
     rw[if_pos rfl] at h
     cases h
     refine⟨b', #[.pointer none,.slice none 0 0],_,Dc,h2,rfl,fun m u av h6 h7=>?_⟩
     match m,h6,h7 with
     |0,h6,h7=>simp at h6 h7;subst h6;subst h7;exact⟨.any _,rfl⟩
     |1,h6,h7=>simp at h6 h7;subst h6;subst h7;exact⟨.any _,rfl⟩
     |m+2,h6,h7=>simp at h7
    ·rw[if_neg e1,fl] at h
     by_cases e2:1=k
     ·subst e2
      rw[if_pos rfl] at h
      cases h
      exact re.obj 1 _ MD
     ·rw[if_neg e2] at h;cases h
   inj:=fun i j bb hi hj=>re.inj i j bb (pk i hi) (pk j hj)
   lo:=fun i bb hi=>re.lo i bb (pk i hi)
   nx:=fun i hi=>re.nx i (pk i hi)
   wt:=fun k hk=>by rw[je] at hk;cases hk
   below:=re.below
   hB:=re.hB
   N0:=re.N0
   fr:=by
    refine⟨fun bb vA=>?_,fun x bb vA=>?_⟩
    ·obtain⟨q1,q2,q3⟩:=re.fr.1 bb vA
     exact⟨q1,q2,fun k hk=>q3 k (pk k hk)⟩
    ·obtain⟨q1,q2,q3,q4,q5⟩:=re.fr.2 x bb vA
     exact⟨q1,q2,q3,fun k hk=>q4 k (pk k hk),q5⟩
   km:=re.km}
attribute [local irreducible] AW a_ ga ft AR fB fp fG fU jw ic Pg gf oT gU
theorem HJ (P:List (List Int)) (h:HY P):xX N19.AO Tryz.prog 13 [.pv (.slice 3 (P.map mI))] (iO (ic (gf P))):=by
 have lL:=N19.mU
 have hP:=h.1
 have hz32:(ByteArray.mk #[32]).size=1:=rfl
 refine xX.enter lL (n:=41) Tryz.func13 rfl rfl rfl rfl rfl (by decide) fun g fE fD hT=>?_;(try refine nz ?_)
 (refine sK ?_;(with_reducible apply a_.EN (e:=63) (vals:=Array.mk (Value.pointer none::Value.slice none 0 0::List.nil)));(iterate 3 exact rfl);refine a_.yO ?_;(try refine nz ?_);refine zd ?_;refine mD ?_;refine nj ?_)
 (refine nz ?_;apply AW.gP [9,8,3,2] [] (fun k:Nat=>([(10,e7 k)]:List (Nat×AV))) (fun k:Nat=>([(0,some (Pg k (gf (P.take k)))),(1,some .row)]:List (Nat×Option Ob))) (fun k:Nat=>k≤P.length) (fun k:Nat=>P.length - k) (0);(conv=>lhs;simp only[Nf.n7,Nf.all,di,reduceAdd,reduceSub]);(all_goals skip))
 ·exact bk _
 ·rw[Ip]
  exact fy rfl (by(refine⟨.fh (by first|with_reducible rfl|(rfl)),?_⟩;refine⟨.fh (by first|with_reducible rfl|(rfl)),?_⟩;refine⟨.ia (by first|with_reducible rfl|(rfl)),?_⟩;refine aC ?_;refine⟨.fh (by first|with_reducible rfl|(rfl)),?_⟩;exact trivial)) (by(refine⟨WO.lit rfl,?_⟩;refine aF ?_;exact trivial)) rfl
 rintro k hk
 by_cases fx:k<P.length
 ·have hc:=h.2 _ (cZ fx)
  have sL:=fun j (hj:j≤P[k].length)=>LI h fx hj
  have iT:=L2 (gf (P.take k)) P[k]
  rw[← HI P fx] at iT
  have qu:=su (h.take k)
  rw[dI] at qu
  have VV:=Ht
  rcases k with _|k
  ·have Ld:=HC 108
   obtain⟨L0,H4⟩:∃L0,L0=gf (P.take 0)++ [108]:=⟨_,rfl⟩
   rw[← H4] at iT sL
   rw[show VB [108]=VB L0 by rw[H4];unfold gf;rfl] at Ld
   rw[show(((108:UInt8).toNat:Nat):Int)=108 from rfl] at Ld
   unfold V0 VB at Ld
   rw[Ip]
   (refine FB ?_;refine aA ?_;refine RO ?_)
   (refine nz ?_;apply AW.gP [28,27,10,9,8,3,2] [] (fun j:Nat=>([(29,e7 j)]:List (Nat×AV))) (fun j:Nat=>([(0,some (.box [.ptr 0 0,.own 1 5 1 (il (oT L0 P[0] j))])),(1,some .row)]:List (Nat×Option Ob))) (fun j:Nat=>j≤P[0].length) (fun j:Nat=>P[0].length - j) (0);(conv=>lhs;simp only[Nf.n7,Nf.all,di,reduceAdd,reduceSub]);(all_goals skip))
   ·exact bk _
   ·exact YN
   rintro j hj
   by_cases nZ:j<P[0].length
   ·have hx:=(hc.2 _ (cZ nZ)).2
    have hit:=N19.wo (n:=P[0][j]) (by omega)
    have hiy:=(yL hx).1
    have hw:=vz (oT L0 P[0] j) (32::Lib.itoa P[0][j]) (by rw[dP];omega) (by have:=sL j hj;omega)
    rw[← CF,← B3 L0 _ nZ] at hw
    unfold VB at hw
    have hzz:(N19.CT P[0][j]).size≤100:=by show(Lib.itoa P[0][j]).length≤100;omega
    (refine FB ?_;refine aA ?_;refine zr ?_;refine kh ?_;refine p_ ?_;refine zm ?_;(with_reducible apply a_.yI (hf:=hit));(first|(with_reducible assumption)|(refine TB.gs ?_ (by with_reducible assumption);with_reducible assumption)|(refine TB.gi ?_ (by with_reducible assumption);with_reducible assumption)|exact TB.none _);exact aj;exact rfl;exact rfl;exact(fun h_=>by cases h_);(with_reducible apply a_.OV);(iterate 5 exact rfl);(first|omega|decide|(simp only[ByteArray.size_append];omega));refine zX (hw) ?_;refine J1 ?_;refine xK ?_)
    exact R3
   ·obtain rfl:j=P[0].length:=by omega
    have hw:=vz (oT L0 P[0] P[0].length) [32,48,10] (by simp) (by have:=sL _ hj;omega)
    rw[iT,Iq] at hw
    unfold VB at hw
    (refine uB ?_;refine p_ ?_;refine zX (hw) ?_;refine J1 ?_;refine xK ?_)
    exact⟨0+1,by omega,by omega,by rw[E8];exact fy rfl (by(refine⟨.fh (by first|with_reducible rfl|(rfl)),?_⟩;refine⟨.fh (by first|with_reducible rfl|(rfl)),?_⟩;refine⟨.ia (by first|with_reducible rfl|(rfl)),?_⟩;refine aC ?_;refine⟨.fh (by first|with_reducible rfl|(rfl)),?_⟩;exact trivial)) (by(refine⟨.box _ rfl ?_,?_⟩;refine aC ?_;refine⟨.fj (by first|with_reducible rfl|(rfl)) rfl,?_⟩;exact trivial;refine aF ?_;exact trivial)) rfl⟩
  ·have Ld:=KO (gf (P.take (k+1))) 108 (by omega)
   obtain⟨L0,H4⟩:∃L0,L0=gf (P.take (k+1))++ [108]:=⟨_,rfl⟩
   rw[← H4] at iT sL Ld
   rw[show(((108:UInt8).toNat:Nat):Int)=108 from rfl] at Ld
   unfold VB at Ld
   rw[E8]
   (refine FB ?_;refine aA ?_;refine RO ?_)
   (refine nz ?_;apply AW.gP [28,27,10,9,8,3,2] [] (fun j:Nat=>([(29,e7 j)]:List (Nat×AV))) (fun j:Nat=>([(0,some (.box [.ptr 0 0,.own 1 5 1 (il (oT L0 P[(k+1)] j))])),(1,some .row)]:List (Nat×Option Ob))) (fun j:Nat=>j≤P[(k+1)].length) (fun j:Nat=>P[(k+1)].length - j) (0);(conv=>lhs;simp only[Nf.n7,Nf.all,di,reduceAdd,reduceSub]);(all_goals skip))
   ·exact bk _
   ·exact YN
   rintro j hj
   by_cases nZ:j<P[(k+1)].length
   ·have hx:=(hc.2 _ (cZ nZ)).2
    have hit:=N19.wo (n:=P[(k+1)][j]) (by omega)
    have hiy:=(yL hx).1
    have hw:=vz (oT L0 P[(k+1)] j) (32::Lib.itoa P[(k+1)][j]) (by rw[dP];omega) (by have:=sL j hj;omega)
    rw[← CF,← B3 L0 _ nZ] at hw
    unfold VB at hw
    have hzz:(N19.CT P[(k+1)][j]).size≤100:=by show(Lib.itoa P[(k+1)][j]).length≤100;omega
    (refine FB ?_;refine aA ?_;refine zr ?_;refine kh ?_;refine p_ ?_;refine zm ?_;(with_reducible apply a_.yI (hf:=hit));(first|(with_reducible assumption)|(refine TB.gs ?_ (by with_reducible assumption);with_reducible assumption)|(refine TB.gi ?_ (by with_reducible assumption);with_reducible assumption)|exact TB.none _);exact aj;exact rfl;exact rfl;exact(fun h_=>by cases h_);(with_reducible apply a_.OV);(iterate 5 exact rfl);(first|omega|decide|(simp only[ByteArray.size_append];omega));refine zX (hw) ?_;refine J1 ?_;refine xK ?_)
    exact R3
   ·obtain rfl:j=P[(k+1)].length:=by omega
    have hw:=vz (oT L0 P[(k+1)] P[(k+1)].length) [32,48,10] (by simp) (by have:=sL _ hj;omega)
    rw[iT,Iq] at hw
    unfold VB at hw
    (refine uB ?_;refine p_ ?_;refine zX (hw) ?_;refine J1 ?_;refine xK ?_)
    exact⟨(k+1)+1,by omega,by omega,by rw[E8];exact fy rfl (by(refine⟨.fh (by first|with_reducible rfl|(rfl)),?_⟩;refine⟨.fh (by first|with_reducible rfl|(rfl)),?_⟩;refine⟨.ia (by first|with_reducible rfl|(rfl)),?_⟩;refine aC ?_;refine⟨.fh (by first|with_reducible rfl|(rfl)),?_⟩;exact trivial)) (by(refine⟨.box _ rfl ?_,?_⟩;refine aC ?_;refine⟨.fj (by first|with_reducible rfl|(rfl)) rfl,?_⟩;exact trivial;refine aF ?_;exact trivial)) rfl⟩
 ·obtain rfl:k=P.length:=by omega
  rw[da]
  rcases hn:P.length with _|n
  ·have h0:=C1
   have e0:P=[]:=List.eq_nil_of_length_eq_zero hn
   subst e0
   unfold V0 at h0
   rw[Ip,show ic (gf [])=ic [] by unfold gf;rfl]
   (refine zq ?_;refine pW ?_;refine zo ?_;refine AW.jV rfl rfl ?_;refine H8 ?_;refine mF ?_;refine zX (h0) ?_;refine J1 ?_;refine nz ?_;refine kH ?_)
   (apply e9;(exact gn.one (.tmp rfl rfl));(exact Le.pv _))
  ·have fZ:gf P≠ []:=fun e=>by rw[pQ] at e;subst e;simp at hn
   have h0:=Dz Tryz.Fe Tryz.nQ 0 1 2 aJ aJ aJ (gf P) fZ (enters_of Tryz.func33 rfl (by decide))
   rw[show(⟨(gf P).toArray⟩:ByteArray)=ic (gf P) by unfold ic;rfl] at h0
   rw[E8]
   (refine uB ?_;refine mF ?_;refine zX (h0) ?_;refine J1 ?_;refine nz ?_;refine kH ?_)
   (apply e9;(exact gn.one (.tmp rfl rfl));(exact Le.pv _))
end Go.Ab
/- The text of a proof:numbers,lines,Decode,walked. -/
namespace Go.Ab
open Go Go.Proofs Go.RowKit
set_option maxRecDepth 20000
set_option maxHeartbeats 4000000
theorem SP {x:Int} (h: -9≤x∧x≤9):(Lib.trimPrefix (Lib.itoa x) [45]).length≤2:=by
 have h1:=(yL h).1
 unfold Lib.trimPrefix
 split
 ·rw[cQ];omega
 ·exact h1
abbrev XB (ws:List Bt):List (Nat×Option Ob):=[(1,some (.box [KM ws]))]
attribute [local irreducible] AW a_ ga ft AR fB fp fG fU jw ic Pg gf oT gU
theorem yk {x:Int} (h: -9≤x∧x≤9) (ws:List Bt) (hl:ws.length≤100000):G2 N19.AO Tryz.prog 72 2 (XB (Lib.itoa x::ws)) [.ptr 1 0] (XB ws) (.gM [e7 x,fu true]):=by
 have lL:=N19.mU
 have ht:=Nw (Lib.itoa x) [45]
 have hy:=yL h
 have E3:=SP h
 have hz:=ko (Lib.trimPrefix (Lib.itoa x) [45])
 have ha:=KP (u:=Lib.itoa x) (v:=x) aJ hy.2.1
 have hi:=N19.wo (n:=x) (by omega)
 have e:N19.CT x=ic (Lib.itoa x):=by unfold ic;rfl
 rw[e] at hi
 have e45:ic [45]=⟨#[45]⟩:=by unfold ic;rfl
 rw[e45] at ht
 have hd:decide (ic (Lib.itoa x)=ic (Lib.itoa x))=true:=decide_eq_true rfl
 unfold XB
 refine G2.enter (n:=45) Tryz.func72 rfl rfl rfl rfl rfl (by decide) rfl rfl fun g fE fD hT=>?_;refine qz ?_
 (refine zq ?_;refine lj ?_;refine qN ?_;refine oF ?_;refine a_.b_ 114 0 0 rfl rfl rfl rfl ?_;refine zb ?_;refine zn ?_;refine a_.eql rfl rfl rfl rfl rfl ?_;refine C9 ?_;refine Q_ ?_;refine xv ?_;refine R4 ?_;refine mD ?_;refine zA (ht) ?_;refine JX ?_;refine zm ?_;refine zA (ha) ?_;refine Iv ?_;refine lj ?_;refine mF ?_;(iterate 2 refine zm ?_);(with_reducible apply a_.RS);(iterate 5 exact rfl);refine xH ?_;(with_reducible apply a_.yI (hf:=hi));(first|(with_reducible assumption)|(refine TB.gs ?_ (by with_reducible assumption);with_reducible assumption)|(refine TB.gi ?_ (by with_reducible assumption);with_reducible assumption)|exact TB.none _);exact aj;exact rfl;exact rfl;exact(fun h_=>by cases h_);refine zl ?_;refine kv ?_;refine a_.Vf rfl rfl rfl rfl rfl ?_;refine a_.iM rfl rfl rfl rfl rfl rfl ?_;refine lj ?_;refine AW.ret ?_)
 rw[hd]
 (apply hY;((exact gn.two (.tmp rfl rfl) (.tmp rfl rfl)));((exact py));((refine⟨.box _ rfl ?_,?_⟩;refine⟨.ia (by first|with_reducible rfl|(rfl)),?_⟩;(iterate 2 exact trivial)));exact rfl)
end Go.Ab
/- The text of a proof:a line,walked. -/
namespace Go.Ab
open Go Go.Proofs Go.RowKit
open Nat (reduceAdd reduceSub)
set_option maxRecDepth 20000
set_option maxHeartbeats 4000000
theorem G6 {c:List Int} {k:Nat} (hk:k<c.length):la (c.drop k)=Lib.itoa c[k]::la (c.drop (k+1)):=by
 unfold la
 rw[dm hk,List.map_cons,List.cons_append]
theorem JJ (c:List Int):la (c.drop c.length)=Lib.itoa 0::[]:=by
 unfold la
 rw[dQ,Pu];rfl
theorem CM (c:List Int):(la c).length=c.length+1:=by simp [la]
abbrev O8:ByteArray:=⟨#[63,108,100,101,115]⟩
theorem MQ:Lib.indexByte O8.data.toList (tD (ic [108]++⟨#[63]⟩) 0).toNat.toUInt8=1:=by
 rw[show(⟨#[63]⟩:ByteArray)=ic [63] from rfl,DY]
 decide
theorem LO:Fn Tryz.prog 73 [iO O8,.pv (.lit (.int .u8 (tD (ic [108]++⟨#[63]⟩) 0)))] (e7 1):=by
 have h:=Ly [63,108,100,101,115] (tD (ic [108]++⟨#[63]⟩) 0)
 rw[show Lib.indexByte [63,108,100,101,115] (tD (ic [108]++⟨#[63]⟩) 0).toNat.toUInt8=1 from MQ] at h
 exact h
theorem Io:0<(ic [108]++(⟨#[63]⟩:ByteArray)).size:=by
 rw[show(⟨#[63]⟩:ByteArray)=ic [63] from rfl,DY,ko];decide
theorem Hc:ic [32]=⟨#[32]⟩:=rfl
attribute [local irreducible] AW a_ ga ft AR fB fp fG fU jw ic Pg gf oT gU la
theorem zC (c:List Int) (h:c.length≤1000∧∀x∈c,x≠0∧ -9≤x∧x≤9):xX N19.AO Tryz.prog 35 [iO (ic (gU c))] (.gM [.agg [e7 1,.pv (.slice 1 (c.map encI)),e7 0],fu true]):=by
 have lL:=N19.mU
 obtain⟨hl,hx⟩:=h
 have FI:=tM fun x Ba=>(hx x Ba).2
 have HQ:=xf fun x Ba=>(hx x Ba).2
 have Na:=IE [108] (la c) (by decide) (fun v hv d hd=>((FI v hv).2 d hd).1) (by unfold gU at HQ;omega)
 rw[show iY [108] (la c)=gU c by unfold gU;rfl,Hc] at Na
 have nG:=CM c
 have hk:=LO
 have yP:(ic [108]).size=1:=ko [108]
 have hz63:(ByteArray.mk #[63]).size=1:=rfl
 have n6:=Io
 unfold O8 at hk
 refine xX.enter lL (n:=85) Tryz.func35 rfl rfl rfl rfl rfl (by decide) fun g fE fD hT=>?_;(try refine nz ?_)
 (refine zq ?_;refine oy ?_;refine xv ?_;refine zm ?_;refine zP (Na) ?_;refine a_.wb 114 [0] rfl rfl rfl rfl rfl rfl rfl rfl rfl ?_;refine nz ?_;refine a_.box rfl rfl rfl rfl ?_;refine nz ?_;refine a_.nm rfl rfl rfl ?_;refine zd ?_;refine mF ?_;refine a_.fC rfl rfl rfl ?_;refine a_.wE rfl rfl rfl ?_;refine a_.assign rfl rfl rfl ?_;refine nz ?_;refine lz ?_;refine Q_ ?_;(with_reducible apply a_.OV);(iterate 5 exact rfl);(first|omega|decide|(simp only[ByteArray.size_append];omega));(with_reducible apply a_.yw (n:=0));(iterate 6 exact rfl);exact n6;refine zA (hk) ?_;refine a_.wb 65 [0] rfl rfl rfl rfl rfl rfl rfl rfl rfl ?_;refine nz ?_;refine oy ?_;refine zB ?_;refine nz ?_;refine zd ?_;refine CI ?_;refine Q_ ?_;refine a_.o5 rfl rfl rfl rfl ?_;refine a_.neq rfl rfl rfl rfl rfl ?_;refine kO ?_;refine a_.b_ 65 0 0 rfl rfl rfl rfl ?_;refine zy ?_;refine zb ?_;refine zy ?_;refine zs ?_;refine zF ?_;refine C9 ?_;refine R4 ?_;refine CI ?_;refine a_.b_ 65 0 0 rfl rfl rfl rfl ?_;refine zb ?_;refine a_.eql rfl rfl rfl rfl rfl ?_;refine ti ?_;refine AW.block ?_)
 (refine nz ?_;apply AW.gP [6,5,4,2] [0] (fun k:Nat=>([]:List (Nat×AV))) (fun k:Nat=>([(1,some (.box [KM (la (c.drop k))])),(2,some (.box [e7 1,.own 3 3 1 ((c.take k).map encI),e7 0])),(3,some .row)]:List (Nat×Option Ob))) (fun k:Nat=>k≤c.length) (fun k:Nat=>c.length - k) (0);(conv=>lhs;simp only[Nf.n7,Nf.all,di,reduceAdd,reduceSub]);(all_goals skip))
 ·exact bk _
 ·exact fy rfl (by(refine aC ?_;(iterate 3 refine aC ?_);exact trivial)) (by(refine⟨.box _ rfl ?_,?_⟩;refine⟨.ia (by first|with_reducible rfl|(rfl)),?_⟩;exact trivial;refine⟨.box _ rfl ?_,?_⟩;refine⟨.fh (by first|with_reducible rfl|(rfl)),?_⟩;refine⟨.jL _ _ _ rfl rfl,?_⟩;refine⟨.fh (by first|with_reducible rfl|(rfl)),?_⟩;exact trivial;refine⟨.ji rfl,?_⟩;refine⟨.box _ rfl ?_,?_⟩;(iterate 3 refine⟨.fh (by first|with_reducible rfl|(rfl)),?_⟩);(iterate 2 exact trivial))) rfl
 rintro k Ha
 by_cases fx:k<c.length
 ·have YV:=hx _ (cZ fx)
  have fZ:=YV.1
  have hn:=yk YV.2 (la (c.drop (k+1))) (by rw[CM,cQ];omega)
  rw[← G6 fx] at hn
  unfold XB at hn
  have qu:=dR k c
  (refine AW.block ?_;refine zq ?_;refine a_.jA rfl rfl rfl ?_;(with_reducible apply a_.Dg (hf:=hn));(with_reducible assumption);(first|(with_reducible assumption)|(refine TB.gs ?_ (by with_reducible assumption);with_reducible assumption)|(refine TB.gi ?_ (by with_reducible assumption);with_reducible assumption)|exact TB.none _);(iterate 3 exact rfl);exact aq;exact ak;exact rfl;exact rfl;exact al;exact al;exact rfl;exact rfl;refine J1 ?_;refine Px ?_;refine ti ?_;refine u_ ?_;refine Cm ?_;refine p_ ?_;refine rA ?_;refine zm ?_;refine x7 ?_;(with_reducible apply a_.fJ);exact rfl;exact ah;(iterate 9 exact rfl);exact aa;refine nz ?_;refine a_.b_ 65 1 1 rfl rfl rfl rfl ?_;refine BC ?_;refine zu ?_)
  exact⟨k+1,by omega,by omega,fy rfl (by(refine aC ?_;(iterate 3 refine aC ?_);exact trivial)) (by(refine⟨.box _ rfl ?_,?_⟩;refine⟨.ia (by first|rfl|(rw[dp fx,cU];rfl)),?_⟩;exact trivial;refine⟨.box _ rfl ?_,?_⟩;refine⟨.fh (by first|rfl|(rw[dp fx,cU];rfl)),?_⟩;refine⟨.fj (by first|rfl|(rw[dp fx,cU];rfl)) rfl,?_⟩;refine⟨.fh (by first|rfl|(rw[dp fx,cU];rfl)),?_⟩;exact trivial;refine aF ?_;refine⟨.box _ rfl ?_,?_⟩;refine⟨.fh (by first|rfl|(rw[dp fx,cU];rfl)),?_⟩;refine⟨.fh (by first|rfl|(rw[dp fx,cU];rfl)),?_⟩;refine⟨.fh (by first|rfl|(rw[dp fx,cU];rfl)),?_⟩;(iterate 2 exact trivial))) rfl⟩
 ·obtain rfl:k=c.length:=by omega
  have hn:=yk (x:=0) aJ [] (by simp)
  rw[← JJ c] at hn
  unfold XB at hn
  rw[da]
  (refine AW.block ?_;refine zq ?_;refine a_.jA rfl rfl rfl ?_;(with_reducible apply a_.Dg (hf:=hn));(with_reducible assumption);(first|(with_reducible assumption)|(refine TB.gs ?_ (by with_reducible assumption);with_reducible assumption)|(refine TB.gi ?_ (by with_reducible assumption);with_reducible assumption)|exact TB.none _);(iterate 3 exact rfl);exact aq;exact ak;exact rfl;exact rfl;exact al;exact al;exact rfl;exact rfl;refine J1 ?_;refine Px ?_;refine ti ?_;refine u_ ?_;refine JQ ?_;refine AW.lE 16 ?_)
  refine Stop.go ?_
  (try (conv=>rhs;simp only[Nf.af,Nf.VN,Nf.Ya,Nf.Xs,Nf.VR,Nf.xor,Nf.Wh,Nf.WH,Nf.Y_,Nf.XY,Nf.VH,Nf.Xe,Nf.WM,Nf.WN,Nf.EI,Nf.KN,Nf.DT,Nf.zg,Nf.zS,Nf.EG,Nf.Ef,Nf.AM,Nf.Dq,Nf.Dw,Nf.DA,Nf.WQ,Nf.Ws,Nf.Xa,Nf.WZ,Nf.Zd,Nf.YC,Nf.ZD,Nf.cn,Nf.nn,BR,wL,di,cond_true,cond_false]));(try refine nz ?_)
  refine AW.LM 3 rfl ?_
  (try refine nz ?_)
  (refine zo ?_;refine AW.gB [0] [7] rfl (by assumption) aI aI rfl ?_;show a_ .held _ _ _ [_] _ _;refine zL ?_;refine qk ?_;intro k_ ja;(refine AR.free 1 aI rfl rfl rfl (by first|exact fO.fC rfl rfl|exact fO.iu rfl rfl|exact fO.nilCheck rfl rfl) ?_);(refine AR.free 2 aI rfl rfl rfl (by first|exact fO.fC rfl rfl|exact fO.iu rfl rfl|exact fO.nilCheck rfl rfl) ?_);refine AR.free 3 aI rfl rfl rfl (fO.fieldAddr _ _ 0 rfl rfl rfl) ?_;(try refine nz ?_);apply AR.cut [3,2,1,0,4,5,6,7];intro nA;apply AR.cut [3,2,1,0,4,5,7];intro qK;apply AR.cut [3,2,1,0,4,7];intro pP;(refine AR.rS (i:=4) (j:=7) rfl aI rfl rfl aI ?_ ?_<;>intro g_ c_ fk);refine zb ?_;refine J4 ?_;(refine AR.rS (i:=5) (j:=7) rfl aI rfl rfl aI ?_ ?_<;>intro g_ c_ fk);refine zn ?_;refine J4 ?_;(refine AR.rS (i:=6) (j:=7) rfl aI rfl rfl aI ?_ ?_<;>intro g_ c_ fk);refine a_.eql rfl rfl rfl rfl rfl ?_;refine J4 ?_;refine AR.gY (i:=7) rfl aI rfl aI ?_;intro g_ c_ fk;refine zB ?_;refine nz ?_;refine Po ?_;exact AR.perm aI nA;refine zB ?_;refine nz ?_;refine Po ?_;exact AR.perm aI qK;refine zB ?_;refine nz ?_;refine Po ?_;exact AR.perm aI pP;refine zB ?_;refine qk ?_;refine KY ?_;intro g_ c_ fk;refine zb ?_;refine vh ?_;refine AR.meet pP aI (fun g_=>fy rfl ?_ ?_ rfl);(iterate 20 refine aC ?_);exact trivial;exact P7;refine AR.gY (i:=5) rfl aI rfl aI ?_;intro g_ c_ fk;refine zn ?_;refine vh ?_;refine AR.meet qK aI (fun g_=>fy rfl ?_ ?_ rfl);(iterate 21 refine aC ?_);exact trivial;exact P7;refine AR.gY (i:=6) rfl aI rfl aI ?_;intro g_ c_ fk;refine a_.eql rfl rfl rfl rfl rfl ?_;refine vh ?_;refine AR.meet nA aI (fun g_=>fy rfl ?_ ?_ rfl);(iterate 22 refine aC ?_);exact trivial;exact P7;refine Gf ?_;intro g_ c_ fk;refine za ?_;refine J4 ?_;refine Hj ?_;refine AW.ret ?_;(iterate 2 refine xM ?_))
  (apply e9;(exact gn.two (.cell rfl rfl rfl rfl) (.tmp rfl rfl));(refine Le.EM ?_;refine jO.cons ?_ ?_;refine Le.EO ?_;refine jO.cons ?_ ?_;(with_reducible exact Le.pv _);refine jO.cons ?_ ?_;(with_reducible exact Le.pv _);refine jO.cons ?_ ?_;(with_reducible exact Le.pv _);exact jO.nil;refine jO.cons ?_ ?_;refine Le.fu ?_;(rfl);exact jO.nil))
end Go.Ab
/- The text of a proof:Decode,walked. -/
namespace Go.Ab
open Go Go.Proofs Go.RowKit
open Nat (reduceAdd reduceSub)
set_option maxRecDepth 20000
set_option maxHeartbeats 4000000
theorem Dj:ic [10]=⟨#[10]⟩:=rfl
theorem yF {P:List (List Int)} {k:Nat} (hk:k<P.length) (t:Bt):gf (P.drop k)++t=gU P[k]++10::(gf (P.drop (k+1))++t):=by
 rw[dm hk,tA]
 simp
theorem IS {l:Bt} (h:l≠ []):ic l≠⟨#[]⟩:=fun e=>h (mk_inj.1 (e.trans (show(⟨#[]⟩:ByteArray)=ic [] from rfl)))
theorem Qo:ic []=⟨#[]⟩:=rfl
theorem Nn (c:List Int):gU c≠ []:=by unfold gU iY;simp
theorem Jj (a r:Bt):a++10::r≠ []:=by simp
attribute [local irreducible] AW a_ ga ft AR fB fp fG fU jw ic Pg gf oT gU la
theorem Ee (P:List (List Int)) (h:HY P) (hl:(gf P).length≤2000000):xX N19.AO Tryz.prog 14 [iO (ic (gf P))] (.gM [.pv (.slice 3 (P.map mI)),e7 0]):=by
 have lL:=N19.mU
 have hP:=h.1
 have hz:=ko (gf P)
 rw[show gf P=gf (P.drop 0)++ [] by simp] at hz hl ⊢
 have ht_:([]:Bt).length≤4000:=by simp
 refine xX.enter lL (n:=38) Tryz.func14 rfl rfl rfl rfl rfl (by decide) fun g fE fD hT=>?_;(try refine nz ?_)
 (refine zq ?_;refine lj ?_;refine u_ ?_;refine JX ?_;refine rD ?_;refine AW.block ?_)
 (refine nz ?_;apply AW.gP [] [] (fun k:Nat=>([(0,iO (ic (gf (P.drop k)++ []))),(4,.own 0 65 3 ((P.take k).map mI))]:List (Nat×AV))) (fun k:Nat=>([(0,some .row)]:List (Nat×Option Ob))) (fun k:Nat=>k≤P.length) (fun k:Nat=>P.length - k) (0);(conv=>lhs;simp only[Nf.n7,Nf.all,di,reduceAdd,reduceSub]);(all_goals skip))
 ·exact bk _
 ·exact RE
 rintro k Ha
 by_cases fx:k<P.length
 ·have hc:=h.2 _ (cZ fx)
  have Pp:=yF fx []
  have A2:(gU P[k]++10::(gf (P.drop (k+1))++ [])).length≤100000000:=by
   rw[← Pp,bV]
   have:=su (h.drop k)
   rw[cQ] at this
   omega
  have C0:=E5 (gU P[k]) (gf (P.drop (k+1))++ []) (tu fun x hx=>(hc.2 x hx).2) A2
  have fZ:=IS (Jj (gU P[k]) (gf (P.drop (k+1))++ []))
  have jc:=zC P[k] hc
  have qu:=dR k P
  rw[Dj,← Pp] at C0
  rw[← Pp] at fZ
  (refine Pa ?_;(with_reducible apply a_.tc (hf:=jc));(first|(with_reducible assumption)|(refine TB.gs ?_ (by with_reducible assumption);with_reducible assumption)|(refine TB.gi ?_ (by with_reducible assumption);with_reducible assumption)|exact TB.none _);exact aj;exact rfl;refine UB ?_;(with_reducible apply a_.fJ);exact rfl;exact ah;(iterate 9 exact rfl);exact aa;refine nz ?_;refine sH ?_;refine p_ ?_;refine zm ?_;refine za ?_;refine zu ?_)
  exact Tt
 ·obtain rfl:k=P.length:=by omega
  have e:ic (gf (P.drop P.length)++ [])=⟨#[]⟩:=by
   rw[dQ,List.append_nil,pQ.2 rfl,Qo]
  rw[da,e]
  (refine mD ?_;refine a_.UC rfl rfl rfl rfl rfl ?_;refine zd ?_;refine AW.jV rfl rfl ?_;refine H8 ?_;refine mF ?_;refine a_.gg rfl rfl rfl ?_;refine a_.ns rfl rfl rfl ?_;refine kH ?_)
  (apply e9;(exact gn.two (.tmp rfl rfl) (.tmp rfl rfl));(refine Le.EM ?_;refine jO.cons ?_ ?_;exact Le.own _ _ _ _ rfl;refine jO.cons ?_ ?_;refine Le.e7 ?_;(rfl);exact jO.nil))
theorem ED (P:List (List Int)) (h:HY P) (c:List Int) (VU:c.length≤1000∧∀x∈c,x≠0∧ -9≤x∧x≤9) (hl:(gf P++gU c).length≤2000000):xX N19.AO Tryz.prog 14 [iO (ic (gf P++gU c))] (.gM [.pv (.lit (.slice none 0 0)),e7 340]):=by
 have lL:=N19.mU
 have hP:=h.1
 have hz:=ko (gf P++gU c)
 have Oy:=xf fun x hx=>(VU.2 x hx).2
 rw[show gf P=gf (P.drop 0) by simp] at hz hl ⊢
 have ht_:(gU c).length≤4000:=by omega
 refine xX.enter lL (n:=38) Tryz.func14 rfl rfl rfl rfl rfl (by decide) fun g fE fD hT=>?_;(try refine nz ?_)
 (refine zq ?_;refine lj ?_;refine u_ ?_;refine JX ?_;refine rD ?_;refine AW.block ?_)
 (refine nz ?_;apply AW.gP [] [] (fun k:Nat=>([(0,iO (ic (gf (P.drop k)++(gU c)))),(4,.own 0 65 3 ((P.take k).map mI))]:List (Nat×AV))) (fun k:Nat=>([(0,some .row)]:List (Nat×Option Ob))) (fun k:Nat=>k≤P.length) (fun k:Nat=>P.length - k) (0);(conv=>lhs;simp only[Nf.n7,Nf.all,di,reduceAdd,reduceSub]);(all_goals skip))
 ·exact bk _
 ·exact RE
 rintro k Ha
 by_cases fx:k<P.length
 ·have hc:=h.2 _ (cZ fx)
  have Pp:=yF fx (gU c)
  have A2:(gU P[k]++10::(gf (P.drop (k+1))++(gU c))).length≤100000000:=by
   rw[← Pp,bV]
   have:=su (h.drop k)
   rw[cQ] at this
   omega
  have C0:=E5 (gU P[k]) (gf (P.drop (k+1))++(gU c)) (tu fun x hx=>(hc.2 x hx).2) A2
  have fZ:=IS (Jj (gU P[k]) (gf (P.drop (k+1))++(gU c)))
  have jc:=zC P[k] hc
  have qu:=dR k P
  rw[Dj,← Pp] at C0
  rw[← Pp] at fZ
  (refine Pa ?_;(with_reducible apply a_.tc (hf:=jc));(first|(with_reducible assumption)|(refine TB.gs ?_ (by with_reducible assumption);with_reducible assumption)|(refine TB.gi ?_ (by with_reducible assumption);with_reducible assumption)|exact TB.none _);exact aj;exact rfl;refine UB ?_;(with_reducible apply a_.fJ);exact rfl;exact ah;(iterate 9 exact rfl);exact aa;refine nz ?_;refine sH ?_;refine p_ ?_;refine zm ?_;refine za ?_;refine zu ?_)
  exact Tt
 ·obtain rfl:k=P.length:=by omega
  have e:gf (P.drop P.length)++gU c=gU c:=by
   rw[dQ,pQ.2 rfl,List.nil_append]
  have fZ:=IS (Nn c)
  have C0:=MM (gU c) (tu fun x hx=>(VU.2 x hx).2)
  have jc:=zC c VU
  rw[Dj] at C0
  rw[e]
  (refine Pa ?_;(with_reducible apply a_.tc (hf:=jc));(first|(with_reducible assumption)|(refine TB.gs ?_ (by with_reducible assumption);with_reducible assumption)|(refine TB.gi ?_ (by with_reducible assumption);with_reducible assumption)|exact TB.none _);exact aj;exact rfl;refine Iv ?_;refine oy ?_;refine zB ?_;refine nz ?_;refine tN ?_;refine a_.not rfl rfl rfl ?_;refine zm ?_;(iterate 2 refine a_.gu rfl rfl rfl rfl rfl rfl rfl ?_);refine Bk ?_;refine mF ?_;refine lj ?_;refine AW.ret ?_;(iterate 2 refine xM ?_);refine im ?_)
  (apply e9;(exact gn.two (.tmp rfl rfl) (.tmp rfl rfl));(refine Le.EM ?_;refine jO.cons ?_ ?_;exact Le.pv _;refine jO.cons ?_ ?_;refine Le.e7 ?_;(rfl);exact jO.nil))
end Go.Ab
/- The text of a proof:two proofs compared,walked. -/
namespace Go.Ab
open Go Go.Proofs Go.RowKit
open Nat (reduceAdd reduceSub)
set_option maxRecDepth 20000
set_option maxHeartbeats 4000000
attribute [local irreducible] AW a_ ga ft AR fB fp fG fU jw
theorem GN (P:List (List Int)) (hP:P.length≤20000):Fn Tryz.prog 16 [.pv (.slice 3 (P.map mI)),.pv (.slice 3 (P.map mI))] (fu true):=by
 refine Fn.enter (n:=8) Tryz.func16 rfl rfl rfl rfl rfl (by decide) fun g fE fD=>?_;(try refine nz ?_)
 (refine sK ?_;(iterate 2 refine zm ?_);(with_reducible apply a_.inline (hf:=Tryz.func36));(with_reducible assumption);(iterate 10 exact rfl);intro g_ fE fD;refine nz ?_;refine QY ?_;refine vD ?_;refine u_ ?_;refine nj ?_)
 (refine nz ?_;apply AW.gP [16,15,0,1,2,1006,1005,1004,1000,1001] [] (fun k:Nat=>([(17,e7 k)]:List (Nat×AV))) (fun k:Nat=>([]:List (Nat×Option Ob))) (fun k:Nat=>k≤P.length) (fun k:Nat=>P.length - k) (0);(conv=>lhs;simp only[Nf.n7,Nf.all,di,reduceAdd,reduceSub]);(all_goals skip))
 ·exact bk _
 ·exact fy rfl (by(refine⟨.fh (by first|with_reducible rfl|(rfl)),?_⟩;refine⟨.fh (by first|with_reducible rfl|(rfl)),?_⟩;(iterate 3 refine⟨.ia (by first|with_reducible rfl|(rfl)),?_⟩);refine aC ?_;(iterate 2 refine⟨.ia (by first|with_reducible rfl|(rfl)),?_⟩);refine⟨.fh (by first|with_reducible rfl|(rfl)),?_⟩;(iterate 2 refine⟨.ia (by first|with_reducible rfl|(rfl)),?_⟩);exact trivial)) (by(exact trivial)) rfl
 rintro k hk
 by_cases fx:k<P.length
 ·have hs:=qB P[k] P[k]
  rw[decide_eq_true rfl] at hs
  (refine ly ?_;refine aA ?_;refine a_.qt rfl rfl rfl rfl ?_;refine nz ?_;refine oy ?_;refine za ?_;refine zB ?_;refine nz ?_;refine lz ?_;(iterate 2 refine zm ?_);refine aA ?_;refine a_.qt rfl rfl rfl rfl ?_;refine nz ?_;refine oy ?_;refine zB ?_;refine nz ?_;refine lz ?_;refine a_.jA rfl rfl rfl ?_;refine zL ?_;refine nz ?_;refine zL ?_;refine nz ?_;(with_reducible apply a_.inline (hf:=Tryz.func37));(with_reducible assumption);(iterate 10 exact rfl);intro g_ fE fD;refine nz ?_;refine Da ?_;refine a_.box rfl rfl rfl rfl ?_;refine nz ?_;refine xv ?_;refine a_.b_ 65 0 0 rfl rfl rfl rfl ?_;refine zb ?_;refine a_.b_ 65 0 0 rfl rfl rfl rfl ?_;refine zb ?_;refine a_.eql rfl rfl rfl rfl rfl ?_;refine kv ?_;refine a_.b_ 65 2 2 rfl rfl rfl rfl ?_;refine DD ?_;refine a_.b_ 65 2 2 rfl rfl rfl rfl ?_;refine DD ?_;refine L4 ?_;refine kv ?_;refine a_.b_ 65 1 1 rfl rfl rfl rfl ?_;refine DD ?_;refine a_.b_ 65 1 1 rfl rfl rfl rfl ?_;refine DD ?_;refine zA (hs) ?_;refine a_.iM rfl rfl rfl rfl rfl rfl ?_;refine kH ?_;refine xq ?_;refine a_.not rfl rfl rfl ?_;refine qO ?_;refine pL ?_)
  exact⟨k+1,by omega,by omega,fy rfl (by(refine⟨.fh (by first|with_reducible rfl|(rfl)),?_⟩;refine⟨.fh (by first|with_reducible rfl|(rfl)),?_⟩;(iterate 3 refine⟨.ia (by first|with_reducible rfl|(rfl)),?_⟩);refine aC ?_;(iterate 2 refine⟨.ia (by first|with_reducible rfl|(rfl)),?_⟩);refine⟨.fh (by first|with_reducible rfl|(rfl)),?_⟩;(iterate 2 refine⟨.ia (by first|with_reducible rfl|(rfl)),?_⟩);exact trivial)) (by(exact trivial)) rfl⟩
 ·obtain rfl:k=P.length:=by omega
  (refine uB ?_;refine oH ?_;refine xq ?_;refine kH ?_)
  (apply e9;(exact gn.one (.tmp rfl rfl));(refine Le.fu ?_;(rfl)))
end Go.Ab
/- The laws through the layers:the solver's proof as text. -/
namespace Go.Ab
open Go Go.Proofs Go.RowKit
set_option maxRecDepth 20000
set_option maxHeartbeats 8000000
theorem Km {P P0:List (List Int)} {c:List Int} (h:P=P0++ [c]):ic (gf P0++gU c)=(ic (gf P)).extract 0 (((((ic (gf P)).size:Nat):Int) - 1).toNat):=by
 rw[D9,ko,← y3,← h,List.drop_zero,Nat.sub_zero,List.dropLast_eq_take]
 congr 2
 omega
theorem NQ {P:List (List Int)} (h:P≠ []):∃P0 c,P=P0++ [c]:=⟨P.dropLast,P.getLast h,(List.dropLast_concat_getLast h).symm⟩
attribute [local irreducible] AW a_ ga ft AR fB fp fG fU canon l4 kd ox pA mN e_ jg hU jd ig ml ic gf gU
theorem Hf (v:Int) (cl:List (List Int)) (a:List Int):xX N19.AO Tryz.prog 4 [H6 v cl,.pv (ints a)] (fu true):=by
 have lL:=N19.mU
 have hh:=Iz
 have hs:=Hh v cl
 cases e1:ml v cl with
 |false=>
  rw[e1] at hs
  have KX:=trivial
  refine xX.enter lL (n:=103) Tryz.func4 rfl rfl rfl rfl rfl (by decide) fun g fE fD hT=>?_;(try refine nz ?_)
  (refine Lx ?_;refine zm ?_;refine JG ?_;refine Dv ?_;(iterate 5 refine a_.gu rfl rfl rfl rfl rfl rfl rfl ?_);refine Bk ?_;refine pZ ?_;refine xL ?_)
  (apply e9;(exact gn.one (.tmp rfl rfl));(refine Le.fu ?_;(rfl)))
 |true=>
 rw[e1] at hs
 obtain⟨hv,Zw,LC⟩:=AJ e1
 have KX:=uH v a (by omega)
 by_cases ha:a.length≤12
 ·cases e2:e_ v a with
  |false=>
   rw[e2] at KX
   refine xX.enter lL (n:=103) Tryz.func4 rfl rfl rfl rfl rfl (by decide) fun g fE fD hT=>?_;(try refine nz ?_)
   (refine Lx ?_;refine xH ?_;refine zn ?_;refine RB ?_;refine DE ?_;refine zy ?_;refine kO ?_;refine zA (KX) ?_;refine ud ?_;refine yW ?_;refine pZ ?_;refine xL ?_)
   (apply e9;(exact gn.one (.tmp rfl rfl));(refine Le.fu ?_;(rfl)))
  |true=>
  rw[e2] at KX
  obtain⟨n,rfl⟩:∃n:Nat,v=n:=⟨v.toNat,by omega⟩
  have ZI:n≤8:=by omega
  have RI:∀c∈cl,c.length≤1000000∧∀x∈c,Lit n x:=fun c hc=>⟨by have:=(LC c hc).2;omega,fun x hx=>by have:=fI (LC c hc).1 x hx;exact⟨this.1,by omega,by omega⟩⟩
  have TU:∀x∈a,Lit n x:=fun x hx=>by have:=fI e2 x hx;exact⟨this.1,by omega,by omega⟩
  have h1:=tV n cl a aJ aJ RI TU (by omega)
  refine xX.enter lL (n:=103) Tryz.func4 rfl rfl rfl rfl rfl (by decide) fun g fE fD hT=>?_;(try refine nz ?_)
  (refine Lx ?_;refine xH ?_;refine zn ?_;refine RB ?_;refine DE ?_;refine zy ?_;refine kO ?_;refine zA (KX) ?_;refine ud ?_;refine C9 ?_;refine zL ?_;refine uc ?_;(with_reducible apply a_.kc (hf:=h1));(with_reducible assumption);(iterate 3 exact rfl);exact aq;exact ak;(intro x_;exact rfl);exact rfl;exact al;(intro x_;exact al);(intro x_;exact rfl);exact rfl;(intro x_ pI);refine J1 ?_;refine nz ?_;refine Pq ?_;refine zo ?_;refine AW.lE 5 ?_)
  obtain⟨k1,vals,core,P⟩:=x_
  have xo:=pI
  simp only at xo ⊢
  refine Stop.go ?_
  have jb:Lk n cl [] (jD P):=xo.ZF ZI (fun c hc=>⟨(LC c hc).1,by have:=(LC c hc).2;omega⟩) (by omega)
  have fw:=xo.run (e:=⟨n,cl,[]⟩)
  have UE:P.length≤20000:=xo.plen
  have WI:=xo.N8
  have JF:=xo.Ye
  simp only at fw WI JF
  have H7:(jD P).length=P.length:=by unfold jD;rw[a6]
  have jc:steps (jD P)=PV.slice 3 (P.map mI):=by rw[yp]
  have Nz:Fn Tryz.prog 15 [H6 (n:Nat) cl,.pv (jm []),.pv (steps (jD P))] (.gM [e7 (P.length:Nat),e7 0]):=by
   have h:=IW n cl [] (jD P) jb
   rw[fw.1,H7,Fp,if_neg (Nat.lt_irrefl _)] at h
   exact h
  rw[jc] at Nz
  have A1:HY P:=⟨UE,fun c hc=>⟨by have:=WI c hc;omega,fun x hx=>by
   obtain⟨q1,q2,q3⟩:=JF c hc x hx
   exact⟨q1,by omega,by omega⟩⟩⟩
  have OL:=HJ P A1
  have heq:=GN P UE
  have hz:=ko (gf P)
  clear xo pI jb fw WI JF H7 jc h1
  by_cases Ic:(gf P).length≤2000000
  ·have Y1:=Ee P A1 Ic
   by_cases Rp:P=[]
   ·have mE:(gf P).length=0:=by rw[pQ.2 Rp];rfl
    have s9:P.length=0:=by rw[Rp];rfl
    (refine pZ ?_;refine zn ?_;refine G8 ?_;refine zm ?_;(with_reducible apply a_.yI (hf:=OL));(first|(with_reducible assumption)|(refine TB.gs ?_ (by with_reducible assumption);with_reducible assumption)|(refine TB.gi ?_ (by with_reducible assumption);with_reducible assumption)|exact TB.none _);exact aj;exact rfl;exact rfl;exact(fun h_=>by cases h_);refine tN ?_;refine JX ?_;refine zm ?_;(with_reducible apply a_.tc (hf:=Y1));(first|(with_reducible assumption)|(refine TB.gs ?_ (by with_reducible assumption);with_reducible assumption)|(refine TB.gi ?_ (by with_reducible assumption);with_reducible assumption)|exact TB.none _);exact aj;exact rfl;refine Tz ?_;refine lq ?_;refine mF ?_;(iterate 2 refine zm ?_);refine zl ?_;refine kv ?_;refine zn ?_;refine zl ?_;refine L4 ?_;refine xL ?_)
    (apply e9;(exact gn.one (.tmp rfl rfl));(refine Le.fu ?_;(first|rfl|exact decide_eq_true aJ)))
   ·obtain⟨Q0,c,hQ⟩:=NQ Rp
    have E3:0<(gf P).length:=dK.2 fun e=>Rp (pQ.1 e)
    have Y9:=ED Q0 ⟨by have:=congrArg List.length hQ;rw[bV] at this;omega,fun d hd=>A1.2 d (by rw[hQ];simp [hd])⟩ c (A1.2 c (by rw[hQ];simp)) (by
     rw[← y3,← hQ,List.length_dropLast];omega)
    rw[Km hQ] at Y9
    (refine pZ ?_;refine zn ?_;refine G8 ?_;refine zm ?_;(with_reducible apply a_.yI (hf:=OL));(first|(with_reducible assumption)|(refine TB.gs ?_ (by with_reducible assumption);with_reducible assumption)|(refine TB.gi ?_ (by with_reducible assumption);with_reducible assumption)|exact TB.none _);exact aj;exact rfl;exact rfl;exact(fun h_=>by cases h_);refine tN ?_;refine JX ?_;refine zm ?_;(with_reducible apply a_.tc (hf:=Y1));(first|(with_reducible assumption)|(refine TB.gs ?_ (by with_reducible assumption);with_reducible assumption)|(refine TB.gi ?_ (by with_reducible assumption);with_reducible assumption)|exact TB.none _);exact aj;exact rfl;refine Tz ?_;refine vD ?_;refine mF ?_;(iterate 2 refine zm ?_);refine a_.o5 rfl rfl rfl rfl ?_;refine a_.sub rfl rfl rfl rfl rfl aJ ?_;refine a_.xk rfl rfl rfl rfl rfl rfl aJ aJ ?_;(with_reducible apply a_.tc (hf:=Y9));(first|(with_reducible assumption)|(refine TB.gs ?_ (by with_reducible assumption);with_reducible assumption)|(refine TB.gi ?_ (by with_reducible assumption);with_reducible assumption)|exact TB.none _);exact aj;exact rfl;refine Iv ?_;refine lj ?_;refine mF ?_;(iterate 2 refine zm ?_);refine zl ?_;refine kv ?_;refine L4 ?_;refine kH ?_)
    (apply e9;(exact gn.one (.tmp rfl rfl));(refine Le.fu ?_;(rfl)))
  ·(refine pZ ?_;refine zn ?_;refine G8 ?_;refine zm ?_;(with_reducible apply a_.yI (hf:=OL));(first|(with_reducible assumption)|(refine TB.gs ?_ (by with_reducible assumption);with_reducible assumption)|(refine TB.gi ?_ (by with_reducible assumption);with_reducible assumption)|exact TB.none _);exact aj;exact rfl;exact rfl;exact(fun h_=>by cases h_);refine tN ?_;refine a_.o5 rfl rfl rfl rfl ?_;refine a_.gtr rfl rfl rfl rfl rfl ?_;refine lq ?_;refine pZ ?_;refine xL ?_)
   (apply e9;(exact gn.one (.tmp rfl rfl));(refine Le.fu ?_;(rfl)))
 ·refine xX.enter lL (n:=103) Tryz.func4 rfl rfl rfl rfl rfl (by decide) fun g fE fD hT=>?_;(try refine nz ?_)
  (refine Lx ?_;refine xH ?_;refine zn ?_;refine RB ?_;refine zm ?_;(iterate 5 refine a_.jR rfl rfl rfl rfl rfl rfl (by first|omega|decide) ?_);refine zT ?_;refine yW ?_;refine pZ ?_;refine xL ?_)
  (apply e9;(exact gn.one (.tmp rfl rfl));(refine Le.fu ?_;(rfl)))
end Go.Ab
namespace Go.Proofs.YtigjjjpcjnifhaaGreatDoor.Law2
open Go Go.Ab Go.ChangeShapes Go.WideShapes Go.ChangeAt Go.RowKit
set_option linter.unusedVariables false
theorem own:ownKnob Tryz.prog.godebug=none:=by kernel_rfl
theorem laidOut:laidOutB Tryz.prog=true:=by kernel_rfl
theorem KQ:Rd Tryz.prog 29 (fun l:List Int=>[ints l]) (fun _=>True):=
 Rd.map (Rd.slice (e:=3) (k:=1) (by':=8) Tryz.underlying29 aI (by decide) aI (by decide) (fun _=>rfl) (Rd.int Tryz.underlying3)) id (fun _=>rfl) (fun _ _=>trivial)
theorem Mv:Rd Tryz.prog 22 (fun l:List (List Int)=>[jm l]) (fun l=>l.length*24≤reachBytes):=
 Rd.map (Rd.slice (e:=29) (k:=1) (by':=24) Tryz.underlying22 aI (by decide) aI (by decide) (fun _=>rfl) KQ) id (fun _=>rfl) (fun _ h=>h.1)
theorem T7:Rd Tryz.prog 24 (fun p:Int×List (List Int)=>[.lit (.int .i64 p.1),jm p.2]) (fun _=>True):=
 Rd.map (Rd.struct (n:=2) Tryz.underlying24 aI (Nc.cons (k:=1) (n:=1) rfl aI (Rd.int Tryz.underlying3) (Nc.cons (k:=1) (n:=0) rfl aI Mv Nc.nil))) (fun p=>(p.1,p.2.1)) (fun _=>rfl) (fun _ _=>trivial)
theorem MC {N:Nat→Prop} {w:World} {v:Value} (h:RA (A_ N) w v (fu true)):v=.bool true:=by
 cases h with
 |pv h=>cases h;rfl
noncomputable abbrev qf:List (String×DataW Unit):=[("math/bits.deBruijn32tab",Rows.laid_math_bits_deBruijn32tab),("math/bits.deBruijn64tab",Rows.laid_math_bits_deBruijn64tab),("internal/strconv.uint64pow10",Rows.laid_internal_strconv_uint64pow10),("unicode/utf8.acceptRanges",Rows.laid_unicode_utf8_acceptRanges),("strconv.ErrRange",Rows.laid_strconv_ErrRange),("strconv.ErrSyntax",Rows.laid_strconv_ErrSyntax),("unicode/utf8.first",Rows.laid_unicode_utf8_first)]
theorem Gp {W:World} (h:laidMetH Tryz.prog qf W):laidMet Tryz.prog qf W:=by
 rw[MakeChecks.laidMetH_plain _ _ _ aI] at h
 exact h
theorem MK {W:World} (h:laidMetH Tryz.prog qf W):N19.AO W:=by
 have h1:laidMet Tryz.prog qf W:=Gp h
 have h2:=h1.tail.tail
 exact Lib.tabIs_of_head (g:=1) (t:=160) (e:=145) (n:=20) (rest:=_) aI aI Tryz.underlying160 Tryz.underlying145 aI aI ((show(Rows.laid_internal_strconv_uint64pow10:DataW Unit)=Lib.tabData .u64 Lib.pow10Tab by kernel_rfl)▸h2)
set_option maxRecDepth 100000 in
theorem lifted (os:Os) (started:os.Started) (H:Type) (enc:TypeId×Value→H):
  ReturnsInHanded {} Tryz.checked os 4 .any (fun w args=>(Rows.topProofTextSpec.pre enc Tryz.prog Tryz.f4 [] false w args∧laidMetH Tryz.prog qf w)∧sizedMet enc Tryz.prog Tryz.f4 (OpenSpec.ofChange Rows.topProofTextSpec) false w args) (Rows.topProofTextSpec.post enc Tryz.prog Tryz.f4 false true false false):=by
 refine returnsInHanded_of_change_and (C:=Tryz.checked) (X:=fun w _=>laidMetH Tryz.prog qf w) (fun _ _ _ hh h=>h.of_heap hh) own started aI Tryz.func4
  (ChangeSpec.witness_shaped (enc:=enc) (C:=Tryz.checked) (os:=os) (X:=fun w _=>laidMetH Tryz.prog qf w) false (World.laidAll Tryz.prog os qf) #[.agg #[.int .i64 0,.slice none 0 0],.slice none 0 0] 8 (World.laidAll_os _ _ _)
   (World.shaped_of_ZipB aI aI) aI aI aI
   (by rw[MakeChecks.laidMetH_plain _ _ _ aI];exact laidMet_laidAll _ aI aI)) ?_
 intro W base args ds gs before Ow hW hcnd ny hL _
 have kM:∀(j:Nat) t v,Tryz.f4.params[j]? =some t→args[j]? =some v→Value.okWide Tryz.prog W .any base t v:=Ow
 have ZP:=hW
 obtain⟨p,q,T9,hV,rfl,hfz,jy⟩:=hW
 have hA:DataW.TrodAll enc Tryz.prog W 0 (fun _=>true) true Tryz.f4.params.toList args.toList ds p:=T9
 rw[Tryz.params4] at hA kM
 obtain⟨v0,vs0,d0,ds0,p0,q0,fX,rfl,rfl,h0,r0⟩:=trodAll_cons hA
 obtain⟨v1,vs1,d1,ds1,p1,q1,rfl,rfl,rfl,h1,r1⟩:=trodAll_cons r0
 obtain⟨rfl,rfl,rfl⟩:=trodAll_nil r1
 obtain rfl:args= #[v0,v1]:=by cases args;simp_all
 obtain⟨rfl,rfl⟩:=trodVars_none hV
 have wt:∀(j:Nat) (t:TypeId) (d:DataW H),[24,29][j]? =some t→[d0,d1][j]? =some d→∀n∈d.weights Tryz.prog t,n≤reachBytes:=by
  intro j t d ht hd
  have hj:j<2:=(aW.1 ht).1
  refine B4 ny (j:=j) ?_ ?_
  ·rw[aT (by rw[Tryz.params4];exact hj),Tryz.params4];exact ht
  ·rw[aT (by simpa using hj)];exact hd
 obtain⟨Zm,rfl⟩:=Ab.okWide_struct Tryz.underlying24 (kM 0 24 v0 rfl rfl)
 obtain⟨a1,l1,c1,rfl⟩:=okWide_slice Tryz.underlying29 (kM 1 29 v1 rfl rfl)
 obtain⟨⟨x0,y0⟩,s0,o0⟩:=Nt T7 h0 (wt 0 24 d0 rfl rfl) rfl
 obtain⟨x1,s1,o1⟩:=Mj KQ h1 (wt 1 29 d1 rfl rfl) CH
 have lt0:∀x∈p0,x.block<W.heap.size:=by obtain⟨m,hm⟩:=h0;exact DataW.trod_lt m _ _ _ hm
 have lt1:∀x∈p1,x.block<W.heap.size:=by obtain⟨m,hm⟩:=h1;exact DataW.trod_lt m _ _ _ hm
 clear T9 Ow
 refine((Hf x0 y0 x1).calls (fun _=>True) W _ (MK hL) (fun _ _=>trivial) rfl ?_).mono fun e W' ⟨v,he,hv,bel⟩=>?_
 ·intro j v av hj FZ
  match j,hj,FZ with
  |0,hj,FZ=>cases hj;cases FZ;exact s0
  |1,hj,FZ=>cases hj;cases FZ;exact s1
  |j+2,hj,FZ=>simp at FZ
 ·obtain rfl:=MC hv
  subst he
  exact⟨_,rfl,_,_,_,[],_,[],ZP,trodAll_mk1 (shut_bool Tryz.underlying4 _),(trodAll_cons_mk (Below.trod laidOut aI (of_decide_eq_true aI) h0 bel lt0) (trodAll_cons_mk (Below.trod laidOut aI (of_decide_eq_true aI) h1 bel lt1) trodAll_mk0)),rfl,bel.frame _,fun h=>by cases h⟩
theorem over:Rows.topProofTextRow.holds Tryz.pinned (OpenSpec.ofChange Rows.topProofTextSpec):=
 OpenClaim.holds_of_wide 4 Tryz.f4 rfl rfl rfl rfl rfl rfl rfl ⟨rfl,rfl,rfl,rfl,rfl⟩ rfl rfl rfl rfl rfl aI Tryz.func4 aI
  (of_decide_eq_true aI) (by unfold Func.isWrapper;first|(rw[if_pos (by decide+kernel)];kernel_rfl)|(rw[if_neg (by decide+kernel)];exact⟨rfl,rfl⟩))
  (fun os started H enc _=>lifted os started H enc)
set_option maxRecDepth 100000 in
theorem proved:Rows.TopProofTextCardSaid:=
 Claim7.holds_tied_plain_at .later [] [.data,.data,.data,.data,.sentinel,.sentinel,.pinned] true (true, "413c5763cc29fa9ea638aeb67ac9107812e75eb4da15ed2fc118058f24398f9c") true
  over (fun _ h=>by cases h) aI (fun _ h=>by cases h) topProofText_row_tie rfl ⟨rfl,rfl⟩ aI rfl
  (fun f fn hf hfn=>by
   obtain rfl:f=4:=Option.some.inj ((show Tryz.prog.funcNamed "armature/armaturetop.TopProofText" =some 4 by kernel_rfl).symm.trans hf)|>.symm
   obtain rfl:fn=Tryz.f4:=(Option.some.inj (Tryz.func4.symm.trans hfn)).symm
   exact⟨by kernel_rfl,fun j t ht=>by
    rw[Tryz.params4] at ht
    have hm:t∈ [24,29]:=by simpa using Array.mem_of_getElem? ht
    have iT:([24,29].all fun u=>!Tryz.prog.wantsStandIn u)=true:=by kernel_rfl
    exact(show Tryz.prog.wantsStandIn t=false by simpa using List.all_eq_true.1 iT t hm)⟩)
  aI
#print axioms proved
end Go.Proofs.YtigjjjpcjnifhaaGreatDoor.Law2
