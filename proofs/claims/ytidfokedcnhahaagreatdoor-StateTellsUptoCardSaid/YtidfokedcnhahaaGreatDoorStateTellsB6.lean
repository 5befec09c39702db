/-
  StateTells, part 6 of 10.
-/
import Derived.Test.YtidfokedcnhahaaGreatDoorCards
import Derived.LaidByTextLater
import Derived.SevenTiedAt
import Derived.LaidSub
import Derived.LaidOnce
import Derived.Lib.LaidU8T
import Derived.Stop.LaidErr
import Derived.Deep.DeepHandedRow
import Derived.Deep.DeepWitnessRowRef
import Derived.WalkKit
import Derived.ProofKit
import Derived.OpenShut
import Derived.Lib.ValidU
import Derived.Lib.ItoaLen
import Derived.Lib.Repeat
import Derived.Lib.AtoiAll
import Derived.Lib.IndexAny
import Derived.Lib.Bytealg
import Derived.Lib.SlTrimSet
import Derived.Lib.LastIndexByte
import Derived.Sort.Grow
import Derived.Shelf.Strings.BuilderX
import Derived.Test.YtidfokedcnhahaaGreatDoorStateTellsB5
set_option linter.unusedSimpArgs false
set_option linter.unusedVariables false
open BitVec renaming ofInt->aJ
open Bool renaming and_eq_true->bF,or_eq_true->je,or_false->Bj
open Go.Calls renaming mono->va
open Go.IntKind renaming bits->kv,has->mV,i32->eI,i64->ae,max->nP,min->nO,signed->ku,u32->bz,u64->cO,u8->aM,wrap->FM
open Go.Lib renaming atoiAll->ZY,indexByte->so
open Go.Obj renaming cells->xu
open Go.Program.laidByTextLater renaming sub->aJx
open Go.Proofs.Tryz renaming f174->FW,f175->FX,func159->PN,func84->PM,isAgg5->tA,prog->ao,sizeOf5->tB,underlying5->tz,zeroValue5->tC
open Go.RowKit.Below renaming refl->oI
open Go.Utf8 renaming decode->FK
open Go.Value renaming int->u4
open Go.World renaming freeze->Pq
open Go.laidMet renaming tail->PO
open Int renaming fdiv->fb,natAbs->ah,tdiv->pz,tmod->bK
open List renaming all_eq_true->gF,contains_cons->nR,dropWhile_cons->tD,eq_nil_of_length_eq_zero->gH,getD->ca,length->av,length_map->oH,map->cU,mem_cons->eJ,range->jZ
open Nat renaming beq->kY,eq_of_beq_eq_true->zo,le_refl->cD,le_trans->pw,lt_of_lt_of_le->xw,lt_or_ge->mo,mul_comm->u7,zero_add->mq,zero_le->nQ
open Ne renaming symm->dX
open Option renaming bind_some->sj
open UInt8 renaming ofNat->bl
noncomputable section
set_option maxRecDepth 100000
namespace Go.Proofs.YtidfokedcnhahaaGreatDoor.Door
open Go Go.Lib Go.RowKit Go.ChangeShapes Go.ak
theorem own:ownKnob ao.godebug=none:=by kernel_rfl
theorem leaves:GZ ao Go.Proofs.YtidfokedcnhahaaGreatDoor.tt:=ar4 (by kernel_rfl)
theorem acE:ao.globalNamed "strconv.ErrSyntax" = some 3:=by kernel_rfl
theorem acF:ao.globalNamed "strconv.ErrRange" = some 4:=by kernel_rfl
theorem asD:(ao.globals[3]?).map (·.type)=some 158:=by kernel_rfl
theorem asE:(ao.globals[4]?).map (·.type)=some 158:=by kernel_rfl
theorem star : "*" ++ "errors.errorString" = "*errors.errorString" :=by decide
theorem acG (u:TypeId) (h:ao.typeName? 3 u=some "*errors.errorString"):u=271:=
 typeName_ptr_named (nm := "errors.errorString") (by rw[star]; kernel_rfl) (by kernel_rfl) (by decide) u (by rw[star]; exact h)
theorem asF {n:String} {g:Nat} {W:World} {cs:Array Value} (hg:ao.globalNamed n=some g) (h:W.var? ao n=some cs):g<W.heap.size:=by
 unfold World.var? at h;simp only[hg,sj]at h;rcases mo g W.heap.size with h'|h'
 ·exact h'
 ·simp[Array.getElem?_eq_none h']at h
theorem asG {W:World} (h:laidMet ao Rows.orderTellsUptoRow.laid W):dL.Du W/\∀b,dL.blocks b->b<W.heap.size:=by
 have r0:VarReads ao W "unicode/utf8.first" firstData:=laidMet.reads h (.tail _ (.tail _ (.tail _ (.tail _ (.tail _ (.tail _ (.head _)))))));have r1:VarReads ao W "unicode/utf8.acceptRanges" acceptData:=laidMet.reads h (.tail _ (.tail _ (.tail _ (.head _))));have ht:Utf8Tabs 1 2 W:=utf8Tabs_of_readsT (U8Types.of196 Tryz.acB) ⟨by kernel_rfl,by kernel_rfl,by kernel_rfl,by kernel_rfl,by kernel_rfl,by kernel_rfl,by kernel_rfl⟩ r0 r1;have h2:=PO (PO h);have hp:TabIs ao W "internal/strconv.uint64pow10" .u64 pow10Tab:=tabIs_of_head (t:=267) (e:=244) (n:=20) Z5 (by kernel_rfl) (by kernel_rfl) (by kernel_rfl) (by kernel_rfl) (by kernel_rfl) h2
 have h4:=PO (PO h2);obtain ⟨a3,s3,v3,_⟩:=laid_sentinel (ms := #[("Error",120)]) (f := { name := "s",type:=9,offset:=0,embedded:=false,tag := "",pkgPath := "errors",byteOffset:=0 }) (te:=273) (ts:=9) h4 acF asE (by kernel_rfl) acG (by kernel_rfl) (by kernel_rfl) rfl rfl (by kernel_rfl) (by kernel_rfl) (by kernel_rfl);obtain ⟨a2,s2,v2,_⟩:=laid_sentinel (ms := #[("Error",120)]) (f := { name := "s",type:=9,offset:=0,embedded:=false,tag := "",pkgPath := "errors",byteOffset:=0 }) (te:=273) (ts:=9) (PO h4) acE asD (by kernel_rfl) acG (by kernel_rfl) (by kernel_rfl) rfl rfl (by kernel_rfl) (by kernel_rfl) (by kernel_rfl)
 refine⟨⟨ht,hp,⟨_,_,World.var?_cell acE v2 0⟩,⟨_,_,World.var?_cell acF v3 0⟩⟩,fun b hb => ?_⟩;have hb:b<8:=hb;obtain ⟨g,t,cs,fuel,p,hg,_,hv,_⟩:VarReads ao W "math/bits.deBruijn64tab" Rows.laid_math_bits_deBruijn64tab:=laidMet.reads h (.tail _ (.head _));have e:(some 7:Option Nat)=some g:=(by kernel_rfl:ao.globalNamed "math/bits.deBruijn64tab" = some 7).symm.trans hg;cases e;have l4:=asF hg hv;omega
abbrev asH:ByteArray := { data := #[105,110,118,97,108,105,100,32,115,121,110,116,97,120] }
abbrev asI:ByteArray := { data := #[118,97,108,117,101,32,111,117,116,32,111,102,32,114,97,110,103,101] }
def low:Nat:=(World.holding ao default ⟨#[],#[],[]⟩).heap.size
def asJ:DataW Unit->Value
 | .lit (.int k n)=>.int k n
 | _=>.int .u8 0
def acH:DataW Unit->List Value
 | .agg l=>l.map asJ
 | _=>[]
def SO (os:Os):World:=
 let w0:=World.holding ao os ⟨#[.cells #[.string asH] 273,.cells #[.string asI] 273],#[],[]⟩
 let put (h:Array Obj) (g:Nat) (cs:Array Value):Array Obj:=h.modify g fun
  | .cells _ t frozen=>.cells cs t frozen
  | o=>o
 let h0:=put w0.heap 1 (firstTab.map fun z=>u4 .u8 z).toArray
 let h1:=put h0 2 ((jZ 16).flatMap fun i=>[u4 .u8 (accLo i),u4 .u8 (accHi i)]).toArray
 let h2:=put h1 3 #[.iface 271 (.pointer (some ⟨low,0,none⟩))]
 let h3:=put h2 4 #[.iface 271 (.pointer (some ⟨low+1,0,none⟩))]
 let h4:=put h3 5 (pow10Tab.map fun z=>u4 .u64 z).toArray
 let h6:=put h4 6 (acH Rows.laid_math_bits_deBruijn32tab).toArray
 let h7:=put h6 7 (acH Rows.laid_math_bits_deBruijn64tab).toArray
 { w0 with heap:=h7 }
theorem asK (os:Os) (args:Array Value):laidMet ao Rows.orderTellsUptoRow.laid ((SO os).forCall (fun _ _=>0) ⟨#[],args,[]⟩).memory:=
 laidMet_of_run' 8 (by kernel_rfl) (by kernel_rfl)
end Go.Proofs.YtidfokedcnhahaaGreatDoor.Door
namespace Go.Proofs.YtidfokedcnhahaaGreatDoor
open Go
theorem seatTie1:ao.laidByTextLater [("math/bits.deBruijn32tab",Rows.laid_math_bits_deBruijn32tab),("math/bits.deBruijn64tab",Rows.laid_math_bits_deBruijn64tab),("internal/strconv.uint64pow10",Rows.laid_internal_strconv_uint64pow10),("unicode/utf8.acceptRanges",Rows.laid_unicode_utf8_acceptRanges),("strconv.ErrRange",Rows.laid_strconv_ErrRange),("strconv.ErrSyntax",Rows.laid_strconv_ErrSyntax)] [.data,.data,.data,.data,.sentinel,.sentinel] true:=
 Program.laidByTextLater_by_one 72 8 65 (by kernel_rfl) (by kernel_rfl) (by kernel_rfl) (by kernel_rfl) (by kernel_rfl) (by kernel_rfl) (fun _ _=>by kernel_rfl)
theorem pin_laid_unicode_utf8_first:Tryz.pinned.checked.prog.pinnedFits "unicode/utf8.first" = true:=by kernel_rfl
theorem noOwnUnsafe:Tryz.pinned.checked.prog.headLifts.contains "ownunsafe" = false:=by kernel_rfl
theorem fits1:Tryz.pinned.checked.prog.listedFits [("math/bits.deBruijn32tab",Rows.laid_math_bits_deBruijn32tab),("math/bits.deBruijn64tab",Rows.laid_math_bits_deBruijn64tab),("internal/strconv.uint64pow10",Rows.laid_internal_strconv_uint64pow10),("unicode/utf8.acceptRanges",Rows.laid_unicode_utf8_acceptRanges),("strconv.ErrRange",Rows.laid_strconv_ErrRange),("strconv.ErrSyntax",Rows.laid_strconv_ErrSyntax),("unicode/utf8.first",Rows.laid_unicode_utf8_first)]=true:=by
 unfold Program.listedFits;rw[noOwnUnsafe]
 kernel_rfl
theorem tie:ao.laidByTextLater [("math/bits.deBruijn32tab",Rows.laid_math_bits_deBruijn32tab),("math/bits.deBruijn64tab",Rows.laid_math_bits_deBruijn64tab),("internal/strconv.uint64pow10",Rows.laid_internal_strconv_uint64pow10),("unicode/utf8.acceptRanges",Rows.laid_unicode_utf8_acceptRanges),("strconv.ErrRange",Rows.laid_strconv_ErrRange),("strconv.ErrSyntax",Rows.laid_strconv_ErrSyntax)] [.data,.data,.data,.data,.sentinel,.sentinel] true:=
 aJx seatTie1 ["math/bits.deBruijn32tab", "math/bits.deBruijn64tab", "internal/strconv.uint64pow10", "unicode/utf8.acceptRanges", "strconv.ErrRange", "strconv.ErrSyntax"] (by kernel_rfl) (by kernel_rfl)
theorem stateTellsUpto_row_tie:Rows.stateTellsUptoRow.laidByTextAt .later Tryz.pinned [.data,.data,.data,.data,.sentinel,.sentinel,.pinned] true:=
 OpenClaim.laidByTextAt_pinned rfl rfl tie rfl rfl rfl rfl (fun y hy _e=>by
  simp only[Rows.stateTellsUptoRow,List.zip_cons_cons,List.zip_nil_right,eJ,List.mem_nil_iff,or_false]at hy;rcases hy with rfl|rfl|rfl|rfl|rfl|rfl|rfl
  ·cases _e
  ·cases _e
  ·cases _e
  ·cases _e
  ·cases _e
  ·cases _e
  ·exact⟨pin_laid_unicode_utf8_first,by kernel_rfl⟩) fits1
end Go.Proofs.YtidfokedcnhahaaGreatDoor
namespace Go.ak
theorem aw {R:Type} {b:Bool} {k:Option R} (h:b=true):ag b k=k:=by subst h; rfl
theorem aV {n:Int} (h1 : -9223372036854775808<=n) (h2:n<=9223372036854775807):ae.wrap n=n:=by
 simp only[FM,kv,ku,nO,nP];simp;omega
theorem Json.eta (x:Json):(⟨x.kind,⟨x.num.aj,x.num.exp⟩,x.text,x.names,x.items⟩:Json)=x:=by cases x; rfl
theorem Raw.eta (x:Raw):(⟨x.kind,x.aj,x.exp,x.text,x.items⟩:Raw)=x:=by cases x; rfl
theorem getD_at {α:Type} {l:List α} {i:Nat} (h:i<l.length) (d:α):l.getD i d=l[i]:=by simp[ca,h]
end Go.ak
namespace Go.ak
open Go.RowKit
section
variable {P:Program} {tt:aZ} {w w':World} {h h':aq} {c c':bh} {R:Type}
theorem B9 (hb:Below w.heap.size w w'):Ext w h c w' h c where
 os:=hb.os
 tape:=hb.tape
 output:=hb.output
 size:=hb.size
 used:=fun _ hi=>hi
 same:=fun i hi hd=>⟨D4 (DP hi.2 hd) (fun _ _ _=>.inr trivial),rfl,rfl⟩
 cell:=fun b x hx _=>BH (hb.block b hx)
 block:=fun b hx _=>hb.block b hx
 gI:=fun _ _ _ ho=>ho
 ext:=rfl
 arr:=fun b arr e fz hx=>⟨arr,fz,by rw[hb.block b (vT hx)]; exact hx,rfl⟩
theorem G1 (wf:WF w h c) (hb:Below w.heap.size w w'):WF w' h c where
 hM:=wf.hM
 hP:=fun b x he=>xw (wf.hP b x he) hb.size
 obj:=fun i hi=>by
  by_cases hl:(h.at i).live
  ·exact(wf.obj i hi).eQ (B9 hb) (fun b bI=>hb.block b ((wf.obj i hi).lt hl bI)) rfl rfl
  ·have h0:h.at i=.free\/h.at i=.dead:=by revert hl; cases h.at i<;>simp[aI.live]
   rcases h0 with h0|h0<;>rw[h0]<;>trivial
 inj:=wf.inj
 lay:=wf.pL (B9 hb)
theorem Ay {g:Nat} {fn:Func} (hf:P.funcs[g]? = some fn) (hn:(fn.name == "runtime.NumGoroutine")=false) (hb:fn.body.isNone=false) {args:Array Value} {Q:Value->World->Prop}
  (h:Calls P g args w fun e w'=>∃d,e=.returned d/\Q d w'):tQ P g args w Q:=by
 refine⟨.enter g args,w,?_,h⟩;have mz:fn.name ≠ "runtime.NumGoroutine" :=by simpa using hn
 have bI:fn.body≠none:=fun e=>by rw[e]at hb; cases hb
 simp[callFunc,hf,mz,bI]
theorem tU {g:Nat} {fn:Func} (hf:P.funcs[g]? = some fn) (hn:(fn.name == "runtime.NumGoroutine")=false) (hb:fn.body.isNone=false) {sp:Spec R}
  (hs:∀vs hp k r,sp vs hp k=some r->∀(w:World) (c:bh) (args:Array Value),WF w hp c->aQ w hp c vs args.toList ->
   ∃v,k v hp=some r/\Calls P g args w fun e w'=>∃d,e=.returned d/\Below w.heap.size w w'/\ay w' hp c v d):Spec.Ok P g sp:=by
 intro vs hp k r hk w c args wf ra;obtain ⟨v,hv,hc⟩:=hs vs hp k r hk w c args wf ra;refine Ay hf hn hb (va hc ?_)
 rintro e w' ⟨d,he,lS,hr⟩
 exact⟨d,he,v,hp,c,G1 wf lS,B9 lS,hr,hv⟩
theorem Ek {v:V} {args:Array Value} (ra:aQ w h c [v] args.toList):∃d,args = #[d]/\ay w h c v d:=by
 obtain ⟨l⟩:=args
 match l,ra with
 | [d],ra=>exact⟨d,rfl,ra.head⟩
 | [],ra=>have:=ra.1; simp at this
 | _::_::_,ra=>have:=ra.1; simp at this
theorem El {u v:V} {args:Array Value} (ra:aQ w h c [u,v] args.toList):∃d e,args = #[d,e]/\ay w h c u d/\ay w h c v e:=by
 obtain ⟨l⟩:=args
 match l,ra with
 | [d,e],ra=>exact⟨d,e,rfl,ra.head,ra.tail.head⟩
 | [],ra=>have:=ra.1; simp at this
 | [_],ra=>have:=ra.1; simp at this
 | _::_::_::_,ra=>have:=ra.1; simp at this
end
section
variable {P:Program} {tt:aZ} {w w':World} {h h':aq} {c c':bh} {R:Type}
def Az (R:Type):Spec R:=fun vs h k=>
 match vs with
 | [.ptr i 0]=>(match h.at i with | .bA _=>k (.tuple []) h|_=>none)
 | _=>none
theorem SP {i:Nat} {v:V} {a':Value} (wf:WF w h c) (ra:ay w h c (.ptr i 0) a') (hv:h.at i=.bA v) :
  ∃b p d,a'=.pointer (some ⟨b,0,none⟩)/\c.cf i=some b/\w.heap[b]? = some (xu #[p,d] dL.bA (0,0))/\(p=.pointer none\/p=.pointer (some ⟨b,0,none⟩))/\ay w h c v d:=by
 have hi:=aq.gb hv (by simp);have ho:=wf.obj i hi;rw[hv]at ho;obtain ⟨b,p,d,g1,g2,g3,g4⟩:=ho;cases ra with
 | ptr hu hq=>
  obtain ⟨b',rfl,bI⟩:=hq;have:=bI (by rw[hv]; simp);rw[g1]at this; cases this;exact⟨b,p,d,rfl,g1,g2,g3,g4⟩
theorem asL {g:Nat} {fn:Func} (hf:P.funcs[g]? = some fn) (hn:(fn.name == "runtime.NumGoroutine")=false) (hb:fn.body.isNone=false)
  (fresh:∀(b:Nat) (w:World),w.cell? ⟨b,0,none⟩=some (.pointer none)->w.shape? b=some (dL.bA,2)->w.frozen? ⟨b,0,none⟩=false ->
   Calls P g #[.pointer (some ⟨b,0,none⟩)] w fun e w'=>e=.returned (.tuple #[])/\w'=w.setCell ⟨b,0,none⟩ (.pointer (some ⟨b,0,none⟩)))
  (used:∀(b:Nat) (w:World),w.cell? ⟨b,0,none⟩=some (.pointer (some ⟨b,0,none⟩))->Calls P g #[.pointer (some ⟨b,0,none⟩)] w fun e w'=>e=.returned (.tuple #[])/\w'=w):Spec.Ok P g (Az R):=by
 intro vs h k r hk w c args wf ra;unfold Az at hk;split at hk<;>(try cases hk);rename_i i;split at hk<;>(try cases hk);rename_i v hv;obtain ⟨a',rfl,r1⟩:=Ek ra;obtain ⟨b,p,d,rfl,g1,g2,g3,g4⟩:=SP wf r1 hv;have fL:w.cell? ⟨b,0,none⟩=some p:=by rw[cell_of_row w b _ _ _ _ g2]; rfl
 have rt:∀w' h' c',ay w' h' c' (.tuple []) (.tuple #[]):=fun w' h' c'=>.tuple rfl (fun j v d hv=>by simp at hv)
 rcases g3 with rfl|rfl
 ·refine Ay hf hn hb (va (fresh b w fL (by simp[World.shape?,g2]) (BJ g2 0)) ?_)
  rintro e w' ⟨he,rfl⟩
  have bI:(w.setCell ⟨b,0,none⟩ (.pointer (some ⟨b,0,none⟩))).heap[b]? = some (.cells #[.pointer (some ⟨b,0,none⟩),d] dL.bA (0,0)):=by
   simp[World.setCell,Array.getElem?_modify,g2]
  have hw:BL w (w.setCell ⟨b,0,none⟩ (.pointer (some ⟨b,0,none⟩))) b #[.pointer (some ⟨b,0,none⟩),d] dL.bA (0,0):=⟨rfl,rfl,rfl,by simp,fun k hk=>heap_setCell_other w _ k _ hk,bI⟩;have jC:(h.at i).from_ (c.off i)=some 0:=by rw[hv]; rfl
  have fW:(h.at i).aW (.bA v):=by rw[hv]; trivial
  have yc:h.set i (.bA v)=h:=by
   have hi:=aq.gb hv (by simp);have e:h[i]=.bA v:=by
    have:=hv;unfold aq.at at this;simpa [ca,List.getElem?_eq_getElem hi]using this
   rw[<-e];exact List.set_getElem_self hi
  have x:=Gt g1 g2 hw rfl jC rfl fW;have q:=JH wf g1 g2 hw rfl jC rfl fW ⟨b,_,d,g1,bI,.inr rfl,g4.mono x⟩;rw[yc]at x q;exact⟨_,he,_,h,c,q,x,rt _ _ _,hk⟩
 ·refine Ay hf hn hb (va (used b w fL) ?_)
  rintro e w' ⟨he,rfl⟩
  exact⟨_,he,_,h,c,wf,.refl _ _ _,rt _ _ _,hk⟩
def ft (l:List Int):ad:=l.map fun n=>bl n.toNat
theorem asM (l:List Int):(ft l).length=l.length:=oH _
theorem asN (l:List Int) (m:Nat) (x:UInt8) (h:(ft l)[m]? = some x):∃n,l[m]? = some n/\x=bl n.toNat:=by
 unfold ft at h;rw[List.getElem?_map]at h;cases hm:l[m]? with
 | none=>rw[hm]at h; cases h
 | some n=>rw[hm]at h; simp at h; exact⟨n,rfl,h.symm⟩
def yq (R:Type):Spec R:=fun vs h k=>
 match vs with
 | [.ptr i 0]=>
  (match h.at i with
   | .bA .bk=>k (.str []) h
   | .bA (.sl (.int .u8) l (.own j))=>(match h.at j with | .tok=>k (.str (ft l)) h|_=>none)
   | _=>none)
 | _=>none
theorem Ku:GM (yq R):=by
 intro vs h k k' he;unfold yq;split<;>try rfl
 split<;>try (first|rfl|exact he _)
 split<;>first|rfl|exact he _
theorem asO (wf:WF w h c) {j g:Nat} (hj:h.at j=.tok) (hg:c.cf j=some g) {cur:Array Value} {e:TypeId} {fz fA:Nat×Nat} (h1:w.heap[g]? = some (.cells cur e fz))
  (hos:w'.os=w.os) (asP:w'.tape=w.tape) (SQ:w'.output=w.output) (RT:w'.heap.size=w.heap.size) (qQ:∀k,k≠g->w'.heap[k]? = w.heap[k]?) (h2:w'.heap[g]? = some (.cells cur e fA))
  (nY:(fz.1=fz.2\/fz.2<=c.off j)->(fA.1=fA.2\/fA.2<=c.off j)) :
  WF w' h c/\Ext w h c w' h c:=by
 have hjl:=aq.gb hj (by simp);have cQ:fJ h c g (c.off j):=⟨j,c.off j,hg,by rw[hj]; rfl,cD _⟩;have mA:∀b x,w'.cell? ⟨b,x,none⟩=w.cell? ⟨b,x,none⟩:=fun b x=>by
  by_cases hb:b=g
  ·subst hb; rw[cell_of_row w' b x cur e fA h2,cell_of_row w b x cur e fz h1]
  ·exact BH (qQ b hb)
 have x:Ext w h c w' h c := {
  os:=hos
  tape:=asP
  output:=SQ
  size:=by omega
  used:=(Ext.refl w h c).used
  same:=(Ext.refl w h c).same
  cell:=fun b x _ _=>mA b x
  block:=fun b _ ho=>qQ b (by rintro rfl; exact ho _ cQ)
  gI:=(Ext.refl w h c).gI
  ext:=rfl
  arr:=fun b arr el fz0 hb=>by
   by_cases hbg:b=g
   ·subst hbg; rw[h1]at hb; cases hb; exact⟨cur,fA,h2,rfl⟩
   ·exact⟨arr,fz0,by rw[qQ b hbg]; exact hb,rfl⟩ }
 refine⟨?_,x⟩;exact {
  lay:=wf.pL x
  hM:=wf.hM
  hP:=fun b y he=>by rw[RT]; exact wf.hP b y he
  obj:=fun i hi=>by
   by_cases cG:i=j
   ·subst cG;have:=wf.obj i hi;rw[hj]at this ⊢;rcases this with h0|⟨b',lQ,e',fz0,p1,p2,p3,p4⟩
    ·rw[hg]at h0; cases h0
    ·rw[hg]at p1; cases p1;rw[h1]at p2; cases p2;exact .inr ⟨g,cur,e,fA,hg,h2,p3,nY p4⟩
   ·by_cases hl:(h.at i).live
    ·refine(wf.obj i hi).eQ x (fun b hb=>qQ b ?_) rfl rfl
     rintro rfl
     exact cG (wf.inj i j b hl (by rw[hj]; trivial) hb hg)
    ·have h0:h.at i=.free\/h.at i=.dead:=by revert hl; cases h.at i<;>simp[aI.live]
     rcases h0 with h0|h0<;>rw[h0]<;>trivial
  inj:=wf.inj }
theorem asQ {q n:Nat} {cur:Array Value} {e:TypeId} {fz:Nat×Nat} (hn:n≠0) (hq:w.heap[q]? = some (.cells cur e fz)) :
  (w.drew.freeze ⟨q,0,none⟩ n).os=w.os/\(w.drew.freeze ⟨q,0,none⟩ n).tape=w.tape/\(w.drew.freeze ⟨q,0,none⟩ n).output=w.output/\(w.drew.freeze ⟨q,0,none⟩ n).heap.size=w.heap.size /\
   (∀k,k≠q->(w.drew.freeze ⟨q,0,none⟩ n).heap[k]? = w.heap[k]?)/\∃fA,(w.drew.freeze ⟨q,0,none⟩ n).heap[q]? = some (.cells cur e fA)/\∀o,n<=o->(fz.1=fz.2\/fz.2<=o)->(fA.1=fA.2\/fA.2<=o):=by
 obtain ⟨lo,hi⟩:=fz;unfold Pq;rw[if_neg hn];refine⟨rfl,rfl,rfl,Array.size_modify,fun k hk => ?_,(if lo==hi then(0,0+n)else(min lo 0,max hi (0+n))),?_,fun o ho hf => ?_⟩
 ·simp only[Array.getElem?_modify];rw[if_neg (dX hk)];rfl
 ·simp only[Array.getElem?_modify,if_true];rw[show w.drew.heap[q]? = some (.cells cur e (lo,hi))from hq];rfl
 ·simp only at hf;split
  ·exact .inr (by simp; omega)
  ·rename_i aT;have:lo≠hi:=by simpa using aT
   exact .inr (by simp; omega)
theorem asR {n:Int} (hn:aM.has n):((bl n.toNat).toNat:Int)=n:=by
 have:0<=n/\n<=255:=by simpa [mV,nO,nP,ku,kv]using hn
 simp only[UInt8.toNat_ofNat'];omega
structure acI (P:Program) (g:Nat):Prop where
 nil:∀(b:Nat) (p:Value) (w:World),w.heap[b]? = some (.cells #[p,.slice none 0 0] dL.bA (0,0)) ->
  Calls P g #[.pointer (some ⟨b,0,none⟩)] w fun e w'=>e=.returned (.string ⟨#[]⟩)/\Below w.heap.size w w'
 acJ:∀(b q:Nat) (p:Value) (cur:Array Value) (fz:Nat×Nat) (w:World),w.heap[b]? = some (.cells #[p,.slice (some ⟨q,0,none⟩) 0 0] dL.bA (0,0))->w.heap[q]? = some (.cells cur dL.u8 fz) ->
  Calls P g #[.pointer (some ⟨b,0,none⟩)] w fun e w'=>e=.returned (.string ⟨#[]⟩)/\Below w.heap.size w w'
 room:∀(b q cap:Nat) (p:Value) (w:World),cap≠0->w.heap[b]? = some (.cells #[p,.slice (some ⟨q,0,none⟩) 0 cap] dL.bA (0,0)) ->
  Calls P g #[.pointer (some ⟨b,0,none⟩)] w fun e w'=>e=.returned (.string ⟨#[]⟩)/\Below w.heap.size w w'
 some:∀(b q cap:Nat) (p:Value) (cur:Array Value) (fz:Nat×Nat) (l:List UInt8) (w:World),l≠[]->w.heap[b]? = some (.cells #[p,.slice (some ⟨q,0,none⟩) l.length cap] dL.bA (0,0)) ->
  w.heap[q]? = some (.cells cur dL.u8 fz)->l.length<=cap->cap<=mx->l.length<=cur.size->(∀(j:Nat) (x:UInt8),l[j]? = some x->w.cell? ⟨q,j,none⟩=some (.int .u8 x.toNat)) ->
  Calls P g #[.pointer (some ⟨b,0,none⟩)] w fun e w'=>e=.returned (.string ⟨l.toArray⟩)/\w'=w.drew.freeze ⟨q,0,none⟩ l.length
theorem asS {g:Nat} {fn:Func} (hf:P.funcs[g]? = some fn) (hn:(fn.name == "runtime.NumGoroutine")=false) (hb:fn.body.isNone=false) (D:acI P g):Spec.Ok P g (yq R):=by
 intro vs h k r hk w c args wf ra;unfold yq at hk;split at hk<;>(try cases hk);rename_i i;obtain ⟨a',rfl,r1⟩:=Ek ra;have empty:∀ {w':World} {h':aq} {c':bh},ay w' h' c' (.str []) (.string ⟨#[]⟩):=fun {w' h' c'}=>xQ ⟨#[]⟩ rfl (nQ _)
 split at hk<;>(try cases hk)
 ·rename_i hv;obtain ⟨b,p,d,rfl,g1,g2,g3,g4⟩:=SP wf r1 hv;cases g4;refine Ay hf hn hb (va (D.nil b p w g2) ?_)
  rintro e w' ⟨he,lS⟩
  exact⟨_,he,_,h,c,G1 wf lS,B9 lS,empty,hk⟩
 ·rename_i l j hv;split at hk<;>(try cases hk);rename_i hj;obtain ⟨b,p,d,rfl,g1,g2,g3,g4⟩:=SP wf r1 hv;have hi:=aq.gb hv (by simp);have cG:j≠i:=by rintro rfl; rw[hj]at hv; cases hv
  have hu8:∀x∈(l:List Int),aM.has x:=by
   intro x hx;cases g4 with
   | sl f cv bQ hc hr iw cQ=>
    obtain ⟨m,hm⟩:=List.mem_iff_getElem?.1 hx;exact(hr m 0 x (.int .u8 x) hm rfl).fi.2
  have hlen:(ft l).length=av (α:=Int) l:=asM l;cases g4 with
  | @sl _ _ _ A cap f cv bQ hc hr iw cQ=>
   obtain ⟨_,ho⟩:=cQ j rfl;have aJh:av (α:=Int) l<=cap:=cv;have pG:∀(w':World) (h':aq) (c':bh),ay w' h' c' (.str (ft l)) (.string ⟨(ft l).toArray⟩):=fun w' h' c'=>xQ _ rfl (by rw[hlen]; exact pw cv bQ)
   rcases ho hj with ⟨e1,rfl,rfl⟩|⟨q,o,cur,e,fz,e1,rfl,e3,e4,e5,e6⟩
   ·have iT:l=[]:=gH (Nat.le_zero.1 cv);subst iT;refine Ay hf hn hb (va (D.nil b p w g2) ?_)
    rintro e w' ⟨he,lS⟩
    exact⟨_,he,_,h,c,G1 wf lS,B9 lS,pG _ _ _,hk⟩
   ·obtain ⟨rfl,rfl⟩:=e6 rfl;by_cases iT:l=[]
    ·subst iT;by_cases fL:cap=0
     ·subst fL;refine Ay hf hn hb (va (D.acJ b q p cur fz w g2 e4) ?_)
      rintro e w' ⟨he,lS⟩
      exact⟨_,he,_,h,c,G1 wf lS,B9 lS,pG _ _ _,hk⟩
     ·refine Ay hf hn hb (va (D.room b q cap p w fL g2) ?_)
      rintro e w' ⟨he,lS⟩
      exact⟨_,he,_,h,c,G1 wf lS,B9 lS,pG _ _ _,hk⟩
    ·have lS:ft l≠[]:=fun e=>iT (gH (hlen.symm.trans (by rw[e]; rfl)))
     have e5':0+cap*1<=cur.size:=e5;have vO:∀(m:Nat) (x:UInt8),(ft l)[m]? = some x->w.cell? ⟨q,m,none⟩=some (.int .u8 x.toNat):=by
      intro m x hx;obtain ⟨n,hm,rfl⟩:=asN l m x hx;have tO:m<av (α:=Int) l:=(List.getElem?_eq_some_iff.1 hm).1;obtain ⟨b',o',hA,mA,_⟩:=hc m 0 tO (by simp[Ty.sz]);cases hA;have hrn:=hr m 0 n (.int .u8 n) hm rfl;rw[hrn.fi.1]at mA;rw[asR hrn.fi.2];simpa [Ty.sz]using mA
     have JU:w.heap[b]? = some (.cells #[p,.slice (some ⟨q,0,none⟩) (ft l).length cap] dL.bA (0,0)):=by rw[hlen]; exact g2
     refine Ay hf hn hb (va (D.some b q cap p cur fz (ft l) w lS JU e4 (by rw[hlen]; exact cv) bQ (by rw[hlen]; omega) vO) ?_)
     rintro e w' ⟨he,rfl⟩
     have asT:(ft l).length≠0:=by simpa using lS
     obtain ⟨f1,f2,f3,f4,f5,fA,f6,f7⟩:=asQ asT e4;obtain ⟨q1,q2⟩:=asO wf hj e1 e4 f1 f2 f3 f4 f5 f6 (f7 _ (by rw[e3,hlen]; simp[Ty.sz]; exact cD _));exact⟨_,he,_,h,c,q1,q2,pG _ _ _,hk⟩
end
def kh (s:ad):Bool:=s.all fun b=>decide (b.toNat<128)
def dh (s:ad):Bool:=Go.Lib.validD s
def mC (s:ad):Nat×Nat:=if s.isEmpty then(65533,0)else FK ⟨s.toArray⟩ 0
def Kv (n:Int):ad:=Go.Lib.itoa n
def tV (s:ad) (n:Int):ad:=Go.Lib.repeatL s n.toNat
def aK (s cs:ad):ad:=s.dropWhile (cs.contains ·)
def bx (s cs:ad):ad:=(s.reverse.dropWhile (cs.contains ·)).reverse
def ng (s:ad):Bool:=match ZY s with | .ok _=>true|_=>false
def dY (s:ad):Int:=match ZY s with | .ok v=>v | .range=>Go.Lib.atoiSat s|_=>0
def G2 (s cs:ad):Bool:=Go.Lib.containsAny s cs
def nh (s:ad) (c:UInt8):Int:=Go.Lib.lastIndexByte ⟨s.toArray⟩ (c.toNat:Int)
def v7 (s:ad) (c:Int):Int:=so s c.toNat.toUInt8
section
variable (R:Type)
def SR:Spec R:=fun vs h k=>match vs with | [.str s]=>k (.bool (dh s)) h|_=>none
def SS:Spec R:=fun vs h k=>match vs with | [.str s]=>k (.tuple [.int .i32 (mC s).1,.int .i64 (mC s).2]) h|_=>none
def SU:Spec R:=fun vs h k=>match vs with | [.int .i64 n]=>k (.str (Kv n)) h|_=>none
def SV:Spec R:=fun vs h k=>match vs with | [.str s,.int .i64 n]=>ag (decide (0<=n)&&decide ((s.length:Int)*n<=140737488355328)) (k (.str (tV s n)) h)|_=>none
def Em:Spec R:=fun vs h k=>match vs with | [.str s,.str cs]=>ag (kh cs&&decide (cs.length<4294967281)) (k (.str (aK s cs)) h)|_=>none
def SW:Spec R:=fun vs h k=>match vs with | [.str s,.str cs]=>ag (kh cs&&decide (cs.length<4294967281)) (k (.str (bx s cs)) h)|_=>none
def Kw:Spec R:=fun vs h k=>match vs with
 | [.str s]=>ag (decide (s.length<=281474976710656)) (bif ng s then k (.tuple [.int .i64 (dY s),.eR]) h else k (.tuple [.int .i64 (dY s),.iface]) h)
 | _=>none
def toErr_S (T:Nat):Spec R:=fun vs h k=>match vs with
 | [.str _,.str s,.int .i64 _,.int .i64 _,.gh t .i64 n]=>ag (kY t T&&(n==2||n==1)) (ag (decide (s.length<=281474976710656)) (k .iface h))
 | _=>none
def SX:Spec R:=fun vs h k=>match vs with
 | [.str s,.str cs]=>ag (kh s&&kh cs&&decide (s.length<4294967281)&&decide (cs.length<4294967281)) (k (.bool (G2 s cs)) h)
 | _=>none
def SY:Spec R:=fun vs h k=>match vs with | [.str s,.str [c]]=>ag (decide (s.length<=281474976710656)) (k (.int .i64 (nh s c)) h)|_=>none
def Kx:Spec R:=fun vs h k=>match vs with | [.str s,.int .u8 c]=>k (.int .i64 (v7 s c)) h|_=>none
end
section
variable {P:Program} {w w':World} {h:aq} {c:bh} {R:Type}
open Go.Lib
theorem Ky {s:ad} (hs:kh s=true):∀(j:Nat) (b:UInt8),s[j]? = some b->b.toNat<128:=by
 intro j b hb;have:=gF.1 hs b (List.mem_of_getElem? hb);simpa using this
theorem pW (p:UInt8->Bool):∀s:ad,(s.dropWhile p).length<=s.length
 | []=>cD _
 | b::s=>by
  rw[tD];split
  ·have:=pW p s; simp; omega
  ·exact cD _
theorem Kz (l:ad) (h':l.length<=mx):ay w h c (.str l) (.string ⟨l.toArray⟩):=xQ _ rfl h'
theorem mD {g:Nat} {args:Array Value} {Q:Ending->World->Prop} {v:V} (hc:Calls P g args w Q)
  (hq:∀e w',Q e w'->∃d,e=.returned d/\Below w.heap.size w w'/\ay w' h c v d):Calls P g args w fun e w'=>∃d,e=.returned d/\Below w.heap.size w w'/\ay w' h c v d:=va hc fun e w' q=>hq e w' q
end
end Go.ak
set_option maxRecDepth 100000
namespace Go.Proofs.YtidfokedcnhahaaGreatDoor
open Go Go.ak Go.RowKit Go.Shelf
section
variable {w w':World} {h:aq} {c:bh} {R:Type}
theorem below_drewN:∀(q:Nat) (a:World),Below w.heap.size w a->Below w.heap.size w (a.drewN q)
 | 0,_,ha=>ha
 | q+1,a,ha=>(below_drewN q a ha).drew
theorem asU (a:World) (os:Array Obj) (ha:Below w.heap.size w a):Below w.heap.size w { a with heap:=a.heap++os }:=
 ⟨ha.os,ha.tape,ha.output,by simp; have:=ha.size; omega,fun k hk=>by
  have:=ha.size;rw[<-ha.block k hk];exact Array.getElem?_append_left (by omega)⟩
theorem asV (e:TypeId) (t:ByteArray):Below w.heap.size w (Go.Lib.bytesWorld w e t):=by
 unfold Go.Lib.bytesWorld Pq;have hb:Below w.heap.size w (w.drew.alloc (.cells (Go.Lib.bytesCells w e t) e)):=QX w _;split
 ·exact hb
 ·refine⟨hb.os,hb.tape,hb.output,?_,fun k hk => ?_⟩
  ·have:=hb.size; simpa using this
  ·rw[<-hb.block k hk];simp only[Array.getElem?_modify];rw[if_neg (by show ¬w.heap.size=k; omega)]
theorem asW (s cs:ad):(aK s cs).length<=s.length:=pW _ s
theorem asX (s cs:ad):(bx s cs).length<=s.length:=by
 unfold bx;rw[List.length_reverse];exact pw (pW _ _) (by simp)
theorem asY (s:ad):aK s []=s:=by
 unfold aK;cases s with
 | nil=>rfl
 | cons b s=>simp
theorem asZ (s:ad):bx s []=s:=by
 unfold bx;have:(s.reverse.dropWhile fun x=>List.contains [] x)=s.reverse:=by
  cases s.reverse with
  | nil=>rfl
  | cons b s=>simp
 rw[this,List.reverse_reverse]
theorem as0 (s:ad) (b:UInt8):aK s [b]=Go.Lib.trimLeftB s b:=by
 unfold aK Go.Lib.trimLeftB;congr 1;funext x;rw[nR];show(x==b||false)=_;rw[Bj]
theorem as1 (s:ad) (b:UInt8):bx s [b]=Go.Lib.trimRightB s b:=by
 unfold bx Go.Lib.trimRightB;congr 2;funext x;rw[nR];show(x==b||false)=_;rw[Bj]
theorem as2:ak.Spec.Ok ao 200 (SR R):=by
 refine tU Tryz.func200 rfl rfl fun vs hp k r hk w c args wf ra => ?_
 unfold SR at hk;split at hk<;>(try cases hk);rename_i s;obtain ⟨a,rfl,r1⟩:=Ek ra;obtain ⟨t,rfl,rfl,hl⟩:=r1.gJ;refine⟨_,hk,mD (Any.utf8_ValidString Tryz.acB t w hl wf.lay.1.1) ?_⟩
 rintro e w' ⟨he,hb⟩
 exact⟨_,he,hb,.bool _⟩
theorem as3:ak.Spec.Ok ao 184 (SS R):=by
 refine tU Tryz.func184 rfl rfl fun vs hp k r hk w c args wf ra => ?_
 unfold SS at hk;split at hk<;>(try cases hk);rename_i s;obtain ⟨a,rfl,r1⟩:=Ek ra;obtain ⟨t,rfl,rfl,hl⟩:=r1.gJ;have hd:Go.Lib.decodeGo t=mC t.data.toList:=by
  unfold Go.Lib.decodeGo mC;by_cases h0:t.size=0
  ·have:t.data.toList=[]:=gH (by rw[size_data]; exact h0);simp[h0,this]
  ·have:t.data.toList≠[]:=fun e=>h0 (by rw[<-size_data,e]; rfl)
   have hm:(⟨t.data.toList.toArray⟩:ByteArray)=t:=xP rfl;simp[h0,hm];exact fun e=>absurd (show t.data.size=0 by rw[e]; rfl) h0
 have aX:(mC t.data.toList).1<2097152/\(mC t.data.toList).2<=4:=by
  unfold mC;split
  ·exact⟨by omega,by omega⟩
  ·exact⟨(Q6 _ _).1,(Q6 _ _).2.2⟩
 refine⟨_,hk,mD (Any.utf8_DecodeRuneInString Tryz.asp t w wf.lay.1.1) ?_⟩
 rintro e w' ⟨he,hb⟩
 rw[hd]at he;refine⟨_,he,hb,.tuple rfl fun j v d hv hd => ?_⟩
 match j,hv,hd with
 | 0,hv,hd=>simp at hv hd; subst hv; subst hd; exact .int (aaY _ aX.1)
 | 1,hv,hd=>simp at hv hd; subst hv; subst hd; exact .int (Bz _ (by unfold mx; omega))
 | j+2,hv,_=>simp at hv
theorem as4:ak.Spec.Ok ao 172 (SU R):=by
 refine tU Tryz.func172 rfl rfl fun vs hp k r hk w c args wf ra => ?_
 unfold SU at hk;split at hk<;>(try cases hk);rename_i n;obtain ⟨a,rfl,r1⟩:=Ek ra;obtain ⟨rfl,hn⟩:=r1.fi;have mz : -9223372036854775808<=n/\n<=9223372036854775807:=by simpa [mV,nO,nP,ku,kv]using hn
 refine⟨_,hk,mD (Any.strconv_Itoa Tryz.asr n mz.1 mz.2 w wf.lay.1.2.1) ?_⟩
 rintro e w' ⟨he,q,os,rfl⟩
 refine⟨_,he,asU _ os (below_drewN q w (oI _ _)),Kz _ ?_⟩;have:=Go.Lib.itoa_length_le n mz.1 mz.2;unfold Kv mx;omega
theorem SZ:Builder.X72 ao Tryz.Kt := { sizeBuilder:=by kernel_rfl,liesBuilder:=by kernel_rfl }
theorem as5:Builder.Extra ao Tryz.Kt := { SZ with t5:=tz,a5:=tA,z5:=tB,v5:=tC,infoByte:=by kernel_rfl,cellsByte:=by kernel_rfl,sizeByte:=by kernel_rfl,neB5:=by decide }
theorem as6:ak.Spec.Ok ao 173 (SV R):=by
 refine tU Tryz.func173 rfl rfl fun vs hp k r hk w c args wf ra => ?_
 unfold SV at hk;split at hk<;>(try cases hk);rename_i s n;obtain ⟨hc,hk⟩:=cz hk;simp only[bF,decide_eq_true_eq]at hc;obtain ⟨h0,hlen⟩:=hc;obtain ⟨a,b,rfl,r1,r2⟩:=El ra;obtain ⟨t,rfl,rfl,hl⟩:=r1.gJ;obtain ⟨rfl,hn⟩:=r2.fi;obtain ⟨m,rfl⟩:=Int.eq_ofNat_of_zero_le h0;have mz:(m:Int)<=9223372036854775807:=by
  have:ae.has (m:Int):=hn;simp[mV,nO,nP,ku,kv]at this;omega
 rw[size_data]at hlen;have acK:t.size*m<=140737488355328:=by omega
 have hrl:(Go.Lib.repeatL t.data.toList m).length<=140737488355328:=by
  rw[Go.Lib.repeatL_length,size_data,u7]; exact acK
 refine⟨_,hk,mD (Any.strings_Repeat Tryz.acC as5 t m w (by omega) acK) ?_⟩
 rintro e w' ⟨he,hb⟩
 refine⟨_,he,hb,?_⟩;have e2:tV t.data.toList (m:Int)=Go.Lib.repeatL t.data.toList m:=by unfold tV; simp
 rw[e2];exact Kz _ (by unfold mx; omega)
theorem KA:ak.Spec.Ok ao 105 (Em R):=by
 refine tU Tryz.func105 rfl rfl fun vs hp k r hk w c args wf ra => ?_
 unfold Em at hk;split at hk<;>(try cases hk);rename_i s cs;obtain ⟨hc,hk⟩:=cz hk;simp only[bF,decide_eq_true_eq]at hc;obtain ⟨ha,fq⟩:=hc;obtain ⟨a,b,rfl,r1,r2⟩:=El ra;obtain ⟨t,rfl,rfl,hl⟩:=r1.gJ;obtain ⟨u,rfl,rfl,jB⟩:=r2.gJ;rw[size_data]at fq;have Ca:=Ky ha;have hle:=asW t.data.toList u.data.toList;rw[size_data]at hle;have fin:∀(l:ad),l=aK t.data.toList u.data.toList->∀w':World,ay w' hp c (.str (aK t.data.toList u.data.toList)) (.string ⟨l.toArray⟩):=fun l e w'=>by
  rw[e]; exact Kz _ (by omega)
 by_cases h0:t.size=0\/u.size=0
 ·refine⟨_,hk,mD (Any.strings_TrimLeft_empty Tryz.SK t u w h0) ?_⟩
  rintro e w' ⟨he,rfl⟩
  have e2:(⟨t.data.toList.toArray⟩:ByteArray)=t:=xP rfl;rw[<-e2]at he;refine⟨_,he,oI _ _,fin _ ?_ _⟩;rcases h0 with h0|h0
  ·have:t.data.toList=[]:=gH (by rw[size_data]; exact h0);rw[this]; unfold aK; simp
  ·have:u.data.toList=[]:=gH (by rw[size_data]; exact h0);rw[this,asY]
 ·have Cb:u.size=1\/2<=u.size:=by omega
  rcases Cb with Cb|nX
  ·obtain ⟨b,hb⟩:∃b,u.data.toList=[b]:=by
    have S0:u.data.toList.length=1:=by rw[size_data]; exact Cb
    match hq:u.data.toList,S0 with
    | [b],_=>exact⟨b,rfl⟩
   have eu:u=⟨#[b]⟩:=xP (by rw[hb]);subst eu;refine⟨_,hk,mD (Any.strings_TrimLeft_one Tryz.SK t b (Ca 0 b rfl) w) ?_⟩
   rintro e w' ⟨he,rfl⟩
   exact⟨_,he,oI _ _,fin _ (as0 _ _).symm _⟩
  ·refine⟨_,hk,mD (Any.strings_TrimLeft_set Tryz.SK Tryz.zeroValue178 (by kernel_rfl) t u w nX (by omega) (by omega) Ca) ?_⟩
   rintro e w' ⟨he,rfl⟩
   refine⟨_,he,?_,fin _ rfl _⟩;exact((oI _ _).alloc (cD _) _).alloc (by simp) _
theorem as7:ak.Spec.Ok ao 193 (SW R):=by
 refine tU Tryz.func193 rfl rfl fun vs hp k r hk w c args wf ra => ?_
 unfold SW at hk;split at hk<;>(try cases hk);rename_i s cs;obtain ⟨hc,hk⟩:=cz hk;simp only[bF,decide_eq_true_eq]at hc;obtain ⟨ha,fq⟩:=hc;obtain ⟨a,b,rfl,r1,r2⟩:=El ra;obtain ⟨t,rfl,rfl,hl⟩:=r1.gJ;obtain ⟨u,rfl,rfl,jB⟩:=r2.gJ;rw[size_data]at fq;have Ca:=Ky ha;have hle:=asX t.data.toList u.data.toList;rw[size_data]at hle;have fin:∀(l:ad),l=bx t.data.toList u.data.toList->∀w':World,ay w' hp c (.str (bx t.data.toList u.data.toList)) (.string ⟨l.toArray⟩):=fun l e w'=>by
  rw[e]; exact Kz _ (by omega)
 by_cases h0:t.size=0\/u.size=0
 ·refine⟨_,hk,mD (Any.strings_TrimRight_empty Tryz.SL t u w h0) ?_⟩
  rintro e w' ⟨he,rfl⟩
  have e2:(⟨t.data.toList.toArray⟩:ByteArray)=t:=xP rfl;rw[<-e2]at he;refine⟨_,he,oI _ _,fin _ ?_ _⟩;rcases h0 with h0|h0
  ·have:t.data.toList=[]:=gH (by rw[size_data]; exact h0);rw[this]; unfold bx; simp
  ·have:u.data.toList=[]:=gH (by rw[size_data]; exact h0);rw[this,asZ]
 ·have Cb:u.size=1\/2<=u.size:=by omega
  rcases Cb with Cb|nX
  ·obtain ⟨b,hb⟩:∃b,u.data.toList=[b]:=by
    have S0:u.data.toList.length=1:=by rw[size_data]; exact Cb
    match hq:u.data.toList,S0 with
    | [b],_=>exact⟨b,rfl⟩
   have eu:u=⟨#[b]⟩:=xP (by rw[hb]);subst eu;refine⟨_,hk,mD (Any.strings_TrimRight_one Tryz.SL t b (Ca 0 b rfl) w hl) ?_⟩
   rintro e w' ⟨he,rfl⟩
   exact⟨_,he,oI _ _,fin _ (as1 _ _).symm _⟩
  ·refine⟨_,hk,mD (Any.strings_TrimRight_set Tryz.SL Tryz.zeroValue178 (by kernel_rfl) t u w nX (by omega) hl (by omega) Ca) ?_⟩
   rintro e w' ⟨he,rfl⟩
   refine⟨_,he,?_,fin _ rfl _⟩;exact((oI _ _).alloc (cD _) _).alloc (by simp) _
theorem acL:ak.Spec.Ok ao 194 (Kw R):=by
 refine tU Tryz.func194 rfl rfl fun vs hp k r hk w c args wf ra => ?_
 unfold Kw at hk;split at hk<;>(try cases hk);rename_i s;obtain ⟨hc,hk⟩:=cz hk;simp only[decide_eq_true_eq]at hc;obtain ⟨a,rfl,r1⟩:=Ek ra;obtain ⟨t,rfl,rfl,hl⟩:=r1.gJ;rw[size_data]at hc;obtain ⟨_,_,⟨t1,x1,qL⟩,⟨t2,x2,oT⟩⟩:=wf.lay.1;have lX:ae.has (dY t.data.toList):=by
  unfold dY;split
  ·rename_i v hv;unfold ZY at hv;split at hv
   ·cases hv
   ·dsimp only at hv;split at hv
    ·cases hv
    ·cases hv
    ·rename_i u _;split at hv
     ·cases hv
     ·split at hv
      ·cases hv
      ·cases hv;split<;>simp[mV,nO,nP,ku,kv]<;>omega
  ·unfold Go.Lib.atoiSat;split<;>simp[mV,nO,nP,ku,kv]
  ·simp[mV,nO,nP,ku,kv]
 have two:∀(z:Int) (u:V) (w':World) (x:Value),dY t.data.toList=z->ay w' hp c u x->ay w' hp c (.tuple [.int .i64 (dY t.data.toList),u]) (.tuple #[.int .i64 z,x]):=fun z u w' x hz hx=>by
  subst hz;refine .tuple rfl fun j v d hv hd => ?_
  match j,hv,hd with
  | 0,hv,hd=>simp at hv hd; subst hv; subst hd; exact .int lX
  | 1,hv,hd=>simp at hv hd; subst hv; subst hd; exact hx
  | j+2,hv,_=>simp at hv
 rcases hA:ZY t.data.toList with v|_|_
 ·
  have e1:ng t.data.toList=true:=by unfold ng; rw[hA]
  have e2:dY t.data.toList=v:=by unfold dY; rw[hA]
  rw[e1]at hk;refine⟨_,hk,mD (Any.strconv_Atoi_ok Tryz.SM t (by omega) v hA w) ?_⟩
  rintro e w' ⟨he,hb⟩
  refine⟨_,he,?_,two _ _ _ _ e2 .eR⟩;rcases hb with rfl|⟨q,rfl⟩
  ·exact oI _ _
  ·exact asV _ _
 ·
  have e1:ng t.data.toList=false:=by unfold ng; rw[hA]
  have e2:dY t.data.toList=0:=by unfold dY; rw[hA]
  rw[e1]at hk;refine⟨_,hk,mD (Any.strconv_Atoi_syntax Tryz.SM t hc hA (.iface t1 x1) w qL (.inr ⟨_,_,rfl⟩)) ?_⟩
  rintro e w' ⟨q,he,_,_,hb⟩
  exact⟨_,he,hb,two _ _ _ _ e2 (.iface _ _)⟩
 ·
  have e1:ng t.data.toList=false:=by unfold ng; rw[hA]
  have e2:dY t.data.toList=Go.Lib.atoiSat t.data.toList:=by unfold dY; rw[hA]
  rw[e1]at hk;refine⟨_,hk,mD (Any.strconv_Atoi_range Tryz.SM t hc hA (.iface t2 x2) w oT (.inr ⟨_,_,rfl⟩)) ?_⟩
  rintro e w' ⟨q,he,_,_,hb⟩
  exact⟨_,he,hb,two _ _ _ _ e2 (.iface _ _)⟩
theorem toErr_ok:ak.Spec.Ok ao 219 (toErr_S R 250):=by
 refine tU Tryz.func219 rfl rfl fun vs hp k r hk w c args wf ra => ?_
 unfold toErr_S at hk;split at hk<;>(try cases hk);rename_i fn s b1 b2 t n;obtain ⟨hc,lT⟩:=cz hk;obtain ⟨iT,fj⟩:=cz lT;simp only[bF,je,beq_iff_eq,decide_eq_true_eq]at hc iT;obtain ⟨ht,hn⟩:=hc;have ht:=zo ht;subst ht;obtain ⟨l⟩:=args
 match l,ra with
 | [a1,a2,a3,a4,a5],ra=>
  obtain ⟨t1,rfl,rfl,_⟩:=ra.head.gJ;obtain ⟨t2,rfl,rfl,jB⟩:=ra.tail.head.gJ;obtain ⟨rfl,_⟩:=ra.tail.tail.head.fi;obtain ⟨rfl,_⟩:=ra.tail.tail.tail.head.fi;obtain ⟨rfl,_⟩:=ra.tail.tail.tail.tail.head.QF;rw[size_data]at iT;obtain ⟨_,_,⟨p1,x1,qL⟩,⟨p2,x2,oT⟩⟩:=wf.lay.1;rcases hn with rfl|rfl
  ·refine⟨_,fj,mD (Any.strconv_toError_syntax Tryz.acD t1 t2 b1 b2 (.iface p1 x1) w iT qL (.inr ⟨_,_,rfl⟩)) ?_⟩
   rintro e w' ⟨q,he,_,_,hb⟩
   exact⟨_,he,hb,.iface _ _⟩
  ·refine⟨_,fj,mD (Any.strconv_toError_range Tryz.acD t1 t2 b1 b2 (.iface p2 x2) w iT oT (.inr ⟨_,_,rfl⟩)) ?_⟩
   rintro e w' ⟨q,he,_,_,hb⟩
   exact⟨_,he,hb,.iface _ _⟩
 | [],ra=>have:=ra.1; simp at this
 | [_],ra=>have:=ra.1; simp at this
 | [_,_],ra=>have:=ra.1; simp at this
 | [_,_,_],ra=>have:=ra.1; simp at this
 | [_,_,_,_],ra=>have:=ra.1; simp at this
 | _::_::_::_::_::_::_,ra=>have:=ra.1; simp at this
theorem as8:ak.Spec.Ok ao 253 (SX R):=by
 refine tU Tryz.func253 rfl rfl fun vs hp k r hk w c args wf ra => ?_
 unfold SX at hk;split at hk<;>(try cases hk);rename_i s cs;obtain ⟨hc,hk⟩:=cz hk;simp only[bF,decide_eq_true_eq]at hc;obtain ⟨⟨⟨ha,hb⟩,BU⟩,fq⟩:=hc;obtain ⟨a,b,rfl,r1,r2⟩:=El ra;obtain ⟨t,rfl,rfl,hl⟩:=r1.gJ;obtain ⟨u,rfl,rfl,jB⟩:=r2.gJ;rw[size_data]at BU fq;refine⟨_,hk,mD (Any.strings_ContainsAny_laid Tryz.asx (by kernel_rfl) t u w BU fq (Ky ha) (Ky hb)) ?_⟩
 rintro e w' ⟨he,hb⟩
 exact⟨_,he,hb,.bool _⟩
theorem acM:ak.Spec.Ok ao 159 (Kx R):=by
 refine tU PN rfl rfl fun vs hp k r hk w c args wf ra => ?_
 unfold Kx at hk;split at hk<;>(try cases hk);rename_i s ch;obtain ⟨a,b,rfl,r1,r2⟩:=El ra;obtain ⟨t,rfl,rfl,hl⟩:=r1.gJ;obtain ⟨rfl,hn⟩:=r2.fi;have hb:ae.has (so t.data.toList ch.toNat.toUInt8):=by
  have h1:=Go.Lib.indexByte_ge t.data.toList ch.toNat.toUInt8;have h2:so t.data.toList ch.toNat.toUInt8<=t.data.toList.length:=by
   generalize t.data.toList=l
   induction l with
   | nil=>simp[so]
   | cons x l ih=>
    have:=Go.Lib.indexByte_ge l ch.toNat.toUInt8;unfold so;split
    ·simp; omega
    ·split
     ·simp; omega
     ·simp; omega
  rw[size_data]at h2;unfold mx at hl;generalize so t.data.toList ch.toNat.toUInt8=z at h1 h2;simp[mV,nO,nP,ku,kv]; omega
 refine⟨_,hk,mD (Any.strings_IndexByte Tryz.asz t ch w) ?_⟩
 rintro e w' ⟨he,rfl⟩
 exact⟨_,he,oI _ _,.int hb⟩
theorem as9:ak.Spec.Ok ao 78 (SY R):=by
 refine tU Tryz.func78 rfl rfl fun vs hp k r hk w c args wf ra => ?_
 unfold SY at hk;split at hk<;>(try cases hk);rename_i s ch;obtain ⟨a,b,rfl,r1,r2⟩:=El ra;obtain ⟨t,rfl,rfl,hl⟩:=r1.gJ;obtain ⟨u,rfl,hu,jB⟩:=r2.gJ;obtain ⟨hb,hk⟩:=cz hk;rw[decide_eq_true_eq,size_data]at hb;have h1:u.size=1:=by rw[<-size_data,hu]; rfl
 have yr:u[0]'(by omega)=ch:=by
  have e:u.data = #[ch]:=by
   have:=congrArg List.toArray hu;simpa using this
  show u.data[0]'_=ch;simp[e]
 refine⟨_,hk,mD (Any.strings_LastIndex_one Tryz.asB t u h1 (by omega) w) ?_⟩
 rintro e w' ⟨he,rfl⟩
 rw[yr]at he;have ht:(⟨t.data.toList.toArray⟩:ByteArray)=t:=xP rfl;have hh:ae.has (nh t.data.toList ch):=by
  unfold nh;rw[ht];rcases Go.Lib.lastIndexByte_spec t (ch.toNat:Int)with ⟨e,_⟩|⟨i,hi,e,_⟩
  ·rw[e]; simp[mV,nO,nP,ku,kv]
  ·rw[e]; simp[mV,nO,nP,ku,kv]; omega
 have e2:nh t.data.toList ch=Go.Lib.lastIndexByte t (ch.toNat:Int):=by unfold nh; rw[ht]
 refine⟨_,he,oI _ _,?_⟩;rw[<-e2];exact .int hh
theorem acN:Lays.n240 ao Tryz.Kt := { Tryz.acC with }
theorem G3:ak.Spec.Ok ao 171 (Az R):=
 asL Tryz.func171 rfl rfl (fun b w h0 hs hf=>Any.Builder_copyCheck_fresh acN SZ b w h0 hs hf) (fun b w h0=>Any.Builder_copyCheck_used acN SZ b w h0)
theorem KB:Lays.n169 ao Tryz.SN:=Tryz.asC
theorem KC:Builder.Extra ao Tryz.SN := { sizeBuilder:=by kernel_rfl,liesBuilder:=by kernel_rfl,t5:=tz,a5:=tA,z5:=tB,v5:=tC,infoByte:=by kernel_rfl,cellsByte:=by kernel_rfl,sizeByte:=by kernel_rfl,neB5:=by decide }
set_option maxHeartbeats 1000000 in
theorem ata (b q cap:Nat) (p:Value) (cur:Array Value) (fz:Nat×Nat) (l:List UInt8) (w:World) (h0:l≠[]) (pM:w.heap[b]? = some (.cells #[p,.slice (some ⟨q,0,none⟩) l.length cap] dL.bA (0,0)))
  (hq:w.heap[q]? = some (.cells cur dL.u8 fz)) (hnc:l.length<=cap) (hcm:cap<=mx) (bL:l.length<=cur.size) (mA:∀(j:Nat) (x:UInt8),l[j]? = some x->w.cell? ⟨q,j,none⟩=some (.int .u8 x.toNat)) :
  Calls ao 84 #[.pointer (some ⟨b,0,none⟩)] w fun e w'=>e=.returned (.string ⟨l.toArray⟩)/\w'=w.drew.freeze ⟨q,0,none⟩ l.length:=by
 have iT:l.length≠0:=by simpa using h0
 have L:=KB;have X:=KC;have c1:w.drew.cell? ⟨b,1,none⟩=some (.slice (some ⟨q,0,none⟩) l.length cap):=by
  have h1:w.drew.heap[b]? = some (.cells #[p,.slice (some ⟨q,0,none⟩) l.length cap] dL.bA (0,0)):=pM;rw[Lib.cell_of_heap h1]; rfl
 have hSD:(Builtin.unsafeSliceData_ #[42] 164 #[.slice (some ⟨q,0,none⟩) l.length cap]).run ao w.drew=.ok (.pointer (some ⟨q,0,none⟩)) w.drew:=
  Lib.run_unsafeSliceData_row _ _ _ _ _ _ (by omega)
 have hUS:(Builtin.unsafeString_ #[164,3] 9 #[.pointer (some ⟨q,0,none⟩),.int .i64 l.length]).run ao w.drew=.ok (.string ⟨l.toArray⟩) (w.drew.freeze ⟨q,0,none⟩ l.length):=by
  refine Lib.run_unsafeString_row w.drew 164 3 9 5 L.t127 X.cellsByte q cur.size (by have G4:w.drew.heap[q]? = some (.cells cur 5 fz):=hq; simp[World.shape?,G4]) l h0 bL (by unfold mx at hcm; omega) ?_;intro j x hx;have:=mA j x hx;rw[ak.mY,mq];exact this
 have mixed:=L.mixed;have t72:=L.t72; have a72:=L.a72; have z72:=L.z72; have v72:=L.v72; have u72:=run_underlying L.t72;have t70:=L.t70; have a70:=L.a70; have z70:=L.z70; have v70:=L.v70; have u70:=run_underlying L.t70;have t37:=L.t37; have a37:=L.a37; have z37:=L.z37; have v37:=L.v37; have u37:=run_underlying L.t37;have t127:=L.t127; have a127:=L.a127; have z127:=L.z127; have v127:=L.v127; have atb:=run_underlying L.t127;have t3:=L.t3; have a3:=L.a3; have z3:=L.z3; have v3:=L.v3; have u3:=run_underlying L.t3;have t9:=L.t9; have a9:=L.a9; have z9:=L.z9; have v9:=L.v9; have u9:=run_underlying L.t9
 have t5:=X.t5; have a5:=X.a5; have z5:=X.z5; have v5:=X.v5; have u5:=run_underlying X.t5
 go_enter PM,Tryz.ntmps84
 go_wp2
 go_region_o
 all_goals (go_wp2; go_ret; exact⟨rfl,rfl⟩)
set_option maxHeartbeats 2000000 in
theorem atc (b q:Nat) (p:Value) (cur:Array Value) (fz:Nat×Nat) (w:World) (pM:w.heap[b]? = some (.cells #[p,.slice (some ⟨q,0,none⟩) 0 0] dL.bA (0,0))) (hq:w.heap[q]? = some (.cells cur dL.u8 fz)) :
  Calls ao 84 #[.pointer (some ⟨b,0,none⟩)] w fun e w'=>e=.returned (.string ⟨#[]⟩)/\Below w.heap.size w w':=by
 have L:=KB;have X:=KC;have hUS:∀(W:World) (q:Option Addr),(Builtin.unsafeString_ #[164,3] 9 #[.pointer q,.int .i64 0]).run ao W=.ok (.string .empty) W:=fun W q=>Lib.run_unsafeString_none W _ _ _ q
 have aX:b<w.heap.size:=by
  rcases mo b w.heap.size with h'|h'
  ·exact h'
  ·simp[Array.getElem?_eq_none h']at pM
 have c1:w.drew.cell? ⟨b,1,none⟩=some (.slice (some ⟨q,0,none⟩) 0 0):=by
  have:w.drew.heap[b]? = some (.cells #[p,.slice (some ⟨q,0,none⟩) 0 0] dL.bA (0,0)):=pM;rw[Lib.cell_of_heap this]; rfl
 have hSD:(Builtin.unsafeSliceData_ #[42] 164 #[.slice (some ⟨q,0,none⟩) 0 0]).run ao w.drew=.ok (.pointer (some ⟨w.drew.heap.size,0,none⟩)) (w.drew.alloc (.view ⟨q,0,none⟩ 5)):=
  Lib.run_unsafeSliceData_zero w.drew _ _ 5 L.t127 ⟨q,0,none⟩ 0 (5,cur.size) (by have G4:w.drew.heap[q]? = some (.cells cur 5 fz):=hq; simp[World.shape?,G4])
 have c2:(w.drew.alloc (.view ⟨q,0,none⟩ 5)).cell? ⟨b,1,none⟩=some (.slice (some ⟨q,0,none⟩) 0 0):=by
  have:(w.drew.alloc (.view ⟨q,0,none⟩ 5)).heap[b]? = _:=(Lib.alloc_old w.drew _ b aX).trans pM;rw[Lib.cell_of_heap this]; rfl
 have c3:(w.alloc (.view ⟨q,0,none⟩ 5)).drew.cell? ⟨b,1,none⟩=some (.slice (some ⟨q,0,none⟩) 0 0):=c2;have c0:w.cell? ⟨b,1,none⟩=some (.slice (some ⟨q,0,none⟩) 0 0):=c1;have mixed:=L.mixed;have t72:=L.t72; have a72:=L.a72; have z72:=L.z72; have v72:=L.v72; have u72:=run_underlying L.t72;have t70:=L.t70; have a70:=L.a70; have z70:=L.z70; have v70:=L.v70; have u70:=run_underlying L.t70;have t37:=L.t37; have a37:=L.a37; have z37:=L.z37; have v37:=L.v37; have u37:=run_underlying L.t37;have t127:=L.t127; have a127:=L.a127; have z127:=L.z127; have v127:=L.v127; have atb:=run_underlying L.t127;have t3:=L.t3; have a3:=L.a3; have z3:=L.z3; have v3:=L.v3; have u3:=run_underlying L.t3
 have t9:=L.t9; have a9:=L.a9; have z9:=L.z9; have v9:=L.v9; have u9:=run_underlying L.t9;have t5:=X.t5; have a5:=X.a5; have z5:=X.z5; have v5:=X.v5; have u5:=run_underlying X.t5
 go_enter PM,Tryz.ntmps84
 go_wp2
 go_region_o
 all_goals (go_wp2; go_ret; exact⟨rfl,(Below.drew (oI _ w)).alloc (cD _) _⟩)
theorem atd:acI ao 84 where
 nil:=fun b p w pM=>Any.Builder_String_nil KB KC w.heap.size b p w pM
 acJ:=atc
 room:=fun b q cap p w hc pM=>Any.Builder_String_room KB KC w.heap.size b q cap p w hc pM
 some:=ata
theorem KD:ak.Spec.Ok ao 84 (yq R):=asS PM rfl rfl atd
end
end Go.Proofs.YtidfokedcnhahaaGreatDoor
set_option maxRecDepth 100000
namespace Go.Proofs.YtidfokedcnhahaaGreatDoor
open Go Go.ak
variable {R:Type}
abbrev topic_Name_ty (R:Type):Type:=ad->(Bool->Option R)->Option R
abbrev topic_Name_p:List ax:=[dU]
abbrev topic_Name_q:List aH:=[]
def topic_Name_rr (fn:topic_Name_ty R):br R topic_Name_p topic_Name_q:=fun x y k=>fn x.1 (fun q0=>k (.bool q0) [])
def topic_Name_s (fn:topic_Name_ty R):=aL topic_Name_p topic_Name_q (topic_Name_rr fn)
section
def topic_Name_E:List (aY R):=[(105,true,(Em R))]
def topic_Name_X (x1:ad) (k0:Bool->Option R):Option R:=
 ag (kh ([97,98,99,100,101,102,103,104,105,106,107,108,109,110,111,112,113,114,115,116,117,118,119,120,121,122,65,66,67,68,69,70,71,72,73,74,75,76,77,78,79,80,81,82,83,84,85,86,87,88,89,90,48,49,50,51,52,53,54,55,56,57,95,46,58,45]:ad)&&decide (([97,98,99,100,101,102,103,104,105,106,107,108,109,110,111,112,113,114,115,116,117,118,119,120,121,122,65,66,67,68,69,70,71,72,73,74,75,76,77,78,79,80,81,82,83,84,85,86,87,88,89,90,48,49,50,51,52,53,54,55,56,57,95,46,58,45]:ad).length<4294967281)) (bif((aK x1 ([97,98,99,100,101,102,103,104,105,106,107,108,109,110,111,112,113,114,115,116,117,118,119,120,121,122,65,66,67,68,69,70,71,72,73,74,75,76,77,78,79,80,81,82,83,84,85,86,87,88,89,90,48,49,50,51,52,53,54,55,56,57,95,46,58,45]:ad))==([]:ad))then(bif(!(x1==([]:ad)))then(k0 (decide ((x1.length:Int)<=(16:Int))))else(k0 false))else(k0 false))
theorem topic_Name_ok:aP (R:=R) tt (topic_Name_E (R:=R)) bm false Tryz.f61 topic_Name_p topic_Name_q (topic_Name_rr topic_Name_X):=fun x y k=>by kernel_rfl
end
def topic_Name:topic_Name_ty R:=topic_Name_X
theorem topic_Name_S_ok (R:Type):aN ao 61 (topic_Name_s (topic_Name (R:=R))):=aR (topic_Name_ok) TT mixed (.p (KA) <| .n) rfl rfl bp
abbrev AA (R:Type):Type:=(List Int)->(Int->Option R)->Option R
abbrev G5:List ax:=[.leaf (.sl (.int .i64))]
def KE (fn:AA R):br R G5 topic_Name_q:=fun x y k=>fn x.1 (fun q0=>k (af q0) [])
def En (fn:AA R):=aL G5 topic_Name_q (KE fn)
abbrev S1 (R:Type):Type:=(List Int)->Int->Int->(Int->Option R)->Option R
abbrev Eo (R:Type):Type:=Nat->S1 R
def Ep:Hint:=⟨[0,3,4],[],[],[],[],[2,3]⟩
abbrev AB:Type:=(List Int)×Int×Int
def KF:AB->St:=fun d=>⟨.sl (.int .i64) d.1 .no::U 2 (af d.2.1::af d.2.2::U 20 ([])),[]⟩
def acO (K:KT R) (q0:Int):Option R:=K (.exit 0) ⟨U 3 (af q0::U 21 ([])),[]⟩
abbrev S2 (K:KT R) (d:AB) (f:S1 R):Option R:=f d.1 d.2.1 d.2.2 (acO K)
abbrev Er:List ax:=.leaf (.sl (.int .i64))::PU 2 (bG::bG::PU 20 ([]))
def KG (x:ax.aA Er) (y:aH.aA topic_Name_q):Nat:=(av x.1+ah x.2.2.2.1+ah x.2.2.2.2.1+64)
def KH (x:ax.aA Er) (y:aH.aA topic_Name_q):AB:=(x.1,x.2.2.2.1,x.2.2.2.2.1)
def ate (L:Eo R):dC R Er topic_Name_q:=fun x y K=>S2 K (KH x y) (L (KG x y))
section
variable (qW:Eo R)
def KI (aD:(List Int)->Int->Int->Option R) (x2:List Int) (x3:Int) (x4:Int) (e0:Int->Option R):Option R:=
 bif(decide (x4<(x2.length:Int)))then(ag (decide ((0:Int)<=x4)&&decide (x4<x2.length)) (aD x2 (min x3 (x2.getD x4.toNat (Ty.az (.int .i64)))) (ae.wrap (x4+1))))else(e0 x3)
def acP (K:KT R) (rc:AB->Option R) (d:AB):Option R:=S2 K d (KI (fun z0 z1 z2=>rc (z0,z1,z2)))
def acQ:Nat->Option (Hint×bX R):=fun i=>match i with
 | 5=>some (Ep,(cY Er topic_Name_q (ate qW) dz))
 | _=>none
theorem atf:dn (R:=R) tt [] (acQ qW) 0 Tryz.f89 0 Ep KF (acP):=fun K rc d=>by kernel_rfl
def S3 (x1:List Int) (k0:Int->Option R):Option R:=
 bif(decide ((x1.length:Int)<(1:Int)))then(none)else(ag (decide ((0:Int)<x1.length)) (qW (av x1+ah (x1.getD 0 (Ty.az (.int .i64)))+ah 1+64) x1 (x1.getD 0 (Ty.az (.int .i64))) 1 (fun y5=>k0 y5)))
theorem atg:aP (R:=R) tt [] (acQ qW) false Tryz.f89 G5 topic_Name_q (KE (S3 qW)):=fun x y k=>by kernel_rfl
end
def qW:Eo R
 | 0,_,_,_,_=>none
 | n+1,aB,aC,aG,e0=>KI (fun aB aC aG=>qW n aB aC aG e0) aB aC aG e0
def ath:=dD (R:=R) KF (acP) S2 (qW) KG KH (atf qW) (fun _ _=>by kernel_rfl) (fun _ _ _=>by kernel_rfl) (fun _ _=>by kernel_rfl)
def v8:AA R:=S3 qW
theorem ati (R:Type):aN ao 89 (En (v8 (R:=R))):=aR (atg qW) TT mixed .n rfl rfl (dE.all (by kernel_rfl) (.s .z (dJ (by kernel_rfl) (ath _ dH))))
abbrev S4 (K:KT R) (d:AB) (f:S1 R):Option R:=f d.1 d.2.1 d.2.2 (acO K)
def atj (L:Eo R):dC R Er topic_Name_q:=fun x y K=>S4 K (KH x y) (L (KG x y))
section
variable (qX:Eo R)
def KJ (aD:(List Int)->Int->Int->Option R) (x2:List Int) (x3:Int) (x4:Int) (e0:Int->Option R):Option R:=
 bif(decide (x4<(x2.length:Int)))then(ag (decide ((0:Int)<=x4)&&decide (x4<x2.length)) (aD x2 (max x3 (x2.getD x4.toNat (Ty.az (.int .i64)))) (ae.wrap (x4+1))))else(e0 x3)
def acR (K:KT R) (rc:AB->Option R) (d:AB):Option R:=S4 K d (KJ (fun z0 z1 z2=>rc (z0,z1,z2)))
def acS:Nat->Option (Hint×bX R):=fun i=>match i with
 | 5=>some (Ep,(cY Er topic_Name_q (atj qX) dz))
 | _=>none
theorem atk:dn (R:=R) tt [] (acS qX) 0 Tryz.f90 0 Ep KF (acR):=fun K rc d=>by kernel_rfl
def S5 (x1:List Int) (k0:Int->Option R):Option R:=
 bif(decide ((x1.length:Int)<(1:Int)))then(none)else(ag (decide ((0:Int)<x1.length)) (qX (av x1+ah (x1.getD 0 (Ty.az (.int .i64)))+ah 1+64) x1 (x1.getD 0 (Ty.az (.int .i64))) 1 (fun y5=>k0 y5)))
theorem atl:aP (R:=R) tt [] (acS qX) false Tryz.f90 G5 topic_Name_q (KE (S5 qX)):=fun x y k=>by kernel_rfl
end
def qX:Eo R
 | 0,_,_,_,_=>none
 | n+1,aB,aC,aG,e0=>KJ (fun aB aC aG=>qX n aB aC aG e0) aB aC aG e0
def atm:=dD (R:=R) KF (acR) S4 (qX) KG KH (atk qX) (fun _ _=>by kernel_rfl) (fun _ _ _=>by kernel_rfl) (fun _ _=>by kernel_rfl)
def wa:AA R:=S5 qX
theorem atn (R:Type):aN ao 90 (En (wa (R:=R))):=aR (atl qX) TT mixed .n rfl rfl (dE.all (by kernel_rfl) (.s .z (dJ (by kernel_rfl) (atm _ dH))))
abbrev n9 (R:Type):Type:=ak.State->(Bool->Option R)->Option R
abbrev tW:List ax:=[G0]
def S6 (fn:n9 R):br R tW topic_Name_q:=fun x y k=>fn (iC x.1) (fun q0=>k (.bool q0) [])
def yt (fn:n9 R):=aL tW topic_Name_q (S6 fn)
section
variable (topic_Name:topic_Name_ty R) (wa:AA R) (v8:AA R)
def ato:List (aY R):=[aO 61 (topic_Name_s topic_Name),aO 90 (En wa),aO 89 (En v8)]
def S7 (x1:ak.State) (k0:Bool->Option R):Option R:=
 topic_Name x1.bW (fun y2=>bif y2 then(v8 ([x1.header,x1.bC,x1.order,x1.update,x1.node,x1.seq,x1.accepted]:List Int) (fun y3=>bif(decide (y3>=(0:Int)))then(wa ([x1.header,x1.bC,x1.order,x1.update,x1.node,x1.seq,x1.accepted]:List Int) (fun y4=>bif(decide (y4<=(1000000000:Int)))then(bif((bK x1.seq 2)==0)then(bif x1.live then(k0 true)else(k0 (!x1.cB)))else(k0 false))else(k0 false)))else(k0 false)))else(k0 false))
theorem atp:aP (R:=R) tt (ato topic_Name wa v8) bm false Tryz.f41 tW topic_Name_q (S6 (S7 topic_Name wa v8)):=fun x y k=>by kernel_rfl
end
def dt:n9 R:=S7 topic_Name wa v8
theorem KK (R:Type):aN ao 41 (yt (dt (R:=R))):=aR (atp topic_Name wa v8) TT mixed (.c (topic_Name_S_ok R) <| .c (atn R) <| .c (ati R) <| .n) rfl rfl bp
abbrev Es (R:Type):Type:=Int->Int->Int->(Bool->Option R)->Option R
abbrev S8:List ax:=[bG,bG,bG]
def acT (fn:Es R):br R S8 topic_Name_q:=fun x y k=>fn x.1 x.2.1 x.2.2.1 (fun q0=>k (.bool q0) [])
def KL (fn:Es R):=aL S8 topic_Name_q (acT fn)
section
def G6 (x1:Int) (x2:Int) (x3:Int) (k0:Bool->Option R):Option R:=
 bif(decide (x1<=x2))then(k0 (decide (x2<=x3)))else(k0 false)
theorem atq:aP (R:=R) tt [] bm false Tryz.f135 S8 topic_Name_q (acT G6):=fun x y k=>by kernel_rfl
end
def er:Es R:=G6
theorem S9 (R:Type):aN ao 135 (KL (er (R:=R))):=aR (atq) TT mixed .n rfl rfl bp
abbrev yu (R:Type):Type:=Int->Int->(au->Bool->Option R)->Option R
abbrev AD:List ax:=[bG,bG]
def Ta (fn:yu R):br R AD topic_Name_q:=fun x y k=>fn x.1 x.2.1 (fun q0 q1=>k (.tuple [.agg [af q0.aj,af q0.exp],.bool q1]) [])
def Cc (fn:yu R):=aL AD topic_Name_q (Ta fn)
abbrev acU (R:Type):Type:=Int->Int->au->(Int->Int->au->Option R)->Option R
abbrev Tb (R:Type):Type:=Nat->acU R
def KM:Hint:=⟨[0,1,4],[],[],[],[],[0,1,4,5]⟩
abbrev oU:Type:=Int×Int×au
def acV:oU->St:=fun d=>⟨af d.1::af d.2.1::U 2 (.ptr 0 0::U 25 ([])),[.cells [af d.2.2.aj,af d.2.2.exp]]⟩
def atr (K:KT R) (q0:Int) (q1:Int) (q2:au):Option R:=K (.exit 0) ⟨af q0::af q1::U 2 (.ptr 0 0::U 25 ([])),[.cells [af q2.aj,af q2.exp]]⟩
abbrev Tc (K:KT R) (d:oU) (f:acU R):Option R:=f d.1 d.2.1 d.2.2 (atr K)
abbrev KN:List ax:=bG::bG::PU 2 (.leaf (.ptr 0 0)::PU 25 ([]))
abbrev fN:List aH:=[.cells [aF,aF]]
def acW (x:ax.aA KN) (y:aH.aA fN):Nat:=(ah x.1+ah x.2.1+au.fu (⟨y.1.1,y.1.2.1⟩:au)+64)
def acX (x:ax.aA KN) (y:aH.aA fN):oU:=(x.1,x.2.1,(⟨y.1.1,y.1.2.1⟩:au))
def ats (L:Tb R):dC R KN fN:=fun x y K=>Tc K (acX x y) (L (acW x y))
section
variable (er:Es R) (kI:Tb R)
def acY:List (aY R):=[aO 135 (KL er)]
def wc (aD:Int->Int->au->Option R) (x3:Int) (x4:Int) (x5:au) (e0:Int->Int->au->Option R):Option R:=
 bif((bK x3 10)==0)then(aD (ae.wrap (pz x3 10)) (ae.wrap (x4+1)) x5)else(e0 x3 x4 x5)
def acZ (K:KT R) (rc:oU->Option R) (d:oU):Option R:=Tc K d (wc (fun z0 z1 z2=>rc (z0,z1,z2)))
def ac0:Nat->Option (Hint×bX R):=fun i=>match i with
 | 4=>some (KM,(cY KN fN (ats kI) dz))
 | _=>none
theorem att:dn (R:=R) tt (acY er) (ac0 kI) 0 Tryz.f97 0 KM acV (acZ):=fun K rc d=>by kernel_rfl
def yv (x1:Int) (x2:Int) (k0:au->Bool->Option R):Option R:=
 bif(x1==0)then(k0 (⟨0,0⟩:au) true)else(kI (ah x1+ah (min x2 1000000)+au.fu (⟨0,0⟩:au)+64) x1 (min x2 1000000) (⟨0,0⟩:au) (fun y6 y7 y8=>er (-1000000000000000) y6 1000000000000000 (fun y9=>bif(!y9)then(k0 (⟨0,0⟩:au) false)else(er (-9) y7 9 (fun bu=>bif(!bu)then(k0 (⟨0,0⟩:au) false)else(k0 (⟨y6,y7⟩:au) true))))))
theorem atu:aP (R:=R) tt (acY er) (ac0 kI) false Tryz.f97 AD topic_Name_q (Ta (yv er kI)):=fun x y k=>by kernel_rfl
end
def kI:Tb R
 | 0,_,_,_,_=>none
 | n+1,aB,aC,aG,e0=>wc (fun aB aC aG=>kI n aB aC aG e0) aB aC aG e0
def atv:=dD (R:=R) acV (acZ) Tc (kI) acW acX (att er kI) (fun _ _=>by kernel_rfl) (fun _ _ _=>by kernel_rfl) (fun _ _=>by kernel_rfl)
def dM:yu R:=yv er kI
theorem ac1 (R:Type):aN ao 97 (Cc (dM (R:=R))):=aR (atu er kI) TT mixed (.c (S9 R) <| .n) rfl rfl (dE.all (by kernel_rfl) (.s .z (dJ (by kernel_rfl) (atv _ dH))))
abbrev sO (R:Type):Type:=Int->(Json->Option R)->Option R
abbrev lg:List ax:=[bG]
def Td (fn:sO R):br R lg topic_Name_q:=fun x y k=>fn x.1 (fun q0=>k (lE q0) [])
def wg (fn:sO R):=aL lg topic_Name_q (Td fn)
section
variable (dM:yu R)
def atw:List (aY R):=[aO 97 (Cc dM)]
def Te (x1:Int) (k0:Json->Option R):Option R:=
 dM x1 0 (fun y2 y3=>bif(!y3)then(k0 (⟨1,⟨0,0⟩,([]:ad),([]:List ad),([]:List Json)⟩:Json))else(k0 (⟨4,⟨y2.aj,y2.exp⟩,([]:ad),([]:List ad),([]:List Json)⟩:Json)))
theorem atx:aP (R:=R) tt (atw dM) bm false Tryz.f48 lg topic_Name_q (Td (Te dM)):=fun x y k=>by kernel_rfl
end
def cZ:sO R:=Te dM
theorem Cd (R:Type):aN ao 48 (wg (cZ (R:=R))):=aR (atx dM) TT mixed (.c (ac1 R) <| .n) rfl rfl bp
abbrev dj (R:Type):Type:=ak.State->(Json->ak.State->Option R)->Option R
abbrev dZ:List ax:=[.leaf (.ptr 0 0)]
abbrev Tf:List aH:=[.cells [.ptr 1 0],.cells [aF,aF,.str,aF,aF,.bool,aF,aF,.bool,aF]]
def ac2 (fn:dj R):br R dZ Tf:=fun x y k=>fn (iC y.2.1) (fun q0 q1=>k (lE q0) [.cells [.ptr 1 0],.cells [af q1.header,af q1.bC,.str q1.bW,af q1.order,af q1.update,.bool q1.live,af q1.node,af q1.seq,.bool q1.cB,af q1.accepted]])
def ac3 (fn:dj R):=aL dZ Tf (ac2 fn)
section
variable (cZ:sO R)
def aty:List (aY R):=[aO 48 (wg cZ)]
def Tg (x1:ak.State) (k0:Json->ak.State->Option R):Option R:=
 cZ x1.header (fun y2=>k0 (⟨y2.kind,⟨y2.num.aj,y2.num.exp⟩,y2.text,y2.names,y2.items⟩:Json) x1)
theorem atz:aP (R:=R) tt (aty cZ) bm false FW dZ Tf (ac2 (Tg cZ)):=fun x y k=>by kernel_rfl
end
def qY:dj R:=Tg cZ
theorem atA (R:Type):aN ao 174 (ac3 (qY (R:=R))):=aR (atz cZ) TT mixed (.c (Cd R) <| .n) rfl rfl bp
abbrev Th:List aH:=[.cells [.ptr 1 1],.cells [aF,aF,.str,aF,aF,.bool,aF,aF,.bool,aF]]
def ac4 (fn:dj R):br R dZ Th:=fun x y k=>fn (iC y.2.1) (fun q0 q1=>k (lE q0) [.cells [.ptr 1 1],.cells [af q1.header,af q1.bC,.str q1.bW,af q1.order,af q1.update,.bool q1.live,af q1.node,af q1.seq,.bool q1.cB,af q1.accepted]])
def ac5 (fn:dj R):=aL dZ Th (ac4 fn)
section
variable (cZ:sO R)
def atB:List (aY R):=[aO 48 (wg cZ)]
def Ti (x1:ak.State) (k0:Json->ak.State->Option R):Option R:=
 cZ x1.bC (fun y2=>k0 (⟨y2.kind,⟨y2.num.aj,y2.num.exp⟩,y2.text,y2.names,y2.items⟩:Json) x1)
theorem atC:aP (R:=R) tt (atB cZ) bm false FW dZ Th (ac4 (Ti cZ)):=fun x y k=>by kernel_rfl
end
def qZ:dj R:=Ti cZ
theorem atD (R:Type):aN ao 174 (ac5 (qZ (R:=R))):=aR (atC cZ) TT mixed (.c (Cd R) <| .n) rfl rfl bp
abbrev Et (R:Type):Type:=ad->(Json->Option R)->Option R
def Tj (fn:Et R):br R topic_Name_p topic_Name_q:=fun x y k=>fn x.1 (fun q0=>k (lE q0) [])
def KO (fn:Et R):=aL topic_Name_p topic_Name_q (Tj fn)
section
def ac6 (x1:ad) (k0:Json->Option R):Option R:=
 k0 (⟨5,⟨0,0⟩,x1,([]:List ad),([]:List Json)⟩:Json)
theorem atE:aP (R:=R) tt [] bm false Tryz.f34 topic_Name_p topic_Name_q (Tj ac6):=fun x y k=>by kernel_rfl
end
def yw:Et R:=ac6
theorem atF (R:Type):aN ao 34 (KO (yw (R:=R))):=aR (atE) TT mixed .n rfl rfl bp
abbrev Tk:List aH:=[.cells [.ptr 1 2],.cells [aF,aF,.str,aF,aF,.bool,aF,aF,.bool,aF]]
def ac7 (fn:dj R):br R dZ Tk:=fun x y k=>fn (iC y.2.1) (fun q0 q1=>k (lE q0) [.cells [.ptr 1 2],.cells [af q1.header,af q1.bC,.str q1.bW,af q1.order,af q1.update,.bool q1.live,af q1.node,af q1.seq,.bool q1.cB,af q1.accepted]])
def ac8 (fn:dj R):=aL dZ Tk (ac7 fn)
section
variable (yw:Et R)
def atG:List (aY R):=[aO 34 (KO yw)]
def Tl (x1:ak.State) (k0:Json->ak.State->Option R):Option R:=
 yw x1.bW (fun y2=>k0 (⟨y2.kind,⟨y2.num.aj,y2.num.exp⟩,y2.text,y2.names,y2.items⟩:Json) x1)
theorem atH:aP (R:=R) tt (atG yw) bm false Tryz.f176 dZ Tk (ac7 (Tl yw)):=fun x y k=>by kernel_rfl
end
def rh:dj R:=Tl yw
theorem atI (R:Type):aN ao 176 (ac8 (rh (R:=R))):=aR (atH yw) TT mixed (.c (atF R) <| .n) rfl rfl bp
abbrev Tm:List aH:=[.cells [.ptr 1 3],.cells [aF,aF,.str,aF,aF,.bool,aF,aF,.bool,aF]]
def ac9 (fn:dj R):br R dZ Tm:=fun x y k=>fn (iC y.2.1) (fun q0 q1=>k (lE q0) [.cells [.ptr 1 3],.cells [af q1.header,af q1.bC,.str q1.bW,af q1.order,af q1.update,.bool q1.live,af q1.node,af q1.seq,.bool q1.cB,af q1.accepted]])
def ada (fn:dj R):=aL dZ Tm (ac9 fn)
section
variable (cZ:sO R)
def atJ:List (aY R):=[aO 48 (wg cZ)]
def Tn (x1:ak.State) (k0:Json->ak.State->Option R):Option R:=
 cZ x1.order (fun y2=>k0 (⟨y2.kind,⟨y2.num.aj,y2.num.exp⟩,y2.text,y2.names,y2.items⟩:Json) x1)
theorem atK:aP (R:=R) tt (atJ cZ) bm false FW dZ Tm (ac9 (Tn cZ)):=fun x y k=>by kernel_rfl
end
def rj:dj R:=Tn cZ
theorem atL (R:Type):aN ao 174 (ada (rj (R:=R))):=aR (atK cZ) TT mixed (.c (Cd R) <| .n) rfl rfl bp
abbrev To:List aH:=[.cells [.ptr 1 4],.cells [aF,aF,.str,aF,aF,.bool,aF,aF,.bool,aF]]
def adb (fn:dj R):br R dZ To:=fun x y k=>fn (iC y.2.1) (fun q0 q1=>k (lE q0) [.cells [.ptr 1 4],.cells [af q1.header,af q1.bC,.str q1.bW,af q1.order,af q1.update,.bool q1.live,af q1.node,af q1.seq,.bool q1.cB,af q1.accepted]])
def ade (fn:dj R):=aL dZ To (adb fn)
section
variable (cZ:sO R)
def atM:List (aY R):=[aO 48 (wg cZ)]
def Tp (x1:ak.State) (k0:Json->ak.State->Option R):Option R:=
 cZ x1.update (fun y2=>k0 (⟨y2.kind,⟨y2.num.aj,y2.num.exp⟩,y2.text,y2.names,y2.items⟩:Json) x1)
theorem atN:aP (R:=R) tt (atM cZ) bm false FW dZ To (adb (Tp cZ)):=fun x y k=>by kernel_rfl
end
def rq:dj R:=Tp cZ
theorem atO (R:Type):aN ao 174 (ade (rq (R:=R))):=aR (atN cZ) TT mixed (.c (Cd R) <| .n) rfl rfl bp
abbrev Ce (R:Type):Type:=Bool->(Json->Option R)->Option R
abbrev KP:List ax:=[.leaf (.bool)]
def Tq (fn:Ce R):br R KP topic_Name_q:=fun x y k=>fn x.1 (fun q0=>k (lE q0) [])
def G7 (fn:Ce R):=aL KP topic_Name_q (Tq fn)
section
def adf (x1:Bool) (k0:Json->Option R):Option R:=
 bif x1 then(k0 (⟨3,⟨0,0⟩,([]:ad),([]:List ad),([]:List Json)⟩:Json))else(k0 (⟨2,⟨0,0⟩,([]:ad),([]:List ad),([]:List Json)⟩:Json))
theorem atP:aP (R:=R) tt [] bm false Tryz.f99 KP topic_Name_q (Tq adf):=fun x y k=>by kernel_rfl
end
def oa:Ce R:=adf
theorem adg (R:Type):aN ao 99 (G7 (oa (R:=R))):=aR (atP) TT mixed .n rfl rfl bp
abbrev Tr:List aH:=[.cells [.ptr 1 5],.cells [aF,aF,.str,aF,aF,.bool,aF,aF,.bool,aF]]
def adh (fn:dj R):br R dZ Tr:=fun x y k=>fn (iC y.2.1) (fun q0 q1=>k (lE q0) [.cells [.ptr 1 5],.cells [af q1.header,af q1.bC,.str q1.bW,af q1.order,af q1.update,.bool q1.live,af q1.node,af q1.seq,.bool q1.cB,af q1.accepted]])
def adi (fn:dj R):=aL dZ Tr (adh fn)
section
variable (oa:Ce R)
def atQ:List (aY R):=[aO 99 (G7 oa)]
def Ts (x1:ak.State) (k0:Json->ak.State->Option R):Option R:=
 oa x1.live (fun y2=>k0 (⟨y2.kind,⟨y2.num.aj,y2.num.exp⟩,y2.text,y2.names,y2.items⟩:Json) x1)
theorem atS:aP (R:=R) tt (atQ oa) bm false Tryz.f178 dZ Tr (adh (Ts oa)):=fun x y k=>by kernel_rfl
end
def rA:dj R:=Ts oa
theorem atT (R:Type):aN ao 178 (adi (rA (R:=R))):=aR (atS oa) TT mixed (.c (adg R) <| .n) rfl rfl bp
abbrev Tt:List aH:=[.cells [.ptr 1 6],.cells [aF,aF,.str,aF,aF,.bool,aF,aF,.bool,aF]]
def adj (fn:dj R):br R dZ Tt:=fun x y k=>fn (iC y.2.1) (fun q0 q1=>k (lE q0) [.cells [.ptr 1 6],.cells [af q1.header,af q1.bC,.str q1.bW,af q1.order,af q1.update,.bool q1.live,af q1.node,af q1.seq,.bool q1.cB,af q1.accepted]])
def adk (fn:dj R):=aL dZ Tt (adj fn)
section
variable (cZ:sO R)
def atU:List (aY R):=[aO 48 (wg cZ)]
def Tu (x1:ak.State) (k0:Json->ak.State->Option R):Option R:=
 cZ x1.node (fun y2=>k0 (⟨y2.kind,⟨y2.num.aj,y2.num.exp⟩,y2.text,y2.names,y2.items⟩:Json) x1)
theorem atV:aP (R:=R) tt (atU cZ) bm false FW dZ Tt (adj (Tu cZ)):=fun x y k=>by kernel_rfl
end
def rB:dj R:=Tu cZ
theorem atW (R:Type):aN ao 174 (adk (rB (R:=R))):=aR (atV cZ) TT mixed (.c (Cd R) <| .n) rfl rfl bp
abbrev Tv:List aH:=[.cells [.ptr 1 7],.cells [aF,aF,.str,aF,aF,.bool,aF,aF,.bool,aF]]
def adl (fn:dj R):br R dZ Tv:=fun x y k=>fn (iC y.2.1) (fun q0 q1=>k (lE q0) [.cells [.ptr 1 7],.cells [af q1.header,af q1.bC,.str q1.bW,af q1.order,af q1.update,.bool q1.live,af q1.node,af q1.seq,.bool q1.cB,af q1.accepted]])
def adm (fn:dj R):=aL dZ Tv (adl fn)
section
variable (cZ:sO R)
def atX:List (aY R):=[aO 48 (wg cZ)]
def Tw (x1:ak.State) (k0:Json->ak.State->Option R):Option R:=
 cZ x1.seq (fun y2=>k0 (⟨y2.kind,⟨y2.num.aj,y2.num.exp⟩,y2.text,y2.names,y2.items⟩:Json) x1)
theorem atY:aP (R:=R) tt (atX cZ) bm false FW dZ Tv (adl (Tw cZ)):=fun x y k=>by kernel_rfl
end
def rC:dj R:=Tw cZ
theorem atZ (R:Type):aN ao 174 (adm (rC (R:=R))):=aR (atY cZ) TT mixed (.c (Cd R) <| .n) rfl rfl bp
abbrev Tx:List aH:=[.cells [.ptr 1 8],.cells [aF,aF,.str,aF,aF,.bool,aF,aF,.bool,aF]]
def adn (fn:dj R):br R dZ Tx:=fun x y k=>fn (iC y.2.1) (fun q0 q1=>k (lE q0) [.cells [.ptr 1 8],.cells [af q1.header,af q1.bC,.str q1.bW,af q1.order,af q1.update,.bool q1.live,af q1.node,af q1.seq,.bool q1.cB,af q1.accepted]])
def ado (fn:dj R):=aL dZ Tx (adn fn)
section
variable (oa:Ce R)
def at1:List (aY R):=[aO 99 (G7 oa)]
def Tz (x1:ak.State) (k0:Json->ak.State->Option R):Option R:=
 oa x1.cB (fun y2=>k0 (⟨y2.kind,⟨y2.num.aj,y2.num.exp⟩,y2.text,y2.names,y2.items⟩:Json) x1)
theorem at3:aP (R:=R) tt (at1 oa) bm false Tryz.f178 dZ Tx (adn (Tz oa)):=fun x y k=>by kernel_rfl
end
def rD:dj R:=Tz oa
theorem at4 (R:Type):aN ao 178 (ado (rD (R:=R))):=aR (at3 oa) TT mixed (.c (adg R) <| .n) rfl rfl bp
variable {R:Type}
abbrev TA:List aH:=[.cells [.ptr 1 9],.cells [aF,aF,.str,aF,aF,.bool,aF,aF,.bool,aF]]
def adp (fn:dj R):br R dZ TA:=fun x y k=>fn (iC y.2.1) (fun q0 q1=>k (lE q0) [.cells [.ptr 1 9],.cells [af q1.header,af q1.bC,.str q1.bW,af q1.order,af q1.update,.bool q1.live,af q1.node,af q1.seq,.bool q1.cB,af q1.accepted]])
def adq (fn:dj R):=aL dZ TA (adp fn)
section
variable (cZ:sO R)
def at5:List (aY R):=[aO 48 (wg cZ)]
def TB (x1:ak.State) (k0:Json->ak.State->Option R):Option R:=
 cZ x1.accepted (fun y2=>k0 (⟨y2.kind,⟨y2.num.aj,y2.num.exp⟩,y2.text,y2.names,y2.items⟩:Json) x1)
theorem at6:aP (R:=R) tt (at5 cZ) bm false FW dZ TA (adp (TB cZ)):=fun x y k=>by kernel_rfl
end
def rE:dj R:=TB cZ
theorem aua (R:Type):aN ao 174 (adq (rE (R:=R))):=aR (at6 cZ) TT mixed (.c (Cd R) <| .n) rfl rfl bp
abbrev G8 (R:Type):Type:=(List ad)->ad->(Int->Option R)->Option R
abbrev Cf:List ax:=[.leaf (.sl .str),dU]
def adr (fn:G8 R):br R Cf topic_Name_q:=fun x y k=>fn x.1 x.2.1 (fun q0=>k (af q0) [])
def TC (fn:G8 R):=aL Cf topic_Name_q (adr fn)
abbrev ads (R:Type):Type:=(List ad)->ad->Int->Int->(Option R)->(Int->Option R)->Option R
abbrev TE (R:Type):Type:=Nat->ads R
def KQ:Hint:=⟨[0,1,7,8],[],[],[],[],[4]⟩
abbrev G9:Type:=(List ad)×ad×Int×Int
def adt:G9->St:=fun d=>⟨.sl .str d.1 .no::.str d.2.1::U 5 (af d.2.2.1::af d.2.2.2::U 10 ([])),[]⟩
def aub (K:KT R):Option R:=K (.exit 0) ⟨U 19 ([]),[]⟩
def auc (K:KT R) (q0:Int):Option R:=K (.ret) ⟨U 4 (af q0::U 14 ([])),[]⟩
abbrev TF (K:KT R) (d:G9) (f:ads R):Option R:=f d.1 d.2.1 d.2.2.1 d.2.2.2 (aub K) (auc K)
abbrev KR:List ax:=.leaf (.sl .str)::dU::PU 5 (bG::bG::PU 10 ([]))
def adu (x:ax.aA KR) (y:aH.aA topic_Name_q):Nat:=(av x.1+av x.2.1+ah x.2.2.2.2.2.2.2.1+ah ((t8 x).1)+64)
def adv (x:ax.aA KR) (y:aH.aA topic_Name_q):G9:=(x.1,x.2.1,x.2.2.2.2.2.2.2.1,(t8 x).1)
def aud (L:TE R):dC R KR topic_Name_q:=fun x y K=>TF K (adv x y) (L (adu x y))
section
variable (oV:TE R)
def Eu (aD:(List ad)->ad->Int->Int->Option R) (x3:List ad) (x4:ad) (x5:Int) (x6:Int) (e0:Option R) (e1:Int->Option R):Option R:=
 bif(decide (x6<x5))then(ag (decide ((0:Int)<=x6)&&decide (x6<x3.length)) (bif(x4==(x3.getD x6.toNat (Ty.az .str)))then(e1 x6)else(aD x3 x4 x5 (ae.wrap (x6+1)))))else(e0)
def adw (K:KT R) (rc:G9->Option R) (d:G9):Option R:=TF K d (Eu (fun z0 z1 z2 z3=>rc (z0,z1,z2,z3)))
def adx:Nat->Option (Hint×bX R):=fun i=>match i with
 | 2=>some (KQ,(cY KR topic_Name_q (aud oV) dz))
 | _=>none
theorem aue:dn (R:=R) tt [] (adx oV) 0 Tryz.f127 0 KQ adt (adw):=fun K rc d=>by kernel_rfl
def TG (x1:List ad) (x2:ad) (k0:Int->Option R):Option R:=
 oV (av x1+av x2+ah (x1.length:Int)+ah 0+64) x1 x2 (x1.length:Int) 0 (k0 (-1)) (fun y7=>k0 y7)
theorem auf:aP (R:=R) tt [] (adx oV) false Tryz.f127 Cf topic_Name_q (adr (TG oV)):=fun x y k=>by kernel_rfl
end
def oV:TE R
 | 0,_,_,_,_,_,_=>none
 | n+1,aB,aC,aG,bq,e0,e1=>Eu (fun aB aC aG bq=>oV n aB aC aG bq e0 e1) aB aC aG bq e0 e1
def aug:=dD (R:=R) adt (adw) TF (oV) adu adv (aue oV) (fun _ _=>by kernel_rfl) (fun _ _ _=>by kernel_rfl) (fun _ _=>by kernel_rfl)
def ni:G8 R:=TG oV
theorem ady (R:Type):aN ao 127 (TC (ni (R:=R))):=aR (auf oV) TT mixed .n rfl rfl (dE.all (by kernel_rfl) (.s .z (dJ (by kernel_rfl) (aug _ dH))))
abbrev AE (R:Type):Type:=(List ad)->ad->(Bool->Option R)->Option R
def TH (fn:AE R):br R Cf topic_Name_q:=fun x y k=>fn x.1 x.2.1 (fun q0=>k (.bool q0) [])
def Ev (fn:AE R):=aL Cf topic_Name_q (TH fn)
section
variable (ni:G8 R)
def auh:List (aY R):=[aO 127 (TC ni)]
def TJ (x1:List ad) (x2:ad) (k0:Bool->Option R):Option R:=
 ni x1 x2 (fun y3=>k0 (decide (y3>=(0:Int))))
theorem aui:aP (R:=R) tt (auh ni) bm false Tryz.f85 Cf topic_Name_q (TH (TJ ni)):=fun x y k=>by kernel_rfl
end
def ki:AE R:=TJ ni
theorem adz (R:Type):aN ao 85 (Ev (ki (R:=R))):=aR (aui ni) TT mixed (.c (ady R) <| .n) rfl rfl bp
abbrev KS (R:Type):Type:=(List ad)->((List ad)->Option R)->Option R
abbrev Ew:List ax:=[.leaf (.sl .str)]
def adA (fn:KS R):br R Ew topic_Name_q:=fun x y k=>fn x.1 (fun q0=>k (.sl .str q0 .no) [])
def adB (fn:KS R):=aL Ew topic_Name_q (adA fn)
section
def TK (x1:List ad) (k0:(List ad)->Option R):Option R:=
 bif x1.isEmpty then(Bx (k0 ([]:List ad)) (ag (decide ((0+x1.length)*16<=140737488355328)) (k0 (([]:List ad)++x1))))else(ag (decide ((0+x1.length)*16<=140737488355328)) (k0 (([]:List ad)++x1)))
theorem auj:aP (R:=R) tt [] bm false Tryz.f128 Ew topic_Name_q (adA TK):=fun x y k=>by kernel_rfl
end
def pX:KS R:=TK
theorem auk (R:Type):aN ao 128 (adB (pX (R:=R))):=aR (auj) TT mixed .n rfl rfl bp
abbrev KU (R:Type):Type:=(List Json)->(Option R)->(Nat->(List Json)->Option R)->Option R
abbrev TL:List ax:=[.leaf (.sl .json)]
def adC (fn:KU R):br R TL topic_Name_q:=fun x y k=>fn x.1 (k (.bk) []) (fun q0 q1=>k (.row 0 q0) [.row .json q1])
def adD (fn:KU R):=aL TL topic_Name_q (adC fn)
section
def TM (x1:List Json) (k0:Option R) (k1:Nat->(List Json)->Option R):Option R:=
 bif x1.isEmpty then(Bx (k0) (ag (decide ((0+x1.length)*88<=140737488355328)) (k1 (0+x1.length) (([]:List Json)++x1))))else(ag (decide ((0+x1.length)*88<=140737488355328)) (k1 (0+x1.length) (([]:List Json)++x1)))
theorem aul:aP (R:=R) (tt.mode [.json]) [] bm true Tryz.f129 TL topic_Name_q (adC TM):=fun x y k=>by kernel_rfl
end
def pY:KU R:=TM
theorem aum (R:Type):aN ao 129 (adD (pY (R:=R))):=aR (aul) (TT.mode [.json]) mixed .n rfl rfl bp
abbrev oW (R:Type):Type:=Json->(Json->Option R)->Option R
abbrev gK:List ax:=[yp]
def tX (fn:oW R):br R gK topic_Name_q:=fun x y k=>fn (dq x.1) (fun q0=>k (lE q0) [])
def KV (fn:oW R):=aL gK topic_Name_q (tX fn)
abbrev adE (R:Type):Type:=Int->Int->Int->Int->Int->ad->(List ad)->Int->Int->Int->ad->(Int->Int->Int->ad->(List ad)->Int->Int->Int->ad->Option R)->Option R
abbrev TN (R:Type):Type:=Nat->adE R
abbrev adF (R:Type):Type:=Nat->Int->Int->Int->Int->Int->ad->(List ad)->Nat->Int->Int->Int->ad->(List Json)->(Int->Int->Int->ad->(List ad)->Nat->Int->Int->Int->ad->(List Json)->Option R)->Option R
abbrev TO (R:Type):Type:=Nat->adF R
def TP:Hint:=⟨[1,2,14,15,16],[],[],[],[],[1,2]⟩
abbrev Ha:Type:=Int×Int×Int×Int×Int×ad×(List ad)×Int×Int×Int×ad
def adG:Ha->St:=fun d=>⟨.undef::.ptr 0 0::.ptr 1 0::U 11 (.bk::af d.1::af d.2.1::U 12 ([])),[.cells [af d.2.2.1,af d.2.2.2.1,af d.2.2.2.2.1,.str d.2.2.2.2.2.1,.sl .str d.2.2.2.2.2.2.1 .no,.bk],.cells [af d.2.2.2.2.2.2.2.1,af d.2.2.2.2.2.2.2.2.1,af d.2.2.2.2.2.2.2.2.2.1,.str d.2.2.2.2.2.2.2.2.2.2,.bk,.bk]]⟩
def aun (K:KT R) (q0:Int) (q1:Int) (q2:Int) (q3:ad) (q4:List ad) (q5:Int) (q6:Int) (q7:Int) (q8:ad):Option R:=K (.exit 0) ⟨.undef::.ptr 0 0::.ptr 1 0::U 26 ([]),[.cells [af q0,af q1,af q2,.str q3,.sl .str q4 .no,.bk],.cells [af q5,af q6,af q7,.str q8,.bk,.bk]]⟩
abbrev TQ (K:KT R) (d:Ha) (f:adE R):Option R:=f d.1 d.2.1 d.2.2.1 d.2.2.2.1 d.2.2.2.2.1 d.2.2.2.2.2.1 d.2.2.2.2.2.2.1 d.2.2.2.2.2.2.2.1 d.2.2.2.2.2.2.2.2.1 d.2.2.2.2.2.2.2.2.2.1 d.2.2.2.2.2.2.2.2.2.2 (aun K)
abbrev KW:List ax:=.leaf (.undef)::.leaf (.ptr 0 0)::.leaf (.ptr 1 0)::PU 11 (.leaf (.bk)::bG::bG::PU 12 ([]))
abbrev KX:List aH:=[.cells [aF,aF,aF,.str,.sl .str,.bk],.cells [aF,aF,aF,.str,.bk,.bk]]
def adH (x:ax.aA KW) (y:aH.aA KX):Nat:=(ah ((t8 x).2.2.2.2.2.2.2.1)+ah ((t8 (t8 x)).1)+ah y.1.1+ah y.1.2.1+ah y.1.2.2.1+av y.1.2.2.2.1+av y.1.2.2.2.2.1+ah y.2.1.1+ah y.2.1.2.1+ah y.2.1.2.2.1+av y.2.1.2.2.2.1+64)
def adI (x:ax.aA KW) (y:aH.aA KX):Ha:=((t8 x).2.2.2.2.2.2.2.1,(t8 (t8 x)).1,y.1.1,y.1.2.1,y.1.2.2.1,y.1.2.2.2.1,y.1.2.2.2.2.1,y.2.1.1,y.2.1.2.1,y.2.1.2.2.1,y.2.1.2.2.2.1)
def auo (L:TN R):dC R KW KX:=fun x y K=>TQ K (adI x y) (L (adH x y))
abbrev Hb:Type:=Nat×Int×Int×Int×Int×Int×ad×(List ad)×Nat×Int×Int×Int×ad×(List Json)
def adJ:Hb->St:=fun d=>⟨.undef::.ptr 0 0::.ptr 1 0::U 11 (.row 2 d.1::af d.2.1::af d.2.2.1::U 12 ([])),[.cells [af d.2.2.2.1,af d.2.2.2.2.1,af d.2.2.2.2.2.1,.str d.2.2.2.2.2.2.1,.sl .str d.2.2.2.2.2.2.2.1 .no,.row 2 d.2.2.2.2.2.2.2.2.1],.cells [af d.2.2.2.2.2.2.2.2.2.1,af d.2.2.2.2.2.2.2.2.2.2.1,af d.2.2.2.2.2.2.2.2.2.2.2.1,.str d.2.2.2.2.2.2.2.2.2.2.2.2.1,.bk,.bk],.row .json d.2.2.2.2.2.2.2.2.2.2.2.2.2]⟩
def aup (K:KT R) (q0:Int) (q1:Int) (q2:Int) (q3:ad) (q4:List ad) (q5:Nat) (q6:Int) (q7:Int) (q8:Int) (q9:ad) (lF:List Json):Option R:=K (.exit 0) ⟨.undef::.ptr 0 0::.ptr 1 0::U 26 ([]),[.cells [af q0,af q1,af q2,.str q3,.sl .str q4 .no,.row 2 q5],.cells [af q6,af q7,af q8,.str q9,.bk,.bk],.row .json lF]⟩
abbrev TR (K:KT R) (d:Hb) (f:adF R):Option R:=f d.1 d.2.1 d.2.2.1 d.2.2.2.1 d.2.2.2.2.1 d.2.2.2.2.2.1 d.2.2.2.2.2.2.1 d.2.2.2.2.2.2.2.1 d.2.2.2.2.2.2.2.2.1 d.2.2.2.2.2.2.2.2.2.1 d.2.2.2.2.2.2.2.2.2.2.1 d.2.2.2.2.2.2.2.2.2.2.2.1 d.2.2.2.2.2.2.2.2.2.2.2.2.1 d.2.2.2.2.2.2.2.2.2.2.2.2.2 (aup K)
abbrev KY:List ax:=.leaf (.undef)::.leaf (.ptr 0 0)::.leaf (.ptr 1 0)::PU 11 (.leaf (.row 2)::bG::bG::PU 12 ([]))
abbrev KZ:List aH:=[.cells [aF,aF,aF,.str,.sl .str,.row 2],.cells [aF,aF,aF,.str,.bk,.bk],.row .json]
def adK (x:ax.aA KY) (y:aH.aA KZ):Nat:=(ah ((t8 x).2.2.2.2.2.2.2.1)+ah ((t8 (t8 x)).1)+ah y.1.1+ah y.1.2.1+ah y.1.2.2.1+av y.1.2.2.2.1+av y.1.2.2.2.2.1+ah y.2.1.1+ah y.2.1.2.1+ah y.2.1.2.2.1+av y.2.1.2.2.2.1+av y.2.2.1+64)
def adL (x:ax.aA KY) (y:aH.aA KZ):Hb:=((t8 x).2.2.2.2.2.2.1,(t8 x).2.2.2.2.2.2.2.1,(t8 (t8 x)).1,y.1.1,y.1.2.1,y.1.2.2.1,y.1.2.2.2.1,y.1.2.2.2.2.1,y.1.2.2.2.2.2.1,y.2.1.1,y.2.1.2.1,y.2.1.2.2.1,y.2.1.2.2.2.1,y.2.2.1)
def auq (L:TO R):dC R KY KZ:=fun x y K=>TR K (adL x y) (L (adK x y))
section
variable (iE:oW R) (pY:KU R) (pX:KS R) (rF:TN R) (oX:TO R)
def TS:List (aY R):=[aO 86 (aL gK topic_Name_q (tX iE)),dp 129 (adD pY),aO 128 (adB pX)]
def adM (aD:Int->Int->Int->Int->Int->ad->(List ad)->Int->Int->Int->ad->Option R) (x5:Int) (x6:Int) (x7:Int) (x8:Int) (x9:Int) (gL:ad) (hU:List ad) (hY:Int) (eK:Int) (fC:Int) (bw:ad) (e0:Int->Int->Int->ad->(List ad)->Int->Int->Int->ad->Option R):Option R:=
 bif(decide (x6<x5))then(none)else(e0 x7 x8 x9 gL hU hY eK fC bw)
def adN (K:KT R) (rc:Ha->Option R) (d:Ha):Option R:=TQ K d (adM (fun z0 z1 z2 z3 z4 z5 z6 z7 z8 z9 bM=>rc (z0,z1,z2,z3,z4,z5,z6,z7,z8,z9,bM)))
def K2 (aD:Nat->Int->Int->Int->Int->Int->ad->(List ad)->Nat->Int->Int->Int->ad->(List Json)->Option R) (iF:Nat) (jj:Int) (gU:Int) (Ey:Int) (oc:Int) (rG:Int) (x31:ad) (x32:List ad) (TU:Nat) (x34:Int) (x35:Int) (x36:Int) (x37:ad) (wh:List Json) (e0:Int->Int->Int->ad->(List ad)->Nat->Int->Int->Int->ad->(List Json)->Option R):Option R:=
 bif(decide (gU<jj))then(ag (decide ((0:Int)<=gU)&&decide (gU<iF)) (ag (decide (gU.toNat<wh.length)) (iE (⟨(wh.getD gU.toNat (Ty.az .json)).kind,⟨(wh.getD gU.toNat (Ty.az .json)).num.aj,(wh.getD gU.toNat (Ty.az .json)).num.exp⟩,(wh.getD gU.toNat (Ty.az .json)).text,(wh.getD gU.toNat (Ty.az .json)).names,(wh.getD gU.toNat (Ty.az .json)).items⟩:Json) (fun jk=>ag (decide ((0:Int)<=gU)&&decide (gU<TU)) (ag (decide (gU.toNat<wh.length)) (aD iF jj (ae.wrap (gU+1)) Ey oc rG x31 x32 TU x34 x35 x36 x37 (wh.set gU.toNat (⟨jk.kind,⟨jk.num.aj,jk.num.exp⟩,jk.text,jk.names,jk.items⟩:Json))))))))else(e0 Ey oc rG x31 x32 TU x34 x35 x36 x37 wh)
def adO (K:KT R) (rc:Hb->Option R) (d:Hb):Option R:=TR K d (K2 iE (fun z0 z1 z2 z3 z4 z5 z6 z7 z8 z9 bM bH z12 mE=>rc (z0,z1,z2,z3,z4,z5,z6,z7,z8,z9,bM,bH,z12,mE)))
def TV:Nat->Option (Hint×bX R):=fun i=>match i with
 | 4=>some (TP,(cY KW KX (auo rF) (cY KY KZ (auq oX) dz)))
 | _=>none
theorem aur:dn (R:=R) tt (TS iE pY pX) (TV rF oX) 0 Tryz.f86 0 TP adG (adN):=fun K rc d=>by kernel_rfl
theorem aus:dn (R:=R) tt (TS iE pY pX) (TV rF oX) 0 Tryz.f86 0 TP adJ (adO iE):=fun K rc d=>by kernel_rfl
def TW (x1:Json) (k0:Json->Option R):Option R:=
 pX x1.names (fun y2=>pY x1.items (rF (ah 0+ah 0+ah x1.kind+ah x1.num.aj+ah x1.num.exp+av x1.text+av y2+ah 0+ah 0+ah 0+av ([]:ad)+64) 0 0 x1.kind x1.num.aj x1.num.exp x1.text y2 0 0 0 ([]:ad) (fun cA cP cV eA eB bB jl fe iG=>k0 (⟨cA,⟨cP,cV⟩,eA,eB,([]:List Json)⟩:Json))) (fun y3 y4=>oX (ah (y3:Int)+ah 0+ah x1.kind+ah x1.num.aj+ah x1.num.exp+av x1.text+av y2+ah 0+ah 0+ah 0+av ([]:ad)+av y4+64) y3 (y3:Int) 0 x1.kind x1.num.aj x1.num.exp x1.text y2 y3 0 0 0 ([]:ad) y4 (fun kJ lY lZ mF mG od nj oY pZ wi oZ=>k0 (⟨kJ,⟨lY,lZ⟩,mF,mG,oZ⟩:Json))))
theorem aut:aP (R:=R) tt (TS iE pY pX) (TV rF oX) false Tryz.f86 gK topic_Name_q (tX (TW pY pX rF oX)):=fun x y k=>by kernel_rfl
end
def rF:TN R
 | 0,_,_,_,_,_,_,_,_,_,_,_,_=>none
 | n+1,aB,aC,aG,bq,cg,cw,dP,eC,eD,eE,fm,e0=>adM (fun aB aC aG bq cg cw dP eC eD eE fm=>rF n aB aC aG bq cg cw dP eC eD eE fm e0) aB aC aG bq cg cw dP eC eD eE fm e0
def oX (iE:oW R):TO R
 | 0,_,_,_,_,_,_,_,_,_,_,_,_,_,_,_=>none
 | n+1,aB,aC,aG,bq,cg,cw,dP,eC,eD,eE,fm,jm,l0,o0,e0=>K2 iE (fun aB aC aG bq cg cw dP eC eD eE fm jm l0 o0=>oX iE n aB aC aG bq cg cw dP eC eD eE fm jm l0 o0 e0) aB aC aG bq cg cw dP eC eD eE fm jm l0 o0 e0
def auu (iE:oW R):=dD (R:=R) adG (adN) TQ (rF) adH adI (aur iE pY pX rF (oX iE)) (fun _ _=>by kernel_rfl) (fun _ _ _=>by kernel_rfl) (fun _ _=>by kernel_rfl)
def auv (iE:oW R):=dD (R:=R) adJ (adO iE) TR (oX iE) adK adL (aus iE pY pX rF (oX iE)) (fun _ _=>by kernel_rfl) (fun _ _ _=>by kernel_rfl) (fun _ _=>by kernel_rfl)
def Hc (iE:oW R):oW R:=TW pY pX rF (oX iE)
theorem auw (R:Type) (iE:oW R) (auy:ak.Spec.Ok ao 86 (aL gK topic_Name_q (tX iE) dy)):aN ao 86 (KV (Hc iE)):=aR (aut iE pY pX rF (oX iE)) TT mixed (.p auy <| .d (aum R) rfl <| .c (auk R) <| .n) rfl rfl (dE.all (by kernel_rfl) (.s .z (dJ (by kernel_rfl) (auu iE _ (auv iE _ dH)))))
def sP:Nat->oW R
 | 0,_,_=>none
 | n+1,aB,o3=>Hc (sP n) aB o3
theorem aJi (n:Nat):sP (R:=R) (n+1)=Hc (sP n):=by kernel_rfl
theorem auz (R:Type):∀n,ak.Spec.Ok ao 86 (aL gK topic_Name_q (tX (sP (R:=R) n)) dy):=
 yo (run:=fun n=>tX (sP (R:=R) n)) (fun x y k=>by kernel_rfl) fun n hyp=>auw R (sP n) hyp dy (iB _)
def p7:oW R:=fun x1 k0=>sP (Json.depth x1+2) x1 k0
theorem auA (R:Type):tX (R:=R) p7=fun x y k=>tX (sP (Json.depth (dq x.1)+2)) x y k:=by kernel_rfl
theorem auB (R:Type) (other:ak.Spec R) (ho:ak.Spec.Ok ao 86 other):ak.Spec.Ok ao 86 (aL gK topic_Name_q (tX p7) other):=
 Ax (Aw (run:=fun n=>tX (sP (R:=R) n)) (fun x y=>(Json.depth (dq x.1)+2)) ho (auz R)) (auA R)
abbrev Cg (R:Type):Type:=(List ad)->(List Json)->(Json->Option R)->Option R
abbrev K3:List ax:=[.leaf (.sl .str),.leaf (.sl .json)]
def TX (fn:Cg R):br R K3 topic_Name_q:=fun x y k=>fn x.1 x.2.1 (fun q0=>k (lE q0) [])
def K4 (fn:Cg R):=aL K3 topic_Name_q (TX fn)
abbrev adP (R:Type):Type:=(List ad)->(List Json)->Int->Int->Int->Int->Int->ad->Int->Int->Int->ad->(List ad)->(List Json)->(Int->Int->Int->ad->Int->Int->Int->ad->(List ad)->(List Json)->Option R)->Option R
abbrev TY (R:Type):Type:=Nat->adP R
def adQ:Hint:=⟨[0,4,5,15,16,17],[],[],[(1,4,.str,false),(1,5,.json,false)],[],[4,5]⟩
abbrev Hd:Type:=(List ad)×(List Json)×Int×Int×Int×Int×Int×ad×Int×Int×Int×ad×(List ad)×(List Json)
def adR:Hd->St:=fun d=>⟨.sl .str d.1 .no::U 3 (.ptr 0 0::.ptr 1 0::U 9 (.sl .json d.2.1 .no::af d.2.2.1::af d.2.2.2.1::U 30 ([]))),[.cells [af d.2.2.2.2.1,af d.2.2.2.2.2.1,af d.2.2.2.2.2.2.1,.str d.2.2.2.2.2.2.2.1,.bk,.bk],.cells [af d.2.2.2.2.2.2.2.2.1,af d.2.2.2.2.2.2.2.2.2.1,af d.2.2.2.2.2.2.2.2.2.2.1,.str d.2.2.2.2.2.2.2.2.2.2.2.1,.sl .str d.2.2.2.2.2.2.2.2.2.2.2.2.1 (.own 2),.sl .json d.2.2.2.2.2.2.2.2.2.2.2.2.2 (.own 3)],.tok,.tok]⟩
def auC (K:KT R) (q0:Int) (q1:Int) (q2:Int) (q3:ad) (q4:Int) (q5:Int) (q6:Int) (q7:ad) (q8:List ad) (q9:List Json):Option R:=K (.exit 0) ⟨U 4 (.ptr 0 0::.ptr 1 0::U 42 ([])),[.cells [af q0,af q1,af q2,.str q3,.bk,.bk],.cells [af q4,af q5,af q6,.str q7,.sl .str q8 (.own 2),.sl .json q9 (.own 3)],.tok,.tok]⟩
abbrev TZ (K:KT R) (d:Hd) (f:adP R):Option R:=f d.1 d.2.1 d.2.2.1 d.2.2.2.1 d.2.2.2.2.1 d.2.2.2.2.2.1 d.2.2.2.2.2.2.1 d.2.2.2.2.2.2.2.1 d.2.2.2.2.2.2.2.2.1 d.2.2.2.2.2.2.2.2.2.1 d.2.2.2.2.2.2.2.2.2.2.1 d.2.2.2.2.2.2.2.2.2.2.2.1 d.2.2.2.2.2.2.2.2.2.2.2.2.1 d.2.2.2.2.2.2.2.2.2.2.2.2.2 (auC K)
abbrev K5:List ax:=.leaf (.sl .str)::PU 3 (.leaf (.ptr 0 0)::.leaf (.ptr 1 0)::PU 9 (.leaf (.sl .json)::bG::bG::PU 30 ([])))
abbrev AF:List aH:=[.cells [aF,aF,aF,.str,.bk,.bk],.cells [aF,aF,aF,.str,.k9 .str 2,.k9 .json 3],.tok,.tok]
def adS (x:ax.aA K5) (y:aH.aA AF):Nat:=(av x.1+av ((t8 x).2.2.2.2.2.2.2.1)+ah ((t8 (t8 x)).1)+ah ((t8 (t8 x)).2.1)+ah y.1.1+ah y.1.2.1+ah y.1.2.2.1+av y.1.2.2.2.1+ah y.2.1.1+ah y.2.1.2.1+ah y.2.1.2.2.1+av y.2.1.2.2.2.1+av y.2.1.2.2.2.2.1+av y.2.1.2.2.2.2.2.1+64)
def adT (x:ax.aA K5) (y:aH.aA AF):Hd:=(x.1,(t8 x).2.2.2.2.2.2.2.1,(t8 (t8 x)).1,(t8 (t8 x)).2.1,y.1.1,y.1.2.1,y.1.2.2.1,y.1.2.2.2.1,y.2.1.1,y.2.1.2.1,y.2.1.2.2.1,y.2.1.2.2.2.1,y.2.1.2.2.2.2.1,y.2.1.2.2.2.2.2.1)
def auD (L:TY R):dC R K5 AF:=fun x y K=>TZ K (adT x y) (L (adS x y))
section
variable (p7:oW R) (ki:AE R) (rH:TY R)
def adU:List (aY R):=[aO 86 (KV p7),aO 85 (Ev ki)]
def K6 (aD:(List ad)->(List Json)->Int->Int->Int->Int->Int->ad->Int->Int->Int->ad->(List ad)->(List Json)->Option R) (x3:List ad) (x4:List Json) (x5:Int) (x6:Int) (x7:Int) (x8:Int) (x9:Int) (gL:ad) (hU:Int) (hY:Int) (eK:Int) (fC:ad) (bw:List ad) (bZ:List Json) (e0:Int->Int->Int->ad->Int->Int->Int->ad->(List ad)->(List Json)->Option R):Option R:=
 bif(decide (x6<x5))then(ag (decide ((0:Int)<=x6)&&decide (x6<x4.length)) (ag (decide ((0:Int)<=x6)&&decide (x6<x3.length)) (ki bw (x3.getD x6.toNat (Ty.az .str)) (fun cP=>bif(!cP)then(ag (decide ((0:Int)<=x6)&&decide (x6<x3.length)) (ag (decide ((bw.length+1)*16<=140737488355328)) (p7 (⟨(x4.getD x6.toNat (Ty.az .json)).kind,⟨(x4.getD x6.toNat (Ty.az .json)).num.aj,(x4.getD x6.toNat (Ty.az .json)).num.exp⟩,(x4.getD x6.toNat (Ty.az .json)).text,(x4.getD x6.toNat (Ty.az .json)).names,(x4.getD x6.toNat (Ty.az .json)).items⟩:Json) (fun cV=>ag (decide ((bZ.length+1)*88<=140737488355328)) (aD x3 x4 x5 (ae.wrap (x6+1)) x7 x8 x9 gL hU hY eK fC (bw++([(x3.getD x6.toNat (Ty.az .str))]:List ad)) (bZ++([(⟨cV.kind,⟨cV.num.aj,cV.num.exp⟩,cV.text,cV.names,cV.items⟩:Json)]:List Json)))))))else(aD x3 x4 x5 (ae.wrap (x6+1)) x7 x8 x9 gL hU hY eK fC bw bZ)))))else(e0 x7 x8 x9 gL hU hY eK fC bw bZ)
def adV (K:KT R) (rc:Hd->Option R) (d:Hd):Option R:=TZ K d (K6 p7 ki (fun z0 z1 z2 z3 z4 z5 z6 z7 z8 z9 bM bH z12 mE=>rc (z0,z1,z2,z3,z4,z5,z6,z7,z8,z9,bM,bH,z12,mE)))
def adW:Nat->Option (Hint×bX R):=fun i=>match i with
 | 3=>some (adQ,(cY K5 AF (auD rH) dz))
 | _=>none
theorem auE:dn (R:=R) tt (adU p7 ki) (adW rH) 0 Tryz.f36 0 adQ adR (adV p7 ki):=fun K rc d=>by kernel_rfl
def T0 (x1:List ad) (x2:List Json) (k0:Json->Option R):Option R:=
 ag (decide ((0:Int)<=(min (x2.length:Int) (x1.length:Int)))&&decide ((min (x2.length:Int) (x1.length:Int))<=x2.length)) (ag (decide ((0:Int)<=(min (x2.length:Int) (x1.length:Int)))) (rH (av x1+av ((x2.drop 0).take ((min (x2.length:Int) (x1.length:Int)).toNat - 0))+ah (((x2.drop 0).take ((min (x2.length:Int) (x1.length:Int)).toNat - 0)).length:Int)+ah 0+ah 0+ah 0+ah 0+av ([]:ad)+ah 7+ah 0+ah 0+av ([]:ad)+av ([]:List ad)+av ([]:List Json)+64) x1 ((x2.drop 0).take ((min (x2.length:Int) (x1.length:Int)).toNat - 0)) (((x2.drop 0).take ((min (x2.length:Int) (x1.length:Int)).toNat - 0)).length:Int) 0 0 0 0 ([]:ad) 7 0 0 ([]:ad) ([]:List ad) ([]:List Json) (fun eA eB bB jl fe iG dK fO cH cN=>k0 (⟨fe,⟨iG,dK⟩,fO,cH,cN⟩:Json))))
theorem auF:aP (R:=R) tt (adU p7 ki) (adW rH) false Tryz.f36 K3 topic_Name_q (TX (T0 rH)):=fun x y k=>by kernel_rfl
end
def rH:TY R
 | 0,_,_,_,_,_,_,_,_,_,_,_,_,_,_,_=>none
 | n+1,aB,aC,aG,bq,cg,cw,dP,eC,eD,eE,fm,jm,l0,o0,e0=>K6 p7 ki (fun aB aC aG bq cg cw dP eC eD eE fm jm l0 o0=>rH n aB aC aG bq cg cw dP eC eD eE fm jm l0 o0 e0) aB aC aG bq cg cw dP eC eD eE fm jm l0 o0 e0
def auG:=dD (R:=R) adR (adV p7 ki) TZ (rH) adS adT (auE p7 ki rH) (fun _ _=>by kernel_rfl) (fun _ _ _=>by kernel_rfl) (fun _ _=>by kernel_rfl)
def rI:Cg R:=T0 rH
theorem auH (R:Type):aN ao 36 (K4 (rI (R:=R))):=aR (auF p7 ki rH) TT mixed (.p (auB R _ (iB _)) <| .c (adz R) <| .n) rfl rfl (dE.all (by kernel_rfl) (.s .z (dJ (by kernel_rfl) (auG _ dH))))
section
def K7 (x1:Json) (k0:Json->Option R):Option R:=
 bif(x1.kind==4)then(k0 (⟨x1.kind,⟨0,0⟩,x1.text,x1.names,x1.items⟩:Json))else(bif(x1.kind==5)then(k0 (⟨x1.kind,⟨x1.num.aj,x1.num.exp⟩,([]:ad),x1.names,x1.items⟩:Json))else(bif(x1.kind==7)then(k0 (⟨x1.kind,⟨x1.num.aj,x1.num.exp⟩,x1.text,([]:List ad),([]:List Json)⟩:Json))else(bif(x1.kind==6)then(k0 (⟨x1.kind,⟨x1.num.aj,x1.num.exp⟩,x1.text,x1.names,([]:List Json)⟩:Json))else(k0 (⟨x1.kind,⟨x1.num.aj,x1.num.exp⟩,x1.text,x1.names,x1.items⟩:Json)))))
theorem auI:aP (R:=R) tt [] bm false Tryz.f163 gK topic_Name_q (tX K7):=fun x y k=>by kernel_rfl
end
def wj:oW R:=K7
theorem auJ (R:Type):aN ao 163 (KV (wj (R:=R))):=aR (auI) TT mixed .n rfl rfl bp
abbrev wk (R:Type):Type:=au->(Bool->Option R)->Option R
abbrev sQ:List ax:=[.agg [aF,aF]]
def T1 (fn:wk R):br R sQ topic_Name_q:=fun x y k=>fn (⟨x.1.1,x.1.2.1⟩:au) (fun q0=>k (.bool q0) [])
def AG (fn:wk R):=aL sQ topic_Name_q (T1 fn)
section
variable (er:Es R)
def auK:List (aY R):=[aO 135 (KL er)]
def yx (x1:au) (k0:Bool->Option R):Option R:=
 bif(x1.aj==0)then(k0 (x1.exp==0))else(bif((bK x1.aj 10) != 0)then(er (-1000000000000000) x1.aj 1000000000000000 (fun y2=>bif y2 then(er (-9) x1.exp 9 (fun y3=>k0 y3))else(k0 false)))else(k0 false))
theorem auL:aP (R:=R) tt (auK er) bm false Tryz.f164 sQ topic_Name_q (T1 (yx er)):=fun x y k=>by kernel_rfl
end
def fY:wk R:=yx er
theorem T2 (R:Type):aN ao 164 (AG (fY (R:=R))):=aR (auL er) TT mixed (.c (S9 R) <| .n) rfl rfl bp
variable {R:Type}
section
def auM:List (aY R):=[(200,true,(SR R))]
def adX (x1:ad) (k0:Bool->Option R):Option R:=
 k0 (dh x1)
theorem auN:aP (R:=R) tt (auM (R:=R)) bm false Tryz.f165 topic_Name_p topic_Name_q (topic_Name_rr adX):=fun x y k=>by kernel_rfl
end
def fE:topic_Name_ty R:=adX
theorem T3 (R:Type):aN ao 165 (topic_Name_s (fE (R:=R))):=aR (auN) TT mixed (.p (as2) <| .n) rfl rfl bp
abbrev K8 (R:Type):Type:=(List ad)->(Bool->Option R)->Option R
def adY (fn:K8 R):br R Ew topic_Name_q:=fun x y k=>fn x.1 (fun q0=>k (.bool q0) [])
def adZ (fn:K8 R):=aL Ew topic_Name_q (adY fn)
abbrev ad0 (R:Type):Type:=(List ad)->Int->Int->(List (ad×Bool))->(Option R)->(Bool->Option R)->Option R
abbrev T4 (R:Type):Type:=Nat->ad0 R
def ad1:Hint:=⟨[3,7,8,9],[],[],[],[],[2]⟩
abbrev He:Type:=(List ad)×Int×Int×(List (ad×Bool))
def ad2:He->St:=fun d=>⟨U 3 (.map 0::U 3 (.sl .str d.1 .no::af d.2.1::af d.2.2.1::U 14 ([]))),[.gi .str .bool d.2.2.2]⟩
def auO (K:KT R):Option R:=K (.exit 0) ⟨U 24 ([]),[]⟩
def auP (K:KT R) (q0:Bool):Option R:=K (.ret) ⟨U 2 (.bool q0::U 21 ([])),[]⟩
abbrev T5 (K:KT R) (d:He) (f:ad0 R):Option R:=f d.1 d.2.1 d.2.2.1 d.2.2.2 (auO K) (auP K)
abbrev K9:List ax:=PU 3 (.leaf (.map 0)::PU 3 (.leaf (.sl .str)::bG::bG::PU 14 ([])))
abbrev La:List aH:=[.gi .str .bool]
def ad3 (x:ax.aA K9) (y:aH.aA La):Nat:=(av x.2.2.2.2.2.2.2.1+ah ((t8 x).1)+ah ((t8 x).2.1)+av y.1+64)
def ad4 (x:ax.aA K9) (y:aH.aA La):He:=(x.2.2.2.2.2.2.2.1,(t8 x).1,(t8 x).2.1,y.1)
def auQ (L:T4 R):dC R K9 La:=fun x y K=>T5 K (ad4 x y) (L (ad3 x y))
section
variable (fE:topic_Name_ty R) (rJ:T4 R)
def ad5:List (aY R):=[aO 165 (topic_Name_s fE)]
def Lb (aD:(List ad)->Int->Int->(List (ad×Bool))->Option R) (x2:List ad) (x3:Int) (x4:Int) (x5:List (ad×Bool)) (e0:Option R) (e1:Bool->Option R):Option R:=
 bif(decide (x4<x3))then(ag (decide ((0:Int)<=x4)&&decide (x4<x2.length)) (bif(iu .str .bool (x2.getD x4.toNat (Ty.az .str)) x5)then(e1 false)else(fE (x2.getD x4.toNat (Ty.az .str)) (fun y6=>bif(!y6)then(e1 false)else(aD x2 x3 (ae.wrap (x4+1)) (pD .str .bool (x2.getD x4.toNat (Ty.az .str)) true x5))))))else(e0)
def ad6 (K:KT R) (rc:He->Option R) (d:He):Option R:=T5 K d (Lb fE (fun z0 z1 z2 z3=>rc (z0,z1,z2,z3)))
def ad7:Nat->Option (Hint×bX R):=fun i=>match i with
 | 3=>some (ad1,(cY K9 La (auQ rJ) dz))
 | _=>none
theorem auR:dn (R:=R) tt (ad5 fE) (ad7 rJ) 0 Tryz.f166 0 ad1 ad2 (ad6 fE):=fun K rc d=>by kernel_rfl
def ad8 (x1:List ad) (k0:Bool->Option R):Option R:=
 rJ (av x1+ah (x1.length:Int)+ah 0+av ([]:List (ad×Bool))+64) x1 (x1.length:Int) 0 ([]:List (ad×Bool)) (k0 true) (fun y8=>k0 y8)
theorem auS:aP (R:=R) tt (ad5 fE) (ad7 rJ) false Tryz.f166 Ew topic_Name_q (adY (ad8 rJ)):=fun x y k=>by kernel_rfl
end
def rJ:T4 R
 | 0,_,_,_,_,_,_=>none
 | n+1,aB,aC,aG,bq,e0,e1=>Lb fE (fun aB aC aG bq=>rJ n aB aC aG bq e0 e1) aB aC aG bq e0 e1
def auT:=dD (R:=R) ad2 (ad6 fE) T5 (rJ) ad3 ad4 (auR fE rJ) (fun _ _=>by kernel_rfl) (fun _ _ _=>by kernel_rfl) (fun _ _=>by kernel_rfl)
def tY:K8 R:=ad8 rJ
theorem auU (R:Type):aN ao 166 (adZ (tY (R:=R))):=aR (auS fE rJ) TT mixed (.c (T3 R) <| .n) rfl rfl (dE.all (by kernel_rfl) (.s .z (dJ (by kernel_rfl) (auT _ dH))))
abbrev gq (R:Type):Type:=Json->Int->(Bool->Option R)->Option R
abbrev o4:List ax:=[yp,bG]
def kK (fn:gq R):br R o4 topic_Name_q:=fun x y k=>fn (dq x.1) x.2.1 (fun q0=>k (.bool q0) [])
def Lc (fn:gq R):=aL o4 topic_Name_q (kK fn)
abbrev Ld (R:Type):Type:=Json->Int->(Bool->Int->Option R)->Option R
abbrev T6:List ax:=[yp,.leaf (.ptr 0 0)]
abbrev rK:List aH:=[.cells [aF]]
def ad9 (fn:Ld R):br R T6 rK:=fun x y k=>fn (dq x.1) y.1.1 (fun q0 q1=>k (.bool q0) [.cells [af q1]])
def aea (fn:Ld R):=aL T6 rK (ad9 fn)
section
variable (eF:gq R)
def auV:List (aY R):=[aO 121 (aL o4 topic_Name_q (kK eF))]
def Le (x1:Json) (x2:Int) (k0:Bool->Int->Option R):Option R:=
 eF (⟨x1.kind,⟨x1.num.aj,x1.num.exp⟩,x1.text,x1.names,x1.items⟩:Json) (ae.wrap (x2+1)) (fun y3=>k0 (!y3) x2)
theorem auW:aP (R:=R) tt (auV eF) bm false Tryz.f168 T6 rK (ad9 (Le eF)):=fun x y k=>by kernel_rfl
end
def p8 (eF:gq R):Ld R:=Le eF
theorem auX (R:Type) (eF:gq R) (Ch:ak.Spec.Ok ao 121 (aL o4 topic_Name_q (kK eF) dy)):aN ao 168 (aea (p8 eF)):=aR (auW eF) TT mixed (.p Ch <| .n) rfl rfl bp
abbrev Lf (R:Type):Type:=(List Json)->Int->(Int->Int->Option R)->Option R
abbrev Ez:List ax:=[.leaf (.sl .json),.func 168 [] [.ptr 0 0]]
def aeb (fn:Lf R):br R Ez rK:=fun x y k=>fn x.1 y.1.1 (fun q0 q1=>k (af q0) [.cells [af q1]])
def aec (fn:Lf R):=aL Ez rK (aeb fn)
abbrev aed (R:Type):Type:=(List Json)->Int->Int->Int->(Int->Option R)->(Int->Int->Option R)->Option R
abbrev T7 (R:Type):Type:=Nat->aed R
abbrev Hf:Type:=(List Json)×Int×Int×Int
def aee:Hf->St:=fun d=>⟨.sl .json d.1 .no::.func 168 [] [.ptr 0 0]::U 5 (af d.2.1::af d.2.2.1::U 10 ([])),[.cells [af d.2.2.2]]⟩
def auY (K:KT R) (q0:Int):Option R:=K (.exit 0) ⟨U 19 ([]),[.cells [af q0]]⟩
def auZ (K:KT R) (q0:Int) (q1:Int):Option R:=K (.ret) ⟨U 4 (af q0::U 14 ([])),[.cells [af q1]]⟩
abbrev T8 (K:KT R) (d:Hf) (f:aed R):Option R:=f d.1 d.2.1 d.2.2.1 d.2.2.2 (auY K) (auZ K)
abbrev Lg:List ax:=.leaf (.sl .json)::.func 168 [] [.ptr 0 0]::PU 5 (bG::bG::PU 10 ([]))
def aef (x:ax.aA Lg) (y:aH.aA rK):Nat:=(av x.1+ah x.2.2.2.2.2.2.2.1+ah ((t8 x).1)+ah y.1.1+64)
def aeg (x:ax.aA Lg) (y:aH.aA rK):Hf:=(x.1,x.2.2.2.2.2.2.2.1,(t8 x).1,y.1.1)
def au0 (L:T7 R):dC R Lg rK:=fun x y K=>T8 K (aeg x y) (L (aef x y))
section
variable (p8:Ld R) (rL:T7 R)
def aeh:List (aY R):=[dp 168 (aea p8)]
def Lh (aD:(List Json)->Int->Int->Int->Option R) (x3:List Json) (x4:Int) (x5:Int) (x6:Int) (e0:Int->Option R) (e1:Int->Int->Option R):Option R:=
 bif(decide (x5<x4))then(ag (decide ((0:Int)<=x5)&&decide (x5<x3.length)) (p8 (⟨(x3.getD x5.toNat (Ty.az .json)).kind,⟨(x3.getD x5.toNat (Ty.az .json)).num.aj,(x3.getD x5.toNat (Ty.az .json)).num.exp⟩,(x3.getD x5.toNat (Ty.az .json)).text,(x3.getD x5.toNat (Ty.az .json)).names,(x3.getD x5.toNat (Ty.az .json)).items⟩:Json) x6 (fun y7 y8=>bif y7 then(e1 x5 y8)else(aD x3 x4 (ae.wrap (x5+1)) y8))))else(e0 x6)
def aei (K:KT R) (rc:Hf->Option R) (d:Hf):Option R:=T8 K d (Lh p8 (fun z0 z1 z2 z3=>rc (z0,z1,z2,z3)))
def aej:Nat->Option (Hint×bX R):=fun i=>match i with
 | 2=>some (KQ,(cY Lg rK (au0 rL) dz))
 | _=>none
theorem au1:dn (R:=R) tt (aeh p8) (aej rL) 1 Tryz.f201 0 KQ aee (aei p8):=fun K rc d=>by kernel_rfl
def aek (x1:List Json) (x2:Int) (k0:Int->Int->Option R):Option R:=
 rL (av x1+ah (x1.length:Int)+ah 0+ah x2+64) x1 (x1.length:Int) 0 x2 (fun y9=>k0 (-1) y9) (fun bu aS=>k0 bu aS)
theorem au2:aP (R:=R) tt (aeh p8) (aej rL) false Tryz.f201 Ez rK (aeb (aek rL)):=fun x y k=>by kernel_rfl
end
def rL (eF:gq R):T7 R
 | 0,_,_,_,_,_,_=>none
 | n+1,aB,aC,aG,bq,e0,e1=>Lh (p8 eF) (fun aB aC aG bq=>rL eF n aB aC aG bq e0 e1) aB aC aG bq e0 e1
def au3 (eF:gq R):=dD (R:=R) aee (aei (p8 eF)) T8 (rL eF) aef aeg (au1 (p8 eF) (rL eF)) (fun _ _=>by kernel_rfl) (fun _ _ _=>by kernel_rfl) (fun _ _=>by kernel_rfl)
def AH (eF:gq R):Lf R:=aek (rL eF)
theorem au4 (R:Type) (eF:gq R) (Ch:ak.Spec.Ok ao 121 (aL o4 topic_Name_q (kK eF) dy)):aN ao 201 (aec (AH eF)):=aR (au2 (p8 eF) (rL eF)) TT mixed (.d (auX R eF Ch) rfl <| .n) rfl rfl (dE.all (by kernel_rfl) (.s .z (dJ (by kernel_rfl) (au3 eF _ dH))))
abbrev Li (R:Type):Type:=(List Json)->Int->(Bool->Int->Option R)->Option R
def ael (fn:Li R):br R Ez rK:=fun x y k=>fn x.1 y.1.1 (fun q0 q1=>k (.bool q0) [.cells [af q1]])
def aem (fn:Li R):=aL Ez rK (ael fn)
section
variable (AH:Lf R)
def au5:List (aY R):=[dp 201 (aec AH)]
def aen (x1:List Json) (x2:Int) (k0:Bool->Int->Option R):Option R:=
 AH x1 x2 (fun y3 y4=>k0 (decide (y3>=(0:Int))) y4)
theorem au6:aP (R:=R) tt (au5 AH) bm false Tryz.f167 Ez rK (ael (aen AH)):=fun x y k=>by kernel_rfl
end
def mH (eF:gq R):Li R:=aen (AH eF)
theorem au7 (R:Type) (eF:gq R) (Ch:ak.Spec.Ok ao 121 (aL o4 topic_Name_q (kK eF) dy)):aN ao 167 (aem (mH eF)):=aR (au6 (AH eF)) TT mixed (.d (au4 R eF Ch) rfl <| .n) rfl rfl bp
section
variable (fE:topic_Name_ty R) (fY:wk R) (wj:oW R) (tY:K8 R) (mH:Li R)
def au8:List (aY R):=[aO 165 (topic_Name_s fE),aO 164 (AG fY),aO 163 (KV wj),aO 166 (adZ tY),dp 167 (aem mH)]
def Lj (x1:Json) (x2:Int) (k0:Bool->Option R):Option R:=
 wj (⟨x1.kind,⟨x1.num.aj,x1.num.exp⟩,x1.text,x1.names,x1.items⟩:Json) (fun y3=>bif(decide (x2>(16:Int)))then(k0 false)else(bif(decide (x1.kind<(1:Int)))then(k0 false)else(bif(decide (x1.kind>(7:Int)))then(k0 false)else(bif(!(y3.num.aj==0&&(y3.num.exp==0&&true)))then(k0 false)else(bif(!(y3.text==([]:ad)))then(k0 false)else(bif(decide ((ae.wrap ((y3.names.length:Int)+(y3.items.length:Int)))>(0:Int)))then(k0 false)else(bif(x1.kind==4)then(fY x1.num (fun y5=>k0 y5))else(bif(x1.kind==5)then(fE x1.text (fun y6=>k0 y6))else(bif(x1.kind==7)then(bif((x1.names.length:Int) != (x1.items.length:Int))then(k0 false)else(tY x1.names (fun y7=>bif(!y7)then(k0 false)else(mH x1.items x2 (fun aS bg=>k0 (!aS))))))else(mH x1.items x2 (fun cd aU=>k0 (!cd))))))))))))
theorem au9:aP (R:=R) tt (au8 fE fY wj tY mH) bm false Tryz.f121 o4 topic_Name_q (kK (Lj fE fY wj tY mH)):=fun x y k=>by kernel_rfl
end
def T9 (eF:gq R):gq R:=Lj fE fY wj tY (mH eF)
theorem ava (R:Type) (eF:gq R) (Ch:ak.Spec.Ok ao 121 (aL o4 topic_Name_q (kK eF) dy)):aN ao 121 (Lc (T9 eF)):=aR (au9 fE fY wj tY (mH eF)) TT mixed (.c (T3 R) <| .c (T2 R) <| .c (auJ R) <| .c (auU R) <| .d (au7 R eF Ch) rfl <| .n) rfl rfl bp
def l7:Nat->gq R
 | 0,_,_,_=>none
 | n+1,aB,aC,o3=>T9 (l7 n) aB aC o3
theorem aJj (n:Nat):l7 (R:=R) (n+1)=T9 (l7 n):=by kernel_rfl
theorem avb (R:Type):∀n,ak.Spec.Ok ao 121 (aL o4 topic_Name_q (kK (l7 (R:=R) n)) dy):=
 yo (run:=fun n=>kK (l7 (R:=R) n)) (fun x y k=>by kernel_rfl) fun n hyp=>ava R (l7 n) hyp dy (iB _)
def wm:gq R:=fun x1 x2 k0=>l7 (Json.depth x1+2) x1 x2 k0
theorem avc (R:Type):kK (R:=R) wm=fun x y k=>kK (l7 (Json.depth (dq x.1)+2)) x y k:=by kernel_rfl
theorem avd (R:Type) (other:ak.Spec R) (ho:ak.Spec.Ok ao 121 other):ak.Spec.Ok ao 121 (aL o4 topic_Name_q (kK wm) other):=
 Ax (Aw (run:=fun n=>kK (l7 (R:=R) n)) (fun x y=>(Json.depth (dq x.1)+2)) ho (avb R)) (avc R)
abbrev EA (R:Type):Type:=Json->(Bool->Option R)->Option R
def Ua (fn:EA R):br R gK topic_Name_q:=fun x y k=>fn (dq x.1) (fun q0=>k (.bool q0) [])
def Lk (fn:EA R):=aL gK topic_Name_q (Ua fn)
section
variable (wm:gq R)
def ave:List (aY R):=[aO 121 (Lc wm)]
def Ll (x1:Json) (k0:Bool->Option R):Option R:=
 wm (⟨x1.kind,⟨x1.num.aj,x1.num.exp⟩,x1.text,x1.names,x1.items⟩:Json) 1 (fun y2=>k0 y2)
theorem avf:aP (R:=R) tt (ave wm) bm false Tryz.f82 gK topic_Name_q (Ua (Ll wm)):=fun x y k=>by kernel_rfl
end
def tZ:EA R:=Ll wm
theorem avg (R:Type):aN ao 82 (Lk (tZ (R:=R))):=aR (avf wm) TT mixed (.p (avd R _ (iB _)) <| .n) rfl rfl bp
abbrev EB (R:Type):Type:=ad->(Int->(List Int)->Option R)->Option R
abbrev lh:List ax:=[.leaf (.ptr 0 0),dU]
abbrev yy:List aH:=[.bA (.bk)]
def aeo (fn:EB R):br R lh yy:=fun x y k=>fn x.2.1 (fun q0 q1=>k (.tuple [af q0,.eR]) [.bA (.sl (.int .u8) q1 (.own 1)),.tok])
def Lm (fn:EB R):=aL lh yy (aeo fn)
section
def avh:List (aY R):=[(171,false,(Az R))]
def aep (x1:ad) (k0:Int->(List Int)->Option R):Option R:=
 ag (decide ((0+(fX x1).length)*1<=140737488355328)) (k0 (x1.length:Int) (fX x1))
theorem avi:aP (R:=R) tt (avh (R:=R)) bm false Tryz.f124 lh yy (aeo aep):=fun x y k=>by kernel_rfl
end
def eS:EB R:=aep
theorem Ub (R:Type):aN ao 124 (Lm (eS (R:=R))):=aR (avi) TT mixed (.f (G3) rfl <| .n) rfl rfl bp
abbrev wo (R:Type):Type:=Int->((List Int)->Option R)->Option R
abbrev EC:List ax:=[.leaf (.ptr 0 0),.leaf (.int .u8)]
def aeq (fn:wo R):br R EC yy:=fun x y k=>fn x.2.1 (fun q0=>k (.eR) [.bA (.sl (.int .u8) q0 (.own 1)),.tok])
def Ln (fn:wo R):=aL EC yy (aeq fn)
section
def avj:List (aY R):=[(171,false,(Az R))]
def aer (x1:Int) (k0:(List Int)->Option R):Option R:=
 k0 ([x1]:List Int)
theorem avk:aP (R:=R) tt (avj (R:=R)) bm false Tryz.f126 EC yy (aeq aer):=fun x y k=>by kernel_rfl
end
def fZ:wo R:=aer
theorem Uc (R:Type):aN ao 126 (Ln (fZ (R:=R))):=aR (avk) TT mixed (.f (G3) rfl <| .n) rfl rfl bp
abbrev Ci (R:Type):Type:=ad->(List Int)->(Int->(List Int)->Option R)->Option R
abbrev oe:List aH:=[.bA (.k9 (.int .u8) 1),.tok]
def aes (fn:Ci R):br R lh oe:=fun x y k=>fn x.2.1 y.1 (fun q0 q1=>k (.tuple [af q0,.eR]) [.bA (.sl (.int .u8) q1 (.own 2)),.dead,.tok])
def Hg (fn:Ci R):=aL lh oe (aes fn)
section
def avl:List (aY R):=[(171,false,(Az R))]
def aet (x1:ad) (x2:List Int) (k0:Int->(List Int)->Option R):Option R:=
 ag (decide ((x2.length+(fX x1).length)*1<=140737488355328)) (k0 (x1.length:Int) ((x2:List Int)++((fX x1):List Int)))
theorem avm:aP (R:=R) tt (avl (R:=R)) bm false Tryz.f124 lh oe (aes aet):=fun x y k=>by kernel_rfl
end
def di:Ci R:=aet
theorem Lo (R:Type):aN ao 124 (Hg (di (R:=R))):=aR (avm) TT mixed (.f (G3) rfl <| .n) rfl rfl bp
abbrev Cj (R:Type):Type:=au->(ad->Option R)->Option R
def Ud (fn:Cj R):br R sQ topic_Name_q:=fun x y k=>fn (⟨x.1.1,x.1.2.1⟩:au) (fun q0=>k (.str q0) [])
def Hh (fn:Cj R):=aL sQ topic_Name_q (Ud fn)
section
variable (fY:wk R) (fZ:wo R) (di:Ci R) (eS:EB R)
def avn:List (aY R):=[aO 164 (AG fY),dp 126 (Ln fZ),(124,false,(Lm eS (Hg di dy))),(84,false,(yq R)),(172,true,(SU R)),(173,true,(SV R))]
def ED (x1:au) (k0:ad->Option R):Option R:=
 let o5:=(Kv (max x1.aj (ae.wrap (0 - x1.aj)))); let lG:=(max 0 (ae.wrap ((ae.wrap (1 - x1.exp)) - (o5.length:Int)))); let gN:=((tV ([48]:ad) lG)++o5); let eM:=(ae.wrap ((gN.length:Int)+x1.exp)); let rM:=((gN.drop eM.toNat).take ((gN.length:Int).toNat - eM.toNat)); let o6:=((gN.drop 0).take (eM.toNat - 0)); fY x1 (fun y2=>bif(!y2)then(k0 ([]:ad))else(bif(decide (x1.aj<(0:Int)))then(fZ 45 (fun y3=>bif(decide (x1.exp>=(0:Int)))then(ag (decide (0<=x1.exp)&&decide ((([48]:ad).length:Int)*x1.exp<=140737488355328)) (ag (decide (o5.length+(tV ([48]:ad) x1.exp).length<=9223372036854775807)) (di (o5++(tV ([48]:ad) x1.exp)) y3 (fun y4 y5=>k0 (ft y5)))))else(ag (decide (0<=lG)&&decide ((([48]:ad).length:Int)*lG<=140737488355328)) (ag (decide ((tV ([48]:ad) lG).length+o5.length<=9223372036854775807)) (ag (decide ((0:Int)<=eM)&&decide (eM<=gN.length)) (ag (decide ((0:Int)<=eM)) (ag (decide (o6.length+1<=9223372036854775807)) (ag (decide ((0:Int)<=(gN.length:Int))&&decide ((gN.length:Int)<=gN.length)) (ag (decide ((0:Int)<=eM)&&decide (eM<=(gN.length:Int))) (ag (decide ((o6++([46]:ad)).length+rM.length<=9223372036854775807)) (di ((o6++([46]:ad))++rM) y3 (fun y6 y7=>k0 (ft y7)))))))))))))else(bif(decide (x1.exp>=(0:Int)))then(ag (decide (0<=x1.exp)&&decide ((([48]:ad).length:Int)*x1.exp<=140737488355328)) (ag (decide (o5.length+(tV ([48]:ad) x1.exp).length<=9223372036854775807)) (eS (o5++(tV ([48]:ad) x1.exp)) (fun y8 y9=>k0 (ft y9)))))else(ag (decide (0<=lG)&&decide ((([48]:ad).length:Int)*lG<=140737488355328)) (ag (decide ((tV ([48]:ad) lG).length+o5.length<=9223372036854775807)) (ag (decide ((0:Int)<=eM)&&decide (eM<=gN.length)) (ag (decide ((0:Int)<=eM)) (ag (decide (o6.length+1<=9223372036854775807)) (ag (decide ((0:Int)<=(gN.length:Int))&&decide ((gN.length:Int)<=gN.length)) (ag (decide ((0:Int)<=eM)&&decide (eM<=(gN.length:Int))) (ag (decide ((o6++([46]:ad)).length+rM.length<=9223372036854775807)) (eS ((o6++([46]:ad))++rM) (fun bu aS=>k0 (ft aS))))))))))))))
theorem avo:aP (R:=R) tt (avn fY fZ di eS) bm false Tryz.f125 sQ topic_Name_q (Ud (ED fY fZ di eS)):=fun x y k=>by kernel_rfl
end
def hZ:Cj R:=ED fY fZ di eS
theorem aeu (R:Type):aN ao 125 (Hh (hZ (R:=R))):=aR (avo fY fZ di eS) TT mixed (.c (T2 R) <| .d (Uc R) rfl <| .f (Ub R _ (Lo R _ (iB _))) rfl <| .s (KD) Ku <| .p (as4) <| .p (as6) <| .n) rfl rfl bp
abbrev rN (R:Type):Type:=Int->(Int->Option R)->Option R
abbrev Ue:List ax:=[.leaf (.int .i32)]
def aev (fn:rN R):br R Ue topic_Name_q:=fun x y k=>fn x.1 (fun q0=>k (.int .u8 q0) [])
def aew (fn:rN R):=aL Ue topic_Name_q (aev fn)
section
def Lq (x1:Int) (k0:Int->Option R):Option R:=
 bif(x1==34)then(bif(x1==34)then(k0 (aM.wrap x1))else(bif(x1==8)then(k0 98)else(bif(x1==12)then(k0 102)else(bif(x1==10)then(k0 110)else(bif(x1==13)then(k0 114)else(bif(x1==9)then(k0 116)else(k0 0)))))))else(bif(x1==92)then(k0 (aM.wrap x1))else(bif(x1==8)then(k0 98)else(bif(x1==12)then(k0 102)else(bif(x1==10)then(k0 110)else(bif(x1==13)then(k0 114)else(bif(x1==9)then(k0 116)else(k0 0)))))))
theorem avp:aP (R:=R) tt [] bm false Tryz.f169 Ue topic_Name_q (aev Lq):=fun x y k=>by kernel_rfl
end
def og:rN R:=Lq
theorem avq (R:Type):aN ao 169 (aew (og (R:=R))):=aR (avp) TT mixed .n rfl rfl bp
abbrev EE (R:Type):Type:=Int->(List Int)->((List Int)->Option R)->Option R
def aex (fn:EE R):br R EC oe:=fun x y k=>fn x.2.1 y.1 (fun q0=>k (.eR) [.bA (.sl (.int .u8) q0 (.own 2)),.dead,.tok])
def Lr (fn:EE R):=aL EC oe (aex fn)
section
def avr:List (aY R):=[(171,false,(Az R))]
def aey (x1:Int) (x2:List Int) (k0:(List Int)->Option R):Option R:=
 ag (decide ((x2.length+1)*1<=140737488355328)) (k0 ((x2:List Int)++(([x1]:List Int):List Int)))
theorem avs:aP (R:=R) tt (avr (R:=R)) bm false Tryz.f126 EC oe (aex aey):=fun x y k=>by kernel_rfl
end
def cj:EE R:=aey
theorem Uf (R:Type):aN ao 126 (Lr (cj (R:=R))):=aR (avs) TT mixed (.f (G3) rfl <| .n) rfl rfl bp
variable {R:Type}
abbrev EF (R:Type):Type:=(List Int)->Int->((List Int)->Option R)->Option R
abbrev Ls:List ax:=[.leaf (.k9 (.int .u8) 0),.leaf (.int .i32)]
abbrev jD:List aH:=[.tok]
def Ug (fn:EF R):br R Ls jD:=fun x y k=>fn x.1 x.2.1 (fun q0=>k (.sl (.int .u8) q0 (.own 1)) [.dead,.tok])
def Lt (fn:EF R):=aL Ls jD (Ug fn)
section
def Lu (x1:List Int) (x2:Int) (k0:(List Int)->Option R):Option R:=
 bif(decide ((bz.wrap x2)<=(2047:Int)))then(ag (decide ((x1.length+2)*1<=140737488355328)) (k0 ((x1:List Int)++(([(aM.wrap ((aJ aM.bits 192 ||| aJ aM.bits (aM.wrap (fb x2 (2 ^ (min 6 eI.bits))))).toNat:Int)),(aM.wrap ((aJ aM.bits 128 ||| aJ aM.bits (aM.wrap ((aJ aM.bits (aM.wrap x2)&&&aJ aM.bits 63).toNat:Int))).toNat:Int))]:List Int):List Int))))else(let j6:=fun(z3:Bool)=>bif z3 then(ag (decide ((x1.length+3)*1<=140737488355328)) (k0 ((x1:List Int)++(([(aM.wrap ((aJ aM.bits 224 ||| aJ aM.bits (aM.wrap (fb x2 (2 ^ (min 12 eI.bits))))).toNat:Int)),(aM.wrap ((aJ aM.bits 128 ||| aJ aM.bits (aM.wrap ((aJ aM.bits (aM.wrap (fb x2 (2 ^ (min 6 eI.bits))))&&&aJ aM.bits 63).toNat:Int))).toNat:Int)),(aM.wrap ((aJ aM.bits 128 ||| aJ aM.bits (aM.wrap ((aJ aM.bits (aM.wrap x2)&&&aJ aM.bits 63).toNat:Int))).toNat:Int))]:List Int):List Int))))else(let j5:=fun(z4:Bool)=>bif z4 then(ag (decide ((x1.length+4)*1<=140737488355328)) (k0 ((x1:List Int)++(([(aM.wrap ((aJ aM.bits 240 ||| aJ aM.bits (aM.wrap (fb x2 (2 ^ (min 18 eI.bits))))).toNat:Int)),(aM.wrap ((aJ aM.bits 128 ||| aJ aM.bits (aM.wrap ((aJ aM.bits (aM.wrap (fb x2 (2 ^ (min 12 eI.bits))))&&&aJ aM.bits 63).toNat:Int))).toNat:Int)),(aM.wrap ((aJ aM.bits 128 ||| aJ aM.bits (aM.wrap ((aJ aM.bits (aM.wrap (fb x2 (2 ^ (min 6 eI.bits))))&&&aJ aM.bits 63).toNat:Int))).toNat:Int)),(aM.wrap ((aJ aM.bits 128 ||| aJ aM.bits (aM.wrap ((aJ aM.bits (aM.wrap x2)&&&aJ aM.bits 63).toNat:Int))).toNat:Int))]:List Int):List Int))))else(ag (decide ((x1.length+3)*1<=140737488355328)) (k0 ((x1:List Int)++(([239,191,189]:List Int):List Int)))); bif(decide ((bz.wrap x2)>(65535:Int)))then(j5 (decide ((bz.wrap x2)<=(1114111:Int))))else(j5 false)); bif(decide ((bz.wrap x2)<(55296:Int)))then(j6 (decide ((bz.wrap x2)<(55296:Int))))else(bif(decide ((57343:Int)<(bz.wrap x2)))then(j6 (decide ((bz.wrap x2)<=(65535:Int))))else(j6 false)))
theorem avt:aP (R:=R) tt [] bm true Tryz.f224 Ls jD (Ug Lu):=fun x y k=>by kernel_rfl
end
def yz:EF R:=Lu
theorem avu (R:Type):aN ao 224 (Lt (yz (R:=R))):=aR (avt) TT mixed .n rfl rfl bp
section
variable (yz:EF R)
def avv:List (aY R):=[dp 224 (Lt yz)]
def Lv (x1:List Int) (x2:Int) (k0:(List Int)->Option R):Option R:=
 bif(decide ((bz.wrap x2)<=(127:Int)))then(ag (decide ((x1.length+1)*1<=140737488355328)) (k0 ((x1:List Int)++(([(aM.wrap x2)]:List Int):List Int))))else(yz x1 x2 (fun y3=>k0 y3))
theorem avw:aP (R:=R) tt (avv yz) bm true Tryz.f202 Ls jD (Ug (Lv yz)):=fun x y k=>by kernel_rfl
end
def wu:EF R:=Lv yz
theorem avx (R:Type):aN ao 202 (Lt (wu (R:=R))):=aR (avw yz) TT mixed (.d (avu R) rfl <| .n) rfl rfl bp
abbrev Hi (R:Type):Type:=Int->(List Int)->(Int->(List Int)->Option R)->Option R
abbrev Uh:List ax:=[.leaf (.ptr 0 0),.leaf (.int .i32)]
def aez (fn:Hi R):br R Uh oe:=fun x y k=>fn x.2.1 y.1 (fun q0 q1=>k (.tuple [af q0,.eR]) [.bA (.sl (.int .u8) q1 (.own 2)),.dead,.tok])
def Ui (fn:Hi R):=aL Uh oe (aez fn)
section
variable (wu:EF R)
def avy:List (aY R):=[(171,false,(Az R)),dp 202 (Lt wu)]
def Lw (x1:Int) (x2:List Int) (k0:Int->(List Int)->Option R):Option R:=
 wu x2 x1 (fun y3=>k0 (ae.wrap ((y3.length:Int) - (x2.length:Int))) y3)
theorem avz:aP (R:=R) tt (avy wu) bm false Tryz.f170 Uh oe (aez (Lw wu)):=fun x y k=>by kernel_rfl
end
def gu:Hi R:=Lw wu
theorem aeA (R:Type):aN ao 170 (Ui (gu (R:=R))):=aR (avz wu) TT mixed (.f (G3) rfl <| .d (avx R) rfl <| .n) rfl rfl bp
abbrev Ck (R:Type):Type:=ad->(ad->Bool->Option R)->Option R
def Uj (fn:Ck R):br R topic_Name_p topic_Name_q:=fun x y k=>fn x.1 (fun q0 q1=>k (.tuple [.str q0,.bool q1]) [])
def Hj (fn:Ck R):=aL topic_Name_p topic_Name_q (Uj fn)
abbrev aeB (R:Type):Type:=(List Int)->ad->Nat->((List Int)->Option R)->Option R
abbrev Uk (R:Type):Type:=Nat->aeB R
def aeC:Hint:=⟨[4,13],[],[],[],[],[2,3,4]⟩
abbrev Hk:Type:=(List Int)×ad×Nat
def aeD:Hk->St:=fun d=>⟨U 4 (.ptr 0 0::U 8 (.ptr 1 0::U 27 ([]))),[.bA (.sl (.int .u8) d.1 (.own 2)),.iter d.2.1 d.2.2,.tok]⟩
def avA (K:KT R) (q0:List Int):Option R:=K (.exit 0) ⟨U 4 (.ptr 0 0::U 36 ([])),[.bA (.sl (.int .u8) q0 (.own 1)),.tok]⟩
abbrev Ul (K:KT R) (d:Hk) (f:aeB R):Option R:=f d.1 d.2.1 d.2.2 (avA K)
abbrev Lx:List ax:=PU 4 (.leaf (.ptr 0 0)::PU 8 (.leaf (.ptr 1 0)::PU 27 ([])))
abbrev Ly:List aH:=[.bA (.k9 (.int .u8) 2),.iter,.tok]
def aeE (x:ax.aA Lx) (y:aH.aA Ly):Nat:=(av y.1+av y.2.1.1+64)
def aeF (x:ax.aA Lx) (y:aH.aA Ly):Hk:=(y.1,y.2.1.1,y.2.1.2)
def avB (L:Uk R):dC R Lx Ly:=fun x y K=>Ul K (aeF x y) (L (aeE x y))
section
variable (fE:topic_Name_ty R) (fZ:wo R) (cj:EE R) (og:rN R) (di:Ci R) (gu:Hi R) (o7:Uk R)
def aeG:List (aY R):=[aO 165 (topic_Name_s fE),(126,false,(Lr cj (Ln fZ dy))),aO 169 (aew og),dp 124 (Hg di),dp 170 (Ui gu),(84,false,(yq R))]
def Cl (aD:(List Int)->ad->Nat->Option R) (x4:List Int) (x5:ad) (x6:Nat) (e0:(List Int)->Option R):Option R:=
 bif decide (x6<x5.length)then(og ((iR x5 x6).1:Int) (fun y7=>bif(y7 != 0)then(cj 92 x4 (fun y8=>cj y7 y8 (fun y9=>aD y9 x5 (x6+(iR x5 x6).2))))else(bif(decide (((iR x5 x6).1:Int)<(32:Int)))then(di ([92,117,48,48]:ad) x4 (fun bu aS=>ag (decide ((0:Int)<=(fb ((iR x5 x6).1:Int) (2 ^ (min 4 eI.bits))))&&decide ((fb ((iR x5 x6).1:Int) (2 ^ (min 4 eI.bits)))<(16:Int))) (cj ((([48,49,50,51,52,53,54,55,56,57,97,98,99,100,101,102]:ad).getD ((fb ((iR x5 x6).1:Int) (2 ^ (min 4 eI.bits))).toNat) 0).toNat:Int) aS (fun bg=>ag (decide ((0:Int)<=(eI.wrap ((aJ eI.bits ((iR x5 x6).1:Int)&&&aJ eI.bits 15).toNat:Int)))&&decide ((eI.wrap ((aJ eI.bits ((iR x5 x6).1:Int)&&&aJ eI.bits 15).toNat:Int))<(16:Int))) (cj ((([48,49,50,51,52,53,54,55,56,57,97,98,99,100,101,102]:ad).getD ((eI.wrap ((aJ eI.bits ((iR x5 x6).1:Int)&&&aJ eI.bits 15).toNat:Int)).toNat) 0).toNat:Int) bg (fun cd=>aD cd x5 (x6+(iR x5 x6).2)))))))else(gu ((iR x5 x6).1:Int) x4 (fun aU bU=>aD bU x5 (x6+(iR x5 x6).2))))))else(e0 x4)
def aeH (K:KT R) (rc:Hk->Option R) (d:Hk):Option R:=Ul K d (Cl cj og di gu (fun z0 z1 z2=>rc (z0,z1,z2)))
def aeI:Nat->Option (Hint×bX R):=fun i=>match i with
 | 6=>some (aeC,(cY Lx Ly (avB o7) dz))
 | _=>none
theorem avC:dn (R:=R) tt (aeG fE fZ cj og di gu) (aeI o7) 0 Tryz.f123 0 aeC aeD (aeH cj og di gu):=fun K rc d=>by kernel_rfl
def EG (x1:ad) (k0:ad->Bool->Option R):Option R:=
 fE x1 (fun y2=>bif(!y2)then(k0 ([]:ad) false)else(fZ 34 (fun y3=>o7 (av y3+av x1+64) y3 x1 0 (fun cA=>cj 34 cA (fun cP=>k0 (ft cP) true)))))
theorem avD:aP (R:=R) tt (aeG fE fZ cj og di gu) (aeI o7) false Tryz.f123 topic_Name_p topic_Name_q (Uj (EG fE fZ cj o7)):=fun x y k=>by kernel_rfl
end
def o7:Uk R
 | 0,_,_,_,_=>none
 | n+1,aB,aC,aG,e0=>Cl cj og di gu (fun aB aC aG=>o7 n aB aC aG e0) aB aC aG e0
def avE:=dD (R:=R) aeD (aeH cj og di gu) Ul (o7) aeE aeF (avC fE fZ cj og di gu o7) (fun _ _=>by kernel_rfl) (fun _ _ _=>by kernel_rfl) (fun _ _=>by kernel_rfl)
def lj:Ck R:=EG fE fZ cj o7
theorem aeJ (R:Type):aN ao 123 (Hj (lj (R:=R))):=aR (avD fE fZ cj og di gu o7) TT mixed (.c (T3 R) <| .f (Uf R _ (Uc R _ (iB _))) rfl <| .c (avq R) <| .d (Lo R) rfl <| .d (aeA R) rfl <| .s (KD) Ku <| .n) rfl rfl (dE.all (by kernel_rfl) (.s .z (dJ (by kernel_rfl) (avE _ dH))))
abbrev Lz (R:Type):Type:=ad->((List Int)->Option R)->Option R
abbrev EH:List ax:=[dU,.leaf (.ptr 0 0)]
abbrev Um:List aH:=[.cells [.ptr 1 0],.bA (.bk)]
def aeK (fn:Lz R):br R EH Um:=fun x y k=>fn x.1 (fun q0=>k (.tuple []) [.cells [.ptr 1 0],.bA (.sl (.int .u8) q0 (.own 2)),.tok])
def aeL (fn:Lz R):=aL EH Um (aeK fn)
section
variable (lj:Ck R) (eS:EB R)
def avF:List (aY R):=[aO 123 (Hj lj),dp 124 (Lm eS)]
def aeM (x1:ad) (k0:(List Int)->Option R):Option R:=
 lj x1 (fun y2 y3=>eS y2 (fun y4 y5=>k0 y5))
theorem avG:aP (R:=R) tt (avF lj eS) bm false Tryz.f122 EH Um (aeK (aeM lj eS)):=fun x y k=>by kernel_rfl
end
def ua:Lz R:=aeM lj eS
theorem avH (R:Type):aN ao 122 (aeL (ua (R:=R))):=aR (avG lj eS) TT mixed (.c (aeJ R) <| .d (Ub R) rfl <| .n) rfl rfl bp
abbrev Hl (R:Type):Type:=ad->(List Int)->((List Int)->Option R)->Option R
abbrev Un:List aH:=[.cells [.ptr 1 0],.bA (.k9 (.int .u8) 2),.tok]
def aeN (fn:Hl R):br R EH Un:=fun x y k=>fn x.1 y.2.1 (fun q0=>k (.tuple []) [.cells [.ptr 1 0],.bA (.sl (.int .u8) q0 (.own 3)),.dead,.tok])
def Uo (fn:Hl R):=aL EH Un (aeN fn)
section
variable (lj:Ck R) (di:Ci R)
def avI:List (aY R):=[aO 123 (Hj lj),dp 124 (Hg di)]
def aeO (x1:ad) (x2:List Int) (k0:(List Int)->Option R):Option R:=
 lj x1 (fun y3 y4=>di y3 x2 (fun y5 y6=>k0 y6))
theorem avJ:aP (R:=R) tt (avI lj di) bm false Tryz.f122 EH Un (aeN (aeO lj di)):=fun x y k=>by kernel_rfl
end
def fF:Hl R:=aeO lj di
theorem aeP (R:Type):aN ao 122 (Uo (fF (R:=R))):=aR (avJ lj di) TT mixed (.c (aeJ R) <| .d (Lo R) rfl <| .n) rfl rfl bp
abbrev sR (R:Type):Type:=Json->(List Int)->((List Int)->Option R)->Option R
abbrev wv:List ax:=[.leaf (.ptr 0 0),yp]
def wx (fn:sR R):br R wv oe:=fun x y k=>fn (dq x.2.1) y.1 (fun q0=>k (.tuple []) [.bA (.sl (.int .u8) q0 (.own 2)),.dead,.tok])
def aeQ (fn:sR R):=aL wv oe (wx fn)
abbrev Up (R:Type):Type:=ad->(List Json)->Int->Int->(List Int)->Json->(ad->(List Int)->Option R)->Option R
abbrev EI (R:Type):Type:=Nat->Up R
def LA:Hint:=⟨[2,3,4,5,43,44,45],[],[],[],[],[2,5]⟩
abbrev wy:Type:=ad×(List Json)×Int×Int×(List Int)×Json
def aeR:wy->St:=fun d=>⟨U 2 (.ptr 2 0::.ptr 3 0::.func 122 [] [.ptr 2 0]::.str d.1::U 37 (.sl .json d.2.1 .no::af d.2.2.1::af d.2.2.2.1::U 28 ([]))),[.bA (.sl (.int .u8) d.2.2.2.2.1 (.own 4)),.dead,.cells [.ptr 0 0],.cells [af d.2.2.2.2.2.kind,af d.2.2.2.2.2.num.aj,af d.2.2.2.2.2.num.exp,.str d.2.2.2.2.2.text,.sl .str d.2.2.2.2.2.names .no,.sl .json d.2.2.2.2.2.items .no],.tok]⟩
def avK (K:KT R) (q0:ad) (q1:List Int):Option R:=K (.exit 1) ⟨U 2 (.ptr 2 0::U 2 (.str q0::U 68 ([]))),[.bA (.sl (.int .u8) q1 (.own 3)),.dead,.cells [.ptr 0 0],.tok]⟩
abbrev Uq (K:KT R) (d:wy) (f:Up R):Option R:=f d.1 d.2.1 d.2.2.1 d.2.2.2.1 d.2.2.2.2.1 d.2.2.2.2.2 (avK K)
abbrev LB:List ax:=PU 2 (.leaf (.ptr 2 0)::.leaf (.ptr 3 0)::.func 122 [] [.ptr 2 0]::dU::PU 37 (.leaf (.sl .json)::bG::bG::PU 28 ([])))
abbrev LC:List aH:=[.bA (.k9 (.int .u8) 4),.dead,.cells [.ptr 0 0],.cells [aF,aF,aF,.str,.sl .str,.sl .json],.tok]
def aeS (x:ax.aA LB) (y:aH.aA LC):Nat:=(av x.2.2.2.2.2.1+av ((t8 (t8 (t8 (t8 (t8 x))))).2.2.2.1)+ah ((t8 (t8 (t8 (t8 (t8 x))))).2.2.2.2.1)+ah ((t8 (t8 (t8 (t8 (t8 x))))).2.2.2.2.2.1)+av y.1+Json.fu (dq y.2.2.2.1)+64)
def aeT (x:ax.aA LB) (y:aH.aA LC):wy:=(x.2.2.2.2.2.1,(t8 (t8 (t8 (t8 (t8 x))))).2.2.2.1,(t8 (t8 (t8 (t8 (t8 x))))).2.2.2.2.1,(t8 (t8 (t8 (t8 (t8 x))))).2.2.2.2.2.1,y.1,(dq y.2.2.2.1))
def avL (L:EI R):dC R LB LC:=fun x y K=>Uq K (aeT x y) (L (aeS x y))
section
variable (hZ:Cj R) (cj:EE R) (di:Ci R) (jn:sR R) (fF:Hl R) (jE:EI R)
def aeU:List (aY R):=[aO 125 (Hh hZ),dp 126 (Lr cj),dp 124 (Hg di),dp 83 (aL wv oe (wx jn)),dp 122 (Uo fF)]
def EJ (aD:ad->(List Json)->Int->Int->(List Int)->Json->Option R) (bw:ad) (bZ:List Json) (bt:Int) (cm:Int) (dN:List Int) (dk:Json) (e0:ad->(List Int)->Option R):Option R:=
 bif(decide (cm<bt))then(ag (decide ((0:Int)<=cm)&&decide (cm<bZ.length)) (bif(decide (cm>(0:Int)))then(cj 44 dN (fun bB=>bif(dk.kind==7)then(ag (decide ((0:Int)<=cm)&&decide (cm<dk.names.length)) (fF (dk.names.getD cm.toNat (Ty.az .str)) bB (fun jl=>cj 58 jl (fun fe=>jn (⟨(bZ.getD cm.toNat (Ty.az .json)).kind,⟨(bZ.getD cm.toNat (Ty.az .json)).num.aj,(bZ.getD cm.toNat (Ty.az .json)).num.exp⟩,(bZ.getD cm.toNat (Ty.az .json)).text,(bZ.getD cm.toNat (Ty.az .json)).names,(bZ.getD cm.toNat (Ty.az .json)).items⟩:Json) fe (fun iG=>aD bw bZ bt (ae.wrap (cm+1)) iG (⟨dk.kind,⟨dk.num.aj,dk.num.exp⟩,dk.text,dk.names,dk.items⟩:Json))))))else(jn (⟨(bZ.getD cm.toNat (Ty.az .json)).kind,⟨(bZ.getD cm.toNat (Ty.az .json)).num.aj,(bZ.getD cm.toNat (Ty.az .json)).num.exp⟩,(bZ.getD cm.toNat (Ty.az .json)).text,(bZ.getD cm.toNat (Ty.az .json)).names,(bZ.getD cm.toNat (Ty.az .json)).items⟩:Json) bB (fun dK=>aD bw bZ bt (ae.wrap (cm+1)) dK (⟨dk.kind,⟨dk.num.aj,dk.num.exp⟩,dk.text,dk.names,dk.items⟩:Json)))))else(bif(dk.kind==7)then(ag (decide ((0:Int)<=cm)&&decide (cm<dk.names.length)) (fF (dk.names.getD cm.toNat (Ty.az .str)) dN (fun fO=>cj 58 fO (fun cH=>jn (⟨(bZ.getD cm.toNat (Ty.az .json)).kind,⟨(bZ.getD cm.toNat (Ty.az .json)).num.aj,(bZ.getD cm.toNat (Ty.az .json)).num.exp⟩,(bZ.getD cm.toNat (Ty.az .json)).text,(bZ.getD cm.toNat (Ty.az .json)).names,(bZ.getD cm.toNat (Ty.az .json)).items⟩:Json) cH (fun cN=>aD bw bZ bt (ae.wrap (cm+1)) cN (⟨dk.kind,⟨dk.num.aj,dk.num.exp⟩,dk.text,dk.names,dk.items⟩:Json))))))else(jn (⟨(bZ.getD cm.toNat (Ty.az .json)).kind,⟨(bZ.getD cm.toNat (Ty.az .json)).num.aj,(bZ.getD cm.toNat (Ty.az .json)).num.exp⟩,(bZ.getD cm.toNat (Ty.az .json)).text,(bZ.getD cm.toNat (Ty.az .json)).names,(bZ.getD cm.toNat (Ty.az .json)).items⟩:Json) dN (fun fo=>aD bw bZ bt (ae.wrap (cm+1)) fo (⟨dk.kind,⟨dk.num.aj,dk.num.exp⟩,dk.text,dk.names,dk.items⟩:Json))))))else(e0 bw dN)
def aeV (K:KT R) (rc:wy->Option R) (d:wy):Option R:=Uq K d (EJ cj jn fF (fun z0 z1 z2 z3 z4 z5=>rc (z0,z1,z2,z3,z4,z5)))
def aeW:Nat->Option (Hint×bX R):=fun i=>match i with
 | 18=>some (LA,(cY LB LC (avL jE) dz))
 | _=>none
theorem avM:dn (R:=R) tt (aeU hZ cj di jn fF) (aeW jE) 2 Tryz.f83 0 LA aeR (aeV cj jn fF):=fun K rc d=>by kernel_rfl
def Ur (x1:Json) (x2:List Int) (k0:(List Int)->Option R):Option R:=
 let j33:=fun(mE:ad)=>ag (decide ((0:Int)<mE.length)) (cj ((mE.getD 0 0).toNat:Int) x2 (fun aU=>jE (av mE+av x1.items+ah (x1.items.length:Int)+ah 0+av aU+Json.fu (⟨x1.kind,⟨x1.num.aj,x1.num.exp⟩,x1.text,x1.names,x1.items⟩:Json)+64) mE x1.items (x1.items.length:Int) 0 aU (⟨x1.kind,⟨x1.num.aj,x1.num.exp⟩,x1.text,x1.names,x1.items⟩:Json) (fun dG fv=>ag (decide ((1:Int)<dG.length)) (cj ((dG.getD 1 0).toNat:Int) fv (fun ff=>k0 ff))))); bif(x1.kind==1)then(di ([110,117,108,108]:ad) x2 (fun y3 y4=>k0 y4))else(bif(x1.kind==2)then(di ([102,97,108,115,101]:ad) x2 (fun y5 y6=>k0 y6))else(bif(x1.kind==3)then(di ([116,114,117,101]:ad) x2 (fun y7 y8=>k0 y8))else(bif(x1.kind==4)then(hZ x1.num (fun y9=>di y9 x2 (fun bu aS=>k0 aS)))else(bif(x1.kind==5)then(fF x1.text x2 (fun bg=>k0 bg))else(bif(x1.kind==7)then(j33 ([123,125]:ad))else(j33 ([91,93]:ad)))))))
theorem avN:aP (R:=R) tt (aeU hZ cj di jn fF) (aeW jE) false Tryz.f83 wv oe (wx (Ur hZ cj di fF jE)):=fun x y k=>by kernel_rfl
end
def jE (jn:sR R):EI R
 | 0,_,_,_,_,_,_,_=>none
 | n+1,aB,aC,aG,bq,cg,cw,e0=>EJ cj jn fF (fun aB aC aG bq cg cw=>jE jn n aB aC aG bq cg cw e0) aB aC aG bq cg cw e0
def avO (jn:sR R):=dD (R:=R) aeR (aeV cj jn fF) Uq (jE jn) aeS aeT (avM hZ cj di jn fF (jE jn)) (fun _ _=>by kernel_rfl) (fun _ _ _=>by kernel_rfl) (fun _ _=>by kernel_rfl)
def Us (jn:sR R):sR R:=Ur hZ cj di fF (jE jn)
theorem avP (R:Type) (jn:sR R) (avQ:ak.Spec.Ok ao 83 (aL wv oe (wx jn) dy)):aN ao 83 (aeQ (Us jn)):=aR (avN hZ cj di jn fF (jE jn)) TT mixed (.c (aeu R) <| .d (Uf R) rfl <| .d (Lo R) rfl <| .f avQ rfl <| .d (aeP R) rfl <| .n) rfl rfl (dE.all (by kernel_rfl) (.s .z (dJ (by kernel_rfl) (avO jn _ dH))))
def oh:Nat->sR R
 | 0,_,_,_=>none
 | n+1,aB,aC,o3=>Us (oh n) aB aC o3
theorem aJk (n:Nat):oh (R:=R) (n+1)=Us (oh n):=by kernel_rfl
theorem avR (R:Type):∀n,ak.Spec.Ok ao 83 (aL wv oe (wx (oh (R:=R) n)) dy):=
 yo (run:=fun n=>wx (oh (R:=R) n)) (fun x y k=>by kernel_rfl) fun n hyp=>avP R (oh n) hyp dy (iB _)
def kj:sR R:=fun x1 x2 k0=>oh (Json.depth x1+2) x1 x2 k0
theorem avS (R:Type):wx (R:=R) kj=fun x y k=>wx (oh (Json.depth (dq x.2.1)+2)) x y k:=by kernel_rfl
theorem avT (R:Type) (other:ak.Spec R) (ho:ak.Spec.Ok ao 83 other):ak.Spec.Ok ao 83 (aL wv oe (wx kj) other):=
 Ax (Aw (run:=fun n=>wx (oh (R:=R) n)) (fun x y=>(Json.depth (dq x.2.1)+2)) ho (avR R)) (avS R)
variable {R:Type}
abbrev LD (R:Type):Type:=Json->((List Int)->Option R)->Option R
def aeX (fn:LD R):br R wv yy:=fun x y k=>fn (dq x.2.1) (fun q0=>k (.tuple []) [.bA (.sl (.int .u8) q0 (.own 1)),.tok])
def aeY (fn:LD R):=aL wv yy (aeX fn)
def aeZ:wy->St:=fun d=>⟨U 2 (.ptr 1 0::.ptr 2 0::.func 122 [] [.ptr 1 0]::.str d.1::U 37 (.sl .json d.2.1 .no::af d.2.2.1::af d.2.2.2.1::U 28 ([]))),[.bA (.sl (.int .u8) d.2.2.2.2.1 (.own 3)),.cells [.ptr 0 0],.cells [af d.2.2.2.2.2.kind,af d.2.2.2.2.2.num.aj,af d.2.2.2.2.2.num.exp,.str d.2.2.2.2.2.text,.sl .str d.2.2.2.2.2.names .no,.sl .json d.2.2.2.2.2.items .no],.tok]⟩
def avU (K:KT R) (q0:ad) (q1:List Int):Option R:=K (.exit 1) ⟨U 2 (.ptr 1 0::U 2 (.str q0::U 68 ([]))),[.bA (.sl (.int .u8) q1 (.own 2)),.cells [.ptr 0 0],.tok]⟩
abbrev Ut (K:KT R) (d:wy) (f:Up R):Option R:=f d.1 d.2.1 d.2.2.1 d.2.2.2.1 d.2.2.2.2.1 d.2.2.2.2.2 (avU K)
abbrev LF:List ax:=PU 2 (.leaf (.ptr 1 0)::.leaf (.ptr 2 0)::.func 122 [] [.ptr 1 0]::dU::PU 37 (.leaf (.sl .json)::bG::bG::PU 28 ([])))
abbrev LG:List aH:=[.bA (.k9 (.int .u8) 3),.cells [.ptr 0 0],.cells [aF,aF,aF,.str,.sl .str,.sl .json],.tok]
def ae0 (x:ax.aA LF) (y:aH.aA LG):Nat:=(av x.2.2.2.2.2.1+av ((t8 (t8 (t8 (t8 (t8 x))))).2.2.2.1)+ah ((t8 (t8 (t8 (t8 (t8 x))))).2.2.2.2.1)+ah ((t8 (t8 (t8 (t8 (t8 x))))).2.2.2.2.2.1)+av y.1+Json.fu (dq y.2.2.1)+64)
def ae1 (x:ax.aA LF) (y:aH.aA LG):wy:=(x.2.2.2.2.2.1,(t8 (t8 (t8 (t8 (t8 x))))).2.2.2.1,(t8 (t8 (t8 (t8 (t8 x))))).2.2.2.2.1,(t8 (t8 (t8 (t8 (t8 x))))).2.2.2.2.2.1,y.1,(dq y.2.2.1))
def avV (L:EI R):dC R LF LG:=fun x y K=>Ut K (ae1 x y) (L (ae0 x y))
section
variable (hZ:Cj R) (fZ:wo R) (cj:EE R) (eS:EB R) (kj:sR R) (ua:Lz R) (fF:Hl R) (nk:EI R)
def ae2:List (aY R):=[aO 125 (Hh hZ),(126,false,(Lr cj (Ln fZ dy))),dp 124 (Lm eS),dp 83 (aeQ kj),(122,false,(Uo fF (aeL ua dy)))]
def ae3 (aD:ad->(List Json)->Int->Int->(List Int)->Json->Option R) (fC:ad) (bw:List Json) (bZ:Int) (bt:Int) (cm:List Int) (dN:Json) (e0:ad->(List Int)->Option R):Option R:=
 bif(decide (bt<bZ))then(ag (decide ((0:Int)<=bt)&&decide (bt<bw.length)) (bif(decide (bt>(0:Int)))then(cj 44 cm (fun eB=>bif(dN.kind==7)then(ag (decide ((0:Int)<=bt)&&decide (bt<dN.names.length)) (fF (dN.names.getD bt.toNat (Ty.az .str)) eB (fun bB=>cj 58 bB (fun jl=>kj (⟨(bw.getD bt.toNat (Ty.az .json)).kind,⟨(bw.getD bt.toNat (Ty.az .json)).num.aj,(bw.getD bt.toNat (Ty.az .json)).num.exp⟩,(bw.getD bt.toNat (Ty.az .json)).text,(bw.getD bt.toNat (Ty.az .json)).names,(bw.getD bt.toNat (Ty.az .json)).items⟩:Json) jl (fun fe=>aD fC bw bZ (ae.wrap (bt+1)) fe (⟨dN.kind,⟨dN.num.aj,dN.num.exp⟩,dN.text,dN.names,dN.items⟩:Json))))))else(kj (⟨(bw.getD bt.toNat (Ty.az .json)).kind,⟨(bw.getD bt.toNat (Ty.az .json)).num.aj,(bw.getD bt.toNat (Ty.az .json)).num.exp⟩,(bw.getD bt.toNat (Ty.az .json)).text,(bw.getD bt.toNat (Ty.az .json)).names,(bw.getD bt.toNat (Ty.az .json)).items⟩:Json) eB (fun iG=>aD fC bw bZ (ae.wrap (bt+1)) iG (⟨dN.kind,⟨dN.num.aj,dN.num.exp⟩,dN.text,dN.names,dN.items⟩:Json)))))else(bif(dN.kind==7)then(ag (decide ((0:Int)<=bt)&&decide (bt<dN.names.length)) (fF (dN.names.getD bt.toNat (Ty.az .str)) cm (fun dK=>cj 58 dK (fun fO=>kj (⟨(bw.getD bt.toNat (Ty.az .json)).kind,⟨(bw.getD bt.toNat (Ty.az .json)).num.aj,(bw.getD bt.toNat (Ty.az .json)).num.exp⟩,(bw.getD bt.toNat (Ty.az .json)).text,(bw.getD bt.toNat (Ty.az .json)).names,(bw.getD bt.toNat (Ty.az .json)).items⟩:Json) fO (fun cH=>aD fC bw bZ (ae.wrap (bt+1)) cH (⟨dN.kind,⟨dN.num.aj,dN.num.exp⟩,dN.text,dN.names,dN.items⟩:Json))))))else(kj (⟨(bw.getD bt.toNat (Ty.az .json)).kind,⟨(bw.getD bt.toNat (Ty.az .json)).num.aj,(bw.getD bt.toNat (Ty.az .json)).num.exp⟩,(bw.getD bt.toNat (Ty.az .json)).text,(bw.getD bt.toNat (Ty.az .json)).names,(bw.getD bt.toNat (Ty.az .json)).items⟩:Json) cm (fun cN=>aD fC bw bZ (ae.wrap (bt+1)) cN (⟨dN.kind,⟨dN.num.aj,dN.num.exp⟩,dN.text,dN.names,dN.items⟩:Json))))))else(e0 fC cm)
def ae4 (K:KT R) (rc:wy->Option R) (d:wy):Option R:=Ut K d (ae3 cj kj fF (fun z0 z1 z2 z3 z4 z5=>rc (z0,z1,z2,z3,z4,z5)))
def ae5:Nat->Option (Hint×bX R):=fun i=>match i with
 | 18=>some (LA,(cY LF LG (avV nk) dz))
 | _=>none
theorem avW:dn (R:=R) tt (ae2 hZ fZ cj eS kj ua fF) (ae5 nk) 1 Tryz.f83 0 LA aeZ (ae4 cj kj fF):=fun K rc d=>by kernel_rfl
def Uu (x1:Json) (k0:(List Int)->Option R):Option R:=
 let Hm:=fun(z12:ad)=>ag (decide ((0:Int)<z12.length)) (fZ ((z12.getD 0 0).toNat:Int) (fun cd=>nk (av z12+av x1.items+ah (x1.items.length:Int)+ah 0+av cd+Json.fu (⟨x1.kind,⟨x1.num.aj,x1.num.exp⟩,x1.text,x1.names,x1.items⟩:Json)+64) z12 x1.items (x1.items.length:Int) 0 cd (⟨x1.kind,⟨x1.num.aj,x1.num.exp⟩,x1.text,x1.names,x1.items⟩:Json) (fun fo dG=>ag (decide ((1:Int)<fo.length)) (cj ((fo.getD 1 0).toNat:Int) dG (fun fv=>k0 fv))))); bif(x1.kind==1)then(eS ([110,117,108,108]:ad) (fun y2 y3=>k0 y3))else(bif(x1.kind==2)then(eS ([102,97,108,115,101]:ad) (fun y4 y5=>k0 y5))else(bif(x1.kind==3)then(eS ([116,114,117,101]:ad) (fun y6 y7=>k0 y7))else(bif(x1.kind==4)then(hZ x1.num (fun y8=>eS y8 (fun y9 bu=>k0 bu)))else(bif(x1.kind==5)then(ua x1.text (fun aS=>k0 aS))else(bif(x1.kind==7)then(Hm ([123,125]:ad))else(Hm ([91,93]:ad)))))))
theorem avX:aP (R:=R) tt (ae2 hZ fZ cj eS kj ua fF) (ae5 nk) false Tryz.f83 wv yy (aeX (Uu hZ fZ cj eS ua nk)):=fun x y k=>by kernel_rfl
end
def nk:EI R
 | 0,_,_,_,_,_,_,_=>none
 | n+1,aB,aC,aG,bq,cg,cw,e0=>ae3 cj kj fF (fun aB aC aG bq cg cw=>nk n aB aC aG bq cg cw e0) aB aC aG bq cg cw e0
def avY:=dD (R:=R) aeZ (ae4 cj kj fF) Ut (nk) ae0 ae1 (avW hZ fZ cj eS kj ua fF nk) (fun _ _=>by kernel_rfl) (fun _ _ _=>by kernel_rfl) (fun _ _=>by kernel_rfl)
def wz:LD R:=Uu hZ fZ cj eS ua nk
theorem avZ (R:Type):aN ao 83 (aeY (wz (R:=R))):=aR (avX hZ fZ cj eS kj ua fF nk) TT mixed (.c (aeu R) <| .f (Uf R _ (Uc R _ (iB _))) rfl <| .d (Ub R) rfl <| .f (avT R _ (iB _)) rfl <| .f (aeP R _ (avH R _ (iB _))) rfl <| .n) rfl rfl (dE.all (by kernel_rfl) (.s .z (dJ (by kernel_rfl) (avY _ dH))))
abbrev nn (R:Type):Type:=Json->(ad->Option R)->Option R
def sS (fn:nn R):br R gK topic_Name_q:=fun x y k=>fn (dq x.1) (fun q0=>k (.str q0) [])
def EK (fn:nn R):=aL gK topic_Name_q (sS fn)
section
variable (tZ:EA R) (wz:LD R)
def av0:List (aY R):=[(84,false,(yq R)),aO 82 (Lk tZ),dp 83 (aeY wz)]
def LH (x1:Json) (k0:ad->Option R):Option R:=
 tZ (⟨x1.kind,⟨x1.num.aj,x1.num.exp⟩,x1.text,x1.names,x1.items⟩:Json) (fun y2=>bif(!y2)then(k0 ([]:ad))else(wz (⟨x1.kind,⟨x1.num.aj,x1.num.exp⟩,x1.text,x1.names,x1.items⟩:Json) (fun y3=>k0 (ft y3))))
theorem av1:aP (R:=R) tt (av0 tZ wz) bm false Tryz.f35 gK topic_Name_q (sS (LH tZ wz)):=fun x y k=>by kernel_rfl
end
def rO:nn R:=LH tZ wz
theorem av2 (R:Type):aN ao 35 (EK (rO (R:=R))):=aR (av1 tZ wz) TT mixed (.s (KD) Ku <| .c (avg R) <| .d (avZ R) rfl <| .n) rfl rfl bp
abbrev EL (R:Type):Type:=ad->(Int->Option R)->Option R
def Uv (fn:EL R):br R topic_Name_p topic_Name_q:=fun x y k=>fn x.1 (fun q0=>k (.int .u32 q0) [])
def LI (fn:EL R):=aL topic_Name_p topic_Name_q (Uv fn)
abbrev ae6 (R:Type):Type:=Int->Nat->Int->Int->(List Int)->(Int->Option R)->Option R
abbrev Uw (R:Type):Type:=Nat->ae6 R
def ae7:Hint:=⟨[3,7,8,9],[],[],[],[],[2,3]⟩
abbrev Hn:Type:=Int×Nat×Int×Int×(List Int)
def ae8:Hn->St:=fun d=>⟨U 3 (.int .u32 d.1::U 3 (.row 0 d.2.1::af d.2.2.1::af d.2.2.2.1::U 10 ([]))),[.row (.int .u8) d.2.2.2.2]⟩
def av3 (K:KT R) (q0:Int):Option R:=K (.exit 0) ⟨U 3 (.int .u32 q0::U 16 ([])),[]⟩
abbrev Ux (K:KT R) (d:Hn) (f:ae6 R):Option R:=f d.1 d.2.1 d.2.2.1 d.2.2.2.1 d.2.2.2.2 (av3 K)
abbrev LJ:List ax:=PU 3 (.leaf (.int .u32)::PU 3 (.leaf (.row 0)::bG::bG::PU 10 ([])))
abbrev sT:List aH:=[.row (.int .u8)]
def ae9 (x:ax.aA LJ) (y:aH.aA sT):Nat:=(ah x.2.2.2.1+ah ((t8 x).1)+ah ((t8 x).2.1)+av y.1+64)
def afa (x:ax.aA LJ) (y:aH.aA sT):Hn:=(x.2.2.2.1,x.2.2.2.2.2.2.2.1,(t8 x).1,(t8 x).2.1,y.1)
def av4 (L:Uw R):dC R LJ sT:=fun x y K=>Ux K (afa x y) (L (ae9 x y))
section
variable (p9:Uw R)
def LK (aD:Int->Nat->Int->Int->(List Int)->Option R) (x2:Int) (x3:Nat) (x4:Int) (x5:Int) (x6:List Int) (e0:Int->Option R):Option R:=
 bif(decide (x5<x4))then(ag (decide ((0:Int)<=x5)&&decide (x5<x3)) (ag (decide (x5.toNat<x6.length)) (aD (bz.wrap ((bz.wrap ((aJ bz.bits x2^^^aJ bz.bits (bz.wrap (x6.getD x5.toNat (Ty.az (.int .u8))))).toNat:Int))*16777619)) x3 x4 (ae.wrap (x5+1)) x6)))else(e0 x2)
def afb (K:KT R) (rc:Hn->Option R) (d:Hn):Option R:=Ux K d (LK (fun z0 z1 z2 z3 z4=>rc (z0,z1,z2,z3,z4)))
def afc:Nat->Option (Hint×bX R):=fun i=>match i with
 | 3=>some (ae7,(cY LJ sT (av4 p9) dz))
 | _=>none
theorem av5:dn (R:=R) tt [] (afc p9) 0 Tryz.f67 0 ae7 ae8 (afb):=fun K rc d=>by kernel_rfl
def afd (x1:ad) (k0:Int->Option R):Option R:=
 p9 (ah 2166136261+ah (x1.length:Int)+ah 0+av (fX x1)+64) 2166136261 x1.length (x1.length:Int) 0 (fX x1) (fun y7=>k0 y7)
theorem av6:aP (R:=R) tt [] (afc p9) false Tryz.f67 topic_Name_p topic_Name_q (Uv (afd p9)):=fun x y k=>by kernel_rfl
end
def p9:Uw R
 | 0,_,_,_,_,_,_=>none
 | n+1,aB,aC,aG,bq,cg,e0=>LK (fun aB aC aG bq cg=>p9 n aB aC aG bq cg e0) aB aC aG bq cg e0
def av7:=dD (R:=R) ae8 (afb) Ux (p9) ae9 afa (av5 p9) (fun _ _=>by kernel_rfl) (fun _ _ _=>by kernel_rfl) (fun _ _=>by kernel_rfl)
def ub:EL R:=afd p9
theorem av8 (R:Type):aN ao 67 (LI (ub (R:=R))):=aR (av6 p9) TT mixed .n rfl rfl (dE.all (by kernel_rfl) (.s .z (dJ (by kernel_rfl) (av7 _ dH))))
abbrev rP (R:Type):Type:=ad->(ad->Option R)->Option R
def LL (fn:rP R):br R topic_Name_p topic_Name_q:=fun x y k=>fn x.1 (fun q0=>k (.str q0) [])
def wA (fn:rP R):=aL topic_Name_p topic_Name_q (LL fn)
section
variable (ub:EL R)
def av9:List (aY R):=[aO 67 (LI ub)]
def LM (x1:ad) (k0:ad->Option R):Option R:=
 let eM:=([48,49,50,51,52,53,54,55,56,57,97,98,99,100,101,102]:ad); ub x1 (fun y2=>let wB:=(bz.wrap ((aJ bz.bits y2&&&aJ bz.bits 15).toNat:Int)); let wC:=(bz.wrap ((aJ bz.bits (fb y2 (2 ^ (min 4 bz.bits)))&&&aJ bz.bits 15).toNat:Int)); let lG:=(fb (fb y2 (2 ^ (min 4 bz.bits))) (2 ^ (min 4 bz.bits))); let yA:=(bz.wrap ((aJ bz.bits lG&&&aJ bz.bits 15).toNat:Int)); let o6:=(bz.wrap ((aJ bz.bits (fb lG (2 ^ (min 4 bz.bits)))&&&aJ bz.bits 15).toNat:Int)); let gN:=(fb (fb lG (2 ^ (min 4 bz.bits))) (2 ^ (min 4 bz.bits))); let sU:=(bz.wrap ((aJ bz.bits gN&&&aJ bz.bits 15).toNat:Int)); let rM:=(bz.wrap ((aJ bz.bits (fb gN (2 ^ (min 4 bz.bits)))&&&aJ bz.bits 15).toNat:Int)); let o5:=(fb (fb gN (2 ^ (min 4 bz.bits))) (2 ^ (min 4 bz.bits))); let uc:=(bz.wrap ((aJ bz.bits o5&&&aJ bz.bits 15).toNat:Int)); let AI:=(bz.wrap ((aJ bz.bits (fb o5 (2 ^ (min 4 bz.bits)))&&&aJ bz.bits 15).toNat:Int)); ag (decide ((0:Int)<=wB)&&decide (wB<(16:Int))) (ag (decide ((0:Int)<=wC)&&decide (wC<(16:Int))) (ag (decide ((0:Int)<=yA)&&decide (yA<(16:Int))) (ag (decide ((0:Int)<=o6)&&decide (o6<(16:Int))) (ag (decide ((0:Int)<=sU)&&decide (sU<(16:Int))) (ag (decide ((0:Int)<=rM)&&decide (rM<(16:Int))) (ag (decide ((0:Int)<=uc)&&decide (uc<(16:Int))) (ag (decide ((0:Int)<=AI)&&decide (AI<(16:Int))) (ag (decide (x1.length+1<=9223372036854775807)) (ag (decide ((x1++([35]:ad)).length+(cU (fun n:Int=>bl n.toNat) ([((eM.getD (AI.toNat) 0).toNat:Int),((eM.getD (uc.toNat) 0).toNat:Int),((eM.getD (rM.toNat) 0).toNat:Int),((eM.getD (sU.toNat) 0).toNat:Int),((eM.getD (o6.toNat) 0).toNat:Int),((eM.getD (yA.toNat) 0).toNat:Int),((eM.getD (wC.toNat) 0).toNat:Int),((eM.getD (wB.toNat) 0).toNat:Int)]:List Int):ad).length<=9223372036854775807)) (k0 ((x1++([35]:ad))++(cU (fun n:Int=>bl n.toNat) ([((eM.getD (AI.toNat) 0).toNat:Int),((eM.getD (uc.toNat) 0).toNat:Int),((eM.getD (rM.toNat) 0).toNat:Int),((eM.getD (sU.toNat) 0).toNat:Int),((eM.getD (o6.toNat) 0).toNat:Int),((eM.getD (yA.toNat) 0).toNat:Int),((eM.getD (wC.toNat) 0).toNat:Int),((eM.getD (wB.toNat) 0).toNat:Int)]:List Int):ad)))))))))))))
theorem awa:aP (R:=R) tt (av9 ub) bm false Tryz.f28 topic_Name_p topic_Name_q (LL (LM ub)):=fun x y k=>by kernel_rfl
end
def eT:rP R:=LM ub
theorem LN (R:Type):aN ao 28 (wA (eT (R:=R))):=aR (awa ub) TT mixed (.c (av8 R) <| .n) rfl rfl bp
abbrev Cm (R:Type):Type:=ak.State->(ad->Int->Option R)->Option R
def Uy (fn:Cm R):br R tW topic_Name_q:=fun x y k=>fn (iC x.1) (fun q0 q1=>k (.tuple [.str q0,af q1]) [])
def Ho (fn:Cm R):=aL tW topic_Name_q (Uy fn)
def afe (rI:Cg R) (rO:nn R) (eT:rP R) (dt:n9 R) (rA:dj R) (rD:dj R) (qY:dj R) (qZ:dj R) (rj:dj R) (rq:dj R) (rB:dj R) (rC:dj R) (rE:dj R) (rh:dj R):List (aY R):=[(132,false,(nV tt (kg []) (fun _=>none) false Tryz.f132 (lW Tryz.f132))),(130,false,(nV tt (kg []) (fun _=>none) false Tryz.f130 (lW Tryz.f130))),(131,false,(nV tt (kg []) (fun _=>none) false Tryz.f131 (lW Tryz.f131)))]
section
variable (rI:Cg R) (rO:nn R) (eT:rP R) (dt:n9 R) (rA:dj R) (rD:dj R) (qY:dj R) (qZ:dj R) (rj:dj R) (rq:dj R) (rB:dj R) (rC:dj R) (rE:dj R) (rh:dj R)
def awb:List (aY R):=[aO 36 (K4 rI),aO 35 (EK rO),aO 28 (wA eT),aO 41 (yt dt),(178,false,(ado rD (adi rA dy))),(174,false,(adq rE (adm rC (adk rB (ade rq (ada rj (ac5 qZ (ac3 qY dy)))))))),(87,false,(nV tt (kg (afe rI rO eT dt rA rD qY qZ rj rq rB rC rE rh)) (fun _=>none) false Tryz.f87 (lW Tryz.f87))),dp 176 (ac8 rh)]
def Uz (x1:ak.State) (k0:ad->Int->Option R):Option R:=
 dt x1 (fun y2=>bif(!y2)then(k0 ([]:ad) 1)else(qY x1 (fun y3 y4=>qZ y4 (fun y5 y6=>rh y6 (fun y7 y8=>rj y8 (fun y9 bu=>rq bu (fun aS bg=>rA bg (fun cd aU=>rB aU (fun bU cA=>rC cA (fun cP cV=>rD cV (fun eA eB=>rE eB (fun bB jl=>rI ([([104,101,97,100,101,114,73,100]:ad),([98,111,111,116]:ad),([115,101,114,105,97,108,78,117,109,98,101,114]:ad),([111,114,100,101,114,73,100]:ad),([111,114,100,101,114,85,112,100,97,116,101,73,100]:ad),([108,105,118,101]:ad),([108,97,115,116,78,111,100,101,73,100]:ad),([108,97,115,116,78,111,100,101,83,101,113,117,101,110,99,101,73,100]:ad),([100,114,105,118,105,110,103]:ad),([97,99,99,101,112,116,101,100]:ad)]:List ad) ([(⟨y3.kind,⟨y3.num.aj,y3.num.exp⟩,y3.text,y3.names,y3.items⟩:Json),(⟨y5.kind,⟨y5.num.aj,y5.num.exp⟩,y5.text,y5.names,y5.items⟩:Json),(⟨y7.kind,⟨y7.num.aj,y7.num.exp⟩,y7.text,y7.names,y7.items⟩:Json),(⟨y9.kind,⟨y9.num.aj,y9.num.exp⟩,y9.text,y9.names,y9.items⟩:Json),(⟨aS.kind,⟨aS.num.aj,aS.num.exp⟩,aS.text,aS.names,aS.items⟩:Json),(⟨cd.kind,⟨cd.num.aj,cd.num.exp⟩,cd.text,cd.names,cd.items⟩:Json),(⟨bU.kind,⟨bU.num.aj,bU.num.exp⟩,bU.text,bU.names,bU.items⟩:Json),(⟨cP.kind,⟨cP.num.aj,cP.num.exp⟩,cP.text,cP.names,cP.items⟩:Json),(⟨eA.kind,⟨eA.num.aj,eA.num.exp⟩,eA.text,eA.names,eA.items⟩:Json),(⟨bB.kind,⟨bB.num.aj,bB.num.exp⟩,bB.text,bB.names,bB.items⟩:Json)]:List Json) (fun fe=>rO (⟨fe.kind,⟨fe.num.aj,fe.num.exp⟩,fe.text,fe.names,fe.items⟩:Json) (fun iG=>eT iG (fun dK=>k0 dK 0)))))))))))))))
theorem awc:aP (R:=R) tt (awb rI rO eT dt rA rD qY qZ rj rq rB rC rE rh) bm false Tryz.f39 tW topic_Name_q (Uy (Uz rI rO eT dt rA rD qY qZ rj rq rB rC rE rh)):=fun x y k=>by kernel_rfl
end
theorem awd:kH (R:=R) ao (afe (R:=R) rI rO eT dt rA rD qY qZ rj rq rB rC rE rh):=.f (tT TT mixed .n false rfl rfl rfl rfl) rfl <| .f (tT TT mixed .n false rfl rfl rfl rfl) rfl <| .f (tT TT mixed .n false rfl rfl rfl rfl) rfl <| .n
def kk:Cm R:=Uz rI rO eT dt rA rD qY qZ rj rq rB rC rE rh
theorem aff (R:Type):aN ao 39 (Ho (kk (R:=R))):=aR (awc rI rO eT dt rA rD qY qZ rj rq rB rC rE rh) TT mixed (.c (auH R) <| .c (av2 R) <| .c (LN R) <| .c (KK R) <| .f (at4 R _ (atT R _ (iB _))) rfl <| .f (aua R _ (atZ R _ (atW R _ (atO R _ (atL R _ (atD R _ (atA R _ (iB _)))))))) rfl <| .f (tT TT mixed (awd (R:=R)) false rfl rfl rfl rfl) rfl <| .d (atI R) rfl <| .n) rfl rfl bp
abbrev wD (R:Type):Type:=ad->(ad->Int->Option R)->Option R
def UA (fn:wD R):br R topic_Name_p topic_Name_q:=fun x y k=>fn x.1 (fun q0 q1=>k (.tuple [.str q0,af q1]) [])
def LO (fn:wD R):=aL topic_Name_p topic_Name_q (UA fn)
section
variable (eT:rP R)
def awe:List (aY R):=[aO 28 (wA eT),(78,true,(SY R))]
def LP (x1:ad) (k0:ad->Int->Option R):Option R:=
 ag (decide (x1.length<=281474976710656)) (bif(decide ((nh x1 35)<(0:Int)))then(k0 ([]:ad) 60)else(ag (decide ((0:Int)<=(nh x1 35))&&decide ((nh x1 35)<=x1.length)) (ag (decide ((0:Int)<=(nh x1 35))) (eT ((x1.drop 0).take ((nh x1 35).toNat - 0)) (fun y2=>bif(!(y2==x1))then(k0 ([]:ad) 60)else(ag (decide ((0:Int)<=(nh x1 35))&&decide ((nh x1 35)<=x1.length)) (ag (decide ((0:Int)<=(nh x1 35))) (k0 ((x1.drop 0).take ((nh x1 35).toNat - 0)) 0))))))))
theorem awf:aP (R:=R) tt (awe eT) bm false Tryz.f31 topic_Name_p topic_Name_q (UA (LP eT)):=fun x y k=>by kernel_rfl
end
def kL:wD R:=LP eT
theorem awg (R:Type):aN ao 31 (LO (kL (R:=R))):=aR (awf eT) TT mixed (.c (LN R) <| .p (as9) <| .n) rfl rfl bp
abbrev Hp (R:Type):Type:=ad->ad->(ad->Option R)->Option R
abbrev wE:List ax:=[dU,dU]
def afg (fn:Hp R):br R wE topic_Name_q:=fun x y k=>fn x.1 x.2.1 (fun q0=>k (.str q0) [])
def UB (fn:Hp R):=aL wE topic_Name_q (afg fn)
section
def awh:List (aY R):=[(105,true,(Em R))]
def LQ (x1:ad) (x2:ad) (k0:ad->Option R):Option R:=
 ag (kh x2&&decide (x2.length<4294967281)) (ag (decide ((0:Int)<=(ae.wrap ((x1.length:Int) - ((aK x1 x2).length:Int))))&&decide ((ae.wrap ((x1.length:Int) - ((aK x1 x2).length:Int)))<=x1.length)) (ag (decide ((0:Int)<=(ae.wrap ((x1.length:Int) - ((aK x1 x2).length:Int))))) (k0 ((x1.drop 0).take ((ae.wrap ((x1.length:Int) - ((aK x1 x2).length:Int))).toNat - 0)))))
theorem awi:aP (R:=R) tt (awh (R:=R)) bm false Tryz.f118 wE topic_Name_q (afg LQ):=fun x y k=>by kernel_rfl
end
def iH:Hp R:=LQ
theorem afh (R:Type):aN ao 118 (UB (iH (R:=R))):=aR (awi) TT mixed (.p (KA) <| .n) rfl rfl bp
abbrev Hq (R:Type):Type:=ad->ad->(Int->ad->Option R)->Option R
abbrev mI:List aH:=[.cells [.str]]
def afi (fn:Hq R):br R lh mI:=fun x y k=>fn x.2.1 y.1.1 (fun q0 q1=>k (.int .u8 q0) [.cells [.str q1]])
def UC (fn:Hq R):=aL lh mI (afi fn)
section
def awj:List (aY R):=[(159,true,(Kx R))]
def LR (x1:ad) (x2:ad) (k0:Int->ad->Option R):Option R:=
 bif(x2==([]:ad))then(k0 0 x2)else(ag (decide ((0:Int)<x2.length)) (bif(decide ((v7 x1 ((x2.getD 0 0).toNat:Int))<(0:Int)))then(k0 0 x2)else(ag (decide ((0:Int)<x2.length)) (ag (decide ((0:Int)<=(x2.length:Int))&&decide ((x2.length:Int)<=x2.length)) (ag (decide ((1:Int)<=(x2.length:Int))) (k0 ((x2.getD 0 0).toNat:Int) ((x2.drop 1).take ((x2.length:Int).toNat - 1))))))))
theorem awk:aP (R:=R) tt (awj (R:=R)) bm false Tryz.f190 lh mI (afi LR):=fun x y k=>by kernel_rfl
end
def kl:Hq R:=LR
theorem afj (R:Type):aN ao 190 (UC (kl (R:=R))):=aR (awk) TT mixed (.p (acM) <| .n) rfl rfl bp
abbrev Hr (R:Type):Type:=ad->(ad->ad->Option R)->Option R
def afk (fn:Hr R):br R dZ mI:=fun x y k=>fn y.1.1 (fun q0 q1=>k (.str q0) [.cells [.str q1]])
def UD (fn:Hr R):=aL dZ mI (afk fn)
section
def awl:List (aY R):=[(105,true,(Em R))]
def LS (x1:ad) (k0:ad->ad->Option R):Option R:=
 ag (kh ([48,49,50,51,52,53,54,55,56,57]:ad)&&decide (([48,49,50,51,52,53,54,55,56,57]:ad).length<4294967281)) (ag (decide ((0:Int)<=(ae.wrap ((x1.length:Int) - ((aK x1 ([48,49,50,51,52,53,54,55,56,57]:ad)).length:Int))))&&decide ((ae.wrap ((x1.length:Int) - ((aK x1 ([48,49,50,51,52,53,54,55,56,57]:ad)).length:Int)))<=x1.length)) (ag (decide ((0:Int)<=(ae.wrap ((x1.length:Int) - ((aK x1 ([48,49,50,51,52,53,54,55,56,57]:ad)).length:Int))))) (k0 ((x1.drop 0).take ((ae.wrap ((x1.length:Int) - ((aK x1 ([48,49,50,51,52,53,54,55,56,57]:ad)).length:Int))).toNat - 0)) (aK x1 ([48,49,50,51,52,53,54,55,56,57]:ad)))))
theorem awm:aP (R:=R) tt (awl (R:=R)) bm false Tryz.f191 dZ mI (afk LS):=fun x y k=>by kernel_rfl
end
def kM:Hr R:=LS
theorem afl (R:Type):aN ao 191 (UD (kM (R:=R))):=aR (awm) TT mixed (.p (KA) <| .n) rfl rfl bp
abbrev LU (R:Type):Type:=ad->(Int->Bool->ad->Option R)->Option R
def afm (fn:LU R):br R dZ mI:=fun x y k=>fn y.1.1 (fun q0 q1 q2=>k (.tuple [af q0,.bool q1]) [.cells [.str q2]])
def afn (fn:LU R):=aL dZ mI (afm fn)
section
variable (kl:Hq R) (kM:Hr R)
def awn:List (aY R):=[dp 190 (UC kl),dp 191 (UD kM),(194,true,(Kw R))]
def LV (x1:ad) (k0:Int->Bool->ad->Option R):Option R:=
 kl ([43,45]:ad) x1 (fun y2 y3=>kM y3 (fun y4 y5=>ag (decide (y4.length<=281474976710656)) (bif ng y4 then(bif(decide ((dY y4)>(1000000:Int)))then(bif(y2==45)then(k0 (-1000000) (!(y4==([]:ad))) y5)else(k0 1000000 (!(y4==([]:ad))) y5))else(bif(y2==45)then(k0 (ae.wrap (0 - (dY y4))) (!(y4==([]:ad))) y5)else(k0 (dY y4) (!(y4==([]:ad))) y5)))else(bif(!(y4==([]:ad)))then(bif(y2==45)then(k0 (-1000000) (!(y4==([]:ad))) y5)else(k0 1000000 (!(y4==([]:ad))) y5))else(bif(decide ((dY y4)>(1000000:Int)))then(bif(y2==45)then(k0 (-1000000) (!(y4==([]:ad))) y5)else(k0 1000000 (!(y4==([]:ad))) y5))else(bif(y2==45)then(k0 (ae.wrap (0 - (dY y4))) (!(y4==([]:ad))) y5)else(k0 (dY y4) (!(y4==([]:ad))) y5)))))))
theorem awo:aP (R:=R) tt (awn kl kM) bm false Tryz.f192 dZ mI (afm (LV kl kM)):=fun x y k=>by kernel_rfl
end
def o8:LU R:=LV kl kM
theorem awp (R:Type):aN ao 192 (afn (o8 (R:=R))):=aR (awo kl kM) TT mixed (.d (afj R) rfl <| .d (afl R) rfl <| .p (acL) <| .n) rfl rfl bp
variable {R:Type}
abbrev EM (R:Type):Type:=ad->(au->Bool->Option R)->Option R
def UE (fn:EM R):br R topic_Name_p topic_Name_q:=fun x y k=>fn x.1 (fun q0 q1=>k (.tuple [.agg [af q0.aj,af q0.exp],.bool q1]) [])
def LW (fn:EM R):=aL topic_Name_p topic_Name_q (UE fn)
section
variable (dM:yu R) (kl:Hq R) (kM:Hr R) (o8:LU R)
def awq:List (aY R):=[aO 97 (Cc dM),dp 190 (UC kl),dp 191 (UD kM),dp 192 (afn o8),(105,true,(Em R)),(193,true,(SW R)),(194,true,(Kw R))]
def EN (x1:ad) (k0:au->Bool->Option R):Option R:=
 kl ([45]:ad) x1 (fun y2 y3=>kM y3 (fun y4 y5=>let Hm:=let j31:=fun(bH:ad) (z12:Int) (mE:ad)=>let j30:=fun(jF:Int) (z20:ad)=>ag (kh ([48]:ad)&&decide (([48]:ad).length<4294967281)) (ag (kh ([48]:ad)&&decide (([48]:ad).length<4294967281)) (bif(!(z20==([]:ad)))then(k0 (⟨0,0⟩:au) false)else(bif(decide (((bx (aK bH ([48]:ad)) ([48]:ad)).length:Int)>(18:Int)))then(k0 (⟨0,0⟩:au) false)else(let j29:=bif(y2 != 0)then(dM (ae.wrap (0 - (dY (([48]:ad)++(bx (aK bH ([48]:ad)) ([48]:ad)))))) (ae.wrap (jF+(ae.wrap (((aK bH ([48]:ad)).length:Int) - ((bx (aK bH ([48]:ad)) ([48]:ad)).length:Int))))) (fun dK fO=>k0 dK fO))else(dM (dY (([48]:ad)++(bx (aK bH ([48]:ad)) ([48]:ad)))) (ae.wrap (jF+(ae.wrap (((aK bH ([48]:ad)).length:Int) - ((bx (aK bH ([48]:ad)) ([48]:ad)).length:Int))))) (fun cH cN=>k0 cH cN)); ag (decide (1+(bx (aK bH ([48]:ad)) ([48]:ad)).length<=9223372036854775807)) (ag (decide ((([48]:ad)++(bx (aK bH ([48]:ad)) ([48]:ad))).length<=281474976710656)) (bif ng (([48]:ad)++(bx (aK bH ([48]:ad)) ([48]:ad)))then(j29)else(j29))))))); kl ([101,69]:ad) mE (fun aU bU=>bif(aU != 0)then(o8 bU (fun cA cP cV=>bif(!cP)then(k0 (⟨0,0⟩:au) false)else(j30 (ae.wrap (z12+cA)) cV)))else(j30 z12 bU)); kl ([46]:ad) y5 (fun y7 y8=>bif(y7 != 0)then(kM y8 (fun y9 bu=>bif(y9==([]:ad))then(k0 (⟨0,0⟩:au) false)else(ag (decide (y4.length+y9.length<=9223372036854775807)) (j31 (y4++y9) (ae.wrap (0 - (y9.length:Int))) bu))))else(j31 y4 0 y8)); bif(decide ((x1.length:Int)>(400:Int)))then(k0 (⟨0,0⟩:au) false)else(bif(y4==([]:ad))then(k0 (⟨0,0⟩:au) false)else(bif(decide ((y4.length:Int)>(1:Int)))then(ag (decide ((0:Int)<y4.length)) (bif(((y4.getD 0 0).toNat:Int)==48)then(k0 (⟨0,0⟩:au) false)else(Hm)))else(Hm)))))
theorem awr:aP (R:=R) tt (awq dM kl kM o8) bm false Tryz.f157 topic_Name_p topic_Name_q (UE (EN dM kl kM o8)):=fun x y k=>by kernel_rfl
end
def mJ:EM R:=EN dM kl kM o8
theorem aws (R:Type):aN ao 157 (LW (mJ (R:=R))):=aR (awr dM kl kM o8) TT mixed (.c (ac1 R) <| .d (afj R) rfl <| .d (afl R) rfl <| .d (awp R) rfl <| .p (KA) <| .p (as7) <| .p (acL) <| .n) rfl rfl bp
abbrev LX (R:Type):Type:=ad->ad->(Bool->Option R)->Option R
def afo (fn:LX R):br R wE topic_Name_q:=fun x y k=>fn x.1 x.2.1 (fun q0=>k (.bool q0) [])
def afp (fn:LX R):=aL wE topic_Name_q (afo fn)
section
def LY (x1:ad) (x2:ad) (k0:Bool->Option R):Option R:=
 bif(decide ((x1.length:Int)>=(x2.length:Int)))then(ag (decide ((0:Int)<=(x2.length:Int))&&decide ((x2.length:Int)<=x1.length)) (ag (decide ((0:Int)<=(x2.length:Int))) (k0 (((x1.drop 0).take ((x2.length:Int).toNat - 0))==x2))))else(k0 false)
theorem awt:aP (R:=R) tt [] bm false Tryz.f228 wE topic_Name_q (afo LY):=fun x y k=>by kernel_rfl
end
def wF:LX R:=LY
theorem awu (R:Type):aN ao 228 (afp (wF (R:=R))):=aR (awt) TT mixed .n rfl rfl bp
abbrev EO (R:Type):Type:=ad->ad->(ad->Bool->Option R)->Option R
def UF (fn:EO R):br R wE topic_Name_q:=fun x y k=>fn x.1 x.2.1 (fun q0 q1=>k (.tuple [.str q0,.bool q1]) [])
def LZ (fn:EO R):=aL wE topic_Name_q (UF fn)
section
variable (wF:LX R)
def awv:List (aY R):=[aO 228 (afp wF)]
def L0 (x1:ad) (x2:ad) (k0:ad->Bool->Option R):Option R:=
 wF x1 x2 (fun y3=>bif(!y3)then(k0 x1 false)else(ag (decide ((0:Int)<=(x1.length:Int))&&decide ((x1.length:Int)<=x1.length)) (ag (decide ((0:Int)<=(x2.length:Int))&&decide ((x2.length:Int)<=(x1.length:Int))) (k0 ((x1.drop (x2.length:Int).toNat).take ((x1.length:Int).toNat - (x2.length:Int).toNat)) true))))
theorem aww:aP (R:=R) tt (awv wF) bm false Tryz.f241 wE topic_Name_q (UF (L0 wF)):=fun x y k=>by kernel_rfl
end
def yB:EO R:=L0 wF
theorem awx (R:Type):aN ao 241 (LZ (yB (R:=R))):=aR (aww wF) TT mixed (.c (awu R) <| .n) rfl rfl bp
section
variable (yB:EO R)
def awy:List (aY R):=[aO 241 (LZ yB)]
def afq (x1:ad) (x2:ad) (k0:ad->Bool->Option R):Option R:=
 yB x1 x2 (fun y3 y4=>k0 y3 y4)
theorem awz:aP (R:=R) tt (awy yB) bm false Tryz.f220 wE topic_Name_q (UF (afq yB)):=fun x y k=>by kernel_rfl
end
def wG:EO R:=afq yB
theorem awA (R:Type):aN ao 220 (LZ (wG (R:=R))):=aR (awz yB) TT mixed (.c (awx R) <| .n) rfl rfl bp
abbrev Hs (R:Type):Type:=ad->ad->(Bool->ad->Option R)->Option R
def afr (fn:Hs R):br R lh mI:=fun x y k=>fn x.2.1 y.1.1 (fun q0 q1=>k (.bool q0) [.cells [.str q1]])
def UG (fn:Hs R):=aL lh mI (afr fn)
section
variable (wG:EO R)
def awB:List (aY R):=[aO 220 (LZ wG)]
def afs (x1:ad) (x2:ad) (k0:Bool->ad->Option R):Option R:=
 wG x2 x1 (fun y3 y4=>k0 y4 y3)
theorem awC:aP (R:=R) tt (awB wG) bm false Tryz.f195 lh mI (afr (afs wG)):=fun x y k=>by kernel_rfl
end
def iI:Hs R:=afs wG
theorem aft (R:Type):aN ao 195 (UG (iI (R:=R))):=aR (awC wG) TT mixed (.c (awA R) <| .n) rfl rfl bp
abbrev UH:List ax:=[.leaf (.int .u8)]
def afu (fn:rN R):br R UH topic_Name_q:=fun x y k=>fn x.1 (fun q0=>k (.int .u8 q0) [])
def UI (fn:rN R):=aL UH topic_Name_q (afu fn)
section
def afv (x1:Int) (k0:Int->Option R):Option R:=
 k0 (aM.wrap ((aJ aM.bits x1 ||| aJ aM.bits 32).toNat:Int))
theorem awD:aP (R:=R) tt [] bm false Tryz.f259 UH topic_Name_q (afu afv):=fun x y k=>by kernel_rfl
end
def internal_strconv_lower:rN R:=afv
theorem afw (R:Type):aN ao 259 (UI (internal_strconv_lower (R:=R))):=aR (awD) TT mixed .n rfl rfl bp
abbrev afx (R:Type):Type:=ad->Int->Int->Bool->(Int->Option R)->(Bool->Int->Option R)->Option R
abbrev UJ (R:Type):Type:=Nat->afx R
def afy:Hint:=⟨[0,3,4,5],[],[],[],[],[2,3]⟩
abbrev Ht:Type:=ad×Int×Int×Bool
def afz:Ht->St:=fun d=>⟨.str d.1::U 2 (.int .i32 d.2.1::af d.2.2.1::.bool d.2.2.2::U 88 ([])),[]⟩
def awE (K:KT R) (q0:Int):Option R:=K (.exit 0) ⟨U 3 (.int .i32 q0::U 90 ([])),[]⟩
def awF (K:KT R) (q0:Bool) (q1:Int):Option R:=K (.ret) ⟨U 2 (.bool q0::.int .i32 q1::U 90 ([])),[]⟩
abbrev UK (K:KT R) (d:Ht) (f:afx R):Option R:=f d.1 d.2.1 d.2.2.1 d.2.2.2 (awE K) (awF K)
abbrev L1:List ax:=dU::PU 2 (.leaf (.int .i32)::bG::.leaf (.bool)::PU 88 ([]))
def afA (x:ax.aA L1) (y:aH.aA topic_Name_q):Nat:=(av x.1+ah x.2.2.2.1+ah x.2.2.2.2.1+64)
def afB (x:ax.aA L1) (y:aH.aA topic_Name_q):Ht:=(x.1,x.2.2.2.1,x.2.2.2.2.1,x.2.2.2.2.2.1)
def awG (L:UJ R):dC R L1 topic_Name_q:=fun x y K=>UK K (afB x y) (L (afA x y))
section
variable (internal_strconv_lower:rN R) (oi:UJ R)
def afC:List (aY R):=[aO 259 (UI internal_strconv_lower)]
def afD (aD:ad->Int->Int->Bool->Option R) (bw:ad) (bZ:Int) (bt:Int) (cm:Bool) (e0:Int->Option R) (e1:Bool->Int->Option R):Option R:=
 bif(decide (bt<(bw.length:Int)))then(ag (decide ((0:Int)<=bt)&&decide (bt<bw.length)) (bif(decide ((48:Int)<=((bw.getD bt.toNat 0).toNat:Int)))then(ag (decide ((0:Int)<=bt)&&decide (bt<bw.length)) (bif(decide (((bw.getD bt.toNat 0).toNat:Int)<=(57:Int)))then(aD bw 48 (ae.wrap (bt+1)) cm)else(bif cm then(ag (decide ((0:Int)<=bt)&&decide (bt<bw.length)) (internal_strconv_lower ((bw.getD bt.toNat 0).toNat:Int) (fun eA=>bif(decide ((97:Int)<=eA))then(ag (decide ((0:Int)<=bt)&&decide (bt<bw.length)) (internal_strconv_lower ((bw.getD bt.toNat 0).toNat:Int) (fun eB=>bif(decide (eB<=(102:Int)))then(aD bw 48 (ae.wrap (bt+1)) cm)else(ag (decide ((0:Int)<=bt)&&decide (bt<bw.length)) (bif(((bw.getD bt.toNat 0).toNat:Int)==95)then(bif(bZ != 48)then(e1 false bZ)else(aD bw 95 (ae.wrap (bt+1)) cm))else(bif(bZ==95)then(e1 false bZ)else(aD bw 33 (ae.wrap (bt+1)) cm)))))))else(ag (decide ((0:Int)<=bt)&&decide (bt<bw.length)) (bif(((bw.getD bt.toNat 0).toNat:Int)==95)then(bif(bZ != 48)then(e1 false bZ)else(aD bw 95 (ae.wrap (bt+1)) cm))else(bif(bZ==95)then(e1 false bZ)else(aD bw 33 (ae.wrap (bt+1)) cm)))))))else(ag (decide ((0:Int)<=bt)&&decide (bt<bw.length)) (bif(((bw.getD bt.toNat 0).toNat:Int)==95)then(bif(bZ != 48)then(e1 false bZ)else(aD bw 95 (ae.wrap (bt+1)) cm))else(bif(bZ==95)then(e1 false bZ)else(aD bw 33 (ae.wrap (bt+1)) cm)))))))else(bif cm then(ag (decide ((0:Int)<=bt)&&decide (bt<bw.length)) (internal_strconv_lower ((bw.getD bt.toNat 0).toNat:Int) (fun bB=>bif(decide ((97:Int)<=bB))then(ag (decide ((0:Int)<=bt)&&decide (bt<bw.length)) (internal_strconv_lower ((bw.getD bt.toNat 0).toNat:Int) (fun jl=>bif(decide (jl<=(102:Int)))then(aD bw 48 (ae.wrap (bt+1)) cm)else(ag (decide ((0:Int)<=bt)&&decide (bt<bw.length)) (bif(((bw.getD bt.toNat 0).toNat:Int)==95)then(bif(bZ != 48)then(e1 false bZ)else(aD bw 95 (ae.wrap (bt+1)) cm))else(bif(bZ==95)then(e1 false bZ)else(aD bw 33 (ae.wrap (bt+1)) cm)))))))else(ag (decide ((0:Int)<=bt)&&decide (bt<bw.length)) (bif(((bw.getD bt.toNat 0).toNat:Int)==95)then(bif(bZ != 48)then(e1 false bZ)else(aD bw 95 (ae.wrap (bt+1)) cm))else(bif(bZ==95)then(e1 false bZ)else(aD bw 33 (ae.wrap (bt+1)) cm)))))))else(ag (decide ((0:Int)<=bt)&&decide (bt<bw.length)) (bif(((bw.getD bt.toNat 0).toNat:Int)==95)then(bif(bZ != 48)then(e1 false bZ)else(aD bw 95 (ae.wrap (bt+1)) cm))else(bif(bZ==95)then(e1 false bZ)else(aD bw 33 (ae.wrap (bt+1)) cm)))))))else(e0 bZ)
def afE (K:KT R) (rc:Ht->Option R) (d:Ht):Option R:=UK K d (afD internal_strconv_lower (fun z0 z1 z2 z3=>rc (z0,z1,z2,z3)))
def afF:Nat->Option (Hint×bX R):=fun i=>match i with
 | 10=>some (afy,(cY L1 topic_Name_q (awG oi) dz))
 | _=>none
theorem awH:dn (R:=R) tt (afC internal_strconv_lower) (afF oi) 0 Tryz.f260 0 afy afz (afE internal_strconv_lower):=fun K rc d=>by kernel_rfl
def afG (x1:ad) (k0:Bool->Option R):Option R:=
 let L5:=fun(z3:ad)=>bif(decide ((z3.length:Int)>=(2:Int)))then(ag (decide ((0:Int)<z3.length)) (bif(((z3.getD 0 0).toNat:Int)==48)then(ag (decide ((1:Int)<z3.length)) (internal_strconv_lower ((z3.getD 1 0).toNat:Int) (fun y4=>bif(y4==98)then(ag (decide ((1:Int)<z3.length)) (internal_strconv_lower ((z3.getD 1 0).toNat:Int) (fun y9=>oi (av z3+ah 48+ah 2+64) z3 48 2 (y9==120) (fun cN=>k0 (cN != 95)) (fun fo dG=>k0 fo))))else(ag (decide ((1:Int)<z3.length)) (internal_strconv_lower ((z3.getD 1 0).toNat:Int) (fun y5=>bif(y5==111)then(ag (decide ((1:Int)<z3.length)) (internal_strconv_lower ((z3.getD 1 0).toNat:Int) (fun bu=>oi (av z3+ah 48+ah 2+64) z3 48 2 (bu==120) (fun fv=>k0 (fv != 95)) (fun ff iX=>k0 ff))))else(ag (decide ((1:Int)<z3.length)) (internal_strconv_lower ((z3.getD 1 0).toNat:Int) (fun y6=>bif(y6==120)then(ag (decide ((1:Int)<z3.length)) (internal_strconv_lower ((z3.getD 1 0).toNat:Int) (fun aS=>oi (av z3+ah 48+ah 2+64) z3 48 2 (aS==120) (fun kN=>k0 (kN != 95)) (fun kO ia=>k0 kO))))else(oi (av z3+ah 94+ah 0+64) z3 94 0 false (fun l8=>k0 (l8 != 95)) (fun l9 jk=>k0 l9)))))))))))else(oi (av z3+ah 94+ah 0+64) z3 94 0 false (fun kJ=>k0 (kJ != 95)) (fun lY lZ=>k0 lY))))else(oi (av z3+ah 94+ah 0+64) z3 94 0 false (fun mF=>k0 (mF != 95)) (fun mG od=>k0 mG)); bif(decide ((x1.length:Int)>=(1:Int)))then(ag (decide ((0:Int)<x1.length)) (bif(((x1.getD 0 0).toNat:Int)==45)then(ag (decide ((0:Int)<=(x1.length:Int))&&decide ((x1.length:Int)<=x1.length)) (ag (decide ((1:Int)<=(x1.length:Int))) (L5 ((x1.drop 1).take ((x1.length:Int).toNat - 1)))))else(ag (decide ((0:Int)<x1.length)) (bif(((x1.getD 0 0).toNat:Int)==43)then(ag (decide ((0:Int)<=(x1.length:Int))&&decide ((x1.length:Int)<=x1.length)) (ag (decide ((1:Int)<=(x1.length:Int))) (L5 ((x1.drop 1).take ((x1.length:Int).toNat - 1)))))else(L5 x1)))))else(L5 x1)
theorem awI:aP (R:=R) tt (afC internal_strconv_lower) (afF oi) false Tryz.f260 topic_Name_p topic_Name_q (topic_Name_rr (afG internal_strconv_lower oi)):=fun x y k=>by kernel_rfl
end
def oi:UJ R
 | 0,_,_,_,_,_,_=>none
 | n+1,aB,aC,aG,bq,e0,e1=>afD internal_strconv_lower (fun aB aC aG bq=>oi n aB aC aG bq e0 e1) aB aC aG bq e0 e1
def awJ:=dD (R:=R) afz (afE internal_strconv_lower) UK (oi) afA afB (awH internal_strconv_lower oi) (fun _ _=>by kernel_rfl) (fun _ _ _=>by kernel_rfl) (fun _ _=>by kernel_rfl)
def uf:topic_Name_ty R:=afG internal_strconv_lower oi
theorem awK (R:Type):aN ao 260 (topic_Name_s (uf (R:=R))):=aR (awI internal_strconv_lower oi) TT mixed (.c (afw R) <| .n) rfl rfl (dE.all (by kernel_rfl) (.s .z (dJ (by kernel_rfl) (awJ _ dH))))
abbrev L6 (R:Type):Type:=ad->Int->Int->(Int->Option R)->(Int->Option R)->(Int->Option R)->(Int->Option R)->(Int->Option R)->Option R
abbrev EP:List ax:=[dU,bG,bG]
def afH (fn:L6 R):br R EP topic_Name_q:=fun x y k=>fn x.1 x.2.1 x.2.2.1 (fun q0=>k (.tuple [.int .u64 q0,.gh 250 .i64 2]) []) (fun q0=>k (.tuple [.int .u64 q0,.gh 250 .i64 3]) []) (fun q0=>k (.tuple [.int .u64 q0,.gh 250 .i64 4]) []) (fun q0=>k (.tuple [.int .u64 q0,.gh 250 .i64 1]) []) (fun q0=>k (.tuple [.int .u64 q0,.eR]) [])
def afI (fn:L6 R):=aL EP topic_Name_q (afH fn)
abbrev afJ (R:Type):Type:=Int->Bool->ad->Int->Int->Bool->Int->Nat->Int->Int->(List Int)->(ad->Bool->Int->Option R)->(Int->ad->Bool->Int->Option R)->(Int->ad->Bool->Int->Option R)->(Int->ad->Bool->Option R)->Option R
abbrev UL (R:Type):Type:=Nat->afJ R
def afK:Hint:=⟨[1,8,9,10,11,12,13,99,100,101],[],[],[],[],[6,7,9,12,13]⟩
abbrev Hu:Type:=Int×Bool×ad×Int×Int×Bool×Int×Nat×Int×Int×(List Int)
def afL:Hu->St:=fun d=>⟨.undef::af d.1::U 6 (.bool d.2.1::.str d.2.2.1::.int .u64 d.2.2.2.1::.int .u64 d.2.2.2.2.1::.bool d.2.2.2.2.2.1::.int .u64 d.2.2.2.2.2.2.1::U 85 (.row 0 d.2.2.2.2.2.2.2.1::af d.2.2.2.2.2.2.2.2.1::af d.2.2.2.2.2.2.2.2.2.1::U 70 ([]))),[.row (.int .u8) d.2.2.2.2.2.2.2.2.2.2]⟩
def awL (K:KT R) (q0:ad) (q1:Bool) (q2:Int):Option R:=K (.exit 3) ⟨U 9 (.str q0::U 2 (.bool q1::.int .u64 q2::U 158 ([]))),[]⟩
def awM (K:KT R) (q0:Int) (q1:ad) (q2:Bool) (q3:Int):Option R:=K (.ret) ⟨U 6 (.int .u64 q0::.gh 250 .i64 2::.undef::.str q1::U 2 (.bool q2::.int .u64 q3::U 158 ([]))),[]⟩
def awN (K:KT R) (q0:Int) (q1:ad) (q2:Bool) (q3:Int):Option R:=K (.ret) ⟨U 6 (.int .u64 q0::.gh 250 .i64 1::.undef::.str q1::U 2 (.bool q2::.int .u64 q3::U 158 ([]))),[]⟩
def awO (K:KT R) (q0:Int) (q1:ad) (q2:Bool):Option R:=K (.ret) ⟨U 6 (.int .u64 q0::.gh 250 .i64 1::.undef::.str q1::U 2 (.bool q2::U 159 ([]))),[]⟩
abbrev UM (K:KT R) (d:Hu) (f:afJ R):Option R:=f d.1 d.2.1 d.2.2.1 d.2.2.2.1 d.2.2.2.2.1 d.2.2.2.2.2.1 d.2.2.2.2.2.2.1 d.2.2.2.2.2.2.2.1 d.2.2.2.2.2.2.2.2.1 d.2.2.2.2.2.2.2.2.2.1 d.2.2.2.2.2.2.2.2.2.2 (awL K) (awM K) (awN K) (awO K)
abbrev L7:List ax:=.leaf (.undef)::bG::PU 6 (.leaf (.bool)::dU::.leaf (.int .u64)::.leaf (.int .u64)::.leaf (.bool)::.leaf (.int .u64)::PU 85 (.leaf (.row 0)::bG::bG::PU 70 ([])))
def afM (x:ax.aA L7) (y:aH.aA sT):Nat:=(ah x.2.1+av ((t8 x).2.1)+ah ((t8 x).2.2.1)+ah ((t8 x).2.2.2.1)+ah ((t8 x).2.2.2.2.2.1)+ah ((t8 (t8 (t8 (t8 (t8 (t8 (t8 (t8 (t8 (t8 (t8 (t8 x)))))))))))).2.2.2.2.1)+ah ((t8 (t8 (t8 (t8 (t8 (t8 (t8 (t8 (t8 (t8 (t8 (t8 x)))))))))))).2.2.2.2.2.1)+av y.1+64)
def afN (x:ax.aA L7) (y:aH.aA sT):Hu:=(x.2.1,(t8 x).1,(t8 x).2.1,(t8 x).2.2.1,(t8 x).2.2.2.1,(t8 x).2.2.2.2.1,(t8 x).2.2.2.2.2.1,(t8 (t8 (t8 (t8 (t8 (t8 (t8 (t8 (t8 (t8 (t8 (t8 x)))))))))))).2.2.2.1,(t8 (t8 (t8 (t8 (t8 (t8 (t8 (t8 (t8 (t8 (t8 (t8 x)))))))))))).2.2.2.2.1,(t8 (t8 (t8 (t8 (t8 (t8 (t8 (t8 (t8 (t8 (t8 (t8 x)))))))))))).2.2.2.2.2.1,y.1)
def awP (L:UL R):dC R L7 sT:=fun x y K=>UM K (afN x y) (L (afM x y))
section
variable (internal_strconv_lower:rN R) (uf:topic_Name_ty R) (np:UL R)
def afO:List (aY R):=[aO 259 (UI internal_strconv_lower),aO 260 (topic_Name_s uf)]
def Cn (aD:Int->Bool->ad->Int->Int->Bool->Int->Nat->Int->Int->(List Int)->Option R) (dk:Int) (nq:Bool) (x22:ad) (ib:Int) (qa:Int) (iF:Bool) (jj:Int) (gU:Nat) (Ey:Int) (oc:Int) (rG:List Int) (e0:ad->Bool->Int->Option R) (e1:Int->ad->Bool->Int->Option R) (e2:Int->ad->Bool->Int->Option R) (e3:Int->ad->Bool->Option R):Option R:=
 bif(decide (oc<Ey))then(ag (decide ((0:Int)<=oc)&&decide (oc<gU)) (ag (decide (oc.toNat<rG.length)) (let j42:=fun(z40:Int)=>bif(decide (z40>=(aM.wrap dk)))then(e1 0 x22 iF jj)else(bif(decide (jj>=ib))then(e2 qa x22 iF jj)else(bif(decide ((cO.wrap ((cO.wrap (jj*(cO.wrap dk)))+(cO.wrap z40)))<(cO.wrap (jj*(cO.wrap dk)))))then(e2 qa x22 iF (cO.wrap (jj*(cO.wrap dk))))else(bif(decide ((cO.wrap ((cO.wrap (jj*(cO.wrap dk)))+(cO.wrap z40)))>qa))then(e2 qa x22 iF (cO.wrap (jj*(cO.wrap dk))))else(aD dk nq x22 ib qa iF (cO.wrap ((cO.wrap (jj*(cO.wrap dk)))+(cO.wrap z40))) gU Ey (ae.wrap (oc+1)) rG)))); let ER:=fun(z31:Bool)=>bif z31 then(aD dk nq x22 ib qa true jj gU Ey (ae.wrap (oc+1)) rG)else(let Co:=fun(z32:Bool)=>bif z32 then(j42 (aM.wrap ((rG.getD oc.toNat (Ty.az (.int .u8))) - 48)))else(internal_strconv_lower (rG.getD oc.toNat (Ty.az (.int .u8))) (fun iX=>bif(decide ((97:Int)<=iX))then(internal_strconv_lower (rG.getD oc.toNat (Ty.az (.int .u8))) (fun kN=>bif(decide (kN<=(122:Int)))then(internal_strconv_lower (rG.getD oc.toNat (Ty.az (.int .u8))) (fun l8=>j42 (aM.wrap ((aM.wrap (l8 - 97))+10))))else(e1 0 x22 iF jj)))else(e1 0 x22 iF jj))); bif(decide ((48:Int)<=(rG.getD oc.toNat (Ty.az (.int .u8)))))then(Co (decide ((rG.getD oc.toNat (Ty.az (.int .u8)))<=(57:Int))))else(Co false)); bif((rG.getD oc.toNat (Ty.az (.int .u8)))==95)then(ER nq)else(ER false))))else(e0 x22 iF jj)
def afP (K:KT R) (rc:Hu->Option R) (d:Hu):Option R:=UM K d (Cn internal_strconv_lower (fun z0 z1 z2 z3 z4 z5 z6 z7 z8 z9 bM=>rc (z0,z1,z2,z3,z4,z5,z6,z7,z8,z9,bM)))
def afQ:Nat->Option (Hint×bX R):=fun i=>match i with
 | 36=>some (afK,(cY L7 sT (awP np) dz))
 | _=>none
theorem awQ:dn (R:=R) tt (afO internal_strconv_lower uf) (afQ np) 0 Tryz.f249 0 afK afL (afP internal_strconv_lower):=fun K rc d=>by kernel_rfl
def L8 (x1:ad) (x2:Int) (x3:Int) (k0:Int->Option R) (k1:Int->Option R) (k2:Int->Option R) (k3:Int->Option R) (k4:Int->Option R):Option R:=
 bif(x1==([]:ad))then(k0 0)else(let ES:=fun(lk:ad) (wH:Int)=>let j62:=fun(UN:Int)=>let UO:=fun(jF:Int)=>ag (decide ((0:Int)<=(cO.wrap UN))) (np (ah wH+av x1+ah jF+ah (cO.wrap ((cO.wrap (1*2 ^ (min ((cO.wrap UN).toNat) cO.bits))) - 1))+ah 0+ah (lk.length:Int)+ah 0+av (fX lk)+64) wH (x2==0) x1 jF (cO.wrap ((cO.wrap (1*2 ^ (min ((cO.wrap UN).toNat) cO.bits))) - 1)) false 0 lk.length (lk.length:Int) 0 (fX lk) (fun od nj oY=>bif nj then(uf od (fun ET=>bif(!ET)then(k0 0)else(k4 oY)))else(k4 oY)) (fun pZ wi oZ nr=>k0 pZ) (fun ll lH lI UP=>k3 ll) (fun Hv Hw Hx=>k3 Hv)); bif(wH==10)then(UO 1844674407370955162)else(bif(wH==16)then(UO 1152921504606846976)else(ag (!decide ((cO.wrap wH)=0)) (UO (cO.wrap ((cO.wrap (pz 18446744073709551615 (cO.wrap wH)))+1))))); bif(x3==0)then(j62 64)else(bif(decide (x3<(0:Int)))then(k2 0)else(bif(decide (x3>(64:Int)))then(k2 0)else(j62 x3))); let lJ:=fun(z4:Bool)=>bif z4 then(ES x1 x2)else(bif(x2==0)then(ag (decide ((0:Int)<x1.length)) (bif(((x1.getD 0 0).toNat:Int)==48)then(let Hy:=fun(z6:Bool)=>bif z6 then(ag (decide ((0:Int)<=(x1.length:Int))&&decide ((x1.length:Int)<=x1.length)) (ag (decide ((2:Int)<=(x1.length:Int))) (ES ((x1.drop 2).take ((x1.length:Int).toNat - 2)) 2)))else(let wI:=fun(z8:Bool)=>bif z8 then(ag (decide ((0:Int)<=(x1.length:Int))&&decide ((x1.length:Int)<=x1.length)) (ag (decide ((2:Int)<=(x1.length:Int))) (ES ((x1.drop 2).take ((x1.length:Int).toNat - 2)) 8)))else(let j11:=fun(bM:Bool)=>bif bM then(ag (decide ((0:Int)<=(x1.length:Int))&&decide ((x1.length:Int)<=x1.length)) (ag (decide ((2:Int)<=(x1.length:Int))) (ES ((x1.drop 2).take ((x1.length:Int).toNat - 2)) 16)))else(ag (decide ((0:Int)<=(x1.length:Int))&&decide ((x1.length:Int)<=x1.length)) (ag (decide ((1:Int)<=(x1.length:Int))) (ES ((x1.drop 1).take ((x1.length:Int).toNat - 1)) 8))); bif(decide ((x1.length:Int)>=(3:Int)))then(ag (decide ((1:Int)<x1.length)) (internal_strconv_lower ((x1.getD 1 0).toNat:Int) (fun y9=>j11 (y9==120))))else(j11 false)); bif(decide ((x1.length:Int)>=(3:Int)))then(ag (decide ((1:Int)<x1.length)) (internal_strconv_lower ((x1.getD 1 0).toNat:Int) (fun y7=>wI (y7==111))))else(wI false)); bif(decide ((x1.length:Int)>=(3:Int)))then(ag (decide ((1:Int)<x1.length)) (internal_strconv_lower ((x1.getD 1 0).toNat:Int) (fun y5=>Hy (y5==98))))else(Hy false))else(ES x1 10)))else(k1 0)); bif(decide ((2:Int)<=x2))then(lJ (decide (x2<=(36:Int))))else(lJ false))
theorem awR:aP (R:=R) tt (afO internal_strconv_lower uf) (afQ np) false Tryz.f249 EP topic_Name_q (afH (L8 internal_strconv_lower uf np)):=fun x y k=>by kernel_rfl
end
def np:UL R
 | 0,_,_,_,_,_,_,_,_,_,_,_,_,_,_,_=>none
 | n+1,aB,aC,aG,bq,cg,cw,dP,eC,eD,eE,fm,e0,e1,e2,e3=>Cn internal_strconv_lower (fun aB aC aG bq cg cw dP eC eD eE fm=>np n aB aC aG bq cg cw dP eC eD eE fm e0 e1 e2 e3) aB aC aG bq cg cw dP eC eD eE fm e0 e1 e2 e3
def awS:=dD (R:=R) afL (afP internal_strconv_lower) UM (np) afM afN (awQ internal_strconv_lower uf np) (fun _ _=>by kernel_rfl) (fun _ _ _=>by kernel_rfl) (fun _ _=>by kernel_rfl)
def yC:L6 R:=L8 internal_strconv_lower uf np
theorem awT (R:Type):aN ao 249 (afI (yC (R:=R))):=aR (awR internal_strconv_lower uf np) TT mixed (.c (afw R) <| .c (awK R) <| .n) rfl rfl (dE.all (by kernel_rfl) (.s .z (dJ (by kernel_rfl) (awS _ dH))))
variable {R:Type}
abbrev L9 (R:Type):Type:=ad->Int->Int->(Int->Option R)->(Int->Option R)->Option R
def afR (fn:L9 R):br R EP topic_Name_q:=fun x y k=>fn x.1 x.2.1 x.2.2.1 (fun q0=>k (.tuple [.int .u64 q0,.iface]) []) (fun q0=>k (.tuple [.int .u64 q0,.eR]) [])
def afS (fn:L9 R):=aL EP topic_Name_q (afR fn)
section
variable (yC:L6 R)
def awU:List (aY R):=[(219,true,(toErr_S R 250)),aO 249 (afI yC)]
def Ma (x1:ad) (x2:Int) (x3:Int) (k0:Int->Option R) (k1:Int->Option R):Option R:=
 yC x1 x2 x3 (fun y4=>ag (kY 250 250&&(2==2||2==1)) (ag (decide (x1.length<=281474976710656)) (k0 y4))) (fun y5=>ag (kY 250 250&&(3==2||3==1)) (ag (decide (x1.length<=281474976710656)) (k0 y5))) (fun y6=>ag (kY 250 250&&(4==2||4==1)) (ag (decide (x1.length<=281474976710656)) (k0 y6))) (fun y7=>ag (kY 250 250&&(1==2||1==1)) (ag (decide (x1.length<=281474976710656)) (k0 y7))) (fun y8=>k1 y8)
theorem awV:aP (R:=R) tt (awU yC) bm false Tryz.f252 EP topic_Name_q (afR (Ma yC)):=fun x y k=>by kernel_rfl
end
def wJ:L9 R:=Ma yC
theorem awW (R:Type):aN ao 252 (afS (wJ (R:=R))):=aR (awV yC) TT mixed (.p (toErr_ok) <| .c (awT R) <| .n) rfl rfl bp
abbrev wK (R:Type):Type:=ad->(Int->ad->Option R)->Option R
def Hz (fn:wK R):br R dZ mI:=fun x y k=>fn y.1.1 (fun q0 q1=>k (.int .i32 q0) [.cells [.str q1]])
def AJ (fn:wK R):=aL dZ mI (Hz fn)
section
variable (wJ:L9 R)
def awX:List (aY R):=[aO 252 (afS wJ),(253,true,(SX R))]
def Mb (x1:ad) (k0:Int->ad->Option R):Option R:=
 bif(decide ((x1.length:Int)<(4:Int)))then(k0 (-1) x1)else(ag (decide ((4:Int)<=x1.length)) (wJ ((x1.drop 0).take (4 - 0)) 16 16 (fun y2=>k0 (-1) x1) (fun y3=>ag (kh ((x1.drop 0).take (4 - 0))&&kh ([43,45,95]:ad)&&decide (((x1.drop 0).take (4 - 0)).length<4294967281)&&decide (([43,45,95]:ad).length<4294967281)) (bif(G2 ((x1.drop 0).take (4 - 0)) ([43,45,95]:ad))then(k0 (-1) x1)else(ag (decide ((0:Int)<=(x1.length:Int))&&decide ((x1.length:Int)<=x1.length)) (ag (decide ((4:Int)<=(x1.length:Int))) (k0 (eI.wrap y3) ((x1.drop 4).take ((x1.length:Int).toNat - 4)))))))))
theorem awY:aP (R:=R) tt (awX wJ) bm false Tryz.f242 dZ mI (Hz (Mb wJ)):=fun x y k=>by kernel_rfl
end
def ug:wK R:=Mb wJ
theorem awZ (R:Type):aN ao 242 (AJ (ug (R:=R))):=aR (awY wJ) TT mixed (.c (awW R) <| .p (as8) <| .n) rfl rfl bp
section
variable (iI:Hs R) (ug:wK R)
def aw0:List (aY R):=[dp 195 (UG iI),dp 242 (AJ ug)]
def Mc (x1:ad) (k0:Int->ad->Option R):Option R:=
 ug x1 (fun y2 y3=>bif(decide (y2<(55296:Int)))then(k0 y2 y3)else(bif(decide (y2>=(57344:Int)))then(k0 y2 y3)else(bif(decide (y2>=(56320:Int)))then(k0 (-1) y3)else(iI ([92,117]:ad) y3 (fun y5 y6=>bif(!y5)then(k0 (-1) y6)else(ug y6 (fun y9 bu=>bif(decide (y9<(56320:Int)))then(k0 (-1) bu)else(bif(decide (y9>=(57344:Int)))then(k0 (-1) bu)else(k0 (eI.wrap ((eI.wrap ((eI.wrap (65536+(eI.wrap ((eI.wrap (y2 - 55296))*2 ^ (min 10 eI.bits)))))+y9)) - 56320)) bu)))))))))
theorem aw1:aP (R:=R) tt (aw0 iI ug) bm false Tryz.f221 dZ mI (Hz (Mc iI ug)):=fun x y k=>by kernel_rfl
end
def sV:wK R:=Mc iI ug
theorem aw2 (R:Type):aN ao 221 (AJ (sV (R:=R))):=aR (aw1 iI ug) TT mixed (.d (aft R) rfl <| .d (awZ R) rfl <| .n) rfl rfl bp
section
variable (sV:wK R)
def aw3:List (aY R):=[dp 221 (AJ sV)]
def Md (x1:ad) (k0:Int->ad->Option R):Option R:=
 bif(x1==([]:ad))then(k0 (-1) x1)else(ag (decide ((0:Int)<x1.length)) (ag (decide ((0:Int)<=(x1.length:Int))&&decide ((x1.length:Int)<=x1.length)) (ag (decide ((1:Int)<=(x1.length:Int))) (let j5:=fun(z2:Bool)=>bif z2 then(k0 (eI.wrap ((x1.getD 0 0).toNat:Int)) ((x1.drop 1).take ((x1.length:Int).toNat - 1)))else(bif(((x1.getD 0 0).toNat:Int)==98)then(k0 8 ((x1.drop 1).take ((x1.length:Int).toNat - 1)))else(bif(((x1.getD 0 0).toNat:Int)==102)then(k0 12 ((x1.drop 1).take ((x1.length:Int).toNat - 1)))else(bif(((x1.getD 0 0).toNat:Int)==110)then(k0 10 ((x1.drop 1).take ((x1.length:Int).toNat - 1)))else(bif(((x1.getD 0 0).toNat:Int)==114)then(k0 13 ((x1.drop 1).take ((x1.length:Int).toNat - 1)))else(bif(((x1.getD 0 0).toNat:Int)==116)then(k0 9 ((x1.drop 1).take ((x1.length:Int).toNat - 1)))else(bif(((x1.getD 0 0).toNat:Int)==117)then(sV ((x1.drop 1).take ((x1.length:Int).toNat - 1)) (fun y3 y4=>k0 y3 y4))else(k0 (-1) ((x1.drop 1).take ((x1.length:Int).toNat - 1))))))))); bif(((x1.getD 0 0).toNat:Int)==34)then(j5 (((x1.getD 0 0).toNat:Int)==34))else(bif(((x1.getD 0 0).toNat:Int)==92)then(j5 (((x1.getD 0 0).toNat:Int)==92))else(j5 (((x1.getD 0 0).toNat:Int)==47)))))))
theorem aw4:aP (R:=R) tt (aw3 sV) bm false Tryz.f197 dZ mI (Hz (Md sV)):=fun x y k=>by kernel_rfl
end
def oj:wK R:=Md sV
theorem aw5 (R:Type):aN ao 197 (AJ (oj (R:=R))):=aR (aw4 sV) TT mixed (.d (aw2 R) rfl <| .n) rfl rfl bp
section
def aw6:List (aY R):=[(184,true,(SS R))]
def Me (x1:ad) (k0:Int->ad->Option R):Option R:=
 let j3:=ag (decide ((0:Int)<=(x1.length:Int))&&decide ((x1.length:Int)<=x1.length)) (ag (decide ((0:Int)<=((mC x1).2:Int))&&decide (((mC x1).2:Int)<=(x1.length:Int))) (k0 ((mC x1).1:Int) ((x1.drop ((mC x1).2:Int).toNat).take ((x1.length:Int).toNat - ((mC x1).2:Int).toNat)))); bif(((mC x1).1:Int)==65533)then(bif(decide (((mC x1).2:Int)<(2:Int)))then(k0 (-1) x1)else(bif(decide (((mC x1).1:Int)<(32:Int)))then(k0 (-1) x1)else(j3)))else(bif(decide (((mC x1).1:Int)<(32:Int)))then(k0 (-1) x1)else(j3))
theorem aw7:aP (R:=R) tt (aw6 (R:=R)) bm false Tryz.f196 dZ mI (Hz Me):=fun x y k=>by kernel_rfl
end
def qd:wK R:=Me
theorem aw8 (R:Type):aN ao 196 (AJ (qd (R:=R))):=aR (aw7) TT mixed (.p (as3) <| .n) rfl rfl bp
abbrev EU (R:Type):Type:=ad->(ad->Int->Bool->Option R)->Option R
def UQ (fn:EU R):br R topic_Name_p topic_Name_q:=fun x y k=>fn x.1 (fun q0 q1 q2=>k (.tuple [.str q0,af q1,.bool q2]) [])
def Mf (fn:EU R):=aL topic_Name_p topic_Name_q (UQ fn)
abbrev afT (R:Type):Type:=ad->ad->(List Int)->(ad->ad->(List Int)->Option R)->(ad->ad->Int->Bool->ad->(List Int)->Option R)->Option R
abbrev UR (R:Type):Type:=Nat->afT R
def afU:Hint:=⟨[0,5,6],[],[],[(1,1,(.int .u8),false)],[],[0,2,3,4,5,6]⟩
abbrev HA:Type:=ad×ad×(List Int)
def afV:HA->St:=fun d=>⟨.str d.1::U 4 (.ptr 0 0::.ptr 1 0::U 32 ([])),[.cells [.str d.2.1],.bA (.sl (.int .u8) d.2.2 (.own 2)),.tok]⟩
def aw9 (K:KT R) (q0:ad) (q1:ad) (q2:List Int):Option R:=K (.exit 0) ⟨.str q0::U 4 (.ptr 0 0::.ptr 1 0::U 32 ([])),[.cells [.str q1],.bA (.sl (.int .u8) q2 (.own 2)),.tok]⟩
def axa (K:KT R) (q0:ad) (q1:ad) (q2:Int) (q3:Bool) (q4:ad) (q5:List Int):Option R:=K (.ret) ⟨.str q0::.undef::.str q1::af q2::.bool q3::.ptr 0 0::.ptr 1 0::U 32 ([]),[.cells [.str q4],.bA (.sl (.int .u8) q5 (.own 2)),.tok]⟩
abbrev US (K:KT R) (d:HA) (f:afT R):Option R:=f d.1 d.2.1 d.2.2 (aw9 K) (axa K)
abbrev Mg:List ax:=dU::PU 4 (.leaf (.ptr 0 0)::.leaf (.ptr 1 0)::PU 32 ([]))
abbrev Mh:List aH:=[.cells [.str],.bA (.k9 (.int .u8) 2),.tok]
def afW (x:ax.aA Mg) (y:aH.aA Mh):Nat:=(av x.1+av y.1.1+av y.2.1+64)
def afX (x:ax.aA Mg) (y:aH.aA Mh):HA:=(x.1,y.1.1,y.2.1)
def axb (L:UR R):dC R Mg Mh:=fun x y K=>US K (afX x y) (L (afW x y))
section
variable (gu:Hi R) (iI:Hs R) (qd:wK R) (oj:wK R) (kP:UR R)
def afY:List (aY R):=[dp 170 (Ui gu),(84,false,(yq R)),dp 195 (UG iI),dp 196 (AJ qd),dp 197 (AJ oj)]
def Mi (aD:ad->ad->(List Int)->Option R) (x4:ad) (x5:ad) (x6:List Int) (e0:ad->ad->(List Int)->Option R) (e1:ad->ad->Int->Bool->ad->(List Int)->Option R):Option R:=
 iI ([34]:ad) x5 (fun y7 y8=>bif(!y7)then(iI ([92]:ad) y8 (fun y9 bu=>bif y9 then(oj bu (fun aS bg=>bif(decide (aS<(0:Int)))then(e1 x4 ([]:ad) 0 false bg x6)else(gu aS x6 (fun cd aU=>aD x4 bg aU))))else(qd bu (fun bU cA=>bif(decide (bU<(0:Int)))then(e1 x4 ([]:ad) 0 false cA x6)else(gu bU x6 (fun cP cV=>aD x4 cA cV))))))else(e0 x4 y8 x6))
def afZ (K:KT R) (rc:HA->Option R) (d:HA):Option R:=US K d (Mi gu iI qd oj (fun z0 z1 z2=>rc (z0,z1,z2)))
def af0:Nat->Option (Hint×bX R):=fun i=>match i with
 | 5=>some (afU,(cY Mg Mh (axb kP) dz))
 | _=>none
theorem axc:dn (R:=R) tt (afY gu iI qd oj) (af0 kP) 0 Tryz.f158 0 afU afV (afZ gu iI qd oj):=fun K rc d=>by kernel_rfl
def Mj (x1:ad) (k0:ad->Int->Bool->Option R):Option R:=
 iI ([34]:ad) x1 (fun y2 y3=>bif(!y2)then(k0 ([]:ad) 0 false)else(kP (av x1+av y3+av ([]:List Int)+64) x1 y3 ([]:List Int) (fun eA eB bB=>k0 (ft bB) (ae.wrap ((eA.length:Int) - (eB.length:Int))) true) (fun jl fe iG dK fO cH=>k0 fe iG dK)))
theorem axd:aP (R:=R) tt (afY gu iI qd oj) (af0 kP) false Tryz.f158 topic_Name_p topic_Name_q (UQ (Mj iI kP)):=fun x y k=>by kernel_rfl
end
def kP:UR R
 | 0,_,_,_,_,_=>none
 | n+1,aB,aC,aG,e0,e1=>Mi gu iI qd oj (fun aB aC aG=>kP n aB aC aG e0 e1) aB aC aG e0 e1
def axe:=dD (R:=R) afV (afZ gu iI qd oj) US (kP) afW afX (axc gu iI qd oj kP) (fun _ _=>by kernel_rfl) (fun _ _ _=>by kernel_rfl) (fun _ _=>by kernel_rfl)
def qe:EU R:=Mj iI kP
theorem axf (R:Type):aN ao 158 (Mf (qe (R:=R))):=aR (axd gu iI qd oj kP) TT mixed (.d (aeA R) rfl <| .s (KD) Ku <| .d (aft R) rfl <| .d (aw8 R) rfl <| .d (aw5 R) rfl <| .n) rfl rfl (dE.all (by kernel_rfl) (.s .z (dJ (by kernel_rfl) (axe _ dH))))
abbrev Mk (R:Type):Type:=ad->(Token->Int->Option R)->Option R
def af1 (fn:Mk R):br R topic_Name_p topic_Name_q:=fun x y k=>fn x.1 (fun q0 q1=>k (.tuple [acy q0,af q1]) [])
def af2 (fn:Mk R):=aL topic_Name_p topic_Name_q (af1 fn)
section
variable (qe:EU R) (mJ:EM R) (iH:Hp R)
def axg:List (aY R):=[aO 158 (Mf qe),aO 157 (LW mJ),(159,true,(Kx R)),aO 118 (UB iH)]
def Ml (x1:ad) (k0:Token->Int->Option R):Option R:=
 ag (decide ((0:Int)<x1.length)) (let j25:=iH x1 ([97,98,99,100,101,102,103,104,105,106,107,108,109,110,111,112,113,114,115,116,117,118,119,120,121,122]:ad) (fun bB=>bif(bB==([116,114,117,101]:ad))then(k0 (⟨4,bB,⟨0,0⟩,0⟩:Token) (bB.length:Int))else(bif(bB==([102,97,108,115,101]:ad))then(k0 (⟨4,bB,⟨0,0⟩,0⟩:Token) (bB.length:Int))else(bif(!(bB==([110,117,108,108]:ad)))then(k0 (⟨0,([]:ad),⟨0,0⟩,0⟩:Token) 0)else(k0 (⟨4,bB,⟨0,0⟩,0⟩:Token) (bB.length:Int))))); bif(((x1.getD 0 0).toNat:Int)==45)then(iH x1 ([48,49,50,51,52,53,54,55,56,57,43,45,46,101,69]:ad) (fun y6=>mJ y6 (fun y7 y8=>bif(!y8)then(k0 (⟨0,([]:ad),⟨0,0⟩,0⟩:Token) 0)else(k0 (⟨3,y6,⟨y7.aj,y7.exp⟩,0⟩:Token) (y6.length:Int)))))else(bif(decide (((x1.getD 0 0).toNat:Int)>=(48:Int)))then(bif(decide (((x1.getD 0 0).toNat:Int)<=(57:Int)))then(iH x1 ([48,49,50,51,52,53,54,55,56,57,43,45,46,101,69]:ad) (fun y9=>mJ y9 (fun bu aS=>bif(!aS)then(k0 (⟨0,([]:ad),⟨0,0⟩,0⟩:Token) 0)else(k0 (⟨3,y9,⟨bu.aj,bu.exp⟩,0⟩:Token) (y9.length:Int)))))else(bif(((x1.getD 0 0).toNat:Int)==34)then(qe x1 (fun bU cA cP=>bif(!cP)then(k0 (⟨0,([]:ad),⟨0,0⟩,0⟩:Token) 0)else(k0 (⟨2,bU,⟨0,0⟩,0⟩:Token) cA)))else(bif(decide ((v7 ([123,125,91,93,44,58]:ad) ((x1.getD 0 0).toNat:Int))>=(0:Int)))then(ag (decide ((1:Int)<=x1.length)) (k0 (⟨1,((x1.drop 0).take (1 - 0)),⟨0,0⟩,0⟩:Token) 1))else(j25))))else(bif(((x1.getD 0 0).toNat:Int)==34)then(qe x1 (fun cV eA eB=>bif(!eB)then(k0 (⟨0,([]:ad),⟨0,0⟩,0⟩:Token) 0)else(k0 (⟨2,cV,⟨0,0⟩,0⟩:Token) eA)))else(bif(decide ((v7 ([123,125,91,93,44,58]:ad) ((x1.getD 0 0).toNat:Int))>=(0:Int)))then(ag (decide ((1:Int)<=x1.length)) (k0 (⟨1,((x1.drop 0).take (1 - 0)),⟨0,0⟩,0⟩:Token) 1))else(j25)))))
theorem axh:aP (R:=R) tt (axg qe mJ iH) bm false Tryz.f119 topic_Name_p topic_Name_q (af1 (Ml qe mJ iH)):=fun x y k=>by kernel_rfl
end
def qf:Mk R:=Ml qe mJ iH
theorem axi (R:Type):aN ao 119 (af2 (qf (R:=R))):=aR (axh qe mJ iH) TT mixed (.c (axf R) <| .c (aws R) <| .p (acM) <| .c (afh R) <| .n) rfl rfl bp
abbrev EV (R:Type):Type:=ad->((List Token)->Int->Int->Option R)->Option R
def UT (fn:EV R):br R topic_Name_p topic_Name_q:=fun x y k=>fn x.1 (fun q0 q1 q2=>k (.tuple [.sl .token q0 .no,af q1,af q2]) [])
def Mm (fn:EV R):=aL topic_Name_p topic_Name_q (UT fn)
abbrev af3 (R:Type):Type:=ad->(List Token)->Int->((List Token)->Int->Int->Option R)->(Int->Int->Option R)->Option R
abbrev UU (R:Type):Type:=Nat->af3 R
def af4:Hint:=⟨[0,2,4],[(2,.token)],[],[],[],[2,3,4]⟩
abbrev wL:Type:=ad×(List Token)×Int
def af5:wL->St:=fun d=>⟨.str d.1::.undef::.sl .token d.2.1 (.own 0)::.undef::af d.2.2::U 40 ([]),[.tok]⟩
def axj (K:KT R) (q0:List Token) (q1:Int) (q2:Int):Option R:=K (.ret) ⟨U 2 (.sl .token q0 (.own 0)::af q1::af q2::U 40 ([])),[.tok]⟩
def axk (K:KT R) (q0:Int) (q1:Int):Option R:=K (.ret) ⟨U 2 (.bk::af q0::af q1::U 40 ([])),[]⟩
abbrev UW (K:KT R) (d:wL) (f:af3 R):Option R:=f d.1 d.2.1 d.2.2 (axj K) (axk K)
abbrev Mn:List ax:=dU::.leaf (.undef)::.leaf (.k9 .token 0)::.leaf (.undef)::bG::PU 40 ([])
def af6 (x:ax.aA Mn) (y:aH.aA jD):Nat:=(av x.1+av x.2.2.1+ah x.2.2.2.2.1+64)
def af7 (x:ax.aA Mn) (y:aH.aA jD):wL:=(x.1,x.2.2.1,x.2.2.2.2.1)
def axl (L:UU R):dC R Mn jD:=fun x y K=>UW K (af7 x y) (L (af6 x y))
section
variable (qf:Mk R) (iH:Hp R) (qg:UU R)
def af8:List (aY R):=[aO 119 (af2 qf),aO 118 (UB iH)]
def UX (aD:ad->(List Token)->Int->Option R) (x2:ad) (x3:List Token) (x4:Int) (e0:(List Token)->Int->Int->Option R) (e1:Int->Int->Option R):Option R:=
 ag (decide ((0:Int)<=(x2.length:Int))&&decide ((x2.length:Int)<=x2.length)) (ag (decide ((0:Int)<=x4)&&decide (x4<=(x2.length:Int))) (iH ((x2.drop x4.toNat).take ((x2.length:Int).toNat - x4.toNat)) ([32,9,10,13]:ad) (fun y5=>bif((ae.wrap (x4+(y5.length:Int)))==(x2.length:Int))then(ag (decide ((x3.length+1)*48<=140737488355328)) (e0 (x3++([(⟨5,([]:ad),⟨0,0⟩,(ae.wrap (x4+(y5.length:Int)))⟩:Token)]:List Token)) 0 0))else(ag (decide ((0:Int)<=(x2.length:Int))&&decide ((x2.length:Int)<=x2.length)) (ag (decide ((0:Int)<=(ae.wrap (x4+(y5.length:Int))))&&decide ((ae.wrap (x4+(y5.length:Int)))<=(x2.length:Int))) (qf ((x2.drop (ae.wrap (x4+(y5.length:Int))).toNat).take ((x2.length:Int).toNat - (ae.wrap (x4+(y5.length:Int))).toNat)) (fun y6 y7=>bif(y7==0)then(e1 30 (ae.wrap (x4+(y5.length:Int))))else(ag (decide ((x3.length+1)*48<=140737488355328)) (aD x2 (x3++([(⟨y6.kind,y6.text,⟨y6.num.aj,y6.num.exp⟩,(ae.wrap (x4+(y5.length:Int)))⟩:Token)]:List Token)) (ae.wrap ((ae.wrap (x4+(y5.length:Int)))+y7)))))))))))
def af9 (K:KT R) (rc:wL->Option R) (d:wL):Option R:=UW K d (UX qf iH (fun z0 z1 z2=>rc (z0,z1,z2)))
def aga:Nat->Option (Hint×bX R):=fun i=>match i with
 | 3=>some (af4,(cY Mn jD (axl qg) dz))
 | _=>none
theorem axm:dn (R:=R) tt (af8 qf iH) (aga qg) 0 Tryz.f79 0 af4 af5 (af9 qf iH):=fun K rc d=>by kernel_rfl
def Mo (x1:ad) (k0:(List Token)->Int->Int->Option R):Option R:=
 bif(decide ((x1.length:Int)>(20000:Int)))then(k0 ([]:List Token) 30 0)else(qg (av x1+av ([]:List Token)+ah 0+64) x1 ([]:List Token) 0 (fun y8 y9 bu=>k0 y8 y9 bu) (fun aS bg=>k0 ([]:List Token) aS bg))
theorem axn:aP (R:=R) tt (af8 qf iH) (aga qg) false Tryz.f79 topic_Name_p topic_Name_q (UT (Mo qg)):=fun x y k=>by kernel_rfl
end
def qg:UU R
 | 0,_,_,_,_,_=>none
 | n+1,aB,aC,aG,e0,e1=>UX qf iH (fun aB aC aG=>qg n aB aC aG e0 e1) aB aC aG e0 e1
def axo:=dD (R:=R) af5 (af9 qf iH) UW (qg) af6 af7 (axm qf iH qg) (fun _ _=>by kernel_rfl) (fun _ _ _=>by kernel_rfl) (fun _ _=>by kernel_rfl)
def uh:EV R:=Mo qg
theorem axp (R:Type):aN ao 79 (Mm (uh (R:=R))):=aR (axn qf iH qg) TT mixed (.c (axi R) <| .c (afh R) <| .n) rfl rfl (dE.all (by kernel_rfl) (.s .z (dJ (by kernel_rfl) (axo _ dH))))
abbrev Cp (R:Type):Type:=Int->(List Token)->Int->((List Token)->Int->Option R)->Option R
abbrev lK:List ax:=[.leaf (.ptr 0 0),bG]
abbrev ma:List aH:=[.cells [.sl .token,aF]]
def agb (fn:Cp R):br R lK ma:=fun x y k=>fn x.2.1 y.1.1 y.1.2.1 (fun q0 q1=>k (.tuple []) [.cells [.sl .token q0 .no,af q1]])
def HB (fn:Cp R):=aL lK ma (agb fn)
section
def agc (x1:Int) (x2:List Token) (x3:Int) (k0:(List Token)->Int->Option R):Option R:=
 bif(x3==0)then(k0 x2 x1)else(k0 x2 x3)
theorem axq:aP (R:=R) (tt.mode [.json]) [] bm false Tryz.f81 lK ma (agb agc):=fun x y k=>by kernel_rfl
end
def dS:Cp R:=agc
theorem Mp (R:Type):aN ao 81 (HB (dS (R:=R))):=aR (axq) (TT.mode [.json]) mixed .n rfl rfl bp
variable {R:Type}
abbrev HC (R:Type):Type:=ad->(List Token)->Int->(Bool->(List Token)->Int->Option R)->Option R
def agd (fn:HC R):br R lh ma:=fun x y k=>fn x.2.1 y.1.1 y.1.2.1 (fun q0 q1 q2=>k (.bool q0) [.cells [.sl .token q1 .no,af q2]])
def UY (fn:HC R):=aL lh ma (agd fn)
section
def age (x1:ad) (x2:List Token) (x3:Int) (k0:Bool->(List Token)->Int->Option R):Option R:=
 ag (decide ((0:Int)<x2.length)) (bif(x3 != 0)then(k0 false x2 x3)else(bif((x2.getD 0 (Ty.az .token)).kind != 1)then(k0 false x2 x3)else(bif(!((x2.getD 0 (Ty.az .token)).text==x1))then(k0 false x2 x3)else(ag (decide ((1:Int)<=x2.length)) (k0 true (x2.drop 1) x3)))))
theorem axr:aP (R:=R) (tt.mode [.json]) [] bm false Tryz.f199 lh ma (agd age):=fun x y k=>by kernel_rfl
end
def ef:HC R:=age
theorem agf (R:Type):aN ao 199 (UY (ef (R:=R))):=aR (axr) (TT.mode [.json]) mixed .n rfl rfl bp
abbrev Mq (R:Type):Type:=(List ad)->(List Token)->Int->(ad->(List Token)->Int->Option R)->Option R
abbrev UZ:List ax:=[.leaf (.ptr 0 0),.leaf (.k9 .str 1)]
abbrev U0:List aH:=[.cells [.sl .token,aF],.tok]
def agh (fn:Mq R):br R UZ U0:=fun x y k=>fn x.2.1 y.1.1 y.1.2.1 (fun q0 q1 q2=>k (.str q0) [.cells [.sl .token q1 .no,af q2],.tok])
def agi (fn:Mq R):=aL UZ U0 (agh fn)
section
variable (dS:Cp R) (ef:HC R) (ki:AE R)
def axs:List (aY R):=[dp 81 (HB dS),dp 199 (UY ef),aO 85 (Ev ki)]
def agj (x1:List ad) (x2:List Token) (x3:Int) (k0:ad->(List Token)->Int->Option R):Option R:=
 ag (decide ((0:Int)<x2.length)) (bif((x2.getD 0 (Ty.az .token)).kind != 2)then(dS 40 x2 x3 (fun y4 y5=>k0 ((x2.getD 0 (Ty.az .token)).text) y4 y5))else(ki x1 ((x2.getD 0 (Ty.az .token)).text) (fun y6=>bif y6 then(dS 42 x2 x3 (fun y7 y8=>k0 ((x2.getD 0 (Ty.az .token)).text) y7 y8))else(ag (decide ((1:Int)<=x2.length)) (ef ([58]:ad) (x2.drop 1) x3 (fun y9 bu aS=>bif(!y9)then(dS 40 bu aS (fun bg cd=>k0 ((x2.getD 0 (Ty.az .token)).text) bg cd))else(k0 ((x2.getD 0 (Ty.az .token)).text) bu aS)))))))
theorem axt:aP (R:=R) (tt.mode [.json]) (axs dS ef ki) bm false Tryz.f162 UZ U0 (agh (agj dS ef ki)):=fun x y k=>by kernel_rfl
end
def sW:Mq R:=agj dS ef ki
theorem axu (R:Type):aN ao 162 (agi (sW (R:=R))):=aR (axt dS ef ki) (TT.mode [.json]) mixed (.d (Mp R) rfl <| .d (agf R) rfl <| .c (adz R) <| .n) rfl rfl bp
variable {R:Type}
abbrev jq (R:Type):Type:=Int->(List Token)->Int->(Json->(List Token)->Int->Option R)->Option R
def rQ (fn:jq R):br R lK ma:=fun x y k=>fn x.2.1 y.1.1 y.1.2.1 (fun q0 q1 q2=>k (lE q0) [.cells [.sl .token q1 .no,af q2]])
def agk (fn:jq R):=aL lK ma (rQ fn)
abbrev Mr (R:Type):Type:=Bool->Int->Int->Int->ad->(List ad)->Nat->Int->(List Json)->(List Token)->Int->(Bool->Int->Int->Int->ad->(List ad)->Nat->Int->(List Token)->Int->(List Json)->Option R)->(Bool->Int->Int->Int->ad->(List ad)->Nat->Int->(List Json)->(List Token)->Int->Option R)->(Bool->Int->Int->Int->ad->(List ad)->Nat->Int->(List Token)->Int->(List Json)->Option R)->(Bool->Int->Int->Int->ad->(List ad)->Nat->Int->(List Json)->(List Token)->Int->Option R)->Option R
abbrev U1:List ax:=[.leaf (.ptr 0 0),.leaf (.ptr 1 0),.leaf (.ptr 2 0),.leaf (.ptr 3 0)]
abbrev U2:List aH:=[.cells [.bool],.cells [aF,aF,aF,.str,.k9 .str 4,.row 5],.cells [.ptr 6 0],.cells [aF],.tok,.row .json,.cells [.sl .token,aF]]
def agl (fn:Mr R):br R U1 U2:=fun x y k=>fn y.1.1 y.2.1.1 y.2.1.2.1 y.2.1.2.2.1 y.2.1.2.2.2.1 y.2.1.2.2.2.2.1 y.2.1.2.2.2.2.2.1 y.2.2.2.1.1 y.2.2.2.2.2.1 y.2.2.2.2.2.2.1.1 y.2.2.2.2.2.2.1.2.1 (fun q0 q1 q2 q3 q4 q5 q6 q7 q8 q9 lF=>k (.tuple []) [.cells [.bool q0],.cells [af q1,af q2,af q3,.str q4,.sl .str q5 (.own 7),.row 8 q6],.cells [.ptr 6 0],.cells [af q7],.dead,.dead,.cells [.sl .token q8 .no,af q9],.tok,.row .json lF]) (fun q0 q1 q2 q3 q4 q5 q6 q7 q8 q9 lF=>k (.tuple []) [.cells [.bool q0],.cells [af q1,af q2,af q3,.str q4,.sl .str q5 (.own 7),.row 5 q6],.cells [.ptr 6 0],.cells [af q7],.dead,.row .json q8,.cells [.sl .token q9 .no,af lF],.tok]) (fun q0 q1 q2 q3 q4 q5 q6 q7 q8 q9 lF=>k (.tuple []) [.cells [.bool q0],.cells [af q1,af q2,af q3,.str q4,.sl .str q5 (.own 4),.row 7 q6],.cells [.ptr 6 0],.cells [af q7],.tok,.dead,.cells [.sl .token q8 .no,af q9],.row .json lF]) (fun q0 q1 q2 q3 q4 q5 q6 q7 q8 q9 lF=>k (.tuple []) [.cells [.bool q0],.cells [af q1,af q2,af q3,.str q4,.sl .str q5 (.own 4),.row 5 q6],.cells [.ptr 6 0],.cells [af q7],.tok,.row .json q8,.cells [.sl .token q9 .no,af lF]])
def agm (fn:Mr R):=aL U1 U2 (agl fn)
section
variable (sW:Mq R) (eg:jq R)
def axv:List (aY R):=[dp 162 (agi sW),dp 80 (aL lK ma (rQ eg))]
def AK (x1:Bool) (x2:Int) (x3:Int) (x4:Int) (x5:ad) (x6:List ad) (x7:Nat) (x8:Int) (x9:List Json) (gL:List Token) (hU:Int) (k0:Bool->Int->Int->Int->ad->(List ad)->Nat->Int->(List Token)->Int->(List Json)->Option R) (k1:Bool->Int->Int->Int->ad->(List ad)->Nat->Int->(List Json)->(List Token)->Int->Option R) (k2:Bool->Int->Int->Int->ad->(List ad)->Nat->Int->(List Token)->Int->(List Json)->Option R) (k3:Bool->Int->Int->Int->ad->(List ad)->Nat->Int->(List Json)->(List Token)->Int->Option R):Option R:=
 bif x1 then(sW x6 gL hU (fun bg cd aU=>ag (decide ((x6.length+1)*16<=140737488355328)) (bif(aU==0)then(eg (ae.wrap (x8+1)) cd aU (fun bU cA cP=>ag (decide ((x9.length+1)*88<=140737488355328)) (ag (decide ((0:Int)<=(x7:Int))&&decide ((x7:Int)<(x9.length+1))) (ag (decide ((x7:Int).toNat<(x9++([(⟨0,⟨0,0⟩,([]:ad),([]:List ad),([]:List Json)⟩:Json)]:List Json)).length)) (k0 x1 x2 x3 x4 x5 (x6++([bg]:List ad)) (x9.length+1) x8 cA cP ((x9++([(⟨0,⟨0,0⟩,([]:ad),([]:List ad),([]:List Json)⟩:Json)]:List Json)).set ((x7:Int).toNat) (⟨bU.kind,⟨bU.num.aj,bU.num.exp⟩,bU.text,bU.names,bU.items⟩:Json)))))))else(k1 x1 x2 x3 x4 x5 (x6++([bg]:List ad)) x7 x8 x9 cd aU))))else(bif(hU==0)then(eg (ae.wrap (x8+1)) gL hU (fun cV eA eB=>ag (decide ((x9.length+1)*88<=140737488355328)) (ag (decide ((0:Int)<=(x7:Int))&&decide ((x7:Int)<(x9.length+1))) (ag (decide ((x7:Int).toNat<(x9++([(⟨0,⟨0,0⟩,([]:ad),([]:List ad),([]:List Json)⟩:Json)]:List Json)).length)) (k2 x1 x2 x3 x4 x5 x6 (x9.length+1) x8 eA eB ((x9++([(⟨0,⟨0,0⟩,([]:ad),([]:List ad),([]:List Json)⟩:Json)]:List Json)).set ((x7:Int).toNat) (⟨cV.kind,⟨cV.num.aj,cV.num.exp⟩,cV.text,cV.names,cV.items⟩:Json)))))))else(k3 x1 x2 x3 x4 x5 x6 x7 x8 x9 gL hU))
theorem axw:aP (R:=R) (tt.mode [.json]) (axv sW eg) bm false Tryz.f161 U1 U2 (agl (AK sW eg)):=fun x y k=>by kernel_rfl
end
def nt (eg:jq R):Mr R:=AK sW eg
theorem axx (R:Type) (eg:jq R) (Cq:ak.Spec.Ok ao 80 (aL lK ma (rQ eg) dy)):aN ao 161 (agm (nt eg)):=aR (axw sW eg) (TT.mode [.json]) mixed (.d (axu R) rfl <| .f Cq rfl <| .n) rfl rfl bp
abbrev Ms (R:Type):Type:=ad->(List Token)->Int->Bool->Int->Int->Int->ad->Int->((List Token)->Int->Bool->Int->Int->Int->ad->Int->Option R)->((List Token)->Int->Bool->Int->Int->Int->ad->(List ad)->Nat->Int->(List Json)->Option R)->Option R
abbrev U3:List ax:=[.leaf (.ptr 0 0),dU,.func 161 [] [.ptr 1 0,.ptr 2 0,.ptr 3 0,.ptr 4 0]]
abbrev U4:List aH:=[.cells [.sl .token,aF],.cells [.bool],.cells [aF,aF,aF,.str,.bk,.bk],.cells [.ptr 0 0],.cells [aF]]
def agn (fn:Ms R):br R U3 U4:=fun x y k=>fn x.2.1 y.1.1 y.1.2.1 y.2.1.1 y.2.2.1.1 y.2.2.1.2.1 y.2.2.1.2.2.1 y.2.2.1.2.2.2.1 y.2.2.2.2.1.1 (fun q0 q1 q2 q3 q4 q5 q6 q7=>k (.tuple []) [.cells [.sl .token q0 .no,af q1],.cells [.bool q2],.cells [af q3,af q4,af q5,.str q6,.bk,.bk],.cells [.ptr 0 0],.cells [af q7]]) (fun q0 q1 q2 q3 q4 q5 q6 q7 q8 q9 lF=>k (.tuple []) [.cells [.sl .token q0 .no,af q1],.cells [.bool q2],.cells [af q3,af q4,af q5,.str q6,.sl .str q7 (.own 5),.row 6 q8],.cells [.ptr 0 0],.cells [af q9],.tok,.row .json lF])
def ago (fn:Ms R):=aL U3 U4 (agn fn)
abbrev agp (R:Type):Type:=ad->(List Token)->Int->Bool->Int->Int->Int->ad->(List ad)->Nat->Int->(List Json)->((List Token)->Int->Bool->Int->Int->Int->ad->(List ad)->Nat->Int->(List Json)->Option R)->Option R
abbrev U5 (R:Type):Type:=Nat->agp R
def agq:Hint:=⟨[0,1,2],[],[],[(2,4,.str,false),(2,5,.json,true)],[],[]⟩
abbrev HD:Type:=ad×(List Token)×Int×Bool×Int×Int×Int×ad×(List ad)×Nat×Int×(List Json)
def agr:HD->St:=fun d=>⟨.ptr 0 0::.str d.1::.func 161 [] [.ptr 1 0,.ptr 2 0,.ptr 3 0,.ptr 4 0]::U 23 ([]),[.cells [.sl .token d.2.1 .no,af d.2.2.1],.cells [.bool d.2.2.2.1],.cells [af d.2.2.2.2.1,af d.2.2.2.2.2.1,af d.2.2.2.2.2.2.1,.str d.2.2.2.2.2.2.2.1,.sl .str d.2.2.2.2.2.2.2.2.1 (.own 5),.row 6 d.2.2.2.2.2.2.2.2.2.1],.cells [.ptr 0 0],.cells [af d.2.2.2.2.2.2.2.2.2.2.1],.tok,.row .json d.2.2.2.2.2.2.2.2.2.2.2]⟩
def axy (K:KT R) (q0:List Token) (q1:Int) (q2:Bool) (q3:Int) (q4:Int) (q5:Int) (q6:ad) (q7:List ad) (q8:Nat) (q9:Int) (lF:List Json):Option R:=K (.ret) ⟨U 26 ([]),[.cells [.sl .token q0 .no,af q1],.cells [.bool q2],.cells [af q3,af q4,af q5,.str q6,.sl .str q7 (.own 5),.row 6 q8],.cells [.ptr 0 0],.cells [af q9],.tok,.row .json lF]⟩
abbrev U6 (K:KT R) (d:HD) (f:agp R):Option R:=f d.1 d.2.1 d.2.2.1 d.2.2.2.1 d.2.2.2.2.1 d.2.2.2.2.2.1 d.2.2.2.2.2.2.1 d.2.2.2.2.2.2.2.1 d.2.2.2.2.2.2.2.2.1 d.2.2.2.2.2.2.2.2.2.1 d.2.2.2.2.2.2.2.2.2.2.1 d.2.2.2.2.2.2.2.2.2.2.2 (axy K)
abbrev Mt:List ax:=.leaf (.ptr 0 0)::dU::.func 161 [] [.ptr 1 0,.ptr 2 0,.ptr 3 0,.ptr 4 0]::PU 23 ([])
abbrev Mu:List aH:=[.cells [.sl .token,aF],.cells [.bool],.cells [aF,aF,aF,.str,.k9 .str 5,.row 6],.cells [.ptr 0 0],.cells [aF],.tok,.row .json]
def ags (x:ax.aA Mt) (y:aH.aA Mu):Nat:=(av x.2.1+av y.1.1+ah y.1.2.1+ah y.2.2.1.1+ah y.2.2.1.2.1+ah y.2.2.1.2.2.1+av y.2.2.1.2.2.2.1+av y.2.2.1.2.2.2.2.1+ah y.2.2.2.2.1.1+av y.2.2.2.2.2.2.1+64)
def agt (x:ax.aA Mt) (y:aH.aA Mu):HD:=(x.2.1,y.1.1,y.1.2.1,y.2.1.1,y.2.2.1.1,y.2.2.1.2.1,y.2.2.1.2.2.1,y.2.2.1.2.2.2.1,y.2.2.1.2.2.2.2.1,y.2.2.1.2.2.2.2.2.1,y.2.2.2.2.1.1,y.2.2.2.2.2.2.1)
def axz (L:U5 R):dC R Mt Mu:=fun x y K=>U6 K (agt x y) (L (ags x y))
section
variable (dS:Cp R) (nt:Mr R) (ef:HC R) (kQ:U5 R)
def agu:List (aY R):=[dp 81 (HB dS),dp 161 (agm nt),dp 199 (UY ef)]
def U7 (aD:ad->(List Token)->Int->Bool->Int->Int->Int->ad->(List ad)->Nat->Int->(List Json)->Option R) (eK:ad) (fC:List Token) (bw:Int) (bZ:Bool) (bt:Int) (cm:Int) (dN:Int) (dk:ad) (nq:List ad) (x22:Nat) (ib:Int) (qa:List Json) (e0:(List Token)->Int->Bool->Int->Int->Int->ad->(List ad)->Nat->Int->(List Json)->Option R):Option R:=
 nt bZ bt cm dN dk nq x22 ib qa fC bw (fun dK fO cH cN fo dG fv ff iX kN kO=>bif(kN != 0)then(e0 iX kN dK fO cH cN fo dG fv ff kO)else(ef eK iX kN (fun y69 AL AM=>bif y69 then(e0 AL AM dK fO cH cN fo dG fv ff kO)else(ef ([44]:ad) AL AM (fun rR mK EW=>bif(!rR)then(dS 40 mK EW (fun HE HF=>e0 HE HF dK fO cH cN fo dG fv ff kO))else(aD eK mK EW dK fO cH cN fo dG fv ff kO)))))) (fun ia l8 l9 jk kJ lY lZ mF mG od nj=>bif(nj != 0)then(e0 od nj ia l8 l9 jk kJ lY lZ mF mG)else(ef eK od nj (fun Cr ui uj=>bif Cr then(e0 ui uj ia l8 l9 jk kJ lY lZ mF mG)else(ef ([44]:ad) ui uj (fun Cs uk um=>bif(!Cs)then(dS 40 uk um (fun yD EX=>e0 yD EX ia l8 l9 jk kJ lY lZ mF mG))else(aD eK uk um ia l8 l9 jk kJ lY lZ mF mG)))))) (fun oY pZ wi oZ nr ll lH lI UP Hv Hw=>bif(Hv != 0)then(e0 UP Hv oY pZ wi oZ nr ll lH lI Hw)else(ef eK UP Hv (fun Mv HG HH=>bif Mv then(e0 HG HH oY pZ wi oZ nr ll lH lI Hw)else(ef ([44]:ad) HG HH (fun Ct AN HI=>bif(!Ct)then(dS 40 AN HI (fun Cu axA=>e0 Cu axA oY pZ wi oZ nr ll lH lI Hw))else(aD eK AN HI oY pZ wi oZ nr ll lH lI Hw)))))) (fun Hx ET wM sY wN sZ Mw Mx My y67 U8=>bif(U8 != 0)then(e0 y67 U8 Hx ET wM sY wN sZ Mw Mx My)else(ef eK y67 U8 (fun axB agv agw=>bif axB then(e0 agv agw Hx ET wM sY wN sZ Mw Mx My)else(ef ([44]:ad) agv agw (fun axC agx agy=>bif(!axC)then(dS 40 agx agy (fun axD axE=>e0 axD axE Hx ET wM sY wN sZ Mw Mx My))else(aD eK agx agy Hx ET wM sY wN sZ Mw Mx My))))))
def agz (K:KT R) (rc:HD->Option R) (d:HD):Option R:=U6 K d (U7 dS nt ef (fun z0 z1 z2 z3 z4 z5 z6 z7 z8 z9 bM bH=>rc (z0,z1,z2,z3,z4,z5,z6,z7,z8,z9,bM,bH)))
def agA:Nat->Option (Hint×bX R):=fun i=>match i with
 | 1=>some (agq,(cY Mt Mu (axz kQ) dz))
 | _=>none
theorem axF:dn (R:=R) (tt.mode [.json]) (agu dS nt ef) (agA kQ) 5 Tryz.f160 0 agq agr (agz dS nt ef):=fun K rc d=>by kernel_rfl
def agB (x1:ad) (x2:List Token) (x3:Int) (x4:Bool) (x5:Int) (x6:Int) (x7:Int) (x8:ad) (x9:Int) (k0:(List Token)->Int->Bool->Int->Int->Int->ad->Int->Option R) (k1:(List Token)->Int->Bool->Int->Int->Int->ad->(List ad)->Nat->Int->(List Json)->Option R):Option R:=
 ef x1 x2 x3 (fun bu aS bg=>bif bu then(k0 aS bg x4 x5 x6 x7 x8 x9)else(kQ (av x1+av aS+ah bg+ah x5+ah x6+ah x7+av x8+av ([]:List ad)+ah x9+av ([]:List Json)+64) x1 aS bg x4 x5 x6 x7 x8 ([]:List ad) 0 x9 ([]:List Json) (fun axG axH axI axJ axK axL axM axN axO axP axQ=>k1 axG axH axI axJ axK axL axM axN axO axP axQ)))
theorem axR:aP (R:=R) (tt.mode [.json]) (agu dS nt ef) (agA kQ) false Tryz.f160 U3 U4 (agn (agB ef kQ)):=fun x y k=>by kernel_rfl
end
def kQ (eg:jq R):U5 R
 | 0,_,_,_,_,_,_,_,_,_,_,_,_,_=>none
 | n+1,aB,aC,aG,bq,cg,cw,dP,eC,eD,eE,fm,jm,e0=>U7 dS (nt eg) ef (fun aB aC aG bq cg cw dP eC eD eE fm jm=>kQ eg n aB aC aG bq cg cw dP eC eD eE fm jm e0) aB aC aG bq cg cw dP eC eD eE fm jm e0
def axS (eg:jq R):=dD (R:=R) agr (agz dS (nt eg) ef) U6 (kQ eg) ags agt (axF dS (nt eg) ef (kQ eg)) (fun _ _=>by kernel_rfl) (fun _ _ _=>by kernel_rfl) (fun _ _=>by kernel_rfl)
def nu (eg:jq R):Ms R:=agB ef (kQ eg)
theorem axT (R:Type) (eg:jq R) (Cq:ak.Spec.Ok ao 80 (aL lK ma (rQ eg) dy)):aN ao 160 (ago (nu eg)):=aR (axR dS (nt eg) ef (kQ eg)) (TT.mode [.json]) mixed (.d (Mp R) rfl <| .d (axx R eg Cq) rfl <| .d (agf R) rfl <| .n) rfl rfl (dE.all (by kernel_rfl) (.s .z (dJ (by kernel_rfl) (axS eg _ dH))))
abbrev Mz (R:Type):Type:=Bool->Int->(List Token)->Int->(Json->(List Token)->Int->Option R)->Option R
abbrev U9:List ax:=[.leaf (.ptr 0 0),.leaf (.bool),bG]
def agC (fn:Mz R):br R U9 ma:=fun x y k=>fn x.2.1 x.2.2.1 y.1.1 y.1.2.1 (fun q0 q1 q2=>k (lE q0) [.cells [.sl .token q1 .no,af q2]])
def agD (fn:Mz R):=aL U9 ma (agC fn)
section
variable (nu:Ms R)
def axU:List (aY R):=[dp 160 (ago nu)]
def agE (x1:Bool) (x2:Int) (x3:List Token) (x4:Int) (k0:Json->(List Token)->Int->Option R):Option R:=
 bif x1 then(nu ([125]:ad) x3 x4 x1 7 0 0 ([]:ad) x2 (fun y5 y6 y7 y8 y9 bu aS bg=>k0 (⟨y8,⟨y9,bu⟩,aS,([]:List ad),([]:List Json)⟩:Json) y5 y6) (fun cd aU bU cA cP cV eA eB bB jl fe=>k0 (⟨cA,⟨cP,cV⟩,eA,eB,fe⟩:Json) cd aU))else(nu ([93]:ad) x3 x4 x1 6 0 0 ([]:ad) x2 (fun iG dK fO cH cN fo dG fv=>k0 (⟨cH,⟨cN,fo⟩,dG,([]:List ad),([]:List Json)⟩:Json) iG dK) (fun ff iX kN kO ia l8 l9 jk kJ lY lZ=>k0 (⟨kO,⟨ia,l8⟩,l9,jk,lZ⟩:Json) ff iX))
theorem axV:aP (R:=R) (tt.mode [.json]) (axU nu) bm false Tryz.f120 U9 ma (agC (agE nu)):=fun x y k=>by kernel_rfl
end
def s5 (eg:jq R):Mz R:=agE (nu eg)
theorem axW (R:Type) (eg:jq R) (Cq:ak.Spec.Ok ao 80 (aL lK ma (rQ eg) dy)):aN ao 120 (agD (s5 eg)):=aR (axV (nu eg)) (TT.mode [.json]) mixed (.d (axT R eg Cq) rfl <| .n) rfl rfl bp
section
variable (dS:Cp R) (s5:Mz R)
def axX:List (aY R):=[dp 81 (HB dS),dp 120 (agD s5)]
def agF (x1:Int) (x2:List Token) (x3:Int) (k0:Json->(List Token)->Int->Option R):Option R:=
 ag (decide ((0:Int)<x2.length)) (let EY:=fun(z4:Bool)=>let Va:=fun(z9:List Token) (bM:Int)=>bif(bM != 0)then(k0 (⟨0,⟨0,0⟩,([]:ad),([]:List ad),([]:List Json)⟩:Json) z9 bM)else(ag (decide ((1:Int)<=z9.length)) (let uo:=bif((x2.getD 0 (Ty.az .token)).kind==3)then(k0 (⟨4,⟨(x2.getD 0 (Ty.az .token)).num.aj,(x2.getD 0 (Ty.az .token)).num.exp⟩,([]:ad),([]:List ad),([]:List Json)⟩:Json) (z9.drop 1) bM)else(k0 (⟨5,⟨0,0⟩,(x2.getD 0 (Ty.az .token)).text,([]:List ad),([]:List Json)⟩:Json) (z9.drop 1) bM); let j17:=fun(bH:Bool)=>bif bH then(bif((x2.getD 0 (Ty.az .token)).kind==1)then(s5 ((x2.getD 0 (Ty.az .token)).text==([123]:ad)) x1 (z9.drop 1) bM (fun bg cd aU=>k0 (⟨bg.kind,⟨bg.num.aj,bg.num.exp⟩,bg.text,bg.names,bg.items⟩:Json) cd aU))else(uo))else(let wO:=fun(lk:Bool)=>bif lk then(bif((x2.getD 0 (Ty.az .token)).kind==4)then(k0 (⟨((iu .str (.int .i64) ((x2.getD 0 (Ty.az .token)).text) ([(([110,117,108,108]:ad),1),(([102,97,108,115,101]:ad),2),(([116,114,117,101]:ad),3)]:List (ad×Int))):Int),⟨0,0⟩,([]:ad),([]:List ad),([]:List Json)⟩:Json) (z9.drop 1) bM)else(uo))else(uo); bif((x2.getD 0 (Ty.az .token)).text==([110,117,108,108]:ad))then(wO ((x2.getD 0 (Ty.az .token)).text==([110,117,108,108]:ad)))else(bif((x2.getD 0 (Ty.az .token)).text==([102,97,108,115,101]:ad))then(wO ((x2.getD 0 (Ty.az .token)).text==([102,97,108,115,101]:ad)))else(wO ((x2.getD 0 (Ty.az .token)).text==([116,114,117,101]:ad))))); bif((x2.getD 0 (Ty.az .token)).text==([91]:ad))then(j17 ((x2.getD 0 (Ty.az .token)).text==([91]:ad)))else(j17 ((x2.getD 0 (Ty.az .token)).text==([123]:ad))))); bif(!z4)then(dS 40 x2 x3 (fun y5 y6=>Va y5 y6))else(bif(decide (x1>(16:Int)))then(dS 41 x2 x3 (fun y7 y8=>Va y7 y8))else(Va x2 x3)); bif((x2.getD 0 (Ty.az .token)).kind==2)then(EY true)else(bif((x2.getD 0 (Ty.az .token)).kind==3)then(EY true)else(bif((x2.getD 0 (Ty.az .token)).kind==4)then(EY true)else(bif((x2.getD 0 (Ty.az .token)).kind==1)then(bif((x2.getD 0 (Ty.az .token)).text==([91]:ad))then(EY true)else(EY ((x2.getD 0 (Ty.az .token)).text==([123]:ad))))else(EY false)))))
theorem axY:aP (R:=R) (tt.mode [.json]) (axX dS s5) bm false Tryz.f80 lK ma (rQ (agF dS s5)):=fun x y k=>by kernel_rfl
end
def Vb (eg:jq R):jq R:=agF dS (s5 eg)
theorem axZ (R:Type) (eg:jq R) (Cq:ak.Spec.Ok ao 80 (aL lK ma (rQ eg) dy)):aN ao 80 (agk (Vb eg)):=aR (axY dS (s5 eg)) (TT.mode [.json]) mixed (.d (Mp R) rfl <| .d (axW R eg Cq) rfl <| .n) rfl rfl bp
def lL:Nat->jq R
 | 0,_,_,_,_=>none
 | n+1,aB,aC,aG,o3=>Vb (lL n) aB aC aG o3
theorem aJl (n:Nat):lL (R:=R) (n+1)=Vb (lL n):=by kernel_rfl
theorem ax0 (R:Type):∀n,ak.Spec.Ok ao 80 (aL lK ma (rQ (lL (R:=R) n)) dy):=
 yo (run:=fun n=>rQ (lL (R:=R) n)) (fun x y k=>by kernel_rfl) fun n hyp=>axZ R (lL n) hyp dy (iB _)
def ur:jq R:=fun x1 x2 x3 k0=>lL 40 x1 x2 x3 k0
theorem ax1 (R:Type):rQ (R:=R) ur=fun x y k=>rQ (lL 40) x y k:=by kernel_rfl
theorem ax2 (R:Type) (other:ak.Spec R) (ho:ak.Spec.Ok ao 80 other):ak.Spec.Ok ao 80 (aL lK ma (rQ ur) other):=
 Ax (Aw (run:=fun n=>rQ (lL (R:=R) n)) (fun x y=>40) ho (ax0 R)) (ax1 R)
variable {R:Type}
abbrev wP (R:Type):Type:=ad->(Json->Int->Int->Option R)->Option R
def Vc (fn:wP R):br R topic_Name_p topic_Name_q:=fun x y k=>fn x.1 (fun q0 q1 q2=>k (.tuple [lE q0,af q1,af q2]) [])
def MA (fn:wP R):=aL topic_Name_p topic_Name_q (Vc fn)
section
variable (dS:Cp R) (ur:jq R) (uh:EV R)
def ax3:List (aY R):=[dp 81 (HB dS),dp 80 (agk ur),aO 79 (Mm uh)]
def MB (x1:ad) (k0:Json->Int->Int->Option R):Option R:=
 uh x1 (fun y2 y3 y4=>bif(y3 != 0)then(k0 (⟨0,⟨0,0⟩,([]:ad),([]:List ad),([]:List Json)⟩:Json) y3 y4)else(ur 1 y2 0 (fun y5 y6 y7=>let wI:=fun(bM:List Token) (bH:Int)=>bif(bH != 0)then(ag (decide ((0:Int)<bM.length)) (k0 (⟨0,⟨0,0⟩,([]:ad),([]:List ad),([]:List Json)⟩:Json) bH ((bM.getD 0 (Ty.az .token)).at_)))else(k0 (⟨y5.kind,⟨y5.num.aj,y5.num.exp⟩,y5.text,y5.names,y5.items⟩:Json) 0 0); ag (decide ((0:Int)<y6.length)) (bif((y6.getD 0 (Ty.az .token)).kind != 5)then(dS 40 y6 y7 (fun y8 y9=>wI y8 y9))else(wI y6 y7)))))
theorem ax4:aP (R:=R) tt (ax3 dS ur uh) bm false Tryz.f32 topic_Name_p topic_Name_q (Vc (MB dS ur uh)):=fun x y k=>by kernel_rfl
end
def km:wP R:=MB dS ur uh
theorem ax5 (R:Type):aN ao 32 (MA (km (R:=R))):=aR (ax4 dS ur uh) TT mixed (.d (Mp R) rfl <| .f (ax2 R _ (iB _)) rfl <| .c (axp R) <| .n) rfl rfl bp
abbrev uu (R:Type):Type:=Json->ad->(Json->Bool->Option R)->Option R
abbrev om:List ax:=[yp,dU]
def Vd (fn:uu R):br R om topic_Name_q:=fun x y k=>fn (dq x.1) x.2.1 (fun q0 q1=>k (.tuple [lE q0,.bool q1]) [])
def yE (fn:uu R):=aL om topic_Name_q (Vd fn)
section
variable (ni:G8 R)
def ax6:List (aY R):=[aO 127 (TC ni)]
def Ve (x1:Json) (x2:ad) (k0:Json->Bool->Option R):Option R:=
 ni x1.names x2 (fun y3=>bif(x1.kind != 7)then(k0 (⟨0,⟨0,0⟩,([]:ad),([]:List ad),([]:List Json)⟩:Json) false)else(bif(decide (y3<(0:Int)))then(k0 (⟨0,⟨0,0⟩,([]:ad),([]:List ad),([]:List Json)⟩:Json) false)else(bif(decide (y3>=(x1.items.length:Int)))then(k0 (⟨0,⟨0,0⟩,([]:ad),([]:List ad),([]:List Json)⟩:Json) false)else(ag (decide ((0:Int)<=y3)&&decide (y3<x1.items.length)) (k0 (⟨(x1.items.getD y3.toNat (Ty.az .json)).kind,⟨(x1.items.getD y3.toNat (Ty.az .json)).num.aj,(x1.items.getD y3.toNat (Ty.az .json)).num.exp⟩,(x1.items.getD y3.toNat (Ty.az .json)).text,(x1.items.getD y3.toNat (Ty.az .json)).names,(x1.items.getD y3.toNat (Ty.az .json)).items⟩:Json) true)))))
theorem ax7:aP (R:=R) tt (ax6 ni) bm false Tryz.f144 om topic_Name_q (Vd (Ve ni)):=fun x y k=>by kernel_rfl
end
def jG:uu R:=Ve ni
theorem Vf (R:Type):aN ao 144 (yE (jG (R:=R))):=aR (ax7 ni) TT mixed (.c (ady R) <| .n) rfl rfl bp
abbrev MC (R:Type):Type:=au->Int->(Int->Bool->Option R)->Option R
abbrev Vg:List ax:=[.agg [aF,aF],bG]
def agG (fn:MC R):br R Vg topic_Name_q:=fun x y k=>fn (⟨x.1.1,x.1.2.1⟩:au) x.2.1 (fun q0 q1=>k (.tuple [af q0,.bool q1]) [])
def agH (fn:MC R):=aL Vg topic_Name_q (agG fn)
abbrev agI (R:Type):Type:=Int->Int->Int->(Int->Option R)->(Int->Bool->Int->Option R)->Option R
abbrev Vh (R:Type):Type:=Nat->agI R
def agJ:Hint:=⟨[6,12,13],[],[],[],[],[4,5,6]⟩
abbrev HJ:Type:=Int×Int×Int
def agK:HJ->St:=fun d=>⟨U 6 (af d.1::U 5 (af d.2.1::af d.2.2::U 8 ([]))),[]⟩
def ax8 (K:KT R) (q0:Int):Option R:=K (.exit 0) ⟨U 6 (af q0::U 15 ([])),[]⟩
def ax9 (K:KT R) (q0:Int) (q1:Bool) (q2:Int):Option R:=K (.ret) ⟨U 4 (af q0::.bool q1::af q2::U 15 ([])),[]⟩
abbrev Vi (K:KT R) (d:HJ) (f:agI R):Option R:=f d.1 d.2.1 d.2.2 (ax8 K) (ax9 K)
abbrev MD:List ax:=PU 6 (bG::PU 5 (bG::bG::PU 8 ([])))
def agL (x:ax.aA MD) (y:aH.aA topic_Name_q):Nat:=(ah x.2.2.2.2.2.2.1+ah ((t8 x).2.2.2.2.1)+ah ((t8 x).2.2.2.2.2.1)+64)
def agM (x:ax.aA MD) (y:aH.aA topic_Name_q):HJ:=(x.2.2.2.2.2.2.1,(t8 x).2.2.2.2.1,(t8 x).2.2.2.2.2.1)
def aya (L:Vh R):dC R MD topic_Name_q:=fun x y K=>Vi K (agM x y) (L (agL x y))
section
variable (er:Es R) (rS:Vh R)
def agN:List (aY R):=[aO 135 (KL er)]
def ME (aD:Int->Int->Int->Option R) (x3:Int) (x4:Int) (x5:Int) (e0:Int->Option R) (e1:Int->Bool->Int->Option R):Option R:=
 bif(decide (x5<x4))then(er (-100000000000000000) x3 100000000000000000 (fun y6=>bif(!y6)then(e1 0 false x3)else(aD (ae.wrap (x3*10)) x4 (ae.wrap (x5+1)))))else(e0 x3)
def agO (K:KT R) (rc:HJ->Option R) (d:HJ):Option R:=Vi K d (ME er (fun z0 z1 z2=>rc (z0,z1,z2)))
def agP:Nat->Option (Hint×bX R):=fun i=>match i with
 | 3=>some (agJ,(cY MD topic_Name_q (aya rS) dz))
 | _=>none
theorem ayb:dn (R:=R) tt (agN er) (agP rS) 0 Tryz.f212 0 agJ agK (agO er):=fun K rc d=>by kernel_rfl
def Vj (x1:au) (x2:Int) (k0:Int->Bool->Option R):Option R:=
 rS (ah x1.aj+ah (ae.wrap (x1.exp - x2))+ah 0+64) x1.aj (ae.wrap (x1.exp - x2)) 0 (fun y7=>k0 y7 true) (fun y8 y9 bu=>k0 y8 y9)
theorem ayc:aP (R:=R) tt (agN er) (agP rS) false Tryz.f212 Vg topic_Name_q (agG (Vj rS)):=fun x y k=>by kernel_rfl
end
def rS:Vh R
 | 0,_,_,_,_,_=>none
 | n+1,aB,aC,aG,e0,e1=>ME er (fun aB aC aG=>rS n aB aC aG e0 e1) aB aC aG e0 e1
def ayd:=dD (R:=R) agK (agO er) Vi (rS) agL agM (ayb er rS) (fun _ _=>by kernel_rfl) (fun _ _ _=>by kernel_rfl) (fun _ _=>by kernel_rfl)
def yF:MC R:=Vj rS
theorem aye (R:Type):aN ao 212 (agH (yF (R:=R))):=aR (ayc er rS) TT mixed (.c (S9 R) <| .n) rfl rfl (dE.all (by kernel_rfl) (.s .z (dJ (by kernel_rfl) (ayd _ dH))))
abbrev EZ (R:Type):Type:=au->(Int->Bool->Option R)->Option R
def Vk (fn:EZ R):br R sQ topic_Name_q:=fun x y k=>fn (⟨x.1.1,x.1.2.1⟩:au) (fun q0 q1=>k (.tuple [af q0,.bool q1]) [])
def MF (fn:EZ R):=aL sQ topic_Name_q (Vk fn)
section
variable (fY:wk R) (yF:MC R)
def ayf:List (aY R):=[aO 164 (AG fY),aO 212 (agH yF)]
def Vl (x1:au) (k0:Int->Bool->Option R):Option R:=
 fY x1 (fun y2=>bif(!y2)then(k0 0 false)else(bif(decide (x1.exp<(0:Int)))then(k0 0 false)else(yF x1 0 (fun y4 y5=>k0 y4 y5))))
theorem ayg:aP (R:=R) tt (ayf fY yF) bm false Tryz.f186 sQ topic_Name_q (Vk (Vl fY yF)):=fun x y k=>by kernel_rfl
end
def wQ:EZ R:=Vl fY yF
theorem ayh (R:Type):aN ao 186 (MF (wQ (R:=R))):=aR (ayg fY yF) TT mixed (.c (T2 R) <| .c (aye R) <| .n) rfl rfl bp
abbrev MG (R:Type):Type:=Json->(Int->Bool->Option R)->Option R
def agQ (fn:MG R):br R gK topic_Name_q:=fun x y k=>fn (dq x.1) (fun q0 q1=>k (.tuple [af q0,.bool q1]) [])
def agR (fn:MG R):=aL gK topic_Name_q (agQ fn)
section
variable (wQ:EZ R)
def ayi:List (aY R):=[aO 186 (MF wQ)]
def Vm (x1:Json) (k0:Int->Bool->Option R):Option R:=
 wQ x1.num (fun y2 y3=>bif y3 then(k0 y2 (x1.kind==4))else(k0 y2 false))
theorem ayj:aP (R:=R) tt (ayi wQ) bm false Tryz.f146 gK topic_Name_q (agQ (Vm wQ)):=fun x y k=>by kernel_rfl
end
def wR:MG R:=Vm wQ
theorem ayk (R:Type):aN ao 146 (agR (wR (R:=R))):=aR (ayj wQ) TT mixed (.c (ayh R) <| .n) rfl rfl bp
abbrev oo (R:Type):Type:=Json->ad->(Int->Bool->Option R)->Option R
abbrev Vn:List ax:=[yp,dU,.leaf (.fn 146)]
def agS (fn:oo R):br R Vn topic_Name_q:=fun x y k=>fn (dq x.1) x.2.1 (fun q0 q1=>k (.tuple [af q0,.bool q1]) [])
def agT (fn:oo R):=aL Vn topic_Name_q (agS fn)
section
variable (jG:uu R) (wR:MG R)
def ayl:List (aY R):=[aO 144 (yE jG),aO 146 (agR wR)]
def Vo (x1:Json) (x2:ad) (k0:Int->Bool->Option R):Option R:=
 jG (⟨x1.kind,⟨x1.num.aj,x1.num.exp⟩,x1.text,x1.names,x1.items⟩:Json) x2 (fun y3 y4=>bif(!y4)then(k0 0 false)else(wR (⟨y3.kind,⟨y3.num.aj,y3.num.exp⟩,y3.text,y3.names,y3.items⟩:Json) (fun y5 y6=>bif y6 then(k0 y5 true)else(k0 0 false))))
theorem aym:aP (R:=R) tt (ayl jG wR) bm false Tryz.f145 Vn topic_Name_q (agS (Vo jG wR)):=fun x y k=>by kernel_rfl
end
def yG:oo R:=Vo jG wR
theorem ayn (R:Type):aN ao 145 (agT (yG (R:=R))):=aR (aym jG wR) TT mixed (.c (Vf R) <| .c (ayk R) <| .n) rfl rfl bp
def Vp (fn:oo R):br R om topic_Name_q:=fun x y k=>fn (dq x.1) x.2.1 (fun q0 q1=>k (.tuple [af q0,.bool q1]) [])
def wS (fn:oo R):=aL om topic_Name_q (Vp fn)
section
variable (yG:oo R)
def ayo:List (aY R):=[aO 145 (agT yG)]
def Vq (x1:Json) (x2:ad) (k0:Int->Bool->Option R):Option R:=
 yG (⟨x1.kind,⟨x1.num.aj,x1.num.exp⟩,x1.text,x1.names,x1.items⟩:Json) x2 (fun y3 y4=>k0 y3 y4)
theorem ayp:aP (R:=R) tt (ayo yG) bm false Tryz.f110 om topic_Name_q (Vp (Vq yG)):=fun x y k=>by kernel_rfl
end
def cW:oo R:=Vq yG
theorem Cv (R:Type):aN ao 110 (wS (cW (R:=R))):=aR (ayp yG) TT mixed (.c (ayn R) <| .n) rfl rfl bp
abbrev bV (R:Type):Type:=Json->ad->ak.State->(Bool->ad->ak.State->Option R)->Option R
abbrev gO:List ax:=[yp,.leaf (.ptr 0 0),.leaf (.ptr 1 0)]
abbrev Vr:List aH:=[.cells [.str],.cells [.ptr 2 0],.cells [aF,aF,.str,aF,aF,.bool,aF,aF,.bool,aF]]
def agU (fn:bV R):br R gO Vr:=fun x y k=>fn (dq x.1) y.1.1 (iC y.2.2.1) (fun q0 q1 q2=>k (.bool q0) [.cells [.str q1],.cells [.ptr 2 0],.cells [af q2.header,af q2.bC,.str q2.bW,af q2.order,af q2.update,.bool q2.live,af q2.node,af q2.seq,.bool q2.cB,af q2.accepted]])
def agV (fn:bV R):=aL gO Vr (agU fn)
section
variable (cW:oo R)
def ayq:List (aY R):=[aO 110 (wS cW)]
def MH (x1:Json) (x2:ad) (x3:ak.State) (k0:Bool->ad->ak.State->Option R):Option R:=
 cW (⟨x1.kind,⟨x1.num.aj,x1.num.exp⟩,x1.text,x1.names,x1.items⟩:Json) x2 (fun y4 y5=>k0 y5 x2 (⟨y4,x3.bC,x3.bW,x3.order,x3.update,x3.live,x3.node,x3.seq,x3.cB,x3.accepted⟩:ak.State))
theorem ayr:aP (R:=R) tt (ayq cW) bm false FX gO Vr (agU (MH cW)):=fun x y k=>by kernel_rfl
end
def jH:bV R:=MH cW
theorem ays (R:Type):aN ao 175 (agV (jH (R:=R))):=aR (ayr cW) TT mixed (.c (Cv R) <| .n) rfl rfl bp
abbrev Vs:List aH:=[.cells [.str],.cells [.ptr 2 1],.cells [aF,aF,.str,aF,aF,.bool,aF,aF,.bool,aF]]
def agW (fn:bV R):br R gO Vs:=fun x y k=>fn (dq x.1) y.1.1 (iC y.2.2.1) (fun q0 q1 q2=>k (.bool q0) [.cells [.str q1],.cells [.ptr 2 1],.cells [af q2.header,af q2.bC,.str q2.bW,af q2.order,af q2.update,.bool q2.live,af q2.node,af q2.seq,.bool q2.cB,af q2.accepted]])
def agX (fn:bV R):=aL gO Vs (agW fn)
section
variable (cW:oo R)
def ayt:List (aY R):=[aO 110 (wS cW)]
def MI (x1:Json) (x2:ad) (x3:ak.State) (k0:Bool->ad->ak.State->Option R):Option R:=
 cW (⟨x1.kind,⟨x1.num.aj,x1.num.exp⟩,x1.text,x1.names,x1.items⟩:Json) x2 (fun y4 y5=>k0 y5 x2 (⟨x3.header,y4,x3.bW,x3.order,x3.update,x3.live,x3.node,x3.seq,x3.cB,x3.accepted⟩:ak.State))
theorem ayu:aP (R:=R) tt (ayt cW) bm false FX gO Vs (agW (MI cW)):=fun x y k=>by kernel_rfl
end
def jI:bV R:=MI cW
theorem ayv (R:Type):aN ao 175 (agX (jI (R:=R))):=aR (ayu cW) TT mixed (.c (Cv R) <| .n) rfl rfl bp
abbrev MJ (R:Type):Type:=Json->(ad->Bool->Option R)->Option R
def agY (fn:MJ R):br R gK topic_Name_q:=fun x y k=>fn (dq x.1) (fun q0 q1=>k (.tuple [.str q0,.bool q1]) [])
def agZ (fn:MJ R):=aL gK topic_Name_q (agY fn)
section
def Vt (x1:Json) (k0:ad->Bool->Option R):Option R:=
 k0 x1.text (x1.kind==5)
theorem ayw:aP (R:=R) tt [] bm false Tryz.f109 gK topic_Name_q (agY Vt):=fun x y k=>by kernel_rfl
end
def yH:MJ R:=Vt
theorem ayx (R:Type):aN ao 109 (agZ (yH (R:=R))):=aR (ayw) TT mixed .n rfl rfl bp
abbrev wT (R:Type):Type:=Json->ad->(ad->Bool->Option R)->Option R
abbrev Vu:List ax:=[yp,dU,.leaf (.fn 109)]
def ag0 (fn:wT R):br R Vu topic_Name_q:=fun x y k=>fn (dq x.1) x.2.1 (fun q0 q1=>k (.tuple [.str q0,.bool q1]) [])
def ag1 (fn:wT R):=aL Vu topic_Name_q (ag0 fn)
section
variable (yH:MJ R) (jG:uu R)
def ayy:List (aY R):=[aO 109 (agZ yH),aO 144 (yE jG)]
def Vv (x1:Json) (x2:ad) (k0:ad->Bool->Option R):Option R:=
 jG (⟨x1.kind,⟨x1.num.aj,x1.num.exp⟩,x1.text,x1.names,x1.items⟩:Json) x2 (fun y3 y4=>bif(!y4)then(k0 ([]:ad) false)else(yH (⟨y3.kind,⟨y3.num.aj,y3.num.exp⟩,y3.text,y3.names,y3.items⟩:Json) (fun y5 y6=>bif y6 then(k0 y5 true)else(k0 ([]:ad) false))))
theorem ayz:aP (R:=R) tt (ayy yH jG) bm false Tryz.f108 Vu topic_Name_q (ag0 (Vv yH jG)):=fun x y k=>by kernel_rfl
end
def yI:wT R:=Vv yH jG
theorem ayA (R:Type):aN ao 108 (ag1 (yI (R:=R))):=aR (ayz yH jG) TT mixed (.c (ayx R) <| .c (Vf R) <| .n) rfl rfl bp
def Vw (fn:wT R):br R om topic_Name_q:=fun x y k=>fn (dq x.1) x.2.1 (fun q0 q1=>k (.tuple [.str q0,.bool q1]) [])
def MK (fn:wT R):=aL om topic_Name_q (Vw fn)
section
variable (yI:wT R)
def ayB:List (aY R):=[aO 108 (ag1 yI)]
def Vx (x1:Json) (x2:ad) (k0:ad->Bool->Option R):Option R:=
 yI (⟨x1.kind,⟨x1.num.aj,x1.num.exp⟩,x1.text,x1.names,x1.items⟩:Json) x2 (fun y3 y4=>k0 y3 y4)
theorem ayC:aP (R:=R) tt (ayB yI) bm false Tryz.f68 om topic_Name_q (Vw (Vx yI)):=fun x y k=>by kernel_rfl
end
def uv:wT R:=Vx yI
theorem ayD (R:Type):aN ao 68 (MK (uv (R:=R))):=aR (ayC yI) TT mixed (.c (ayA R) <| .n) rfl rfl bp
abbrev Vy:List aH:=[.cells [.str],.cells [.ptr 2 2],.cells [aF,aF,.str,aF,aF,.bool,aF,aF,.bool,aF]]
def ag2 (fn:bV R):br R gO Vy:=fun x y k=>fn (dq x.1) y.1.1 (iC y.2.2.1) (fun q0 q1 q2=>k (.bool q0) [.cells [.str q1],.cells [.ptr 2 2],.cells [af q2.header,af q2.bC,.str q2.bW,af q2.order,af q2.update,.bool q2.live,af q2.node,af q2.seq,.bool q2.cB,af q2.accepted]])
def ag3 (fn:bV R):=aL gO Vy (ag2 fn)
section
variable (uv:wT R)
def ayE:List (aY R):=[aO 68 (MK uv)]
def ML (x1:Json) (x2:ad) (x3:ak.State) (k0:Bool->ad->ak.State->Option R):Option R:=
 uv (⟨x1.kind,⟨x1.num.aj,x1.num.exp⟩,x1.text,x1.names,x1.items⟩:Json) x2 (fun y4 y5=>k0 y5 x2 (⟨x3.header,x3.bC,y4,x3.order,x3.update,x3.live,x3.node,x3.seq,x3.cB,x3.accepted⟩:ak.State))
theorem ayF:aP (R:=R) tt (ayE uv) bm false Tryz.f177 gO Vy (ag2 (ML uv)):=fun x y k=>by kernel_rfl
end
def jJ:bV R:=ML uv
theorem ayG (R:Type):aN ao 177 (ag3 (jJ (R:=R))):=aR (ayF uv) TT mixed (.c (ayD R) <| .n) rfl rfl bp
abbrev Vz:List aH:=[.cells [.str],.cells [.ptr 2 3],.cells [aF,aF,.str,aF,aF,.bool,aF,aF,.bool,aF]]
def ag4 (fn:bV R):br R gO Vz:=fun x y k=>fn (dq x.1) y.1.1 (iC y.2.2.1) (fun q0 q1 q2=>k (.bool q0) [.cells [.str q1],.cells [.ptr 2 3],.cells [af q2.header,af q2.bC,.str q2.bW,af q2.order,af q2.update,.bool q2.live,af q2.node,af q2.seq,.bool q2.cB,af q2.accepted]])
def ag5 (fn:bV R):=aL gO Vz (ag4 fn)
section
variable (cW:oo R)
def ayH:List (aY R):=[aO 110 (wS cW)]
def MN (x1:Json) (x2:ad) (x3:ak.State) (k0:Bool->ad->ak.State->Option R):Option R:=
 cW (⟨x1.kind,⟨x1.num.aj,x1.num.exp⟩,x1.text,x1.names,x1.items⟩:Json) x2 (fun y4 y5=>k0 y5 x2 (⟨x3.header,x3.bC,x3.bW,y4,x3.update,x3.live,x3.node,x3.seq,x3.cB,x3.accepted⟩:ak.State))
theorem ayI:aP (R:=R) tt (ayH cW) bm false FX gO Vz (ag4 (MN cW)):=fun x y k=>by kernel_rfl
end
def jK:bV R:=MN cW
theorem ayJ (R:Type):aN ao 175 (ag5 (jK (R:=R))):=aR (ayI cW) TT mixed (.c (Cv R) <| .n) rfl rfl bp
abbrev VA:List aH:=[.cells [.str],.cells [.ptr 2 4],.cells [aF,aF,.str,aF,aF,.bool,aF,aF,.bool,aF]]
def ag6 (fn:bV R):br R gO VA:=fun x y k=>fn (dq x.1) y.1.1 (iC y.2.2.1) (fun q0 q1 q2=>k (.bool q0) [.cells [.str q1],.cells [.ptr 2 4],.cells [af q2.header,af q2.bC,.str q2.bW,af q2.order,af q2.update,.bool q2.live,af q2.node,af q2.seq,.bool q2.cB,af q2.accepted]])
def ag7 (fn:bV R):=aL gO VA (ag6 fn)
section
variable (cW:oo R)
def ayK:List (aY R):=[aO 110 (wS cW)]
def MO (x1:Json) (x2:ad) (x3:ak.State) (k0:Bool->ad->ak.State->Option R):Option R:=
 cW (⟨x1.kind,⟨x1.num.aj,x1.num.exp⟩,x1.text,x1.names,x1.items⟩:Json) x2 (fun y4 y5=>k0 y5 x2 (⟨x3.header,x3.bC,x3.bW,x3.order,y4,x3.live,x3.node,x3.seq,x3.cB,x3.accepted⟩:ak.State))
theorem ayL:aP (R:=R) tt (ayK cW) bm false FX gO VA (ag6 (MO cW)):=fun x y k=>by kernel_rfl
end
def jL:bV R:=MO cW
theorem ayM (R:Type):aN ao 175 (ag7 (jL (R:=R))):=aR (ayL cW) TT mixed (.c (Cv R) <| .n) rfl rfl bp
abbrev MP (R:Type):Type:=Json->(Bool->Bool->Option R)->Option R
def ag8 (fn:MP R):br R gK topic_Name_q:=fun x y k=>fn (dq x.1) (fun q0 q1=>k (.tuple [.bool q0,.bool q1]) [])
def ag9 (fn:MP R):=aL gK topic_Name_q (ag8 fn)
section
def VB (x1:Json) (k0:Bool->Bool->Option R):Option R:=
 bif(x1.kind==3)then(k0 (x1.kind==3) true)else(k0 (x1.kind==3) (x1.kind==2))
theorem ayN:aP (R:=R) tt [] bm false Tryz.f150 gK topic_Name_q (ag8 VB):=fun x y k=>by kernel_rfl
end
def wU:MP R:=VB
theorem ayO (R:Type):aN ao 150 (ag9 (wU (R:=R))):=aR (ayN) TT mixed .n rfl rfl bp
abbrev uw (R:Type):Type:=Json->ad->(Bool->Bool->Option R)->Option R
abbrev VC:List ax:=[yp,dU,.leaf (.fn 150)]
def aha (fn:uw R):br R VC topic_Name_q:=fun x y k=>fn (dq x.1) x.2.1 (fun q0 q1=>k (.tuple [.bool q0,.bool q1]) [])
def ahb (fn:uw R):=aL VC topic_Name_q (aha fn)
section
variable (jG:uu R) (wU:MP R)
def ayP:List (aY R):=[aO 144 (yE jG),aO 150 (ag9 wU)]
def VD (x1:Json) (x2:ad) (k0:Bool->Bool->Option R):Option R:=
 jG (⟨x1.kind,⟨x1.num.aj,x1.num.exp⟩,x1.text,x1.names,x1.items⟩:Json) x2 (fun y3 y4=>bif(!y4)then(k0 false false)else(wU (⟨y3.kind,⟨y3.num.aj,y3.num.exp⟩,y3.text,y3.names,y3.items⟩:Json) (fun y5 y6=>bif y6 then(k0 y5 true)else(k0 false false))))
theorem ayQ:aP (R:=R) tt (ayP jG wU) bm false Tryz.f149 VC topic_Name_q (aha (VD jG wU)):=fun x y k=>by kernel_rfl
end
def yJ:uw R:=VD jG wU
theorem ayR (R:Type):aN ao 149 (ahb (yJ (R:=R))):=aR (ayQ jG wU) TT mixed (.c (Vf R) <| .c (ayO R) <| .n) rfl rfl bp
def VE (fn:uw R):br R om topic_Name_q:=fun x y k=>fn (dq x.1) x.2.1 (fun q0 q1=>k (.tuple [.bool q0,.bool q1]) [])
def HK (fn:uw R):=aL om topic_Name_q (VE fn)
section
variable (yJ:uw R)
def ayS:List (aY R):=[aO 149 (ahb yJ)]
def VF (x1:Json) (x2:ad) (k0:Bool->Bool->Option R):Option R:=
 yJ (⟨x1.kind,⟨x1.num.aj,x1.num.exp⟩,x1.text,x1.names,x1.items⟩:Json) x2 (fun y3 y4=>k0 y3 y4)
theorem ayT:aP (R:=R) tt (ayS yJ) bm false Tryz.f112 om topic_Name_q (VE (VF yJ)):=fun x y k=>by kernel_rfl
end
def mL:uw R:=VF yJ
theorem ahc (R:Type):aN ao 112 (HK (mL (R:=R))):=aR (ayT yJ) TT mixed (.c (ayR R) <| .n) rfl rfl bp
abbrev VG:List aH:=[.cells [.str],.cells [.ptr 2 5],.cells [aF,aF,.str,aF,aF,.bool,aF,aF,.bool,aF]]
def ahd (fn:bV R):br R gO VG:=fun x y k=>fn (dq x.1) y.1.1 (iC y.2.2.1) (fun q0 q1 q2=>k (.bool q0) [.cells [.str q1],.cells [.ptr 2 5],.cells [af q2.header,af q2.bC,.str q2.bW,af q2.order,af q2.update,.bool q2.live,af q2.node,af q2.seq,.bool q2.cB,af q2.accepted]])
def ahe (fn:bV R):=aL gO VG (ahd fn)
section
variable (mL:uw R)
def ayU:List (aY R):=[aO 112 (HK mL)]
def MQ (x1:Json) (x2:ad) (x3:ak.State) (k0:Bool->ad->ak.State->Option R):Option R:=
 mL (⟨x1.kind,⟨x1.num.aj,x1.num.exp⟩,x1.text,x1.names,x1.items⟩:Json) x2 (fun y4 y5=>k0 y5 x2 (⟨x3.header,x3.bC,x3.bW,x3.order,x3.update,y4,x3.node,x3.seq,x3.cB,x3.accepted⟩:ak.State))
theorem ayV:aP (R:=R) tt (ayU mL) bm false Tryz.f179 gO VG (ahd (MQ mL)):=fun x y k=>by kernel_rfl
end
def jM:bV R:=MQ mL
theorem ayW (R:Type):aN ao 179 (ahe (jM (R:=R))):=aR (ayV mL) TT mixed (.c (ahc R) <| .n) rfl rfl bp
abbrev VH:List aH:=[.cells [.str],.cells [.ptr 2 6],.cells [aF,aF,.str,aF,aF,.bool,aF,aF,.bool,aF]]
def ahf (fn:bV R):br R gO VH:=fun x y k=>fn (dq x.1) y.1.1 (iC y.2.2.1) (fun q0 q1 q2=>k (.bool q0) [.cells [.str q1],.cells [.ptr 2 6],.cells [af q2.header,af q2.bC,.str q2.bW,af q2.order,af q2.update,.bool q2.live,af q2.node,af q2.seq,.bool q2.cB,af q2.accepted]])
def ahg (fn:bV R):=aL gO VH (ahf fn)
section
variable (cW:oo R)
def ayX:List (aY R):=[aO 110 (wS cW)]
def MR (x1:Json) (x2:ad) (x3:ak.State) (k0:Bool->ad->ak.State->Option R):Option R:=
 cW (⟨x1.kind,⟨x1.num.aj,x1.num.exp⟩,x1.text,x1.names,x1.items⟩:Json) x2 (fun y4 y5=>k0 y5 x2 (⟨x3.header,x3.bC,x3.bW,x3.order,x3.update,x3.live,y4,x3.seq,x3.cB,x3.accepted⟩:ak.State))
theorem ayY:aP (R:=R) tt (ayX cW) bm false FX gO VH (ahf (MR cW)):=fun x y k=>by kernel_rfl
end
def jN:bV R:=MR cW
theorem ayZ (R:Type):aN ao 175 (ahg (jN (R:=R))):=aR (ayY cW) TT mixed (.c (Cv R) <| .n) rfl rfl bp
end Go.Proofs.YtidfokedcnhahaaGreatDoor
end
