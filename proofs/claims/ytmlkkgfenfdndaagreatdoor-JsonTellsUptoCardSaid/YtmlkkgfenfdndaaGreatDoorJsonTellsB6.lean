/-
  JsonTells, part 6 of 10.
-/
import Derived.Test.YtmlkkgfenfdndaaGreatDoorCards
import Derived.Test.YtmlkkgfenfdndaaGreatDoorTie
import Derived.Lib.LaidU8T
import Derived.Stop.LaidErr
import Derived.Deep.DeepHandedRow
import Derived.Deep.DeepWitnessRowRef
import Derived.WalkKit
import Derived.ProofKit
import Derived.OpenShut
import Derived.KernelRfl
import Derived.Lib.ValidU
import Derived.Lib.ItoaLen
import Derived.Lib.Repeat
import Derived.Lib.AtoiAll
import Derived.Lib.IndexAny
import Derived.Lib.Bytealg
import Derived.Lib.SlTrimSet
import Derived.Lib.LastIndexByte
import Derived.Lib.ValidLaws
import Derived.Lib.MapLaws
import Derived.Lib.TrimUEq
import Derived.Lib.RuneBytes
import Derived.Sort.Grow
import Derived.Shelf.Strings.BuilderX
import Derived.Lib.ItoaMem
import Derived.Test.YtmlkkgfenfdndaaGreatDoorJsonTellsB5
set_option linter.unusedSimpArgs false
set_option linter.unnecessarySimpa false
set_option linter.unusedVariables false
set_option linter.unusedSectionVars false
noncomputable section
set_option maxRecDepth 100000
namespace Go.Proofs.YtmlkkgfenfdndaaGreatDoor.Door
open Go Go.Lib Go.RowKit Go.ChangeShapes Go.bb
theorem own:ownKnob Tryz.prog.godebug=none:=by kernel_rfl
theorem leaves:Oe Tryz.prog Go.Proofs.YtmlkkgfenfdndaaGreatDoor.tt:=leaves_ok (by kernel_rfl)
theorem gSyn:Tryz.prog.globalNamed "strconv.ErrSyntax" = some 4:=by kernel_rfl
theorem gRng:Tryz.prog.globalNamed "strconv.ErrRange" = some 5:=by kernel_rfl
theorem tSyn:(Tryz.prog.globals[4]?).map (·.type)=some 94:=by kernel_rfl
theorem tRng:(Tryz.prog.globals[5]?).map (·.type)=some 94:=by kernel_rfl
theorem star : "*" ++ "errors.errorString" = "*errors.errorString" :=by decide
theorem rowErr (u:TypeId) (h:Tryz.prog.typeName? 3 u=some "*errors.errorString"):u=204 :=
 typeName_ptr_named (nm := "errors.errorString") (by rw[star]; kernel_rfl) (by kernel_rfl) (by decide) u (by rw[star]; exact h)
theorem lt_of_var {n:String} {g:Nat} {W:World} {cs:Array Value} (hg:Tryz.prog.globalNamed n=some g) (h:W.var? Tryz.prog n=some cs):g<W.heap.size:=by
 unfold World.var? at h;simp only[hg,Option.bind_some]at h;rcases Nat.lt_or_ge g W.heap.size with h'|h'
 ·exact h'
 ·simp[Array.getElem?_eq_none h']at h
theorem lay_met {W:World} (h:laidMet Tryz.prog Rows.topTextsUptoRow.laid W):pX.says W∧∀b,pX.blocks b→b<W.heap.size:=by
 have r0:VarReads Tryz.prog W "unicode/utf8.first" firstData:=laidMet.reads h (.tail _ (.tail _ (.tail _ (.tail _ (.tail _ (.tail _ (.head _)))))));have r1:VarReads Tryz.prog W "unicode/utf8.acceptRanges" acceptData:=laidMet.reads h (.tail _ (.tail _ (.tail _ (.head _))));have ht:Utf8Tabs 1 2 W:=utf8Tabs_of_readsT (U8Types.of196 Tryz.lay196) ⟨by kernel_rfl,by kernel_rfl,by kernel_rfl,by kernel_rfl,by kernel_rfl,by kernel_rfl,by kernel_rfl⟩ r0 r1;have h2:=laidMet.tail (laidMet.tail h);have hp:TabIs Tryz.prog W "internal/strconv.uint64pow10" .u64 pow10Tab:=tabIs_of_head (t:=192) (e:=165) (n:=20) lay_pow10 (by kernel_rfl) (by kernel_rfl) (by kernel_rfl) (by kernel_rfl) (by kernel_rfl) h2
 have h4:=laidMet.tail (laidMet.tail h2);obtain ⟨a3,s3,v3,_⟩:=laid_sentinel (ms := #[("Error",75)]) (f := { name := "s",type:=9,offset:=0,embedded:=false,tag := "",pkgPath := "errors",byteOffset:=0 }) (te:=206) (ts:=9) h4 gRng tRng (by kernel_rfl) rowErr (by kernel_rfl) (by kernel_rfl) rfl rfl (by kernel_rfl) (by kernel_rfl) (by kernel_rfl);obtain ⟨a2,s2,v2,_⟩:=laid_sentinel (ms := #[("Error",75)]) (f := { name := "s",type:=9,offset:=0,embedded:=false,tag := "",pkgPath := "errors",byteOffset:=0 }) (te:=206) (ts:=9) (laidMet.tail h4) gSyn tSyn (by kernel_rfl) rowErr (by kernel_rfl) (by kernel_rfl) rfl rfl (by kernel_rfl) (by kernel_rfl) (by kernel_rfl)
 refine ⟨⟨ht,hp,⟨_,_,World.var?_cell gSyn v2 0⟩,⟨_,_,World.var?_cell gRng v3 0⟩⟩,fun b hb => ?_⟩;have hb:b<8:=hb;obtain ⟨g,t,cs,fuel,p,hg,_,hv,_⟩:VarReads Tryz.prog W "math/bits.deBruijn64tab" Rows.laid_math_bits_deBruijn64tab:=laidMet.reads h (.tail _ (.head _));have e:(some 7:Option Nat)=some g:=(by kernel_rfl:Tryz.prog.globalNamed "math/bits.deBruijn64tab" = some 7).symm.trans hg;cases e;have l4:=lt_of_var hg hv;omega
abbrev synS:ByteArray := { data := #[105,110,118,97,108,105,100,32,115,121,110,116,97,120] }
abbrev rngS:ByteArray := { data := #[118,97,108,117,101,32,111,117,116,32,111,102,32,114,97,110,103,101] }
def low:Nat:=(World.holding Tryz.prog default ⟨#[], #[], []⟩).heap.size
def lit1:DataW Unit→Value
 | .lit (.int k n) => .int k n
 | _ => .int .u8 0
def litsOf:DataW Unit→List Value
 | .agg l=>l.map lit1
 | _ => []
def Uk (os:Os):World :=
 let w0:=World.holding Tryz.prog os ⟨#[.cells #[.string synS] 206, .cells #[.string rngS] 206], #[], []⟩
 let put (h:Array Obj) (g:Nat) (cs:Array Value):Array Obj:=h.modify g fun
  | .cells _ t frozen => .cells cs t frozen
  | o=>o
 let h0:=put w0.heap 1 (firstTab.map fun z=>Value.int .u8 z).toArray
 let h1:=put h0 2 ((List.range 16).flatMap fun i => [Value.int .u8 (accLo i),Value.int .u8 (accHi i)]).toArray
 let h2:=put h1 4 #[.iface 204 (.pointer (some ⟨low,0,none⟩))]
 let h3:=put h2 5 #[.iface 204 (.pointer (some ⟨low+1,0,none⟩))]
 let h4:=put h3 3 (pow10Tab.map fun z=>Value.int .u64 z).toArray
 let h6:=put h4 6 (litsOf Rows.laid_math_bits_deBruijn32tab).toArray
 let h7:=put h6 7 (litsOf Rows.laid_math_bits_deBruijn64tab).toArray
 { w0 with heap:=h7 }
theorem laid_met (os:Os) (args:Array Value):laidMet Tryz.prog Rows.topTextsUptoRow.laid ((Uk os).forCall (fun _ _=>0) ⟨#[],args, []⟩).memory :=
 laidMet_of_run' 8 (by kernel_rfl) (by kernel_rfl)
end Go.Proofs.YtmlkkgfenfdndaaGreatDoor.Door
set_option maxRecDepth 100000
namespace Go.Proofs.YtmlkkgfenfdndaaGreatDoor
open Go Go.bb
end Go.Proofs.YtmlkkgfenfdndaaGreatDoor
namespace Go.bb
open Go.RowKit
section
variable {P:Program} {tt:dR} {w w':World} {h h':aR} {c c':km} {R:Type}
theorem D2 (hb:Below w.heap.size w w'):Ext w h c w' h c where
 os:=hb.os
 tape:=hb.tape
 output:=hb.output
 size:=hb.size
 used:=fun _ hi=>hi
 same:=fun i hi hd=>⟨Kt (Pq hi.2 hd) (fun _ _ _ => .inr trivial),rfl,rfl⟩
 cell:=fun b x hx _=>wL (hb.block b hx)
 block:=fun b hx _=>hb.block b hx
 BK:=fun _ _ _ ho=>ho
 ext:=rfl
 arr:=fun b arr e fz hx=>⟨arr,fz,by rw[hb.block b (Ep hx)]; exact hx,rfl⟩
theorem Of (wf:WF w h c) (hb:Below w.heap.size w w'):WF w' h c where
 Dv:=wf.Dv
 sn:=fun b x he=>Nat.lt_of_lt_of_le (wf.sn b x he) hb.size
 obj:=fun i hi=>by
  by_cases hl:(h.at i).live
  ·exact (wf.obj i hi).AF (D2 hb) (fun b qq=>hb.block b ((wf.obj i hi).lt hl qq)) rfl rfl
  ·have h0:h.at i = .free∨h.at i = .dead:=by revert hl; cases h.at i <;> simp[bZ.live]
   rcases h0 with h0|h0 <;> rw[h0] <;> trivial
 inj:=wf.inj
 lay:=wf.vR (D2 hb)
theorem wM {g:Nat} {fn:Func} (hf:P.funcs[g]? = some fn) (hn:(fn.name == "runtime.NumGoroutine")=false) (hb:fn.body.isNone=false) {args:Array Value} {Q:Value→World→Prop}
  (h:Calls P g args w fun e w'=>∃d,e = .returned d∧Q d w'):B9 P g args w Q:=by
 refine ⟨.enter g args,w,?_,h⟩;have hn':fn.name ≠ "runtime.NumGoroutine" :=by simpa using hn
 have qq:fn.body≠none:=fun e=>by rw[e]at hb; cases hb
 simp[callFunc,hf,hn',qq]
theorem rQ {g:Nat} {fn:Func} (hf:P.funcs[g]? = some fn) (hn:(fn.name == "runtime.NumGoroutine")=false) (hb:fn.body.isNone=false) {sp:Spec R}
  (hs:∀vs hp k r,sp vs hp k=some r→∀(w:World) (c:km) (args:Array Value),WF w hp c→cN w hp c vs args.toList →
   ∃v,k v hp=some r∧Calls P g args w fun e w'=>∃d,e = .returned d∧Below w.heap.size w w'∧dQ w' hp c v d):Spec.Ok P g sp:=by
 intro vs hp k r hk w c args wf ra;obtain ⟨v,hv,hc⟩:=hs vs hp k r hk w c args wf ra;refine wM hf hn hb (Calls.mono hc ?_)
 rintro e w' ⟨d,he,hbl,hr⟩
 exact ⟨d,he,v,hp,c,Of wf hbl,D2 hbl,hr,hv⟩
theorem repL1 {v:V} {args:Array Value} (ra:cN w h c [v] args.toList):∃d,args = #[d]∧dQ w h c v d:=by
 obtain ⟨l⟩:=args
 match l,ra with
 | [d],ra=>exact ⟨d,rfl,ra.head⟩
 | [],ra=>have:=ra.1; simp at this
 | _::_::_,ra=>have:=ra.1; simp at this
theorem repL2 {u v:V} {args:Array Value} (ra:cN w h c [u,v] args.toList):∃d e,args = #[d,e]∧dQ w h c u d∧dQ w h c v e:=by
 obtain ⟨l⟩:=args
 match l,ra with
 | [d,e],ra=>exact ⟨d,e,rfl,ra.head,ra.tail.head⟩
 | [],ra=>have:=ra.1; simp at this
 | [_],ra=>have:=ra.1; simp at this
 | _::_::_::_,ra=>have:=ra.1; simp at this
end
section
variable {P:Program} {tt:dR} {w w':World} {h h':aR} {c c':km} {R:Type}
def VG (R:Type):Spec R:=fun vs h k =>
 match vs with
 | [.ptr i 0]=>(match h.at i with | .ng _=>k (.tuple []) h|_=>none)
 | _=>none
theorem Ul {i:Nat} {v:V} {a':Value} (wf:WF w h c) (ra:dQ w h c (.ptr i 0) a') (hv:h.at i = .ng v) :
  ∃b p d,a' = .pointer (some ⟨b,0,none⟩)∧c.wH i=some b∧w.heap[b]? = some (Obj.cells #[p,d] pX.ng (0,0))∧(p = .pointer none∨p = .pointer (some ⟨b,0,none⟩))∧dQ w h c v d:=by
 have hi:=aR.gW hv (by simp);have ho:=wf.obj i hi;rw[hv]at ho;obtain ⟨b,p,d,g1,g2,g3,g4⟩:=ho;cases ra with
 | ptr hu hq =>
  obtain ⟨b',rfl,qq⟩:=hq;have:=qq (by rw[hv]; simp);rw[g1]at this; cases this;exact ⟨b,p,d,rfl,g1,g2,g3,g4⟩
theorem bcc_ok {g:Nat} {fn:Func} (hf:P.funcs[g]? = some fn) (hn:(fn.name == "runtime.NumGoroutine")=false) (hb:fn.body.isNone=false)
  (fresh:∀(b:Nat) (w:World),w.cell? ⟨b,0,none⟩=some (.pointer none)→w.shape? b=some (pX.ng,2)→w.frozen? ⟨b,0,none⟩=false →
   Calls P g #[.pointer (some ⟨b,0,none⟩)] w fun e w'=>e = .returned (.tuple #[])∧w'=w.setCell ⟨b,0,none⟩ (.pointer (some ⟨b,0,none⟩)))
  (used:∀(b:Nat) (w:World),w.cell? ⟨b,0,none⟩=some (.pointer (some ⟨b,0,none⟩))→Calls P g #[.pointer (some ⟨b,0,none⟩)] w fun e w'=>e = .returned (.tuple #[])∧w'=w):Spec.Ok P g (VG R):=by
 intro vs h k r hk w c args wf ra;unfold VG at hk;split at hk <;> (try cases hk);rename_i i;split at hk <;> (try cases hk);rename_i v hv;obtain ⟨a',rfl,r1⟩:=repL1 ra;obtain ⟨b,p,d,rfl,g1,g2,g3,g4⟩:=Ul wf r1 hv;have RY:w.cell? ⟨b,0,none⟩=some p:=by rw[cell_of_row w b _ _ _ _ g2]; rfl
 have rt:∀w' h' c',dQ w' h' c' (.tuple []) (.tuple #[]):=fun w' h' c' => .tuple rfl (fun j v d hv=>by simp at hv)
 rcases g3 with rfl|rfl
 ·refine wM hf hn hb (Calls.mono (fresh b w RY (by simp[World.shape?,g2]) (Bt g2 0)) ?_)
  rintro e w' ⟨he,rfl⟩
  have qq:(w.setCell ⟨b,0,none⟩ (.pointer (some ⟨b,0,none⟩))).heap[b]? = some (.cells #[.pointer (some ⟨b,0,none⟩),d] pX.ng (0,0)):=by
   simp[World.setCell,Array.getElem?_modify,g2]
  have hw:XS w (w.setCell ⟨b,0,none⟩ (.pointer (some ⟨b,0,none⟩))) b #[.pointer (some ⟨b,0,none⟩),d] pX.ng (0,0):=⟨rfl,rfl,rfl,by simp,fun k hk=>heap_setCell_other w _ k _ hk,qq⟩;have vS:(h.at i).from_ (c.off i)=some 0:=by rw[hv]; rfl
  have yw:(h.at i).iW (.ng v):=by rw[hv]; trivial
  have hset:h.set i (.ng v)=h:=by
   have hi:=aR.gW hv (by simp);have e:h[i] = .ng v:=by
    have:=hv;unfold aR.at at this;simpa [List.getD,List.getElem?_eq_getElem hi]using this
   rw[←e];exact List.set_getElem_self hi
  have x:=Sd g1 g2 hw rfl vS rfl yw;have q:=upd_wf wf g1 g2 hw rfl vS rfl yw ⟨b,_,d,g1,qq, .inr rfl,g4.mono x⟩;rw[hset]at x q;exact ⟨_,he,_,h,c,q,x,rt _ _ _,hk⟩
 ·refine wM hf hn hb (Calls.mono (used b w RY) ?_)
  rintro e w' ⟨he,rfl⟩
  exact ⟨_,he,_,h,c,wf, .refl _ _ _,rt _ _ _,hk⟩
def wN (l:List Int):af:=l.map fun n=>UInt8.ofNat n.toNat
theorem bstr_len (l:List Int):(wN l).length=l.length:=List.length_map _
theorem bstr_get (l:List Int) (m:Nat) (x:UInt8) (h:(wN l)[m]? = some x):∃n,l[m]? = some n∧x=UInt8.ofNat n.toNat:=by
 unfold wN at h;rw[List.getElem?_map]at h;cases hm:l[m]? with
 | none=>rw[hm]at h; cases h
 | some n=>rw[hm]at h; simp at h; exact ⟨n,rfl,h.symm⟩
def LQ (R:Type):Spec R:=fun vs h k =>
 match vs with
 | [.ptr i 0] =>
  (match h.at i with
   | .ng .cG=>k (.str []) h
   | .ng (.sl (.int .u8) l (.own j))=>(match h.at j with | .tok=>k (.str (wN l)) h|_=>none)
   | _=>none)
 | _=>none
theorem Pw:N8 (LQ R):=by
 intro vs h k k' he;unfold LQ;split <;> try rfl
 split <;> try (first|rfl|exact he _)
 split <;> first|rfl|exact he _
theorem freeze_wf (wf:WF w h c) {j g:Nat} (hj:h.at j = .tok) (hg:c.wH j=some g) {cur:Array Value} {e:TypeId} {fz PF:Nat×Nat} (h1:w.heap[g]? = some (.cells cur e fz))
  (hos:w'.os=w.os) (htape:w'.tape=w.tape) (hout:w'.output=w.output) (hsize:w'.heap.size=w.heap.size) (T9:∀k,k≠g→w'.heap[k]? = w.heap[k]?) (h2:w'.heap[g]? = some (.cells cur e PF))
  (hfz:(fz.1=fz.2∨fz.2≤c.off j)→(PF.1=PF.2∨PF.2≤c.off j)) :
  WF w' h c∧Ext w h c w' h c:=by
 have hjl:=aR.gW hj (by simp);have mG:xD h c g (c.off j):=⟨j,c.off j,hg,by rw[hj]; rfl,Nat.le_refl _⟩;have DL:∀b x,w'.cell? ⟨b,x,none⟩=w.cell? ⟨b,x,none⟩:=fun b x=>by
  by_cases hb:b=g
  ·subst hb; rw[cell_of_row w' b x cur e PF h2,cell_of_row w b x cur e fz h1]
  ·exact wL (T9 b hb)
 have x:Ext w h c w' h c := {
  os:=hos
  tape:=htape
  output:=hout
  size:=by omega
  used:=(Ext.refl w h c).used
  same:=(Ext.refl w h c).same
  cell:=fun b x _ _=>DL b x
  block:=fun b _ ho=>T9 b (by rintro rfl; exact ho _ mG)
  BK:=(Ext.refl w h c).BK
  ext:=rfl
  arr:=fun b arr el fz0 hb=>by
   by_cases hbg:b=g
   ·subst hbg; rw[h1]at hb; cases hb; exact ⟨cur,PF,h2,rfl⟩
   ·exact ⟨arr,fz0,by rw[T9 b hbg]; exact hb,rfl⟩ }
 refine ⟨?_,x⟩;exact {
  lay:=wf.vR x
  Dv:=wf.Dv
  sn:=fun b y he=>by rw[hsize]; exact wf.sn b y he
  obj:=fun i hi=>by
   by_cases B6:i=j
   ·subst B6;have:=wf.obj i hi;rw[hj]at this ⊢;rcases this with h0|⟨b',N4,e',fz0,p1,p2,p3,p4⟩
    ·rw[hg]at h0; cases h0
    ·rw[hg]at p1; cases p1;rw[h1]at p2; cases p2;exact .inr ⟨g,cur,e,PF,hg,h2,p3,hfz p4⟩
   ·by_cases hl:(h.at i).live
    ·refine (wf.obj i hi).AF x (fun b hb=>T9 b ?_) rfl rfl
     rintro rfl
     exact B6 (wf.inj i j b hl (by rw[hj]; trivial) hb hg)
    ·have h0:h.at i = .free∨h.at i = .dead:=by revert hl; cases h.at i <;> simp[bZ.live]
     rcases h0 with h0|h0 <;> rw[h0] <;> trivial
  inj:=wf.inj }
theorem freeze_facts {q n:Nat} {cur:Array Value} {e:TypeId} {fz:Nat×Nat} (hn:n≠0) (hq:w.heap[q]? = some (.cells cur e fz)) :
  (w.drew.freeze ⟨q,0,none⟩ n).os=w.os∧(w.drew.freeze ⟨q,0,none⟩ n).tape=w.tape∧(w.drew.freeze ⟨q,0,none⟩ n).output=w.output∧(w.drew.freeze ⟨q,0,none⟩ n).heap.size=w.heap.size ∧
   (∀k,k≠q→(w.drew.freeze ⟨q,0,none⟩ n).heap[k]? = w.heap[k]?)∧∃PF,(w.drew.freeze ⟨q,0,none⟩ n).heap[q]? = some (.cells cur e PF)∧∀o,n≤o→(fz.1=fz.2∨fz.2≤o)→(PF.1=PF.2∨PF.2≤o):=by
 obtain ⟨lo,hi⟩:=fz;unfold World.freeze;rw[if_neg hn];refine ⟨rfl,rfl,rfl,Array.size_modify,fun k hk => ?_,(if lo==hi then (0,0+n)else (min lo 0,max hi (0+n))),?_,fun o ho hf => ?_⟩
 ·simp only[Array.getElem?_modify];rw[if_neg (Ne.symm hk)];rfl
 ·simp only[Array.getElem?_modify,if_true];rw[show w.drew.heap[q]? = some (.cells cur e (lo,hi))from hq];rfl
 ·simp only at hf;split
  ·exact .inr (by simp; omega)
  ·rename_i im;have:lo≠hi:=by simpa using im
   exact .inr (by simp; omega)
theorem u8_of {n:Int} (hn:IntKind.u8.has n):((UInt8.ofNat n.toNat).toNat:Int)=n:=by
 have:0≤n∧n≤255:=by simpa [IntKind.has,IntKind.min,IntKind.max,IntKind.signed,IntKind.bits]using hn
 simp only[UInt8.toNat_ofNat'];omega
structure Yn (P:Program) (g:Nat):Prop where
 nil:∀(b:Nat) (p:Value) (w:World),w.heap[b]? = some (.cells #[p, .slice none 0 0] pX.ng (0,0)) →
  Calls P g #[.pointer (some ⟨b,0,none⟩)] w fun e w'=>e = .returned (.string ⟨#[]⟩)∧Below w.heap.size w w'
 noroom:∀(b q:Nat) (p:Value) (cur:Array Value) (fz:Nat×Nat) (w:World),w.heap[b]? = some (.cells #[p, .slice (some ⟨q,0,none⟩) 0 0] pX.ng (0,0))→w.heap[q]? = some (.cells cur pX.u8 fz) →
  Calls P g #[.pointer (some ⟨b,0,none⟩)] w fun e w'=>e = .returned (.string ⟨#[]⟩)∧Below w.heap.size w w'
 room:∀(b q cap:Nat) (p:Value) (w:World),cap≠0→w.heap[b]? = some (.cells #[p, .slice (some ⟨q,0,none⟩) 0 cap] pX.ng (0,0)) →
  Calls P g #[.pointer (some ⟨b,0,none⟩)] w fun e w'=>e = .returned (.string ⟨#[]⟩)∧Below w.heap.size w w'
 some:∀(b q cap:Nat) (p:Value) (cur:Array Value) (fz:Nat×Nat) (l:List UInt8) (w:World),l ≠ []→w.heap[b]? = some (.cells #[p, .slice (some ⟨q,0,none⟩) l.length cap] pX.ng (0,0)) →
  w.heap[q]? = some (.cells cur pX.u8 fz)→l.length≤cap→cap≤mx→l.length≤cur.size→(∀(j:Nat) (x:UInt8),l[j]? = some x→w.cell? ⟨q,j,none⟩=some (.int .u8 x.toNat)) →
  Calls P g #[.pointer (some ⟨b,0,none⟩)] w fun e w'=>e = .returned (.string ⟨l.toArray⟩)∧w'=w.drew.freeze ⟨q,0,none⟩ l.length
theorem bstr_ok {g:Nat} {fn:Func} (hf:P.funcs[g]? = some fn) (hn:(fn.name == "runtime.NumGoroutine")=false) (hb:fn.body.isNone=false) (D:Yn P g):Spec.Ok P g (LQ R):=by
 intro vs h k r hk w c args wf ra;unfold LQ at hk;split at hk <;> (try cases hk);rename_i i;obtain ⟨a',rfl,r1⟩:=repL1 ra;have empty:∀ {w':World} {h':aR} {c':km},dQ w' h' c' (.str []) (.string ⟨#[]⟩):=fun {w' h' c'}=>Gr ⟨#[]⟩ rfl (Nat.zero_le _)
 split at hk <;> (try cases hk)
 ·rename_i hv;obtain ⟨b,p,d,rfl,g1,g2,g3,g4⟩:=Ul wf r1 hv;cases g4;refine wM hf hn hb (Calls.mono (D.nil b p w g2) ?_)
  rintro e w' ⟨he,hbl⟩
  exact ⟨_,he,_,h,c,Of wf hbl,D2 hbl,empty,hk⟩
 ·rename_i l j hv;split at hk <;> (try cases hk);rename_i hj;obtain ⟨b,p,d,rfl,g1,g2,g3,g4⟩:=Ul wf r1 hv;have hi:=aR.gW hv (by simp);have B6:j≠i:=by rintro rfl; rw[hj]at hv; cases hv
  have hu8:∀x∈(l:List Int),IntKind.u8.has x:=by
   intro x hx;cases g4 with
   | sl f lM wI hc hr DS mG =>
    obtain ⟨m,hm⟩:=List.mem_iff_getElem?.1 hx;exact (hr m 0 x (.int .u8 x) hm rfl).jg.2
  have hlen:(wN l).length=List.length (α:=Int) l:=bstr_len l;cases g4 with
  | @sl _ _ _ A cap f lM wI hc hr DS mG =>
   obtain ⟨_,ho⟩:=mG j rfl;have hcap':List.length (α:=Int) l≤cap:=lM;have R5:∀(w':World) (h':aR) (c':km),dQ w' h' c' (.str (wN l)) (.string ⟨(wN l).toArray⟩):=fun w' h' c'=>Gr _ rfl (by rw[hlen]; exact Nat.le_trans lM wI)
   rcases ho hj with ⟨e1,rfl,rfl⟩|⟨q,o,cur,e,fz,e1,rfl,e3,e4,e5,e6⟩
   ·have Vv:l = []:=List.eq_nil_of_length_eq_zero (Nat.le_zero.1 lM);subst Vv;refine wM hf hn hb (Calls.mono (D.nil b p w g2) ?_)
    rintro e w' ⟨he,hbl⟩
    exact ⟨_,he,_,h,c,Of wf hbl,D2 hbl,R5 _ _ _,hk⟩
   ·obtain ⟨rfl,rfl⟩:=e6 rfl;by_cases Vv:l = []
    ·subst Vv;by_cases RY:cap=0
     ·subst RY;refine wM hf hn hb (Calls.mono (D.noroom b q p cur fz w g2 e4) ?_)
      rintro e w' ⟨he,hbl⟩
      exact ⟨_,he,_,h,c,Of wf hbl,D2 hbl,R5 _ _ _,hk⟩
     ·refine wM hf hn hb (Calls.mono (D.room b q cap p w RY g2) ?_)
      rintro e w' ⟨he,hbl⟩
      exact ⟨_,he,_,h,c,Of wf hbl,D2 hbl,R5 _ _ _,hk⟩
    ·have hbl:wN l ≠ []:=fun e=>Vv (List.eq_nil_of_length_eq_zero (hlen.symm.trans (by rw[e]; rfl)))
     have e5':0+cap*1≤cur.size:=e5;have Jt:∀(m:Nat) (x:UInt8),(wN l)[m]? = some x→w.cell? ⟨q,m,none⟩=some (.int .u8 x.toNat):=by
      intro m x hx;obtain ⟨n,hm,rfl⟩:=bstr_get l m x hx;have hml:m<List.length (α:=Int) l:=(List.getElem?_eq_some_iff.1 hm).1;obtain ⟨b',o',hA,DL,_⟩:=hc m 0 hml (by simp[Ty.sz]);cases hA;have hrn:=hr m 0 n (.int .u8 n) hm rfl;rw[hrn.jg.1]at DL;rw[u8_of hrn.jg.2];simpa [Ty.sz]using DL
     have g2':w.heap[b]? = some (.cells #[p, .slice (some ⟨q,0,none⟩) (wN l).length cap] pX.ng (0,0)):=by rw[hlen]; exact g2
     refine wM hf hn hb (Calls.mono (D.some b q cap p cur fz (wN l) w hbl g2' e4 (by rw[hlen]; exact lM) wI (by rw[hlen]; omega) Jt) ?_)
     rintro e w' ⟨he,rfl⟩
     have hne0:(wN l).length≠0:=by simpa using hbl
     obtain ⟨f1,f2,f3,f4,f5,PF,f6,f7⟩:=freeze_facts hne0 e4;obtain ⟨q1,q2⟩:=freeze_wf wf hj e1 e4 f1 f2 f3 f4 f5 f6 (f7 _ (by rw[e3,hlen]; simp[Ty.sz]; exact Nat.le_refl _));exact ⟨_,he,_,h,c,q1,q2,R5 _ _ _,hk⟩
end
def yk (s:af):Bool:=s.all fun b=>decide (b.toNat<128)
def fE (s:af):Bool:=Go.Lib.validD s
def pV (s:af):Nat×Nat:=if s.isEmpty then (65533,0)else Utf8.decode ⟨s.toArray⟩ 0
def cA (n:Int):af:=Go.Lib.itoa n
def lI (s:af) (n:Int):af:=Go.Lib.repeatL s n.toNat
def bu (s cs:af):af:=s.dropWhile (cs.contains ·)
def cM (s cs:af):af:=(s.reverse.dropWhile (cs.contains ·)).reverse
def wO (s:af):Bool:=match Go.Lib.atoiAll s with | .ok _=>true|_=>false
def eT (s:af):Int:=match Go.Lib.atoiAll s with | .ok v=>v | .range=>Go.Lib.atoiSat s|_=>0
def Yo (s cs:af):Bool:=Go.Lib.containsAny s cs
def Et (s:af) (c:Int):Int:=Go.Lib.indexByte s c.toNat.toUInt8
section
variable (R:Type)
def valid_S:Spec R:=fun vs h k=>match vs with | [.str s]=>k (.bool (fE s)) h|_=>none
def dec_S:Spec R:=fun vs h k=>match vs with | [.str s]=>k (.tuple [.int .i32 (pV s).1, .int .i64 (pV s).2]) h|_=>none
def itoa_S:Spec R:=fun vs h k=>match vs with | [.int .i64 n]=>k (.str (cA n)) h|_=>none
def rep_S:Spec R:=fun vs h k=>match vs with | [.str s, .int .i64 n]=>bB (decide (0≤n)&&decide ((s.length:Int)*n≤140737488355328)) (k (.str (lI s n)) h)|_=>none
def Sw:Spec R:=fun vs h k=>match vs with | [.str s, .str cs]=>bB (yk cs&&decide (cs.length<4294967281)) (k (.str (bu s cs)) h)|_=>none
def trimR_S:Spec R:=fun vs h k=>match vs with | [.str s, .str cs]=>bB (yk cs&&decide (cs.length<4294967281)) (k (.str (cM s cs)) h)|_=>none
def atoi_S:Spec R:=fun vs h k=>match vs with
 | [.str s]=>bB (decide (s.length≤281474976710656)) (bif wO s then k (.tuple [.int .i64 (eT s), .eg]) h else k (.tuple [.int .i64 (eT s), .iface]) h)
 | _=>none
def toErr_S (T:Nat):Spec R:=fun vs h k=>match vs with
 | [.str _, .str s, .int .i64 _, .int .i64 _, .Q2 t .i64 n]=>bB (Nat.beq t T&&(n==2||n==1)) (bB (decide (s.length≤281474976710656)) (k .iface h))
 | _=>none
def Yp:Spec R:=fun vs h k=>match vs with
 | [.str s, .str cs]=>bB (yk s&&yk cs&&decide (s.length<4294967281)&&decide (cs.length<4294967281)) (k (.bool (Yo s cs)) h)
 | _=>none
def idx_S:Spec R:=fun vs h k=>match vs with | [.str s, .int .u8 c]=>k (.int .i64 (Et s c)) h|_=>none
end
section
variable {P:Program} {w w':World} {h:aR} {c:km} {R:Type}
open Go.Lib
theorem Xb {s:af} (hs:yk s=true):∀(j:Nat) (b:UInt8),s[j]? = some b→b.toNat<128:=by
 intro j b hb;have:=List.all_eq_true.1 hs b (List.mem_of_getElem? hb);simpa using this
theorem vT (p:UInt8→Bool):∀s:af,(s.dropWhile p).length≤s.length
 | []=>Nat.le_refl _
 | b::s=>by
  rw[List.dropWhile_cons];split
  ·have:=vT p s; simp; omega
  ·exact Nat.le_refl _
theorem str_of (l:af) (h':l.length≤mx):dQ w h c (.str l) (.string ⟨l.toArray⟩):=Gr _ rfl h'
theorem mX {g:Nat} {args:Array Value} {Q:Ending→World→Prop} {v:V} (hc:Calls P g args w Q)
  (hq:∀e w',Q e w'→∃d,e = .returned d∧Below w.heap.size w w'∧dQ w' h c v d):Calls P g args w fun e w'=>∃d,e = .returned d∧Below w.heap.size w w'∧dQ w' h c v d:=Calls.mono hc fun e w' q=>hq e w' q
end
end Go.bb
set_option maxRecDepth 100000
namespace Go.bb
open Go.Lib
def vr (c:Nat):Prop:=c<55296∨(57344≤c∧c≤1114111)
instance (c:Nat):Decidable (vr c):=inferInstanceAs (Decidable (_∨_))
def enc (c:Nat):af:=encodeRune (c:Int)
theorem enc1 {c:Nat} (h:c<128):enc c = [UInt8.ofNat c]:=by
 unfold enc encodeRune encodeRuneZ;rw[if_pos (by omega)];rfl
theorem enc2 {c:Nat} (h0:128≤c) (h:c<2048):enc c = [UInt8.ofNat (192+c / 64),UInt8.ofNat (128+c % 64)]:=by
 unfold enc encodeRune encodeRuneZ;rw[if_neg (by omega),if_pos (by omega)];have e1:(192+(c:Int) / 64).toNat=192+c / 64:=by omega
 have e2:(128+(c:Int) % 64).toNat=128+c % 64:=by omega
 simp only[List.map_cons,List.map_nil,e1,e2]
theorem enc3 {c:Nat} (h0:2048≤c) (h:c<65536) (hv:vr c):enc c = [UInt8.ofNat (224+c / 4096),UInt8.ofNat (128+c / 64 % 64),UInt8.ofNat (128+c % 64)]:=by
 unfold vr at hv;unfold enc encodeRune encodeRuneZ;rw[if_neg (by omega),if_neg (by omega),if_pos (by omega)];have e1:(224+(c:Int) / 4096).toNat=224+c / 4096:=by omega
 have e2:(128+(c:Int) / 64 % 64).toNat=128+c / 64 % 64:=by omega
 have e3:(128+(c:Int) % 64).toNat=128+c % 64:=by omega
 simp only[List.map_cons,List.map_nil,e1,e2,e3]
theorem enc4 {c:Nat} (h0:65536≤c) (h:c<1114112):enc c = [UInt8.ofNat (240+c / 262144),UInt8.ofNat (128+c / 4096 % 64),UInt8.ofNat (128+c / 64 % 64),UInt8.ofNat (128+c % 64)]:=by
 unfold enc encodeRune encodeRuneZ;rw[if_neg (by omega),if_neg (by omega),if_neg (by omega),if_pos (by omega)];have e1:(240+(c:Int) / 262144).toNat=240+c / 262144:=by omega
 have e2:(128+(c:Int) / 4096 % 64).toNat=128+c / 4096 % 64:=by omega
 have e3:(128+(c:Int) / 64 % 64).toNat=128+c / 64 % 64:=by omega
 have e4:(128+(c:Int) % 64).toNat=128+c % 64:=by omega
 simp only[List.map_cons,List.map_nil,e1,e2,e3,e4]
theorem hP (n:Nat) (h:n<256):(UInt8.ofNat n).toNat=n:=by
 simp only[UInt8.toNat_ofNat'];omega
theorem Yq {c:Nat} (h:vr c):c<1114112:=by unfold vr at h; omega
theorem G9 {c:Nat} (hv:vr c):(c<128∧enc c = [UInt8.ofNat c])∨(128≤c∧c<2048∧enc c = [UInt8.ofNat (192+c / 64),UInt8.ofNat (128+c % 64)]) ∨
  (2048≤c∧c<65536∧enc c = [UInt8.ofNat (224+c / 4096),UInt8.ofNat (128+c / 64 % 64),UInt8.ofNat (128+c % 64)]) ∨
  (65536≤c∧enc c = [UInt8.ofNat (240+c / 262144),UInt8.ofNat (128+c / 4096 % 64),UInt8.ofNat (128+c / 64 % 64),UInt8.ofNat (128+c % 64)]):=by
 have:=Yq hv;by_cases h1:c<128
 ·exact .inl ⟨h1,enc1 h1⟩
 by_cases h2:c<2048
 ·exact .inr (.inl ⟨by omega,h2,enc2 (by omega) h2⟩)
 by_cases h3:c<65536
 ·exact .inr (.inr (.inl ⟨by omega,h3,enc3 (by omega) h3 hv⟩))
 ·exact .inr (.inr (.inr ⟨by omega,enc4 (by omega) this⟩))
theorem xG {c:Nat} (hv:vr c):1≤(enc c).length∧(enc c).length≤4:=by
 rcases G9 hv with ⟨_,e⟩|⟨_,_,e⟩|⟨_,_,e⟩|⟨_,e⟩ <;> rw[e] <;> simp
theorem Sx {c:Nat} (hv:vr c) (t:af):decodeL (enc c++t)=(c,(enc c).length):=by
 have jJ:=Yq hv;unfold vr at hv;rw[decodeL_N];rcases G9 hv with ⟨h1,e⟩|⟨h0,h1,e⟩|⟨h0,h1,e⟩|⟨h0,e⟩ <;> rw[e]
 ·simp only[List.cons_append,List.getD_cons_zero,hP c (by omega)];exact decodeN_ascii _ _ _ _ _ h1
 ·simp only[List.cons_append,List.nil_append,List.getD_cons_zero,List.getD_cons_succ,hP (192+c / 64) (by omega),hP (128+c % 64) (by omega),List.length_cons];unfold decodeN;rw[if_neg (by omega),if_pos ⟨by omega,by omega,by omega⟩,if_pos (by omega)];refine Prod.ext ?_ rfl;show (192+c / 64) % 32*64+(128+c % 64) % 64=c;omega
 ·simp only[List.cons_append,List.nil_append,List.getD_cons_zero,List.getD_cons_succ,hP (224+c / 4096) (by omega),hP (128+c / 64 % 64) (by omega),hP (128+c % 64) (by omega),List.length_cons];unfold decodeN;have k:(224+c / 4096) % 16*4096+(128+c / 64 % 64) % 64*64+(128+c % 64) % 64=c:=by omega
  rw[if_neg (by omega),if_neg (by omega),if_pos ⟨by omega,⟨by omega,by omega⟩,by omega,by omega⟩,k,if_pos (by omega)];simp only[List.length_nil]
 ·simp only[List.cons_append,List.nil_append,List.getD_cons_zero,List.getD_cons_succ,hP (240+c / 262144) (by omega),hP (128+c / 4096 % 64) (by omega),hP (128+c / 64 % 64) (by omega),hP (128+c % 64) (by omega),List.length_cons];unfold decodeN;have k:(240+c / 262144) % 8*262144+(128+c / 4096 % 64) % 64*4096+(128+c / 64 % 64) % 64*64+(128+c % 64) % 64=c:=by omega
  rw[if_neg (by omega),if_neg (by omega),if_neg (by omega),if_pos ⟨by omega,⟨by omega,by omega⟩,⟨by omega,by omega⟩,by omega,by omega⟩,k,if_pos (by omega)];simp only[List.length_nil]
def Rn (l:af):Prop:=¬((decodeL l).1=65533∧(decodeL l).2=1)
instance (l:af):Decidable (Rn l):=inferInstanceAs (Decidable (¬_))
theorem good_enc {c:Nat} (hv:vr c) (t:af):Rn (enc c++t):=by
 unfold Rn;rw[Sx hv t]
 rintro ⟨h1,h2⟩
 simp only at h1 h2;rw[h1]at h2;rw[enc3 (by omega) (by omega) (by unfold vr; omega)]at h2;cases h2
theorem decodeN_vr (n b0 b1 b2 b3:Nat) (h0:b0<256):vr (decodeN n b0 b1 b2 b3).1:=by
 unfold vr decodeN
 repeat' split
 all_goals simp only
 all_goals omega
theorem dec_vr (l:af):vr (decodeL l).1:=by
 rw[decodeL_N];exact decodeN_vr _ _ _ _ _ (UInt8.toNat_lt _)
theorem Yr {l:af} (im:l ≠ []) (h:Rn l):l=enc (decodeL l).1++l.drop (decodeL l).2∧(enc (decodeL l).1).length=(decodeL l).2:=by
 have h1:=encode_decode l im h;have h2:=decodeL_le l im;refine ⟨?_,?_⟩
 ·unfold enc;rw[h1,List.take_append_drop]
 ·unfold enc;rw[h1,List.length_take];omega
theorem Og {l:af} (im:l ≠ []):fE l=if Rn l then fE (l.drop (decodeL l).2)else false:=by
 unfold fE;rw[validD_step l im];by_cases h:Rn l
 ·rw[if_pos h,if_neg (show ¬((decodeL l).1=65533∧(decodeL l).2=1)from h)]
 ·rw[if_neg h,if_pos (Decidable.not_not.1 h)]
theorem enc_ne {c:Nat} (hv:vr c) (t:af):enc c++t ≠ []:=by
 have:=xG hv;intro e;have:=congrArg List.length e;rw[List.length_append,List.length_nil]at this;omega
theorem validS_enc {c:Nat} (hv:vr c) (t:af):fE (enc c++t)=fE t:=by
 rw[Og (enc_ne hv t),if_pos (good_enc hv t),Sx hv t];simp
def dV (rs:List Nat):af:=rs.flatMap enc
theorem VH:∀(rs:List Nat),(∀c∈rs,vr c)→∀t,fE (dV rs++t)=fE t
 | [],_,t=>rfl
 | c::rs,h,t=>by
  have:dV (c::rs)++t=enc c++(dV rs++t):=by simp[dV]
  rw[this,validS_enc (h c (by simp)),VH rs (fun x hx=>h x (by simp[hx]))]
theorem VI:∀(n:Nat) (l:af),l.length≤n→fE l=true→∃rs:List Nat,(∀c∈rs,vr c)∧l=dV rs
 | 0,l,hl,_=>⟨[],by simp,List.eq_nil_of_length_eq_zero (by omega)⟩
 | n+1,l,hl,h=>by
  by_cases im:l = []
  ·exact ⟨[],by simp,im⟩
  rw[Og im]at h;split at h
  ·rename_i hg;obtain ⟨h1,h2⟩:=Yr im hg;have h3:=xG (dec_vr l);obtain ⟨rs,hr,e⟩:=VI n (l.drop (decodeL l).2) (by rw[List.length_drop]; omega) h;refine ⟨(decodeL l).1::rs,?_,?_⟩
   ·intro c hc;rcases List.mem_cons.1 hc with rfl|hc
    ·exact dec_vr l
    ·exact hr c hc
   ·exact h1.trans ((congrArg (enc (decodeL l).1 ++ ·) e).trans (by simp[dV]))
  ·cases h
theorem Bv {l:af}:fE l=true↔∃rs:List Nat,(∀c∈rs,vr c)∧l=dV rs:=by
 refine ⟨VI l.length l (Nat.le_refl _),?_⟩
 rintro ⟨rs,hr,rfl⟩
 have:=VH rs hr [];rw[List.append_nil]at this;rw[this]; rfl
theorem IT {s t:af} {i:Nat} (h:i<s.length):(s++t).getD i 0=s.getD i 0:=by
 simp[List.getD,List.getElem?_append_left h]
theorem getD_app_at {s t:af} {x:UInt8}:(s++x::t).getD s.length 0=x:=by
 simp[List.getD]
end Go.bb
namespace Go.bb
theorem ao {R:Type} {b:Bool} {k:Option R} (h:b=true):bB b k=k:=by subst h; rfl
theorem aK {n:Int} (h1 : -9223372036854775808≤n) (h2:n≤9223372036854775807):IntKind.i64.wrap n=n:=by
 simp only[IntKind.wrap,IntKind.bits,IntKind.signed,IntKind.min,IntKind.max];simp;omega
theorem Json.eta (x:Json):(⟨x.kind,⟨x.num.au,x.num.exp⟩,x.text,x.names,x.items⟩:Json)=x:=by cases x; rfl
theorem Raw.eta (x:Raw):(⟨x.kind,x.au,x.exp,x.text,x.items⟩:Raw)=x:=by cases x; rfl
theorem getD_at {α:Type} {l:List α} {i:Nat} (h:i<l.length) (d:α):l.getD i d=l[i]:=by simp[List.getD,h]
end Go.bb
set_option maxRecDepth 100000
namespace Go.Proofs.YtmlkkgfenfdndaaGreatDoor
open Go Go.bb Go.RowKit Go.Shelf
section
variable {w w':World} {h:aR} {c:km} {R:Type}
theorem below_drewN:∀(q:Nat) (a:World),Below w.heap.size w a→Below w.heap.size w (a.drewN q)
 | 0,_,ha=>ha
 | q+1,a,ha=>(below_drewN q a ha).drew
theorem below_push (a:World) (os:Array Obj) (ha:Below w.heap.size w a):Below w.heap.size w { a with heap:=a.heap++os } :=
 ⟨ha.os,ha.tape,ha.output,by simp; have:=ha.size; omega,fun k hk=>by
  have:=ha.size;rw[←ha.block k hk];exact Array.getElem?_append_left (by omega)⟩
theorem below_bytes (e:TypeId) (t:ByteArray):Below w.heap.size w (Go.Lib.bytesWorld w e t):=by
 unfold Go.Lib.bytesWorld World.freeze;have hb:Below w.heap.size w (w.drew.alloc (.cells (Go.Lib.bytesCells w e t) e)):=DW w _;split
 ·exact hb
 ·refine ⟨hb.os,hb.tape,hb.output,?_,fun k hk => ?_⟩
  ·have:=hb.size; simpa using this
  ·rw[←hb.block k hk];simp only[Array.getElem?_modify];rw[if_neg (by show ¬w.heap.size=k; omega)]
theorem trimL_le (s cs:af):(bu s cs).length≤s.length:=vT _ s
theorem trimR_le (s cs:af):(cM s cs).length≤s.length:=by
 unfold cM;rw[List.length_reverse];exact Nat.le_trans (vT _ _) (by simp)
theorem trimL_nil (s:af):bu s []=s:=by
 unfold bu;cases s with
 | nil=>rfl
 | cons b s=>simp
theorem trimR_nil (s:af):cM s []=s:=by
 unfold cM;have:(s.reverse.dropWhile fun x=>List.contains [] x)=s.reverse:=by
  cases s.reverse with
  | nil=>rfl
  | cons b s=>simp
 rw[this,List.reverse_reverse]
theorem trimL_one (s:af) (b:UInt8):bu s [b]=Go.Lib.trimLeftB s b:=by
 unfold bu Go.Lib.trimLeftB;congr 1;funext x;rw[List.contains_cons];show (x==b||false)=_;rw[Bool.or_false]
theorem trimR_one (s:af) (b:UInt8):cM s [b]=Go.Lib.trimRightB s b:=by
 unfold cM Go.Lib.trimRightB;congr 2;funext x;rw[List.contains_cons];show (x==b||false)=_;rw[Bool.or_false]
theorem valid_ok:bb.Spec.Ok Tryz.prog 72 (valid_S R):=by
 refine rQ Tryz.func72 rfl rfl fun vs hp k r hk w c args wf ra => ?_
 unfold valid_S at hk;split at hk <;> (try cases hk);rename_i s;obtain ⟨a,rfl,r1⟩:=repL1 ra;obtain ⟨t,rfl,rfl,hl⟩:=r1.kF;refine ⟨_,hk,mX (Any.utf8_ValidString Tryz.lay196 t w hl wf.lay.1.1) ?_⟩
 rintro e w' ⟨he,hb⟩
 exact ⟨_,he,hb, .bool _⟩
theorem dec_ok:bb.Spec.Ok Tryz.prog 130 (dec_S R):=by
 refine rQ Tryz.func130 rfl rfl fun vs hp k r hk w c args wf ra => ?_
 unfold dec_S at hk;split at hk <;> (try cases hk);rename_i s;obtain ⟨a,rfl,r1⟩:=repL1 ra;obtain ⟨t,rfl,rfl,hl⟩:=r1.kF;have hd:Go.Lib.decodeGo t=pV t.data.toList:=by
  unfold Go.Lib.decodeGo pV;by_cases h0:t.size=0
  ·have:t.data.toList = []:=List.eq_nil_of_length_eq_zero (by rw[size_data]; exact h0);simp[h0,this]
  ·have:t.data.toList ≠ []:=fun e=>h0 (by rw[←size_data,e]; rfl)
   have hm:(⟨t.data.toList.toArray⟩:ByteArray)=t:=wK rfl;simp[h0,hm];exact fun e=>absurd (show t.data.size=0 by rw[e]; rfl) h0
 have jJ:(pV t.data.toList).1<2097152∧(pV t.data.toList).2≤4:=by
  unfold pV;split
  ·exact ⟨by omega,by omega⟩
  ·exact ⟨(Ua _ _).1,(Ua _ _).2.2⟩
 refine ⟨_,hk,mX (Any.utf8_DecodeRuneInString Tryz.lay197 t w wf.lay.1.1) ?_⟩
 rintro e w' ⟨he,hb⟩
 rw[hd]at he;refine ⟨_,he,hb, .tuple rfl fun j v d hv hd => ?_⟩
 match j,hv,hd with
 | 0,hv,hd=>simp at hv hd; subst hv; subst hd; exact .int (has_rune _ jJ.1)
 | 1,hv,hd=>simp at hv hd; subst hv; subst hd; exact .int (LA _ (by unfold mx; omega))
 | j+2,hv,_=>simp at hv
theorem itoa_ok:bb.Spec.Ok Tryz.prog 66 (itoa_S R):=by
 refine rQ Tryz.func66 rfl rfl fun vs hp k r hk w c args wf ra => ?_
 unfold itoa_S at hk;split at hk <;> (try cases hk);rename_i n;obtain ⟨a,rfl,r1⟩:=repL1 ra;obtain ⟨rfl,hn⟩:=r1.jg;have hn' : -9223372036854775808≤n∧n≤9223372036854775807:=by simpa [IntKind.has,IntKind.min,IntKind.max,IntKind.signed,IntKind.bits]using hn
 refine ⟨_,hk,mX (Any.strconv_Itoa Tryz.lay171 n hn'.1 hn'.2 w wf.lay.1.2.1) ?_⟩
 rintro e w' ⟨he,q,os,rfl⟩
 refine ⟨_,he,below_push _ os (below_drewN q w (Below.refl _ _)),str_of _ ?_⟩;have:=Go.Lib.itoa_length_le n hn'.1 hn'.2;unfold cA mx;omega
theorem x72:Builder.X72 Tryz.prog Tryz.LP := { sizeBuilder:=by kernel_rfl,liesBuilder:=by kernel_rfl }
theorem xBuilder:Builder.Extra Tryz.prog Tryz.LP := { x72 with t5:=Tryz.underlying5,a5:=Tryz.isAgg5,z5:=Tryz.sizeOf5,v5:=Tryz.zeroValue5,infoByte:=by kernel_rfl,cellsByte:=by kernel_rfl,sizeByte:=by kernel_rfl,neB5:=by decide }
theorem rep_ok:bb.Spec.Ok Tryz.prog 67 (rep_S R):=by
 refine rQ Tryz.func67 rfl rfl fun vs hp k r hk w c args wf ra => ?_
 unfold rep_S at hk;split at hk <;> (try cases hk);rename_i s n;obtain ⟨hc,hk⟩:=cy hk;simp only[Bool.and_eq_true,decide_eq_true_eq]at hc;obtain ⟨h0,hlen⟩:=hc;obtain ⟨a,b,rfl,r1,r2⟩:=repL2 ra;obtain ⟨t,rfl,rfl,hl⟩:=r1.kF;obtain ⟨rfl,hn⟩:=r2.jg;obtain ⟨m,rfl⟩:=Int.eq_ofNat_of_zero_le h0;have hn':(m:Int)≤9223372036854775807:=by
  have:IntKind.i64.has (m:Int):=hn;simp[IntKind.has,IntKind.min,IntKind.max,IntKind.signed,IntKind.bits]at this;omega
 rw[size_data]at hlen;have hlen':t.size*m≤140737488355328:=by omega
 have hrl:(Go.Lib.repeatL t.data.toList m).length≤140737488355328:=by
  rw[Go.Lib.repeatL_length,size_data,Nat.mul_comm]; exact hlen'
 refine ⟨_,hk,mX (Any.strings_Repeat Tryz.lay105 xBuilder t m w (by omega) hlen') ?_⟩
 rintro e w' ⟨he,hb⟩
 refine ⟨_,he,hb,?_⟩;have e2:lI t.data.toList (m:Int)=Go.Lib.repeatL t.data.toList m:=by unfold lI; simp
 rw[e2];exact str_of _ (by unfold mx; omega)
theorem Ys:bb.Spec.Ok Tryz.prog 68 (Sw R):=by
 refine rQ Tryz.func68 rfl rfl fun vs hp k r hk w c args wf ra => ?_
 unfold Sw at hk;split at hk <;> (try cases hk);rename_i s cs;obtain ⟨hc,hk⟩:=cy hk;simp only[Bool.and_eq_true,decide_eq_true_eq]at hc;obtain ⟨ha,NW⟩:=hc;obtain ⟨a,b,rfl,r1,r2⟩:=repL2 ra;obtain ⟨t,rfl,rfl,hl⟩:=r1.kF;obtain ⟨u,rfl,rfl,XH⟩:=r2.kF;rw[size_data]at NW;have hasc:=Xb ha;have hle:=trimL_le t.data.toList u.data.toList;rw[size_data]at hle;have fin:∀(l:af),l=bu t.data.toList u.data.toList→∀w':World,dQ w' hp c (.str (bu t.data.toList u.data.toList)) (.string ⟨l.toArray⟩):=fun l e w'=>by
  rw[e]; exact str_of _ (by omega)
 by_cases h0:t.size=0∨u.size=0
 ·refine ⟨_,hk,mX (Any.strings_TrimLeft_empty Tryz.lay161 t u w h0) ?_⟩
  rintro e w' ⟨he,rfl⟩
  have e2:(⟨t.data.toList.toArray⟩:ByteArray)=t:=wK rfl;rw[←e2]at he;refine ⟨_,he,Below.refl _ _,fin _ ?_ _⟩;rcases h0 with h0|h0
  ·have:t.data.toList = []:=List.eq_nil_of_length_eq_zero (by rw[size_data]; exact h0);rw[this]; unfold bu; simp
  ·have:u.data.toList = []:=List.eq_nil_of_length_eq_zero (by rw[size_data]; exact h0);rw[this,trimL_nil]
 ·have hu1:u.size=1∨2≤u.size:=by omega
  rcases hu1 with hu1|hu2
  ·obtain ⟨b,hb⟩:∃b,u.data.toList = [b]:=by
    have hul:u.data.toList.length=1:=by rw[size_data]; exact hu1
    match hq:u.data.toList,hul with
    | [b],_=>exact ⟨b,rfl⟩
   have eu:u=⟨#[b]⟩:=wK (by rw[hb]);subst eu;refine ⟨_,hk,mX (Any.strings_TrimLeft_one Tryz.lay161 t b (hasc 0 b rfl) w) ?_⟩
   rintro e w' ⟨he,rfl⟩
   exact ⟨_,he,Below.refl _ _,fin _ (trimL_one _ _).symm _⟩
  ·refine ⟨_,hk,mX (Any.strings_TrimLeft_set Tryz.lay161 Tryz.zeroValue135 (by kernel_rfl) t u w hu2 (by omega) (by omega) hasc) ?_⟩
   rintro e w' ⟨he,rfl⟩
   refine ⟨_,he,?_,fin _ rfl _⟩;exact ((Below.refl _ _).alloc (Nat.le_refl _) _).alloc (by simp) _
theorem trimR_ok:bb.Spec.Ok Tryz.prog 104 (trimR_S R):=by
 refine rQ Tryz.func104 rfl rfl fun vs hp k r hk w c args wf ra => ?_
 unfold trimR_S at hk;split at hk <;> (try cases hk);rename_i s cs;obtain ⟨hc,hk⟩:=cy hk;simp only[Bool.and_eq_true,decide_eq_true_eq]at hc;obtain ⟨ha,NW⟩:=hc;obtain ⟨a,b,rfl,r1,r2⟩:=repL2 ra;obtain ⟨t,rfl,rfl,hl⟩:=r1.kF;obtain ⟨u,rfl,rfl,XH⟩:=r2.kF;rw[size_data]at NW;have hasc:=Xb ha;have hle:=trimR_le t.data.toList u.data.toList;rw[size_data]at hle;have fin:∀(l:af),l=cM t.data.toList u.data.toList→∀w':World,dQ w' hp c (.str (cM t.data.toList u.data.toList)) (.string ⟨l.toArray⟩):=fun l e w'=>by
  rw[e]; exact str_of _ (by omega)
 by_cases h0:t.size=0∨u.size=0
 ·refine ⟨_,hk,mX (Any.strings_TrimRight_empty Tryz.lay162 t u w h0) ?_⟩
  rintro e w' ⟨he,rfl⟩
  have e2:(⟨t.data.toList.toArray⟩:ByteArray)=t:=wK rfl;rw[←e2]at he;refine ⟨_,he,Below.refl _ _,fin _ ?_ _⟩;rcases h0 with h0|h0
  ·have:t.data.toList = []:=List.eq_nil_of_length_eq_zero (by rw[size_data]; exact h0);rw[this]; unfold cM; simp
  ·have:u.data.toList = []:=List.eq_nil_of_length_eq_zero (by rw[size_data]; exact h0);rw[this,trimR_nil]
 ·have hu1:u.size=1∨2≤u.size:=by omega
  rcases hu1 with hu1|hu2
  ·obtain ⟨b,hb⟩:∃b,u.data.toList = [b]:=by
    have hul:u.data.toList.length=1:=by rw[size_data]; exact hu1
    match hq:u.data.toList,hul with
    | [b],_=>exact ⟨b,rfl⟩
   have eu:u=⟨#[b]⟩:=wK (by rw[hb]);subst eu;refine ⟨_,hk,mX (Any.strings_TrimRight_one Tryz.lay162 t b (hasc 0 b rfl) w hl) ?_⟩
   rintro e w' ⟨he,rfl⟩
   exact ⟨_,he,Below.refl _ _,fin _ (trimR_one _ _).symm _⟩
  ·refine ⟨_,hk,mX (Any.strings_TrimRight_set Tryz.lay162 Tryz.zeroValue135 (by kernel_rfl) t u w hu2 (by omega) hl (by omega) hasc) ?_⟩
   rintro e w' ⟨he,rfl⟩
   refine ⟨_,he,?_,fin _ rfl _⟩;exact ((Below.refl _ _).alloc (Nat.le_refl _) _).alloc (by simp) _
theorem atoi_ok:bb.Spec.Ok Tryz.prog 105 (atoi_S R):=by
 refine rQ Tryz.func105 rfl rfl fun vs hp k r hk w c args wf ra => ?_
 unfold atoi_S at hk;split at hk <;> (try cases hk);rename_i s;obtain ⟨hc,hk⟩:=cy hk;simp only[decide_eq_true_eq]at hc;obtain ⟨a,rfl,r1⟩:=repL1 ra;obtain ⟨t,rfl,rfl,hl⟩:=r1.kF;rw[size_data]at hc;obtain ⟨_,_,⟨t1,x1,hv1⟩,⟨t2,x2,hv2⟩⟩:=wf.lay.1;have Gv:IntKind.i64.has (eT t.data.toList):=by
  unfold eT;split
  ·rename_i v hv;unfold Go.Lib.atoiAll at hv;split at hv
   ·cases hv
   ·dsimp only at hv;split at hv
    ·cases hv
    ·cases hv
    ·rename_i u _;split at hv
     ·cases hv
     ·split at hv
      ·cases hv
      ·cases hv;split <;> simp[IntKind.has,IntKind.min,IntKind.max,IntKind.signed,IntKind.bits] <;> omega
  ·unfold Go.Lib.atoiSat;split <;> simp[IntKind.has,IntKind.min,IntKind.max,IntKind.signed,IntKind.bits]
  ·simp[IntKind.has,IntKind.min,IntKind.max,IntKind.signed,IntKind.bits]
 have two:∀(z:Int) (u:V) (w':World) (x:Value),eT t.data.toList=z→dQ w' hp c u x→dQ w' hp c (.tuple [.int .i64 (eT t.data.toList),u]) (.tuple #[.int .i64 z,x]):=fun z u w' x hz hx=>by
  subst hz;refine .tuple rfl fun j v d hv hd => ?_
  match j,hv,hd with
  | 0,hv,hd=>simp at hv hd; subst hv; subst hd; exact .int Gv
  | 1,hv,hd=>simp at hv hd; subst hv; subst hd; exact hx
  | j+2,hv,_=>simp at hv
 rcases hA:Go.Lib.atoiAll t.data.toList with v|_|_
 ·
  have e1:wO t.data.toList=true:=by unfold wO; rw[hA]
  have e2:eT t.data.toList=v:=by unfold eT; rw[hA]
  rw[e1]at hk;refine ⟨_,hk,mX (Any.strconv_Atoi_ok Tryz.lay172 t (by omega) v hA w) ?_⟩
  rintro e w' ⟨he,hb⟩
  refine ⟨_,he,?_,two _ _ _ _ e2 .eg⟩;rcases hb with rfl|⟨q,rfl⟩
  ·exact Below.refl _ _
  ·exact below_bytes _ _
 ·
  have e1:wO t.data.toList=false:=by unfold wO; rw[hA]
  have e2:eT t.data.toList=0:=by unfold eT; rw[hA]
  rw[e1]at hk;refine ⟨_,hk,mX (Any.strconv_Atoi_syntax Tryz.lay172 t hc hA (.iface t1 x1) w hv1 (.inr ⟨_,_,rfl⟩)) ?_⟩
  rintro e w' ⟨q,he,_,_,hb⟩
  exact ⟨_,he,hb,two _ _ _ _ e2 (.iface _ _)⟩
 ·
  have e1:wO t.data.toList=false:=by unfold wO; rw[hA]
  have e2:eT t.data.toList=Go.Lib.atoiSat t.data.toList:=by unfold eT; rw[hA]
  rw[e1]at hk;refine ⟨_,hk,mX (Any.strconv_Atoi_range Tryz.lay172 t hc hA (.iface t2 x2) w hv2 (.inr ⟨_,_,rfl⟩)) ?_⟩
  rintro e w' ⟨q,he,_,_,hb⟩
  exact ⟨_,he,hb,two _ _ _ _ e2 (.iface _ _)⟩
theorem toErr_ok:bb.Spec.Ok Tryz.prog 136 (toErr_S R 184):=by
 refine rQ Tryz.func136 rfl rfl fun vs hp k r hk w c args wf ra => ?_
 unfold toErr_S at hk;split at hk <;> (try cases hk);rename_i fn s b1 b2 t n;obtain ⟨hc,hk1⟩:=cy hk;obtain ⟨Vv,M4⟩:=cy hk1;simp only[Bool.and_eq_true,Bool.or_eq_true,beq_iff_eq,decide_eq_true_eq]at hc Vv;obtain ⟨ht,hn⟩:=hc;have ht:=Nat.eq_of_beq_eq_true ht;subst ht;obtain ⟨l⟩:=args
 match l,ra with
 | [a1,a2,a3,a4,a5],ra =>
  obtain ⟨t1,rfl,rfl,_⟩:=ra.head.kF;obtain ⟨t2,rfl,rfl,XH⟩:=ra.tail.head.kF;obtain ⟨rfl,_⟩:=ra.tail.tail.head.jg;obtain ⟨rfl,_⟩:=ra.tail.tail.tail.head.jg;obtain ⟨rfl,_⟩:=ra.tail.tail.tail.tail.head.ifi_inv;rw[size_data]at Vv;obtain ⟨_,_,⟨p1,x1,hv1⟩,⟨p2,x2,hv2⟩⟩:=wf.lay.1;rcases hn with rfl|rfl
  ·refine ⟨_,M4,mX (Any.strconv_toError_syntax Tryz.lay245 t1 t2 b1 b2 (.iface p1 x1) w Vv hv1 (.inr ⟨_,_,rfl⟩)) ?_⟩
   rintro e w' ⟨q,he,_,_,hb⟩
   exact ⟨_,he,hb, .iface _ _⟩
  ·refine ⟨_,M4,mX (Any.strconv_toError_range Tryz.lay245 t1 t2 b1 b2 (.iface p2 x2) w Vv hv2 (.inr ⟨_,_,rfl⟩)) ?_⟩
   rintro e w' ⟨q,he,_,_,hb⟩
   exact ⟨_,he,hb, .iface _ _⟩
 | [],ra=>have:=ra.1; simp at this
 | [_],ra=>have:=ra.1; simp at this
 | [_,_],ra=>have:=ra.1; simp at this
 | [_,_,_],ra=>have:=ra.1; simp at this
 | [_,_,_,_],ra=>have:=ra.1; simp at this
 | _::_::_::_::_::_::_,ra=>have:=ra.1; simp at this
theorem hasAny_ok:bb.Spec.Ok Tryz.prog 173 (Yp R):=by
 refine rQ Tryz.func173 rfl rfl fun vs hp k r hk w c args wf ra => ?_
 unfold Yp at hk;split at hk <;> (try cases hk);rename_i s cs;obtain ⟨hc,hk⟩:=cy hk;simp only[Bool.and_eq_true,decide_eq_true_eq]at hc;obtain ⟨⟨⟨ha,hb⟩,hsl⟩,NW⟩:=hc;obtain ⟨a,b,rfl,r1,r2⟩:=repL2 ra;obtain ⟨t,rfl,rfl,hl⟩:=r1.kF;obtain ⟨u,rfl,rfl,XH⟩:=r2.kF;rw[size_data]at hsl NW;refine ⟨_,hk,mX (Any.strings_ContainsAny_laid Tryz.lay150 (by kernel_rfl) t u w hsl NW (Xb ha) (Xb hb)) ?_⟩
 rintro e w' ⟨he,hb⟩
 exact ⟨_,he,hb, .bool _⟩
theorem idx_ok:bb.Spec.Ok Tryz.prog 71 (idx_S R):=by
 refine rQ Tryz.func71 rfl rfl fun vs hp k r hk w c args wf ra => ?_
 unfold idx_S at hk;split at hk <;> (try cases hk);rename_i s ch;obtain ⟨a,b,rfl,r1,r2⟩:=repL2 ra;obtain ⟨t,rfl,rfl,hl⟩:=r1.kF;obtain ⟨rfl,hn⟩:=r2.jg;have hb:IntKind.i64.has (Go.Lib.indexByte t.data.toList ch.toNat.toUInt8):=by
  have h1:=Go.Lib.indexByte_ge t.data.toList ch.toNat.toUInt8;have h2:Go.Lib.indexByte t.data.toList ch.toNat.toUInt8≤t.data.toList.length:=by
   generalize t.data.toList=l
   induction l with
   | nil=>simp[Go.Lib.indexByte]
   | cons x l ih =>
    have:=Go.Lib.indexByte_ge l ch.toNat.toUInt8;unfold Go.Lib.indexByte;split
    ·simp; omega
    ·split
     ·simp; omega
     ·simp; omega
  rw[size_data]at h2;unfold mx at hl;generalize Go.Lib.indexByte t.data.toList ch.toNat.toUInt8=z at h1 h2;simp[IntKind.has,IntKind.min,IntKind.max,IntKind.signed,IntKind.bits]; omega
 refine ⟨_,hk,mX (Any.strings_IndexByte Tryz.lay137 t ch w) ?_⟩
 rintro e w' ⟨he,rfl⟩
 exact ⟨_,he,Below.refl _ _, .int hb⟩
theorem bccL:Lays.n240 Tryz.prog Tryz.LP := { Tryz.lay105 with }
theorem Yt:bb.Spec.Ok Tryz.prog 73 (VG R) :=
 bcc_ok Tryz.func73 rfl rfl (fun b w h0 hs hf=>Any.Builder_copyCheck_fresh bccL x72 b w h0 hs hf) (fun b w h0=>Any.Builder_copyCheck_used bccL x72 b w h0)
theorem bstrL:Lays.n169 Tryz.prog Tryz.Rm:=Tryz.lay169
theorem IU:Builder.Extra Tryz.prog Tryz.Rm := { sizeBuilder:=by kernel_rfl,liesBuilder:=by kernel_rfl,t5:=Tryz.underlying5,a5:=Tryz.isAgg5,z5:=Tryz.sizeOf5,v5:=Tryz.zeroValue5,infoByte:=by kernel_rfl,cellsByte:=by kernel_rfl,sizeByte:=by kernel_rfl,neB5:=by decide }
set_option maxHeartbeats 1000000 in
theorem string_some (b q cap:Nat) (p:Value) (cur:Array Value) (fz:Nat×Nat) (l:List UInt8) (w:World) (h0:l ≠ []) (hbk:w.heap[b]? = some (.cells #[p, .slice (some ⟨q,0,none⟩) l.length cap] pX.ng (0,0)))
  (hq:w.heap[q]? = some (.cells cur pX.u8 fz)) (hnc:l.length≤cap) (hcm:cap≤mx) (sL:l.length≤cur.size) (DL:∀(j:Nat) (x:UInt8),l[j]? = some x→w.cell? ⟨q,j,none⟩=some (.int .u8 x.toNat)) :
  Calls Tryz.prog 39 #[.pointer (some ⟨b,0,none⟩)] w fun e w'=>e = .returned (.string ⟨l.toArray⟩)∧w'=w.drew.freeze ⟨q,0,none⟩ l.length:=by
 have Vv:l.length≠0:=by simpa using h0
 have L:=bstrL;have X:=IU;have c1:w.drew.cell? ⟨b,1,none⟩=some (.slice (some ⟨q,0,none⟩) l.length cap):=by
  have h1:w.drew.heap[b]? = some (.cells #[p, .slice (some ⟨q,0,none⟩) l.length cap] pX.ng (0,0)):=hbk;rw[Lib.cell_of_heap h1]; rfl
 have hSD:(Builtin.unsafeSliceData_ #[41] 106 #[.slice (some ⟨q,0,none⟩) l.length cap]).run Tryz.prog w.drew = .ok (.pointer (some ⟨q,0,none⟩)) w.drew :=
  Lib.run_unsafeSliceData_row _ _ _ _ _ _ (by omega)
 have hUS:(Builtin.unsafeString_ #[106,3] 9 #[.pointer (some ⟨q,0,none⟩), .int .i64 l.length]).run Tryz.prog w.drew = .ok (.string ⟨l.toArray⟩) (w.drew.freeze ⟨q,0,none⟩ l.length):=by
  refine Lib.run_unsafeString_row w.drew 106 3 9 5 L.t127 X.cellsByte q cur.size (by have hq':w.drew.heap[q]? = some (.cells cur 5 fz):=hq; simp[World.shape?,hq']) l h0 sL (by unfold mx at hcm; omega) ?_;intro j x hx;have:=DL j x hx;rw[bb.uG,Nat.zero_add];exact this
 have mixed:=L.mixed;have t72:=L.t72; have a72:=L.a72; have z72:=L.z72; have v72:=L.v72; have u72:=run_underlying L.t72;have t70:=L.t70; have a70:=L.a70; have z70:=L.z70; have v70:=L.v70; have u70:=run_underlying L.t70;have t37:=L.t37; have a37:=L.a37; have z37:=L.z37; have v37:=L.v37; have u37:=run_underlying L.t37;have t127:=L.t127; have a127:=L.a127; have z127:=L.z127; have v127:=L.v127; have u127:=run_underlying L.t127;have t3:=L.t3; have a3:=L.a3; have z3:=L.z3; have v3:=L.v3; have u3:=run_underlying L.t3;have t9:=L.t9; have a9:=L.a9; have z9:=L.z9; have v9:=L.v9; have u9:=run_underlying L.t9
 have t5:=X.t5; have a5:=X.a5; have z5:=X.z5; have v5:=X.v5; have u5:=run_underlying X.t5
 go_enter Tryz.func39,Tryz.ntmps39
 go_wp2
 go_region_o
 all_goals (go_wp2; go_ret; exact ⟨rfl,rfl⟩)
set_option maxHeartbeats 2000000 in
theorem Z9 (b q:Nat) (p:Value) (cur:Array Value) (fz:Nat×Nat) (w:World) (hbk:w.heap[b]? = some (.cells #[p, .slice (some ⟨q,0,none⟩) 0 0] pX.ng (0,0))) (hq:w.heap[q]? = some (.cells cur pX.u8 fz)) :
  Calls Tryz.prog 39 #[.pointer (some ⟨b,0,none⟩)] w fun e w'=>e = .returned (.string ⟨#[]⟩)∧Below w.heap.size w w':=by
 have L:=bstrL;have X:=IU;have hUS:∀(W:World) (q:Option Addr),(Builtin.unsafeString_ #[106,3] 9 #[.pointer q, .int .i64 0]).run Tryz.prog W = .ok (.string .empty) W:=fun W q=>Lib.run_unsafeString_none W _ _ _ q
 have jJ:b<w.heap.size:=by
  rcases Nat.lt_or_ge b w.heap.size with h'|h'
  ·exact h'
  ·simp[Array.getElem?_eq_none h']at hbk
 have c1:w.drew.cell? ⟨b,1,none⟩=some (.slice (some ⟨q,0,none⟩) 0 0):=by
  have:w.drew.heap[b]? = some (.cells #[p, .slice (some ⟨q,0,none⟩) 0 0] pX.ng (0,0)):=hbk;rw[Lib.cell_of_heap this]; rfl
 have hSD:(Builtin.unsafeSliceData_ #[41] 106 #[.slice (some ⟨q,0,none⟩) 0 0]).run Tryz.prog w.drew = .ok (.pointer (some ⟨w.drew.heap.size,0,none⟩)) (w.drew.alloc (.view ⟨q,0,none⟩ 5)) :=
  Lib.run_unsafeSliceData_zero w.drew _ _ 5 L.t127 ⟨q,0,none⟩ 0 (5,cur.size) (by have hq':w.drew.heap[q]? = some (.cells cur 5 fz):=hq; simp[World.shape?,hq'])
 have c2:(w.drew.alloc (.view ⟨q,0,none⟩ 5)).cell? ⟨b,1,none⟩=some (.slice (some ⟨q,0,none⟩) 0 0):=by
  have:(w.drew.alloc (.view ⟨q,0,none⟩ 5)).heap[b]? = _:=(Lib.alloc_old w.drew _ b jJ).trans hbk;rw[Lib.cell_of_heap this]; rfl
 have c3:(w.alloc (.view ⟨q,0,none⟩ 5)).drew.cell? ⟨b,1,none⟩=some (.slice (some ⟨q,0,none⟩) 0 0):=c2;have c0:w.cell? ⟨b,1,none⟩=some (.slice (some ⟨q,0,none⟩) 0 0):=c1;have mixed:=L.mixed;have t72:=L.t72; have a72:=L.a72; have z72:=L.z72; have v72:=L.v72; have u72:=run_underlying L.t72;have t70:=L.t70; have a70:=L.a70; have z70:=L.z70; have v70:=L.v70; have u70:=run_underlying L.t70;have t37:=L.t37; have a37:=L.a37; have z37:=L.z37; have v37:=L.v37; have u37:=run_underlying L.t37;have t127:=L.t127; have a127:=L.a127; have z127:=L.z127; have v127:=L.v127; have u127:=run_underlying L.t127;have t3:=L.t3; have a3:=L.a3; have z3:=L.z3; have v3:=L.v3; have u3:=run_underlying L.t3
 have t9:=L.t9; have a9:=L.a9; have z9:=L.z9; have v9:=L.v9; have u9:=run_underlying L.t9;have t5:=X.t5; have a5:=X.a5; have z5:=X.z5; have v5:=X.v5; have u5:=run_underlying X.t5
 go_enter Tryz.func39,Tryz.ntmps39
 go_wp2
 go_region_o
 all_goals (go_wp2; go_ret; exact ⟨rfl,(Below.drew (Below.refl _ w)).alloc (Nat.le_refl _) _⟩)
theorem string_does:Yn Tryz.prog 39 where
 nil:=fun b p w hbk=>Any.Builder_String_nil bstrL IU w.heap.size b p w hbk
 noroom:=Z9
 room:=fun b q cap p w hc hbk=>Any.Builder_String_room bstrL IU w.heap.size b q cap p w hc hbk
 some:=string_some
theorem Xc:bb.Spec.Ok Tryz.prog 39 (LQ R):=bstr_ok Tryz.func39 rfl rfl string_does
end
end Go.Proofs.YtmlkkgfenfdndaaGreatDoor
set_option maxRecDepth 100000
namespace Go.Proofs.YtmlkkgfenfdndaaGreatDoor
open Go Go.bb
variable {R:Type}
abbrev zD (R:Type):Type:=Int→Int→(Int→Option R)→Option R
abbrev LR:List dh := [.leaf (.int .i64), .leaf (.int .i64)]
abbrev LS:List aY := []
def Qh (fn:zD R):oC R LR LS:=fun x y k=>fn x.1 x.2.1 (fun q0=>k (.int .i64 q0) [])
def LU (fn:zD R):=aG LR LS (Qh fn)
section
def Sy (x1:Int) (x2:Int) (k0:Int→Option R):Option R :=
 bif (decide (x1<(0:Int)))then (bB (!decide (x2=0)) (k0 (Int.tmod (IntKind.i64.wrap (0 - (IntKind.i64.wrap (x1+1)))) x2)))else (bB (!decide (x2=0)) (k0 (Int.tmod x1 x2)))
theorem aac:fC (R:=R) tt [] AL false Tryz.f35 LR LS (Qh Sy):=fun x y k=>by kernel_rfl
end
def dm:zD R:=fun x1 x2 k0=>Sy x1 x2 k0
theorem M5 (R:Type):od Tryz.prog 35 (LU (dm (R:=R))):=bS TT mixed .n rfl rfl rfl rfl dM (aac)
abbrev Eu (R:Type):Type:=Int→Int→(Int→Option R)→Option R
abbrev LV:List dh := [.leaf (.int .i64), .leaf (.int .i64)]
abbrev LW:List aY := []
def Qi (fn:Eu R):oC R LV LW:=fun x y k=>fn x.1 x.2.1 (fun q0=>k (.int .i64 q0) [])
def Sz (fn:Eu R):=aG LV LW (Qi fn)
section
def SA (x1:Int) (x2:Int) (k0:Int→Option R):Option R :=
 bif (decide (x1<(0:Int)))then (bB (!decide (x2=0)) (k0 (Int.tmod (IntKind.i64.wrap (0 - (IntKind.i64.wrap (x1+1)))) x2)))else (bB (!decide (x2=0)) (k0 (Int.tmod x1 x2)))
theorem aad:fC (R:=R) tt [] AL false Tryz.f54 LV LW (Qi SA):=fun x y k=>by kernel_rfl
end
def iX:Eu R:=fun x1 x2 k0=>SA x1 x2 k0
theorem V3 (R:Type):od Tryz.prog 54 (Sz (iX (R:=R))):=bS TT mixed .n rfl rfl rfl rfl dM (aad)
abbrev Ca (R:Type):Type:=Int→Int→(cC→Option R)→Option R
abbrev Oh:List dh := [.leaf (.int .i64), .leaf (.int .i64)]
abbrev Oi:List aY := []
def SB (fn:Ca R):oC R Oh Oi:=fun x y k=>fn x.1 x.2.1 (fun q0=>k (.agg [.int .i64 q0.au, .int .i64 q0.exp]) [])
def Oj (fn:Ca R):=aG Oh Oi (SB fn)
abbrev D3 (R:Type):Type:=Nat→Int→Int→cC→(Int→Int→cC→Option R)→Option R
def As:Hint := { live := [4,5,6],own := [],rows := [],cells := [],drop := [],out := [4,5,6] }
abbrev qu:Type:=Int×Int×cC
def Cb:qu→St:=fun d=>⟨U 4 (.ptr 0 0 :: .int .i64 d.1 :: .int .i64 d.2.1::U 20 ([])), [.cells [.int .i64 d.2.2.au, .int .i64 d.2.2.exp]]⟩
def D4 (K:Ex→St→Option R) (q0:Int) (q1:Int) (q2:cC):Option R:=K (.exit 0) ⟨U 4 (.ptr 0 0 :: .int .i64 q0 :: .int .i64 q1::U 20 ([])), [.cells [.int .i64 q2.au, .int .i64 q2.exp]]⟩
abbrev ve:List dh:=PU 4 (.leaf (.ptr 0 0) :: .leaf (.int .i64) :: .leaf (.int .i64)::PU 20 ([]))
abbrev vf:List aY := [.cells [.int .i64, .int .i64]]
def M6 (x:dh.bD ve) (y:aY.bD vf):Nat:=(Int.natAbs x.2.2.2.2.2.1+Int.natAbs x.2.2.2.2.2.2.1+cC.fu (⟨y.1.1,y.1.2.1⟩:cC)+64)
def V4 (x:dh.bD ve) (y:aY.bD vf):qu:=(x.2.2.2.2.2.1,x.2.2.2.2.2.2.1,(⟨y.1.1,y.1.2.1⟩:cC))
def Kx (L:D3 R):sI R ve vf:=fun x y K=>L (M6 x y) x.2.2.2.2.2.1 x.2.2.2.2.2.2.1 (⟨y.1.1,y.1.2.1⟩:cC) (D4 K)
section
variable (iX:Eu R) (di:D3 R)
def Bw:List (sS R) := [(54,true,(Sz iX aC))]
def qv (cb:Int→Int→cC→Option R) (x5:Int) (x6:Int) (x7:cC) (e0:Int→Int→cC→Option R):Option R :=
 bif (x5 != 0)then (bif ((Int.tmod x5 10)==0)then (cb (IntKind.i64.wrap (Int.tdiv x5 10)) x6 x7)else (e0 x5 x6 x7))else (e0 x5 x6 x7)
def M7 (K:Ex→St→Option R) (rc:qu→Option R) (d:qu):Option R:=qv (fun z0 z1 z2=>rc (z0,z1,z2)) d.1 d.2.1 d.2.2 (D4 K)
def EW:Nat→Option (Hint×cF R):=fun i=>match i with
 | 3=>some (As,(cq ve vf (Kx di) gl))
 | _=>none
theorem Ro (K:Ex→St→Option R) (rc:St→Option R) (d:qu):roundOf tt (cz (Bw iX)) (EW di) 0 ((aA (aQ Tryz.f28)).getD 0 .skip) As (Cb d) rc K=M7 K (fun d=>rc (Cb d)) d:=by kernel_rfl
def EX (x1:Int) (x2:Int) (k0:cC→Option R):Option R :=
 iX x1 2000000000000001 (fun y3=>iX x2 19 (fun y4=>di (Int.natAbs (IntKind.i64.wrap (y3 - 1000000000000000))+Int.natAbs (IntKind.i64.wrap (y4 - 9))+cC.fu (⟨0,0⟩:cC)+64) (IntKind.i64.wrap (y3 - 1000000000000000)) (IntKind.i64.wrap (y4 - 9)) (⟨0,0⟩:cC) (fun y9 o5 jf=>bif (y9==0)then (k0 (⟨y9,0⟩:cC))else (k0 (⟨y9,o5⟩:cC)))))
theorem law01_Fit_ok:fC (R:=R) tt (Bw iX) (EW di) false Tryz.f28 Oh Oi (SB (EX iX di)):=fun x y k=>by kernel_rfl
end
theorem aae:dy (R:=R) Tryz.prog (Bw (R:=R) iX) := .c (V3 R) <| .n
def di:D3 R
 | 0,_,_,_,_=>none
 | n+1,eh,eB,fb,e0=>qv (fun eh eB fb=>di n eh eB fb e0) eh eB fb e0
def M8 (K:Ex→St→Option R) (n:Nat) (d:qu):Option R:=di n d.1 d.2.1 d.2.2 (D4 K)
theorem Um (other:cF R) (ho:fZ tt (cz (Bw (R:=R) iX)) (EW (R:=R) di) 0 ((aA (aQ Tryz.f28)).getD 0 .skip) As other):fZ tt (cz (Bw (R:=R) iX)) (EW (R:=R) di) 0 ((aA (aQ Tryz.f28)).getD 0 .skip) As (cq ve vf (Kx (di)) other) :=
 cx (A:=M8) ho (dD Cb (M7) (M8) (fun _ _=>by kernel_rfl) (Ro iX di) (fun _ _ _=>by kernel_rfl)) M6 V4 (fun _ _=>by kernel_rfl) (fun _ _ _=>by kernel_rfl)
def eI:Ca R:=fun x1 x2 k0=>EX iX di x1 x2 k0
theorem V5 (R:Type):∀a∈aA (aQ Tryz.f28),gE tt (cz (Bw (R:=R) iX)) (EW (R:=R) di) 0 a:=by
 refine eV 1 (by kernel_rfl) fun i hi => ?_
 match i,hi with
 | 0,_=>exact bT (by kernel_rfl) (Um _ cQ)
 | n+1,hi=>omega
theorem Ol (R:Type):od Tryz.prog 28 (Oj (eI (R:=R))):=bS TT mixed (aae (R:=R)) rfl rfl rfl rfl (V5 R) (law01_Fit_ok iX di)
abbrev Ev (R:Type):Type:=Int→Int→(Int→Option R)→Option R
abbrev LX:List dh := [.leaf (.int .i64), .leaf (.int .i64)]
abbrev LY:List aY := []
def Qj (fn:Ev R):oC R LX LY:=fun x y k=>fn x.1 x.2.1 (fun q0=>k (.int .i64 q0) [])
def SC (fn:Ev R):=aG LX LY (Qj fn)
section
def SD (x1:Int) (x2:Int) (k0:Int→Option R):Option R :=
 bif (decide (x1<(0:Int)))then (bB (!decide (x2=0)) (k0 (Int.tmod (IntKind.i64.wrap (0 - (IntKind.i64.wrap (x1+1)))) x2)))else (bB (!decide (x2=0)) (k0 (Int.tmod x1 x2)))
theorem aaf:fC (R:=R) tt [] AL false Tryz.f60 LX LY (Qj SD):=fun x y k=>by kernel_rfl
end
def fw:Ev R:=fun x1 x2 k0=>SD x1 x2 k0
theorem V6 (R:Type):od Tryz.prog 60 (SC (fw (R:=R))):=bS TT mixed .n rfl rfl rfl rfl dM (aaf)
abbrev zE (R:Type):Type:=(List Int)→(af→Option R)→Option R
abbrev LZ:List dh := [.leaf (.sl (.int .i64))]
abbrev L0:List aY := []
def Qk (fn:zE R):oC R LZ L0:=fun x y k=>fn x.1 (fun q0=>k (.str q0) [])
def L1 (fn:zE R):=aG LZ L0 (Qk fn)
abbrev Cc (R:Type):Type:=Nat→(List Int)→af→Int→(af→Option R)→Option R
def xH:Hint := { live := [0,3,4],own := [],rows := [],cells := [],drop := [],out := [2,3] }
abbrev oP:Type:=(List Int)×af×Int
def AM:oP→St:=fun d=>⟨.sl (.int .i64) d.1 .no::U 2 (.str d.2.1 :: .int .i64 d.2.2::U 50 ([])), []⟩
def Cd (K:Ex→St→Option R) (q0:af):Option R:=K (.exit 0) ⟨U 3 (.str q0::U 51 ([])), []⟩
abbrev sT:List dh := .leaf (.sl (.int .i64))::PU 2 (.leaf (.str) :: .leaf (.int .i64)::PU 50 ([]))
abbrev sU:List aY := []
def Ky (x:dh.bD sT) (y:aY.bD sU):Nat:=(List.length x.1+List.length x.2.2.2.1+Int.natAbs x.2.2.2.2.1+64)
def Un (x:dh.bD sT) (y:aY.bD sU):oP:=(x.1,x.2.2.2.1,x.2.2.2.2.1)
def IV (L:Cc R):sI R sT sU:=fun x y K=>L (Ky x y) x.1 x.2.2.2.1 x.2.2.2.2.1 (Cd K)
section
variable (fw:Ev R) (dz:Cc R)
def xI:List (sS R) := [(60,true,(SC fw aC))]
def kn (cb:(List Int)→af→Int→Option R) (x2:List Int) (x3:af) (x4:Int) (e0:af→Option R):Option R :=
 bif (decide (x4<(x2.length:Int)))then (bif (decide (x4<(200:Int)))then (bB (decide ((0:Int)≤x4)&&decide (x4<x2.length)) (let j16:=fun (V7:Int)=>bif (decide (V7≥(55296:Int)))then (bif (decide (V7≤(57343:Int)))then (bB (decide (x3.length+(qk ([120]:List Int)).length≤9223372036854775807)) (cb x2 (x3++(qk ([120]:List Int))) (IntKind.i64.wrap (x4+1))))else (bB (decide (x3.length+(qk ([(IntKind.i32.wrap V7)]:List Int)).length≤9223372036854775807)) (cb x2 (x3++(qk ([(IntKind.i32.wrap V7)]:List Int))) (IntKind.i64.wrap (x4+1)))))else (bB (decide (x3.length+(qk ([(IntKind.i32.wrap V7)]:List Int)).length≤9223372036854775807)) (cb x2 (x3++(qk ([(IntKind.i32.wrap V7)]:List Int))) (IntKind.i64.wrap (x4+1)))); fw (x2.getD x4.toNat (Ty.br (.int .i64))) 5 (fun y6=>let j12:=fun (z7:Bool)=>bif z7 then (fw (IntKind.i64.wrap (Int.tdiv (x2.getD x4.toNat (Ty.br (.int .i64))) 5)) 128 (fun y8=>j16 y8))else (bif (y6==2)then (fw (IntKind.i64.wrap (Int.tdiv (x2.getD x4.toNat (Ty.br (.int .i64))) 5)) 2048 (fun y9=>j16 y9))else (bif (y6==3)then (fw (IntKind.i64.wrap (Int.tdiv (x2.getD x4.toNat (Ty.br (.int .i64))) 5)) 65536 (fun o5=>j16 o5))else (fw (IntKind.i64.wrap (Int.tdiv (x2.getD x4.toNat (Ty.br (.int .i64))) 5)) 1114112 (fun jf=>j16 jf)))); bif (y6==0)then (j12 (y6==0))else (j12 (y6==1)))))else (e0 x3))else (e0 x3)
def Kz (K:Ex→St→Option R) (rc:oP→Option R) (d:oP):Option R:=kn fw (fun z0 z1 z2=>rc (z0,z1,z2)) d.1 d.2.1 d.2.2 (Cd K)
def Ce:Nat→Option (Hint×cF R):=fun i=>match i with
 | 3=>some (xH,(cq sT sU (IV dz) gl))
 | _=>none
theorem PG (K:Ex→St→Option R) (rc:St→Option R) (d:oP):roundOf tt (cz (xI fw)) (Ce dz) 0 ((aA (aQ Tryz.f37)).getD 0 .skip) xH (AM d) rc K=Kz fw K (fun d=>rc (AM d)) d:=by kernel_rfl
def SE (x1:List Int) (k0:af→Option R):Option R :=
 dz (List.length x1+List.length ([]:af)+Int.natAbs 0+64) x1 ([]:af) 0 (fun NX=>k0 NX)
theorem aag:fC (R:=R) tt (xI fw) (Ce dz) false Tryz.f37 LZ L0 (Qk (SE dz)):=fun x y k=>by kernel_rfl
end
theorem Yu:dy (R:=R) Tryz.prog (xI (R:=R) fw) := .c (V6 R) <| .n
def dz:Cc R
 | 0,_,_,_,_=>none
 | n+1,eh,eB,fb,e0=>kn fw (fun eh eB fb=>dz n eh eB fb e0) eh eB fb e0
def KA (K:Ex→St→Option R) (n:Nat) (d:oP):Option R:=dz n d.1 d.2.1 d.2.2 (Cd K)
theorem SF (other:cF R) (ho:fZ tt (cz (xI (R:=R) fw)) (Ce (R:=R) dz) 0 ((aA (aQ Tryz.f37)).getD 0 .skip) xH other):fZ tt (cz (xI (R:=R) fw)) (Ce (R:=R) dz) 0 ((aA (aQ Tryz.f37)).getD 0 .skip) xH (cq sT sU (IV (dz)) other) :=
 cx (A:=KA) ho (dD AM (Kz fw) (KA) (fun _ _=>by kernel_rfl) (PG fw dz) (fun _ _ _=>by kernel_rfl)) Ky Un (fun _ _=>by kernel_rfl) (fun _ _ _=>by kernel_rfl)
def db:zE R:=fun x1 k0=>SE dz x1 k0
theorem Uo (R:Type):∀a∈aA (aQ Tryz.f37),gE tt (cz (xI (R:=R) fw)) (Ce (R:=R) dz) 0 a:=by
 refine eV 1 (by kernel_rfl) fun i hi => ?_
 match i,hi with
 | 0,_=>exact bT (by kernel_rfl) (SF _ cQ)
 | n+1,hi=>omega
theorem M9 (R:Type):od Tryz.prog 37 (L1 (db (R:=R))):=bS TT mixed (Yu (R:=R)) rfl rfl rfl rfl (Uo R) (aag fw dz)
def AN (n:Int):Prop := -9223372036854775808≤n∧n≤9223372036854775807
theorem L5 {n:Int}:IntKind.i64.has n↔AN n:=by
 unfold IntKind.has AN;simp only[IntKind.min,IntKind.max,IntKind.bits,IntKind.signed];simp
theorem Yv {R:Type} (c n:Int) (hc:AN c) (h0:0<n) (hn:n≤9223372036854775807):∃r:Int,0≤r∧r<n∧∀k:Int→Option R,
  (bif (decide (c<(0:Int)))then (bB (!decide (n=0)) (k (Int.tmod (IntKind.i64.wrap (0 - (IntKind.i64.wrap (c+1)))) n)))else (bB (!decide (n=0)) (k (Int.tmod c n))))=k r:=by
 obtain ⟨h1,h2⟩:=hc;have hz:(!decide (n=0))=true:=by simp; omega
 by_cases h:c<0
 ·refine ⟨Int.tmod (0 - (c+1)) n,Int.tmod_nonneg _ (by omega),Int.tmod_lt_of_pos _ h0,fun k => ?_⟩;have hd:decide (c<(0:Int))=true:=by simpa using h
  rw[hd,cond_true,ao hz,aK (n:=c+1) (by omega) (by omega),aK (by omega) (by omega)]
 ·refine ⟨Int.tmod c n,Int.tmod_nonneg _ (by omega),Int.tmod_lt_of_pos _ h0,fun k => ?_⟩;have hd:decide (c<(0:Int))=false:=by simpa using h
  rw[hd,cond_false,ao hz]
theorem Yw {R:Type} (c n:Int) (hc:AN c) (h0:0<n) (hn:n≤9223372036854775807):∃r:Int,0≤r∧r<n∧∀k:Int→Option R,fw c n k=k r:=Yv c n hc h0 hn
theorem wrap32_id {n:Int} (h1:0≤n) (h2:n<1114112):IntKind.i32.wrap n=n:=by
 simp only[IntKind.wrap,IntKind.bits,IntKind.signed,IntKind.min,IntKind.max];simp;omega
theorem encode_enc {c:Nat} (hv:vr c):(Utf8.encode (c:Int)).data.toList=enc c:=by
 have jJ:=Yq hv;have Gv:Utf8.valid (c:Int)=true:=by
  unfold vr at hv;simp only[Utf8.valid,Bool.or_eq_true,Bool.and_eq_true,decide_eq_true_eq];omega
 unfold Utf8.encode;simp only[Gv,if_true,Int.toNat_natCast];by_cases h1:c<128
 ·rw[if_pos h1,enc1 h1]
 by_cases h2:c<2048
 ·rw[if_neg h1,if_pos h2,enc2 (by omega) h2]
 by_cases h3:c<65536
 ·rw[if_neg h1,if_neg h2,if_pos h3,enc3 (by omega) h3 hv]
 ·rw[if_neg h1,if_neg h2,if_neg h3,enc4 (by omega) jJ]
theorem Yx {c:Nat} (hv:vr c):qk [(c:Int)]=enc c:=by
 unfold qk;simp only[List.flatMap_cons,List.flatMap_nil,List.append_nil];exact encode_enc hv
theorem Up (rs:List Nat) (c:Nat):dV (rs ++ [c])=dV rs++enc c:=by simp[dV]
theorem aj {p:Prop} [Decidable p] (h:p):decide p=true:=decide_eq_true h
theorem aE {p:Prop} [Decidable p] (h:¬p):decide p=false:=decide_eq_false h
def L6 (z:Int):Nat:=if 55296≤z∧z≤57343 then 120 else z.toNat
theorem runeOf_vr {z:Int} (h0:0≤z) (h1:z<1114112):vr (L6 z):=by unfold L6 vr; split <;> omega
theorem text_add {R:Type} (raw:List Int) (s:af) (i:Nat) (cb:List Int→af→Int→Option R) {z:Int} (h0:0≤z) (h1:z<1114112) (hl:s.length≤4*i) (hi:i<200) :
  (bif (decide (z≥(55296:Int)))then (bif (decide (z≤(57343:Int)))then (bB (decide (s.length+(qk ([120]:List Int)).length≤9223372036854775807)) (cb raw (s++(qk ([120]:List Int))) (IntKind.i64.wrap ((i:Int)+1))))else (bB (decide (s.length+(qk ([(IntKind.i32.wrap z)]:List Int)).length≤9223372036854775807)) (cb raw (s++(qk ([(IntKind.i32.wrap z)]:List Int))) (IntKind.i64.wrap ((i:Int)+1)))))else (bB (decide (s.length+(qk ([(IntKind.i32.wrap z)]:List Int)).length≤9223372036854775807)) (cb raw (s++(qk ([(IntKind.i32.wrap z)]:List Int))) (IntKind.i64.wrap ((i:Int)+1))))) =
   cb raw (s++enc (L6 z)) ((i+1:Nat):Int):=by
 have hw:IntKind.i64.wrap ((i:Int)+1)=((i+1:Nat):Int):=by rw[aK (by omega) (by omega)]; omega
 have hv:=runeOf_vr h0 h1;have hle:=xG hv;by_cases hb:55296≤z∧z≤57343
 ·have e:qk [120]=enc (L6 z):=by unfold L6 at hv ⊢; rw[if_pos hb]at hv ⊢; exact Yx hv
  rw[aj (show z≥55296 from hb.1),cond_true,aj hb.2,cond_true,e,ao (aj (by omega)),hw]
 ·have e:qk [IntKind.i32.wrap z]=enc (L6 z):=by
   unfold L6 at hv ⊢; rw[if_neg hb]at hv ⊢;rw[←Yx hv,wrap32_id h0 h1,Int.toNat_of_nonneg h0]
  by_cases hc:z≥55296
  ·rw[aj hc,cond_true,aE (show ¬z≤57343 by omega),cond_false,e,ao (aj (by omega)),hw]
  ·rw[aE hc,cond_false,e,ao (aj (by omega)),hw]
theorem tdiv_i64 {n k:Int} (h:AN n) (hk:1<k):AN (Int.tdiv n k):=by
 have h1:(Int.tdiv n k).natAbs≤n.natAbs:=by rw[Int.natAbs_tdiv]; exact Nat.div_le_self _ _
 have h2:(Int.tdiv n k).natAbs=n.natAbs / k.natAbs:=Int.natAbs_tdiv _ _;unfold AN at h ⊢;have h3:n.natAbs / k.natAbs≤n.natAbs / 2:=Nat.div_le_div_left (by omega) (by omega);omega
theorem text_loop {R:Type} (raw:List Int) (hraw:∀x∈raw,AN x):∀(n i:Nat) (rs:List Nat),i≤raw.length→raw.length - i<n→i≤200→(∀c∈rs,vr c)→(dV rs).length≤4*i →
  ∃rs':List Nat,(∀c∈rs',vr c)∧(dV rs').length≤800∧(rs.length≤i→rs'.length≤raw.length)∧∀e0:af→Option R,dz n raw (dV rs) (i:Int) e0=e0 (dV rs'):=by
 intro n
 induction n with
 | zero=>intro i rs h1 h2; omega
 | succ n ih =>
  intro i rs h1 h2 h3 hrs hl;by_cases hi:i<raw.length
  ·by_cases hi2:i<200
   ·have hx:AN raw[i]:=hraw _ (List.getElem_mem hi);have Ju:raw.getD (i:Int).toNat (Ty.br (.int .i64))=raw[i]:=by simp[List.getD,hi]; rfl
    have key:∀z:Int,0≤z→z<1114112→∃rs':List Nat,(∀c∈rs',vr c)∧(dV rs').length≤800∧(rs.length≤i→rs'.length≤raw.length)∧∀e0:af→Option R,dz n raw (dV rs++enc (L6 z)) ((i+1:Nat):Int) e0=e0 (dV rs'):=by
     intro z z0 z1;have hv:=runeOf_vr z0 z1;have hle:=xG hv;obtain ⟨rs',q1,q2,qn,q3⟩:=ih (i+1) (rs ++ [L6 z]) (by omega) (by omega) (by omega) (by
      intro c hc;rcases List.mem_append.1 hc with hc|hc
      ·exact hrs c hc
      ·simp at hc; subst hc; exact hv) (by rw[Up,List.length_append]; omega)
     exact ⟨rs',q1,q2,fun hn=>qn (by simp; omega),fun e0=>by rw[←q3 e0,Up]⟩
    
    obtain ⟨y6,y60,y61,py⟩:=Yw (R:=R) raw[i] 5 hx (by omega) (by omega);have ht:AN (IntKind.i64.wrap (Int.tdiv raw[i] 5)):=by
     have:=tdiv_i64 (k:=5) hx (by omega);rw[aK this.1 this.2]; exact this
    obtain ⟨a,a0,a1,pa⟩:=Yw (R:=R) (IntKind.i64.wrap (Int.tdiv raw[i] 5)) 128 ht (by omega) (by omega);obtain ⟨b,b0,b1,pb⟩:=Yw (R:=R) (IntKind.i64.wrap (Int.tdiv raw[i] 5)) 2048 ht (by omega) (by omega);obtain ⟨d,d0,d1,pd⟩:=Yw (R:=R) (IntKind.i64.wrap (Int.tdiv raw[i] 5)) 65536 ht (by omega) (by omega);obtain ⟨f,f0,f1,pf⟩:=Yw (R:=R) (IntKind.i64.wrap (Int.tdiv raw[i] 5)) 1114112 ht (by omega) (by omega);obtain ⟨rs',q1,q2,qn,q3⟩:=key (if y6=0∨y6=1 then a else if y6=2 then b else if y6=3 then d else f) (by split; omega; split; omega; split <;> omega) (by split; omega; split; omega; split <;> omega)
    refine ⟨rs',q1,q2,qn,fun e0 => ?_⟩;rw[←q3 e0];show kn fw _ raw (dV rs) (i:Int) e0=_;unfold kn;rw[aj (show (i:Int)<(raw.length:Int) by omega),cond_true,aj (show (i:Int)<200 by omega),cond_true,aj (show (0:Int)≤(i:Int) by omega)];rw[ao (by rfl)];simp only[Ju,py,pa,pb,pd,pf];have add:=fun (z:Int) (z0:0≤z) (z1:z<1114112)=>text_add raw (dV rs) i (fun eh eB fb=>dz (R:=R) n eh eB fb e0) z0 z1 hl hi2
    by_cases c0:y6=0
    ·rw[if_pos (.inl c0)];have e0':(y6==0)=true:=by simp[c0]
     rw[e0',cond_true,cond_true];exact add a a0 (by omega)
    ·have e0':(y6==0)=false:=by simp[c0]
     rw[e0',cond_false];by_cases c1:y6=1
     ·rw[if_pos (.inr c1)];have e1':(y6==1)=true:=by simp[c1]
      rw[e1',cond_true];exact add a a0 (by omega)
     ·have e1':(y6==1)=false:=by simp[c1]
      rw[e1',cond_false,if_neg (by omega)];by_cases c2:y6=2
      ·have e2':(y6==2)=true:=by simp[c2]
       rw[e2',cond_true,if_pos c2];exact add b b0 (by omega)
      ·have e2':(y6==2)=false:=by simp[c2]
       rw[e2',cond_false,if_neg c2];by_cases c3:y6=3
       ·have e3':(y6==3)=true:=by simp[c3]
        rw[e3',cond_true,if_pos c3];exact add d d0 (by omega)
       ·have e3':(y6==3)=false:=by simp[c3]
        rw[e3',cond_false,if_neg c3];exact add f f0 (by omega)
   ·refine ⟨rs,hrs,by omega,fun _=>by omega,fun e0 => ?_⟩;show kn fw _ raw (dV rs) (i:Int) e0=_;unfold kn;rw[aj (show (i:Int)<(raw.length:Int) by omega),cond_true,aE (show ¬(i:Int)<200 by omega),cond_false]
  ·refine ⟨rs,hrs,by omega,fun _=>by omega,fun e0 => ?_⟩;show kn fw _ raw (dV rs) (i:Int) e0=_;unfold kn;rw[aE (show ¬(i:Int)<(raw.length:Int) by omega),cond_false]
theorem text_ok2 {R:Type} (raw:List Int) (hraw:∀x∈raw,AN x):∃rs:List Nat,(∀c∈rs,vr c)∧(dV rs).length≤800∧rs.length≤raw.length∧∀k:af→Option R,db raw k=k (dV rs):=by
 obtain ⟨rs,h1,h2,h4,h3⟩:=text_loop (R:=R) raw hraw (List.length raw+List.length ([]:af)+Int.natAbs 0+64) 0 [] (by omega) (by omega) (by omega) (by simp) (by simp[dV]);exact ⟨rs,h1,h2,h4 (by simp),fun k=>h3 _⟩
variable {R:Type}
abbrev Gw (R:Type):Type:=Json→(Json→Option R)→Option R
abbrev Om:List dh := [.agg [.int .i64, .int .i64, .int .i64, .str, .sl .str, .sl .json]]
abbrev On:List aY := []
def SG (fn:Gw R):oC R Om On:=fun x y k=>fn (⟨x.1.1,⟨x.1.2.1,x.1.2.2.1⟩,x.1.2.2.2.1,x.1.2.2.2.2.1,x.1.2.2.2.2.2.1⟩:Json) (fun q0=>k (.agg [.int .i64 q0.kind, .int .i64 q0.num.au, .int .i64 q0.num.exp, .str q0.text, .sl .str q0.names .no, .sl .json q0.items .no]) [])
def VJ (fn:Gw R):=aG Om On (SG fn)
section
def IW (x1:Json) (k0:Json→Option R):Option R :=
 bif (x1.kind==4)then (k0 (⟨x1.kind,⟨0,0⟩,x1.text,x1.names,x1.items⟩:Json))else (bif (x1.kind==5)then (k0 (⟨x1.kind,⟨x1.num.au,x1.num.exp⟩,([]:af),x1.names,x1.items⟩:Json))else (bif (x1.kind==7)then (k0 (⟨x1.kind,⟨x1.num.au,x1.num.exp⟩,x1.text,([]:List af),([]:List Json)⟩:Json))else (bif (x1.kind==6)then (k0 (⟨x1.kind,⟨x1.num.au,x1.num.exp⟩,x1.text,x1.names,([]:List Json)⟩:Json))else (k0 (⟨x1.kind,⟨x1.num.au,x1.num.exp⟩,x1.text,x1.names,x1.items⟩:Json)))))
theorem json_bare_ok:fC (R:=R) tt [] AL false Tryz.f77 Om On (SG IW):=fun x y k=>by kernel_rfl
end
def sV:Gw R:=fun x1 k0=>IW x1 k0
theorem Yy (R:Type):od Tryz.prog 77 (VJ (sV (R:=R))):=bS TT mixed .n rfl rfl rfl rfl dM (json_bare_ok)
abbrev lY (R:Type):Type:=Int→Int→Int→(Bool→Option R)→Option R
abbrev wP:List dh := [.leaf (.int .i64), .leaf (.int .i64), .leaf (.int .i64)]
abbrev wQ:List aY := []
def DM (fn:lY R):oC R wP wQ:=fun x y k=>fn x.1 x.2.1 x.2.2.1 (fun q0=>k (.bool q0) [])
def wR (fn:lY R):=aG wP wQ (DM fn)
section
def qD (x1:Int) (x2:Int) (x3:Int) (k0:Bool→Option R):Option R :=
 bif (decide (x1≤x2))then (k0 (decide (x2≤x3)))else (k0 false)
theorem Nv:fC (R:=R) tt [] AL false Tryz.f91 wP wQ (DM qD):=fun x y k=>by kernel_rfl
end
def bl:lY R:=fun x1 x2 x3 k0=>qD x1 x2 x3 k0
theorem Bx (R:Type):od Tryz.prog 91 (wR (bl (R:=R))):=bS TT mixed .n rfl rfl rfl rfl dM (Nv)
abbrev sW (R:Type):Type:=cC→(Bool→Option R)→Option R
abbrev Fv:List dh := [.agg [.int .i64, .int .i64]]
abbrev Fw:List aY := []
def KB (fn:sW R):oC R Fv Fw:=fun x y k=>fn (⟨x.1.1,x.1.2.1⟩:cC) (fun q0=>k (.bool q0) [])
def Fx (fn:sW R):=aG Fv Fw (KB fn)
section
variable (bl:lY R)
def Na:List (sS R) := [(91,true,(wR bl aC))]
def lJ (x1:cC) (k0:Bool→Option R):Option R :=
 bif (x1.au==0)then (k0 (x1.exp==0))else (bif ((Int.tmod x1.au 10) != 0)then (bl (-1000000000000000) x1.au 1000000000000000 (fun y2=>bif y2 then (bl (-9) x1.exp 9 (fun y3=>k0 y3))else (k0 false)))else (k0 false))
theorem Uq:fC (R:=R) tt (Na bl) AL false Tryz.f65 Fv Fw (KB (lJ bl)):=fun x y k=>by kernel_rfl
end
theorem SH:dy (R:=R) Tryz.prog (Na (R:=R) bl) := .c (Bx R) <| .n
def cT:sW R:=fun x1 k0=>lJ bl x1 k0
theorem Ho (R:Type):od Tryz.prog 65 (Fx (cT (R:=R))):=bS TT mixed (SH (R:=R)) rfl rfl rfl rfl dM (Uq bl)
abbrev sY (R:Type):Type:=af→(Bool→Option R)→Option R
abbrev Jx:List dh := [.leaf (.str)]
abbrev Jy:List aY := []
def Oo (fn:sY R):oC R Jx Jy:=fun x y k=>fn x.1 (fun q0=>k (.bool q0) [])
def Ew (fn:sY R):=aG Jx Jy (Oo fn)
section
def Ql:List (sS R) := [(72,true,(valid_S R))]
def Qm (x1:af) (k0:Bool→Option R):Option R :=
 k0 (fE x1)
theorem Yz:fC (R:=R) tt (Ql (R:=R)) AL false Tryz.f49 Jx Jy (Oo Qm):=fun x y k=>by kernel_rfl
end
theorem V8:dy (R:=R) Tryz.prog (Ql (R:=R)) := .p (valid_ok) <| .n
def bM:sY R:=fun x1 k0=>Qm x1 k0
theorem D5 (R:Type):od Tryz.prog 49 (Ew (bM (R:=R))):=bS TT mixed (V8 (R:=R)) rfl rfl rfl rfl dM (Yz)
abbrev Cf (R:Type):Type:=(List af)→(Bool→Option R)→Option R
abbrev Jz:List dh := [.leaf (.sl .str)]
abbrev JA:List aY := []
def Oq (fn:Cf R):oC R Jz JA:=fun x y k=>fn x.1 (fun q0=>k (.bool q0) [])
def Qn (fn:Cf R):=aG Jz JA (Oq fn)
abbrev AO (R:Type):Type:=Nat→(List af)→Int→Int→(List (af×Bool))→(Option R)→(Bool→Option R)→Option R
def vU:Hint := { live := [3,7,8,9],own := [],rows := [],cells := [],drop := [],out := [2] }
abbrev nj:Type:=(List af)×Int×Int×(List (af×Bool))
def yz:nj→St:=fun d=>⟨U 3 (.map 0::U 3 (.sl .str d.1 .no :: .int .i64 d.2.1 :: .int .i64 d.2.2.1::U 14 ([]))), [.AH .str .bool d.2.2.2]⟩
def AP (K:Ex→St→Option R):Option R:=K (.exit 0) ⟨U 24 ([]), []⟩
def AQ (K:Ex→St→Option R) (q0:Bool):Option R:=K (.ret) ⟨U 2 (.bool q0::U 21 ([])), []⟩
abbrev qE:List dh:=PU 3 (.leaf (.map 0)::PU 3 (.leaf (.sl .str) :: .leaf (.int .i64) :: .leaf (.int .i64)::PU 14 ([])))
abbrev qF:List aY := [.AH .str .bool]
def IX (x:dh.bD qE) (y:aY.bD qF):Nat:=(List.length x.2.2.2.2.2.2.2.1+Int.natAbs ((t8 x).1)+Int.natAbs ((t8 x).2.1)+List.length y.1+64)
def SI (x:dh.bD qE) (y:aY.bD qF):nj:=(x.2.2.2.2.2.2.2.1,(t8 x).1,(t8 x).2.1,y.1)
def Hp (L:AO R):sI R qE qF:=fun x y K=>L (IX x y) x.2.2.2.2.2.2.2.1 ((t8 x).1) ((t8 x).2.1) y.1 (AP K) (AQ K)
section
variable (bM:sY R) (dx:AO R)
def vF:List (sS R) := [(49,true,(Ew bM aC))]
def vV (cb:(List af)→Int→Int→(List (af×Bool))→Option R) (x2:List af) (x3:Int) (x4:Int) (x5:List (af×Bool)) (e0:Option R) (e1:Bool→Option R):Option R :=
 bif (decide (x4<x3))then (bB (decide ((0:Int)≤x4)&&decide (x4<x2.length)) (bif (ma .str .bool (x2.getD x4.toNat (Ty.br .str)) x5)then (e1 false)else (bM (x2.getD x4.toNat (Ty.br .str)) (fun y6=>bif (!y6)then (e1 false)else (cb x2 x3 (IntKind.i64.wrap (x4+1)) (B2 .str .bool (x2.getD x4.toNat (Ty.br .str)) true x5))))))else (e0)
def IY (K:Ex→St→Option R) (rc:nj→Option R) (d:nj):Option R:=vV bM (fun z0 z1 z2 z3=>rc (z0,z1,z2,z3)) d.1 d.2.1 d.2.2.1 d.2.2.2 (AP K) (AQ K)
def zF:Nat→Option (Hint×cF R):=fun i=>match i with
 | 3=>some (vU,(cq qE qF (Hp dx) gl))
 | _=>none
theorem Ot (K:Ex→St→Option R) (rc:St→Option R) (d:nj):roundOf tt (cz (vF bM)) (zF dx) 0 ((aA (aQ Tryz.f78)).getD 0 .skip) vU (yz d) rc K=IY bM K (fun d=>rc (yz d)) d:=by kernel_rfl
def Qo (x1:List af) (k0:Bool→Option R):Option R :=
 dx (List.length x1+Int.natAbs (x1.length:Int)+Int.natAbs 0+List.length ([]:List (af×Bool))+64) x1 (x1.length:Int) 0 ([]:List (af×Bool)) (k0 true) (fun y8=>k0 y8)
theorem YA:fC (R:=R) tt (vF bM) (zF dx) false Tryz.f78 Jz JA (Oq (Qo dx)):=fun x y k=>by kernel_rfl
end
theorem V9:dy (R:=R) Tryz.prog (vF (R:=R) bM) := .c (D5 R) <| .n
def dx:AO R
 | 0,_,_,_,_,_,_=>none
 | n+1,eh,eB,fb,lZ,e0,e1=>vV bM (fun eh eB fb lZ=>dx n eh eB fb lZ e0 e1) eh eB fb lZ e0 e1
def IZ (K:Ex→St→Option R) (n:Nat) (d:nj):Option R:=dx n d.1 d.2.1 d.2.2.1 d.2.2.2 (AP K) (AQ K)
theorem Rp (other:cF R) (ho:fZ tt (cz (vF (R:=R) bM)) (zF (R:=R) dx) 0 ((aA (aQ Tryz.f78)).getD 0 .skip) vU other):fZ tt (cz (vF (R:=R) bM)) (zF (R:=R) dx) 0 ((aA (aQ Tryz.f78)).getD 0 .skip) vU (cq qE qF (Hp (dx)) other) :=
 cx (A:=IZ) ho (dD yz (IY bM) (IZ) (fun _ _=>by kernel_rfl) (Ot bM dx) (fun _ _ _=>by kernel_rfl)) IX SI (fun _ _=>by kernel_rfl) (fun _ _ _=>by kernel_rfl)
def lK:Cf R:=fun x1 k0=>Qo dx x1 k0
theorem SJ (R:Type):∀a∈aA (aQ Tryz.f78),gE tt (cz (vF (R:=R) bM)) (zF (R:=R) dx) 0 a:=by
 refine eV 1 (by kernel_rfl) fun i hi => ?_
 match i,hi with
 | 0,_=>exact bT (by kernel_rfl) (Rp _ cQ)
 | n+1,hi=>omega
theorem Ur (R:Type):od Tryz.prog 78 (Qn (lK (R:=R))):=bS TT mixed (V9 (R:=R)) rfl rfl rfl rfl (SJ R) (YA bM dx)
abbrev dj (R:Type):Type:=Json→Int→(Bool→Option R)→Option R
abbrev hG:List dh := [.agg [.int .i64, .int .i64, .int .i64, .str, .sl .str, .sl .json], .leaf (.int .i64)]
abbrev hH:List aY := []
def fa (fn:dj R):oC R hG hH:=fun x y k=>fn (⟨x.1.1,⟨x.1.2.1,x.1.2.2.1⟩,x.1.2.2.2.1,x.1.2.2.2.2.1,x.1.2.2.2.2.2.1⟩:Json) x.2.1 (fun q0=>k (.bool q0) [])
def SK (fn:dj R):=aG hG hH (fa fn)
abbrev qG (R:Type):Type:=Json→Int→(Bool→Int→Option R)→Option R
abbrev yA:List dh := [.agg [.int .i64, .int .i64, .int .i64, .str, .sl .str, .sl .json], .leaf (.ptr 0 0)]
abbrev yB:List aY := [.cells [.int .i64]]
def EY (fn:qG R):oC R yA yB:=fun x y k=>fn (⟨x.1.1,⟨x.1.2.1,x.1.2.2.1⟩,x.1.2.2.2.1,x.1.2.2.2.2.1,x.1.2.2.2.2.2.1⟩:Json) y.1.1 (fun q0 q1=>k (.bool q0) [.cells [.int .i64 q1]])
def FV (fn:qG R):=aG yA yB (EY fn)
section
variable (ay:dj R)
def FW:List (sS R) := [(56,true,(aG hG hH (fa ay) aC))]
def sM (x1:Json) (x2:Int) (k0:Bool→Int→Option R):Option R :=
 ay (⟨x1.kind,⟨x1.num.au,x1.num.exp⟩,x1.text,x1.names,x1.items⟩:Json) (IntKind.i64.wrap (x2+1)) (fun y3=>k0 (!y3) x2)
theorem Ou:fC (R:=R) tt (FW ay) AL false Tryz.f80 yA yB (EY (sM ay)):=fun x y k=>by kernel_rfl
end
theorem Nw (ay:dj R) (eP:bb.Spec.Ok Tryz.prog 56 (aG hG hH (fa ay) aC)):dy (R:=R) Tryz.prog (FW (R:=R) ay) := .p eP <| .n
def dk (ay:dj R):qG R:=fun x1 x2 k0=>sM ay x1 x2 k0
theorem L7 (R:Type) (ay:dj R) (eP:bb.Spec.Ok Tryz.prog 56 (aG hG hH (fa ay) aC)):od Tryz.prog 80 (FV (dk ay)):=bS TT mixed (Nw ay eP) rfl rfl rfl rfl dM (Ou ay)
abbrev ia (R:Type):Type:=(List Json)→Int→(Int→Int→Option R)→Option R
abbrev kU:List dh := [.leaf (.sl .json), .func 80 [] [.ptr 0 0]]
abbrev kV:List aY := [.cells [.int .i64]]
def p7 (fn:ia R):oC R kU kV:=fun x y k=>fn x.1 y.1.1 (fun q0 q1=>k (.int .i64 q0) [.cells [.int .i64 q1]])
def qH (fn:ia R):=aG kU kV (p7 fn)
abbrev jh (R:Type):Type:=Nat→(List Json)→Int→Int→Int→(Int→Option R)→(Int→Int→Option R)→Option R
def gL:Hint := { live := [0,1,7,8],own := [],rows := [],cells := [],drop := [],out := [4] }
abbrev dZ:Type:=(List Json)×Int×Int×Int
def iY:dZ→St:=fun d=>⟨.sl .json d.1 .no :: .func 80 [] [.ptr 0 0]::U 5 (.int .i64 d.2.1 :: .int .i64 d.2.2.1::U 10 ([])), [.cells [.int .i64 d.2.2.2]]⟩
def ji (K:Ex→St→Option R) (q0:Int):Option R:=K (.exit 0) ⟨U 19 ([]), [.cells [.int .i64 q0]]⟩
def jj (K:Ex→St→Option R) (q0:Int) (q1:Int):Option R:=K (.ret) ⟨U 4 (.int .i64 q0::U 14 ([])), [.cells [.int .i64 q1]]⟩
abbrev fg:List dh := .leaf (.sl .json) :: .func 80 [] [.ptr 0 0]::PU 5 (.leaf (.int .i64) :: .leaf (.int .i64)::PU 10 ([]))
abbrev fi:List aY := [.cells [.int .i64]]
def nP (x:dh.bD fg) (y:aY.bD fi):Nat:=(List.length x.1+Int.natAbs x.2.2.2.2.2.2.2.1+Int.natAbs ((t8 x).1)+Int.natAbs y.1.1+64)
def yC (x:dh.bD fg) (y:aY.bD fi):dZ:=(x.1,x.2.2.2.2.2.2.2.1,(t8 x).1,y.1.1)
def nk (L:jh R):sI R fg fi:=fun x y K=>L (nP x y) x.1 x.2.2.2.2.2.2.2.1 ((t8 x).1) y.1.1 (ji K) (jj K)
section
variable (dk:qG R) (aU:jh R)
def eW:List (sS R) := [(80,false,(FV dk aC))]
def gM (cb:(List Json)→Int→Int→Int→Option R) (x3:List Json) (x4:Int) (x5:Int) (x6:Int) (e0:Int→Option R) (e1:Int→Int→Option R):Option R :=
 bif (decide (x5<x4))then (bB (decide ((0:Int)≤x5)&&decide (x5<x3.length)) (dk (⟨(x3.getD x5.toNat (Ty.br .json)).kind,⟨(x3.getD x5.toNat (Ty.br .json)).num.au,(x3.getD x5.toNat (Ty.br .json)).num.exp⟩,(x3.getD x5.toNat (Ty.br .json)).text,(x3.getD x5.toNat (Ty.br .json)).names,(x3.getD x5.toNat (Ty.br .json)).items⟩:Json) x6 (fun y7 y8=>bif y7 then (e1 x5 y8)else (cb x3 x4 (IntKind.i64.wrap (x5+1)) y8))))else (e0 x6)
def nQ (K:Ex→St→Option R) (rc:dZ→Option R) (d:dZ):Option R:=gM dk (fun z0 z1 z2 z3=>rc (z0,z1,z2,z3)) d.1 d.2.1 d.2.2.1 d.2.2.2 (ji K) (jj K)
def gd:Nat→Option (Hint×cF R):=fun i=>match i with
 | 2=>some (gL,(cq fg fi (nk aU) gl))
 | _=>none
theorem wE (K:Ex→St→Option R) (rc:St→Option R) (d:dZ):roundOf tt (cz (eW dk)) (gd aU) 1 ((aA (aQ Tryz.f116)).getD 0 .skip) gL (iY d) rc K=nQ dk K (fun d=>rc (iY d)) d:=by kernel_rfl
def qI (x1:List Json) (x2:Int) (k0:Int→Int→Option R):Option R :=
 aU (List.length x1+Int.natAbs (x1.length:Int)+Int.natAbs 0+Int.natAbs x2+64) x1 (x1.length:Int) 0 x2 (fun y9=>k0 (-1) y9) (fun o5 jf=>k0 o5 jf)
theorem BL:fC (R:=R) tt (eW dk) (gd aU) false Tryz.f116 kU kV (p7 (qI aU)):=fun x y k=>by kernel_rfl
end
theorem AR (ay:dj R) (eP:bb.Spec.Ok Tryz.prog 56 (aG hG hH (fa ay) aC)):dy (R:=R) Tryz.prog (eW (R:=R) (dk ay)) := .d (L7 R ay eP) rfl <| .n
def aU (ay:dj R):jh R
 | 0,_,_,_,_,_,_=>none
 | n+1,eh,eB,fb,lZ,e0,e1=>gM (dk ay) (fun eh eB fb lZ=>aU ay n eh eB fb lZ e0 e1) eh eB fb lZ e0 e1
def nR (ay:dj R) (K:Ex→St→Option R) (n:Nat) (d:dZ):Option R:=aU ay n d.1 d.2.1 d.2.2.1 d.2.2.2 (ji K) (jj K)
theorem xJ (ay:dj R) (other:cF R) (ho:fZ tt (cz (eW (R:=R) (dk ay))) (gd (R:=R) (aU ay)) 1 ((aA (aQ Tryz.f116)).getD 0 .skip) gL other):fZ tt (cz (eW (R:=R) (dk ay))) (gd (R:=R) (aU ay)) 1 ((aA (aQ Tryz.f116)).getD 0 .skip) gL (cq fg fi (nk (aU ay)) other) :=
 cx (A:=nR ay) ho (dD iY (nQ (dk ay)) (nR ay) (fun _ _=>by kernel_rfl) (wE (dk ay) (aU ay)) (fun _ _ _=>by kernel_rfl)) nP yC (fun _ _=>by kernel_rfl) (fun _ _ _=>by kernel_rfl)
def dn (ay:dj R):ia R:=fun x1 x2 k0=>qI (aU ay) x1 x2 k0
theorem yD (R:Type) (ay:dj R) (eP:bb.Spec.Ok Tryz.prog 56 (aG hG hH (fa ay) aC)):∀a∈aA (aQ Tryz.f116),gE tt (cz (eW (R:=R) (dk ay))) (gd (R:=R) (aU ay)) 1 a:=by
 refine eV 1 (by kernel_rfl) fun i hi => ?_
 match i,hi with
 | 0,_=>exact bT (by kernel_rfl) (xJ ay _ cQ)
 | n+1,hi=>omega
theorem zG (R:Type) (ay:dj R) (eP:bb.Spec.Ok Tryz.prog 56 (aG hG hH (fa ay) aC)):od Tryz.prog 116 (qH (dn ay)):=bS TT mixed (AR ay eP) rfl rfl rfl rfl (yD R ay eP) (BL (dk ay) (aU ay))
abbrev gN (R:Type):Type:=(List Json)→Int→(Bool→Int→Option R)→Option R
abbrev jL:List dh := [.leaf (.sl .json), .func 80 [] [.ptr 0 0]]
abbrev jM:List aY := [.cells [.int .i64]]
def nS (fn:gN R):oC R jL jM:=fun x y k=>fn x.1 y.1.1 (fun q0 q1=>k (.bool q0) [.cells [.int .i64 q1]])
def oD (fn:gN R):=aG jL jM (nS fn)
section
variable (dn:ia R)
def oE:List (sS R) := [(116,false,(qH dn aC))]
def oF (x1:List Json) (x2:Int) (k0:Bool→Int→Option R):Option R :=
 dn x1 x2 (fun y3 y4=>k0 (decide (y3≥(0:Int))) y4)
theorem yE:fC (R:=R) tt (oE dn) AL false Tryz.f79 jL jM (nS (oF dn)):=fun x y k=>by kernel_rfl
end
theorem xK (ay:dj R) (eP:bb.Spec.Ok Tryz.prog 56 (aG hG hH (fa ay) aC)):dy (R:=R) Tryz.prog (oE (R:=R) (dn ay)) := .d (zG R ay eP) rfl <| .n
def aT (ay:dj R):gN R:=fun x1 x2 k0=>oF (dn ay) x1 x2 k0
theorem wS (R:Type) (ay:dj R) (eP:bb.Spec.Ok Tryz.prog 56 (aG hG hH (fa ay) aC)):od Tryz.prog 79 (oD (aT ay)):=bS TT mixed (xK ay eP) rfl rfl rfl rfl dM (yE (dn ay))
section
variable (bM:sY R) (cT:sW R) (sV:Gw R) (lK:Cf R) (aT:gN R)
def SL:List (sS R) := [(49,true,(Ew bM aC)),(65,true,(Fx cT aC)),(77,true,(VJ sV aC)),(78,true,(Qn lK aC)),(79,false,(oD aT aC))]
def Gx (x1:Json) (x2:Int) (k0:Bool→Option R):Option R :=
 sV (⟨x1.kind,⟨x1.num.au,x1.num.exp⟩,x1.text,x1.names,x1.items⟩:Json) (fun y3=>bif (decide (x2>(16:Int)))then (k0 false)else (bif (decide (x1.kind<(1:Int)))then (k0 false)else (bif (decide (x1.kind>(7:Int)))then (k0 false)else (bif (!(y3.num.au==0&&(y3.num.exp==0&&true)))then (k0 false)else (bif (!(y3.text==([]:af)))then (k0 false)else (bif (decide ((IntKind.i64.wrap ((y3.names.length:Int)+(y3.items.length:Int)))>(0:Int)))then (k0 false)else (bif (x1.kind==4)then (cT x1.num (fun y5=>k0 y5))else (bif (x1.kind==5)then (bM x1.text (fun y6=>k0 y6))else (bif (x1.kind==7)then (bif ((x1.names.length:Int) != (x1.items.length:Int))then (k0 false)else (lK x1.names (fun y7=>bif (!y7)then (k0 false)else (aT x1.items x2 (fun jf l9=>k0 (!jf))))))else (aT x1.items x2 (fun DN xy=>k0 (!DN))))))))))))
theorem aah:fC (R:=R) tt (SL bM cT sV lK aT) AL false Tryz.f56 hG hH (fa (Gx bM cT sV lK aT)):=fun x y k=>by kernel_rfl
end
theorem YB (ay:dj R) (eP:bb.Spec.Ok Tryz.prog 56 (aG hG hH (fa ay) aC)):dy (R:=R) Tryz.prog (SL (R:=R) bM cT sV lK (aT ay)) := .c (D5 R) <| .c (Ho R) <| .c (Yy R) <| .c (Ur R) <| .d (wS R ay eP) rfl <| .n
def L8 (ay:dj R):dj R:=fun x1 x2 k0=>Gx bM cT sV lK (aT ay) x1 x2 k0
theorem Us (R:Type) (ay:dj R) (eP:bb.Spec.Ok Tryz.prog 56 (aG hG hH (fa ay) aC)):od Tryz.prog 56 (SK (L8 ay)):=bS TT mixed (YB ay eP) rfl rfl rfl rfl dM (aah bM cT sV lK (aT ay))
def fx:Nat→dj R
 | 0,_,_,_=>none
 | n+1,eh,eB,k0'=>L8 (fx n) eh eB k0'
theorem json_right_N_succ (n:Nat):fx (R:=R) (n+1)=L8 (fx n):=by kernel_rfl
theorem Wa (R:Type):∀n,bb.Spec.Ok Tryz.prog 56 (aG hG hH (fa (fx (R:=R) n)) aC) :=
 mW (run:=fun n=>fa (fx (R:=R) n)) (fun x y k=>by kernel_rfl) fun n hyp=>Us R (fx n) hyp aC (fo _)
def o9:dj R:=fun x1 x2 k0=>fx (Json.depth x1+2) x1 x2 k0
theorem Wb (R:Type):fa (R:=R) o9=fun x y k=>fa (fx (Json.depth (⟨x.1.1,⟨x.1.2.1,x.1.2.2.1⟩,x.1.2.2.2.1,x.1.2.2.2.2.1,x.1.2.2.2.2.2.1⟩:Json)+2)) x y k:=by kernel_rfl
theorem Wc (R:Type) (other:bb.Spec R) (ho:bb.Spec.Ok Tryz.prog 56 other):bb.Spec.Ok Tryz.prog 56 (aG hG hH (fa o9) other) :=
 rP (vE (run:=fun n=>fa (fx (R:=R) n)) (fun x y=>(Json.depth (⟨x.1.1,⟨x.1.2.1,x.1.2.2.1⟩,x.1.2.2.2.1,x.1.2.2.2.2.1,x.1.2.2.2.2.2.1⟩:Json)+2)) ho (Wa R)) (Wb R)
abbrev vG (R:Type):Type:=Json→(Bool→Option R)→Option R
abbrev L9:List dh := [.agg [.int .i64, .int .i64, .int .i64, .str, .sl .str, .sl .json]]
abbrev Ma:List aY := []
def Qp (fn:vG R):oC R L9 Ma:=fun x y k=>fn (⟨x.1.1,⟨x.1.2.1,x.1.2.2.1⟩,x.1.2.2.2.1,x.1.2.2.2.2.1,x.1.2.2.2.2.2.1⟩:Json) (fun q0=>k (.bool q0) [])
def Gy (fn:vG R):=aG L9 Ma (Qp fn)
section
variable (o9:dj R)
def SM:List (sS R) := [(56,true,(SK o9 aC))]
def Gz (x1:Json) (k0:Bool→Option R):Option R :=
 o9 (⟨x1.kind,⟨x1.num.au,x1.num.exp⟩,x1.text,x1.names,x1.items⟩:Json) 1 (fun y2=>k0 y2)
theorem aai:fC (R:=R) tt (SM o9) AL false Tryz.f32 L9 Ma (Qp (Gz o9)):=fun x y k=>by kernel_rfl
end
theorem YC:dy (R:=R) Tryz.prog (SM (R:=R) o9) := .p (Wc R _ (fo _)) <| .n
def cW:vG R:=fun x1 k0=>Gz o9 x1 k0
theorem Fy (R:Type):od Tryz.prog 32 (Gy (cW (R:=R))):=bS TT mixed (YC (R:=R)) rfl rfl rfl rfl dM (aai o9)
abbrev eA (R:Type):Type:=af→(Int→(List Int)→Option R)→Option R
abbrev j7:List dh := [.leaf (.ptr 0 0), .leaf (.str)]
abbrev ka:List aY := [.ng (.cG)]
def oG (fn:eA R):oC R j7 ka:=fun x y k=>fn x.2.1 (fun q0 q1=>k (.tuple [.int .i64 q0, .eg]) [.ng (.sl (.int .u8) q1 (.own 1)), .tok])
def hJ (fn:eA R):=aG j7 ka (oG fn)
section
def pc:List (sS R) := [(73,false,(VG R))]
def pe (x1:af) (k0:Int→(List Int)→Option R):Option R :=
 bB (decide ((0+(oc x1).length)*1≤140737488355328)) (k0 (x1.length:Int) (oc x1))
theorem zH:fC (R:=R) tt (pc (R:=R)) AL false Tryz.f52 j7 ka (oG pe):=fun x y k=>by kernel_rfl
end
theorem yF:dy (R:=R) Tryz.prog (pc (R:=R)) := .f (Yt) rfl <| .n
def ai:eA R:=fun x1 k0=>pe x1 k0
theorem jk (R:Type):od Tryz.prog 52 (hJ (ai (R:=R))):=bS TT mixed (yF (R:=R)) rfl rfl rfl rfl dM (zH)
abbrev eM (R:Type):Type:=Int→((List Int)→Option R)→Option R
abbrev kW:List dh := [.leaf (.ptr 0 0), .leaf (.int .u8)]
abbrev kX:List aY := [.ng (.cG)]
def p8 (fn:eM R):oC R kW kX:=fun x y k=>fn x.2.1 (fun q0=>k (.eg) [.ng (.sl (.int .u8) q0 (.own 1)), .tok])
def iw (fn:eM R):=aG kW kX (p8 fn)
section
def qJ:List (sS R) := [(73,false,(VG R))]
def qK (x1:Int) (k0:(List Int)→Option R):Option R :=
 k0 ([x1]:List Int)
theorem BM:fC (R:=R) tt (qJ (R:=R)) AL false Tryz.f50 kW kX (p8 qK):=fun x y k=>by kernel_rfl
end
theorem AS:dy (R:=R) Tryz.prog (qJ (R:=R)) := .f (Yt) rfl <| .n
def ak:eM R:=fun x1 k0=>qK x1 k0
theorem jN (R:Type):od Tryz.prog 50 (iw (ak (R:=R))):=bS TT mixed (AS (R:=R)) rfl rfl rfl rfl dM (BM)
abbrev dE (R:Type):Type:=af→(List Int)→(Int→(List Int)→Option R)→Option R
abbrev kb:List dh := [.leaf (.ptr 0 0), .leaf (.str)]
abbrev ke:List aY := [.ng (.Ui (.int .u8) 1), .tok]
def oH (fn:dE R):oC R kb ke:=fun x y k=>fn x.2.1 y.1 (fun q0 q1=>k (.tuple [.int .i64 q0, .eg]) [.ng (.sl (.int .u8) q1 (.own 2)), .dead, .tok])
def fJ (fn:dE R):=aG kb ke (oH fn)
section
def pg:List (sS R) := [(73,false,(VG R))]
def ph (x1:af) (x2:List Int) (k0:Int→(List Int)→Option R):Option R :=
 bB (decide ((x2.length+(oc x1).length)*1≤140737488355328)) (k0 (x1.length:Int) ((x2:List Int)++((oc x1):List Int)))
theorem zI:fC (R:=R) tt (pg (R:=R)) AL false Tryz.f52 kb ke (oH ph):=fun x y k=>by kernel_rfl
end
theorem yG:dy (R:=R) Tryz.prog (pg (R:=R)) := .f (Yt) rfl <| .n
def ae:dE R:=fun x1 x2 k0=>ph x1 x2 k0
theorem gu (R:Type):od Tryz.prog 52 (fJ (ae (R:=R))):=bS TT mixed (yG (R:=R)) rfl rfl rfl rfl dM (zI)
end Go.Proofs.YtmlkkgfenfdndaaGreatDoor
namespace Go.Proofs.YtmlkkgfenfdndaaGreatDoor
open Go Go.bb
end Go.Proofs.YtmlkkgfenfdndaaGreatDoor
set_option maxRecDepth 100000
namespace Go.Proofs.YtmlkkgfenfdndaaGreatDoor
open Go Go.bb
variable {R:Type}
abbrev oQ (R:Type):Type:=cC→(af→Option R)→Option R
abbrev Fz:List dh := [.agg [.int .i64, .int .i64]]
abbrev FA:List aY := []
def KC (fn:oQ R):oC R Fz FA:=fun x y k=>fn (⟨x.1.1,x.1.2.1⟩:cC) (fun q0=>k (.str q0) [])
def Au (fn:oQ R):=aG Fz FA (KC fn)
section
variable (cT:sW R) (ak:eM R) (ae:dE R) (ai:eA R)
def Nb:List (sS R) := [(65,true,(Fx cT aC)),(50,false,(iw ak aC)),(52,false,(hJ ai (fJ ae aC))),(39,false,(LQ R)),(66,true,(itoa_S R)),(67,true,(rep_S R))]
def qw (x1:cC) (k0:af→Option R):Option R :=
 cT x1 (fun y2=>bif (!y2)then (k0 ([]:af))else (bif (decide (x1.au<(0:Int)))then (ak 45 (fun y3=>bif (decide (x1.exp≥(0:Int)))then (bB (decide (0≤x1.exp)&&decide ((([48]:af).length:Int)*x1.exp≤140737488355328)) (bB (decide ((cA (max x1.au (IntKind.i64.wrap (0 - x1.au)))).length+(lI ([48]:af) x1.exp).length≤9223372036854775807)) (ae ((cA (max x1.au (IntKind.i64.wrap (0 - x1.au))))++(lI ([48]:af) x1.exp)) y3 (fun y4 y5=>k0 (wN y5)))))else (bB (decide (0≤(max 0 (IntKind.i64.wrap ((IntKind.i64.wrap (1 - x1.exp)) - ((cA (max x1.au (IntKind.i64.wrap (0 - x1.au)))).length:Int)))))&&decide ((([48]:af).length:Int)*(max 0 (IntKind.i64.wrap ((IntKind.i64.wrap (1 - x1.exp)) - ((cA (max x1.au (IntKind.i64.wrap (0 - x1.au)))).length:Int))))≤140737488355328)) (bB (decide ((lI ([48]:af) (max 0 (IntKind.i64.wrap ((IntKind.i64.wrap (1 - x1.exp)) - ((cA (max x1.au (IntKind.i64.wrap (0 - x1.au)))).length:Int))))).length+(cA (max x1.au (IntKind.i64.wrap (0 - x1.au)))).length≤9223372036854775807)) (bB (decide ((0:Int)≤(IntKind.i64.wrap ((((lI ([48]:af) (max 0 (IntKind.i64.wrap ((IntKind.i64.wrap (1 - x1.exp)) - ((cA (max x1.au (IntKind.i64.wrap (0 - x1.au)))).length:Int)))))++(cA (max x1.au (IntKind.i64.wrap (0 - x1.au))))).length:Int)+x1.exp)))&&decide ((IntKind.i64.wrap ((((lI ([48]:af) (max 0 (IntKind.i64.wrap ((IntKind.i64.wrap (1 - x1.exp)) - ((cA (max x1.au (IntKind.i64.wrap (0 - x1.au)))).length:Int)))))++(cA (max x1.au (IntKind.i64.wrap (0 - x1.au))))).length:Int)+x1.exp))≤((lI ([48]:af) (max 0 (IntKind.i64.wrap ((IntKind.i64.wrap (1 - x1.exp)) - ((cA (max x1.au (IntKind.i64.wrap (0 - x1.au)))).length:Int)))))++(cA (max x1.au (IntKind.i64.wrap (0 - x1.au))))).length)) (bB (decide ((0:Int)≤(IntKind.i64.wrap ((((lI ([48]:af) (max 0 (IntKind.i64.wrap ((IntKind.i64.wrap (1 - x1.exp)) - ((cA (max x1.au (IntKind.i64.wrap (0 - x1.au)))).length:Int)))))++(cA (max x1.au (IntKind.i64.wrap (0 - x1.au))))).length:Int)+x1.exp)))) (bB (decide (((((lI ([48]:af) (max 0 (IntKind.i64.wrap ((IntKind.i64.wrap (1 - x1.exp)) - ((cA (max x1.au (IntKind.i64.wrap (0 - x1.au)))).length:Int)))))++(cA (max x1.au (IntKind.i64.wrap (0 - x1.au))))).drop 0).take ((IntKind.i64.wrap ((((lI ([48]:af) (max 0 (IntKind.i64.wrap ((IntKind.i64.wrap (1 - x1.exp)) - ((cA (max x1.au (IntKind.i64.wrap (0 - x1.au)))).length:Int)))))++(cA (max x1.au (IntKind.i64.wrap (0 - x1.au))))).length:Int)+x1.exp)).toNat - 0)).length+1≤9223372036854775807)) (bB (decide ((0:Int)≤(((lI ([48]:af) (max 0 (IntKind.i64.wrap ((IntKind.i64.wrap (1 - x1.exp)) - ((cA (max x1.au (IntKind.i64.wrap (0 - x1.au)))).length:Int)))))++(cA (max x1.au (IntKind.i64.wrap (0 - x1.au))))).length:Int))&&decide ((((lI ([48]:af) (max 0 (IntKind.i64.wrap ((IntKind.i64.wrap (1 - x1.exp)) - ((cA (max x1.au (IntKind.i64.wrap (0 - x1.au)))).length:Int)))))++(cA (max x1.au (IntKind.i64.wrap (0 - x1.au))))).length:Int)≤((lI ([48]:af) (max 0 (IntKind.i64.wrap ((IntKind.i64.wrap (1 - x1.exp)) - ((cA (max x1.au (IntKind.i64.wrap (0 - x1.au)))).length:Int)))))++(cA (max x1.au (IntKind.i64.wrap (0 - x1.au))))).length)) (bB (decide ((0:Int)≤(IntKind.i64.wrap ((((lI ([48]:af) (max 0 (IntKind.i64.wrap ((IntKind.i64.wrap (1 - x1.exp)) - ((cA (max x1.au (IntKind.i64.wrap (0 - x1.au)))).length:Int)))))++(cA (max x1.au (IntKind.i64.wrap (0 - x1.au))))).length:Int)+x1.exp)))&&decide ((IntKind.i64.wrap ((((lI ([48]:af) (max 0 (IntKind.i64.wrap ((IntKind.i64.wrap (1 - x1.exp)) - ((cA (max x1.au (IntKind.i64.wrap (0 - x1.au)))).length:Int)))))++(cA (max x1.au (IntKind.i64.wrap (0 - x1.au))))).length:Int)+x1.exp))≤(((lI ([48]:af) (max 0 (IntKind.i64.wrap ((IntKind.i64.wrap (1 - x1.exp)) - ((cA (max x1.au (IntKind.i64.wrap (0 - x1.au)))).length:Int)))))++(cA (max x1.au (IntKind.i64.wrap (0 - x1.au))))).length:Int))) (bB (decide ((((((lI ([48]:af) (max 0 (IntKind.i64.wrap ((IntKind.i64.wrap (1 - x1.exp)) - ((cA (max x1.au (IntKind.i64.wrap (0 - x1.au)))).length:Int)))))++(cA (max x1.au (IntKind.i64.wrap (0 - x1.au))))).drop 0).take ((IntKind.i64.wrap ((((lI ([48]:af) (max 0 (IntKind.i64.wrap ((IntKind.i64.wrap (1 - x1.exp)) - ((cA (max x1.au (IntKind.i64.wrap (0 - x1.au)))).length:Int)))))++(cA (max x1.au (IntKind.i64.wrap (0 - x1.au))))).length:Int)+x1.exp)).toNat - 0))++([46]:af)).length+((((lI ([48]:af) (max 0 (IntKind.i64.wrap ((IntKind.i64.wrap (1 - x1.exp)) - ((cA (max x1.au (IntKind.i64.wrap (0 - x1.au)))).length:Int)))))++(cA (max x1.au (IntKind.i64.wrap (0 - x1.au))))).drop (IntKind.i64.wrap ((((lI ([48]:af) (max 0 (IntKind.i64.wrap ((IntKind.i64.wrap (1 - x1.exp)) - ((cA (max x1.au (IntKind.i64.wrap (0 - x1.au)))).length:Int)))))++(cA (max x1.au (IntKind.i64.wrap (0 - x1.au))))).length:Int)+x1.exp)).toNat).take ((((lI ([48]:af) (max 0 (IntKind.i64.wrap ((IntKind.i64.wrap (1 - x1.exp)) - ((cA (max x1.au (IntKind.i64.wrap (0 - x1.au)))).length:Int)))))++(cA (max x1.au (IntKind.i64.wrap (0 - x1.au))))).length:Int).toNat - (IntKind.i64.wrap ((((lI ([48]:af) (max 0 (IntKind.i64.wrap ((IntKind.i64.wrap (1 - x1.exp)) - ((cA (max x1.au (IntKind.i64.wrap (0 - x1.au)))).length:Int)))))++(cA (max x1.au (IntKind.i64.wrap (0 - x1.au))))).length:Int)+x1.exp)).toNat)).length≤9223372036854775807)) (ae ((((((lI ([48]:af) (max 0 (IntKind.i64.wrap ((IntKind.i64.wrap (1 - x1.exp)) - ((cA (max x1.au (IntKind.i64.wrap (0 - x1.au)))).length:Int)))))++(cA (max x1.au (IntKind.i64.wrap (0 - x1.au))))).drop 0).take ((IntKind.i64.wrap ((((lI ([48]:af) (max 0 (IntKind.i64.wrap ((IntKind.i64.wrap (1 - x1.exp)) - ((cA (max x1.au (IntKind.i64.wrap (0 - x1.au)))).length:Int)))))++(cA (max x1.au (IntKind.i64.wrap (0 - x1.au))))).length:Int)+x1.exp)).toNat - 0))++([46]:af))++((((lI ([48]:af) (max 0 (IntKind.i64.wrap ((IntKind.i64.wrap (1 - x1.exp)) - ((cA (max x1.au (IntKind.i64.wrap (0 - x1.au)))).length:Int)))))++(cA (max x1.au (IntKind.i64.wrap (0 - x1.au))))).drop (IntKind.i64.wrap ((((lI ([48]:af) (max 0 (IntKind.i64.wrap ((IntKind.i64.wrap (1 - x1.exp)) - ((cA (max x1.au (IntKind.i64.wrap (0 - x1.au)))).length:Int)))))++(cA (max x1.au (IntKind.i64.wrap (0 - x1.au))))).length:Int)+x1.exp)).toNat).take ((((lI ([48]:af) (max 0 (IntKind.i64.wrap ((IntKind.i64.wrap (1 - x1.exp)) - ((cA (max x1.au (IntKind.i64.wrap (0 - x1.au)))).length:Int)))))++(cA (max x1.au (IntKind.i64.wrap (0 - x1.au))))).length:Int).toNat - (IntKind.i64.wrap ((((lI ([48]:af) (max 0 (IntKind.i64.wrap ((IntKind.i64.wrap (1 - x1.exp)) - ((cA (max x1.au (IntKind.i64.wrap (0 - x1.au)))).length:Int)))))++(cA (max x1.au (IntKind.i64.wrap (0 - x1.au))))).length:Int)+x1.exp)).toNat))) y3 (fun y6 y7=>k0 (wN y7)))))))))))))else (bif (decide (x1.exp≥(0:Int)))then (bB (decide (0≤x1.exp)&&decide ((([48]:af).length:Int)*x1.exp≤140737488355328)) (bB (decide ((cA (max x1.au (IntKind.i64.wrap (0 - x1.au)))).length+(lI ([48]:af) x1.exp).length≤9223372036854775807)) (ai ((cA (max x1.au (IntKind.i64.wrap (0 - x1.au))))++(lI ([48]:af) x1.exp)) (fun y8 y9=>k0 (wN y9)))))else (bB (decide (0≤(max 0 (IntKind.i64.wrap ((IntKind.i64.wrap (1 - x1.exp)) - ((cA (max x1.au (IntKind.i64.wrap (0 - x1.au)))).length:Int)))))&&decide ((([48]:af).length:Int)*(max 0 (IntKind.i64.wrap ((IntKind.i64.wrap (1 - x1.exp)) - ((cA (max x1.au (IntKind.i64.wrap (0 - x1.au)))).length:Int))))≤140737488355328)) (bB (decide ((lI ([48]:af) (max 0 (IntKind.i64.wrap ((IntKind.i64.wrap (1 - x1.exp)) - ((cA (max x1.au (IntKind.i64.wrap (0 - x1.au)))).length:Int))))).length+(cA (max x1.au (IntKind.i64.wrap (0 - x1.au)))).length≤9223372036854775807)) (bB (decide ((0:Int)≤(IntKind.i64.wrap ((((lI ([48]:af) (max 0 (IntKind.i64.wrap ((IntKind.i64.wrap (1 - x1.exp)) - ((cA (max x1.au (IntKind.i64.wrap (0 - x1.au)))).length:Int)))))++(cA (max x1.au (IntKind.i64.wrap (0 - x1.au))))).length:Int)+x1.exp)))&&decide ((IntKind.i64.wrap ((((lI ([48]:af) (max 0 (IntKind.i64.wrap ((IntKind.i64.wrap (1 - x1.exp)) - ((cA (max x1.au (IntKind.i64.wrap (0 - x1.au)))).length:Int)))))++(cA (max x1.au (IntKind.i64.wrap (0 - x1.au))))).length:Int)+x1.exp))≤((lI ([48]:af) (max 0 (IntKind.i64.wrap ((IntKind.i64.wrap (1 - x1.exp)) - ((cA (max x1.au (IntKind.i64.wrap (0 - x1.au)))).length:Int)))))++(cA (max x1.au (IntKind.i64.wrap (0 - x1.au))))).length)) (bB (decide ((0:Int)≤(IntKind.i64.wrap ((((lI ([48]:af) (max 0 (IntKind.i64.wrap ((IntKind.i64.wrap (1 - x1.exp)) - ((cA (max x1.au (IntKind.i64.wrap (0 - x1.au)))).length:Int)))))++(cA (max x1.au (IntKind.i64.wrap (0 - x1.au))))).length:Int)+x1.exp)))) (bB (decide (((((lI ([48]:af) (max 0 (IntKind.i64.wrap ((IntKind.i64.wrap (1 - x1.exp)) - ((cA (max x1.au (IntKind.i64.wrap (0 - x1.au)))).length:Int)))))++(cA (max x1.au (IntKind.i64.wrap (0 - x1.au))))).drop 0).take ((IntKind.i64.wrap ((((lI ([48]:af) (max 0 (IntKind.i64.wrap ((IntKind.i64.wrap (1 - x1.exp)) - ((cA (max x1.au (IntKind.i64.wrap (0 - x1.au)))).length:Int)))))++(cA (max x1.au (IntKind.i64.wrap (0 - x1.au))))).length:Int)+x1.exp)).toNat - 0)).length+1≤9223372036854775807)) (bB (decide ((0:Int)≤(((lI ([48]:af) (max 0 (IntKind.i64.wrap ((IntKind.i64.wrap (1 - x1.exp)) - ((cA (max x1.au (IntKind.i64.wrap (0 - x1.au)))).length:Int)))))++(cA (max x1.au (IntKind.i64.wrap (0 - x1.au))))).length:Int))&&decide ((((lI ([48]:af) (max 0 (IntKind.i64.wrap ((IntKind.i64.wrap (1 - x1.exp)) - ((cA (max x1.au (IntKind.i64.wrap (0 - x1.au)))).length:Int)))))++(cA (max x1.au (IntKind.i64.wrap (0 - x1.au))))).length:Int)≤((lI ([48]:af) (max 0 (IntKind.i64.wrap ((IntKind.i64.wrap (1 - x1.exp)) - ((cA (max x1.au (IntKind.i64.wrap (0 - x1.au)))).length:Int)))))++(cA (max x1.au (IntKind.i64.wrap (0 - x1.au))))).length)) (bB (decide ((0:Int)≤(IntKind.i64.wrap ((((lI ([48]:af) (max 0 (IntKind.i64.wrap ((IntKind.i64.wrap (1 - x1.exp)) - ((cA (max x1.au (IntKind.i64.wrap (0 - x1.au)))).length:Int)))))++(cA (max x1.au (IntKind.i64.wrap (0 - x1.au))))).length:Int)+x1.exp)))&&decide ((IntKind.i64.wrap ((((lI ([48]:af) (max 0 (IntKind.i64.wrap ((IntKind.i64.wrap (1 - x1.exp)) - ((cA (max x1.au (IntKind.i64.wrap (0 - x1.au)))).length:Int)))))++(cA (max x1.au (IntKind.i64.wrap (0 - x1.au))))).length:Int)+x1.exp))≤(((lI ([48]:af) (max 0 (IntKind.i64.wrap ((IntKind.i64.wrap (1 - x1.exp)) - ((cA (max x1.au (IntKind.i64.wrap (0 - x1.au)))).length:Int)))))++(cA (max x1.au (IntKind.i64.wrap (0 - x1.au))))).length:Int))) (bB (decide ((((((lI ([48]:af) (max 0 (IntKind.i64.wrap ((IntKind.i64.wrap (1 - x1.exp)) - ((cA (max x1.au (IntKind.i64.wrap (0 - x1.au)))).length:Int)))))++(cA (max x1.au (IntKind.i64.wrap (0 - x1.au))))).drop 0).take ((IntKind.i64.wrap ((((lI ([48]:af) (max 0 (IntKind.i64.wrap ((IntKind.i64.wrap (1 - x1.exp)) - ((cA (max x1.au (IntKind.i64.wrap (0 - x1.au)))).length:Int)))))++(cA (max x1.au (IntKind.i64.wrap (0 - x1.au))))).length:Int)+x1.exp)).toNat - 0))++([46]:af)).length+((((lI ([48]:af) (max 0 (IntKind.i64.wrap ((IntKind.i64.wrap (1 - x1.exp)) - ((cA (max x1.au (IntKind.i64.wrap (0 - x1.au)))).length:Int)))))++(cA (max x1.au (IntKind.i64.wrap (0 - x1.au))))).drop (IntKind.i64.wrap ((((lI ([48]:af) (max 0 (IntKind.i64.wrap ((IntKind.i64.wrap (1 - x1.exp)) - ((cA (max x1.au (IntKind.i64.wrap (0 - x1.au)))).length:Int)))))++(cA (max x1.au (IntKind.i64.wrap (0 - x1.au))))).length:Int)+x1.exp)).toNat).take ((((lI ([48]:af) (max 0 (IntKind.i64.wrap ((IntKind.i64.wrap (1 - x1.exp)) - ((cA (max x1.au (IntKind.i64.wrap (0 - x1.au)))).length:Int)))))++(cA (max x1.au (IntKind.i64.wrap (0 - x1.au))))).length:Int).toNat - (IntKind.i64.wrap ((((lI ([48]:af) (max 0 (IntKind.i64.wrap ((IntKind.i64.wrap (1 - x1.exp)) - ((cA (max x1.au (IntKind.i64.wrap (0 - x1.au)))).length:Int)))))++(cA (max x1.au (IntKind.i64.wrap (0 - x1.au))))).length:Int)+x1.exp)).toNat)).length≤9223372036854775807)) (ai ((((((lI ([48]:af) (max 0 (IntKind.i64.wrap ((IntKind.i64.wrap (1 - x1.exp)) - ((cA (max x1.au (IntKind.i64.wrap (0 - x1.au)))).length:Int)))))++(cA (max x1.au (IntKind.i64.wrap (0 - x1.au))))).drop 0).take ((IntKind.i64.wrap ((((lI ([48]:af) (max 0 (IntKind.i64.wrap ((IntKind.i64.wrap (1 - x1.exp)) - ((cA (max x1.au (IntKind.i64.wrap (0 - x1.au)))).length:Int)))))++(cA (max x1.au (IntKind.i64.wrap (0 - x1.au))))).length:Int)+x1.exp)).toNat - 0))++([46]:af))++((((lI ([48]:af) (max 0 (IntKind.i64.wrap ((IntKind.i64.wrap (1 - x1.exp)) - ((cA (max x1.au (IntKind.i64.wrap (0 - x1.au)))).length:Int)))))++(cA (max x1.au (IntKind.i64.wrap (0 - x1.au))))).drop (IntKind.i64.wrap ((((lI ([48]:af) (max 0 (IntKind.i64.wrap ((IntKind.i64.wrap (1 - x1.exp)) - ((cA (max x1.au (IntKind.i64.wrap (0 - x1.au)))).length:Int)))))++(cA (max x1.au (IntKind.i64.wrap (0 - x1.au))))).length:Int)+x1.exp)).toNat).take ((((lI ([48]:af) (max 0 (IntKind.i64.wrap ((IntKind.i64.wrap (1 - x1.exp)) - ((cA (max x1.au (IntKind.i64.wrap (0 - x1.au)))).length:Int)))))++(cA (max x1.au (IntKind.i64.wrap (0 - x1.au))))).length:Int).toNat - (IntKind.i64.wrap ((((lI ([48]:af) (max 0 (IntKind.i64.wrap ((IntKind.i64.wrap (1 - x1.exp)) - ((cA (max x1.au (IntKind.i64.wrap (0 - x1.au)))).length:Int)))))++(cA (max x1.au (IntKind.i64.wrap (0 - x1.au))))).length:Int)+x1.exp)).toNat))) (fun o5 jf=>k0 (wN jf))))))))))))))
theorem Ut:fC (R:=R) tt (Nb cT ak ae ai) AL false Tryz.f46 Fz FA (KC (qw cT ak ae ai)):=fun x y k=>by kernel_rfl
end
theorem SN:dy (R:=R) Tryz.prog (Nb (R:=R) cT ak ae ai) := .c (Ho R) <| .d (jN R) rfl <| .f (jk R _ (gu R _ (fo _))) rfl <| .s (Xc) Pw <| .p (itoa_ok) <| .p (rep_ok) <| .n
def bt:oQ R:=fun x1 k0=>qw cT ak ae ai x1 k0
theorem AT (R:Type):od Tryz.prog 46 (Au (bt (R:=R))):=bS TT mixed (SN (R:=R)) rfl rfl rfl rfl dM (Ut cT ak ae ai)
abbrev Cg (R:Type):Type:=Int→(Int→Option R)→Option R
abbrev JB:List dh := [.leaf (.int .i32)]
abbrev JC:List aY := []
def Ov (fn:Cg R):oC R JB JC:=fun x y k=>fn x.1 (fun q0=>k (.int .u8 q0) [])
def Qq (fn:Cg R):=aG JB JC (Ov fn)
section
def Ey (x1:Int) (k0:Int→Option R):Option R :=
 bif (x1==34)then (bif (x1==34)then (k0 (IntKind.u8.wrap x1))else (bif (x1==8)then (k0 98)else (bif (x1==12)then (k0 102)else (bif (x1==10)then (k0 110)else (bif (x1==13)then (k0 114)else (bif (x1==9)then (k0 116)else (k0 0)))))))else (bif (x1==92)then (k0 (IntKind.u8.wrap x1))else (bif (x1==8)then (k0 98)else (bif (x1==12)then (k0 102)else (bif (x1==10)then (k0 110)else (bif (x1==13)then (k0 114)else (bif (x1==9)then (k0 116)else (k0 0)))))))
theorem YD:fC (R:=R) tt [] AL false Tryz.f51 JB JC (Ov Ey):=fun x y k=>by kernel_rfl
end
def fM:Cg R:=fun x1 k0=>Ey x1 k0
theorem Uu (R:Type):od Tryz.prog 51 (Qq (fM (R:=R))):=bS TT mixed .n rfl rfl rfl rfl dM (YD)
abbrev eN (R:Type):Type:=Int→(List Int)→((List Int)→Option R)→Option R
abbrev kY:List dh := [.leaf (.ptr 0 0), .leaf (.int .u8)]
abbrev kZ:List aY := [.ng (.Ui (.int .u8) 1), .tok]
def p9 (fn:eN R):oC R kY kZ:=fun x y k=>fn x.2.1 y.1 (fun q0=>k (.eg) [.ng (.sl (.int .u8) q0 (.own 2)), .dead, .tok])
def iz (fn:eN R):=aG kY kZ (p9 fn)
section
def qL:List (sS R) := [(73,false,(VG R))]
def qM (x1:Int) (x2:List Int) (k0:(List Int)→Option R):Option R :=
 bB (decide ((x2.length+1)*1≤140737488355328)) (k0 ((x2:List Int)++(([x1]:List Int):List Int)))
theorem BN:fC (R:=R) tt (qL (R:=R)) AL false Tryz.f50 kY kZ (p9 qM):=fun x y k=>by kernel_rfl
end
theorem AU:dy (R:=R) Tryz.prog (qL (R:=R)) := .f (Yt) rfl <| .n
def ad:eN R:=fun x1 x2 k0=>qM x1 x2 k0
theorem jO (R:Type):od Tryz.prog 50 (iz (ad (R:=R))):=bS TT mixed (AU (R:=R)) rfl rfl rfl rfl dM (BN)
abbrev fV (R:Type):Type:=(List Int)→Int→((List Int)→Option R)→Option R
abbrev iZ:List dh := [.leaf (.Ui (.int .u8) 0), .leaf (.int .i32)]
abbrev ja:List aY := [.tok]
def mE (fn:fV R):oC R iZ ja:=fun x y k=>fn x.1 x.2.1 (fun q0=>k (.sl (.int .u8) q0 (.own 1)) [.dead, .tok])
def mY (fn:fV R):=aG iZ ja (mE fn)
section
def gf (x1:List Int) (x2:Int) (k0:(List Int)→Option R):Option R :=
 bif (decide ((IntKind.u32.wrap x2)≤(2047:Int)))then (bB (decide ((x1.length+2)*1≤140737488355328)) (k0 ((x1:List Int)++(([(IntKind.u8.wrap ((BitVec.ofInt IntKind.u8.bits 192 ||| BitVec.ofInt IntKind.u8.bits (IntKind.u8.wrap (Int.fdiv x2 (2 ^ (min 6 IntKind.i32.bits))))).toNat:Int)),(IntKind.u8.wrap ((BitVec.ofInt IntKind.u8.bits 128 ||| BitVec.ofInt IntKind.u8.bits (IntKind.u8.wrap ((BitVec.ofInt IntKind.u8.bits (IntKind.u8.wrap x2) &&& BitVec.ofInt IntKind.u8.bits 63).toNat:Int))).toNat:Int))]:List Int):List Int))))else (let j6:=fun (z3:Bool)=>bif z3 then (bB (decide ((x1.length+3)*1≤140737488355328)) (k0 ((x1:List Int)++(([(IntKind.u8.wrap ((BitVec.ofInt IntKind.u8.bits 224 ||| BitVec.ofInt IntKind.u8.bits (IntKind.u8.wrap (Int.fdiv x2 (2 ^ (min 12 IntKind.i32.bits))))).toNat:Int)),(IntKind.u8.wrap ((BitVec.ofInt IntKind.u8.bits 128 ||| BitVec.ofInt IntKind.u8.bits (IntKind.u8.wrap ((BitVec.ofInt IntKind.u8.bits (IntKind.u8.wrap (Int.fdiv x2 (2 ^ (min 6 IntKind.i32.bits)))) &&& BitVec.ofInt IntKind.u8.bits 63).toNat:Int))).toNat:Int)),(IntKind.u8.wrap ((BitVec.ofInt IntKind.u8.bits 128 ||| BitVec.ofInt IntKind.u8.bits (IntKind.u8.wrap ((BitVec.ofInt IntKind.u8.bits (IntKind.u8.wrap x2) &&& BitVec.ofInt IntKind.u8.bits 63).toNat:Int))).toNat:Int))]:List Int):List Int))))else (let j5:=fun (z4:Bool)=>bif z4 then (bB (decide ((x1.length+4)*1≤140737488355328)) (k0 ((x1:List Int)++(([(IntKind.u8.wrap ((BitVec.ofInt IntKind.u8.bits 240 ||| BitVec.ofInt IntKind.u8.bits (IntKind.u8.wrap (Int.fdiv x2 (2 ^ (min 18 IntKind.i32.bits))))).toNat:Int)),(IntKind.u8.wrap ((BitVec.ofInt IntKind.u8.bits 128 ||| BitVec.ofInt IntKind.u8.bits (IntKind.u8.wrap ((BitVec.ofInt IntKind.u8.bits (IntKind.u8.wrap (Int.fdiv x2 (2 ^ (min 12 IntKind.i32.bits)))) &&& BitVec.ofInt IntKind.u8.bits 63).toNat:Int))).toNat:Int)),(IntKind.u8.wrap ((BitVec.ofInt IntKind.u8.bits 128 ||| BitVec.ofInt IntKind.u8.bits (IntKind.u8.wrap ((BitVec.ofInt IntKind.u8.bits (IntKind.u8.wrap (Int.fdiv x2 (2 ^ (min 6 IntKind.i32.bits)))) &&& BitVec.ofInt IntKind.u8.bits 63).toNat:Int))).toNat:Int)),(IntKind.u8.wrap ((BitVec.ofInt IntKind.u8.bits 128 ||| BitVec.ofInt IntKind.u8.bits (IntKind.u8.wrap ((BitVec.ofInt IntKind.u8.bits (IntKind.u8.wrap x2) &&& BitVec.ofInt IntKind.u8.bits 63).toNat:Int))).toNat:Int))]:List Int):List Int))))else (bB (decide ((x1.length+3)*1≤140737488355328)) (k0 ((x1:List Int)++(([239,191,189]:List Int):List Int)))); bif (decide ((IntKind.u32.wrap x2)>(65535:Int)))then (j5 (decide ((IntKind.u32.wrap x2)≤(1114111:Int))))else (j5 false)); bif (decide ((IntKind.u32.wrap x2)<(55296:Int)))then (j6 (decide ((IntKind.u32.wrap x2)<(55296:Int))))else (bif (decide ((57343:Int)<(IntKind.u32.wrap x2)))then (j6 (decide ((IntKind.u32.wrap x2)≤(65535:Int))))else (j6 false)))
theorem wF:fC (R:=R) tt [] AL true Tryz.f113 iZ ja (mE gf):=fun x y k=>by kernel_rfl
end
def bW:fV R:=fun x1 x2 k0=>gf x1 x2 k0
theorem vg (R:Type):od Tryz.prog 113 (mY (bW (R:=R))):=bS TT mixed .n rfl rfl rfl rfl dM (wF)
abbrev iP (R:Type):Type:=(List Int)→Int→((List Int)→Option R)→Option R
abbrev mb:List dh := [.leaf (.Ui (.int .u8) 0), .leaf (.int .i32)]
abbrev mc:List aY := [.tok]
def so (fn:iP R):oC R mb mc:=fun x y k=>fn x.1 x.2.1 (fun q0=>k (.sl (.int .u8) q0 (.own 1)) [.dead, .tok])
def sZ (fn:iP R):=aG mb mc (so fn)
section
variable (bW:fV R)
def s7:List (sS R) := [(113,false,(mY bW aC))]
def jl (x1:List Int) (x2:Int) (k0:(List Int)→Option R):Option R :=
 bif (decide ((IntKind.u32.wrap x2)≤(127:Int)))then (bB (decide ((x1.length+1)*1≤140737488355328)) (k0 ((x1:List Int)++(([(IntKind.u8.wrap x2)]:List Int):List Int))))else (bW x1 x2 (fun y3=>k0 y3))
theorem Dx:fC (R:=R) tt (s7 bW) AL true Tryz.f74 mb mc (so (jl bW)):=fun x y k=>by kernel_rfl
end
theorem Ch:dy (R:=R) Tryz.prog (s7 (R:=R) bW) := .d (vg R) rfl <| .n
def cJ:iP R:=fun x1 x2 k0=>jl bW x1 x2 k0
theorem BO (R:Type):od Tryz.prog 74 (sZ (cJ (R:=R))):=bS TT mixed (Ch (R:=R)) rfl rfl rfl rfl dM (Dx bW)
abbrev fP (R:Type):Type:=Int→(List Int)→(Int→(List Int)→Option R)→Option R
abbrev k6:List dh := [.leaf (.ptr 0 0), .leaf (.int .i32)]
abbrev k7:List aY := [.ng (.Ui (.int .u8) 1), .tok]
def qa (fn:fP R):oC R k6 k7:=fun x y k=>fn x.2.1 y.1 (fun q0 q1=>k (.tuple [.int .i64 q0, .eg]) [.ng (.sl (.int .u8) q1 (.own 2)), .dead, .tok])
def k8 (fn:fP R):=aG k6 k7 (qa fn)
section
variable (cJ:iP R)
def qN:List (sS R) := [(73,false,(VG R)),(74,false,(sZ cJ aC))]
def iA (x1:Int) (x2:List Int) (k0:Int→(List Int)→Option R):Option R :=
 cJ x2 x1 (fun y3=>k0 (IntKind.i64.wrap ((y3.length:Int) - (x2.length:Int))) y3)
theorem BP:fC (R:=R) tt (qN cJ) AL false Tryz.f53 k6 k7 (qa (iA cJ)):=fun x y k=>by kernel_rfl
end
theorem AV:dy (R:=R) Tryz.prog (qN (R:=R) cJ) := .f (Yt) rfl <| .d (BO R) rfl <| .n
def aq:fP R:=fun x1 x2 k0=>iA cJ x1 x2 k0
theorem oI (R:Type):od Tryz.prog 53 (k8 (aq (R:=R))):=bS TT mixed (AV (R:=R)) rfl rfl rfl rfl dM (BP cJ)
variable {R:Type}
abbrev s8 (R:Type):Type:=af→(af→Bool→Option R)→Option R
abbrev JD:List dh := [.leaf (.str)]
abbrev JE:List aY := []
def Ow (fn:s8 R):oC R JD JE:=fun x y k=>fn x.1 (fun q0 q1=>k (.tuple [.str q0, .bool q1]) [])
def Ez (fn:s8 R):=aG JD JE (Ow fn)
abbrev AW (R:Type):Type:=Nat→(List Int)→af→Nat→((List Int)→Option R)→Option R
def vW:Hint := { live := [4,13],own := [],rows := [],cells := [],drop := [],out := [2,3,4] }
abbrev np:Type:=(List Int)×af×Nat
def yH:np→St:=fun d=>⟨U 4 (.ptr 0 0::U 8 (.ptr 1 0::U 27 ([]))), [.ng (.sl (.int .u8) d.1 (.own 2)), .iter d.2.1 d.2.2, .tok]⟩
def AX (K:Ex→St→Option R) (q0:List Int):Option R:=K (.exit 0) ⟨U 4 (.ptr 0 0::U 36 ([])), [.ng (.sl (.int .u8) q0 (.own 1)), .tok]⟩
abbrev qO:List dh:=PU 4 (.leaf (.ptr 0 0)::PU 8 (.leaf (.ptr 1 0)::PU 27 ([])))
abbrev qP:List aY := [.ng (.Ui (.int .u8) 2), .iter, .tok]
def I0 (x:dh.bD qO) (y:aY.bD qP):Nat:=(List.length y.1+List.length y.2.1.1+64)
def SO (x:dh.bD qO) (y:aY.bD qP):np:=(y.1,y.2.1.1,y.2.1.2)
def Hq (L:AW R):sI R qO qP:=fun x y K=>L (I0 x y) y.1 y.2.1.1 y.2.1.2 (AX K)
section
variable (bM:sY R) (ak:eM R) (ad:eN R) (fM:Cg R) (ae:dE R) (aq:fP R) (cR:AW R)
def vH:List (sS R) := [(49,true,(Ew bM aC)),(50,false,(iz ad (iw ak aC))),(51,true,(Qq fM aC)),(52,false,(fJ ae aC)),(53,false,(k8 aq aC)),(39,false,(LQ R))]
def k9 (cb:(List Int)→af→Nat→Option R) (x4:List Int) (x5:af) (x6:Nat) (e0:(List Int)→Option R):Option R :=
 bif decide (x6<x5.length)then (fM ((mS x5 x6).1:Int) (fun y7=>bif (y7 != 0)then (ad 92 x4 (fun y8=>ad y7 y8 (fun y9=>cb y9 x5 (x6+(mS x5 x6).2))))else (bif (decide (((mS x5 x6).1:Int)<(32:Int)))then (ae ([92,117,48,48]:af) x4 (fun o5 jf=>bB (decide ((0:Int)≤(Int.fdiv ((mS x5 x6).1:Int) (2 ^ (min 4 IntKind.i32.bits))))&&decide ((Int.fdiv ((mS x5 x6).1:Int) (2 ^ (min 4 IntKind.i32.bits)))<(16:Int))) (ad ((([48,49,50,51,52,53,54,55,56,57,97,98,99,100,101,102]:af).getD ((Int.fdiv ((mS x5 x6).1:Int) (2 ^ (min 4 IntKind.i32.bits))).toNat) 0).toNat:Int) jf (fun l9=>bB (decide ((0:Int)≤(IntKind.i32.wrap ((BitVec.ofInt IntKind.i32.bits ((mS x5 x6).1:Int) &&& BitVec.ofInt IntKind.i32.bits 15).toNat:Int)))&&decide ((IntKind.i32.wrap ((BitVec.ofInt IntKind.i32.bits ((mS x5 x6).1:Int) &&& BitVec.ofInt IntKind.i32.bits 15).toNat:Int))<(16:Int))) (ad ((([48,49,50,51,52,53,54,55,56,57,97,98,99,100,101,102]:af).getD ((IntKind.i32.wrap ((BitVec.ofInt IntKind.i32.bits ((mS x5 x6).1:Int) &&& BitVec.ofInt IntKind.i32.bits 15).toNat:Int)).toNat) 0).toNat:Int) l9 (fun DN=>cb DN x5 (x6+(mS x5 x6).2)))))))else (aq ((mS x5 x6).1:Int) x4 (fun xy yI=>cb yI x5 (x6+(mS x5 x6).2))))))else (e0 x4)
def I1 (K:Ex→St→Option R) (rc:np→Option R) (d:np):Option R:=k9 ad fM ae aq (fun z0 z1 z2=>rc (z0,z1,z2)) d.1 d.2.1 d.2.2 (AX K)
def zJ:Nat→Option (Hint×cF R):=fun i=>match i with
 | 6=>some (vW,(cq qO qP (Hq cR) gl))
 | _=>none
theorem Ox (K:Ex→St→Option R) (rc:St→Option R) (d:np):roundOf tt (cz (vH bM ak ad fM ae aq)) (zJ cR) 0 ((aA (aQ Tryz.f26)).getD 0 .skip) vW (yH d) rc K=I1 ad fM ae aq K (fun d=>rc (yH d)) d:=by kernel_rfl
def vI (x1:af) (k0:af→Bool→Option R):Option R :=
 bM x1 (fun y2=>bif (!y2)then (k0 ([]:af) false)else (ak 34 (fun y3=>cR (List.length y3+List.length x1+64) y3 x1 0 (fun Fp=>ad 34 Fp (fun KD=>k0 (wN KD) true)))))
theorem YE:fC (R:=R) tt (vH bM ak ad fM ae aq) (zJ cR) false Tryz.f26 JD JE (Ow (vI bM ak ad cR)):=fun x y k=>by kernel_rfl
end
theorem Wd:dy (R:=R) Tryz.prog (vH (R:=R) bM ak ad fM ae aq) := .c (D5 R) <| .f (jO R _ (jN R _ (fo _))) rfl <| .c (Uu R) <| .d (gu R) rfl <| .d (oI R) rfl <| .s (Xc) Pw <| .n
def cR:AW R
 | 0,_,_,_,_=>none
 | n+1,eh,eB,fb,e0=>k9 ad fM ae aq (fun eh eB fb=>cR n eh eB fb e0) eh eB fb e0
def I2 (K:Ex→St→Option R) (n:Nat) (d:np):Option R:=cR n d.1 d.2.1 d.2.2 (AX K)
theorem Rq (other:cF R) (ho:fZ tt (cz (vH (R:=R) bM ak ad fM ae aq)) (zJ (R:=R) cR) 0 ((aA (aQ Tryz.f26)).getD 0 .skip) vW other):fZ tt (cz (vH (R:=R) bM ak ad fM ae aq)) (zJ (R:=R) cR) 0 ((aA (aQ Tryz.f26)).getD 0 .skip) vW (cq qO qP (Hq (cR)) other) :=
 cx (A:=I2) ho (dD yH (I1 ad fM ae aq) (I2) (fun _ _=>by kernel_rfl) (Ox bM ak ad fM ae aq cR) (fun _ _ _=>by kernel_rfl)) I0 SO (fun _ _=>by kernel_rfl) (fun _ _ _=>by kernel_rfl)
def cU:s8 R:=fun x1 k0=>vI bM ak ad cR x1 k0
theorem SP (R:Type):∀a∈aA (aQ Tryz.f26),gE tt (cz (vH (R:=R) bM ak ad fM ae aq)) (zJ (R:=R) cR) 0 a:=by
 refine eV 1 (by kernel_rfl) fun i hi => ?_
 match i,hi with
 | 0,_=>exact bT (by kernel_rfl) (Rq _ cQ)
 | n+1,hi=>omega
theorem D6 (R:Type):od Tryz.prog 26 (Ez (cU (R:=R))):=bS TT mixed (Wd (R:=R)) rfl rfl rfl rfl (SP R) (YE bM ak ad fM ae aq cR)
abbrev qQ (R:Type):Type:=af→((List Int)→Option R)→Option R
abbrev yJ:List dh := [.leaf (.str), .leaf (.ptr 0 0)]
abbrev yK:List aY := [.cells [.ptr 1 0], .ng (.cG)]
def EZ (fn:qQ R):oC R yJ yK:=fun x y k=>fn x.1 (fun q0=>k (.tuple []) [.cells [.ptr 1 0], .ng (.sl (.int .u8) q0 (.own 2)), .tok])
def FX (fn:qQ R):=aG yJ yK (EZ fn)
section
variable (cU:s8 R) (ai:eA R)
def FY:List (sS R) := [(26,true,(Ez cU aC)),(52,false,(hJ ai aC))]
def FZ (x1:af) (k0:(List Int)→Option R):Option R :=
 cU x1 (fun y2 y3=>ai y2 (fun y4 y5=>k0 y5))
theorem Oy:fC (R:=R) tt (FY cU ai) AL false Tryz.f61 yJ yK (EZ (FZ cU ai)):=fun x y k=>by kernel_rfl
end
theorem Nx:dy (R:=R) Tryz.prog (FY (R:=R) cU ai) := .c (D6 R) <| .d (jk R) rfl <| .n
def dW:qQ R:=fun x1 k0=>FZ cU ai x1 k0
theorem Mb (R:Type):od Tryz.prog 61 (FX (dW (R:=R))):=bS TT mixed (Nx (R:=R)) rfl rfl rfl rfl dM (Oy cU ai)
abbrev mZ (R:Type):Type:=af→(List Int)→((List Int)→Option R)→Option R
abbrev yL:List dh := [.leaf (.str), .leaf (.ptr 0 0)]
abbrev yM:List aY := [.cells [.ptr 1 0], .ng (.Ui (.int .u8) 2), .tok]
def E0 (fn:mZ R):oC R yL yM:=fun x y k=>fn x.1 y.2.1 (fun q0=>k (.tuple []) [.cells [.ptr 1 0], .ng (.sl (.int .u8) q0 (.own 3)), .dead, .tok])
def yN (fn:mZ R):=aG yL yM (E0 fn)
section
variable (cU:s8 R) (ae:dE R)
def F0:List (sS R) := [(26,true,(Ez cU aC)),(52,false,(fJ ae aC))]
def F1 (x1:af) (x2:List Int) (k0:(List Int)→Option R):Option R :=
 cU x1 (fun y3 y4=>ae y3 x2 (fun y5 y6=>k0 y6))
theorem Oz:fC (R:=R) tt (F0 cU ae) AL false Tryz.f61 yL yM (E0 (F1 cU ae)):=fun x y k=>by kernel_rfl
end
theorem Ny:dy (R:=R) Tryz.prog (F0 (R:=R) cU ae) := .c (D6 R) <| .d (gu R) rfl <| .n
def aO:mZ R:=fun x1 x2 k0=>F1 cU ae x1 x2 k0
theorem Ci (R:Type):od Tryz.prog 61 (yN (aO (R:=R))):=bS TT mixed (Ny (R:=R)) rfl rfl rfl rfl dM (Oz cU ae)
abbrev dK (R:Type):Type:=Json→(List Int)→((List Int)→Option R)→Option R
abbrev iB:List dh := [.leaf (.ptr 0 0), .agg [.int .i64, .int .i64, .int .i64, .str, .sl .str, .sl .json]]
abbrev iC:List aY := [.ng (.Ui (.int .u8) 1), .tok]
def fc (fn:dK R):oC R iB iC:=fun x y k=>fn (⟨x.2.1.1,⟨x.2.1.2.1,x.2.1.2.2.1⟩,x.2.1.2.2.2.1,x.2.1.2.2.2.2.1,x.2.1.2.2.2.2.2.1⟩:Json) y.1 (fun q0=>k (.tuple []) [.ng (.sl (.int .u8) q0 (.own 2)), .dead, .tok])
def I3 (fn:dK R):=aG iB iC (fc fn)
abbrev s9 (R:Type):Type:=Nat→af→(List Json)→Int→Int→(List Int)→Json→(af→(List Int)→Option R)→Option R
def oe:Hint := { live := [2,3,4,5,43,44,45],own := [],rows := [],cells := [],drop := [],out := [2,5] }
abbrev jm:Type:=af×(List Json)×Int×Int×(List Int)×Json
def rR:jm→St:=fun d=>⟨U 2 (.ptr 2 0 :: .ptr 3 0 :: .func 61 [] [.ptr 2 0] :: .str d.1::U 37 (.sl .json d.2.1 .no :: .int .i64 d.2.2.1 :: .int .i64 d.2.2.2.1::U 28 ([]))), [.ng (.sl (.int .u8) d.2.2.2.2.1 (.own 4)), .dead, .cells [.ptr 0 0], .cells [.int .i64 d.2.2.2.2.2.kind, .int .i64 d.2.2.2.2.2.num.au, .int .i64 d.2.2.2.2.2.num.exp, .str d.2.2.2.2.2.text, .sl .str d.2.2.2.2.2.names .no, .sl .json d.2.2.2.2.2.items .no], .tok]⟩
def ta (K:Ex→St→Option R) (q0:af) (q1:List Int):Option R:=K (.exit 1) ⟨U 2 (.ptr 2 0::U 2 (.str q0::U 68 ([]))), [.ng (.sl (.int .u8) q1 (.own 3)), .dead, .cells [.ptr 0 0], .tok]⟩
abbrev la:List dh:=PU 2 (.leaf (.ptr 2 0) :: .leaf (.ptr 3 0) :: .func 61 [] [.ptr 2 0] :: .leaf (.str)::PU 37 (.leaf (.sl .json) :: .leaf (.int .i64) :: .leaf (.int .i64)::PU 28 ([])))
abbrev lb:List aY := [.ng (.Ui (.int .u8) 4), .dead, .cells [.ptr 0 0], .cells [.int .i64, .int .i64, .int .i64, .str, .sl .str, .sl .json], .tok]
def Cj (x:dh.bD la) (y:aY.bD lb):Nat:=(List.length x.2.2.2.2.2.1+List.length ((t8 (t8 (t8 (t8 (t8 x))))).2.2.2.1)+Int.natAbs ((t8 (t8 (t8 (t8 (t8 x))))).2.2.2.2.1)+Int.natAbs ((t8 (t8 (t8 (t8 (t8 x))))).2.2.2.2.2.1)+List.length y.1+Json.fu (⟨y.2.2.2.1.1,⟨y.2.2.2.1.2.1,y.2.2.2.1.2.2.1⟩,y.2.2.2.1.2.2.2.1,y.2.2.2.1.2.2.2.2.1,y.2.2.2.1.2.2.2.2.2.1⟩:Json)+64)
def Mc (x:dh.bD la) (y:aY.bD lb):jm:=(x.2.2.2.2.2.1,(t8 (t8 (t8 (t8 (t8 x))))).2.2.2.1,(t8 (t8 (t8 (t8 (t8 x))))).2.2.2.2.1,(t8 (t8 (t8 (t8 (t8 x))))).2.2.2.2.2.1,y.1,(⟨y.2.2.2.1.1,⟨y.2.2.2.1.2.1,y.2.2.2.1.2.2.1⟩,y.2.2.2.1.2.2.2.1,y.2.2.2.1.2.2.2.2.1,y.2.2.2.1.2.2.2.2.2.1⟩:Json))
def By (L:s9 R):sI R la lb:=fun x y K=>L (Cj x y) x.2.2.2.2.2.1 ((t8 (t8 (t8 (t8 (t8 x))))).2.2.2.1) ((t8 (t8 (t8 (t8 (t8 x))))).2.2.2.2.1) ((t8 (t8 (t8 (t8 (t8 x))))).2.2.2.2.2.1) y.1 (⟨y.2.2.2.1.1,⟨y.2.2.2.1.2.1,y.2.2.2.1.2.2.1⟩,y.2.2.2.1.2.2.2.1,y.2.2.2.1.2.2.2.2.1,y.2.2.2.1.2.2.2.2.2.1⟩:Json) (ta K)
section
variable (bt:oQ R) (ad:eN R) (ae:dE R) (aF:dK R) (aO:mZ R) (aZ:s9 R)
def nq:List (sS R) := [(46,true,(Au bt aC)),(50,false,(iz ad aC)),(52,false,(fJ ae aC)),(38,false,(aG iB iC (fc aF) aC)),(61,false,(yN aO aC))]
def jn (cb:af→(List Json)→Int→Int→(List Int)→Json→Option R) (o6:af) (uJ:List Json) (kN:Int) (uB:Int) (E1:List Int) (Av:Json) (e0:af→(List Int)→Option R):Option R :=
 bif (decide (uB<kN))then (bB (decide ((0:Int)≤uB)&&decide (uB<uJ.length)) (bif (decide (uB>(0:Int)))then (ad 44 E1 (fun D7=>bif (Av.kind==7)then (bB (decide ((0:Int)≤uB)&&decide (uB<Av.names.length)) (aO (Av.names.getD uB.toNat (Ty.br .str)) D7 (fun y22=>ad 58 y22 (fun y23=>aF (⟨(uJ.getD uB.toNat (Ty.br .json)).kind,⟨(uJ.getD uB.toNat (Ty.br .json)).num.au,(uJ.getD uB.toNat (Ty.br .json)).num.exp⟩,(uJ.getD uB.toNat (Ty.br .json)).text,(uJ.getD uB.toNat (Ty.br .json)).names,(uJ.getD uB.toNat (Ty.br .json)).items⟩:Json) y23 (fun y24=>cb o6 uJ kN (IntKind.i64.wrap (uB+1)) y24 (⟨Av.kind,⟨Av.num.au,Av.num.exp⟩,Av.text,Av.names,Av.items⟩:Json))))))else (aF (⟨(uJ.getD uB.toNat (Ty.br .json)).kind,⟨(uJ.getD uB.toNat (Ty.br .json)).num.au,(uJ.getD uB.toNat (Ty.br .json)).num.exp⟩,(uJ.getD uB.toNat (Ty.br .json)).text,(uJ.getD uB.toNat (Ty.br .json)).names,(uJ.getD uB.toNat (Ty.br .json)).items⟩:Json) D7 (fun Kg=>cb o6 uJ kN (IntKind.i64.wrap (uB+1)) Kg (⟨Av.kind,⟨Av.num.au,Av.num.exp⟩,Av.text,Av.names,Av.items⟩:Json)))))else (bif (Av.kind==7)then (bB (decide ((0:Int)≤uB)&&decide (uB<Av.names.length)) (aO (Av.names.getD uB.toNat (Ty.br .str)) E1 (fun SQ=>ad 58 SQ (fun BQ=>aF (⟨(uJ.getD uB.toNat (Ty.br .json)).kind,⟨(uJ.getD uB.toNat (Ty.br .json)).num.au,(uJ.getD uB.toNat (Ty.br .json)).num.exp⟩,(uJ.getD uB.toNat (Ty.br .json)).text,(uJ.getD uB.toNat (Ty.br .json)).names,(uJ.getD uB.toNat (Ty.br .json)).items⟩:Json) BQ (fun JF=>cb o6 uJ kN (IntKind.i64.wrap (uB+1)) JF (⟨Av.kind,⟨Av.num.au,Av.num.exp⟩,Av.text,Av.names,Av.items⟩:Json))))))else (aF (⟨(uJ.getD uB.toNat (Ty.br .json)).kind,⟨(uJ.getD uB.toNat (Ty.br .json)).num.au,(uJ.getD uB.toNat (Ty.br .json)).num.exp⟩,(uJ.getD uB.toNat (Ty.br .json)).text,(uJ.getD uB.toNat (Ty.br .json)).names,(uJ.getD uB.toNat (Ty.br .json)).items⟩:Json) E1 (fun NY=>cb o6 uJ kN (IntKind.i64.wrap (uB+1)) NY (⟨Av.kind,⟨Av.num.au,Av.num.exp⟩,Av.text,Av.names,Av.items⟩:Json))))))else (e0 o6 E1)
def Ck (K:Ex→St→Option R) (rc:jm→Option R) (d:jm):Option R:=jn ad aF aO (fun z0 z1 z2 z3 z4 z5=>rc (z0,z1,z2,z3,z4,z5)) d.1 d.2.1 d.2.2.1 d.2.2.2.1 d.2.2.2.2.1 d.2.2.2.2.2 (ta K)
def qR:Nat→Option (Hint×cF R):=fun i=>match i with
 | 18=>some (oe,(cq la lb (By aZ) gl))
 | _=>none
theorem Iv (K:Ex→St→Option R) (rc:St→Option R) (d:jm):roundOf tt (cz (nq bt ad ae aF aO)) (qR aZ) 2 ((aA (aQ Tryz.f38)).getD 0 .skip) oe (rR d) rc K=Ck ad aF aO K (fun d=>rc (rR d)) d:=by kernel_rfl
def Cl (x1:Json) (x2:List Int) (k0:(List Int)→Option R):Option R :=
 let j33:=fun (V7:af)=>bB (decide ((0:Int)<V7.length)) (ad ((V7.getD 0 0).toNat:Int) x2 (fun xy=>aZ (List.length V7+List.length x1.items+Int.natAbs (x1.items.length:Int)+Int.natAbs 0+List.length xy+Json.fu (⟨x1.kind,⟨x1.num.au,x1.num.exp⟩,x1.text,x1.names,x1.items⟩:Json)+64) V7 x1.items (x1.items.length:Int) 0 xy (⟨x1.kind,⟨x1.num.au,x1.num.exp⟩,x1.text,x1.names,x1.items⟩:Json) (fun Nz Qr=>bB (decide ((1:Int)<Nz.length)) (ad ((Nz.getD 1 0).toNat:Int) Qr (fun Md=>k0 Md))))); bif (x1.kind==1)then (ae ([110,117,108,108]:af) x2 (fun y3 y4=>k0 y4))else (bif (x1.kind==2)then (ae ([102,97,108,115,101]:af) x2 (fun y5 y6=>k0 y6))else (bif (x1.kind==3)then (ae ([116,114,117,101]:af) x2 (fun y7 y8=>k0 y8))else (bif (x1.kind==4)then (bt x1.num (fun y9=>ae y9 x2 (fun o5 jf=>k0 jf)))else (bif (x1.kind==5)then (aO x1.text x2 (fun l9=>k0 l9))else (bif (x1.kind==7)then (j33 ([123,125]:af))else (j33 ([91,93]:af)))))))
theorem Rr:fC (R:=R) tt (nq bt ad ae aF aO) (qR aZ) false Tryz.f38 iB iC (fc (Cl bt ad ae aO aZ)):=fun x y k=>by kernel_rfl
end
theorem PH (aF:dK R) (nT:bb.Spec.Ok Tryz.prog 38 (aG iB iC (fc aF) aC)):dy (R:=R) Tryz.prog (nq (R:=R) bt ad ae aF aO) := .c (AT R) <| .d (jO R) rfl <| .d (gu R) rfl <| .f nT rfl <| .d (Ci R) rfl <| .n
def aZ (aF:dK R):s9 R
 | 0,_,_,_,_,_,_,_=>none
 | n+1,eh,eB,fb,lZ,BR,BS,e0=>jn ad aF aO (fun eh eB fb lZ BR BS=>aZ aF n eh eB fb lZ BR BS e0) eh eB fb lZ BR BS e0
def Cm (aF:dK R) (K:Ex→St→Option R) (n:Nat) (d:jm):Option R:=aZ aF n d.1 d.2.1 d.2.2.1 d.2.2.2.1 d.2.2.2.2.1 d.2.2.2.2.2 (ta K)
theorem KE (aF:dK R) (other:cF R) (ho:fZ tt (cz (nq (R:=R) bt ad ae aF aO)) (qR (R:=R) (aZ aF)) 2 ((aA (aQ Tryz.f38)).getD 0 .skip) oe other):fZ tt (cz (nq (R:=R) bt ad ae aF aO)) (qR (R:=R) (aZ aF)) 2 ((aA (aQ Tryz.f38)).getD 0 .skip) oe (cq la lb (By (aZ aF)) other) :=
 cx (A:=Cm aF) ho (dD rR (Ck ad aF aO) (Cm aF) (fun _ _=>by kernel_rfl) (Iv bt ad ae aF aO (aZ aF)) (fun _ _ _=>by kernel_rfl)) Cj Mc (fun _ _=>by kernel_rfl) (fun _ _ _=>by kernel_rfl)
def Cn (aF:dK R):dK R:=fun x1 x2 k0=>Cl bt ad ae aO (aZ aF) x1 x2 k0
theorem NA (R:Type) (aF:dK R) (nT:bb.Spec.Ok Tryz.prog 38 (aG iB iC (fc aF) aC)):∀a∈aA (aQ Tryz.f38),gE tt (cz (nq (R:=R) bt ad ae aF aO)) (qR (R:=R) (aZ aF)) 2 a:=by
 refine eV 1 (by kernel_rfl) fun i hi => ?_
 match i,hi with
 | 0,_=>exact bT (by kernel_rfl) (KE aF _ cQ)
 | n+1,hi=>omega
theorem NB (R:Type) (aF:dK R) (nT:bb.Spec.Ok Tryz.prog 38 (aG iB iC (fc aF) aC)):od Tryz.prog 38 (I3 (Cn aF)):=bS TT mixed (PH aF nT) rfl rfl rfl rfl (NA R aF nT) (Rr bt ad ae aF aO (aZ aF))
def dL:Nat→dK R
 | 0,_,_,_=>none
 | n+1,eh,eB,k0'=>Cn (dL n) eh eB k0'
theorem json_write_9953_N_succ (n:Nat):dL (R:=R) (n+1)=Cn (dL n):=by kernel_rfl
theorem OA (R:Type):∀n,bb.Spec.Ok Tryz.prog 38 (aG iB iC (fc (dL (R:=R) n)) aC) :=
 mW (run:=fun n=>fc (dL (R:=R) n)) (fun x y k=>by kernel_rfl) fun n hyp=>NB R (dL n) hyp aC (fo _)
def cd:dK R:=fun x1 x2 k0=>dL (Json.depth x1+2) x1 x2 k0
theorem OB (R:Type):fc (R:=R) cd=fun x y k=>fc (dL (Json.depth (⟨x.2.1.1,⟨x.2.1.2.1,x.2.1.2.2.1⟩,x.2.1.2.2.2.1,x.2.1.2.2.2.2.1,x.2.1.2.2.2.2.2.1⟩:Json)+2)) x y k:=by kernel_rfl
theorem OC (R:Type) (other:bb.Spec R) (ho:bb.Spec.Ok Tryz.prog 38 other):bb.Spec.Ok Tryz.prog 38 (aG iB iC (fc cd) other) :=
 rP (vE (run:=fun n=>fc (dL (R:=R) n)) (fun x y=>(Json.depth (⟨x.2.1.1,⟨x.2.1.2.1,x.2.1.2.2.1⟩,x.2.1.2.2.2.1,x.2.1.2.2.2.2.1,x.2.1.2.2.2.2.2.1⟩:Json)+2)) ho (OA R)) (OB R)
variable {R:Type}
abbrev uK (R:Type):Type:=Json→((List Int)→Option R)→Option R
abbrev Co:List dh := [.leaf (.ptr 0 0), .agg [.int .i64, .int .i64, .int .i64, .str, .sl .str, .sl .json]]
abbrev Cp:List aY := [.ng (.cG)]
def Hr (fn:uK R):oC R Co Cp:=fun x y k=>fn (⟨x.2.1.1,⟨x.2.1.2.1,x.2.1.2.2.1⟩,x.2.1.2.2.2.1,x.2.1.2.2.2.2.1,x.2.1.2.2.2.2.2.1⟩:Json) (fun q0=>k (.tuple []) [.ng (.sl (.int .u8) q0 (.own 1)), .tok])
def I4 (fn:uK R):=aG Co Cp (Hr fn)
abbrev td (R:Type):Type:=Nat→af→(List Json)→Int→Int→(List Int)→Json→(af→(List Int)→Option R)→Option R
def og:Hint := { live := [2,3,4,5,43,44,45],own := [],rows := [],cells := [],drop := [],out := [2,5] }
abbrev jq:Type:=af×(List Json)×Int×Int×(List Int)×Json
def rS:jq→St:=fun d=>⟨U 2 (.ptr 1 0 :: .ptr 2 0 :: .func 61 [] [.ptr 1 0] :: .str d.1::U 37 (.sl .json d.2.1 .no :: .int .i64 d.2.2.1 :: .int .i64 d.2.2.2.1::U 28 ([]))), [.ng (.sl (.int .u8) d.2.2.2.2.1 (.own 3)), .cells [.ptr 0 0], .cells [.int .i64 d.2.2.2.2.2.kind, .int .i64 d.2.2.2.2.2.num.au, .int .i64 d.2.2.2.2.2.num.exp, .str d.2.2.2.2.2.text, .sl .str d.2.2.2.2.2.names .no, .sl .json d.2.2.2.2.2.items .no], .tok]⟩
def tf (K:Ex→St→Option R) (q0:af) (q1:List Int):Option R:=K (.exit 1) ⟨U 2 (.ptr 1 0::U 2 (.str q0::U 68 ([]))), [.ng (.sl (.int .u8) q1 (.own 2)), .cells [.ptr 0 0], .tok]⟩
abbrev lg:List dh:=PU 2 (.leaf (.ptr 1 0) :: .leaf (.ptr 2 0) :: .func 61 [] [.ptr 1 0] :: .leaf (.str)::PU 37 (.leaf (.sl .json) :: .leaf (.int .i64) :: .leaf (.int .i64)::PU 28 ([])))
abbrev lh:List aY := [.ng (.Ui (.int .u8) 3), .cells [.ptr 0 0], .cells [.int .i64, .int .i64, .int .i64, .str, .sl .str, .sl .json], .tok]
def Cq (x:dh.bD lg) (y:aY.bD lh):Nat:=(List.length x.2.2.2.2.2.1+List.length ((t8 (t8 (t8 (t8 (t8 x))))).2.2.2.1)+Int.natAbs ((t8 (t8 (t8 (t8 (t8 x))))).2.2.2.2.1)+Int.natAbs ((t8 (t8 (t8 (t8 (t8 x))))).2.2.2.2.2.1)+List.length y.1+Json.fu (⟨y.2.2.1.1,⟨y.2.2.1.2.1,y.2.2.1.2.2.1⟩,y.2.2.1.2.2.2.1,y.2.2.1.2.2.2.2.1,y.2.2.1.2.2.2.2.2.1⟩:Json)+64)
def Me (x:dh.bD lg) (y:aY.bD lh):jq:=(x.2.2.2.2.2.1,(t8 (t8 (t8 (t8 (t8 x))))).2.2.2.1,(t8 (t8 (t8 (t8 (t8 x))))).2.2.2.2.1,(t8 (t8 (t8 (t8 (t8 x))))).2.2.2.2.2.1,y.1,(⟨y.2.2.1.1,⟨y.2.2.1.2.1,y.2.2.1.2.2.1⟩,y.2.2.1.2.2.2.1,y.2.2.1.2.2.2.2.1,y.2.2.1.2.2.2.2.2.1⟩:Json))
def Bz (L:td R):sI R lg lh:=fun x y K=>L (Cq x y) x.2.2.2.2.2.1 ((t8 (t8 (t8 (t8 (t8 x))))).2.2.2.1) ((t8 (t8 (t8 (t8 (t8 x))))).2.2.2.2.1) ((t8 (t8 (t8 (t8 (t8 x))))).2.2.2.2.2.1) y.1 (⟨y.2.2.1.1,⟨y.2.2.1.2.1,y.2.2.1.2.2.1⟩,y.2.2.1.2.2.2.1,y.2.2.1.2.2.2.2.1,y.2.2.1.2.2.2.2.2.1⟩:Json) (tf K)
section
variable (bt:oQ R) (ak:eM R) (ad:eN R) (ai:eA R) (cd:dK R) (dW:qQ R) (aO:mZ R) (bG:td R)
def nr:List (sS R) := [(46,true,(Au bt aC)),(50,false,(iz ad (iw ak aC))),(52,false,(hJ ai aC)),(38,false,(I3 cd aC)),(61,false,(yN aO (FX dW aC)))]
def Cr (cb:af→(List Json)→Int→Int→(List Int)→Json→Option R) (Mf:af) (o6:List Json) (uJ:Int) (kN:Int) (uB:List Int) (E1:Json) (e0:af→(List Int)→Option R):Option R :=
 bif (decide (kN<uJ))then (bB (decide ((0:Int)≤kN)&&decide (kN<o6.length)) (bif (decide (kN>(0:Int)))then (ad 44 uB (fun Qs=>bif (E1.kind==7)then (bB (decide ((0:Int)≤kN)&&decide (kN<E1.names.length)) (aO (E1.names.getD kN.toNat (Ty.br .str)) Qs (fun D7=>ad 58 D7 (fun y22=>cd (⟨(o6.getD kN.toNat (Ty.br .json)).kind,⟨(o6.getD kN.toNat (Ty.br .json)).num.au,(o6.getD kN.toNat (Ty.br .json)).num.exp⟩,(o6.getD kN.toNat (Ty.br .json)).text,(o6.getD kN.toNat (Ty.br .json)).names,(o6.getD kN.toNat (Ty.br .json)).items⟩:Json) y22 (fun y23=>cb Mf o6 uJ (IntKind.i64.wrap (kN+1)) y23 (⟨E1.kind,⟨E1.num.au,E1.num.exp⟩,E1.text,E1.names,E1.items⟩:Json))))))else (cd (⟨(o6.getD kN.toNat (Ty.br .json)).kind,⟨(o6.getD kN.toNat (Ty.br .json)).num.au,(o6.getD kN.toNat (Ty.br .json)).num.exp⟩,(o6.getD kN.toNat (Ty.br .json)).text,(o6.getD kN.toNat (Ty.br .json)).names,(o6.getD kN.toNat (Ty.br .json)).items⟩:Json) Qs (fun y24=>cb Mf o6 uJ (IntKind.i64.wrap (kN+1)) y24 (⟨E1.kind,⟨E1.num.au,E1.num.exp⟩,E1.text,E1.names,E1.items⟩:Json)))))else (bif (E1.kind==7)then (bB (decide ((0:Int)≤kN)&&decide (kN<E1.names.length)) (aO (E1.names.getD kN.toNat (Ty.br .str)) uB (fun Kg=>ad 58 Kg (fun SQ=>cd (⟨(o6.getD kN.toNat (Ty.br .json)).kind,⟨(o6.getD kN.toNat (Ty.br .json)).num.au,(o6.getD kN.toNat (Ty.br .json)).num.exp⟩,(o6.getD kN.toNat (Ty.br .json)).text,(o6.getD kN.toNat (Ty.br .json)).names,(o6.getD kN.toNat (Ty.br .json)).items⟩:Json) SQ (fun BQ=>cb Mf o6 uJ (IntKind.i64.wrap (kN+1)) BQ (⟨E1.kind,⟨E1.num.au,E1.num.exp⟩,E1.text,E1.names,E1.items⟩:Json))))))else (cd (⟨(o6.getD kN.toNat (Ty.br .json)).kind,⟨(o6.getD kN.toNat (Ty.br .json)).num.au,(o6.getD kN.toNat (Ty.br .json)).num.exp⟩,(o6.getD kN.toNat (Ty.br .json)).text,(o6.getD kN.toNat (Ty.br .json)).names,(o6.getD kN.toNat (Ty.br .json)).items⟩:Json) uB (fun JF=>cb Mf o6 uJ (IntKind.i64.wrap (kN+1)) JF (⟨E1.kind,⟨E1.num.au,E1.num.exp⟩,E1.text,E1.names,E1.items⟩:Json))))))else (e0 Mf uB)
def Cs (K:Ex→St→Option R) (rc:jq→Option R) (d:jq):Option R:=Cr ad cd aO (fun z0 z1 z2 z3 z4 z5=>rc (z0,z1,z2,z3,z4,z5)) d.1 d.2.1 d.2.2.1 d.2.2.2.1 d.2.2.2.2.1 d.2.2.2.2.2 (tf K)
def qS:Nat→Option (Hint×cF R):=fun i=>match i with
 | 18=>some (og,(cq lg lh (Bz bG) gl))
 | _=>none
theorem Iw (K:Ex→St→Option R) (rc:St→Option R) (d:jq):roundOf tt (cz (nr bt ak ad ai cd dW aO)) (qS bG) 1 ((aA (aQ Tryz.f38)).getD 0 .skip) og (rS d) rc K=Cs ad cd aO K (fun d=>rc (rS d)) d:=by kernel_rfl
def Ct (x1:Json) (k0:(List Int)→Option R):Option R :=
 let j32:=fun (z12:af)=>bB (decide ((0:Int)<z12.length)) (ak ((z12.getD 0 0).toNat:Int) (fun DN=>bG (List.length z12+List.length x1.items+Int.natAbs (x1.items.length:Int)+Int.natAbs 0+List.length DN+Json.fu (⟨x1.kind,⟨x1.num.au,x1.num.exp⟩,x1.text,x1.names,x1.items⟩:Json)+64) z12 x1.items (x1.items.length:Int) 0 DN (⟨x1.kind,⟨x1.num.au,x1.num.exp⟩,x1.text,x1.names,x1.items⟩:Json) (fun NY Nz=>bB (decide ((1:Int)<NY.length)) (ad ((NY.getD 1 0).toNat:Int) Nz (fun Qr=>k0 Qr))))); bif (x1.kind==1)then (ai ([110,117,108,108]:af) (fun y2 y3=>k0 y3))else (bif (x1.kind==2)then (ai ([102,97,108,115,101]:af) (fun y4 y5=>k0 y5))else (bif (x1.kind==3)then (ai ([116,114,117,101]:af) (fun y6 y7=>k0 y7))else (bif (x1.kind==4)then (bt x1.num (fun y8=>ai y8 (fun y9 o5=>k0 o5)))else (bif (x1.kind==5)then (dW x1.text (fun jf=>k0 jf))else (bif (x1.kind==7)then (j32 ([123,125]:af))else (j32 ([91,93]:af)))))))
theorem Rs:fC (R:=R) tt (nr bt ak ad ai cd dW aO) (qS bG) false Tryz.f38 Co Cp (Hr (Ct bt ak ad ai dW bG)):=fun x y k=>by kernel_rfl
end
theorem PI:dy (R:=R) Tryz.prog (nr (R:=R) bt ak ad ai cd dW aO) := .c (AT R) <| .f (jO R _ (jN R _ (fo _))) rfl <| .d (jk R) rfl <| .f (OC R _ (fo _)) rfl <| .f (Ci R _ (Mb R _ (fo _))) rfl <| .n
def bG:td R
 | 0,_,_,_,_,_,_,_=>none
 | n+1,eh,eB,fb,lZ,BR,BS,e0=>Cr ad cd aO (fun eh eB fb lZ BR BS=>bG n eh eB fb lZ BR BS e0) eh eB fb lZ BR BS e0
def Cu (K:Ex→St→Option R) (n:Nat) (d:jq):Option R:=bG n d.1 d.2.1 d.2.2.1 d.2.2.2.1 d.2.2.2.2.1 d.2.2.2.2.2 (tf K)
theorem KF (other:cF R) (ho:fZ tt (cz (nr (R:=R) bt ak ad ai cd dW aO)) (qS (R:=R) bG) 1 ((aA (aQ Tryz.f38)).getD 0 .skip) og other):fZ tt (cz (nr (R:=R) bt ak ad ai cd dW aO)) (qS (R:=R) bG) 1 ((aA (aQ Tryz.f38)).getD 0 .skip) og (cq lg lh (Bz (bG)) other) :=
 cx (A:=Cu) ho (dD rS (Cs ad cd aO) (Cu) (fun _ _=>by kernel_rfl) (Iw bt ak ad ai cd dW aO bG) (fun _ _ _=>by kernel_rfl)) Cq Me (fun _ _=>by kernel_rfl) (fun _ _ _=>by kernel_rfl)
def gQ:uK R:=fun x1 k0=>Ct bt ak ad ai dW bG x1 k0
theorem NC (R:Type):∀a∈aA (aQ Tryz.f38),gE tt (cz (nr (R:=R) bt ak ad ai cd dW aO)) (qS (R:=R) bG) 1 a:=by
 refine eV 1 (by kernel_rfl) fun i hi => ?_
 match i,hi with
 | 0,_=>exact bT (by kernel_rfl) (KF _ cQ)
 | n+1,hi=>omega
theorem OD (R:Type):od Tryz.prog 38 (I4 (gQ (R:=R))):=bS TT mixed (PI (R:=R)) rfl rfl rfl rfl (NC R) (Rs bt ak ad ai cd dW aO bG)
abbrev zK (R:Type):Type:=Json→(af→Option R)→Option R
abbrev Mg:List dh := [.agg [.int .i64, .int .i64, .int .i64, .str, .sl .str, .sl .json]]
abbrev Mh:List aY := []
def Qt (fn:zK R):oC R Mg Mh:=fun x y k=>fn (⟨x.1.1,⟨x.1.2.1,x.1.2.2.1⟩,x.1.2.2.2.1,x.1.2.2.2.2.1,x.1.2.2.2.2.2.1⟩:Json) (fun q0=>k (.str q0) [])
def Mi (fn:zK R):=aG Mg Mh (Qt fn)
section
variable (cW:vG R) (gQ:uK R)
def SR:List (sS R) := [(39,false,(LQ R)),(32,true,(Gy cW aC)),(38,false,(I4 gQ aC))]
def xL (x1:Json) (k0:af→Option R):Option R :=
 cW (⟨x1.kind,⟨x1.num.au,x1.num.exp⟩,x1.text,x1.names,x1.items⟩:Json) (fun y2=>bif (!y2)then (k0 ([]:af))else (gQ (⟨x1.kind,⟨x1.num.au,x1.num.exp⟩,x1.text,x1.names,x1.items⟩:Json) (fun y3=>k0 (wN y3))))
theorem aaj:fC (R:=R) tt (SR cW gQ) AL false Tryz.f17 Mg Mh (Qt (xL cW gQ)):=fun x y k=>by kernel_rfl
end
theorem YF:dy (R:=R) Tryz.prog (SR (R:=R) cW gQ) := .s (Xc) Pw <| .c (Fy R) <| .d (OD R) rfl <| .n
def dX:zK R:=fun x1 k0=>xL cW gQ x1 k0
theorem Nc (R:Type):od Tryz.prog 17 (Mi (dX (R:=R))):=bS TT mixed (YF (R:=R)) rfl rfl rfl rfl dM (aaj cW gQ)
abbrev wT (R:Type):Type:=af→af→(af→Option R)→Option R
abbrev JG:List dh := [.leaf (.str), .leaf (.str)]
abbrev JH:List aY := []
def OE (fn:wT R):oC R JG JH:=fun x y k=>fn x.1 x.2.1 (fun q0=>k (.str q0) [])
def JI (fn:wT R):=aG JG JH (OE fn)
section
def Qu:List (sS R) := [(68,true,(Sw R))]
def EA (x1:af) (x2:af) (k0:af→Option R):Option R :=
 bB (yk x2&&decide (x2.length<4294967281)) (bB (decide ((0:Int)≤(IntKind.i64.wrap ((x1.length:Int) - ((bu x1 x2).length:Int))))&&decide ((IntKind.i64.wrap ((x1.length:Int) - ((bu x1 x2).length:Int)))≤x1.length)) (bB (decide ((0:Int)≤(IntKind.i64.wrap ((x1.length:Int) - ((bu x1 x2).length:Int))))) (k0 ((x1.drop 0).take ((IntKind.i64.wrap ((x1.length:Int) - ((bu x1 x2).length:Int))).toNat - 0)))))
theorem YG:fC (R:=R) tt (Qu (R:=R)) AL false Tryz.f47 JG JH (OE EA):=fun x y k=>by kernel_rfl
end
theorem We:dy (R:=R) Tryz.prog (Qu (R:=R)) := .p (Ys) <| .n
def cV:wT R:=fun x1 x2 k0=>EA x1 x2 k0
theorem KG (R:Type):od Tryz.prog 47 (JI (cV (R:=R))):=bS TT mixed (We (R:=R)) rfl rfl rfl rfl dM (YG)
abbrev iE (R:Type):Type:=af→af→(Int→af→Option R)→Option R
abbrev pj:List dh := [.leaf (.ptr 0 0), .leaf (.str)]
abbrev pk:List aY := [.cells [.str]]
def vX (fn:iE R):oC R pj pk:=fun x y k=>fn x.2.1 y.1.1 (fun q0 q1=>k (.int .u8 q0) [.cells [.str q1]])
def pn (fn:iE R):=aG pj pk (vX fn)
section
def wU:List (sS R) := [(71,true,(idx_S R))]
def lj (x1:af) (x2:af) (k0:Int→af→Option R):Option R :=
 bif (x2==([]:af))then (k0 0 x2)else (bB (decide ((0:Int)<x2.length)) (bif (decide ((Et x1 ((x2.getD 0 0).toNat:Int))<(0:Int)))then (k0 0 x2)else (bB (decide ((0:Int)<x2.length)) (bB (decide ((0:Int)≤(x2.length:Int))&&decide ((x2.length:Int)≤x2.length)) (bB (decide ((1:Int)≤(x2.length:Int))) (k0 ((x2.getD 0 0).toNat:Int) ((x2.drop 1).take ((x2.length:Int).toNat - 1))))))))
theorem GA:fC (R:=R) tt (wU (R:=R)) AL false Tryz.f101 pj pk (vX lj):=fun x y k=>by kernel_rfl
end
theorem FB:dy (R:=R) Tryz.prog (wU (R:=R)) := .p (idx_ok) <| .n
def bg:iE R:=fun x1 x2 k0=>lj x1 x2 k0
theorem uC (R:Type):od Tryz.prog 101 (pn (bg (R:=R))):=bS TT mixed (FB (R:=R)) rfl rfl rfl rfl dM (GA)
variable {R:Type}
abbrev gY (R:Type):Type:=af→(af→af→Option R)→Option R
abbrev nD:List dh := [.leaf (.ptr 0 0)]
abbrev nE:List aY := [.cells [.str]]
def uD (fn:gY R):oC R nD nE:=fun x y k=>fn y.1.1 (fun q0 q1=>k (.str q0) [.cells [.str q1]])
def nF (fn:gY R):=aG nD nE (uD fn)
section
def vh:List (sS R) := [(68,true,(Sw R))]
def jU (x1:af) (k0:af→af→Option R):Option R :=
 bB (yk ([48,49,50,51,52,53,54,55,56,57]:af)&&decide (([48,49,50,51,52,53,54,55,56,57]:af).length<4294967281)) (bB (decide ((0:Int)≤(IntKind.i64.wrap ((x1.length:Int) - ((bu x1 ([48,49,50,51,52,53,54,55,56,57]:af)).length:Int))))&&decide ((IntKind.i64.wrap ((x1.length:Int) - ((bu x1 ([48,49,50,51,52,53,54,55,56,57]:af)).length:Int)))≤x1.length)) (bB (decide ((0:Int)≤(IntKind.i64.wrap ((x1.length:Int) - ((bu x1 ([48,49,50,51,52,53,54,55,56,57]:af)).length:Int))))) (k0 ((x1.drop 0).take ((IntKind.i64.wrap ((x1.length:Int) - ((bu x1 ([48,49,50,51,52,53,54,55,56,57]:af)).length:Int))).toNat - 0)) (bu x1 ([48,49,50,51,52,53,54,55,56,57]:af)))))
theorem E2:fC (R:=R) tt (vh (R:=R)) AL false Tryz.f102 nD nE (uD jU):=fun x y k=>by kernel_rfl
end
theorem D8:dy (R:=R) Tryz.prog (vh (R:=R)) := .p (Ys) <| .n
def aW:gY R:=fun x1 k0=>jU x1 k0
theorem sq (R:Type):od Tryz.prog 102 (nF (aW (R:=R))):=bS TT mixed (D8 (R:=R)) rfl rfl rfl rfl dM (E2)
abbrev iQ (R:Type):Type:=af→(Int→Bool→af→Option R)→Option R
abbrev me:List dh := [.leaf (.ptr 0 0)]
abbrev mf:List aY := [.cells [.str]]
def sr (fn:iQ R):oC R me mf:=fun x y k=>fn y.1.1 (fun q0 q1 q2=>k (.tuple [.int .i64 q0, .bool q1]) [.cells [.str q2]])
def tg (fn:iQ R):=aG me mf (sr fn)
section
variable (bg:iE R) (aW:gY R)
def th:List (sS R) := [(101,false,(pn bg aC)),(102,false,(nF aW aC)),(105,true,(atoi_S R))]
def jr (x1:af) (k0:Int→Bool→af→Option R):Option R :=
 bg ([43,45]:af) x1 (fun y2 y3=>aW y3 (fun y4 y5=>bB (decide (y4.length≤281474976710656)) (bif wO y4 then (bif (decide ((eT y4)>(1000000:Int)))then (bif (y2==45)then (k0 (-1000000) (!(y4==([]:af))) y5)else (k0 1000000 (!(y4==([]:af))) y5))else (bif (y2==45)then (k0 (IntKind.i64.wrap (0 - (eT y4))) (!(y4==([]:af))) y5)else (k0 (eT y4) (!(y4==([]:af))) y5)))else (bif (!(y4==([]:af)))then (bif (y2==45)then (k0 (-1000000) (!(y4==([]:af))) y5)else (k0 1000000 (!(y4==([]:af))) y5))else (bif (decide ((eT y4)>(1000000:Int)))then (bif (y2==45)then (k0 (-1000000) (!(y4==([]:af))) y5)else (k0 1000000 (!(y4==([]:af))) y5))else (bif (y2==45)then (k0 (IntKind.i64.wrap (0 - (eT y4))) (!(y4==([]:af))) y5)else (k0 (eT y4) (!(y4==([]:af))) y5)))))))
theorem Dy:fC (R:=R) tt (th bg aW) AL false Tryz.f103 me mf (sr (jr bg aW)):=fun x y k=>by kernel_rfl
end
theorem Cv:dy (R:=R) Tryz.prog (th (R:=R) bg aW) := .d (uC R) rfl <| .d (sq R) rfl <| .p (atoi_ok) <| .n
def bF:iQ R:=fun x1 k0=>jr bg aW x1 k0
theorem BT (R:Type):od Tryz.prog 103 (tg (bF (R:=R))):=bS TT mixed (Cv (R:=R)) rfl rfl rfl rfl dM (Dy bg aW)
abbrev Aw (R:Type):Type:=Int→Int→(cC→Bool→Option R)→Option R
abbrev Hs:List dh := [.leaf (.int .i64), .leaf (.int .i64)]
abbrev Ht:List aY := []
def Nd (fn:Aw R):oC R Hs Ht:=fun x y k=>fn x.1 x.2.1 (fun q0 q1=>k (.tuple [.agg [.int .i64 q0.au, .int .i64 q0.exp], .bool q1]) [])
def OF (fn:Aw R):=aG Hs Ht (Nd fn)
abbrev yO (R:Type):Type:=Nat→Int→Int→cC→(Int→Int→cC→Option R)→Option R
def uL:Hint := { live := [0,1,4],own := [],rows := [],cells := [],drop := [],out := [0,1,4,5] }
abbrev mg:Type:=Int×Int×cC
def wV:mg→St:=fun d=>⟨.int .i64 d.1 :: .int .i64 d.2.1::U 2 (.ptr 0 0::U 25 ([])), [.cells [.int .i64 d.2.2.au, .int .i64 d.2.2.exp]]⟩
def yP (K:Ex→St→Option R) (q0:Int) (q1:Int) (q2:cC):Option R:=K (.exit 0) ⟨.int .i64 q0 :: .int .i64 q1::U 2 (.ptr 0 0::U 25 ([])), [.cells [.int .i64 q2.au, .int .i64 q2.exp]]⟩
abbrev po:List dh := .leaf (.int .i64) :: .leaf (.int .i64)::PU 2 (.leaf (.ptr 0 0)::PU 25 ([]))
abbrev pq:List aY := [.cells [.int .i64, .int .i64]]
def Hu (x:dh.bD po) (y:aY.bD pq):Nat:=(Int.natAbs x.1+Int.natAbs x.2.1+cC.fu (⟨y.1.1,y.1.2.1⟩:cC)+64)
def Rt (x:dh.bD po) (y:aY.bD pq):mg:=(x.1,x.2.1,(⟨y.1.1,y.1.2.1⟩:cC))
def F2 (L:yO R):sI R po pq:=fun x y K=>L (Hu x y) x.1 x.2.1 (⟨y.1.1,y.1.2.1⟩:cC) (yP K)
section
variable (bl:lY R) (bN:yO R)
def ti:List (sS R) := [(91,true,(wR bl aC))]
def mh (cb:Int→Int→cC→Option R) (x3:Int) (x4:Int) (x5:cC) (e0:Int→Int→cC→Option R):Option R :=
 bif ((Int.tmod x3 10)==0)then (cb (IntKind.i64.wrap (Int.tdiv x3 10)) (IntKind.i64.wrap (x4+1)) x5)else (e0 x3 x4 x5)
def Hv (K:Ex→St→Option R) (rc:mg→Option R) (d:mg):Option R:=mh (fun z0 z1 z2=>rc (z0,z1,z2)) d.1 d.2.1 d.2.2 (yP K)
def wW:Nat→Option (Hint×cF R):=fun i=>match i with
 | 4=>some (uL,(cq po pq (F2 bN) gl))
 | _=>none
theorem ND (K:Ex→St→Option R) (rc:St→Option R) (d:mg):roundOf tt (cz (ti bl)) (wW bN) 0 ((aA (aQ Tryz.f106)).getD 0 .skip) uL (wV d) rc K=Hv K (fun d=>rc (wV d)) d:=by kernel_rfl
def pr (x1:Int) (x2:Int) (k0:cC→Bool→Option R):Option R :=
 bif (x1==0)then (k0 (⟨0,0⟩:cC) true)else (bN (Int.natAbs x1+Int.natAbs (min x2 1000000)+cC.fu (⟨0,0⟩:cC)+64) x1 (min x2 1000000) (⟨0,0⟩:cC) (fun y6 y7 y8=>bl (-1000000000000000) y6 1000000000000000 (fun y9=>bif (!y9)then (k0 (⟨0,0⟩:cC) false)else (bl (-9) y7 9 (fun o5=>bif (!o5)then (k0 (⟨0,0⟩:cC) false)else (k0 (⟨y6,y7⟩:cC) true))))))
theorem Wf:fC (R:=R) tt (ti bl) (wW bN) false Tryz.f106 Hs Ht (Nd (pr bl bN)):=fun x y k=>by kernel_rfl
end
theorem Uv:dy (R:=R) Tryz.prog (ti (R:=R) bl) := .c (Bx R) <| .n
def bN:yO R
 | 0,_,_,_,_=>none
 | n+1,eh,eB,fb,e0=>mh (fun eh eB fb=>bN n eh eB fb e0) eh eB fb e0
def Hw (K:Ex→St→Option R) (n:Nat) (d:mg):Option R:=bN n d.1 d.2.1 d.2.2 (yP K)
theorem PJ (other:cF R) (ho:fZ tt (cz (ti (R:=R) bl)) (wW (R:=R) bN) 0 ((aA (aQ Tryz.f106)).getD 0 .skip) uL other):fZ tt (cz (ti (R:=R) bl)) (wW (R:=R) bN) 0 ((aA (aQ Tryz.f106)).getD 0 .skip) uL (cq po pq (F2 (bN)) other) :=
 cx (A:=Hw) ho (dD wV (Hv) (Hw) (fun _ _=>by kernel_rfl) (ND bl bN) (fun _ _ _=>by kernel_rfl)) Hu Rt (fun _ _=>by kernel_rfl) (fun _ _ _=>by kernel_rfl)
def bX:Aw R:=fun x1 x2 k0=>pr bl bN x1 x2 k0
theorem Ru (R:Type):∀a∈aA (aQ Tryz.f106),gE tt (cz (ti (R:=R) bl)) (wW (R:=R) bN) 0 a:=by
 refine eV 1 (by kernel_rfl) fun i hi => ?_
 match i,hi with
 | 0,_=>exact bT (by kernel_rfl) (PJ _ cQ)
 | n+1,hi=>omega
theorem SS (R:Type):od Tryz.prog 106 (OF (bX (R:=R))):=bS TT mixed (Uv (R:=R)) rfl rfl rfl rfl (Ru R) (Wf bl bN)
abbrev xM (R:Type):Type:=af→(cC→Bool→Option R)→Option R
abbrev FC:List dh := [.leaf (.str)]
abbrev FD:List aY := []
def KH (fn:xM R):oC R FC FD:=fun x y k=>fn x.1 (fun q0 q1=>k (.tuple [.agg [.int .i64 q0.au, .int .i64 q0.exp], .bool q1]) [])
def Nf (fn:xM R):=aG FC FD (KH fn)
section
variable (bX:Aw R) (bg:iE R) (aW:gY R) (bF:iQ R)
def Ng:List (sS R) := [(106,true,(OF bX aC)),(101,false,(pn bg aC)),(102,false,(nF aW aC)),(103,false,(tg bF aC)),(68,true,(Sw R)),(104,true,(trimR_S R)),(105,true,(atoi_S R))]
def qx (x1:af) (k0:cC→Bool→Option R):Option R :=
 bg ([45]:af) x1 (fun y2 y3=>aW y3 (fun y4 y5=>let j32:=let j31:=fun (pW:af) (z12:Int) (V7:af)=>let j30:=fun (Xd:Int) (z20:af)=>bB (yk ([48]:af)&&decide (([48]:af).length<4294967281)) (bB (yk ([48]:af)&&decide (([48]:af).length<4294967281)) (bif (!(z20==([]:af)))then (k0 (⟨0,0⟩:cC) false)else (bif (decide (((cM (bu pW ([48]:af)) ([48]:af)).length:Int)>(18:Int)))then (k0 (⟨0,0⟩:cC) false)else (let j29:=bif (y2 != 0)then (bX (IntKind.i64.wrap (0 - (eT (([48]:af)++(cM (bu pW ([48]:af)) ([48]:af)))))) (IntKind.i64.wrap (Xd+(IntKind.i64.wrap (((bu pW ([48]:af)).length:Int) - ((cM (bu pW ([48]:af)) ([48]:af)).length:Int))))) (fun Kg SQ=>k0 Kg SQ))else (bX (eT (([48]:af)++(cM (bu pW ([48]:af)) ([48]:af)))) (IntKind.i64.wrap (Xd+(IntKind.i64.wrap (((bu pW ([48]:af)).length:Int) - ((cM (bu pW ([48]:af)) ([48]:af)).length:Int))))) (fun BQ JF=>k0 BQ JF)); bB (decide (1+(cM (bu pW ([48]:af)) ([48]:af)).length≤9223372036854775807)) (bB (decide ((([48]:af)++(cM (bu pW ([48]:af)) ([48]:af))).length≤281474976710656)) (bif wO (([48]:af)++(cM (bu pW ([48]:af)) ([48]:af)))then (j29)else (j29))))))); bg ([101,69]:af) V7 (fun xy yI=>bif (xy != 0)then (bF yI (fun Fp KD NX=>bif (!KD)then (k0 (⟨0,0⟩:cC) false)else (j30 (IntKind.i64.wrap (z12+Fp)) NX)))else (j30 z12 yI)); bg ([46]:af) y5 (fun y7 y8=>bif (y7 != 0)then (aW y8 (fun y9 o5=>bif (y9==([]:af))then (k0 (⟨0,0⟩:cC) false)else (bB (decide (y4.length+y9.length≤9223372036854775807)) (j31 (y4++y9) (IntKind.i64.wrap (0 - (y9.length:Int))) o5))))else (j31 y4 0 y8)); bif (decide ((x1.length:Int)>(400:Int)))then (k0 (⟨0,0⟩:cC) false)else (bif (y4==([]:af))then (k0 (⟨0,0⟩:cC) false)else (bif (decide ((y4.length:Int)>(1:Int)))then (bB (decide ((0:Int)<y4.length)) (bif (((y4.getD 0 0).toNat:Int)==48)then (k0 (⟨0,0⟩:cC) false)else (j32)))else (j32)))))
theorem Uw:fC (R:=R) tt (Ng bX bg aW bF) AL false Tryz.f69 FC FD (KH (qx bX bg aW bF)):=fun x y k=>by kernel_rfl
end
theorem SU:dy (R:=R) Tryz.prog (Ng (R:=R) bX bg aW bF) := .c (SS R) <| .d (uC R) rfl <| .d (sq R) rfl <| .d (BT R) rfl <| .p (Ys) <| .p (trimR_ok) <| .p (atoi_ok) <| .n
def eK:xM R:=fun x1 k0=>qx bX bg aW bF x1 k0
theorem Rv (R:Type):od Tryz.prog 69 (Nf (eK (R:=R))):=bS TT mixed (SU (R:=R)) rfl rfl rfl rfl dM (Uw bX bg aW bF)
abbrev ib (R:Type):Type:=af→af→(Bool→Option R)→Option R
abbrev lk:List dh := [.leaf (.str), .leaf (.str)]
abbrev ll:List aY := []
def qd (fn:ib R):oC R lk ll:=fun x y k=>fn x.1 x.2.1 (fun q0=>k (.bool q0) [])
def qT (fn:ib R):=aG lk ll (qd fn)
section
def iF (x1:af) (x2:af) (k0:Bool→Option R):Option R :=
 bif (decide ((x1.length:Int)≥(x2.length:Int)))then (bB (decide ((0:Int)≤(x2.length:Int))&&decide ((x2.length:Int)≤x1.length)) (bB (decide ((0:Int)≤(x2.length:Int))) (k0 (((x1.drop 0).take ((x2.length:Int).toNat - 0))==x2))))else (k0 false)
theorem BU:fC (R:=R) tt [] AL false Tryz.f127 lk ll (qd iF):=fun x y k=>by kernel_rfl
end
def cB:ib R:=fun x1 x2 k0=>iF x1 x2 k0
theorem zM (R:Type):od Tryz.prog 127 (qT (cB (R:=R))):=bS TT mixed .n rfl rfl rfl rfl dM (BU)
abbrev ic (R:Type):Type:=af→af→(af→Bool→Option R)→Option R
abbrev ln:List dh := [.leaf (.str), .leaf (.str)]
abbrev lp:List aY := []
def qe (fn:ic R):oC R ln lp:=fun x y k=>fn x.1 x.2.1 (fun q0 q1=>k (.tuple [.str q0, .bool q1]) [])
def qU (fn:ic R):=aG ln lp (qe fn)
section
variable (cB:ib R)
def qV:List (sS R) := [(127,true,(qT cB aC))]
def iG (x1:af) (x2:af) (k0:af→Bool→Option R):Option R :=
 cB x1 x2 (fun y3=>bif (!y3)then (k0 x1 false)else (bB (decide ((0:Int)≤(x1.length:Int))&&decide ((x1.length:Int)≤x1.length)) (bB (decide ((0:Int)≤(x2.length:Int))&&decide ((x2.length:Int)≤(x1.length:Int))) (k0 ((x1.drop (x2.length:Int).toNat).take ((x1.length:Int).toNat - (x2.length:Int).toNat)) true))))
theorem BV:fC (R:=R) tt (qV cB) AL false Tryz.f156 ln lp (qe (iG cB)):=fun x y k=>by kernel_rfl
end
theorem AY:dy (R:=R) Tryz.prog (qV (R:=R) cB) := .c (zM R) <| .n
def cO:ic R:=fun x1 x2 k0=>iG cB x1 x2 k0
theorem zN (R:Type):od Tryz.prog 156 (qU (cO (R:=R))):=bS TT mixed (AY (R:=R)) rfl rfl rfl rfl dM (BV cB)
abbrev qW (R:Type):Type:=af→af→(af→Bool→Option R)→Option R
abbrev yQ:List dh := [.leaf (.str), .leaf (.str)]
abbrev yR:List aY := []
def E3 (fn:qW R):oC R yQ yR:=fun x y k=>fn x.1 x.2.1 (fun q0 q1=>k (.tuple [.str q0, .bool q1]) [])
def F3 (fn:qW R):=aG yQ yR (E3 fn)
section
variable (cO:ic R)
def F4:List (sS R) := [(156,true,(qU cO aC))]
def F5 (x1:af) (x2:af) (k0:af→Bool→Option R):Option R :=
 cO x1 x2 (fun y3 y4=>k0 y3 y4)
theorem OG:fC (R:=R) tt (F4 cO) AL false Tryz.f137 yQ yR (E3 (F5 cO)):=fun x y k=>by kernel_rfl
end
theorem NF:dy (R:=R) Tryz.prog (F4 (R:=R) cO) := .c (zN R) <| .n
def gg:qW R:=fun x1 x2 k0=>F5 cO x1 x2 k0
theorem Mj (R:Type):od Tryz.prog 137 (F3 (gg (R:=R))):=bS TT mixed (NF (R:=R)) rfl rfl rfl rfl dM (OG cO)
abbrev jD (R:Type):Type:=af→af→(Bool→af→Option R)→Option R
abbrev rT:List dh := [.leaf (.ptr 0 0), .leaf (.str)]
abbrev rU:List aY := [.cells [.str]]
def yl (fn:jD R):oC R rT rU:=fun x y k=>fn x.2.1 y.1.1 (fun q0 q1=>k (.bool q0) [.cells [.str q1]])
def rV (fn:jD R):=aG rT rU (yl fn)
section
variable (gg:qW R)
def zO:List (sS R) := [(137,true,(F3 gg aC))]
def zP (x1:af) (x2:af) (k0:Bool→af→Option R):Option R :=
 gg x2 x1 (fun y3 y4=>k0 y4 y3)
theorem Ix:fC (R:=R) tt (zO gg) AL false Tryz.f107 rT rU (yl (zP gg)):=fun x y k=>by kernel_rfl
end
theorem Hx:dy (R:=R) Tryz.prog (zO (R:=R) gg) := .c (Mj R) <| .n
def aP:jD R:=fun x1 x2 k0=>zP gg x1 x2 k0
theorem vY (R:Type):od Tryz.prog 107 (rV (aP (R:=R))):=bS TT mixed (Hx (R:=R)) rfl rfl rfl rfl dM (Ix gg)
abbrev jE (R:Type):Type:=Int→(Int→Option R)→Option R
abbrev rW:List dh := [.leaf (.int .u8)]
abbrev rX:List aY := []
def ym (fn:jE R):oC R rW rX:=fun x y k=>fn x.1 (fun q0=>k (.int .u8 q0) [])
def rY (fn:jE R):=aG rW rX (ym fn)
section
def zQ (x1:Int) (k0:Int→Option R):Option R :=
 k0 (IntKind.u8.wrap ((BitVec.ofInt IntKind.u8.bits x1 ||| BitVec.ofInt IntKind.u8.bits 32).toNat:Int))
theorem Iy:fC (R:=R) tt [] AL false Tryz.f176 rW rX (ym zQ):=fun x y k=>by kernel_rfl
end
def internal_strconv_lower:jE R:=fun x1 k0=>zQ x1 k0
theorem vZ (R:Type):od Tryz.prog 176 (rY (internal_strconv_lower (R:=R))):=bS TT mixed .n rfl rfl rfl rfl dM (Iy)
abbrev iH (R:Type):Type:=af→(Bool→Option R)→Option R
abbrev lN:List dh := [.leaf (.str)]
abbrev lO:List aY := []
def qX (fn:iH R):oC R lN lO:=fun x y k=>fn x.1 (fun q0=>k (.bool q0) [])
def ss (fn:iH R):=aG lN lO (qX fn)
abbrev js (R:Type):Type:=Nat→af→Int→Int→Bool→(Int→Option R)→(Bool→Int→Option R)→Option R
def gO:Hint := { live := [0,3,4,5],own := [],rows := [],cells := [],drop := [],out := [2,3] }
abbrev ef:Type:=af×Int×Int×Bool
def jb:ef→St:=fun d=>⟨.str d.1::U 2 (.int .i32 d.2.1 :: .int .i64 d.2.2.1 :: .bool d.2.2.2::U 88 ([])), []⟩
def jt (K:Ex→St→Option R) (q0:Int):Option R:=K (.exit 0) ⟨U 3 (.int .i32 q0::U 90 ([])), []⟩
def ju (K:Ex→St→Option R) (q0:Bool) (q1:Int):Option R:=K (.ret) ⟨U 2 (.bool q0 :: .int .i32 q1::U 90 ([])), []⟩
abbrev fj:List dh := .leaf (.str)::PU 2 (.leaf (.int .i32) :: .leaf (.int .i64) :: .leaf (.bool)::PU 88 ([]))
abbrev fk:List aY := []
def nU (x:dh.bD fj) (y:aY.bD fk):Nat:=(List.length x.1+Int.natAbs x.2.2.2.1+Int.natAbs x.2.2.2.2.1+64)
def yS (x:dh.bD fj) (y:aY.bD fk):ef:=(x.1,x.2.2.2.1,x.2.2.2.2.1,x.2.2.2.2.2.1)
def nt (L:js R):sI R fj fk:=fun x y K=>L (nU x y) x.1 x.2.2.2.1 x.2.2.2.2.1 x.2.2.2.2.2.1 (jt K) (ju K)
section
variable (internal_strconv_lower:jE R) (aI:js R)
def fp:List (sS R) := [(176,true,(rY internal_strconv_lower aC))]
def nV (cb:af→Int→Int→Bool→Option R) (o6:af) (uJ:Int) (kN:Int) (uB:Bool) (e0:Int→Option R) (e1:Bool→Int→Option R):Option R :=
 bif (decide (kN<(o6.length:Int)))then (bB (decide ((0:Int)≤kN)&&decide (kN<o6.length)) (bif (decide ((48:Int)≤((o6.getD kN.toNat 0).toNat:Int)))then (bB (decide ((0:Int)≤kN)&&decide (kN<o6.length)) (bif (decide (((o6.getD kN.toNat 0).toNat:Int)≤(57:Int)))then (cb o6 48 (IntKind.i64.wrap (kN+1)) uB)else (bif uB then (bB (decide ((0:Int)≤kN)&&decide (kN<o6.length)) (internal_strconv_lower ((o6.getD kN.toNat 0).toNat:Int) (fun Cw=>bif (decide ((97:Int)≤Cw))then (bB (decide ((0:Int)≤kN)&&decide (kN<o6.length)) (internal_strconv_lower ((o6.getD kN.toNat 0).toNat:Int) (fun Qs=>bif (decide (Qs≤(102:Int)))then (cb o6 48 (IntKind.i64.wrap (kN+1)) uB)else (bB (decide ((0:Int)≤kN)&&decide (kN<o6.length)) (bif (((o6.getD kN.toNat 0).toNat:Int)==95)then (bif (uJ != 48)then (e1 false uJ)else (cb o6 95 (IntKind.i64.wrap (kN+1)) uB))else (bif (uJ==95)then (e1 false uJ)else (cb o6 33 (IntKind.i64.wrap (kN+1)) uB)))))))else (bB (decide ((0:Int)≤kN)&&decide (kN<o6.length)) (bif (((o6.getD kN.toNat 0).toNat:Int)==95)then (bif (uJ != 48)then (e1 false uJ)else (cb o6 95 (IntKind.i64.wrap (kN+1)) uB))else (bif (uJ==95)then (e1 false uJ)else (cb o6 33 (IntKind.i64.wrap (kN+1)) uB)))))))else (bB (decide ((0:Int)≤kN)&&decide (kN<o6.length)) (bif (((o6.getD kN.toNat 0).toNat:Int)==95)then (bif (uJ != 48)then (e1 false uJ)else (cb o6 95 (IntKind.i64.wrap (kN+1)) uB))else (bif (uJ==95)then (e1 false uJ)else (cb o6 33 (IntKind.i64.wrap (kN+1)) uB)))))))else (bif uB then (bB (decide ((0:Int)≤kN)&&decide (kN<o6.length)) (internal_strconv_lower ((o6.getD kN.toNat 0).toNat:Int) (fun D7=>bif (decide ((97:Int)≤D7))then (bB (decide ((0:Int)≤kN)&&decide (kN<o6.length)) (internal_strconv_lower ((o6.getD kN.toNat 0).toNat:Int) (fun y22=>bif (decide (y22≤(102:Int)))then (cb o6 48 (IntKind.i64.wrap (kN+1)) uB)else (bB (decide ((0:Int)≤kN)&&decide (kN<o6.length)) (bif (((o6.getD kN.toNat 0).toNat:Int)==95)then (bif (uJ != 48)then (e1 false uJ)else (cb o6 95 (IntKind.i64.wrap (kN+1)) uB))else (bif (uJ==95)then (e1 false uJ)else (cb o6 33 (IntKind.i64.wrap (kN+1)) uB)))))))else (bB (decide ((0:Int)≤kN)&&decide (kN<o6.length)) (bif (((o6.getD kN.toNat 0).toNat:Int)==95)then (bif (uJ != 48)then (e1 false uJ)else (cb o6 95 (IntKind.i64.wrap (kN+1)) uB))else (bif (uJ==95)then (e1 false uJ)else (cb o6 33 (IntKind.i64.wrap (kN+1)) uB)))))))else (bB (decide ((0:Int)≤kN)&&decide (kN<o6.length)) (bif (((o6.getD kN.toNat 0).toNat:Int)==95)then (bif (uJ != 48)then (e1 false uJ)else (cb o6 95 (IntKind.i64.wrap (kN+1)) uB))else (bif (uJ==95)then (e1 false uJ)else (cb o6 33 (IntKind.i64.wrap (kN+1)) uB)))))))else (e0 uJ)
def nW (K:Ex→St→Option R) (rc:ef→Option R) (d:ef):Option R:=nV internal_strconv_lower (fun z0 z1 z2 z3=>rc (z0,z1,z2,z3)) d.1 d.2.1 d.2.2.1 d.2.2.2 (jt K) (ju K)
def gw:Nat→Option (Hint×cF R):=fun i=>match i with
 | 10=>some (gO,(cq fj fk (nt aI) gl))
 | _=>none
theorem wG (K:Ex→St→Option R) (rc:St→Option R) (d:ef):roundOf tt (cz (fp internal_strconv_lower)) (gw aI) 0 ((aA (aQ Tryz.f177)).getD 0 .skip) gO (jb d) rc K=nW internal_strconv_lower K (fun d=>rc (jb d)) d:=by kernel_rfl
def su (x1:af) (k0:Bool→Option R):Option R :=
 let j46:=fun (z3:af)=>bif (decide ((z3.length:Int)≥(2:Int)))then (bB (decide ((0:Int)<z3.length)) (bif (((z3.getD 0 0).toNat:Int)==48)then (bB (decide ((1:Int)<z3.length)) (internal_strconv_lower ((z3.getD 1 0).toNat:Int) (fun y4=>bif (y4==98)then (bB (decide ((1:Int)<z3.length)) (internal_strconv_lower ((z3.getD 1 0).toNat:Int) (fun y9=>aI (List.length z3+Int.natAbs 48+Int.natAbs 2+64) z3 48 2 (y9==120) (fun JF=>k0 (JF != 95)) (fun NY Nz=>k0 NY))))else (bB (decide ((1:Int)<z3.length)) (internal_strconv_lower ((z3.getD 1 0).toNat:Int) (fun y5=>bif (y5==111)then (bB (decide ((1:Int)<z3.length)) (internal_strconv_lower ((z3.getD 1 0).toNat:Int) (fun o5=>aI (List.length z3+Int.natAbs 48+Int.natAbs 2+64) z3 48 2 (o5==120) (fun Qr=>k0 (Qr != 95)) (fun Md Xe=>k0 Md))))else (bB (decide ((1:Int)<z3.length)) (internal_strconv_lower ((z3.getD 1 0).toNat:Int) (fun y6=>bif (y6==120)then (bB (decide ((1:Int)<z3.length)) (internal_strconv_lower ((z3.getD 1 0).toNat:Int) (fun jf=>aI (List.length z3+Int.natAbs 48+Int.natAbs 2+64) z3 48 2 (jf==120) (fun y34=>k0 (y34 != 95)) (fun y35 Wg=>k0 y35))))else (aI (List.length z3+Int.natAbs 94+Int.natAbs 0+64) z3 94 0 false (fun y37=>k0 (y37 != 95)) (fun y38 y39=>k0 y38)))))))))))else (aI (List.length z3+Int.natAbs 94+Int.natAbs 0+64) z3 94 0 false (fun y40=>k0 (y40 != 95)) (fun y41 YH=>k0 y41))))else (aI (List.length z3+Int.natAbs 94+Int.natAbs 0+64) z3 94 0 false (fun y43=>k0 (y43 != 95)) (fun y44 y45=>k0 y44)); bif (decide ((x1.length:Int)≥(1:Int)))then (bB (decide ((0:Int)<x1.length)) (bif (((x1.getD 0 0).toNat:Int)==45)then (bB (decide ((0:Int)≤(x1.length:Int))&&decide ((x1.length:Int)≤x1.length)) (bB (decide ((1:Int)≤(x1.length:Int))) (j46 ((x1.drop 1).take ((x1.length:Int).toNat - 1)))))else (bB (decide ((0:Int)<x1.length)) (bif (((x1.getD 0 0).toNat:Int)==43)then (bB (decide ((0:Int)≤(x1.length:Int))&&decide ((x1.length:Int)≤x1.length)) (bB (decide ((1:Int)≤(x1.length:Int))) (j46 ((x1.drop 1).take ((x1.length:Int).toNat - 1)))))else (j46 x1)))))else (j46 x1)
theorem Cx:fC (R:=R) tt (fp internal_strconv_lower) (gw aI) false Tryz.f177 lN lO (qX (su internal_strconv_lower aI)):=fun x y k=>by kernel_rfl
end
theorem BW:dy (R:=R) Tryz.prog (fp (R:=R) internal_strconv_lower) := .c (vZ R) <| .n
def aI:js R
 | 0,_,_,_,_,_,_=>none
 | n+1,eh,eB,fb,lZ,e0,e1=>nV internal_strconv_lower (fun eh eB fb lZ=>aI n eh eB fb lZ e0 e1) eh eB fb lZ e0 e1
def nX (K:Ex→St→Option R) (n:Nat) (d:ef):Option R:=aI n d.1 d.2.1 d.2.2.1 d.2.2.2 (jt K) (ju K)
theorem xN (other:cF R) (ho:fZ tt (cz (fp (R:=R) internal_strconv_lower)) (gw (R:=R) aI) 0 ((aA (aQ Tryz.f177)).getD 0 .skip) gO other):fZ tt (cz (fp (R:=R) internal_strconv_lower)) (gw (R:=R) aI) 0 ((aA (aQ Tryz.f177)).getD 0 .skip) gO (cq fj fk (nt (aI)) other) :=
 cx (A:=nX) ho (dD jb (nW internal_strconv_lower) (nX) (fun _ _=>by kernel_rfl) (wG internal_strconv_lower aI) (fun _ _ _=>by kernel_rfl)) nU yS (fun _ _=>by kernel_rfl) (fun _ _ _=>by kernel_rfl)
def bI:iH R:=fun x1 k0=>su internal_strconv_lower aI x1 k0
theorem zR (R:Type):∀a∈aA (aQ Tryz.f177),gE tt (cz (fp (R:=R) internal_strconv_lower)) (gw (R:=R) aI) 0 a:=by
 refine eV 1 (by kernel_rfl) fun i hi => ?_
 match i,hi with
 | 0,_=>exact bT (by kernel_rfl) (xN _ cQ)
 | n+1,hi=>omega
theorem AZ (R:Type):od Tryz.prog 177 (ss (bI (R:=R))):=bS TT mixed (BW (R:=R)) rfl rfl rfl rfl (zR R) (Cx internal_strconv_lower aI)
theorem pick01 {R:Type} (c n:Int) (hc:AN c) (h0:0<n) (hn:n≤9223372036854775807):∃r:Int,0≤r∧r<n∧∀k:Int→Option R,iX c n k=k r:=Yv c n hc h0 hn
theorem SV:∀(b:Nat) (m:Int),m≠0→m.natAbs<b→∃(j:Nat) (u:Int),m=u*10 ^ j∧Int.tmod u 10≠0
 | 0,m,_,h=>by omega
 | b+1,m,h0,hb=>by
  by_cases h:Int.tmod m 10=0
  ·have hd:m=Int.tdiv m 10*10:=by have:=Int.tmod_add_mul_tdiv m 10; omega
   have hn:(Int.tdiv m 10).natAbs<m.natAbs:=by rw[Int.natAbs_tdiv]; show m.natAbs / 10<m.natAbs; omega
   obtain ⟨j,u,e,hu⟩:=SV b (Int.tdiv m 10) (by omega) (by omega);refine ⟨j+1,u,?_,hu⟩;rw[Int.pow_succ,←Int.mul_assoc,←e];exact hd
  ·exact ⟨0,m,by simp,h⟩
theorem strip_one:∀(i j:Nat) (u v:Int),Int.tmod u 10≠0→Int.tmod v 10≠0→u*10 ^ i=v*10 ^ j→i=j∧u=v
 | 0,0,u,v,_,_,h=>⟨rfl,by simpa using h⟩
 | 0,j+1,u,v,hu,_,h=>by
  exfalso;apply hu;have:u=(v*10 ^ j)*10:=by rw[Int.pow_succ,←Int.mul_assoc]at h; simpa using h
  rw[this];exact Int.mul_tmod_left _ _
 | i+1,0,u,v,_,hv,h=>by
  exfalso;apply hv;have:v=(u*10 ^ i)*10:=by rw[Int.pow_succ,←Int.mul_assoc]at h; simpa using h.symm
  rw[this];exact Int.mul_tmod_left _ _
 | i+1,j+1,u,v,hu,hv,h=>by
  have h2:u*10 ^ i=v*10 ^ j:=by
   rw[Int.pow_succ,Int.pow_succ,←Int.mul_assoc,←Int.mul_assoc]at h;omega
  obtain ⟨h3,h4⟩:=strip_one i j u v hu hv h2;exact ⟨by omega,h4⟩
theorem pow_pos10 (j:Nat):(1:Int)≤10 ^ j:=by
 induction j with
 | zero=>simp
 | succ j ih=>rw[Int.pow_succ]; omega
theorem D9 (u:Int) (j:Nat):u.natAbs≤(u*10 ^ j).natAbs:=by
 rw[Int.natAbs_mul];have h:=pow_pos10 j;have:1≤((10:Int) ^ j).natAbs:=by omega
 exact Nat.le_mul_of_pos_right _ this
theorem noughts_le (u:Int) (hu:u≠0):∀j:Nat,j≤(u*10 ^ j).natAbs:=by
 intro j;rw[Int.natAbs_mul];have h1:1≤u.natAbs:=by omega
 have h2:j≤((10:Int) ^ j).natAbs:=by
  induction j with
  | zero=>simp
  | succ j ih =>
   have:=pow_pos10 j;rw[Int.pow_succ,Int.natAbs_mul];show j+1≤((10:Int) ^ j).natAbs*10;omega
 calc j≤((10:Int) ^ j).natAbs:=h2
  _≤u.natAbs*((10:Int) ^ j).natAbs:=Nat.le_mul_of_pos_left _ h1
theorem noughts_pow (u:Int) (hu:u≠0) (j:Nat):2 ^ j≤(u*10 ^ j).natAbs:=by
 rw[Int.natAbs_mul];have h2:∀j:Nat,2 ^ j≤((10:Int) ^ j).natAbs:=by
  intro j
  induction j with
  | zero=>simp
  | succ j ih =>
   rw[Int.pow_succ,Int.natAbs_mul,Nat.pow_succ];show 2 ^ j*2≤((10:Int) ^ j).natAbs*10;omega
 exact Nat.le_trans (h2 j) (Nat.le_mul_of_pos_left _ (by omega))
theorem Rw {u:Int} (hu:u≠0) {j:Nat} (hb:AN (u*10 ^ j)):j<64:=by
 have h:=noughts_pow u hu j;unfold AN at hb;rcases Nat.lt_or_ge j 64 with h1|h1
 ·exact h1
 ·have h2:(2:Nat) ^ 64≤2 ^ j:=Nat.pow_le_pow_right (by omega) h1;have h3:(2:Nat) ^ 64=18446744073709551616:=rfl;omega
theorem make_loop {R:Type} (d:cC) (e0:Int→Int→cC→Option R):∀(j n:Nat) (u x:Int),j<n→Int.tmod u 10≠0→AN (u*10 ^ j) → -9223372036854775808≤x→x+j≤4000000000000000000 →
  bN n (u*10 ^ j) x d e0=e0 u (x+j) d:=by
 intro j
 induction j with
 | zero =>
  intro n u x hn hu hb h1 h2;obtain ⟨m,rfl⟩:∃m,n=m+1:=⟨n - 1,by omega⟩;have e:bN (m+1) (u*10 ^ 0) x d e0=mh (fun eh eB fb=>bN m eh eB fb e0) (u*10 ^ 0) x d e0:=rfl;rw[e];unfold mh;have e1:u*10 ^ 0=u:=by simp
  have e2:(Int.tmod u 10==0)=false:=by rw[beq_eq_false_iff_ne]; exact hu
  rw[e1,e2,cond_false];simp
 | succ j ih =>
  intro n u x hn hu hb h1 h2;obtain ⟨m,rfl⟩:∃m,n=m+1:=⟨n - 1,by omega⟩;have e:bN (m+1) (u*10 ^ (j+1)) x d e0=mh (fun eh eB fb=>bN m eh eB fb e0) (u*10 ^ (j+1)) x d e0:=rfl;rw[e];unfold mh;have ep:u*10 ^ (j+1)=u*10 ^ j*10:=by rw[Int.pow_succ,Int.mul_assoc]
  unfold AN at hb;rw[ep]at hb ⊢;have e1:(Int.tmod (u*10 ^ j*10) 10==0)=true:=by rw[Int.mul_tmod_left]; rfl
  have e2:Int.tdiv (u*10 ^ j*10) 10=u*10 ^ j:=Int.mul_tdiv_cancel _ (by omega);rw[e1,cond_true,e2,aK (n:=u*10 ^ j) (by omega) (by omega),aK (n:=x+1) (by omega) (by omega)];show bN m (u*10 ^ j) (x+1) d e0=_;rw[ih m u (x+1) (by omega) hu (by unfold AN; omega) (by omega) (by omega)];have:x+1+(j:Int)=x+((j+1:Nat):Int):=by omega
  rw[this]
theorem KI {R:Type} (a b c:Int) (k:Bool→Option R):bl a b c k=k (decide (a≤b)&&decide (b≤c)):=by
 have e:bl a b c k=qD a b c k:=rfl;rw[e];unfold qD;by_cases h1:a≤b
 ·rw[aj h1]; first|rfl|simp
 ·rw[aE h1]; first|rfl|simp
def RZ (u x:Int):cC×Bool:=if -1000000000000000≤u∧u≤1000000000000000 ∧ -9≤x∧x≤9 then (⟨u,x⟩,true)else (⟨0,0⟩,false)
theorem make_ok {R:Type} (u:Int) (j:Nat) (x:Int) (hu:Int.tmod u 10≠0) (hb:AN (u*10 ^ j)) (h1 : -9223372036854775808≤x) (h2:x≤1000000) (k:cC→Bool→Option R) :
  bX (u*10 ^ j) x k=k (RZ u (x+j)).1 (RZ u (x+j)).2:=by
 have e:bX (u*10 ^ j) x k=pr bl bN (u*10 ^ j) x k:=rfl;rw[e];unfold pr;have hu0:u≠0:=by rintro rfl; exact hu rfl
 have ha:=D9 u j;have hn:=noughts_le u hu0 j;have h64:=Rw hu0 hb;have h0:(u*10 ^ j==0)=false:=by rw[beq_eq_false_iff_ne]; omega
 have hm:min x 1000000=x:=Int.min_eq_left h2;unfold AN at hb;rw[h0,cond_false,hm,make_loop _ _ j _ u x (by omega) hu (by unfold AN; exact hb) h1 (by omega)];rw[KI];unfold RZ;by_cases c1 : -1000000000000000≤u∧u≤1000000000000000
 ·rw[aj c1.1,aj c1.2];simp only[Bool.and_self,Bool.not_true,cond_false];rw[KI];by_cases c2 : -9≤x+(j:Int)∧x+(j:Int)≤9
  ·rw[aj c2.1,aj c2.2,if_pos ⟨c1.1,c1.2,c2.1,c2.2⟩];rfl
  ·rw[if_neg (fun h=>c2 h.2.2)];have:(decide (-9≤x+(j:Int))&&decide (x+(j:Int)≤9))=false:=by
    rw[Bool.and_eq_false_iff,decide_eq_false_iff_not,decide_eq_false_iff_not]; omega
   rw[this];rfl
 ·rw[if_neg (fun h=>c1 ⟨h.1,h.2.1⟩)];have:(decide (-1000000000000000≤u)&&decide (u≤1000000000000000))=false:=by
   rw[Bool.and_eq_false_iff,decide_eq_false_iff_not,decide_eq_false_iff_not]; omega
  rw[this];rfl
theorem make_zero {R:Type} (x:Int) (k:cC→Bool→Option R):bX 0 x k=k ⟨0,0⟩ true:=by
 have e:bX 0 x k=pr bl bN 0 x k:=rfl;rw[e];rfl
theorem right_mk {R:Type} {u x:Int} (hu:Int.tmod u 10≠0) (h : -1000000000000000≤u∧u≤1000000000000000 ∧ -9≤x∧x≤9) (k:Bool→Option R):cT ⟨u,x⟩ k=k true:=by
 have e:cT ⟨u,x⟩ k=lJ bl ⟨u,x⟩ k:=rfl;rw[e];unfold lJ;have hu0:u≠0:=by rintro rfl; exact hu rfl
 have e1:(u==0)=false:=by rw[beq_eq_false_iff_ne]; exact hu0
 have e2:(Int.tmod u 10 != 0)=true:=bne_iff_ne.2 hu;simp only[e1,e2,cond_false,cond_true,KI];rw[aj h.1,aj h.2.1,aj h.2.2.1,aj h.2.2.2];rfl
end Go.Proofs.YtmlkkgfenfdndaaGreatDoor
set_option maxRecDepth 100000
namespace Go.Proofs.YtmlkkgfenfdndaaGreatDoor
open Go Go.bb Go.Lib
def Fm (d:cC):Prop:=(d.au=0∧d.exp=0)∨(Int.tmod d.au 10≠0 ∧ -1000000000000000≤d.au∧d.au≤1000000000000000 ∧ -9≤d.exp∧d.exp≤9)
theorem Fm.bounds {d:cC} (h:Fm d) : -1000000000000000≤d.au∧d.au≤1000000000000000 ∧ -9≤d.exp∧d.exp≤9:=by
 rcases h with h|h <;> omega
theorem Fm.nz {d:cC} (h:Fm d) (h0:d.au≠0):Int.tmod d.au 10≠0:=by
 rcases h with h|h
 ·exact (h0 h.1).elim
 ·exact h.1
theorem Fm.zero {d:cC} (h:Fm d) (h0:d.au=0):d=⟨0,0⟩:=by
 rcases h with h|h
 ·cases d; simp only at h; rw[h.1,h.2]
 ·exact (h.1 (by rw[h0]; rfl)).elim
theorem Fm.mk0:Fm ⟨0,0⟩ := .inl ⟨rfl,rfl⟩
theorem tmod_neg {m:Int} (h:Int.tmod m 10≠0):Int.tmod (-m) 10≠0:=by rw[Int.neg_tmod]; omega
theorem Fm.neg {d:cC} (h:Fm d):Fm ⟨-d.au,d.exp⟩:=by
 rcases h with h|h
 ·exact .inl ⟨by simp only; omega,h.2⟩
 ·exact .inr ⟨tmod_neg h.1,by simp only; omega,by simp only; omega,h.2.2.2⟩
theorem right_ok {R:Type} {d:cC} (h:Fm d) (k:Bool→Option R):cT d k=k true:=by
 rcases h with h|h
 ·have e:cT d k=lJ bl d k:=rfl;rw[e];unfold lJ;rw[h.1,h.2];rfl
 ·cases d; exact right_mk h.1 h.2 k
theorem fit_loop {R:Type} (x:Int) (d:cC) (e0:Int→Int→cC→Option R):∀(j n:Nat) (u:Int),j<n→Int.tmod u 10≠0→AN (u*10 ^ j) →
  di n (u*10 ^ j) x d e0=e0 u x d:=by
 intro j
 induction j with
 | zero =>
  intro n u hn hu hb;obtain ⟨m,rfl⟩:∃m,n=m+1:=⟨n - 1,by omega⟩;have e:di (m+1) (u*10 ^ 0) x d e0=qv (fun eh eB fb=>di m eh eB fb e0) (u*10 ^ 0) x d e0:=rfl;rw[e];unfold qv;have e1:u*10 ^ 0=u:=by simp
  have e2:(Int.tmod u 10==0)=false:=by rw[beq_eq_false_iff_ne]; exact hu
  have e3:(u != 0)=true:=bne_iff_ne.2 (by rintro rfl; exact hu rfl);rw[e1,e3,cond_true,e2,cond_false]
 | succ j ih =>
  intro n u hn hu hb;obtain ⟨m,rfl⟩:∃m,n=m+1:=⟨n - 1,by omega⟩;have e:di (m+1) (u*10 ^ (j+1)) x d e0=qv (fun eh eB fb=>di m eh eB fb e0) (u*10 ^ (j+1)) x d e0:=rfl;rw[e];unfold qv;have ep:u*10 ^ (j+1)=u*10 ^ j*10:=by rw[Int.pow_succ,Int.mul_assoc]
  have hu0:u≠0:=by rintro rfl; exact hu rfl
  have hab:=D9 u (j+1);have e3:(u*10 ^ (j+1) != 0)=true:=bne_iff_ne.2 (by omega);unfold AN at hb;rw[e3,cond_true];rw[ep]at hb ⊢;have e1:(Int.tmod (u*10 ^ j*10) 10==0)=true:=by rw[Int.mul_tmod_left]; rfl
  have e2:Int.tdiv (u*10 ^ j*10) 10=u*10 ^ j:=Int.mul_tdiv_cancel _ (by omega);rw[e1,cond_true,e2,aK (n:=u*10 ^ j) (by omega) (by omega)];exact ih m u (by omega) hu (by unfold AN; omega)
theorem fit_ok {R:Type} (a b:Int) (ha:AN a) (hb:AN b):∃d:cC,Fm d∧∀k:cC→Option R,eI a b k=k d:=by
 obtain ⟨m,m0,m1,hm⟩:=pick01 (R:=R) a 2000000000000001 ha (by omega) (by omega);obtain ⟨x,x0,x1,hx⟩:=pick01 (R:=R) b 19 hb (by omega) (by omega);have e:∀k:cC→Option R,eI a b k=EX iX di a b k:=fun _=>rfl
 by_cases h0:m - 1000000000000000=0
 ·refine ⟨⟨0,0⟩, .mk0,fun k => ?_⟩;rw[e];unfold EX;rw[hm,hx,aK (n:=m - 1000000000000000) (by omega) (by omega),h0];rfl
 ·obtain ⟨j,u,hu,hd⟩:=SV ((m - 1000000000000000).natAbs+1) _ h0 (by omega);have hab:=D9 u j;have hb64:AN (u*10 ^ j):=by unfold AN; omega
  have h64:=Rw (by rintro rfl; exact hd rfl) hb64;refine ⟨⟨u,x - 9⟩, .inr ⟨hd,by simp only; omega,by simp only; omega,by simp only; omega,by simp only; omega⟩,fun k => ?_⟩;rw[e];unfold EX;rw[hm,hx,aK (n:=m - 1000000000000000) (by omega) (by omega),aK (n:=x - 9) (by omega) (by omega)];have key:=fun (F:Nat) (hF:j<F)=>fit_loop (R:=R) (x - 9) ⟨0,0⟩ (fun y9 o5 jf=>bif (y9==0)then (k (⟨y9,0⟩:cC))else (k (⟨y9,o5⟩:cC))) j F u hF hd hb64
  rw[←hu]at key;rw[key _ (by omega)];have e0:(u==0)=false:=by rw[beq_eq_false_iff_ne]; rintro rfl; exact hd rfl
  rw[e0];rfl
def Made (m x:Int) (r:cC×Bool):Prop:=(m=0∧r=(⟨0,0⟩,true))∨∃(u:Int) (j:Nat),m=u*10 ^ j∧Int.tmod u 10≠0∧r=RZ u (x+j)
theorem make_any {R:Type} (m x:Int) (hm:AN m) (h1 : -4000000000000000000≤x) (h2:x≤1000000):∃r:cC×Bool,Made m x r∧∀k:cC→Bool→Option R,bX m x k=k r.1 r.2:=by
 by_cases h0:m=0
 ·subst h0;exact ⟨_, .inl ⟨rfl,rfl⟩,fun k=>make_zero x k⟩
 ·obtain ⟨j,u,hu,hd⟩:=SV (m.natAbs+1) m h0 (by omega);exact ⟨_, .inr ⟨u,j,hu,hd,rfl⟩,fun k=>by subst hu; exact make_ok u j x hd hm (by omega) h2 k⟩
def val (d:cC):Int:=d.au*10 ^ (d.exp+9).toNat
theorem nDigits_low (u:Nat) (h:0<u):10 ^ (nDigits u - 1)≤u:=by
 induction u using Nat.strongRecOn with
 | _ u ih =>
  by_cases h1:u<10
  ·rw[nDigits_small h1]; exact h
  ·rw[nDigits_big h1,Nat.add_sub_cancel];have h2:=ih (u / 10) (by omega) (by omega);have h3:=nDigits_pos (u / 10);have e:nDigits (u / 10)=(nDigits (u / 10) - 1)+1:=by omega
   rw[e,Nat.pow_succ];omega
theorem SW {u:Nat} (h:u≤1000000000000000):nDigits u≤16:=by
 rcases Nat.eq_zero_or_pos u with rfl|h0
 ·rw[nDigits_small (by omega)]; omega
 ·have h1:=nDigits_low u h0;rcases Nat.lt_or_ge (nDigits u) 17 with h2|h2
  ·omega
  ·have h3:(10:Nat) ^ 16≤10 ^ (nDigits u - 1):=Nat.pow_le_pow_right (by omega) (by omega);have e:(10:Nat) ^ 16=10000000000000000:=rfl;omega
theorem mkD_fm {u x:Int} (hu:Int.tmod u 10≠0) (h:(RZ u x).2=true):RZ u x=(⟨u,x⟩,true)∧Fm ⟨u,x⟩:=by
 unfold RZ at h ⊢;split at h
 ·rename_i hc;rw[if_pos hc];exact ⟨rfl, .inr ⟨hu,hc⟩⟩
 ·cases h
theorem made_same {d:cC} (h:Fm d) (h0:d.au≠0) {j:Nat} {x:Int} (hx:x+j=d.exp) {r:cC×Bool} (hr:Made (d.au*10 ^ j) x r):r=(d,true):=by
 have hz:=h.nz h0;have hab:=D9 d.au j;rcases hr with ⟨h1,_⟩|⟨u,i,e,hu,rfl⟩
 ·omega
 ·obtain ⟨rfl,rfl⟩:=strip_one i j u d.au hu hz e.symm;have b:=h.bounds;unfold RZ;rw[if_pos (by omega),hx]
end Go.Proofs.YtmlkkgfenfdndaaGreatDoor
set_option maxRecDepth 100000
namespace Go.Proofs.YtmlkkgfenfdndaaGreatDoor
open Go Go.bb
abbrev zs (s:af):List Int:=s.map fun b=>(b.toNat:Int)
theorem Cy (s t:af):zs (s++t)=zs s++zs t:=List.map_append
theorem KJ (s:af):oc s=zs s:=rfl
theorem A0 (s:af):(zs s).length=s.length:=List.length_map _
theorem v7 (s:af):wN (zs s)=s:=by
 unfold wN zs;rw[List.map_map]
 conv=>rhs; rw[←List.map_id s]
 exact List.map_congr_left fun b _=>by simp
theorem pw (n:Nat) (h:n<256):((UInt8.ofNat n).toNat:Int)=n:=by rw[hP n h]
def SX (s:af):Prop:=s.length≤100000000000
theorem wb {R:Type} (b:UInt8) (s:af) (hl:SX s) (k:List Int→Option R):ad (b.toNat:Int) (zs s) k=k (zs (s ++ [b])):=by
 show bB (decide (((zs s).length+1)*1≤140737488355328)) (k (zs s ++ [(b.toNat:Int)]))=_;unfold SX at hl;rw[ao (aj (by rw[A0]; omega)),Cy];rfl
theorem ws {R:Type} (x:af) (s:af) (hx:x.length≤100000000000) (hl:SX s) (k:Int→List Int→Option R):ae x (zs s) k=k (x.length:Int) (zs (s++x)):=by
 show bB (decide (((zs s).length+(oc x).length)*1≤140737488355328)) (k (x.length:Int) (zs s++oc x))=_;unfold SX at hl;rw[KJ,ao (aj (by rw[A0,A0]; omega)),Cy]
theorem or128:∀x:Fin 64,IntKind.u8.wrap ((BitVec.ofInt IntKind.u8.bits 128 ||| BitVec.ofInt IntKind.u8.bits (x.val:Int)).toNat:Int)=((128+x.val:Nat):Int):=by decide +kernel
theorem or192:∀x:Fin 32,IntKind.u8.wrap ((BitVec.ofInt IntKind.u8.bits 192 ||| BitVec.ofInt IntKind.u8.bits (IntKind.u8.wrap (x.val:Int))).toNat:Int)=((192+x.val:Nat):Int):=by decide +kernel
theorem or224:∀x:Fin 16,IntKind.u8.wrap ((BitVec.ofInt IntKind.u8.bits 224 ||| BitVec.ofInt IntKind.u8.bits (IntKind.u8.wrap (x.val:Int))).toNat:Int)=((224+x.val:Nat):Int):=by decide +kernel
theorem or240:∀x:Fin 8,IntKind.u8.wrap ((BitVec.ofInt IntKind.u8.bits 240 ||| BitVec.ofInt IntKind.u8.bits (IntKind.u8.wrap (x.val:Int))).toNat:Int)=((240+x.val:Nat):Int):=by decide +kernel
theorem and63:∀x:Fin 256,IntKind.u8.wrap ((BitVec.ofInt IntKind.u8.bits (x.val:Int) &&& BitVec.ofInt IntKind.u8.bits 63).toNat:Int)=((x.val % 64:Nat):Int):=by decide +kernel
theorem wrap8 (n:Nat):IntKind.u8.wrap (n:Int)=((n % 256:Nat):Int):=by
 simp only[IntKind.wrap,IntKind.bits,IntKind.signed];simp
theorem wrap32u {n:Nat} (h:n<1114112):IntKind.u32.wrap (n:Int)=(n:Int):=by
 simp only[IntKind.wrap,IntKind.bits,IntKind.signed];simp;omega
theorem shr (c n:Nat) (h:n≤32):Int.fdiv (c:Int) (2 ^ (min n IntKind.i32.bits))=((c / 2 ^ n:Nat):Int):=by
 have e:min n IntKind.i32.bits=n:=Nat.min_eq_left h;rw[e,Int.fdiv_eq_ediv_of_nonneg _ (by exact Int.le_of_lt (Int.pow_pos (by omega)))];rw[Int.natCast_ediv];congr 1
theorem cont (c:Nat):IntKind.u8.wrap ((BitVec.ofInt IntKind.u8.bits 128 ||| BitVec.ofInt IntKind.u8.bits (IntKind.u8.wrap ((BitVec.ofInt IntKind.u8.bits (IntKind.u8.wrap (c:Int)) &&& BitVec.ofInt IntKind.u8.bits 63).toNat:Int))).toNat:Int)=((128+c % 64:Nat):Int):=by
 have h1:=and63 ⟨c % 256,Nat.mod_lt _ (by omega)⟩;simp only at h1;rw[wrap8 c,h1,show c % 256 % 64=c % 64 by omega];exact or128 ⟨c % 64,Nat.mod_lt _ (by omega)⟩
theorem zs_enc1 (n:Nat) (h:n<256):zs [UInt8.ofNat n] = [(n:Int)]:=by simp only[zs,List.map_cons,List.map_nil,pw n h]
theorem ar {R:Type} {c:Nat} (hv:vr c) (s:af) (hl:SX s) (k:List Int→Option R):cJ (zs s) (c:Int) k=k (zs (s++enc c)):=by
 have jJ:=Yq hv;unfold SX at hl;show jl bW (zs s) (c:Int) k=_;unfold jl;rw[wrap32u jJ,Cy];rcases G9 hv with ⟨h1,e⟩|⟨h0,h1,e⟩|⟨h0,h1,e⟩|⟨h0,e⟩
 ·rw[aj (show (c:Int)≤127 by omega),cond_true,ao (aj (by rw[A0]; omega)),e,zs_enc1 c (by omega),wrap8,Nat.mod_eq_of_lt (by omega)]
 all_goals
  rw[aE (show ¬(c:Int)≤127 by omega),cond_false];show gf (zs s) (c:Int) _=_;unfold gf;rw[wrap32u jJ,e];simp only[cont,shr _ 6 (by omega),shr _ 12 (by omega),shr _ 18 (by omega),A0]
 ·rw[aj (show (c:Int)≤2047 by omega),cond_true,ao (aj (by omega))];have:=or192 ⟨c / 64,by omega⟩;simp only at this;rw[show c / 2 ^ 6=c / 64 from rfl,this];simp only[zs,List.map_cons,List.map_nil,pw (192+c / 64) (by omega),pw (128+c % 64) (by omega)]
 ·rw[aE (show ¬(c:Int)≤2047 by omega),cond_false];unfold vr at hv;by_cases h2:c<55296
  ·rw[aj (show (c:Int)<55296 by omega),cond_true,cond_true,ao (aj (by omega))];have:=or224 ⟨c / 4096,by omega⟩;simp only at this;rw[show c / 2 ^ 12=c / 4096 from rfl,this];simp only[zs,List.map_cons,List.map_nil,pw (224+c / 4096) (by omega),pw (128+c % 64) (by omega),pw (128+c / 64 % 64) (by omega)]
  rw[aE (show ¬(c:Int)<55296 by omega),cond_false,aj (show (57343:Int)<(c:Int) by omega),cond_true,aj (show (c:Int)≤65535 by omega),cond_true,ao (aj (by omega))];have:=or224 ⟨c / 4096,by omega⟩;simp only at this;rw[show c / 2 ^ 12=c / 4096 from rfl,this];simp only[zs,List.map_cons,List.map_nil,pw (224+c / 4096) (by omega),pw (128+c % 64) (by omega),pw (128+c / 64 % 64) (by omega)]
 ·rw[aE (show ¬(c:Int)≤2047 by omega),cond_false];rw[aE (show ¬(c:Int)<55296 by omega),cond_false,aj (show (57343:Int)<(c:Int) by omega),cond_true,aE (show ¬(c:Int)≤65535 by omega),cond_false,
   aj (show (c:Int)>65535 by omega),cond_true,aj (show (c:Int)≤1114111 by omega),cond_true,ao (aj (by omega))]
  have:=or240 ⟨c / 262144,by omega⟩;simp only at this;rw[show c / 2 ^ 18=c / 262144 from rfl,this];simp only[zs,List.map_cons,List.map_nil,pw (240+c / 262144) (by omega),pw (128+c % 64) (by omega),pw (128+c / 64 % 64) (by omega),pw (128+c / 4096 % 64) (by omega)]
theorem wr {R:Type} {c:Nat} (hv:vr c) (s:af) (hl:SX s) (k:Int→List Int→Option R):∃n:Int,aq (c:Int) (zs s) k=k n (zs (s++enc c)):=by
 refine ⟨IntKind.i64.wrap (((zs (s++enc c)).length:Int) - ((zs s).length:Int)),?_⟩;show iA cJ (c:Int) (zs s) k=_;unfold iA;rw[ar hv s hl]
end Go.Proofs.YtmlkkgfenfdndaaGreatDoor
set_option maxRecDepth 100000
namespace Go.Proofs.YtmlkkgfenfdndaaGreatDoor
open Go Go.bb Go.Lib
def fm (n:Nat):af:=List.replicate n 48
theorem jK (n:Nat):(fm n).length=n:=List.length_replicate
theorem Qv:∀n:Nat,repeatL [48] n=fm n
 | 0=>rfl
 | n+1=>by
  have:=Qv n;simp[repeatL,fm,List.replicate_succ]at this ⊢
  try exact this
theorem repS_zeros (z:Int):lI [48] z=fm z.toNat:=Qv _
def body (L:af) (e:Int):af :=
 if 0≤e then L++fm e.toNat
 else
  let t:=fm (max 0 (1 - e - (L.length:Int))).toNat++L
  t.take ((t.length:Int)+e).toNat ++ [46]++t.drop ((t.length:Int)+e).toNat
def Wh (d:cC):af:=(if d.au<0 then [45]else [])++body (decDigits d.au.natAbs) d.exp
theorem wsn {R:Type} (x:af) (hx:x.length≤100000000000) (k:Int→List Int→Option R):ai x k=k (x.length:Int) (zs x):=by
 show bB (decide ((0+(oc x).length)*1≤140737488355328)) (k (x.length:Int) (oc x))=_;rw[KJ,ao (aj (by rw[A0]; omega))]
theorem print_ok {R:Type} {d:cC} (h:Fm d) (k:af→Option R):bt d k=k (Wh d):=by
 have b:=h.bounds;have e:bt d k=qw cT ak ae ai d k:=rfl;rw[e];unfold qw;rw[right_ok h,Bool.not_true,cond_false];have hL:cA (max d.au (IntKind.i64.wrap (0 - d.au)))=decDigits d.au.natAbs:=by
  rw[aK (n:=0 - d.au) (by omega) (by omega)];have hm:max d.au (0 - d.au)=(d.au.natAbs:Int):=by omega
  rw[hm];exact itoa_nonneg _
 have hlen:(decDigits d.au.natAbs).length≤16:=by rw[decDigits_length]; exact SW (by omega)
 simp only[hL,repS_zeros];unfold Wh;generalize decDigits d.au.natAbs=L at *;have w1:IntKind.i64.wrap (1 - d.exp)=1 - d.exp:=aK (by omega) (by omega);have w2:IntKind.i64.wrap (1 - d.exp - (L.length:Int))=1 - d.exp - (L.length:Int):=aK (by omega) (by omega);rw[w1,w2];have one:(([48]:af).length:Int)=1:=rfl;rw[one];have z0:0≤max 0 (1 - d.exp - (L.length:Int)):=by omega
 have zl:max 0 (1 - d.exp - (L.length:Int))≤10:=by omega
 have zL:1 - d.exp≤max 0 (1 - d.exp - (L.length:Int))+L.length:=by omega
 unfold body;simp only;generalize max 0 (1 - d.exp - (L.length:Int))=z at *;have tl:(fm z.toNat++L).length=z.toNat+L.length:=by rw[List.length_append,jK]
 generalize fm z.toNat++L=t at *;have Wi:∀a b:af,(a++b).length=a.length+b.length:=fun a b=>List.length_append
 have lone:([46]:af).length=1:=rfl;have e45:([45]:List Int)=zs [45]:=rfl;have q2:∀(x:Int) (f:List Int→Option R),ak x f=f [x]:=fun _ _=>rfl
 have lim45:SX [45]:=by unfold SX; simp
 by_cases he:0≤d.exp
 ·rw[aj (show d.exp≥0 from he),if_pos he];by_cases hm:d.au<0
  ·rw[aj hm,if_pos hm];simp only[cond_true];rw[q2,ao (by rw[aj (show 1*d.exp≤140737488355328 by omega)]; rfl),ao (aj (by rw[jK]; omega)),e45,ws _ _ (by rw[Wi,jK]; omega) lim45,v7]
  ·rw[aE hm,if_neg hm];simp only[cond_true,cond_false];rw[ao (by rw[aj (show 1*d.exp≤140737488355328 by omega)]; rfl),ao (aj (by rw[jK]; omega)),wsn _ (by rw[Wi,jK]; omega),v7];rfl
 ·have wt:IntKind.i64.wrap ((t.length:Int)+d.exp)=(t.length:Int)+d.exp:=aK (by omega) (by omega);rw[aE (show ¬d.exp≥0 from he),if_neg he];simp only[wt,List.drop_zero,Nat.sub_zero,Int.toNat_natCast,cond_false];have l1:(t.take ((t.length:Int)+d.exp).toNat).length≤t.length:=by rw[List.length_take]; omega
  have l2:(t.drop ((t.length:Int)+d.exp).toNat).length≤t.length:=by rw[List.length_drop]; omega
  have c1:(decide ((0:Int)≤(t.length:Int)+d.exp)&&decide ((t.length:Int)+d.exp≤(t.length:Int)))=true:=by rw[aj (by omega),aj (by omega)]; rfl
  have c2:(decide ((0:Int)≤(t.length:Int))&&decide ((t.length:Int)≤(t.length:Int)))=true:=by rw[aj (by omega),aj (by omega)]; rfl
  have c3:(decide ((0:Int)≤z)&&decide (1*z≤140737488355328))=true:=by rw[aj z0,aj (by omega)]; rfl
  have et:(t.drop ((t.length:Int)+d.exp).toNat).take (t.length - ((t.length:Int)+d.exp).toNat)=t.drop ((t.length:Int)+d.exp).toNat:=List.take_of_length_le (by rw[List.length_drop]; exact Nat.le_refl _);rw[et];by_cases hm:d.au<0
  ·rw[aj hm,if_pos hm];simp only[cond_true];rw[q2,ao c3,ao (aj (by rw[jK]; omega)),ao c1,ao (aj (by omega)),ao (aj (by omega)),ao c2,ao c1,ao (aj (by rw[Wi,lone]; omega)),e45,ws _ _ (by rw[Wi,Wi,lone]; omega) lim45,v7]
  ·rw[aE hm,if_neg hm];simp only[cond_false];rw[ao c3,ao (aj (by rw[jK]; omega)),ao c1,ao (aj (by omega)),ao (aj (by omega)),ao c2,ao c1,ao (aj (by rw[Wi,lone]; omega)),wsn _ (by rw[Wi,Wi,lone]; omega),v7];rfl
end Go.Proofs.YtmlkkgfenfdndaaGreatDoor
set_option maxRecDepth 100000
namespace Go.Proofs.YtmlkkgfenfdndaaGreatDoor
open Go Go.bb
variable {R:Type}
abbrev jH (R:Type):Type:=af→Int→Int→(Int→Option R)→(Int→Option R)→(Int→Option R)→(Int→Option R)→(Int→Option R)→Option R
abbrev nG:List dh := [.leaf (.str), .leaf (.int .i64), .leaf (.int .i64)]
abbrev nH:List aY := []
def uE (fn:jH R):oC R nG nH:=fun x y k=>fn x.1 x.2.1 x.2.2.1 (fun q0=>k (.tuple [.int .u64 q0, .Q2 184 .i64 2]) []) (fun q0=>k (.tuple [.int .u64 q0, .Q2 184 .i64 3]) []) (fun q0=>k (.tuple [.int .u64 q0, .Q2 184 .i64 4]) []) (fun q0=>k (.tuple [.int .u64 q0, .Q2 184 .i64 1]) []) (fun q0=>k (.tuple [.int .u64 q0, .eg]) [])
def vi (fn:jH R):=aG nG nH (uE fn)
abbrev kg (R:Type):Type:=Nat→Int→Bool→af→Int→Int→Bool→Int→Nat→Int→Int→(List Int)→(af→Bool→Int→Option R)→(Int→af→Bool→Int→Option R)→(Int→af→Bool→Int→Option R)→(Int→af→Bool→Option R)→Option R
def ie:Hint := { live := [1,8,9,10,11,12,13,99,100,101],own := [],rows := [],cells := [],drop := [],out := [6,7,9,12,13] }
abbrev eO:Type:=Int×Bool×af×Int×Int×Bool×Int×Nat×Int×Int×(List Int)
def jP:eO→St:=fun d=>⟨.undef :: .int .i64 d.1::U 6 (.bool d.2.1 :: .str d.2.2.1 :: .int .u64 d.2.2.2.1 :: .int .u64 d.2.2.2.2.1 :: .bool d.2.2.2.2.2.1 :: .int .u64 d.2.2.2.2.2.2.1::U 85 (.row 0 d.2.2.2.2.2.2.2.1 :: .int .i64 d.2.2.2.2.2.2.2.2.1 :: .int .i64 d.2.2.2.2.2.2.2.2.2.1::U 70 ([]))), [.row (.int .u8) d.2.2.2.2.2.2.2.2.2.2]⟩
def kh (K:Ex→St→Option R) (q0:af) (q1:Bool) (q2:Int):Option R:=K (.exit 3) ⟨U 9 (.str q0::U 2 (.bool q1 :: .int .u64 q2::U 158 ([]))), []⟩
def ki (K:Ex→St→Option R) (q0:Int) (q1:af) (q2:Bool) (q3:Int):Option R:=K (.ret) ⟨U 6 (.int .u64 q0 :: .Q2 184 .i64 2 :: .undef :: .str q1::U 2 (.bool q2 :: .int .u64 q3::U 158 ([]))), []⟩
def kj (K:Ex→St→Option R) (q0:Int) (q1:af) (q2:Bool) (q3:Int):Option R:=K (.ret) ⟨U 6 (.int .u64 q0 :: .Q2 184 .i64 1 :: .undef :: .str q1::U 2 (.bool q2 :: .int .u64 q3::U 158 ([]))), []⟩
def kk (K:Ex→St→Option R) (q0:Int) (q1:af) (q2:Bool):Option R:=K (.ret) ⟨U 6 (.int .u64 q0 :: .Q2 184 .i64 1 :: .undef :: .str q1::U 2 (.bool q2::U 159 ([]))), []⟩
abbrev fQ:List dh := .leaf (.undef) :: .leaf (.int .i64)::PU 6 (.leaf (.bool) :: .leaf (.str) :: .leaf (.int .u64) :: .leaf (.int .u64) :: .leaf (.bool) :: .leaf (.int .u64)::PU 85 (.leaf (.row 0) :: .leaf (.int .i64) :: .leaf (.int .i64)::PU 70 ([])))
abbrev fR:List aY := [.row (.int .u8)]
def qf (x:dh.bD fQ) (y:aY.bD fR):Nat:=(Int.natAbs x.2.1+List.length ((t8 x).2.1)+Int.natAbs ((t8 x).2.2.1)+Int.natAbs ((t8 x).2.2.2.1)+Int.natAbs ((t8 x).2.2.2.2.2.1)+Int.natAbs ((t8 (t8 (t8 (t8 (t8 (t8 (t8 (t8 (t8 (t8 (t8 (t8 x)))))))))))).2.2.2.2.1)+Int.natAbs ((t8 (t8 (t8 (t8 (t8 (t8 (t8 (t8 (t8 (t8 (t8 (t8 x)))))))))))).2.2.2.2.2.1)+List.length y.1+64)
def BX (x:dh.bD fQ) (y:aY.bD fR):eO:=(x.2.1,(t8 x).1,(t8 x).2.1,(t8 x).2.2.1,(t8 x).2.2.2.1,(t8 x).2.2.2.2.1,(t8 x).2.2.2.2.2.1,(t8 (t8 (t8 (t8 (t8 (t8 (t8 (t8 (t8 (t8 (t8 (t8 x)))))))))))).2.2.2.1,(t8 (t8 (t8 (t8 (t8 (t8 (t8 (t8 (t8 (t8 (t8 (t8 x)))))))))))).2.2.2.2.1,(t8 (t8 (t8 (t8 (t8 (t8 (t8 (t8 (t8 (t8 (t8 (t8 x)))))))))))).2.2.2.2.2.1,y.1)
def px (L:kg R):sI R fQ fR:=fun x y K=>L (qf x y) x.2.1 ((t8 x).1) ((t8 x).2.1) ((t8 x).2.2.1) ((t8 x).2.2.2.1) ((t8 x).2.2.2.2.1) ((t8 x).2.2.2.2.2.1) ((t8 (t8 (t8 (t8 (t8 (t8 (t8 (t8 (t8 (t8 (t8 (t8 x)))))))))))).2.2.2.1) ((t8 (t8 (t8 (t8 (t8 (t8 (t8 (t8 (t8 (t8 (t8 (t8 x)))))))))))).2.2.2.2.1) ((t8 (t8 (t8 (t8 (t8 (t8 (t8 (t8 (t8 (t8 (t8 (t8 x)))))))))))).2.2.2.2.2.1) y.1 (kh K) (ki K) (kj K) (kk K)
section
variable (internal_strconv_lower:jE R) (bI:iH R) (aM:kg R)
def ga:List (sS R) := [(176,true,(rY internal_strconv_lower aC)),(177,true,(ss bI aC))]
def dS (cb:Int→Bool→af→Int→Int→Bool→Int→Nat→Int→Int→(List Int)→Option R) (Av:Int) (ZT:Bool) (x22:af) (Mk:Int) (x24:Int) (YI:Bool) (Xf:Int) (x27:Nat) (x28:Int) (SY:Int) (x30:List Int) (e0:af→Bool→Int→Option R) (e1:Int→af→Bool→Int→Option R) (e2:Int→af→Bool→Int→Option R) (e3:Int→af→Bool→Option R):Option R :=
 bif (decide (SY<x28))then (bB (decide ((0:Int)≤SY)&&decide (SY<x27)) (bB (decide (SY.toNat<x30.length)) (let j42:=fun (z40:Int)=>bif (decide (z40≥(IntKind.u8.wrap Av)))then (e1 0 x22 YI Xf)else (bif (decide (Xf≥Mk))then (e2 x24 x22 YI Xf)else (bif (decide ((IntKind.u64.wrap ((IntKind.u64.wrap (Xf*(IntKind.u64.wrap Av)))+(IntKind.u64.wrap z40)))<(IntKind.u64.wrap (Xf*(IntKind.u64.wrap Av)))))then (e2 x24 x22 YI (IntKind.u64.wrap (Xf*(IntKind.u64.wrap Av))))else (bif (decide ((IntKind.u64.wrap ((IntKind.u64.wrap (Xf*(IntKind.u64.wrap Av)))+(IntKind.u64.wrap z40)))>x24))then (e2 x24 x22 YI (IntKind.u64.wrap (Xf*(IntKind.u64.wrap Av))))else (cb Av ZT x22 Mk x24 YI (IntKind.u64.wrap ((IntKind.u64.wrap (Xf*(IntKind.u64.wrap Av)))+(IntKind.u64.wrap z40))) x27 x28 (IntKind.i64.wrap (SY+1)) x30)))); let j39:=fun (z31:Bool)=>bif z31 then (cb Av ZT x22 Mk x24 true Xf x27 x28 (IntKind.i64.wrap (SY+1)) x30)else (let j38:=fun (z32:Bool)=>bif z32 then (j42 (IntKind.u8.wrap ((x30.getD SY.toNat (Ty.br (.int .u8))) - 48)))else (internal_strconv_lower (x30.getD SY.toNat (Ty.br (.int .u8))) (fun Xe=>bif (decide ((97:Int)≤Xe))then (internal_strconv_lower (x30.getD SY.toNat (Ty.br (.int .u8))) (fun y34=>bif (decide (y34≤(122:Int)))then (internal_strconv_lower (x30.getD SY.toNat (Ty.br (.int .u8))) (fun y37=>j42 (IntKind.u8.wrap ((IntKind.u8.wrap (y37 - 97))+10))))else (e1 0 x22 YI Xf)))else (e1 0 x22 YI Xf))); bif (decide ((48:Int)≤(x30.getD SY.toNat (Ty.br (.int .u8)))))then (j38 (decide ((x30.getD SY.toNat (Ty.br (.int .u8)))≤(57:Int))))else (j38 false)); bif ((x30.getD SY.toNat (Ty.br (.int .u8)))==95)then (j39 ZT)else (j39 false))))else (e0 x22 YI Xf)
def qg (K:Ex→St→Option R) (rc:eO→Option R) (d:eO):Option R:=dS internal_strconv_lower (fun z0 z1 z2 z3 z4 z5 z6 z7 z8 z9 uy=>rc (z0,z1,z2,z3,z4,z5,z6,z7,z8,z9,uy)) d.1 d.2.1 d.2.2.1 d.2.2.2.1 d.2.2.2.2.1 d.2.2.2.2.2.1 d.2.2.2.2.2.2.1 d.2.2.2.2.2.2.2.1 d.2.2.2.2.2.2.2.2.1 d.2.2.2.2.2.2.2.2.2.1 d.2.2.2.2.2.2.2.2.2.2 (kh K) (ki K) (kj K) (kk K)
def hQ:Nat→Option (Hint×cF R):=fun i=>match i with
 | 36=>some (ie,(cq fQ fR (px aM) gl))
 | _=>none
theorem yT (K:Ex→St→Option R) (rc:St→Option R) (d:eO):roundOf tt (cz (ga internal_strconv_lower bI)) (hQ aM) 0 ((aA (aQ Tryz.f169)).getD 0 .skip) ie (jP d) rc K=qg internal_strconv_lower K (fun d=>rc (jP d)) d:=by kernel_rfl
def jV (x1:af) (x2:Int) (x3:Int) (k0:Int→Option R) (k1:Int→Option R) (k2:Int→Option R) (k3:Int→Option R) (k4:Int→Option R):Option R :=
 bif (x1==([]:af))then (k0 0)else (let j63:=fun (YJ:af) (z16:Int)=>let j62:=fun (z18:Int)=>let j61:=fun (Xd:Int)=>bB (decide ((0:Int)≤(IntKind.u64.wrap z18))) (aM (Int.natAbs z16+List.length x1+Int.natAbs Xd+Int.natAbs (IntKind.u64.wrap ((IntKind.u64.wrap (1*2 ^ (min ((IntKind.u64.wrap z18).toNat) IntKind.u64.bits))) - 1))+Int.natAbs 0+Int.natAbs (YJ.length:Int)+Int.natAbs 0+List.length (oc YJ)+64) z16 (x2==0) x1 Xd (IntKind.u64.wrap ((IntKind.u64.wrap (1*2 ^ (min ((IntKind.u64.wrap z18).toNat) IntKind.u64.bits))) - 1)) false 0 YJ.length (YJ.length:Int) 0 (oc YJ) (fun y45 y46 Ux=>bif y46 then (bI y45 (fun y59=>bif (!y59)then (k0 0)else (k4 Ux)))else (k4 Ux)) (fun y48 y49 y50 YK=>k0 y48) (fun Uy VK VL y55=>k3 Uy) (fun y56 y57 y58=>k3 y56)); bif (z16==10)then (j61 1844674407370955162)else (bif (z16==16)then (j61 1152921504606846976)else (bB (!decide ((IntKind.u64.wrap z16)=0)) (j61 (IntKind.u64.wrap ((IntKind.u64.wrap (Int.tdiv 18446744073709551615 (IntKind.u64.wrap z16)))+1))))); bif (x3==0)then (j62 64)else (bif (decide (x3<(0:Int)))then (k2 0)else (bif (decide (x3>(64:Int)))then (k2 0)else (j62 x3))); let j14:=fun (z4:Bool)=>bif z4 then (j63 x1 x2)else (bif (x2==0)then (bB (decide ((0:Int)<x1.length)) (bif (((x1.getD 0 0).toNat:Int)==48)then (let j13:=fun (z6:Bool)=>bif z6 then (bB (decide ((0:Int)≤(x1.length:Int))&&decide ((x1.length:Int)≤x1.length)) (bB (decide ((2:Int)≤(x1.length:Int))) (j63 ((x1.drop 2).take ((x1.length:Int).toNat - 2)) 2)))else (let j12:=fun (z8:Bool)=>bif z8 then (bB (decide ((0:Int)≤(x1.length:Int))&&decide ((x1.length:Int)≤x1.length)) (bB (decide ((2:Int)≤(x1.length:Int))) (j63 ((x1.drop 2).take ((x1.length:Int).toNat - 2)) 8)))else (let j11:=fun (uy:Bool)=>bif uy then (bB (decide ((0:Int)≤(x1.length:Int))&&decide ((x1.length:Int)≤x1.length)) (bB (decide ((2:Int)≤(x1.length:Int))) (j63 ((x1.drop 2).take ((x1.length:Int).toNat - 2)) 16)))else (bB (decide ((0:Int)≤(x1.length:Int))&&decide ((x1.length:Int)≤x1.length)) (bB (decide ((1:Int)≤(x1.length:Int))) (j63 ((x1.drop 1).take ((x1.length:Int).toNat - 1)) 8))); bif (decide ((x1.length:Int)≥(3:Int)))then (bB (decide ((1:Int)<x1.length)) (internal_strconv_lower ((x1.getD 1 0).toNat:Int) (fun y9=>j11 (y9==120))))else (j11 false)); bif (decide ((x1.length:Int)≥(3:Int)))then (bB (decide ((1:Int)<x1.length)) (internal_strconv_lower ((x1.getD 1 0).toNat:Int) (fun y7=>j12 (y7==111))))else (j12 false)); bif (decide ((x1.length:Int)≥(3:Int)))then (bB (decide ((1:Int)<x1.length)) (internal_strconv_lower ((x1.getD 1 0).toNat:Int) (fun y5=>j13 (y5==98))))else (j13 false))else (j63 x1 10)))else (k1 0)); bif (decide ((2:Int)≤x2))then (j14 (decide (x2≤(36:Int))))else (j14 false))
theorem E4:fC (R:=R) tt (ga internal_strconv_lower bI) (hQ aM) false Tryz.f169 nG nH (uE (jV internal_strconv_lower bI aM)):=fun x y k=>by kernel_rfl
end
theorem Ea:dy (R:=R) Tryz.prog (ga (R:=R) internal_strconv_lower bI) := .c (vZ R) <| .c (AZ R) <| .n
def aM:kg R
 | 0,_,_,_,_,_,_,_,_,_,_,_,_,_,_,_=>none
 | n+1,eh,eB,fb,lZ,BR,BS,NG,NH,NI,NJ,yU,e0,e1,e2,e3=>dS internal_strconv_lower (fun eh eB fb lZ BR BS NG NH NI NJ yU=>aM n eh eB fb lZ BR BS NG NH NI NJ yU e0 e1 e2 e3) eh eB fb lZ BR BS NG NH NI NJ yU e0 e1 e2 e3
def qh (K:Ex→St→Option R) (n:Nat) (d:eO):Option R:=aM n d.1 d.2.1 d.2.2.1 d.2.2.2.1 d.2.2.2.2.1 d.2.2.2.2.2.1 d.2.2.2.2.2.2.1 d.2.2.2.2.2.2.2.1 d.2.2.2.2.2.2.2.2.1 d.2.2.2.2.2.2.2.2.2.1 d.2.2.2.2.2.2.2.2.2.2 (kh K) (ki K) (kj K) (kk K)
theorem A1 (other:cF R) (ho:fZ tt (cz (ga (R:=R) internal_strconv_lower bI)) (hQ (R:=R) aM) 0 ((aA (aQ Tryz.f169)).getD 0 .skip) ie other):fZ tt (cz (ga (R:=R) internal_strconv_lower bI)) (hQ (R:=R) aM) 0 ((aA (aQ Tryz.f169)).getD 0 .skip) ie (cq fQ fR (px (aM)) other) :=
 cx (A:=qh) ho (dD jP (qg internal_strconv_lower) (qh) (fun _ _=>by kernel_rfl) (yT internal_strconv_lower bI aM) (fun _ _ _=>by kernel_rfl)) qf BX (fun _ _=>by kernel_rfl) (fun _ _ _=>by kernel_rfl)
def dG:jH R:=fun x1 x2 x3 k0 k1 k2 k3 k4=>jV internal_strconv_lower bI aM x1 x2 x3 k0 k1 k2 k3 k4
theorem Cz (R:Type):∀a∈aA (aQ Tryz.f169),gE tt (cz (ga (R:=R) internal_strconv_lower bI)) (hQ (R:=R) aM) 0 a:=by
 refine eV 1 (by kernel_rfl) fun i hi => ?_
 match i,hi with
 | 0,_=>exact bT (by kernel_rfl) (A1 _ cQ)
 | n+1,hi=>omega
theorem Dz (R:Type):od Tryz.prog 169 (vi (dG (R:=R))):=bS TT mixed (Ea (R:=R)) rfl rfl rfl rfl (Cz R) (E4 internal_strconv_lower bI aM)
abbrev qY (R:Type):Type:=af→Int→Int→(Int→Option R)→(Int→Option R)→Option R
abbrev yV:List dh := [.leaf (.str), .leaf (.int .i64), .leaf (.int .i64)]
abbrev yW:List aY := []
def E5 (fn:qY R):oC R yV yW:=fun x y k=>fn x.1 x.2.1 x.2.2.1 (fun q0=>k (.tuple [.int .u64 q0, .iface]) []) (fun q0=>k (.tuple [.int .u64 q0, .eg]) [])
def F6 (fn:qY R):=aG yV yW (E5 fn)
section
variable (dG:jH R)
def F7:List (sS R) := [(136,true,(toErr_S R 184)),(169,true,(vi dG aC))]
def sN (x1:af) (x2:Int) (x3:Int) (k0:Int→Option R) (k1:Int→Option R):Option R :=
 dG x1 x2 x3 (fun y4=>bB (Nat.beq 184 184&&(2==2||2==1)) (bB (decide (x1.length≤281474976710656)) (k0 y4))) (fun y5=>bB (Nat.beq 184 184&&(3==2||3==1)) (bB (decide (x1.length≤281474976710656)) (k0 y5))) (fun y6=>bB (Nat.beq 184 184&&(4==2||4==1)) (bB (decide (x1.length≤281474976710656)) (k0 y6))) (fun y7=>bB (Nat.beq 184 184&&(1==2||1==1)) (bB (decide (x1.length≤281474976710656)) (k0 y7))) (fun y8=>k1 y8)
theorem OH:fC (R:=R) tt (F7 dG) AL false Tryz.f172 yV yW (E5 (sN dG)):=fun x y k=>by kernel_rfl
end
theorem NK:dy (R:=R) Tryz.prog (F7 (R:=R) dG) := .p (toErr_ok) <| .c (Dz R) <| .n
def gh:qY R:=fun x1 x2 x3 k0 k1=>sN dG x1 x2 x3 k0 k1
theorem Ml (R:Type):od Tryz.prog 172 (F6 (gh (R:=R))):=bS TT mixed (NK (R:=R)) rfl rfl rfl rfl dM (OH dG)
abbrev lT (R:Type):Type:=af→(Int→af→Option R)→Option R
abbrev rZ:List dh := [.leaf (.ptr 0 0)]
abbrev r6:List aY := [.cells [.str]]
def yn (fn:lT R):oC R rZ r6:=fun x y k=>fn y.1.1 (fun q0 q1=>k (.int .i32 q0) [.cells [.str q1]])
def zS (fn:lT R):=aG rZ r6 (yn fn)
section
variable (gh:qY R)
def zT:List (sS R) := [(172,true,(F6 gh aC)),(173,true,(Yp R))]
def mH (x1:af) (k0:Int→af→Option R):Option R :=
 bif (decide ((x1.length:Int)<(4:Int)))then (k0 (-1) x1)else (bB (decide ((4:Int)≤x1.length)) (gh ((x1.drop 0).take (4 - 0)) 16 16 (fun y2=>k0 (-1) x1) (fun y3=>bB (yk ((x1.drop 0).take (4 - 0))&&yk ([43,45,95]:af)&&decide (((x1.drop 0).take (4 - 0)).length<4294967281)&&decide (([43,45,95]:af).length<4294967281)) (bif (Yo ((x1.drop 0).take (4 - 0)) ([43,45,95]:af))then (k0 (-1) x1)else (bB (decide ((0:Int)≤(x1.length:Int))&&decide ((x1.length:Int)≤x1.length)) (bB (decide ((4:Int)≤(x1.length:Int))) (k0 (IntKind.i32.wrap y3) ((x1.drop 4).take ((x1.length:Int).toNat - 4)))))))))
theorem Iz:fC (R:=R) tt (zT gh) AL false Tryz.f157 rZ r6 (yn (mH gh)):=fun x y k=>by kernel_rfl
end
theorem Hy:dy (R:=R) Tryz.prog (zT (R:=R) gh) := .c (Ml R) <| .p (hasAny_ok) <| .n
def dH:lT R:=fun x1 k0=>mH gh x1 k0
theorem GB (R:Type):od Tryz.prog 157 (zS (dH (R:=R))):=bS TT mixed (Hy (R:=R)) rfl rfl rfl rfl dM (Iz gh)
abbrev lU (R:Type):Type:=af→(Int→af→Option R)→Option R
abbrev r7:List dh := [.leaf (.ptr 0 0)]
abbrev r8:List aY := [.cells [.str]]
def yo (fn:lU R):oC R r7 r8:=fun x y k=>fn y.1.1 (fun q0 q1=>k (.int .i32 q0) [.cells [.str q1]])
def zU (fn:lU R):=aG r7 r8 (yo fn)
section
variable (aP:jD R) (dH:lT R)
def zV:List (sS R) := [(107,false,(rV aP aC)),(157,false,(zS dH aC))]
def mI (x1:af) (k0:Int→af→Option R):Option R :=
 dH x1 (fun y2 y3=>bif (decide (y2<(55296:Int)))then (k0 y2 y3)else (bif (decide (y2≥(57344:Int)))then (k0 y2 y3)else (bif (decide (y2≥(56320:Int)))then (k0 (-1) y3)else (aP ([92,117]:af) y3 (fun y5 y6=>bif (!y5)then (k0 (-1) y6)else (dH y6 (fun y9 o5=>bif (decide (y9<(56320:Int)))then (k0 (-1) o5)else (bif (decide (y9≥(57344:Int)))then (k0 (-1) o5)else (k0 (IntKind.i32.wrap ((IntKind.i32.wrap ((IntKind.i32.wrap (65536+(IntKind.i32.wrap ((IntKind.i32.wrap (y2 - 55296))*2 ^ (min 10 IntKind.i32.bits)))))+y9)) - 56320)) o5)))))))))
theorem IA:fC (R:=R) tt (zV aP dH) AL false Tryz.f138 r7 r8 (yo (mI aP dH)):=fun x y k=>by kernel_rfl
end
theorem Hz:dy (R:=R) Tryz.prog (zV (R:=R) aP dH) := .d (vY R) rfl <| .d (GB R) rfl <| .n
def dp:lU R:=fun x1 k0=>mI aP dH x1 k0
theorem GC (R:Type):od Tryz.prog 138 (zU (dp (R:=R))):=bS TT mixed (Hz (R:=R)) rfl rfl rfl rfl dM (IA aP dH)
abbrev jW (R:Type):Type:=af→(Int→af→Option R)→Option R
abbrev oh:List dh := [.leaf (.ptr 0 0)]
abbrev oi:List aY := [.cells [.str]]
def vj (fn:jW R):oC R oh oi:=fun x y k=>fn y.1.1 (fun q0 q1=>k (.int .i32 q0) [.cells [.str q1]])
def v8 (fn:jW R):=aG oh oi (vj fn)
section
variable (dp:lU R)
def wa:List (sS R) := [(138,false,(zU dp aC))]
def kG (x1:af) (k0:Int→af→Option R):Option R :=
 bif (x1==([]:af))then (k0 (-1) x1)else (bB (decide ((0:Int)<x1.length)) (bB (decide ((0:Int)≤(x1.length:Int))&&decide ((x1.length:Int)≤x1.length)) (bB (decide ((1:Int)≤(x1.length:Int))) (let j5:=fun (z2:Bool)=>bif z2 then (k0 (IntKind.i32.wrap ((x1.getD 0 0).toNat:Int)) ((x1.drop 1).take ((x1.length:Int).toNat - 1)))else (bif (((x1.getD 0 0).toNat:Int)==98)then (k0 8 ((x1.drop 1).take ((x1.length:Int).toNat - 1)))else (bif (((x1.getD 0 0).toNat:Int)==102)then (k0 12 ((x1.drop 1).take ((x1.length:Int).toNat - 1)))else (bif (((x1.getD 0 0).toNat:Int)==110)then (k0 10 ((x1.drop 1).take ((x1.length:Int).toNat - 1)))else (bif (((x1.getD 0 0).toNat:Int)==114)then (k0 13 ((x1.drop 1).take ((x1.length:Int).toNat - 1)))else (bif (((x1.getD 0 0).toNat:Int)==116)then (k0 9 ((x1.drop 1).take ((x1.length:Int).toNat - 1)))else (bif (((x1.getD 0 0).toNat:Int)==117)then (dp ((x1.drop 1).take ((x1.length:Int).toNat - 1)) (fun y3 y4=>k0 y3 y4))else (k0 (-1) ((x1.drop 1).take ((x1.length:Int).toNat - 1))))))))); bif (((x1.getD 0 0).toNat:Int)==34)then (j5 (((x1.getD 0 0).toNat:Int)==34))else (bif (((x1.getD 0 0).toNat:Int)==92)then (j5 (((x1.getD 0 0).toNat:Int)==92))else (j5 (((x1.getD 0 0).toNat:Int)==47)))))))
theorem FE:fC (R:=R) tt (wa dp) AL false Tryz.f109 oh oi (vj (kG dp)):=fun x y k=>by kernel_rfl
end
theorem E6:dy (R:=R) Tryz.prog (wa (R:=R) dp) := .d (GC R) rfl <| .n
def bx:jW R:=fun x1 k0=>kG dp x1 k0
theorem Eb (R:Type):od Tryz.prog 109 (v8 (bx (R:=R))):=bS TT mixed (E6 (R:=R)) rfl rfl rfl rfl dM (FE dp)
abbrev lq (R:Type):Type:=af→(Int→af→Option R)→Option R
abbrev ql:List dh := [.leaf (.ptr 0 0)]
abbrev qm:List aY := [.cells [.str]]
def wX (fn:lq R):oC R ql qm:=fun x y k=>fn y.1.1 (fun q0 q1=>k (.int .i32 q0) [.cells [.str q1]])
def yp (fn:lq R):=aG ql qm (wX fn)
section
def yq:List (sS R) := [(130,true,(dec_S R))]
def lV (x1:af) (k0:Int→af→Option R):Option R :=
 let j3:=bB (decide ((0:Int)≤(x1.length:Int))&&decide ((x1.length:Int)≤x1.length)) (bB (decide ((0:Int)≤((pV x1).2:Int))&&decide (((pV x1).2:Int)≤(x1.length:Int))) (k0 ((pV x1).1:Int) ((x1.drop ((pV x1).2:Int).toNat).take ((x1.length:Int).toNat - ((pV x1).2:Int).toNat)))); bif (((pV x1).1:Int)==65533)then (bif (decide (((pV x1).2:Int)<(2:Int)))then (k0 (-1) x1)else (bif (decide (((pV x1).1:Int)<(32:Int)))then (k0 (-1) x1)else (j3)))else (bif (decide (((pV x1).1:Int)<(32:Int)))then (k0 (-1) x1)else (j3))
theorem HA:fC (R:=R) tt (yq (R:=R)) AL false Tryz.f108 ql qm (wX lV):=fun x y k=>by kernel_rfl
end
theorem GD:dy (R:=R) Tryz.prog (yq (R:=R)) := .p (dec_ok) <| .n
def bQ:lq R:=fun x1 k0=>lV x1 k0
theorem FF (R:Type):od Tryz.prog 108 (yp (bQ (R:=R))):=bS TT mixed (GD (R:=R)) rfl rfl rfl rfl dM (HA)
end Go.Proofs.YtmlkkgfenfdndaaGreatDoor
set_option maxRecDepth 100000
namespace Go.Proofs.YtmlkkgfenfdndaaGreatDoor
open Go Go.bb Go.Lib
theorem band2 {p q:Prop} [Decidable p] [Decidable q] (hp:p) (hq:q):(decide p&&decide q)=true:=by rw[aj hp,aj hq]; rfl
theorem YL:∀(p s:af),(s.take p.length==p)=p.isPrefixOf s
 | [],s=>by simp
 | a::p, []=>by simp
 | a::p,b::s=>by
  have:=YL p s;simp only[List.length_cons,List.take_succ_cons,List.isPrefixOf];rw[List.cons_beq_cons,this];congr 1;exact Bool.beq_comm
theorem Xg {R:Type} (p s:af) (hp:p.length≤1000) (hs:s.length≤9000000000000000000) (k:Bool→af→Option R) :
  aP p s k=if p.isPrefixOf s then k true (s.drop p.length)else k false s:=by
 have e1:∀f:af→Bool→Option R,gg s p f=cO s p f:=fun _=>rfl
 show gg s p (fun y3 y4=>k y4 y3)=_;rw[e1];show iG cB s p (fun y3 y4=>k y4 y3)=_;unfold iG;have e2:∀f:Bool→Option R,cB s p f=f (p.isPrefixOf s):=by
  intro f;show iF s p f=_;unfold iF;by_cases h:p.length≤s.length
  ·rw[aj (show (s.length:Int)≥(p.length:Int) by omega),cond_true,ao (by rw[aj (show (0:Int)≤(p.length:Int) by omega)]; rfl),ao (aj (by omega))];rw[List.drop_zero,Int.toNat_natCast,Nat.sub_zero,YL]
  ·rw[aE (show ¬(s.length:Int)≥(p.length:Int) by omega),cond_false];congr 1;rw[←YL]
   symm
   rw[beq_eq_false_iff_ne];intro e;have:=congrArg List.length e;rw[List.length_take]at this;omega
 rw[e2];cases hp2:p.isPrefixOf s with
 | false=>simp
 | true =>
  have hle:p.length≤s.length:=(List.IsPrefix.length_le (List.isPrefixOf_iff_prefix.1 hp2));rw[Bool.not_true,cond_false,ao (band2 (by omega) (by omega)),ao (band2 (by omega) (by omega))];simp only[Int.toNat_natCast,if_true];rw[List.take_of_length_le (by rw[List.length_drop]; exact Nat.le_refl _)]
theorem decRune_eq {s:af} (h:s ≠ []):pV s=decodeL s:=by
 unfold pV;have:s.isEmpty=false:=by cases s with|nil=>exact (h rfl).elim|cons _ _=>rfl
 rw[this];rfl
def yX (s:af):Option (Nat×af) :=
 if s = []then none else if (decodeL s).1=65533∧(decodeL s).2=1 then none else if (decodeL s).1<32 then none else some ((decodeL s).1,s.drop (decodeL s).2)
theorem plain_ok {R:Type} (s:af) (hs:s.length≤9000000000000000000) (k:Int→af→Option R) :
  bQ s k=match yX s with|some (c,r)=>k (c:Int) r|none=>k (-1) s:=by
 show lV s k=_;unfold lV;by_cases h0:s = []
 ·subst h0; rfl
 rw[decRune_eq h0];have hw:=decodeL_width s;have hle:=decodeL_le s h0;have hj:(bB (decide ((0:Int)≤(s.length:Int))&&decide ((s.length:Int)≤s.length)) (bB (decide ((0:Int)≤((decodeL s).2:Int))&&decide (((decodeL s).2:Int)≤(s.length:Int))) (k ((decodeL s).1:Int) ((s.drop ((decodeL s).2:Int).toNat).take ((s.length:Int).toNat - ((decodeL s).2:Int).toNat)))))=k ((decodeL s).1:Int) (s.drop (decodeL s).2):=by
  rw[ao (band2 (by omega) (by omega)),ao (band2 (by omega) (by omega)),Int.toNat_natCast,Int.toNat_natCast,List.take_of_length_le (by rw[List.length_drop]; exact Nat.le_refl _)]
 simp only[hj];unfold yX;rw[if_neg h0];by_cases h1:(decodeL s).1=65533
 ·have e1:(((decodeL s).1:Int)==65533)=true:=by rw[h1]; rfl
  rw[e1,cond_true];by_cases h2:(decodeL s).2=1
  ·rw[aj (show ((decodeL s).2:Int)<2 by omega),cond_true,if_pos ⟨h1,h2⟩]
  ·rw[aE (show ¬((decodeL s).2:Int)<2 by omega),cond_false,aE (show ¬((decodeL s).1:Int)<32 by omega),cond_false,if_neg (fun h=>h2 h.2),if_neg (by omega)]
 ·have e1:(((decodeL s).1:Int)==65533)=false:=by rw[beq_eq_false_iff_ne]; omega
  rw[e1,cond_false,if_neg (fun h=>h1 h.1)];by_cases h3:(decodeL s).1<32
  ·rw[aj (show ((decodeL s).1:Int)<32 by omega),cond_true,if_pos h3]
  ·rw[aE (show ¬((decodeL s).1:Int)<32 by omega),cond_false,if_neg h3]
def Rx (b:UInt8):Option Nat :=
 let n:=b.toNat
 if 48≤n∧n≤57 then some (n - 48)else if 65≤n∧n≤70 then some (n - 55)else if 97≤n∧n≤102 then some (n - 87)else none
def NL:af→Nat→Option Nat
 | [],v=>some v
 | b::t,v=>match Rx b with|some d=>NL t (16*v+d)|none=>none
def E7 (b:Int):Int:=IntKind.u8.wrap ((BitVec.ofInt IntKind.u8.bits b ||| BitVec.ofInt IntKind.u8.bits 32).toNat:Int)
def hexB (b:Nat):Bool :=
 (!(decide (48≤b)&&decide (b≤57))||decide (IntKind.u8.wrap ((b:Int) - 48)=((b - 48:Nat):Int))) &&
 (!(decide ((97:Int)≤E7 b)&&decide (E7 b≤122))||(!(decide (48≤b)&&decide (b≤57))&&decide (b≠95)&&decide (IntKind.u8.wrap ((IntKind.u8.wrap (E7 b - 97))+10)=E7 b - 87) &&
  (!decide (E7 b - 87<16)||((decide (65≤b)&&decide (b≤70)&&decide (E7 b - 87=((b - 55:Nat):Int)))||(decide (97≤b)&&decide (b≤102)&&decide (E7 b - 87=((b - 87:Nat):Int))))) &&
  (!decide (16≤E7 b - 87)||(!(decide (65≤b)&&decide (b≤70)) && !(decide (97≤b)&&decide (b≤102)))))) &&
 ((decide ((97:Int)≤E7 b)&&decide (E7 b≤122))||(!(decide (65≤b)&&decide (b≤70)) && !(decide (97≤b)&&decide (b≤102))))
theorem hexB_all:∀b:Fin 256,hexB b.val=true:=by decide +kernel
theorem hex_fact (b:Nat) (hb:b<256) :
  ((48≤b∧b≤57)→IntKind.u8.wrap ((b:Int) - 48)=((b - 48:Nat):Int)) ∧
  ((97:Int)≤E7 b→E7 b≤122→¬(48≤b∧b≤57)∧b≠95∧IntKind.u8.wrap ((IntKind.u8.wrap (E7 b - 97))+10)=E7 b - 87 ∧
   (E7 b - 87<16→((65≤b∧b≤70)∧E7 b - 87=((b - 55:Nat):Int))∨((97≤b∧b≤102)∧E7 b - 87=((b - 87:Nat):Int))) ∧
   (16≤E7 b - 87→¬(65≤b∧b≤70)∧¬(97≤b∧b≤102))) ∧
  (¬((97:Int)≤E7 b∧E7 b≤122)→¬(65≤b∧b≤70)∧¬(97≤b∧b≤102)):=by
 have h:=hexB_all ⟨b,hb⟩;unfold hexB at h;generalize E7 (b:Int)=l at *;simp only[Bool.and_eq_true,Bool.or_eq_true,Bool.not_eq_true',Bool.and_eq_false_iff,decide_eq_true_eq,decide_eq_false_iff_not]at h;obtain ⟨⟨h1,h2⟩,h3⟩:=h;refine ⟨fun q => ?_,fun q1 q2 => ?_,fun q => ?_⟩
 ·rcases h1 with h1|h1
  ·omega
  ·exact h1
 ·rcases h2 with h2|⟨⟨⟨⟨g1,g2⟩,g3⟩,g4⟩,g5⟩
  ·omega
  ·refine ⟨by omega,g2,g3,fun q => ?_,fun q => ?_⟩
   ·rcases g4 with g4|g4
    ·omega
    ·rcases g4 with ⟨⟨k1,k2⟩,k3⟩|⟨⟨k1,k2⟩,k3⟩
     ·exact .inl ⟨⟨k1,k2⟩,k3⟩
     ·exact .inr ⟨⟨k1,k2⟩,k3⟩
   ·rcases g5 with g5|⟨k1,k2⟩
    ·omega
    ·exact ⟨by omega,by omega⟩
 ·rcases h3 with h3|⟨k1,k2⟩
  ·omega
  ·exact ⟨by omega,by omega⟩
theorem hexv_lt {b:UInt8} {d:Nat} (h:Rx b=some d):d<16:=by
 unfold Rx at h;simp only at h;split at h
 ·cases h; omega
 ·split at h
  ·cases h; omega
  ·split at h
   ·cases h; omega
   ·cases h
theorem u64w {n:Int} (h0:0≤n) (h:n≤18446744073709551615):IntKind.u64.wrap n=n:=by
 simp only[IntKind.wrap,IntKind.bits,IntKind.signed];simp;omega
theorem uint_round {R:Type} {s x22:af} {i v:Nat} (hi:i<s.length) (hs:s.length≤1000) (hv:v<4096) (cb:Int→Bool→af→Int→Int→Bool→Int→Nat→Int→Int→(List Int)→Option R) (e0:af→Bool→Int→Option R) (e1 e2:Int→af→Bool→Int→Option R) (e3:Int→af→Bool→Option R) :
  dS internal_strconv_lower cb 16 false x22 1152921504606846976 65535 false (v:Int) s.length (s.length:Int) (i:Int) (oc s) e0 e1 e2 e3 =
   match Rx (s[i])with
   | some d=>cb 16 false x22 1152921504606846976 65535 false ((16*v+d:Nat):Int) s.length (s.length:Int) ((i+1:Nat):Int) (oc s)
   | none=>e1 0 x22 false (v:Int):=by
 unfold dS;have hlow:∀(n:Int) (f:Int→Option R),internal_strconv_lower n f=f (E7 n):=fun _ _=>rfl
 have Ju:(oc s).getD (i:Int).toNat (Ty.br (.int .u8))=(s[i].toNat:Int):=by
  rw[Int.toNat_natCast];show (s.map fun b=>(b.toNat:Int)).getD i _=_;simp[List.getD,hi];rfl
 rw[aj (show (i:Int)<(s.length:Int) by omega),cond_true,ao (by rw[aj (show (0:Int)≤(i:Int) by omega)]; rfl),
  ao (aj (by rw[Int.toNat_natCast,KJ,A0]; exact hi))]
 simp only[Ju,hlow];obtain ⟨f1,f2,f3⟩:=hex_fact s[i].toNat (UInt8.toNat_lt _);have hb:=UInt8.toNat_lt s[i];generalize hbn:s[i].toNat=b at *;have hw16:IntKind.u8.wrap 16=16:=by decide
 have hw64:IntKind.u64.wrap 16=16:=by decide
 have hi1:IntKind.i64.wrap ((i:Int)+1)=((i+1:Nat):Int):=by rw[aK (by omega) (by omega)]; omega
 
 have fit:∀d:Nat,d<16→∀z:Int,z=(d:Int)→(bif (decide (z≥(IntKind.u8.wrap 16)))then (e1 0 x22 false (v:Int))else (bif (decide ((v:Int)≥1152921504606846976))then (e2 65535 x22 false (v:Int))else (bif (decide ((IntKind.u64.wrap ((IntKind.u64.wrap ((v:Int)*(IntKind.u64.wrap 16)))+(IntKind.u64.wrap z)))<(IntKind.u64.wrap ((v:Int)*(IntKind.u64.wrap 16)))))then (e2 65535 x22 false (IntKind.u64.wrap ((v:Int)*(IntKind.u64.wrap 16))))else (bif (decide ((IntKind.u64.wrap ((IntKind.u64.wrap ((v:Int)*(IntKind.u64.wrap 16)))+(IntKind.u64.wrap z)))>65535))then (e2 65535 x22 false (IntKind.u64.wrap ((v:Int)*(IntKind.u64.wrap 16))))else (cb 16 false x22 1152921504606846976 65535 false (IntKind.u64.wrap ((IntKind.u64.wrap ((v:Int)*(IntKind.u64.wrap 16)))+(IntKind.u64.wrap z))) s.length (s.length:Int) (IntKind.i64.wrap ((i:Int)+1)) (oc s)))))) =
   cb 16 false x22 1152921504606846976 65535 false ((16*v+d:Nat):Int) s.length (s.length:Int) ((i+1:Nat):Int) (oc s):=by
  intro d hd z hz;subst hz;have k1:IntKind.u64.wrap ((v:Int)*16)=(v:Int)*16:=u64w (by omega) (by omega);have k2:IntKind.u64.wrap (d:Int)=d:=u64w (by omega) (by omega);have k3:IntKind.u64.wrap ((v:Int)*16+(d:Int))=(v:Int)*16+(d:Int):=u64w (by omega) (by omega);rw[hw16,hw64,k1,k2,k3,hi1,aE (show ¬(d:Int)≥16 by omega),cond_false,aE (show ¬(v:Int)≥1152921504606846976 by omega),cond_false,aE (show ¬(v:Int)*16+(d:Int)<(v:Int)*16 by omega),cond_false,
   aE (show ¬(v:Int)*16+(d:Int)>65535 by omega),cond_false]
  have:(v:Int)*16+(d:Int)=((16*v+d:Nat):Int):=by omega
  rw[this]
 rw[cond_false,Bool.cond_self];unfold Rx;simp only[hbn];by_cases h1:48≤b∧b≤57
 ·rw[aj (show (48:Int)≤(b:Int) by omega),cond_true,aj (show (b:Int)≤57 by omega),cond_true,if_pos h1];exact fit (b - 48) (by omega) _ (f1 h1)
 ·rw[if_neg h1];have h48:∀x z:Option R,(bif (decide ((48:Int)≤(b:Int)))then (bif (decide ((b:Int)≤(57:Int)))then x else z)else z)=z:=by
   intro x z;by_cases h:(48:Int)≤(b:Int)
   ·rw[aj h,cond_true,aE (show ¬(b:Int)≤57 by omega),cond_false]
   ·rw[aE h,cond_false]
  simp only[cond_false];rw[h48];by_cases h2:(97:Int)≤E7 b
  ·rw[aj h2,cond_true];by_cases h3:E7 b≤122
   ·rw[aj h3,cond_true];obtain ⟨_,_,g1,g2,g3⟩:=f2 h2 h3;rw[g1];by_cases h4:E7 b - 87<16
    ·rcases g2 h4 with ⟨q1,q2⟩|⟨q1,q2⟩
     ·rw[if_pos q1];exact fit (b - 55) (by omega) _ q2
     ·rw[if_neg (by omega),if_pos q1];exact fit (b - 87) (by omega) _ q2
    ·obtain ⟨q1,q2⟩:=g3 (by omega);rw[hw16,aj (show E7 b - 87≥16 by omega),cond_true,if_neg q1,if_neg q2]
   ·rw[aE h3,cond_false];obtain ⟨q1,q2⟩:=f3 (by omega);rw[if_neg q1,if_neg q2]
  ·rw[aE h2,cond_false];obtain ⟨q1,q2⟩:=f3 (by omega);rw[if_neg q1,if_neg q2]
theorem hexN_step (s:af) (i v:Nat) (hi:i<s.length):NL (s.drop i) v=match Rx s[i]with|some d=>NL (s.drop (i+1)) (16*v+d)|none=>none:=by
 rw[List.drop_eq_getElem_cons hi];rfl
theorem uint_loop {R:Type} {s x22:af} (hs:s.length≤4) (e0:af→Bool→Int→Option R) (e1 e2:Int→af→Bool→Int→Option R) (e3:Int→af→Bool→Option R):∀(n i v:Nat),s.length - i<n→i≤s.length→v<16 ^ i →
  (match NL (s.drop i) v with
   | some u=>aM n 16 false x22 1152921504606846976 65535 false (v:Int) s.length (s.length:Int) (i:Int) (oc s) e0 e1 e2 e3=e0 x22 false (u:Int)
   | none=>∃w,aM n 16 false x22 1152921504606846976 65535 false (v:Int) s.length (s.length:Int) (i:Int) (oc s) e0 e1 e2 e3=e1 0 x22 false w):=by
 intro n
 induction n with
 | zero=>intro i v h; omega
 | succ n ih =>
  intro i v h hi hv;by_cases jJ:i<s.length
  ·have hv2:v<4096:=by
    have:16 ^ i≤16 ^ 3:=Nat.pow_le_pow_right (by omega) (by omega);have e:(16:Nat) ^ 3=4096:=rfl;omega
   have hr:=uint_round (R:=R) (x22:=x22) jJ (by omega) hv2 (fun eh eB fb lZ BR BS NG NH NI NJ yU=>aM n eh eB fb lZ BR BS NG NH NI NJ yU e0 e1 e2 e3) e0 e1 e2 e3;have hL:aM (n+1) 16 false x22 1152921504606846976 65535 false (v:Int) s.length (s.length:Int) (i:Int) (oc s) e0 e1 e2 e3 =
    dS internal_strconv_lower (fun eh eB fb lZ BR BS NG NH NI NJ yU=>aM n eh eB fb lZ BR BS NG NH NI NJ yU e0 e1 e2 e3) 16 false x22 1152921504606846976 65535 false (v:Int) s.length (s.length:Int) (i:Int) (oc s) e0 e1 e2 e3:=rfl
   rw[hL,hr,hexN_step s i v jJ];cases hx:Rx s[i]with
   | none=>exact ⟨_,rfl⟩
   | some d =>
    have hd:=hexv_lt hx;have:(16:Nat) ^ (i+1)=16 ^ i*16:=Nat.pow_succ ..;exact ih (i+1) (16*v+d) (by omega) (by omega) (by omega)
  ·have e:s.drop i = []:=List.drop_eq_nil_of_le (by omega);rw[e];simp only[NL];show dS internal_strconv_lower _ 16 false x22 1152921504606846976 65535 false (v:Int) s.length (s.length:Int) (i:Int) (oc s) e0 e1 e2 e3=_;unfold dS;rw[aE (show ¬(i:Int)<(s.length:Int) by omega),cond_false]
theorem parse4 {R:Type} {s:af} (hs:s.length=4) (k0 k1:Int→Option R):gh s 16 16 k0 k1=match NL s 0 with|some u=>k1 (u:Int)|none=>k0 0:=by
 show sN dG s 16 16 k0 k1=_;unfold sN;show jV internal_strconv_lower bI aM s 16 16 _ _ _ _ _=_;unfold jV;have h1:(s==([]:af))=false:=by rw[beq_eq_false_iff_ne]; rintro rfl; simp at hs
 rw[h1,cond_false];have c1:decide ((2:Int)≤16)=true:=by decide
 have c2:decide ((16:Int)≤36)=true:=by decide
 have c3:((16:Int)==0)=false:=by decide
 have c4:decide ((16:Int)<0)=false:=by decide
 have c5:decide ((16:Int)>64)=false:=by decide
 have c6:((16:Int)==10)=false:=by decide
 have c7:((16:Int)==16)=true:=by decide
 have c8:decide ((0:Int)≤IntKind.u64.wrap 16)=true:=by decide
 have c9:(IntKind.u64.wrap ((IntKind.u64.wrap (1*2 ^ (min ((IntKind.u64.wrap 16).toNat) IntKind.u64.bits))) - 1))=65535:=by decide +kernel
 dsimp only;rw[c1,cond_true,c2,cond_true,c3,cond_false,c4,cond_false,c5,cond_false,c6,cond_false,c7,cond_true];rw[c8,ao rfl,c9];have hb:decide (s.length≤281474976710656)=true:=aj (by omega);have key:=fun (n:Nat) (hn:4<n) (e0:af→Bool→Int→Option R) (e1 e2:Int→af→Bool→Int→Option R) (e3:Int→af→Bool→Option R)=>uint_loop (R:=R) (s:=s) (x22:=s) (by omega) e0 e1 e2 e3 n 0 0 (by omega) (by omega) (by omega)
 have z0:(((0:Nat):Int))=0:=rfl;simp only[List.drop_zero,z0]at key;cases hx:NL s 0 with
 | some u =>
  simp only[hx]at key;rw[key _ (by omega)];rfl
 | none =>
  simp only[hx]at key;generalize hF:(Int.natAbs 16+List.length s+Int.natAbs 1152921504606846976+Int.natAbs 65535+Int.natAbs 0+Int.natAbs (s.length:Int)+Int.natAbs 0+List.length (oc s)+64)=F at *;obtain ⟨w,hw⟩:=key F (by rw[←hF]; omega) _ _ _ _;rw[hw,ao (by rfl),hb,ao rfl]
end Go.Proofs.YtmlkkgfenfdndaaGreatDoor
end
