/-
  GO, part 6 of 10.
-/
import Derived.Test.YtidfokedcnhahaaGreatDoorCards
import Derived.Test.YtidfokedcnhahaaGreatDoorTie
import Derived.Lib.LaidU8T
import Derived.Stop.LaidErr
import Derived.Deep.DeepHandedRow
import Derived.Deep.DeepWitnessRowRef
import Derived.WalkKit
import Derived.ProofKit
import Derived.OpenShut
import Derived.Lib.ValidU
import Derived.Lib.ItoaLen
import Derived.Lib.Repeat
import Derived.Lib.AtoiAll
import Derived.Lib.IndexAny
import Derived.Lib.Bytealg
import Derived.Lib.SlTrimSet
import Derived.Lib.LastIndexByte
import Derived.Sort.Grow
import Derived.Shelf.Strings.BuilderX
import Derived.Test.YtidfokedcnhahaaGreatDoorGOB5
set_option linter.unusedSimpArgs false
set_option linter.unnecessarySimpa false
set_option linter.unusedVariables false
set_option linter.unusedSectionVars false
noncomputable section
set_option maxRecDepth 100000
namespace Go.Proofs.YtidfokedcnhahaaGreatDoor.Door
open Go Go.Lib Go.RowKit Go.ChangeShapes Go.aA
theorem own:ownKnob Tryz.prog.godebug=none:=by kernel_rfl
theorem leaves:Qh Tryz.prog Go.Proofs.YtidfokedcnhahaaGreatDoor.tt:=leaves_ok (by kernel_rfl)
theorem gSyn:Tryz.prog.globalNamed "strconv.ErrSyntax" = some 3:=by kernel_rfl
theorem gRng:Tryz.prog.globalNamed "strconv.ErrRange" = some 4:=by kernel_rfl
theorem tSyn:(Tryz.prog.globals[3]?).map (·.type)=some 158:=by kernel_rfl
theorem tRng:(Tryz.prog.globals[4]?).map (·.type)=some 158:=by kernel_rfl
theorem star : "*" ++ "errors.errorString" = "*errors.errorString" :=by decide
theorem rowErr (u:TypeId) (h:Tryz.prog.typeName? 3 u=some "*errors.errorString"):u=271 :=
 typeName_ptr_named (nm := "errors.errorString") (by rw[star]; kernel_rfl) (by kernel_rfl) (by decide) u (by rw[star]; exact h)
theorem lt_of_var {n:String} {g:Nat} {W:World} {cs:Array Value} (hg:Tryz.prog.globalNamed n=some g) (h:W.var? Tryz.prog n=some cs):g<W.heap.size:=by
 unfold World.var? at h;simp only[hg,Option.bind_some]at h;rcases Nat.lt_or_ge g W.heap.size with h'|h'
 ·exact h'
 ·simp[Array.getElem?_eq_none h']at h
theorem ZV {W:World} (h:laidMet Tryz.prog Rows.orderTellsUptoRow.laid W):pW.says W∧∀b,pW.blocks b→b<W.heap.size:=by
 have r0:VarReads Tryz.prog W "unicode/utf8.first" firstData:=laidMet.reads h (.tail _ (.tail _ (.tail _ (.tail _ (.tail _ (.tail _ (.head _)))))));have r1:VarReads Tryz.prog W "unicode/utf8.acceptRanges" acceptData:=laidMet.reads h (.tail _ (.tail _ (.tail _ (.head _))));have ht:Utf8Tabs 1 2 W:=utf8Tabs_of_readsT (U8Types.of196 Tryz.lay196) ⟨by kernel_rfl,by kernel_rfl,by kernel_rfl,by kernel_rfl,by kernel_rfl,by kernel_rfl,by kernel_rfl⟩ r0 r1;have h2:=laidMet.tail (laidMet.tail h);have hp:TabIs Tryz.prog W "internal/strconv.uint64pow10" .u64 pow10Tab:=tabIs_of_head (t:=267) (e:=244) (n:=20) lay_pow10 (by kernel_rfl) (by kernel_rfl) (by kernel_rfl) (by kernel_rfl) (by kernel_rfl) h2
 have h4:=laidMet.tail (laidMet.tail h2);obtain ⟨a3,s3,v3,_⟩:=laid_sentinel (ms := #[("Error",120)]) (f := { name := "s",type:=9,offset:=0,embedded:=false,tag := "",pkgPath := "errors",byteOffset:=0 }) (te:=273) (ts:=9) h4 gRng tRng (by kernel_rfl) rowErr (by kernel_rfl) (by kernel_rfl) rfl rfl (by kernel_rfl) (by kernel_rfl) (by kernel_rfl);obtain ⟨a2,s2,v2,_⟩:=laid_sentinel (ms := #[("Error",120)]) (f := { name := "s",type:=9,offset:=0,embedded:=false,tag := "",pkgPath := "errors",byteOffset:=0 }) (te:=273) (ts:=9) (laidMet.tail h4) gSyn tSyn (by kernel_rfl) rowErr (by kernel_rfl) (by kernel_rfl) rfl rfl (by kernel_rfl) (by kernel_rfl) (by kernel_rfl)
 refine ⟨⟨ht,hp,⟨_,_,World.var?_cell gSyn v2 0⟩,⟨_,_,World.var?_cell gRng v3 0⟩⟩,fun b hb => ?_⟩;have hb:b<8:=hb;obtain ⟨g,t,cs,fuel,p,hg,_,hv,_⟩:VarReads Tryz.prog W "math/bits.deBruijn64tab" Rows.laid_math_bits_deBruijn64tab:=laidMet.reads h (.tail _ (.head _));have e:(some 7:Option Nat)=some g:=(by kernel_rfl:Tryz.prog.globalNamed "math/bits.deBruijn64tab" = some 7).symm.trans hg;cases e;have l4:=lt_of_var hg hv;omega
abbrev synS:ByteArray := { data := #[105,110,118,97,108,105,100,32,115,121,110,116,97,120] }
abbrev rngS:ByteArray := { data := #[118,97,108,117,101,32,111,117,116,32,111,102,32,114,97,110,103,101] }
def low:Nat:=(World.holding Tryz.prog default ⟨#[], #[], []⟩).heap.size
def lit1:DataW Unit→Value
 | .lit (.int k n) => .int k n
 | _ => .int .u8 0
def litsOf:DataW Unit→List Value
 | .agg l=>l.map lit1
 | _ => []
def yy (os:Os):World :=
 let w0:=World.holding Tryz.prog os ⟨#[.cells #[.string synS] 273, .cells #[.string rngS] 273], #[], []⟩
 let put (h:Array Obj) (g:Nat) (cs:Array Value):Array Obj:=h.modify g fun
  | .cells _ t frozen => .cells cs t frozen
  | o=>o
 let h0:=put w0.heap 1 (firstTab.map fun z=>Value.int .u8 z).toArray
 let h1:=put h0 2 ((List.range 16).flatMap fun i => [Value.int .u8 (accLo i),Value.int .u8 (accHi i)]).toArray
 let h2:=put h1 3 #[.iface 271 (.pointer (some ⟨low,0,none⟩))]
 let h3:=put h2 4 #[.iface 271 (.pointer (some ⟨low+1,0,none⟩))]
 let h4:=put h3 5 (pow10Tab.map fun z=>Value.int .u64 z).toArray
 let h6:=put h4 6 (litsOf Rows.laid_math_bits_deBruijn32tab).toArray
 let h7:=put h6 7 (litsOf Rows.laid_math_bits_deBruijn64tab).toArray
 { w0 with heap:=h7 }
theorem VA (os:Os) (args:Array Value):laidMet Tryz.prog Rows.orderTellsUptoRow.laid ((yy os).forCall (fun _ _=>0) ⟨#[],args, []⟩).memory :=
 laidMet_of_run' 8 (by kernel_rfl) (by kernel_rfl)
end Go.Proofs.YtidfokedcnhahaaGreatDoor.Door
namespace Go.aA
theorem ao {R:Type} {b:Bool} {k:Option R} (h:b=true):bX b k=k:=by subst h; rfl
theorem cv {n:Int} (h1 : -9223372036854775808≤n) (h2:n≤9223372036854775807):IntKind.i64.wrap n=n:=by
 simp only[IntKind.wrap,IntKind.bits,IntKind.signed,IntKind.min,IntKind.max];simp;omega
theorem Json.eta (x:Json):(⟨x.kind,⟨x.num.aq,x.num.exp⟩,x.text,x.names,x.items⟩:Json)=x:=by cases x; rfl
theorem Raw.eta (x:Raw):(⟨x.kind,x.aq,x.exp,x.text,x.items⟩:Raw)=x:=by cases x; rfl
theorem getD_at {α:Type} {l:List α} {i:Nat} (h:i<l.length) (d:α):l.getD i d=l[i]:=by simp[List.getD,h]
end Go.aA
namespace Go.aA
open Go.RowKit
section
variable {P:Program} {tt:dn} {w w':World} {h h':aN} {c c':j8} {R:Type}
theorem Fb (hb:Below w.heap.size w w'):Ext w h c w' h c where
 os:=hb.os
 tape:=hb.tape
 output:=hb.output
 size:=hb.size
 used:=fun _ hi=>hi
 same:=fun i hi hd=>⟨L8 (R1 hi.2 hd) (fun _ _ _ => .inr trivial),rfl,rfl⟩
 cell:=fun b x hx _=>xB (hb.block b hx)
 block:=fun b hx _=>hb.block b hx
 CF:=fun _ _ _ ho=>ho
 ext:=rfl
 arr:=fun b arr e fz hx=>⟨arr,fz,by rw[hb.block b (FM hx)]; exact hx,rfl⟩
theorem Qi (wf:WF w h c) (hb:Below w.heap.size w w'):WF w' h c where
 Ev:=wf.Ev
 sB:=fun b x he=>Nat.lt_of_lt_of_le (wf.sB b x he) hb.size
 obj:=fun i hi=>by
  by_cases hl:(h.at i).live
  ·exact (wf.obj i hi).Ar (Fb hb) (fun b pX=>hb.block b ((wf.obj i hi).lt hl pX)) rfl rfl
  ·have h0:h.at i = .free∨h.at i = .dead:=by revert hl; cases h.at i <;> simp[cb.live]
   rcases h0 with h0|h0 <;> rw[h0] <;> trivial
 inj:=wf.inj
 lay:=wf.wQ (Fb hb)
theorem xE {g:Nat} {fn:Func} (hf:P.funcs[g]? = some fn) (hn:(fn.name == "runtime.NumGoroutine")=false) (hb:fn.body.isNone=false) {args:Array Value} {Q:Value→World→Prop}
  (h:Calls P g args w fun e w'=>∃d,e = .returned d∧Q d w'):C1 P g args w Q:=by
 refine ⟨.enter g args,w,?_,h⟩;have hn':fn.name ≠ "runtime.NumGoroutine" :=by simpa using hn
 have pX:fn.body≠none:=fun e=>by rw[e]at hb; cases hb
 simp[callFunc,hf,hn',pX]
theorem pc {g:Nat} {fn:Func} (hf:P.funcs[g]? = some fn) (hn:(fn.name == "runtime.NumGoroutine")=false) (hb:fn.body.isNone=false) {sp:Spec R}
  (hs:∀vs hp k r,sp vs hp k=some r→∀(w:World) (c:j8) (args:Array Value),WF w hp c→cz w hp c vs args.toList →
   ∃v,k v hp=some r∧Calls P g args w fun e w'=>∃d,e = .returned d∧Below w.heap.size w w'∧dx w' hp c v d):Spec.Ok P g sp:=by
 intro vs hp k r hk w c args wf ra;obtain ⟨v,hv,hc⟩:=hs vs hp k r hk w c args wf ra;refine xE hf hn hb (Calls.mono hc ?_)
 rintro e w' ⟨d,he,hbl,hr⟩
 exact ⟨d,he,v,hp,c,Qi wf hbl,Fb hbl,hr,hv⟩
theorem repL1 {v:V} {args:Array Value} (ra:cz w h c [v] args.toList):∃d,args = #[d]∧dx w h c v d:=by
 obtain ⟨l⟩:=args
 match l,ra with
 | [d],ra=>exact ⟨d,rfl,ra.head⟩
 | [],ra=>have:=ra.1; simp at this
 | _::_::_,ra=>have:=ra.1; simp at this
theorem repL2 {u v:V} {args:Array Value} (ra:cz w h c [u,v] args.toList):∃d e,args = #[d,e]∧dx w h c u d∧dx w h c v e:=by
 obtain ⟨l⟩:=args
 match l,ra with
 | [d,e],ra=>exact ⟨d,e,rfl,ra.head,ra.tail.head⟩
 | [],ra=>have:=ra.1; simp at this
 | [_],ra=>have:=ra.1; simp at this
 | _::_::_::_,ra=>have:=ra.1; simp at this
end
section
variable {P:Program} {tt:dn} {w w':World} {h h':aN} {c c':j8} {R:Type}
def Yp (R:Type):Spec R:=fun vs h k =>
 match vs with
 | [.ptr i 0]=>(match h.at i with | .mZ _=>k (.tuple []) h|_=>none)
 | _=>none
theorem Xo {i:Nat} {v:V} {a':Value} (wf:WF w h c) (ra:dx w h c (.ptr i 0) a') (hv:h.at i = .mZ v) :
  ∃b p d,a' = .pointer (some ⟨b,0,none⟩)∧c.wO i=some b∧w.heap[b]? = some (Obj.cells #[p,d] pW.mZ (0,0))∧(p = .pointer none∨p = .pointer (some ⟨b,0,none⟩))∧dx w h c v d:=by
 have hi:=aN.gK hv (by simp);have ho:=wf.obj i hi;rw[hv]at ho;obtain ⟨b,p,d,g1,g2,g3,g4⟩:=ho;cases ra with
 | ptr hu hq =>
  obtain ⟨b',rfl,pX⟩:=hq;have:=pX (by rw[hv]; simp);rw[g1]at this; cases this;exact ⟨b,p,d,rfl,g1,g2,g3,g4⟩
theorem bcc_ok {g:Nat} {fn:Func} (hf:P.funcs[g]? = some fn) (hn:(fn.name == "runtime.NumGoroutine")=false) (hb:fn.body.isNone=false)
  (fresh:∀(b:Nat) (w:World),w.cell? ⟨b,0,none⟩=some (.pointer none)→w.shape? b=some (pW.mZ,2)→w.frozen? ⟨b,0,none⟩=false →
   Calls P g #[.pointer (some ⟨b,0,none⟩)] w fun e w'=>e = .returned (.tuple #[])∧w'=w.setCell ⟨b,0,none⟩ (.pointer (some ⟨b,0,none⟩)))
  (used:∀(b:Nat) (w:World),w.cell? ⟨b,0,none⟩=some (.pointer (some ⟨b,0,none⟩))→Calls P g #[.pointer (some ⟨b,0,none⟩)] w fun e w'=>e = .returned (.tuple #[])∧w'=w):Spec.Ok P g (Yp R):=by
 intro vs h k r hk w c args wf ra;unfold Yp at hk;split at hk <;> (try cases hk);rename_i i;split at hk <;> (try cases hk);rename_i v hv;obtain ⟨a',rfl,r1⟩:=repL1 ra;obtain ⟨b,p,d,rfl,g1,g2,g3,g4⟩:=Xo wf r1 hv;have SU:w.cell? ⟨b,0,none⟩=some p:=by rw[cell_of_row w b _ _ _ _ g2]; rfl
 have rt:∀w' h' c',dx w' h' c' (.tuple []) (.tuple #[]):=fun w' h' c' => .tuple rfl (fun j v d hv=>by simp at hv)
 rcases g3 with rfl|rfl
 ·refine xE hf hn hb (Calls.mono (fresh b w SU (by simp[World.shape?,g2]) (xD g2 0)) ?_)
  rintro e w' ⟨he,rfl⟩
  have pX:(w.setCell ⟨b,0,none⟩ (.pointer (some ⟨b,0,none⟩))).heap[b]? = some (.cells #[.pointer (some ⟨b,0,none⟩),d] pW.mZ (0,0)):=by
   simp[World.setCell,Array.getElem?_modify,g2]
  have hw:Wrote w (w.setCell ⟨b,0,none⟩ (.pointer (some ⟨b,0,none⟩))) b #[.pointer (some ⟨b,0,none⟩),d] pW.mZ (0,0):=⟨rfl,rfl,rfl,by simp,fun k hk=>heap_setCell_other w _ k _ hk,pX⟩;have wR:(h.at i).from_ (c.off i)=some 0:=by rw[hv]; rfl
  have zA:(h.at i).iS (.mZ v):=by rw[hv]; trivial
  have Xe:h.set i (.mZ v)=h:=by
   have hi:=aN.gK hv (by simp);have e:h[i] = .mZ v:=by
    have:=hv;unfold aN.at at this;simpa [List.getD,List.getElem?_eq_getElem hi]using this
   rw[←e];exact List.set_getElem_self hi
  have x:=Vj g1 g2 hw rfl wR rfl zA;have q:=upd_wf wf g1 g2 hw rfl wR rfl zA ⟨b,_,d,g1,pX, .inr rfl,g4.mono x⟩;rw[Xe]at x q;exact ⟨_,he,_,h,c,q,x,rt _ _ _,hk⟩
 ·refine xE hf hn hb (Calls.mono (used b w SU) ?_)
  rintro e w' ⟨he,rfl⟩
  exact ⟨_,he,_,h,c,wf, .refl _ _ _,rt _ _ _,hk⟩
def xq (l:List Int):ae:=l.map fun n=>UInt8.ofNat n.toNat
theorem bstr_len (l:List Int):(xq l).length=l.length:=List.length_map _
theorem bstr_get (l:List Int) (m:Nat) (x:UInt8) (h:(xq l)[m]? = some x):∃n,l[m]? = some n∧x=UInt8.ofNat n.toNat:=by
 unfold xq at h;rw[List.getElem?_map]at h;cases hm:l[m]? with
 | none=>rw[hm]at h; cases h
 | some n=>rw[hm]at h; simp at h; exact ⟨n,rfl,h.symm⟩
def NG (R:Type):Spec R:=fun vs h k =>
 match vs with
 | [.ptr i 0] =>
  (match h.at i with
   | .mZ .bB=>k (.str []) h
   | .mZ (.sl (.int .u8) l (.own j))=>(match h.at j with | .tok=>k (.str (xq l)) h|_=>none)
   | _=>none)
 | _=>none
theorem Sa:P9 (NG R):=by
 intro vs h k k' he;unfold NG;split <;> try rfl
 split <;> try (first|rfl|exact he _)
 split <;> first|rfl|exact he _
theorem freeze_wf (wf:WF w h c) {j g:Nat} (hj:h.at j = .tok) (hg:c.wO j=some g) {cur:Array Value} {e:TypeId} {fz P5:Nat×Nat} (h1:w.heap[g]? = some (.cells cur e fz))
  (hos:w'.os=w.os) (htape:w'.tape=w.tape) (hout:w'.output=w.output) (hsize:w'.heap.size=w.heap.size) (Xc:∀k,k≠g→w'.heap[k]? = w.heap[k]?) (h2:w'.heap[g]? = some (.cells cur e P5))
  (hfz:(fz.1=fz.2∨fz.2≤c.off j)→(P5.1=P5.2∨P5.2≤c.off j)) :
  WF w' h c∧Ext w h c w' h c:=by
 have hjl:=aN.gK hj (by simp);have mz:yt h c g (c.off j):=⟨j,c.off j,hg,by rw[hj]; rfl,Nat.le_refl _⟩;have EN:∀b x,w'.cell? ⟨b,x,none⟩=w.cell? ⟨b,x,none⟩:=fun b x=>by
  by_cases hb:b=g
  ·subst hb; rw[cell_of_row w' b x cur e P5 h2,cell_of_row w b x cur e fz h1]
  ·exact xB (Xc b hb)
 have x:Ext w h c w' h c := {
  os:=hos
  tape:=htape
  output:=hout
  size:=by omega
  used:=(Ext.refl w h c).used
  same:=(Ext.refl w h c).same
  cell:=fun b x _ _=>EN b x
  block:=fun b _ ho=>Xc b (by rintro rfl; exact ho _ mz)
  CF:=(Ext.refl w h c).CF
  ext:=rfl
  arr:=fun b arr el fz0 hb=>by
   by_cases hbg:b=g
   ·subst hbg; rw[h1]at hb; cases hb; exact ⟨cur,P5,h2,rfl⟩
   ·exact ⟨arr,fz0,by rw[Xc b hbg]; exact hb,rfl⟩ }
 refine ⟨?_,x⟩;exact {
  lay:=wf.wQ x
  Ev:=wf.Ev
  sB:=fun b y he=>by rw[hsize]; exact wf.sB b y he
  obj:=fun i hi=>by
   by_cases B7:i=j
   ·subst B7;have:=wf.obj i hi;rw[hj]at this ⊢;rcases this with h0|⟨b',Ni,e',fz0,p1,p2,p3,p4⟩
    ·rw[hg]at h0; cases h0
    ·rw[hg]at p1; cases p1;rw[h1]at p2; cases p2;exact .inr ⟨g,cur,e,P5,hg,h2,p3,hfz p4⟩
   ·by_cases hl:(h.at i).live
    ·refine (wf.obj i hi).Ar x (fun b hb=>Xc b ?_) rfl rfl
     rintro rfl
     exact B7 (wf.inj i j b hl (by rw[hj]; trivial) hb hg)
    ·have h0:h.at i = .free∨h.at i = .dead:=by revert hl; cases h.at i <;> simp[cb.live]
     rcases h0 with h0|h0 <;> rw[h0] <;> trivial
  inj:=wf.inj }
theorem freeze_facts {q n:Nat} {cur:Array Value} {e:TypeId} {fz:Nat×Nat} (hn:n≠0) (hq:w.heap[q]? = some (.cells cur e fz)) :
  (w.drew.freeze ⟨q,0,none⟩ n).os=w.os∧(w.drew.freeze ⟨q,0,none⟩ n).tape=w.tape∧(w.drew.freeze ⟨q,0,none⟩ n).output=w.output∧(w.drew.freeze ⟨q,0,none⟩ n).heap.size=w.heap.size ∧
   (∀k,k≠q→(w.drew.freeze ⟨q,0,none⟩ n).heap[k]? = w.heap[k]?)∧∃P5,(w.drew.freeze ⟨q,0,none⟩ n).heap[q]? = some (.cells cur e P5)∧∀o,n≤o→(fz.1=fz.2∨fz.2≤o)→(P5.1=P5.2∨P5.2≤o):=by
 obtain ⟨lo,hi⟩:=fz;unfold World.freeze;rw[if_neg hn];refine ⟨rfl,rfl,rfl,Array.size_modify,fun k hk => ?_,(if lo==hi then (0,0+n)else (min lo 0,max hi (0+n))),?_,fun o ho hf => ?_⟩
 ·simp only[Array.getElem?_modify];rw[if_neg (Ne.symm hk)];rfl
 ·simp only[Array.getElem?_modify,if_true];rw[show w.drew.heap[q]? = some (.cells cur e (lo,hi))from hq];rfl
 ·simp only at hf;split
  ·exact .inr (by simp; omega)
  ·rename_i jW;have:lo≠hi:=by simpa using jW
   exact .inr (by simp; omega)
theorem u8_of {n:Int} (hn:IntKind.u8.has n):((UInt8.ofNat n.toNat).toNat:Int)=n:=by
 have:0≤n∧n≤255:=by simpa [IntKind.has,IntKind.min,IntKind.max,IntKind.signed,IntKind.bits]using hn
 simp only[UInt8.toNat_ofNat'];omega
structure StringDoes (P:Program) (g:Nat):Prop where
 nil:∀(b:Nat) (p:Value) (w:World),w.heap[b]? = some (.cells #[p, .slice none 0 0] pW.mZ (0,0)) →
  Calls P g #[.pointer (some ⟨b,0,none⟩)] w fun e w'=>e = .returned (.string ⟨#[]⟩)∧Below w.heap.size w w'
 noroom:∀(b q:Nat) (p:Value) (cur:Array Value) (fz:Nat×Nat) (w:World),w.heap[b]? = some (.cells #[p, .slice (some ⟨q,0,none⟩) 0 0] pW.mZ (0,0))→w.heap[q]? = some (.cells cur pW.u8 fz) →
  Calls P g #[.pointer (some ⟨b,0,none⟩)] w fun e w'=>e = .returned (.string ⟨#[]⟩)∧Below w.heap.size w w'
 room:∀(b q cap:Nat) (p:Value) (w:World),cap≠0→w.heap[b]? = some (.cells #[p, .slice (some ⟨q,0,none⟩) 0 cap] pW.mZ (0,0)) →
  Calls P g #[.pointer (some ⟨b,0,none⟩)] w fun e w'=>e = .returned (.string ⟨#[]⟩)∧Below w.heap.size w w'
 some:∀(b q cap:Nat) (p:Value) (cur:Array Value) (fz:Nat×Nat) (l:List UInt8) (w:World),l ≠ []→w.heap[b]? = some (.cells #[p, .slice (some ⟨q,0,none⟩) l.length cap] pW.mZ (0,0)) →
  w.heap[q]? = some (.cells cur pW.u8 fz)→l.length≤cap→cap≤mx→l.length≤cur.size→(∀(j:Nat) (x:UInt8),l[j]? = some x→w.cell? ⟨q,j,none⟩=some (.int .u8 x.toNat)) →
  Calls P g #[.pointer (some ⟨b,0,none⟩)] w fun e w'=>e = .returned (.string ⟨l.toArray⟩)∧w'=w.drew.freeze ⟨q,0,none⟩ l.length
theorem bstr_ok {g:Nat} {fn:Func} (hf:P.funcs[g]? = some fn) (hn:(fn.name == "runtime.NumGoroutine")=false) (hb:fn.body.isNone=false) (D:StringDoes P g):Spec.Ok P g (NG R):=by
 intro vs h k r hk w c args wf ra;unfold NG at hk;split at hk <;> (try cases hk);rename_i i;obtain ⟨a',rfl,r1⟩:=repL1 ra;have empty:∀ {w':World} {h':aN} {c':j8},dx w' h' c' (.str []) (.string ⟨#[]⟩):=fun {w' h' c'}=>HG ⟨#[]⟩ rfl (Nat.zero_le _)
 split at hk <;> (try cases hk)
 ·rename_i hv;obtain ⟨b,p,d,rfl,g1,g2,g3,g4⟩:=Xo wf r1 hv;cases g4;refine xE hf hn hb (Calls.mono (D.nil b p w g2) ?_)
  rintro e w' ⟨he,hbl⟩
  exact ⟨_,he,_,h,c,Qi wf hbl,Fb hbl,empty,hk⟩
 ·rename_i l j hv;split at hk <;> (try cases hk);rename_i hj;obtain ⟨b,p,d,rfl,g1,g2,g3,g4⟩:=Xo wf r1 hv;have hi:=aN.gK hv (by simp);have B7:j≠i:=by rintro rfl; rw[hj]at hv; cases hv
  have hu8:∀x∈(l:List Int),IntKind.u8.has x:=by
   intro x hx;cases g4 with
   | sl f jd uP hc hr E0 mz =>
    obtain ⟨m,hm⟩:=List.mem_iff_getElem?.1 hx;exact (hr m 0 x (.int .u8 x) hm rfl).fA.2
  have hlen:(xq l).length=List.length (α:=Int) l:=bstr_len l;cases g4 with
  | @sl _ _ _ A cap f jd uP hc hr E0 mz =>
   obtain ⟨_,ho⟩:=mz j rfl;have hcap':List.length (α:=Int) l≤cap:=jd;have Vc:∀(w':World) (h':aN) (c':j8),dx w' h' c' (.str (xq l)) (.string ⟨(xq l).toArray⟩):=fun w' h' c'=>HG _ rfl (by rw[hlen]; exact Nat.le_trans jd uP)
   rcases ho hj with ⟨e1,rfl,rfl⟩|⟨q,o,cur,e,fz,e1,rfl,e3,e4,e5,e6⟩
   ·have Yb:l = []:=List.eq_nil_of_length_eq_zero (Nat.le_zero.1 jd);subst Yb;refine xE hf hn hb (Calls.mono (D.nil b p w g2) ?_)
    rintro e w' ⟨he,hbl⟩
    exact ⟨_,he,_,h,c,Qi wf hbl,Fb hbl,Vc _ _ _,hk⟩
   ·obtain ⟨rfl,rfl⟩:=e6 rfl;by_cases Yb:l = []
    ·subst Yb;by_cases SU:cap=0
     ·subst SU;refine xE hf hn hb (Calls.mono (D.noroom b q p cur fz w g2 e4) ?_)
      rintro e w' ⟨he,hbl⟩
      exact ⟨_,he,_,h,c,Qi wf hbl,Fb hbl,Vc _ _ _,hk⟩
     ·refine xE hf hn hb (Calls.mono (D.room b q cap p w SU g2) ?_)
      rintro e w' ⟨he,hbl⟩
      exact ⟨_,he,_,h,c,Qi wf hbl,Fb hbl,Vc _ _ _,hk⟩
    ·have hbl:xq l ≠ []:=fun e=>Yb (List.eq_nil_of_length_eq_zero (hlen.symm.trans (by rw[e]; rfl)))
     have e5':0+cap*1≤cur.size:=e5;have K7:∀(m:Nat) (x:UInt8),(xq l)[m]? = some x→w.cell? ⟨q,m,none⟩=some (.int .u8 x.toNat):=by
      intro m x hx;obtain ⟨n,hm,rfl⟩:=bstr_get l m x hx;have hml:m<List.length (α:=Int) l:=(List.getElem?_eq_some_iff.1 hm).1;obtain ⟨b',o',hA,EN,_⟩:=hc m 0 hml (by simp[Ty.sz]);cases hA;have hrn:=hr m 0 n (.int .u8 n) hm rfl;rw[hrn.fA.1]at EN;rw[u8_of hrn.fA.2];simpa [Ty.sz]using EN
     have g2':w.heap[b]? = some (.cells #[p, .slice (some ⟨q,0,none⟩) (xq l).length cap] pW.mZ (0,0)):=by rw[hlen]; exact g2
     refine xE hf hn hb (Calls.mono (D.some b q cap p cur fz (xq l) w hbl g2' e4 (by rw[hlen]; exact jd) uP (by rw[hlen]; omega) K7) ?_)
     rintro e w' ⟨he,rfl⟩
     have hne0:(xq l).length≠0:=by simpa using hbl
     obtain ⟨f1,f2,f3,f4,f5,P5,f6,f7⟩:=freeze_facts hne0 e4;obtain ⟨q1,q2⟩:=freeze_wf wf hj e1 e4 f1 f2 f3 f4 f5 f6 (f7 _ (by rw[e3,hlen]; simp[Ty.sz]; exact Nat.le_refl _));exact ⟨_,he,_,h,c,q1,q2,Vc _ _ _,hk⟩
end
def xF (s:ae):Bool:=s.all fun b=>decide (b.toNat<128)
def ft (s:ae):Bool:=Go.Lib.validD s
def pQ (s:ae):Nat×Nat:=if s.isEmpty then (65533,0)else Utf8.decode ⟨s.toArray⟩ 0
def cr (n:Int):ae:=Go.Lib.itoa n
def lE (s:ae) (n:Int):ae:=Go.Lib.repeatL s n.toNat
def bx (s cs:ae):ae:=s.dropWhile (cs.contains ·)
def cN (s cs:ae):ae:=(s.reverse.dropWhile (cs.contains ·)).reverse
def xG (s:ae):Bool:=match Go.Lib.atoiAll s with | .ok _=>true|_=>false
def eH (s:ae):Int:=match Go.Lib.atoiAll s with | .ok v=>v | .range=>Go.Lib.atoiSat s|_=>0
def hasAny (s cs:ae):Bool:=Go.Lib.containsAny s cs
def Ga (s:ae) (c:UInt8):Int:=Go.Lib.lastIndexByte ⟨s.toArray⟩ (c.toNat:Int)
def FP (s:ae) (c:Int):Int:=Go.Lib.indexByte s c.toNat.toUInt8
section
variable (R:Type)
def valid_S:Spec R:=fun vs h k=>match vs with | [.str s]=>k (.bool (ft s)) h|_=>none
def dec_S:Spec R:=fun vs h k=>match vs with | [.str s]=>k (.tuple [.int .i32 (pQ s).1, .int .i64 (pQ s).2]) h|_=>none
def itoa_S:Spec R:=fun vs h k=>match vs with | [.int .i64 n]=>k (.str (cr n)) h|_=>none
def rep_S:Spec R:=fun vs h k=>match vs with | [.str s, .int .i64 n]=>bX (decide (0≤n)&&decide ((s.length:Int)*n≤140737488355328)) (k (.str (lE s n)) h)|_=>none
def Sb:Spec R:=fun vs h k=>match vs with | [.str s, .str cs]=>bX (xF cs&&decide (cs.length<4294967281)) (k (.str (bx s cs)) h)|_=>none
def trimR_S:Spec R:=fun vs h k=>match vs with | [.str s, .str cs]=>bX (xF cs&&decide (cs.length<4294967281)) (k (.str (cN s cs)) h)|_=>none
def atoi_S:Spec R:=fun vs h k=>match vs with
 | [.str s]=>bX (decide (s.length≤281474976710656)) (bif xG s then k (.tuple [.int .i64 (eH s), .dK]) h else k (.tuple [.int .i64 (eH s), .iface]) h)
 | _=>none
def toErr_S (T:Nat):Spec R:=fun vs h k=>match vs with
 | [.str _, .str s, .int .i64 _, .int .i64 _, .TA t .i64 n]=>bX (Nat.beq t T&&(n==2||n==1)) (bX (decide (s.length≤281474976710656)) (k .iface h))
 | _=>none
def hasAny_S:Spec R:=fun vs h k=>match vs with
 | [.str s, .str cs]=>bX (xF s&&xF cs&&decide (s.length<4294967281)&&decide (cs.length<4294967281)) (k (.bool (hasAny s cs)) h)
 | _=>none
def lastI_S:Spec R:=fun vs h k=>match vs with | [.str s, .str [c]]=>bX (decide (s.length≤281474976710656)) (k (.int .i64 (Ga s c)) h)|_=>none
def idx_S:Spec R:=fun vs h k=>match vs with | [.str s, .int .u8 c]=>k (.int .i64 (FP s c)) h|_=>none
end
section
variable {P:Program} {w w':World} {h:aN} {c:j8} {R:Type}
open Go.Lib
theorem ZW {s:ae} (hs:xF s=true):∀(j:Nat) (b:UInt8),s[j]? = some b→b.toNat<128:=by
 intro j b hb;have:=List.all_eq_true.1 hs b (List.mem_of_getElem? hb);simpa using this
theorem C2 (p:UInt8→Bool):∀s:ae,(s.dropWhile p).length≤s.length
 | []=>Nat.le_refl _
 | b::s=>by
  rw[List.dropWhile_cons];split
  ·have:=C2 p s; simp; omega
  ·exact Nat.le_refl _
theorem str_of (l:ae) (h':l.length≤mx):dx w h c (.str l) (.string ⟨l.toArray⟩):=HG _ rfl h'
theorem lY {g:Nat} {args:Array Value} {Q:Ending→World→Prop} {v:V} (hc:Calls P g args w Q)
  (hq:∀e w',Q e w'→∃d,e = .returned d∧Below w.heap.size w w'∧dx w' h c v d):Calls P g args w fun e w'=>∃d,e = .returned d∧Below w.heap.size w w'∧dx w' h c v d:=Calls.mono hc fun e w' q=>hq e w' q
end
end Go.aA
set_option maxRecDepth 100000
namespace Go.Proofs.YtidfokedcnhahaaGreatDoor
open Go Go.aA Go.RowKit Go.Shelf
section
variable {w w':World} {h:aN} {c:j8} {R:Type}
theorem below_drewN:∀(q:Nat) (a:World),Below w.heap.size w a→Below w.heap.size w (a.drewN q)
 | 0,_,ha=>ha
 | q+1,a,ha=>(below_drewN q a ha).drew
theorem below_push (a:World) (os:Array Obj) (ha:Below w.heap.size w a):Below w.heap.size w { a with heap:=a.heap++os } :=
 ⟨ha.os,ha.tape,ha.output,by simp; have:=ha.size; omega,fun k hk=>by
  have:=ha.size;rw[←ha.block k hk];exact Array.getElem?_append_left (by omega)⟩
theorem below_bytes (e:TypeId) (t:ByteArray):Below w.heap.size w (Go.Lib.bytesWorld w e t):=by
 unfold Go.Lib.bytesWorld World.freeze;have hb:Below w.heap.size w (w.drew.alloc (.cells (Go.Lib.bytesCells w e t) e)):=E6 w _;split
 ·exact hb
 ·refine ⟨hb.os,hb.tape,hb.output,?_,fun k hk => ?_⟩
  ·have:=hb.size; simpa using this
  ·rw[←hb.block k hk];simp only[Array.getElem?_modify];rw[if_neg (by show ¬w.heap.size=k; omega)]
theorem trimL_le (s cs:ae):(bx s cs).length≤s.length:=C2 _ s
theorem trimR_le (s cs:ae):(cN s cs).length≤s.length:=by
 unfold cN;rw[List.length_reverse];exact Nat.le_trans (C2 _ _) (by simp)
theorem trimL_nil (s:ae):bx s []=s:=by
 unfold bx;cases s with
 | nil=>rfl
 | cons b s=>simp
theorem trimR_nil (s:ae):cN s []=s:=by
 unfold cN;have:(s.reverse.dropWhile fun x=>List.contains [] x)=s.reverse:=by
  cases s.reverse with
  | nil=>rfl
  | cons b s=>simp
 rw[this,List.reverse_reverse]
theorem trimL_one (s:ae) (b:UInt8):bx s [b]=Go.Lib.trimLeftB s b:=by
 unfold bx Go.Lib.trimLeftB;congr 1;funext x;rw[List.contains_cons];show (x==b||false)=_;rw[Bool.or_false]
theorem trimR_one (s:ae) (b:UInt8):cN s [b]=Go.Lib.trimRightB s b:=by
 unfold cN Go.Lib.trimRightB;congr 2;funext x;rw[List.contains_cons];show (x==b||false)=_;rw[Bool.or_false]
theorem valid_ok:aA.Spec.Ok Tryz.prog 200 (valid_S R):=by
 refine pc Tryz.func200 rfl rfl fun vs hp k r hk w c args wf ra => ?_
 unfold valid_S at hk;split at hk <;> (try cases hk);rename_i s;obtain ⟨a,rfl,r1⟩:=repL1 ra;obtain ⟨t,rfl,rfl,hl⟩:=r1.gS;refine ⟨_,hk,lY (Any.utf8_ValidString Tryz.lay196 t w hl wf.lay.1.1) ?_⟩
 rintro e w' ⟨he,hb⟩
 exact ⟨_,he,hb, .bool _⟩
theorem dec_ok:aA.Spec.Ok Tryz.prog 184 (dec_S R):=by
 refine pc Tryz.func184 rfl rfl fun vs hp k r hk w c args wf ra => ?_
 unfold dec_S at hk;split at hk <;> (try cases hk);rename_i s;obtain ⟨a,rfl,r1⟩:=repL1 ra;obtain ⟨t,rfl,rfl,hl⟩:=r1.gS;have hd:Go.Lib.decodeGo t=pQ t.data.toList:=by
  unfold Go.Lib.decodeGo pQ;by_cases h0:t.size=0
  ·have:t.data.toList = []:=List.eq_nil_of_length_eq_zero (by rw[size_data]; exact h0);simp[h0,this]
  ·have:t.data.toList ≠ []:=fun e=>h0 (by rw[←size_data,e]; rfl)
   have hm:(⟨t.data.toList.toArray⟩:ByteArray)=t:=uX rfl;simp[h0,hm];exact fun e=>absurd (show t.data.size=0 by rw[e]; rfl) h0
 have jz:(pQ t.data.toList).1<2097152∧(pQ t.data.toList).2≤4:=by
  unfold pQ;split
  ·exact ⟨by omega,by omega⟩
  ·exact ⟨(Xd _ _).1,(Xd _ _).2.2⟩
 refine ⟨_,hk,lY (Any.utf8_DecodeRuneInString Tryz.lay197 t w wf.lay.1.1) ?_⟩
 rintro e w' ⟨he,hb⟩
 rw[hd]at he;refine ⟨_,he,hb, .tuple rfl fun j v d hv hd => ?_⟩
 match j,hv,hd with
 | 0,hv,hd=>simp at hv hd; subst hv; subst hd; exact .int (has_rune _ jz.1)
 | 1,hv,hd=>simp at hv hd; subst hv; subst hd; exact .int (Nj _ (by unfold mx; omega))
 | j+2,hv,_=>simp at hv
theorem itoa_ok:aA.Spec.Ok Tryz.prog 172 (itoa_S R):=by
 refine pc Tryz.func172 rfl rfl fun vs hp k r hk w c args wf ra => ?_
 unfold itoa_S at hk;split at hk <;> (try cases hk);rename_i n;obtain ⟨a,rfl,r1⟩:=repL1 ra;obtain ⟨rfl,hn⟩:=r1.fA;have hn' : -9223372036854775808≤n∧n≤9223372036854775807:=by simpa [IntKind.has,IntKind.min,IntKind.max,IntKind.signed,IntKind.bits]using hn
 refine ⟨_,hk,lY (Any.strconv_Itoa Tryz.lay171 n hn'.1 hn'.2 w wf.lay.1.2.1) ?_⟩
 rintro e w' ⟨he,q,os,rfl⟩
 refine ⟨_,he,below_push _ os (below_drewN q w (Below.refl _ _)),str_of _ ?_⟩;have:=Go.Lib.itoa_length_le n hn'.1 hn'.2;unfold cr mx;omega
theorem x72:Builder.X72 Tryz.prog Tryz.NF := { sizeBuilder:=by kernel_rfl,liesBuilder:=by kernel_rfl }
theorem xBuilder:Builder.Extra Tryz.prog Tryz.NF := { x72 with t5:=Tryz.underlying5,a5:=Tryz.isAgg5,z5:=Tryz.sizeOf5,v5:=Tryz.zeroValue5,infoByte:=by kernel_rfl,cellsByte:=by kernel_rfl,sizeByte:=by kernel_rfl,neB5:=by decide }
theorem rep_ok:aA.Spec.Ok Tryz.prog 173 (rep_S R):=by
 refine pc Tryz.func173 rfl rfl fun vs hp k r hk w c args wf ra => ?_
 unfold rep_S at hk;split at hk <;> (try cases hk);rename_i s n;obtain ⟨hc,hk⟩:=bY hk;simp only[Bool.and_eq_true,decide_eq_true_eq]at hc;obtain ⟨h0,hlen⟩:=hc;obtain ⟨a,b,rfl,r1,r2⟩:=repL2 ra;obtain ⟨t,rfl,rfl,hl⟩:=r1.gS;obtain ⟨rfl,hn⟩:=r2.fA;obtain ⟨m,rfl⟩:=Int.eq_ofNat_of_zero_le h0;have hn':(m:Int)≤9223372036854775807:=by
  have:IntKind.i64.has (m:Int):=hn;simp[IntKind.has,IntKind.min,IntKind.max,IntKind.signed,IntKind.bits]at this;omega
 rw[size_data]at hlen;have hlen':t.size*m≤140737488355328:=by omega
 have hrl:(Go.Lib.repeatL t.data.toList m).length≤140737488355328:=by
  rw[Go.Lib.repeatL_length,size_data,Nat.mul_comm]; exact hlen'
 refine ⟨_,hk,lY (Any.strings_Repeat Tryz.lay105 xBuilder t m w (by omega) hlen') ?_⟩
 rintro e w' ⟨he,hb⟩
 refine ⟨_,he,hb,?_⟩;have e2:lE t.data.toList (m:Int)=Go.Lib.repeatL t.data.toList m:=by unfold lE; simp
 rw[e2];exact str_of _ (by unfold mx; omega)
theorem VB:aA.Spec.Ok Tryz.prog 105 (Sb R):=by
 refine pc Tryz.func105 rfl rfl fun vs hp k r hk w c args wf ra => ?_
 unfold Sb at hk;split at hk <;> (try cases hk);rename_i s cs;obtain ⟨hc,hk⟩:=bY hk;simp only[Bool.and_eq_true,decide_eq_true_eq]at hc;obtain ⟨ha,P1⟩:=hc;obtain ⟨a,b,rfl,r1,r2⟩:=repL2 ra;obtain ⟨t,rfl,rfl,hl⟩:=r1.gS;obtain ⟨u,rfl,rfl,hl2⟩:=r2.gS;rw[size_data]at P1;have hasc:=ZW ha;have hle:=trimL_le t.data.toList u.data.toList;rw[size_data]at hle;have fin:∀(l:ae),l=bx t.data.toList u.data.toList→∀w':World,dx w' hp c (.str (bx t.data.toList u.data.toList)) (.string ⟨l.toArray⟩):=fun l e w'=>by
  rw[e]; exact str_of _ (by omega)
 by_cases h0:t.size=0∨u.size=0
 ·refine ⟨_,hk,lY (Any.strings_TrimLeft_empty Tryz.lay161 t u w h0) ?_⟩
  rintro e w' ⟨he,rfl⟩
  have e2:(⟨t.data.toList.toArray⟩:ByteArray)=t:=uX rfl;rw[←e2]at he;refine ⟨_,he,Below.refl _ _,fin _ ?_ _⟩;rcases h0 with h0|h0
  ·have:t.data.toList = []:=List.eq_nil_of_length_eq_zero (by rw[size_data]; exact h0);rw[this]; unfold bx; simp
  ·have:u.data.toList = []:=List.eq_nil_of_length_eq_zero (by rw[size_data]; exact h0);rw[this,trimL_nil]
 ·have hu1:u.size=1∨2≤u.size:=by omega
  rcases hu1 with hu1|hu2
  ·obtain ⟨b,hb⟩:∃b,u.data.toList = [b]:=by
    have hul:u.data.toList.length=1:=by rw[size_data]; exact hu1
    match hq:u.data.toList,hul with
    | [b],_=>exact ⟨b,rfl⟩
   have eu:u=⟨#[b]⟩:=uX (by rw[hb]);subst eu;refine ⟨_,hk,lY (Any.strings_TrimLeft_one Tryz.lay161 t b (hasc 0 b rfl) w) ?_⟩
   rintro e w' ⟨he,rfl⟩
   exact ⟨_,he,Below.refl _ _,fin _ (trimL_one _ _).symm _⟩
  ·refine ⟨_,hk,lY (Any.strings_TrimLeft_set Tryz.lay161 Tryz.zeroValue178 (by kernel_rfl) t u w hu2 (by omega) (by omega) hasc) ?_⟩
   rintro e w' ⟨he,rfl⟩
   refine ⟨_,he,?_,fin _ rfl _⟩;exact ((Below.refl _ _).alloc (Nat.le_refl _) _).alloc (by simp) _
theorem trimR_ok:aA.Spec.Ok Tryz.prog 193 (trimR_S R):=by
 refine pc Tryz.func193 rfl rfl fun vs hp k r hk w c args wf ra => ?_
 unfold trimR_S at hk;split at hk <;> (try cases hk);rename_i s cs;obtain ⟨hc,hk⟩:=bY hk;simp only[Bool.and_eq_true,decide_eq_true_eq]at hc;obtain ⟨ha,P1⟩:=hc;obtain ⟨a,b,rfl,r1,r2⟩:=repL2 ra;obtain ⟨t,rfl,rfl,hl⟩:=r1.gS;obtain ⟨u,rfl,rfl,hl2⟩:=r2.gS;rw[size_data]at P1;have hasc:=ZW ha;have hle:=trimR_le t.data.toList u.data.toList;rw[size_data]at hle;have fin:∀(l:ae),l=cN t.data.toList u.data.toList→∀w':World,dx w' hp c (.str (cN t.data.toList u.data.toList)) (.string ⟨l.toArray⟩):=fun l e w'=>by
  rw[e]; exact str_of _ (by omega)
 by_cases h0:t.size=0∨u.size=0
 ·refine ⟨_,hk,lY (Any.strings_TrimRight_empty Tryz.lay162 t u w h0) ?_⟩
  rintro e w' ⟨he,rfl⟩
  have e2:(⟨t.data.toList.toArray⟩:ByteArray)=t:=uX rfl;rw[←e2]at he;refine ⟨_,he,Below.refl _ _,fin _ ?_ _⟩;rcases h0 with h0|h0
  ·have:t.data.toList = []:=List.eq_nil_of_length_eq_zero (by rw[size_data]; exact h0);rw[this]; unfold cN; simp
  ·have:u.data.toList = []:=List.eq_nil_of_length_eq_zero (by rw[size_data]; exact h0);rw[this,trimR_nil]
 ·have hu1:u.size=1∨2≤u.size:=by omega
  rcases hu1 with hu1|hu2
  ·obtain ⟨b,hb⟩:∃b,u.data.toList = [b]:=by
    have hul:u.data.toList.length=1:=by rw[size_data]; exact hu1
    match hq:u.data.toList,hul with
    | [b],_=>exact ⟨b,rfl⟩
   have eu:u=⟨#[b]⟩:=uX (by rw[hb]);subst eu;refine ⟨_,hk,lY (Any.strings_TrimRight_one Tryz.lay162 t b (hasc 0 b rfl) w hl) ?_⟩
   rintro e w' ⟨he,rfl⟩
   exact ⟨_,he,Below.refl _ _,fin _ (trimR_one _ _).symm _⟩
  ·refine ⟨_,hk,lY (Any.strings_TrimRight_set Tryz.lay162 Tryz.zeroValue178 (by kernel_rfl) t u w hu2 (by omega) hl (by omega) hasc) ?_⟩
   rintro e w' ⟨he,rfl⟩
   refine ⟨_,he,?_,fin _ rfl _⟩;exact ((Below.refl _ _).alloc (Nat.le_refl _) _).alloc (by simp) _
theorem atoi_ok:aA.Spec.Ok Tryz.prog 194 (atoi_S R):=by
 refine pc Tryz.func194 rfl rfl fun vs hp k r hk w c args wf ra => ?_
 unfold atoi_S at hk;split at hk <;> (try cases hk);rename_i s;obtain ⟨hc,hk⟩:=bY hk;simp only[decide_eq_true_eq]at hc;obtain ⟨a,rfl,r1⟩:=repL1 ra;obtain ⟨t,rfl,rfl,hl⟩:=r1.gS;rw[size_data]at hc;obtain ⟨_,_,⟨t1,x1,hv1⟩,⟨t2,x2,hv2⟩⟩:=wf.lay.1;have pY:IntKind.i64.has (eH t.data.toList):=by
  unfold eH;split
  ·rename_i v hv;unfold Go.Lib.atoiAll at hv;split at hv
   ·cases hv
   ·dsimp only at hv;split at hv
    ·cases hv
    ·cases hv
    ·rename_i u _;split at hv
     ·cases hv
     ·split at hv
      ·cases hv
      ·cases hv;split <;> simp[IntKind.has,IntKind.min,IntKind.max,IntKind.signed,IntKind.bits] <;> omega
  ·unfold Go.Lib.atoiSat;split <;> simp[IntKind.has,IntKind.min,IntKind.max,IntKind.signed,IntKind.bits]
  ·simp[IntKind.has,IntKind.min,IntKind.max,IntKind.signed,IntKind.bits]
 have two:∀(z:Int) (u:V) (w':World) (x:Value),eH t.data.toList=z→dx w' hp c u x→dx w' hp c (.tuple [.int .i64 (eH t.data.toList),u]) (.tuple #[.int .i64 z,x]):=fun z u w' x hz hx=>by
  subst hz;refine .tuple rfl fun j v d hv hd => ?_
  match j,hv,hd with
  | 0,hv,hd=>simp at hv hd; subst hv; subst hd; exact .int pY
  | 1,hv,hd=>simp at hv hd; subst hv; subst hd; exact hx
  | j+2,hv,_=>simp at hv
 rcases hA:Go.Lib.atoiAll t.data.toList with v|_|_
 ·
  have e1:xG t.data.toList=true:=by unfold xG; rw[hA]
  have e2:eH t.data.toList=v:=by unfold eH; rw[hA]
  rw[e1]at hk;refine ⟨_,hk,lY (Any.strconv_Atoi_ok Tryz.lay172 t (by omega) v hA w) ?_⟩
  rintro e w' ⟨he,hb⟩
  refine ⟨_,he,?_,two _ _ _ _ e2 .dK⟩;rcases hb with rfl|⟨q,rfl⟩
  ·exact Below.refl _ _
  ·exact below_bytes _ _
 ·
  have e1:xG t.data.toList=false:=by unfold xG; rw[hA]
  have e2:eH t.data.toList=0:=by unfold eH; rw[hA]
  rw[e1]at hk;refine ⟨_,hk,lY (Any.strconv_Atoi_syntax Tryz.lay172 t hc hA (.iface t1 x1) w hv1 (.inr ⟨_,_,rfl⟩)) ?_⟩
  rintro e w' ⟨q,he,_,_,hb⟩
  exact ⟨_,he,hb,two _ _ _ _ e2 (.iface _ _)⟩
 ·
  have e1:xG t.data.toList=false:=by unfold xG; rw[hA]
  have e2:eH t.data.toList=Go.Lib.atoiSat t.data.toList:=by unfold eH; rw[hA]
  rw[e1]at hk;refine ⟨_,hk,lY (Any.strconv_Atoi_range Tryz.lay172 t hc hA (.iface t2 x2) w hv2 (.inr ⟨_,_,rfl⟩)) ?_⟩
  rintro e w' ⟨q,he,_,_,hb⟩
  exact ⟨_,he,hb,two _ _ _ _ e2 (.iface _ _)⟩
theorem toErr_ok:aA.Spec.Ok Tryz.prog 219 (toErr_S R 250):=by
 refine pc Tryz.func219 rfl rfl fun vs hp k r hk w c args wf ra => ?_
 unfold toErr_S at hk;split at hk <;> (try cases hk);rename_i fn s b1 b2 t n;obtain ⟨hc,hk1⟩:=bY hk;obtain ⟨Yb,RZ⟩:=bY hk1;simp only[Bool.and_eq_true,Bool.or_eq_true,beq_iff_eq,decide_eq_true_eq]at hc Yb;obtain ⟨ht,hn⟩:=hc;have ht:=Nat.eq_of_beq_eq_true ht;subst ht;obtain ⟨l⟩:=args
 match l,ra with
 | [a1,a2,a3,a4,a5],ra =>
  obtain ⟨t1,rfl,rfl,_⟩:=ra.head.gS;obtain ⟨t2,rfl,rfl,hl2⟩:=ra.tail.head.gS;obtain ⟨rfl,_⟩:=ra.tail.tail.head.fA;obtain ⟨rfl,_⟩:=ra.tail.tail.tail.head.fA;obtain ⟨rfl,_⟩:=ra.tail.tail.tail.tail.head.ifi_inv;rw[size_data]at Yb;obtain ⟨_,_,⟨p1,x1,hv1⟩,⟨p2,x2,hv2⟩⟩:=wf.lay.1;rcases hn with rfl|rfl
  ·refine ⟨_,RZ,lY (Any.strconv_toError_syntax Tryz.lay245 t1 t2 b1 b2 (.iface p1 x1) w Yb hv1 (.inr ⟨_,_,rfl⟩)) ?_⟩
   rintro e w' ⟨q,he,_,_,hb⟩
   exact ⟨_,he,hb, .iface _ _⟩
  ·refine ⟨_,RZ,lY (Any.strconv_toError_range Tryz.lay245 t1 t2 b1 b2 (.iface p2 x2) w Yb hv2 (.inr ⟨_,_,rfl⟩)) ?_⟩
   rintro e w' ⟨q,he,_,_,hb⟩
   exact ⟨_,he,hb, .iface _ _⟩
 | [],ra=>have:=ra.1; simp at this
 | [_],ra=>have:=ra.1; simp at this
 | [_,_],ra=>have:=ra.1; simp at this
 | [_,_,_],ra=>have:=ra.1; simp at this
 | [_,_,_,_],ra=>have:=ra.1; simp at this
 | _::_::_::_::_::_::_,ra=>have:=ra.1; simp at this
theorem hasAny_ok:aA.Spec.Ok Tryz.prog 253 (hasAny_S R):=by
 refine pc Tryz.func253 rfl rfl fun vs hp k r hk w c args wf ra => ?_
 unfold hasAny_S at hk;split at hk <;> (try cases hk);rename_i s cs;obtain ⟨hc,hk⟩:=bY hk;simp only[Bool.and_eq_true,decide_eq_true_eq]at hc;obtain ⟨⟨⟨ha,hb⟩,hsl⟩,P1⟩:=hc;obtain ⟨a,b,rfl,r1,r2⟩:=repL2 ra;obtain ⟨t,rfl,rfl,hl⟩:=r1.gS;obtain ⟨u,rfl,rfl,hl2⟩:=r2.gS;rw[size_data]at hsl P1;refine ⟨_,hk,lY (Any.strings_ContainsAny_laid Tryz.lay150 (by kernel_rfl) t u w hsl P1 (ZW ha) (ZW hb)) ?_⟩
 rintro e w' ⟨he,hb⟩
 exact ⟨_,he,hb, .bool _⟩
theorem idx_ok:aA.Spec.Ok Tryz.prog 159 (idx_S R):=by
 refine pc Tryz.func159 rfl rfl fun vs hp k r hk w c args wf ra => ?_
 unfold idx_S at hk;split at hk <;> (try cases hk);rename_i s ch;obtain ⟨a,b,rfl,r1,r2⟩:=repL2 ra;obtain ⟨t,rfl,rfl,hl⟩:=r1.gS;obtain ⟨rfl,hn⟩:=r2.fA;have hb:IntKind.i64.has (Go.Lib.indexByte t.data.toList ch.toNat.toUInt8):=by
  have h1:=Go.Lib.indexByte_ge t.data.toList ch.toNat.toUInt8;have h2:Go.Lib.indexByte t.data.toList ch.toNat.toUInt8≤t.data.toList.length:=by
   generalize t.data.toList=l
   induction l with
   | nil=>simp[Go.Lib.indexByte]
   | cons x l ih =>
    have:=Go.Lib.indexByte_ge l ch.toNat.toUInt8;unfold Go.Lib.indexByte;split
    ·simp; omega
    ·split
     ·simp; omega
     ·simp; omega
  rw[size_data]at h2;unfold mx at hl;generalize Go.Lib.indexByte t.data.toList ch.toNat.toUInt8=z at h1 h2;simp[IntKind.has,IntKind.min,IntKind.max,IntKind.signed,IntKind.bits]; omega
 refine ⟨_,hk,lY (Any.strings_IndexByte Tryz.lay137 t ch w) ?_⟩
 rintro e w' ⟨he,rfl⟩
 exact ⟨_,he,Below.refl _ _, .int hb⟩
theorem lastI_ok:aA.Spec.Ok Tryz.prog 78 (lastI_S R):=by
 refine pc Tryz.func78 rfl rfl fun vs hp k r hk w c args wf ra => ?_
 unfold lastI_S at hk;split at hk <;> (try cases hk);rename_i s ch;obtain ⟨a,b,rfl,r1,r2⟩:=repL2 ra;obtain ⟨t,rfl,rfl,hl⟩:=r1.gS;obtain ⟨u,rfl,hu,hl2⟩:=r2.gS;obtain ⟨hb,hk⟩:=bY hk;rw[decide_eq_true_eq,size_data]at hb;have h1:u.size=1:=by rw[←size_data,hu]; rfl
 have hu0:u[0]'(by omega)=ch:=by
  have e:u.data = #[ch]:=by
   have:=congrArg List.toArray hu;simpa using this
  show u.data[0]'_=ch;simp[e]
 refine ⟨_,hk,lY (Any.strings_LastIndex_one Tryz.lay148 t u h1 (by omega) w) ?_⟩
 rintro e w' ⟨he,rfl⟩
 rw[hu0]at he;have ht:(⟨t.data.toList.toArray⟩:ByteArray)=t:=uX rfl;have hh:IntKind.i64.has (Ga t.data.toList ch):=by
  unfold Ga;rw[ht];rcases Go.Lib.lastIndexByte_spec t (ch.toNat:Int)with ⟨e,_⟩|⟨i,hi,e,_⟩
  ·rw[e]; simp[IntKind.has,IntKind.min,IntKind.max,IntKind.signed,IntKind.bits]
  ·rw[e]; simp[IntKind.has,IntKind.min,IntKind.max,IntKind.signed,IntKind.bits]; omega
 have e2:Ga t.data.toList ch=Go.Lib.lastIndexByte t (ch.toNat:Int):=by unfold Ga; rw[ht]
 refine ⟨_,he,Below.refl _ _,?_⟩;rw[←e2];exact .int hh
theorem bccL:Lays.n240 Tryz.prog Tryz.NF := { Tryz.lay105 with }
theorem bcc_is:aA.Spec.Ok Tryz.prog 171 (Yp R) :=
 bcc_ok Tryz.func171 rfl rfl (fun b w h0 hs hf=>Any.Builder_copyCheck_fresh bccL x72 b w h0 hs hf) (fun b w h0=>Any.Builder_copyCheck_used bccL x72 b w h0)
theorem bstrL:Lays.n169 Tryz.prog Tryz.T1:=Tryz.lay169
theorem Kj:Builder.Extra Tryz.prog Tryz.T1 := { sizeBuilder:=by kernel_rfl,liesBuilder:=by kernel_rfl,t5:=Tryz.underlying5,a5:=Tryz.isAgg5,z5:=Tryz.sizeOf5,v5:=Tryz.zeroValue5,infoByte:=by kernel_rfl,cellsByte:=by kernel_rfl,sizeByte:=by kernel_rfl,neB5:=by decide }
set_option maxHeartbeats 1000000 in
theorem string_some (b q cap:Nat) (p:Value) (cur:Array Value) (fz:Nat×Nat) (l:List UInt8) (w:World) (h0:l ≠ []) (hbk:w.heap[b]? = some (.cells #[p, .slice (some ⟨q,0,none⟩) l.length cap] pW.mZ (0,0)))
  (hq:w.heap[q]? = some (.cells cur pW.u8 fz)) (hnc:l.length≤cap) (hcm:cap≤mx) (rV:l.length≤cur.size) (EN:∀(j:Nat) (x:UInt8),l[j]? = some x→w.cell? ⟨q,j,none⟩=some (.int .u8 x.toNat)) :
  Calls Tryz.prog 84 #[.pointer (some ⟨b,0,none⟩)] w fun e w'=>e = .returned (.string ⟨l.toArray⟩)∧w'=w.drew.freeze ⟨q,0,none⟩ l.length:=by
 have Yb:l.length≠0:=by simpa using h0
 have L:=bstrL;have X:=Kj;have c1:w.drew.cell? ⟨b,1,none⟩=some (.slice (some ⟨q,0,none⟩) l.length cap):=by
  have h1:w.drew.heap[b]? = some (.cells #[p, .slice (some ⟨q,0,none⟩) l.length cap] pW.mZ (0,0)):=hbk;rw[Lib.cell_of_heap h1]; rfl
 have hSD:(Builtin.unsafeSliceData_ #[42] 164 #[.slice (some ⟨q,0,none⟩) l.length cap]).run Tryz.prog w.drew = .ok (.pointer (some ⟨q,0,none⟩)) w.drew :=
  Lib.run_unsafeSliceData_row _ _ _ _ _ _ (by omega)
 have hUS:(Builtin.unsafeString_ #[164,3] 9 #[.pointer (some ⟨q,0,none⟩), .int .i64 l.length]).run Tryz.prog w.drew = .ok (.string ⟨l.toArray⟩) (w.drew.freeze ⟨q,0,none⟩ l.length):=by
  refine Lib.run_unsafeString_row w.drew 164 3 9 5 L.t127 X.cellsByte q cur.size (by have hq':w.drew.heap[q]? = some (.cells cur 5 fz):=hq; simp[World.shape?,hq']) l h0 rV (by unfold mx at hcm; omega) ?_;intro j x hx;have:=EN j x hx;rw[aA.sV,Nat.zero_add];exact this
 have mixed:=L.mixed;have t72:=L.t72; have a72:=L.a72; have z72:=L.z72; have v72:=L.v72; have u72:=run_underlying L.t72;have t70:=L.t70; have a70:=L.a70; have z70:=L.z70; have v70:=L.v70; have u70:=run_underlying L.t70;have t37:=L.t37; have a37:=L.a37; have z37:=L.z37; have v37:=L.v37; have u37:=run_underlying L.t37;have t127:=L.t127; have a127:=L.a127; have z127:=L.z127; have v127:=L.v127; have u127:=run_underlying L.t127;have t3:=L.t3; have a3:=L.a3; have z3:=L.z3; have v3:=L.v3; have u3:=run_underlying L.t3;have t9:=L.t9; have a9:=L.a9; have z9:=L.z9; have v9:=L.v9; have u9:=run_underlying L.t9
 have t5:=X.t5; have a5:=X.a5; have z5:=X.z5; have v5:=X.v5; have u5:=run_underlying X.t5
 go_enter Tryz.func84,Tryz.ntmps84
 go_wp2
 go_region_o
 all_goals (go_wp2; go_ret; exact ⟨rfl,rfl⟩)
set_option maxHeartbeats 2000000 in
theorem string_noroom (b q:Nat) (p:Value) (cur:Array Value) (fz:Nat×Nat) (w:World) (hbk:w.heap[b]? = some (.cells #[p, .slice (some ⟨q,0,none⟩) 0 0] pW.mZ (0,0))) (hq:w.heap[q]? = some (.cells cur pW.u8 fz)) :
  Calls Tryz.prog 84 #[.pointer (some ⟨b,0,none⟩)] w fun e w'=>e = .returned (.string ⟨#[]⟩)∧Below w.heap.size w w':=by
 have L:=bstrL;have X:=Kj;have hUS:∀(W:World) (q:Option Addr),(Builtin.unsafeString_ #[164,3] 9 #[.pointer q, .int .i64 0]).run Tryz.prog W = .ok (.string .empty) W:=fun W q=>Lib.run_unsafeString_none W _ _ _ q
 have jz:b<w.heap.size:=by
  rcases Nat.lt_or_ge b w.heap.size with h'|h'
  ·exact h'
  ·simp[Array.getElem?_eq_none h']at hbk
 have c1:w.drew.cell? ⟨b,1,none⟩=some (.slice (some ⟨q,0,none⟩) 0 0):=by
  have:w.drew.heap[b]? = some (.cells #[p, .slice (some ⟨q,0,none⟩) 0 0] pW.mZ (0,0)):=hbk;rw[Lib.cell_of_heap this]; rfl
 have hSD:(Builtin.unsafeSliceData_ #[42] 164 #[.slice (some ⟨q,0,none⟩) 0 0]).run Tryz.prog w.drew = .ok (.pointer (some ⟨w.drew.heap.size,0,none⟩)) (w.drew.alloc (.view ⟨q,0,none⟩ 5)) :=
  Lib.run_unsafeSliceData_zero w.drew _ _ 5 L.t127 ⟨q,0,none⟩ 0 (5,cur.size) (by have hq':w.drew.heap[q]? = some (.cells cur 5 fz):=hq; simp[World.shape?,hq'])
 have c2:(w.drew.alloc (.view ⟨q,0,none⟩ 5)).cell? ⟨b,1,none⟩=some (.slice (some ⟨q,0,none⟩) 0 0):=by
  have:(w.drew.alloc (.view ⟨q,0,none⟩ 5)).heap[b]? = _:=(Lib.alloc_old w.drew _ b jz).trans hbk;rw[Lib.cell_of_heap this]; rfl
 have c3:(w.alloc (.view ⟨q,0,none⟩ 5)).drew.cell? ⟨b,1,none⟩=some (.slice (some ⟨q,0,none⟩) 0 0):=c2;have c0:w.cell? ⟨b,1,none⟩=some (.slice (some ⟨q,0,none⟩) 0 0):=c1;have mixed:=L.mixed;have t72:=L.t72; have a72:=L.a72; have z72:=L.z72; have v72:=L.v72; have u72:=run_underlying L.t72;have t70:=L.t70; have a70:=L.a70; have z70:=L.z70; have v70:=L.v70; have u70:=run_underlying L.t70;have t37:=L.t37; have a37:=L.a37; have z37:=L.z37; have v37:=L.v37; have u37:=run_underlying L.t37;have t127:=L.t127; have a127:=L.a127; have z127:=L.z127; have v127:=L.v127; have u127:=run_underlying L.t127;have t3:=L.t3; have a3:=L.a3; have z3:=L.z3; have v3:=L.v3; have u3:=run_underlying L.t3
 have t9:=L.t9; have a9:=L.a9; have z9:=L.z9; have v9:=L.v9; have u9:=run_underlying L.t9;have t5:=X.t5; have a5:=X.a5; have z5:=X.z5; have v5:=X.v5; have u5:=run_underlying X.t5
 go_enter Tryz.func84,Tryz.ntmps84
 go_wp2
 go_region_o
 all_goals (go_wp2; go_ret; exact ⟨rfl,(Below.drew (Below.refl _ w)).alloc (Nat.le_refl _) _⟩)
theorem string_does:StringDoes Tryz.prog 84 where
 nil:=fun b p w hbk=>Any.Builder_String_nil bstrL Kj w.heap.size b p w hbk
 noroom:=string_noroom
 room:=fun b q cap p w hc hbk=>Any.Builder_String_room bstrL Kj w.heap.size b q cap p w hc hbk
 some:=string_some
theorem ZX:aA.Spec.Ok Tryz.prog 84 (NG R):=bstr_ok Tryz.func84 rfl rfl string_does
end
end Go.Proofs.YtidfokedcnhahaaGreatDoor
set_option maxRecDepth 100000
namespace Go.Proofs.YtidfokedcnhahaaGreatDoor
open Go Go.aA
variable {R:Type}
abbrev hM (R:Type):Type:=(List ae)→ae→(Int→Option R)→Option R
abbrev ot:List cU := [.leaf (.sl .str), .leaf (.str)]
abbrev ou:List aU := []
def vL (fn:hM R):lC R ot ou:=fun x y k=>fn x.1 x.2.1 (fun q0=>k (.int .i64 q0) [])
def ov (fn:hM R):=aG ot ou (vL fn)
abbrev kN (R:Type):Type:=Nat→(List ae)→ae→Int→Int→(Option R)→(Int→Option R)→Option R
def iO:Hint := { live := [0,1,7,8],own := [],rows := [],cells := [],drop := [],out := [4] }
abbrev eX:Type:=(List ae)×ae×Int×Int
def kE:eX→St:=fun d=>⟨.sl .str d.1 .no :: .str d.2.1::U 5 (.int .i64 d.2.2.1 :: .int .i64 d.2.2.2::U 10 ([])), []⟩
def kO (K:Ex→St→Option R):Option R:=K (.exit 0) ⟨U 19 ([]), []⟩
def kP (K:Ex→St→Option R) (q0:Int):Option R:=K (.ret) ⟨U 4 (.int .i64 q0::U 14 ([])), []⟩
abbrev fZ:List cU := .leaf (.sl .str) :: .leaf (.str)::PU 5 (.leaf (.int .i64) :: .leaf (.int .i64)::PU 10 ([]))
abbrev gd:List aU := []
def sD (x:cU.bT fZ) (y:aU.bT gd):Nat:=(List.length x.1+List.length x.2.1+Int.natAbs x.2.2.2.2.2.2.2.1+Int.natAbs ((t8 x).1)+64)
def Ey (x:cU.bT fZ) (y:aU.bT gd):eX:=(x.1,x.2.1,x.2.2.2.2.2.2.2.1,(t8 x).1)
def qE (L:kN R):xp R fZ gd:=fun x y K=>L (sD x y) x.1 x.2.1 x.2.2.2.2.2.2.2.1 ((t8 x).1) (kO K) (kP K)
section
variable (aV:kN R)
def eY (dJ:(List ae)→ae→Int→Int→Option R) (x3:List ae) (x4:ae) (x5:Int) (x6:Int) (e0:Option R) (e1:Int→Option R):Option R :=
 bif (decide (x6<x5))then (bX (decide ((0:Int)≤x6)&&decide (x6<x3.length)) (bif (x4==(x3.getD x6.toNat (Ty.aR .str)))then (e1 x6)else (dJ x3 x4 x5 (IntKind.i64.wrap (x6+1)))))else (e0)
def sE (K:Ex→St→Option R) (rc:eX→Option R) (d:eX):Option R:=eY (fun z0 z1 z2 z3=>rc (z0,z1,z2,z3)) d.1 d.2.1 d.2.2.1 d.2.2.2 (kO K) (kP K)
def im:Nat→Option (Hint×cQ R):=fun i=>match i with
 | 2=>some (iO,(cM fZ gd (qE aV) iK))
 | _=>none
theorem Bv (K:Ex→St→Option R) (rc:St→Option R) (d:eX):roundOf tt (cT []) (im aV) 0 ((az (aX Tryz.f127)).getD 0 .skip) iO (kE d) rc K=sE K (fun d=>rc (kE d)) d:=by kernel_rfl
def ow (x1:List ae) (x2:ae) (k0:Int→Option R):Option R :=
 aV (List.length x1+List.length x2+Int.natAbs (x1.length:Int)+Int.natAbs 0+64) x1 x2 (x1.length:Int) 0 (k0 (-1)) (fun y7=>k0 y7)
theorem GR:dO (R:=R) tt [] (im aV) false Tryz.f127 ot ou (vL (ow aV)):=fun x y k=>by kernel_rfl
end
def aV:kN R
 | 0,_,_,_,_,_,_=>none
 | n+1,gf,gk,gw,mA,e0,e1=>eY (fun gf gk gw mA=>aV n gf gk gw mA e0 e1) gf gk gw mA e0 e1
def sF (K:Ex→St→Option R) (n:Nat) (d:eX):Option R:=aV n d.1 d.2.1 d.2.2.1 d.2.2.2 (kO K) (kP K)
theorem C3 (other:cQ R) (ho:hG tt (cT []) (im (R:=R) aV) 0 ((az (aX Tryz.f127)).getD 0 .skip) iO other):hG tt (cT []) (im (R:=R) aV) 0 ((az (aX Tryz.f127)).getD 0 .skip) iO (cM fZ gd (qE (aV)) other) :=
 cS (A:=sF) ho (dX kE (sE) (sF) (fun _ _=>by kernel_rfl) (Bv aV) (fun _ _ _=>by kernel_rfl)) sD Ey (fun _ _=>by kernel_rfl) (fun _ _ _=>by kernel_rfl)
def bu:hM R:=fun x1 x2 k0=>ow aV x1 x2 k0
theorem Ez (R:Type):∀a∈az (aX Tryz.f127),gN tt (cT []) (im (R:=R) aV) 0 a:=by
 refine fb 1 (by kernel_rfl) fun i hi => ?_
 match i,hi with
 | 0,_=>exact cA (by kernel_rfl) (C3 _ dy)
 | n+1,hi=>omega
theorem s8 (R:Type):kM Tryz.prog 127 (ov (bu (R:=R))):=br TT mixed .n rfl rfl rfl rfl (Ez R) (GR aV)
abbrev gg (R:Type):Type:=(List ae)→ae→(Bool→Option R)→Option R
abbrev mb:List cU := [.leaf (.sl .str), .leaf (.str)]
abbrev mc:List aU := []
def sG (fn:gg R):lC R mb mc:=fun x y k=>fn x.1 x.2.1 (fun q0=>k (.bool q0) [])
def me (fn:gg R):=aG mb mc (sG fn)
section
variable (bu:hM R)
def s9:List (oo R) := [(127,true,(ov bu av))]
def mf (x1:List ae) (x2:ae) (k0:Bool→Option R):Option R :=
 bu x1 x2 (fun y3=>k0 (decide (y3≥(0:Int))))
theorem EA:dO (R:=R) tt (s9 bu) sS false Tryz.f85 mb mc (sG (mf bu)):=fun x y k=>by kernel_rfl
end
theorem C4:cE (R:=R) Tryz.prog (s9 (R:=R) bu) := .c (s8 R) <| .n
def aC:gg R:=fun x1 x2 k0=>mf bu x1 x2 k0
theorem pZ (R:Type):kM Tryz.prog 85 (me (aC (R:=R))):=br TT mixed (C4 (R:=R)) rfl rfl rfl rfl cq (EA bu)
abbrev jY (R:Type):Type:=(List ae)→((List ae)→Option R)→Option R
abbrev ox:List cU := [.leaf (.sl .str)]
abbrev oy:List aU := []
def vM (fn:jY R):lC R ox oy:=fun x y k=>fn x.1 (fun q0=>k (.sl .str q0 .no) [])
def wT (fn:jY R):=aG ox oy (vM fn)
section
def oz (x1:List ae) (k0:(List ae)→Option R):Option R :=
 bif x1.isEmpty then (anyT (k0 ([]:List ae)) (bX (decide ((0+x1.length)*16≤140737488355328)) (k0 (([]:List ae)++x1))))else (bX (decide ((0+x1.length)*16≤140737488355328)) (k0 (([]:List ae)++x1)))
theorem GU:dO (R:=R) tt [] sS false Tryz.f128 ox oy (vM oz):=fun x y k=>by kernel_rfl
end
def bp:jY R:=fun x1 k0=>oz x1 k0
theorem Fc (R:Type):kM Tryz.prog 128 (wT (bp (R:=R))):=br TT mixed .n rfl rfl rfl rfl cq (GU)
abbrev jH (R:Type):Type:=(List Json)→(Option R)→(Nat→(List Json)→Option R)→Option R
abbrev nH:List cU := [.leaf (.sl .json)]
abbrev nI:List aU := []
def uS (fn:jH R):lC R nH nI:=fun x y k=>fn x.1 (k (.bB) []) (fun q0 q1=>k (.row 0 q0) [.row .json q1])
def vN (fn:jH R):=aG nH nI (uS fn)
section
def nJ (x1:List Json) (k0:Option R) (k1:Nat→(List Json)→Option R):Option R :=
 bif x1.isEmpty then (anyT (k0) (bX (decide ((0+x1.length)*88≤140737488355328)) (k1 (0+x1.length) (([]:List Json)++x1))))else (bX (decide ((0+x1.length)*88≤140737488355328)) (k1 (0+x1.length) (([]:List Json)++x1)))
theorem Gb:dO (R:=R) (tt.mode [.json]) [] sS true Tryz.f129 nH nI (uS nJ):=fun x y k=>by kernel_rfl
end
def bk:jH R:=fun x1 k0 k1=>nJ x1 k0 k1
theorem EB (R:Type):kM Tryz.prog 129 (vN (bk (R:=R))):=br (TT.mode [.json]) mixed .n rfl rfl rfl rfl cq (Gb)
abbrev dY (R:Type):Type:=Json→(Json→Option R)→Option R
abbrev mB:List cU := [.agg [.int .i64, .int .i64, .int .i64, .str, .sl .str, .sl .json]]
abbrev mC:List aU := []
def hP (fn:dY R):lC R mB mC:=fun x y k=>fn (⟨x.1.1,⟨x.1.2.1,x.1.2.2.1⟩,x.1.2.2.2.1,x.1.2.2.2.2.1,x.1.2.2.2.2.2.1⟩:Json) (fun q0=>k (.agg [.int .i64 q0.kind, .int .i64 q0.num.aq, .int .i64 q0.num.exp, .str q0.text, .sl .str q0.names .no, .sl .json q0.items .no]) [])
def FQ (fn:dY R):=aG mB mC (hP fn)
abbrev Bw (R:Type):Type:=Nat→Int→Int→Int→Int→Int→ae→(List ae)→Int→Int→Int→ae→(Int→Int→Int→ae→(List ae)→Int→Int→Int→ae→Option R)→Option R
abbrev Bx (R:Type):Type:=Nat→Nat→Int→Int→Int→Int→Int→ae→(List ae)→Nat→Int→Int→Int→ae→(List Json)→(Int→Int→Int→ae→(List ae)→Nat→Int→Int→Int→ae→(List Json)→Option R)→Option R
def wU:Hint := { live := [1,2,14,15,16],own := [],rows := [],cells := [],drop := [],out := [1,2] }
abbrev nd:Type:=Int×Int×Int×Int×Int×ae×(List ae)×Int×Int×Int×ae
def zD:nd→St:=fun d=>⟨.undef :: .ptr 0 0 :: .ptr 1 0::U 11 (.bB :: .int .i64 d.1 :: .int .i64 d.2.1::U 12 ([])), [.cells [.int .i64 d.2.2.1, .int .i64 d.2.2.2.1, .int .i64 d.2.2.2.2.1, .str d.2.2.2.2.2.1, .sl .str d.2.2.2.2.2.2.1 .no, .bB], .cells [.int .i64 d.2.2.2.2.2.2.2.1, .int .i64 d.2.2.2.2.2.2.2.2.1, .int .i64 d.2.2.2.2.2.2.2.2.2.1, .str d.2.2.2.2.2.2.2.2.2.2, .bB, .bB]]⟩
def By (K:Ex→St→Option R) (q0:Int) (q1:Int) (q2:Int) (q3:ae) (q4:List ae) (q5:Int) (q6:Int) (q7:Int) (q8:ae):Option R:=K (.exit 0) ⟨.undef :: .ptr 0 0 :: .ptr 1 0::U 26 ([]), [.cells [.int .i64 q0, .int .i64 q1, .int .i64 q2, .str q3, .sl .str q4 .no, .bB], .cells [.int .i64 q5, .int .i64 q6, .int .i64 q7, .str q8, .bB, .bB]]⟩
abbrev qF:List cU := .leaf (.undef) :: .leaf (.ptr 0 0) :: .leaf (.ptr 1 0)::PU 11 (.leaf (.bB) :: .leaf (.int .i64) :: .leaf (.int .i64)::PU 12 ([]))
abbrev qG:List aU := [.cells [.int .i64, .int .i64, .int .i64, .str, .sl .str, .bB], .cells [.int .i64, .int .i64, .int .i64, .str, .bB, .bB]]
def Kk (x:cU.bT qF) (y:aU.bT qG):Nat:=(Int.natAbs ((t8 x).2.2.2.2.2.2.2.1)+Int.natAbs ((t8 (t8 x)).1)+Int.natAbs y.1.1+Int.natAbs y.1.2.1+Int.natAbs y.1.2.2.1+List.length y.1.2.2.2.1+List.length y.1.2.2.2.2.1+Int.natAbs y.2.1.1+Int.natAbs y.2.1.2.1+Int.natAbs y.2.1.2.2.1+List.length y.2.1.2.2.2.1+64)
def VC (x:cU.bT qF) (y:aU.bT qG):nd:=((t8 x).2.2.2.2.2.2.2.1,(t8 (t8 x)).1,y.1.1,y.1.2.1,y.1.2.2.1,y.1.2.2.2.1,y.1.2.2.2.2.1,y.2.1.1,y.2.1.2.1,y.2.1.2.2.1,y.2.1.2.2.2.1)
def IH (L:Bw R):xp R qF qG:=fun x y K=>L (Kk x y) ((t8 x).2.2.2.2.2.2.2.1) ((t8 (t8 x)).1) y.1.1 y.1.2.1 y.1.2.2.1 y.1.2.2.2.1 y.1.2.2.2.2.1 y.2.1.1 y.2.1.2.1 y.2.1.2.2.1 y.2.1.2.2.2.1 (By K)
def C5:Hint := { live := [1,2,14,15,16],own := [],rows := [],cells := [],drop := [],out := [1,2] }
abbrev nf:Type:=Nat×Int×Int×Int×Int×Int×ae×(List ae)×Nat×Int×Int×Int×ae×(List Json)
def zE:nf→St:=fun d=>⟨.undef :: .ptr 0 0 :: .ptr 1 0::U 11 (.row 2 d.1 :: .int .i64 d.2.1 :: .int .i64 d.2.2.1::U 12 ([])), [.cells [.int .i64 d.2.2.2.1, .int .i64 d.2.2.2.2.1, .int .i64 d.2.2.2.2.2.1, .str d.2.2.2.2.2.2.1, .sl .str d.2.2.2.2.2.2.2.1 .no, .row 2 d.2.2.2.2.2.2.2.2.1], .cells [.int .i64 d.2.2.2.2.2.2.2.2.2.1, .int .i64 d.2.2.2.2.2.2.2.2.2.2.1, .int .i64 d.2.2.2.2.2.2.2.2.2.2.2.1, .str d.2.2.2.2.2.2.2.2.2.2.2.2.1, .bB, .bB], .row .json d.2.2.2.2.2.2.2.2.2.2.2.2.2]⟩
def Bz (K:Ex→St→Option R) (q0:Int) (q1:Int) (q2:Int) (q3:ae) (q4:List ae) (q5:Nat) (q6:Int) (q7:Int) (q8:Int) (q9:ae) (q10:List Json):Option R:=K (.exit 0) ⟨.undef :: .ptr 0 0 :: .ptr 1 0::U 26 ([]), [.cells [.int .i64 q0, .int .i64 q1, .int .i64 q2, .str q3, .sl .str q4 .no, .row 2 q5], .cells [.int .i64 q6, .int .i64 q7, .int .i64 q8, .str q9, .bB, .bB], .row .json q10]⟩
abbrev qH:List cU := .leaf (.undef) :: .leaf (.ptr 0 0) :: .leaf (.ptr 1 0)::PU 11 (.leaf (.row 2) :: .leaf (.int .i64) :: .leaf (.int .i64)::PU 12 ([]))
abbrev qI:List aU := [.cells [.int .i64, .int .i64, .int .i64, .str, .sl .str, .row 2], .cells [.int .i64, .int .i64, .int .i64, .str, .bB, .bB], .row .json]
def Kl (x:cU.bT qH) (y:aU.bT qI):Nat:=(Int.natAbs ((t8 x).2.2.2.2.2.2.2.1)+Int.natAbs ((t8 (t8 x)).1)+Int.natAbs y.1.1+Int.natAbs y.1.2.1+Int.natAbs y.1.2.2.1+List.length y.1.2.2.2.1+List.length y.1.2.2.2.2.1+Int.natAbs y.2.1.1+Int.natAbs y.2.1.2.1+Int.natAbs y.2.1.2.2.1+List.length y.2.1.2.2.2.1+List.length y.2.2.1+64)
def VD (x:cU.bT qH) (y:aU.bT qI):nf:=((t8 x).2.2.2.2.2.2.1,(t8 x).2.2.2.2.2.2.2.1,(t8 (t8 x)).1,y.1.1,y.1.2.1,y.1.2.2.1,y.1.2.2.2.1,y.1.2.2.2.2.1,y.1.2.2.2.2.2.1,y.2.1.1,y.2.1.2.1,y.2.1.2.2.1,y.2.1.2.2.2.1,y.2.2.1)
def II (L:Bx R):xp R qH qI:=fun x y K=>L (Kl x y) ((t8 x).2.2.2.2.2.2.1) ((t8 x).2.2.2.2.2.2.2.1) ((t8 (t8 x)).1) y.1.1 y.1.2.1 y.1.2.2.1 y.1.2.2.2.1 y.1.2.2.2.2.1 y.1.2.2.2.2.2.1 y.2.1.1 y.2.1.2.1 y.2.1.2.2.1 y.2.1.2.2.2.1 y.2.2.1 (Bz K)
section
variable (aH:dY R) (bk:jH R) (bp:jY R) (cO:Bw R) (cw:Bx R)
def mD:List (oo R) := [(86,true,(aG mB mC (hP aH) av)),(129,false,(vN bk av)),(128,true,(wT bp av))]
def Km (dJ:Int→Int→Int→Int→Int→ae→(List ae)→Int→Int→Int→ae→Option R) (x5:Int) (x6:Int) (x7:Int) (x8:Int) (x9:Int) (Xp:ae) (PE:List ae) (Et:Int) (JJ:Int) (Kn:Int) (ng:ae) (e0:Int→Int→Int→ae→(List ae)→Int→Int→Int→ae→Option R):Option R :=
 bif (decide (x6<x5))then (none)else (e0 x7 x8 x9 Xp PE Et JJ Kn ng)
def Ko (K:Ex→St→Option R) (rc:nd→Option R) (d:nd):Option R:=Km (fun z0 z1 z2 z3 z4 z5 z6 z7 z8 z9 T2=>rc (z0,z1,z2,z3,z4,z5,z6,z7,z8,z9,T2)) d.1 d.2.1 d.2.2.1 d.2.2.2.1 d.2.2.2.2.1 d.2.2.2.2.2.1 d.2.2.2.2.2.2.1 d.2.2.2.2.2.2.2.1 d.2.2.2.2.2.2.2.2.1 d.2.2.2.2.2.2.2.2.2.1 d.2.2.2.2.2.2.2.2.2.2 (By K)
def wV (dJ:Nat→Int→Int→Int→Int→Int→ae→(List ae)→Nat→Int→Int→Int→ae→(List Json)→Option R) (SX:Nat) (x26:Int) (x27:Int) (x28:Int) (x29:Int) (x30:Int) (x31:ae) (x32:List ae) (x33:Nat) (x34:Int) (x35:Int) (x36:Int) (x37:ae) (x38:List Json) (e0:Int→Int→Int→ae→(List ae)→Nat→Int→Int→Int→ae→(List Json)→Option R):Option R :=
 bif (decide (x27<x26))then (bX (decide ((0:Int)≤x27)&&decide (x27<SX)) (bX (decide (x27.toNat<x38.length)) (aH (⟨(x38.getD x27.toNat (Ty.aR .json)).kind,⟨(x38.getD x27.toNat (Ty.aR .json)).num.aq,(x38.getD x27.toNat (Ty.aR .json)).num.exp⟩,(x38.getD x27.toNat (Ty.aR .json)).text,(x38.getD x27.toNat (Ty.aR .json)).names,(x38.getD x27.toNat (Ty.aR .json)).items⟩:Json) (fun Yq=>bX (decide ((0:Int)≤x27)&&decide (x27<x33)) (bX (decide (x27.toNat<x38.length)) (dJ SX x26 (IntKind.i64.wrap (x27+1)) x28 x29 x30 x31 x32 x33 x34 x35 x36 x37 (x38.set x27.toNat (⟨Yq.kind,⟨Yq.num.aq,Yq.num.exp⟩,Yq.text,Yq.names,Yq.items⟩:Json))))))))else (e0 x28 x29 x30 x31 x32 x33 x34 x35 x36 x37 x38)
def Kp (K:Ex→St→Option R) (rc:nf→Option R) (d:nf):Option R:=wV aH (fun z0 z1 z2 z3 z4 z5 z6 z7 z8 z9 T2 wk z12 z13=>rc (z0,z1,z2,z3,z4,z5,z6,z7,z8,z9,T2,wk,z12,z13)) d.1 d.2.1 d.2.2.1 d.2.2.2.1 d.2.2.2.2.1 d.2.2.2.2.2.1 d.2.2.2.2.2.2.1 d.2.2.2.2.2.2.2.1 d.2.2.2.2.2.2.2.2.1 d.2.2.2.2.2.2.2.2.2.1 d.2.2.2.2.2.2.2.2.2.2.1 d.2.2.2.2.2.2.2.2.2.2.2.1 d.2.2.2.2.2.2.2.2.2.2.2.2.1 d.2.2.2.2.2.2.2.2.2.2.2.2.2 (Bz K)
def oP:Nat→Option (Hint×cQ R):=fun i=>match i with
 | 4=>some (wU,(cM qF qG (IH cO) (cM qH qI (II cw) iK)))
 | _=>none
theorem Qj (K:Ex→St→Option R) (rc:St→Option R) (d:nd):roundOf tt (cT (mD aH bk bp)) (oP cO cw) 0 ((az (aX Tryz.f86)).getD 0 .skip) wU (zD d) rc K=Ko K (fun d=>rc (zD d)) d:=by kernel_rfl
theorem Qk (K:Ex→St→Option R) (rc:St→Option R) (d:nf):roundOf tt (cT (mD aH bk bp)) (oP cO cw) 0 ((az (aX Tryz.f86)).getD 0 .skip) C5 (zE d) rc K=Kp aH K (fun d=>rc (zE d)) d:=by kernel_rfl
def Lb (x1:Json) (k0:Json→Option R):Option R :=
 bp x1.names (fun y2=>bk x1.items (cO (Int.natAbs 0+Int.natAbs 0+Int.natAbs x1.kind+Int.natAbs x1.num.aq+Int.natAbs x1.num.exp+List.length x1.text+List.length y2+Int.natAbs 0+Int.natAbs 0+Int.natAbs 0+List.length ([]:ae)+64) 0 0 x1.kind x1.num.aq x1.num.exp x1.text y2 0 0 0 ([]:ae) (fun Hm Ql NH U5 Sw Fe y22 ZY VE=>k0 (⟨Hm,⟨Ql,NH⟩,U5,Sw,([]:List Json)⟩:Json))) (fun y3 y4=>cw (Int.natAbs (y3:Int)+Int.natAbs 0+Int.natAbs x1.kind+Int.natAbs x1.num.aq+Int.natAbs x1.num.exp+List.length x1.text+List.length y2+Int.natAbs 0+Int.natAbs 0+Int.natAbs 0+List.length ([]:ae)+List.length y4+64) y3 (y3:Int) 0 x1.kind x1.num.aq x1.num.exp x1.text y2 y3 0 0 0 ([]:ae) y4 (fun ZZ y41 y42 Z0 y44 y45 y46 y47 y48 y49 y50=>k0 (⟨ZZ,⟨y41,y42⟩,Z0,y44,y50⟩:Json))))
theorem field_fresh_ok:dO (R:=R) tt (mD aH bk bp) (oP cO cw) false Tryz.f86 mB mC (hP (Lb bk bp cO cw)):=fun x y k=>by kernel_rfl
end
theorem Y4 (aH:dY R) (vO:aA.Spec.Ok Tryz.prog 86 (aG mB mC (hP aH) av)):cE (R:=R) Tryz.prog (mD (R:=R) aH bk bp) := .p vO <| .d (EB R) rfl <| .c (Fc R) <| .n
def cO:Bw R
 | 0,_,_,_,_,_,_,_,_,_,_,_,_=>none
 | n+1,gf,gk,gw,mA,wC,xH,EC,Gc,JK,JL,qm,e0=>Km (fun gf gk gw mA wC xH EC Gc JK JL qm=>cO n gf gk gw mA wC xH EC Gc JK JL qm e0) gf gk gw mA wC xH EC Gc JK JL qm e0
def Kq (K:Ex→St→Option R) (n:Nat) (d:nd):Option R:=cO n d.1 d.2.1 d.2.2.1 d.2.2.2.1 d.2.2.2.2.1 d.2.2.2.2.2.1 d.2.2.2.2.2.2.1 d.2.2.2.2.2.2.2.1 d.2.2.2.2.2.2.2.2.1 d.2.2.2.2.2.2.2.2.2.1 d.2.2.2.2.2.2.2.2.2.2 (By K)
def cw (aH:dY R):Bx R
 | 0,_,_,_,_,_,_,_,_,_,_,_,_,_,_,_=>none
 | n+1,gf,gk,gw,mA,wC,xH,EC,Gc,JK,JL,qm,zF,Ff,Fg,e0=>wV aH (fun gf gk gw mA wC xH EC Gc JK JL qm zF Ff Fg=>cw aH n gf gk gw mA wC xH EC Gc JK JL qm zF Ff Fg e0) gf gk gw mA wC xH EC Gc JK JL qm zF Ff Fg e0
def Kr (aH:dY R) (K:Ex→St→Option R) (n:Nat) (d:nf):Option R:=cw aH n d.1 d.2.1 d.2.2.1 d.2.2.2.1 d.2.2.2.2.1 d.2.2.2.2.2.1 d.2.2.2.2.2.2.1 d.2.2.2.2.2.2.2.1 d.2.2.2.2.2.2.2.2.1 d.2.2.2.2.2.2.2.2.2.1 d.2.2.2.2.2.2.2.2.2.2.1 d.2.2.2.2.2.2.2.2.2.2.2.1 d.2.2.2.2.2.2.2.2.2.2.2.2.1 d.2.2.2.2.2.2.2.2.2.2.2.2.2 (Bz K)
theorem T3 (aH:dY R) (other:cQ R) (ho:hG tt (cT (mD (R:=R) aH bk bp)) (oP (R:=R) cO (cw aH)) 0 ((az (aX Tryz.f86)).getD 0 .skip) wU other):hG tt (cT (mD (R:=R) aH bk bp)) (oP (R:=R) cO (cw aH)) 0 ((az (aX Tryz.f86)).getD 0 .skip) wU (cM qF qG (IH (cO)) other) :=
 cS (A:=Kq) ho (dX zD (Ko) (Kq) (fun _ _=>by kernel_rfl) (Qj aH bk bp cO (cw aH)) (fun _ _ _=>by kernel_rfl)) Kk VC (fun _ _=>by kernel_rfl) (fun _ _ _=>by kernel_rfl)
theorem T4 (aH:dY R) (other:cQ R) (ho:hG tt (cT (mD (R:=R) aH bk bp)) (oP (R:=R) cO (cw aH)) 0 ((az (aX Tryz.f86)).getD 0 .skip) C5 other):hG tt (cT (mD (R:=R) aH bk bp)) (oP (R:=R) cO (cw aH)) 0 ((az (aX Tryz.f86)).getD 0 .skip) C5 (cM qH qI (II (cw aH)) other) :=
 cS (A:=Kr aH) ho (dX zE (Kp aH) (Kr aH) (fun _ _=>by kernel_rfl) (Qk aH bk bp cO (cw aH)) (fun _ _ _=>by kernel_rfl)) Kl VD (fun _ _=>by kernel_rfl) (fun _ _ _=>by kernel_rfl)
def Aw (aH:dY R):dY R:=fun x1 k0=>Lb bk bp cO (cw aH) x1 k0
theorem VF (R:Type) (aH:dY R) (vO:aA.Spec.Ok Tryz.prog 86 (aG mB mC (hP aH) av)):∀a∈az (aX Tryz.f86),gN tt (cT (mD (R:=R) aH bk bp)) (oP (R:=R) cO (cw aH)) 0 a:=by
 refine fb 1 (by kernel_rfl) fun i hi => ?_
 match i,hi with
 | 0,_=>exact cA (by kernel_rfl) (T3 aH _ (T4 aH _ dy))
 | n+1,hi=>omega
theorem VG (R:Type) (aH:dY R) (vO:aA.Spec.Ok Tryz.prog 86 (aG mB mC (hP aH) av)):kM Tryz.prog 86 (FQ (Aw aH)):=br TT mixed (Y4 aH vO) rfl rfl rfl rfl (VF R aH vO) (field_fresh_ok aH bk bp cO (cw aH))
def jb:Nat→dY R
 | 0,_,_=>none
 | n+1,gf,k0'=>Aw (jb n) gf k0'
theorem field_fresh_N_succ (n:Nat):jb (R:=R) (n+1)=Aw (jb n):=by kernel_rfl
theorem Xq (R:Type):∀n,aA.Spec.Ok Tryz.prog 86 (aG mB mC (hP (jb (R:=R) n)) av) :=
 Ca (run:=fun n=>hP (jb (R:=R) n)) (fun x y k=>by kernel_rfl) fun n hyp=>VG R (jb n) hyp av (ie _)
def cG:dY R:=fun x1 k0=>jb (Json.depth x1+2) x1 k0
theorem Xr (R:Type):hP (R:=R) cG=fun x y k=>hP (jb (Json.depth (⟨x.1.1,⟨x.1.2.1,x.1.2.2.1⟩,x.1.2.2.2.1,x.1.2.2.2.2.1,x.1.2.2.2.2.2.1⟩:Json)+2)) x y k:=by kernel_rfl
theorem Fh (R:Type) (other:aA.Spec R) (ho:aA.Spec.Ok Tryz.prog 86 other):aA.Spec.Ok Tryz.prog 86 (aG mB mC (hP cG) other) :=
 IG (Mb (run:=fun n=>hP (jb (R:=R) n)) (fun x y=>(Json.depth (⟨x.1.1,⟨x.1.2.1,x.1.2.2.1⟩,x.1.2.2.2.1,x.1.2.2.2.2.1,x.1.2.2.2.2.2.1⟩:Json)+2)) ho (Xq R)) (Xr R)
variable {R:Type}
abbrev topic_Name_ty (R:Type):Type:=ae→(Bool→Option R)→Option R
abbrev topic_Name_p:List cU := [.leaf (.str)]
abbrev topic_Name_q:List aU := []
def topic_Name_rr (fn:topic_Name_ty R):lC R topic_Name_p topic_Name_q:=fun x y k=>fn x.1 (fun q0=>k (.bool q0) [])
def topic_Name_s (fn:topic_Name_ty R):=aG topic_Name_p topic_Name_q (topic_Name_rr fn)
section
def topic_Name_E:List (oo R) := [(105,true,(Sb R))]
def topic_Name_X (x1:ae) (k0:Bool→Option R):Option R :=
 bX (xF ([97,98,99,100,101,102,103,104,105,106,107,108,109,110,111,112,113,114,115,116,117,118,119,120,121,122,65,66,67,68,69,70,71,72,73,74,75,76,77,78,79,80,81,82,83,84,85,86,87,88,89,90,48,49,50,51,52,53,54,55,56,57,95,46,58,45]:ae)&&decide (([97,98,99,100,101,102,103,104,105,106,107,108,109,110,111,112,113,114,115,116,117,118,119,120,121,122,65,66,67,68,69,70,71,72,73,74,75,76,77,78,79,80,81,82,83,84,85,86,87,88,89,90,48,49,50,51,52,53,54,55,56,57,95,46,58,45]:ae).length<4294967281)) (bif ((bx x1 ([97,98,99,100,101,102,103,104,105,106,107,108,109,110,111,112,113,114,115,116,117,118,119,120,121,122,65,66,67,68,69,70,71,72,73,74,75,76,77,78,79,80,81,82,83,84,85,86,87,88,89,90,48,49,50,51,52,53,54,55,56,57,95,46,58,45]:ae))==([]:ae))then (bif (!(x1==([]:ae)))then (k0 (decide ((x1.length:Int)≤(16:Int))))else (k0 false))else (k0 false))
theorem topic_Name_ok:dO (R:=R) tt (topic_Name_E (R:=R)) sS false Tryz.f61 topic_Name_p topic_Name_q (topic_Name_rr topic_Name_X):=fun x y k=>by kernel_rfl
end
theorem topic_Name_EOk:cE (R:=R) Tryz.prog (topic_Name_E (R:=R)) := .p (VB) <| .n
def topic_Name:topic_Name_ty R:=fun x1 k0=>topic_Name_X x1 k0
theorem topic_Name_S_ok (R:Type):kM Tryz.prog 61 (topic_Name_s (topic_Name (R:=R))):=br TT mixed (topic_Name_EOk (R:=R)) rfl rfl rfl rfl cq (topic_Name_ok)
abbrev C6 (R:Type):Type:=Int→(Bool→Option R)→Option R
abbrev Lc:List cU := [.leaf (.int .i64)]
abbrev Ld:List aU := []
def Qm (fn:C6 R):lC R Lc Ld:=fun x y k=>fn x.1 (fun q0=>k (.bool q0) [])
def SY (fn:C6 R):=aG Lc Ld (Qm fn)
section
def Le (x1:Int) (k0:Bool→Option R):Option R :=
 bif (decide (x1<(0:Int)))then (k0 true)else (k0 (decide (x1>(1000000000:Int))))
theorem order_num_1_ok:dO (R:=R) tt [] sS false Tryz.f107 Lc Ld (Qm Le):=fun x y k=>by kernel_rfl
end
def fH:C6 R:=fun x1 k0=>Le x1 k0
theorem Xs (R:Type):kM Tryz.prog 107 (SY (fH (R:=R))):=br TT mixed .n rfl rfl rfl rfl cq (order_num_1_ok)
abbrev iP (R:Type):Type:=(List Int)→(Int→Option R)→Option R
abbrev mg:List cU := [.leaf (.sl (.int .i64)), .leaf (.fn 107)]
abbrev mh:List aU := []
def sH (fn:iP R):lC R mg mh:=fun x y k=>fn x.1 (fun q0=>k (.int .i64 q0) [])
def ta (fn:iP R):=aG mg mh (sH fn)
abbrev jN (R:Type):Type:=Nat→(List Int)→Int→Int→(Option R)→(Int→Option R)→Option R
def gT:Hint := { live := [0,1,7,8],own := [],rows := [],cells := [],drop := [],out := [4] }
abbrev eg:Type:=(List Int)×Int×Int
def jG:eg→St:=fun d=>⟨.sl (.int .i64) d.1 .no :: .func 107 [] []::U 5 (.int .i64 d.2.1 :: .int .i64 d.2.2::U 10 ([])), []⟩
def jO (K:Ex→St→Option R):Option R:=K (.exit 0) ⟨U 19 ([]), []⟩
def jP (K:Ex→St→Option R) (q0:Int):Option R:=K (.ret) ⟨U 4 (.int .i64 q0::U 14 ([])), []⟩
abbrev fk:List cU := .leaf (.sl (.int .i64)) :: .leaf (.fn 107)::PU 5 (.leaf (.int .i64) :: .leaf (.int .i64)::PU 10 ([]))
abbrev fm:List aU := []
def pd (x:cU.bT fk) (y:aU.bT fm):Nat:=(List.length x.1+Int.natAbs x.2.2.2.2.2.2.2.1+Int.natAbs ((t8 x).1)+64)
def BA (x:cU.bT fk) (y:aU.bT fm):eg:=(x.1,x.2.2.2.2.2.2.2.1,(t8 x).1)
def oQ (L:jN R):xp R fk fm:=fun x y K=>L (pd x y) x.1 x.2.2.2.2.2.2.2.1 ((t8 x).1) (jO K) (jP K)
section
variable (fH:C6 R) (aY:jN R)
def fe:List (oo R) := [(107,true,(SY fH av))]
def gU (dJ:(List Int)→Int→Int→Option R) (x2:List Int) (x3:Int) (x4:Int) (e0:Option R) (e1:Int→Option R):Option R :=
 bif (decide (x4<x3))then (bX (decide ((0:Int)≤x4)&&decide (x4<x2.length)) (fH (x2.getD x4.toNat (Ty.aR (.int .i64))) (fun y5=>bif y5 then (e1 x4)else (dJ x2 x3 (IntKind.i64.wrap (x4+1))))))else (e0)
def pe (K:Ex→St→Option R) (rc:eg→Option R) (d:eg):Option R:=gU fH (fun z0 z1 z2=>rc (z0,z1,z2)) d.1 d.2.1 d.2.2 (jO K) (jP K)
def gC:Nat→Option (Hint×cQ R):=fun i=>match i with
 | 2=>some (gT,(cM fk fm (oQ aY) iK))
 | _=>none
theorem yz (K:Ex→St→Option R) (rc:St→Option R) (d:eg):roundOf tt (cT (fe fH)) (gC aY) 0 ((az (aX Tryz.f143)).getD 0 .skip) gT (jG d) rc K=pe fH K (fun d=>rc (jG d)) d:=by kernel_rfl
def mi (x1:List Int) (k0:Int→Option R):Option R :=
 aY (List.length x1+Int.natAbs (x1.length:Int)+Int.natAbs 0+64) x1 (x1.length:Int) 0 (k0 (-1)) (fun y6=>k0 y6)
theorem ED:dO (R:=R) tt (fe fH) (gC aY) false Tryz.f143 mg mh (sH (mi aY)):=fun x y k=>by kernel_rfl
end
theorem C7:cE (R:=R) Tryz.prog (fe (R:=R) fH) := .c (Xs R) <| .n
def aY:jN R
 | 0,_,_,_,_,_=>none
 | n+1,gf,gk,gw,e0,e1=>gU fH (fun gf gk gw=>aY n gf gk gw e0 e1) gf gk gw e0 e1
def pf (K:Ex→St→Option R) (n:Nat) (d:eg):Option R:=aY n d.1 d.2.1 d.2.2 (jO K) (jP K)
theorem Ax (other:cQ R) (ho:hG tt (cT (fe (R:=R) fH)) (gC (R:=R) aY) 0 ((az (aX Tryz.f143)).getD 0 .skip) gT other):hG tt (cT (fe (R:=R) fH)) (gC (R:=R) aY) 0 ((az (aX Tryz.f143)).getD 0 .skip) gT (cM fk fm (oQ (aY)) other) :=
 cS (A:=pf) ho (dX jG (pe fH) (pf) (fun _ _=>by kernel_rfl) (yz fH aY) (fun _ _ _=>by kernel_rfl)) pd BA (fun _ _=>by kernel_rfl) (fun _ _ _=>by kernel_rfl)
def cY:iP R:=fun x1 k0=>mi aY x1 k0
theorem BB (R:Type):∀a∈az (aX Tryz.f143),gN tt (cT (fe (R:=R) fH)) (gC (R:=R) aY) 0 a:=by
 refine fb 1 (by kernel_rfl) fun i hi => ?_
 match i,hi with
 | 0,_=>exact cA (by kernel_rfl) (Ax _ dy)
 | n+1,hi=>omega
theorem CG (R:Type):kM Tryz.prog 143 (ta (cY (R:=R))):=br TT mixed (C7 (R:=R)) rfl rfl rfl rfl (BB R) (ED fH aY)
abbrev gV (R:Type):Type:=(List Int)→(Bool→Option R)→Option R
abbrev kF:List cU := [.leaf (.sl (.int .i64)), .leaf (.fn 107)]
abbrev kG:List aU := []
def pg (fn:gV R):lC R kF kG:=fun x y k=>fn x.1 (fun q0=>k (.bool q0) [])
def p7 (fn:gV R):=aG kF kG (pg fn)
section
variable (cY:iP R)
def p8:List (oo R) := [(143,true,(ta cY av))]
def kH (x1:List Int) (k0:Bool→Option R):Option R :=
 cY x1 (fun y2=>k0 (decide (y2≥(0:Int))))
theorem BC:dO (R:=R) tt (p8 cY) sS false Tryz.f106 kF kG (pg (kH cY)):=fun x y k=>by kernel_rfl
end
theorem Ay:cE (R:=R) Tryz.prog (p8 (R:=R) cY) := .c (CG R) <| .n
def cD:gV R:=fun x1 k0=>kH cY x1 k0
theorem zG (R:Type):kM Tryz.prog 106 (p7 (cD (R:=R))):=br TT mixed (Ay (R:=R)) rfl rfl rfl rfl cq (BC cY)
abbrev HK (R:Type):Type:=(List Int)→(Bool→Option R)→Option R
abbrev Qn:List cU := [.leaf (.sl (.int .i64))]
abbrev Qo:List aU := []
def VH (fn:HK R):lC R Qn Qo:=fun x y k=>fn x.1 (fun q0=>k (.bool q0) [])
def Yr (fn:HK R):=aG Qn Qo (VH fn)
section
variable (cD:gV R)
def Ys:List (oo R) := [(106,true,(p7 cD av))]
def Qp (x1:List Int) (k0:Bool→Option R):Option R :=
 cD x1 (fun y2=>k0 (!y2))
theorem order_num_ok:dO (R:=R) tt (Ys cD) sS false Tryz.f62 Qn Qo (VH (Qp cD)):=fun x y k=>by kernel_rfl
end
theorem order_num_EOk:cE (R:=R) Tryz.prog (Ys (R:=R) cD) := .c (zG R) <| .n
def gD:HK R:=fun x1 k0=>Qp cD x1 k0
theorem order_num_S_ok (R:Type):kM Tryz.prog 62 (Yr (gD (R:=R))):=br TT mixed (order_num_EOk (R:=R)) rfl rfl rfl rfl cq (order_num_ok cD)
abbrev mS (R:Type):Type:=Order→(Bool→Option R)→Option R
abbrev Lf:List cU := [.agg [.int .i64, .str, .int .i64, .int .i64, .sl .stop, .sl .na]]
abbrev Lg:List aU := []
def Qq (fn:mS R):lC R Lf Lg:=fun x y k=>fn (⟨x.1.1,x.1.2.1,x.1.2.2.1,x.1.2.2.2.1,x.1.2.2.2.2.1,x.1.2.2.2.2.2.1⟩:Order) (fun q0=>k (.bool q0) [])
def wm (fn:mS R):=aG Lf Lg (Qq fn)
abbrev BD (R:Type):Type:=Nat→(List aA.Way)→Int→Int→Order→(Option R)→(Bool→Option R)→Option R
def wW:Hint := { live := [1,66,67,68],own := [],rows := [],cells := [],drop := [],out := [2] }
abbrev nh:Type:=(List aA.Way)×Int×Int×Order
def zH:nh→St:=fun d=>⟨.undef :: .ptr 0 0::U 64 (.sl .na d.1 .no :: .int .i64 d.2.1 :: .int .i64 d.2.2.1::U 59 ([])), [.cells [.int .i64 d.2.2.2.header, .str d.2.2.2.cd, .int .i64 d.2.2.2.order, .int .i64 d.2.2.2.update, .sl .stop d.2.2.2.nodes .no, .sl .na d.2.2.2.aS .no]]⟩
def BE (K:Ex→St→Option R):Option R:=K (.exit 0) ⟨U 128 ([]), []⟩
def BF (K:Ex→St→Option R) (q0:Bool):Option R:=K (.ret) ⟨U 2 (.bool q0::U 125 ([])), []⟩
abbrev qJ:List cU := .leaf (.undef) :: .leaf (.ptr 0 0)::PU 64 (.leaf (.sl .na) :: .leaf (.int .i64) :: .leaf (.int .i64)::PU 59 ([]))
abbrev qK:List aU := [.cells [.int .i64, .str, .int .i64, .int .i64, .sl .stop, .sl .na]]
def Ks (x:cU.bT qJ) (y:aU.bT qK):Nat:=(List.length ((t8 (t8 (t8 (t8 (t8 (t8 (t8 (t8 x)))))))).2.2.1)+Int.natAbs ((t8 (t8 (t8 (t8 (t8 (t8 (t8 (t8 x)))))))).2.2.2.1)+Int.natAbs ((t8 (t8 (t8 (t8 (t8 (t8 (t8 (t8 x)))))))).2.2.2.2.1)+Order.fu (⟨y.1.1,y.1.2.1,y.1.2.2.1,y.1.2.2.2.1,y.1.2.2.2.2.1,y.1.2.2.2.2.2.1⟩:Order)+64)
def VI (x:cU.bT qJ) (y:aU.bT qK):nh:=((t8 (t8 (t8 (t8 (t8 (t8 (t8 (t8 x)))))))).2.2.1,(t8 (t8 (t8 (t8 (t8 (t8 (t8 (t8 x)))))))).2.2.2.1,(t8 (t8 (t8 (t8 (t8 (t8 (t8 (t8 x)))))))).2.2.2.2.1,(⟨y.1.1,y.1.2.1,y.1.2.2.1,y.1.2.2.2.1,y.1.2.2.2.2.1,y.1.2.2.2.2.2.1⟩:Order))
def IJ (L:BD R):xp R qJ qK:=fun x y K=>L (Ks x y) ((t8 (t8 (t8 (t8 (t8 (t8 (t8 (t8 x)))))))).2.2.1) ((t8 (t8 (t8 (t8 (t8 (t8 (t8 (t8 x)))))))).2.2.2.1) ((t8 (t8 (t8 (t8 (t8 (t8 (t8 (t8 x)))))))).2.2.2.2.1) (⟨y.1.1,y.1.2.1,y.1.2.2.1,y.1.2.2.2.1,y.1.2.2.2.2.1,y.1.2.2.2.2.2.1⟩:Order) (BE K) (BF K)
section
variable (gD:HK R) (topic_Name:topic_Name_ty R) (da:BD R)
def wo:List (oo R) := [(62,true,(Yr gD av)),(61,true,(topic_Name_s topic_Name av))]
def wX (dJ:(List aA.Way)→Int→Int→Order→Option R) (x6:List aA.Way) (x7:Int) (x8:Int) (x9:Order) (e0:Option R) (e1:Bool→Option R):Option R :=
 bif (decide (x8<x7))then (bX (decide ((0:Int)≤x8)&&decide (x8<x6.length)) (bX (decide ((0:Int)≤x8)&&decide (x8<x9.nodes.length)) (bX (decide ((0:Int)≤(IntKind.i64.wrap (x8+1)))&&decide ((IntKind.i64.wrap (x8+1))<x9.nodes.length)) (gD ([(x6.getD x8.toNat (Ty.aR .na)).zy,(x6.getD x8.toNat (Ty.aR .na)).seq,(x9.nodes.getD (IntKind.i64.wrap (x8+1)).toNat (Ty.aR .stop)).node,(x9.nodes.getD (IntKind.i64.wrap (x8+1)).toNat (Ty.aR .stop)).seq]:List Int) (fun p9=>bif (!p9)then (e1 false)else (bif ((x6.getD x8.toNat (Ty.aR .na)).seq != (IntKind.i64.wrap ((x9.nodes.getD x8.toNat (Ty.aR .stop)).seq+1)))then (e1 false)else (bif ((x9.nodes.getD (IntKind.i64.wrap (x8+1)).toNat (Ty.aR .stop)).seq != (IntKind.i64.wrap ((x6.getD x8.toNat (Ty.aR .na)).seq+1)))then (e1 false)else (bif (!((x6.getD x8.toNat (Ty.aR .na)).bE==(x9.nodes.getD (IntKind.i64.wrap (x8+1)).toNat (Ty.aR .stop)).bE))then (e1 false)else (bif (x9.nodes.getD (IntKind.i64.wrap (x8+1)).toNat (Ty.aR .stop)).bE then (bif (!(x9.nodes.getD x8.toNat (Ty.aR .stop)).bE)then (e1 false)else (dJ x6 x7 (IntKind.i64.wrap (x8+1)) x9))else (dJ x6 x7 (IntKind.i64.wrap (x8+1)) x9))))))))))else (e0)
def Kt (K:Ex→St→Option R) (rc:nh→Option R) (d:nh):Option R:=wX gD (fun z0 z1 z2 z3=>rc (z0,z1,z2,z3)) d.1 d.2.1 d.2.2.1 d.2.2.2 (BE K) (BF K)
def Az:Nat→Option (Hint×cQ R):=fun i=>match i with
 | 8=>some (wW,(cM qJ qK (IJ da) iK))
 | _=>none
theorem Qr (K:Ex→St→Option R) (rc:St→Option R) (d:nh):roundOf tt (cT (wo gD topic_Name)) (Az da) 0 ((az (aX Tryz.f21)).getD 0 .skip) wW (zH d) rc K=Kt gD K (fun d=>rc (zH d)) d:=by kernel_rfl
def Lh (x1:Order) (k0:Bool→Option R):Option R :=
 topic_Name x1.cd (fun y2=>bif (!y2)then (k0 false)else (gD ([x1.header,x1.order,x1.update]:List Int) (fun y3=>bif (!y3)then (k0 false)else (bif (decide ((x1.nodes.length:Int)<(1:Int)))then (k0 false)else (bif (decide ((x1.nodes.length:Int)>(64:Int)))then (k0 false)else (bif ((x1.aS.length:Int) != (IntKind.i64.wrap ((x1.nodes.length:Int) - 1)))then (k0 false)else (bX (decide ((0:Int)<x1.nodes.length)) (bif ((Int.tmod (x1.nodes.getD 0 (Ty.aR .stop)).seq 2) != 0)then (k0 false)else (bif (!(x1.nodes.getD 0 (Ty.aR .stop)).bE)then (k0 false)else (gD ([(x1.nodes.getD 0 (Ty.aR .stop)).node,(x1.nodes.getD 0 (Ty.aR .stop)).seq]:List Int) (fun y5=>bif (!y5)then (k0 false)else (da (List.length x1.aS+Int.natAbs (x1.aS.length:Int)+Int.natAbs 0+Order.fu x1+64) x1.aS (x1.aS.length:Int) 0 x1 (k0 true) (fun yp=>k0 yp)))))))))))))
theorem order_Right_ok:dO (R:=R) tt (wo gD topic_Name) (Az da) false Tryz.f21 Lf Lg (Qq (Lh gD topic_Name da)):=fun x y k=>by kernel_rfl
end
theorem Y5:cE (R:=R) Tryz.prog (wo (R:=R) gD topic_Name) := .c (order_num_S_ok R) <| .c (topic_Name_S_ok R) <| .n
def da:BD R
 | 0,_,_,_,_,_,_=>none
 | n+1,gf,gk,gw,mA,e0,e1=>wX gD (fun gf gk gw mA=>da n gf gk gw mA e0 e1) gf gk gw mA e0 e1
def Ku (K:Ex→St→Option R) (n:Nat) (d:nh):Option R:=da n d.1 d.2.1 d.2.2.1 d.2.2.2 (BE K) (BF K)
theorem T5 (other:cQ R) (ho:hG tt (cT (wo (R:=R) gD topic_Name)) (Az (R:=R) da) 0 ((az (aX Tryz.f21)).getD 0 .skip) wW other):hG tt (cT (wo (R:=R) gD topic_Name)) (Az (R:=R) da) 0 ((az (aX Tryz.f21)).getD 0 .skip) wW (cM qJ qK (IJ (da)) other) :=
 cS (A:=Ku) ho (dX zH (Kt gD) (Ku) (fun _ _=>by kernel_rfl) (Qr gD topic_Name da) (fun _ _ _=>by kernel_rfl)) Ks VI (fun _ _=>by kernel_rfl) (fun _ _ _=>by kernel_rfl)
def aZ:mS R:=fun x1 k0=>Lh gD topic_Name da x1 k0
theorem VJ (R:Type):∀a∈az (aX Tryz.f21),gN tt (cT (wo (R:=R) gD topic_Name)) (Az (R:=R) da) 0 a:=by
 refine fb 1 (by kernel_rfl) fun i hi => ?_
 match i,hi with
 | 0,_=>exact cA (by kernel_rfl) (T5 _ dy)
 | n+1,hi=>omega
theorem td (R:Type):kM Tryz.prog 21 (wm (aZ (R:=R))):=br TT mixed (Y5 (R:=R)) rfl rfl rfl rfl (VJ R) (order_Right_ok gD topic_Name da)
abbrev jJ (R:Type):Type:=Int→Int→Int→(Bool→Option R)→Option R
abbrev xI:List cU := [.leaf (.int .i64), .leaf (.int .i64), .leaf (.int .i64)]
abbrev xJ:List aU := []
def EO (fn:jJ R):lC R xI xJ:=fun x y k=>fn x.1 x.2.1 x.2.2.1 (fun q0=>k (.bool q0) [])
def qL (fn:jJ R):=aG xI xJ (EO fn)
section
def mT (x1:Int) (x2:Int) (x3:Int) (k0:Bool→Option R):Option R :=
 bif (decide (x1≤x2))then (k0 (decide (x2≤x3)))else (k0 false)
theorem PF:dO (R:=R) tt [] sS false Tryz.f135 xI xJ (EO mT):=fun x y k=>by kernel_rfl
end
def ay:jJ R:=fun x1 x2 x3 k0=>mT x1 x2 x3 k0
theorem tf (R:Type):kM Tryz.prog 135 (qL (ay (R:=R))):=br TT mixed .n rfl rfl rfl rfl cq (PF)
abbrev vP (R:Type):Type:=Int→Int→(fO→Bool→Option R)→Option R
abbrev IK:List cU := [.leaf (.int .i64), .leaf (.int .i64)]
abbrev IL:List aU := []
def Pd (fn:vP R):lC R IK IL:=fun x y k=>fn x.1 x.2.1 (fun q0 q1=>k (.tuple [.agg [.int .i64 q0.aq, .int .i64 q0.exp], .bool q1]) [])
def IM (fn:vP R):=aG IK IL (Pd fn)
abbrev zI (R:Type):Type:=Nat→Int→Int→fO→(Int→Int→fO→Option R)→Option R
def u0:Hint := { live := [0,1,4],own := [],rows := [],cells := [],drop := [],out := [0,1,4,5] }
abbrev mj:Type:=Int×Int×fO
def xK:mj→St:=fun d=>⟨.int .i64 d.1 :: .int .i64 d.2.1::U 2 (.ptr 0 0::U 25 ([])), [.cells [.int .i64 d.2.2.aq, .int .i64 d.2.2.exp]]⟩
def zJ (K:Ex→St→Option R) (q0:Int) (q1:Int) (q2:fO):Option R:=K (.exit 0) ⟨.int .i64 q0 :: .int .i64 q1::U 2 (.ptr 0 0::U 25 ([])), [.cells [.int .i64 q2.aq, .int .i64 q2.exp]]⟩
abbrev ph:List cU := .leaf (.int .i64) :: .leaf (.int .i64)::PU 2 (.leaf (.ptr 0 0)::PU 25 ([]))
abbrev pj:List aU := [.cells [.int .i64, .int .i64]]
def IN (x:cU.bT ph) (y:aU.bT pj):Nat:=(Int.natAbs x.1+Int.natAbs x.2.1+fO.fu (⟨y.1.1,y.1.2.1⟩:fO)+64)
def T6 (x:cU.bT ph) (y:aU.bT pj):mj:=(x.1,x.2.1,(⟨y.1.1,y.1.2.1⟩:fO))
def Hn (L:zI R):xp R ph pj:=fun x y K=>L (IN x y) x.1 x.2.1 (⟨y.1.1,y.1.2.1⟩:fO) (zJ K)
section
variable (ay:jJ R) (bG:zI R)
def tg:List (oo R) := [(135,true,(qL ay av))]
def fQ (dJ:Int→Int→fO→Option R) (x3:Int) (x4:Int) (x5:fO) (e0:Int→Int→fO→Option R):Option R :=
 bif ((Int.tmod x3 10)==0)then (dJ (IntKind.i64.wrap (Int.tdiv x3 10)) (IntKind.i64.wrap (x4+1)) x5)else (e0 x3 x4 x5)
def IP (K:Ex→St→Option R) (rc:mj→Option R) (d:mj):Option R:=fQ (fun z0 z1 z2=>rc (z0,z1,z2)) d.1 d.2.1 d.2.2 (zJ K)
def xL:Nat→Option (Hint×cQ R):=fun i=>match i with
 | 4=>some (u0,(cM ph pj (Hn bG) iK))
 | _=>none
theorem PG (K:Ex→St→Option R) (rc:St→Option R) (d:mj):roundOf tt (cT (tg ay)) (xL bG) 0 ((az (aX Tryz.f97)).getD 0 .skip) u0 (xK d) rc K=IP K (fun d=>rc (xK d)) d:=by kernel_rfl
def kQ (x1:Int) (x2:Int) (k0:fO→Bool→Option R):Option R :=
 bif (x1==0)then (k0 (⟨0,0⟩:fO) true)else (bG (Int.natAbs x1+Int.natAbs (min x2 1000000)+fO.fu (⟨0,0⟩:fO)+64) x1 (min x2 1000000) (⟨0,0⟩:fO) (fun y6 y7 y8=>ay (-1000000000000000) y6 1000000000000000 (fun y9=>bif (!y9)then (k0 (⟨0,0⟩:fO) false)else (ay (-9) y7 9 (fun p9=>bif (!p9)then (k0 (⟨0,0⟩:fO) false)else (k0 (⟨y6,y7⟩:fO) true))))))
theorem Y6:dO (R:=R) tt (tg ay) (xL bG) false Tryz.f97 IK IL (Pd (kQ ay bG)):=fun x y k=>by kernel_rfl
end
theorem Xt:cE (R:=R) Tryz.prog (tg (R:=R) ay) := .c (tf R) <| .n
def bG:zI R
 | 0,_,_,_,_=>none
 | n+1,gf,gk,gw,e0=>fQ (fun gf gk gw=>bG n gf gk gw e0) gf gk gw e0
def IQ (K:Ex→St→Option R) (n:Nat) (d:mj):Option R:=bG n d.1 d.2.1 d.2.2 (zJ K)
theorem Sx (other:cQ R) (ho:hG tt (cT (tg (R:=R) ay)) (xL (R:=R) bG) 0 ((az (aX Tryz.f97)).getD 0 .skip) u0 other):hG tt (cT (tg (R:=R) ay)) (xL (R:=R) bG) 0 ((az (aX Tryz.f97)).getD 0 .skip) u0 (cM ph pj (Hn (bG)) other) :=
 cS (A:=IQ) ho (dX xK (IP) (IQ) (fun _ _=>by kernel_rfl) (PG ay bG) (fun _ _ _=>by kernel_rfl)) IN T6 (fun _ _=>by kernel_rfl) (fun _ _ _=>by kernel_rfl)
def bm:vP R:=fun x1 x2 k0=>kQ ay bG x1 x2 k0
theorem T7 (R:Type):∀a∈az (aX Tryz.f97),gN tt (cT (tg (R:=R) ay)) (xL (R:=R) bG) 0 a:=by
 refine fb 1 (by kernel_rfl) fun i hi => ?_
 match i,hi with
 | 0,_=>exact cA (by kernel_rfl) (Sx _ dy)
 | n+1,hi=>omega
theorem Kv (R:Type):kM Tryz.prog 97 (IM (bm (R:=R))):=br TT mixed (Xt (R:=R)) rfl rfl rfl rfl (T7 R) (Y6 ay bG)
abbrev C8 (R:Type):Type:=Int→(Json→Option R)→Option R
abbrev Qs:List cU := [.leaf (.int .i64)]
abbrev Qt:List aU := []
def VK (fn:C8 R):lC R Qs Qt:=fun x y k=>fn x.1 (fun q0=>k (.agg [.int .i64 q0.kind, .int .i64 q0.num.aq, .int .i64 q0.num.exp, .str q0.text, .sl .str q0.names .no, .sl .json q0.items .no]) [])
def Qu (fn:C8 R):=aG Qs Qt (VK fn)
section
variable (bm:vP R)
def Yt:List (oo R) := [(97,true,(IM bm av))]
def Qv (x1:Int) (k0:Json→Option R):Option R :=
 bm x1 0 (fun y2 y3=>bif (!y3)then (k0 (⟨1,⟨0,0⟩,([]:ae),([]:List ae),([]:List Json)⟩:Json))else (k0 (⟨4,⟨y2.aq,y2.exp⟩,([]:ae),([]:List ae),([]:List Json)⟩:Json)))
theorem field_Int_ok:dO (R:=R) tt (Yt bm) sS false Tryz.f48 Qs Qt (VK (Qv bm)):=fun x y k=>by kernel_rfl
end
theorem field_Int_EOk:cE (R:=R) Tryz.prog (Yt (R:=R) bm) := .c (Kv R) <| .n
def gP:C8 R:=fun x1 k0=>Qv bm x1 k0
theorem Qw (R:Type):kM Tryz.prog 48 (Qu (gP (R:=R))):=br TT mixed (field_Int_EOk (R:=R)) rfl rfl rfl rfl cq (field_Int_ok bm)
abbrev C9 (R:Type):Type:=ae→(Json→Option R)→Option R
abbrev Qx:List cU := [.leaf (.str)]
abbrev Qy:List aU := []
def VL (fn:C9 R):lC R Qx Qy:=fun x y k=>fn x.1 (fun q0=>k (.agg [.int .i64 q0.kind, .int .i64 q0.num.aq, .int .i64 q0.num.exp, .str q0.text, .sl .str q0.names .no, .sl .json q0.items .no]) [])
def Qz (fn:C9 R):=aG Qx Qy (VL fn)
section
def Yu (x1:ae) (k0:Json→Option R):Option R :=
 k0 (⟨5,⟨0,0⟩,x1,([]:List ae),([]:List Json)⟩:Json)
theorem field_Str_ok:dO (R:=R) tt [] sS false Tryz.f34 Qx Qy (VL Yu):=fun x y k=>by kernel_rfl
end
def gE:C9 R:=fun x1 k0=>Yu x1 k0
theorem QA (R:Type):kM Tryz.prog 34 (Qz (gE (R:=R))):=br TT mixed .n rfl rfl rfl rfl cq (field_Str_ok)
abbrev HL (R:Type):Type:=Bool→(Json→Option R)→Option R
abbrev QB:List cU := [.leaf (.bool)]
abbrev QC:List aU := []
def VM (fn:HL R):lC R QB QC:=fun x y k=>fn x.1 (fun q0=>k (.agg [.int .i64 q0.kind, .int .i64 q0.num.aq, .int .i64 q0.num.exp, .str q0.text, .sl .str q0.names .no, .sl .json q0.items .no]) [])
def Yv (fn:HL R):=aG QB QC (VM fn)
section
def Yw (x1:Bool) (k0:Json→Option R):Option R :=
 bif x1 then (k0 (⟨3,⟨0,0⟩,([]:ae),([]:List ae),([]:List Json)⟩:Json))else (k0 (⟨2,⟨0,0⟩,([]:ae),([]:List ae),([]:List Json)⟩:Json))
theorem field_Yes_ok:dO (R:=R) tt [] sS false Tryz.f99 QB QC (VM Yw):=fun x y k=>by kernel_rfl
end
def wu:HL R:=fun x1 k0=>Yw x1 k0
theorem field_Yes_S_ok (R:Type):kM Tryz.prog 99 (Yv (wu (R:=R))):=br TT mixed .n rfl rfl rfl rfl cq (field_Yes_ok)
variable {R:Type}
abbrev wv (R:Type):Type:=(List ae)→(List Json)→(Json→Option R)→Option R
abbrev NI:List cU := [.leaf (.sl .str), .leaf (.sl .json)]
abbrev NJ:List aU := []
def SZ (fn:wv R):lC R NI NJ:=fun x y k=>fn x.1 x.2.1 (fun q0=>k (.agg [.int .i64 q0.kind, .int .i64 q0.num.aq, .int .i64 q0.num.exp, .str q0.text, .sl .str q0.names .no, .sl .json q0.items .no]) [])
def HM (fn:wv R):=aG NI NJ (SZ fn)
abbrev Da (R:Type):Type:=Nat→(List ae)→(List Json)→Int→Int→Int→Int→Int→ae→Int→Int→Int→ae→(List ae)→(List Json)→(Int→Int→Int→ae→Int→Int→Int→ae→(List ae)→(List Json)→Option R)→Option R
def yA:Hint := { live := [0,4,5,15,16,17],own := [],rows := [],cells := [(1,4, .str,false),(1,5, .json,false)],drop := [],out := [4,5] }
abbrev oZ:Type:=(List ae)×(List Json)×Int×Int×Int×Int×Int×ae×Int×Int×Int×ae×(List ae)×(List Json)
def BG:oZ→St:=fun d=>⟨.sl .str d.1 .no::U 3 (.ptr 0 0 :: .ptr 1 0::U 9 (.sl .json d.2.1 .no :: .int .i64 d.2.2.1 :: .int .i64 d.2.2.2.1::U 30 ([]))), [.cells [.int .i64 d.2.2.2.2.1, .int .i64 d.2.2.2.2.2.1, .int .i64 d.2.2.2.2.2.2.1, .str d.2.2.2.2.2.2.2.1, .bB, .bB], .cells [.int .i64 d.2.2.2.2.2.2.2.2.1, .int .i64 d.2.2.2.2.2.2.2.2.2.1, .int .i64 d.2.2.2.2.2.2.2.2.2.2.1, .str d.2.2.2.2.2.2.2.2.2.2.2.1, .sl .str d.2.2.2.2.2.2.2.2.2.2.2.2.1 (.own 2), .sl .json d.2.2.2.2.2.2.2.2.2.2.2.2.2 (.own 3)], .tok, .tok]⟩
def Db (K:Ex→St→Option R) (q0:Int) (q1:Int) (q2:Int) (q3:ae) (q4:Int) (q5:Int) (q6:Int) (q7:ae) (q8:List ae) (q9:List Json):Option R:=K (.exit 0) ⟨U 4 (.ptr 0 0 :: .ptr 1 0::U 42 ([])), [.cells [.int .i64 q0, .int .i64 q1, .int .i64 q2, .str q3, .bB, .bB], .cells [.int .i64 q4, .int .i64 q5, .int .i64 q6, .str q7, .sl .str q8 (.own 2), .sl .json q9 (.own 3)], .tok, .tok]⟩
abbrev th:List cU := .leaf (.sl .str)::PU 3 (.leaf (.ptr 0 0) :: .leaf (.ptr 1 0)::PU 9 (.leaf (.sl .json) :: .leaf (.int .i64) :: .leaf (.int .i64)::PU 30 ([])))
abbrev ti:List aU := [.cells [.int .i64, .int .i64, .int .i64, .str, .bB, .bB], .cells [.int .i64, .int .i64, .int .i64, .str, .TW .str 2, .TW .json 3], .tok, .tok]
def Mc (x:cU.bT th) (y:aU.bT ti):Nat:=(List.length x.1+List.length ((t8 x).2.2.2.2.2.2.2.1)+Int.natAbs ((t8 (t8 x)).1)+Int.natAbs ((t8 (t8 x)).2.1)+Int.natAbs y.1.1+Int.natAbs y.1.2.1+Int.natAbs y.1.2.2.1+List.length y.1.2.2.2.1+Int.natAbs y.2.1.1+Int.natAbs y.2.1.2.1+Int.natAbs y.2.1.2.2.1+List.length y.2.1.2.2.2.1+List.length y.2.1.2.2.2.2.1+List.length y.2.1.2.2.2.2.2.1+64)
def Xu (x:cU.bT th) (y:aU.bT ti):oZ:=(x.1,(t8 x).2.2.2.2.2.2.2.1,(t8 (t8 x)).1,(t8 (t8 x)).2.1,y.1.1,y.1.2.1,y.1.2.2.1,y.1.2.2.2.1,y.2.1.1,y.2.1.2.1,y.2.1.2.2.1,y.2.1.2.2.2.1,y.2.1.2.2.2.2.1,y.2.1.2.2.2.2.2.1)
def Kw (L:Da R):xp R th ti:=fun x y K=>L (Mc x y) x.1 ((t8 x).2.2.2.2.2.2.2.1) ((t8 (t8 x)).1) ((t8 (t8 x)).2.1) y.1.1 y.1.2.1 y.1.2.2.1 y.1.2.2.2.1 y.2.1.1 y.2.1.2.1 y.2.1.2.2.1 y.2.1.2.2.2.1 y.2.1.2.2.2.2.1 y.2.1.2.2.2.2.2.1 (Db K)
section
variable (cG:dY R) (aC:gg R) (dz:Da R)
def yB:List (oo R) := [(86,true,(FQ cG av)),(85,true,(me aC av))]
def yC (dJ:(List ae)→(List Json)→Int→Int→Int→Int→Int→ae→Int→Int→Int→ae→(List ae)→(List Json)→Option R) (x3:List ae) (x4:List Json) (x5:Int) (x6:Int) (x7:Int) (x8:Int) (x9:Int) (Xp:ae) (PE:Int) (Et:Int) (JJ:Int) (Kn:ae) (ng:List ae) (qM:List Json) (e0:Int→Int→Int→ae→Int→Int→Int→ae→(List ae)→(List Json)→Option R):Option R :=
 bif (decide (x6<x5))then (bX (decide ((0:Int)≤x6)&&decide (x6<x4.length)) (bX (decide ((0:Int)≤x6)&&decide (x6<x3.length)) (aC ng (x3.getD x6.toNat (Ty.aR .str)) (fun Ql=>bif (!Ql)then (bX (decide ((0:Int)≤x6)&&decide (x6<x3.length)) (bX (decide ((ng.length+1)*16≤140737488355328)) (cG (⟨(x4.getD x6.toNat (Ty.aR .json)).kind,⟨(x4.getD x6.toNat (Ty.aR .json)).num.aq,(x4.getD x6.toNat (Ty.aR .json)).num.exp⟩,(x4.getD x6.toNat (Ty.aR .json)).text,(x4.getD x6.toNat (Ty.aR .json)).names,(x4.getD x6.toNat (Ty.aR .json)).items⟩:Json) (fun NH=>bX (decide ((qM.length+1)*88≤140737488355328)) (dJ x3 x4 x5 (IntKind.i64.wrap (x6+1)) x7 x8 x9 Xp PE Et JJ Kn (ng++([(x3.getD x6.toNat (Ty.aR .str))]:List ae)) (qM++([(⟨NH.kind,⟨NH.num.aq,NH.num.exp⟩,NH.text,NH.names,NH.items⟩:Json)]:List Json)))))))else (dJ x3 x4 x5 (IntKind.i64.wrap (x6+1)) x7 x8 x9 Xp PE Et JJ Kn ng qM)))))else (e0 x7 x8 x9 Xp PE Et JJ Kn ng qM)
def Md (K:Ex→St→Option R) (rc:oZ→Option R) (d:oZ):Option R:=yC cG aC (fun z0 z1 z2 z3 z4 z5 z6 z7 z8 z9 T2 wk z12 z13=>rc (z0,z1,z2,z3,z4,z5,z6,z7,z8,z9,T2,wk,z12,z13)) d.1 d.2.1 d.2.2.1 d.2.2.2.1 d.2.2.2.2.1 d.2.2.2.2.2.1 d.2.2.2.2.2.2.1 d.2.2.2.2.2.2.2.1 d.2.2.2.2.2.2.2.2.1 d.2.2.2.2.2.2.2.2.2.1 d.2.2.2.2.2.2.2.2.2.2.1 d.2.2.2.2.2.2.2.2.2.2.2.1 d.2.2.2.2.2.2.2.2.2.2.2.2.1 d.2.2.2.2.2.2.2.2.2.2.2.2.2 (Db K)
def Dc:Nat→Option (Hint×cQ R):=fun i=>match i with
 | 3=>some (yA,(cM th ti (Kw dz) iK))
 | _=>none
theorem Sy (K:Ex→St→Option R) (rc:St→Option R) (d:oZ):roundOf tt (cT (yB cG aC)) (Dc dz) 0 ((az (aX Tryz.f36)).getD 0 .skip) yA (BG d) rc K=Md cG aC K (fun d=>rc (BG d)) d:=by kernel_rfl
def NK (x1:List ae) (x2:List Json) (k0:Json→Option R):Option R :=
 bX (decide ((0:Int)≤(min (x2.length:Int) (x1.length:Int)))&&decide ((min (x2.length:Int) (x1.length:Int))≤x2.length)) (bX (decide ((0:Int)≤(min (x2.length:Int) (x1.length:Int)))) (dz (List.length x1+List.length ((x2.drop 0).take ((min (x2.length:Int) (x1.length:Int)).toNat - 0))+Int.natAbs (((x2.drop 0).take ((min (x2.length:Int) (x1.length:Int)).toNat - 0)).length:Int)+Int.natAbs 0+Int.natAbs 0+Int.natAbs 0+Int.natAbs 0+List.length ([]:ae)+Int.natAbs 7+Int.natAbs 0+Int.natAbs 0+List.length ([]:ae)+List.length ([]:List ae)+List.length ([]:List Json)+64) x1 ((x2.drop 0).take ((min (x2.length:Int) (x1.length:Int)).toNat - 0)) (((x2.drop 0).take ((min (x2.length:Int) (x1.length:Int)).toNat - 0)).length:Int) 0 0 0 0 ([]:ae) 7 0 0 ([]:ae) ([]:List ae) ([]:List Json) (fun U5 Sw Fe y22 ZY VE JF Sz Fi uR=>k0 (⟨ZY,⟨VE,JF⟩,Sz,Fi,uR⟩:Json))))
theorem field_Make_ok:dO (R:=R) tt (yB cG aC) (Dc dz) false Tryz.f36 NI NJ (SZ (NK dz)):=fun x y k=>by kernel_rfl
end
theorem field_Make_EOk:cE (R:=R) Tryz.prog (yB (R:=R) cG aC) := .p (Fh R _ (ie _)) <| .c (pZ R) <| .n
def dz:Da R
 | 0,_,_,_,_,_,_,_,_,_,_,_,_,_,_,_=>none
 | n+1,gf,gk,gw,mA,wC,xH,EC,Gc,JK,JL,qm,zF,Ff,Fg,e0=>yC cG aC (fun gf gk gw mA wC xH EC Gc JK JL qm zF Ff Fg=>dz n gf gk gw mA wC xH EC Gc JK JL qm zF Ff Fg e0) gf gk gw mA wC xH EC Gc JK JL qm zF Ff Fg e0
def Me (K:Ex→St→Option R) (n:Nat) (d:oZ):Option R:=dz n d.1 d.2.1 d.2.2.1 d.2.2.2.1 d.2.2.2.2.1 d.2.2.2.2.2.1 d.2.2.2.2.2.2.1 d.2.2.2.2.2.2.2.1 d.2.2.2.2.2.2.2.2.1 d.2.2.2.2.2.2.2.2.2.1 d.2.2.2.2.2.2.2.2.2.2.1 d.2.2.2.2.2.2.2.2.2.2.2.1 d.2.2.2.2.2.2.2.2.2.2.2.2.1 d.2.2.2.2.2.2.2.2.2.2.2.2.2 (Db K)
theorem VN (other:cQ R) (ho:hG tt (cT (yB (R:=R) cG aC)) (Dc (R:=R) dz) 0 ((az (aX Tryz.f36)).getD 0 .skip) yA other):hG tt (cT (yB (R:=R) cG aC)) (Dc (R:=R) dz) 0 ((az (aX Tryz.f36)).getD 0 .skip) yA (cM th ti (Kw (dz)) other) :=
 cS (A:=Me) ho (dX BG (Md cG aC) (Me) (fun _ _=>by kernel_rfl) (Sy cG aC dz) (fun _ _ _=>by kernel_rfl)) Mc Xu (fun _ _=>by kernel_rfl) (fun _ _ _=>by kernel_rfl)
def dc:wv R:=fun x1 x2 k0=>NK dz x1 x2 k0
theorem Xv (R:Type):∀a∈az (aX Tryz.f36),gN tt (cT (yB (R:=R) cG aC)) (Dc (R:=R) dz) 0 a:=by
 refine fb 1 (by kernel_rfl) fun i hi => ?_
 match i,hi with
 | 0,_=>exact cA (by kernel_rfl) (VN _ dy)
 | n+1,hi=>omega
theorem GV (R:Type):kM Tryz.prog 36 (HM (dc (R:=R))):=br TT mixed (field_Make_EOk (R:=R)) rfl rfl rfl rfl (Xv R) (field_Make_ok cG aC dz)
abbrev AA (R:Type):Type:=ae→Int→Int→Bool→(Json→Option R)→Option R
abbrev NL:List cU := [.leaf (.str), .leaf (.int .i64), .leaf (.int .i64), .leaf (.bool)]
abbrev NM:List aU := []
def S0 (fn:AA R):lC R NL NM:=fun x y k=>fn x.1 x.2.1 x.2.2.1 x.2.2.2.1 (fun q0=>k (.agg [.int .i64 q0.kind, .int .i64 q0.num.aq, .int .i64 q0.num.exp, .str q0.text, .sl .str q0.names .no, .sl .json q0.items .no]) [])
def NN (fn:AA R):=aG NL NM (S0 fn)
section
variable (gP:C8 R) (dc:wv R) (wu:HL R)
def VO:List (oo R) := [(48,true,(Qu gP av)),(36,true,(HM dc av)),(99,true,(Yv wu av))]
def NO (x1:ae) (x2:Int) (x3:Int) (x4:Bool) (k0:Json→Option R):Option R :=
 gP x2 (fun y5=>gP x3 (fun y6=>wu x4 (fun y7=>dc ([x1,([115,101,113,117,101,110,99,101,73,100]:ae),([114,101,108,101,97,115,101,100]:ae)]:List ae) ([(⟨y5.kind,⟨y5.num.aq,y5.num.exp⟩,y5.text,y5.names,y5.items⟩:Json),(⟨y6.kind,⟨y6.num.aq,y6.num.exp⟩,y6.text,y6.names,y6.items⟩:Json),(⟨y7.kind,⟨y7.num.aq,y7.num.exp⟩,y7.text,y7.names,y7.items⟩:Json)]:List Json) (fun y8=>k0 (⟨y8.kind,⟨y8.num.aq,y8.num.exp⟩,y8.text,y8.names,y8.items⟩:Json)))))
theorem order_part_ok:dO (R:=R) tt (VO gP dc wu) sS false Tryz.f51 NL NM (S0 (NO gP dc wu)):=fun x y k=>by kernel_rfl
end
theorem order_part_EOk:cE (R:=R) Tryz.prog (VO (R:=R) gP dc wu) := .c (Qw R) <| .c (GV R) <| .c (field_Yes_S_ok R) <| .n
def gW:AA R:=fun x1 x2 x3 x4 k0=>NO gP dc wu x1 x2 x3 x4 k0
theorem Pe (R:Type):kM Tryz.prog 51 (NN (gW (R:=R))):=br TT mixed (order_part_EOk (R:=R)) rfl rfl rfl rfl cq (order_part_ok gP dc wu)
abbrev Dd (R:Type):Type:=Stop→(Json→Option R)→Option R
abbrev Li:List cU := [.agg [.int .i64, .int .i64, .bool]]
abbrev Lj:List aU := []
def QD (fn:Dd R):lC R Li Lj:=fun x y k=>fn (⟨x.1.1,x.1.2.1,x.1.2.2.1⟩:Stop) (fun q0=>k (.agg [.int .i64 q0.kind, .int .i64 q0.num.aq, .int .i64 q0.num.exp, .str q0.text, .sl .str q0.names .no, .sl .json q0.items .no]) [])
def S1 (fn:Dd R):=aG Li Lj (QD fn)
section
variable (gW:AA R)
def S2:List (oo R) := [(51,true,(NN gW av))]
def S3 (x1:Stop) (k0:Json→Option R):Option R :=
 gW ([110,111,100,101,73,100]:ae) x1.node x1.seq x1.bE (fun y2=>k0 (⟨y2.kind,⟨y2.num.aq,y2.num.exp⟩,y2.text,y2.names,y2.items⟩:Json))
theorem order_Lay_1_ok:dO (R:=R) tt (S2 gW) sS false Tryz.f50 Li Lj (QD (S3 gW)):=fun x y k=>by kernel_rfl
end
theorem Y7:cE (R:=R) Tryz.prog (S2 (R:=R) gW) := .c (Pe R) <| .n
def gl:Dd R:=fun x1 k0=>S3 gW x1 k0
theorem Xw (R:Type):kM Tryz.prog 50 (S1 (gl (R:=R))):=br TT mixed (Y7 (R:=R)) rfl rfl rfl rfl cq (order_Lay_1_ok gW)
abbrev De (R:Type):Type:=(List Json)→(Json→Option R)→Option R
abbrev QE:List cU := [.leaf (.sl .json)]
abbrev QF:List aU := []
def VP (fn:De R):lC R QE QF:=fun x y k=>fn x.1 (fun q0=>k (.agg [.int .i64 q0.kind, .int .i64 q0.num.aq, .int .i64 q0.num.exp, .str q0.text, .sl .str q0.names .no, .sl .json q0.items .no]) [])
def QG (fn:De R):=aG QE QF (VP fn)
section
variable (cG:dY R)
def Yx:List (oo R) := [(86,true,(FQ cG av))]
def QH (x1:List Json) (k0:Json→Option R):Option R :=
 cG (⟨6,⟨0,0⟩,([]:ae),([]:List ae),x1⟩:Json) (fun y2=>k0 (⟨y2.kind,⟨y2.num.aq,y2.num.exp⟩,y2.text,y2.names,y2.items⟩:Json))
theorem field_Arr_ok:dO (R:=R) tt (Yx cG) sS false Tryz.f98 QE QF (VP (QH cG)):=fun x y k=>by kernel_rfl
end
theorem field_Arr_EOk:cE (R:=R) Tryz.prog (Yx (R:=R) cG) := .p (Fh R _ (ie _)) <| .n
def eI:De R:=fun x1 k0=>QH cG x1 k0
theorem QI (R:Type):kM Tryz.prog 98 (QG (eI (R:=R))):=br TT mixed (field_Arr_EOk (R:=R)) rfl rfl rfl rfl cq (field_Arr_ok cG)
abbrev ni (R:Type):Type:=(List Stop)→(Json→Option R)→Option R
abbrev u4:List cU := [.leaf (.sl .stop), .leaf (.fn 50)]
abbrev u6:List aU := []
def Cb (fn:ni R):lC R u4 u6:=fun x y k=>fn x.1 (fun q0=>k (.agg [.int .i64 q0.kind, .int .i64 q0.num.aq, .int .i64 q0.num.exp, .str q0.text, .sl .str q0.names .no, .sl .json q0.items .no]) [])
def Df (fn:ni R):=aG u4 u6 (Cb fn)
abbrev oA (R:Type):Type:=Nat→(List Json)→(List Stop)→Int→Int→Int→Int→Int→ae→((List Json)→Int→Int→Int→ae→Option R)→Option R
def kR:Hint := { live := [1,4,5,8,9,10],own := [(5, .json)],rows := [],cells := [],drop := [],out := [4,5] }
abbrev gF:Type:=(List Json)×(List Stop)×Int×Int×Int×Int×Int×ae
def nK:gF→St:=fun d=>⟨.undef :: .func 50 [] []::U 2 (.ptr 0 0 :: .sl .json d.1 (.own 1)::U 2 (.sl .stop d.2.1 .no :: .int .i64 d.2.2.1 :: .int .i64 d.2.2.2.1::U 12 ([]))), [.cells [.int .i64 d.2.2.2.2.1, .int .i64 d.2.2.2.2.2.1, .int .i64 d.2.2.2.2.2.2.1, .str d.2.2.2.2.2.2.2, .bB, .bB], .tok]⟩
def oB (K:Ex→St→Option R) (q0:List Json) (q1:Int) (q2:Int) (q3:Int) (q4:ae):Option R:=K (.exit 0) ⟨U 4 (.ptr 0 0 :: .sl .json q0 (.own 1)::U 17 ([])), [.cells [.int .i64 q1, .int .i64 q2, .int .i64 q3, .str q4, .bB, .bB], .tok]⟩
abbrev iT:List cU := .leaf (.undef) :: .leaf (.fn 50)::PU 2 (.leaf (.ptr 0 0) :: .leaf (.TW .json 1)::PU 2 (.leaf (.sl .stop) :: .leaf (.int .i64) :: .leaf (.int .i64)::PU 12 ([])))
abbrev iU:List aU := [.cells [.int .i64, .int .i64, .int .i64, .str, .bB, .bB], .tok]
def xM (x:cU.bT iT) (y:aU.bT iU):Nat:=(List.length x.2.2.2.2.2.1+List.length ((t8 x).1)+Int.natAbs ((t8 x).2.1)+Int.natAbs ((t8 x).2.2.1)+Int.natAbs y.1.1+Int.natAbs y.1.2.1+Int.natAbs y.1.2.2.1+List.length y.1.2.2.2.1+64)
def IS (x:cU.bT iT) (y:aU.bT iU):gF:=(x.2.2.2.2.2.1,(t8 x).1,(t8 x).2.1,(t8 x).2.2.1,y.1.1,y.1.2.1,y.1.2.2.1,y.1.2.2.2.1)
def wY (L:oA R):xp R iT iU:=fun x y K=>L (xM x y) x.2.2.2.2.2.1 ((t8 x).1) ((t8 x).2.1) ((t8 x).2.2.1) y.1.1 y.1.2.1 y.1.2.2.1 y.1.2.2.2.1 (oB K)
section
variable (eI:De R) (gl:Dd R) (bH:oA R)
def jf:List (oo R) := [(98,true,(QG eI av)),(50,true,(S1 gl av))]
def kS (dJ:(List Json)→(List Stop)→Int→Int→Int→Int→Int→ae→Option R) (x2:List Json) (x3:List Stop) (x4:Int) (x5:Int) (x6:Int) (x7:Int) (x8:Int) (x9:ae) (e0:(List Json)→Int→Int→Int→ae→Option R):Option R :=
 bif (decide (x5<x4))then (bX (decide ((0:Int)≤x5)&&decide (x5<x3.length)) (gl (x3.getD x5.toNat (Ty.aR .stop)) (fun p9=>bX (decide ((x2.length+1)*88≤140737488355328)) (dJ (x2++([(⟨p9.kind,⟨p9.num.aq,p9.num.exp⟩,p9.text,p9.names,p9.items⟩:Json)]:List Json)) x3 x4 (IntKind.i64.wrap (x5+1)) x6 x7 x8 x9))))else (e0 x2 x6 x7 x8 x9)
def xN (K:Ex→St→Option R) (rc:gF→Option R) (d:gF):Option R:=kS gl (fun z0 z1 z2 z3 z4 z5 z6 z7=>rc (z0,z1,z2,z3,z4,z5,z6,z7)) d.1 d.2.1 d.2.2.1 d.2.2.2.1 d.2.2.2.2.1 d.2.2.2.2.2.1 d.2.2.2.2.2.2.1 d.2.2.2.2.2.2.2 (oB K)
def kT:Nat→Option (Hint×cQ R):=fun i=>match i with
 | 3=>some (kR,(cM iT iU (wY bH) iK))
 | _=>none
theorem Gd (K:Ex→St→Option R) (rc:St→Option R) (d:gF):roundOf tt (cT (jf eI gl)) (kT bH) 0 ((az (aX Tryz.f49)).getD 0 .skip) kR (nK d) rc K=xN gl K (fun d=>rc (nK d)) d:=by kernel_rfl
def u7 (x1:List Stop) (k0:Json→Option R):Option R :=
 bH (List.length ([]:List Json)+List.length x1+Int.natAbs (x1.length:Int)+Int.natAbs 0+Int.natAbs 0+Int.natAbs 0+Int.natAbs 0+List.length ([]:ae)+64) ([]:List Json) x1 (x1.length:Int) 0 0 0 0 ([]:ae) (fun n0 yp Im IT JG=>eI n0 (fun Hm=>k0 (⟨Hm.kind,⟨Hm.num.aq,Hm.num.exp⟩,Hm.text,Hm.names,Hm.items⟩:Json)))
theorem Mf:dO (R:=R) tt (jf eI gl) (kT bH) false Tryz.f49 u4 u6 (Cb (u7 eI bH)):=fun x y k=>by kernel_rfl
end
theorem Lk:cE (R:=R) Tryz.prog (jf (R:=R) eI gl) := .c (QI R) <| .c (Xw R) <| .n
def bH:oA R
 | 0,_,_,_,_,_,_,_,_,_=>none
 | n+1,gf,gk,gw,mA,wC,xH,EC,Gc,e0=>kS gl (fun gf gk gw mA wC xH EC Gc=>bH n gf gk gw mA wC xH EC Gc e0) gf gk gw mA wC xH EC Gc e0
def xO (K:Ex→St→Option R) (n:Nat) (d:gF):Option R:=bH n d.1 d.2.1 d.2.2.1 d.2.2.2.1 d.2.2.2.2.1 d.2.2.2.2.2.1 d.2.2.2.2.2.2.1 d.2.2.2.2.2.2.2 (oB K)
theorem HN (other:cQ R) (ho:hG tt (cT (jf (R:=R) eI gl)) (kT (R:=R) bH) 0 ((az (aX Tryz.f49)).getD 0 .skip) kR other):hG tt (cT (jf (R:=R) eI gl)) (kT (R:=R) bH) 0 ((az (aX Tryz.f49)).getD 0 .skip) kR (cM iT iU (wY (bH)) other) :=
 cS (A:=xO) ho (dX nK (xN gl) (xO) (fun _ _=>by kernel_rfl) (Gd eI gl bH) (fun _ _ _=>by kernel_rfl)) xM IS (fun _ _=>by kernel_rfl) (fun _ _ _=>by kernel_rfl)
def eC:ni R:=fun x1 k0=>u7 eI bH x1 k0
theorem IU (R:Type):∀a∈az (aX Tryz.f49),gN tt (cT (jf (R:=R) eI gl)) (kT (R:=R) bH) 0 a:=by
 refine fb 1 (by kernel_rfl) fun i hi => ?_
 match i,hi with
 | 0,_=>exact cA (by kernel_rfl) (HN _ dy)
 | n+1,hi=>omega
theorem JM (R:Type):kM Tryz.prog 49 (Df (eC (R:=R))):=br TT mixed (Lk (R:=R)) rfl rfl rfl rfl (IU R) (Mf eI gl bH)
abbrev Dg (R:Type):Type:=aA.Way→(Json→Option R)→Option R
abbrev Ll:List cU := [.agg [.int .i64, .int .i64, .bool]]
abbrev Lm:List aU := []
def QJ (fn:Dg R):lC R Ll Lm:=fun x y k=>fn (⟨x.1.1,x.1.2.1,x.1.2.2.1⟩:aA.Way) (fun q0=>k (.agg [.int .i64 q0.kind, .int .i64 q0.num.aq, .int .i64 q0.num.exp, .str q0.text, .sl .str q0.names .no, .sl .json q0.items .no]) [])
def S4 (fn:Dg R):=aG Ll Lm (QJ fn)
section
variable (gW:AA R)
def S5:List (oo R) := [(51,true,(NN gW av))]
def S6 (x1:aA.Way) (k0:Json→Option R):Option R :=
 gW ([101,100,103,101,73,100]:ae) x1.zy x1.seq x1.bE (fun y2=>k0 (⟨y2.kind,⟨y2.num.aq,y2.num.exp⟩,y2.text,y2.names,y2.items⟩:Json))
theorem order_Lay_2_ok:dO (R:=R) tt (S5 gW) sS false Tryz.f53 Ll Lm (QJ (S6 gW)):=fun x y k=>by kernel_rfl
end
theorem Y8:cE (R:=R) Tryz.prog (S5 (R:=R) gW) := .c (Pe R) <| .n
def gm:Dg R:=fun x1 k0=>S6 gW x1 k0
theorem Xx (R:Type):kM Tryz.prog 53 (S4 (gm (R:=R))):=br TT mixed (Y8 (R:=R)) rfl rfl rfl rfl cq (order_Lay_2_ok gW)
abbrev oC (R:Type):Type:=(List aA.Way)→(Json→Option R)→Option R
abbrev wD:List cU := [.leaf (.sl .na), .leaf (.fn 53)]
abbrev wE:List aU := []
def Dh (fn:oC R):lC R wD wE:=fun x y k=>fn x.1 (fun q0=>k (.agg [.int .i64 q0.kind, .int .i64 q0.num.aq, .int .i64 q0.num.exp, .str q0.text, .sl .str q0.names .no, .sl .json q0.items .no]) [])
def EP (fn:oC R):=aG wD wE (Dh fn)
abbrev pk (R:Type):Type:=Nat→(List Json)→(List aA.Way)→Int→Int→Int→Int→Int→ae→((List Json)→Int→Int→Int→ae→Option R)→Option R
def lP:Hint := { live := [1,4,5,8,9,10],own := [(5, .json)],rows := [],cells := [],drop := [],out := [4,5] }
abbrev gQ:Type:=(List Json)×(List aA.Way)×Int×Int×Int×Int×Int×ae
def oD:gQ→St:=fun d=>⟨.undef :: .func 53 [] []::U 2 (.ptr 0 0 :: .sl .json d.1 (.own 1)::U 2 (.sl .na d.2.1 .no :: .int .i64 d.2.2.1 :: .int .i64 d.2.2.2.1::U 12 ([]))), [.cells [.int .i64 d.2.2.2.2.1, .int .i64 d.2.2.2.2.2.1, .int .i64 d.2.2.2.2.2.2.1, .str d.2.2.2.2.2.2.2, .bB, .bB], .tok]⟩
def pn (K:Ex→St→Option R) (q0:List Json) (q1:Int) (q2:Int) (q3:Int) (q4:ae):Option R:=K (.exit 0) ⟨U 4 (.ptr 0 0 :: .sl .json q0 (.own 1)::U 17 ([])), [.cells [.int .i64 q1, .int .i64 q2, .int .i64 q3, .str q4, .bB, .bB], .tok]⟩
abbrev jA:List cU := .leaf (.undef) :: .leaf (.fn 53)::PU 2 (.leaf (.ptr 0 0) :: .leaf (.TW .json 1)::PU 2 (.leaf (.sl .na) :: .leaf (.int .i64) :: .leaf (.int .i64)::PU 12 ([])))
abbrev jB:List aU := [.cells [.int .i64, .int .i64, .int .i64, .str, .bB, .bB], .tok]
def za (x:cU.bT jA) (y:aU.bT jB):Nat:=(List.length x.2.2.2.2.2.1+List.length ((t8 x).1)+Int.natAbs ((t8 x).2.1)+Int.natAbs ((t8 x).2.2.1)+Int.natAbs y.1.1+Int.natAbs y.1.2.1+Int.natAbs y.1.2.2.1+List.length y.1.2.2.2.1+64)
def JN (x:cU.bT jA) (y:aU.bT jB):gQ:=(x.2.2.2.2.2.1,(t8 x).1,(t8 x).2.1,(t8 x).2.2.1,y.1.1,y.1.2.1,y.1.2.2.1,y.1.2.2.2.1)
def xP (L:pk R):xp R jA jB:=fun x y K=>L (za x y) x.2.2.2.2.2.1 ((t8 x).1) ((t8 x).2.1) ((t8 x).2.2.1) y.1.1 y.1.2.1 y.1.2.2.1 y.1.2.2.2.1 (pn K)
section
variable (eI:De R) (gm:Dg R) (bN:pk R)
def jK:List (oo R) := [(98,true,(QG eI av)),(53,true,(S4 gm av))]
def lQ (dJ:(List Json)→(List aA.Way)→Int→Int→Int→Int→Int→ae→Option R) (x2:List Json) (x3:List aA.Way) (x4:Int) (x5:Int) (x6:Int) (x7:Int) (x8:Int) (x9:ae) (e0:(List Json)→Int→Int→Int→ae→Option R):Option R :=
 bif (decide (x5<x4))then (bX (decide ((0:Int)≤x5)&&decide (x5<x3.length)) (gm (x3.getD x5.toNat (Ty.aR .na)) (fun p9=>bX (decide ((x2.length+1)*88≤140737488355328)) (dJ (x2++([(⟨p9.kind,⟨p9.num.aq,p9.num.exp⟩,p9.text,p9.names,p9.items⟩:Json)]:List Json)) x3 x4 (IntKind.i64.wrap (x5+1)) x6 x7 x8 x9))))else (e0 x2 x6 x7 x8 x9)
def zc (K:Ex→St→Option R) (rc:gQ→Option R) (d:gQ):Option R:=lQ gm (fun z0 z1 z2 z3 z4 z5 z6 z7=>rc (z0,z1,z2,z3,z4,z5,z6,z7)) d.1 d.2.1 d.2.2.1 d.2.2.2.1 d.2.2.2.2.1 d.2.2.2.2.2.1 d.2.2.2.2.2.2.1 d.2.2.2.2.2.2.2 (pn K)
def lZ:Nat→Option (Hint×cQ R):=fun i=>match i with
 | 3=>some (lP,(cM jA jB (xP bN) iK))
 | _=>none
theorem GW (K:Ex→St→Option R) (rc:St→Option R) (d:gQ):roundOf tt (cT (jK eI gm)) (lZ bN) 0 ((az (aX Tryz.f52)).getD 0 .skip) lP (oD d) rc K=zc gm K (fun d=>rc (oD d)) d:=by kernel_rfl
def wF (x1:List aA.Way) (k0:Json→Option R):Option R :=
 bN (List.length ([]:List Json)+List.length x1+Int.natAbs (x1.length:Int)+Int.natAbs 0+Int.natAbs 0+Int.natAbs 0+Int.natAbs 0+List.length ([]:ae)+64) ([]:List Json) x1 (x1.length:Int) 0 0 0 0 ([]:ae) (fun n0 yp Im IT JG=>eI n0 (fun Hm=>k0 (⟨Hm.kind,⟨Hm.num.aq,Hm.num.exp⟩,Hm.text,Hm.names,Hm.items⟩:Json)))
theorem NP:dO (R:=R) tt (jK eI gm) (lZ bN) false Tryz.f52 wD wE (Dh (wF eI bN)):=fun x y k=>by kernel_rfl
end
theorem Mg:cE (R:=R) Tryz.prog (jK (R:=R) eI gm) := .c (QI R) <| .c (Xx R) <| .n
def bN:pk R
 | 0,_,_,_,_,_,_,_,_,_=>none
 | n+1,gf,gk,gw,mA,wC,xH,EC,Gc,e0=>lQ gm (fun gf gk gw mA wC xH EC Gc=>bN n gf gk gw mA wC xH EC Gc e0) gf gk gw mA wC xH EC Gc e0
def zd (K:Ex→St→Option R) (n:Nat) (d:gQ):Option R:=bN n d.1 d.2.1 d.2.2.1 d.2.2.2.1 d.2.2.2.2.1 d.2.2.2.2.2.1 d.2.2.2.2.2.2.1 d.2.2.2.2.2.2.2 (pn K)
theorem IV (other:cQ R) (ho:hG tt (cT (jK (R:=R) eI gm)) (lZ (R:=R) bN) 0 ((az (aX Tryz.f52)).getD 0 .skip) lP other):hG tt (cT (jK (R:=R) eI gm)) (lZ (R:=R) bN) 0 ((az (aX Tryz.f52)).getD 0 .skip) lP (cM jA jB (xP (bN)) other) :=
 cS (A:=zd) ho (dX oD (zc gm) (zd) (fun _ _=>by kernel_rfl) (GW eI gm bN) (fun _ _ _=>by kernel_rfl)) za JN (fun _ _=>by kernel_rfl) (fun _ _ _=>by kernel_rfl)
def eR:oC R:=fun x1 k0=>wF eI bN x1 k0
theorem JO (R:Type):∀a∈az (aX Tryz.f52),gN tt (cT (jK (R:=R) eI gm)) (lZ (R:=R) bN) 0 a:=by
 refine fb 1 (by kernel_rfl) fun i hi => ?_
 match i,hi with
 | 0,_=>exact cA (by kernel_rfl) (IV _ dy)
 | n+1,hi=>omega
theorem Ln (R:Type):kM Tryz.prog 52 (EP (eR (R:=R))):=br TT mixed (Mg (R:=R)) rfl rfl rfl rfl (JO R) (NP eI gm bN)
abbrev HO (R:Type):Type:=Json→(Json→Option R)→Option R
abbrev QK:List cU := [.agg [.int .i64, .int .i64, .int .i64, .str, .sl .str, .sl .json]]
abbrev QL:List aU := []
def VQ (fn:HO R):lC R QK QL:=fun x y k=>fn (⟨x.1.1,⟨x.1.2.1,x.1.2.2.1⟩,x.1.2.2.2.1,x.1.2.2.2.2.1,x.1.2.2.2.2.2.1⟩:Json) (fun q0=>k (.agg [.int .i64 q0.kind, .int .i64 q0.num.aq, .int .i64 q0.num.exp, .str q0.text, .sl .str q0.names .no, .sl .json q0.items .no]) [])
def Yy (fn:HO R):=aG QK QL (VQ fn)
section
def Kx (x1:Json) (k0:Json→Option R):Option R :=
 bif (x1.kind==4)then (k0 (⟨x1.kind,⟨0,0⟩,x1.text,x1.names,x1.items⟩:Json))else (bif (x1.kind==5)then (k0 (⟨x1.kind,⟨x1.num.aq,x1.num.exp⟩,([]:ae),x1.names,x1.items⟩:Json))else (bif (x1.kind==7)then (k0 (⟨x1.kind,⟨x1.num.aq,x1.num.exp⟩,x1.text,([]:List ae),([]:List Json)⟩:Json))else (bif (x1.kind==6)then (k0 (⟨x1.kind,⟨x1.num.aq,x1.num.exp⟩,x1.text,x1.names,([]:List Json)⟩:Json))else (k0 (⟨x1.kind,⟨x1.num.aq,x1.num.exp⟩,x1.text,x1.names,x1.items⟩:Json)))))
theorem json_bare_ok:dO (R:=R) tt [] sS false Tryz.f163 QK QL (VQ Kx):=fun x y k=>by kernel_rfl
end
def tj:HO R:=fun x1 k0=>Kx x1 k0
theorem json_bare_S_ok (R:Type):kM Tryz.prog 163 (Yy (tj (R:=R))):=br TT mixed .n rfl rfl rfl rfl cq (json_bare_ok)
abbrev o0 (R:Type):Type:=fO→(Bool→Option R)→Option R
abbrev GX:List cU := [.agg [.int .i64, .int .i64]]
abbrev GY:List aU := []
def Mh (fn:o0 R):lC R GX GY:=fun x y k=>fn (⟨x.1.1,x.1.2.1⟩:fO) (fun q0=>k (.bool q0) [])
def Bg (fn:o0 R):=aG GX GY (Mh fn)
section
variable (ay:jJ R)
def Pf:List (oo R) := [(135,true,(qL ay av))]
def jZ (x1:fO) (k0:Bool→Option R):Option R :=
 bif (x1.aq==0)then (k0 (x1.exp==0))else (bif ((Int.tmod x1.aq 10) != 0)then (ay (-1000000000000000) x1.aq 1000000000000000 (fun y2=>bif y2 then (ay (-9) x1.exp 9 (fun y3=>k0 y3))else (k0 false)))else (k0 false))
theorem Xy:dO (R:=R) tt (Pf ay) sS false Tryz.f164 GX GY (Mh (jZ ay)):=fun x y k=>by kernel_rfl
end
theorem VR:cE (R:=R) Tryz.prog (Pf (R:=R) ay) := .c (tf R) <| .n
def bQ:o0 R:=fun x1 k0=>jZ ay x1 k0
theorem BH (R:Type):kM Tryz.prog 164 (Bg (bQ (R:=R))):=br TT mixed (VR (R:=R)) rfl rfl rfl rfl cq (Xy ay)
abbrev tm (R:Type):Type:=ae→(Bool→Option R)→Option R
abbrev Lo:List cU := [.leaf (.str)]
abbrev Lp:List aU := []
def QM (fn:tm R):lC R Lo Lp:=fun x y k=>fn x.1 (fun q0=>k (.bool q0) [])
def FR (fn:tm R):=aG Lo Lp (QM fn)
section
def S7:List (oo R) := [(200,true,(valid_S R))]
def S8 (x1:ae) (k0:Bool→Option R):Option R :=
 k0 (ft x1)
theorem quote_Whole_ok:dO (R:=R) tt (S7 (R:=R)) sS false Tryz.f165 Lo Lp (QM S8):=fun x y k=>by kernel_rfl
end
theorem Y9:cE (R:=R) Tryz.prog (S7 (R:=R)) := .p (valid_ok) <| .n
def bS:tm R:=fun x1 k0=>S8 x1 k0
theorem Fj (R:Type):kM Tryz.prog 165 (FR (bS (R:=R))):=br TT mixed (Y9 (R:=R)) rfl rfl rfl rfl cq (quote_Whole_ok)
variable {R:Type}
abbrev Di (R:Type):Type:=(List ae)→(Bool→Option R)→Option R
abbrev Lq:List cU := [.leaf (.sl .str)]
abbrev Lr:List aU := []
def QN (fn:Di R):lC R Lq Lr:=fun x y k=>fn x.1 (fun q0=>k (.bool q0) [])
def S9 (fn:Di R):=aG Lq Lr (QN fn)
abbrev BI (R:Type):Type:=Nat→(List ae)→Int→Int→(List (ae×Bool))→(Option R)→(Bool→Option R)→Option R
def wZ:Hint := { live := [3,7,8,9],own := [],rows := [],cells := [],drop := [],out := [2] }
abbrev nj:Type:=(List ae)×Int×Int×(List (ae×Bool))
def zK:nj→St:=fun d=>⟨U 3 (.map 0::U 3 (.sl .str d.1 .no :: .int .i64 d.2.1 :: .int .i64 d.2.2.1::U 14 ([]))), [.Bs .str .bool d.2.2.2]⟩
def BJ (K:Ex→St→Option R):Option R:=K (.exit 0) ⟨U 24 ([]), []⟩
def BK (K:Ex→St→Option R) (q0:Bool):Option R:=K (.ret) ⟨U 2 (.bool q0::U 21 ([])), []⟩
abbrev qN:List cU:=PU 3 (.leaf (.map 0)::PU 3 (.leaf (.sl .str) :: .leaf (.int .i64) :: .leaf (.int .i64)::PU 14 ([])))
abbrev qO:List aU := [.Bs .str .bool]
def Ky (x:cU.bT qN) (y:aU.bT qO):Nat:=(List.length x.2.2.2.2.2.2.2.1+Int.natAbs ((t8 x).1)+Int.natAbs ((t8 x).2.1)+List.length y.1+64)
def VS (x:cU.bT qN) (y:aU.bT qO):nj:=(x.2.2.2.2.2.2.2.1,(t8 x).1,(t8 x).2.1,y.1)
def IW (L:BI R):xp R qN qO:=fun x y K=>L (Ky x y) x.2.2.2.2.2.2.2.1 ((t8 x).1) ((t8 x).2.1) y.1 (BJ K) (BK K)
section
variable (bS:tm R) (di:BI R)
def wx:List (oo R) := [(165,true,(FR bS av))]
def w7 (dJ:(List ae)→Int→Int→(List (ae×Bool))→Option R) (x2:List ae) (x3:Int) (x4:Int) (x5:List (ae×Bool)) (e0:Option R) (e1:Bool→Option R):Option R :=
 bif (decide (x4<x3))then (bX (decide ((0:Int)≤x4)&&decide (x4<x2.length)) (bif (mO .str .bool (x2.getD x4.toNat (Ty.aR .str)) x5)then (e1 false)else (bS (x2.getD x4.toNat (Ty.aR .str)) (fun y6=>bif (!y6)then (e1 false)else (dJ x2 x3 (IntKind.i64.wrap (x4+1)) (CV .str .bool (x2.getD x4.toNat (Ty.aR .str)) true x5))))))else (e0)
def Kz (K:Ex→St→Option R) (rc:nj→Option R) (d:nj):Option R:=w7 bS (fun z0 z1 z2 z3=>rc (z0,z1,z2,z3)) d.1 d.2.1 d.2.2.1 d.2.2.2 (BJ K) (BK K)
def AB:Nat→Option (Hint×cQ R):=fun i=>match i with
 | 3=>some (wZ,(cM qN qO (IW di) iK))
 | _=>none
theorem QO (K:Ex→St→Option R) (rc:St→Option R) (d:nj):roundOf tt (cT (wx bS)) (AB di) 0 ((az (aX Tryz.f166)).getD 0 .skip) wZ (zK d) rc K=Kz bS K (fun d=>rc (zK d)) d:=by kernel_rfl
def Ta (x1:List ae) (k0:Bool→Option R):Option R :=
 di (List.length x1+Int.natAbs (x1.length:Int)+Int.natAbs 0+List.length ([]:List (ae×Bool))+64) x1 (x1.length:Int) 0 ([]:List (ae×Bool)) (k0 true) (fun y8=>k0 y8)
theorem json_unique_ok:dO (R:=R) tt (wx bS) (AB di) false Tryz.f166 Lq Lr (QN (Ta di)):=fun x y k=>by kernel_rfl
end
theorem Za:cE (R:=R) Tryz.prog (wx (R:=R) bS) := .c (Fj R) <| .n
def di:BI R
 | 0,_,_,_,_,_,_=>none
 | n+1,gf,gk,gw,mA,e0,e1=>w7 bS (fun gf gk gw mA=>di n gf gk gw mA e0 e1) gf gk gw mA e0 e1
def KA (K:Ex→St→Option R) (n:Nat) (d:nj):Option R:=di n d.1 d.2.1 d.2.2.1 d.2.2.2 (BJ K) (BK K)
theorem T8 (other:cQ R) (ho:hG tt (cT (wx (R:=R) bS)) (AB (R:=R) di) 0 ((az (aX Tryz.f166)).getD 0 .skip) wZ other):hG tt (cT (wx (R:=R) bS)) (AB (R:=R) di) 0 ((az (aX Tryz.f166)).getD 0 .skip) wZ (cM qN qO (IW (di)) other) :=
 cS (A:=KA) ho (dX zK (Kz bS) (KA) (fun _ _=>by kernel_rfl) (QO bS di) (fun _ _ _=>by kernel_rfl)) Ky VS (fun _ _=>by kernel_rfl) (fun _ _ _=>by kernel_rfl)
def lG:Di R:=fun x1 k0=>Ta di x1 k0
theorem VT (R:Type):∀a∈az (aX Tryz.f166),gN tt (cT (wx (R:=R) bS)) (AB (R:=R) di) 0 a:=by
 refine fb 1 (by kernel_rfl) fun i hi => ?_
 match i,hi with
 | 0,_=>exact cA (by kernel_rfl) (T8 _ dy)
 | n+1,hi=>omega
theorem Xz (R:Type):kM Tryz.prog 166 (S9 (lG (R:=R))):=br TT mixed (Za (R:=R)) rfl rfl rfl rfl (VT R) (json_unique_ok bS di)
abbrev cZ (R:Type):Type:=Json→Int→(Bool→Option R)→Option R
abbrev gX:List cU := [.agg [.int .i64, .int .i64, .int .i64, .str, .sl .str, .sl .json], .leaf (.int .i64)]
abbrev gY:List aU := []
def eM (fn:cZ R):lC R gX gY:=fun x y k=>fn (⟨x.1.1,⟨x.1.2.1,x.1.2.2.1⟩,x.1.2.2.2.1,x.1.2.2.2.2.1,x.1.2.2.2.2.2.1⟩:Json) x.2.1 (fun q0=>k (.bool q0) [])
def VU (fn:cZ R):=aG gX gY (eM fn)
abbrev qP (R:Type):Type:=Json→Int→(Bool→Int→Option R)→Option R
abbrev zM:List cU := [.agg [.int .i64, .int .i64, .int .i64, .str, .sl .str, .sl .json], .leaf (.ptr 0 0)]
abbrev zN:List aU := [.cells [.int .i64]]
def Ge (fn:qP R):lC R zM zN:=fun x y k=>fn (⟨x.1.1,⟨x.1.2.1,x.1.2.2.1⟩,x.1.2.2.2.1,x.1.2.2.2.2.1,x.1.2.2.2.2.2.1⟩:Json) y.1.1 (fun q0 q1=>k (.bool q0) [.cells [.int .i64 q1]])
def Ho (fn:qP R):=aG zM zN (Ge fn)
section
variable (aw:cZ R)
def Hp:List (oo R) := [(121,true,(aG gX gY (eM aw) av))]
def sW (x1:Json) (x2:Int) (k0:Bool→Int→Option R):Option R :=
 aw (⟨x1.kind,⟨x1.num.aq,x1.num.exp⟩,x1.text,x1.names,x1.items⟩:Json) (IntKind.i64.wrap (x2+1)) (fun y3=>k0 (!y3) x2)
theorem QP:dO (R:=R) tt (Hp aw) sS false Tryz.f168 zM zN (Ge (sW aw)):=fun x y k=>by kernel_rfl
end
theorem PH (aw:cZ R) (eD:aA.Spec.Ok Tryz.prog 121 (aG gX gY (eM aw) av)):cE (R:=R) Tryz.prog (Hp (R:=R) aw) := .p eD <| .n
def db (aw:cZ R):qP R:=fun x1 x2 k0=>sW aw x1 x2 k0
theorem NQ (R:Type) (aw:cZ R) (eD:aA.Spec.Ok Tryz.prog 121 (aG gX gY (eM aw) av)):kM Tryz.prog 168 (Ho (db aw)):=br TT mixed (PH aw eD) rfl rfl rfl rfl cq (QP aw)
abbrev hZ (R:Type):Type:=(List Json)→Int→(Int→Int→Option R)→Option R
abbrev kU:List cU := [.leaf (.sl .json), .func 168 [] [.ptr 0 0]]
abbrev kV:List aU := [.cells [.int .i64]]
def qa (fn:hZ R):lC R kU kV:=fun x y k=>fn x.1 y.1.1 (fun q0 q1=>k (.int .i64 q0) [.cells [.int .i64 q1]])
def qQ (fn:hZ R):=aG kU kV (qa fn)
abbrev jg (R:Type):Type:=Nat→(List Json)→Int→Int→Int→(Int→Option R)→(Int→Int→Option R)→Option R
def gn:Hint := { live := [0,1,7,8],own := [],rows := [],cells := [],drop := [],out := [4] }
abbrev dM:Type:=(List Json)×Int×Int×Int
def iV:dM→St:=fun d=>⟨.sl .json d.1 .no :: .func 168 [] [.ptr 0 0]::U 5 (.int .i64 d.2.1 :: .int .i64 d.2.2.1::U 10 ([])), [.cells [.int .i64 d.2.2.2]]⟩
def jh (K:Ex→St→Option R) (q0:Int):Option R:=K (.exit 0) ⟨U 19 ([]), [.cells [.int .i64 q0]]⟩
def ji (K:Ex→St→Option R) (q0:Int) (q1:Int):Option R:=K (.ret) ⟨U 4 (.int .i64 q0::U 14 ([])), [.cells [.int .i64 q1]]⟩
abbrev eS:List cU := .leaf (.sl .json) :: .func 168 [] [.ptr 0 0]::PU 5 (.leaf (.int .i64) :: .leaf (.int .i64)::PU 10 ([]))
abbrev eT:List aU := [.cells [.int .i64]]
def n5 (x:cU.bT eS) (y:aU.bT eT):Nat:=(List.length x.1+Int.natAbs x.2.2.2.2.2.2.2.1+Int.natAbs ((t8 x).1)+Int.natAbs y.1.1+64)
def zO (x:cU.bT eS) (y:aU.bT eT):dM:=(x.1,x.2.2.2.2.2.2.2.1,(t8 x).1,y.1.1)
def nk (L:jg R):xp R eS eT:=fun x y K=>L (n5 x y) x.1 x.2.2.2.2.2.2.2.1 ((t8 x).1) y.1.1 (jh K) (ji K)
section
variable (db:qP R) (aQ:jg R)
def eJ:List (oo R) := [(168,false,(Ho db av))]
def gp (dJ:(List Json)→Int→Int→Int→Option R) (x3:List Json) (x4:Int) (x5:Int) (x6:Int) (e0:Int→Option R) (e1:Int→Int→Option R):Option R :=
 bif (decide (x5<x4))then (bX (decide ((0:Int)≤x5)&&decide (x5<x3.length)) (db (⟨(x3.getD x5.toNat (Ty.aR .json)).kind,⟨(x3.getD x5.toNat (Ty.aR .json)).num.aq,(x3.getD x5.toNat (Ty.aR .json)).num.exp⟩,(x3.getD x5.toNat (Ty.aR .json)).text,(x3.getD x5.toNat (Ty.aR .json)).names,(x3.getD x5.toNat (Ty.aR .json)).items⟩:Json) x6 (fun y7 y8=>bif y7 then (e1 x5 y8)else (dJ x3 x4 (IntKind.i64.wrap (x5+1)) y8))))else (e0 x6)
def n7 (K:Ex→St→Option R) (rc:dM→Option R) (d:dM):Option R:=gp db (fun z0 z1 z2 z3=>rc (z0,z1,z2,z3)) d.1 d.2.1 d.2.2.1 d.2.2.2 (jh K) (ji K)
def fJ:Nat→Option (Hint×cQ R):=fun i=>match i with
 | 2=>some (gn,(cM eS eT (nk aQ) iK))
 | _=>none
theorem xr (K:Ex→St→Option R) (rc:St→Option R) (d:dM):roundOf tt (cT (eJ db)) (fJ aQ) 1 ((az (aX Tryz.f201)).getD 0 .skip) gn (iV d) rc K=n7 db K (fun d=>rc (iV d)) d:=by kernel_rfl
def qR (x1:List Json) (x2:Int) (k0:Int→Int→Option R):Option R :=
 aQ (List.length x1+Int.natAbs (x1.length:Int)+Int.natAbs 0+Int.natAbs x2+64) x1 (x1.length:Int) 0 x2 (fun y9=>k0 (-1) y9) (fun p9 n0=>k0 p9 n0)
theorem CH:dO (R:=R) tt (eJ db) (fJ aQ) false Tryz.f201 kU kV (qa (qR aQ)):=fun x y k=>by kernel_rfl
end
theorem BL (aw:cZ R) (eD:aA.Spec.Ok Tryz.prog 121 (aG gX gY (eM aw) av)):cE (R:=R) Tryz.prog (eJ (R:=R) (db aw)) := .d (NQ R aw eD) rfl <| .n
def aQ (aw:cZ R):jg R
 | 0,_,_,_,_,_,_=>none
 | n+1,gf,gk,gw,mA,e0,e1=>gp (db aw) (fun gf gk gw mA=>aQ aw n gf gk gw mA e0 e1) gf gk gw mA e0 e1
def n8 (aw:cZ R) (K:Ex→St→Option R) (n:Nat) (d:dM):Option R:=aQ aw n d.1 d.2.1 d.2.2.1 d.2.2.2 (jh K) (ji K)
theorem yD (aw:cZ R) (other:cQ R) (ho:hG tt (cT (eJ (R:=R) (db aw))) (fJ (R:=R) (aQ aw)) 1 ((az (aX Tryz.f201)).getD 0 .skip) gn other):hG tt (cT (eJ (R:=R) (db aw))) (fJ (R:=R) (aQ aw)) 1 ((az (aX Tryz.f201)).getD 0 .skip) gn (cM eS eT (nk (aQ aw)) other) :=
 cS (A:=n8 aw) ho (dX iV (n7 (db aw)) (n8 aw) (fun _ _=>by kernel_rfl) (xr (db aw) (aQ aw)) (fun _ _ _=>by kernel_rfl)) n5 zO (fun _ _=>by kernel_rfl) (fun _ _ _=>by kernel_rfl)
def dd (aw:cZ R):hZ R:=fun x1 x2 k0=>qR (aQ aw) x1 x2 k0
theorem zP (R:Type) (aw:cZ R) (eD:aA.Spec.Ok Tryz.prog 121 (aG gX gY (eM aw) av)):∀a∈az (aX Tryz.f201),gN tt (cT (eJ (R:=R) (db aw))) (fJ (R:=R) (aQ aw)) 1 a:=by
 refine fb 1 (by kernel_rfl) fun i hi => ?_
 match i,hi with
 | 0,_=>exact cA (by kernel_rfl) (yD aw _ dy)
 | n+1,hi=>omega
theorem AD (R:Type) (aw:cZ R) (eD:aA.Spec.Ok Tryz.prog 121 (aG gX gY (eM aw) av)):kM Tryz.prog 201 (qQ (dd aw)):=br TT mixed (BL aw eD) rfl rfl rfl rfl (zP R aw eD) (CH (db aw) (aQ aw))
abbrev gq (R:Type):Type:=(List Json)→Int→(Bool→Int→Option R)→Option R
abbrev jQ:List cU := [.leaf (.sl .json), .func 168 [] [.ptr 0 0]]
abbrev jR:List aU := [.cells [.int .i64]]
def n9 (fn:gq R):lC R jQ jR:=fun x y k=>fn x.1 y.1.1 (fun q0 q1=>k (.bool q0) [.cells [.int .i64 q1]])
def oR (fn:gq R):=aG jQ jR (n9 fn)
section
variable (dd:hZ R)
def oS:List (oo R) := [(201,false,(qQ dd av))]
def oT (x1:List Json) (x2:Int) (k0:Bool→Int→Option R):Option R :=
 dd x1 x2 (fun y3 y4=>k0 (decide (y3≥(0:Int))) y4)
theorem zQ:dO (R:=R) tt (oS dd) sS false Tryz.f167 jQ jR (n9 (oT dd)):=fun x y k=>by kernel_rfl
end
theorem yE (aw:cZ R) (eD:aA.Spec.Ok Tryz.prog 121 (aG gX gY (eM aw) av)):cE (R:=R) Tryz.prog (oS (R:=R) (dd aw)) := .d (AD R aw eD) rfl <| .n
def aP (aw:cZ R):gq R:=fun x1 x2 k0=>oT (dd aw) x1 x2 k0
theorem xQ (R:Type) (aw:cZ R) (eD:aA.Spec.Ok Tryz.prog 121 (aG gX gY (eM aw) av)):kM Tryz.prog 167 (oR (aP aw)):=br TT mixed (yE aw eD) rfl rfl rfl rfl cq (zQ (dd aw))
section
variable (bS:tm R) (bQ:o0 R) (tj:HO R) (lG:Di R) (aP:gq R)
def VV:List (oo R) := [(165,true,(FR bS av)),(164,true,(Bg bQ av)),(163,true,(Yy tj av)),(166,true,(S9 lG av)),(167,false,(oR aP av))]
def HP (x1:Json) (x2:Int) (k0:Bool→Option R):Option R :=
 tj (⟨x1.kind,⟨x1.num.aq,x1.num.exp⟩,x1.text,x1.names,x1.items⟩:Json) (fun y3=>bif (decide (x2>(16:Int)))then (k0 false)else (bif (decide (x1.kind<(1:Int)))then (k0 false)else (bif (decide (x1.kind>(7:Int)))then (k0 false)else (bif (!(y3.num.aq==0&&(y3.num.exp==0&&true)))then (k0 false)else (bif (!(y3.text==([]:ae)))then (k0 false)else (bif (decide ((IntKind.i64.wrap ((y3.names.length:Int)+(y3.items.length:Int)))>(0:Int)))then (k0 false)else (bif (x1.kind==4)then (bQ x1.num (fun y5=>k0 y5))else (bif (x1.kind==5)then (bS x1.text (fun y6=>k0 y6))else (bif (x1.kind==7)then (bif ((x1.names.length:Int) != (x1.items.length:Int))then (k0 false)else (lG x1.names (fun y7=>bif (!y7)then (k0 false)else (aP x1.items x2 (fun n0 yp=>k0 (!n0))))))else (aP x1.items x2 (fun Im IT=>k0 (!Im))))))))))))
theorem json_right_ok:dO (R:=R) tt (VV bS bQ tj lG aP) sS false Tryz.f121 gX gY (eM (HP bS bQ tj lG aP)):=fun x y k=>by kernel_rfl
end
theorem json_right_EOk (aw:cZ R) (eD:aA.Spec.Ok Tryz.prog 121 (aG gX gY (eM aw) av)):cE (R:=R) Tryz.prog (VV (R:=R) bS bQ tj lG (aP aw)) := .c (Fj R) <| .c (BH R) <| .c (json_bare_S_ok R) <| .c (Xz R) <| .d (xQ R aw eD) rfl <| .n
def NR (aw:cZ R):cZ R:=fun x1 x2 k0=>HP bS bQ tj lG (aP aw) x1 x2 k0
theorem XA (R:Type) (aw:cZ R) (eD:aA.Spec.Ok Tryz.prog 121 (aG gX gY (eM aw) av)):kM Tryz.prog 121 (VU (NR aw)):=br TT mixed (json_right_EOk aw eD) rfl rfl rfl rfl cq (json_right_ok bS bQ tj lG (aP aw))
def fa:Nat→cZ R
 | 0,_,_,_=>none
 | n+1,gf,gk,k0'=>NR (fa n) gf gk k0'
theorem json_right_N_succ (n:Nat):fa (R:=R) (n+1)=NR (fa n):=by kernel_rfl
theorem Zb (R:Type):∀n,aA.Spec.Ok Tryz.prog 121 (aG gX gY (eM (fa (R:=R) n)) av) :=
 Ca (run:=fun n=>eM (fa (R:=R) n)) (fun x y k=>by kernel_rfl) fun n hyp=>XA R (fa n) hyp av (ie _)
def po:cZ R:=fun x1 x2 k0=>fa (Json.depth x1+2) x1 x2 k0
theorem Zc (R:Type):eM (R:=R) po=fun x y k=>eM (fa (Json.depth (⟨x.1.1,⟨x.1.2.1,x.1.2.2.1⟩,x.1.2.2.2.1,x.1.2.2.2.2.1,x.1.2.2.2.2.2.1⟩:Json)+2)) x y k:=by kernel_rfl
theorem Zd (R:Type) (other:aA.Spec R) (ho:aA.Spec.Ok Tryz.prog 121 other):aA.Spec.Ok Tryz.prog 121 (aG gX gY (eM po) other) :=
 IG (Mb (run:=fun n=>eM (fa (R:=R) n)) (fun x y=>(Json.depth (⟨x.1.1,⟨x.1.2.1,x.1.2.2.1⟩,x.1.2.2.2.1,x.1.2.2.2.2.1,x.1.2.2.2.2.2.1⟩:Json)+2)) ho (Zb R)) (Zc R)
abbrev FT (R:Type):Type:=Json→(Bool→Option R)→Option R
abbrev NS:List cU := [.agg [.int .i64, .int .i64, .int .i64, .str, .sl .str, .sl .json]]
abbrev NT:List aU := []
def Tb (fn:FT R):lC R NS NT:=fun x y k=>fn (⟨x.1.1,⟨x.1.2.1,x.1.2.2.1⟩,x.1.2.2.2.1,x.1.2.2.2.2.1,x.1.2.2.2.2.2.1⟩:Json) (fun q0=>k (.bool q0) [])
def VW (fn:FT R):=aG NS NT (Tb fn)
section
variable (po:cZ R)
def VX:List (oo R) := [(121,true,(VU po av))]
def HQ (x1:Json) (k0:Bool→Option R):Option R :=
 po (⟨x1.kind,⟨x1.num.aq,x1.num.exp⟩,x1.text,x1.names,x1.items⟩:Json) 1 (fun y2=>k0 y2)
theorem json_Right_ok:dO (R:=R) tt (VX po) sS false Tryz.f82 NS NT (Tb (HQ po)):=fun x y k=>by kernel_rfl
end
theorem json_Right_EOk:cE (R:=R) Tryz.prog (VX (R:=R) po) := .p (Zd R _ (ie _)) <| .n
def nL:FT R:=fun x1 k0=>HQ po x1 k0
theorem Ze (R:Type):kM Tryz.prog 82 (VW (nL (R:=R))):=br TT mixed (json_Right_EOk (R:=R)) rfl rfl rfl rfl cq (json_Right_ok po)
abbrev dS (R:Type):Type:=ae→(Int→(List Int)→Option R)→Option R
abbrev j9:List cU := [.leaf (.ptr 0 0), .leaf (.str)]
abbrev ka:List aU := [.mZ (.bB)]
def oU (fn:dS R):lC R j9 ka:=fun x y k=>fn x.2.1 (fun q0 q1=>k (.tuple [.int .i64 q0, .dK]) [.mZ (.sl (.int .u8) q1 (.own 1)), .tok])
def gZ (fn:dS R):=aG j9 ka (oU fn)
section
def pq:List (oo R) := [(171,false,(Yp R))]
def pr (x1:ae) (k0:Int→(List Int)→Option R):Option R :=
 bX (decide ((0+(hJ x1).length)*1≤140737488355328)) (k0 (x1.length:Int) (hJ x1))
theorem AE:dO (R:=R) tt (pq (R:=R)) sS false Tryz.f124 j9 ka (oU pr):=fun x y k=>by kernel_rfl
end
theorem zR:cE (R:=R) Tryz.prog (pq (R:=R)) := .f (bcc_is) rfl <| .n
def ai:dS R:=fun x1 k0=>pr x1 k0
theorem jj (R:Type):kM Tryz.prog 124 (gZ (ai (R:=R))):=br TT mixed (zR (R:=R)) rfl rfl rfl rfl cq (AE)
abbrev ej (R:Type):Type:=Int→((List Int)→Option R)→Option R
abbrev kW:List cU := [.leaf (.ptr 0 0), .leaf (.int .u8)]
abbrev kX:List aU := [.mZ (.bB)]
def qd (fn:ej R):lC R kW kX:=fun x y k=>fn x.2.1 (fun q0=>k (.dK) [.mZ (.sl (.int .u8) q0 (.own 1)), .tok])
def iq (fn:ej R):=aG kW kX (qd fn)
section
def qS:List (oo R) := [(171,false,(Yp R))]
def qT (x1:Int) (k0:(List Int)→Option R):Option R :=
 k0 ([x1]:List Int)
theorem CI:dO (R:=R) tt (qS (R:=R)) sS false Tryz.f126 kW kX (qd qT):=fun x y k=>by kernel_rfl
end
theorem BM:cE (R:=R) Tryz.prog (qS (R:=R)) := .f (bcc_is) rfl <| .n
def aj:ej R:=fun x1 k0=>qT x1 k0
theorem jS (R:Type):kM Tryz.prog 126 (iq (aj (R:=R))):=br TT mixed (BM (R:=R)) rfl rfl rfl rfl cq (CI)
abbrev dp (R:Type):Type:=ae→(List Int)→(Int→(List Int)→Option R)→Option R
abbrev kb:List cU := [.leaf (.ptr 0 0), .leaf (.str)]
abbrev ke:List aU := [.mZ (.TW (.int .u8) 1), .tok]
def oV (fn:dp R):lC R kb ke:=fun x y k=>fn x.2.1 y.1 (fun q0 q1=>k (.tuple [.int .i64 q0, .dK]) [.mZ (.sl (.int .u8) q1 (.own 2)), .dead, .tok])
def fo (fn:dp R):=aG kb ke (oV fn)
section
def pv:List (oo R) := [(171,false,(Yp R))]
def pw (x1:ae) (x2:List Int) (k0:Int→(List Int)→Option R):Option R :=
 bX (decide ((x2.length+(hJ x1).length)*1≤140737488355328)) (k0 (x1.length:Int) ((x2:List Int)++((hJ x1):List Int)))
theorem AF:dO (R:=R) tt (pv (R:=R)) sS false Tryz.f124 kb ke (oV pw):=fun x y k=>by kernel_rfl
end
theorem zS:cE (R:=R) Tryz.prog (pv (R:=R)) := .f (bcc_is) rfl <| .n
def af:dp R:=fun x1 x2 k0=>pw x1 x2 k0
theorem fW (R:Type):kM Tryz.prog 124 (fo (af (R:=R))):=br TT mixed (zS (R:=R)) rfl rfl rfl rfl cq (AF)
variable {R:Type}
abbrev tp (R:Type):Type:=fO→(ae→Option R)→Option R
abbrev GZ:List cU := [.agg [.int .i64, .int .i64]]
abbrev G0:List aU := []
def Mi (fn:tp R):lC R GZ G0:=fun x y k=>fn (⟨x.1.1,x.1.2.1⟩:fO) (fun q0=>k (.str q0) [])
def G1 (fn:tp R):=aG GZ G0 (Mi fn)
section
variable (bQ:o0 R) (aj:ej R) (af:dp R) (ai:dS R)
def Pg:List (oo R) := [(164,true,(Bg bQ av)),(126,false,(iq aj av)),(124,false,(gZ ai (fo af av))),(84,false,(NG R)),(172,true,(itoa_S R)),(173,true,(rep_S R))]
def qw (x1:fO) (k0:ae→Option R):Option R :=
 bQ x1 (fun y2=>bif (!y2)then (k0 ([]:ae))else (bif (decide (x1.aq<(0:Int)))then (aj 45 (fun y3=>bif (decide (x1.exp≥(0:Int)))then (bX (decide (0≤x1.exp)&&decide ((([48]:ae).length:Int)*x1.exp≤140737488355328)) (bX (decide ((cr (max x1.aq (IntKind.i64.wrap (0 - x1.aq)))).length+(lE ([48]:ae) x1.exp).length≤9223372036854775807)) (af ((cr (max x1.aq (IntKind.i64.wrap (0 - x1.aq))))++(lE ([48]:ae) x1.exp)) y3 (fun y4 y5=>k0 (xq y5)))))else (bX (decide (0≤(max 0 (IntKind.i64.wrap ((IntKind.i64.wrap (1 - x1.exp)) - ((cr (max x1.aq (IntKind.i64.wrap (0 - x1.aq)))).length:Int)))))&&decide ((([48]:ae).length:Int)*(max 0 (IntKind.i64.wrap ((IntKind.i64.wrap (1 - x1.exp)) - ((cr (max x1.aq (IntKind.i64.wrap (0 - x1.aq)))).length:Int))))≤140737488355328)) (bX (decide ((lE ([48]:ae) (max 0 (IntKind.i64.wrap ((IntKind.i64.wrap (1 - x1.exp)) - ((cr (max x1.aq (IntKind.i64.wrap (0 - x1.aq)))).length:Int))))).length+(cr (max x1.aq (IntKind.i64.wrap (0 - x1.aq)))).length≤9223372036854775807)) (bX (decide ((0:Int)≤(IntKind.i64.wrap ((((lE ([48]:ae) (max 0 (IntKind.i64.wrap ((IntKind.i64.wrap (1 - x1.exp)) - ((cr (max x1.aq (IntKind.i64.wrap (0 - x1.aq)))).length:Int)))))++(cr (max x1.aq (IntKind.i64.wrap (0 - x1.aq))))).length:Int)+x1.exp)))&&decide ((IntKind.i64.wrap ((((lE ([48]:ae) (max 0 (IntKind.i64.wrap ((IntKind.i64.wrap (1 - x1.exp)) - ((cr (max x1.aq (IntKind.i64.wrap (0 - x1.aq)))).length:Int)))))++(cr (max x1.aq (IntKind.i64.wrap (0 - x1.aq))))).length:Int)+x1.exp))≤((lE ([48]:ae) (max 0 (IntKind.i64.wrap ((IntKind.i64.wrap (1 - x1.exp)) - ((cr (max x1.aq (IntKind.i64.wrap (0 - x1.aq)))).length:Int)))))++(cr (max x1.aq (IntKind.i64.wrap (0 - x1.aq))))).length)) (bX (decide ((0:Int)≤(IntKind.i64.wrap ((((lE ([48]:ae) (max 0 (IntKind.i64.wrap ((IntKind.i64.wrap (1 - x1.exp)) - ((cr (max x1.aq (IntKind.i64.wrap (0 - x1.aq)))).length:Int)))))++(cr (max x1.aq (IntKind.i64.wrap (0 - x1.aq))))).length:Int)+x1.exp)))) (bX (decide (((((lE ([48]:ae) (max 0 (IntKind.i64.wrap ((IntKind.i64.wrap (1 - x1.exp)) - ((cr (max x1.aq (IntKind.i64.wrap (0 - x1.aq)))).length:Int)))))++(cr (max x1.aq (IntKind.i64.wrap (0 - x1.aq))))).drop 0).take ((IntKind.i64.wrap ((((lE ([48]:ae) (max 0 (IntKind.i64.wrap ((IntKind.i64.wrap (1 - x1.exp)) - ((cr (max x1.aq (IntKind.i64.wrap (0 - x1.aq)))).length:Int)))))++(cr (max x1.aq (IntKind.i64.wrap (0 - x1.aq))))).length:Int)+x1.exp)).toNat - 0)).length+1≤9223372036854775807)) (bX (decide ((0:Int)≤(((lE ([48]:ae) (max 0 (IntKind.i64.wrap ((IntKind.i64.wrap (1 - x1.exp)) - ((cr (max x1.aq (IntKind.i64.wrap (0 - x1.aq)))).length:Int)))))++(cr (max x1.aq (IntKind.i64.wrap (0 - x1.aq))))).length:Int))&&decide ((((lE ([48]:ae) (max 0 (IntKind.i64.wrap ((IntKind.i64.wrap (1 - x1.exp)) - ((cr (max x1.aq (IntKind.i64.wrap (0 - x1.aq)))).length:Int)))))++(cr (max x1.aq (IntKind.i64.wrap (0 - x1.aq))))).length:Int)≤((lE ([48]:ae) (max 0 (IntKind.i64.wrap ((IntKind.i64.wrap (1 - x1.exp)) - ((cr (max x1.aq (IntKind.i64.wrap (0 - x1.aq)))).length:Int)))))++(cr (max x1.aq (IntKind.i64.wrap (0 - x1.aq))))).length)) (bX (decide ((0:Int)≤(IntKind.i64.wrap ((((lE ([48]:ae) (max 0 (IntKind.i64.wrap ((IntKind.i64.wrap (1 - x1.exp)) - ((cr (max x1.aq (IntKind.i64.wrap (0 - x1.aq)))).length:Int)))))++(cr (max x1.aq (IntKind.i64.wrap (0 - x1.aq))))).length:Int)+x1.exp)))&&decide ((IntKind.i64.wrap ((((lE ([48]:ae) (max 0 (IntKind.i64.wrap ((IntKind.i64.wrap (1 - x1.exp)) - ((cr (max x1.aq (IntKind.i64.wrap (0 - x1.aq)))).length:Int)))))++(cr (max x1.aq (IntKind.i64.wrap (0 - x1.aq))))).length:Int)+x1.exp))≤(((lE ([48]:ae) (max 0 (IntKind.i64.wrap ((IntKind.i64.wrap (1 - x1.exp)) - ((cr (max x1.aq (IntKind.i64.wrap (0 - x1.aq)))).length:Int)))))++(cr (max x1.aq (IntKind.i64.wrap (0 - x1.aq))))).length:Int))) (bX (decide ((((((lE ([48]:ae) (max 0 (IntKind.i64.wrap ((IntKind.i64.wrap (1 - x1.exp)) - ((cr (max x1.aq (IntKind.i64.wrap (0 - x1.aq)))).length:Int)))))++(cr (max x1.aq (IntKind.i64.wrap (0 - x1.aq))))).drop 0).take ((IntKind.i64.wrap ((((lE ([48]:ae) (max 0 (IntKind.i64.wrap ((IntKind.i64.wrap (1 - x1.exp)) - ((cr (max x1.aq (IntKind.i64.wrap (0 - x1.aq)))).length:Int)))))++(cr (max x1.aq (IntKind.i64.wrap (0 - x1.aq))))).length:Int)+x1.exp)).toNat - 0))++([46]:ae)).length+((((lE ([48]:ae) (max 0 (IntKind.i64.wrap ((IntKind.i64.wrap (1 - x1.exp)) - ((cr (max x1.aq (IntKind.i64.wrap (0 - x1.aq)))).length:Int)))))++(cr (max x1.aq (IntKind.i64.wrap (0 - x1.aq))))).drop (IntKind.i64.wrap ((((lE ([48]:ae) (max 0 (IntKind.i64.wrap ((IntKind.i64.wrap (1 - x1.exp)) - ((cr (max x1.aq (IntKind.i64.wrap (0 - x1.aq)))).length:Int)))))++(cr (max x1.aq (IntKind.i64.wrap (0 - x1.aq))))).length:Int)+x1.exp)).toNat).take ((((lE ([48]:ae) (max 0 (IntKind.i64.wrap ((IntKind.i64.wrap (1 - x1.exp)) - ((cr (max x1.aq (IntKind.i64.wrap (0 - x1.aq)))).length:Int)))))++(cr (max x1.aq (IntKind.i64.wrap (0 - x1.aq))))).length:Int).toNat - (IntKind.i64.wrap ((((lE ([48]:ae) (max 0 (IntKind.i64.wrap ((IntKind.i64.wrap (1 - x1.exp)) - ((cr (max x1.aq (IntKind.i64.wrap (0 - x1.aq)))).length:Int)))))++(cr (max x1.aq (IntKind.i64.wrap (0 - x1.aq))))).length:Int)+x1.exp)).toNat)).length≤9223372036854775807)) (af ((((((lE ([48]:ae) (max 0 (IntKind.i64.wrap ((IntKind.i64.wrap (1 - x1.exp)) - ((cr (max x1.aq (IntKind.i64.wrap (0 - x1.aq)))).length:Int)))))++(cr (max x1.aq (IntKind.i64.wrap (0 - x1.aq))))).drop 0).take ((IntKind.i64.wrap ((((lE ([48]:ae) (max 0 (IntKind.i64.wrap ((IntKind.i64.wrap (1 - x1.exp)) - ((cr (max x1.aq (IntKind.i64.wrap (0 - x1.aq)))).length:Int)))))++(cr (max x1.aq (IntKind.i64.wrap (0 - x1.aq))))).length:Int)+x1.exp)).toNat - 0))++([46]:ae))++((((lE ([48]:ae) (max 0 (IntKind.i64.wrap ((IntKind.i64.wrap (1 - x1.exp)) - ((cr (max x1.aq (IntKind.i64.wrap (0 - x1.aq)))).length:Int)))))++(cr (max x1.aq (IntKind.i64.wrap (0 - x1.aq))))).drop (IntKind.i64.wrap ((((lE ([48]:ae) (max 0 (IntKind.i64.wrap ((IntKind.i64.wrap (1 - x1.exp)) - ((cr (max x1.aq (IntKind.i64.wrap (0 - x1.aq)))).length:Int)))))++(cr (max x1.aq (IntKind.i64.wrap (0 - x1.aq))))).length:Int)+x1.exp)).toNat).take ((((lE ([48]:ae) (max 0 (IntKind.i64.wrap ((IntKind.i64.wrap (1 - x1.exp)) - ((cr (max x1.aq (IntKind.i64.wrap (0 - x1.aq)))).length:Int)))))++(cr (max x1.aq (IntKind.i64.wrap (0 - x1.aq))))).length:Int).toNat - (IntKind.i64.wrap ((((lE ([48]:ae) (max 0 (IntKind.i64.wrap ((IntKind.i64.wrap (1 - x1.exp)) - ((cr (max x1.aq (IntKind.i64.wrap (0 - x1.aq)))).length:Int)))))++(cr (max x1.aq (IntKind.i64.wrap (0 - x1.aq))))).length:Int)+x1.exp)).toNat))) y3 (fun y6 y7=>k0 (xq y7)))))))))))))else (bif (decide (x1.exp≥(0:Int)))then (bX (decide (0≤x1.exp)&&decide ((([48]:ae).length:Int)*x1.exp≤140737488355328)) (bX (decide ((cr (max x1.aq (IntKind.i64.wrap (0 - x1.aq)))).length+(lE ([48]:ae) x1.exp).length≤9223372036854775807)) (ai ((cr (max x1.aq (IntKind.i64.wrap (0 - x1.aq))))++(lE ([48]:ae) x1.exp)) (fun y8 y9=>k0 (xq y9)))))else (bX (decide (0≤(max 0 (IntKind.i64.wrap ((IntKind.i64.wrap (1 - x1.exp)) - ((cr (max x1.aq (IntKind.i64.wrap (0 - x1.aq)))).length:Int)))))&&decide ((([48]:ae).length:Int)*(max 0 (IntKind.i64.wrap ((IntKind.i64.wrap (1 - x1.exp)) - ((cr (max x1.aq (IntKind.i64.wrap (0 - x1.aq)))).length:Int))))≤140737488355328)) (bX (decide ((lE ([48]:ae) (max 0 (IntKind.i64.wrap ((IntKind.i64.wrap (1 - x1.exp)) - ((cr (max x1.aq (IntKind.i64.wrap (0 - x1.aq)))).length:Int))))).length+(cr (max x1.aq (IntKind.i64.wrap (0 - x1.aq)))).length≤9223372036854775807)) (bX (decide ((0:Int)≤(IntKind.i64.wrap ((((lE ([48]:ae) (max 0 (IntKind.i64.wrap ((IntKind.i64.wrap (1 - x1.exp)) - ((cr (max x1.aq (IntKind.i64.wrap (0 - x1.aq)))).length:Int)))))++(cr (max x1.aq (IntKind.i64.wrap (0 - x1.aq))))).length:Int)+x1.exp)))&&decide ((IntKind.i64.wrap ((((lE ([48]:ae) (max 0 (IntKind.i64.wrap ((IntKind.i64.wrap (1 - x1.exp)) - ((cr (max x1.aq (IntKind.i64.wrap (0 - x1.aq)))).length:Int)))))++(cr (max x1.aq (IntKind.i64.wrap (0 - x1.aq))))).length:Int)+x1.exp))≤((lE ([48]:ae) (max 0 (IntKind.i64.wrap ((IntKind.i64.wrap (1 - x1.exp)) - ((cr (max x1.aq (IntKind.i64.wrap (0 - x1.aq)))).length:Int)))))++(cr (max x1.aq (IntKind.i64.wrap (0 - x1.aq))))).length)) (bX (decide ((0:Int)≤(IntKind.i64.wrap ((((lE ([48]:ae) (max 0 (IntKind.i64.wrap ((IntKind.i64.wrap (1 - x1.exp)) - ((cr (max x1.aq (IntKind.i64.wrap (0 - x1.aq)))).length:Int)))))++(cr (max x1.aq (IntKind.i64.wrap (0 - x1.aq))))).length:Int)+x1.exp)))) (bX (decide (((((lE ([48]:ae) (max 0 (IntKind.i64.wrap ((IntKind.i64.wrap (1 - x1.exp)) - ((cr (max x1.aq (IntKind.i64.wrap (0 - x1.aq)))).length:Int)))))++(cr (max x1.aq (IntKind.i64.wrap (0 - x1.aq))))).drop 0).take ((IntKind.i64.wrap ((((lE ([48]:ae) (max 0 (IntKind.i64.wrap ((IntKind.i64.wrap (1 - x1.exp)) - ((cr (max x1.aq (IntKind.i64.wrap (0 - x1.aq)))).length:Int)))))++(cr (max x1.aq (IntKind.i64.wrap (0 - x1.aq))))).length:Int)+x1.exp)).toNat - 0)).length+1≤9223372036854775807)) (bX (decide ((0:Int)≤(((lE ([48]:ae) (max 0 (IntKind.i64.wrap ((IntKind.i64.wrap (1 - x1.exp)) - ((cr (max x1.aq (IntKind.i64.wrap (0 - x1.aq)))).length:Int)))))++(cr (max x1.aq (IntKind.i64.wrap (0 - x1.aq))))).length:Int))&&decide ((((lE ([48]:ae) (max 0 (IntKind.i64.wrap ((IntKind.i64.wrap (1 - x1.exp)) - ((cr (max x1.aq (IntKind.i64.wrap (0 - x1.aq)))).length:Int)))))++(cr (max x1.aq (IntKind.i64.wrap (0 - x1.aq))))).length:Int)≤((lE ([48]:ae) (max 0 (IntKind.i64.wrap ((IntKind.i64.wrap (1 - x1.exp)) - ((cr (max x1.aq (IntKind.i64.wrap (0 - x1.aq)))).length:Int)))))++(cr (max x1.aq (IntKind.i64.wrap (0 - x1.aq))))).length)) (bX (decide ((0:Int)≤(IntKind.i64.wrap ((((lE ([48]:ae) (max 0 (IntKind.i64.wrap ((IntKind.i64.wrap (1 - x1.exp)) - ((cr (max x1.aq (IntKind.i64.wrap (0 - x1.aq)))).length:Int)))))++(cr (max x1.aq (IntKind.i64.wrap (0 - x1.aq))))).length:Int)+x1.exp)))&&decide ((IntKind.i64.wrap ((((lE ([48]:ae) (max 0 (IntKind.i64.wrap ((IntKind.i64.wrap (1 - x1.exp)) - ((cr (max x1.aq (IntKind.i64.wrap (0 - x1.aq)))).length:Int)))))++(cr (max x1.aq (IntKind.i64.wrap (0 - x1.aq))))).length:Int)+x1.exp))≤(((lE ([48]:ae) (max 0 (IntKind.i64.wrap ((IntKind.i64.wrap (1 - x1.exp)) - ((cr (max x1.aq (IntKind.i64.wrap (0 - x1.aq)))).length:Int)))))++(cr (max x1.aq (IntKind.i64.wrap (0 - x1.aq))))).length:Int))) (bX (decide ((((((lE ([48]:ae) (max 0 (IntKind.i64.wrap ((IntKind.i64.wrap (1 - x1.exp)) - ((cr (max x1.aq (IntKind.i64.wrap (0 - x1.aq)))).length:Int)))))++(cr (max x1.aq (IntKind.i64.wrap (0 - x1.aq))))).drop 0).take ((IntKind.i64.wrap ((((lE ([48]:ae) (max 0 (IntKind.i64.wrap ((IntKind.i64.wrap (1 - x1.exp)) - ((cr (max x1.aq (IntKind.i64.wrap (0 - x1.aq)))).length:Int)))))++(cr (max x1.aq (IntKind.i64.wrap (0 - x1.aq))))).length:Int)+x1.exp)).toNat - 0))++([46]:ae)).length+((((lE ([48]:ae) (max 0 (IntKind.i64.wrap ((IntKind.i64.wrap (1 - x1.exp)) - ((cr (max x1.aq (IntKind.i64.wrap (0 - x1.aq)))).length:Int)))))++(cr (max x1.aq (IntKind.i64.wrap (0 - x1.aq))))).drop (IntKind.i64.wrap ((((lE ([48]:ae) (max 0 (IntKind.i64.wrap ((IntKind.i64.wrap (1 - x1.exp)) - ((cr (max x1.aq (IntKind.i64.wrap (0 - x1.aq)))).length:Int)))))++(cr (max x1.aq (IntKind.i64.wrap (0 - x1.aq))))).length:Int)+x1.exp)).toNat).take ((((lE ([48]:ae) (max 0 (IntKind.i64.wrap ((IntKind.i64.wrap (1 - x1.exp)) - ((cr (max x1.aq (IntKind.i64.wrap (0 - x1.aq)))).length:Int)))))++(cr (max x1.aq (IntKind.i64.wrap (0 - x1.aq))))).length:Int).toNat - (IntKind.i64.wrap ((((lE ([48]:ae) (max 0 (IntKind.i64.wrap ((IntKind.i64.wrap (1 - x1.exp)) - ((cr (max x1.aq (IntKind.i64.wrap (0 - x1.aq)))).length:Int)))))++(cr (max x1.aq (IntKind.i64.wrap (0 - x1.aq))))).length:Int)+x1.exp)).toNat)).length≤9223372036854775807)) (ai ((((((lE ([48]:ae) (max 0 (IntKind.i64.wrap ((IntKind.i64.wrap (1 - x1.exp)) - ((cr (max x1.aq (IntKind.i64.wrap (0 - x1.aq)))).length:Int)))))++(cr (max x1.aq (IntKind.i64.wrap (0 - x1.aq))))).drop 0).take ((IntKind.i64.wrap ((((lE ([48]:ae) (max 0 (IntKind.i64.wrap ((IntKind.i64.wrap (1 - x1.exp)) - ((cr (max x1.aq (IntKind.i64.wrap (0 - x1.aq)))).length:Int)))))++(cr (max x1.aq (IntKind.i64.wrap (0 - x1.aq))))).length:Int)+x1.exp)).toNat - 0))++([46]:ae))++((((lE ([48]:ae) (max 0 (IntKind.i64.wrap ((IntKind.i64.wrap (1 - x1.exp)) - ((cr (max x1.aq (IntKind.i64.wrap (0 - x1.aq)))).length:Int)))))++(cr (max x1.aq (IntKind.i64.wrap (0 - x1.aq))))).drop (IntKind.i64.wrap ((((lE ([48]:ae) (max 0 (IntKind.i64.wrap ((IntKind.i64.wrap (1 - x1.exp)) - ((cr (max x1.aq (IntKind.i64.wrap (0 - x1.aq)))).length:Int)))))++(cr (max x1.aq (IntKind.i64.wrap (0 - x1.aq))))).length:Int)+x1.exp)).toNat).take ((((lE ([48]:ae) (max 0 (IntKind.i64.wrap ((IntKind.i64.wrap (1 - x1.exp)) - ((cr (max x1.aq (IntKind.i64.wrap (0 - x1.aq)))).length:Int)))))++(cr (max x1.aq (IntKind.i64.wrap (0 - x1.aq))))).length:Int).toNat - (IntKind.i64.wrap ((((lE ([48]:ae) (max 0 (IntKind.i64.wrap ((IntKind.i64.wrap (1 - x1.exp)) - ((cr (max x1.aq (IntKind.i64.wrap (0 - x1.aq)))).length:Int)))))++(cr (max x1.aq (IntKind.i64.wrap (0 - x1.aq))))).length:Int)+x1.exp)).toNat))) (fun p9 n0=>k0 (xq n0))))))))))))))
theorem XB:dO (R:=R) tt (Pg bQ aj af ai) sS false Tryz.f125 GZ G0 (Mi (qw bQ aj af ai)):=fun x y k=>by kernel_rfl
end
theorem VY:cE (R:=R) Tryz.prog (Pg (R:=R) bQ aj af ai) := .c (BH R) <| .d (jS R) rfl <| .f (jj R _ (fW R _ (ie _))) rfl <| .s (ZX) Sa <| .p (itoa_ok) <| .p (rep_ok) <| .n
def bR:tp R:=fun x1 k0=>qw bQ aj af ai x1 k0
theorem IX (R:Type):kM Tryz.prog 125 (G1 (bR (R:=R))):=br TT mixed (VY (R:=R)) rfl rfl rfl rfl cq (XB bQ aj af ai)
abbrev Dj (R:Type):Type:=Int→(Int→Option R)→Option R
abbrev Ls:List cU := [.leaf (.int .i32)]
abbrev Lt:List aU := []
def QQ (fn:Dj R):lC R Ls Lt:=fun x y k=>fn x.1 (fun q0=>k (.int .u8 q0) [])
def Tc (fn:Dj R):=aG Ls Lt (QQ fn)
section
def FU (x1:Int) (k0:Int→Option R):Option R :=
 bif (x1==34)then (bif (x1==34)then (k0 (IntKind.u8.wrap x1))else (bif (x1==8)then (k0 98)else (bif (x1==12)then (k0 102)else (bif (x1==10)then (k0 110)else (bif (x1==13)then (k0 114)else (bif (x1==9)then (k0 116)else (k0 0)))))))else (bif (x1==92)then (k0 (IntKind.u8.wrap x1))else (bif (x1==8)then (k0 98)else (bif (x1==12)then (k0 102)else (bif (x1==10)then (k0 110)else (bif (x1==13)then (k0 114)else (bif (x1==9)then (k0 116)else (k0 0)))))))
theorem quote_short_ok:dO (R:=R) tt [] sS false Tryz.f169 Ls Lt (QQ FU):=fun x y k=>by kernel_rfl
end
def fq:Dj R:=fun x1 k0=>FU x1 k0
theorem XC (R:Type):kM Tryz.prog 169 (Tc (fq (R:=R))):=br TT mixed .n rfl rfl rfl rfl cq (quote_short_ok)
abbrev er (R:Type):Type:=Int→(List Int)→((List Int)→Option R)→Option R
abbrev kY:List cU := [.leaf (.ptr 0 0), .leaf (.int .u8)]
abbrev kZ:List aU := [.mZ (.TW (.int .u8) 1), .tok]
def qe (fn:er R):lC R kY kZ:=fun x y k=>fn x.2.1 y.1 (fun q0=>k (.dK) [.mZ (.sl (.int .u8) q0 (.own 2)), .dead, .tok])
def ir (fn:er R):=aG kY kZ (qe fn)
section
def qU:List (oo R) := [(171,false,(Yp R))]
def qV (x1:Int) (x2:List Int) (k0:(List Int)→Option R):Option R :=
 bX (decide ((x2.length+1)*1≤140737488355328)) (k0 ((x2:List Int)++(([x1]:List Int):List Int)))
theorem CJ:dO (R:=R) tt (qU (R:=R)) sS false Tryz.f126 kY kZ (qe qV):=fun x y k=>by kernel_rfl
end
theorem BN:cE (R:=R) Tryz.prog (qU (R:=R)) := .f (bcc_is) rfl <| .n
def ad:er R:=fun x1 x2 k0=>qV x1 x2 k0
theorem jT (R:Type):kM Tryz.prog 126 (ir (ad (R:=R))):=br TT mixed (BN (R:=R)) rfl rfl rfl rfl cq (CJ)
abbrev fB (R:Type):Type:=(List Int)→Int→((List Int)→Option R)→Option R
abbrev iW:List cU := [.leaf (.TW (.int .u8) 0), .leaf (.int .i32)]
abbrev iX:List aU := [.tok]
def mw (fn:fB R):lC R iW iX:=fun x y k=>fn x.1 x.2.1 (fun q0=>k (.sl (.int .u8) q0 (.own 1)) [.dead, .tok])
def mU (fn:fB R):=aG iW iX (mw fn)
section
def fK (x1:List Int) (x2:Int) (k0:(List Int)→Option R):Option R :=
 bif (decide ((IntKind.u32.wrap x2)≤(2047:Int)))then (bX (decide ((x1.length+2)*1≤140737488355328)) (k0 ((x1:List Int)++(([(IntKind.u8.wrap ((BitVec.ofInt IntKind.u8.bits 192 ||| BitVec.ofInt IntKind.u8.bits (IntKind.u8.wrap (Int.fdiv x2 (2 ^ (min 6 IntKind.i32.bits))))).toNat:Int)),(IntKind.u8.wrap ((BitVec.ofInt IntKind.u8.bits 128 ||| BitVec.ofInt IntKind.u8.bits (IntKind.u8.wrap ((BitVec.ofInt IntKind.u8.bits (IntKind.u8.wrap x2) &&& BitVec.ofInt IntKind.u8.bits 63).toNat:Int))).toNat:Int))]:List Int):List Int))))else (let j6:=fun (z3:Bool)=>bif z3 then (bX (decide ((x1.length+3)*1≤140737488355328)) (k0 ((x1:List Int)++(([(IntKind.u8.wrap ((BitVec.ofInt IntKind.u8.bits 224 ||| BitVec.ofInt IntKind.u8.bits (IntKind.u8.wrap (Int.fdiv x2 (2 ^ (min 12 IntKind.i32.bits))))).toNat:Int)),(IntKind.u8.wrap ((BitVec.ofInt IntKind.u8.bits 128 ||| BitVec.ofInt IntKind.u8.bits (IntKind.u8.wrap ((BitVec.ofInt IntKind.u8.bits (IntKind.u8.wrap (Int.fdiv x2 (2 ^ (min 6 IntKind.i32.bits)))) &&& BitVec.ofInt IntKind.u8.bits 63).toNat:Int))).toNat:Int)),(IntKind.u8.wrap ((BitVec.ofInt IntKind.u8.bits 128 ||| BitVec.ofInt IntKind.u8.bits (IntKind.u8.wrap ((BitVec.ofInt IntKind.u8.bits (IntKind.u8.wrap x2) &&& BitVec.ofInt IntKind.u8.bits 63).toNat:Int))).toNat:Int))]:List Int):List Int))))else (let j5:=fun (z4:Bool)=>bif z4 then (bX (decide ((x1.length+4)*1≤140737488355328)) (k0 ((x1:List Int)++(([(IntKind.u8.wrap ((BitVec.ofInt IntKind.u8.bits 240 ||| BitVec.ofInt IntKind.u8.bits (IntKind.u8.wrap (Int.fdiv x2 (2 ^ (min 18 IntKind.i32.bits))))).toNat:Int)),(IntKind.u8.wrap ((BitVec.ofInt IntKind.u8.bits 128 ||| BitVec.ofInt IntKind.u8.bits (IntKind.u8.wrap ((BitVec.ofInt IntKind.u8.bits (IntKind.u8.wrap (Int.fdiv x2 (2 ^ (min 12 IntKind.i32.bits)))) &&& BitVec.ofInt IntKind.u8.bits 63).toNat:Int))).toNat:Int)),(IntKind.u8.wrap ((BitVec.ofInt IntKind.u8.bits 128 ||| BitVec.ofInt IntKind.u8.bits (IntKind.u8.wrap ((BitVec.ofInt IntKind.u8.bits (IntKind.u8.wrap (Int.fdiv x2 (2 ^ (min 6 IntKind.i32.bits)))) &&& BitVec.ofInt IntKind.u8.bits 63).toNat:Int))).toNat:Int)),(IntKind.u8.wrap ((BitVec.ofInt IntKind.u8.bits 128 ||| BitVec.ofInt IntKind.u8.bits (IntKind.u8.wrap ((BitVec.ofInt IntKind.u8.bits (IntKind.u8.wrap x2) &&& BitVec.ofInt IntKind.u8.bits 63).toNat:Int))).toNat:Int))]:List Int):List Int))))else (bX (decide ((x1.length+3)*1≤140737488355328)) (k0 ((x1:List Int)++(([239,191,189]:List Int):List Int)))); bif (decide ((IntKind.u32.wrap x2)>(65535:Int)))then (j5 (decide ((IntKind.u32.wrap x2)≤(1114111:Int))))else (j5 false)); bif (decide ((IntKind.u32.wrap x2)<(55296:Int)))then (j6 (decide ((IntKind.u32.wrap x2)<(55296:Int))))else (bif (decide ((57343:Int)<(IntKind.u32.wrap x2)))then (j6 (decide ((IntKind.u32.wrap x2)≤(65535:Int))))else (j6 false)))
theorem xu:dO (R:=R) tt [] sS true Tryz.f224 iW iX (mw fK):=fun x y k=>by kernel_rfl
end
def ca:fB R:=fun x1 x2 k0=>fK x1 x2 k0
theorem vQ (R:Type):kM Tryz.prog 224 (mU (ca (R:=R))):=br TT mixed .n rfl rfl rfl rfl cq (xu)
abbrev iQ (R:Type):Type:=(List Int)→Int→((List Int)→Option R)→Option R
abbrev ml:List cU := [.leaf (.TW (.int .u8) 0), .leaf (.int .i32)]
abbrev mm:List aU := [.tok]
def sI (fn:iQ R):lC R ml mm:=fun x y k=>fn x.1 x.2.1 (fun q0=>k (.sl (.int .u8) q0 (.own 1)) [.dead, .tok])
def tq (fn:iQ R):=aG ml mm (sI fn)
section
variable (ca:fB R)
def tu:List (oo R) := [(224,false,(mU ca av))]
def jk (x1:List Int) (x2:Int) (k0:(List Int)→Option R):Option R :=
 bif (decide ((IntKind.u32.wrap x2)≤(127:Int)))then (bX (decide ((x1.length+1)*1≤140737488355328)) (k0 ((x1:List Int)++(([(IntKind.u8.wrap x2)]:List Int):List Int))))else (ca x1 x2 (fun y3=>k0 y3))
theorem EE:dO (R:=R) tt (tu ca) sS true Tryz.f202 ml mm (sI (jk ca)):=fun x y k=>by kernel_rfl
end
theorem Dk:cE (R:=R) Tryz.prog (tu (R:=R) ca) := .d (vQ R) rfl <| .n
def cH:iQ R:=fun x1 x2 k0=>jk ca x1 x2 k0
theorem CK (R:Type):kM Tryz.prog 202 (tq (cH (R:=R))):=br TT mixed (Dk (R:=R)) rfl rfl rfl rfl cq (EE ca)
abbrev fw (R:Type):Type:=Int→(List Int)→(Int→(List Int)→Option R)→Option R
abbrev k6:List cU := [.leaf (.ptr 0 0), .leaf (.int .i32)]
abbrev k7:List aU := [.mZ (.TW (.int .u8) 1), .tok]
def qf (fn:fw R):lC R k6 k7:=fun x y k=>fn x.2.1 y.1 (fun q0 q1=>k (.tuple [.int .i64 q0, .dK]) [.mZ (.sl (.int .u8) q1 (.own 2)), .dead, .tok])
def k8 (fn:fw R):=aG k6 k7 (qf fn)
section
variable (cH:iQ R)
def qW:List (oo R) := [(171,false,(Yp R)),(202,false,(tq cH av))]
def iu (x1:Int) (x2:List Int) (k0:Int→(List Int)→Option R):Option R :=
 cH x2 x1 (fun y3=>k0 (IntKind.i64.wrap ((y3.length:Int) - (x2.length:Int))) y3)
theorem CL:dO (R:=R) tt (qW cH) sS false Tryz.f170 k6 k7 (qf (iu cH)):=fun x y k=>by kernel_rfl
end
theorem BO:cE (R:=R) Tryz.prog (qW (R:=R) cH) := .f (bcc_is) rfl <| .d (CK R) rfl <| .n
def ak:fw R:=fun x1 x2 k0=>iu cH x1 x2 k0
theorem oW (R:Type):kM Tryz.prog 170 (k8 (ak (R:=R))):=br TT mixed (BO (R:=R)) rfl rfl rfl rfl cq (CL cH)
variable {R:Type}
abbrev xR (R:Type):Type:=ae→ae→(ae→Option R)→Option R
abbrev Lu:List cU := [.leaf (.str), .leaf (.str)]
abbrev Lv:List aU := []
def QR (fn:xR R):lC R Lu Lv:=fun x y k=>fn x.1 x.2.1 (fun q0=>k (.str q0) [])
def Lw (fn:xR R):=aG Lu Lv (QR fn)
section
def Td:List (oo R) := [(105,true,(Sb R))]
def FV (x1:ae) (x2:ae) (k0:ae→Option R):Option R :=
 bX (xF x2&&decide (x2.length<4294967281)) (bX (decide ((0:Int)≤(IntKind.i64.wrap ((x1.length:Int) - ((bx x1 x2).length:Int))))&&decide ((IntKind.i64.wrap ((x1.length:Int) - ((bx x1 x2).length:Int)))≤x1.length)) (bX (decide ((0:Int)≤(IntKind.i64.wrap ((x1.length:Int) - ((bx x1 x2).length:Int))))) (k0 ((x1.drop 0).take ((IntKind.i64.wrap ((x1.length:Int) - ((bx x1 x2).length:Int))).toNat - 0)))))
theorem lexer_while_ok:dO (R:=R) tt (Td (R:=R)) sS false Tryz.f118 Lu Lv (QR FV):=fun x y k=>by kernel_rfl
end
theorem Zf:cE (R:=R) Tryz.prog (Td (R:=R)) := .p (VB) <| .n
def cR:xR R:=fun x1 x2 k0=>FV x1 x2 k0
theorem Mj (R:Type):kM Tryz.prog 118 (Lw (cR (R:=R))):=br TT mixed (Zf (R:=R)) rfl rfl rfl rfl cq (lexer_while_ok)
abbrev iv (R:Type):Type:=ae→ae→(Int→ae→Option R)→Option R
abbrev px:List cU := [.leaf (.ptr 0 0), .leaf (.str)]
abbrev py:List aU := [.cells [.str]]
def w8 (fn:iv R):lC R px py:=fun x y k=>fn x.2.1 y.1.1 (fun q0 q1=>k (.int .u8 q0) [.cells [.str q1]])
def pz (fn:iv R):=aG px py (w8 fn)
section
def xS:List (oo R) := [(159,true,(idx_S R))]
def k9 (x1:ae) (x2:ae) (k0:Int→ae→Option R):Option R :=
 bif (x2==([]:ae))then (k0 0 x2)else (bX (decide ((0:Int)<x2.length)) (bif (decide ((FP x1 ((x2.getD 0 0).toNat:Int))<(0:Int)))then (k0 0 x2)else (bX (decide ((0:Int)<x2.length)) (bX (decide ((0:Int)≤(x2.length:Int))&&decide ((x2.length:Int)≤x2.length)) (bX (decide ((1:Int)≤(x2.length:Int))) (k0 ((x2.getD 0 0).toNat:Int) ((x2.drop 1).take ((x2.length:Int).toNat - 1))))))))
theorem HR:dO (R:=R) tt (xS (R:=R)) sS false Tryz.f190 px py (w8 k9):=fun x y k=>by kernel_rfl
end
theorem G2:cE (R:=R) Tryz.prog (xS (R:=R)) := .p (idx_ok) <| .n
def bb:iv R:=fun x1 x2 k0=>k9 x1 x2 k0
theorem uT (R:Type):kM Tryz.prog 190 (pz (bb (R:=R))):=br TT mixed (G2 (R:=R)) rfl rfl rfl rfl cq (HR)
abbrev gO (R:Type):Type:=ae→(ae→ae→Option R)→Option R
abbrev nM:List cU := [.leaf (.ptr 0 0)]
abbrev nN:List aU := [.cells [.str]]
def uU (fn:gO R):lC R nM nN:=fun x y k=>fn y.1.1 (fun q0 q1=>k (.str q0) [.cells [.str q1]])
def nO (fn:gO R):=aG nM nN (uU fn)
section
def vR:List (oo R) := [(105,true,(Sb R))]
def j0 (x1:ae) (k0:ae→ae→Option R):Option R :=
 bX (xF ([48,49,50,51,52,53,54,55,56,57]:ae)&&decide (([48,49,50,51,52,53,54,55,56,57]:ae).length<4294967281)) (bX (decide ((0:Int)≤(IntKind.i64.wrap ((x1.length:Int) - ((bx x1 ([48,49,50,51,52,53,54,55,56,57]:ae)).length:Int))))&&decide ((IntKind.i64.wrap ((x1.length:Int) - ((bx x1 ([48,49,50,51,52,53,54,55,56,57]:ae)).length:Int)))≤x1.length)) (bX (decide ((0:Int)≤(IntKind.i64.wrap ((x1.length:Int) - ((bx x1 ([48,49,50,51,52,53,54,55,56,57]:ae)).length:Int))))) (k0 ((x1.drop 0).take ((IntKind.i64.wrap ((x1.length:Int) - ((bx x1 ([48,49,50,51,52,53,54,55,56,57]:ae)).length:Int))).toNat - 0)) (bx x1 ([48,49,50,51,52,53,54,55,56,57]:ae)))))
theorem Gf:dO (R:=R) tt (vR (R:=R)) sS false Tryz.f191 nM nN (uU j0):=fun x y k=>by kernel_rfl
end
theorem Fk:cE (R:=R) Tryz.prog (vR (R:=R)) := .p (VB) <| .n
def aT:gO R:=fun x1 k0=>j0 x1 k0
theorem sJ (R:Type):kM Tryz.prog 191 (nO (aT (R:=R))):=br TT mixed (Fk (R:=R)) rfl rfl rfl rfl cq (Gf)
abbrev iR (R:Type):Type:=ae→(Int→Bool→ae→Option R)→Option R
abbrev mn:List cU := [.leaf (.ptr 0 0)]
abbrev mo:List aU := [.cells [.str]]
def sK (fn:iR R):lC R mn mo:=fun x y k=>fn y.1.1 (fun q0 q1 q2=>k (.tuple [.int .i64 q0, .bool q1]) [.cells [.str q2]])
def tw (fn:iR R):=aG mn mo (sK fn)
section
variable (bb:iv R) (aT:gO R)
def tz:List (oo R) := [(190,false,(pz bb av)),(191,false,(nO aT av)),(194,true,(atoi_S R))]
def jl (x1:ae) (k0:Int→Bool→ae→Option R):Option R :=
 bb ([43,45]:ae) x1 (fun y2 y3=>aT y3 (fun y4 y5=>bX (decide (y4.length≤281474976710656)) (bif xG y4 then (bif (decide ((eH y4)>(1000000:Int)))then (bif (y2==45)then (k0 (-1000000) (!(y4==([]:ae))) y5)else (k0 1000000 (!(y4==([]:ae))) y5))else (bif (y2==45)then (k0 (IntKind.i64.wrap (0 - (eH y4))) (!(y4==([]:ae))) y5)else (k0 (eH y4) (!(y4==([]:ae))) y5)))else (bif (!(y4==([]:ae)))then (bif (y2==45)then (k0 (-1000000) (!(y4==([]:ae))) y5)else (k0 1000000 (!(y4==([]:ae))) y5))else (bif (decide ((eH y4)>(1000000:Int)))then (bif (y2==45)then (k0 (-1000000) (!(y4==([]:ae))) y5)else (k0 1000000 (!(y4==([]:ae))) y5))else (bif (y2==45)then (k0 (IntKind.i64.wrap (0 - (eH y4))) (!(y4==([]:ae))) y5)else (k0 (eH y4) (!(y4==([]:ae))) y5)))))))
theorem EF:dO (R:=R) tt (tz bb aT) sS false Tryz.f192 mn mo (sK (jl bb aT)):=fun x y k=>by kernel_rfl
end
theorem Dl:cE (R:=R) Tryz.prog (tz (R:=R) bb aT) := .d (uT R) rfl <| .d (sJ R) rfl <| .p (atoi_ok) <| .n
def bC:iR R:=fun x1 k0=>jl bb aT x1 k0
theorem CM (R:Type):kM Tryz.prog 192 (tw (bC (R:=R))):=br TT mixed (Dl (R:=R)) rfl rfl rfl rfl cq (EF bb aT)
abbrev yF (R:Type):Type:=ae→(fO→Bool→Option R)→Option R
abbrev G3:List cU := [.leaf (.str)]
abbrev G4:List aU := []
def Mk (fn:yF R):lC R G3 G4:=fun x y k=>fn x.1 (fun q0 q1=>k (.tuple [.agg [.int .i64 q0.aq, .int .i64 q0.exp], .bool q1]) [])
def Ph (fn:yF R):=aG G3 G4 (Mk fn)
section
variable (bm:vP R) (bb:iv R) (aT:gO R) (bC:iR R)
def Pj:List (oo R) := [(97,true,(IM bm av)),(190,false,(pz bb av)),(191,false,(nO aT av)),(192,false,(tw bC av)),(105,true,(Sb R)),(193,true,(trimR_S R)),(194,true,(atoi_S R))]
def qx (x1:ae) (k0:fO→Bool→Option R):Option R :=
 bb ([45]:ae) x1 (fun y2 y3=>aT y3 (fun y4 y5=>let j32:=let j31:=fun (wk:ae) (z12:Int) (z13:ae)=>let j30:=fun (z19:Int) (z20:ae)=>bX (xF ([48]:ae)&&decide (([48]:ae).length<4294967281)) (bX (xF ([48]:ae)&&decide (([48]:ae).length<4294967281)) (bif (!(z20==([]:ae)))then (k0 (⟨0,0⟩:fO) false)else (bif (decide (((cN (bx wk ([48]:ae)) ([48]:ae)).length:Int)>(18:Int)))then (k0 (⟨0,0⟩:fO) false)else (let j29:=bif (y2 != 0)then (bm (IntKind.i64.wrap (0 - (eH (([48]:ae)++(cN (bx wk ([48]:ae)) ([48]:ae)))))) (IntKind.i64.wrap (z19+(IntKind.i64.wrap (((bx wk ([48]:ae)).length:Int) - ((cN (bx wk ([48]:ae)) ([48]:ae)).length:Int))))) (fun JF Sz=>k0 JF Sz))else (bm (eH (([48]:ae)++(cN (bx wk ([48]:ae)) ([48]:ae)))) (IntKind.i64.wrap (z19+(IntKind.i64.wrap (((bx wk ([48]:ae)).length:Int) - ((cN (bx wk ([48]:ae)) ([48]:ae)).length:Int))))) (fun Fi uR=>k0 Fi uR)); bX (decide (1+(cN (bx wk ([48]:ae)) ([48]:ae)).length≤9223372036854775807)) (bX (decide ((([48]:ae)++(cN (bx wk ([48]:ae)) ([48]:ae))).length≤281474976710656)) (bif xG (([48]:ae)++(cN (bx wk ([48]:ae)) ([48]:ae)))then (j29)else (j29))))))); bb ([101,69]:ae) z13 (fun IT JG=>bif (IT != 0)then (bC JG (fun Hm Ql NH=>bif (!Ql)then (k0 (⟨0,0⟩:fO) false)else (j30 (IntKind.i64.wrap (z12+Hm)) NH)))else (j30 z12 JG)); bb ([46]:ae) y5 (fun y7 y8=>bif (y7 != 0)then (aT y8 (fun y9 p9=>bif (y9==([]:ae))then (k0 (⟨0,0⟩:fO) false)else (bX (decide (y4.length+y9.length≤9223372036854775807)) (j31 (y4++y9) (IntKind.i64.wrap (0 - (y9.length:Int))) p9))))else (j31 y4 0 y8)); bif (decide ((x1.length:Int)>(400:Int)))then (k0 (⟨0,0⟩:fO) false)else (bif (y4==([]:ae))then (k0 (⟨0,0⟩:fO) false)else (bif (decide ((y4.length:Int)>(1:Int)))then (bX (decide ((0:Int)<y4.length)) (bif (((y4.getD 0 0).toNat:Int)==48)then (k0 (⟨0,0⟩:fO) false)else (j32)))else (j32)))))
theorem XD:dO (R:=R) tt (Pj bm bb aT bC) sS false Tryz.f157 G3 G4 (Mk (qx bm bb aT bC)):=fun x y k=>by kernel_rfl
end
theorem VZ:cE (R:=R) Tryz.prog (Pj (R:=R) bm bb aT bC) := .c (Kv R) <| .d (uT R) rfl <| .d (sJ R) rfl <| .d (CM R) rfl <| .p (VB) <| .p (trimR_ok) <| .p (atoi_ok) <| .n
def ei:yF R:=fun x1 k0=>qx bm bb aT bC x1 k0
theorem T9 (R:Type):kM Tryz.prog 157 (Ph (ei (R:=R))):=br TT mixed (VZ (R:=R)) rfl rfl rfl rfl cq (XD bm bb aT bC)
abbrev ia (R:Type):Type:=ae→ae→(Bool→Option R)→Option R
abbrev lg:List cU := [.leaf (.str), .leaf (.str)]
abbrev lh:List aU := []
def qg (fn:ia R):lC R lg lh:=fun x y k=>fn x.1 x.2.1 (fun q0=>k (.bool q0) [])
def qX (fn:ia R):=aG lg lh (qg fn)
section
def iw (x1:ae) (x2:ae) (k0:Bool→Option R):Option R :=
 bif (decide ((x1.length:Int)≥(x2.length:Int)))then (bX (decide ((0:Int)≤(x2.length:Int))&&decide ((x2.length:Int)≤x1.length)) (bX (decide ((0:Int)≤(x2.length:Int))) (k0 (((x1.drop 0).take ((x2.length:Int).toNat - 0))==x2))))else (k0 false)
theorem CN:dO (R:=R) tt [] sS false Tryz.f228 lg lh (qg iw):=fun x y k=>by kernel_rfl
end
def ct:ia R:=fun x1 x2 k0=>iw x1 x2 k0
theorem AG (R:Type):kM Tryz.prog 228 (qX (ct (R:=R))):=br TT mixed .n rfl rfl rfl rfl cq (CN)
abbrev ib (R:Type):Type:=ae→ae→(ae→Bool→Option R)→Option R
abbrev lj:List cU := [.leaf (.str), .leaf (.str)]
abbrev lk:List aU := []
def qh (fn:ib R):lC R lj lk:=fun x y k=>fn x.1 x.2.1 (fun q0 q1=>k (.tuple [.str q0, .bool q1]) [])
def qY (fn:ib R):=aG lj lk (qh fn)
section
variable (ct:ia R)
def qZ:List (oo R) := [(228,true,(qX ct av))]
def iz (x1:ae) (x2:ae) (k0:ae→Bool→Option R):Option R :=
 ct x1 x2 (fun y3=>bif (!y3)then (k0 x1 false)else (bX (decide ((0:Int)≤(x1.length:Int))&&decide ((x1.length:Int)≤x1.length)) (bX (decide ((0:Int)≤(x2.length:Int))&&decide ((x2.length:Int)≤(x1.length:Int))) (k0 ((x1.drop (x2.length:Int).toNat).take ((x1.length:Int).toNat - (x2.length:Int).toNat)) true))))
theorem CO:dO (R:=R) tt (qZ ct) sS false Tryz.f241 lj lk (qh (iz ct)):=fun x y k=>by kernel_rfl
end
theorem BP:cE (R:=R) Tryz.prog (qZ (R:=R) ct) := .c (AG R) <| .n
def cJ:ib R:=fun x1 x2 k0=>iz ct x1 x2 k0
theorem AH (R:Type):kM Tryz.prog 241 (qY (cJ (R:=R))):=br TT mixed (BP (R:=R)) rfl rfl rfl rfl cq (CO ct)
abbrev rh (R:Type):Type:=ae→ae→(ae→Bool→Option R)→Option R
abbrev zT:List cU := [.leaf (.str), .leaf (.str)]
abbrev zU:List aU := []
def Gg (fn:rh R):lC R zT zU:=fun x y k=>fn x.1 x.2.1 (fun q0 q1=>k (.tuple [.str q0, .bool q1]) [])
def Hq (fn:rh R):=aG zT zU (Gg fn)
section
variable (cJ:ib R)
def Hr:List (oo R) := [(241,true,(qY cJ av))]
def Hs (x1:ae) (x2:ae) (k0:ae→Bool→Option R):Option R :=
 cJ x1 x2 (fun y3 y4=>k0 y3 y4)
theorem QS:dO (R:=R) tt (Hr cJ) sS false Tryz.f220 zT zU (Gg (Hs cJ)):=fun x y k=>by kernel_rfl
end
theorem PI:cE (R:=R) Tryz.prog (Hr (R:=R) cJ) := .c (AH R) <| .n
def fL:rh R:=fun x1 x2 k0=>Hs cJ x1 x2 k0
theorem NU (R:Type):kM Tryz.prog 220 (Hq (fL (R:=R))):=br TT mixed (PI (R:=R)) rfl rfl rfl rfl cq (QS cJ)
abbrev jC (R:Type):Type:=ae→ae→(Bool→ae→Option R)→Option R
abbrev rW:List cU := [.leaf (.ptr 0 0), .leaf (.str)]
abbrev rX:List aU := [.cells [.str]]
def ze (fn:jC R):lC R rW rX:=fun x y k=>fn x.2.1 y.1.1 (fun q0 q1=>k (.bool q0) [.cells [.str q1]])
def rY (fn:jC R):=aG rW rX (ze fn)
section
variable (fL:rh R)
def AI:List (oo R) := [(220,true,(Hq fL av))]
def AJ (x1:ae) (x2:ae) (k0:Bool→ae→Option R):Option R :=
 fL x2 x1 (fun y3 y4=>k0 y4 y3)
theorem JP:dO (R:=R) tt (AI fL) sS false Tryz.f195 rW rX (ze (AJ fL)):=fun x y k=>by kernel_rfl
end
theorem IY:cE (R:=R) Tryz.prog (AI (R:=R) fL) := .c (NU R) <| .n
def aL:jC R:=fun x1 x2 k0=>AJ fL x1 x2 k0
theorem w9 (R:Type):kM Tryz.prog 195 (rY (aL (R:=R))):=br TT mixed (IY (R:=R)) rfl rfl rfl rfl cq (JP fL)
abbrev jD (R:Type):Type:=Int→(Int→Option R)→Option R
abbrev rZ:List cU := [.leaf (.int .u8)]
abbrev r5:List aU := []
def zf (fn:jD R):lC R rZ r5:=fun x y k=>fn x.1 (fun q0=>k (.int .u8 q0) [])
def r6 (fn:jD R):=aG rZ r5 (zf fn)
section
def AK (x1:Int) (k0:Int→Option R):Option R :=
 k0 (IntKind.u8.wrap ((BitVec.ofInt IntKind.u8.bits x1 ||| BitVec.ofInt IntKind.u8.bits 32).toNat:Int))
theorem JQ:dO (R:=R) tt [] sS false Tryz.f259 rZ r5 (zf AK):=fun x y k=>by kernel_rfl
end
def internal_strconv_lower:jD R:=fun x1 k0=>AK x1 k0
theorem xa (R:Type):kM Tryz.prog 259 (r6 (internal_strconv_lower (R:=R))):=br TT mixed .n rfl rfl rfl rfl cq (JQ)
abbrev iA (R:Type):Type:=ae→(Bool→Option R)→Option R
abbrev lH:List cU := [.leaf (.str)]
abbrev lI:List aU := []
def rq (fn:iA R):lC R lH lI:=fun x y k=>fn x.1 (fun q0=>k (.bool q0) [])
def sL (fn:iA R):=aG lH lI (rq fn)
abbrev jm (R:Type):Type:=Nat→ae→Int→Int→Bool→(Int→Option R)→(Bool→Int→Option R)→Option R
def gu:Hint := { live := [0,3,4,5],own := [],rows := [],cells := [],drop := [],out := [2,3] }
abbrev dN:Type:=ae×Int×Int×Bool
def iY:dN→St:=fun d=>⟨.str d.1::U 2 (.int .i32 d.2.1 :: .int .i64 d.2.2.1 :: .bool d.2.2.2::U 88 ([])), []⟩
def jn (K:Ex→St→Option R) (q0:Int):Option R:=K (.exit 0) ⟨U 3 (.int .i32 q0::U 90 ([])), []⟩
def jq (K:Ex→St→Option R) (q0:Bool) (q1:Int):Option R:=K (.ret) ⟨U 2 (.bool q0 :: .int .i32 q1::U 90 ([])), []⟩
abbrev eU:List cU := .leaf (.str)::PU 2 (.leaf (.int .i32) :: .leaf (.int .i64) :: .leaf (.bool)::PU 88 ([]))
abbrev eV:List aU := []
def oa (x:cU.bT eU) (y:aU.bT eV):Nat:=(List.length x.1+Int.natAbs x.2.2.2.1+Int.natAbs x.2.2.2.2.1+64)
def zV (x:cU.bT eU) (y:aU.bT eV):dN:=(x.1,x.2.2.2.1,x.2.2.2.2.1,x.2.2.2.2.2.1)
def nn (L:jm R):xp R eU eV:=fun x y K=>L (oa x y) x.1 x.2.2.2.1 x.2.2.2.2.1 x.2.2.2.2.2.1 (jn K) (jq K)
section
variable (internal_strconv_lower:jD R) (aF:jm R)
def eZ:List (oo R) := [(259,true,(r6 internal_strconv_lower av))]
def oc (dJ:ae→Int→Int→Bool→Option R) (ng:ae) (qM:Int) (lF:Int) (oE:Bool) (e0:Int→Option R) (e1:Bool→Int→Option R):Option R :=
 bif (decide (lF<(ng.length:Int)))then (bX (decide ((0:Int)≤lF)&&decide (lF<ng.length)) (bif (decide ((48:Int)≤((ng.getD lF.toNat 0).toNat:Int)))then (bX (decide ((0:Int)≤lF)&&decide (lF<ng.length)) (bif (decide (((ng.getD lF.toNat 0).toNat:Int)≤(57:Int)))then (dJ ng 48 (IntKind.i64.wrap (lF+1)) oE)else (bif oE then (bX (decide ((0:Int)≤lF)&&decide (lF<ng.length)) (internal_strconv_lower ((ng.getD lF.toNat 0).toNat:Int) (fun U5=>bif (decide ((97:Int)≤U5))then (bX (decide ((0:Int)≤lF)&&decide (lF<ng.length)) (internal_strconv_lower ((ng.getD lF.toNat 0).toNat:Int) (fun Sw=>bif (decide (Sw≤(102:Int)))then (dJ ng 48 (IntKind.i64.wrap (lF+1)) oE)else (bX (decide ((0:Int)≤lF)&&decide (lF<ng.length)) (bif (((ng.getD lF.toNat 0).toNat:Int)==95)then (bif (qM != 48)then (e1 false qM)else (dJ ng 95 (IntKind.i64.wrap (lF+1)) oE))else (bif (qM==95)then (e1 false qM)else (dJ ng 33 (IntKind.i64.wrap (lF+1)) oE)))))))else (bX (decide ((0:Int)≤lF)&&decide (lF<ng.length)) (bif (((ng.getD lF.toNat 0).toNat:Int)==95)then (bif (qM != 48)then (e1 false qM)else (dJ ng 95 (IntKind.i64.wrap (lF+1)) oE))else (bif (qM==95)then (e1 false qM)else (dJ ng 33 (IntKind.i64.wrap (lF+1)) oE)))))))else (bX (decide ((0:Int)≤lF)&&decide (lF<ng.length)) (bif (((ng.getD lF.toNat 0).toNat:Int)==95)then (bif (qM != 48)then (e1 false qM)else (dJ ng 95 (IntKind.i64.wrap (lF+1)) oE))else (bif (qM==95)then (e1 false qM)else (dJ ng 33 (IntKind.i64.wrap (lF+1)) oE)))))))else (bif oE then (bX (decide ((0:Int)≤lF)&&decide (lF<ng.length)) (internal_strconv_lower ((ng.getD lF.toNat 0).toNat:Int) (fun Fe=>bif (decide ((97:Int)≤Fe))then (bX (decide ((0:Int)≤lF)&&decide (lF<ng.length)) (internal_strconv_lower ((ng.getD lF.toNat 0).toNat:Int) (fun y22=>bif (decide (y22≤(102:Int)))then (dJ ng 48 (IntKind.i64.wrap (lF+1)) oE)else (bX (decide ((0:Int)≤lF)&&decide (lF<ng.length)) (bif (((ng.getD lF.toNat 0).toNat:Int)==95)then (bif (qM != 48)then (e1 false qM)else (dJ ng 95 (IntKind.i64.wrap (lF+1)) oE))else (bif (qM==95)then (e1 false qM)else (dJ ng 33 (IntKind.i64.wrap (lF+1)) oE)))))))else (bX (decide ((0:Int)≤lF)&&decide (lF<ng.length)) (bif (((ng.getD lF.toNat 0).toNat:Int)==95)then (bif (qM != 48)then (e1 false qM)else (dJ ng 95 (IntKind.i64.wrap (lF+1)) oE))else (bif (qM==95)then (e1 false qM)else (dJ ng 33 (IntKind.i64.wrap (lF+1)) oE)))))))else (bX (decide ((0:Int)≤lF)&&decide (lF<ng.length)) (bif (((ng.getD lF.toNat 0).toNat:Int)==95)then (bif (qM != 48)then (e1 false qM)else (dJ ng 95 (IntKind.i64.wrap (lF+1)) oE))else (bif (qM==95)then (e1 false qM)else (dJ ng 33 (IntKind.i64.wrap (lF+1)) oE)))))))else (e0 qM)
def oe (K:Ex→St→Option R) (rc:dN→Option R) (d:dN):Option R:=oc internal_strconv_lower (fun z0 z1 z2 z3=>rc (z0,z1,z2,z3)) d.1 d.2.1 d.2.2.1 d.2.2.2 (jn K) (jq K)
def gh:Nat→Option (Hint×cQ R):=fun i=>match i with
 | 10=>some (gu,(cM eU eV (nn aF) iK))
 | _=>none
theorem xw (K:Ex→St→Option R) (rc:St→Option R) (d:dN):roundOf tt (cT (eZ internal_strconv_lower)) (gh aF) 0 ((az (aX Tryz.f260)).getD 0 .skip) gu (iY d) rc K=oe internal_strconv_lower K (fun d=>rc (iY d)) d:=by kernel_rfl
def sM (x1:ae) (k0:Bool→Option R):Option R :=
 let j46:=fun (z3:ae)=>bif (decide ((z3.length:Int)≥(2:Int)))then (bX (decide ((0:Int)<z3.length)) (bif (((z3.getD 0 0).toNat:Int)==48)then (bX (decide ((1:Int)<z3.length)) (internal_strconv_lower ((z3.getD 1 0).toNat:Int) (fun y4=>bif (y4==98)then (bX (decide ((1:Int)<z3.length)) (internal_strconv_lower ((z3.getD 1 0).toNat:Int) (fun y9=>aF (List.length z3+Int.natAbs 48+Int.natAbs 2+64) z3 48 2 (y9==120) (fun uR=>k0 (uR != 95)) (fun U6 W0=>k0 U6))))else (bX (decide ((1:Int)<z3.length)) (internal_strconv_lower ((z3.getD 1 0).toNat:Int) (fun y5=>bif (y5==111)then (bX (decide ((1:Int)<z3.length)) (internal_strconv_lower ((z3.getD 1 0).toNat:Int) (fun p9=>aF (List.length z3+Int.natAbs 48+Int.natAbs 2+64) z3 48 2 (p9==120) (fun y31=>k0 (y31 != 95)) (fun V0 y33=>k0 V0))))else (bX (decide ((1:Int)<z3.length)) (internal_strconv_lower ((z3.getD 1 0).toNat:Int) (fun y6=>bif (y6==120)then (bX (decide ((1:Int)<z3.length)) (internal_strconv_lower ((z3.getD 1 0).toNat:Int) (fun n0=>aF (List.length z3+Int.natAbs 48+Int.natAbs 2+64) z3 48 2 (n0==120) (fun Sc=>k0 (Sc != 95)) (fun y35 y36=>k0 y35))))else (aF (List.length z3+Int.natAbs 94+Int.natAbs 0+64) z3 94 0 false (fun y37=>k0 (y37 != 95)) (fun y38 Yq=>k0 y38)))))))))))else (aF (List.length z3+Int.natAbs 94+Int.natAbs 0+64) z3 94 0 false (fun ZZ=>k0 (ZZ != 95)) (fun y41 y42=>k0 y41))))else (aF (List.length z3+Int.natAbs 94+Int.natAbs 0+64) z3 94 0 false (fun Z0=>k0 (Z0 != 95)) (fun y44 y45=>k0 y44)); bif (decide ((x1.length:Int)≥(1:Int)))then (bX (decide ((0:Int)<x1.length)) (bif (((x1.getD 0 0).toNat:Int)==45)then (bX (decide ((0:Int)≤(x1.length:Int))&&decide ((x1.length:Int)≤x1.length)) (bX (decide ((1:Int)≤(x1.length:Int))) (j46 ((x1.drop 1).take ((x1.length:Int).toNat - 1)))))else (bX (decide ((0:Int)<x1.length)) (bif (((x1.getD 0 0).toNat:Int)==43)then (bX (decide ((0:Int)≤(x1.length:Int))&&decide ((x1.length:Int)≤x1.length)) (bX (decide ((1:Int)≤(x1.length:Int))) (j46 ((x1.drop 1).take ((x1.length:Int).toNat - 1)))))else (j46 x1)))))else (j46 x1)
theorem Dm:dO (R:=R) tt (eZ internal_strconv_lower) (gh aF) false Tryz.f260 lH lI (rq (sM internal_strconv_lower aF)):=fun x y k=>by kernel_rfl
end
theorem CP:cE (R:=R) Tryz.prog (eZ (R:=R) internal_strconv_lower) := .c (xa R) <| .n
def aF:jm R
 | 0,_,_,_,_,_,_=>none
 | n+1,gf,gk,gw,mA,e0,e1=>oc internal_strconv_lower (fun gf gk gw mA=>aF n gf gk gw mA e0 e1) gf gk gw mA e0 e1
def og (K:Ex→St→Option R) (n:Nat) (d:dN):Option R:=aF n d.1 d.2.1 d.2.2.1 d.2.2.2 (jn K) (jq K)
theorem yG (other:cQ R) (ho:hG tt (cT (eZ (R:=R) internal_strconv_lower)) (gh (R:=R) aF) 0 ((az (aX Tryz.f260)).getD 0 .skip) gu other):hG tt (cT (eZ (R:=R) internal_strconv_lower)) (gh (R:=R) aF) 0 ((az (aX Tryz.f260)).getD 0 .skip) gu (cM eU eV (nn (aF)) other) :=
 cS (A:=og) ho (dX iY (oe internal_strconv_lower) (og) (fun _ _=>by kernel_rfl) (xw internal_strconv_lower aF) (fun _ _ _=>by kernel_rfl)) oa zV (fun _ _=>by kernel_rfl) (fun _ _ _=>by kernel_rfl)
def bI:iA R:=fun x1 k0=>sM internal_strconv_lower aF x1 k0
theorem AL (R:Type):∀a∈az (aX Tryz.f260),gN tt (cT (eZ (R:=R) internal_strconv_lower)) (gh (R:=R) aF) 0 a:=by
 refine fb 1 (by kernel_rfl) fun i hi => ?_
 match i,hi with
 | 0,_=>exact cA (by kernel_rfl) (yG _ dy)
 | n+1,hi=>omega
theorem BQ (R:Type):kM Tryz.prog 260 (sL (bI (R:=R))):=br TT mixed (CP (R:=R)) rfl rfl rfl rfl (AL R) (Dm internal_strconv_lower aF)
variable {R:Type}
abbrev jI (R:Type):Type:=ae→Int→Int→(Int→Option R)→(Int→Option R)→(Int→Option R)→(Int→Option R)→(Int→Option R)→Option R
abbrev nP:List cU := [.leaf (.str), .leaf (.int .i64), .leaf (.int .i64)]
abbrev nQ:List aU := []
def uV (fn:jI R):lC R nP nQ:=fun x y k=>fn x.1 x.2.1 x.2.2.1 (fun q0=>k (.tuple [.int .u64 q0, .TA 250 .i64 2]) []) (fun q0=>k (.tuple [.int .u64 q0, .TA 250 .i64 3]) []) (fun q0=>k (.tuple [.int .u64 q0, .TA 250 .i64 4]) []) (fun q0=>k (.tuple [.int .u64 q0, .TA 250 .i64 1]) []) (fun q0=>k (.tuple [.int .u64 q0, .dK]) [])
def vS (fn:jI R):=aG nP nQ (uV fn)
abbrev kf (R:Type):Type:=Nat→Int→Bool→ae→Int→Int→Bool→Int→Nat→Int→Int→(List Int)→(ae→Bool→Int→Option R)→(Int→ae→Bool→Int→Option R)→(Int→ae→Bool→Int→Option R)→(Int→ae→Bool→Option R)→Option R
def ic:Hint := { live := [1,8,9,10,11,12,13,99,100,101],own := [],rows := [],cells := [],drop := [],out := [6,7,9,12,13] }
abbrev ew:Type:=Int×Bool×ae×Int×Int×Bool×Int×Nat×Int×Int×(List Int)
def jU:ew→St:=fun d=>⟨.undef :: .int .i64 d.1::U 6 (.bool d.2.1 :: .str d.2.2.1 :: .int .u64 d.2.2.2.1 :: .int .u64 d.2.2.2.2.1 :: .bool d.2.2.2.2.2.1 :: .int .u64 d.2.2.2.2.2.2.1::U 85 (.row 0 d.2.2.2.2.2.2.2.1 :: .int .i64 d.2.2.2.2.2.2.2.2.1 :: .int .i64 d.2.2.2.2.2.2.2.2.2.1::U 70 ([]))), [.row (.int .u8) d.2.2.2.2.2.2.2.2.2.2]⟩
def kg (K:Ex→St→Option R) (q0:ae) (q1:Bool) (q2:Int):Option R:=K (.exit 3) ⟨U 9 (.str q0::U 2 (.bool q1 :: .int .u64 q2::U 158 ([]))), []⟩
def kh (K:Ex→St→Option R) (q0:Int) (q1:ae) (q2:Bool) (q3:Int):Option R:=K (.ret) ⟨U 6 (.int .u64 q0 :: .TA 250 .i64 2 :: .undef :: .str q1::U 2 (.bool q2 :: .int .u64 q3::U 158 ([]))), []⟩
def ki (K:Ex→St→Option R) (q0:Int) (q1:ae) (q2:Bool) (q3:Int):Option R:=K (.ret) ⟨U 6 (.int .u64 q0 :: .TA 250 .i64 1 :: .undef :: .str q1::U 2 (.bool q2 :: .int .u64 q3::U 158 ([]))), []⟩
def kj (K:Ex→St→Option R) (q0:Int) (q1:ae) (q2:Bool):Option R:=K (.ret) ⟨U 6 (.int .u64 q0 :: .TA 250 .i64 1 :: .undef :: .str q1::U 2 (.bool q2::U 159 ([]))), []⟩
abbrev fx:List cU := .leaf (.undef) :: .leaf (.int .i64)::PU 6 (.leaf (.bool) :: .leaf (.str) :: .leaf (.int .u64) :: .leaf (.int .u64) :: .leaf (.bool) :: .leaf (.int .u64)::PU 85 (.leaf (.row 0) :: .leaf (.int .i64) :: .leaf (.int .i64)::PU 70 ([])))
abbrev fy:List aU := [.row (.int .u8)]
def qi (x:cU.bT fx) (y:aU.bT fy):Nat:=(Int.natAbs x.2.1+List.length ((t8 x).2.1)+Int.natAbs ((t8 x).2.2.1)+Int.natAbs ((t8 x).2.2.2.1)+Int.natAbs ((t8 x).2.2.2.2.2.1)+Int.natAbs ((t8 (t8 (t8 (t8 (t8 (t8 (t8 (t8 (t8 (t8 (t8 (t8 x)))))))))))).2.2.2.2.1)+Int.natAbs ((t8 (t8 (t8 (t8 (t8 (t8 (t8 (t8 (t8 (t8 (t8 (t8 x)))))))))))).2.2.2.2.2.1)+List.length y.1+64)
def CQ (x:cU.bT fx) (y:aU.bT fy):ew:=(x.2.1,(t8 x).1,(t8 x).2.1,(t8 x).2.2.1,(t8 x).2.2.2.1,(t8 x).2.2.2.2.1,(t8 x).2.2.2.2.2.1,(t8 (t8 (t8 (t8 (t8 (t8 (t8 (t8 (t8 (t8 (t8 (t8 x)))))))))))).2.2.2.1,(t8 (t8 (t8 (t8 (t8 (t8 (t8 (t8 (t8 (t8 (t8 (t8 x)))))))))))).2.2.2.2.1,(t8 (t8 (t8 (t8 (t8 (t8 (t8 (t8 (t8 (t8 (t8 (t8 x)))))))))))).2.2.2.2.2.1,y.1)
def pA (L:kf R):xp R fx fy:=fun x y K=>L (qi x y) x.2.1 ((t8 x).1) ((t8 x).2.1) ((t8 x).2.2.1) ((t8 x).2.2.2.1) ((t8 x).2.2.2.2.1) ((t8 x).2.2.2.2.2.1) ((t8 (t8 (t8 (t8 (t8 (t8 (t8 (t8 (t8 (t8 (t8 (t8 x)))))))))))).2.2.2.1) ((t8 (t8 (t8 (t8 (t8 (t8 (t8 (t8 (t8 (t8 (t8 (t8 x)))))))))))).2.2.2.2.1) ((t8 (t8 (t8 (t8 (t8 (t8 (t8 (t8 (t8 (t8 (t8 (t8 x)))))))))))).2.2.2.2.2.1) y.1 (kg K) (kh K) (ki K) (kj K)
section
variable (internal_strconv_lower:jD R) (bI:iA R) (aJ:kf R)
def fF:List (oo R) := [(259,true,(r6 internal_strconv_lower av)),(260,true,(sL bI av))]
def dD (dJ:Int→Bool→ae→Int→Int→Bool→Int→Nat→Int→Int→(List Int)→Option R) (va:Int) (QT:Bool) (x22:ae) (x23:Int) (x24:Int) (SX:Bool) (x26:Int) (x27:Nat) (x28:Int) (x29:Int) (x30:List Int) (e0:ae→Bool→Int→Option R) (e1:Int→ae→Bool→Int→Option R) (e2:Int→ae→Bool→Int→Option R) (e3:Int→ae→Bool→Option R):Option R :=
 bif (decide (x29<x28))then (bX (decide ((0:Int)≤x29)&&decide (x29<x27)) (bX (decide (x29.toNat<x30.length)) (let j42:=fun (z40:Int)=>bif (decide (z40≥(IntKind.u8.wrap va)))then (e1 0 x22 SX x26)else (bif (decide (x26≥x23))then (e2 x24 x22 SX x26)else (bif (decide ((IntKind.u64.wrap ((IntKind.u64.wrap (x26*(IntKind.u64.wrap va)))+(IntKind.u64.wrap z40)))<(IntKind.u64.wrap (x26*(IntKind.u64.wrap va)))))then (e2 x24 x22 SX (IntKind.u64.wrap (x26*(IntKind.u64.wrap va))))else (bif (decide ((IntKind.u64.wrap ((IntKind.u64.wrap (x26*(IntKind.u64.wrap va)))+(IntKind.u64.wrap z40)))>x24))then (e2 x24 x22 SX (IntKind.u64.wrap (x26*(IntKind.u64.wrap va))))else (dJ va QT x22 x23 x24 SX (IntKind.u64.wrap ((IntKind.u64.wrap (x26*(IntKind.u64.wrap va)))+(IntKind.u64.wrap z40))) x27 x28 (IntKind.i64.wrap (x29+1)) x30)))); let j39:=fun (z31:Bool)=>bif z31 then (dJ va QT x22 x23 x24 true x26 x27 x28 (IntKind.i64.wrap (x29+1)) x30)else (let j38:=fun (z32:Bool)=>bif z32 then (j42 (IntKind.u8.wrap ((x30.getD x29.toNat (Ty.aR (.int .u8))) - 48)))else (internal_strconv_lower (x30.getD x29.toNat (Ty.aR (.int .u8))) (fun y33=>bif (decide ((97:Int)≤y33))then (internal_strconv_lower (x30.getD x29.toNat (Ty.aR (.int .u8))) (fun Sc=>bif (decide (Sc≤(122:Int)))then (internal_strconv_lower (x30.getD x29.toNat (Ty.aR (.int .u8))) (fun y37=>j42 (IntKind.u8.wrap ((IntKind.u8.wrap (y37 - 97))+10))))else (e1 0 x22 SX x26)))else (e1 0 x22 SX x26))); bif (decide ((48:Int)≤(x30.getD x29.toNat (Ty.aR (.int .u8)))))then (j38 (decide ((x30.getD x29.toNat (Ty.aR (.int .u8)))≤(57:Int))))else (j38 false)); bif ((x30.getD x29.toNat (Ty.aR (.int .u8)))==95)then (j39 QT)else (j39 false))))else (e0 x22 SX x26)
def qj (K:Ex→St→Option R) (rc:ew→Option R) (d:ew):Option R:=dD internal_strconv_lower (fun z0 z1 z2 z3 z4 z5 z6 z7 z8 z9 T2=>rc (z0,z1,z2,z3,z4,z5,z6,z7,z8,z9,T2)) d.1 d.2.1 d.2.2.1 d.2.2.2.1 d.2.2.2.2.1 d.2.2.2.2.2.1 d.2.2.2.2.2.2.1 d.2.2.2.2.2.2.2.1 d.2.2.2.2.2.2.2.2.1 d.2.2.2.2.2.2.2.2.2.1 d.2.2.2.2.2.2.2.2.2.2 (kg K) (kh K) (ki K) (kj K)
def hQ:Nat→Option (Hint×cQ R):=fun i=>match i with
 | 36=>some (ic,(cM fx fy (pA aJ) iK))
 | _=>none
theorem zW (K:Ex→St→Option R) (rc:St→Option R) (d:ew):roundOf tt (cT (fF internal_strconv_lower bI)) (hQ aJ) 0 ((az (aX Tryz.f249)).getD 0 .skip) ic (jU d) rc K=qj internal_strconv_lower K (fun d=>rc (jU d)) d:=by kernel_rfl
def j4 (x1:ae) (x2:Int) (x3:Int) (k0:Int→Option R) (k1:Int→Option R) (k2:Int→Option R) (k3:Int→Option R) (k4:Int→Option R):Option R :=
 bif (x1==([]:ae))then (k0 0)else (let j63:=fun (z15:ae) (z16:Int)=>let j62:=fun (z18:Int)=>let j61:=fun (z19:Int)=>bX (decide ((0:Int)≤(IntKind.u64.wrap z18))) (aJ (Int.natAbs z16+List.length x1+Int.natAbs z19+Int.natAbs (IntKind.u64.wrap ((IntKind.u64.wrap (1*2 ^ (min ((IntKind.u64.wrap z18).toNat) IntKind.u64.bits))) - 1))+Int.natAbs 0+Int.natAbs (z15.length:Int)+Int.natAbs 0+List.length (hJ z15)+64) z16 (x2==0) x1 z19 (IntKind.u64.wrap ((IntKind.u64.wrap (1*2 ^ (min ((IntKind.u64.wrap z18).toNat) IntKind.u64.bits))) - 1)) false 0 z15.length (z15.length:Int) 0 (hJ z15) (fun y45 y46 y47=>bif y46 then (bI y45 (fun y59=>bif (!y59)then (k0 0)else (k4 y47)))else (k4 y47)) (fun y48 y49 y50 y51=>k0 y48) (fun y52 y53 y54 y55=>k3 y52) (fun y56 y57 y58=>k3 y56)); bif (z16==10)then (j61 1844674407370955162)else (bif (z16==16)then (j61 1152921504606846976)else (bX (!decide ((IntKind.u64.wrap z16)=0)) (j61 (IntKind.u64.wrap ((IntKind.u64.wrap (Int.tdiv 18446744073709551615 (IntKind.u64.wrap z16)))+1))))); bif (x3==0)then (j62 64)else (bif (decide (x3<(0:Int)))then (k2 0)else (bif (decide (x3>(64:Int)))then (k2 0)else (j62 x3))); let j14:=fun (z4:Bool)=>bif z4 then (j63 x1 x2)else (bif (x2==0)then (bX (decide ((0:Int)<x1.length)) (bif (((x1.getD 0 0).toNat:Int)==48)then (let j13:=fun (z6:Bool)=>bif z6 then (bX (decide ((0:Int)≤(x1.length:Int))&&decide ((x1.length:Int)≤x1.length)) (bX (decide ((2:Int)≤(x1.length:Int))) (j63 ((x1.drop 2).take ((x1.length:Int).toNat - 2)) 2)))else (let j12:=fun (z8:Bool)=>bif z8 then (bX (decide ((0:Int)≤(x1.length:Int))&&decide ((x1.length:Int)≤x1.length)) (bX (decide ((2:Int)≤(x1.length:Int))) (j63 ((x1.drop 2).take ((x1.length:Int).toNat - 2)) 8)))else (let j11:=fun (T2:Bool)=>bif T2 then (bX (decide ((0:Int)≤(x1.length:Int))&&decide ((x1.length:Int)≤x1.length)) (bX (decide ((2:Int)≤(x1.length:Int))) (j63 ((x1.drop 2).take ((x1.length:Int).toNat - 2)) 16)))else (bX (decide ((0:Int)≤(x1.length:Int))&&decide ((x1.length:Int)≤x1.length)) (bX (decide ((1:Int)≤(x1.length:Int))) (j63 ((x1.drop 1).take ((x1.length:Int).toNat - 1)) 8))); bif (decide ((x1.length:Int)≥(3:Int)))then (bX (decide ((1:Int)<x1.length)) (internal_strconv_lower ((x1.getD 1 0).toNat:Int) (fun y9=>j11 (y9==120))))else (j11 false)); bif (decide ((x1.length:Int)≥(3:Int)))then (bX (decide ((1:Int)<x1.length)) (internal_strconv_lower ((x1.getD 1 0).toNat:Int) (fun y7=>j12 (y7==111))))else (j12 false)); bif (decide ((x1.length:Int)≥(3:Int)))then (bX (decide ((1:Int)<x1.length)) (internal_strconv_lower ((x1.getD 1 0).toNat:Int) (fun y5=>j13 (y5==98))))else (j13 false))else (j63 x1 10)))else (k1 0)); bif (decide ((2:Int)≤x2))then (j14 (decide (x2≤(36:Int))))else (j14 false))
theorem Gh:dO (R:=R) tt (fF internal_strconv_lower bI) (hQ aJ) false Tryz.f249 nP nQ (uV (j4 internal_strconv_lower bI aJ)):=fun x y k=>by kernel_rfl
end
theorem Fl:cE (R:=R) Tryz.prog (fF (R:=R) internal_strconv_lower bI) := .c (xa R) <| .c (BQ R) <| .n
def aJ:kf R
 | 0,_,_,_,_,_,_,_,_,_,_,_,_,_,_,_=>none
 | n+1,gf,gk,gw,mA,wC,xH,EC,Gc,JK,JL,qm,e0,e1,e2,e3=>dD internal_strconv_lower (fun gf gk gw mA wC xH EC Gc JK JL qm=>aJ n gf gk gw mA wC xH EC Gc JK JL qm e0 e1 e2 e3) gf gk gw mA wC xH EC Gc JK JL qm e0 e1 e2 e3
def qk (K:Ex→St→Option R) (n:Nat) (d:ew):Option R:=aJ n d.1 d.2.1 d.2.2.1 d.2.2.2.1 d.2.2.2.2.1 d.2.2.2.2.2.1 d.2.2.2.2.2.2.1 d.2.2.2.2.2.2.2.1 d.2.2.2.2.2.2.2.2.1 d.2.2.2.2.2.2.2.2.2.1 d.2.2.2.2.2.2.2.2.2.2 (kg K) (kh K) (ki K) (kj K)
theorem BR (other:cQ R) (ho:hG tt (cT (fF (R:=R) internal_strconv_lower bI)) (hQ (R:=R) aJ) 0 ((az (aX Tryz.f249)).getD 0 .skip) ic other):hG tt (cT (fF (R:=R) internal_strconv_lower bI)) (hQ (R:=R) aJ) 0 ((az (aX Tryz.f249)).getD 0 .skip) ic (cM fx fy (pA (aJ)) other) :=
 cS (A:=qk) ho (dX jU (qj internal_strconv_lower) (qk) (fun _ _=>by kernel_rfl) (zW internal_strconv_lower bI aJ) (fun _ _ _=>by kernel_rfl)) qi CQ (fun _ _=>by kernel_rfl) (fun _ _ _=>by kernel_rfl)
def dq:jI R:=fun x1 x2 x3 k0 k1 k2 k3 k4=>j4 internal_strconv_lower bI aJ x1 x2 x3 k0 k1 k2 k3 k4
theorem Dn (R:Type):∀a∈az (aX Tryz.f249),gN tt (cT (fF (R:=R) internal_strconv_lower bI)) (hQ (R:=R) aJ) 0 a:=by
 refine fb 1 (by kernel_rfl) fun i hi => ?_
 match i,hi with
 | 0,_=>exact cA (by kernel_rfl) (BR _ dy)
 | n+1,hi=>omega
theorem EG (R:Type):kM Tryz.prog 249 (vS (dq (R:=R))):=br TT mixed (Fl (R:=R)) rfl rfl rfl rfl (Dn R) (Gh internal_strconv_lower bI aJ)
abbrev rA (R:Type):Type:=ae→Int→Int→(Int→Option R)→(Int→Option R)→Option R
abbrev zX:List cU := [.leaf (.str), .leaf (.int .i64), .leaf (.int .i64)]
abbrev zY:List aU := []
def Gi (fn:rA R):lC R zX zY:=fun x y k=>fn x.1 x.2.1 x.2.2.1 (fun q0=>k (.tuple [.int .u64 q0, .iface]) []) (fun q0=>k (.tuple [.int .u64 q0, .dK]) [])
def Ht (fn:rA R):=aG zX zY (Gi fn)
section
variable (dq:jI R)
def Hu:List (oo R) := [(219,true,(toErr_S R 250)),(249,true,(vS dq av))]
def sY (x1:ae) (x2:Int) (x3:Int) (k0:Int→Option R) (k1:Int→Option R):Option R :=
 dq x1 x2 x3 (fun y4=>bX (Nat.beq 250 250&&(2==2||2==1)) (bX (decide (x1.length≤281474976710656)) (k0 y4))) (fun y5=>bX (Nat.beq 250 250&&(3==2||3==1)) (bX (decide (x1.length≤281474976710656)) (k0 y5))) (fun y6=>bX (Nat.beq 250 250&&(4==2||4==1)) (bX (decide (x1.length≤281474976710656)) (k0 y6))) (fun y7=>bX (Nat.beq 250 250&&(1==2||1==1)) (bX (decide (x1.length≤281474976710656)) (k0 y7))) (fun y8=>k1 y8)
theorem QU:dO (R:=R) tt (Hu dq) sS false Tryz.f252 zX zY (Gi (sY dq)):=fun x y k=>by kernel_rfl
end
theorem PJ:cE (R:=R) Tryz.prog (Hu (R:=R) dq) := .p (toErr_ok) <| .c (EG R) <| .n
def fM:rA R:=fun x1 x2 x3 k0 k1=>sY dq x1 x2 x3 k0 k1
theorem NV (R:Type):kM Tryz.prog 252 (Ht (fM (R:=R))):=br TT mixed (PJ (R:=R)) rfl rfl rfl rfl cq (QU dq)
abbrev lR (R:Type):Type:=ae→(Int→ae→Option R)→Option R
abbrev r7:List cU := [.leaf (.ptr 0 0)]
abbrev r8:List aU := [.cells [.str]]
def zg (fn:lR R):lC R r7 r8:=fun x y k=>fn y.1.1 (fun q0 q1=>k (.int .i32 q0) [.cells [.str q1]])
def AM (fn:lR R):=aG r7 r8 (zg fn)
section
variable (fM:rA R)
def AN:List (oo R) := [(252,true,(Ht fM av)),(253,true,(hasAny_S R))]
def mE (x1:ae) (k0:Int→ae→Option R):Option R :=
 bif (decide ((x1.length:Int)<(4:Int)))then (k0 (-1) x1)else (bX (decide ((4:Int)≤x1.length)) (fM ((x1.drop 0).take (4 - 0)) 16 16 (fun y2=>k0 (-1) x1) (fun y3=>bX (xF ((x1.drop 0).take (4 - 0))&&xF ([43,45,95]:ae)&&decide (((x1.drop 0).take (4 - 0)).length<4294967281)&&decide (([43,45,95]:ae).length<4294967281)) (bif (hasAny ((x1.drop 0).take (4 - 0)) ([43,45,95]:ae))then (k0 (-1) x1)else (bX (decide ((0:Int)≤(x1.length:Int))&&decide ((x1.length:Int)≤x1.length)) (bX (decide ((4:Int)≤(x1.length:Int))) (k0 (IntKind.i32.wrap y3) ((x1.drop 4).take ((x1.length:Int).toNat - 4)))))))))
theorem JR:dO (R:=R) tt (AN fM) sS false Tryz.f242 r7 r8 (zg (mE fM)):=fun x y k=>by kernel_rfl
end
theorem IZ:cE (R:=R) Tryz.prog (AN (R:=R) fM) := .c (NV R) <| .p (hasAny_ok) <| .n
def dt:lR R:=fun x1 k0=>mE fM x1 k0
theorem HS (R:Type):kM Tryz.prog 242 (AM (dt (R:=R))):=br TT mixed (IZ (R:=R)) rfl rfl rfl rfl cq (JR fM)
abbrev lS (R:Type):Type:=ae→(Int→ae→Option R)→Option R
abbrev r9:List cU := [.leaf (.ptr 0 0)]
abbrev sa:List aU := [.cells [.str]]
def zh (fn:lS R):lC R r9 sa:=fun x y k=>fn y.1.1 (fun q0 q1=>k (.int .i32 q0) [.cells [.str q1]])
def AO (fn:lS R):=aG r9 sa (zh fn)
section
variable (aL:jC R) (dt:lR R)
def AP:List (oo R) := [(195,false,(rY aL av)),(242,false,(AM dt av))]
def mF (x1:ae) (k0:Int→ae→Option R):Option R :=
 dt x1 (fun y2 y3=>bif (decide (y2<(55296:Int)))then (k0 y2 y3)else (bif (decide (y2≥(57344:Int)))then (k0 y2 y3)else (bif (decide (y2≥(56320:Int)))then (k0 (-1) y3)else (aL ([92,117]:ae) y3 (fun y5 y6=>bif (!y5)then (k0 (-1) y6)else (dt y6 (fun y9 p9=>bif (decide (y9<(56320:Int)))then (k0 (-1) p9)else (bif (decide (y9≥(57344:Int)))then (k0 (-1) p9)else (k0 (IntKind.i32.wrap ((IntKind.i32.wrap ((IntKind.i32.wrap (65536+(IntKind.i32.wrap ((IntKind.i32.wrap (y2 - 55296))*2 ^ (min 10 IntKind.i32.bits)))))+y9)) - 56320)) p9)))))))))
theorem JS:dO (R:=R) tt (AP aL dt) sS false Tryz.f221 r9 sa (zh (mF aL dt)):=fun x y k=>by kernel_rfl
end
theorem I0:cE (R:=R) Tryz.prog (AP (R:=R) aL dt) := .d (w9 R) rfl <| .d (HS R) rfl <| .n
def de:lS R:=fun x1 k0=>mF aL dt x1 k0
theorem HT (R:Type):kM Tryz.prog 221 (AO (de (R:=R))):=br TT mixed (I0 (R:=R)) rfl rfl rfl rfl cq (JS aL dt)
abbrev j7 (R:Type):Type:=ae→(Int→ae→Option R)→Option R
abbrev oF:List cU := [.leaf (.ptr 0 0)]
abbrev oG:List aU := [.cells [.str]]
def vT (fn:j7 R):lC R oF oG:=fun x y k=>fn y.1.1 (fun q0 q1=>k (.int .i32 q0) [.cells [.str q1]])
def xb (fn:j7 R):=aG oF oG (vT fn)
section
variable (de:lS R)
def xc:List (oo R) := [(221,false,(AO de av))]
def kz (x1:ae) (k0:Int→ae→Option R):Option R :=
 bif (x1==([]:ae))then (k0 (-1) x1)else (bX (decide ((0:Int)<x1.length)) (bX (decide ((0:Int)≤(x1.length:Int))&&decide ((x1.length:Int)≤x1.length)) (bX (decide ((1:Int)≤(x1.length:Int))) (let j5:=fun (z2:Bool)=>bif z2 then (k0 (IntKind.i32.wrap ((x1.getD 0 0).toNat:Int)) ((x1.drop 1).take ((x1.length:Int).toNat - 1)))else (bif (((x1.getD 0 0).toNat:Int)==98)then (k0 8 ((x1.drop 1).take ((x1.length:Int).toNat - 1)))else (bif (((x1.getD 0 0).toNat:Int)==102)then (k0 12 ((x1.drop 1).take ((x1.length:Int).toNat - 1)))else (bif (((x1.getD 0 0).toNat:Int)==110)then (k0 10 ((x1.drop 1).take ((x1.length:Int).toNat - 1)))else (bif (((x1.getD 0 0).toNat:Int)==114)then (k0 13 ((x1.drop 1).take ((x1.length:Int).toNat - 1)))else (bif (((x1.getD 0 0).toNat:Int)==116)then (k0 9 ((x1.drop 1).take ((x1.length:Int).toNat - 1)))else (bif (((x1.getD 0 0).toNat:Int)==117)then (de ((x1.drop 1).take ((x1.length:Int).toNat - 1)) (fun y3 y4=>k0 y3 y4))else (k0 (-1) ((x1.drop 1).take ((x1.length:Int).toNat - 1))))))))); bif (((x1.getD 0 0).toNat:Int)==34)then (j5 (((x1.getD 0 0).toNat:Int)==34))else (bif (((x1.getD 0 0).toNat:Int)==92)then (j5 (((x1.getD 0 0).toNat:Int)==92))else (j5 (((x1.getD 0 0).toNat:Int)==47)))))))
theorem G5:dO (R:=R) tt (xc de) sS false Tryz.f197 oF oG (vT (kz de)):=fun x y k=>by kernel_rfl
end
theorem Gj:cE (R:=R) Tryz.prog (xc (R:=R) de) := .d (HT R) rfl <| .n
def bq:j7 R:=fun x1 k0=>kz de x1 k0
theorem Fo (R:Type):kM Tryz.prog 197 (xb (bq (R:=R))):=br TT mixed (Gj (R:=R)) rfl rfl rfl rfl cq (G5 de)
abbrev ll (R:Type):Type:=ae→(Int→ae→Option R)→Option R
abbrev qo:List cU := [.leaf (.ptr 0 0)]
abbrev qp:List aU := [.cells [.str]]
def xT (fn:ll R):lC R qo qp:=fun x y k=>fn y.1.1 (fun q0 q1=>k (.int .i32 q0) [.cells [.str q1]])
def zi (fn:ll R):=aG qo qp (xT fn)
section
def zj:List (oo R) := [(184,true,(dec_S R))]
def lT (x1:ae) (k0:Int→ae→Option R):Option R :=
 let j3:=bX (decide ((0:Int)≤(x1.length:Int))&&decide ((x1.length:Int)≤x1.length)) (bX (decide ((0:Int)≤((pQ x1).2:Int))&&decide (((pQ x1).2:Int)≤(x1.length:Int))) (k0 ((pQ x1).1:Int) ((x1.drop ((pQ x1).2:Int).toNat).take ((x1.length:Int).toNat - ((pQ x1).2:Int).toNat)))); bif (((pQ x1).1:Int)==65533)then (bif (decide (((pQ x1).2:Int)<(2:Int)))then (k0 (-1) x1)else (bif (decide (((pQ x1).1:Int)<(32:Int)))then (k0 (-1) x1)else (j3)))else (bif (decide (((pQ x1).1:Int)<(32:Int)))then (k0 (-1) x1)else (j3))
theorem I1:dO (R:=R) tt (zj (R:=R)) sS false Tryz.f196 qo qp (xT lT):=fun x y k=>by kernel_rfl
end
theorem HU:cE (R:=R) Tryz.prog (zj (R:=R)) := .p (dec_ok) <| .n
def bU:ll R:=fun x1 k0=>lT x1 k0
theorem G6 (R:Type):kM Tryz.prog 196 (zi (bU (R:=R))):=br TT mixed (HU (R:=R)) rfl rfl rfl rfl cq (I1)
variable {R:Type}
abbrev yH (R:Type):Type:=ae→(ae→Int→Bool→Option R)→Option R
abbrev G7:List cU := [.leaf (.str)]
abbrev G8:List aU := []
def Ml (fn:yH R):lC R G7 G8:=fun x y k=>fn x.1 (fun q0 q1 q2=>k (.tuple [.str q0, .int .i64 q1, .bool q2]) [])
def Pk (fn:yH R):=aG G7 G8 (Ml fn)
abbrev xU (R:Type):Type:=Nat→ae→ae→(List Int)→(ae→ae→(List Int)→Option R)→(ae→ae→Int→Bool→ae→(List Int)→Option R)→Option R
def sZ:Hint := { live := [0,5,6],own := [],rows := [],cells := [(1,1,(.int .u8),false)],drop := [],out := [0,2,3,4,5,6] }
abbrev lD:Type:=ae×ae×(List Int)
def wG:lD→St:=fun d=>⟨.str d.1::U 4 (.ptr 0 0 :: .ptr 1 0::U 32 ([])), [.cells [.str d.2.1], .mZ (.sl (.int .u8) d.2.2 (.own 2)), .tok]⟩
def xV (K:Ex→St→Option R) (q0:ae) (q1:ae) (q2:List Int):Option R:=K (.exit 0) ⟨.str q0::U 4 (.ptr 0 0 :: .ptr 1 0::U 32 ([])), [.cells [.str q1], .mZ (.sl (.int .u8) q2 (.own 2)), .tok]⟩
def xW (K:Ex→St→Option R) (q0:ae) (q1:ae) (q2:Int) (q3:Bool) (q4:ae) (q5:List Int):Option R:=K (.ret) ⟨.str q0 :: .undef :: .str q1 :: .int .i64 q2 :: .bool q3 :: .ptr 0 0 :: .ptr 1 0::U 32 ([]), [.cells [.str q4], .mZ (.sl (.int .u8) q5 (.own 2)), .tok]⟩
abbrev oh:List cU := .leaf (.str)::PU 4 (.leaf (.ptr 0 0) :: .leaf (.ptr 1 0)::PU 32 ([]))
abbrev oi:List aU := [.cells [.str], .mZ (.TW (.int .u8) 2), .tok]
def Hv (x:cU.bT oh) (y:aU.bT oi):Nat:=(List.length x.1+List.length y.1.1+List.length y.2.1+64)
def SA (x:cU.bT oh) (y:aU.bT oi):lD:=(x.1,y.1.1,y.2.1)
def Gk (L:xU R):xp R oh oi:=fun x y K=>L (Hv x y) x.1 y.1.1 y.2.1 (xV K) (xW K)
section
variable (ak:fw R) (aL:jC R) (bU:ll R) (bq:j7 R) (bw:xU R)
def qy:List (oo R) := [(170,false,(k8 ak av)),(84,false,(NG R)),(195,false,(rY aL av)),(196,false,(zi bU av)),(197,false,(xb bq av))]
def s5 (dJ:ae→ae→(List Int)→Option R) (x4:ae) (x5:ae) (x6:List Int) (e0:ae→ae→(List Int)→Option R) (e1:ae→ae→Int→Bool→ae→(List Int)→Option R):Option R :=
 aL ([34]:ae) x5 (fun y7 y8=>bif (!y7)then (aL ([92]:ae) y8 (fun y9 p9=>bif y9 then (bq p9 (fun n0 yp=>bif (decide (n0<(0:Int)))then (e1 x4 ([]:ae) 0 false yp x6)else (ak n0 x6 (fun Im IT=>dJ x4 yp IT))))else (bU p9 (fun JG Hm=>bif (decide (JG<(0:Int)))then (e1 x4 ([]:ae) 0 false Hm x6)else (ak JG x6 (fun Ql NH=>dJ x4 Hm NH))))))else (e0 x4 y8 x6))
def Hw (K:Ex→St→Option R) (rc:lD→Option R) (d:lD):Option R:=s5 ak aL bU bq (fun z0 z1 z2=>rc (z0,z1,z2)) d.1 d.2.1 d.2.2 (xV K) (xW K)
def vU:Nat→Option (Hint×cQ R):=fun i=>match i with
 | 5=>some (sZ,(cM oh oi (Gk bw) iK))
 | _=>none
theorem NW (K:Ex→St→Option R) (rc:St→Option R) (d:lD):roundOf tt (cT (qy ak aL bU bq)) (vU bw) 0 ((az (aX Tryz.f158)).getD 0 .skip) sZ (wG d) rc K=Hw ak aL bU bq K (fun d=>rc (wG d)) d:=by kernel_rfl
def Bh (x1:ae) (k0:ae→Int→Bool→Option R):Option R :=
 aL ([34]:ae) x1 (fun y2 y3=>bif (!y2)then (k0 ([]:ae) 0 false)else (bw (List.length x1+List.length y3+List.length ([]:List Int)+64) x1 y3 ([]:List Int) (fun U5 Sw Fe=>k0 (xq Fe) (IntKind.i64.wrap ((U5.length:Int) - (Sw.length:Int))) true) (fun y22 ZY VE JF Sz Fi=>k0 ZY VE JF)))
theorem XE:dO (R:=R) tt (qy ak aL bU bq) (vU bw) false Tryz.f158 G7 G8 (Ml (Bh aL bw)):=fun x y k=>by kernel_rfl
end
theorem V1:cE (R:=R) Tryz.prog (qy (R:=R) ak aL bU bq) := .d (oW R) rfl <| .s (ZX) Sa <| .d (w9 R) rfl <| .d (G6 R) rfl <| .d (Fo R) rfl <| .n
def bw:xU R
 | 0,_,_,_,_,_=>none
 | n+1,gf,gk,gw,e0,e1=>s5 ak aL bU bq (fun gf gk gw=>bw n gf gk gw e0 e1) gf gk gw e0 e1
def Hx (K:Ex→St→Option R) (n:Nat) (d:lD):Option R:=bw n d.1 d.2.1 d.2.2 (xV K) (xW K)
theorem QV (other:cQ R) (ho:hG tt (cT (qy (R:=R) ak aL bU bq)) (vU (R:=R) bw) 0 ((az (aX Tryz.f158)).getD 0 .skip) sZ other):hG tt (cT (qy (R:=R) ak aL bU bq)) (vU (R:=R) bw) 0 ((az (aX Tryz.f158)).getD 0 .skip) sZ (cM oh oi (Gk (bw)) other) :=
 cS (A:=Hx) ho (dX wG (Hw ak aL bU bq) (Hx) (fun _ _=>by kernel_rfl) (NW ak aL bU bq bw) (fun _ _ _=>by kernel_rfl)) Hv SA (fun _ _=>by kernel_rfl) (fun _ _ _=>by kernel_rfl)
def fR:yH R:=fun x1 k0=>Bh aL bw x1 k0
theorem SB (R:Type):∀a∈az (aX Tryz.f158),gN tt (cT (qy (R:=R) ak aL bU bq)) (vU (R:=R) bw) 0 a:=by
 refine fb 1 (by kernel_rfl) fun i hi => ?_
 match i,hi with
 | 0,_=>exact cA (by kernel_rfl) (QV _ dy)
 | n+1,hi=>omega
theorem Ua (R:Type):kM Tryz.prog 158 (Pk (fR (R:=R))):=br TT mixed (V1 (R:=R)) rfl rfl rfl rfl (SB R) (XE ak aL bU bq bw)
abbrev FW (R:Type):Type:=ae→(Token→Int→Option R)→Option R
abbrev NX:List cU := [.leaf (.str)]
abbrev NY:List aU := []
def Te (fn:FW R):lC R NX NY:=fun x y k=>fn x.1 (fun q0 q1=>k (.tuple [.agg [.int .i64 q0.kind, .str q0.text, .int .i64 q0.num.aq, .int .i64 q0.num.exp, .int .i64 q0.at_], .int .i64 q1]) [])
def V2 (fn:FW R):=aG NX NY (Te fn)
section
variable (fR:yH R) (ei:yF R) (cR:xR R)
def V3:List (oo R) := [(158,true,(Pk fR av)),(157,true,(Ph ei av)),(159,true,(idx_S R)),(118,true,(Lw cR av))]
def HV (x1:ae) (k0:Token→Int→Option R):Option R :=
 bX (decide ((0:Int)<x1.length)) (let j25:=cR x1 ([97,98,99,100,101,102,103,104,105,106,107,108,109,110,111,112,113,114,115,116,117,118,119,120,121,122]:ae) (fun Fe=>bif (Fe==([116,114,117,101]:ae))then (k0 (⟨4,Fe,⟨0,0⟩,0⟩:Token) (Fe.length:Int))else (bif (Fe==([102,97,108,115,101]:ae))then (k0 (⟨4,Fe,⟨0,0⟩,0⟩:Token) (Fe.length:Int))else (bif (!(Fe==([110,117,108,108]:ae)))then (k0 (⟨0,([]:ae),⟨0,0⟩,0⟩:Token) 0)else (k0 (⟨4,Fe,⟨0,0⟩,0⟩:Token) (Fe.length:Int))))); bif (((x1.getD 0 0).toNat:Int)==45)then (cR x1 ([48,49,50,51,52,53,54,55,56,57,43,45,46,101,69]:ae) (fun y6=>ei y6 (fun y7 y8=>bif (!y8)then (k0 (⟨0,([]:ae),⟨0,0⟩,0⟩:Token) 0)else (k0 (⟨3,y6,⟨y7.aq,y7.exp⟩,0⟩:Token) (y6.length:Int)))))else (bif (decide (((x1.getD 0 0).toNat:Int)≥(48:Int)))then (bif (decide (((x1.getD 0 0).toNat:Int)≤(57:Int)))then (cR x1 ([48,49,50,51,52,53,54,55,56,57,43,45,46,101,69]:ae) (fun y9=>ei y9 (fun p9 n0=>bif (!n0)then (k0 (⟨0,([]:ae),⟨0,0⟩,0⟩:Token) 0)else (k0 (⟨3,y9,⟨p9.aq,p9.exp⟩,0⟩:Token) (y9.length:Int)))))else (bif (((x1.getD 0 0).toNat:Int)==34)then (fR x1 (fun JG Hm Ql=>bif (!Ql)then (k0 (⟨0,([]:ae),⟨0,0⟩,0⟩:Token) 0)else (k0 (⟨2,JG,⟨0,0⟩,0⟩:Token) Hm)))else (bif (decide ((FP ([123,125,91,93,44,58]:ae) ((x1.getD 0 0).toNat:Int))≥(0:Int)))then (bX (decide ((1:Int)≤x1.length)) (k0 (⟨1,((x1.drop 0).take (1 - 0)),⟨0,0⟩,0⟩:Token) 1))else (j25))))else (bif (((x1.getD 0 0).toNat:Int)==34)then (fR x1 (fun NH U5 Sw=>bif (!Sw)then (k0 (⟨0,([]:ae),⟨0,0⟩,0⟩:Token) 0)else (k0 (⟨2,NH,⟨0,0⟩,0⟩:Token) U5)))else (bif (decide ((FP ([123,125,91,93,44,58]:ae) ((x1.getD 0 0).toNat:Int))≥(0:Int)))then (bX (decide ((1:Int)≤x1.length)) (k0 (⟨1,((x1.drop 0).take (1 - 0)),⟨0,0⟩,0⟩:Token) 1))else (j25)))))
theorem lexer_next_ok:dO (R:=R) tt (V3 fR ei cR) sS false Tryz.f119 NX NY (Te (HV fR ei cR)):=fun x y k=>by kernel_rfl
end
theorem lexer_next_EOk:cE (R:=R) Tryz.prog (V3 (R:=R) fR ei cR) := .c (Ua R) <| .c (T9 R) <| .p (idx_ok) <| .c (Mj R) <| .n
def ig:FW R:=fun x1 k0=>HV fR ei cR x1 k0
theorem Zg (R:Type):kM Tryz.prog 119 (V2 (ig (R:=R))):=br TT mixed (lexer_next_EOk (R:=R)) rfl rfl rfl rfl cq (lexer_next_ok fR ei cR)
abbrev FX (R:Type):Type:=ae→((List Token)→Int→Int→Option R)→Option R
abbrev NZ:List cU := [.leaf (.str)]
abbrev N0:List aU := []
def Tf (fn:FX R):lC R NZ N0:=fun x y k=>fn x.1 (fun q0 q1 q2=>k (.tuple [.sl .token q0 .no, .int .i64 q1, .int .i64 q2]) [])
def V4 (fn:FX R):=aG NZ N0 (Tf fn)
abbrev Dp (R:Type):Type:=Nat→ae→(List Token)→Int→((List Token)→Int→Int→Option R)→(Int→Int→Option R)→Option R
def yI:Hint := { live := [0,2,4],own := [(2, .token)],rows := [],cells := [],drop := [],out := [2,3,4] }
abbrev o3:Type:=ae×(List Token)×Int
def BS:o3→St:=fun d=>⟨.str d.1 :: .undef :: .sl .token d.2.1 (.own 0) :: .undef :: .int .i64 d.2.2::U 40 ([]), [.tok]⟩
def Dq (K:Ex→St→Option R) (q0:List Token) (q1:Int) (q2:Int):Option R:=K (.ret) ⟨U 2 (.sl .token q0 (.own 0) :: .int .i64 q1 :: .int .i64 q2::U 40 ([])), [.tok]⟩
def Dr (K:Ex→St→Option R) (q0:Int) (q1:Int):Option R:=K (.ret) ⟨U 2 (.bB :: .int .i64 q0 :: .int .i64 q1::U 40 ([])), []⟩
abbrev tA:List cU := .leaf (.str) :: .leaf (.undef) :: .leaf (.TW .token 0) :: .leaf (.undef) :: .leaf (.int .i64)::PU 40 ([])
abbrev tB:List aU := [.tok]
def Mm (x:cU.bT tA) (y:aU.bT tB):Nat:=(List.length x.1+List.length x.2.2.1+Int.natAbs x.2.2.2.2.1+64)
def XF (x:cU.bT tA) (y:aU.bT tB):o3:=(x.1,x.2.2.1,x.2.2.2.2.1)
def KB (L:Dp R):xp R tA tB:=fun x y K=>L (Mm x y) x.1 x.2.2.1 x.2.2.2.2.1 (Dq K) (Dr K)
section
variable (ig:FW R) (cR:xR R) (dk:Dp R)
def yJ:List (oo R) := [(119,true,(V2 ig av)),(118,true,(Lw cR av))]
def Fp (dJ:ae→(List Token)→Int→Option R) (x2:ae) (x3:List Token) (x4:Int) (e0:(List Token)→Int→Int→Option R) (e1:Int→Int→Option R):Option R :=
 bX (decide ((0:Int)≤(x2.length:Int))&&decide ((x2.length:Int)≤x2.length)) (bX (decide ((0:Int)≤x4)&&decide (x4≤(x2.length:Int))) (cR ((x2.drop x4.toNat).take ((x2.length:Int).toNat - x4.toNat)) ([32,9,10,13]:ae) (fun y5=>bif ((IntKind.i64.wrap (x4+(y5.length:Int)))==(x2.length:Int))then (bX (decide ((x3.length+1)*48≤140737488355328)) (e0 (x3++([(⟨5,([]:ae),⟨0,0⟩,(IntKind.i64.wrap (x4+(y5.length:Int)))⟩:Token)]:List Token)) 0 0))else (bX (decide ((0:Int)≤(x2.length:Int))&&decide ((x2.length:Int)≤x2.length)) (bX (decide ((0:Int)≤(IntKind.i64.wrap (x4+(y5.length:Int))))&&decide ((IntKind.i64.wrap (x4+(y5.length:Int)))≤(x2.length:Int))) (ig ((x2.drop (IntKind.i64.wrap (x4+(y5.length:Int))).toNat).take ((x2.length:Int).toNat - (IntKind.i64.wrap (x4+(y5.length:Int))).toNat)) (fun y6 y7=>bif (y7==0)then (e1 30 (IntKind.i64.wrap (x4+(y5.length:Int))))else (bX (decide ((x3.length+1)*48≤140737488355328)) (dJ x2 (x3++([(⟨y6.kind,y6.text,⟨y6.num.aq,y6.num.exp⟩,(IntKind.i64.wrap (x4+(y5.length:Int)))⟩:Token)]:List Token)) (IntKind.i64.wrap ((IntKind.i64.wrap (x4+(y5.length:Int)))+y7)))))))))))
def Mn (K:Ex→St→Option R) (rc:o3→Option R) (d:o3):Option R:=Fp ig cR (fun z0 z1 z2=>rc (z0,z1,z2)) d.1 d.2.1 d.2.2 (Dq K) (Dr K)
def Ds:Nat→Option (Hint×cQ R):=fun i=>match i with
 | 3=>some (yI,(cM tA tB (KB dk) iK))
 | _=>none
theorem SC (K:Ex→St→Option R) (rc:St→Option R) (d:o3):roundOf tt (cT (yJ ig cR)) (Ds dk) 0 ((az (aX Tryz.f79)).getD 0 .skip) yI (BS d) rc K=Mn ig cR K (fun d=>rc (BS d)) d:=by kernel_rfl
def HW (x1:ae) (k0:(List Token)→Int→Int→Option R):Option R :=
 bif (decide ((x1.length:Int)>(20000:Int)))then (k0 ([]:List Token) 30 0)else (dk (List.length x1+List.length ([]:List Token)+Int.natAbs 0+64) x1 ([]:List Token) 0 (fun y8 y9 p9=>k0 y8 y9 p9) (fun n0 yp=>k0 ([]:List Token) n0 yp))
theorem lexer_Scan_ok:dO (R:=R) tt (yJ ig cR) (Ds dk) false Tryz.f79 NZ N0 (Tf (HW dk)):=fun x y k=>by kernel_rfl
end
theorem lexer_Scan_EOk:cE (R:=R) Tryz.prog (yJ (R:=R) ig cR) := .c (Zg R) <| .c (Mj R) <| .n
def dk:Dp R
 | 0,_,_,_,_,_=>none
 | n+1,gf,gk,gw,e0,e1=>Fp ig cR (fun gf gk gw=>dk n gf gk gw e0 e1) gf gk gw e0 e1
def Mo (K:Ex→St→Option R) (n:Nat) (d:o3):Option R:=dk n d.1 d.2.1 d.2.2 (Dq K) (Dr K)
theorem V5 (other:cQ R) (ho:hG tt (cT (yJ (R:=R) ig cR)) (Ds (R:=R) dk) 0 ((az (aX Tryz.f79)).getD 0 .skip) yI other):hG tt (cT (yJ (R:=R) ig cR)) (Ds (R:=R) dk) 0 ((az (aX Tryz.f79)).getD 0 .skip) yI (cM tA tB (KB (dk)) other) :=
 cS (A:=Mo) ho (dX BS (Mn ig cR) (Mo) (fun _ _=>by kernel_rfl) (SC ig cR dk) (fun _ _ _=>by kernel_rfl)) Mm XF (fun _ _=>by kernel_rfl) (fun _ _ _=>by kernel_rfl)
def nR:FX R:=fun x1 k0=>HW dk x1 k0
theorem XG (R:Type):∀a∈az (aX Tryz.f79),gN tt (cT (yJ (R:=R) ig cR)) (Ds (R:=R) dk) 0 a:=by
 refine fb 1 (by kernel_rfl) fun i hi => ?_
 match i,hi with
 | 0,_=>exact cA (by kernel_rfl) (V5 _ dy)
 | n+1,hi=>omega
theorem Zh (R:Type):kM Tryz.prog 79 (V4 (nR (R:=R))):=br TT mixed (lexer_Scan_EOk (R:=R)) rfl rfl rfl rfl (XG R) (lexer_Scan_ok ig cR dk)
abbrev fS (R:Type):Type:=Int→(List Token)→Int→((List Token)→Int→Option R)→Option R
abbrev tC:List cU := [.leaf (.ptr 0 0), .leaf (.int .i64)]
abbrev tD:List aU := [.cells [.sl .token, .int .i64]]
def AQ (fn:fS R):lC R tC tD:=fun x y k=>fn x.2.1 y.1.1 y.1.2.1 (fun q0 q1=>k (.tuple []) [.cells [.sl .token q0 .no, .int .i64 q1]])
def kl (fn:fS R):=aG tC tD (AQ fn)
section
def Cc (x1:Int) (x2:List Token) (x3:Int) (k0:(List Token)→Int→Option R):Option R :=
 bif (x3==0)then (k0 x2 x1)else (k0 x2 x3)
theorem Lx:dO (R:=R) (tt.mode [.json]) [] sS false Tryz.f81 tC tD (AQ Cc):=fun x y k=>by kernel_rfl
end
def au:fS R:=fun x1 x2 x3 k0=>Cc x1 x2 x3 k0
theorem ln (R:Type):kM Tryz.prog 81 (kl (au (R:=R))):=br (TT.mode [.json]) mixed .n rfl rfl rfl rfl cq (Lx)
abbrev jV (R:Type):Type:=ae→(List Token)→Int→(Bool→(List Token)→Int→Option R)→Option R
abbrev tE:List cU := [.leaf (.ptr 0 0), .leaf (.str)]
abbrev tG:List aU := [.cells [.sl .token, .int .i64]]
def AR (fn:jV R):lC R tE tG:=fun x y k=>fn x.2.1 y.1.1 y.1.2.1 (fun q0 q1 q2=>k (.bool q0) [.cells [.sl .token q1 .no, .int .i64 q2]])
def tH (fn:jV R):=aG tE tG (AR fn)
section
def Cd (x1:ae) (x2:List Token) (x3:Int) (k0:Bool→(List Token)→Int→Option R):Option R :=
 bX (decide ((0:Int)<x2.length)) (bif (x3 != 0)then (k0 false x2 x3)else (bif ((x2.getD 0 (Ty.aR .token)).kind != 1)then (k0 false x2 x3)else (bif (!((x2.getD 0 (Ty.aR .token)).text==x1))then (k0 false x2 x3)else (bX (decide ((1:Int)≤x2.length)) (k0 true (x2.drop 1) x3)))))
theorem Ly:dO (R:=R) (tt.mode [.json]) [] sS false Tryz.f199 tE tG (AR Cd):=fun x y k=>by kernel_rfl
end
def ax:jV R:=fun x1 x2 x3 k0=>Cd x1 x2 x3 k0
theorem xX (R:Type):kM Tryz.prog 199 (tH (ax (R:=R))):=br (TT.mode [.json]) mixed .n rfl rfl rfl rfl cq (Ly)
abbrev mG (R:Type):Type:=(List ae)→(List Token)→Int→(ae→(List Token)→Int→Option R)→Option R
abbrev tI:List cU := [.leaf (.ptr 0 0), .leaf (.TW .str 1)]
abbrev tJ:List aU := [.cells [.sl .token, .int .i64], .tok]
def AS (fn:mG R):lC R tI tJ:=fun x y k=>fn x.2.1 y.1.1 y.1.2.1 (fun q0 q1 q2=>k (.str q0) [.cells [.sl .token q1 .no, .int .i64 q2], .tok])
def Ce (fn:mG R):=aG tI tJ (AS fn)
section
variable (au:fS R) (ax:jV R) (aC:gg R)
def Cf:List (oo R) := [(81,false,(kl au av)),(199,false,(tH ax av)),(85,true,(me aC av))]
def Cg (x1:List ae) (x2:List Token) (x3:Int) (k0:ae→(List Token)→Int→Option R):Option R :=
 bX (decide ((0:Int)<x2.length)) (bif ((x2.getD 0 (Ty.aR .token)).kind != 2)then (au 40 x2 x3 (fun y4 y5=>k0 ((x2.getD 0 (Ty.aR .token)).text) y4 y5))else (aC x1 ((x2.getD 0 (Ty.aR .token)).text) (fun y6=>bif y6 then (au 42 x2 x3 (fun y7 y8=>k0 ((x2.getD 0 (Ty.aR .token)).text) y7 y8))else (bX (decide ((1:Int)≤x2.length)) (ax ([58]:ae) (x2.drop 1) x3 (fun y9 p9 n0=>bif (!y9)then (au 40 p9 n0 (fun yp Im=>k0 ((x2.getD 0 (Ty.aR .token)).text) yp Im))else (k0 ((x2.getD 0 (Ty.aR .token)).text) p9 n0)))))))
theorem Lz:dO (R:=R) (tt.mode [.json]) (Cf au ax aC) sS false Tryz.f162 tI tJ (AS (Cg au ax aC)):=fun x y k=>by kernel_rfl
end
theorem JT:cE (R:=R) Tryz.prog (Cf (R:=R) au ax aC) := .d (ln R) rfl <| .d (xX R) rfl <| .c (pZ R) <| .n
def dm:mG R:=fun x1 x2 x3 k0=>Cg au ax aC x1 x2 x3 k0
theorem I2 (R:Type):kM Tryz.prog 162 (Ce (dm (R:=R))):=br (TT.mode [.json]) mixed (JT (R:=R)) rfl rfl rfl rfl cq (Lz au ax aC)
variable {R:Type}
abbrev aD (R:Type):Type:=Int→(List Token)→Int→(Json→(List Token)→Int→Option R)→Option R
abbrev ck:List cU := [.leaf (.ptr 0 0), .leaf (.int .i64)]
abbrev cm:List aU := [.cells [.sl .token, .int .i64]]
def bF (fn:aD R):lC R ck cm:=fun x y k=>fn x.2.1 y.1.1 y.1.2.1 (fun q0 q1 q2=>k (.agg [.int .i64 q0.kind, .int .i64 q0.num.aq, .int .i64 q0.num.exp, .str q0.text, .sl .str q0.names .no, .sl .json q0.items .no]) [.cells [.sl .token q1 .no, .int .i64 q2]])
def AT (fn:aD R):=aG ck cm (bF fn)
abbrev kA (R:Type):Type:=Bool→Int→Int→Int→ae→(List ae)→Nat→Int→(List Json)→(List Token)→Int→(Bool→Int→Int→Int→ae→(List ae)→Nat→Int→(List Token)→Int→(List Json)→Option R)→(Bool→Int→Int→Int→ae→(List ae)→Nat→Int→(List Json)→(List Token)→Int→Option R)→(Bool→Int→Int→Int→ae→(List ae)→Nat→Int→(List Token)→Int→(List Json)→Option R)→(Bool→Int→Int→Int→ae→(List ae)→Nat→Int→(List Json)→(List Token)→Int→Option R)→Option R
abbrev pB:List cU := [.leaf (.ptr 0 0), .leaf (.ptr 1 0), .leaf (.ptr 2 0), .leaf (.ptr 3 0)]
abbrev pC:List aU := [.cells [.bool], .cells [.int .i64, .int .i64, .int .i64, .str, .TW .str 4, .row 5], .cells [.ptr 6 0], .cells [.int .i64], .tok, .row .json, .cells [.sl .token, .int .i64]]
def xd (fn:kA R):lC R pB pC:=fun x y k=>fn y.1.1 y.2.1.1 y.2.1.2.1 y.2.1.2.2.1 y.2.1.2.2.2.1 y.2.1.2.2.2.2.1 y.2.1.2.2.2.2.2.1 y.2.2.2.1.1 y.2.2.2.2.2.1 y.2.2.2.2.2.2.1.1 y.2.2.2.2.2.2.1.2.1 (fun q0 q1 q2 q3 q4 q5 q6 q7 q8 q9 q10=>k (.tuple []) [.cells [.bool q0], .cells [.int .i64 q1, .int .i64 q2, .int .i64 q3, .str q4, .sl .str q5 (.own 7), .row 8 q6], .cells [.ptr 6 0], .cells [.int .i64 q7], .dead, .dead, .cells [.sl .token q8 .no, .int .i64 q9], .tok, .row .json q10]) (fun q0 q1 q2 q3 q4 q5 q6 q7 q8 q9 q10=>k (.tuple []) [.cells [.bool q0], .cells [.int .i64 q1, .int .i64 q2, .int .i64 q3, .str q4, .sl .str q5 (.own 7), .row 5 q6], .cells [.ptr 6 0], .cells [.int .i64 q7], .dead, .row .json q8, .cells [.sl .token q9 .no, .int .i64 q10], .tok]) (fun q0 q1 q2 q3 q4 q5 q6 q7 q8 q9 q10=>k (.tuple []) [.cells [.bool q0], .cells [.int .i64 q1, .int .i64 q2, .int .i64 q3, .str q4, .sl .str q5 (.own 4), .row 7 q6], .cells [.ptr 6 0], .cells [.int .i64 q7], .tok, .dead, .cells [.sl .token q8 .no, .int .i64 q9], .row .json q10]) (fun q0 q1 q2 q3 q4 q5 q6 q7 q8 q9 q10=>k (.tuple []) [.cells [.bool q0], .cells [.int .i64 q1, .int .i64 q2, .int .i64 q3, .str q4, .sl .str q5 (.own 4), .row 5 q6], .cells [.ptr 6 0], .cells [.int .i64 q7], .tok, .row .json q8, .cells [.sl .token q9 .no, .int .i64 q10]])
def xY (fn:kA R):=aG pB pC (xd fn)
section
variable (dm:mG R) (ah:aD R)
def xZ:List (oo R) := [(162,false,(Ce dm av)),(80,false,(aG ck cm (bF ah) av))]
def eE (x1:Bool) (x2:Int) (x3:Int) (x4:Int) (x5:ae) (x6:List ae) (x7:Nat) (x8:Int) (x9:List Json) (Xp:List Token) (PE:Int) (k0:Bool→Int→Int→Int→ae→(List ae)→Nat→Int→(List Token)→Int→(List Json)→Option R) (k1:Bool→Int→Int→Int→ae→(List ae)→Nat→Int→(List Json)→(List Token)→Int→Option R) (k2:Bool→Int→Int→Int→ae→(List ae)→Nat→Int→(List Token)→Int→(List Json)→Option R) (k3:Bool→Int→Int→Int→ae→(List ae)→Nat→Int→(List Json)→(List Token)→Int→Option R):Option R :=
 bif x1 then (dm x6 Xp PE (fun yp Im IT=>bX (decide ((x6.length+1)*16≤140737488355328)) (bif (IT==0)then (ah (IntKind.i64.wrap (x8+1)) Im IT (fun JG Hm Ql=>bX (decide ((x9.length+1)*88≤140737488355328)) (bX (decide ((0:Int)≤(x7:Int))&&decide ((x7:Int)<(x9.length+1))) (bX (decide ((x7:Int).toNat<(x9++([(⟨0,⟨0,0⟩,([]:ae),([]:List ae),([]:List Json)⟩:Json)]:List Json)).length)) (k0 x1 x2 x3 x4 x5 (x6++([yp]:List ae)) (x9.length+1) x8 Hm Ql ((x9++([(⟨0,⟨0,0⟩,([]:ae),([]:List ae),([]:List Json)⟩:Json)]:List Json)).set ((x7:Int).toNat) (⟨JG.kind,⟨JG.num.aq,JG.num.exp⟩,JG.text,JG.names,JG.items⟩:Json)))))))else (k1 x1 x2 x3 x4 x5 (x6++([yp]:List ae)) x7 x8 x9 Im IT))))else (bif (PE==0)then (ah (IntKind.i64.wrap (x8+1)) Xp PE (fun NH U5 Sw=>bX (decide ((x9.length+1)*88≤140737488355328)) (bX (decide ((0:Int)≤(x7:Int))&&decide ((x7:Int)<(x9.length+1))) (bX (decide ((x7:Int).toNat<(x9++([(⟨0,⟨0,0⟩,([]:ae),([]:List ae),([]:List Json)⟩:Json)]:List Json)).length)) (k2 x1 x2 x3 x4 x5 x6 (x9.length+1) x8 U5 Sw ((x9++([(⟨0,⟨0,0⟩,([]:ae),([]:List ae),([]:List Json)⟩:Json)]:List Json)).set ((x7:Int).toNat) (⟨NH.kind,⟨NH.num.aq,NH.num.exp⟩,NH.text,NH.names,NH.items⟩:Json)))))))else (k3 x1 x2 x3 x4 x5 x6 x7 x8 x9 Xp PE))
theorem HX:dO (R:=R) (tt.mode [.json]) (xZ dm ah) sS false Tryz.f161 pB pC (xd (eE dm ah)):=fun x y k=>by kernel_rfl
end
theorem G9 (ah:aD R) (bJ:aA.Spec.Ok Tryz.prog 80 (aG ck cm (bF ah) av)):cE (R:=R) Tryz.prog (xZ (R:=R) dm ah) := .d (I2 R) rfl <| .f bJ rfl <| .n
def bn (ah:aD R):kA R:=fun x1 x2 x3 x4 x5 x6 x7 x8 x9 Xp PE k0 k1 k2 k3=>eE dm ah x1 x2 x3 x4 x5 x6 x7 x8 x9 Xp PE k0 k1 k2 k3
theorem Gl (R:Type) (ah:aD R) (bJ:aA.Spec.Ok Tryz.prog 80 (aG ck cm (bF ah) av)):kM Tryz.prog 161 (xY (bn ah)):=br (TT.mode [.json]) mixed (G9 ah bJ) rfl rfl rfl rfl cq (HX dm ah)
abbrev mH (R:Type):Type:=ae→(List Token)→Int→Bool→Int→Int→Int→ae→Int→((List Token)→Int→Bool→Int→Int→Int→ae→Int→Option R)→((List Token)→Int→Bool→Int→Int→Int→ae→(List ae)→Nat→Int→(List Json)→Option R)→Option R
abbrev tK:List cU := [.leaf (.ptr 0 0), .leaf (.str), .func 161 [] [.ptr 1 0, .ptr 2 0, .ptr 3 0, .ptr 4 0]]
abbrev tM:List aU := [.cells [.sl .token, .int .i64], .cells [.bool], .cells [.int .i64, .int .i64, .int .i64, .str, .bB, .bB], .cells [.ptr 0 0], .cells [.int .i64]]
def AU (fn:mH R):lC R tK tM:=fun x y k=>fn x.2.1 y.1.1 y.1.2.1 y.2.1.1 y.2.2.1.1 y.2.2.1.2.1 y.2.2.1.2.2.1 y.2.2.1.2.2.2.1 y.2.2.2.2.1.1 (fun q0 q1 q2 q3 q4 q5 q6 q7=>k (.tuple []) [.cells [.sl .token q0 .no, .int .i64 q1], .cells [.bool q2], .cells [.int .i64 q3, .int .i64 q4, .int .i64 q5, .str q6, .bB, .bB], .cells [.ptr 0 0], .cells [.int .i64 q7]]) (fun q0 q1 q2 q3 q4 q5 q6 q7 q8 q9 q10=>k (.tuple []) [.cells [.sl .token q0 .no, .int .i64 q1], .cells [.bool q2], .cells [.int .i64 q3, .int .i64 q4, .int .i64 q5, .str q6, .sl .str q7 (.own 5), .row 6 q8], .cells [.ptr 0 0], .cells [.int .i64 q9], .tok, .row .json q10])
def Ch (fn:mH R):=aG tK tM (AU fn)
abbrev nS (R:Type):Type:=Nat→ae→(List Token)→Int→Bool→Int→Int→Int→ae→(List ae)→Nat→Int→(List Json)→((List Token)→Int→Bool→Int→Int→Int→ae→(List ae)→Nat→Int→(List Json)→Option R)→Option R
def kB:Hint := { live := [0,1,2],own := [],rows := [],cells := [(2,4, .str,false),(2,5, .json,true)],drop := [],out := [] }
abbrev fX:Type:=ae×(List Token)×Int×Bool×Int×Int×Int×ae×(List ae)×Nat×Int×(List Json)
def mV:fX→St:=fun d=>⟨.ptr 0 0 :: .str d.1 :: .func 161 [] [.ptr 1 0, .ptr 2 0, .ptr 3 0, .ptr 4 0]::U 23 ([]), [.cells [.sl .token d.2.1 .no, .int .i64 d.2.2.1], .cells [.bool d.2.2.2.1], .cells [.int .i64 d.2.2.2.2.1, .int .i64 d.2.2.2.2.2.1, .int .i64 d.2.2.2.2.2.2.1, .str d.2.2.2.2.2.2.2.1, .sl .str d.2.2.2.2.2.2.2.2.1 (.own 5), .row 6 d.2.2.2.2.2.2.2.2.2.1], .cells [.ptr 0 0], .cells [.int .i64 d.2.2.2.2.2.2.2.2.2.2.1], .tok, .row .json d.2.2.2.2.2.2.2.2.2.2.2]⟩
def nT (K:Ex→St→Option R) (q0:List Token) (q1:Int) (q2:Bool) (q3:Int) (q4:Int) (q5:Int) (q6:ae) (q7:List ae) (q8:Nat) (q9:Int) (q10:List Json):Option R:=K (.ret) ⟨U 26 ([]), [.cells [.sl .token q0 .no, .int .i64 q1], .cells [.bool q2], .cells [.int .i64 q3, .int .i64 q4, .int .i64 q5, .str q6, .sl .str q7 (.own 5), .row 6 q8], .cells [.ptr 0 0], .cells [.int .i64 q9], .tok, .row .json q10]⟩
abbrev iB:List cU := .leaf (.ptr 0 0) :: .leaf (.str) :: .func 161 [] [.ptr 1 0, .ptr 2 0, .ptr 3 0, .ptr 4 0]::PU 23 ([])
abbrev iC:List aU := [.cells [.sl .token, .int .i64], .cells [.bool], .cells [.int .i64, .int .i64, .int .i64, .str, .TW .str 5, .row 6], .cells [.ptr 0 0], .cells [.int .i64], .tok, .row .json]
def xe (x:cU.bT iB) (y:aU.bT iC):Nat:=(List.length x.2.1+List.length y.1.1+Int.natAbs y.1.2.1+Int.natAbs y.2.2.1.1+Int.natAbs y.2.2.1.2.1+Int.natAbs y.2.2.1.2.2.1+List.length y.2.2.1.2.2.2.1+List.length y.2.2.1.2.2.2.2.1+Int.natAbs y.2.2.2.2.1.1+List.length y.2.2.2.2.2.2.1+64)
def HY (x:cU.bT iB) (y:aU.bT iC):fX:=(x.2.1,y.1.1,y.1.2.1,y.2.1.1,y.2.2.1.1,y.2.2.1.2.1,y.2.2.1.2.2.1,y.2.2.1.2.2.2.1,y.2.2.1.2.2.2.2.1,y.2.2.1.2.2.2.2.2.1,y.2.2.2.2.1.1,y.2.2.2.2.2.2.1)
def vV (L:nS R):xp R iB iC:=fun x y K=>L (xe x y) x.2.1 y.1.1 y.1.2.1 y.2.1.1 y.2.2.1.1 y.2.2.1.2.1 y.2.2.1.2.2.1 y.2.2.1.2.2.2.1 y.2.2.1.2.2.2.2.1 y.2.2.1.2.2.2.2.2.1 y.2.2.2.2.1.1 y.2.2.2.2.2.2.1 (nT K)
section
variable (au:fS R) (bn:kA R) (ax:jV R) (aK:nS R)
def iL:List (oo R) := [(81,false,(kl au av)),(161,false,(xY bn av)),(199,false,(tH ax av))]
def oH (dJ:ae→(List Token)→Int→Bool→Int→Int→Int→ae→(List ae)→Nat→Int→(List Json)→Option R) (JJ:ae) (Kn:List Token) (ng:Int) (qM:Bool) (lF:Int) (oE:Int) (AV:Int) (va:ae) (QT:List ae) (x22:Nat) (x23:Int) (x24:List Json) (e0:(List Token)→Int→Bool→Int→Int→Int→ae→(List ae)→Nat→Int→(List Json)→Option R):Option R :=
 bn qM lF oE AV va QT x22 x23 x24 Kn ng (fun JF Sz Fi uR U6 W0 y31 V0 y33 Sc y35=>bif (Sc != 0)then (e0 y33 Sc JF Sz Fi uR U6 W0 y31 V0 y35)else (ax JJ y33 Sc (fun y69 y70 y71=>bif y69 then (e0 y70 y71 JF Sz Fi uR U6 W0 y31 V0 y35)else (ax ([44]:ae) y70 y71 (fun y75 y76 y77=>bif (!y75)then (au 40 y76 y77 (fun y78 y79=>e0 y78 y79 JF Sz Fi uR U6 W0 y31 V0 y35))else (dJ JJ y76 y77 JF Sz Fi uR U6 W0 y31 V0 y35)))))) (fun y36 y37 y38 Yq ZZ y41 y42 Z0 y44 y45 y46=>bif (y46 != 0)then (e0 y45 y46 y36 y37 y38 Yq ZZ y41 y42 Z0 y44)else (ax JJ y45 y46 (fun y80 y81 y82=>bif y80 then (e0 y81 y82 y36 y37 y38 Yq ZZ y41 y42 Z0 y44)else (ax ([44]:ae) y81 y82 (fun y86 y87 y88=>bif (!y86)then (au 40 y87 y88 (fun y89 y90=>e0 y89 y90 y36 y37 y38 Yq ZZ y41 y42 Z0 y44))else (dJ JJ y87 y88 y36 y37 y38 Yq ZZ y41 y42 Z0 y44)))))) (fun y47 y48 y49 y50 y51 y52 y53 y54 y55 y56 y57=>bif (y56 != 0)then (e0 y55 y56 y47 y48 y49 y50 y51 y52 y53 y54 y57)else (ax JJ y55 y56 (fun y91 y92 y93=>bif y91 then (e0 y92 y93 y47 y48 y49 y50 y51 y52 y53 y54 y57)else (ax ([44]:ae) y92 y93 (fun y97 y98 y99=>bif (!y97)then (au 40 y98 y99 (fun y100 y101=>e0 y100 y101 y47 y48 y49 y50 y51 y52 y53 y54 y57))else (dJ JJ y98 y99 y47 y48 y49 y50 y51 y52 y53 y54 y57)))))) (fun y58 y59 y60 y61 y62 y63 y64 y65 y66 y67 y68=>bif (y68 != 0)then (e0 y67 y68 y58 y59 y60 y61 y62 y63 y64 y65 y66)else (ax JJ y67 y68 (fun y102 y103 y104=>bif y102 then (e0 y103 y104 y58 y59 y60 y61 y62 y63 y64 y65 y66)else (ax ([44]:ae) y103 y104 (fun y108 y109 y110=>bif (!y108)then (au 40 y109 y110 (fun y111 y112=>e0 y111 y112 y58 y59 y60 y61 y62 y63 y64 y65 y66))else (dJ JJ y109 y110 y58 y59 y60 y61 y62 y63 y64 y65 y66))))))
def xf (K:Ex→St→Option R) (rc:fX→Option R) (d:fX):Option R:=oH au bn ax (fun z0 z1 z2 z3 z4 z5 z6 z7 z8 z9 T2 wk=>rc (z0,z1,z2,z3,z4,z5,z6,z7,z8,z9,T2,wk)) d.1 d.2.1 d.2.2.1 d.2.2.2.1 d.2.2.2.2.1 d.2.2.2.2.2.1 d.2.2.2.2.2.2.1 d.2.2.2.2.2.2.2.1 d.2.2.2.2.2.2.2.2.1 d.2.2.2.2.2.2.2.2.2.1 d.2.2.2.2.2.2.2.2.2.2.1 d.2.2.2.2.2.2.2.2.2.2.2 (nT K)
def km:Nat→Option (Hint×cQ R):=fun i=>match i with
 | 1=>some (kB,(cM iB iC (vV aK) iK))
 | _=>none
theorem Fq (K:Ex→St→Option R) (rc:St→Option R) (d:fX):roundOf (tt.mode [.json]) (cT (iL au bn ax)) (km aK) 5 ((az (aX Tryz.f160)).getD 0 .skip) kB (mV d) rc K=xf au bn ax K (fun d=>rc (mV d)) d:=by kernel_rfl
def Ci (x1:ae) (x2:List Token) (x3:Int) (x4:Bool) (x5:Int) (x6:Int) (x7:Int) (x8:ae) (x9:Int) (k0:(List Token)→Int→Bool→Int→Int→Int→ae→Int→Option R) (k1:(List Token)→Int→Bool→Int→Int→Int→ae→(List ae)→Nat→Int→(List Json)→Option R):Option R :=
 ax x1 x2 x3 (fun p9 n0 yp=>bif p9 then (k0 n0 yp x4 x5 x6 x7 x8 x9)else (aK (List.length x1+List.length n0+Int.natAbs yp+Int.natAbs x5+Int.natAbs x6+Int.natAbs x7+List.length x8+List.length ([]:List ae)+Int.natAbs x9+List.length ([]:List Json)+64) x1 n0 yp x4 x5 x6 x7 x8 ([]:List ae) 0 x9 ([]:List Json) (fun y113 y114 y115 y116 y117 y118 y119 y120 y121 y122 y123=>k1 y113 y114 y115 y116 y117 y118 y119 y120 y121 y122 y123)))
theorem LA:dO (R:=R) (tt.mode [.json]) (iL au bn ax) (km aK) false Tryz.f160 tK tM (AU (Ci ax aK)):=fun x y k=>by kernel_rfl
end
theorem JU (ah:aD R) (bJ:aA.Spec.Ok Tryz.prog 80 (aG ck cm (bF ah) av)):cE (R:=R) Tryz.prog (iL (R:=R) au (bn ah) ax) := .d (ln R) rfl <| .d (Gl R ah bJ) rfl <| .d (xX R) rfl <| .n
def aK (ah:aD R):nS R
 | 0,_,_,_,_,_,_,_,_,_,_,_,_,_=>none
 | n+1,gf,gk,gw,mA,wC,xH,EC,Gc,JK,JL,qm,zF,e0=>oH au (bn ah) ax (fun gf gk gw mA wC xH EC Gc JK JL qm zF=>aK ah n gf gk gw mA wC xH EC Gc JK JL qm zF e0) gf gk gw mA wC xH EC Gc JK JL qm zF e0
def xg (ah:aD R) (K:Ex→St→Option R) (n:Nat) (d:fX):Option R:=aK ah n d.1 d.2.1 d.2.2.1 d.2.2.2.1 d.2.2.2.2.1 d.2.2.2.2.2.1 d.2.2.2.2.2.2.1 d.2.2.2.2.2.2.2.1 d.2.2.2.2.2.2.2.2.1 d.2.2.2.2.2.2.2.2.2.1 d.2.2.2.2.2.2.2.2.2.2.1 d.2.2.2.2.2.2.2.2.2.2.2 (nT K)
theorem Ha (ah:aD R) (other:cQ R) (ho:hG (tt.mode [.json]) (cT (iL (R:=R) au (bn ah) ax)) (km (R:=R) (aK ah)) 5 ((az (aX Tryz.f160)).getD 0 .skip) kB other):hG (tt.mode [.json]) (cT (iL (R:=R) au (bn ah) ax)) (km (R:=R) (aK ah)) 5 ((az (aX Tryz.f160)).getD 0 .skip) kB (cM iB iC (vV (aK ah)) other) :=
 cS (A:=xg ah) ho (dX mV (xf au (bn ah) ax) (xg ah) (fun _ _=>by kernel_rfl) (Fq au (bn ah) ax (aK ah)) (fun _ _ _=>by kernel_rfl)) xe HY (fun _ _=>by kernel_rfl) (fun _ _ _=>by kernel_rfl)
def cj (ah:aD R):mH R:=fun x1 x2 x3 x4 x5 x6 x7 x8 x9 k0 k1=>Ci ax (aK ah) x1 x2 x3 x4 x5 x6 x7 x8 x9 k0 k1
theorem HZ (R:Type) (ah:aD R) (bJ:aA.Spec.Ok Tryz.prog 80 (aG ck cm (bF ah) av)):∀a∈az (aX Tryz.f160),gN (tt.mode [.json]) (cT (iL (R:=R) au (bn ah) ax)) (km (R:=R) (aK ah)) 5 a:=by
 refine fb 1 (by kernel_rfl) fun i hi => ?_
 match i,hi with
 | 0,_=>exact cA (by kernel_rfl) (Ha ah _ dy)
 | n+1,hi=>omega
theorem I3 (R:Type) (ah:aD R) (bJ:aA.Spec.Ok Tryz.prog 80 (aG ck cm (bF ah) av)):kM Tryz.prog 160 (Ch (cj ah)):=br (TT.mode [.json]) mixed (JU ah bJ) rfl rfl rfl rfl (HZ R ah bJ) (LA au (bn ah) ax (aK ah))
abbrev lU (R:Type):Type:=Bool→Int→(List Token)→Int→(Json→(List Token)→Int→Option R)→Option R
abbrev sb:List cU := [.leaf (.ptr 0 0), .leaf (.bool), .leaf (.int .i64)]
abbrev sc:List aU := [.cells [.sl .token, .int .i64]]
def zk (fn:lU R):lC R sb sc:=fun x y k=>fn x.2.1 x.2.2.1 y.1.1 y.1.2.1 (fun q0 q1 q2=>k (.agg [.int .i64 q0.kind, .int .i64 q0.num.aq, .int .i64 q0.num.exp, .str q0.text, .sl .str q0.names .no, .sl .json q0.items .no]) [.cells [.sl .token q1 .no, .int .i64 q2]])
def AW (fn:lU R):=aG sb sc (zk fn)
section
variable (cj:mH R)
def AX:List (oo R) := [(160,false,(Ch cj av))]
def AY (x1:Bool) (x2:Int) (x3:List Token) (x4:Int) (k0:Json→(List Token)→Int→Option R):Option R :=
 bif x1 then (cj ([125]:ae) x3 x4 x1 7 0 0 ([]:ae) x2 (fun y5 y6 y7 y8 y9 p9 n0 yp=>k0 (⟨y8,⟨y9,p9⟩,n0,([]:List ae),([]:List Json)⟩:Json) y5 y6) (fun Im IT JG Hm Ql NH U5 Sw Fe y22 ZY=>k0 (⟨Hm,⟨Ql,NH⟩,U5,Sw,ZY⟩:Json) Im IT))else (cj ([93]:ae) x3 x4 x1 6 0 0 ([]:ae) x2 (fun VE JF Sz Fi uR U6 W0 y31=>k0 (⟨Fi,⟨uR,U6⟩,W0,([]:List ae),([]:List Json)⟩:Json) VE JF) (fun V0 y33 Sc y35 y36 y37 y38 Yq ZZ y41 y42=>k0 (⟨y35,⟨y36,y37⟩,y38,Yq,y42⟩:Json) V0 y33))
theorem JV:dO (R:=R) (tt.mode [.json]) (AX cj) sS false Tryz.f120 sb sc (zk (AY cj)):=fun x y k=>by kernel_rfl
end
theorem I4 (ah:aD R) (bJ:aA.Spec.Ok Tryz.prog 80 (aG ck cm (bF ah) av)):cE (R:=R) Tryz.prog (AX (R:=R) (cj ah)) := .d (I3 R ah bJ) rfl <| .n
def dh (ah:aD R):lU R:=fun x1 x2 x3 x4 k0=>AY (cj ah) x1 x2 x3 x4 k0
theorem H0 (R:Type) (ah:aD R) (bJ:aA.Spec.Ok Tryz.prog 80 (aG ck cm (bF ah) av)):kM Tryz.prog 120 (AW (dh ah)):=br (TT.mode [.json]) mixed (I4 ah bJ) rfl rfl rfl rfl cq (JV (cj ah))
section
variable (au:fS R) (dh:lU R)
def AZ:List (oo R) := [(81,false,(kl au av)),(120,false,(AW dh av))]
def A0 (x1:Int) (x2:List Token) (x3:Int) (k0:Json→(List Token)→Int→Option R):Option R :=
 bX (decide ((0:Int)<x2.length)) (let j20:=fun (z4:Bool)=>let j19:=fun (z9:List Token) (T2:Int)=>bif (T2 != 0)then (k0 (⟨0,⟨0,0⟩,([]:ae),([]:List ae),([]:List Json)⟩:Json) z9 T2)else (bX (decide ((1:Int)≤z9.length)) (let j18:=bif ((x2.getD 0 (Ty.aR .token)).kind==3)then (k0 (⟨4,⟨(x2.getD 0 (Ty.aR .token)).num.aq,(x2.getD 0 (Ty.aR .token)).num.exp⟩,([]:ae),([]:List ae),([]:List Json)⟩:Json) (z9.drop 1) T2)else (k0 (⟨5,⟨0,0⟩,(x2.getD 0 (Ty.aR .token)).text,([]:List ae),([]:List Json)⟩:Json) (z9.drop 1) T2); let j17:=fun (wk:Bool)=>bif wk then (bif ((x2.getD 0 (Ty.aR .token)).kind==1)then (dh ((x2.getD 0 (Ty.aR .token)).text==([123]:ae)) x1 (z9.drop 1) T2 (fun yp Im IT=>k0 (⟨yp.kind,⟨yp.num.aq,yp.num.exp⟩,yp.text,yp.names,yp.items⟩:Json) Im IT))else (j18))else (let j16:=fun (z15:Bool)=>bif z15 then (bif ((x2.getD 0 (Ty.aR .token)).kind==4)then (k0 (⟨((mO .str (.int .i64) ((x2.getD 0 (Ty.aR .token)).text) ([(([110,117,108,108]:ae),1),(([102,97,108,115,101]:ae),2),(([116,114,117,101]:ae),3)]:List (ae×Int))):Int),⟨0,0⟩,([]:ae),([]:List ae),([]:List Json)⟩:Json) (z9.drop 1) T2)else (j18))else (j18); bif ((x2.getD 0 (Ty.aR .token)).text==([110,117,108,108]:ae))then (j16 ((x2.getD 0 (Ty.aR .token)).text==([110,117,108,108]:ae)))else (bif ((x2.getD 0 (Ty.aR .token)).text==([102,97,108,115,101]:ae))then (j16 ((x2.getD 0 (Ty.aR .token)).text==([102,97,108,115,101]:ae)))else (j16 ((x2.getD 0 (Ty.aR .token)).text==([116,114,117,101]:ae))))); bif ((x2.getD 0 (Ty.aR .token)).text==([91]:ae))then (j17 ((x2.getD 0 (Ty.aR .token)).text==([91]:ae)))else (j17 ((x2.getD 0 (Ty.aR .token)).text==([123]:ae))))); bif (!z4)then (au 40 x2 x3 (fun y5 y6=>j19 y5 y6))else (bif (decide (x1>(16:Int)))then (au 41 x2 x3 (fun y7 y8=>j19 y7 y8))else (j19 x2 x3)); bif ((x2.getD 0 (Ty.aR .token)).kind==2)then (j20 true)else (bif ((x2.getD 0 (Ty.aR .token)).kind==3)then (j20 true)else (bif ((x2.getD 0 (Ty.aR .token)).kind==4)then (j20 true)else (bif ((x2.getD 0 (Ty.aR .token)).kind==1)then (bif ((x2.getD 0 (Ty.aR .token)).text==([91]:ae))then (j20 true)else (j20 ((x2.getD 0 (Ty.aR .token)).text==([123]:ae))))else (j20 false)))))
theorem JW:dO (R:=R) (tt.mode [.json]) (AZ au dh) sS false Tryz.f80 ck cm (bF (A0 au dh)):=fun x y k=>by kernel_rfl
end
theorem I5 (ah:aD R) (bJ:aA.Spec.Ok Tryz.prog 80 (aG ck cm (bF ah) av)):cE (R:=R) Tryz.prog (AZ (R:=R) au (dh ah)) := .d (ln R) rfl <| .d (H0 R ah bJ) rfl <| .n
def sd (ah:aD R):aD R:=fun x1 x2 x3 k0=>A0 au (dh ah) x1 x2 x3 k0
theorem Hb (R:Type) (ah:aD R) (bJ:aA.Spec.Ok Tryz.prog 80 (aG ck cm (bF ah) av)):kM Tryz.prog 80 (AT (sd ah)):=br (TT.mode [.json]) mixed (I5 ah bJ) rfl rfl rfl rfl cq (JW au (dh ah))
def bt:Nat→aD R
 | 0,_,_,_,_=>none
 | n+1,gf,gk,gw,k0'=>sd (bt n) gf gk gw k0'
theorem Yz (n:Nat):bt (R:=R) (n+1)=sd (bt n):=by kernel_rfl
theorem H2 (R:Type):∀n,aA.Spec.Ok Tryz.prog 80 (aG ck cm (bF (bt (R:=R) n)) av) :=
 Ca (run:=fun n=>bF (bt (R:=R) n)) (fun x y k=>by kernel_rfl) fun n hyp=>Hb R (bt n) hyp av (ie _)
def du:aD R:=fun x1 x2 x3 k0=>bt 40 x1 x2 x3 k0
theorem H3 (R:Type):bF (R:=R) du=fun x y k=>bF (bt 40) x y k:=by kernel_rfl
theorem H4 (R:Type) (other:aA.Spec R) (ho:aA.Spec.Ok Tryz.prog 80 other):aA.Spec.Ok Tryz.prog 80 (aG ck cm (bF du) other) :=
 IG (Mb (run:=fun n=>bF (bt (R:=R) n)) (fun x y=>40) ho (H2 R)) (H3 R)
end Go.Proofs.YtidfokedcnhahaaGreatDoor
end
