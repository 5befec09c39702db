/-
  OrderApart, part 6 of 10.
-/
import Derived.Test.YtidfokedcnhahaaGreatDoorCards
import Derived.Test.YtidfokedcnhahaaGreatDoorTie
import Derived.Lib.LaidU8T
import Derived.Stop.LaidErr
import Derived.Deep.DeepHandedRow
import Derived.Deep.DeepWitnessRowRef
import Derived.WalkKit
import Derived.ProofKit
import Derived.OpenShut
import Derived.Lib.ValidU
import Derived.Lib.ItoaLen
import Derived.Lib.Repeat
import Derived.Lib.AtoiAll
import Derived.Lib.IndexAny
import Derived.Lib.Bytealg
import Derived.Lib.SlTrimSet
import Derived.Lib.LastIndexByte
import Derived.Sort.Grow
import Derived.Shelf.Strings.BuilderX
import Derived.Test.YtidfokedcnhahaaGreatDoorOrderApartB5
set_option linter.unusedSimpArgs false
set_option linter.unnecessarySimpa false
set_option linter.unusedVariables false
set_option linter.unusedSectionVars false
noncomputable section
set_option maxRecDepth 100000
namespace Go.Proofs.YtidfokedcnhahaaGreatDoor.Door
open Go Go.Lib Go.RowKit Go.ChangeShapes Go.aC
theorem own:ownKnob Tryz.prog.godebug=none:=by kernel_rfl
theorem leaves:N2 Tryz.prog Go.Proofs.YtidfokedcnhahaaGreatDoor.tt:=leaves_ok (by kernel_rfl)
theorem gSyn:Tryz.prog.globalNamed "strconv.ErrSyntax" = some 3:=by kernel_rfl
theorem gRng:Tryz.prog.globalNamed "strconv.ErrRange" = some 4:=by kernel_rfl
theorem tSyn:(Tryz.prog.globals[3]?).map (·.type)=some 158:=by kernel_rfl
theorem tRng:(Tryz.prog.globals[4]?).map (·.type)=some 158:=by kernel_rfl
theorem star : "*" ++ "errors.errorString" = "*errors.errorString" :=by decide
theorem rowErr (u:TypeId) (h:Tryz.prog.typeName? 3 u=some "*errors.errorString"):u=271 :=
 typeName_ptr_named (nm := "errors.errorString") (by rw[star]; kernel_rfl) (by kernel_rfl) (by decide) u (by rw[star]; exact h)
theorem lt_of_var {n:String} {g:Nat} {W:World} {cs:Array Value} (hg:Tryz.prog.globalNamed n=some g) (h:W.var? Tryz.prog n=some cs):g<W.heap.size:=by
 unfold World.var? at h
 simp only[hg,Option.bind_some]at h
 rcases Nat.lt_or_ge g W.heap.size with h'|h'
 ·exact h'
 ·simp[Array.getElem?_eq_none h']at h
theorem lay_met {W:World} (h:laidMet Tryz.prog Rows.orderTellsUptoRow.laid W):pj.says W∧∀b,pj.blocks b→b<W.heap.size:=by
 have r0:VarReads Tryz.prog W "unicode/utf8.first" firstData:=laidMet.reads h (.tail _ (.tail _ (.tail _ (.tail _ (.tail _ (.tail _ (.head _)))))))
 have r1:VarReads Tryz.prog W "unicode/utf8.acceptRanges" acceptData:=laidMet.reads h (.tail _ (.tail _ (.tail _ (.head _))))
 have ht:Utf8Tabs 1 2 W:=utf8Tabs_of_readsT (U8Types.of196 Tryz.lay196) ⟨by kernel_rfl,by kernel_rfl,by kernel_rfl,by kernel_rfl,by kernel_rfl,by kernel_rfl,by kernel_rfl⟩ r0 r1
 have h2:=laidMet.tail (laidMet.tail h)
 have hp:TabIs Tryz.prog W "internal/strconv.uint64pow10" .u64 pow10Tab:=tabIs_of_head (t:=267) (e:=244) (n:=20) lay_pow10 (by kernel_rfl) (by kernel_rfl) (by kernel_rfl) (by kernel_rfl) (by kernel_rfl) h2
 have h4:=laidMet.tail (laidMet.tail h2)
 obtain ⟨a3,s3,v3,_⟩:=laid_sentinel (ms := #[("Error",120)]) (f := { name := "s",type:=9,offset:=0,embedded:=false,tag := "",pkgPath := "errors",byteOffset:=0 }) (te:=273) (ts:=9) h4 gRng tRng (by kernel_rfl) rowErr (by kernel_rfl) (by kernel_rfl) rfl rfl (by kernel_rfl) (by kernel_rfl) (by kernel_rfl)
 obtain ⟨a2,s2,v2,_⟩:=laid_sentinel (ms := #[("Error",120)]) (f := { name := "s",type:=9,offset:=0,embedded:=false,tag := "",pkgPath := "errors",byteOffset:=0 }) (te:=273) (ts:=9) (laidMet.tail h4) gSyn tSyn (by kernel_rfl) rowErr (by kernel_rfl) (by kernel_rfl) rfl rfl (by kernel_rfl) (by kernel_rfl) (by kernel_rfl)
 refine ⟨⟨ht,hp,⟨_,_,World.var?_cell gSyn v2 0⟩,⟨_,_,World.var?_cell gRng v3 0⟩⟩,fun b hb => ?_⟩
 have hb:b<8:=hb
 obtain ⟨g,t,cs,fuel,p,hg,_,hv,_⟩:VarReads Tryz.prog W "math/bits.deBruijn64tab" Rows.laid_math_bits_deBruijn64tab:=laidMet.reads h (.tail _ (.head _))
 have e:(some 7:Option Nat)=some g:=(by kernel_rfl:Tryz.prog.globalNamed "math/bits.deBruijn64tab" = some 7).symm.trans hg
 cases e
 have l4:=lt_of_var hg hv
 omega
abbrev synS:ByteArray := { data := #[105,110,118,97,108,105,100,32,115,121,110,116,97,120] }
abbrev rngS:ByteArray := { data := #[118,97,108,117,101,32,111,117,116,32,111,102,32,114,97,110,103,101] }
def low:Nat:=(World.holding Tryz.prog default ⟨#[], #[], []⟩).heap.size
def lit1:DataW Unit→Value
 | .lit (.int k n) => .int k n
 | _ => .int .u8 0
def litsOf:DataW Unit→List Value
 | .agg l=>l.map lit1
 | _ => []
def Ur (os:Os):World :=
 let w0:=World.holding Tryz.prog os ⟨#[.cells #[.string synS] 273, .cells #[.string rngS] 273], #[], []⟩
 let put (h:Array Obj) (g:Nat) (cs:Array Value):Array Obj:=h.modify g fun
  | .cells _ t frozen => .cells cs t frozen
  | o=>o
 let h0:=put w0.heap 1 (firstTab.map fun z=>Value.int .u8 z).toArray
 let h1:=put h0 2 ((List.range 16).flatMap fun i => [Value.int .u8 (accLo i),Value.int .u8 (accHi i)]).toArray
 let h2:=put h1 3 #[.iface 271 (.pointer (some ⟨low,0,none⟩))]
 let h3:=put h2 4 #[.iface 271 (.pointer (some ⟨low+1,0,none⟩))]
 let h4:=put h3 5 (pow10Tab.map fun z=>Value.int .u64 z).toArray
 let h6:=put h4 6 (litsOf Rows.laid_math_bits_deBruijn32tab).toArray
 let h7:=put h6 7 (litsOf Rows.laid_math_bits_deBruijn64tab).toArray
 { w0 with heap:=h7 }
theorem laid_met (os:Os) (args:Array Value):laidMet Tryz.prog Rows.orderTellsUptoRow.laid ((Ur os).forCall (fun _ _=>0) ⟨#[],args, []⟩).memory :=
 laidMet_of_run' 8 (by kernel_rfl) (by kernel_rfl)
end Go.Proofs.YtidfokedcnhahaaGreatDoor.Door
namespace Go.aC
theorem aw {R:Type} {b:Bool} {k:Option R} (h:b=true):cb b k=k:=by subst h; rfl
theorem cA {n:Int} (h1 : -9223372036854775808≤n) (h2:n≤9223372036854775807):IntKind.i64.wrap n=n:=by
 simp only[IntKind.wrap,IntKind.bits,IntKind.signed,IntKind.min,IntKind.max]
 simp
 omega
theorem Json.eta (x:Json):(⟨x.kind,⟨x.num.ao,x.num.exp⟩,x.text,x.names,x.items⟩:Json)=x:=by cases x; rfl
theorem Raw.eta (x:Raw):(⟨x.kind,x.ao,x.exp,x.text,x.items⟩:Raw)=x:=by cases x; rfl
theorem getD_at {α:Type} {l:List α} {i:Nat} (h:i<l.length) (d:α):l.getD i d=l[i]:=by simp[List.getD,h]
end Go.aC
namespace Go.aC
open Go.RowKit
section
variable {P:Program} {tt:dj} {w w':World} {h h':aN} {c c':jS} {R:Type}
theorem Dl (hb:Below w.heap.size w w'):Ext w h c w' h c where
 os:=hb.os
 tape:=hb.tape
 output:=hb.output
 size:=hb.size
 used:=fun _ hi=>hi
 same:=fun i hi hd=>⟨J6 (PH hi.2 hd) (fun _ _ _ => .inr trivial),rfl,rfl⟩
 cell:=fun b x hx _=>vY (hb.block b hx)
 block:=fun b hx _=>hb.block b hx
 A9:=fun _ _ _ ho=>ho
 ext:=rfl
 arr:=fun b arr e fz hx=>⟨arr,fz,by rw[hb.block b (DP hx)]; exact hx,rfl⟩
theorem N3 (wf:WF w h c) (hb:Below w.heap.size w w'):WF w' h c where
 CL:=wf.CL
 rB:=fun b x he=>Nat.lt_of_lt_of_le (wf.rB b x he) hb.size
 obj:=fun i hi=>by
  by_cases hl:(h.at i).live
  ·exact (wf.obj i hi).zR (Dl hb) (fun b pS=>hb.block b ((wf.obj i hi).lt hl pS)) rfl rfl
  ·have h0:h.at i = .free∨h.at i = .dead:=by revert hl; cases h.at i <;> simp[bS.live]
   rcases h0 with h0|h0 <;> rw[h0] <;> trivial
 inj:=wf.inj
 lay:=wf.vg (Dl hb)
theorem vZ {g:Nat} {fn:Func} (hf:P.funcs[g]? = some fn) (hn:(fn.name == "runtime.NumGoroutine")=false) (hb:fn.body.isNone=false) {args:Array Value} {Q:Value→World→Prop}
  (h:Calls P g args w fun e w'=>∃d,e = .returned d∧Q d w'):Bv P g args w Q:=by
 refine ⟨.enter g args,w,?_,h⟩
 have hn':fn.name ≠ "runtime.NumGoroutine" :=by simpa using hn
 have pS:fn.body≠none:=fun e=>by rw[e]at hb; cases hb
 simp[callFunc,hf,hn',pS]
theorem oF {g:Nat} {fn:Func} (hf:P.funcs[g]? = some fn) (hn:(fn.name == "runtime.NumGoroutine")=false) (hb:fn.body.isNone=false) {sp:Spec R}
  (hs:∀vs hp k r,sp vs hp k=some r→∀(w:World) (c:jS) (args:Array Value),WF w hp c→cv w hp c vs args.toList →
   ∃v,k v hp=some r∧Calls P g args w fun e w'=>∃d,e = .returned d∧Below w.heap.size w w'∧dn w' hp c v d):Spec.Ok P g sp:=by
 intro vs hp k r hk w c args wf ra
 obtain ⟨v,hv,hc⟩:=hs vs hp k r hk w c args wf ra
 refine vZ hf hn hb (Calls.mono hc ?_)
 rintro e w' ⟨d,he,hbl,hr⟩
 exact ⟨d,he,v,hp,c,N3 wf hbl,Dl hbl,hr,hv⟩
theorem repL1 {v:V} {args:Array Value} (ra:cv w h c [v] args.toList):∃d,args = #[d]∧dn w h c v d:=by
 obtain ⟨l⟩:=args
 match l,ra with
 | [d],ra=>exact ⟨d,rfl,ra.head⟩
 | [],ra=>have:=ra.1; simp at this
 | _::_::_,ra=>have:=ra.1; simp at this
theorem repL2 {u v:V} {args:Array Value} (ra:cv w h c [u,v] args.toList):∃d e,args = #[d,e]∧dn w h c u d∧dn w h c v e:=by
 obtain ⟨l⟩:=args
 match l,ra with
 | [d,e],ra=>exact ⟨d,e,rfl,ra.head,ra.tail.head⟩
 | [],ra=>have:=ra.1; simp at this
 | [_],ra=>have:=ra.1; simp at this
 | _::_::_::_,ra=>have:=ra.1; simp at this
end
section
variable {P:Program} {tt:dj} {w w':World} {h h':aN} {c c':jS} {R:Type}
def Vs (R:Type):Spec R:=fun vs h k =>
 match vs with
 | [.ptr i 0]=>(match h.at i with | .mB _=>k (.tuple []) h|_=>none)
 | _=>none
theorem Us {i:Nat} {v:V} {a':Value} (wf:WF w h c) (ra:dn w h c (.ptr i 0) a') (hv:h.at i = .mB v) :
  ∃b p d,a' = .pointer (some ⟨b,0,none⟩)∧c.vU i=some b∧w.heap[b]? = some (Obj.cells #[p,d] pj.mB (0,0))∧(p = .pointer none∨p = .pointer (some ⟨b,0,none⟩))∧dn w h c v d:=by
 have hi:=aN.gl hv (by simp)
 have ho:=wf.obj i hi
 rw[hv]at ho
 obtain ⟨b,p,d,g1,g2,g3,g4⟩:=ho
 cases ra with
 | ptr hu hq =>
  obtain ⟨b',rfl,pS⟩:=hq
  have:=pS (by rw[hv]; simp)
  rw[g1]at this; cases this
  exact ⟨b,p,d,rfl,g1,g2,g3,g4⟩
theorem bcc_ok {g:Nat} {fn:Func} (hf:P.funcs[g]? = some fn) (hn:(fn.name == "runtime.NumGoroutine")=false) (hb:fn.body.isNone=false)
  (fresh:∀(b:Nat) (w:World),w.cell? ⟨b,0,none⟩=some (.pointer none)→w.shape? b=some (pj.mB,2)→w.frozen? ⟨b,0,none⟩=false →
   Calls P g #[.pointer (some ⟨b,0,none⟩)] w fun e w'=>e = .returned (.tuple #[])∧w'=w.setCell ⟨b,0,none⟩ (.pointer (some ⟨b,0,none⟩)))
  (used:∀(b:Nat) (w:World),w.cell? ⟨b,0,none⟩=some (.pointer (some ⟨b,0,none⟩))→Calls P g #[.pointer (some ⟨b,0,none⟩)] w fun e w'=>e = .returned (.tuple #[])∧w'=w):Spec.Ok P g (Vs R):=by
 intro vs h k r hk w c args wf ra
 unfold Vs at hk
 split at hk <;> try (first|cases hk)
 rename_i i
 split at hk <;> try (first|cases hk)
 rename_i v hv
 obtain ⟨a',rfl,r1⟩:=repL1 ra
 obtain ⟨b,p,d,rfl,g1,g2,g3,g4⟩:=Us wf r1 hv
 have Qr:w.cell? ⟨b,0,none⟩=some p:=by rw[cell_of_row w b _ _ _ _ g2]; rfl
 have rt:∀w' h' c',dn w' h' c' (.tuple []) (.tuple #[]):=fun w' h' c' => .tuple rfl (fun j v d hv=>by simp at hv)
 rcases g3 with rfl|rfl
 ·refine vZ hf hn hb (Calls.mono (fresh b w Qr (by simp[World.shape?,g2]) (AM g2 0)) ?_)
  rintro e w' ⟨he,rfl⟩
  have pS:(w.setCell ⟨b,0,none⟩ (.pointer (some ⟨b,0,none⟩))).heap[b]? = some (.cells #[.pointer (some ⟨b,0,none⟩),d] pj.mB (0,0)):=by
   simp[World.setCell,Array.getElem?_modify,g2]
  have hw:XK w (w.setCell ⟨b,0,none⟩ (.pointer (some ⟨b,0,none⟩))) b #[.pointer (some ⟨b,0,none⟩),d] pj.mB (0,0):=⟨rfl,rfl,rfl,by simp,fun k hk=>heap_setCell_other w _ k _ hk,pS⟩
  have vh:(h.at i).from_ (c.off i)=some 0:=by rw[hv]; rfl
  have xO:(h.at i).iB (.mB v):=by rw[hv]; trivial
  have hset:h.set i (.mB v)=h:=by
   have hi:=aN.gl hv (by simp)
   have e:h[i] = .mB v:=by
    have:=hv
    unfold aN.at at this
    simpa [List.getD,List.getElem?_eq_getElem hi]using this
   rw[←e]
   exact List.set_getElem_self hi
  have x:=Sn g1 g2 hw rfl vh rfl xO
  have q:=upd_wf wf g1 g2 hw rfl vh rfl xO ⟨b,_,d,g1,pS, .inr rfl,g4.mono x⟩
  rw[hset]at x q
  exact ⟨_,he,_,h,c,q,x,rt _ _ _,hk⟩
 ·refine vZ hf hn hb (Calls.mono (used b w Qr) ?_)
  rintro e w' ⟨he,rfl⟩
  exact ⟨_,he,_,h,c,wf, .refl _ _ _,rt _ _ _,hk⟩
def vO (l:List Int):ah:=l.map fun n=>UInt8.ofNat n.toNat
theorem bstr_len (l:List Int):(vO l).length=l.length:=List.length_map _
theorem bstr_get (l:List Int) (m:Nat) (x:UInt8) (h:(vO l)[m]? = some x):∃n,l[m]? = some n∧x=UInt8.ofNat n.toNat:=by
 unfold vO at h
 rw[List.getElem?_map]at h
 cases hm:l[m]? with
 | none=>rw[hm]at h; cases h
 | some n=>rw[hm]at h; simp at h; exact ⟨n,rfl,h.symm⟩
def Lr (R:Type):Spec R:=fun vs h k =>
 match vs with
 | [.ptr i 0] =>
  (match h.at i with
   | .mB .bx=>k (.str []) h
   | .mB (.sl (.int .u8) l (.own j))=>(match h.at j with | .tok=>k (.str (vO l)) h|_=>none)
   | _=>none)
 | _=>none
theorem PO:NU (Lr R):=by
 intro vs h k k' he
 unfold Lr
 split <;> try rfl
 split <;> try (first|rfl|exact he _)
 split <;> first|rfl|exact he _
theorem freeze_wf (wf:WF w h c) {j g:Nat} (hj:h.at j = .tok) (hg:c.vU j=some g) {cur:Array Value} {e:TypeId} {fz P8:Nat×Nat} (h1:w.heap[g]? = some (.cells cur e fz))
  (hos:w'.os=w.os) (htape:w'.tape=w.tape) (hout:w'.output=w.output) (hsize:w'.heap.size=w.heap.size) (Ug:∀k,k≠g→w'.heap[k]? = w.heap[k]?) (h2:w'.heap[g]? = some (.cells cur e P8))
  (hfz:(fz.1=fz.2∨fz.2≤c.off j)→(P8.1=P8.2∨P8.2≤c.off j)) :
  WF w' h c∧Ext w h c w' h c:=by
 have hjl:=aN.gl hj (by simp)
 have l0:wS h c g (c.off j):=⟨j,c.off j,hg,by rw[hj]; rfl,Nat.le_refl _⟩
 have C0:∀b x,w'.cell? ⟨b,x,none⟩=w.cell? ⟨b,x,none⟩:=fun b x=>by
  by_cases hb:b=g
  ·subst hb; rw[cell_of_row w' b x cur e P8 h2,cell_of_row w b x cur e fz h1]
  ·exact vY (Ug b hb)
 have x:Ext w h c w' h c := {
  os:=hos
  tape:=htape
  output:=hout
  size:=by omega
  used:=(Ext.refl w h c).used
  same:=(Ext.refl w h c).same
  cell:=fun b x _ _=>C0 b x
  block:=fun b _ ho=>Ug b (by rintro rfl; exact ho _ l0)
  A9:=(Ext.refl w h c).A9
  ext:=rfl
  arr:=fun b arr el fz0 hb=>by
   by_cases hbg:b=g
   ·subst hbg; rw[h1]at hb; cases hb; exact ⟨cur,P8,h2,rfl⟩
   ·exact ⟨arr,fz0,by rw[Ug b hbg]; exact hb,rfl⟩ }
 refine ⟨?_,x⟩
 exact {
  lay:=wf.vg x
  CL:=wf.CL
  rB:=fun b y he=>by rw[hsize]; exact wf.rB b y he
  obj:=fun i hi=>by
   by_cases AL:i=j
   ·subst AL
    have:=wf.obj i hi
    rw[hj]at this ⊢
    rcases this with h0|⟨b',NQ,e',fz0,p1,p2,p3,p4⟩
    ·rw[hg]at h0; cases h0
    ·rw[hg]at p1; cases p1
     rw[h1]at p2; cases p2
     exact .inr ⟨g,cur,e,P8,hg,h2,p3,hfz p4⟩
   ·by_cases hl:(h.at i).live
    ·refine (wf.obj i hi).zR x (fun b hb=>Ug b ?_) rfl rfl
     rintro rfl
     exact AL (wf.inj i j b hl (by rw[hj]; trivial) hb hg)
    ·have h0:h.at i = .free∨h.at i = .dead:=by revert hl; cases h.at i <;> simp[bS.live]
     rcases h0 with h0|h0 <;> rw[h0] <;> trivial
  inj:=wf.inj }
theorem freeze_facts {q n:Nat} {cur:Array Value} {e:TypeId} {fz:Nat×Nat} (hn:n≠0) (hq:w.heap[q]? = some (.cells cur e fz)) :
  (w.drew.freeze ⟨q,0,none⟩ n).os=w.os∧(w.drew.freeze ⟨q,0,none⟩ n).tape=w.tape∧(w.drew.freeze ⟨q,0,none⟩ n).output=w.output∧(w.drew.freeze ⟨q,0,none⟩ n).heap.size=w.heap.size ∧
   (∀k,k≠q→(w.drew.freeze ⟨q,0,none⟩ n).heap[k]? = w.heap[k]?)∧∃P8,(w.drew.freeze ⟨q,0,none⟩ n).heap[q]? = some (.cells cur e P8)∧∀o,n≤o→(fz.1=fz.2∨fz.2≤o)→(P8.1=P8.2∨P8.2≤o):=by
 obtain ⟨lo,hi⟩:=fz
 unfold World.freeze
 rw[if_neg hn]
 refine ⟨rfl,rfl,rfl,Array.size_modify,fun k hk => ?_,(if lo==hi then (0,0+n)else (min lo 0,max hi (0+n))),?_,fun o ho hf => ?_⟩
 ·simp only[Array.getElem?_modify]
  rw[if_neg (Ne.symm hk)]
  rfl
 ·simp only[Array.getElem?_modify,if_true]
  rw[show w.drew.heap[q]? = some (.cells cur e (lo,hi))from hq]
  rfl
 ·simp only at hf
  split
  ·exact .inr (by simp; omega)
  ·rename_i jT
   have:lo≠hi:=by simpa using jT
   exact .inr (by simp; omega)
theorem u8_of {n:Int} (hn:IntKind.u8.has n):((UInt8.ofNat n.toNat).toNat:Int)=n:=by
 have:0≤n∧n≤255:=by simpa [IntKind.has,IntKind.min,IntKind.max,IntKind.signed,IntKind.bits]using hn
 simp only[UInt8.toNat_ofNat']
 omega
structure Yh (P:Program) (g:Nat):Prop where
 nil:∀(b:Nat) (p:Value) (w:World),w.heap[b]? = some (.cells #[p, .slice none 0 0] pj.mB (0,0)) →
  Calls P g #[.pointer (some ⟨b,0,none⟩)] w fun e w'=>e = .returned (.string ⟨#[]⟩)∧Below w.heap.size w w'
 noroom:∀(b q:Nat) (p:Value) (cur:Array Value) (fz:Nat×Nat) (w:World),w.heap[b]? = some (.cells #[p, .slice (some ⟨q,0,none⟩) 0 0] pj.mB (0,0))→w.heap[q]? = some (.cells cur pj.u8 fz) →
  Calls P g #[.pointer (some ⟨b,0,none⟩)] w fun e w'=>e = .returned (.string ⟨#[]⟩)∧Below w.heap.size w w'
 room:∀(b q cap:Nat) (p:Value) (w:World),cap≠0→w.heap[b]? = some (.cells #[p, .slice (some ⟨q,0,none⟩) 0 cap] pj.mB (0,0)) →
  Calls P g #[.pointer (some ⟨b,0,none⟩)] w fun e w'=>e = .returned (.string ⟨#[]⟩)∧Below w.heap.size w w'
 some:∀(b q cap:Nat) (p:Value) (cur:Array Value) (fz:Nat×Nat) (l:List UInt8) (w:World),l ≠ []→w.heap[b]? = some (.cells #[p, .slice (some ⟨q,0,none⟩) l.length cap] pj.mB (0,0)) →
  w.heap[q]? = some (.cells cur pj.u8 fz)→l.length≤cap→cap≤mx→l.length≤cur.size→(∀(j:Nat) (x:UInt8),l[j]? = some x→w.cell? ⟨q,j,none⟩=some (.int .u8 x.toNat)) →
  Calls P g #[.pointer (some ⟨b,0,none⟩)] w fun e w'=>e = .returned (.string ⟨l.toArray⟩)∧w'=w.drew.freeze ⟨q,0,none⟩ l.length
theorem bstr_ok {g:Nat} {fn:Func} (hf:P.funcs[g]? = some fn) (hn:(fn.name == "runtime.NumGoroutine")=false) (hb:fn.body.isNone=false) (D:Yh P g):Spec.Ok P g (Lr R):=by
 intro vs h k r hk w c args wf ra
 unfold Lr at hk
 split at hk <;> try (first|cases hk)
 rename_i i
 obtain ⟨a',rfl,r1⟩:=repL1 ra
 have empty:∀ {w':World} {h':aN} {c':jS},dn w' h' c' (.str []) (.string ⟨#[]⟩):=fun {w' h' c'}=>FM ⟨#[]⟩ rfl (Nat.zero_le _)
 split at hk <;> try (first|cases hk)
 ·rename_i hv
  obtain ⟨b,p,d,rfl,g1,g2,g3,g4⟩:=Us wf r1 hv
  cases g4
  refine vZ hf hn hb (Calls.mono (D.nil b p w g2) ?_)
  rintro e w' ⟨he,hbl⟩
  exact ⟨_,he,_,h,c,N3 wf hbl,Dl hbl,empty,hk⟩
 ·rename_i l j hv
  split at hk <;> try (first|cases hk)
  rename_i hj
  obtain ⟨b,p,d,rfl,g1,g2,g3,g4⟩:=Us wf r1 hv
  have hi:=aN.gl hv (by simp)
  have AL:j≠i:=by rintro rfl; rw[hj]at hv; cases hv
  have hu8:∀x∈(l:List Int),IntKind.u8.has x:=by
   intro x hx
   cases g4 with
   | sl f lg vV hc hr Db l0 =>
    obtain ⟨m,hm⟩:=List.mem_iff_getElem?.1 hx
    exact (hr m 0 x (.int .u8 x) hm rfl).fk.2
  have hlen:(vO l).length=List.length (α:=Int) l:=bstr_len l
  cases g4 with
  | @sl _ _ _ A cap f lg vV hc hr Db l0 =>
   obtain ⟨_,ho⟩:=l0 j rfl
   have hcap':List.length (α:=Int) l≤cap:=lg
   have Sf:∀(w':World) (h':aN) (c':jS),dn w' h' c' (.str (vO l)) (.string ⟨(vO l).toArray⟩):=fun w' h' c'=>FM _ rfl (by rw[hlen]; exact Nat.le_trans lg vV)
   rcases ho hj with ⟨e1,rfl,rfl⟩|⟨q,o,cur,e,fz,e1,rfl,e3,e4,e5,e6⟩
   ·have Vh:l = []:=List.eq_nil_of_length_eq_zero (Nat.le_zero.1 lg)
    subst Vh
    refine vZ hf hn hb (Calls.mono (D.nil b p w g2) ?_)
    rintro e w' ⟨he,hbl⟩
    exact ⟨_,he,_,h,c,N3 wf hbl,Dl hbl,Sf _ _ _,hk⟩
   ·obtain ⟨rfl,rfl⟩:=e6 rfl
    by_cases Vh:l = []
    ·subst Vh
     by_cases Qr:cap=0
     ·subst Qr
      refine vZ hf hn hb (Calls.mono (D.noroom b q p cur fz w g2 e4) ?_)
      rintro e w' ⟨he,hbl⟩
      exact ⟨_,he,_,h,c,N3 wf hbl,Dl hbl,Sf _ _ _,hk⟩
     ·refine vZ hf hn hb (Calls.mono (D.room b q cap p w Qr g2) ?_)
      rintro e w' ⟨he,hbl⟩
      exact ⟨_,he,_,h,c,N3 wf hbl,Dl hbl,Sf _ _ _,hk⟩
    ·have hbl:vO l ≠ []:=fun e=>Vh (List.eq_nil_of_length_eq_zero (hlen.symm.trans (by rw[e]; rfl)))
     have e5':0+cap*1≤cur.size:=e5
     have I6:∀(m:Nat) (x:UInt8),(vO l)[m]? = some x→w.cell? ⟨q,m,none⟩=some (.int .u8 x.toNat):=by
      intro m x hx
      obtain ⟨n,hm,rfl⟩:=bstr_get l m x hx
      have hml:m<List.length (α:=Int) l:=(List.getElem?_eq_some_iff.1 hm).1
      obtain ⟨b',o',hA,C0,_⟩:=hc m 0 hml (by simp[Ty.sz])
      cases hA
      have hrn:=hr m 0 n (.int .u8 n) hm rfl
      rw[hrn.fk.1]at C0
      rw[u8_of hrn.fk.2]
      simpa [Ty.sz]using C0
     have g2':w.heap[b]? = some (.cells #[p, .slice (some ⟨q,0,none⟩) (vO l).length cap] pj.mB (0,0)):=by rw[hlen]; exact g2
     refine vZ hf hn hb (Calls.mono (D.some b q cap p cur fz (vO l) w hbl g2' e4 (by rw[hlen]; exact lg) vV (by rw[hlen]; omega) I6) ?_)
     rintro e w' ⟨he,rfl⟩
     have hne0:(vO l).length≠0:=by simpa using hbl
     obtain ⟨f1,f2,f3,f4,f5,P8,f6,f7⟩:=freeze_facts hne0 e4
     obtain ⟨q1,q2⟩:=freeze_wf wf hj e1 e4 f1 f2 f3 f4 f5 f6 (f7 _ (by rw[e3,hlen]; simp[Ty.sz]; exact Nat.le_refl _))
     exact ⟨_,he,_,h,c,q1,q2,Sf _ _ _,hk⟩
end
def v7 (s:ah):Bool:=s.all fun b=>decide (b.toNat<128)
def fW (s:ah):Bool:=Go.Lib.validD s
def pd (s:ah):Nat×Nat:=if s.isEmpty then (65533,0)else Utf8.decode ⟨s.toArray⟩ 0
def cf (n:Int):ah:=Go.Lib.itoa n
def k7 (s:ah) (n:Int):ah:=Go.Lib.repeatL s n.toNat
def bu (s cs:ah):ah:=s.dropWhile (cs.contains ·)
def cB (s cs:ah):ah:=(s.reverse.dropWhile (cs.contains ·)).reverse
def v8 (s:ah):Bool:=match Go.Lib.atoiAll s with | .ok _=>true|_=>false
def ef (s:ah):Int:=match Go.Lib.atoiAll s with | .ok v=>v | .range=>Go.Lib.atoiSat s|_=>0
def Yi (s cs:ah):Bool:=Go.Lib.containsAny s cs
def Ee (s:ah) (c:UInt8):Int:=Go.Lib.lastIndexByte ⟨s.toArray⟩ (c.toNat:Int)
def DS (s:ah) (c:Int):Int:=Go.Lib.indexByte s c.toNat.toUInt8
section
variable (R:Type)
def valid_S:Spec R:=fun vs h k=>match vs with | [.str s]=>k (.bool (fW s)) h|_=>none
def dec_S:Spec R:=fun vs h k=>match vs with | [.str s]=>k (.tuple [.int .i32 (pd s).1, .int .i64 (pd s).2]) h|_=>none
def itoa_S:Spec R:=fun vs h k=>match vs with | [.int .i64 n]=>k (.str (cf n)) h|_=>none
def rep_S:Spec R:=fun vs h k=>match vs with | [.str s, .int .i64 n]=>cb (decide (0≤n)&&decide ((s.length:Int)*n≤140737488355328)) (k (.str (k7 s n)) h)|_=>none
def PQ:Spec R:=fun vs h k=>match vs with | [.str s, .str cs]=>cb (v7 cs&&decide (cs.length<4294967281)) (k (.str (bu s cs)) h)|_=>none
def trimR_S:Spec R:=fun vs h k=>match vs with | [.str s, .str cs]=>cb (v7 cs&&decide (cs.length<4294967281)) (k (.str (cB s cs)) h)|_=>none
def atoi_S:Spec R:=fun vs h k=>match vs with
 | [.str s]=>cb (decide (s.length≤281474976710656)) (bif v8 s then k (.tuple [.int .i64 (ef s), .dt]) h else k (.tuple [.int .i64 (ef s), .iface]) h)
 | _=>none
def toErr_S (T:Nat):Spec R:=fun vs h k=>match vs with
 | [.str _, .str s, .int .i64 _, .int .i64 _, .Rb t .i64 n]=>cb (Nat.beq t T&&(n==2||n==1)) (cb (decide (s.length≤281474976710656)) (k .iface h))
 | _=>none
def Yj:Spec R:=fun vs h k=>match vs with
 | [.str s, .str cs]=>cb (v7 s&&v7 cs&&decide (s.length<4294967281)&&decide (cs.length<4294967281)) (k (.bool (Yi s cs)) h)
 | _=>none
def lastI_S:Spec R:=fun vs h k=>match vs with | [.str s, .str [c]]=>cb (decide (s.length≤281474976710656)) (k (.int .i64 (Ee s c)) h)|_=>none
def idx_S:Spec R:=fun vs h k=>match vs with | [.str s, .int .u8 c]=>k (.int .i64 (DS s c)) h|_=>none
end
section
variable {P:Program} {w w':World} {h:aN} {c:jS} {R:Type}
open Go.Lib
theorem W6 {s:ah} (hs:v7 s=true):∀(j:Nat) (b:UInt8),s[j]? = some b→b.toNat<128:=by
 intro j b hb
 have:=List.all_eq_true.1 hs b (List.mem_of_getElem? hb)
 simpa using this
theorem Bw (p:UInt8→Bool):∀s:ah,(s.dropWhile p).length≤s.length
 | []=>Nat.le_refl _
 | b::s=>by
  rw[List.dropWhile_cons]
  split
  ·have:=Bw p s; simp; omega
  ·exact Nat.le_refl _
theorem str_of (l:ah) (h':l.length≤mx):dn w h c (.str l) (.string ⟨l.toArray⟩):=FM _ rfl h'
theorem lG {g:Nat} {args:Array Value} {Q:Ending→World→Prop} {v:V} (hc:Calls P g args w Q)
  (hq:∀e w',Q e w'→∃d,e = .returned d∧Below w.heap.size w w'∧dn w' h c v d):Calls P g args w fun e w'=>∃d,e = .returned d∧Below w.heap.size w w'∧dn w' h c v d:=Calls.mono hc fun e w' q=>hq e w' q
end
end Go.aC
set_option maxRecDepth 100000
namespace Go.Proofs.YtidfokedcnhahaaGreatDoor
open Go Go.aC Go.RowKit Go.Shelf
section
variable {w w':World} {h:aN} {c:jS} {R:Type}
theorem below_drewN:∀(q:Nat) (a:World),Below w.heap.size w a→Below w.heap.size w (a.drewN q)
 | 0,_,ha=>ha
 | q+1,a,ha=>(below_drewN q a ha).drew
theorem below_push (a:World) (os:Array Obj) (ha:Below w.heap.size w a):Below w.heap.size w { a with heap:=a.heap++os } :=
 ⟨ha.os,ha.tape,ha.output,by simp; have:=ha.size; omega,fun k hk=>by
  have:=ha.size
  rw[←ha.block k hk]
  exact Array.getElem?_append_left (by omega)⟩
theorem below_bytes (e:TypeId) (t:ByteArray):Below w.heap.size w (Go.Lib.bytesWorld w e t):=by
 unfold Go.Lib.bytesWorld World.freeze
 have hb:Below w.heap.size w (w.drew.alloc (.cells (Go.Lib.bytesCells w e t) e)):=Df w _
 split
 ·exact hb
 ·refine ⟨hb.os,hb.tape,hb.output,?_,fun k hk => ?_⟩
  ·have:=hb.size; simpa using this
  ·rw[←hb.block k hk]
   simp only[Array.getElem?_modify]
   rw[if_neg (by show ¬w.heap.size=k; omega)]
theorem trimL_le (s cs:ah):(bu s cs).length≤s.length:=Bw _ s
theorem trimR_le (s cs:ah):(cB s cs).length≤s.length:=by
 unfold cB
 rw[List.length_reverse]
 exact Nat.le_trans (Bw _ _) (by simp)
theorem trimL_nil (s:ah):bu s []=s:=by
 unfold bu
 cases s with
 | nil=>rfl
 | cons b s=>simp
theorem trimR_nil (s:ah):cB s []=s:=by
 unfold cB
 have:(s.reverse.dropWhile fun x=>List.contains [] x)=s.reverse:=by
  cases s.reverse with
  | nil=>rfl
  | cons b s=>simp
 rw[this,List.reverse_reverse]
theorem trimL_one (s:ah) (b:UInt8):bu s [b]=Go.Lib.trimLeftB s b:=by
 unfold bu Go.Lib.trimLeftB
 congr 1
 funext x
 rw[List.contains_cons]
 show (x==b||false)=_
 rw[Bool.or_false]
theorem trimR_one (s:ah) (b:UInt8):cB s [b]=Go.Lib.trimRightB s b:=by
 unfold cB Go.Lib.trimRightB
 congr 2
 funext x
 rw[List.contains_cons]
 show (x==b||false)=_
 rw[Bool.or_false]
theorem valid_ok:aC.Spec.Ok Tryz.prog 200 (valid_S R):=by
 refine oF Tryz.func200 rfl rfl fun vs hp k r hk w c args wf ra => ?_
 unfold valid_S at hk
 split at hk <;> try (first|cases hk)
 rename_i s
 obtain ⟨a,rfl,r1⟩:=repL1 ra
 obtain ⟨t,rfl,rfl,hl⟩:=r1.iu
 refine ⟨_,hk,lG (Any.utf8_ValidString Tryz.lay196 t w hl wf.lay.1.1) ?_⟩
 rintro e w' ⟨he,hb⟩
 exact ⟨_,he,hb, .bool _⟩
theorem dec_ok:aC.Spec.Ok Tryz.prog 184 (dec_S R):=by
 refine oF Tryz.func184 rfl rfl fun vs hp k r hk w c args wf ra => ?_
 unfold dec_S at hk
 split at hk <;> try (first|cases hk)
 rename_i s
 obtain ⟨a,rfl,r1⟩:=repL1 ra
 obtain ⟨t,rfl,rfl,hl⟩:=r1.iu
 have hd:Go.Lib.decodeGo t=pd t.data.toList:=by
  unfold Go.Lib.decodeGo pd
  by_cases h0:t.size=0
  ·have:t.data.toList = []:=List.eq_nil_of_length_eq_zero (by rw[size_data]; exact h0)
   simp[h0,this]
  ·have:t.data.toList ≠ []:=fun e=>h0 (by rw[←size_data,e]; rfl)
   have hm:(⟨t.data.toList.toArray⟩:ByteArray)=t:=tB rfl
   simp[h0,hm]
   exact fun e=>absurd (show t.data.size=0 by rw[e]; rfl) h0
 have kj:(pd t.data.toList).1<2097152∧(pd t.data.toList).2≤4:=by
  unfold pd
  split
  ·exact ⟨by omega,by omega⟩
  ·exact ⟨(Uh _ _).1,(Uh _ _).2.2⟩
 refine ⟨_,hk,lG (Any.utf8_DecodeRuneInString Tryz.lay197 t w wf.lay.1.1) ?_⟩
 rintro e w' ⟨he,hb⟩
 rw[hd]at he
 refine ⟨_,he,hb, .tuple rfl fun j v d hv hd => ?_⟩
 match j,hv,hd with
 | 0,hv,hd=>simp at hv hd; subst hv; subst hd; exact .int (has_rune _ kj.1)
 | 1,hv,hd=>simp at hv hd; subst hv; subst hd; exact .int (Lb _ (by unfold mx; omega))
 | j+2,hv,_=>simp at hv
theorem itoa_ok:aC.Spec.Ok Tryz.prog 172 (itoa_S R):=by
 refine oF Tryz.func172 rfl rfl fun vs hp k r hk w c args wf ra => ?_
 unfold itoa_S at hk
 split at hk <;> try (first|cases hk)
 rename_i n
 obtain ⟨a,rfl,r1⟩:=repL1 ra
 obtain ⟨rfl,hn⟩:=r1.fk
 have hn' : -9223372036854775808≤n∧n≤9223372036854775807:=by simpa [IntKind.has,IntKind.min,IntKind.max,IntKind.signed,IntKind.bits]using hn
 refine ⟨_,hk,lG (Any.strconv_Itoa Tryz.lay171 n hn'.1 hn'.2 w wf.lay.1.2.1) ?_⟩
 rintro e w' ⟨he,q,os,rfl⟩
 refine ⟨_,he,below_push _ os (below_drewN q w (Below.refl _ _)),str_of _ ?_⟩
 have:=Go.Lib.itoa_length_le n hn'.1 hn'.2
 unfold cf mx
 omega
theorem x72:Builder.X72 Tryz.prog Tryz.Lq := { sizeBuilder:=by kernel_rfl,liesBuilder:=by kernel_rfl }
theorem xBuilder:Builder.Extra Tryz.prog Tryz.Lq := { x72 with t5:=Tryz.underlying5,a5:=Tryz.isAgg5,z5:=Tryz.sizeOf5,v5:=Tryz.zeroValue5,infoByte:=by kernel_rfl,cellsByte:=by kernel_rfl,sizeByte:=by kernel_rfl,neB5:=by decide }
theorem rep_ok:aC.Spec.Ok Tryz.prog 173 (rep_S R):=by
 refine oF Tryz.func173 rfl rfl fun vs hp k r hk w c args wf ra => ?_
 unfold rep_S at hk
 split at hk <;> try (first|cases hk)
 rename_i s n
 obtain ⟨hc,hk⟩:=bY hk
 simp only[Bool.and_eq_true,decide_eq_true_eq]at hc
 obtain ⟨h0,hlen⟩:=hc
 obtain ⟨a,b,rfl,r1,r2⟩:=repL2 ra
 obtain ⟨t,rfl,rfl,hl⟩:=r1.iu
 obtain ⟨rfl,hn⟩:=r2.fk
 obtain ⟨m,rfl⟩:=Int.eq_ofNat_of_zero_le h0
 have hn':(m:Int)≤9223372036854775807:=by
  have:IntKind.i64.has (m:Int):=hn
  simp[IntKind.has,IntKind.min,IntKind.max,IntKind.signed,IntKind.bits]at this
  omega
 rw[size_data]at hlen
 have hlen':t.size*m≤140737488355328:=by omega
 have hrl:(Go.Lib.repeatL t.data.toList m).length≤140737488355328:=by
  rw[Go.Lib.repeatL_length,size_data,Nat.mul_comm]; exact hlen'
 refine ⟨_,hk,lG (Any.strings_Repeat Tryz.lay105 xBuilder t m w (by omega) hlen') ?_⟩
 rintro e w' ⟨he,hb⟩
 refine ⟨_,he,hb,?_⟩
 have e2:k7 t.data.toList (m:Int)=Go.Lib.repeatL t.data.toList m:=by unfold k7; simp
 rw[e2]
 exact str_of _ (by unfold mx; omega)
theorem SE:aC.Spec.Ok Tryz.prog 105 (PQ R):=by
 refine oF Tryz.func105 rfl rfl fun vs hp k r hk w c args wf ra => ?_
 unfold PQ at hk
 split at hk <;> try (first|cases hk)
 rename_i s cs
 obtain ⟨hc,hk⟩:=bY hk
 simp only[Bool.and_eq_true,decide_eq_true_eq]at hc
 obtain ⟨ha,NL⟩:=hc
 obtain ⟨a,b,rfl,r1,r2⟩:=repL2 ra
 obtain ⟨t,rfl,rfl,hl⟩:=r1.iu
 obtain ⟨u,rfl,rfl,hl2⟩:=r2.iu
 rw[size_data]at NL
 have hasc:=W6 ha
 have hle:=trimL_le t.data.toList u.data.toList
 rw[size_data]at hle
 have fin:∀(l:ah),l=bu t.data.toList u.data.toList→∀w':World,dn w' hp c (.str (bu t.data.toList u.data.toList)) (.string ⟨l.toArray⟩):=fun l e w'=>by
  rw[e]; exact str_of _ (by omega)
 by_cases h0:t.size=0∨u.size=0
 ·refine ⟨_,hk,lG (Any.strings_TrimLeft_empty Tryz.lay161 t u w h0) ?_⟩
  rintro e w' ⟨he,rfl⟩
  have e2:(⟨t.data.toList.toArray⟩:ByteArray)=t:=tB rfl
  rw[←e2]at he
  refine ⟨_,he,Below.refl _ _,fin _ ?_ _⟩
  rcases h0 with h0|h0
  ·have:t.data.toList = []:=List.eq_nil_of_length_eq_zero (by rw[size_data]; exact h0)
   rw[this]; unfold bu; simp
  ·have:u.data.toList = []:=List.eq_nil_of_length_eq_zero (by rw[size_data]; exact h0)
   rw[this,trimL_nil]
 ·have hu1:u.size=1∨2≤u.size:=by omega
  rcases hu1 with hu1|hu2
  ·obtain ⟨b,hb⟩:∃b,u.data.toList = [b]:=by
    have hul:u.data.toList.length=1:=by rw[size_data]; exact hu1
    match hq:u.data.toList,hul with
    | [b],_=>exact ⟨b,rfl⟩
   have eu:u=⟨#[b]⟩:=tB (by rw[hb])
   subst eu
   refine ⟨_,hk,lG (Any.strings_TrimLeft_one Tryz.lay161 t b (hasc 0 b rfl) w) ?_⟩
   rintro e w' ⟨he,rfl⟩
   exact ⟨_,he,Below.refl _ _,fin _ (trimL_one _ _).symm _⟩
  ·refine ⟨_,hk,lG (Any.strings_TrimLeft_set Tryz.lay161 Tryz.zeroValue178 (by kernel_rfl) t u w hu2 (by omega) (by omega) hasc) ?_⟩
   rintro e w' ⟨he,rfl⟩
   refine ⟨_,he,?_,fin _ rfl _⟩
   exact ((Below.refl _ _).alloc (Nat.le_refl _) _).alloc (by simp) _
theorem trimR_ok:aC.Spec.Ok Tryz.prog 193 (trimR_S R):=by
 refine oF Tryz.func193 rfl rfl fun vs hp k r hk w c args wf ra => ?_
 unfold trimR_S at hk
 split at hk <;> try (first|cases hk)
 rename_i s cs
 obtain ⟨hc,hk⟩:=bY hk
 simp only[Bool.and_eq_true,decide_eq_true_eq]at hc
 obtain ⟨ha,NL⟩:=hc
 obtain ⟨a,b,rfl,r1,r2⟩:=repL2 ra
 obtain ⟨t,rfl,rfl,hl⟩:=r1.iu
 obtain ⟨u,rfl,rfl,hl2⟩:=r2.iu
 rw[size_data]at NL
 have hasc:=W6 ha
 have hle:=trimR_le t.data.toList u.data.toList
 rw[size_data]at hle
 have fin:∀(l:ah),l=cB t.data.toList u.data.toList→∀w':World,dn w' hp c (.str (cB t.data.toList u.data.toList)) (.string ⟨l.toArray⟩):=fun l e w'=>by
  rw[e]; exact str_of _ (by omega)
 by_cases h0:t.size=0∨u.size=0
 ·refine ⟨_,hk,lG (Any.strings_TrimRight_empty Tryz.lay162 t u w h0) ?_⟩
  rintro e w' ⟨he,rfl⟩
  have e2:(⟨t.data.toList.toArray⟩:ByteArray)=t:=tB rfl
  rw[←e2]at he
  refine ⟨_,he,Below.refl _ _,fin _ ?_ _⟩
  rcases h0 with h0|h0
  ·have:t.data.toList = []:=List.eq_nil_of_length_eq_zero (by rw[size_data]; exact h0)
   rw[this]; unfold cB; simp
  ·have:u.data.toList = []:=List.eq_nil_of_length_eq_zero (by rw[size_data]; exact h0)
   rw[this,trimR_nil]
 ·have hu1:u.size=1∨2≤u.size:=by omega
  rcases hu1 with hu1|hu2
  ·obtain ⟨b,hb⟩:∃b,u.data.toList = [b]:=by
    have hul:u.data.toList.length=1:=by rw[size_data]; exact hu1
    match hq:u.data.toList,hul with
    | [b],_=>exact ⟨b,rfl⟩
   have eu:u=⟨#[b]⟩:=tB (by rw[hb])
   subst eu
   refine ⟨_,hk,lG (Any.strings_TrimRight_one Tryz.lay162 t b (hasc 0 b rfl) w hl) ?_⟩
   rintro e w' ⟨he,rfl⟩
   exact ⟨_,he,Below.refl _ _,fin _ (trimR_one _ _).symm _⟩
  ·refine ⟨_,hk,lG (Any.strings_TrimRight_set Tryz.lay162 Tryz.zeroValue178 (by kernel_rfl) t u w hu2 (by omega) hl (by omega) hasc) ?_⟩
   rintro e w' ⟨he,rfl⟩
   refine ⟨_,he,?_,fin _ rfl _⟩
   exact ((Below.refl _ _).alloc (Nat.le_refl _) _).alloc (by simp) _
theorem atoi_ok:aC.Spec.Ok Tryz.prog 194 (atoi_S R):=by
 refine oF Tryz.func194 rfl rfl fun vs hp k r hk w c args wf ra => ?_
 unfold atoi_S at hk
 split at hk <;> try (first|cases hk)
 rename_i s
 obtain ⟨hc,hk⟩:=bY hk
 simp only[decide_eq_true_eq]at hc
 obtain ⟨a,rfl,r1⟩:=repL1 ra
 obtain ⟨t,rfl,rfl,hl⟩:=r1.iu
 rw[size_data]at hc
 obtain ⟨_,_,⟨t1,x1,hv1⟩,⟨t2,x2,hv2⟩⟩:=wf.lay.1
 have Np:IntKind.i64.has (ef t.data.toList):=by
  unfold ef
  split
  ·rename_i v hv
   unfold Go.Lib.atoiAll at hv
   split at hv
   ·cases hv
   ·dsimp only at hv
    split at hv
    ·cases hv
    ·cases hv
    ·rename_i u _
     split at hv
     ·cases hv
     ·split at hv
      ·cases hv
      ·cases hv
       split <;> simp[IntKind.has,IntKind.min,IntKind.max,IntKind.signed,IntKind.bits] <;> omega
  ·unfold Go.Lib.atoiSat
   split <;> simp[IntKind.has,IntKind.min,IntKind.max,IntKind.signed,IntKind.bits]
  ·simp[IntKind.has,IntKind.min,IntKind.max,IntKind.signed,IntKind.bits]
 have two:∀(z:Int) (u:V) (w':World) (x:Value),ef t.data.toList=z→dn w' hp c u x→dn w' hp c (.tuple [.int .i64 (ef t.data.toList),u]) (.tuple #[.int .i64 z,x]):=fun z u w' x hz hx=>by
  subst hz
  refine .tuple rfl fun j v d hv hd => ?_
  match j,hv,hd with
  | 0,hv,hd=>simp at hv hd; subst hv; subst hd; exact .int Np
  | 1,hv,hd=>simp at hv hd; subst hv; subst hd; exact hx
  | j+2,hv,_=>simp at hv
 rcases hA:Go.Lib.atoiAll t.data.toList with v|_|_
 ·
  have e1:v8 t.data.toList=true:=by unfold v8; rw[hA]
  have e2:ef t.data.toList=v:=by unfold ef; rw[hA]
  rw[e1]at hk
  refine ⟨_,hk,lG (Any.strconv_Atoi_ok Tryz.lay172 t (by omega) v hA w) ?_⟩
  rintro e w' ⟨he,hb⟩
  refine ⟨_,he,?_,two _ _ _ _ e2 .dt⟩
  rcases hb with rfl|⟨q,rfl⟩
  ·exact Below.refl _ _
  ·exact below_bytes _ _
 ·
  have e1:v8 t.data.toList=false:=by unfold v8; rw[hA]
  have e2:ef t.data.toList=0:=by unfold ef; rw[hA]
  rw[e1]at hk
  refine ⟨_,hk,lG (Any.strconv_Atoi_syntax Tryz.lay172 t hc hA (.iface t1 x1) w hv1 (.inr ⟨_,_,rfl⟩)) ?_⟩
  rintro e w' ⟨q,he,_,_,hb⟩
  exact ⟨_,he,hb,two _ _ _ _ e2 (.iface _ _)⟩
 ·
  have e1:v8 t.data.toList=false:=by unfold v8; rw[hA]
  have e2:ef t.data.toList=Go.Lib.atoiSat t.data.toList:=by unfold ef; rw[hA]
  rw[e1]at hk
  refine ⟨_,hk,lG (Any.strconv_Atoi_range Tryz.lay172 t hc hA (.iface t2 x2) w hv2 (.inr ⟨_,_,rfl⟩)) ?_⟩
  rintro e w' ⟨q,he,_,_,hb⟩
  exact ⟨_,he,hb,two _ _ _ _ e2 (.iface _ _)⟩
theorem toErr_ok:aC.Spec.Ok Tryz.prog 219 (toErr_S R 250):=by
 refine oF Tryz.func219 rfl rfl fun vs hp k r hk w c args wf ra => ?_
 unfold toErr_S at hk
 split at hk <;> try (first|cases hk)
 rename_i fn s b1 b2 t n
 obtain ⟨hc,hk1⟩:=bY hk
 obtain ⟨Vh,PF⟩:=bY hk1
 simp only[Bool.and_eq_true,Bool.or_eq_true,beq_iff_eq,decide_eq_true_eq]at hc Vh
 obtain ⟨ht,hn⟩:=hc
 have ht:=Nat.eq_of_beq_eq_true ht
 subst ht
 obtain ⟨l⟩:=args
 match l,ra with
 | [a1,a2,a3,a4,a5],ra =>
  obtain ⟨t1,rfl,rfl,_⟩:=ra.head.iu
  obtain ⟨t2,rfl,rfl,hl2⟩:=ra.tail.head.iu
  obtain ⟨rfl,_⟩:=ra.tail.tail.head.fk
  obtain ⟨rfl,_⟩:=ra.tail.tail.tail.head.fk
  obtain ⟨rfl,_⟩:=ra.tail.tail.tail.tail.head.ifi_inv
  rw[size_data]at Vh
  obtain ⟨_,_,⟨p1,x1,hv1⟩,⟨p2,x2,hv2⟩⟩:=wf.lay.1
  rcases hn with rfl|rfl
  ·refine ⟨_,PF,lG (Any.strconv_toError_syntax Tryz.lay245 t1 t2 b1 b2 (.iface p1 x1) w Vh hv1 (.inr ⟨_,_,rfl⟩)) ?_⟩
   rintro e w' ⟨q,he,_,_,hb⟩
   exact ⟨_,he,hb, .iface _ _⟩
  ·refine ⟨_,PF,lG (Any.strconv_toError_range Tryz.lay245 t1 t2 b1 b2 (.iface p2 x2) w Vh hv2 (.inr ⟨_,_,rfl⟩)) ?_⟩
   rintro e w' ⟨q,he,_,_,hb⟩
   exact ⟨_,he,hb, .iface _ _⟩
 | [],ra=>have:=ra.1; simp at this
 | [_],ra=>have:=ra.1; simp at this
 | [_,_],ra=>have:=ra.1; simp at this
 | [_,_,_],ra=>have:=ra.1; simp at this
 | [_,_,_,_],ra=>have:=ra.1; simp at this
 | _::_::_::_::_::_::_,ra=>have:=ra.1; simp at this
theorem hasAny_ok:aC.Spec.Ok Tryz.prog 253 (Yj R):=by
 refine oF Tryz.func253 rfl rfl fun vs hp k r hk w c args wf ra => ?_
 unfold Yj at hk
 split at hk <;> try (first|cases hk)
 rename_i s cs
 obtain ⟨hc,hk⟩:=bY hk
 simp only[Bool.and_eq_true,decide_eq_true_eq]at hc
 obtain ⟨⟨⟨ha,hb⟩,hsl⟩,NL⟩:=hc
 obtain ⟨a,b,rfl,r1,r2⟩:=repL2 ra
 obtain ⟨t,rfl,rfl,hl⟩:=r1.iu
 obtain ⟨u,rfl,rfl,hl2⟩:=r2.iu
 rw[size_data]at hsl NL
 refine ⟨_,hk,lG (Any.strings_ContainsAny_laid Tryz.lay150 (by kernel_rfl) t u w hsl NL (W6 ha) (W6 hb)) ?_⟩
 rintro e w' ⟨he,hb⟩
 exact ⟨_,he,hb, .bool _⟩
theorem idx_ok:aC.Spec.Ok Tryz.prog 159 (idx_S R):=by
 refine oF Tryz.func159 rfl rfl fun vs hp k r hk w c args wf ra => ?_
 unfold idx_S at hk
 split at hk <;> try (first|cases hk)
 rename_i s ch
 obtain ⟨a,b,rfl,r1,r2⟩:=repL2 ra
 obtain ⟨t,rfl,rfl,hl⟩:=r1.iu
 obtain ⟨rfl,hn⟩:=r2.fk
 have hb:IntKind.i64.has (Go.Lib.indexByte t.data.toList ch.toNat.toUInt8):=by
  have h1:=Go.Lib.indexByte_ge t.data.toList ch.toNat.toUInt8
  have h2:Go.Lib.indexByte t.data.toList ch.toNat.toUInt8≤t.data.toList.length:=by
   generalize t.data.toList=l
   induction l with
   | nil=>simp[Go.Lib.indexByte]
   | cons x l ih =>
    have:=Go.Lib.indexByte_ge l ch.toNat.toUInt8
    unfold Go.Lib.indexByte
    split
    ·simp; omega
    ·split
     ·simp; omega
     ·simp; omega
  rw[size_data]at h2
  unfold mx at hl
  generalize Go.Lib.indexByte t.data.toList ch.toNat.toUInt8=z at h1 h2
  simp[IntKind.has,IntKind.min,IntKind.max,IntKind.signed,IntKind.bits]; omega
 refine ⟨_,hk,lG (Any.strings_IndexByte Tryz.lay137 t ch w) ?_⟩
 rintro e w' ⟨he,rfl⟩
 exact ⟨_,he,Below.refl _ _, .int hb⟩
theorem lastI_ok:aC.Spec.Ok Tryz.prog 78 (lastI_S R):=by
 refine oF Tryz.func78 rfl rfl fun vs hp k r hk w c args wf ra => ?_
 unfold lastI_S at hk
 split at hk <;> try (first|cases hk)
 rename_i s ch
 obtain ⟨a,b,rfl,r1,r2⟩:=repL2 ra
 obtain ⟨t,rfl,rfl,hl⟩:=r1.iu
 obtain ⟨u,rfl,hu,hl2⟩:=r2.iu
 obtain ⟨hb,hk⟩:=bY hk
 rw[decide_eq_true_eq,size_data]at hb
 have h1:u.size=1:=by rw[←size_data,hu]; rfl
 have hu0:u[0]'(by omega)=ch:=by
  have e:u.data = #[ch]:=by
   have:=congrArg List.toArray hu
   simpa using this
  show u.data[0]'_=ch
  simp[e]
 refine ⟨_,hk,lG (Any.strings_LastIndex_one Tryz.lay148 t u h1 (by omega) w) ?_⟩
 rintro e w' ⟨he,rfl⟩
 rw[hu0]at he
 have ht:(⟨t.data.toList.toArray⟩:ByteArray)=t:=tB rfl
 have hh:IntKind.i64.has (Ee t.data.toList ch):=by
  unfold Ee
  rw[ht]
  rcases Go.Lib.lastIndexByte_spec t (ch.toNat:Int)with ⟨e,_⟩|⟨i,hi,e,_⟩
  ·rw[e]; simp[IntKind.has,IntKind.min,IntKind.max,IntKind.signed,IntKind.bits]
  ·rw[e]; simp[IntKind.has,IntKind.min,IntKind.max,IntKind.signed,IntKind.bits]; omega
 have e2:Ee t.data.toList ch=Go.Lib.lastIndexByte t (ch.toNat:Int):=by unfold Ee; rw[ht]
 refine ⟨_,he,Below.refl _ _,?_⟩
 rw[←e2]
 exact .int hh
theorem bccL:Lays.n240 Tryz.prog Tryz.Lq := { Tryz.lay105 with }
theorem Yk:aC.Spec.Ok Tryz.prog 171 (Vs R) :=
 bcc_ok Tryz.func171 rfl rfl (fun b w h0 hs hf=>Any.Builder_copyCheck_fresh bccL x72 b w h0 hs hf) (fun b w h0=>Any.Builder_copyCheck_used bccL x72 b w h0)
theorem bstrL:Lays.n169 Tryz.prog Tryz.Rw:=Tryz.lay169
theorem Ii:Builder.Extra Tryz.prog Tryz.Rw := { sizeBuilder:=by kernel_rfl,liesBuilder:=by kernel_rfl,t5:=Tryz.underlying5,a5:=Tryz.isAgg5,z5:=Tryz.sizeOf5,v5:=Tryz.zeroValue5,infoByte:=by kernel_rfl,cellsByte:=by kernel_rfl,sizeByte:=by kernel_rfl,neB5:=by decide }
set_option maxHeartbeats 1000000 in
theorem string_some (b q cap:Nat) (p:Value) (cur:Array Value) (fz:Nat×Nat) (l:List UInt8) (w:World) (h0:l ≠ []) (hbk:w.heap[b]? = some (.cells #[p, .slice (some ⟨q,0,none⟩) l.length cap] pj.mB (0,0)))
  (hq:w.heap[q]? = some (.cells cur pj.u8 fz)) (hnc:l.length≤cap) (hcm:cap≤mx) (rC:l.length≤cur.size) (C0:∀(j:Nat) (x:UInt8),l[j]? = some x→w.cell? ⟨q,j,none⟩=some (.int .u8 x.toNat)) :
  Calls Tryz.prog 84 #[.pointer (some ⟨b,0,none⟩)] w fun e w'=>e = .returned (.string ⟨l.toArray⟩)∧w'=w.drew.freeze ⟨q,0,none⟩ l.length:=by
 have Vh:l.length≠0:=by simpa using h0
 have L:=bstrL
 have X:=Ii
 have c1:w.drew.cell? ⟨b,1,none⟩=some (.slice (some ⟨q,0,none⟩) l.length cap):=by
  have h1:w.drew.heap[b]? = some (.cells #[p, .slice (some ⟨q,0,none⟩) l.length cap] pj.mB (0,0)):=hbk
  rw[Lib.cell_of_heap h1]; rfl
 have hSD:(Builtin.unsafeSliceData_ #[42] 164 #[.slice (some ⟨q,0,none⟩) l.length cap]).run Tryz.prog w.drew = .ok (.pointer (some ⟨q,0,none⟩)) w.drew :=
  Lib.run_unsafeSliceData_row _ _ _ _ _ _ (by omega)
 have hUS:(Builtin.unsafeString_ #[164,3] 9 #[.pointer (some ⟨q,0,none⟩), .int .i64 l.length]).run Tryz.prog w.drew = .ok (.string ⟨l.toArray⟩) (w.drew.freeze ⟨q,0,none⟩ l.length):=by
  refine Lib.run_unsafeString_row w.drew 164 3 9 5 L.t127 X.cellsByte q cur.size (by have hq':w.drew.heap[q]? = some (.cells cur 5 fz):=hq; simp[World.shape?,hq']) l h0 rC (by unfold mx at hcm; omega) ?_
  intro j x hx
  have:=C0 j x hx
  rw[aC.tC,Nat.zero_add]
  exact this
 have mixed:=L.mixed
 have t72:=L.t72; have a72:=L.a72; have z72:=L.z72; have v72:=L.v72; have u72:=run_underlying L.t72
 have t70:=L.t70; have a70:=L.a70; have z70:=L.z70; have v70:=L.v70; have u70:=run_underlying L.t70
 have t37:=L.t37; have a37:=L.a37; have z37:=L.z37; have v37:=L.v37; have u37:=run_underlying L.t37
 have t127:=L.t127; have a127:=L.a127; have z127:=L.z127; have v127:=L.v127; have u127:=run_underlying L.t127
 have t3:=L.t3; have a3:=L.a3; have z3:=L.z3; have v3:=L.v3; have u3:=run_underlying L.t3
 have t9:=L.t9; have a9:=L.a9; have z9:=L.z9; have v9:=L.v9; have u9:=run_underlying L.t9
 have t5:=X.t5; have a5:=X.a5; have z5:=X.z5; have v5:=X.v5; have u5:=run_underlying X.t5
 go_enter Tryz.func84,Tryz.ntmps84
 go_wp2
 go_region_o
 all_goals (go_wp2; go_ret; exact ⟨rfl,rfl⟩)
set_option maxHeartbeats 2000000 in
theorem Z3 (b q:Nat) (p:Value) (cur:Array Value) (fz:Nat×Nat) (w:World) (hbk:w.heap[b]? = some (.cells #[p, .slice (some ⟨q,0,none⟩) 0 0] pj.mB (0,0))) (hq:w.heap[q]? = some (.cells cur pj.u8 fz)) :
  Calls Tryz.prog 84 #[.pointer (some ⟨b,0,none⟩)] w fun e w'=>e = .returned (.string ⟨#[]⟩)∧Below w.heap.size w w':=by
 have L:=bstrL
 have X:=Ii
 have hUS:∀(W:World) (q:Option Addr),(Builtin.unsafeString_ #[164,3] 9 #[.pointer q, .int .i64 0]).run Tryz.prog W = .ok (.string .empty) W:=fun W q=>Lib.run_unsafeString_none W _ _ _ q
 have kj:b<w.heap.size:=by
  rcases Nat.lt_or_ge b w.heap.size with h'|h'
  ·exact h'
  ·simp[Array.getElem?_eq_none h']at hbk
 have c1:w.drew.cell? ⟨b,1,none⟩=some (.slice (some ⟨q,0,none⟩) 0 0):=by
  have:w.drew.heap[b]? = some (.cells #[p, .slice (some ⟨q,0,none⟩) 0 0] pj.mB (0,0)):=hbk
  rw[Lib.cell_of_heap this]; rfl
 have hSD:(Builtin.unsafeSliceData_ #[42] 164 #[.slice (some ⟨q,0,none⟩) 0 0]).run Tryz.prog w.drew = .ok (.pointer (some ⟨w.drew.heap.size,0,none⟩)) (w.drew.alloc (.view ⟨q,0,none⟩ 5)) :=
  Lib.run_unsafeSliceData_zero w.drew _ _ 5 L.t127 ⟨q,0,none⟩ 0 (5,cur.size) (by have hq':w.drew.heap[q]? = some (.cells cur 5 fz):=hq; simp[World.shape?,hq'])
 have c2:(w.drew.alloc (.view ⟨q,0,none⟩ 5)).cell? ⟨b,1,none⟩=some (.slice (some ⟨q,0,none⟩) 0 0):=by
  have:(w.drew.alloc (.view ⟨q,0,none⟩ 5)).heap[b]? = _:=(Lib.alloc_old w.drew _ b kj).trans hbk
  rw[Lib.cell_of_heap this]; rfl
 have c3:(w.alloc (.view ⟨q,0,none⟩ 5)).drew.cell? ⟨b,1,none⟩=some (.slice (some ⟨q,0,none⟩) 0 0):=c2
 have c0:w.cell? ⟨b,1,none⟩=some (.slice (some ⟨q,0,none⟩) 0 0):=c1
 have mixed:=L.mixed
 have t72:=L.t72; have a72:=L.a72; have z72:=L.z72; have v72:=L.v72; have u72:=run_underlying L.t72
 have t70:=L.t70; have a70:=L.a70; have z70:=L.z70; have v70:=L.v70; have u70:=run_underlying L.t70
 have t37:=L.t37; have a37:=L.a37; have z37:=L.z37; have v37:=L.v37; have u37:=run_underlying L.t37
 have t127:=L.t127; have a127:=L.a127; have z127:=L.z127; have v127:=L.v127; have u127:=run_underlying L.t127
 have t3:=L.t3; have a3:=L.a3; have z3:=L.z3; have v3:=L.v3; have u3:=run_underlying L.t3
 have t9:=L.t9; have a9:=L.a9; have z9:=L.z9; have v9:=L.v9; have u9:=run_underlying L.t9
 have t5:=X.t5; have a5:=X.a5; have z5:=X.z5; have v5:=X.v5; have u5:=run_underlying X.t5
 go_enter Tryz.func84,Tryz.ntmps84
 go_wp2
 go_region_o
 all_goals (go_wp2; go_ret; exact ⟨rfl,(Below.drew (Below.refl _ w)).alloc (Nat.le_refl _) _⟩)
theorem string_does:Yh Tryz.prog 84 where
 nil:=fun b p w hbk=>Any.Builder_String_nil bstrL Ii w.heap.size b p w hbk
 noroom:=Z3
 room:=fun b q cap p w hc hbk=>Any.Builder_String_room bstrL Ii w.heap.size b q cap p w hc hbk
 some:=string_some
theorem W7:aC.Spec.Ok Tryz.prog 84 (Lr R):=bstr_ok Tryz.func84 rfl rfl string_does
end
end Go.Proofs.YtidfokedcnhahaaGreatDoor
/-
 Functions of the program as pure Lean functions, and the ties; printed by wip/tools/emit.py.
-/
set_option maxRecDepth 100000
namespace Go.Proofs.YtidfokedcnhahaaGreatDoor
open Go Go.aC
variable {R:Type}
/-! ### slices.Index[[]string,string] -/
abbrev gL (R:Type):Type:=(List ah)→ah→(Int→Option R)→Option R
abbrev nK:List cP := [.leaf (.sl .str), .leaf (.str)]
abbrev nL:List aW := []
def uv (fn:gL R):lh R nK nL:=fun x y k=>fn x.1 x.2.1 (fun q0=>k (.int .i64 q0) [])
def nM (fn:gL R):=aI nK nL (uv fn)
abbrev kn (R:Type):Type:=Nat→(List ah)→ah→Int→Int→(Option R)→(Int→Option R)→Option R
def iv:Hint := { live := [0,1,7,8],own := [],rows := [],cells := [],drop := [],out := [4] }
abbrev eH:Type:=(List ah)×ah×Int×Int
def ke:eH→St:=fun d=>⟨.sl .str d.1 .no :: .str d.2.1::U 5 (.int .i64 d.2.2.1 :: .int .i64 d.2.2.2::U 10 ([])), []⟩
def ko (K:Ex→St→Option R):Option R:=K (.exit 0) ⟨U 19 ([]), []⟩
def kq (K:Ex→St→Option R) (q0:Int):Option R:=K (.ret) ⟨U 4 (.int .i64 q0::U 14 ([])), []⟩
abbrev fL:List cP := .leaf (.sl .str) :: .leaf (.str)::PU 5 (.leaf (.int .i64) :: .leaf (.int .i64)::PU 10 ([]))
abbrev fM:List aW := []
def rD (x:cP.bQ fL) (y:aW.bQ fM):Nat:=(List.length x.1+List.length x.2.1+Int.natAbs x.2.2.2.2.2.2.2.1+Int.natAbs ((t8 x).1)+64)
def CM (x:cP.bQ fL) (y:aW.bQ fM):eH:=(x.1,x.2.1,x.2.2.2.2.2.2.2.1,(t8 x).1)
def pT (L:kn R):wW R fL fM:=fun x y K=>L (rD x y) x.1 x.2.1 x.2.2.2.2.2.2.2.1 ((t8 x).1) (ko K) (kq K)
section
variable (aS:kn R)
def eI (dz:(List ah)→ah→Int→Int→Option R) (x3:List ah) (x4:ah) (x5:Int) (x6:Int) (e0:Option R) (e1:Int→Option R):Option R :=
 bif (decide (x6<x5))then (cb (decide ((0:Int)≤x6)&&decide (x6<x3.length)) (bif (x4==(x3.getD x6.toNat (Ty.aZ .str)))then (e1 x6)else (dz x3 x4 x5 (IntKind.i64.wrap (x6+1)))))else (e0)
def rE (K:Ex→St→Option R) (rc:eH→Option R) (d:eH):Option R:=eI (fun z0 z1 z2 z3=>rc (z0,z1,z2,z3)) d.1 d.2.1 d.2.2.1 d.2.2.2 (ko K) (kq K)
def gX:Nat→Option (Hint×cL R):=fun i=>match i with
 | 2=>some (iv,(cG fL fM (pT aS) iL))
 | _=>none
theorem zX (K:Ex→St→Option R) (rc:St→Option R) (d:eH):roundOf tt (cR []) (gX aS) 0 ((aA (bc Tryz.f127)).getD 0 .skip) iv (ke d) rc K=rE K (fun d=>rc (ke d)) d:=by kernel_rfl
def nN (x1:List ah) (x2:ah) (k0:Int→Option R):Option R :=
 aS (List.length x1+List.length x2+Int.natAbs (x1.length:Int)+Int.natAbs 0+64) x1 x2 (x1.length:Int) 0 (k0 (-1)) (fun y7=>k0 y7)
theorem EV:dE (R:=R) tt [] (gX aS) false Tryz.f127 nK nL (uv (nN aS)):=fun x y k=>by kernel_rfl
end
def aS:kn R
 | 0,_,_,_,_,_,_=>none
 | n+1,gk,gn,gw,mC,e0,e1=>eI (fun gk gn gw mC=>aS n gk gn gw mC e0 e1) gk gn gw mC e0 e1
def rF (K:Ex→St→Option R) (n:Nat) (d:eH):Option R:=aS n d.1 d.2.1 d.2.2.1 d.2.2.2 (ko K) (kq K)
theorem Bx (other:cL R) (ho:gW tt (cR []) (gX (R:=R) aS) 0 ((aA (bc Tryz.f127)).getD 0 .skip) iv other):gW tt (cR []) (gX (R:=R) aS) 0 ((aA (bc Tryz.f127)).getD 0 .skip) iv (cG fL fM (pT (aS)) other) :=
 cQ (A:=rF) ho (dV ke (rE) (rF) (fun _ _=>by kernel_rfl) (zX aS) (fun _ _ _=>by kernel_rfl)) rD CM (fun _ _=>by kernel_rfl) (fun _ _ _=>by kernel_rfl)
def bq:gL R:=fun x1 x2 k0=>nN aS x1 x2 k0
theorem CN (R:Type):∀a∈aA (bc Tryz.f127),gK tt (cR []) (gX (R:=R) aS) 0 a:=by
 refine eY 1 (by kernel_rfl) fun i hi => ?_
 match i,hi with
 | 0,_=>exact cz (by kernel_rfl) (Bx _ dv)
 | n+1,hi=>omega
theorem rY (R:Type):k8 Tryz.prog 127 (nM (bq (R:=R))):=bt TT mixed .n rfl rfl rfl rfl (CN R) (EV aS)
/-! ### slices.Contains[[]string,string] -/
abbrev fN (R:Type):Type:=(List ah)→ah→(Bool→Option R)→Option R
abbrev lM:List cP := [.leaf (.sl .str), .leaf (.str)]
abbrev lN:List aW := []
def rG (fn:fN R):lh R lM lN:=fun x y k=>fn x.1 x.2.1 (fun q0=>k (.bool q0) [])
def lO (fn:fN R):=aI lM lN (rG fn)
section
variable (bq:gL R)
def rZ:List (oq R) := [(127,true,(nM bq ax))]
def lP (x1:List ah) (x2:ah) (k0:Bool→Option R):Option R :=
 bq x1 x2 (fun y3=>k0 (decide (y3≥(0:Int))))
theorem CO:dE (R:=R) tt (rZ bq) rS false Tryz.f85 lM lN (rG (lP bq)):=fun x y k=>by kernel_rfl
end
theorem By:cu (R:=R) Tryz.prog (rZ (R:=R) bq) := .c (rY R) <| .n
def aB:fN R:=fun x1 x2 k0=>lP bq x1 x2 k0
theorem pn (R:Type):k8 Tryz.prog 85 (lO (aB (R:=R))):=bt TT mixed (By (R:=R)) rfl rfl rfl rfl cd (CO bq)
/-! ### slices.Clone[[]string,string] -/
abbrev jD (R:Type):Type:=(List ah)→((List ah)→Option R)→Option R
abbrev nO:List cP := [.leaf (.sl .str)]
abbrev nP:List aW := []
def uw (fn:jD R):lh R nO nP:=fun x y k=>fn x.1 (fun q0=>k (.sl .str q0 .no) [])
def vi (fn:jD R):=aI nO nP (uw fn)
section
def nQ (x1:List ah) (k0:(List ah)→Option R):Option R :=
 bif x1.isEmpty then (anyT (k0 ([]:List ah)) (cb (decide ((0+x1.length)*16≤140737488355328)) (k0 (([]:List ah)++x1))))else (cb (decide ((0+x1.length)*16≤140737488355328)) (k0 (([]:List ah)++x1)))
theorem EW:dE (R:=R) tt [] rS false Tryz.f128 nO nP (uw nQ):=fun x y k=>by kernel_rfl
end
def bm:jD R:=fun x1 k0=>nQ x1 k0
theorem Dm (R:Type):k8 Tryz.prog 128 (vi (bm (R:=R))):=bt TT mixed .n rfl rfl rfl rfl cd (EW)
/-! ### slices.Clone[[]humpyard/api.Json,humpyard/api.Json] -/
abbrev jk (R:Type):Type:=(List Json)→(Option R)→(Nat→(List Json)→Option R)→Option R
abbrev mV:List cP := [.leaf (.sl .json)]
abbrev mW:List aW := []
def tq (fn:jk R):lh R mV mW:=fun x y k=>fn x.1 (k (.bx) []) (fun q0 q1=>k (.row 0 q0) [.row .json q1])
def ux (fn:jk R):=aI mV mW (tq fn)
section
def mX (x1:List Json) (k0:Option R) (k1:Nat→(List Json)→Option R):Option R :=
 bif x1.isEmpty then (anyT (k0) (cb (decide ((0+x1.length)*88≤140737488355328)) (k1 (0+x1.length) (([]:List Json)++x1))))else (cb (decide ((0+x1.length)*88≤140737488355328)) (k1 (0+x1.length) (([]:List Json)++x1)))
theorem Ef:dE (R:=R) (tt.mode [.json]) [] rS true Tryz.f129 mV mW (tq mX):=fun x y k=>by kernel_rfl
end
def bh:jk R:=fun x1 k0 k1=>mX x1 k0 k1
theorem CP (R:Type):k8 Tryz.prog 129 (ux (bh (R:=R))):=bt (TT.mode [.json]) mixed .n rfl rfl rfl rfl cd (Ef)
/-! ### humpyard/field.fresh -/
abbrev dL (R:Type):Type:=Json→(Json→Option R)→Option R
abbrev l7:List cP := [.agg [.int .i64, .int .i64, .int .i64, .str, .sl .str, .sl .json]]
abbrev l8:List aW := []
def gN (fn:dL R):lh R l7 l8:=fun x y k=>fn (⟨x.1.1,⟨x.1.2.1,x.1.2.2.1⟩,x.1.2.2.2.1,x.1.2.2.2.2.1,x.1.2.2.2.2.2.1⟩:Json) (fun q0=>k (.agg [.int .i64 q0.kind, .int .i64 q0.num.ao, .int .i64 q0.num.exp, .str q0.text, .sl .str q0.names .no, .sl .json q0.items .no]) [])
def DT (fn:dL R):=aI l7 l8 (gN fn)
abbrev zY (R:Type):Type:=Nat→Int→Int→Int→Int→Int→ah→(List ah)→Int→Int→Int→ah→(Int→Int→Int→ah→(List ah)→Int→Int→Int→ah→Option R)→Option R
abbrev zZ (R:Type):Type:=Nat→Nat→Int→Int→Int→Int→Int→ah→(List ah)→Nat→Int→Int→Int→ah→(List Json)→(Int→Int→Int→ah→(List ah)→Nat→Int→Int→Int→ah→(List Json)→Option R)→Option R
def vj:Hint := { live := [1,2,14,15,16],own := [],rows := [],cells := [],drop := [],out := [1,2] }
abbrev mF:Type:=Int×Int×Int×Int×Int×ah×(List ah)×Int×Int×Int×ah
def xR:mF→St:=fun d=>⟨.undef :: .ptr 0 0 :: .ptr 1 0::U 11 (.bx :: .int .i64 d.1 :: .int .i64 d.2.1::U 12 ([])), [.cells [.int .i64 d.2.2.1, .int .i64 d.2.2.2.1, .int .i64 d.2.2.2.2.1, .str d.2.2.2.2.2.1, .sl .str d.2.2.2.2.2.2.1 .no, .bx], .cells [.int .i64 d.2.2.2.2.2.2.2.1, .int .i64 d.2.2.2.2.2.2.2.2.1, .int .i64 d.2.2.2.2.2.2.2.2.2.1, .str d.2.2.2.2.2.2.2.2.2.2, .bx, .bx]]⟩
def Aa (K:Ex→St→Option R) (q0:Int) (q1:Int) (q2:Int) (q3:ah) (q4:List ah) (q5:Int) (q6:Int) (q7:Int) (q8:ah):Option R:=K (.exit 0) ⟨.undef :: .ptr 0 0 :: .ptr 1 0::U 26 ([]), [.cells [.int .i64 q0, .int .i64 q1, .int .i64 q2, .str q3, .sl .str q4 .no, .bx], .cells [.int .i64 q5, .int .i64 q6, .int .i64 q7, .str q8, .bx, .bx]]⟩
abbrev pU:List cP := .leaf (.undef) :: .leaf (.ptr 0 0) :: .leaf (.ptr 1 0)::PU 11 (.leaf (.bx) :: .leaf (.int .i64) :: .leaf (.int .i64)::PU 12 ([]))
abbrev pV:List aW := [.cells [.int .i64, .int .i64, .int .i64, .str, .sl .str, .bx], .cells [.int .i64, .int .i64, .int .i64, .str, .bx, .bx]]
def Ij (x:cP.bQ pU) (y:aW.bQ pV):Nat:=(Int.natAbs ((t8 x).2.2.2.2.2.2.2.1)+Int.natAbs ((t8 (t8 x)).1)+Int.natAbs y.1.1+Int.natAbs y.1.2.1+Int.natAbs y.1.2.2.1+List.length y.1.2.2.2.1+List.length y.1.2.2.2.2.1+Int.natAbs y.2.1.1+Int.natAbs y.2.1.2.1+Int.natAbs y.2.1.2.2.1+List.length y.2.1.2.2.2.1+64)
def SF (x:cP.bQ pU) (y:aW.bQ pV):mF:=((t8 x).2.2.2.2.2.2.2.1,(t8 (t8 x)).1,y.1.1,y.1.2.1,y.1.2.2.1,y.1.2.2.2.1,y.1.2.2.2.2.1,y.2.1.1,y.2.1.2.1,y.2.1.2.2.1,y.2.1.2.2.2.1)
def GO (L:zY R):wW R pU pV:=fun x y K=>L (Ij x y) ((t8 x).2.2.2.2.2.2.2.1) ((t8 (t8 x)).1) y.1.1 y.1.2.1 y.1.2.2.1 y.1.2.2.2.1 y.1.2.2.2.2.1 y.2.1.1 y.2.1.2.1 y.2.1.2.2.1 y.2.1.2.2.2.1 (Aa K)
def Bz:Hint := { live := [1,2,14,15,16],own := [],rows := [],cells := [],drop := [],out := [1,2] }
abbrev mG:Type:=Nat×Int×Int×Int×Int×Int×ah×(List ah)×Nat×Int×Int×Int×ah×(List Json)
def xS:mG→St:=fun d=>⟨.undef :: .ptr 0 0 :: .ptr 1 0::U 11 (.row 2 d.1 :: .int .i64 d.2.1 :: .int .i64 d.2.2.1::U 12 ([])), [.cells [.int .i64 d.2.2.2.1, .int .i64 d.2.2.2.2.1, .int .i64 d.2.2.2.2.2.1, .str d.2.2.2.2.2.2.1, .sl .str d.2.2.2.2.2.2.2.1 .no, .row 2 d.2.2.2.2.2.2.2.2.1], .cells [.int .i64 d.2.2.2.2.2.2.2.2.2.1, .int .i64 d.2.2.2.2.2.2.2.2.2.2.1, .int .i64 d.2.2.2.2.2.2.2.2.2.2.2.1, .str d.2.2.2.2.2.2.2.2.2.2.2.2.1, .bx, .bx], .row .json d.2.2.2.2.2.2.2.2.2.2.2.2.2]⟩
def Ab (K:Ex→St→Option R) (q0:Int) (q1:Int) (q2:Int) (q3:ah) (q4:List ah) (q5:Nat) (q6:Int) (q7:Int) (q8:Int) (q9:ah) (Z4:List Json):Option R:=K (.exit 0) ⟨.undef :: .ptr 0 0 :: .ptr 1 0::U 26 ([]), [.cells [.int .i64 q0, .int .i64 q1, .int .i64 q2, .str q3, .sl .str q4 .no, .row 2 q5], .cells [.int .i64 q6, .int .i64 q7, .int .i64 q8, .str q9, .bx, .bx], .row .json Z4]⟩
abbrev pW:List cP := .leaf (.undef) :: .leaf (.ptr 0 0) :: .leaf (.ptr 1 0)::PU 11 (.leaf (.row 2) :: .leaf (.int .i64) :: .leaf (.int .i64)::PU 12 ([]))
abbrev pX:List aW := [.cells [.int .i64, .int .i64, .int .i64, .str, .sl .str, .row 2], .cells [.int .i64, .int .i64, .int .i64, .str, .bx, .bx], .row .json]
def Ik (x:cP.bQ pW) (y:aW.bQ pX):Nat:=(Int.natAbs ((t8 x).2.2.2.2.2.2.2.1)+Int.natAbs ((t8 (t8 x)).1)+Int.natAbs y.1.1+Int.natAbs y.1.2.1+Int.natAbs y.1.2.2.1+List.length y.1.2.2.2.1+List.length y.1.2.2.2.2.1+Int.natAbs y.2.1.1+Int.natAbs y.2.1.2.1+Int.natAbs y.2.1.2.2.1+List.length y.2.1.2.2.2.1+List.length y.2.2.1+64)
def SG (x:cP.bQ pW) (y:aW.bQ pX):mG:=((t8 x).2.2.2.2.2.2.1,(t8 x).2.2.2.2.2.2.2.1,(t8 (t8 x)).1,y.1.1,y.1.2.1,y.1.2.2.1,y.1.2.2.2.1,y.1.2.2.2.2.1,y.1.2.2.2.2.2.1,y.2.1.1,y.2.1.2.1,y.2.1.2.2.1,y.2.1.2.2.2.1,y.2.2.1)
def GP (L:zZ R):wW R pW pX:=fun x y K=>L (Ik x y) ((t8 x).2.2.2.2.2.2.1) ((t8 x).2.2.2.2.2.2.2.1) ((t8 (t8 x)).1) y.1.1 y.1.2.1 y.1.2.2.1 y.1.2.2.2.1 y.1.2.2.2.2.1 y.1.2.2.2.2.2.1 y.2.1.1 y.2.1.2.1 y.2.1.2.2.1 y.2.1.2.2.2.1 y.2.2.1 (Ab K)
section
variable (aF:dL R) (bh:jk R) (bm:jD R) (cC:zY R) (cj:zZ R)
def l9:List (oq R) := [(86,true,(aI l7 l8 (gN aF) ax)),(129,false,(ux bh ax)),(128,true,(vi bm ax))]
def Il (dz:Int→Int→Int→Int→Int→ah→(List ah)→Int→Int→Int→ah→Option R) (x5:Int) (x6:Int) (x7:Int) (x8:Int) (x9:Int) (Ut:ah) (Nq:List ah) (CJ:Int) (HG:Int) (Ls:Int) (ot:ah) (e0:Int→Int→Int→ah→(List ah)→Int→Int→Int→ah→Option R):Option R :=
 bif (decide (x6<x5))then (none)else (e0 x7 x8 x9 Ut Nq CJ HG Ls ot)
def Im (K:Ex→St→Option R) (rc:mF→Option R) (d:mF):Option R:=Il (fun z0 z1 z2 z3 z4 z5 z6 z7 z8 z9 Rx=>rc (z0,z1,z2,z3,z4,z5,z6,z7,z8,z9,Rx)) d.1 d.2.1 d.2.2.1 d.2.2.2.1 d.2.2.2.2.1 d.2.2.2.2.2.1 d.2.2.2.2.2.2.1 d.2.2.2.2.2.2.2.1 d.2.2.2.2.2.2.2.2.1 d.2.2.2.2.2.2.2.2.2.1 d.2.2.2.2.2.2.2.2.2.2 (Aa K)
def vk (dz:Nat→Int→Int→Int→Int→Int→ah→(List ah)→Nat→Int→Int→Int→ah→(List Json)→Option R) (Qu:Nat) (x26:Int) (ZL:Int) (x28:Int) (x29:Int) (x30:Int) (x31:ah) (x32:List ah) (x33:Nat) (x34:Int) (x35:Int) (x36:Int) (x37:ah) (x38:List Json) (e0:Int→Int→Int→ah→(List ah)→Nat→Int→Int→Int→ah→(List Json)→Option R):Option R :=
 bif (decide (ZL<x26))then (cb (decide ((0:Int)≤ZL)&&decide (ZL<Qu)) (cb (decide (ZL.toNat<x38.length)) (aF (⟨(x38.getD ZL.toNat (Ty.aZ .json)).kind,⟨(x38.getD ZL.toNat (Ty.aZ .json)).num.ao,(x38.getD ZL.toNat (Ty.aZ .json)).num.exp⟩,(x38.getD ZL.toNat (Ty.aZ .json)).text,(x38.getD ZL.toNat (Ty.aZ .json)).names,(x38.getD ZL.toNat (Ty.aZ .json)).items⟩:Json) (fun W8=>cb (decide ((0:Int)≤ZL)&&decide (ZL<x33)) (cb (decide (ZL.toNat<x38.length)) (dz Qu x26 (IntKind.i64.wrap (ZL+1)) x28 x29 x30 x31 x32 x33 x34 x35 x36 x37 (x38.set ZL.toNat (⟨W8.kind,⟨W8.num.ao,W8.num.exp⟩,W8.text,W8.names,W8.items⟩:Json))))))))else (e0 x28 x29 x30 x31 x32 x33 x34 x35 x36 x37 x38)
def Io (K:Ex→St→Option R) (rc:mG→Option R) (d:mG):Option R:=vk aF (fun z0 z1 z2 z3 z4 z5 z6 z7 z8 z9 Rx vP z12 z13=>rc (z0,z1,z2,z3,z4,z5,z6,z7,z8,z9,Rx,vP,z12,z13)) d.1 d.2.1 d.2.2.1 d.2.2.2.1 d.2.2.2.2.1 d.2.2.2.2.2.1 d.2.2.2.2.2.2.1 d.2.2.2.2.2.2.2.1 d.2.2.2.2.2.2.2.2.1 d.2.2.2.2.2.2.2.2.2.1 d.2.2.2.2.2.2.2.2.2.2.1 d.2.2.2.2.2.2.2.2.2.2.2.1 d.2.2.2.2.2.2.2.2.2.2.2.2.1 d.2.2.2.2.2.2.2.2.2.2.2.2.2 (Ab K)
def n9:Nat→Option (Hint×cL R):=fun i=>match i with
 | 4=>some (vj,(cG pU pV (GO cC) (cG pW pX (GP cj) iL)))
 | _=>none
theorem N4 (K:Ex→St→Option R) (rc:St→Option R) (d:mF):roundOf tt (cR (l9 aF bh bm)) (n9 cC cj) 0 ((aA (bc Tryz.f86)).getD 0 .skip) vj (xR d) rc K=Im K (fun d=>rc (xR d)) d:=by kernel_rfl
theorem N5 (K:Ex→St→Option R) (rc:St→Option R) (d:mG):roundOf tt (cR (l9 aF bh bm)) (n9 cC cj) 0 ((aA (bc Tryz.f86)).getD 0 .skip) Bz (xS d) rc K=Io aF K (fun d=>rc (xS d)) d:=by kernel_rfl
def Ja (x1:Json) (k0:Json→Option R):Option R :=
 bm x1.names (fun y2=>bh x1.items (cC (Int.natAbs 0+Int.natAbs 0+Int.natAbs x1.kind+Int.natAbs x1.num.ao+Int.natAbs x1.num.exp+List.length x1.text+List.length y2+Int.natAbs 0+Int.natAbs 0+Int.natAbs 0+List.length ([]:ah)+64) 0 0 x1.kind x1.num.ao x1.num.exp x1.text y2 0 0 0 ([]:ah) (fun EN Sb Nr ZM V9 GQ y22 y23 y24=>k0 (⟨EN,⟨Sb,Nr⟩,ZM,V9,([]:List Json)⟩:Json))) (fun y3 y4=>cj (Int.natAbs (y3:Int)+Int.natAbs 0+Int.natAbs x1.kind+Int.natAbs x1.num.ao+Int.natAbs x1.num.exp+List.length x1.text+List.length y2+Int.natAbs 0+Int.natAbs 0+Int.natAbs 0+List.length ([]:ah)+List.length y4+64) y3 (y3:Int) 0 x1.kind x1.num.ao x1.num.exp x1.text y2 y3 0 0 0 ([]:ah) y4 (fun ZN Z5 Z6 W9 y44 y45 y46 y47 y48 y49 y50=>k0 (⟨ZN,⟨Z5,Z6⟩,W9,y44,y50⟩:Json))))
theorem Yl:dE (R:=R) tt (l9 aF bh bm) (n9 cC cj) false Tryz.f86 l7 l8 (gN (Ja bh bm cC cj)):=fun x y k=>by kernel_rfl
end
theorem Wa (aF:dL R) (uy:aC.Spec.Ok Tryz.prog 86 (aI l7 l8 (gN aF) ax)):cu (R:=R) Tryz.prog (l9 (R:=R) aF bh bm) := .p uy <| .d (CP R) rfl <| .c (Dm R) <| .n
def cC:zY R
 | 0,_,_,_,_,_,_,_,_,_,_,_,_=>none
 | n+1,gk,gn,gw,mC,wa,xT,Eg,Eh,HH,HI,pF,e0=>Il (fun gk gn gw mC wa xT Eg Eh HH HI pF=>cC n gk gn gw mC wa xT Eg Eh HH HI pF e0) gk gn gw mC wa xT Eg Eh HH HI pF e0
def Ip (K:Ex→St→Option R) (n:Nat) (d:mF):Option R:=cC n d.1 d.2.1 d.2.2.1 d.2.2.2.1 d.2.2.2.2.1 d.2.2.2.2.2.1 d.2.2.2.2.2.2.1 d.2.2.2.2.2.2.2.1 d.2.2.2.2.2.2.2.2.1 d.2.2.2.2.2.2.2.2.2.1 d.2.2.2.2.2.2.2.2.2.2 (Aa K)
def cj (aF:dL R):zZ R
 | 0,_,_,_,_,_,_,_,_,_,_,_,_,_,_,_=>none
 | n+1,gk,gn,gw,mC,wa,xT,Eg,Eh,HH,HI,pF,xU,Dn,Dp,e0=>vk aF (fun gk gn gw mC wa xT Eg Eh HH HI pF xU Dn Dp=>cj aF n gk gn gw mC wa xT Eg Eh HH HI pF xU Dn Dp e0) gk gn gw mC wa xT Eg Eh HH HI pF xU Dn Dp e0
def Iq (aF:dL R) (K:Ex→St→Option R) (n:Nat) (d:mG):Option R:=cj aF n d.1 d.2.1 d.2.2.1 d.2.2.2.1 d.2.2.2.2.1 d.2.2.2.2.2.1 d.2.2.2.2.2.2.1 d.2.2.2.2.2.2.2.1 d.2.2.2.2.2.2.2.2.1 d.2.2.2.2.2.2.2.2.2.1 d.2.2.2.2.2.2.2.2.2.2.1 d.2.2.2.2.2.2.2.2.2.2.2.1 d.2.2.2.2.2.2.2.2.2.2.2.2.1 d.2.2.2.2.2.2.2.2.2.2.2.2.2 (Ab K)
theorem Ry (aF:dL R) (other:cL R) (ho:gW tt (cR (l9 (R:=R) aF bh bm)) (n9 (R:=R) cC (cj aF)) 0 ((aA (bc Tryz.f86)).getD 0 .skip) vj other):gW tt (cR (l9 (R:=R) aF bh bm)) (n9 (R:=R) cC (cj aF)) 0 ((aA (bc Tryz.f86)).getD 0 .skip) vj (cG pU pV (GO (cC)) other) :=
 cQ (A:=Ip) ho (dV xR (Im) (Ip) (fun _ _=>by kernel_rfl) (N4 aF bh bm cC (cj aF)) (fun _ _ _=>by kernel_rfl)) Ij SF (fun _ _=>by kernel_rfl) (fun _ _ _=>by kernel_rfl)
theorem Rz (aF:dL R) (other:cL R) (ho:gW tt (cR (l9 (R:=R) aF bh bm)) (n9 (R:=R) cC (cj aF)) 0 ((aA (bc Tryz.f86)).getD 0 .skip) Bz other):gW tt (cR (l9 (R:=R) aF bh bm)) (n9 (R:=R) cC (cj aF)) 0 ((aA (bc Tryz.f86)).getD 0 .skip) Bz (cG pW pX (GP (cj aF)) other) :=
 cQ (A:=Iq aF) ho (dV xS (Io aF) (Iq aF) (fun _ _=>by kernel_rfl) (N5 aF bh bm cC (cj aF)) (fun _ _ _=>by kernel_rfl)) Ik SG (fun _ _=>by kernel_rfl) (fun _ _ _=>by kernel_rfl)
def yG (aF:dL R):dL R:=fun x1 k0=>Ja bh bm cC (cj aF) x1 k0
theorem SH (R:Type) (aF:dL R) (uy:aC.Spec.Ok Tryz.prog 86 (aI l7 l8 (gN aF) ax)):∀a∈aA (bc Tryz.f86),gK tt (cR (l9 (R:=R) aF bh bm)) (n9 (R:=R) cC (cj aF)) 0 a:=by
 refine eY 1 (by kernel_rfl) fun i hi => ?_
 match i,hi with
 | 0,_=>exact cz (by kernel_rfl) (Ry aF _ (Rz aF _ dv))
 | n+1,hi=>omega
theorem SI (R:Type) (aF:dL R) (uy:aC.Spec.Ok Tryz.prog 86 (aI l7 l8 (gN aF) ax)):k8 Tryz.prog 86 (DT (yG aF)):=bt TT mixed (Wa aF uy) rfl rfl rfl rfl (SH R aF uy) (Yl aF bh bm cC (cj aF))
def iJ:Nat→dL R
 | 0,_,_=>none
 | n+1,gk,k0'=>yG (iJ n) gk k0'
theorem field_fresh_N_succ (n:Nat):iJ (R:=R) (n+1)=yG (iJ n):=by kernel_rfl
theorem Uu (R:Type):∀n,aC.Spec.Ok Tryz.prog 86 (aI l7 l8 (gN (iJ (R:=R) n)) ax) :=
 AO (run:=fun n=>gN (iJ (R:=R) n)) (fun x y k=>by kernel_rfl) fun n hyp=>SI R (iJ n) hyp ax (jm _)
def cq:dL R:=fun x1 k0=>iJ (Json.depth x1+2) x1 k0
theorem Uv (R:Type):gN (R:=R) cq=fun x y k=>gN (iJ (Json.depth (⟨x.1.1,⟨x.1.2.1,x.1.2.2.1⟩,x.1.2.2.2.1,x.1.2.2.2.2.1,x.1.2.2.2.2.2.1⟩:Json)+2)) x y k:=by kernel_rfl
theorem Dq (R:Type) (other:aC.Spec R) (ho:aC.Spec.Ok Tryz.prog 86 other):aC.Spec.Ok Tryz.prog 86 (aI l7 l8 (gN cq) other) :=
 GN (Ka (run:=fun n=>gN (iJ (R:=R) n)) (fun x y=>(Json.depth (⟨x.1.1,⟨x.1.2.1,x.1.2.2.1⟩,x.1.2.2.2.1,x.1.2.2.2.2.1,x.1.2.2.2.2.2.1⟩:Json)+2)) ho (Uu R)) (Uv R)
end Go.Proofs.YtidfokedcnhahaaGreatDoor
/-
 Functions of the program as pure Lean functions, and the ties; printed by wip/tools/emit.py.
-/
set_option maxRecDepth 100000
namespace Go.Proofs.YtidfokedcnhahaaGreatDoor
open Go Go.aC
variable {R:Type}
/-! ### humpyard/topic.Name -/
abbrev topic_Name_ty (R:Type):Type:=ah→(Bool→Option R)→Option R
abbrev topic_Name_p:List cP := [.leaf (.str)]
abbrev topic_Name_q:List aW := []
def topic_Name_rr (fn:topic_Name_ty R):lh R topic_Name_p topic_Name_q:=fun x y k=>fn x.1 (fun q0=>k (.bool q0) [])
def topic_Name_s (fn:topic_Name_ty R):=aI topic_Name_p topic_Name_q (topic_Name_rr fn)
section
def topic_Name_E:List (oq R) := [(105,true,(PQ R))]
def topic_Name_X (x1:ah) (k0:Bool→Option R):Option R :=
 cb (v7 ([97,98,99,100,101,102,103,104,105,106,107,108,109,110,111,112,113,114,115,116,117,118,119,120,121,122,65,66,67,68,69,70,71,72,73,74,75,76,77,78,79,80,81,82,83,84,85,86,87,88,89,90,48,49,50,51,52,53,54,55,56,57,95,46,58,45]:ah)&&decide (([97,98,99,100,101,102,103,104,105,106,107,108,109,110,111,112,113,114,115,116,117,118,119,120,121,122,65,66,67,68,69,70,71,72,73,74,75,76,77,78,79,80,81,82,83,84,85,86,87,88,89,90,48,49,50,51,52,53,54,55,56,57,95,46,58,45]:ah).length<4294967281)) (bif ((bu x1 ([97,98,99,100,101,102,103,104,105,106,107,108,109,110,111,112,113,114,115,116,117,118,119,120,121,122,65,66,67,68,69,70,71,72,73,74,75,76,77,78,79,80,81,82,83,84,85,86,87,88,89,90,48,49,50,51,52,53,54,55,56,57,95,46,58,45]:ah))==([]:ah))then (bif (!(x1==([]:ah)))then (k0 (decide ((x1.length:Int)≤(16:Int))))else (k0 false))else (k0 false))
theorem topic_Name_ok:dE (R:=R) tt (topic_Name_E (R:=R)) rS false Tryz.f61 topic_Name_p topic_Name_q (topic_Name_rr topic_Name_X):=fun x y k=>by kernel_rfl
end
theorem topic_Name_EOk:cu (R:=R) Tryz.prog (topic_Name_E (R:=R)) := .p (SE) <| .n
def topic_Name:topic_Name_ty R:=fun x1 k0=>topic_Name_X x1 k0
theorem topic_Name_S_ok (R:Type):k8 Tryz.prog 61 (topic_Name_s (topic_Name (R:=R))):=bt TT mixed (topic_Name_EOk (R:=R)) rfl rfl rfl rfl cd (topic_Name_ok)
/-! ### humpyard/order.num$1 -/
abbrev BA (R:Type):Type:=Int→(Bool→Option R)→Option R
abbrev Jb:List cP := [.leaf (.int .i64)]
abbrev Jc:List aW := []
def N6 (fn:BA R):lh R Jb Jc:=fun x y k=>fn x.1 (fun q0=>k (.bool q0) [])
def Qv (fn:BA R):=aI Jb Jc (N6 fn)
section
def Jd (x1:Int) (k0:Bool→Option R):Option R :=
 bif (decide (x1<(0:Int)))then (k0 true)else (k0 (decide (x1>(1000000000:Int))))
theorem Ym:dE (R:=R) tt [] rS false Tryz.f107 Jb Jc (N6 Jd):=fun x y k=>by kernel_rfl
end
def fm:BA R:=fun x1 k0=>Jd x1 k0
theorem Uw (R:Type):k8 Tryz.prog 107 (Qv (fm (R:=R))):=bt TT mixed .n rfl rfl rfl rfl cd (Ym)
/-! ### slices.IndexFunc[[]int,int] -/
abbrev iw (R:Type):Type:=(List Int)→(Int→Option R)→Option R
abbrev lQ:List cP := [.leaf (.sl (.int .i64)), .leaf (.fn 107)]
abbrev lR:List aW := []
def rH (fn:iw R):lh R lQ lR:=fun x y k=>fn x.1 (fun q0=>k (.int .i64 q0) [])
def r4 (fn:iw R):=aI lQ lR (rH fn)
abbrev js (R:Type):Type:=Nat→(List Int)→Int→Int→(Option R)→(Int→Option R)→Option R
def gC:Hint := { live := [0,1,7,8],own := [],rows := [],cells := [],drop := [],out := [4] }
abbrev dP:Type:=(List Int)×Int×Int
def jj:dP→St:=fun d=>⟨.sl (.int .i64) d.1 .no :: .func 107 [] []::U 5 (.int .i64 d.2.1 :: .int .i64 d.2.2::U 10 ([])), []⟩
def jt (K:Ex→St→Option R):Option R:=K (.exit 0) ⟨U 19 ([]), []⟩
def ju (K:Ex→St→Option R) (q0:Int):Option R:=K (.ret) ⟨U 4 (.int .i64 q0::U 14 ([])), []⟩
abbrev eT:List cP := .leaf (.sl (.int .i64)) :: .leaf (.fn 107)::PU 5 (.leaf (.int .i64) :: .leaf (.int .i64)::PU 10 ([]))
abbrev eU:List aW := []
def oG (x:cP.bQ eT) (y:aW.bQ eU):Nat:=(List.length x.1+Int.natAbs x.2.2.2.2.2.2.2.1+Int.natAbs ((t8 x).1)+64)
def Ac (x:cP.bQ eT) (y:aW.bQ eU):dP:=(x.1,x.2.2.2.2.2.2.2.1,(t8 x).1)
def oa (L:js R):wW R eT eU:=fun x y K=>L (oG x y) x.1 x.2.2.2.2.2.2.2.1 ((t8 x).1) (jt K) (ju K)
section
variable (fm:BA R) (aU:js R)
def eP:List (oq R) := [(107,true,(Qv fm ax))]
def gD (dz:(List Int)→Int→Int→Option R) (x2:List Int) (x3:Int) (x4:Int) (e0:Option R) (e1:Int→Option R):Option R :=
 bif (decide (x4<x3))then (cb (decide ((0:Int)≤x4)&&decide (x4<x2.length)) (fm (x2.getD x4.toNat (Ty.aZ (.int .i64))) (fun y5=>bif y5 then (e1 x4)else (dz x2 x3 (IntKind.i64.wrap (x4+1))))))else (e0)
def oH (K:Ex→St→Option R) (rc:dP→Option R) (d:dP):Option R:=gD fm (fun z0 z1 z2=>rc (z0,z1,z2)) d.1 d.2.1 d.2.2 (jt K) (ju K)
def fX:Nat→Option (Hint×cL R):=fun i=>match i with
 | 2=>some (gC,(cG eT eU (oa aU) iL))
 | _=>none
theorem wX (K:Ex→St→Option R) (rc:St→Option R) (d:dP):roundOf tt (cR (eP fm)) (fX aU) 0 ((aA (bc Tryz.f143)).getD 0 .skip) gC (jj d) rc K=oH fm K (fun d=>rc (jj d)) d:=by kernel_rfl
def lS (x1:List Int) (k0:Int→Option R):Option R :=
 aU (List.length x1+Int.natAbs (x1.length:Int)+Int.natAbs 0+64) x1 (x1.length:Int) 0 (k0 (-1)) (fun y6=>k0 y6)
theorem CQ:dE (R:=R) tt (eP fm) (fX aU) false Tryz.f143 lQ lR (rH (lS aU)):=fun x y k=>by kernel_rfl
end
theorem BB:cu (R:=R) Tryz.prog (eP (R:=R) fm) := .c (Uw R) <| .n
def aU:js R
 | 0,_,_,_,_,_=>none
 | n+1,gk,gn,gw,e0,e1=>gD fm (fun gk gn gw=>aU n gk gn gw e0 e1) gk gn gw e0 e1
def oI (K:Ex→St→Option R) (n:Nat) (d:dP):Option R:=aU n d.1 d.2.1 d.2.2 (jt K) (ju K)
theorem yH (other:cL R) (ho:gW tt (cR (eP (R:=R) fm)) (fX (R:=R) aU) 0 ((aA (bc Tryz.f143)).getD 0 .skip) gC other):gW tt (cR (eP (R:=R) fm)) (fX (R:=R) aU) 0 ((aA (bc Tryz.f143)).getD 0 .skip) gC (cG eT eU (oa (aU)) other) :=
 cQ (A:=oI) ho (dV jj (oH fm) (oI) (fun _ _=>by kernel_rfl) (wX fm aU) (fun _ _ _=>by kernel_rfl)) oG Ac (fun _ _=>by kernel_rfl) (fun _ _ _=>by kernel_rfl)
def cJ:iw R:=fun x1 k0=>lS aU x1 k0
theorem Ad (R:Type):∀a∈aA (bc Tryz.f143),gK tt (cR (eP (R:=R) fm)) (fX (R:=R) aU) 0 a:=by
 refine eY 1 (by kernel_rfl) fun i hi => ?_
 match i,hi with
 | 0,_=>exact cz (by kernel_rfl) (yH _ dv)
 | n+1,hi=>omega
theorem Ba (R:Type):k8 Tryz.prog 143 (r4 (cJ (R:=R))):=bt TT mixed (BB (R:=R)) rfl rfl rfl rfl (Ad R) (CQ fm aU)
/-! ### slices.ContainsFunc[[]int,int] -/
abbrev gE (R:Type):Type:=(List Int)→(Bool→Option R)→Option R
abbrev kf:List cP := [.leaf (.sl (.int .i64)), .leaf (.fn 107)]
abbrev kg:List aW := []
def oJ (fn:gE R):lh R kf kg:=fun x y k=>fn x.1 (fun q0=>k (.bool q0) [])
def po (fn:gE R):=aI kf kg (oJ fn)
section
variable (cJ:iw R)
def pq:List (oq R) := [(143,true,(r4 cJ ax))]
def kh (x1:List Int) (k0:Bool→Option R):Option R :=
 cJ x1 (fun y2=>k0 (decide (y2≥(0:Int))))
theorem Ae:dE (R:=R) tt (pq cJ) rS false Tryz.f106 kf kg (oJ (kh cJ)):=fun x y k=>by kernel_rfl
end
theorem yI:cu (R:=R) Tryz.prog (pq (R:=R) cJ) := .c (Ba R) <| .n
def cp:gE R:=fun x1 k0=>kh cJ x1 k0
theorem xV (R:Type):k8 Tryz.prog 106 (po (cp (R:=R))):=bt TT mixed (yI (R:=R)) rfl rfl rfl rfl cd (Ae cJ)
/-! ### humpyard/order.num -/
abbrev FQ (R:Type):Type:=(List Int)→(Bool→Option R)→Option R
abbrev N7:List cP := [.leaf (.sl (.int .i64))]
abbrev N8:List aW := []
def SJ (fn:FQ R):lh R N7 N8:=fun x y k=>fn x.1 (fun q0=>k (.bool q0) [])
def Vt (fn:FQ R):=aI N7 N8 (SJ fn)
section
variable (cp:gE R)
def Vu:List (oq R) := [(106,true,(po cp ax))]
def N9 (x1:List Int) (k0:Bool→Option R):Option R :=
 cp x1 (fun y2=>k0 (!y2))
theorem order_num_ok:dE (R:=R) tt (Vu cp) rS false Tryz.f62 N7 N8 (SJ (N9 cp)):=fun x y k=>by kernel_rfl
end
theorem Z7:cu (R:=R) Tryz.prog (Vu (R:=R) cp) := .c (xV R) <| .n
def fY:FQ R:=fun x1 k0=>N9 cp x1 k0
theorem Yn (R:Type):k8 Tryz.prog 62 (Vt (fY (R:=R))):=bt TT mixed (Z7 (R:=R)) rfl rfl rfl rfl cd (order_num_ok cp)
/-! ### humpyard/order.Right -/
abbrev r5 (R:Type):Type:=Order→(Bool→Option R)→Option R
abbrev Je:List cP := [.agg [.int .i64, .str, .int .i64, .int .i64, .sl .stop, .sl .pD]]
abbrev Jf:List aW := []
def Oa (fn:r5 R):lh R Je Jf:=fun x y k=>fn (⟨x.1.1,x.1.2.1,x.1.2.2.1,x.1.2.2.2.1,x.1.2.2.2.2.1,x.1.2.2.2.2.2.1⟩:Order) (fun q0=>k (.bool q0) [])
def DU (fn:r5 R):=aI Je Jf (Oa fn)
abbrev Af (R:Type):Type:=Nat→(List aC.Way)→Int→Int→Order→(Option R)→(Bool→Option R)→Option R
def vl:Hint := { live := [1,66,67,68],own := [],rows := [],cells := [],drop := [],out := [2] }
abbrev mH:Type:=(List aC.Way)×Int×Int×Order
def xW:mH→St:=fun d=>⟨.undef :: .ptr 0 0::U 64 (.sl .pD d.1 .no :: .int .i64 d.2.1 :: .int .i64 d.2.2.1::U 59 ([])), [.cells [.int .i64 d.2.2.2.header, .str d.2.2.2.cO, .int .i64 d.2.2.2.order, .int .i64 d.2.2.2.update, .sl .stop d.2.2.2.nodes .no, .sl .pD d.2.2.2.bK .no]]⟩
def Ag (K:Ex→St→Option R):Option R:=K (.exit 0) ⟨U 128 ([]), []⟩
def Ah (K:Ex→St→Option R) (q0:Bool):Option R:=K (.ret) ⟨U 2 (.bool q0::U 125 ([])), []⟩
abbrev pY:List cP := .leaf (.undef) :: .leaf (.ptr 0 0)::PU 64 (.leaf (.sl .pD) :: .leaf (.int .i64) :: .leaf (.int .i64)::PU 59 ([]))
abbrev pZ:List aW := [.cells [.int .i64, .str, .int .i64, .int .i64, .sl .stop, .sl .pD]]
def Ir (x:cP.bQ pY) (y:aW.bQ pZ):Nat:=(List.length ((t8 (t8 (t8 (t8 (t8 (t8 (t8 (t8 x)))))))).2.2.1)+Int.natAbs ((t8 (t8 (t8 (t8 (t8 (t8 (t8 (t8 x)))))))).2.2.2.1)+Int.natAbs ((t8 (t8 (t8 (t8 (t8 (t8 (t8 (t8 x)))))))).2.2.2.2.1)+Order.fu (⟨y.1.1,y.1.2.1,y.1.2.2.1,y.1.2.2.2.1,y.1.2.2.2.2.1,y.1.2.2.2.2.2.1⟩:Order)+64)
def SK (x:cP.bQ pY) (y:aW.bQ pZ):mH:=((t8 (t8 (t8 (t8 (t8 (t8 (t8 (t8 x)))))))).2.2.1,(t8 (t8 (t8 (t8 (t8 (t8 (t8 (t8 x)))))))).2.2.2.1,(t8 (t8 (t8 (t8 (t8 (t8 (t8 (t8 x)))))))).2.2.2.2.1,(⟨y.1.1,y.1.2.1,y.1.2.2.1,y.1.2.2.2.1,y.1.2.2.2.2.1,y.1.2.2.2.2.2.1⟩:Order))
def GR (L:Af R):wW R pY pZ:=fun x y K=>L (Ir x y) ((t8 (t8 (t8 (t8 (t8 (t8 (t8 (t8 x)))))))).2.2.1) ((t8 (t8 (t8 (t8 (t8 (t8 (t8 (t8 x)))))))).2.2.2.1) ((t8 (t8 (t8 (t8 (t8 (t8 (t8 (t8 x)))))))).2.2.2.2.1) (⟨y.1.1,y.1.2.1,y.1.2.2.1,y.1.2.2.2.1,y.1.2.2.2.2.1,y.1.2.2.2.2.2.1⟩:Order) (Ag K) (Ah K)
section
variable (fY:FQ R) (topic_Name:topic_Name_ty R) (cM:Af R)
def uS:List (oq R) := [(62,true,(Vt fY ax)),(61,true,(topic_Name_s topic_Name ax))]
def vm (dz:(List aC.Way)→Int→Int→Order→Option R) (x6:List aC.Way) (x7:Int) (x8:Int) (x9:Order) (e0:Option R) (e1:Bool→Option R):Option R :=
 bif (decide (x8<x7))then (cb (decide ((0:Int)≤x8)&&decide (x8<x6.length)) (cb (decide ((0:Int)≤x8)&&decide (x8<x9.nodes.length)) (cb (decide ((0:Int)≤(IntKind.i64.wrap (x8+1)))&&decide ((IntKind.i64.wrap (x8+1))<x9.nodes.length)) (fY ([(x6.getD x8.toNat (Ty.aZ .pD)).yC,(x6.getD x8.toNat (Ty.aZ .pD)).seq,(x9.nodes.getD (IntKind.i64.wrap (x8+1)).toNat (Ty.aZ .stop)).node,(x9.nodes.getD (IntKind.i64.wrap (x8+1)).toNat (Ty.aZ .stop)).seq]:List Int) (fun um=>bif (!um)then (e1 false)else (bif ((x6.getD x8.toNat (Ty.aZ .pD)).seq != (IntKind.i64.wrap ((x9.nodes.getD x8.toNat (Ty.aZ .stop)).seq+1)))then (e1 false)else (bif ((x9.nodes.getD (IntKind.i64.wrap (x8+1)).toNat (Ty.aZ .stop)).seq != (IntKind.i64.wrap ((x6.getD x8.toNat (Ty.aZ .pD)).seq+1)))then (e1 false)else (bif (!((x6.getD x8.toNat (Ty.aZ .pD)).bO==(x9.nodes.getD (IntKind.i64.wrap (x8+1)).toNat (Ty.aZ .stop)).bO))then (e1 false)else (bif (x9.nodes.getD (IntKind.i64.wrap (x8+1)).toNat (Ty.aZ .stop)).bO then (bif (!(x9.nodes.getD x8.toNat (Ty.aZ .stop)).bO)then (e1 false)else (dz x6 x7 (IntKind.i64.wrap (x8+1)) x9))else (dz x6 x7 (IntKind.i64.wrap (x8+1)) x9))))))))))else (e0)
def Iu (K:Ex→St→Option R) (rc:mH→Option R) (d:mH):Option R:=vm fY (fun z0 z1 z2 z3=>rc (z0,z1,z2,z3)) d.1 d.2.1 d.2.2.1 d.2.2.2 (Ag K) (Ah K)
def yJ:Nat→Option (Hint×cL R):=fun i=>match i with
 | 8=>some (vl,(cG pY pZ (GR cM) iL))
 | _=>none
theorem Ob (K:Ex→St→Option R) (rc:St→Option R) (d:mH):roundOf tt (cR (uS fY topic_Name)) (yJ cM) 0 ((aA (bc Tryz.f21)).getD 0 .skip) vl (xW d) rc K=Iu fY K (fun d=>rc (xW d)) d:=by kernel_rfl
def Jg (x1:Order) (k0:Bool→Option R):Option R :=
 topic_Name x1.cO (fun y2=>bif (!y2)then (k0 false)else (fY ([x1.header,x1.order,x1.update]:List Int) (fun y3=>bif (!y3)then (k0 false)else (bif (decide ((x1.nodes.length:Int)<(1:Int)))then (k0 false)else (bif (decide ((x1.nodes.length:Int)>(64:Int)))then (k0 false)else (bif ((x1.bK.length:Int) != (IntKind.i64.wrap ((x1.nodes.length:Int) - 1)))then (k0 false)else (cb (decide ((0:Int)<x1.nodes.length)) (bif ((Int.tmod (x1.nodes.getD 0 (Ty.aZ .stop)).seq 2) != 0)then (k0 false)else (bif (!(x1.nodes.getD 0 (Ty.aZ .stop)).bO)then (k0 false)else (fY ([(x1.nodes.getD 0 (Ty.aZ .stop)).node,(x1.nodes.getD 0 (Ty.aZ .stop)).seq]:List Int) (fun y5=>bif (!y5)then (k0 false)else (cM (List.length x1.bK+Int.natAbs (x1.bK.length:Int)+Int.natAbs 0+Order.fu x1+64) x1.bK (x1.bK.length:Int) 0 x1 (k0 true) (fun yK=>k0 yK)))))))))))))
theorem Yo:dE (R:=R) tt (uS fY topic_Name) (yJ cM) false Tryz.f21 Je Jf (Oa (Jg fY topic_Name cM)):=fun x y k=>by kernel_rfl
end
theorem Wb:cu (R:=R) Tryz.prog (uS (R:=R) fY topic_Name) := .c (Yn R) <| .c (topic_Name_S_ok R) <| .n
def cM:Af R
 | 0,_,_,_,_,_,_=>none
 | n+1,gk,gn,gw,mC,e0,e1=>vm fY (fun gk gn gw mC=>cM n gk gn gw mC e0 e1) gk gn gw mC e0 e1
def Iv (K:Ex→St→Option R) (n:Nat) (d:mH):Option R:=cM n d.1 d.2.1 d.2.2.1 d.2.2.2 (Ag K) (Ah K)
theorem RA (other:cL R) (ho:gW tt (cR (uS (R:=R) fY topic_Name)) (yJ (R:=R) cM) 0 ((aA (bc Tryz.f21)).getD 0 .skip) vl other):gW tt (cR (uS (R:=R) fY topic_Name)) (yJ (R:=R) cM) 0 ((aA (bc Tryz.f21)).getD 0 .skip) vl (cG pY pZ (GR (cM)) other) :=
 cQ (A:=Iv) ho (dV xW (Iu fY) (Iv) (fun _ _=>by kernel_rfl) (Ob fY topic_Name cM) (fun _ _ _=>by kernel_rfl)) Ir SK (fun _ _=>by kernel_rfl) (fun _ _ _=>by kernel_rfl)
def bZ:r5 R:=fun x1 k0=>Jg fY topic_Name cM x1 k0
theorem SL (R:Type):∀a∈aA (bc Tryz.f21),gK tt (cR (uS (R:=R) fY topic_Name)) (yJ (R:=R) cM) 0 a:=by
 refine eY 1 (by kernel_rfl) fun i hi => ?_
 match i,hi with
 | 0,_=>exact cz (by kernel_rfl) (RA _ dv)
 | n+1,hi=>omega
theorem Dr (R:Type):k8 Tryz.prog 21 (DU (bZ (R:=R))):=bt TT mixed (Wb (R:=R)) rfl rfl rfl rfl (SL R) (Yo fY topic_Name cM)
/-! ### humpyard/decimal.within[int] -/
abbrev jn (R:Type):Type:=Int→Int→Int→(Bool→Option R)→Option R
abbrev wc:List cP := [.leaf (.int .i64), .leaf (.int .i64), .leaf (.int .i64)]
abbrev wg:List aW := []
def C1 (fn:jn R):lh R wc wg:=fun x y k=>fn x.1 x.2.1 x.2.2.1 (fun q0=>k (.bool q0) [])
def p7 (fn:jn R):=aI wc wg (C1 fn)
section
def mr (x1:Int) (x2:Int) (x3:Int) (k0:Bool→Option R):Option R :=
 bif (decide (x1≤x2))then (k0 (decide (x2≤x3)))else (k0 false)
theorem Ns:dE (R:=R) tt [] rS false Tryz.f135 wc wg (C1 mr):=fun x y k=>by kernel_rfl
end
def ay:jn R:=fun x1 x2 x3 k0=>mr x1 x2 x3 k0
theorem r6 (R:Type):k8 Tryz.prog 135 (p7 (ay (R:=R))):=bt TT mixed .n rfl rfl rfl rfl cd (Ns)
/-! ### humpyard/decimal.Make -/
abbrev uz (R:Type):Type:=Int→Int→(fv→Bool→Option R)→Option R
abbrev GU:List cP := [.leaf (.int .i64), .leaf (.int .i64)]
abbrev GV:List aW := []
def MR (fn:uz R):lh R GU GV:=fun x y k=>fn x.1 x.2.1 (fun q0 q1=>k (.tuple [.agg [.int .i64 q0.ao, .int .i64 q0.exp], .bool q1]) [])
def GW (fn:uz R):=aI GU GV (MR fn)
abbrev xX (R:Type):Type:=Nat→Int→Int→fv→(Int→Int→fv→Option R)→Option R
def tG:Hint := { live := [0,1,4],own := [],rows := [],cells := [],drop := [],out := [0,1,4,5] }
abbrev lT:Type:=Int×Int×fv
def wh:lT→St:=fun d=>⟨.int .i64 d.1 :: .int .i64 d.2.1::U 2 (.ptr 0 0::U 25 ([])), [.cells [.int .i64 d.2.2.ao, .int .i64 d.2.2.exp]]⟩
def xY (K:Ex→St→Option R) (q0:Int) (q1:Int) (q2:fv):Option R:=K (.exit 0) ⟨.int .i64 q0 :: .int .i64 q1::U 2 (.ptr 0 0::U 25 ([])), [.cells [.int .i64 q2.ao, .int .i64 q2.exp]]⟩
abbrev oK:List cP := .leaf (.int .i64) :: .leaf (.int .i64)::PU 2 (.leaf (.ptr 0 0)::PU 25 ([]))
abbrev oL:List aW := [.cells [.int .i64, .int .i64]]
def GX (x:cP.bQ oK) (y:aW.bQ oL):Nat:=(Int.natAbs x.1+Int.natAbs x.2.1+fv.fu (⟨y.1.1,y.1.2.1⟩:fv)+64)
def RB (x:cP.bQ oK) (y:aW.bQ oL):lT:=(x.1,x.2.1,(⟨y.1.1,y.1.2.1⟩:fv))
def Fs (L:xX R):wW R oK oL:=fun x y K=>L (GX x y) x.1 x.2.1 (⟨y.1.1,y.1.2.1⟩:fv) (xY K)
section
variable (ay:jn R) (bC:xX R)
def r7:List (oq R) := [(135,true,(p7 ay ax))]
def fx (dz:Int→Int→fv→Option R) (x3:Int) (x4:Int) (x5:fv) (e0:Int→Int→fv→Option R):Option R :=
 bif ((Int.tmod x3 10)==0)then (dz (IntKind.i64.wrap (Int.tdiv x3 10)) (IntKind.i64.wrap (x4+1)) x5)else (e0 x3 x4 x5)
def GY (K:Ex→St→Option R) (rc:lT→Option R) (d:lT):Option R:=fx (fun z0 z1 z2=>rc (z0,z1,z2)) d.1 d.2.1 d.2.2 (xY K)
def wi:Nat→Option (Hint×cL R):=fun i=>match i with
 | 4=>some (tG,(cG oK oL (Fs bC) iL))
 | _=>none
theorem Nt (K:Ex→St→Option R) (rc:St→Option R) (d:lT):roundOf tt (cR (r7 ay)) (wi bC) 0 ((aA (bc Tryz.f97)).getD 0 .skip) tG (wh d) rc K=GY K (fun d=>rc (wh d)) d:=by kernel_rfl
def kr (x1:Int) (x2:Int) (k0:fv→Bool→Option R):Option R :=
 bif (x1==0)then (k0 (⟨0,0⟩:fv) true)else (bC (Int.natAbs x1+Int.natAbs (min x2 1000000)+fv.fu (⟨0,0⟩:fv)+64) x1 (min x2 1000000) (⟨0,0⟩:fv) (fun y6 y7 y8=>ay (-1000000000000000) y6 1000000000000000 (fun y9=>bif (!y9)then (k0 (⟨0,0⟩:fv) false)else (ay (-9) y7 9 (fun um=>bif (!um)then (k0 (⟨0,0⟩:fv) false)else (k0 (⟨y6,y7⟩:fv) true))))))
theorem Wc:dE (R:=R) tt (r7 ay) (wi bC) false Tryz.f97 GU GV (MR (kr ay bC)):=fun x y k=>by kernel_rfl
end
theorem Ux:cu (R:=R) Tryz.prog (r7 (R:=R) ay) := .c (r6 R) <| .n
def bC:xX R
 | 0,_,_,_,_=>none
 | n+1,gk,gn,gw,e0=>fx (fun gk gn gw=>bC n gk gn gw e0) gk gn gw e0
def GZ (K:Ex→St→Option R) (n:Nat) (d:lT):Option R:=bC n d.1 d.2.1 d.2.2 (xY K)
theorem P9 (other:cL R) (ho:gW tt (cR (r7 (R:=R) ay)) (wi (R:=R) bC) 0 ((aA (bc Tryz.f97)).getD 0 .skip) tG other):gW tt (cR (r7 (R:=R) ay)) (wi (R:=R) bC) 0 ((aA (bc Tryz.f97)).getD 0 .skip) tG (cG oK oL (Fs (bC)) other) :=
 cQ (A:=GZ) ho (dV wh (GY) (GZ) (fun _ _=>by kernel_rfl) (Nt ay bC) (fun _ _ _=>by kernel_rfl)) GX RB (fun _ _=>by kernel_rfl) (fun _ _ _=>by kernel_rfl)
def bk:uz R:=fun x1 x2 k0=>kr ay bC x1 x2 k0
theorem RC (R:Type):∀a∈aA (bc Tryz.f97),gK tt (cR (r7 (R:=R) ay)) (wi (R:=R) bC) 0 a:=by
 refine eY 1 (by kernel_rfl) fun i hi => ?_
 match i,hi with
 | 0,_=>exact cz (by kernel_rfl) (P9 _ dv)
 | n+1,hi=>omega
theorem Iw (R:Type):k8 Tryz.prog 97 (GW (bk (R:=R))):=bt TT mixed (Ux (R:=R)) rfl rfl rfl rfl (RC R) (Wc ay bC)
/-! ### humpyard/field.Int -/
abbrev BC (R:Type):Type:=Int→(Json→Option R)→Option R
abbrev Oc:List cP := [.leaf (.int .i64)]
abbrev Od:List aW := []
def SM (fn:BC R):lh R Oc Od:=fun x y k=>fn x.1 (fun q0=>k (.agg [.int .i64 q0.kind, .int .i64 q0.num.ao, .int .i64 q0.num.exp, .str q0.text, .sl .str q0.names .no, .sl .json q0.items .no]) [])
def Oe (fn:BC R):=aI Oc Od (SM fn)
section
variable (bk:uz R)
def Vv:List (oq R) := [(97,true,(GW bk ax))]
def Of (x1:Int) (k0:Json→Option R):Option R :=
 bk x1 0 (fun y2 y3=>bif (!y3)then (k0 (⟨1,⟨0,0⟩,([]:ah),([]:List ah),([]:List Json)⟩:Json))else (k0 (⟨4,⟨y2.ao,y2.exp⟩,([]:ah),([]:List ah),([]:List Json)⟩:Json)))
theorem field_Int_ok:dE (R:=R) tt (Vv bk) rS false Tryz.f48 Oc Od (SM (Of bk)):=fun x y k=>by kernel_rfl
end
theorem Z8:cu (R:=R) Tryz.prog (Vv (R:=R) bk) := .c (Iw R) <| .n
def gq:BC R:=fun x1 k0=>Of bk x1 k0
theorem Og (R:Type):k8 Tryz.prog 48 (Oe (gq (R:=R))):=bt TT mixed (Z8 (R:=R)) rfl rfl rfl rfl cd (field_Int_ok bk)
/-! ### humpyard/field.Str -/
abbrev FR (R:Type):Type:=ah→(Json→Option R)→Option R
abbrev Oh:List cP := [.leaf (.str)]
abbrev Oi:List aW := []
def SN (fn:FR R):lh R Oh Oi:=fun x y k=>fn x.1 (fun q0=>k (.agg [.int .i64 q0.kind, .int .i64 q0.num.ao, .int .i64 q0.num.exp, .str q0.text, .sl .str q0.names .no, .sl .json q0.items .no]) [])
def Vw (fn:FR R):=aI Oh Oi (SN fn)
section
def Vx (x1:ah) (k0:Json→Option R):Option R :=
 k0 (⟨5,⟨0,0⟩,x1,([]:List ah),([]:List Json)⟩:Json)
theorem field_Str_ok:dE (R:=R) tt [] rS false Tryz.f34 Oh Oi (SN Vx):=fun x y k=>by kernel_rfl
end
def uT:FR R:=fun x1 k0=>Vx x1 k0
theorem Yp (R:Type):k8 Tryz.prog 34 (Vw (uT (R:=R))):=bt TT mixed .n rfl rfl rfl rfl cd (field_Str_ok)
/-! ### humpyard/field.Yes -/
abbrev FT (R:Type):Type:=Bool→(Json→Option R)→Option R
abbrev Oj:List cP := [.leaf (.bool)]
abbrev Ol:List aW := []
def SO (fn:FT R):lh R Oj Ol:=fun x y k=>fn x.1 (fun q0=>k (.agg [.int .i64 q0.kind, .int .i64 q0.num.ao, .int .i64 q0.num.exp, .str q0.text, .sl .str q0.names .no, .sl .json q0.items .no]) [])
def Vy (fn:FT R):=aI Oj Ol (SO fn)
section
def Vz (x1:Bool) (k0:Json→Option R):Option R :=
 bif x1 then (k0 (⟨3,⟨0,0⟩,([]:ah),([]:List ah),([]:List Json)⟩:Json))else (k0 (⟨2,⟨0,0⟩,([]:ah),([]:List ah),([]:List Json)⟩:Json))
theorem field_Yes_ok:dE (R:=R) tt [] rS false Tryz.f99 Oj Ol (SO Vz):=fun x y k=>by kernel_rfl
end
def uU:FT R:=fun x1 k0=>Vz x1 k0
theorem Yq (R:Type):k8 Tryz.prog 99 (Vy (uU (R:=R))):=bt TT mixed .n rfl rfl rfl rfl cd (field_Yes_ok)
end Go.Proofs.YtidfokedcnhahaaGreatDoor
/-
 Functions of the program as pure Lean functions, and the ties; printed by wip/tools/emit.py.
-/
set_option maxRecDepth 100000
namespace Go.Proofs.YtidfokedcnhahaaGreatDoor
open Go Go.aC
variable {R:Type}
/-! ### humpyard/field.Make -/
abbrev yL (R:Type):Type:=(List ah)→(List Json)→(Json→Option R)→Option R
abbrev Lt:List cP := [.leaf (.sl .str), .leaf (.sl .json)]
abbrev Lu:List aW := []
def Qw (fn:yL R):lh R Lt Lu:=fun x y k=>fn x.1 x.2.1 (fun q0=>k (.agg [.int .i64 q0.kind, .int .i64 q0.num.ao, .int .i64 q0.num.exp, .str q0.text, .sl .str q0.names .no, .sl .json q0.items .no]) [])
def Lv (fn:yL R):=aI Lt Lu (Qw fn)
abbrev BD (R:Type):Type:=Nat→(List ah)→(List Json)→Int→Int→Int→Int→Int→ah→Int→Int→Int→ah→(List ah)→(List Json)→(Int→Int→Int→ah→Int→Int→Int→ah→(List ah)→(List Json)→Option R)→Option R
def wY:Hint := { live := [0,4,5,15,16,17],own := [],rows := [],cells := [(1,4, .str,false),(1,5, .json,false)],drop := [],out := [4,5] }
abbrev ou:Type:=(List ah)×(List Json)×Int×Int×Int×Int×Int×ah×Int×Int×Int×ah×(List ah)×(List Json)
def Ai:ou→St:=fun d=>⟨.sl .str d.1 .no::U 3 (.ptr 0 0 :: .ptr 1 0::U 9 (.sl .json d.2.1 .no :: .int .i64 d.2.2.1 :: .int .i64 d.2.2.2.1::U 30 ([]))), [.cells [.int .i64 d.2.2.2.2.1, .int .i64 d.2.2.2.2.2.1, .int .i64 d.2.2.2.2.2.2.1, .str d.2.2.2.2.2.2.2.1, .bx, .bx], .cells [.int .i64 d.2.2.2.2.2.2.2.2.1, .int .i64 d.2.2.2.2.2.2.2.2.2.1, .int .i64 d.2.2.2.2.2.2.2.2.2.2.1, .str d.2.2.2.2.2.2.2.2.2.2.2.1, .sl .str d.2.2.2.2.2.2.2.2.2.2.2.2.1 (.own 2), .sl .json d.2.2.2.2.2.2.2.2.2.2.2.2.2 (.own 3)], .tok, .tok]⟩
def BE (K:Ex→St→Option R) (q0:Int) (q1:Int) (q2:Int) (q3:ah) (q4:Int) (q5:Int) (q6:Int) (q7:ah) (q8:List ah) (q9:List Json):Option R:=K (.exit 0) ⟨U 4 (.ptr 0 0 :: .ptr 1 0::U 42 ([])), [.cells [.int .i64 q0, .int .i64 q1, .int .i64 q2, .str q3, .bx, .bx], .cells [.int .i64 q4, .int .i64 q5, .int .i64 q6, .str q7, .sl .str q8 (.own 2), .sl .json q9 (.own 3)], .tok, .tok]⟩
abbrev r8:List cP := .leaf (.sl .str)::PU 3 (.leaf (.ptr 0 0) :: .leaf (.ptr 1 0)::PU 9 (.leaf (.sl .json) :: .leaf (.int .i64) :: .leaf (.int .i64)::PU 30 ([])))
abbrev r9:List aW := [.cells [.int .i64, .int .i64, .int .i64, .str, .bx, .bx], .cells [.int .i64, .int .i64, .int .i64, .str, .T4 .str 2, .T4 .json 3], .tok, .tok]
def Kb (x:cP.bQ r8) (y:aW.bQ r9):Nat:=(List.length x.1+List.length ((t8 x).2.2.2.2.2.2.2.1)+Int.natAbs ((t8 (t8 x)).1)+Int.natAbs ((t8 (t8 x)).2.1)+Int.natAbs y.1.1+Int.natAbs y.1.2.1+Int.natAbs y.1.2.2.1+List.length y.1.2.2.2.1+Int.natAbs y.2.1.1+Int.natAbs y.2.1.2.1+Int.natAbs y.2.1.2.2.1+List.length y.2.1.2.2.2.1+List.length y.2.1.2.2.2.2.1+List.length y.2.1.2.2.2.2.2.1+64)
def Uy (x:cP.bQ r8) (y:aW.bQ r9):ou:=(x.1,(t8 x).2.2.2.2.2.2.2.1,(t8 (t8 x)).1,(t8 (t8 x)).2.1,y.1.1,y.1.2.1,y.1.2.2.1,y.1.2.2.2.1,y.2.1.1,y.2.1.2.1,y.2.1.2.2.1,y.2.1.2.2.2.1,y.2.1.2.2.2.2.1,y.2.1.2.2.2.2.2.1)
def Ix (L:BD R):wW R r8 r9:=fun x y K=>L (Kb x y) x.1 ((t8 x).2.2.2.2.2.2.2.1) ((t8 (t8 x)).1) ((t8 (t8 x)).2.1) y.1.1 y.1.2.1 y.1.2.2.1 y.1.2.2.2.1 y.2.1.1 y.2.1.2.1 y.2.1.2.2.1 y.2.1.2.2.2.1 y.2.1.2.2.2.2.1 y.2.1.2.2.2.2.2.1 (BE K)
section
variable (cq:dL R) (aB:fN R) (dk:BD R)
def wZ:List (oq R) := [(86,true,(DT cq ax)),(85,true,(lO aB ax))]
def w7 (dz:(List ah)→(List Json)→Int→Int→Int→Int→Int→ah→Int→Int→Int→ah→(List ah)→(List Json)→Option R) (x3:List ah) (x4:List Json) (x5:Int) (x6:Int) (x7:Int) (x8:Int) (x9:Int) (Ut:ah) (Nq:Int) (CJ:Int) (HG:Int) (Ls:ah) (ot:List ah) (tH:List Json) (e0:Int→Int→Int→ah→Int→Int→Int→ah→(List ah)→(List Json)→Option R):Option R :=
 bif (decide (x6<x5))then (cb (decide ((0:Int)≤x6)&&decide (x6<x4.length)) (cb (decide ((0:Int)≤x6)&&decide (x6<x3.length)) (aB ot (x3.getD x6.toNat (Ty.aZ .str)) (fun Sb=>bif (!Sb)then (cb (decide ((0:Int)≤x6)&&decide (x6<x3.length)) (cb (decide ((ot.length+1)*16≤140737488355328)) (cq (⟨(x4.getD x6.toNat (Ty.aZ .json)).kind,⟨(x4.getD x6.toNat (Ty.aZ .json)).num.ao,(x4.getD x6.toNat (Ty.aZ .json)).num.exp⟩,(x4.getD x6.toNat (Ty.aZ .json)).text,(x4.getD x6.toNat (Ty.aZ .json)).names,(x4.getD x6.toNat (Ty.aZ .json)).items⟩:Json) (fun Nr=>cb (decide ((tH.length+1)*88≤140737488355328)) (dz x3 x4 x5 (IntKind.i64.wrap (x6+1)) x7 x8 x9 Ut Nq CJ HG Ls (ot++([(x3.getD x6.toNat (Ty.aZ .str))]:List ah)) (tH++([(⟨Nr.kind,⟨Nr.num.ao,Nr.num.exp⟩,Nr.text,Nr.names,Nr.items⟩:Json)]:List Json)))))))else (dz x3 x4 x5 (IntKind.i64.wrap (x6+1)) x7 x8 x9 Ut Nq CJ HG Ls ot tH)))))else (e0 x7 x8 x9 Ut Nq CJ HG Ls ot tH)
def Kc (K:Ex→St→Option R) (rc:ou→Option R) (d:ou):Option R:=w7 cq aB (fun z0 z1 z2 z3 z4 z5 z6 z7 z8 z9 Rx vP z12 z13=>rc (z0,z1,z2,z3,z4,z5,z6,z7,z8,z9,Rx,vP,z12,z13)) d.1 d.2.1 d.2.2.1 d.2.2.2.1 d.2.2.2.2.1 d.2.2.2.2.2.1 d.2.2.2.2.2.2.1 d.2.2.2.2.2.2.2.1 d.2.2.2.2.2.2.2.2.1 d.2.2.2.2.2.2.2.2.2.1 d.2.2.2.2.2.2.2.2.2.2.1 d.2.2.2.2.2.2.2.2.2.2.2.1 d.2.2.2.2.2.2.2.2.2.2.2.2.1 d.2.2.2.2.2.2.2.2.2.2.2.2.2 (BE K)
def BF:Nat→Option (Hint×cL R):=fun i=>match i with
 | 3=>some (wY,(cG r8 r9 (Ix dk) iL))
 | _=>none
theorem Qa (K:Ex→St→Option R) (rc:St→Option R) (d:ou):roundOf tt (cR (wZ cq aB)) (BF dk) 0 ((aA (bc Tryz.f36)).getD 0 .skip) wY (Ai d) rc K=Kc cq aB K (fun d=>rc (Ai d)) d:=by kernel_rfl
def Lw (x1:List ah) (x2:List Json) (k0:Json→Option R):Option R :=
 cb (decide ((0:Int)≤(min (x2.length:Int) (x1.length:Int)))&&decide ((min (x2.length:Int) (x1.length:Int))≤x2.length)) (cb (decide ((0:Int)≤(min (x2.length:Int) (x1.length:Int)))) (dk (List.length x1+List.length ((x2.drop 0).take ((min (x2.length:Int) (x1.length:Int)).toNat - 0))+Int.natAbs (((x2.drop 0).take ((min (x2.length:Int) (x1.length:Int)).toNat - 0)).length:Int)+Int.natAbs 0+Int.natAbs 0+Int.natAbs 0+Int.natAbs 0+List.length ([]:ah)+Int.natAbs 7+Int.natAbs 0+Int.natAbs 0+List.length ([]:ah)+List.length ([]:List ah)+List.length ([]:List Json)+64) x1 ((x2.drop 0).take ((min (x2.length:Int) (x1.length:Int)).toNat - 0)) (((x2.drop 0).take ((min (x2.length:Int) (x1.length:Int)).toNat - 0)).length:Int) 0 0 0 0 ([]:ah) 7 0 0 ([]:ah) ([]:List ah) ([]:List Json) (fun ZM V9 GQ y22 y23 y24 Qx SP Jh Qy=>k0 (⟨y23,⟨y24,Qx⟩,SP,Jh,Qy⟩:Json))))
theorem Z9:dE (R:=R) tt (wZ cq aB) (BF dk) false Tryz.f36 Lt Lu (Qw (Lw dk)):=fun x y k=>by kernel_rfl
end
theorem Yr:cu (R:=R) Tryz.prog (wZ (R:=R) cq aB) := .p (Dq R _ (jm _)) <| .c (pn R) <| .n
def dk:BD R
 | 0,_,_,_,_,_,_,_,_,_,_,_,_,_,_,_=>none
 | n+1,gk,gn,gw,mC,wa,xT,Eg,Eh,HH,HI,pF,xU,Dn,Dp,e0=>w7 cq aB (fun gk gn gw mC wa xT Eg Eh HH HI pF xU Dn Dp=>dk n gk gn gw mC wa xT Eg Eh HH HI pF xU Dn Dp e0) gk gn gw mC wa xT Eg Eh HH HI pF xU Dn Dp e0
def Kd (K:Ex→St→Option R) (n:Nat) (d:ou):Option R:=dk n d.1 d.2.1 d.2.2.1 d.2.2.2.1 d.2.2.2.2.1 d.2.2.2.2.2.1 d.2.2.2.2.2.2.1 d.2.2.2.2.2.2.2.1 d.2.2.2.2.2.2.2.2.1 d.2.2.2.2.2.2.2.2.2.1 d.2.2.2.2.2.2.2.2.2.2.1 d.2.2.2.2.2.2.2.2.2.2.2.1 d.2.2.2.2.2.2.2.2.2.2.2.2.1 d.2.2.2.2.2.2.2.2.2.2.2.2.2 (BE K)
theorem SQ (other:cL R) (ho:gW tt (cR (wZ (R:=R) cq aB)) (BF (R:=R) dk) 0 ((aA (bc Tryz.f36)).getD 0 .skip) wY other):gW tt (cR (wZ (R:=R) cq aB)) (BF (R:=R) dk) 0 ((aA (bc Tryz.f36)).getD 0 .skip) wY (cG r8 r9 (Ix (dk)) other) :=
 cQ (A:=Kd) ho (dV Ai (Kc cq aB) (Kd) (fun _ _=>by kernel_rfl) (Qa cq aB dk) (fun _ _ _=>by kernel_rfl)) Kb Uy (fun _ _=>by kernel_rfl) (fun _ _ _=>by kernel_rfl)
def gF:yL R:=fun x1 x2 k0=>Lw dk x1 x2 k0
theorem Uz (R:Type):∀a∈aA (bc Tryz.f36),gK tt (cR (wZ (R:=R) cq aB)) (BF (R:=R) dk) 0 a:=by
 refine eY 1 (by kernel_rfl) fun i hi => ?_
 match i,hi with
 | 0,_=>exact cz (by kernel_rfl) (SQ _ dv)
 | n+1,hi=>omega
theorem MS (R:Type):k8 Tryz.prog 36 (Lv (gF (R:=R))):=bt TT mixed (Yr (R:=R)) rfl rfl rfl rfl (Uz R) (Z9 cq aB dk)
/-! ### humpyard/order.part -/
abbrev yM (R:Type):Type:=ah→Int→Int→Bool→(Json→Option R)→Option R
abbrev Lx:List cP := [.leaf (.str), .leaf (.int .i64), .leaf (.int .i64), .leaf (.bool)]
abbrev Ly:List aW := []
def Qz (fn:yM R):lh R Lx Ly:=fun x y k=>fn x.1 x.2.1 x.2.2.1 x.2.2.2.1 (fun q0=>k (.agg [.int .i64 q0.kind, .int .i64 q0.num.ao, .int .i64 q0.num.exp, .str q0.text, .sl .str q0.names .no, .sl .json q0.items .no]) [])
def Lz (fn:yM R):=aI Lx Ly (Qz fn)
section
variable (gq:BC R) (gF:yL R) (uU:FT R)
def SR:List (oq R) := [(48,true,(Oe gq ax)),(36,true,(Lv gF ax)),(99,true,(Vy uU ax))]
def LA (x1:ah) (x2:Int) (x3:Int) (x4:Bool) (k0:Json→Option R):Option R :=
 gq x2 (fun y5=>gq x3 (fun y6=>uU x4 (fun y7=>gF ([x1,([115,101,113,117,101,110,99,101,73,100]:ah),([114,101,108,101,97,115,101,100]:ah)]:List ah) ([(⟨y5.kind,⟨y5.num.ao,y5.num.exp⟩,y5.text,y5.names,y5.items⟩:Json),(⟨y6.kind,⟨y6.num.ao,y6.num.exp⟩,y6.text,y6.names,y6.items⟩:Json),(⟨y7.kind,⟨y7.num.ao,y7.num.exp⟩,y7.text,y7.names,y7.items⟩:Json)]:List Json) (fun y8=>k0 (⟨y8.kind,⟨y8.num.ao,y8.num.exp⟩,y8.text,y8.names,y8.items⟩:Json)))))
theorem aac:dE (R:=R) tt (SR gq gF uU) rS false Tryz.f51 Lx Ly (Qz (LA gq gF uU)):=fun x y k=>by kernel_rfl
end
theorem Ys:cu (R:=R) Tryz.prog (SR (R:=R) gq gF uU) := .c (Og R) <| .c (MS R) <| .c (Yq R) <| .n
def gG:yM R:=fun x1 x2 x3 x4 k0=>LA gq gF uU x1 x2 x3 x4 k0
theorem MT (R:Type):k8 Tryz.prog 51 (Lz (gG (R:=R))):=bt TT mixed (Ys (R:=R)) rfl rfl rfl rfl cd (aac gq gF uU)
/-! ### humpyard/order.Lay$1 -/
abbrev BG (R:Type):Type:=Stop→(Json→Option R)→Option R
abbrev Ji:List cP := [.agg [.int .i64, .int .i64, .bool]]
abbrev Jj:List aW := []
def Om (fn:BG R):lh R Ji Jj:=fun x y k=>fn (⟨x.1.1,x.1.2.1,x.1.2.2.1⟩:Stop) (fun q0=>k (.agg [.int .i64 q0.kind, .int .i64 q0.num.ao, .int .i64 q0.num.exp, .str q0.text, .sl .str q0.names .no, .sl .json q0.items .no]) [])
def QA (fn:BG R):=aI Ji Jj (Om fn)
section
variable (gG:yM R)
def QB:List (oq R) := [(51,true,(Lz gG ax))]
def QC (x1:Stop) (k0:Json→Option R):Option R :=
 gG ([110,111,100,101,73,100]:ah) x1.node x1.seq x1.bO (fun y2=>k0 (⟨y2.kind,⟨y2.num.ao,y2.num.exp⟩,y2.text,y2.names,y2.items⟩:Json))
theorem Yt:dE (R:=R) tt (QB gG) rS false Tryz.f50 Ji Jj (Om (QC gG)):=fun x y k=>by kernel_rfl
end
theorem Wd:cu (R:=R) Tryz.prog (QB (R:=R) gG) := .c (MT R) <| .n
def fQ:BG R:=fun x1 k0=>QC gG x1 k0
theorem UA (R:Type):k8 Tryz.prog 50 (QA (fQ (R:=R))):=bt TT mixed (Wd (R:=R)) rfl rfl rfl rfl cd (Yt gG)
/-! ### humpyard/field.Arr -/
abbrev BH (R:Type):Type:=(List Json)→(Json→Option R)→Option R
abbrev On:List cP := [.leaf (.sl .json)]
abbrev Oo:List aW := []
def SS (fn:BH R):lh R On Oo:=fun x y k=>fn x.1 (fun q0=>k (.agg [.int .i64 q0.kind, .int .i64 q0.num.ao, .int .i64 q0.num.exp, .str q0.text, .sl .str q0.names .no, .sl .json q0.items .no]) [])
def Oq (fn:BH R):=aI On Oo (SS fn)
section
variable (cq:dL R)
def VA:List (oq R) := [(86,true,(DT cq ax))]
def Ot (x1:List Json) (k0:Json→Option R):Option R :=
 cq (⟨6,⟨0,0⟩,([]:ah),([]:List ah),x1⟩:Json) (fun y2=>k0 (⟨y2.kind,⟨y2.num.ao,y2.num.exp⟩,y2.text,y2.names,y2.items⟩:Json))
theorem field_Arr_ok:dE (R:=R) tt (VA cq) rS false Tryz.f98 On Oo (SS (Ot cq)):=fun x y k=>by kernel_rfl
end
theorem aad:cu (R:=R) Tryz.prog (VA (R:=R) cq) := .p (Dq R _ (jm _)) <| .n
def eh:BH R:=fun x1 k0=>Ot cq x1 k0
theorem Ou (R:Type):k8 Tryz.prog 98 (Oq (eh (R:=R))):=bt TT mixed (aad (R:=R)) rfl rfl rfl rfl cd (field_Arr_ok cq)
/-! ### humpyard/order.each[humpyard/api.Stop] -/
abbrev mI (R:Type):Type:=(List Stop)→(Json→Option R)→Option R
abbrev tI:List cP := [.leaf (.sl .stop), .leaf (.fn 50)]
abbrev tJ:List aW := []
def AP (fn:mI R):lh R tI tJ:=fun x y k=>fn x.1 (fun q0=>k (.agg [.int .i64 q0.kind, .int .i64 q0.num.ao, .int .i64 q0.num.exp, .str q0.text, .sl .str q0.names .no, .sl .json q0.items .no]) [])
def BI (fn:mI R):=aI tI tJ (AP fn)
abbrev nR (R:Type):Type:=Nat→(List Json)→(List Stop)→Int→Int→Int→Int→Int→ah→((List Json)→Int→Int→Int→ah→Option R)→Option R
def ku:Hint := { live := [1,4,5,8,9,10],own := [(5, .json)],rows := [],cells := [],drop := [],out := [4,5] }
abbrev fZ:Type:=(List Json)×(List Stop)×Int×Int×Int×Int×Int×ah
def mY:fZ→St:=fun d=>⟨.undef :: .func 50 [] []::U 2 (.ptr 0 0 :: .sl .json d.1 (.own 1)::U 2 (.sl .stop d.2.1 .no :: .int .i64 d.2.2.1 :: .int .i64 d.2.2.2.1::U 12 ([]))), [.cells [.int .i64 d.2.2.2.2.1, .int .i64 d.2.2.2.2.2.1, .int .i64 d.2.2.2.2.2.2.1, .str d.2.2.2.2.2.2.2, .bx, .bx], .tok]⟩
def nS (K:Ex→St→Option R) (q0:List Json) (q1:Int) (q2:Int) (q3:Int) (q4:ah):Option R:=K (.exit 0) ⟨U 4 (.ptr 0 0 :: .sl .json q0 (.own 1)::U 17 ([])), [.cells [.int .i64 q1, .int .i64 q2, .int .i64 q3, .str q4, .bx, .bx], .tok]⟩
abbrev iC:List cP := .leaf (.undef) :: .leaf (.fn 50)::PU 2 (.leaf (.ptr 0 0) :: .leaf (.T4 .json 1)::PU 2 (.leaf (.sl .stop) :: .leaf (.int .i64) :: .leaf (.int .i64)::PU 12 ([])))
abbrev iE:List aW := [.cells [.int .i64, .int .i64, .int .i64, .str, .bx, .bx], .tok]
def wj (x:cP.bQ iC) (y:aW.bQ iE):Nat:=(List.length x.2.2.2.2.2.1+List.length ((t8 x).1)+Int.natAbs ((t8 x).2.1)+Int.natAbs ((t8 x).2.2.1)+Int.natAbs y.1.1+Int.natAbs y.1.2.1+Int.natAbs y.1.2.2.1+List.length y.1.2.2.2.1+64)
def G0 (x:cP.bQ iC) (y:aW.bQ iE):fZ:=(x.2.2.2.2.2.1,(t8 x).1,(t8 x).2.1,(t8 x).2.2.1,y.1.1,y.1.2.1,y.1.2.2.1,y.1.2.2.2.1)
def vn (L:nR R):wW R iC iE:=fun x y K=>L (wj x y) x.2.2.2.2.2.1 ((t8 x).1) ((t8 x).2.1) ((t8 x).2.2.1) y.1.1 y.1.2.1 y.1.2.2.1 y.1.2.2.2.1 (nS K)
section
variable (eh:BH R) (fQ:BG R) (bD:nR R)
def iM:List (oq R) := [(98,true,(Oq eh ax)),(50,true,(QA fQ ax))]
def kv (dz:(List Json)→(List Stop)→Int→Int→Int→Int→Int→ah→Option R) (x2:List Json) (x3:List Stop) (x4:Int) (x5:Int) (x6:Int) (x7:Int) (x8:Int) (x9:ah) (e0:(List Json)→Int→Int→Int→ah→Option R):Option R :=
 bif (decide (x5<x4))then (cb (decide ((0:Int)≤x5)&&decide (x5<x3.length)) (fQ (x3.getD x5.toNat (Ty.aZ .stop)) (fun um=>cb (decide ((x2.length+1)*88≤140737488355328)) (dz (x2++([(⟨um.kind,⟨um.num.ao,um.num.exp⟩,um.text,um.names,um.items⟩:Json)]:List Json)) x3 x4 (IntKind.i64.wrap (x5+1)) x6 x7 x8 x9))))else (e0 x2 x6 x7 x8 x9)
def wk (K:Ex→St→Option R) (rc:fZ→Option R) (d:fZ):Option R:=kv fQ (fun z0 z1 z2 z3 z4 z5 z6 z7=>rc (z0,z1,z2,z3,z4,z5,z6,z7)) d.1 d.2.1 d.2.2.1 d.2.2.2.1 d.2.2.2.2.1 d.2.2.2.2.2.1 d.2.2.2.2.2.2.1 d.2.2.2.2.2.2.2 (nS K)
def kz:Nat→Option (Hint×cL R):=fun i=>match i with
 | 3=>some (ku,(cG iC iE (vn bD) iL))
 | _=>none
theorem Ei (K:Ex→St→Option R) (rc:St→Option R) (d:fZ):roundOf tt (cR (iM eh fQ)) (kz bD) 0 ((aA (bc Tryz.f49)).getD 0 .skip) ku (mY d) rc K=wk fQ K (fun d=>rc (mY d)) d:=by kernel_rfl
def tK (x1:List Stop) (k0:Json→Option R):Option R :=
 bD (List.length ([]:List Json)+List.length x1+Int.natAbs (x1.length:Int)+Int.natAbs 0+Int.natAbs 0+Int.natAbs 0+Int.natAbs 0+List.length ([]:ah)+64) ([]:List Json) x1 (x1.length:Int) 0 0 0 0 ([]:ah) (fun vQ yK HJ G1 Iy=>eh vQ (fun EN=>k0 (⟨EN.kind,⟨EN.num.ao,EN.num.exp⟩,EN.text,EN.names,EN.items⟩:Json)))
theorem Ke:dE (R:=R) tt (iM eh fQ) (kz bD) false Tryz.f49 tI tJ (AP (tK eh bD)):=fun x y k=>by kernel_rfl
end
theorem Jk:cu (R:=R) Tryz.prog (iM (R:=R) eh fQ) := .c (Ou R) <| .c (UA R) <| .n
def bD:nR R
 | 0,_,_,_,_,_,_,_,_,_=>none
 | n+1,gk,gn,gw,mC,wa,xT,Eg,Eh,e0=>kv fQ (fun gk gn gw mC wa xT Eg Eh=>bD n gk gn gw mC wa xT Eg Eh e0) gk gn gw mC wa xT Eg Eh e0
def wm (K:Ex→St→Option R) (n:Nat) (d:fZ):Option R:=bD n d.1 d.2.1 d.2.2.1 d.2.2.2.1 d.2.2.2.2.1 d.2.2.2.2.2.1 d.2.2.2.2.2.2.1 d.2.2.2.2.2.2.2 (nS K)
theorem FU (other:cL R) (ho:gW tt (cR (iM (R:=R) eh fQ)) (kz (R:=R) bD) 0 ((aA (bc Tryz.f49)).getD 0 .skip) ku other):gW tt (cR (iM (R:=R) eh fQ)) (kz (R:=R) bD) 0 ((aA (bc Tryz.f49)).getD 0 .skip) ku (cG iC iE (vn (bD)) other) :=
 cQ (A:=wm) ho (dV mY (wk fQ) (wm) (fun _ _=>by kernel_rfl) (Ei eh fQ bD) (fun _ _ _=>by kernel_rfl)) wj G0 (fun _ _=>by kernel_rfl) (fun _ _ _=>by kernel_rfl)
def dW:mI R:=fun x1 k0=>tK eh bD x1 k0
theorem G2 (R:Type):∀a∈aA (bc Tryz.f49),gK tt (cR (iM (R:=R) eh fQ)) (kz (R:=R) bD) 0 a:=by
 refine eY 1 (by kernel_rfl) fun i hi => ?_
 match i,hi with
 | 0,_=>exact cz (by kernel_rfl) (FU _ dv)
 | n+1,hi=>omega
theorem HK (R:Type):k8 Tryz.prog 49 (BI (dW (R:=R))):=bt TT mixed (Jk (R:=R)) rfl rfl rfl rfl (G2 R) (Ke eh fQ bD)
/-! ### humpyard/order.Lay$2 -/
abbrev BJ (R:Type):Type:=aC.Way→(Json→Option R)→Option R
abbrev Jl:List cP := [.agg [.int .i64, .int .i64, .bool]]
abbrev Jm:List aW := []
def Ov (fn:BJ R):lh R Jl Jm:=fun x y k=>fn (⟨x.1.1,x.1.2.1,x.1.2.2.1⟩:aC.Way) (fun q0=>k (.agg [.int .i64 q0.kind, .int .i64 q0.num.ao, .int .i64 q0.num.exp, .str q0.text, .sl .str q0.names .no, .sl .json q0.items .no]) [])
def QD (fn:BJ R):=aI Jl Jm (Ov fn)
section
variable (gG:yM R)
def QE:List (oq R) := [(51,true,(Lz gG ax))]
def QF (x1:aC.Way) (k0:Json→Option R):Option R :=
 gG ([101,100,103,101,73,100]:ah) x1.yC x1.seq x1.bO (fun y2=>k0 (⟨y2.kind,⟨y2.num.ao,y2.num.exp⟩,y2.text,y2.names,y2.items⟩:Json))
theorem Yu:dE (R:=R) tt (QE gG) rS false Tryz.f53 Jl Jm (Ov (QF gG)):=fun x y k=>by kernel_rfl
end
theorem We:cu (R:=R) Tryz.prog (QE (R:=R) gG) := .c (MT R) <| .n
def fR:BJ R:=fun x1 k0=>QF gG x1 k0
theorem UB (R:Type):k8 Tryz.prog 53 (QD (fR (R:=R))):=bt TT mixed (We (R:=R)) rfl rfl rfl rfl cd (Yu gG)
/-! ### humpyard/order.each[humpyard/api.Way] -/
abbrev nT (R:Type):Type:=(List aC.Way)→(Json→Option R)→Option R
abbrev uZ:List cP := [.leaf (.sl .pD), .leaf (.fn 53)]
abbrev u0:List aW := []
def BK (fn:nT R):lh R uZ u0:=fun x y k=>fn x.1 (fun q0=>k (.agg [.int .i64 q0.kind, .int .i64 q0.num.ao, .int .i64 q0.num.exp, .str q0.text, .sl .str q0.names .no, .sl .json q0.items .no]) [])
def C2 (fn:nT R):=aI uZ u0 (BK fn)
abbrev oM (R:Type):Type:=Nat→(List Json)→(List aC.Way)→Int→Int→Int→Int→Int→ah→((List Json)→Int→Int→Int→ah→Option R)→Option R
def lv:Hint := { live := [1,4,5,8,9,10],own := [(5, .json)],rows := [],cells := [],drop := [],out := [4,5] }
abbrev gu:Type:=(List Json)×(List aC.Way)×Int×Int×Int×Int×Int×ah
def nU:gu→St:=fun d=>⟨.undef :: .func 53 [] []::U 2 (.ptr 0 0 :: .sl .json d.1 (.own 1)::U 2 (.sl .pD d.2.1 .no :: .int .i64 d.2.2.1 :: .int .i64 d.2.2.2.1::U 12 ([]))), [.cells [.int .i64 d.2.2.2.2.1, .int .i64 d.2.2.2.2.2.1, .int .i64 d.2.2.2.2.2.2.1, .str d.2.2.2.2.2.2.2, .bx, .bx], .tok]⟩
def oN (K:Ex→St→Option R) (q0:List Json) (q1:Int) (q2:Int) (q3:Int) (q4:ah):Option R:=K (.exit 0) ⟨U 4 (.ptr 0 0 :: .sl .json q0 (.own 1)::U 17 ([])), [.cells [.int .i64 q1, .int .i64 q2, .int .i64 q3, .str q4, .bx, .bx], .tok]⟩
abbrev jd:List cP := .leaf (.undef) :: .leaf (.fn 53)::PU 2 (.leaf (.ptr 0 0) :: .leaf (.T4 .json 1)::PU 2 (.leaf (.sl .pD) :: .leaf (.int .i64) :: .leaf (.int .i64)::PU 12 ([])))
abbrev je:List aW := [.cells [.int .i64, .int .i64, .int .i64, .str, .bx, .bx], .tok]
def xr (x:cP.bQ jd) (y:aW.bQ je):Nat:=(List.length x.2.2.2.2.2.1+List.length ((t8 x).1)+Int.natAbs ((t8 x).2.1)+Int.natAbs ((t8 x).2.2.1)+Int.natAbs y.1.1+Int.natAbs y.1.2.1+Int.natAbs y.1.2.2.1+List.length y.1.2.2.2.1+64)
def HL (x:cP.bQ jd) (y:aW.bQ je):gu:=(x.2.2.2.2.2.1,(t8 x).1,(t8 x).2.1,(t8 x).2.2.1,y.1.1,y.1.2.1,y.1.2.2.1,y.1.2.2.2.1)
def wo (L:oM R):wW R jd je:=fun x y K=>L (xr x y) x.2.2.2.2.2.1 ((t8 x).1) ((t8 x).2.1) ((t8 x).2.2.1) y.1.1 y.1.2.1 y.1.2.2.1 y.1.2.2.2.1 (oN K)
section
variable (eh:BH R) (fR:BJ R) (bH:oM R)
def jq:List (oq R) := [(98,true,(Oq eh ax)),(53,true,(QD fR ax))]
def lx (dz:(List Json)→(List aC.Way)→Int→Int→Int→Int→Int→ah→Option R) (x2:List Json) (x3:List aC.Way) (x4:Int) (x5:Int) (x6:Int) (x7:Int) (x8:Int) (x9:ah) (e0:(List Json)→Int→Int→Int→ah→Option R):Option R :=
 bif (decide (x5<x4))then (cb (decide ((0:Int)≤x5)&&decide (x5<x3.length)) (fR (x3.getD x5.toNat (Ty.aZ .pD)) (fun um=>cb (decide ((x2.length+1)*88≤140737488355328)) (dz (x2++([(⟨um.kind,⟨um.num.ao,um.num.exp⟩,um.text,um.names,um.items⟩:Json)]:List Json)) x3 x4 (IntKind.i64.wrap (x5+1)) x6 x7 x8 x9))))else (e0 x2 x6 x7 x8 x9)
def xu (K:Ex→St→Option R) (rc:gu→Option R) (d:gu):Option R:=lx fR (fun z0 z1 z2 z3 z4 z5 z6 z7=>rc (z0,z1,z2,z3,z4,z5,z6,z7)) d.1 d.2.1 d.2.2.1 d.2.2.2.1 d.2.2.2.2.1 d.2.2.2.2.2.1 d.2.2.2.2.2.2.1 d.2.2.2.2.2.2.2 (oN K)
def lH:Nat→Option (Hint×cL R):=fun i=>match i with
 | 3=>some (lv,(cG jd je (wo bH) iL))
 | _=>none
theorem EX (K:Ex→St→Option R) (rc:St→Option R) (d:gu):roundOf tt (cR (jq eh fR)) (lH bH) 0 ((aA (bc Tryz.f52)).getD 0 .skip) lv (nU d) rc K=xu fR K (fun d=>rc (nU d)) d:=by kernel_rfl
def u4 (x1:List aC.Way) (k0:Json→Option R):Option R :=
 bH (List.length ([]:List Json)+List.length x1+Int.natAbs (x1.length:Int)+Int.natAbs 0+Int.natAbs 0+Int.natAbs 0+Int.natAbs 0+List.length ([]:ah)+64) ([]:List Json) x1 (x1.length:Int) 0 0 0 0 ([]:ah) (fun vQ yK HJ G1 Iy=>eh vQ (fun EN=>k0 (⟨EN.kind,⟨EN.num.ao,EN.num.exp⟩,EN.text,EN.names,EN.items⟩:Json)))
theorem LB:dE (R:=R) tt (jq eh fR) (lH bH) false Tryz.f52 uZ u0 (BK (u4 eh bH)):=fun x y k=>by kernel_rfl
end
theorem Kf:cu (R:=R) Tryz.prog (jq (R:=R) eh fR) := .c (Ou R) <| .c (UB R) <| .n
def bH:oM R
 | 0,_,_,_,_,_,_,_,_,_=>none
 | n+1,gk,gn,gw,mC,wa,xT,Eg,Eh,e0=>lx fR (fun gk gn gw mC wa xT Eg Eh=>bH n gk gn gw mC wa xT Eg Eh e0) gk gn gw mC wa xT Eg Eh e0
def xw (K:Ex→St→Option R) (n:Nat) (d:gu):Option R:=bH n d.1 d.2.1 d.2.2.1 d.2.2.2.1 d.2.2.2.2.1 d.2.2.2.2.2.1 d.2.2.2.2.2.2.1 d.2.2.2.2.2.2.2 (oN K)
theorem G3 (other:cL R) (ho:gW tt (cR (jq (R:=R) eh fR)) (lH (R:=R) bH) 0 ((aA (bc Tryz.f52)).getD 0 .skip) lv other):gW tt (cR (jq (R:=R) eh fR)) (lH (R:=R) bH) 0 ((aA (bc Tryz.f52)).getD 0 .skip) lv (cG jd je (wo (bH)) other) :=
 cQ (A:=xw) ho (dV nU (xu fR) (xw) (fun _ _=>by kernel_rfl) (EX eh fR bH) (fun _ _ _=>by kernel_rfl)) xr HL (fun _ _=>by kernel_rfl) (fun _ _ _=>by kernel_rfl)
def eB:nT R:=fun x1 k0=>u4 eh bH x1 k0
theorem HM (R:Type):∀a∈aA (bc Tryz.f52),gK tt (cR (jq (R:=R) eh fR)) (lH (R:=R) bH) 0 a:=by
 refine eY 1 (by kernel_rfl) fun i hi => ?_
 match i,hi with
 | 0,_=>exact cz (by kernel_rfl) (G3 _ dv)
 | n+1,hi=>omega
theorem Jn (R:Type):k8 Tryz.prog 52 (C2 (eB (R:=R))):=bt TT mixed (Kf (R:=R)) rfl rfl rfl rfl (HM R) (LB eh fR bH)
/-! ### humpyard/json.bare -/
abbrev FV (R:Type):Type:=Json→(Json→Option R)→Option R
abbrev Ow:List cP := [.agg [.int .i64, .int .i64, .int .i64, .str, .sl .str, .sl .json]]
abbrev Ox:List aW := []
def SU (fn:FV R):lh R Ow Ox:=fun x y k=>fn (⟨x.1.1,⟨x.1.2.1,x.1.2.2.1⟩,x.1.2.2.2.1,x.1.2.2.2.2.1,x.1.2.2.2.2.2.1⟩:Json) (fun q0=>k (.agg [.int .i64 q0.kind, .int .i64 q0.num.ao, .int .i64 q0.num.exp, .str q0.text, .sl .str q0.names .no, .sl .json q0.items .no]) [])
def VB (fn:FV R):=aI Ow Ox (SU fn)
section
def Iz (x1:Json) (k0:Json→Option R):Option R :=
 bif (x1.kind==4)then (k0 (⟨x1.kind,⟨0,0⟩,x1.text,x1.names,x1.items⟩:Json))else (bif (x1.kind==5)then (k0 (⟨x1.kind,⟨x1.num.ao,x1.num.exp⟩,([]:ah),x1.names,x1.items⟩:Json))else (bif (x1.kind==7)then (k0 (⟨x1.kind,⟨x1.num.ao,x1.num.exp⟩,x1.text,([]:List ah),([]:List Json)⟩:Json))else (bif (x1.kind==6)then (k0 (⟨x1.kind,⟨x1.num.ao,x1.num.exp⟩,x1.text,x1.names,([]:List Json)⟩:Json))else (k0 (⟨x1.kind,⟨x1.num.ao,x1.num.exp⟩,x1.text,x1.names,x1.items⟩:Json)))))
theorem json_bare_ok:dE (R:=R) tt [] rS false Tryz.f163 Ow Ox (SU Iz):=fun x y k=>by kernel_rfl
end
def sa:FV R:=fun x1 k0=>Iz x1 k0
theorem Yv (R:Type):k8 Tryz.prog 163 (VB (sa (R:=R))):=bt TT mixed .n rfl rfl rfl rfl cd (json_bare_ok)
/-! ### humpyard/decimal.Right -/
abbrev ov (R:Type):Type:=fv→(Bool→Option R)→Option R
abbrev EY:List cP := [.agg [.int .i64, .int .i64]]
abbrev EZ:List aW := []
def Kg (fn:ov R):lh R EY EZ:=fun x y k=>fn (⟨x.1.1,x.1.2.1⟩:fv) (fun q0=>k (.bool q0) [])
def zF (fn:ov R):=aI EY EZ (Kg fn)
section
variable (ay:jn R)
def MU:List (oq R) := [(135,true,(p7 ay ax))]
def jE (x1:fv) (k0:Bool→Option R):Option R :=
 bif (x1.ao==0)then (k0 (x1.exp==0))else (bif ((Int.tmod x1.ao 10) != 0)then (ay (-1000000000000000) x1.ao 1000000000000000 (fun y2=>bif y2 then (ay (-9) x1.exp 9 (fun y3=>k0 y3))else (k0 false)))else (k0 false))
theorem UC:dE (R:=R) tt (MU ay) rS false Tryz.f164 EY EZ (Kg (jE ay)):=fun x y k=>by kernel_rfl
end
theorem SV:cu (R:=R) Tryz.prog (MU (R:=R) ay) := .c (r6 R) <| .n
def bL:ov R:=fun x1 k0=>jE ay x1 k0
theorem Aj (R:Type):k8 Tryz.prog 164 (zF (bL (R:=R))):=bt TT mixed (SV (R:=R)) rfl rfl rfl rfl cd (UC ay)
/-! ### humpyard/quote.Whole -/
abbrev sb (R:Type):Type:=ah→(Bool→Option R)→Option R
abbrev Jo:List cP := [.leaf (.str)]
abbrev Jp:List aW := []
def Oy (fn:sb R):lh R Jo Jp:=fun x y k=>fn x.1 (fun q0=>k (.bool q0) [])
def DV (fn:sb R):=aI Jo Jp (Oy fn)
section
def QG:List (oq R) := [(200,true,(valid_S R))]
def QH (x1:ah) (k0:Bool→Option R):Option R :=
 k0 (fW x1)
theorem Yw:dE (R:=R) tt (QG (R:=R)) rS false Tryz.f165 Jo Jp (Oy QH):=fun x y k=>by kernel_rfl
end
theorem Wf:cu (R:=R) Tryz.prog (QG (R:=R)) := .p (valid_ok) <| .n
def bN:sb R:=fun x1 k0=>QH x1 k0
theorem Ds (R:Type):k8 Tryz.prog 165 (DV (bN (R:=R))):=bt TT mixed (Wf (R:=R)) rfl rfl rfl rfl cd (Yw)
end Go.Proofs.YtidfokedcnhahaaGreatDoor
/-
 Functions of the program as pure Lean functions, and the ties; printed by wip/tools/emit.py.
-/
set_option maxRecDepth 100000
namespace Go.Proofs.YtidfokedcnhahaaGreatDoor
open Go Go.aC
variable {R:Type}
/-! ### humpyard/json.unique -/
abbrev BL (R:Type):Type:=(List ah)→(Bool→Option R)→Option R
abbrev Jq:List cP := [.leaf (.sl .str)]
abbrev Jr:List aW := []
def Oz (fn:BL R):lh R Jq Jr:=fun x y k=>fn x.1 (fun q0=>k (.bool q0) [])
def QI (fn:BL R):=aI Jq Jr (Oz fn)
abbrev Ak (R:Type):Type:=Nat→(List ah)→Int→Int→(List (ah×Bool))→(Option R)→(Bool→Option R)→Option R
def vo:Hint := { live := [3,7,8,9],own := [],rows := [],cells := [],drop := [],out := [2] }
abbrev mJ:Type:=(List ah)×Int×Int×(List (ah×Bool))
def xZ:mJ→St:=fun d=>⟨U 3 (.map 0::U 3 (.sl .str d.1 .no :: .int .i64 d.2.1 :: .int .i64 d.2.2.1::U 14 ([]))), [.zT .str .bool d.2.2.2]⟩
def Al (K:Ex→St→Option R):Option R:=K (.exit 0) ⟨U 24 ([]), []⟩
def Am (K:Ex→St→Option R) (q0:Bool):Option R:=K (.ret) ⟨U 2 (.bool q0::U 21 ([])), []⟩
abbrev p8:List cP:=PU 3 (.leaf (.map 0)::PU 3 (.leaf (.sl .str) :: .leaf (.int .i64) :: .leaf (.int .i64)::PU 14 ([])))
abbrev p9:List aW := [.zT .str .bool]
def IA (x:cP.bQ p8) (y:aW.bQ p9):Nat:=(List.length x.2.2.2.2.2.2.2.1+Int.natAbs ((t8 x).1)+Int.natAbs ((t8 x).2.1)+List.length y.1+64)
def SW (x:cP.bQ p8) (y:aW.bQ p9):mJ:=(x.2.2.2.2.2.2.2.1,(t8 x).1,(t8 x).2.1,y.1)
def G4 (L:Ak R):wW R p8 p9:=fun x y K=>L (IA x y) x.2.2.2.2.2.2.2.1 ((t8 x).1) ((t8 x).2.1) y.1 (Al K) (Am K)
section
variable (bN:sb R) (cX:Ak R)
def uV:List (oq R) := [(165,true,(DV bN ax))]
def vp (dz:(List ah)→Int→Int→(List (ah×Bool))→Option R) (x2:List ah) (x3:Int) (x4:Int) (x5:List (ah×Bool)) (e0:Option R) (e1:Bool→Option R):Option R :=
 bif (decide (x4<x3))then (cb (decide ((0:Int)≤x4)&&decide (x4<x2.length)) (bif (ml .str .bool (x2.getD x4.toNat (Ty.aZ .str)) x5)then (e1 false)else (bN (x2.getD x4.toNat (Ty.aZ .str)) (fun y6=>bif (!y6)then (e1 false)else (dz x2 x3 (IntKind.i64.wrap (x4+1)) (Bp .str .bool (x2.getD x4.toNat (Ty.aZ .str)) true x5))))))else (e0)
def IB (K:Ex→St→Option R) (rc:mJ→Option R) (d:mJ):Option R:=vp bN (fun z0 z1 z2 z3=>rc (z0,z1,z2,z3)) d.1 d.2.1 d.2.2.1 d.2.2.2 (Al K) (Am K)
def yN:Nat→Option (Hint×cL R):=fun i=>match i with
 | 3=>some (vo,(cG p8 p9 (G4 cX) iL))
 | _=>none
theorem OA (K:Ex→St→Option R) (rc:St→Option R) (d:mJ):roundOf tt (cR (uV bN)) (yN cX) 0 ((aA (bc Tryz.f166)).getD 0 .skip) vo (xZ d) rc K=IB bN K (fun d=>rc (xZ d)) d:=by kernel_rfl
def QJ (x1:List ah) (k0:Bool→Option R):Option R :=
 cX (List.length x1+Int.natAbs (x1.length:Int)+Int.natAbs 0+List.length ([]:List (ah×Bool))+64) x1 (x1.length:Int) 0 ([]:List (ah×Bool)) (k0 true) (fun y8=>k0 y8)
theorem Yx:dE (R:=R) tt (uV bN) (yN cX) false Tryz.f166 Jq Jr (Oz (QJ cX)):=fun x y k=>by kernel_rfl
end
theorem Wg:cu (R:=R) Tryz.prog (uV (R:=R) bN) := .c (Ds R) <| .n
def cX:Ak R
 | 0,_,_,_,_,_,_=>none
 | n+1,gk,gn,gw,mC,e0,e1=>vp bN (fun gk gn gw mC=>cX n gk gn gw mC e0 e1) gk gn gw mC e0 e1
def IC (K:Ex→St→Option R) (n:Nat) (d:mJ):Option R:=cX n d.1 d.2.1 d.2.2.1 d.2.2.2 (Al K) (Am K)
theorem RD (other:cL R) (ho:gW tt (cR (uV (R:=R) bN)) (yN (R:=R) cX) 0 ((aA (bc Tryz.f166)).getD 0 .skip) vo other):gW tt (cR (uV (R:=R) bN)) (yN (R:=R) cX) 0 ((aA (bc Tryz.f166)).getD 0 .skip) vo (cG p8 p9 (G4 (cX)) other) :=
 cQ (A:=IC) ho (dV xZ (IB bN) (IC) (fun _ _=>by kernel_rfl) (OA bN cX) (fun _ _ _=>by kernel_rfl)) IA SW (fun _ _=>by kernel_rfl) (fun _ _ _=>by kernel_rfl)
def k9:BL R:=fun x1 k0=>QJ cX x1 k0
theorem SX (R:Type):∀a∈aA (bc Tryz.f166),gK tt (cR (uV (R:=R) bN)) (yN (R:=R) cX) 0 a:=by
 refine eY 1 (by kernel_rfl) fun i hi => ?_
 match i,hi with
 | 0,_=>exact cz (by kernel_rfl) (RD _ dv)
 | n+1,hi=>omega
theorem UD (R:Type):k8 Tryz.prog 166 (QI (k9 (R:=R))):=bt TT mixed (Wg (R:=R)) rfl rfl rfl rfl (SX R) (Yx bN cX)
/-! ### humpyard/json.right -/
abbrev cK (R:Type):Type:=Json→Int→(Bool→Option R)→Option R
abbrev gH:List cP := [.agg [.int .i64, .int .i64, .int .i64, .str, .sl .str, .sl .json], .leaf (.int .i64)]
abbrev gI:List aW := []
def ej (fn:cK R):lh R gH gI:=fun x y k=>fn (⟨x.1.1,⟨x.1.2.1,x.1.2.2.1⟩,x.1.2.2.2.1,x.1.2.2.2.2.1,x.1.2.2.2.2.2.1⟩:Json) x.2.1 (fun q0=>k (.bool q0) [])
def SY (fn:cK R):=aI gH gI (ej fn)
/-! ### humpyard/json.right$1 -/
abbrev qa (R:Type):Type:=Json→Int→(Bool→Int→Option R)→Option R
abbrev ya:List cP := [.agg [.int .i64, .int .i64, .int .i64, .str, .sl .str, .sl .json], .leaf (.ptr 0 0)]
abbrev yb:List aW := [.cells [.int .i64]]
def Ej (fn:qa R):lh R ya yb:=fun x y k=>fn (⟨x.1.1,⟨x.1.2.1,x.1.2.2.1⟩,x.1.2.2.2.1,x.1.2.2.2.2.1,x.1.2.2.2.2.2.1⟩:Json) y.1.1 (fun q0 q1=>k (.bool q0) [.cells [.int .i64 q1]])
def Ft (fn:qa R):=aI ya yb (Ej fn)
section
variable (au:cK R)
def Fu:List (oq R) := [(121,true,(aI gH gI (ej au) ax))]
def rT (x1:Json) (x2:Int) (k0:Bool→Int→Option R):Option R :=
 au (⟨x1.kind,⟨x1.num.ao,x1.num.exp⟩,x1.text,x1.names,x1.items⟩:Json) (IntKind.i64.wrap (x2+1)) (fun y3=>k0 (!y3) x2)
theorem OB:dE (R:=R) tt (Fu au) rS false Tryz.f168 ya yb (Ej (rT au)):=fun x y k=>by kernel_rfl
end
theorem Nu (au:cK R) (dX:aC.Spec.Ok Tryz.prog 121 (aI gH gI (ej au) ax)):cu (R:=R) Tryz.prog (Fu (R:=R) au) := .p dX <| .n
def cN (au:cK R):qa R:=fun x1 x2 k0=>rT au x1 x2 k0
theorem LC (R:Type) (au:cK R) (dX:aC.Spec.Ok Tryz.prog 121 (aI gH gI (ej au) ax)):k8 Tryz.prog 168 (Ft (cN au)):=bt TT mixed (Nu au dX) rfl rfl rfl rfl cd (OB au)
/-! ### slices.IndexFunc[[]humpyard/api.Json,humpyard/api.Json] -/
abbrev gR (R:Type):Type:=(List Json)→Int→(Int→Int→Option R)→Option R
abbrev kA:List cP := [.leaf (.sl .json), .func 168 [] [.ptr 0 0]]
abbrev kB:List aW := [.cells [.int .i64]]
def pr (fn:gR R):lh R kA kB:=fun x y k=>fn x.1 y.1.1 (fun q0 q1=>k (.int .i64 q0) [.cells [.int .i64 q1]])
def qd (fn:gR R):=aI kA kB (pr fn)
abbrev iN (R:Type):Type:=Nat→(List Json)→Int→Int→Int→(Int→Option R)→(Int→Int→Option R)→Option R
def fS:Hint := { live := [0,1,7,8],own := [],rows := [],cells := [],drop := [],out := [4] }
abbrev dw:Type:=(List Json)×Int×Int×Int
def iF:dw→St:=fun d=>⟨.sl .json d.1 .no :: .func 168 [] [.ptr 0 0]::U 5 (.int .i64 d.2.1 :: .int .i64 d.2.2.1::U 10 ([])), [.cells [.int .i64 d.2.2.2]]⟩
def iO (K:Ex→St→Option R) (q0:Int):Option R:=K (.exit 0) ⟨U 19 ([]), [.cells [.int .i64 q0]]⟩
def iP (K:Ex→St→Option R) (q0:Int) (q1:Int):Option R:=K (.ret) ⟨U 4 (.int .i64 q0::U 14 ([])), [.cells [.int .i64 q1]]⟩
abbrev eC:List cP := .leaf (.sl .json) :: .func 168 [] [.ptr 0 0]::PU 5 (.leaf (.int .i64) :: .leaf (.int .i64)::PU 10 ([]))
abbrev eD:List aW := [.cells [.int .i64]]
def nu (x:cP.bQ eC) (y:aW.bQ eD):Nat:=(List.length x.1+Int.natAbs x.2.2.2.2.2.2.2.1+Int.natAbs ((t8 x).1)+Int.natAbs y.1.1+64)
def yc (x:cP.bQ eC) (y:aW.bQ eD):dw:=(x.1,x.2.2.2.2.2.2.2.1,(t8 x).1,y.1.1)
def mK (L:iN R):wW R eC eD:=fun x y K=>L (nu x y) x.1 x.2.2.2.2.2.2.2.1 ((t8 x).1) y.1.1 (iO K) (iP K)
section
variable (cN:qa R) (aQ:iN R)
def ei:List (oq R) := [(168,false,(Ft cN ax))]
def fT (dz:(List Json)→Int→Int→Int→Option R) (x3:List Json) (x4:Int) (x5:Int) (x6:Int) (e0:Int→Option R) (e1:Int→Int→Option R):Option R :=
 bif (decide (x5<x4))then (cb (decide ((0:Int)≤x5)&&decide (x5<x3.length)) (cN (⟨(x3.getD x5.toNat (Ty.aZ .json)).kind,⟨(x3.getD x5.toNat (Ty.aZ .json)).num.ao,(x3.getD x5.toNat (Ty.aZ .json)).num.exp⟩,(x3.getD x5.toNat (Ty.aZ .json)).text,(x3.getD x5.toNat (Ty.aZ .json)).names,(x3.getD x5.toNat (Ty.aZ .json)).items⟩:Json) x6 (fun y7 y8=>bif y7 then (e1 x5 y8)else (dz x3 x4 (IntKind.i64.wrap (x5+1)) y8))))else (e0 x6)
def nv (K:Ex→St→Option R) (rc:dw→Option R) (d:dw):Option R:=fT cN (fun z0 z1 z2 z3=>rc (z0,z1,z2,z3)) d.1 d.2.1 d.2.2.1 d.2.2.2 (iO K) (iP K)
def fo:Nat→Option (Hint×cL R):=fun i=>match i with
 | 2=>some (fS,(cG eC eD (mK aQ) iL))
 | _=>none
theorem vR (K:Ex→St→Option R) (rc:St→Option R) (d:dw):roundOf tt (cR (ei cN)) (fo aQ) 1 ((aA (bc Tryz.f201)).getD 0 .skip) fS (iF d) rc K=nv cN K (fun d=>rc (iF d)) d:=by kernel_rfl
def qe (x1:List Json) (x2:Int) (k0:Int→Int→Option R):Option R :=
 aQ (List.length x1+Int.natAbs (x1.length:Int)+Int.natAbs 0+Int.natAbs x2+64) x1 (x1.length:Int) 0 x2 (fun y9=>k0 (-1) y9) (fun um vQ=>k0 um vQ)
theorem Bb:dE (R:=R) tt (ei cN) (fo aQ) false Tryz.f201 kA kB (pr (qe aQ)):=fun x y k=>by kernel_rfl
end
theorem An (au:cK R) (dX:aC.Spec.Ok Tryz.prog 121 (aI gH gI (ej au) ax)):cu (R:=R) Tryz.prog (ei (R:=R) (cN au)) := .d (LC R au dX) rfl <| .n
def aQ (au:cK R):iN R
 | 0,_,_,_,_,_,_=>none
 | n+1,gk,gn,gw,mC,e0,e1=>fT (cN au) (fun gk gn gw mC=>aQ au n gk gn gw mC e0 e1) gk gn gw mC e0 e1
def nw (au:cK R) (K:Ex→St→Option R) (n:Nat) (d:dw):Option R:=aQ au n d.1 d.2.1 d.2.2.1 d.2.2.2 (iO K) (iP K)
theorem w8 (au:cK R) (other:cL R) (ho:gW tt (cR (ei (R:=R) (cN au))) (fo (R:=R) (aQ au)) 1 ((aA (bc Tryz.f201)).getD 0 .skip) fS other):gW tt (cR (ei (R:=R) (cN au))) (fo (R:=R) (aQ au)) 1 ((aA (bc Tryz.f201)).getD 0 .skip) fS (cG eC eD (mK (aQ au)) other) :=
 cQ (A:=nw au) ho (dV iF (nv (cN au)) (nw au) (fun _ _=>by kernel_rfl) (vR (cN au) (aQ au)) (fun _ _ _=>by kernel_rfl)) nu yc (fun _ _=>by kernel_rfl) (fun _ _ _=>by kernel_rfl)
def cS (au:cK R):gR R:=fun x1 x2 k0=>qe (aQ au) x1 x2 k0
theorem yd (R:Type) (au:cK R) (dX:aC.Spec.Ok Tryz.prog 121 (aI gH gI (ej au) ax)):∀a∈aA (bc Tryz.f201),gK tt (cR (ei (R:=R) (cN au))) (fo (R:=R) (aQ au)) 1 a:=by
 refine eY 1 (by kernel_rfl) fun i hi => ?_
 match i,hi with
 | 0,_=>exact cz (by kernel_rfl) (w8 au _ dv)
 | n+1,hi=>omega
theorem yO (R:Type) (au:cK R) (dX:aC.Spec.Ok Tryz.prog 121 (aI gH gI (ej au) ax)):k8 Tryz.prog 201 (qd (cS au)):=bt TT mixed (An au dX) rfl rfl rfl rfl (yd R au dX) (Bb (cN au) (aQ au))
/-! ### slices.ContainsFunc[[]humpyard/api.Json,humpyard/api.Json] -/
abbrev fU (R:Type):Type:=(List Json)→Int→(Bool→Int→Option R)→Option R
abbrev jv:List cP := [.leaf (.sl .json), .func 168 [] [.ptr 0 0]]
abbrev jx:List aW := [.cells [.int .i64]]
def nA (fn:fU R):lh R jv jx:=fun x y k=>fn x.1 y.1.1 (fun q0 q1=>k (.bool q0) [.cells [.int .i64 q1]])
def oc (fn:fU R):=aI jv jx (nA fn)
section
variable (cS:gR R)
def oe:List (oq R) := [(201,false,(qd cS ax))]
def og (x1:List Json) (x2:Int) (k0:Bool→Int→Option R):Option R :=
 cS x1 x2 (fun y3 y4=>k0 (decide (y3≥(0:Int))) y4)
theorem ye:dE (R:=R) tt (oe cS) rS false Tryz.f167 jv jx (nA (og cS)):=fun x y k=>by kernel_rfl
end
theorem w9 (au:cK R) (dX:aC.Spec.Ok Tryz.prog 121 (aI gH gI (ej au) ax)):cu (R:=R) Tryz.prog (oe (R:=R) (cS au)) := .d (yO R au dX) rfl <| .n
def aP (au:cK R):fU R:=fun x1 x2 k0=>og (cS au) x1 x2 k0
theorem wu (R:Type) (au:cK R) (dX:aC.Spec.Ok Tryz.prog 121 (aI gH gI (ej au) ax)):k8 Tryz.prog 167 (oc (aP au)):=bt TT mixed (w9 au dX) rfl rfl rfl rfl cd (ye (cS au))
section
variable (bN:sb R) (bL:ov R) (sa:FV R) (k9:BL R) (aP:fU R)
def SZ:List (oq R) := [(165,true,(DV bN ax)),(164,true,(zF bL ax)),(163,true,(VB sa ax)),(166,true,(QI k9 ax)),(167,false,(oc aP ax))]
def FW (x1:Json) (x2:Int) (k0:Bool→Option R):Option R :=
 sa (⟨x1.kind,⟨x1.num.ao,x1.num.exp⟩,x1.text,x1.names,x1.items⟩:Json) (fun y3=>bif (decide (x2>(16:Int)))then (k0 false)else (bif (decide (x1.kind<(1:Int)))then (k0 false)else (bif (decide (x1.kind>(7:Int)))then (k0 false)else (bif (!(y3.num.ao==0&&(y3.num.exp==0&&true)))then (k0 false)else (bif (!(y3.text==([]:ah)))then (k0 false)else (bif (decide ((IntKind.i64.wrap ((y3.names.length:Int)+(y3.items.length:Int)))>(0:Int)))then (k0 false)else (bif (x1.kind==4)then (bL x1.num (fun y5=>k0 y5))else (bif (x1.kind==5)then (bN x1.text (fun y6=>k0 y6))else (bif (x1.kind==7)then (bif ((x1.names.length:Int) != (x1.items.length:Int))then (k0 false)else (k9 x1.names (fun y7=>bif (!y7)then (k0 false)else (aP x1.items x2 (fun vQ yK=>k0 (!vQ))))))else (aP x1.items x2 (fun HJ G1=>k0 (!HJ))))))))))))
theorem aae:dE (R:=R) tt (SZ bN bL sa k9 aP) rS false Tryz.f121 gH gI (ej (FW bN bL sa k9 aP)):=fun x y k=>by kernel_rfl
end
theorem Yy (au:cK R) (dX:aC.Spec.Ok Tryz.prog 121 (aI gH gI (ej au) ax)):cu (R:=R) Tryz.prog (SZ (R:=R) bN bL sa k9 (aP au)) := .c (Ds R) <| .c (Aj R) <| .c (Yv R) <| .c (UD R) <| .d (wu R au dX) rfl <| .n
def LD (au:cK R):cK R:=fun x1 x2 k0=>FW bN bL sa k9 (aP au) x1 x2 k0
theorem UE (R:Type) (au:cK R) (dX:aC.Spec.Ok Tryz.prog 121 (aI gH gI (ej au) ax)):k8 Tryz.prog 121 (SY (LD au)):=bt TT mixed (Yy au dX) rfl rfl rfl rfl cd (aae bN bL sa k9 (aP au))
def eM:Nat→cK R
 | 0,_,_,_=>none
 | n+1,gk,gn,k0'=>LD (eM n) gk gn k0'
theorem json_right_N_succ (n:Nat):eM (R:=R) (n+1)=LD (eM n):=by kernel_rfl
theorem Wh (R:Type):∀n,aC.Spec.Ok Tryz.prog 121 (aI gH gI (ej (eM (R:=R) n)) ax) :=
 AO (run:=fun n=>ej (eM (R:=R) n)) (fun x y k=>by kernel_rfl) fun n hyp=>UE R (eM n) hyp ax (jm _)
def oO:cK R:=fun x1 x2 k0=>eM (Json.depth x1+2) x1 x2 k0
theorem Wi (R:Type):ej (R:=R) oO=fun x y k=>ej (eM (Json.depth (⟨x.1.1,⟨x.1.2.1,x.1.2.2.1⟩,x.1.2.2.2.1,x.1.2.2.2.2.1,x.1.2.2.2.2.2.1⟩:Json)+2)) x y k:=by kernel_rfl
theorem Wj (R:Type) (other:aC.Spec R) (ho:aC.Spec.Ok Tryz.prog 121 other):aC.Spec.Ok Tryz.prog 121 (aI gH gI (ej oO) other) :=
 GN (Ka (run:=fun n=>ej (eM (R:=R) n)) (fun x y=>(Json.depth (⟨x.1.1,⟨x.1.2.1,x.1.2.2.1⟩,x.1.2.2.2.1,x.1.2.2.2.2.1,x.1.2.2.2.2.2.1⟩:Json)+2)) ho (Wh R)) (Wi R)
/-! ### humpyard/json.Right -/
abbrev DW (R:Type):Type:=Json→(Bool→Option R)→Option R
abbrev LF:List cP := [.agg [.int .i64, .int .i64, .int .i64, .str, .sl .str, .sl .json]]
abbrev LG:List aW := []
def QK (fn:DW R):lh R LF LG:=fun x y k=>fn (⟨x.1.1,⟨x.1.2.1,x.1.2.2.1⟩,x.1.2.2.2.1,x.1.2.2.2.2.1,x.1.2.2.2.2.2.1⟩:Json) (fun q0=>k (.bool q0) [])
def S0 (fn:DW R):=aI LF LG (QK fn)
section
variable (oO:cK R)
def S1:List (oq R) := [(121,true,(SY oO ax))]
def FX (x1:Json) (k0:Bool→Option R):Option R :=
 oO (⟨x1.kind,⟨x1.num.ao,x1.num.exp⟩,x1.text,x1.names,x1.items⟩:Json) 1 (fun y2=>k0 y2)
theorem aaf:dE (R:=R) tt (S1 oO) rS false Tryz.f82 LF LG (QK (FX oO)):=fun x y k=>by kernel_rfl
end
theorem Yz:cu (R:=R) Tryz.prog (S1 (R:=R) oO) := .p (Wj R _ (jm _)) <| .n
def mZ:DW R:=fun x1 k0=>FX oO x1 k0
theorem Wl (R:Type):k8 Tryz.prog 82 (S0 (mZ (R:=R))):=bt TT mixed (Yz (R:=R)) rfl rfl rfl rfl cd (aaf oO)
/-! ### (*strings.Builder).WriteString -/
abbrev dD (R:Type):Type:=ah→(Int→(List Int)→Option R)→Option R
abbrev jJ:List cP := [.leaf (.ptr 0 0), .leaf (.str)]
abbrev jK:List aW := [.mB (.bx)]
def oh (fn:dD R):lh R jJ jK:=fun x y k=>fn x.2.1 (fun q0 q1=>k (.tuple [.int .i64 q0, .dt]) [.mB (.sl (.int .u8) q1 (.own 1)), .tok])
def gJ (fn:dD R):=aI jJ jK (oh fn)
section
def oP:List (oq R) := [(171,false,(Vs R))]
def oQ (x1:ah) (k0:Int→(List Int)→Option R):Option R :=
 cb (decide ((0+(jI x1).length)*1≤140737488355328)) (k0 (x1.length:Int) (jI x1))
theorem yP:dE (R:=R) tt (oP (R:=R)) rS false Tryz.f124 jJ jK (oh oQ):=fun x y k=>by kernel_rfl
end
theorem yf:cu (R:=R) Tryz.prog (oP (R:=R)) := .f (Yk) rfl <| .n
def ai:dD R:=fun x1 k0=>oQ x1 k0
theorem iQ (R:Type):k8 Tryz.prog 124 (gJ (ai (R:=R))):=bt TT mixed (yf (R:=R)) rfl rfl rfl rfl cd (yP)
/-! ### (*strings.Builder).WriteByte -/
abbrev dS (R:Type):Type:=Int→((List Int)→Option R)→Option R
abbrev kC:List cP := [.leaf (.ptr 0 0), .leaf (.int .u8)]
abbrev kD:List aW := [.mB (.bx)]
def pv (fn:dS R):lh R kC kD:=fun x y k=>fn x.2.1 (fun q0=>k (.dt) [.mB (.sl (.int .u8) q0 (.own 1)), .tok])
def gY (fn:dS R):=aI kC kD (pv fn)
section
def qf:List (oq R) := [(171,false,(Vs R))]
def qg (x1:Int) (k0:(List Int)→Option R):Option R :=
 k0 ([x1]:List Int)
theorem Bc:dE (R:=R) tt (qf (R:=R)) rS false Tryz.f126 kC kD (pv qg):=fun x y k=>by kernel_rfl
end
theorem Ao:cu (R:=R) Tryz.prog (qf (R:=R)) := .f (Yk) rfl <| .n
def aj:dS R:=fun x1 k0=>qg x1 k0
theorem jy (R:Type):k8 Tryz.prog 126 (gY (aj (R:=R))):=bt TT mixed (Ao (R:=R)) rfl rfl rfl rfl cd (Bc)
/-! ### (*strings.Builder).WriteString -/
abbrev db (R:Type):Type:=ah→(List Int)→(Int→(List Int)→Option R)→Option R
abbrev jL:List cP := [.leaf (.ptr 0 0), .leaf (.str)]
abbrev jM:List aW := [.mB (.T4 (.int .u8) 1), .tok]
def oi (fn:db R):lh R jL jM:=fun x y k=>fn x.2.1 y.1 (fun q0 q1=>k (.tuple [.int .i64 q0, .dt]) [.mB (.sl (.int .u8) q1 (.own 2)), .dead, .tok])
def eV (fn:db R):=aI jL jM (oi fn)
section
def oR:List (oq R) := [(171,false,(Vs R))]
def oS (x1:ah) (x2:List Int) (k0:Int→(List Int)→Option R):Option R :=
 cb (decide ((x2.length+(jI x1).length)*1≤140737488355328)) (k0 (x1.length:Int) ((x2:List Int)++((jI x1):List Int)))
theorem yQ:dE (R:=R) tt (oR (R:=R)) rS false Tryz.f124 jL jM (oi oS):=fun x y k=>by kernel_rfl
end
theorem yg:cu (R:=R) Tryz.prog (oR (R:=R)) := .f (Yk) rfl <| .n
def ae:db R:=fun x1 x2 k0=>oS x1 x2 k0
theorem fI (R:Type):k8 Tryz.prog 124 (eV (ae (R:=R))):=bt TT mixed (yg (R:=R)) rfl rfl rfl rfl cd (yQ)
end Go.Proofs.YtidfokedcnhahaaGreatDoor
/-
 Functions of the program as pure Lean functions, and the ties; printed by wip/tools/emit.py.
-/
set_option maxRecDepth 100000
namespace Go.Proofs.YtidfokedcnhahaaGreatDoor
open Go Go.aC
variable {R:Type}
/-! ### humpyard/decimal.Print -/
abbrev sc (R:Type):Type:=fv→(ah→Option R)→Option R
abbrev E0:List cP := [.agg [.int .i64, .int .i64]]
abbrev E1:List aW := []
def Kh (fn:sc R):lh R E0 E1:=fun x y k=>fn (⟨x.1.1,x.1.2.1⟩:fv) (fun q0=>k (.str q0) [])
def E2 (fn:sc R):=aI E0 E1 (Kh fn)
section
variable (bL:ov R) (aj:dS R) (ae:db R) (ai:dD R)
def MV:List (oq R) := [(164,true,(zF bL ax)),(126,false,(gY aj ax)),(124,false,(gJ ai (eV ae ax))),(84,false,(Lr R)),(172,true,(itoa_S R)),(173,true,(rep_S R))]
def pK (x1:fv) (k0:ah→Option R):Option R :=
 bL x1 (fun y2=>bif (!y2)then (k0 ([]:ah))else (bif (decide (x1.ao<(0:Int)))then (aj 45 (fun y3=>bif (decide (x1.exp≥(0:Int)))then (cb (decide (0≤x1.exp)&&decide ((([48]:ah).length:Int)*x1.exp≤140737488355328)) (cb (decide ((cf (max x1.ao (IntKind.i64.wrap (0 - x1.ao)))).length+(k7 ([48]:ah) x1.exp).length≤9223372036854775807)) (ae ((cf (max x1.ao (IntKind.i64.wrap (0 - x1.ao))))++(k7 ([48]:ah) x1.exp)) y3 (fun y4 y5=>k0 (vO y5)))))else (cb (decide (0≤(max 0 (IntKind.i64.wrap ((IntKind.i64.wrap (1 - x1.exp)) - ((cf (max x1.ao (IntKind.i64.wrap (0 - x1.ao)))).length:Int)))))&&decide ((([48]:ah).length:Int)*(max 0 (IntKind.i64.wrap ((IntKind.i64.wrap (1 - x1.exp)) - ((cf (max x1.ao (IntKind.i64.wrap (0 - x1.ao)))).length:Int))))≤140737488355328)) (cb (decide ((k7 ([48]:ah) (max 0 (IntKind.i64.wrap ((IntKind.i64.wrap (1 - x1.exp)) - ((cf (max x1.ao (IntKind.i64.wrap (0 - x1.ao)))).length:Int))))).length+(cf (max x1.ao (IntKind.i64.wrap (0 - x1.ao)))).length≤9223372036854775807)) (cb (decide ((0:Int)≤(IntKind.i64.wrap ((((k7 ([48]:ah) (max 0 (IntKind.i64.wrap ((IntKind.i64.wrap (1 - x1.exp)) - ((cf (max x1.ao (IntKind.i64.wrap (0 - x1.ao)))).length:Int)))))++(cf (max x1.ao (IntKind.i64.wrap (0 - x1.ao))))).length:Int)+x1.exp)))&&decide ((IntKind.i64.wrap ((((k7 ([48]:ah) (max 0 (IntKind.i64.wrap ((IntKind.i64.wrap (1 - x1.exp)) - ((cf (max x1.ao (IntKind.i64.wrap (0 - x1.ao)))).length:Int)))))++(cf (max x1.ao (IntKind.i64.wrap (0 - x1.ao))))).length:Int)+x1.exp))≤((k7 ([48]:ah) (max 0 (IntKind.i64.wrap ((IntKind.i64.wrap (1 - x1.exp)) - ((cf (max x1.ao (IntKind.i64.wrap (0 - x1.ao)))).length:Int)))))++(cf (max x1.ao (IntKind.i64.wrap (0 - x1.ao))))).length)) (cb (decide ((0:Int)≤(IntKind.i64.wrap ((((k7 ([48]:ah) (max 0 (IntKind.i64.wrap ((IntKind.i64.wrap (1 - x1.exp)) - ((cf (max x1.ao (IntKind.i64.wrap (0 - x1.ao)))).length:Int)))))++(cf (max x1.ao (IntKind.i64.wrap (0 - x1.ao))))).length:Int)+x1.exp)))) (cb (decide (((((k7 ([48]:ah) (max 0 (IntKind.i64.wrap ((IntKind.i64.wrap (1 - x1.exp)) - ((cf (max x1.ao (IntKind.i64.wrap (0 - x1.ao)))).length:Int)))))++(cf (max x1.ao (IntKind.i64.wrap (0 - x1.ao))))).drop 0).take ((IntKind.i64.wrap ((((k7 ([48]:ah) (max 0 (IntKind.i64.wrap ((IntKind.i64.wrap (1 - x1.exp)) - ((cf (max x1.ao (IntKind.i64.wrap (0 - x1.ao)))).length:Int)))))++(cf (max x1.ao (IntKind.i64.wrap (0 - x1.ao))))).length:Int)+x1.exp)).toNat - 0)).length+1≤9223372036854775807)) (cb (decide ((0:Int)≤(((k7 ([48]:ah) (max 0 (IntKind.i64.wrap ((IntKind.i64.wrap (1 - x1.exp)) - ((cf (max x1.ao (IntKind.i64.wrap (0 - x1.ao)))).length:Int)))))++(cf (max x1.ao (IntKind.i64.wrap (0 - x1.ao))))).length:Int))&&decide ((((k7 ([48]:ah) (max 0 (IntKind.i64.wrap ((IntKind.i64.wrap (1 - x1.exp)) - ((cf (max x1.ao (IntKind.i64.wrap (0 - x1.ao)))).length:Int)))))++(cf (max x1.ao (IntKind.i64.wrap (0 - x1.ao))))).length:Int)≤((k7 ([48]:ah) (max 0 (IntKind.i64.wrap ((IntKind.i64.wrap (1 - x1.exp)) - ((cf (max x1.ao (IntKind.i64.wrap (0 - x1.ao)))).length:Int)))))++(cf (max x1.ao (IntKind.i64.wrap (0 - x1.ao))))).length)) (cb (decide ((0:Int)≤(IntKind.i64.wrap ((((k7 ([48]:ah) (max 0 (IntKind.i64.wrap ((IntKind.i64.wrap (1 - x1.exp)) - ((cf (max x1.ao (IntKind.i64.wrap (0 - x1.ao)))).length:Int)))))++(cf (max x1.ao (IntKind.i64.wrap (0 - x1.ao))))).length:Int)+x1.exp)))&&decide ((IntKind.i64.wrap ((((k7 ([48]:ah) (max 0 (IntKind.i64.wrap ((IntKind.i64.wrap (1 - x1.exp)) - ((cf (max x1.ao (IntKind.i64.wrap (0 - x1.ao)))).length:Int)))))++(cf (max x1.ao (IntKind.i64.wrap (0 - x1.ao))))).length:Int)+x1.exp))≤(((k7 ([48]:ah) (max 0 (IntKind.i64.wrap ((IntKind.i64.wrap (1 - x1.exp)) - ((cf (max x1.ao (IntKind.i64.wrap (0 - x1.ao)))).length:Int)))))++(cf (max x1.ao (IntKind.i64.wrap (0 - x1.ao))))).length:Int))) (cb (decide ((((((k7 ([48]:ah) (max 0 (IntKind.i64.wrap ((IntKind.i64.wrap (1 - x1.exp)) - ((cf (max x1.ao (IntKind.i64.wrap (0 - x1.ao)))).length:Int)))))++(cf (max x1.ao (IntKind.i64.wrap (0 - x1.ao))))).drop 0).take ((IntKind.i64.wrap ((((k7 ([48]:ah) (max 0 (IntKind.i64.wrap ((IntKind.i64.wrap (1 - x1.exp)) - ((cf (max x1.ao (IntKind.i64.wrap (0 - x1.ao)))).length:Int)))))++(cf (max x1.ao (IntKind.i64.wrap (0 - x1.ao))))).length:Int)+x1.exp)).toNat - 0))++([46]:ah)).length+((((k7 ([48]:ah) (max 0 (IntKind.i64.wrap ((IntKind.i64.wrap (1 - x1.exp)) - ((cf (max x1.ao (IntKind.i64.wrap (0 - x1.ao)))).length:Int)))))++(cf (max x1.ao (IntKind.i64.wrap (0 - x1.ao))))).drop (IntKind.i64.wrap ((((k7 ([48]:ah) (max 0 (IntKind.i64.wrap ((IntKind.i64.wrap (1 - x1.exp)) - ((cf (max x1.ao (IntKind.i64.wrap (0 - x1.ao)))).length:Int)))))++(cf (max x1.ao (IntKind.i64.wrap (0 - x1.ao))))).length:Int)+x1.exp)).toNat).take ((((k7 ([48]:ah) (max 0 (IntKind.i64.wrap ((IntKind.i64.wrap (1 - x1.exp)) - ((cf (max x1.ao (IntKind.i64.wrap (0 - x1.ao)))).length:Int)))))++(cf (max x1.ao (IntKind.i64.wrap (0 - x1.ao))))).length:Int).toNat - (IntKind.i64.wrap ((((k7 ([48]:ah) (max 0 (IntKind.i64.wrap ((IntKind.i64.wrap (1 - x1.exp)) - ((cf (max x1.ao (IntKind.i64.wrap (0 - x1.ao)))).length:Int)))))++(cf (max x1.ao (IntKind.i64.wrap (0 - x1.ao))))).length:Int)+x1.exp)).toNat)).length≤9223372036854775807)) (ae ((((((k7 ([48]:ah) (max 0 (IntKind.i64.wrap ((IntKind.i64.wrap (1 - x1.exp)) - ((cf (max x1.ao (IntKind.i64.wrap (0 - x1.ao)))).length:Int)))))++(cf (max x1.ao (IntKind.i64.wrap (0 - x1.ao))))).drop 0).take ((IntKind.i64.wrap ((((k7 ([48]:ah) (max 0 (IntKind.i64.wrap ((IntKind.i64.wrap (1 - x1.exp)) - ((cf (max x1.ao (IntKind.i64.wrap (0 - x1.ao)))).length:Int)))))++(cf (max x1.ao (IntKind.i64.wrap (0 - x1.ao))))).length:Int)+x1.exp)).toNat - 0))++([46]:ah))++((((k7 ([48]:ah) (max 0 (IntKind.i64.wrap ((IntKind.i64.wrap (1 - x1.exp)) - ((cf (max x1.ao (IntKind.i64.wrap (0 - x1.ao)))).length:Int)))))++(cf (max x1.ao (IntKind.i64.wrap (0 - x1.ao))))).drop (IntKind.i64.wrap ((((k7 ([48]:ah) (max 0 (IntKind.i64.wrap ((IntKind.i64.wrap (1 - x1.exp)) - ((cf (max x1.ao (IntKind.i64.wrap (0 - x1.ao)))).length:Int)))))++(cf (max x1.ao (IntKind.i64.wrap (0 - x1.ao))))).length:Int)+x1.exp)).toNat).take ((((k7 ([48]:ah) (max 0 (IntKind.i64.wrap ((IntKind.i64.wrap (1 - x1.exp)) - ((cf (max x1.ao (IntKind.i64.wrap (0 - x1.ao)))).length:Int)))))++(cf (max x1.ao (IntKind.i64.wrap (0 - x1.ao))))).length:Int).toNat - (IntKind.i64.wrap ((((k7 ([48]:ah) (max 0 (IntKind.i64.wrap ((IntKind.i64.wrap (1 - x1.exp)) - ((cf (max x1.ao (IntKind.i64.wrap (0 - x1.ao)))).length:Int)))))++(cf (max x1.ao (IntKind.i64.wrap (0 - x1.ao))))).length:Int)+x1.exp)).toNat))) y3 (fun y6 y7=>k0 (vO y7)))))))))))))else (bif (decide (x1.exp≥(0:Int)))then (cb (decide (0≤x1.exp)&&decide ((([48]:ah).length:Int)*x1.exp≤140737488355328)) (cb (decide ((cf (max x1.ao (IntKind.i64.wrap (0 - x1.ao)))).length+(k7 ([48]:ah) x1.exp).length≤9223372036854775807)) (ai ((cf (max x1.ao (IntKind.i64.wrap (0 - x1.ao))))++(k7 ([48]:ah) x1.exp)) (fun y8 y9=>k0 (vO y9)))))else (cb (decide (0≤(max 0 (IntKind.i64.wrap ((IntKind.i64.wrap (1 - x1.exp)) - ((cf (max x1.ao (IntKind.i64.wrap (0 - x1.ao)))).length:Int)))))&&decide ((([48]:ah).length:Int)*(max 0 (IntKind.i64.wrap ((IntKind.i64.wrap (1 - x1.exp)) - ((cf (max x1.ao (IntKind.i64.wrap (0 - x1.ao)))).length:Int))))≤140737488355328)) (cb (decide ((k7 ([48]:ah) (max 0 (IntKind.i64.wrap ((IntKind.i64.wrap (1 - x1.exp)) - ((cf (max x1.ao (IntKind.i64.wrap (0 - x1.ao)))).length:Int))))).length+(cf (max x1.ao (IntKind.i64.wrap (0 - x1.ao)))).length≤9223372036854775807)) (cb (decide ((0:Int)≤(IntKind.i64.wrap ((((k7 ([48]:ah) (max 0 (IntKind.i64.wrap ((IntKind.i64.wrap (1 - x1.exp)) - ((cf (max x1.ao (IntKind.i64.wrap (0 - x1.ao)))).length:Int)))))++(cf (max x1.ao (IntKind.i64.wrap (0 - x1.ao))))).length:Int)+x1.exp)))&&decide ((IntKind.i64.wrap ((((k7 ([48]:ah) (max 0 (IntKind.i64.wrap ((IntKind.i64.wrap (1 - x1.exp)) - ((cf (max x1.ao (IntKind.i64.wrap (0 - x1.ao)))).length:Int)))))++(cf (max x1.ao (IntKind.i64.wrap (0 - x1.ao))))).length:Int)+x1.exp))≤((k7 ([48]:ah) (max 0 (IntKind.i64.wrap ((IntKind.i64.wrap (1 - x1.exp)) - ((cf (max x1.ao (IntKind.i64.wrap (0 - x1.ao)))).length:Int)))))++(cf (max x1.ao (IntKind.i64.wrap (0 - x1.ao))))).length)) (cb (decide ((0:Int)≤(IntKind.i64.wrap ((((k7 ([48]:ah) (max 0 (IntKind.i64.wrap ((IntKind.i64.wrap (1 - x1.exp)) - ((cf (max x1.ao (IntKind.i64.wrap (0 - x1.ao)))).length:Int)))))++(cf (max x1.ao (IntKind.i64.wrap (0 - x1.ao))))).length:Int)+x1.exp)))) (cb (decide (((((k7 ([48]:ah) (max 0 (IntKind.i64.wrap ((IntKind.i64.wrap (1 - x1.exp)) - ((cf (max x1.ao (IntKind.i64.wrap (0 - x1.ao)))).length:Int)))))++(cf (max x1.ao (IntKind.i64.wrap (0 - x1.ao))))).drop 0).take ((IntKind.i64.wrap ((((k7 ([48]:ah) (max 0 (IntKind.i64.wrap ((IntKind.i64.wrap (1 - x1.exp)) - ((cf (max x1.ao (IntKind.i64.wrap (0 - x1.ao)))).length:Int)))))++(cf (max x1.ao (IntKind.i64.wrap (0 - x1.ao))))).length:Int)+x1.exp)).toNat - 0)).length+1≤9223372036854775807)) (cb (decide ((0:Int)≤(((k7 ([48]:ah) (max 0 (IntKind.i64.wrap ((IntKind.i64.wrap (1 - x1.exp)) - ((cf (max x1.ao (IntKind.i64.wrap (0 - x1.ao)))).length:Int)))))++(cf (max x1.ao (IntKind.i64.wrap (0 - x1.ao))))).length:Int))&&decide ((((k7 ([48]:ah) (max 0 (IntKind.i64.wrap ((IntKind.i64.wrap (1 - x1.exp)) - ((cf (max x1.ao (IntKind.i64.wrap (0 - x1.ao)))).length:Int)))))++(cf (max x1.ao (IntKind.i64.wrap (0 - x1.ao))))).length:Int)≤((k7 ([48]:ah) (max 0 (IntKind.i64.wrap ((IntKind.i64.wrap (1 - x1.exp)) - ((cf (max x1.ao (IntKind.i64.wrap (0 - x1.ao)))).length:Int)))))++(cf (max x1.ao (IntKind.i64.wrap (0 - x1.ao))))).length)) (cb (decide ((0:Int)≤(IntKind.i64.wrap ((((k7 ([48]:ah) (max 0 (IntKind.i64.wrap ((IntKind.i64.wrap (1 - x1.exp)) - ((cf (max x1.ao (IntKind.i64.wrap (0 - x1.ao)))).length:Int)))))++(cf (max x1.ao (IntKind.i64.wrap (0 - x1.ao))))).length:Int)+x1.exp)))&&decide ((IntKind.i64.wrap ((((k7 ([48]:ah) (max 0 (IntKind.i64.wrap ((IntKind.i64.wrap (1 - x1.exp)) - ((cf (max x1.ao (IntKind.i64.wrap (0 - x1.ao)))).length:Int)))))++(cf (max x1.ao (IntKind.i64.wrap (0 - x1.ao))))).length:Int)+x1.exp))≤(((k7 ([48]:ah) (max 0 (IntKind.i64.wrap ((IntKind.i64.wrap (1 - x1.exp)) - ((cf (max x1.ao (IntKind.i64.wrap (0 - x1.ao)))).length:Int)))))++(cf (max x1.ao (IntKind.i64.wrap (0 - x1.ao))))).length:Int))) (cb (decide ((((((k7 ([48]:ah) (max 0 (IntKind.i64.wrap ((IntKind.i64.wrap (1 - x1.exp)) - ((cf (max x1.ao (IntKind.i64.wrap (0 - x1.ao)))).length:Int)))))++(cf (max x1.ao (IntKind.i64.wrap (0 - x1.ao))))).drop 0).take ((IntKind.i64.wrap ((((k7 ([48]:ah) (max 0 (IntKind.i64.wrap ((IntKind.i64.wrap (1 - x1.exp)) - ((cf (max x1.ao (IntKind.i64.wrap (0 - x1.ao)))).length:Int)))))++(cf (max x1.ao (IntKind.i64.wrap (0 - x1.ao))))).length:Int)+x1.exp)).toNat - 0))++([46]:ah)).length+((((k7 ([48]:ah) (max 0 (IntKind.i64.wrap ((IntKind.i64.wrap (1 - x1.exp)) - ((cf (max x1.ao (IntKind.i64.wrap (0 - x1.ao)))).length:Int)))))++(cf (max x1.ao (IntKind.i64.wrap (0 - x1.ao))))).drop (IntKind.i64.wrap ((((k7 ([48]:ah) (max 0 (IntKind.i64.wrap ((IntKind.i64.wrap (1 - x1.exp)) - ((cf (max x1.ao (IntKind.i64.wrap (0 - x1.ao)))).length:Int)))))++(cf (max x1.ao (IntKind.i64.wrap (0 - x1.ao))))).length:Int)+x1.exp)).toNat).take ((((k7 ([48]:ah) (max 0 (IntKind.i64.wrap ((IntKind.i64.wrap (1 - x1.exp)) - ((cf (max x1.ao (IntKind.i64.wrap (0 - x1.ao)))).length:Int)))))++(cf (max x1.ao (IntKind.i64.wrap (0 - x1.ao))))).length:Int).toNat - (IntKind.i64.wrap ((((k7 ([48]:ah) (max 0 (IntKind.i64.wrap ((IntKind.i64.wrap (1 - x1.exp)) - ((cf (max x1.ao (IntKind.i64.wrap (0 - x1.ao)))).length:Int)))))++(cf (max x1.ao (IntKind.i64.wrap (0 - x1.ao))))).length:Int)+x1.exp)).toNat)).length≤9223372036854775807)) (ai ((((((k7 ([48]:ah) (max 0 (IntKind.i64.wrap ((IntKind.i64.wrap (1 - x1.exp)) - ((cf (max x1.ao (IntKind.i64.wrap (0 - x1.ao)))).length:Int)))))++(cf (max x1.ao (IntKind.i64.wrap (0 - x1.ao))))).drop 0).take ((IntKind.i64.wrap ((((k7 ([48]:ah) (max 0 (IntKind.i64.wrap ((IntKind.i64.wrap (1 - x1.exp)) - ((cf (max x1.ao (IntKind.i64.wrap (0 - x1.ao)))).length:Int)))))++(cf (max x1.ao (IntKind.i64.wrap (0 - x1.ao))))).length:Int)+x1.exp)).toNat - 0))++([46]:ah))++((((k7 ([48]:ah) (max 0 (IntKind.i64.wrap ((IntKind.i64.wrap (1 - x1.exp)) - ((cf (max x1.ao (IntKind.i64.wrap (0 - x1.ao)))).length:Int)))))++(cf (max x1.ao (IntKind.i64.wrap (0 - x1.ao))))).drop (IntKind.i64.wrap ((((k7 ([48]:ah) (max 0 (IntKind.i64.wrap ((IntKind.i64.wrap (1 - x1.exp)) - ((cf (max x1.ao (IntKind.i64.wrap (0 - x1.ao)))).length:Int)))))++(cf (max x1.ao (IntKind.i64.wrap (0 - x1.ao))))).length:Int)+x1.exp)).toNat).take ((((k7 ([48]:ah) (max 0 (IntKind.i64.wrap ((IntKind.i64.wrap (1 - x1.exp)) - ((cf (max x1.ao (IntKind.i64.wrap (0 - x1.ao)))).length:Int)))))++(cf (max x1.ao (IntKind.i64.wrap (0 - x1.ao))))).length:Int).toNat - (IntKind.i64.wrap ((((k7 ([48]:ah) (max 0 (IntKind.i64.wrap ((IntKind.i64.wrap (1 - x1.exp)) - ((cf (max x1.ao (IntKind.i64.wrap (0 - x1.ao)))).length:Int)))))++(cf (max x1.ao (IntKind.i64.wrap (0 - x1.ao))))).length:Int)+x1.exp)).toNat))) (fun um vQ=>k0 (vO vQ))))))))))))))
theorem UF:dE (R:=R) tt (MV bL aj ae ai) rS false Tryz.f125 E0 E1 (Kh (pK bL aj ae ai)):=fun x y k=>by kernel_rfl
end
theorem S2:cu (R:=R) Tryz.prog (MV (R:=R) bL aj ae ai) := .c (Aj R) <| .d (jy R) rfl <| .f (iQ R _ (fI R _ (jm _))) rfl <| .s (W7) PO <| .p (itoa_ok) <| .p (rep_ok) <| .n
def bM:sc R:=fun x1 k0=>pK bL aj ae ai x1 k0
theorem G5 (R:Type):k8 Tryz.prog 125 (E2 (bM (R:=R))):=bt TT mixed (S2 (R:=R)) rfl rfl rfl rfl cd (UF bL aj ae ai)
/-! ### humpyard/quote.short -/
abbrev BM (R:Type):Type:=Int→(Int→Option R)→Option R
abbrev Js:List cP := [.leaf (.int .i32)]
abbrev Jt:List aW := []
def OC (fn:BM R):lh R Js Jt:=fun x y k=>fn x.1 (fun q0=>k (.int .u8 q0) [])
def QL (fn:BM R):=aI Js Jt (OC fn)
section
def DX (x1:Int) (k0:Int→Option R):Option R :=
 bif (x1==34)then (bif (x1==34)then (k0 (IntKind.u8.wrap x1))else (bif (x1==8)then (k0 98)else (bif (x1==12)then (k0 102)else (bif (x1==10)then (k0 110)else (bif (x1==13)then (k0 114)else (bif (x1==9)then (k0 116)else (k0 0)))))))else (bif (x1==92)then (k0 (IntKind.u8.wrap x1))else (bif (x1==8)then (k0 98)else (bif (x1==12)then (k0 102)else (bif (x1==10)then (k0 110)else (bif (x1==13)then (k0 114)else (bif (x1==9)then (k0 116)else (k0 0)))))))
theorem YA:dE (R:=R) tt [] rS false Tryz.f169 Js Jt (OC DX):=fun x y k=>by kernel_rfl
end
def eX:BM R:=fun x1 k0=>DX x1 k0
theorem UG (R:Type):k8 Tryz.prog 169 (QL (eX (R:=R))):=bt TT mixed .n rfl rfl rfl rfl cd (YA)
/-! ### (*strings.Builder).WriteByte -/
abbrev dT (R:Type):Type:=Int→(List Int)→((List Int)→Option R)→Option R
abbrev kE:List cP := [.leaf (.ptr 0 0), .leaf (.int .u8)]
abbrev kF:List aW := [.mB (.T4 (.int .u8) 1), .tok]
def pw (fn:dT R):lh R kE kF:=fun x y k=>fn x.2.1 y.1 (fun q0=>k (.dt) [.mB (.sl (.int .u8) q0 (.own 2)), .dead, .tok])
def gZ (fn:dT R):=aI kE kF (pw fn)
section
def qh:List (oq R) := [(171,false,(Vs R))]
def qi (x1:Int) (x2:List Int) (k0:(List Int)→Option R):Option R :=
 cb (decide ((x2.length+1)*1≤140737488355328)) (k0 ((x2:List Int)++(([x1]:List Int):List Int)))
theorem Bd:dE (R:=R) tt (qh (R:=R)) rS false Tryz.f126 kE kF (pw qi):=fun x y k=>by kernel_rfl
end
theorem Ap:cu (R:=R) Tryz.prog (qh (R:=R)) := .f (Yk) rfl <| .n
def ad:dT R:=fun x1 x2 k0=>qi x1 x2 k0
theorem jz (R:Type):k8 Tryz.prog 126 (gZ (ad (R:=R))):=bt TT mixed (Ap (R:=R)) rfl rfl rfl rfl cd (Bd)
/-! ### unicode/utf8.appendRuneNonASCII -/
abbrev fc (R:Type):Type:=(List Int)→Int→((List Int)→Option R)→Option R
abbrev iG:List cP := [.leaf (.T4 (.int .u8) 0), .leaf (.int .i32)]
abbrev iH:List aW := [.tok]
def lZ (fn:fc R):lh R iG iH:=fun x y k=>fn x.1 x.2.1 (fun q0=>k (.sl (.int .u8) q0 (.own 1)) [.dead, .tok])
def mu (fn:fc R):=aI iG iH (lZ fn)
section
def fp (x1:List Int) (x2:Int) (k0:(List Int)→Option R):Option R :=
 bif (decide ((IntKind.u32.wrap x2)≤(2047:Int)))then (cb (decide ((x1.length+2)*1≤140737488355328)) (k0 ((x1:List Int)++(([(IntKind.u8.wrap ((BitVec.ofInt IntKind.u8.bits 192 ||| BitVec.ofInt IntKind.u8.bits (IntKind.u8.wrap (Int.fdiv x2 (2 ^ (min 6 IntKind.i32.bits))))).toNat:Int)),(IntKind.u8.wrap ((BitVec.ofInt IntKind.u8.bits 128 ||| BitVec.ofInt IntKind.u8.bits (IntKind.u8.wrap ((BitVec.ofInt IntKind.u8.bits (IntKind.u8.wrap x2) &&& BitVec.ofInt IntKind.u8.bits 63).toNat:Int))).toNat:Int))]:List Int):List Int))))else (let j6:=fun (z3:Bool)=>bif z3 then (cb (decide ((x1.length+3)*1≤140737488355328)) (k0 ((x1:List Int)++(([(IntKind.u8.wrap ((BitVec.ofInt IntKind.u8.bits 224 ||| BitVec.ofInt IntKind.u8.bits (IntKind.u8.wrap (Int.fdiv x2 (2 ^ (min 12 IntKind.i32.bits))))).toNat:Int)),(IntKind.u8.wrap ((BitVec.ofInt IntKind.u8.bits 128 ||| BitVec.ofInt IntKind.u8.bits (IntKind.u8.wrap ((BitVec.ofInt IntKind.u8.bits (IntKind.u8.wrap (Int.fdiv x2 (2 ^ (min 6 IntKind.i32.bits)))) &&& BitVec.ofInt IntKind.u8.bits 63).toNat:Int))).toNat:Int)),(IntKind.u8.wrap ((BitVec.ofInt IntKind.u8.bits 128 ||| BitVec.ofInt IntKind.u8.bits (IntKind.u8.wrap ((BitVec.ofInt IntKind.u8.bits (IntKind.u8.wrap x2) &&& BitVec.ofInt IntKind.u8.bits 63).toNat:Int))).toNat:Int))]:List Int):List Int))))else (let j5:=fun (z4:Bool)=>bif z4 then (cb (decide ((x1.length+4)*1≤140737488355328)) (k0 ((x1:List Int)++(([(IntKind.u8.wrap ((BitVec.ofInt IntKind.u8.bits 240 ||| BitVec.ofInt IntKind.u8.bits (IntKind.u8.wrap (Int.fdiv x2 (2 ^ (min 18 IntKind.i32.bits))))).toNat:Int)),(IntKind.u8.wrap ((BitVec.ofInt IntKind.u8.bits 128 ||| BitVec.ofInt IntKind.u8.bits (IntKind.u8.wrap ((BitVec.ofInt IntKind.u8.bits (IntKind.u8.wrap (Int.fdiv x2 (2 ^ (min 12 IntKind.i32.bits)))) &&& BitVec.ofInt IntKind.u8.bits 63).toNat:Int))).toNat:Int)),(IntKind.u8.wrap ((BitVec.ofInt IntKind.u8.bits 128 ||| BitVec.ofInt IntKind.u8.bits (IntKind.u8.wrap ((BitVec.ofInt IntKind.u8.bits (IntKind.u8.wrap (Int.fdiv x2 (2 ^ (min 6 IntKind.i32.bits)))) &&& BitVec.ofInt IntKind.u8.bits 63).toNat:Int))).toNat:Int)),(IntKind.u8.wrap ((BitVec.ofInt IntKind.u8.bits 128 ||| BitVec.ofInt IntKind.u8.bits (IntKind.u8.wrap ((BitVec.ofInt IntKind.u8.bits (IntKind.u8.wrap x2) &&& BitVec.ofInt IntKind.u8.bits 63).toNat:Int))).toNat:Int))]:List Int):List Int))))else (cb (decide ((x1.length+3)*1≤140737488355328)) (k0 ((x1:List Int)++(([239,191,189]:List Int):List Int)))); bif (decide ((IntKind.u32.wrap x2)>(65535:Int)))then (j5 (decide ((IntKind.u32.wrap x2)≤(1114111:Int))))else (j5 false)); bif (decide ((IntKind.u32.wrap x2)<(55296:Int)))then (j6 (decide ((IntKind.u32.wrap x2)<(55296:Int))))else (bif (decide ((57343:Int)<(IntKind.u32.wrap x2)))then (j6 (decide ((IntKind.u32.wrap x2)≤(65535:Int))))else (j6 false)))
theorem vS:dE (R:=R) tt [] rS true Tryz.f224 iG iH (lZ fp):=fun x y k=>by kernel_rfl
end
def bR:fc R:=fun x1 x2 k0=>fp x1 x2 k0
theorem uA (R:Type):k8 Tryz.prog 224 (mu (bR (R:=R))):=bt TT mixed .n rfl rfl rfl rfl cd (vS)
/-! ### unicode/utf8.AppendRune -/
abbrev iz (R:Type):Type:=(List Int)→Int→((List Int)→Option R)→Option R
abbrev lU:List cP := [.leaf (.T4 (.int .u8) 0), .leaf (.int .i32)]
abbrev lV:List aW := [.tok]
def rI (fn:iz R):lh R lU lV:=fun x y k=>fn x.1 x.2.1 (fun q0=>k (.sl (.int .u8) q0 (.own 1)) [.dead, .tok])
def sd (fn:iz R):=aI lU lV (rI fn)
section
variable (bR:fc R)
def se:List (oq R) := [(224,false,(mu bR ax))]
def iR (x1:List Int) (x2:Int) (k0:(List Int)→Option R):Option R :=
 bif (decide ((IntKind.u32.wrap x2)≤(127:Int)))then (cb (decide ((x1.length+1)*1≤140737488355328)) (k0 ((x1:List Int)++(([(IntKind.u8.wrap x2)]:List Int):List Int))))else (bR x1 x2 (fun y3=>k0 y3))
theorem CR:dE (R:=R) tt (se bR) rS true Tryz.f202 lU lV (rI (iR bR)):=fun x y k=>by kernel_rfl
end
theorem BN:cu (R:=R) Tryz.prog (se (R:=R) bR) := .d (uA R) rfl <| .n
def cr:iz R:=fun x1 x2 k0=>iR bR x1 x2 k0
theorem Be (R:Type):k8 Tryz.prog 202 (sd (cr (R:=R))):=bt TT mixed (BN (R:=R)) rfl rfl rfl rfl cd (CR bR)
/-! ### (*strings.Builder).WriteRune -/
abbrev eZ (R:Type):Type:=Int→(List Int)→(Int→(List Int)→Option R)→Option R
abbrev kG:List cP := [.leaf (.ptr 0 0), .leaf (.int .i32)]
abbrev kH:List aW := [.mB (.T4 (.int .u8) 1), .tok]
def px (fn:eZ R):lh R kG kH:=fun x y k=>fn x.2.1 y.1 (fun q0 q1=>k (.tuple [.int .i64 q0, .dt]) [.mB (.sl (.int .u8) q1 (.own 2)), .dead, .tok])
def kI (fn:eZ R):=aI kG kH (px fn)
section
variable (cr:iz R)
def qj:List (oq R) := [(171,false,(Vs R)),(202,false,(sd cr ax))]
def hG (x1:Int) (x2:List Int) (k0:Int→(List Int)→Option R):Option R :=
 cr x2 x1 (fun y3=>k0 (IntKind.i64.wrap ((y3.length:Int) - (x2.length:Int))) y3)
theorem Bf:dE (R:=R) tt (qj cr) rS false Tryz.f170 kG kH (px (hG cr)):=fun x y k=>by kernel_rfl
end
theorem Aq:cu (R:=R) Tryz.prog (qj (R:=R) cr) := .f (Yk) rfl <| .d (Be R) rfl <| .n
def ak:eZ R:=fun x1 x2 k0=>hG cr x1 x2 k0
theorem oj (R:Type):k8 Tryz.prog 170 (kI (ak (R:=R))):=bt TT mixed (Aq (R:=R)) rfl rfl rfl rfl cd (Bf cr)
end Go.Proofs.YtidfokedcnhahaaGreatDoor
/-
 Functions of the program as pure Lean functions, and the ties; printed by wip/tools/emit.py.
-/
set_option maxRecDepth 100000
namespace Go.Proofs.YtidfokedcnhahaaGreatDoor
open Go Go.aC
variable {R:Type}
/-! ### humpyard/lexer.while -/
abbrev wv (R:Type):Type:=ah→ah→(ah→Option R)→Option R
abbrev Ju:List cP := [.leaf (.str), .leaf (.str)]
abbrev Jv:List aW := []
def OD (fn:wv R):lh R Ju Jv:=fun x y k=>fn x.1 x.2.1 (fun q0=>k (.str q0) [])
def Jw (fn:wv R):=aI Ju Jv (OD fn)
section
def QM:List (oq R) := [(105,true,(PQ R))]
def DY (x1:ah) (x2:ah) (k0:ah→Option R):Option R :=
 cb (v7 x2&&decide (x2.length<4294967281)) (cb (decide ((0:Int)≤(IntKind.i64.wrap ((x1.length:Int) - ((bu x1 x2).length:Int))))&&decide ((IntKind.i64.wrap ((x1.length:Int) - ((bu x1 x2).length:Int)))≤x1.length)) (cb (decide ((0:Int)≤(IntKind.i64.wrap ((x1.length:Int) - ((bu x1 x2).length:Int))))) (k0 ((x1.drop 0).take ((IntKind.i64.wrap ((x1.length:Int) - ((bu x1 x2).length:Int))).toNat - 0)))))
theorem YB:dE (R:=R) tt (QM (R:=R)) rS false Tryz.f118 Ju Jv (OD DY):=fun x y k=>by kernel_rfl
end
theorem Wm:cu (R:=R) Tryz.prog (QM (R:=R)) := .p (SE) <| .n
def cE:wv R:=fun x1 x2 k0=>DY x1 x2 k0
theorem Ki (R:Type):k8 Tryz.prog 118 (Jw (cE (R:=R))):=bt TT mixed (Wm (R:=R)) rfl rfl rfl rfl cd (YB)
/-! ### (*humpyard/decimal.reader).sign -/
abbrev hJ (R:Type):Type:=ah→ah→(Int→ah→Option R)→Option R
abbrev oT:List cP := [.leaf (.ptr 0 0), .leaf (.str)]
abbrev oU:List aW := [.cells [.str]]
def vq (fn:hJ R):lh R oT oU:=fun x y k=>fn x.2.1 y.1.1 (fun q0 q1=>k (.int .u8 q0) [.cells [.str q1]])
def oV (fn:hJ R):=aI oT oU (vq fn)
section
def wx:List (oq R) := [(159,true,(idx_S R))]
def kJ (x1:ah) (x2:ah) (k0:Int→ah→Option R):Option R :=
 bif (x2==([]:ah))then (k0 0 x2)else (cb (decide ((0:Int)<x2.length)) (bif (decide ((DS x1 ((x2.getD 0 0).toNat:Int))<(0:Int)))then (k0 0 x2)else (cb (decide ((0:Int)<x2.length)) (cb (decide ((0:Int)≤(x2.length:Int))&&decide ((x2.length:Int)≤x2.length)) (cb (decide ((1:Int)≤(x2.length:Int))) (k0 ((x2.getD 0 0).toNat:Int) ((x2.drop 1).take ((x2.length:Int).toNat - 1))))))))
theorem FY:dE (R:=R) tt (wx (R:=R)) rS false Tryz.f190 oT oU (vq kJ):=fun x y k=>by kernel_rfl
end
theorem E3:cu (R:=R) Tryz.prog (wx (R:=R)) := .p (idx_ok) <| .n
def aV:hJ R:=fun x1 x2 k0=>kJ x1 x2 k0
theorem tu (R:Type):k8 Tryz.prog 190 (oV (aV (R:=R))):=bt TT mixed (E3 (R:=R)) rfl rfl rfl rfl cd (FY)
/-! ### (*humpyard/decimal.reader).digits -/
abbrev gp (R:Type):Type:=ah→(ah→ah→Option R)→Option R
abbrev na:List cP := [.leaf (.ptr 0 0)]
abbrev nc:List aW := [.cells [.str]]
def tw (fn:gp R):lh R na nc:=fun x y k=>fn y.1.1 (fun q0 q1=>k (.str q0) [.cells [.str q1]])
def nd (fn:gp R):=aI na nc (tw fn)
section
def uB:List (oq R) := [(105,true,(PQ R))]
def jF (x1:ah) (k0:ah→ah→Option R):Option R :=
 cb (v7 ([48,49,50,51,52,53,54,55,56,57]:ah)&&decide (([48,49,50,51,52,53,54,55,56,57]:ah).length<4294967281)) (cb (decide ((0:Int)≤(IntKind.i64.wrap ((x1.length:Int) - ((bu x1 ([48,49,50,51,52,53,54,55,56,57]:ah)).length:Int))))&&decide ((IntKind.i64.wrap ((x1.length:Int) - ((bu x1 ([48,49,50,51,52,53,54,55,56,57]:ah)).length:Int)))≤x1.length)) (cb (decide ((0:Int)≤(IntKind.i64.wrap ((x1.length:Int) - ((bu x1 ([48,49,50,51,52,53,54,55,56,57]:ah)).length:Int))))) (k0 ((x1.drop 0).take ((IntKind.i64.wrap ((x1.length:Int) - ((bu x1 ([48,49,50,51,52,53,54,55,56,57]:ah)).length:Int))).toNat - 0)) (bu x1 ([48,49,50,51,52,53,54,55,56,57]:ah)))))
theorem Ek:dE (R:=R) tt (uB (R:=R)) rS false Tryz.f191 na nc (tw jF):=fun x y k=>by kernel_rfl
end
theorem Dt:cu (R:=R) Tryz.prog (uB (R:=R)) := .p (SE) <| .n
def aR:gp R:=fun x1 k0=>jF x1 k0
theorem rJ (R:Type):k8 Tryz.prog 191 (nd (aR (R:=R))):=bt TT mixed (Dt (R:=R)) rfl rfl rfl rfl cd (Ek)
/-! ### (*humpyard/decimal.reader).exponent -/
abbrev iA (R:Type):Type:=ah→(Int→Bool→ah→Option R)→Option R
abbrev lW:List cP := [.leaf (.ptr 0 0)]
abbrev lX:List aW := [.cells [.str]]
def rK (fn:iA R):lh R lW lX:=fun x y k=>fn y.1.1 (fun q0 q1 q2=>k (.tuple [.int .i64 q0, .bool q1]) [.cells [.str q2]])
def sf (fn:iA R):=aI lW lX (rK fn)
section
variable (aV:hJ R) (aR:gp R)
def si:List (oq R) := [(190,false,(oV aV ax)),(191,false,(nd aR ax)),(194,true,(atoi_S R))]
def iS (x1:ah) (k0:Int→Bool→ah→Option R):Option R :=
 aV ([43,45]:ah) x1 (fun y2 y3=>aR y3 (fun y4 y5=>cb (decide (y4.length≤281474976710656)) (bif v8 y4 then (bif (decide ((ef y4)>(1000000:Int)))then (bif (y2==45)then (k0 (-1000000) (!(y4==([]:ah))) y5)else (k0 1000000 (!(y4==([]:ah))) y5))else (bif (y2==45)then (k0 (IntKind.i64.wrap (0 - (ef y4))) (!(y4==([]:ah))) y5)else (k0 (ef y4) (!(y4==([]:ah))) y5)))else (bif (!(y4==([]:ah)))then (bif (y2==45)then (k0 (-1000000) (!(y4==([]:ah))) y5)else (k0 1000000 (!(y4==([]:ah))) y5))else (bif (decide ((ef y4)>(1000000:Int)))then (bif (y2==45)then (k0 (-1000000) (!(y4==([]:ah))) y5)else (k0 1000000 (!(y4==([]:ah))) y5))else (bif (y2==45)then (k0 (IntKind.i64.wrap (0 - (ef y4))) (!(y4==([]:ah))) y5)else (k0 (ef y4) (!(y4==([]:ah))) y5)))))))
theorem CS:dE (R:=R) tt (si aV aR) rS false Tryz.f192 lW lX (rK (iS aV aR)):=fun x y k=>by kernel_rfl
end
theorem BO:cu (R:=R) Tryz.prog (si (R:=R) aV aR) := .d (tu R) rfl <| .d (rJ R) rfl <| .p (atoi_ok) <| .n
def bz:iA R:=fun x1 k0=>iS aV aR x1 k0
theorem Bg (R:Type):k8 Tryz.prog 192 (sf (bz (R:=R))):=bt TT mixed (BO (R:=R)) rfl rfl rfl rfl cd (CS aV aR)
/-! ### humpyard/decimal.Parse -/
abbrev xa (R:Type):Type:=ah→(fv→Bool→Option R)→Option R
abbrev E4:List cP := [.leaf (.str)]
abbrev E5:List aW := []
def Kj (fn:xa R):lh R E4 E5:=fun x y k=>fn x.1 (fun q0 q1=>k (.tuple [.agg [.int .i64 q0.ao, .int .i64 q0.exp], .bool q1]) [])
def MW (fn:xa R):=aI E4 E5 (Kj fn)
section
variable (bk:uz R) (aV:hJ R) (aR:gp R) (bz:iA R)
def MX:List (oq R) := [(97,true,(GW bk ax)),(190,false,(oV aV ax)),(191,false,(nd aR ax)),(192,false,(sf bz ax)),(105,true,(PQ R)),(193,true,(trimR_S R)),(194,true,(atoi_S R))]
def pL (x1:ah) (k0:fv→Bool→Option R):Option R :=
 aV ([45]:ah) x1 (fun y2 y3=>aR y3 (fun y4 y5=>let j32:=let j31:=fun (vP:ah) (z12:Int) (z13:ah)=>let j30:=fun (z19:Int) (z20:ah)=>cb (v7 ([48]:ah)&&decide (([48]:ah).length<4294967281)) (cb (v7 ([48]:ah)&&decide (([48]:ah).length<4294967281)) (bif (!(z20==([]:ah)))then (k0 (⟨0,0⟩:fv) false)else (bif (decide (((cB (bu vP ([48]:ah)) ([48]:ah)).length:Int)>(18:Int)))then (k0 (⟨0,0⟩:fv) false)else (let j29:=bif (y2 != 0)then (bk (IntKind.i64.wrap (0 - (ef (([48]:ah)++(cB (bu vP ([48]:ah)) ([48]:ah)))))) (IntKind.i64.wrap (z19+(IntKind.i64.wrap (((bu vP ([48]:ah)).length:Int) - ((cB (bu vP ([48]:ah)) ([48]:ah)).length:Int))))) (fun Qx SP=>k0 Qx SP))else (bk (ef (([48]:ah)++(cB (bu vP ([48]:ah)) ([48]:ah)))) (IntKind.i64.wrap (z19+(IntKind.i64.wrap (((bu vP ([48]:ah)).length:Int) - ((cB (bu vP ([48]:ah)) ([48]:ah)).length:Int))))) (fun Jh Qy=>k0 Jh Qy)); cb (decide (1+(cB (bu vP ([48]:ah)) ([48]:ah)).length≤9223372036854775807)) (cb (decide ((([48]:ah)++(cB (bu vP ([48]:ah)) ([48]:ah))).length≤281474976710656)) (bif v8 (([48]:ah)++(cB (bu vP ([48]:ah)) ([48]:ah)))then (j29)else (j29))))))); aV ([101,69]:ah) z13 (fun G1 Iy=>bif (G1 != 0)then (bz Iy (fun EN Sb Nr=>bif (!Sb)then (k0 (⟨0,0⟩:fv) false)else (j30 (IntKind.i64.wrap (z12+EN)) Nr)))else (j30 z12 Iy)); aV ([46]:ah) y5 (fun y7 y8=>bif (y7 != 0)then (aR y8 (fun y9 um=>bif (y9==([]:ah))then (k0 (⟨0,0⟩:fv) false)else (cb (decide (y4.length+y9.length≤9223372036854775807)) (j31 (y4++y9) (IntKind.i64.wrap (0 - (y9.length:Int))) um))))else (j31 y4 0 y8)); bif (decide ((x1.length:Int)>(400:Int)))then (k0 (⟨0,0⟩:fv) false)else (bif (y4==([]:ah))then (k0 (⟨0,0⟩:fv) false)else (bif (decide ((y4.length:Int)>(1:Int)))then (cb (decide ((0:Int)<y4.length)) (bif (((y4.getD 0 0).toNat:Int)==48)then (k0 (⟨0,0⟩:fv) false)else (j32)))else (j32)))))
theorem UH:dE (R:=R) tt (MX bk aV aR bz) rS false Tryz.f157 E4 E5 (Kj (pL bk aV aR bz)):=fun x y k=>by kernel_rfl
end
theorem S3:cu (R:=R) Tryz.prog (MX (R:=R) bk aV aR bz) := .c (Iw R) <| .d (tu R) rfl <| .d (rJ R) rfl <| .d (Bg R) rfl <| .p (SE) <| .p (trimR_ok) <| .p (atoi_ok) <| .n
def dR:xa R:=fun x1 k0=>pL bk aV aR bz x1 k0
theorem RE (R:Type):k8 Tryz.prog 157 (MW (dR (R:=R))):=bt TT mixed (S3 (R:=R)) rfl rfl rfl rfl cd (UH bk aV aR bz)
/-! ### internal/stringslite.HasPrefix -/
abbrev gS (R:Type):Type:=ah→ah→(Bool→Option R)→Option R
abbrev kK:List cP := [.leaf (.str), .leaf (.str)]
abbrev kL:List aW := []
def py (fn:gS R):lh R kK kL:=fun x y k=>fn x.1 x.2.1 (fun q0=>k (.bool q0) [])
def qk (fn:gS R):=aI kK kL (py fn)
section
def hM (x1:ah) (x2:ah) (k0:Bool→Option R):Option R :=
 bif (decide ((x1.length:Int)≥(x2.length:Int)))then (cb (decide ((0:Int)≤(x2.length:Int))&&decide ((x2.length:Int)≤x1.length)) (cb (decide ((0:Int)≤(x2.length:Int))) (k0 (((x1.drop 0).take ((x2.length:Int).toNat - 0))==x2))))else (k0 false)
theorem Bh:dE (R:=R) tt [] rS false Tryz.f228 kK kL (py hM):=fun x y k=>by kernel_rfl
end
def cg:gS R:=fun x1 x2 k0=>hM x1 x2 k0
theorem yR (R:Type):k8 Tryz.prog 228 (qk (cg (R:=R))):=bt TT mixed .n rfl rfl rfl rfl cd (Bh)
/-! ### internal/stringslite.CutPrefix -/
abbrev gT (R:Type):Type:=ah→ah→(ah→Bool→Option R)→Option R
abbrev kM:List cP := [.leaf (.str), .leaf (.str)]
abbrev kN:List aW := []
def pz (fn:gT R):lh R kM kN:=fun x y k=>fn x.1 x.2.1 (fun q0 q1=>k (.tuple [.str q0, .bool q1]) [])
def ql (fn:gT R):=aI kM kN (pz fn)
section
variable (cg:gS R)
def qm:List (oq R) := [(228,true,(qk cg ax))]
def hP (x1:ah) (x2:ah) (k0:ah→Bool→Option R):Option R :=
 cg x1 x2 (fun y3=>bif (!y3)then (k0 x1 false)else (cb (decide ((0:Int)≤(x1.length:Int))&&decide ((x1.length:Int)≤x1.length)) (cb (decide ((0:Int)≤(x2.length:Int))&&decide ((x2.length:Int)≤(x1.length:Int))) (k0 ((x1.drop (x2.length:Int).toNat).take ((x1.length:Int).toNat - (x2.length:Int).toNat)) true))))
theorem Bi:dE (R:=R) tt (qm cg) rS false Tryz.f241 kM kN (pz (hP cg)):=fun x y k=>by kernel_rfl
end
theorem Ar:cu (R:=R) Tryz.prog (qm (R:=R) cg) := .c (yR R) <| .n
def cw:gT R:=fun x1 x2 k0=>hP cg x1 x2 k0
theorem yS (R:Type):k8 Tryz.prog 241 (ql (cw (R:=R))):=bt TT mixed (Ar (R:=R)) rfl rfl rfl rfl cd (Bi cg)
/-! ### strings.CutPrefix -/
abbrev qo (R:Type):Type:=ah→ah→(ah→Bool→Option R)→Option R
abbrev yh:List cP := [.leaf (.str), .leaf (.str)]
abbrev yi:List aW := []
def El (fn:qo R):lh R yh yi:=fun x y k=>fn x.1 x.2.1 (fun q0 q1=>k (.tuple [.str q0, .bool q1]) [])
def Fv (fn:qo R):=aI yh yi (El fn)
section
variable (cw:gT R)
def Fw:List (oq R) := [(241,true,(ql cw ax))]
def Fx (x1:ah) (x2:ah) (k0:ah→Bool→Option R):Option R :=
 cw x1 x2 (fun y3 y4=>k0 y3 y4)
theorem OE:dE (R:=R) tt (Fw cw) rS false Tryz.f220 yh yi (El (Fx cw)):=fun x y k=>by kernel_rfl
end
theorem Nv:cu (R:=R) Tryz.prog (Fw (R:=R) cw) := .c (yS R) <| .n
def fq:qo R:=fun x1 x2 k0=>Fx cw x1 x2 k0
theorem LH (R:Type):k8 Tryz.prog 220 (Fv (fq (R:=R))):=bt TT mixed (Nv (R:=R)) rfl rfl rfl rfl cd (OE cw)
/-! ### (*humpyard/quote.reader).skip -/
abbrev jf (R:Type):Type:=ah→ah→(Bool→ah→Option R)→Option R
abbrev qJ:List cP := [.leaf (.ptr 0 0), .leaf (.str)]
abbrev qK:List aW := [.cells [.str]]
def xx (fn:jf R):lh R qJ qK:=fun x y k=>fn x.2.1 y.1.1 (fun q0 q1=>k (.bool q0) [.cells [.str q1]])
def qL (fn:jf R):=aI qJ qK (xx fn)
section
variable (fq:qo R)
def yT:List (oq R) := [(220,true,(Fv fq ax))]
def yU (x1:ah) (x2:ah) (k0:Bool→ah→Option R):Option R :=
 fq x2 x1 (fun y3 y4=>k0 y4 y3)
theorem HN:dE (R:=R) tt (yT fq) rS false Tryz.f195 qJ qK (xx (yU fq)):=fun x y k=>by kernel_rfl
end
theorem G6:cu (R:=R) Tryz.prog (yT (R:=R) fq) := .c (LH R) <| .n
def aK:jf R:=fun x1 x2 k0=>yU fq x1 x2 k0
theorem vu (R:Type):k8 Tryz.prog 195 (qL (aK (R:=R))):=bt TT mixed (G6 (R:=R)) rfl rfl rfl rfl cd (HN fq)
/-! ### internal/strconv.lower -/
abbrev jg (R:Type):Type:=Int→(Int→Option R)→Option R
abbrev qM:List cP := [.leaf (.int .u8)]
abbrev qN:List aW := []
def xy (fn:jg R):lh R qM qN:=fun x y k=>fn x.1 (fun q0=>k (.int .u8 q0) [])
def qO (fn:jg R):=aI qM qN (xy fn)
section
def yV (x1:Int) (k0:Int→Option R):Option R :=
 k0 (IntKind.u8.wrap ((BitVec.ofInt IntKind.u8.bits x1 ||| BitVec.ofInt IntKind.u8.bits 32).toNat:Int))
theorem HO:dE (R:=R) tt [] rS false Tryz.f259 qM qN (xy yV):=fun x y k=>by kernel_rfl
end
def internal_strconv_lower:jg R:=fun x1 k0=>yV x1 k0
theorem vv (R:Type):k8 Tryz.prog 259 (qO (internal_strconv_lower (R:=R))):=bt TT mixed .n rfl rfl rfl rfl cd (HO)
/-! ### internal/strconv.underscoreOK -/
abbrev hQ (R:Type):Type:=ah→(Bool→Option R)→Option R
abbrev lj:List cP := [.leaf (.str)]
abbrev lk:List aW := []
def qp (fn:hQ R):lh R lj lk:=fun x y k=>fn x.1 (fun q0=>k (.bool q0) [])
def rL (fn:hQ R):=aI lj lk (qp fn)
abbrev iT (R:Type):Type:=Nat→ah→Int→Int→Bool→(Int→Option R)→(Bool→Int→Option R)→Option R
def fV:Hint := { live := [0,3,4,5],own := [],rows := [],cells := [],drop := [],out := [2,3] }
abbrev dx:Type:=ah×Int×Int×Bool
def iI:dx→St:=fun d=>⟨.str d.1::U 2 (.int .i32 d.2.1 :: .int .i64 d.2.2.1 :: .bool d.2.2.2::U 88 ([])), []⟩
def iU (K:Ex→St→Option R) (q0:Int):Option R:=K (.exit 0) ⟨U 3 (.int .i32 q0::U 90 ([])), []⟩
def iV (K:Ex→St→Option R) (q0:Bool) (q1:Int):Option R:=K (.ret) ⟨U 2 (.bool q0 :: .int .i32 q1::U 90 ([])), []⟩
abbrev eE:List cP := .leaf (.str)::PU 2 (.leaf (.int .i32) :: .leaf (.int .i64) :: .leaf (.bool)::PU 88 ([]))
abbrev eF:List aW := []
def nB (x:cP.bQ eE) (y:aW.bQ eF):Nat:=(List.length x.1+Int.natAbs x.2.2.2.1+Int.natAbs x.2.2.2.2.1+64)
def yj (x:cP.bQ eE) (y:aW.bQ eF):dx:=(x.1,x.2.2.2.1,x.2.2.2.2.1,x.2.2.2.2.2.1)
def mL (L:iT R):wW R eE eF:=fun x y K=>L (nB x y) x.1 x.2.2.2.1 x.2.2.2.2.1 x.2.2.2.2.2.1 (iU K) (iV K)
section
variable (internal_strconv_lower:jg R) (aE:iT R)
def eJ:List (oq R) := [(259,true,(qO internal_strconv_lower ax))]
def nC (dz:ah→Int→Int→Bool→Option R) (ot:ah) (tH:Int) (lI:Int) (oW:Bool) (e0:Int→Option R) (e1:Bool→Int→Option R):Option R :=
 bif (decide (lI<(ot.length:Int)))then (cb (decide ((0:Int)≤lI)&&decide (lI<ot.length)) (bif (decide ((48:Int)≤((ot.getD lI.toNat 0).toNat:Int)))then (cb (decide ((0:Int)≤lI)&&decide (lI<ot.length)) (bif (decide (((ot.getD lI.toNat 0).toNat:Int)≤(57:Int)))then (dz ot 48 (IntKind.i64.wrap (lI+1)) oW)else (bif oW then (cb (decide ((0:Int)≤lI)&&decide (lI<ot.length)) (internal_strconv_lower ((ot.getD lI.toNat 0).toNat:Int) (fun ZM=>bif (decide ((97:Int)≤ZM))then (cb (decide ((0:Int)≤lI)&&decide (lI<ot.length)) (internal_strconv_lower ((ot.getD lI.toNat 0).toNat:Int) (fun V9=>bif (decide (V9≤(102:Int)))then (dz ot 48 (IntKind.i64.wrap (lI+1)) oW)else (cb (decide ((0:Int)≤lI)&&decide (lI<ot.length)) (bif (((ot.getD lI.toNat 0).toNat:Int)==95)then (bif (tH != 48)then (e1 false tH)else (dz ot 95 (IntKind.i64.wrap (lI+1)) oW))else (bif (tH==95)then (e1 false tH)else (dz ot 33 (IntKind.i64.wrap (lI+1)) oW)))))))else (cb (decide ((0:Int)≤lI)&&decide (lI<ot.length)) (bif (((ot.getD lI.toNat 0).toNat:Int)==95)then (bif (tH != 48)then (e1 false tH)else (dz ot 95 (IntKind.i64.wrap (lI+1)) oW))else (bif (tH==95)then (e1 false tH)else (dz ot 33 (IntKind.i64.wrap (lI+1)) oW)))))))else (cb (decide ((0:Int)≤lI)&&decide (lI<ot.length)) (bif (((ot.getD lI.toNat 0).toNat:Int)==95)then (bif (tH != 48)then (e1 false tH)else (dz ot 95 (IntKind.i64.wrap (lI+1)) oW))else (bif (tH==95)then (e1 false tH)else (dz ot 33 (IntKind.i64.wrap (lI+1)) oW)))))))else (bif oW then (cb (decide ((0:Int)≤lI)&&decide (lI<ot.length)) (internal_strconv_lower ((ot.getD lI.toNat 0).toNat:Int) (fun GQ=>bif (decide ((97:Int)≤GQ))then (cb (decide ((0:Int)≤lI)&&decide (lI<ot.length)) (internal_strconv_lower ((ot.getD lI.toNat 0).toNat:Int) (fun y22=>bif (decide (y22≤(102:Int)))then (dz ot 48 (IntKind.i64.wrap (lI+1)) oW)else (cb (decide ((0:Int)≤lI)&&decide (lI<ot.length)) (bif (((ot.getD lI.toNat 0).toNat:Int)==95)then (bif (tH != 48)then (e1 false tH)else (dz ot 95 (IntKind.i64.wrap (lI+1)) oW))else (bif (tH==95)then (e1 false tH)else (dz ot 33 (IntKind.i64.wrap (lI+1)) oW)))))))else (cb (decide ((0:Int)≤lI)&&decide (lI<ot.length)) (bif (((ot.getD lI.toNat 0).toNat:Int)==95)then (bif (tH != 48)then (e1 false tH)else (dz ot 95 (IntKind.i64.wrap (lI+1)) oW))else (bif (tH==95)then (e1 false tH)else (dz ot 33 (IntKind.i64.wrap (lI+1)) oW)))))))else (cb (decide ((0:Int)≤lI)&&decide (lI<ot.length)) (bif (((ot.getD lI.toNat 0).toNat:Int)==95)then (bif (tH != 48)then (e1 false tH)else (dz ot 95 (IntKind.i64.wrap (lI+1)) oW))else (bif (tH==95)then (e1 false tH)else (dz ot 33 (IntKind.i64.wrap (lI+1)) oW)))))))else (e0 tH)
def nD (K:Ex→St→Option R) (rc:dx→Option R) (d:dx):Option R:=nC internal_strconv_lower (fun z0 z1 z2 z3=>rc (z0,z1,z2,z3)) d.1 d.2.1 d.2.2.1 d.2.2.2 (iU K) (iV K)
def fO:Nat→Option (Hint×cL R):=fun i=>match i with
 | 10=>some (fV,(cG eE eF (mL aE) iL))
 | _=>none
theorem vT (K:Ex→St→Option R) (rc:St→Option R) (d:dx):roundOf tt (cR (eJ internal_strconv_lower)) (fO aE) 0 ((aA (bc Tryz.f260)).getD 0 .skip) fV (iI d) rc K=nD internal_strconv_lower K (fun d=>rc (iI d)) d:=by kernel_rfl
def rM (x1:ah) (k0:Bool→Option R):Option R :=
 let j46:=fun (z3:ah)=>bif (decide ((z3.length:Int)≥(2:Int)))then (cb (decide ((0:Int)<z3.length)) (bif (((z3.getD 0 0).toNat:Int)==48)then (cb (decide ((1:Int)<z3.length)) (internal_strconv_lower ((z3.getD 1 0).toNat:Int) (fun y4=>bif (y4==98)then (cb (decide ((1:Int)<z3.length)) (internal_strconv_lower ((z3.getD 1 0).toNat:Int) (fun y9=>aE (List.length z3+Int.natAbs 48+Int.natAbs 2+64) z3 48 2 (y9==120) (fun Qy=>k0 (Qy != 95)) (fun YC Xa=>k0 YC))))else (cb (decide ((1:Int)<z3.length)) (internal_strconv_lower ((z3.getD 1 0).toNat:Int) (fun y5=>bif (y5==111)then (cb (decide ((1:Int)<z3.length)) (internal_strconv_lower ((z3.getD 1 0).toNat:Int) (fun um=>aE (List.length z3+Int.natAbs 48+Int.natAbs 2+64) z3 48 2 (um==120) (fun y31=>k0 (y31 != 95)) (fun UI y33=>k0 UI))))else (cb (decide ((1:Int)<z3.length)) (internal_strconv_lower ((z3.getD 1 0).toNat:Int) (fun y6=>bif (y6==120)then (cb (decide ((1:Int)<z3.length)) (internal_strconv_lower ((z3.getD 1 0).toNat:Int) (fun vQ=>aE (List.length z3+Int.natAbs 48+Int.natAbs 2+64) z3 48 2 (vQ==120) (fun y34=>k0 (y34 != 95)) (fun y35 y36=>k0 y35))))else (aE (List.length z3+Int.natAbs 94+Int.natAbs 0+64) z3 94 0 false (fun y37=>k0 (y37 != 95)) (fun y38 W8=>k0 y38)))))))))))else (aE (List.length z3+Int.natAbs 94+Int.natAbs 0+64) z3 94 0 false (fun ZN=>k0 (ZN != 95)) (fun Z5 Z6=>k0 Z5))))else (aE (List.length z3+Int.natAbs 94+Int.natAbs 0+64) z3 94 0 false (fun W9=>k0 (W9 != 95)) (fun y44 y45=>k0 y44)); bif (decide ((x1.length:Int)≥(1:Int)))then (cb (decide ((0:Int)<x1.length)) (bif (((x1.getD 0 0).toNat:Int)==45)then (cb (decide ((0:Int)≤(x1.length:Int))&&decide ((x1.length:Int)≤x1.length)) (cb (decide ((1:Int)≤(x1.length:Int))) (j46 ((x1.drop 1).take ((x1.length:Int).toNat - 1)))))else (cb (decide ((0:Int)<x1.length)) (bif (((x1.getD 0 0).toNat:Int)==43)then (cb (decide ((0:Int)≤(x1.length:Int))&&decide ((x1.length:Int)≤x1.length)) (cb (decide ((1:Int)≤(x1.length:Int))) (j46 ((x1.drop 1).take ((x1.length:Int).toNat - 1)))))else (j46 x1)))))else (j46 x1)
theorem BP:dE (R:=R) tt (eJ internal_strconv_lower) (fO aE) false Tryz.f260 lj lk (qp (rM internal_strconv_lower aE)):=fun x y k=>by kernel_rfl
end
theorem Bj:cu (R:=R) Tryz.prog (eJ (R:=R) internal_strconv_lower) := .c (vv R) <| .n
def aE:iT R
 | 0,_,_,_,_,_,_=>none
 | n+1,gk,gn,gw,mC,e0,e1=>nC internal_strconv_lower (fun gk gn gw mC=>aE n gk gn gw mC e0 e1) gk gn gw mC e0 e1
def nE (K:Ex→St→Option R) (n:Nat) (d:dx):Option R:=aE n d.1 d.2.1 d.2.2.1 d.2.2.2 (iU K) (iV K)
theorem xb (other:cL R) (ho:gW tt (cR (eJ (R:=R) internal_strconv_lower)) (fO (R:=R) aE) 0 ((aA (bc Tryz.f260)).getD 0 .skip) fV other):gW tt (cR (eJ (R:=R) internal_strconv_lower)) (fO (R:=R) aE) 0 ((aA (bc Tryz.f260)).getD 0 .skip) fV (cG eE eF (mL (aE)) other) :=
 cQ (A:=nE) ho (dV iI (nD internal_strconv_lower) (nE) (fun _ _=>by kernel_rfl) (vT internal_strconv_lower aE) (fun _ _ _=>by kernel_rfl)) nB yj (fun _ _=>by kernel_rfl) (fun _ _ _=>by kernel_rfl)
def bE:hQ R:=fun x1 k0=>rM internal_strconv_lower aE x1 k0
theorem yW (R:Type):∀a∈aA (bc Tryz.f260),gK tt (cR (eJ (R:=R) internal_strconv_lower)) (fO (R:=R) aE) 0 a:=by
 refine eY 1 (by kernel_rfl) fun i hi => ?_
 match i,hi with
 | 0,_=>exact cz (by kernel_rfl) (xb _ dv)
 | n+1,hi=>omega
theorem As (R:Type):k8 Tryz.prog 260 (rL (bE (R:=R))):=bt TT mixed (Bj (R:=R)) rfl rfl rfl rfl (yW R) (BP internal_strconv_lower aE)
end Go.Proofs.YtidfokedcnhahaaGreatDoor
/-
 Functions of the program as pure Lean functions, and the ties; printed by wip/tools/emit.py.
-/
set_option maxRecDepth 100000
namespace Go.Proofs.YtidfokedcnhahaaGreatDoor
open Go Go.aC
variable {R:Type}
/-! ### internal/strconv.ParseUint -/
abbrev jl (R:Type):Type:=ah→Int→Int→(Int→Option R)→(Int→Option R)→(Int→Option R)→(Int→Option R)→(Int→Option R)→Option R
abbrev nf:List cP := [.leaf (.str), .leaf (.int .i64), .leaf (.int .i64)]
abbrev ng:List aW := []
def tz (fn:jl R):lh R nf ng:=fun x y k=>fn x.1 x.2.1 x.2.2.1 (fun q0=>k (.tuple [.int .u64 q0, .Rb 250 .i64 2]) []) (fun q0=>k (.tuple [.int .u64 q0, .Rb 250 .i64 3]) []) (fun q0=>k (.tuple [.int .u64 q0, .Rb 250 .i64 4]) []) (fun q0=>k (.tuple [.int .u64 q0, .Rb 250 .i64 1]) []) (fun q0=>k (.tuple [.int .u64 q0, .dt]) [])
def uC (fn:jl R):=aI nf ng (tz fn)
abbrev jN (R:Type):Type:=Nat→Int→Bool→ah→Int→Int→Bool→Int→Nat→Int→Int→(List Int)→(ah→Bool→Int→Option R)→(Int→ah→Bool→Int→Option R)→(Int→ah→Bool→Int→Option R)→(Int→ah→Bool→Option R)→Option R
def gU:Hint := { live := [1,8,9,10,11,12,13,99,100,101],own := [],rows := [],cells := [],drop := [],out := [6,7,9,12,13] }
abbrev dU:Type:=Int×Bool×ah×Int×Int×Bool×Int×Nat×Int×Int×(List Int)
def jA:dU→St:=fun d=>⟨.undef :: .int .i64 d.1::U 6 (.bool d.2.1 :: .str d.2.2.1 :: .int .u64 d.2.2.2.1 :: .int .u64 d.2.2.2.2.1 :: .bool d.2.2.2.2.2.1 :: .int .u64 d.2.2.2.2.2.2.1::U 85 (.row 0 d.2.2.2.2.2.2.2.1 :: .int .i64 d.2.2.2.2.2.2.2.2.1 :: .int .i64 d.2.2.2.2.2.2.2.2.2.1::U 70 ([]))), [.row (.int .u8) d.2.2.2.2.2.2.2.2.2.2]⟩
def jO (K:Ex→St→Option R) (q0:ah) (q1:Bool) (q2:Int):Option R:=K (.exit 3) ⟨U 9 (.str q0::U 2 (.bool q1 :: .int .u64 q2::U 158 ([]))), []⟩
def jP (K:Ex→St→Option R) (q0:Int) (q1:ah) (q2:Bool) (q3:Int):Option R:=K (.ret) ⟨U 6 (.int .u64 q0 :: .Rb 250 .i64 2 :: .undef :: .str q1::U 2 (.bool q2 :: .int .u64 q3::U 158 ([]))), []⟩
def jQ (K:Ex→St→Option R) (q0:Int) (q1:ah) (q2:Bool) (q3:Int):Option R:=K (.ret) ⟨U 6 (.int .u64 q0 :: .Rb 250 .i64 1 :: .undef :: .str q1::U 2 (.bool q2 :: .int .u64 q3::U 158 ([]))), []⟩
def jR (K:Ex→St→Option R) (q0:Int) (q1:ah) (q2:Bool):Option R:=K (.ret) ⟨U 6 (.int .u64 q0 :: .Rb 250 .i64 1 :: .undef :: .str q1::U 2 (.bool q2::U 159 ([]))), []⟩
abbrev fa:List cP := .leaf (.undef) :: .leaf (.int .i64)::PU 6 (.leaf (.bool) :: .leaf (.str) :: .leaf (.int .u64) :: .leaf (.int .u64) :: .leaf (.bool) :: .leaf (.int .u64)::PU 85 (.leaf (.row 0) :: .leaf (.int .i64) :: .leaf (.int .i64)::PU 70 ([])))
abbrev fb:List aW := [.row (.int .u8)]
def pA (x:cP.bQ fa) (y:aW.bQ fb):Nat:=(Int.natAbs x.2.1+List.length ((t8 x).2.1)+Int.natAbs ((t8 x).2.2.1)+Int.natAbs ((t8 x).2.2.2.1)+Int.natAbs ((t8 x).2.2.2.2.2.1)+Int.natAbs ((t8 (t8 (t8 (t8 (t8 (t8 (t8 (t8 (t8 (t8 (t8 (t8 x)))))))))))).2.2.2.2.1)+Int.natAbs ((t8 (t8 (t8 (t8 (t8 (t8 (t8 (t8 (t8 (t8 (t8 (t8 x)))))))))))).2.2.2.2.2.1)+List.length y.1+64)
def Bk (x:cP.bQ fa) (y:aW.bQ fb):dU:=(x.2.1,(t8 x).1,(t8 x).2.1,(t8 x).2.2.1,(t8 x).2.2.2.1,(t8 x).2.2.2.2.1,(t8 x).2.2.2.2.2.1,(t8 (t8 (t8 (t8 (t8 (t8 (t8 (t8 (t8 (t8 (t8 (t8 x)))))))))))).2.2.2.1,(t8 (t8 (t8 (t8 (t8 (t8 (t8 (t8 (t8 (t8 (t8 (t8 x)))))))))))).2.2.2.2.1,(t8 (t8 (t8 (t8 (t8 (t8 (t8 (t8 (t8 (t8 (t8 (t8 x)))))))))))).2.2.2.2.2.1,y.1)
def oX (L:jN R):wW R fa fb:=fun x y K=>L (pA x y) x.2.1 ((t8 x).1) ((t8 x).2.1) ((t8 x).2.2.1) ((t8 x).2.2.2.1) ((t8 x).2.2.2.2.1) ((t8 x).2.2.2.2.2.1) ((t8 (t8 (t8 (t8 (t8 (t8 (t8 (t8 (t8 (t8 (t8 (t8 x)))))))))))).2.2.2.1) ((t8 (t8 (t8 (t8 (t8 (t8 (t8 (t8 (t8 (t8 (t8 (t8 x)))))))))))).2.2.2.2.1) ((t8 (t8 (t8 (t8 (t8 (t8 (t8 (t8 (t8 (t8 (t8 (t8 x)))))))))))).2.2.2.2.2.1) y.1 (jO K) (jP K) (jQ K) (jR K)
section
variable (internal_strconv_lower:jg R) (bE:hQ R) (aH:jN R)
def fi:List (oq R) := [(259,true,(qO internal_strconv_lower ax)),(260,true,(rL bE ax))]
def dp (dz:Int→Bool→ah→Int→Int→Bool→Int→Nat→Int→Int→(List Int)→Option R) (uW:Int) (x21:Bool) (x22:ah) (x23:Int) (x24:Int) (Qu:Bool) (x26:Int) (ZL:Nat) (x28:Int) (x29:Int) (x30:List Int) (e0:ah→Bool→Int→Option R) (e1:Int→ah→Bool→Int→Option R) (e2:Int→ah→Bool→Int→Option R) (e3:Int→ah→Bool→Option R):Option R :=
 bif (decide (x29<x28))then (cb (decide ((0:Int)≤x29)&&decide (x29<ZL)) (cb (decide (x29.toNat<x30.length)) (let j42:=fun (z40:Int)=>bif (decide (z40≥(IntKind.u8.wrap uW)))then (e1 0 x22 Qu x26)else (bif (decide (x26≥x23))then (e2 x24 x22 Qu x26)else (bif (decide ((IntKind.u64.wrap ((IntKind.u64.wrap (x26*(IntKind.u64.wrap uW)))+(IntKind.u64.wrap z40)))<(IntKind.u64.wrap (x26*(IntKind.u64.wrap uW)))))then (e2 x24 x22 Qu (IntKind.u64.wrap (x26*(IntKind.u64.wrap uW))))else (bif (decide ((IntKind.u64.wrap ((IntKind.u64.wrap (x26*(IntKind.u64.wrap uW)))+(IntKind.u64.wrap z40)))>x24))then (e2 x24 x22 Qu (IntKind.u64.wrap (x26*(IntKind.u64.wrap uW))))else (dz uW x21 x22 x23 x24 Qu (IntKind.u64.wrap ((IntKind.u64.wrap (x26*(IntKind.u64.wrap uW)))+(IntKind.u64.wrap z40))) ZL x28 (IntKind.i64.wrap (x29+1)) x30)))); let j39:=fun (z31:Bool)=>bif z31 then (dz uW x21 x22 x23 x24 true x26 ZL x28 (IntKind.i64.wrap (x29+1)) x30)else (let j38:=fun (z32:Bool)=>bif z32 then (j42 (IntKind.u8.wrap ((x30.getD x29.toNat (Ty.aZ (.int .u8))) - 48)))else (internal_strconv_lower (x30.getD x29.toNat (Ty.aZ (.int .u8))) (fun y33=>bif (decide ((97:Int)≤y33))then (internal_strconv_lower (x30.getD x29.toNat (Ty.aZ (.int .u8))) (fun y34=>bif (decide (y34≤(122:Int)))then (internal_strconv_lower (x30.getD x29.toNat (Ty.aZ (.int .u8))) (fun y37=>j42 (IntKind.u8.wrap ((IntKind.u8.wrap (y37 - 97))+10))))else (e1 0 x22 Qu x26)))else (e1 0 x22 Qu x26))); bif (decide ((48:Int)≤(x30.getD x29.toNat (Ty.aZ (.int .u8)))))then (j38 (decide ((x30.getD x29.toNat (Ty.aZ (.int .u8)))≤(57:Int))))else (j38 false)); bif ((x30.getD x29.toNat (Ty.aZ (.int .u8)))==95)then (j39 x21)else (j39 false))))else (e0 x22 Qu x26)
def pB (K:Ex→St→Option R) (rc:dU→Option R) (d:dU):Option R:=dp internal_strconv_lower (fun z0 z1 z2 z3 z4 z5 z6 z7 z8 z9 Rx=>rc (z0,z1,z2,z3,z4,z5,z6,z7,z8,z9,Rx)) d.1 d.2.1 d.2.2.1 d.2.2.2.1 d.2.2.2.2.1 d.2.2.2.2.2.1 d.2.2.2.2.2.2.1 d.2.2.2.2.2.2.2.1 d.2.2.2.2.2.2.2.2.1 d.2.2.2.2.2.2.2.2.2.1 d.2.2.2.2.2.2.2.2.2.2 (jO K) (jP K) (jQ K) (jR K)
def gO:Nat→Option (Hint×cL R):=fun i=>match i with
 | 36=>some (gU,(cG fa fb (oX aH) iL))
 | _=>none
theorem yk (K:Ex→St→Option R) (rc:St→Option R) (d:dU):roundOf tt (cR (fi internal_strconv_lower bE)) (gO aH) 0 ((aA (bc Tryz.f249)).getD 0 .skip) gU (jA d) rc K=pB internal_strconv_lower K (fun d=>rc (jA d)) d:=by kernel_rfl
def jG (x1:ah) (x2:Int) (x3:Int) (k0:Int→Option R) (k1:Int→Option R) (k2:Int→Option R) (k3:Int→Option R) (k4:Int→Option R):Option R :=
 bif (x1==([]:ah))then (k0 0)else (let j63:=fun (z15:ah) (z16:Int)=>let j62:=fun (z18:Int)=>let j61:=fun (z19:Int)=>cb (decide ((0:Int)≤(IntKind.u64.wrap z18))) (aH (Int.natAbs z16+List.length x1+Int.natAbs z19+Int.natAbs (IntKind.u64.wrap ((IntKind.u64.wrap (1*2 ^ (min ((IntKind.u64.wrap z18).toNat) IntKind.u64.bits))) - 1))+Int.natAbs 0+Int.natAbs (z15.length:Int)+Int.natAbs 0+List.length (jI z15)+64) z16 (x2==0) x1 z19 (IntKind.u64.wrap ((IntKind.u64.wrap (1*2 ^ (min ((IntKind.u64.wrap z18).toNat) IntKind.u64.bits))) - 1)) false 0 z15.length (z15.length:Int) 0 (jI z15) (fun y45 y46 y47=>bif y46 then (bE y45 (fun y59=>bif (!y59)then (k0 0)else (k4 y47)))else (k4 y47)) (fun y48 y49 y50 y51=>k0 y48) (fun y52 y53 y54 y55=>k3 y52) (fun y56 y57 y58=>k3 y56)); bif (z16==10)then (j61 1844674407370955162)else (bif (z16==16)then (j61 1152921504606846976)else (cb (!decide ((IntKind.u64.wrap z16)=0)) (j61 (IntKind.u64.wrap ((IntKind.u64.wrap (Int.tdiv 18446744073709551615 (IntKind.u64.wrap z16)))+1))))); bif (x3==0)then (j62 64)else (bif (decide (x3<(0:Int)))then (k2 0)else (bif (decide (x3>(64:Int)))then (k2 0)else (j62 x3))); let j14:=fun (z4:Bool)=>bif z4 then (j63 x1 x2)else (bif (x2==0)then (cb (decide ((0:Int)<x1.length)) (bif (((x1.getD 0 0).toNat:Int)==48)then (let j13:=fun (z6:Bool)=>bif z6 then (cb (decide ((0:Int)≤(x1.length:Int))&&decide ((x1.length:Int)≤x1.length)) (cb (decide ((2:Int)≤(x1.length:Int))) (j63 ((x1.drop 2).take ((x1.length:Int).toNat - 2)) 2)))else (let j12:=fun (z8:Bool)=>bif z8 then (cb (decide ((0:Int)≤(x1.length:Int))&&decide ((x1.length:Int)≤x1.length)) (cb (decide ((2:Int)≤(x1.length:Int))) (j63 ((x1.drop 2).take ((x1.length:Int).toNat - 2)) 8)))else (let j11:=fun (Rx:Bool)=>bif Rx then (cb (decide ((0:Int)≤(x1.length:Int))&&decide ((x1.length:Int)≤x1.length)) (cb (decide ((2:Int)≤(x1.length:Int))) (j63 ((x1.drop 2).take ((x1.length:Int).toNat - 2)) 16)))else (cb (decide ((0:Int)≤(x1.length:Int))&&decide ((x1.length:Int)≤x1.length)) (cb (decide ((1:Int)≤(x1.length:Int))) (j63 ((x1.drop 1).take ((x1.length:Int).toNat - 1)) 8))); bif (decide ((x1.length:Int)≥(3:Int)))then (cb (decide ((1:Int)<x1.length)) (internal_strconv_lower ((x1.getD 1 0).toNat:Int) (fun y9=>j11 (y9==120))))else (j11 false)); bif (decide ((x1.length:Int)≥(3:Int)))then (cb (decide ((1:Int)<x1.length)) (internal_strconv_lower ((x1.getD 1 0).toNat:Int) (fun y7=>j12 (y7==111))))else (j12 false)); bif (decide ((x1.length:Int)≥(3:Int)))then (cb (decide ((1:Int)<x1.length)) (internal_strconv_lower ((x1.getD 1 0).toNat:Int) (fun y5=>j13 (y5==98))))else (j13 false))else (j63 x1 10)))else (k1 0)); bif (decide ((2:Int)≤x2))then (j14 (decide (x2≤(36:Int))))else (j14 false))
theorem Em:dE (R:=R) tt (fi internal_strconv_lower bE) (gO aH) false Tryz.f249 nf ng (tz (jG internal_strconv_lower bE aH)):=fun x y k=>by kernel_rfl
end
theorem Du:cu (R:=R) Tryz.prog (fi (R:=R) internal_strconv_lower bE) := .c (vv R) <| .c (As R) <| .n
def aH:jN R
 | 0,_,_,_,_,_,_,_,_,_,_,_,_,_,_,_=>none
 | n+1,gk,gn,gw,mC,wa,xT,Eg,Eh,HH,HI,pF,e0,e1,e2,e3=>dp internal_strconv_lower (fun gk gn gw mC wa xT Eg Eh HH HI pF=>aH n gk gn gw mC wa xT Eg Eh HH HI pF e0 e1 e2 e3) gk gn gw mC wa xT Eg Eh HH HI pF e0 e1 e2 e3
def pC (K:Ex→St→Option R) (n:Nat) (d:dU):Option R:=aH n d.1 d.2.1 d.2.2.1 d.2.2.2.1 d.2.2.2.2.1 d.2.2.2.2.2.1 d.2.2.2.2.2.2.1 d.2.2.2.2.2.2.2.1 d.2.2.2.2.2.2.2.2.1 d.2.2.2.2.2.2.2.2.2.1 d.2.2.2.2.2.2.2.2.2.2 (jO K) (jP K) (jQ K) (jR K)
theorem Au (other:cL R) (ho:gW tt (cR (fi (R:=R) internal_strconv_lower bE)) (gO (R:=R) aH) 0 ((aA (bc Tryz.f249)).getD 0 .skip) gU other):gW tt (cR (fi (R:=R) internal_strconv_lower bE)) (gO (R:=R) aH) 0 ((aA (bc Tryz.f249)).getD 0 .skip) gU (cG fa fb (oX (aH)) other) :=
 cQ (A:=pC) ho (dV jA (pB internal_strconv_lower) (pC) (fun _ _=>by kernel_rfl) (yk internal_strconv_lower bE aH) (fun _ _ _=>by kernel_rfl)) pA Bk (fun _ _=>by kernel_rfl) (fun _ _ _=>by kernel_rfl)
def dc:jl R:=fun x1 x2 x3 k0 k1 k2 k3 k4=>jG internal_strconv_lower bE aH x1 x2 x3 k0 k1 k2 k3 k4
theorem BQ (R:Type):∀a∈aA (bc Tryz.f249),gK tt (cR (fi (R:=R) internal_strconv_lower bE)) (gO (R:=R) aH) 0 a:=by
 refine eY 1 (by kernel_rfl) fun i hi => ?_
 match i,hi with
 | 0,_=>exact cz (by kernel_rfl) (Au _ dv)
 | n+1,hi=>omega
theorem CT (R:Type):k8 Tryz.prog 249 (uC (dc (R:=R))):=bt TT mixed (Du (R:=R)) rfl rfl rfl rfl (BQ R) (Em internal_strconv_lower bE aH)
/-! ### strconv.ParseUint -/
abbrev qq (R:Type):Type:=ah→Int→Int→(Int→Option R)→(Int→Option R)→Option R
abbrev yl:List cP := [.leaf (.str), .leaf (.int .i64), .leaf (.int .i64)]
abbrev ym:List aW := []
def En (fn:qq R):lh R yl ym:=fun x y k=>fn x.1 x.2.1 x.2.2.1 (fun q0=>k (.tuple [.int .u64 q0, .iface]) []) (fun q0=>k (.tuple [.int .u64 q0, .dt]) [])
def Fy (fn:qq R):=aI yl ym (En fn)
section
variable (dc:jl R)
def Fz:List (oq R) := [(219,true,(toErr_S R 250)),(249,true,(uC dc ax))]
def rU (x1:ah) (x2:Int) (x3:Int) (k0:Int→Option R) (k1:Int→Option R):Option R :=
 dc x1 x2 x3 (fun y4=>cb (Nat.beq 250 250&&(2==2||2==1)) (cb (decide (x1.length≤281474976710656)) (k0 y4))) (fun y5=>cb (Nat.beq 250 250&&(3==2||3==1)) (cb (decide (x1.length≤281474976710656)) (k0 y5))) (fun y6=>cb (Nat.beq 250 250&&(4==2||4==1)) (cb (decide (x1.length≤281474976710656)) (k0 y6))) (fun y7=>cb (Nat.beq 250 250&&(1==2||1==1)) (cb (decide (x1.length≤281474976710656)) (k0 y7))) (fun y8=>k1 y8)
theorem OF:dE (R:=R) tt (Fz dc) rS false Tryz.f252 yl ym (En (rU dc)):=fun x y k=>by kernel_rfl
end
theorem Nw:cu (R:=R) Tryz.prog (Fz (R:=R) dc) := .p (toErr_ok) <| .c (CT R) <| .n
def ft:qq R:=fun x1 x2 x3 k0 k1=>rU dc x1 x2 x3 k0 k1
theorem LI (R:Type):k8 Tryz.prog 252 (Fy (ft (R:=R))):=bt TT mixed (Nw (R:=R)) rfl rfl rfl rfl cd (OF dc)
/-! ### (*humpyard/quote.reader).unit -/
abbrev ly (R:Type):Type:=ah→(Int→ah→Option R)→Option R
abbrev qP:List cP := [.leaf (.ptr 0 0)]
abbrev qQ:List aW := [.cells [.str]]
def xA (fn:ly R):lh R qP qQ:=fun x y k=>fn y.1.1 (fun q0 q1=>k (.int .i32 q0) [.cells [.str q1]])
def yX (fn:ly R):=aI qP qQ (xA fn)
section
variable (ft:qq R)
def yY:List (oq R) := [(252,true,(Fy ft ax)),(253,true,(Yj R))]
def ma (x1:ah) (k0:Int→ah→Option R):Option R :=
 bif (decide ((x1.length:Int)<(4:Int)))then (k0 (-1) x1)else (cb (decide ((4:Int)≤x1.length)) (ft ((x1.drop 0).take (4 - 0)) 16 16 (fun y2=>k0 (-1) x1) (fun y3=>cb (v7 ((x1.drop 0).take (4 - 0))&&v7 ([43,45,95]:ah)&&decide (((x1.drop 0).take (4 - 0)).length<4294967281)&&decide (([43,45,95]:ah).length<4294967281)) (bif (Yi ((x1.drop 0).take (4 - 0)) ([43,45,95]:ah))then (k0 (-1) x1)else (cb (decide ((0:Int)≤(x1.length:Int))&&decide ((x1.length:Int)≤x1.length)) (cb (decide ((4:Int)≤(x1.length:Int))) (k0 (IntKind.i32.wrap y3) ((x1.drop 4).take ((x1.length:Int).toNat - 4)))))))))
theorem HP:dE (R:=R) tt (yY ft) rS false Tryz.f242 qP qQ (xA (ma ft)):=fun x y k=>by kernel_rfl
end
theorem G7:cu (R:=R) Tryz.prog (yY (R:=R) ft) := .c (LI R) <| .p (hasAny_ok) <| .n
def dd:ly R:=fun x1 k0=>ma ft x1 k0
theorem FZ (R:Type):k8 Tryz.prog 242 (yX (dd (R:=R))):=bt TT mixed (G7 (R:=R)) rfl rfl rfl rfl cd (HP ft)
/-! ### (*humpyard/quote.reader).long -/
abbrev lA (R:Type):Type:=ah→(Int→ah→Option R)→Option R
abbrev qR:List cP := [.leaf (.ptr 0 0)]
abbrev qS:List aW := [.cells [.str]]
def xB (fn:lA R):lh R qR qS:=fun x y k=>fn y.1.1 (fun q0 q1=>k (.int .i32 q0) [.cells [.str q1]])
def yZ (fn:lA R):=aI qR qS (xB fn)
section
variable (aK:jf R) (dd:ly R)
def za:List (oq R) := [(195,false,(qL aK ax)),(242,false,(yX dd ax))]
def mb (x1:ah) (k0:Int→ah→Option R):Option R :=
 dd x1 (fun y2 y3=>bif (decide (y2<(55296:Int)))then (k0 y2 y3)else (bif (decide (y2≥(57344:Int)))then (k0 y2 y3)else (bif (decide (y2≥(56320:Int)))then (k0 (-1) y3)else (aK ([92,117]:ah) y3 (fun y5 y6=>bif (!y5)then (k0 (-1) y6)else (dd y6 (fun y9 um=>bif (decide (y9<(56320:Int)))then (k0 (-1) um)else (bif (decide (y9≥(57344:Int)))then (k0 (-1) um)else (k0 (IntKind.i32.wrap ((IntKind.i32.wrap ((IntKind.i32.wrap (65536+(IntKind.i32.wrap ((IntKind.i32.wrap (y2 - 55296))*2 ^ (min 10 IntKind.i32.bits)))))+y9)) - 56320)) um)))))))))
theorem HQ:dE (R:=R) tt (za aK dd) rS false Tryz.f221 qR qS (xB (mb aK dd)):=fun x y k=>by kernel_rfl
end
theorem G8:cu (R:=R) Tryz.prog (za (R:=R) aK dd) := .d (vu R) rfl <| .d (FZ R) rfl <| .n
def cT:lA R:=fun x1 k0=>mb aK dd x1 k0
theorem F0 (R:Type):k8 Tryz.prog 221 (yZ (cT (R:=R))):=bt TT mixed (G8 (R:=R)) rfl rfl rfl rfl cd (HQ aK dd)
/-! ### (*humpyard/quote.reader).escaped -/
abbrev jH (R:Type):Type:=ah→(Int→ah→Option R)→Option R
abbrev nV:List cP := [.leaf (.ptr 0 0)]
abbrev nW:List aW := [.cells [.str]]
def uD (fn:jH R):lh R nV nW:=fun x y k=>fn y.1.1 (fun q0 q1=>k (.int .i32 q0) [.cells [.str q1]])
def vw (fn:jH R):=aI nV nW (uD fn)
section
variable (cT:lA R)
def vy:List (oq R) := [(221,false,(yZ cT ax))]
def j0 (x1:ah) (k0:Int→ah→Option R):Option R :=
 bif (x1==([]:ah))then (k0 (-1) x1)else (cb (decide ((0:Int)<x1.length)) (cb (decide ((0:Int)≤(x1.length:Int))&&decide ((x1.length:Int)≤x1.length)) (cb (decide ((1:Int)≤(x1.length:Int))) (let j5:=fun (z2:Bool)=>bif z2 then (k0 (IntKind.i32.wrap ((x1.getD 0 0).toNat:Int)) ((x1.drop 1).take ((x1.length:Int).toNat - 1)))else (bif (((x1.getD 0 0).toNat:Int)==98)then (k0 8 ((x1.drop 1).take ((x1.length:Int).toNat - 1)))else (bif (((x1.getD 0 0).toNat:Int)==102)then (k0 12 ((x1.drop 1).take ((x1.length:Int).toNat - 1)))else (bif (((x1.getD 0 0).toNat:Int)==110)then (k0 10 ((x1.drop 1).take ((x1.length:Int).toNat - 1)))else (bif (((x1.getD 0 0).toNat:Int)==114)then (k0 13 ((x1.drop 1).take ((x1.length:Int).toNat - 1)))else (bif (((x1.getD 0 0).toNat:Int)==116)then (k0 9 ((x1.drop 1).take ((x1.length:Int).toNat - 1)))else (bif (((x1.getD 0 0).toNat:Int)==117)then (cT ((x1.drop 1).take ((x1.length:Int).toNat - 1)) (fun y3 y4=>k0 y3 y4))else (k0 (-1) ((x1.drop 1).take ((x1.length:Int).toNat - 1))))))))); bif (((x1.getD 0 0).toNat:Int)==34)then (j5 (((x1.getD 0 0).toNat:Int)==34))else (bif (((x1.getD 0 0).toNat:Int)==92)then (j5 (((x1.getD 0 0).toNat:Int)==92))else (j5 (((x1.getD 0 0).toNat:Int)==47)))))))
theorem E6:dE (R:=R) tt (vy cT) rS false Tryz.f197 nV nW (uD (j0 cT)):=fun x y k=>by kernel_rfl
end
theorem Eo:cu (R:=R) Tryz.prog (vy (R:=R) cT) := .d (F0 R) rfl <| .n
def bn:jH R:=fun x1 k0=>j0 cT x1 k0
theorem Dv (R:Type):k8 Tryz.prog 197 (vw (bn (R:=R))):=bt TT mixed (Eo (R:=R)) rfl rfl rfl rfl cd (E6 cT)
/-! ### (*humpyard/quote.reader).plain -/
abbrev kO (R:Type):Type:=ah→(Int→ah→Option R)→Option R
abbrev pG:List cP := [.leaf (.ptr 0 0)]
abbrev pH:List aW := [.cells [.str]]
def wy (fn:kO R):lh R pG pH:=fun x y k=>fn y.1.1 (fun q0 q1=>k (.int .i32 q0) [.cells [.str q1]])
def xC (fn:kO R):=aI pG pH (wy fn)
section
def xD:List (oq R) := [(184,true,(dec_S R))]
def lB (x1:ah) (k0:Int→ah→Option R):Option R :=
 let j3:=cb (decide ((0:Int)≤(x1.length:Int))&&decide ((x1.length:Int)≤x1.length)) (cb (decide ((0:Int)≤((pd x1).2:Int))&&decide (((pd x1).2:Int)≤(x1.length:Int))) (k0 ((pd x1).1:Int) ((x1.drop ((pd x1).2:Int).toNat).take ((x1.length:Int).toNat - ((pd x1).2:Int).toNat)))); bif (((pd x1).1:Int)==65533)then (bif (decide (((pd x1).2:Int)<(2:Int)))then (k0 (-1) x1)else (bif (decide (((pd x1).1:Int)<(32:Int)))then (k0 (-1) x1)else (j3)))else (bif (decide (((pd x1).1:Int)<(32:Int)))then (k0 (-1) x1)else (j3))
theorem G9:dE (R:=R) tt (xD (R:=R)) rS false Tryz.f196 pG pH (wy lB):=fun x y k=>by kernel_rfl
end
theorem F1:cu (R:=R) Tryz.prog (xD (R:=R)) := .p (dec_ok) <| .n
def bP:kO R:=fun x1 k0=>lB x1 k0
theorem E7 (R:Type):k8 Tryz.prog 196 (xC (bP (R:=R))):=bt TT mixed (F1 (R:=R)) rfl rfl rfl rfl cd (G9)
end Go.Proofs.YtidfokedcnhahaaGreatDoor
/-
 Functions of the program as pure Lean functions, and the ties; printed by wip/tools/emit.py.
-/
set_option maxRecDepth 100000
namespace Go.Proofs.YtidfokedcnhahaaGreatDoor
open Go Go.aC
variable {R:Type}
/-! ### humpyard/quote.Unquote -/
abbrev xc (R:Type):Type:=ah→(ah→Int→Bool→Option R)→Option R
abbrev E8:List cP := [.leaf (.str)]
abbrev E9:List aW := []
def Kk (fn:xc R):lh R E8 E9:=fun x y k=>fn x.1 (fun q0 q1 q2=>k (.tuple [.str q0, .int .i64 q1, .bool q2]) [])
def MY (fn:xc R):=aI E8 E9 (Kk fn)
abbrev wz (R:Type):Type:=Nat→ah→ah→(List Int)→(ah→ah→(List Int)→Option R)→(ah→ah→Int→Bool→ah→(List Int)→Option R)→Option R
def rV:Hint := { live := [0,5,6],own := [],rows := [],cells := [(1,1,(.int .u8),false)],drop := [],out := [0,2,3,4,5,6] }
abbrev kZ:Type:=ah×ah×(List Int)
def u6:kZ→St:=fun d=>⟨.str d.1::U 4 (.ptr 0 0 :: .ptr 1 0::U 32 ([])), [.cells [.str d.2.1], .mB (.sl (.int .u8) d.2.2 (.own 2)), .tok]⟩
def wA (K:Ex→St→Option R) (q0:ah) (q1:ah) (q2:List Int):Option R:=K (.exit 0) ⟨.str q0::U 4 (.ptr 0 0 :: .ptr 1 0::U 32 ([])), [.cells [.str q1], .mB (.sl (.int .u8) q2 (.own 2)), .tok]⟩
def wB (K:Ex→St→Option R) (q0:ah) (q1:ah) (q2:Int) (q3:Bool) (q4:ah) (q5:List Int):Option R:=K (.ret) ⟨.str q0 :: .undef :: .str q1 :: .int .i64 q2 :: .bool q3 :: .ptr 0 0 :: .ptr 1 0::U 32 ([]), [.cells [.str q4], .mB (.sl (.int .u8) q5 (.own 2)), .tok]⟩
abbrev nF:List cP := .leaf (.str)::PU 4 (.leaf (.ptr 0 0) :: .leaf (.ptr 1 0)::PU 32 ([]))
abbrev nG:List aW := [.cells [.str], .mB (.T4 (.int .u8) 2), .tok]
def FA (x:cP.bQ nF) (y:aW.bQ nG):Nat:=(List.length x.1+List.length y.1.1+List.length y.2.1+64)
def Qb (x:cP.bQ nF) (y:aW.bQ nG):kZ:=(x.1,y.1.1,y.2.1)
def Ep (L:wz R):wW R nF nG:=fun x y K=>L (FA x y) x.1 y.1.1 y.2.1 (wA K) (wB K)
section
variable (ak:eZ R) (aK:jf R) (bP:kO R) (bn:jH R) (br:wz R)
def pM:List (oq R) := [(170,false,(kI ak ax)),(84,false,(Lr R)),(195,false,(qL aK ax)),(196,false,(xC bP ax)),(197,false,(vw bn ax))]
def rW (dz:ah→ah→(List Int)→Option R) (x4:ah) (x5:ah) (x6:List Int) (e0:ah→ah→(List Int)→Option R) (e1:ah→ah→Int→Bool→ah→(List Int)→Option R):Option R :=
 aK ([34]:ah) x5 (fun y7 y8=>bif (!y7)then (aK ([92]:ah) y8 (fun y9 um=>bif y9 then (bn um (fun vQ yK=>bif (decide (vQ<(0:Int)))then (e1 x4 ([]:ah) 0 false yK x6)else (ak vQ x6 (fun HJ G1=>dz x4 yK G1))))else (bP um (fun Iy EN=>bif (decide (Iy<(0:Int)))then (e1 x4 ([]:ah) 0 false EN x6)else (ak Iy x6 (fun Sb Nr=>dz x4 EN Nr))))))else (e0 x4 y8 x6))
def FB (K:Ex→St→Option R) (rc:kZ→Option R) (d:kZ):Option R:=rW ak aK bP bn (fun z0 z1 z2=>rc (z0,z1,z2)) d.1 d.2.1 d.2.2 (wA K) (wB K)
def uE:Nat→Option (Hint×cL R):=fun i=>match i with
 | 5=>some (rV,(cG nF nG (Ep br) iL))
 | _=>none
theorem LJ (K:Ex→St→Option R) (rc:St→Option R) (d:kZ):roundOf tt (cR (pM ak aK bP bn)) (uE br) 0 ((aA (bc Tryz.f158)).getD 0 .skip) rV (u6 d) rc K=FB ak aK bP bn K (fun d=>rc (u6 d)) d:=by kernel_rfl
def zG (x1:ah) (k0:ah→Int→Bool→Option R):Option R :=
 aK ([34]:ah) x1 (fun y2 y3=>bif (!y2)then (k0 ([]:ah) 0 false)else (br (List.length x1+List.length y3+List.length ([]:List Int)+64) x1 y3 ([]:List Int) (fun ZM V9 GQ=>k0 (vO GQ) (IntKind.i64.wrap ((ZM.length:Int) - (V9.length:Int))) true) (fun y22 y23 y24 Qx SP Jh=>k0 y23 y24 Qx)))
theorem UJ:dE (R:=R) tt (pM ak aK bP bn) (uE br) false Tryz.f158 E8 E9 (Kk (zG aK br)):=fun x y k=>by kernel_rfl
end
theorem S4:cu (R:=R) Tryz.prog (pM (R:=R) ak aK bP bn) := .d (oj R) rfl <| .s (W7) PO <| .d (vu R) rfl <| .d (E7 R) rfl <| .d (Dv R) rfl <| .n
def br:wz R
 | 0,_,_,_,_,_=>none
 | n+1,gk,gn,gw,e0,e1=>rW ak aK bP bn (fun gk gn gw=>br n gk gn gw e0 e1) gk gn gw e0 e1
def FC (K:Ex→St→Option R) (n:Nat) (d:kZ):Option R:=br n d.1 d.2.1 d.2.2 (wA K) (wB K)
theorem OG (other:cL R) (ho:gW tt (cR (pM (R:=R) ak aK bP bn)) (uE (R:=R) br) 0 ((aA (bc Tryz.f158)).getD 0 .skip) rV other):gW tt (cR (pM (R:=R) ak aK bP bn)) (uE (R:=R) br) 0 ((aA (bc Tryz.f158)).getD 0 .skip) rV (cG nF nG (Ep (br)) other) :=
 cQ (A:=FC) ho (dV u6 (FB ak aK bP bn) (FC) (fun _ _=>by kernel_rfl) (LJ ak aK bP bn br) (fun _ _ _=>by kernel_rfl)) FA Qb (fun _ _=>by kernel_rfl) (fun _ _ _=>by kernel_rfl)
def fy:xc R:=fun x1 k0=>zG aK br x1 k0
theorem Qc (R:Type):∀a∈aA (bc Tryz.f158),gK tt (cR (pM (R:=R) ak aK bP bn)) (uE (R:=R) br) 0 a:=by
 refine eY 1 (by kernel_rfl) fun i hi => ?_
 match i,hi with
 | 0,_=>exact cz (by kernel_rfl) (OG _ dv)
 | n+1,hi=>omega
theorem RF (R:Type):k8 Tryz.prog 158 (MY (fy (R:=R))):=bt TT mixed (S4 (R:=R)) rfl rfl rfl rfl (Qc R) (UJ ak aK bP bn br)
/-! ### humpyard/lexer.next -/
abbrev DZ (R:Type):Type:=ah→(Token→Int→Option R)→Option R
abbrev LK:List cP := [.leaf (.str)]
abbrev LL:List aW := []
def QN (fn:DZ R):lh R LK LL:=fun x y k=>fn x.1 (fun q0 q1=>k (.tuple [.agg [.int .i64 q0.kind, .str q0.text, .int .i64 q0.num.ao, .int .i64 q0.num.exp, .int .i64 q0.at_], .int .i64 q1]) [])
def S5 (fn:DZ R):=aI LK LL (QN fn)
section
variable (fy:xc R) (dR:xa R) (cE:wv R)
def S6:List (oq R) := [(158,true,(MY fy ax)),(157,true,(MW dR ax)),(159,true,(idx_S R)),(118,true,(Jw cE ax))]
def F2 (x1:ah) (k0:Token→Int→Option R):Option R :=
 cb (decide ((0:Int)<x1.length)) (let j23:=cE x1 ([97,98,99,100,101,102,103,104,105,106,107,108,109,110,111,112,113,114,115,116,117,118,119,120,121,122]:ah) (fun GQ=>bif (GQ==([116,114,117,101]:ah))then (k0 (⟨4,GQ,⟨0,0⟩,0⟩:Token) (GQ.length:Int))else (bif (GQ==([102,97,108,115,101]:ah))then (k0 (⟨4,GQ,⟨0,0⟩,0⟩:Token) (GQ.length:Int))else (bif (!(GQ==([110,117,108,108]:ah)))then (k0 (⟨0,([]:ah),⟨0,0⟩,0⟩:Token) 0)else (k0 (⟨4,GQ,⟨0,0⟩,0⟩:Token) (GQ.length:Int))))); bif (((x1.getD 0 0).toNat:Int)==45)then (cE x1 ([48,49,50,51,52,53,54,55,56,57,43,45,46,101,69]:ah) (fun y6=>dR y6 (fun y7 y8=>bif (!y8)then (k0 (⟨0,([]:ah),⟨0,0⟩,0⟩:Token) 0)else (k0 (⟨3,y6,⟨y7.ao,y7.exp⟩,0⟩:Token) (y6.length:Int)))))else (bif (decide (((x1.getD 0 0).toNat:Int)≥(48:Int)))then (bif (decide (((x1.getD 0 0).toNat:Int)≤(57:Int)))then (cE x1 ([48,49,50,51,52,53,54,55,56,57,43,45,46,101,69]:ah) (fun y9=>dR y9 (fun um vQ=>bif (!vQ)then (k0 (⟨0,([]:ah),⟨0,0⟩,0⟩:Token) 0)else (k0 (⟨3,y9,⟨um.ao,um.exp⟩,0⟩:Token) (y9.length:Int)))))else (bif (((x1.getD 0 0).toNat:Int)==34)then (fy x1 (fun Iy EN Sb=>bif (!Sb)then (k0 (⟨0,([]:ah),⟨0,0⟩,0⟩:Token) 0)else (k0 (⟨2,Iy,⟨0,0⟩,0⟩:Token) EN)))else (bif (decide ((DS ([123,125,91,93,44,58]:ah) ((x1.getD 0 0).toNat:Int))≥(0:Int)))then (cb (decide ((1:Int)≤x1.length)) (k0 (⟨1,((x1.drop 0).take (1 - 0)),⟨0,0⟩,0⟩:Token) 1))else (j23))))else (bif (((x1.getD 0 0).toNat:Int)==34)then (fy x1 (fun Nr ZM V9=>bif (!V9)then (k0 (⟨0,([]:ah),⟨0,0⟩,0⟩:Token) 0)else (k0 (⟨2,Nr,⟨0,0⟩,0⟩:Token) ZM)))else (bif (decide ((DS ([123,125,91,93,44,58]:ah) ((x1.getD 0 0).toNat:Int))≥(0:Int)))then (cb (decide ((1:Int)≤x1.length)) (k0 (⟨1,((x1.drop 0).take (1 - 0)),⟨0,0⟩,0⟩:Token) 1))else (j23)))))
theorem lexer_next_ok:dE (R:=R) tt (S6 fy dR cE) rS false Tryz.f119 LK LL (QN (F2 fy dR cE)):=fun x y k=>by kernel_rfl
end
theorem YD:cu (R:=R) Tryz.prog (S6 (R:=R) fy dR cE) := .c (RF R) <| .c (RE R) <| .p (idx_ok) <| .c (Ki R) <| .n
def gV:DZ R:=fun x1 k0=>F2 fy dR cE x1 k0
theorem Wn (R:Type):k8 Tryz.prog 119 (S5 (gV (R:=R))):=bt TT mixed (YD (R:=R)) rfl rfl rfl rfl cd (lexer_next_ok fy dR cE)
/-! ### humpyard/lexer.Scan -/
abbrev D0 (R:Type):Type:=ah→((List Token)→Int→Int→Option R)→Option R
abbrev LM:List cP := [.leaf (.str)]
abbrev LN:List aW := []
def QO (fn:D0 R):lh R LM LN:=fun x y k=>fn x.1 (fun q0 q1 q2=>k (.tuple [.sl .token q0 .no, .int .i64 q1, .int .i64 q2]) [])
def S7 (fn:D0 R):=aI LM LN (QO fn)
abbrev BR (R:Type):Type:=Nat→ah→(List Token)→Int→((List Token)→Int→Int→Option R)→(Int→Int→Option R)→Option R
def xd:Hint := { live := [0,2,4],own := [(2, .token)],rows := [],cells := [],drop := [],out := [2,3,4] }
abbrev ow:Type:=ah×(List Token)×Int
def Av:ow→St:=fun d=>⟨.str d.1 :: .undef :: .sl .token d.2.1 (.own 0) :: .undef :: .int .i64 d.2.2::U 40 ([]), [.tok]⟩
def BS (K:Ex→St→Option R) (q0:List Token) (q1:Int) (q2:Int):Option R:=K (.ret) ⟨U 2 (.sl .token q0 (.own 0) :: .int .i64 q1 :: .int .i64 q2::U 40 ([])), [.tok]⟩
def BT (K:Ex→St→Option R) (q0:Int) (q1:Int):Option R:=K (.ret) ⟨U 2 (.bx :: .int .i64 q0 :: .int .i64 q1::U 40 ([])), []⟩
abbrev sj:List cP := .leaf (.str) :: .leaf (.undef) :: .leaf (.T4 .token 0) :: .leaf (.undef) :: .leaf (.int .i64)::PU 40 ([])
abbrev sk:List aW := [.tok]
def Kl (x:cP.bQ sj) (y:aW.bQ sk):Nat:=(List.length x.1+List.length x.2.2.1+Int.natAbs x.2.2.2.2.1+64)
def UK (x:cP.bQ sj) (y:aW.bQ sk):ow:=(x.1,x.2.2.1,x.2.2.2.2.1)
def ID (L:BR R):wW R sj sk:=fun x y K=>L (Kl x y) x.1 x.2.2.1 x.2.2.2.2.1 (BS K) (BT K)
section
variable (gV:DZ R) (cE:wv R) (cZ:BR R)
def xe:List (oq R) := [(119,true,(S5 gV ax)),(118,true,(Jw cE ax))]
def Dw (dz:ah→(List Token)→Int→Option R) (x2:ah) (x3:List Token) (x4:Int) (e0:(List Token)→Int→Int→Option R) (e1:Int→Int→Option R):Option R :=
 cb (decide ((0:Int)≤(x2.length:Int))&&decide ((x2.length:Int)≤x2.length)) (cb (decide ((0:Int)≤x4)&&decide (x4≤(x2.length:Int))) (cE ((x2.drop x4.toNat).take ((x2.length:Int).toNat - x4.toNat)) ([32,9,10,13]:ah) (fun y5=>bif ((IntKind.i64.wrap (x4+(y5.length:Int)))==(x2.length:Int))then (cb (decide ((x3.length+1)*48≤140737488355328)) (e0 (x3++([(⟨5,([]:ah),⟨0,0⟩,(IntKind.i64.wrap (x4+(y5.length:Int)))⟩:Token)]:List Token)) 0 0))else (cb (decide ((0:Int)≤(x2.length:Int))&&decide ((x2.length:Int)≤x2.length)) (cb (decide ((0:Int)≤(IntKind.i64.wrap (x4+(y5.length:Int))))&&decide ((IntKind.i64.wrap (x4+(y5.length:Int)))≤(x2.length:Int))) (gV ((x2.drop (IntKind.i64.wrap (x4+(y5.length:Int))).toNat).take ((x2.length:Int).toNat - (IntKind.i64.wrap (x4+(y5.length:Int))).toNat)) (fun y6 y7=>bif (y7==0)then (e1 30 (IntKind.i64.wrap (x4+(y5.length:Int))))else (cb (decide ((x3.length+1)*48≤140737488355328)) (dz x2 (x3++([(⟨y6.kind,y6.text,⟨y6.num.ao,y6.num.exp⟩,(IntKind.i64.wrap (x4+(y5.length:Int)))⟩:Token)]:List Token)) (IntKind.i64.wrap ((IntKind.i64.wrap (x4+(y5.length:Int)))+y7)))))))))))
def Km (K:Ex→St→Option R) (rc:ow→Option R) (d:ow):Option R:=Dw gV cE (fun z0 z1 z2=>rc (z0,z1,z2)) d.1 d.2.1 d.2.2 (BS K) (BT K)
def BU:Nat→Option (Hint×cL R):=fun i=>match i with
 | 3=>some (xd,(cG sj sk (ID cZ) iL))
 | _=>none
theorem Qd (K:Ex→St→Option R) (rc:St→Option R) (d:ow):roundOf tt (cR (xe gV cE)) (BU cZ) 0 ((aA (bc Tryz.f79)).getD 0 .skip) xd (Av d) rc K=Km gV cE K (fun d=>rc (Av d)) d:=by kernel_rfl
def F3 (x1:ah) (k0:(List Token)→Int→Int→Option R):Option R :=
 bif (decide ((x1.length:Int)>(20000:Int)))then (k0 ([]:List Token) 30 0)else (cZ (List.length x1+List.length ([]:List Token)+Int.natAbs 0+64) x1 ([]:List Token) 0 (fun y8 y9 um=>k0 y8 y9 um) (fun vQ yK=>k0 ([]:List Token) vQ yK))
theorem lexer_Scan_ok:dE (R:=R) tt (xe gV cE) (BU cZ) false Tryz.f79 LM LN (QO (F3 cZ)):=fun x y k=>by kernel_rfl
end
theorem YE:cu (R:=R) Tryz.prog (xe (R:=R) gV cE) := .c (Wn R) <| .c (Ki R) <| .n
def cZ:BR R
 | 0,_,_,_,_,_=>none
 | n+1,gk,gn,gw,e0,e1=>Dw gV cE (fun gk gn gw=>cZ n gk gn gw e0 e1) gk gn gw e0 e1
def Kn (K:Ex→St→Option R) (n:Nat) (d:ow):Option R:=cZ n d.1 d.2.1 d.2.2 (BS K) (BT K)
theorem S8 (other:cL R) (ho:gW tt (cR (xe (R:=R) gV cE)) (BU (R:=R) cZ) 0 ((aA (bc Tryz.f79)).getD 0 .skip) xd other):gW tt (cR (xe (R:=R) gV cE)) (BU (R:=R) cZ) 0 ((aA (bc Tryz.f79)).getD 0 .skip) xd (cG sj sk (ID (cZ)) other) :=
 cQ (A:=Kn) ho (dV Av (Km gV cE) (Kn) (fun _ _=>by kernel_rfl) (Qd gV cE cZ) (fun _ _ _=>by kernel_rfl)) Kl UK (fun _ _=>by kernel_rfl) (fun _ _ _=>by kernel_rfl)
def nh:D0 R:=fun x1 k0=>F3 cZ x1 k0
theorem UL (R:Type):∀a∈aA (bc Tryz.f79),gK tt (cR (xe (R:=R) gV cE)) (BU (R:=R) cZ) 0 a:=by
 refine eY 1 (by kernel_rfl) fun i hi => ?_
 match i,hi with
 | 0,_=>exact cz (by kernel_rfl) (S8 _ dv)
 | n+1,hi=>omega
theorem Wo (R:Type):k8 Tryz.prog 79 (S7 (nh (R:=R))):=bt TT mixed (YE (R:=R)) rfl rfl rfl rfl (UL R) (lexer_Scan_ok gV cE cZ)
/-! ### (*humpyard/json.parser).fail -/
abbrev fA (R:Type):Type:=Int→(List Token)→Int→((List Token)→Int→Option R)→Option R
abbrev sn:List cP := [.leaf (.ptr 0 0), .leaf (.int .i64)]
abbrev so:List aW := [.cells [.sl .token, .int .i64]]
def zc (fn:fA R):lh R sn so:=fun x y k=>fn x.2.1 y.1.1 y.1.2.1 (fun q0 q1=>k (.tuple []) [.cells [.sl .token q0 .no, .int .i64 q1]])
def jU (fn:fA R):=aI sn so (zc fn)
section
def AQ (x1:Int) (x2:List Token) (x3:Int) (k0:(List Token)→Int→Option R):Option R :=
 bif (x3==0)then (k0 x2 x1)else (k0 x2 x3)
theorem Jx:dE (R:=R) (tt.mode [.json]) [] rS false Tryz.f81 sn so (zc AQ):=fun x y k=>by kernel_rfl
end
def aq:fA R:=fun x1 x2 x3 k0=>AQ x1 x2 x3 k0
theorem kP (R:Type):k8 Tryz.prog 81 (jU (aq (R:=R))):=bt (TT.mode [.json]) mixed .n rfl rfl rfl rfl cd (Jx)
/-! ### (*humpyard/json.parser).sign -/
abbrev jB (R:Type):Type:=ah→(List Token)→Int→(Bool→(List Token)→Int→Option R)→Option R
abbrev sq:List cP := [.leaf (.ptr 0 0), .leaf (.str)]
abbrev sr:List aW := [.cells [.sl .token, .int .i64]]
def zd (fn:jB R):lh R sq sr:=fun x y k=>fn x.2.1 y.1.1 y.1.2.1 (fun q0 q1 q2=>k (.bool q0) [.cells [.sl .token q1 .no, .int .i64 q2]])
def su (fn:jB R):=aI sq sr (zd fn)
section
def AR (x1:ah) (x2:List Token) (x3:Int) (k0:Bool→(List Token)→Int→Option R):Option R :=
 cb (decide ((0:Int)<x2.length)) (bif (x3 != 0)then (k0 false x2 x3)else (bif ((x2.getD 0 (Ty.aZ .token)).kind != 1)then (k0 false x2 x3)else (bif (!((x2.getD 0 (Ty.aZ .token)).text==x1))then (k0 false x2 x3)else (cb (decide ((1:Int)≤x2.length)) (k0 true (x2.drop 1) x3)))))
theorem Jy:dE (R:=R) (tt.mode [.json]) [] rS false Tryz.f199 sq sr (zd AR):=fun x y k=>by kernel_rfl
end
def av:jB R:=fun x1 x2 x3 k0=>AR x1 x2 x3 k0
theorem wC (R:Type):k8 Tryz.prog 199 (su (av (R:=R))):=bt (TT.mode [.json]) mixed .n rfl rfl rfl rfl cd (Jy)
/-! ### (*humpyard/json.parser).name -/
abbrev mc (R:Type):Type:=(List ah)→(List Token)→Int→(ah→(List Token)→Int→Option R)→Option R
abbrev sv:List cP := [.leaf (.ptr 0 0), .leaf (.T4 .str 1)]
abbrev sw:List aW := [.cells [.sl .token, .int .i64], .tok]
def ze (fn:mc R):lh R sv sw:=fun x y k=>fn x.2.1 y.1.1 y.1.2.1 (fun q0 q1 q2=>k (.str q0) [.cells [.sl .token q1 .no, .int .i64 q2], .tok])
def AS (fn:mc R):=aI sv sw (ze fn)
section
variable (aq:fA R) (av:jB R) (aB:fN R)
def AT:List (oq R) := [(81,false,(jU aq ax)),(199,false,(su av ax)),(85,true,(lO aB ax))]
def AU (x1:List ah) (x2:List Token) (x3:Int) (k0:ah→(List Token)→Int→Option R):Option R :=
 cb (decide ((0:Int)<x2.length)) (bif ((x2.getD 0 (Ty.aZ .token)).kind != 2)then (aq 40 x2 x3 (fun y4 y5=>k0 ((x2.getD 0 (Ty.aZ .token)).text) y4 y5))else (aB x1 ((x2.getD 0 (Ty.aZ .token)).text) (fun y6=>bif y6 then (aq 42 x2 x3 (fun y7 y8=>k0 ((x2.getD 0 (Ty.aZ .token)).text) y7 y8))else (cb (decide ((1:Int)≤x2.length)) (av ([58]:ah) (x2.drop 1) x3 (fun y9 um vQ=>bif (!y9)then (aq 40 um vQ (fun yK HJ=>k0 ((x2.getD 0 (Ty.aZ .token)).text) yK HJ))else (k0 ((x2.getD 0 (Ty.aZ .token)).text) um vQ)))))))
theorem Jz:dE (R:=R) (tt.mode [.json]) (AT aq av aB) rS false Tryz.f162 sv sw (ze (AU aq av aB)):=fun x y k=>by kernel_rfl
end
theorem HR:cu (R:=R) Tryz.prog (AT (R:=R) aq av aB) := .d (kP R) rfl <| .d (wC R) rfl <| .c (pn R) <| .n
def da:mc R:=fun x1 x2 x3 k0=>AU aq av aB x1 x2 x3 k0
theorem Ha (R:Type):k8 Tryz.prog 162 (AS (da (R:=R))):=bt (TT.mode [.json]) mixed (HR (R:=R)) rfl rfl rfl rfl cd (Jz aq av aB)
end Go.Proofs.YtidfokedcnhahaaGreatDoor
/-
 Functions of the program as pure Lean functions, and the ties; printed by wip/tools/emit.py.
-/
set_option maxRecDepth 100000
namespace Go.Proofs.YtidfokedcnhahaaGreatDoor
open Go Go.aC
variable {R:Type}
/-! ### (*humpyard/json.parser).value -/
abbrev aD (R:Type):Type:=Int→(List Token)→Int→(Json→(List Token)→Int→Option R)→Option R
abbrev bW:List cP := [.leaf (.ptr 0 0), .leaf (.int .i64)]
abbrev bX:List aW := [.cells [.sl .token, .int .i64]]
def bB (fn:aD R):lh R bW bX:=fun x y k=>fn x.2.1 y.1.1 y.1.2.1 (fun q0 q1 q2=>k (.agg [.int .i64 q0.kind, .int .i64 q0.num.ao, .int .i64 q0.num.exp, .str q0.text, .sl .str q0.names .no, .sl .json q0.items .no]) [.cells [.sl .token q1 .no, .int .i64 q2]])
def zf (fn:aD R):=aI bW bX (bB fn)
/-! ### (*humpyard/json.parser).parts$1 -/
abbrev j4 (R:Type):Type:=Bool→Int→Int→Int→ah→(List ah)→Nat→Int→(List Json)→(List Token)→Int→(Bool→Int→Int→Int→ah→(List ah)→Nat→Int→(List Token)→Int→(List Json)→Option R)→(Bool→Int→Int→Int→ah→(List ah)→Nat→Int→(List Json)→(List Token)→Int→Option R)→(Bool→Int→Int→Int→ah→(List ah)→Nat→Int→(List Token)→Int→(List Json)→Option R)→(Bool→Int→Int→Int→ah→(List ah)→Nat→Int→(List Json)→(List Token)→Int→Option R)→Option R
abbrev oY:List cP := [.leaf (.ptr 0 0), .leaf (.ptr 1 0), .leaf (.ptr 2 0), .leaf (.ptr 3 0)]
abbrev oZ:List aW := [.cells [.bool], .cells [.int .i64, .int .i64, .int .i64, .str, .T4 .str 4, .row 5], .cells [.ptr 6 0], .cells [.int .i64], .tok, .row .json, .cells [.sl .token, .int .i64]]
def vz (fn:j4 R):lh R oY oZ:=fun x y k=>fn y.1.1 y.2.1.1 y.2.1.2.1 y.2.1.2.2.1 y.2.1.2.2.2.1 y.2.1.2.2.2.2.1 y.2.1.2.2.2.2.2.1 y.2.2.2.1.1 y.2.2.2.2.2.1 y.2.2.2.2.2.2.1.1 y.2.2.2.2.2.2.1.2.1 (fun q0 q1 q2 q3 q4 q5 q6 q7 q8 q9 Z4=>k (.tuple []) [.cells [.bool q0], .cells [.int .i64 q1, .int .i64 q2, .int .i64 q3, .str q4, .sl .str q5 (.own 7), .row 8 q6], .cells [.ptr 6 0], .cells [.int .i64 q7], .dead, .dead, .cells [.sl .token q8 .no, .int .i64 q9], .tok, .row .json Z4]) (fun q0 q1 q2 q3 q4 q5 q6 q7 q8 q9 Z4=>k (.tuple []) [.cells [.bool q0], .cells [.int .i64 q1, .int .i64 q2, .int .i64 q3, .str q4, .sl .str q5 (.own 7), .row 5 q6], .cells [.ptr 6 0], .cells [.int .i64 q7], .dead, .row .json q8, .cells [.sl .token q9 .no, .int .i64 Z4], .tok]) (fun q0 q1 q2 q3 q4 q5 q6 q7 q8 q9 Z4=>k (.tuple []) [.cells [.bool q0], .cells [.int .i64 q1, .int .i64 q2, .int .i64 q3, .str q4, .sl .str q5 (.own 4), .row 7 q6], .cells [.ptr 6 0], .cells [.int .i64 q7], .tok, .dead, .cells [.sl .token q8 .no, .int .i64 q9], .row .json Z4]) (fun q0 q1 q2 q3 q4 q5 q6 q7 q8 q9 Z4=>k (.tuple []) [.cells [.bool q0], .cells [.int .i64 q1, .int .i64 q2, .int .i64 q3, .str q4, .sl .str q5 (.own 4), .row 5 q6], .cells [.ptr 6 0], .cells [.int .i64 q7], .tok, .row .json q8, .cells [.sl .token q9 .no, .int .i64 Z4]])
def wD (fn:j4 R):=aI oY oZ (vz fn)
section
variable (da:mc R) (ag:aD R)
def wE:List (oq R) := [(162,false,(AS da ax)),(80,false,(aI bW bX (bB ag) ax))]
def dY (x1:Bool) (x2:Int) (x3:Int) (x4:Int) (x5:ah) (x6:List ah) (x7:Nat) (x8:Int) (x9:List Json) (Ut:List Token) (Nq:Int) (k0:Bool→Int→Int→Int→ah→(List ah)→Nat→Int→(List Token)→Int→(List Json)→Option R) (k1:Bool→Int→Int→Int→ah→(List ah)→Nat→Int→(List Json)→(List Token)→Int→Option R) (k2:Bool→Int→Int→Int→ah→(List ah)→Nat→Int→(List Token)→Int→(List Json)→Option R) (k3:Bool→Int→Int→Int→ah→(List ah)→Nat→Int→(List Json)→(List Token)→Int→Option R):Option R :=
 bif x1 then (da x6 Ut Nq (fun yK HJ G1=>cb (decide ((x6.length+1)*16≤140737488355328)) (bif (G1==0)then (ag (IntKind.i64.wrap (x8+1)) HJ G1 (fun Iy EN Sb=>cb (decide ((x9.length+1)*88≤140737488355328)) (cb (decide ((0:Int)≤(x7:Int))&&decide ((x7:Int)<(x9.length+1))) (cb (decide ((x7:Int).toNat<(x9++([(⟨0,⟨0,0⟩,([]:ah),([]:List ah),([]:List Json)⟩:Json)]:List Json)).length)) (k0 x1 x2 x3 x4 x5 (x6++([yK]:List ah)) (x9.length+1) x8 EN Sb ((x9++([(⟨0,⟨0,0⟩,([]:ah),([]:List ah),([]:List Json)⟩:Json)]:List Json)).set ((x7:Int).toNat) (⟨Iy.kind,⟨Iy.num.ao,Iy.num.exp⟩,Iy.text,Iy.names,Iy.items⟩:Json)))))))else (k1 x1 x2 x3 x4 x5 (x6++([yK]:List ah)) x7 x8 x9 HJ G1))))else (bif (Nq==0)then (ag (IntKind.i64.wrap (x8+1)) Ut Nq (fun Nr ZM V9=>cb (decide ((x9.length+1)*88≤140737488355328)) (cb (decide ((0:Int)≤(x7:Int))&&decide ((x7:Int)<(x9.length+1))) (cb (decide ((x7:Int).toNat<(x9++([(⟨0,⟨0,0⟩,([]:ah),([]:List ah),([]:List Json)⟩:Json)]:List Json)).length)) (k2 x1 x2 x3 x4 x5 x6 (x9.length+1) x8 ZM V9 ((x9++([(⟨0,⟨0,0⟩,([]:ah),([]:List ah),([]:List Json)⟩:Json)]:List Json)).set ((x7:Int).toNat) (⟨Nr.kind,⟨Nr.num.ao,Nr.num.exp⟩,Nr.text,Nr.names,Nr.items⟩:Json)))))))else (k3 x1 x2 x3 x4 x5 x6 x7 x8 x9 Ut Nq))
theorem F4:dE (R:=R) (tt.mode [.json]) (wE da ag) rS false Tryz.f161 oY oZ (vz (dY da ag)):=fun x y k=>by kernel_rfl
end
theorem Fa (ag:aD R) (bF:aC.Spec.Ok Tryz.prog 80 (aI bW bX (bB ag) ax)):cu (R:=R) Tryz.prog (wE (R:=R) da ag) := .d (Ha R) rfl <| .f bF rfl <| .n
def bl (ag:aD R):j4 R:=fun x1 x2 x3 x4 x5 x6 x7 x8 x9 Ut Nq k0 k1 k2 k3=>dY da ag x1 x2 x3 x4 x5 x6 x7 x8 x9 Ut Nq k0 k1 k2 k3
theorem Er (R:Type) (ag:aD R) (bF:aC.Spec.Ok Tryz.prog 80 (aI bW bX (bB ag) ax)):k8 Tryz.prog 161 (wD (bl ag)):=bt (TT.mode [.json]) mixed (Fa ag bF) rfl rfl rfl rfl cd (F4 da ag)
/-! ### (*humpyard/json.parser).list -/
abbrev me (R:Type):Type:=ah→(List Token)→Int→Bool→Int→Int→Int→ah→Int→((List Token)→Int→Bool→Int→Int→Int→ah→Int→Option R)→((List Token)→Int→Bool→Int→Int→Int→ah→(List ah)→Nat→Int→(List Json)→Option R)→Option R
abbrev sA:List cP := [.leaf (.ptr 0 0), .leaf (.str), .func 161 [] [.ptr 1 0, .ptr 2 0, .ptr 3 0, .ptr 4 0]]
abbrev sB:List aW := [.cells [.sl .token, .int .i64], .cells [.bool], .cells [.int .i64, .int .i64, .int .i64, .str, .bx, .bx], .cells [.ptr 0 0], .cells [.int .i64]]
def zg (fn:me R):lh R sA sB:=fun x y k=>fn x.2.1 y.1.1 y.1.2.1 y.2.1.1 y.2.2.1.1 y.2.2.1.2.1 y.2.2.1.2.2.1 y.2.2.1.2.2.2.1 y.2.2.2.2.1.1 (fun q0 q1 q2 q3 q4 q5 q6 q7=>k (.tuple []) [.cells [.sl .token q0 .no, .int .i64 q1], .cells [.bool q2], .cells [.int .i64 q3, .int .i64 q4, .int .i64 q5, .str q6, .bx, .bx], .cells [.ptr 0 0], .cells [.int .i64 q7]]) (fun q0 q1 q2 q3 q4 q5 q6 q7 q8 q9 Z4=>k (.tuple []) [.cells [.sl .token q0 .no, .int .i64 q1], .cells [.bool q2], .cells [.int .i64 q3, .int .i64 q4, .int .i64 q5, .str q6, .sl .str q7 (.own 5), .row 6 q8], .cells [.ptr 0 0], .cells [.int .i64 q9], .tok, .row .json Z4])
def AV (fn:me R):=aI sA sB (zg fn)
abbrev ni (R:Type):Type:=Nat→ah→(List Token)→Int→Bool→Int→Int→Int→ah→(List ah)→Nat→Int→(List Json)→((List Token)→Int→Bool→Int→Int→Int→ah→(List ah)→Nat→Int→(List Json)→Option R)→Option R
def j7:Hint := { live := [0,1,2],own := [],rows := [],cells := [(2,4, .str,false),(2,5, .json,true)],drop := [],out := [] }
abbrev fJ:Type:=ah×(List Token)×Int×Bool×Int×Int×Int×ah×(List ah)×Nat×Int×(List Json)
def mv:fJ→St:=fun d=>⟨.ptr 0 0 :: .str d.1 :: .func 161 [] [.ptr 1 0, .ptr 2 0, .ptr 3 0, .ptr 4 0]::U 23 ([]), [.cells [.sl .token d.2.1 .no, .int .i64 d.2.2.1], .cells [.bool d.2.2.2.1], .cells [.int .i64 d.2.2.2.2.1, .int .i64 d.2.2.2.2.2.1, .int .i64 d.2.2.2.2.2.2.1, .str d.2.2.2.2.2.2.2.1, .sl .str d.2.2.2.2.2.2.2.2.1 (.own 5), .row 6 d.2.2.2.2.2.2.2.2.2.1], .cells [.ptr 0 0], .cells [.int .i64 d.2.2.2.2.2.2.2.2.2.2.1], .tok, .row .json d.2.2.2.2.2.2.2.2.2.2.2]⟩
def nj (K:Ex→St→Option R) (q0:List Token) (q1:Int) (q2:Bool) (q3:Int) (q4:Int) (q5:Int) (q6:ah) (q7:List ah) (q8:Nat) (q9:Int) (Z4:List Json):Option R:=K (.ret) ⟨U 26 ([]), [.cells [.sl .token q0 .no, .int .i64 q1], .cells [.bool q2], .cells [.int .i64 q3, .int .i64 q4, .int .i64 q5, .str q6, .sl .str q7 (.own 5), .row 6 q8], .cells [.ptr 0 0], .cells [.int .i64 q9], .tok, .row .json Z4]⟩
abbrev hU:List cP := .leaf (.ptr 0 0) :: .leaf (.str) :: .func 161 [] [.ptr 1 0, .ptr 2 0, .ptr 3 0, .ptr 4 0]::PU 23 ([])
abbrev hY:List aW := [.cells [.sl .token, .int .i64], .cells [.bool], .cells [.int .i64, .int .i64, .int .i64, .str, .T4 .str 5, .row 6], .cells [.ptr 0 0], .cells [.int .i64], .tok, .row .json]
def vA (x:cP.bQ hU) (y:aW.bQ hY):Nat:=(List.length x.2.1+List.length y.1.1+Int.natAbs y.1.2.1+Int.natAbs y.2.2.1.1+Int.natAbs y.2.2.1.2.1+Int.natAbs y.2.2.1.2.2.1+List.length y.2.2.1.2.2.2.1+List.length y.2.2.1.2.2.2.2.1+Int.natAbs y.2.2.2.2.1.1+List.length y.2.2.2.2.2.2.1+64)
def F5 (x:cP.bQ hU) (y:aW.bQ hY):fJ:=(x.2.1,y.1.1,y.1.2.1,y.2.1.1,y.2.2.1.1,y.2.2.1.2.1,y.2.2.1.2.2.1,y.2.2.1.2.2.2.1,y.2.2.1.2.2.2.2.1,y.2.2.1.2.2.2.2.2.1,y.2.2.2.2.1.1,y.2.2.2.2.2.2.1)
def uF (L:ni R):wW R hU hY:=fun x y K=>L (vA x y) x.2.1 y.1.1 y.1.2.1 y.2.1.1 y.2.2.1.1 y.2.2.1.2.1 y.2.2.1.2.2.1 y.2.2.1.2.2.2.1 y.2.2.1.2.2.2.2.1 y.2.2.1.2.2.2.2.2.1 y.2.2.2.2.1.1 y.2.2.2.2.2.2.1 (nj K)
section
variable (aq:fA R) (bl:j4 R) (av:jB R) (aJ:ni R)
def im:List (oq R) := [(81,false,(jU aq ax)),(161,false,(wD bl ax)),(199,false,(su av ax))]
def nX (dz:ah→(List Token)→Int→Bool→Int→Int→Int→ah→(List ah)→Nat→Int→(List Json)→Option R) (HG:ah) (Ls:List Token) (ot:Int) (tH:Bool) (lI:Int) (oW:Int) (Fb:Int) (uW:ah) (x21:List ah) (x22:Nat) (x23:Int) (x24:List Json) (e0:(List Token)→Int→Bool→Int→Int→Int→ah→(List ah)→Nat→Int→(List Json)→Option R):Option R :=
 bl tH lI oW Fb uW x21 x22 x23 x24 Ls ot (fun Qx SP Jh Qy YC Xa y31 UI y33 y34 y35=>bif (y34 != 0)then (e0 y33 y34 Qx SP Jh Qy YC Xa y31 UI y35)else (av HG y33 y34 (fun y69 y70 y71=>bif y69 then (e0 y70 y71 Qx SP Jh Qy YC Xa y31 UI y35)else (av ([44]:ah) y70 y71 (fun y75 y76 y77=>bif (!y75)then (aq 40 y76 y77 (fun y78 y79=>e0 y78 y79 Qx SP Jh Qy YC Xa y31 UI y35))else (dz HG y76 y77 Qx SP Jh Qy YC Xa y31 UI y35)))))) (fun y36 y37 y38 W8 ZN Z5 Z6 W9 y44 y45 y46=>bif (y46 != 0)then (e0 y45 y46 y36 y37 y38 W8 ZN Z5 Z6 W9 y44)else (av HG y45 y46 (fun y80 y81 y82=>bif y80 then (e0 y81 y82 y36 y37 y38 W8 ZN Z5 Z6 W9 y44)else (av ([44]:ah) y81 y82 (fun y86 y87 y88=>bif (!y86)then (aq 40 y87 y88 (fun y89 y90=>e0 y89 y90 y36 y37 y38 W8 ZN Z5 Z6 W9 y44))else (dz HG y87 y88 y36 y37 y38 W8 ZN Z5 Z6 W9 y44)))))) (fun y47 y48 y49 y50 y51 y52 y53 y54 y55 y56 y57=>bif (y56 != 0)then (e0 y55 y56 y47 y48 y49 y50 y51 y52 y53 y54 y57)else (av HG y55 y56 (fun y91 y92 y93=>bif y91 then (e0 y92 y93 y47 y48 y49 y50 y51 y52 y53 y54 y57)else (av ([44]:ah) y92 y93 (fun y97 y98 y99=>bif (!y97)then (aq 40 y98 y99 (fun y100 y101=>e0 y100 y101 y47 y48 y49 y50 y51 y52 y53 y54 y57))else (dz HG y98 y99 y47 y48 y49 y50 y51 y52 y53 y54 y57)))))) (fun y58 y59 y60 y61 y62 y63 y64 y65 y66 y67 y68=>bif (y68 != 0)then (e0 y67 y68 y58 y59 y60 y61 y62 y63 y64 y65 y66)else (av HG y67 y68 (fun y102 y103 y104=>bif y102 then (e0 y103 y104 y58 y59 y60 y61 y62 y63 y64 y65 y66)else (av ([44]:ah) y103 y104 (fun y108 y109 y110=>bif (!y108)then (aq 40 y109 y110 (fun y111 y112=>e0 y111 y112 y58 y59 y60 y61 y62 y63 y64 y65 y66))else (dz HG y109 y110 y58 y59 y60 y61 y62 y63 y64 y65 y66))))))
def vB (K:Ex→St→Option R) (rc:fJ→Option R) (d:fJ):Option R:=nX aq bl av (fun z0 z1 z2 z3 z4 z5 z6 z7 z8 z9 Rx vP=>rc (z0,z1,z2,z3,z4,z5,z6,z7,z8,z9,Rx,vP)) d.1 d.2.1 d.2.2.1 d.2.2.2.1 d.2.2.2.2.1 d.2.2.2.2.2.1 d.2.2.2.2.2.2.1 d.2.2.2.2.2.2.2.1 d.2.2.2.2.2.2.2.2.1 d.2.2.2.2.2.2.2.2.2.1 d.2.2.2.2.2.2.2.2.2.2.1 d.2.2.2.2.2.2.2.2.2.2.2 (nj K)
def jV:Nat→Option (Hint×cL R):=fun i=>match i with
 | 1=>some (j7,(cG hU hY (uF aJ) iL))
 | _=>none
theorem Dx (K:Ex→St→Option R) (rc:St→Option R) (d:fJ):roundOf (tt.mode [.json]) (cR (im aq bl av)) (jV aJ) 5 ((aA (bc Tryz.f160)).getD 0 .skip) j7 (mv d) rc K=vB aq bl av K (fun d=>rc (mv d)) d:=by kernel_rfl
def AW (x1:ah) (x2:List Token) (x3:Int) (x4:Bool) (x5:Int) (x6:Int) (x7:Int) (x8:ah) (x9:Int) (k0:(List Token)→Int→Bool→Int→Int→Int→ah→Int→Option R) (k1:(List Token)→Int→Bool→Int→Int→Int→ah→(List ah)→Nat→Int→(List Json)→Option R):Option R :=
 av x1 x2 x3 (fun um vQ yK=>bif um then (k0 vQ yK x4 x5 x6 x7 x8 x9)else (aJ (List.length x1+List.length vQ+Int.natAbs yK+Int.natAbs x5+Int.natAbs x6+Int.natAbs x7+List.length x8+List.length ([]:List ah)+Int.natAbs x9+List.length ([]:List Json)+64) x1 vQ yK x4 x5 x6 x7 x8 ([]:List ah) 0 x9 ([]:List Json) (fun y113 y114 y115 y116 y117 y118 y119 y120 y121 y122 y123=>k1 y113 y114 y115 y116 y117 y118 y119 y120 y121 y122 y123)))
theorem JA:dE (R:=R) (tt.mode [.json]) (im aq bl av) (jV aJ) false Tryz.f160 sA sB (zg (AW av aJ)):=fun x y k=>by kernel_rfl
end
theorem HS (ag:aD R) (bF:aC.Spec.Ok Tryz.prog 80 (aI bW bX (bB ag) ax)):cu (R:=R) Tryz.prog (im (R:=R) aq (bl ag) av) := .d (kP R) rfl <| .d (Er R ag bF) rfl <| .d (wC R) rfl <| .n
def aJ (ag:aD R):ni R
 | 0,_,_,_,_,_,_,_,_,_,_,_,_,_=>none
 | n+1,gk,gn,gw,mC,wa,xT,Eg,Eh,HH,HI,pF,xU,e0=>nX aq (bl ag) av (fun gk gn gw mC wa xT Eg Eh HH HI pF xU=>aJ ag n gk gn gw mC wa xT Eg Eh HH HI pF xU e0) gk gn gw mC wa xT Eg Eh HH HI pF xU e0
def vC (ag:aD R) (K:Ex→St→Option R) (n:Nat) (d:fJ):Option R:=aJ ag n d.1 d.2.1 d.2.2.1 d.2.2.2.1 d.2.2.2.2.1 d.2.2.2.2.2.1 d.2.2.2.2.2.2.1 d.2.2.2.2.2.2.2.1 d.2.2.2.2.2.2.2.2.1 d.2.2.2.2.2.2.2.2.2.1 d.2.2.2.2.2.2.2.2.2.2.1 d.2.2.2.2.2.2.2.2.2.2.2 (nj K)
theorem Fc (ag:aD R) (other:cL R) (ho:gW (tt.mode [.json]) (cR (im (R:=R) aq (bl ag) av)) (jV (R:=R) (aJ ag)) 5 ((aA (bc Tryz.f160)).getD 0 .skip) j7 other):gW (tt.mode [.json]) (cR (im (R:=R) aq (bl ag) av)) (jV (R:=R) (aJ ag)) 5 ((aA (bc Tryz.f160)).getD 0 .skip) j7 (cG hU hY (uF (aJ ag)) other) :=
 cQ (A:=vC ag) ho (dV mv (vB aq (bl ag) av) (vC ag) (fun _ _=>by kernel_rfl) (Dx aq (bl ag) av (aJ ag)) (fun _ _ _=>by kernel_rfl)) vA F5 (fun _ _=>by kernel_rfl) (fun _ _ _=>by kernel_rfl)
def bU (ag:aD R):me R:=fun x1 x2 x3 x4 x5 x6 x7 x8 x9 k0 k1=>AW av (aJ ag) x1 x2 x3 x4 x5 x6 x7 x8 x9 k0 k1
theorem F6 (R:Type) (ag:aD R) (bF:aC.Spec.Ok Tryz.prog 80 (aI bW bX (bB ag) ax)):∀a∈aA (bc Tryz.f160),gK (tt.mode [.json]) (cR (im (R:=R) aq (bl ag) av)) (jV (R:=R) (aJ ag)) 5 a:=by
 refine eY 1 (by kernel_rfl) fun i hi => ?_
 match i,hi with
 | 0,_=>exact cz (by kernel_rfl) (Fc ag _ dv)
 | n+1,hi=>omega
theorem Hb (R:Type) (ag:aD R) (bF:aC.Spec.Ok Tryz.prog 80 (aI bW bX (bB ag) ax)):k8 Tryz.prog 160 (AV (bU ag)):=bt (TT.mode [.json]) mixed (HS ag bF) rfl rfl rfl rfl (F6 R ag bF) (JA aq (bl ag) av (aJ ag))
/-! ### (*humpyard/json.parser).parts -/
abbrev lC (R:Type):Type:=Bool→Int→(List Token)→Int→(Json→(List Token)→Int→Option R)→Option R
abbrev qT:List cP := [.leaf (.ptr 0 0), .leaf (.bool), .leaf (.int .i64)]
abbrev qU:List aW := [.cells [.sl .token, .int .i64]]
def xE (fn:lC R):lh R qT qU:=fun x y k=>fn x.2.1 x.2.2.1 y.1.1 y.1.2.1 (fun q0 q1 q2=>k (.agg [.int .i64 q0.kind, .int .i64 q0.num.ao, .int .i64 q0.num.exp, .str q0.text, .sl .str q0.names .no, .sl .json q0.items .no]) [.cells [.sl .token q1 .no, .int .i64 q2]])
def zh (fn:lC R):=aI qT qU (xE fn)
section
variable (bU:me R)
def zi:List (oq R) := [(160,false,(AV bU ax))]
def zj (x1:Bool) (x2:Int) (x3:List Token) (x4:Int) (k0:Json→(List Token)→Int→Option R):Option R :=
 bif x1 then (bU ([125]:ah) x3 x4 x1 7 0 0 ([]:ah) x2 (fun y5 y6 y7 y8 y9 um vQ yK=>k0 (⟨y8,⟨y9,um⟩,vQ,([]:List ah),([]:List Json)⟩:Json) y5 y6) (fun HJ G1 Iy EN Sb Nr ZM V9 GQ y22 y23=>k0 (⟨EN,⟨Sb,Nr⟩,ZM,V9,y23⟩:Json) HJ G1))else (bU ([93]:ah) x3 x4 x1 6 0 0 ([]:ah) x2 (fun y24 Qx SP Jh Qy YC Xa y31=>k0 (⟨Jh,⟨Qy,YC⟩,Xa,([]:List ah),([]:List Json)⟩:Json) y24 Qx) (fun UI y33 y34 y35 y36 y37 y38 W8 ZN Z5 Z6=>k0 (⟨y35,⟨y36,y37⟩,y38,W8,Z6⟩:Json) UI y33))
theorem HT:dE (R:=R) (tt.mode [.json]) (zi bU) rS false Tryz.f120 qT qU (xE (zj bU)):=fun x y k=>by kernel_rfl
end
theorem Hc (ag:aD R) (bF:aC.Spec.Ok Tryz.prog 80 (aI bW bX (bB ag) ax)):cu (R:=R) Tryz.prog (zi (R:=R) (bU ag)) := .d (Hb R ag bF) rfl <| .n
def cU (ag:aD R):lC R:=fun x1 x2 x3 x4 k0=>zj (bU ag) x1 x2 x3 x4 k0
theorem F7 (R:Type) (ag:aD R) (bF:aC.Spec.Ok Tryz.prog 80 (aI bW bX (bB ag) ax)):k8 Tryz.prog 120 (zh (cU ag)):=bt (TT.mode [.json]) mixed (Hc ag bF) rfl rfl rfl rfl cd (HT (bU ag))
section
variable (aq:fA R) (cU:lC R)
def zk:List (oq R) := [(81,false,(jU aq ax)),(120,false,(zh cU ax))]
def zm (x1:Int) (x2:List Token) (x3:Int) (k0:Json→(List Token)→Int→Option R):Option R :=
 cb (decide ((0:Int)<x2.length)) (let j20:=fun (z4:Bool)=>let j19:=fun (z9:List Token) (Rx:Int)=>bif (Rx != 0)then (k0 (⟨0,⟨0,0⟩,([]:ah),([]:List ah),([]:List Json)⟩:Json) z9 Rx)else (cb (decide ((1:Int)≤z9.length)) (let j18:=bif ((x2.getD 0 (Ty.aZ .token)).kind==3)then (k0 (⟨4,⟨(x2.getD 0 (Ty.aZ .token)).num.ao,(x2.getD 0 (Ty.aZ .token)).num.exp⟩,([]:ah),([]:List ah),([]:List Json)⟩:Json) (z9.drop 1) Rx)else (k0 (⟨5,⟨0,0⟩,(x2.getD 0 (Ty.aZ .token)).text,([]:List ah),([]:List Json)⟩:Json) (z9.drop 1) Rx); let j17:=fun (vP:Bool)=>bif vP then (bif ((x2.getD 0 (Ty.aZ .token)).kind==1)then (cU ((x2.getD 0 (Ty.aZ .token)).text==([123]:ah)) x1 (z9.drop 1) Rx (fun yK HJ G1=>k0 (⟨yK.kind,⟨yK.num.ao,yK.num.exp⟩,yK.text,yK.names,yK.items⟩:Json) HJ G1))else (j18))else (let j16:=fun (z15:Bool)=>bif z15 then (bif ((x2.getD 0 (Ty.aZ .token)).kind==4)then (k0 (⟨((ml .str (.int .i64) ((x2.getD 0 (Ty.aZ .token)).text) ([(([110,117,108,108]:ah),1),(([102,97,108,115,101]:ah),2),(([116,114,117,101]:ah),3)]:List (ah×Int))):Int),⟨0,0⟩,([]:ah),([]:List ah),([]:List Json)⟩:Json) (z9.drop 1) Rx)else (j18))else (j18); bif ((x2.getD 0 (Ty.aZ .token)).text==([110,117,108,108]:ah))then (j16 ((x2.getD 0 (Ty.aZ .token)).text==([110,117,108,108]:ah)))else (bif ((x2.getD 0 (Ty.aZ .token)).text==([102,97,108,115,101]:ah))then (j16 ((x2.getD 0 (Ty.aZ .token)).text==([102,97,108,115,101]:ah)))else (j16 ((x2.getD 0 (Ty.aZ .token)).text==([116,114,117,101]:ah))))); bif ((x2.getD 0 (Ty.aZ .token)).text==([91]:ah))then (j17 ((x2.getD 0 (Ty.aZ .token)).text==([91]:ah)))else (j17 ((x2.getD 0 (Ty.aZ .token)).text==([123]:ah))))); bif (!z4)then (aq 40 x2 x3 (fun y5 y6=>j19 y5 y6))else (bif (decide (x1>(16:Int)))then (aq 41 x2 x3 (fun y7 y8=>j19 y7 y8))else (j19 x2 x3)); bif ((x2.getD 0 (Ty.aZ .token)).kind==2)then (j20 true)else (bif ((x2.getD 0 (Ty.aZ .token)).kind==3)then (j20 true)else (bif ((x2.getD 0 (Ty.aZ .token)).kind==4)then (j20 true)else (bif ((x2.getD 0 (Ty.aZ .token)).kind==1)then (bif ((x2.getD 0 (Ty.aZ .token)).text==([91]:ah))then (j20 true)else (j20 ((x2.getD 0 (Ty.aZ .token)).text==([123]:ah))))else (j20 false)))))
theorem HU:dE (R:=R) (tt.mode [.json]) (zk aq cU) rS false Tryz.f80 bW bX (bB (zm aq cU)):=fun x y k=>by kernel_rfl
end
theorem Hd (ag:aD R) (bF:aC.Spec.Ok Tryz.prog 80 (aI bW bX (bB ag) ax)):cu (R:=R) Tryz.prog (zk (R:=R) aq (cU ag)) := .d (kP R) rfl <| .d (F7 R ag bF) rfl <| .n
def qV (ag:aD R):aD R:=fun x1 x2 x3 k0=>zm aq (cU ag) x1 x2 x3 k0
theorem Fe (R:Type) (ag:aD R) (bF:aC.Spec.Ok Tryz.prog 80 (aI bW bX (bB ag) ax)):k8 Tryz.prog 80 (zf (qV ag)):=bt (TT.mode [.json]) mixed (Hd ag bF) rfl rfl rfl rfl cd (HU aq (cU ag))
def bp:Nat→aD R
 | 0,_,_,_,_=>none
 | n+1,gk,gn,gw,k0'=>qV (bp n) gk gn gw k0'
theorem VC (n:Nat):bp (R:=R) (n+1)=qV (bp n):=by kernel_rfl
theorem F8 (R:Type):∀n,aC.Spec.Ok Tryz.prog 80 (aI bW bX (bB (bp (R:=R) n)) ax) :=
 AO (run:=fun n=>bB (bp (R:=R) n)) (fun x y k=>by kernel_rfl) fun n hyp=>Fe R (bp n) hyp ax (jm _)
def de:aD R:=fun x1 x2 x3 k0=>bp 40 x1 x2 x3 k0
theorem F9 (R:Type):bB (R:=R) de=fun x y k=>bB (bp 40) x y k:=by kernel_rfl
theorem Ga (R:Type) (other:aC.Spec R) (ho:aC.Spec.Ok Tryz.prog 80 other):aC.Spec.Ok Tryz.prog 80 (aI bW bX (bB de) other) :=
 GN (Ka (run:=fun n=>bB (bp (R:=R) n)) (fun x y=>40) ho (F8 R)) (F9 R)
end Go.Proofs.YtidfokedcnhahaaGreatDoor
end
