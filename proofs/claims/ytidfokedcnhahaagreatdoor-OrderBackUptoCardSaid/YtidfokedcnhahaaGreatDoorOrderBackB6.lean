/-
  OrderBack, part 6 of 10.
-/
import Derived.Test.YtidfokedcnhahaaGreatDoorCards
import Derived.Test.YtidfokedcnhahaaGreatDoorTie
import Derived.Lib.LaidU8T
import Derived.Stop.LaidErr
import Derived.Deep.DeepHandedRow
import Derived.Deep.DeepWitnessRowRef
import Derived.WalkKit
import Derived.ProofKit
import Derived.OpenShut
import Derived.Lib.ValidU
import Derived.Lib.ItoaLen
import Derived.Lib.Repeat
import Derived.Lib.AtoiAll
import Derived.Lib.IndexAny
import Derived.Lib.Bytealg
import Derived.Lib.SlTrimSet
import Derived.Lib.LastIndexByte
import Derived.Sort.Grow
import Derived.Shelf.Strings.BuilderX
import Derived.Test.YtidfokedcnhahaaGreatDoorOrderBackB5
set_option linter.unusedSimpArgs false
set_option linter.unnecessarySimpa false
set_option linter.unusedVariables false
set_option linter.unusedSectionVars false
noncomputable section
set_option maxRecDepth 100000
namespace Go.Proofs.YtidfokedcnhahaaGreatDoor.Door
open Go Go.Lib Go.RowKit Go.ChangeShapes Go.aC
theorem own:ownKnob Tryz.prog.godebug=none:=by kernel_rfl
theorem leaves:NV Tryz.prog Go.Proofs.YtidfokedcnhahaaGreatDoor.tt:=leaves_ok (by kernel_rfl)
theorem gSyn:Tryz.prog.globalNamed "strconv.ErrSyntax" = some 3:=by kernel_rfl
theorem gRng:Tryz.prog.globalNamed "strconv.ErrRange" = some 4:=by kernel_rfl
theorem tSyn:(Tryz.prog.globals[3]?).map (·.type)=some 158:=by kernel_rfl
theorem tRng:(Tryz.prog.globals[4]?).map (·.type)=some 158:=by kernel_rfl
theorem star : "*" ++ "errors.errorString" = "*errors.errorString" :=by decide
theorem rowErr (u:TypeId) (h:Tryz.prog.typeName? 3 u=some "*errors.errorString"):u=271 :=
 typeName_ptr_named (nm := "errors.errorString") (by rw[star]; kernel_rfl) (by kernel_rfl) (by decide) u (by rw[star]; exact h)
theorem lt_of_var {n:String} {g:Nat} {W:World} {cs:Array Value} (hg:Tryz.prog.globalNamed n=some g) (h:W.var? Tryz.prog n=some cs):g<W.heap.size:=by
 unfold World.var? at h
 simp only[hg,Option.bind_some]at h
 rcases Nat.lt_or_ge g W.heap.size with h'|h'
 ·exact h'
 ·simp[Array.getElem?_eq_none h']at h
theorem lay_met {W:World} (h:laidMet Tryz.prog Rows.orderTellsUptoRow.laid W):pe.says W∧∀b,pe.blocks b→b<W.heap.size:=by
 have r0:VarReads Tryz.prog W "unicode/utf8.first" firstData:=laidMet.reads h (.tail _ (.tail _ (.tail _ (.tail _ (.tail _ (.tail _ (.head _)))))))
 have r1:VarReads Tryz.prog W "unicode/utf8.acceptRanges" acceptData:=laidMet.reads h (.tail _ (.tail _ (.tail _ (.head _))))
 have ht:Utf8Tabs 1 2 W:=utf8Tabs_of_readsT (U8Types.of196 Tryz.lay196) ⟨by kernel_rfl,by kernel_rfl,by kernel_rfl,by kernel_rfl,by kernel_rfl,by kernel_rfl,by kernel_rfl⟩ r0 r1
 have h2:=laidMet.tail (laidMet.tail h)
 have hp:TabIs Tryz.prog W "internal/strconv.uint64pow10" .u64 pow10Tab:=tabIs_of_head (t:=267) (e:=244) (n:=20) lay_pow10 (by kernel_rfl) (by kernel_rfl) (by kernel_rfl) (by kernel_rfl) (by kernel_rfl) h2
 have h4:=laidMet.tail (laidMet.tail h2)
 obtain ⟨a3,s3,v3,_⟩:=laid_sentinel (ms := #[("Error",120)]) (f := { name := "s",type:=9,offset:=0,embedded:=false,tag := "",pkgPath := "errors",byteOffset:=0 }) (te:=273) (ts:=9) h4 gRng tRng (by kernel_rfl) rowErr (by kernel_rfl) (by kernel_rfl) rfl rfl (by kernel_rfl) (by kernel_rfl) (by kernel_rfl)
 obtain ⟨a2,s2,v2,_⟩:=laid_sentinel (ms := #[("Error",120)]) (f := { name := "s",type:=9,offset:=0,embedded:=false,tag := "",pkgPath := "errors",byteOffset:=0 }) (te:=273) (ts:=9) (laidMet.tail h4) gSyn tSyn (by kernel_rfl) rowErr (by kernel_rfl) (by kernel_rfl) rfl rfl (by kernel_rfl) (by kernel_rfl) (by kernel_rfl)
 refine ⟨⟨ht,hp,⟨_,_,World.var?_cell gSyn v2 0⟩,⟨_,_,World.var?_cell gRng v3 0⟩⟩,fun b hb => ?_⟩
 have hb:b<8:=hb
 obtain ⟨g,t,cs,fuel,p,hg,_,hv,_⟩:VarReads Tryz.prog W "math/bits.deBruijn64tab" Rows.laid_math_bits_deBruijn64tab:=laidMet.reads h (.tail _ (.head _))
 have e:(some 7:Option Nat)=some g:=(by kernel_rfl:Tryz.prog.globalNamed "math/bits.deBruijn64tab" = some 7).symm.trans hg
 cases e
 have l4:=lt_of_var hg hv
 omega
abbrev synS:ByteArray := { data := #[105,110,118,97,108,105,100,32,115,121,110,116,97,120] }
abbrev rngS:ByteArray := { data := #[118,97,108,117,101,32,111,117,116,32,111,102,32,114,97,110,103,101] }
def low:Nat:=(World.holding Tryz.prog default ⟨#[], #[], []⟩).heap.size
def lit1:DataW Unit→Value
 | .lit (.int k n) => .int k n
 | _ => .int .u8 0
def litsOf:DataW Unit→List Value
 | .agg l=>l.map lit1
 | _ => []
def Ul (os:Os):World :=
 let w0:=World.holding Tryz.prog os ⟨#[.cells #[.string synS] 273, .cells #[.string rngS] 273], #[], []⟩
 let put (h:Array Obj) (g:Nat) (cs:Array Value):Array Obj:=h.modify g fun
  | .cells _ t frozen => .cells cs t frozen
  | o=>o
 let h0:=put w0.heap 1 (firstTab.map fun z=>Value.int .u8 z).toArray
 let h1:=put h0 2 ((List.range 16).flatMap fun i => [Value.int .u8 (accLo i),Value.int .u8 (accHi i)]).toArray
 let h2:=put h1 3 #[.iface 271 (.pointer (some ⟨low,0,none⟩))]
 let h3:=put h2 4 #[.iface 271 (.pointer (some ⟨low+1,0,none⟩))]
 let h4:=put h3 5 (pow10Tab.map fun z=>Value.int .u64 z).toArray
 let h6:=put h4 6 (litsOf Rows.laid_math_bits_deBruijn32tab).toArray
 let h7:=put h6 7 (litsOf Rows.laid_math_bits_deBruijn64tab).toArray
 { w0 with heap:=h7 }
theorem laid_met (os:Os) (args:Array Value):laidMet Tryz.prog Rows.orderTellsUptoRow.laid ((Ul os).forCall (fun _ _=>0) ⟨#[],args, []⟩).memory :=
 laidMet_of_run' 8 (by kernel_rfl) (by kernel_rfl)
end Go.Proofs.YtidfokedcnhahaaGreatDoor.Door
namespace Go.aC
theorem aw {R:Type} {b:Bool} {k:Option R} (h:b=true):ca b k=k:=by subst h; rfl
theorem cz {n:Int} (h1 : -9223372036854775808≤n) (h2:n≤9223372036854775807):IntKind.i64.wrap n=n:=by
 simp only[IntKind.wrap,IntKind.bits,IntKind.signed,IntKind.min,IntKind.max]
 simp
 omega
theorem Json.eta (x:Json):(⟨x.kind,⟨x.num.ao,x.num.exp⟩,x.text,x.names,x.items⟩:Json)=x:=by cases x; rfl
theorem Raw.eta (x:Raw):(⟨x.kind,x.ao,x.exp,x.text,x.items⟩:Raw)=x:=by cases x; rfl
theorem getD_at {α:Type} {l:List α} {i:Nat} (h:i<l.length) (d:α):l.getD i d=l[i]:=by simp[List.getD,h]
end Go.aC
namespace Go.aC
open Go.RowKit
section
variable {P:Program} {tt:dh} {w w':World} {h h':aN} {c c':jR} {R:Type}
theorem Dk (hb:Below w.heap.size w w'):Ext w h c w' h c where
 os:=hb.os
 tape:=hb.tape
 output:=hb.output
 size:=hb.size
 used:=fun _ hi=>hi
 same:=fun i hi hd=>⟨J4 (Pz hi.2 hd) (fun _ _ _ => .inr trivial),rfl,rfl⟩
 cell:=fun b x hx _=>vW (hb.block b hx)
 block:=fun b hx _=>hb.block b hx
 A7:=fun _ _ _ ho=>ho
 ext:=rfl
 arr:=fun b arr e fz hx=>⟨arr,fz,by rw[hb.block b (DN hx)]; exact hx,rfl⟩
theorem NW (wf:WF w h c) (hb:Below w.heap.size w w'):WF w' h c where
 CK:=wf.CK
 rh:=fun b x he=>Nat.lt_of_lt_of_le (wf.rh b x he) hb.size
 obj:=fun i hi=>by
  by_cases hl:(h.at i).live
  ·exact (wf.obj i hi).zM (Dk hb) (fun b pN=>hb.block b ((wf.obj i hi).lt hl pN)) rfl rfl
  ·have h0:h.at i = .free∨h.at i = .dead:=by revert hl; cases h.at i <;> simp[bS.live]
   rcases h0 with h0|h0 <;> rw[h0] <;> trivial
 inj:=wf.inj
 lay:=wf.va (Dk hb)
theorem vX {g:Nat} {fn:Func} (hf:P.funcs[g]? = some fn) (hn:(fn.name == "runtime.NumGoroutine")=false) (hb:fn.body.isNone=false) {args:Array Value} {Q:Value→World→Prop}
  (h:Calls P g args w fun e w'=>∃d,e = .returned d∧Q d w'):Bt P g args w Q:=by
 refine ⟨.enter g args,w,?_,h⟩
 have hn':fn.name ≠ "runtime.NumGoroutine" :=by simpa using hn
 have pN:fn.body≠none:=fun e=>by rw[e]at hb; cases hb
 simp[callFunc,hf,hn',pN]
theorem oB {g:Nat} {fn:Func} (hf:P.funcs[g]? = some fn) (hn:(fn.name == "runtime.NumGoroutine")=false) (hb:fn.body.isNone=false) {sp:Spec R}
  (hs:∀vs hp k r,sp vs hp k=some r→∀(w:World) (c:jR) (args:Array Value),WF w hp c→cu w hp c vs args.toList →
   ∃v,k v hp=some r∧Calls P g args w fun e w'=>∃d,e = .returned d∧Below w.heap.size w w'∧dk w' hp c v d):Spec.Ok P g sp:=by
 intro vs hp k r hk w c args wf ra
 obtain ⟨v,hv,hc⟩:=hs vs hp k r hk w c args wf ra
 refine vX hf hn hb (Calls.mono hc ?_)
 rintro e w' ⟨d,he,hbl,hr⟩
 exact ⟨d,he,v,hp,c,NW wf hbl,Dk hbl,hr,hv⟩
theorem repL1 {v:V} {args:Array Value} (ra:cu w h c [v] args.toList):∃d,args = #[d]∧dk w h c v d:=by
 obtain ⟨l⟩:=args
 match l,ra with
 | [d],ra=>exact ⟨d,rfl,ra.head⟩
 | [],ra=>have:=ra.1; simp at this
 | _::_::_,ra=>have:=ra.1; simp at this
theorem repL2 {u v:V} {args:Array Value} (ra:cu w h c [u,v] args.toList):∃d e,args = #[d,e]∧dk w h c u d∧dk w h c v e:=by
 obtain ⟨l⟩:=args
 match l,ra with
 | [d,e],ra=>exact ⟨d,e,rfl,ra.head,ra.tail.head⟩
 | [],ra=>have:=ra.1; simp at this
 | [_],ra=>have:=ra.1; simp at this
 | _::_::_::_,ra=>have:=ra.1; simp at this
end
section
variable {P:Program} {tt:dh} {w w':World} {h h':aN} {c c':jR} {R:Type}
def Vl (R:Type):Spec R:=fun vs h k =>
 match vs with
 | [.ptr i 0]=>(match h.at i with | .mA _=>k (.tuple []) h|_=>none)
 | _=>none
theorem Um {i:Nat} {v:V} {a':Value} (wf:WF w h c) (ra:dk w h c (.ptr i 0) a') (hv:h.at i = .mA v) :
  ∃b p d,a' = .pointer (some ⟨b,0,none⟩)∧c.vS i=some b∧w.heap[b]? = some (Obj.cells #[p,d] pe.mA (0,0))∧(p = .pointer none∨p = .pointer (some ⟨b,0,none⟩))∧dk w h c v d:=by
 have hi:=aN.gi hv (by simp)
 have ho:=wf.obj i hi
 rw[hv]at ho
 obtain ⟨b,p,d,g1,g2,g3,g4⟩:=ho
 cases ra with
 | ptr hu hq =>
  obtain ⟨b',rfl,pN⟩:=hq
  have:=pN (by rw[hv]; simp)
  rw[g1]at this; cases this
  exact ⟨b,p,d,rfl,g1,g2,g3,g4⟩
theorem bcc_ok {g:Nat} {fn:Func} (hf:P.funcs[g]? = some fn) (hn:(fn.name == "runtime.NumGoroutine")=false) (hb:fn.body.isNone=false)
  (fresh:∀(b:Nat) (w:World),w.cell? ⟨b,0,none⟩=some (.pointer none)→w.shape? b=some (pe.mA,2)→w.frozen? ⟨b,0,none⟩=false →
   Calls P g #[.pointer (some ⟨b,0,none⟩)] w fun e w'=>e = .returned (.tuple #[])∧w'=w.setCell ⟨b,0,none⟩ (.pointer (some ⟨b,0,none⟩)))
  (used:∀(b:Nat) (w:World),w.cell? ⟨b,0,none⟩=some (.pointer (some ⟨b,0,none⟩))→Calls P g #[.pointer (some ⟨b,0,none⟩)] w fun e w'=>e = .returned (.tuple #[])∧w'=w):Spec.Ok P g (Vl R):=by
 intro vs h k r hk w c args wf ra
 unfold Vl at hk
 split at hk <;> try (first|cases hk)
 rename_i i
 split at hk <;> try (first|cases hk)
 rename_i v hv
 obtain ⟨a',rfl,r1⟩:=repL1 ra
 obtain ⟨b,p,d,rfl,g1,g2,g3,g4⟩:=Um wf r1 hv
 have Qk:w.cell? ⟨b,0,none⟩=some p:=by rw[cell_of_row w b _ _ _ _ g2]; rfl
 have rt:∀w' h' c',dk w' h' c' (.tuple []) (.tuple #[]):=fun w' h' c' => .tuple rfl (fun j v d hv=>by simp at hv)
 rcases g3 with rfl|rfl
 ·refine vX hf hn hb (Calls.mono (fresh b w Qk (by simp[World.shape?,g2]) (AJ g2 0)) ?_)
  rintro e w' ⟨he,rfl⟩
  have pN:(w.setCell ⟨b,0,none⟩ (.pointer (some ⟨b,0,none⟩))).heap[b]? = some (.cells #[.pointer (some ⟨b,0,none⟩),d] pe.mA (0,0)):=by
   simp[World.setCell,Array.getElem?_modify,g2]
  have hw:XC w (w.setCell ⟨b,0,none⟩ (.pointer (some ⟨b,0,none⟩))) b #[.pointer (some ⟨b,0,none⟩),d] pe.mA (0,0):=⟨rfl,rfl,rfl,by simp,fun k hk=>heap_setCell_other w _ k _ hk,pN⟩
  have vb:(h.at i).from_ (c.off i)=some 0:=by rw[hv]; rfl
  have xN:(h.at i).iz (.mA v):=by rw[hv]; trivial
  have hset:h.set i (.mA v)=h:=by
   have hi:=aN.gi hv (by simp)
   have e:h[i] = .mA v:=by
    have:=hv
    unfold aN.at at this
    simpa [List.getD,List.getElem?_eq_getElem hi]using this
   rw[←e]
   exact List.set_getElem_self hi
  have x:=Sg g1 g2 hw rfl vb rfl xN
  have q:=upd_wf wf g1 g2 hw rfl vb rfl xN ⟨b,_,d,g1,pN, .inr rfl,g4.mono x⟩
  rw[hset]at x q
  exact ⟨_,he,_,h,c,q,x,rt _ _ _,hk⟩
 ·refine vX hf hn hb (Calls.mono (used b w Qk) ?_)
  rintro e w' ⟨he,rfl⟩
  exact ⟨_,he,_,h,c,wf, .refl _ _ _,rt _ _ _,hk⟩
def vM (l:List Int):ah:=l.map fun n=>UInt8.ofNat n.toNat
theorem bstr_len (l:List Int):(vM l).length=l.length:=List.length_map _
theorem bstr_get (l:List Int) (m:Nat) (x:UInt8) (h:(vM l)[m]? = some x):∃n,l[m]? = some n∧x=UInt8.ofNat n.toNat:=by
 unfold vM at h
 rw[List.getElem?_map]at h
 cases hm:l[m]? with
 | none=>rw[hm]at h; cases h
 | some n=>rw[hm]at h; simp at h; exact ⟨n,rfl,h.symm⟩
def Lo (R:Type):Spec R:=fun vs h k =>
 match vs with
 | [.ptr i 0] =>
  (match h.at i with
   | .mA .bw=>k (.str []) h
   | .mA (.sl (.int .u8) l (.own j))=>(match h.at j with | .tok=>k (.str (vM l)) h|_=>none)
   | _=>none)
 | _=>none
theorem PG:NN (Lo R):=by
 intro vs h k k' he
 unfold Lo
 split <;> try rfl
 split <;> try (first|rfl|exact he _)
 split <;> first|rfl|exact he _
theorem freeze_wf (wf:WF w h c) {j g:Nat} (hj:h.at j = .tok) (hg:c.vS j=some g) {cur:Array Value} {e:TypeId} {fz P1:Nat×Nat} (h1:w.heap[g]? = some (.cells cur e fz))
  (hos:w'.os=w.os) (htape:w'.tape=w.tape) (hout:w'.output=w.output) (hsize:w'.heap.size=w.heap.size) (Ua:∀k,k≠g→w'.heap[k]? = w.heap[k]?) (h2:w'.heap[g]? = some (.cells cur e P1))
  (hfz:(fz.1=fz.2∨fz.2≤c.off j)→(P1.1=P1.2∨P1.2≤c.off j)) :
  WF w' h c∧Ext w h c w' h c:=by
 have hjl:=aN.gi hj (by simp)
 have lY:wQ h c g (c.off j):=⟨j,c.off j,hg,by rw[hj]; rfl,Nat.le_refl _⟩
 have CZ:∀b x,w'.cell? ⟨b,x,none⟩=w.cell? ⟨b,x,none⟩:=fun b x=>by
  by_cases hb:b=g
  ·subst hb; rw[cell_of_row w' b x cur e P1 h2,cell_of_row w b x cur e fz h1]
  ·exact vW (Ua b hb)
 have x:Ext w h c w' h c := {
  os:=hos
  tape:=htape
  output:=hout
  size:=by omega
  used:=(Ext.refl w h c).used
  same:=(Ext.refl w h c).same
  cell:=fun b x _ _=>CZ b x
  block:=fun b _ ho=>Ua b (by rintro rfl; exact ho _ lY)
  A7:=(Ext.refl w h c).A7
  ext:=rfl
  arr:=fun b arr el fz0 hb=>by
   by_cases hbg:b=g
   ·subst hbg; rw[h1]at hb; cases hb; exact ⟨cur,P1,h2,rfl⟩
   ·exact ⟨arr,fz0,by rw[Ua b hbg]; exact hb,rfl⟩ }
 refine ⟨?_,x⟩
 exact {
  lay:=wf.va x
  CK:=wf.CK
  rh:=fun b y he=>by rw[hsize]; exact wf.rh b y he
  obj:=fun i hi=>by
   by_cases AI:i=j
   ·subst AI
    have:=wf.obj i hi
    rw[hj]at this ⊢
    rcases this with h0|⟨b',NJ,e',fz0,p1,p2,p3,p4⟩
    ·rw[hg]at h0; cases h0
    ·rw[hg]at p1; cases p1
     rw[h1]at p2; cases p2
     exact .inr ⟨g,cur,e,P1,hg,h2,p3,hfz p4⟩
   ·by_cases hl:(h.at i).live
    ·refine (wf.obj i hi).zM x (fun b hb=>Ua b ?_) rfl rfl
     rintro rfl
     exact AI (wf.inj i j b hl (by rw[hj]; trivial) hb hg)
    ·have h0:h.at i = .free∨h.at i = .dead:=by revert hl; cases h.at i <;> simp[bS.live]
     rcases h0 with h0|h0 <;> rw[h0] <;> trivial
  inj:=wf.inj }
theorem freeze_facts {q n:Nat} {cur:Array Value} {e:TypeId} {fz:Nat×Nat} (hn:n≠0) (hq:w.heap[q]? = some (.cells cur e fz)) :
  (w.drew.freeze ⟨q,0,none⟩ n).os=w.os∧(w.drew.freeze ⟨q,0,none⟩ n).tape=w.tape∧(w.drew.freeze ⟨q,0,none⟩ n).output=w.output∧(w.drew.freeze ⟨q,0,none⟩ n).heap.size=w.heap.size ∧
   (∀k,k≠q→(w.drew.freeze ⟨q,0,none⟩ n).heap[k]? = w.heap[k]?)∧∃P1,(w.drew.freeze ⟨q,0,none⟩ n).heap[q]? = some (.cells cur e P1)∧∀o,n≤o→(fz.1=fz.2∨fz.2≤o)→(P1.1=P1.2∨P1.2≤o):=by
 obtain ⟨lo,hi⟩:=fz
 unfold World.freeze
 rw[if_neg hn]
 refine ⟨rfl,rfl,rfl,Array.size_modify,fun k hk => ?_,(if lo==hi then (0,0+n)else (min lo 0,max hi (0+n))),?_,fun o ho hf => ?_⟩
 ·simp only[Array.getElem?_modify]
  rw[if_neg (Ne.symm hk)]
  rfl
 ·simp only[Array.getElem?_modify,if_true]
  rw[show w.drew.heap[q]? = some (.cells cur e (lo,hi))from hq]
  rfl
 ·simp only at hf
  split
  ·exact .inr (by simp; omega)
  ·rename_i jS
   have:lo≠hi:=by simpa using jS
   exact .inr (by simp; omega)
theorem u8_of {n:Int} (hn:IntKind.u8.has n):((UInt8.ofNat n.toNat).toNat:Int)=n:=by
 have:0≤n∧n≤255:=by simpa [IntKind.has,IntKind.min,IntKind.max,IntKind.signed,IntKind.bits]using hn
 simp only[UInt8.toNat_ofNat']
 omega
structure Ya (P:Program) (g:Nat):Prop where
 nil:∀(b:Nat) (p:Value) (w:World),w.heap[b]? = some (.cells #[p, .slice none 0 0] pe.mA (0,0)) →
  Calls P g #[.pointer (some ⟨b,0,none⟩)] w fun e w'=>e = .returned (.string ⟨#[]⟩)∧Below w.heap.size w w'
 noroom:∀(b q:Nat) (p:Value) (cur:Array Value) (fz:Nat×Nat) (w:World),w.heap[b]? = some (.cells #[p, .slice (some ⟨q,0,none⟩) 0 0] pe.mA (0,0))→w.heap[q]? = some (.cells cur pe.u8 fz) →
  Calls P g #[.pointer (some ⟨b,0,none⟩)] w fun e w'=>e = .returned (.string ⟨#[]⟩)∧Below w.heap.size w w'
 room:∀(b q cap:Nat) (p:Value) (w:World),cap≠0→w.heap[b]? = some (.cells #[p, .slice (some ⟨q,0,none⟩) 0 cap] pe.mA (0,0)) →
  Calls P g #[.pointer (some ⟨b,0,none⟩)] w fun e w'=>e = .returned (.string ⟨#[]⟩)∧Below w.heap.size w w'
 some:∀(b q cap:Nat) (p:Value) (cur:Array Value) (fz:Nat×Nat) (l:List UInt8) (w:World),l ≠ []→w.heap[b]? = some (.cells #[p, .slice (some ⟨q,0,none⟩) l.length cap] pe.mA (0,0)) →
  w.heap[q]? = some (.cells cur pe.u8 fz)→l.length≤cap→cap≤mx→l.length≤cur.size→(∀(j:Nat) (x:UInt8),l[j]? = some x→w.cell? ⟨q,j,none⟩=some (.int .u8 x.toNat)) →
  Calls P g #[.pointer (some ⟨b,0,none⟩)] w fun e w'=>e = .returned (.string ⟨l.toArray⟩)∧w'=w.drew.freeze ⟨q,0,none⟩ l.length
theorem bstr_ok {g:Nat} {fn:Func} (hf:P.funcs[g]? = some fn) (hn:(fn.name == "runtime.NumGoroutine")=false) (hb:fn.body.isNone=false) (D:Ya P g):Spec.Ok P g (Lo R):=by
 intro vs h k r hk w c args wf ra
 unfold Lo at hk
 split at hk <;> try (first|cases hk)
 rename_i i
 obtain ⟨a',rfl,r1⟩:=repL1 ra
 have empty:∀ {w':World} {h':aN} {c':jR},dk w' h' c' (.str []) (.string ⟨#[]⟩):=fun {w' h' c'}=>FK ⟨#[]⟩ rfl (Nat.zero_le _)
 split at hk <;> try (first|cases hk)
 ·rename_i hv
  obtain ⟨b,p,d,rfl,g1,g2,g3,g4⟩:=Um wf r1 hv
  cases g4
  refine vX hf hn hb (Calls.mono (D.nil b p w g2) ?_)
  rintro e w' ⟨he,hbl⟩
  exact ⟨_,he,_,h,c,NW wf hbl,Dk hbl,empty,hk⟩
 ·rename_i l j hv
  split at hk <;> try (first|cases hk)
  rename_i hj
  obtain ⟨b,p,d,rfl,g1,g2,g3,g4⟩:=Um wf r1 hv
  have hi:=aN.gi hv (by simp)
  have AI:j≠i:=by rintro rfl; rw[hj]at hv; cases hv
  have hu8:∀x∈(l:List Int),IntKind.u8.has x:=by
   intro x hx
   cases g4 with
   | sl f k8 vT hc hr Da lY =>
    obtain ⟨m,hm⟩:=List.mem_iff_getElem?.1 hx
    exact (hr m 0 x (.int .u8 x) hm rfl).fj.2
  have hlen:(vM l).length=List.length (α:=Int) l:=bstr_len l
  cases g4 with
  | @sl _ _ _ A cap f k8 vT hc hr Da lY =>
   obtain ⟨_,ho⟩:=lY j rfl
   have hcap':List.length (α:=Int) l≤cap:=k8
   have R8:∀(w':World) (h':aN) (c':jR),dk w' h' c' (.str (vM l)) (.string ⟨(vM l).toArray⟩):=fun w' h' c'=>FK _ rfl (by rw[hlen]; exact Nat.le_trans k8 vT)
   rcases ho hj with ⟨e1,rfl,rfl⟩|⟨q,o,cur,e,fz,e1,rfl,e3,e4,e5,e6⟩
   ·have Va:l = []:=List.eq_nil_of_length_eq_zero (Nat.le_zero.1 k8)
    subst Va
    refine vX hf hn hb (Calls.mono (D.nil b p w g2) ?_)
    rintro e w' ⟨he,hbl⟩
    exact ⟨_,he,_,h,c,NW wf hbl,Dk hbl,R8 _ _ _,hk⟩
   ·obtain ⟨rfl,rfl⟩:=e6 rfl
    by_cases Va:l = []
    ·subst Va
     by_cases Qk:cap=0
     ·subst Qk
      refine vX hf hn hb (Calls.mono (D.noroom b q p cur fz w g2 e4) ?_)
      rintro e w' ⟨he,hbl⟩
      exact ⟨_,he,_,h,c,NW wf hbl,Dk hbl,R8 _ _ _,hk⟩
     ·refine vX hf hn hb (Calls.mono (D.room b q cap p w Qk g2) ?_)
      rintro e w' ⟨he,hbl⟩
      exact ⟨_,he,_,h,c,NW wf hbl,Dk hbl,R8 _ _ _,hk⟩
    ·have hbl:vM l ≠ []:=fun e=>Va (List.eq_nil_of_length_eq_zero (hlen.symm.trans (by rw[e]; rfl)))
     have e5':0+cap*1≤cur.size:=e5
     have I2:∀(m:Nat) (x:UInt8),(vM l)[m]? = some x→w.cell? ⟨q,m,none⟩=some (.int .u8 x.toNat):=by
      intro m x hx
      obtain ⟨n,hm,rfl⟩:=bstr_get l m x hx
      have hml:m<List.length (α:=Int) l:=(List.getElem?_eq_some_iff.1 hm).1
      obtain ⟨b',o',hA,CZ,_⟩:=hc m 0 hml (by simp[Ty.sz])
      cases hA
      have hrn:=hr m 0 n (.int .u8 n) hm rfl
      rw[hrn.fj.1]at CZ
      rw[u8_of hrn.fj.2]
      simpa [Ty.sz]using CZ
     have g2':w.heap[b]? = some (.cells #[p, .slice (some ⟨q,0,none⟩) (vM l).length cap] pe.mA (0,0)):=by rw[hlen]; exact g2
     refine vX hf hn hb (Calls.mono (D.some b q cap p cur fz (vM l) w hbl g2' e4 (by rw[hlen]; exact k8) vT (by rw[hlen]; omega) I2) ?_)
     rintro e w' ⟨he,rfl⟩
     have hne0:(vM l).length≠0:=by simpa using hbl
     obtain ⟨f1,f2,f3,f4,f5,P1,f6,f7⟩:=freeze_facts hne0 e4
     obtain ⟨q1,q2⟩:=freeze_wf wf hj e1 e4 f1 f2 f3 f4 f5 f6 (f7 _ (by rw[e3,hlen]; simp[Ty.sz]; exact Nat.le_refl _))
     exact ⟨_,he,_,h,c,q1,q2,R8 _ _ _,hk⟩
end
def vY (s:ah):Bool:=s.all fun b=>decide (b.toNat<128)
def fU (s:ah):Bool:=Go.Lib.validD s
def o8 (s:ah):Nat×Nat:=if s.isEmpty then (65533,0)else Utf8.decode ⟨s.toArray⟩ 0
def cd (n:Int):ah:=Go.Lib.itoa n
def kZ (s:ah) (n:Int):ah:=Go.Lib.repeatL s n.toNat
def bt (s cs:ah):ah:=s.dropWhile (cs.contains ·)
def cA (s cs:ah):ah:=(s.reverse.dropWhile (cs.contains ·)).reverse
def vZ (s:ah):Bool:=match Go.Lib.atoiAll s with | .ok _=>true|_=>false
def dY (s:ah):Int:=match Go.Lib.atoiAll s with | .ok v=>v | .range=>Go.Lib.atoiSat s|_=>0
def Yb (s cs:ah):Bool:=Go.Lib.containsAny s cs
def Ec (s:ah) (c:UInt8):Int:=Go.Lib.lastIndexByte ⟨s.toArray⟩ (c.toNat:Int)
def DQ (s:ah) (c:Int):Int:=Go.Lib.indexByte s c.toNat.toUInt8
section
variable (R:Type)
def valid_S:Spec R:=fun vs h k=>match vs with | [.str s]=>k (.bool (fU s)) h|_=>none
def dec_S:Spec R:=fun vs h k=>match vs with | [.str s]=>k (.tuple [.int .i32 (o8 s).1, .int .i64 (o8 s).2]) h|_=>none
def itoa_S:Spec R:=fun vs h k=>match vs with | [.int .i64 n]=>k (.str (cd n)) h|_=>none
def rep_S:Spec R:=fun vs h k=>match vs with | [.str s, .int .i64 n]=>ca (decide (0≤n)&&decide ((s.length:Int)*n≤140737488355328)) (k (.str (kZ s n)) h)|_=>none
def PH:Spec R:=fun vs h k=>match vs with | [.str s, .str cs]=>ca (vY cs&&decide (cs.length<4294967281)) (k (.str (bt s cs)) h)|_=>none
def trimR_S:Spec R:=fun vs h k=>match vs with | [.str s, .str cs]=>ca (vY cs&&decide (cs.length<4294967281)) (k (.str (cA s cs)) h)|_=>none
def atoi_S:Spec R:=fun vs h k=>match vs with
 | [.str s]=>ca (decide (s.length≤281474976710656)) (bif vZ s then k (.tuple [.int .i64 (dY s), .dp]) h else k (.tuple [.int .i64 (dY s), .iface]) h)
 | _=>none
def toErr_S (T:Nat):Spec R:=fun vs h k=>match vs with
 | [.str _, .str s, .int .i64 _, .int .i64 _, .Q3 t .i64 n]=>ca (Nat.beq t T&&(n==2||n==1)) (ca (decide (s.length≤281474976710656)) (k .iface h))
 | _=>none
def Yc:Spec R:=fun vs h k=>match vs with
 | [.str s, .str cs]=>ca (vY s&&vY cs&&decide (s.length<4294967281)&&decide (cs.length<4294967281)) (k (.bool (Yb s cs)) h)
 | _=>none
def lastI_S:Spec R:=fun vs h k=>match vs with | [.str s, .str [c]]=>ca (decide (s.length≤281474976710656)) (k (.int .i64 (Ec s c)) h)|_=>none
def idx_S:Spec R:=fun vs h k=>match vs with | [.str s, .int .u8 c]=>k (.int .i64 (DQ s c)) h|_=>none
end
section
variable {P:Program} {w w':World} {h:aN} {c:jR} {R:Type}
open Go.Lib
theorem WY {s:ah} (hs:vY s=true):∀(j:Nat) (b:UInt8),s[j]? = some b→b.toNat<128:=by
 intro j b hb
 have:=List.all_eq_true.1 hs b (List.mem_of_getElem? hb)
 simpa using this
theorem Bu (p:UInt8→Bool):∀s:ah,(s.dropWhile p).length≤s.length
 | []=>Nat.le_refl _
 | b::s=>by
  rw[List.dropWhile_cons]
  split
  ·have:=Bu p s; simp; omega
  ·exact Nat.le_refl _
theorem str_of (l:ah) (h':l.length≤mx):dk w h c (.str l) (.string ⟨l.toArray⟩):=FK _ rfl h'
theorem lE {g:Nat} {args:Array Value} {Q:Ending→World→Prop} {v:V} (hc:Calls P g args w Q)
  (hq:∀e w',Q e w'→∃d,e = .returned d∧Below w.heap.size w w'∧dk w' h c v d):Calls P g args w fun e w'=>∃d,e = .returned d∧Below w.heap.size w w'∧dk w' h c v d:=Calls.mono hc fun e w' q=>hq e w' q
end
end Go.aC
set_option maxRecDepth 100000
namespace Go.Proofs.YtidfokedcnhahaaGreatDoor
open Go Go.aC Go.RowKit Go.Shelf
section
variable {w w':World} {h:aN} {c:jR} {R:Type}
theorem below_drewN:∀(q:Nat) (a:World),Below w.heap.size w a→Below w.heap.size w (a.drewN q)
 | 0,_,ha=>ha
 | q+1,a,ha=>(below_drewN q a ha).drew
theorem below_push (a:World) (os:Array Obj) (ha:Below w.heap.size w a):Below w.heap.size w { a with heap:=a.heap++os } :=
 ⟨ha.os,ha.tape,ha.output,by simp; have:=ha.size; omega,fun k hk=>by
  have:=ha.size
  rw[←ha.block k hk]
  exact Array.getElem?_append_left (by omega)⟩
theorem below_bytes (e:TypeId) (t:ByteArray):Below w.heap.size w (Go.Lib.bytesWorld w e t):=by
 unfold Go.Lib.bytesWorld World.freeze
 have hb:Below w.heap.size w (w.drew.alloc (.cells (Go.Lib.bytesCells w e t) e)):=De w _
 split
 ·exact hb
 ·refine ⟨hb.os,hb.tape,hb.output,?_,fun k hk => ?_⟩
  ·have:=hb.size; simpa using this
  ·rw[←hb.block k hk]
   simp only[Array.getElem?_modify]
   rw[if_neg (by show ¬w.heap.size=k; omega)]
theorem trimL_le (s cs:ah):(bt s cs).length≤s.length:=Bu _ s
theorem trimR_le (s cs:ah):(cA s cs).length≤s.length:=by
 unfold cA
 rw[List.length_reverse]
 exact Nat.le_trans (Bu _ _) (by simp)
theorem trimL_nil (s:ah):bt s []=s:=by
 unfold bt
 cases s with
 | nil=>rfl
 | cons b s=>simp
theorem trimR_nil (s:ah):cA s []=s:=by
 unfold cA
 have:(s.reverse.dropWhile fun x=>List.contains [] x)=s.reverse:=by
  cases s.reverse with
  | nil=>rfl
  | cons b s=>simp
 rw[this,List.reverse_reverse]
theorem trimL_one (s:ah) (b:UInt8):bt s [b]=Go.Lib.trimLeftB s b:=by
 unfold bt Go.Lib.trimLeftB
 congr 1
 funext x
 rw[List.contains_cons]
 show (x==b||false)=_
 rw[Bool.or_false]
theorem trimR_one (s:ah) (b:UInt8):cA s [b]=Go.Lib.trimRightB s b:=by
 unfold cA Go.Lib.trimRightB
 congr 2
 funext x
 rw[List.contains_cons]
 show (x==b||false)=_
 rw[Bool.or_false]
theorem valid_ok:aC.Spec.Ok Tryz.prog 200 (valid_S R):=by
 refine oB Tryz.func200 rfl rfl fun vs hp k r hk w c args wf ra => ?_
 unfold valid_S at hk
 split at hk <;> try (first|cases hk)
 rename_i s
 obtain ⟨a,rfl,r1⟩:=repL1 ra
 obtain ⟨t,rfl,rfl,hl⟩:=r1.iq
 refine ⟨_,hk,lE (Any.utf8_ValidString Tryz.lay196 t w hl wf.lay.1.1) ?_⟩
 rintro e w' ⟨he,hb⟩
 exact ⟨_,he,hb, .bool _⟩
theorem dec_ok:aC.Spec.Ok Tryz.prog 184 (dec_S R):=by
 refine oB Tryz.func184 rfl rfl fun vs hp k r hk w c args wf ra => ?_
 unfold dec_S at hk
 split at hk <;> try (first|cases hk)
 rename_i s
 obtain ⟨a,rfl,r1⟩:=repL1 ra
 obtain ⟨t,rfl,rfl,hl⟩:=r1.iq
 have hd:Go.Lib.decodeGo t=o8 t.data.toList:=by
  unfold Go.Lib.decodeGo o8
  by_cases h0:t.size=0
  ·have:t.data.toList = []:=List.eq_nil_of_length_eq_zero (by rw[size_data]; exact h0)
   simp[h0,this]
  ·have:t.data.toList ≠ []:=fun e=>h0 (by rw[←size_data,e]; rfl)
   have hm:(⟨t.data.toList.toArray⟩:ByteArray)=t:=tq rfl
   simp[h0,hm]
   exact fun e=>absurd (show t.data.size=0 by rw[e]; rfl) h0
 have kh:(o8 t.data.toList).1<2097152∧(o8 t.data.toList).2≤4:=by
  unfold o8
  split
  ·exact ⟨by omega,by omega⟩
  ·exact ⟨(Ub _ _).1,(Ub _ _).2.2⟩
 refine ⟨_,hk,lE (Any.utf8_DecodeRuneInString Tryz.lay197 t w wf.lay.1.1) ?_⟩
 rintro e w' ⟨he,hb⟩
 rw[hd]at he
 refine ⟨_,he,hb, .tuple rfl fun j v d hv hd => ?_⟩
 match j,hv,hd with
 | 0,hv,hd=>simp at hv hd; subst hv; subst hd; exact .int (has_rune _ kh.1)
 | 1,hv,hd=>simp at hv hd; subst hv; subst hd; exact .int (K8 _ (by unfold mx; omega))
 | j+2,hv,_=>simp at hv
theorem itoa_ok:aC.Spec.Ok Tryz.prog 172 (itoa_S R):=by
 refine oB Tryz.func172 rfl rfl fun vs hp k r hk w c args wf ra => ?_
 unfold itoa_S at hk
 split at hk <;> try (first|cases hk)
 rename_i n
 obtain ⟨a,rfl,r1⟩:=repL1 ra
 obtain ⟨rfl,hn⟩:=r1.fj
 have hn' : -9223372036854775808≤n∧n≤9223372036854775807:=by simpa [IntKind.has,IntKind.min,IntKind.max,IntKind.signed,IntKind.bits]using hn
 refine ⟨_,hk,lE (Any.strconv_Itoa Tryz.lay171 n hn'.1 hn'.2 w wf.lay.1.2.1) ?_⟩
 rintro e w' ⟨he,q,os,rfl⟩
 refine ⟨_,he,below_push _ os (below_drewN q w (Below.refl _ _)),str_of _ ?_⟩
 have:=Go.Lib.itoa_length_le n hn'.1 hn'.2
 unfold cd mx
 omega
theorem x72:Builder.X72 Tryz.prog Tryz.Ln := { sizeBuilder:=by kernel_rfl,liesBuilder:=by kernel_rfl }
theorem xBuilder:Builder.Extra Tryz.prog Tryz.Ln := { x72 with t5:=Tryz.underlying5,a5:=Tryz.isAgg5,z5:=Tryz.sizeOf5,v5:=Tryz.zeroValue5,infoByte:=by kernel_rfl,cellsByte:=by kernel_rfl,sizeByte:=by kernel_rfl,neB5:=by decide }
theorem rep_ok:aC.Spec.Ok Tryz.prog 173 (rep_S R):=by
 refine oB Tryz.func173 rfl rfl fun vs hp k r hk w c args wf ra => ?_
 unfold rep_S at hk
 split at hk <;> try (first|cases hk)
 rename_i s n
 obtain ⟨hc,hk⟩:=bY hk
 simp only[Bool.and_eq_true,decide_eq_true_eq]at hc
 obtain ⟨h0,hlen⟩:=hc
 obtain ⟨a,b,rfl,r1,r2⟩:=repL2 ra
 obtain ⟨t,rfl,rfl,hl⟩:=r1.iq
 obtain ⟨rfl,hn⟩:=r2.fj
 obtain ⟨m,rfl⟩:=Int.eq_ofNat_of_zero_le h0
 have hn':(m:Int)≤9223372036854775807:=by
  have:IntKind.i64.has (m:Int):=hn
  simp[IntKind.has,IntKind.min,IntKind.max,IntKind.signed,IntKind.bits]at this
  omega
 rw[size_data]at hlen
 have hlen':t.size*m≤140737488355328:=by omega
 have hrl:(Go.Lib.repeatL t.data.toList m).length≤140737488355328:=by
  rw[Go.Lib.repeatL_length,size_data,Nat.mul_comm]; exact hlen'
 refine ⟨_,hk,lE (Any.strings_Repeat Tryz.lay105 xBuilder t m w (by omega) hlen') ?_⟩
 rintro e w' ⟨he,hb⟩
 refine ⟨_,he,hb,?_⟩
 have e2:kZ t.data.toList (m:Int)=Go.Lib.repeatL t.data.toList m:=by unfold kZ; simp
 rw[e2]
 exact str_of _ (by unfold mx; omega)
theorem Sx:aC.Spec.Ok Tryz.prog 105 (PH R):=by
 refine oB Tryz.func105 rfl rfl fun vs hp k r hk w c args wf ra => ?_
 unfold PH at hk
 split at hk <;> try (first|cases hk)
 rename_i s cs
 obtain ⟨hc,hk⟩:=bY hk
 simp only[Bool.and_eq_true,decide_eq_true_eq]at hc
 obtain ⟨ha,ND⟩:=hc
 obtain ⟨a,b,rfl,r1,r2⟩:=repL2 ra
 obtain ⟨t,rfl,rfl,hl⟩:=r1.iq
 obtain ⟨u,rfl,rfl,hl2⟩:=r2.iq
 rw[size_data]at ND
 have hasc:=WY ha
 have hle:=trimL_le t.data.toList u.data.toList
 rw[size_data]at hle
 have fin:∀(l:ah),l=bt t.data.toList u.data.toList→∀w':World,dk w' hp c (.str (bt t.data.toList u.data.toList)) (.string ⟨l.toArray⟩):=fun l e w'=>by
  rw[e]; exact str_of _ (by omega)
 by_cases h0:t.size=0∨u.size=0
 ·refine ⟨_,hk,lE (Any.strings_TrimLeft_empty Tryz.lay161 t u w h0) ?_⟩
  rintro e w' ⟨he,rfl⟩
  have e2:(⟨t.data.toList.toArray⟩:ByteArray)=t:=tq rfl
  rw[←e2]at he
  refine ⟨_,he,Below.refl _ _,fin _ ?_ _⟩
  rcases h0 with h0|h0
  ·have:t.data.toList = []:=List.eq_nil_of_length_eq_zero (by rw[size_data]; exact h0)
   rw[this]; unfold bt; simp
  ·have:u.data.toList = []:=List.eq_nil_of_length_eq_zero (by rw[size_data]; exact h0)
   rw[this,trimL_nil]
 ·have hu1:u.size=1∨2≤u.size:=by omega
  rcases hu1 with hu1|hu2
  ·obtain ⟨b,hb⟩:∃b,u.data.toList = [b]:=by
    have hul:u.data.toList.length=1:=by rw[size_data]; exact hu1
    match hq:u.data.toList,hul with
    | [b],_=>exact ⟨b,rfl⟩
   have eu:u=⟨#[b]⟩:=tq (by rw[hb])
   subst eu
   refine ⟨_,hk,lE (Any.strings_TrimLeft_one Tryz.lay161 t b (hasc 0 b rfl) w) ?_⟩
   rintro e w' ⟨he,rfl⟩
   exact ⟨_,he,Below.refl _ _,fin _ (trimL_one _ _).symm _⟩
  ·refine ⟨_,hk,lE (Any.strings_TrimLeft_set Tryz.lay161 Tryz.zeroValue178 (by kernel_rfl) t u w hu2 (by omega) (by omega) hasc) ?_⟩
   rintro e w' ⟨he,rfl⟩
   refine ⟨_,he,?_,fin _ rfl _⟩
   exact ((Below.refl _ _).alloc (Nat.le_refl _) _).alloc (by simp) _
theorem trimR_ok:aC.Spec.Ok Tryz.prog 193 (trimR_S R):=by
 refine oB Tryz.func193 rfl rfl fun vs hp k r hk w c args wf ra => ?_
 unfold trimR_S at hk
 split at hk <;> try (first|cases hk)
 rename_i s cs
 obtain ⟨hc,hk⟩:=bY hk
 simp only[Bool.and_eq_true,decide_eq_true_eq]at hc
 obtain ⟨ha,ND⟩:=hc
 obtain ⟨a,b,rfl,r1,r2⟩:=repL2 ra
 obtain ⟨t,rfl,rfl,hl⟩:=r1.iq
 obtain ⟨u,rfl,rfl,hl2⟩:=r2.iq
 rw[size_data]at ND
 have hasc:=WY ha
 have hle:=trimR_le t.data.toList u.data.toList
 rw[size_data]at hle
 have fin:∀(l:ah),l=cA t.data.toList u.data.toList→∀w':World,dk w' hp c (.str (cA t.data.toList u.data.toList)) (.string ⟨l.toArray⟩):=fun l e w'=>by
  rw[e]; exact str_of _ (by omega)
 by_cases h0:t.size=0∨u.size=0
 ·refine ⟨_,hk,lE (Any.strings_TrimRight_empty Tryz.lay162 t u w h0) ?_⟩
  rintro e w' ⟨he,rfl⟩
  have e2:(⟨t.data.toList.toArray⟩:ByteArray)=t:=tq rfl
  rw[←e2]at he
  refine ⟨_,he,Below.refl _ _,fin _ ?_ _⟩
  rcases h0 with h0|h0
  ·have:t.data.toList = []:=List.eq_nil_of_length_eq_zero (by rw[size_data]; exact h0)
   rw[this]; unfold cA; simp
  ·have:u.data.toList = []:=List.eq_nil_of_length_eq_zero (by rw[size_data]; exact h0)
   rw[this,trimR_nil]
 ·have hu1:u.size=1∨2≤u.size:=by omega
  rcases hu1 with hu1|hu2
  ·obtain ⟨b,hb⟩:∃b,u.data.toList = [b]:=by
    have hul:u.data.toList.length=1:=by rw[size_data]; exact hu1
    match hq:u.data.toList,hul with
    | [b],_=>exact ⟨b,rfl⟩
   have eu:u=⟨#[b]⟩:=tq (by rw[hb])
   subst eu
   refine ⟨_,hk,lE (Any.strings_TrimRight_one Tryz.lay162 t b (hasc 0 b rfl) w hl) ?_⟩
   rintro e w' ⟨he,rfl⟩
   exact ⟨_,he,Below.refl _ _,fin _ (trimR_one _ _).symm _⟩
  ·refine ⟨_,hk,lE (Any.strings_TrimRight_set Tryz.lay162 Tryz.zeroValue178 (by kernel_rfl) t u w hu2 (by omega) hl (by omega) hasc) ?_⟩
   rintro e w' ⟨he,rfl⟩
   refine ⟨_,he,?_,fin _ rfl _⟩
   exact ((Below.refl _ _).alloc (Nat.le_refl _) _).alloc (by simp) _
theorem atoi_ok:aC.Spec.Ok Tryz.prog 194 (atoi_S R):=by
 refine oB Tryz.func194 rfl rfl fun vs hp k r hk w c args wf ra => ?_
 unfold atoi_S at hk
 split at hk <;> try (first|cases hk)
 rename_i s
 obtain ⟨hc,hk⟩:=bY hk
 simp only[decide_eq_true_eq]at hc
 obtain ⟨a,rfl,r1⟩:=repL1 ra
 obtain ⟨t,rfl,rfl,hl⟩:=r1.iq
 rw[size_data]at hc
 obtain ⟨_,_,⟨t1,x1,hv1⟩,⟨t2,x2,hv2⟩⟩:=wf.lay.1
 have P2:IntKind.i64.has (dY t.data.toList):=by
  unfold dY
  split
  ·rename_i v hv
   unfold Go.Lib.atoiAll at hv
   split at hv
   ·cases hv
   ·dsimp only at hv
    split at hv
    ·cases hv
    ·cases hv
    ·rename_i u _
     split at hv
     ·cases hv
     ·split at hv
      ·cases hv
      ·cases hv
       split <;> simp[IntKind.has,IntKind.min,IntKind.max,IntKind.signed,IntKind.bits] <;> omega
  ·unfold Go.Lib.atoiSat
   split <;> simp[IntKind.has,IntKind.min,IntKind.max,IntKind.signed,IntKind.bits]
  ·simp[IntKind.has,IntKind.min,IntKind.max,IntKind.signed,IntKind.bits]
 have two:∀(z:Int) (u:V) (w':World) (x:Value),dY t.data.toList=z→dk w' hp c u x→dk w' hp c (.tuple [.int .i64 (dY t.data.toList),u]) (.tuple #[.int .i64 z,x]):=fun z u w' x hz hx=>by
  subst hz
  refine .tuple rfl fun j v d hv hd => ?_
  match j,hv,hd with
  | 0,hv,hd=>simp at hv hd; subst hv; subst hd; exact .int P2
  | 1,hv,hd=>simp at hv hd; subst hv; subst hd; exact hx
  | j+2,hv,_=>simp at hv
 rcases hA:Go.Lib.atoiAll t.data.toList with v|_|_
 ·
  have e1:vZ t.data.toList=true:=by unfold vZ; rw[hA]
  have e2:dY t.data.toList=v:=by unfold dY; rw[hA]
  rw[e1]at hk
  refine ⟨_,hk,lE (Any.strconv_Atoi_ok Tryz.lay172 t (by omega) v hA w) ?_⟩
  rintro e w' ⟨he,hb⟩
  refine ⟨_,he,?_,two _ _ _ _ e2 .dp⟩
  rcases hb with rfl|⟨q,rfl⟩
  ·exact Below.refl _ _
  ·exact below_bytes _ _
 ·
  have e1:vZ t.data.toList=false:=by unfold vZ; rw[hA]
  have e2:dY t.data.toList=0:=by unfold dY; rw[hA]
  rw[e1]at hk
  refine ⟨_,hk,lE (Any.strconv_Atoi_syntax Tryz.lay172 t hc hA (.iface t1 x1) w hv1 (.inr ⟨_,_,rfl⟩)) ?_⟩
  rintro e w' ⟨q,he,_,_,hb⟩
  exact ⟨_,he,hb,two _ _ _ _ e2 (.iface _ _)⟩
 ·
  have e1:vZ t.data.toList=false:=by unfold vZ; rw[hA]
  have e2:dY t.data.toList=Go.Lib.atoiSat t.data.toList:=by unfold dY; rw[hA]
  rw[e1]at hk
  refine ⟨_,hk,lE (Any.strconv_Atoi_range Tryz.lay172 t hc hA (.iface t2 x2) w hv2 (.inr ⟨_,_,rfl⟩)) ?_⟩
  rintro e w' ⟨q,he,_,_,hb⟩
  exact ⟨_,he,hb,two _ _ _ _ e2 (.iface _ _)⟩
theorem toErr_ok:aC.Spec.Ok Tryz.prog 219 (toErr_S R 250):=by
 refine oB Tryz.func219 rfl rfl fun vs hp k r hk w c args wf ra => ?_
 unfold toErr_S at hk
 split at hk <;> try (first|cases hk)
 rename_i fn s b1 b2 t n
 obtain ⟨hc,hk1⟩:=bY hk
 obtain ⟨Va,Px⟩:=bY hk1
 simp only[Bool.and_eq_true,Bool.or_eq_true,beq_iff_eq,decide_eq_true_eq]at hc Va
 obtain ⟨ht,hn⟩:=hc
 have ht:=Nat.eq_of_beq_eq_true ht
 subst ht
 obtain ⟨l⟩:=args
 match l,ra with
 | [a1,a2,a3,a4,a5],ra =>
  obtain ⟨t1,rfl,rfl,_⟩:=ra.head.iq
  obtain ⟨t2,rfl,rfl,hl2⟩:=ra.tail.head.iq
  obtain ⟨rfl,_⟩:=ra.tail.tail.head.fj
  obtain ⟨rfl,_⟩:=ra.tail.tail.tail.head.fj
  obtain ⟨rfl,_⟩:=ra.tail.tail.tail.tail.head.ifi_inv
  rw[size_data]at Va
  obtain ⟨_,_,⟨p1,x1,hv1⟩,⟨p2,x2,hv2⟩⟩:=wf.lay.1
  rcases hn with rfl|rfl
  ·refine ⟨_,Px,lE (Any.strconv_toError_syntax Tryz.lay245 t1 t2 b1 b2 (.iface p1 x1) w Va hv1 (.inr ⟨_,_,rfl⟩)) ?_⟩
   rintro e w' ⟨q,he,_,_,hb⟩
   exact ⟨_,he,hb, .iface _ _⟩
  ·refine ⟨_,Px,lE (Any.strconv_toError_range Tryz.lay245 t1 t2 b1 b2 (.iface p2 x2) w Va hv2 (.inr ⟨_,_,rfl⟩)) ?_⟩
   rintro e w' ⟨q,he,_,_,hb⟩
   exact ⟨_,he,hb, .iface _ _⟩
 | [],ra=>have:=ra.1; simp at this
 | [_],ra=>have:=ra.1; simp at this
 | [_,_],ra=>have:=ra.1; simp at this
 | [_,_,_],ra=>have:=ra.1; simp at this
 | [_,_,_,_],ra=>have:=ra.1; simp at this
 | _::_::_::_::_::_::_,ra=>have:=ra.1; simp at this
theorem hasAny_ok:aC.Spec.Ok Tryz.prog 253 (Yc R):=by
 refine oB Tryz.func253 rfl rfl fun vs hp k r hk w c args wf ra => ?_
 unfold Yc at hk
 split at hk <;> try (first|cases hk)
 rename_i s cs
 obtain ⟨hc,hk⟩:=bY hk
 simp only[Bool.and_eq_true,decide_eq_true_eq]at hc
 obtain ⟨⟨⟨ha,hb⟩,hsl⟩,ND⟩:=hc
 obtain ⟨a,b,rfl,r1,r2⟩:=repL2 ra
 obtain ⟨t,rfl,rfl,hl⟩:=r1.iq
 obtain ⟨u,rfl,rfl,hl2⟩:=r2.iq
 rw[size_data]at hsl ND
 refine ⟨_,hk,lE (Any.strings_ContainsAny_laid Tryz.lay150 (by kernel_rfl) t u w hsl ND (WY ha) (WY hb)) ?_⟩
 rintro e w' ⟨he,hb⟩
 exact ⟨_,he,hb, .bool _⟩
theorem idx_ok:aC.Spec.Ok Tryz.prog 159 (idx_S R):=by
 refine oB Tryz.func159 rfl rfl fun vs hp k r hk w c args wf ra => ?_
 unfold idx_S at hk
 split at hk <;> try (first|cases hk)
 rename_i s ch
 obtain ⟨a,b,rfl,r1,r2⟩:=repL2 ra
 obtain ⟨t,rfl,rfl,hl⟩:=r1.iq
 obtain ⟨rfl,hn⟩:=r2.fj
 have hb:IntKind.i64.has (Go.Lib.indexByte t.data.toList ch.toNat.toUInt8):=by
  have h1:=Go.Lib.indexByte_ge t.data.toList ch.toNat.toUInt8
  have h2:Go.Lib.indexByte t.data.toList ch.toNat.toUInt8≤t.data.toList.length:=by
   generalize t.data.toList=l
   induction l with
   | nil=>simp[Go.Lib.indexByte]
   | cons x l ih =>
    have:=Go.Lib.indexByte_ge l ch.toNat.toUInt8
    unfold Go.Lib.indexByte
    split
    ·simp; omega
    ·split
     ·simp; omega
     ·simp; omega
  rw[size_data]at h2
  unfold mx at hl
  generalize Go.Lib.indexByte t.data.toList ch.toNat.toUInt8=z at h1 h2
  simp[IntKind.has,IntKind.min,IntKind.max,IntKind.signed,IntKind.bits]; omega
 refine ⟨_,hk,lE (Any.strings_IndexByte Tryz.lay137 t ch w) ?_⟩
 rintro e w' ⟨he,rfl⟩
 exact ⟨_,he,Below.refl _ _, .int hb⟩
theorem lastI_ok:aC.Spec.Ok Tryz.prog 78 (lastI_S R):=by
 refine oB Tryz.func78 rfl rfl fun vs hp k r hk w c args wf ra => ?_
 unfold lastI_S at hk
 split at hk <;> try (first|cases hk)
 rename_i s ch
 obtain ⟨a,b,rfl,r1,r2⟩:=repL2 ra
 obtain ⟨t,rfl,rfl,hl⟩:=r1.iq
 obtain ⟨u,rfl,hu,hl2⟩:=r2.iq
 obtain ⟨hb,hk⟩:=bY hk
 rw[decide_eq_true_eq,size_data]at hb
 have h1:u.size=1:=by rw[←size_data,hu]; rfl
 have hu0:u[0]'(by omega)=ch:=by
  have e:u.data = #[ch]:=by
   have:=congrArg List.toArray hu
   simpa using this
  show u.data[0]'_=ch
  simp[e]
 refine ⟨_,hk,lE (Any.strings_LastIndex_one Tryz.lay148 t u h1 (by omega) w) ?_⟩
 rintro e w' ⟨he,rfl⟩
 rw[hu0]at he
 have ht:(⟨t.data.toList.toArray⟩:ByteArray)=t:=tq rfl
 have hh:IntKind.i64.has (Ec t.data.toList ch):=by
  unfold Ec
  rw[ht]
  rcases Go.Lib.lastIndexByte_spec t (ch.toNat:Int)with ⟨e,_⟩|⟨i,hi,e,_⟩
  ·rw[e]; simp[IntKind.has,IntKind.min,IntKind.max,IntKind.signed,IntKind.bits]
  ·rw[e]; simp[IntKind.has,IntKind.min,IntKind.max,IntKind.signed,IntKind.bits]; omega
 have e2:Ec t.data.toList ch=Go.Lib.lastIndexByte t (ch.toNat:Int):=by unfold Ec; rw[ht]
 refine ⟨_,he,Below.refl _ _,?_⟩
 rw[←e2]
 exact .int hh
theorem bccL:Lays.n240 Tryz.prog Tryz.Ln := { Tryz.lay105 with }
theorem Yd:aC.Spec.Ok Tryz.prog 171 (Vl R) :=
 bcc_ok Tryz.func171 rfl rfl (fun b w h0 hs hf=>Any.Builder_copyCheck_fresh bccL x72 b w h0 hs hf) (fun b w h0=>Any.Builder_copyCheck_used bccL x72 b w h0)
theorem bstrL:Lays.n169 Tryz.prog Tryz.Ro:=Tryz.lay169
theorem Ic:Builder.Extra Tryz.prog Tryz.Ro := { sizeBuilder:=by kernel_rfl,liesBuilder:=by kernel_rfl,t5:=Tryz.underlying5,a5:=Tryz.isAgg5,z5:=Tryz.sizeOf5,v5:=Tryz.zeroValue5,infoByte:=by kernel_rfl,cellsByte:=by kernel_rfl,sizeByte:=by kernel_rfl,neB5:=by decide }
set_option maxHeartbeats 1000000 in
theorem string_some (b q cap:Nat) (p:Value) (cur:Array Value) (fz:Nat×Nat) (l:List UInt8) (w:World) (h0:l ≠ []) (hbk:w.heap[b]? = some (.cells #[p, .slice (some ⟨q,0,none⟩) l.length cap] pe.mA (0,0)))
  (hq:w.heap[q]? = some (.cells cur pe.u8 fz)) (hnc:l.length≤cap) (hcm:cap≤mx) (rj:l.length≤cur.size) (CZ:∀(j:Nat) (x:UInt8),l[j]? = some x→w.cell? ⟨q,j,none⟩=some (.int .u8 x.toNat)) :
  Calls Tryz.prog 84 #[.pointer (some ⟨b,0,none⟩)] w fun e w'=>e = .returned (.string ⟨l.toArray⟩)∧w'=w.drew.freeze ⟨q,0,none⟩ l.length:=by
 have Va:l.length≠0:=by simpa using h0
 have L:=bstrL
 have X:=Ic
 have c1:w.drew.cell? ⟨b,1,none⟩=some (.slice (some ⟨q,0,none⟩) l.length cap):=by
  have h1:w.drew.heap[b]? = some (.cells #[p, .slice (some ⟨q,0,none⟩) l.length cap] pe.mA (0,0)):=hbk
  rw[Lib.cell_of_heap h1]; rfl
 have hSD:(Builtin.unsafeSliceData_ #[42] 164 #[.slice (some ⟨q,0,none⟩) l.length cap]).run Tryz.prog w.drew = .ok (.pointer (some ⟨q,0,none⟩)) w.drew :=
  Lib.run_unsafeSliceData_row _ _ _ _ _ _ (by omega)
 have hUS:(Builtin.unsafeString_ #[164,3] 9 #[.pointer (some ⟨q,0,none⟩), .int .i64 l.length]).run Tryz.prog w.drew = .ok (.string ⟨l.toArray⟩) (w.drew.freeze ⟨q,0,none⟩ l.length):=by
  refine Lib.run_unsafeString_row w.drew 164 3 9 5 L.t127 X.cellsByte q cur.size (by have hq':w.drew.heap[q]? = some (.cells cur 5 fz):=hq; simp[World.shape?,hq']) l h0 rj (by unfold mx at hcm; omega) ?_
  intro j x hx
  have:=CZ j x hx
  rw[aC.tu,Nat.zero_add]
  exact this
 have mixed:=L.mixed
 have t72:=L.t72; have a72:=L.a72; have z72:=L.z72; have v72:=L.v72; have u72:=run_underlying L.t72
 have t70:=L.t70; have a70:=L.a70; have z70:=L.z70; have v70:=L.v70; have u70:=run_underlying L.t70
 have t37:=L.t37; have a37:=L.a37; have z37:=L.z37; have v37:=L.v37; have u37:=run_underlying L.t37
 have t127:=L.t127; have a127:=L.a127; have z127:=L.z127; have v127:=L.v127; have u127:=run_underlying L.t127
 have t3:=L.t3; have a3:=L.a3; have z3:=L.z3; have v3:=L.v3; have u3:=run_underlying L.t3
 have t9:=L.t9; have a9:=L.a9; have z9:=L.z9; have v9:=L.v9; have u9:=run_underlying L.t9
 have t5:=X.t5; have a5:=X.a5; have z5:=X.z5; have v5:=X.v5; have u5:=run_underlying X.t5
 go_enter Tryz.func84,Tryz.ntmps84
 go_wp2
 go_region_o
 all_goals (go_wp2; go_ret; exact ⟨rfl,rfl⟩)
set_option maxHeartbeats 2000000 in
theorem ZX (b q:Nat) (p:Value) (cur:Array Value) (fz:Nat×Nat) (w:World) (hbk:w.heap[b]? = some (.cells #[p, .slice (some ⟨q,0,none⟩) 0 0] pe.mA (0,0))) (hq:w.heap[q]? = some (.cells cur pe.u8 fz)) :
  Calls Tryz.prog 84 #[.pointer (some ⟨b,0,none⟩)] w fun e w'=>e = .returned (.string ⟨#[]⟩)∧Below w.heap.size w w':=by
 have L:=bstrL
 have X:=Ic
 have hUS:∀(W:World) (q:Option Addr),(Builtin.unsafeString_ #[164,3] 9 #[.pointer q, .int .i64 0]).run Tryz.prog W = .ok (.string .empty) W:=fun W q=>Lib.run_unsafeString_none W _ _ _ q
 have kh:b<w.heap.size:=by
  rcases Nat.lt_or_ge b w.heap.size with h'|h'
  ·exact h'
  ·simp[Array.getElem?_eq_none h']at hbk
 have c1:w.drew.cell? ⟨b,1,none⟩=some (.slice (some ⟨q,0,none⟩) 0 0):=by
  have:w.drew.heap[b]? = some (.cells #[p, .slice (some ⟨q,0,none⟩) 0 0] pe.mA (0,0)):=hbk
  rw[Lib.cell_of_heap this]; rfl
 have hSD:(Builtin.unsafeSliceData_ #[42] 164 #[.slice (some ⟨q,0,none⟩) 0 0]).run Tryz.prog w.drew = .ok (.pointer (some ⟨w.drew.heap.size,0,none⟩)) (w.drew.alloc (.view ⟨q,0,none⟩ 5)) :=
  Lib.run_unsafeSliceData_zero w.drew _ _ 5 L.t127 ⟨q,0,none⟩ 0 (5,cur.size) (by have hq':w.drew.heap[q]? = some (.cells cur 5 fz):=hq; simp[World.shape?,hq'])
 have c2:(w.drew.alloc (.view ⟨q,0,none⟩ 5)).cell? ⟨b,1,none⟩=some (.slice (some ⟨q,0,none⟩) 0 0):=by
  have:(w.drew.alloc (.view ⟨q,0,none⟩ 5)).heap[b]? = _:=(Lib.alloc_old w.drew _ b kh).trans hbk
  rw[Lib.cell_of_heap this]; rfl
 have c3:(w.alloc (.view ⟨q,0,none⟩ 5)).drew.cell? ⟨b,1,none⟩=some (.slice (some ⟨q,0,none⟩) 0 0):=c2
 have c0:w.cell? ⟨b,1,none⟩=some (.slice (some ⟨q,0,none⟩) 0 0):=c1
 have mixed:=L.mixed
 have t72:=L.t72; have a72:=L.a72; have z72:=L.z72; have v72:=L.v72; have u72:=run_underlying L.t72
 have t70:=L.t70; have a70:=L.a70; have z70:=L.z70; have v70:=L.v70; have u70:=run_underlying L.t70
 have t37:=L.t37; have a37:=L.a37; have z37:=L.z37; have v37:=L.v37; have u37:=run_underlying L.t37
 have t127:=L.t127; have a127:=L.a127; have z127:=L.z127; have v127:=L.v127; have u127:=run_underlying L.t127
 have t3:=L.t3; have a3:=L.a3; have z3:=L.z3; have v3:=L.v3; have u3:=run_underlying L.t3
 have t9:=L.t9; have a9:=L.a9; have z9:=L.z9; have v9:=L.v9; have u9:=run_underlying L.t9
 have t5:=X.t5; have a5:=X.a5; have z5:=X.z5; have v5:=X.v5; have u5:=run_underlying X.t5
 go_enter Tryz.func84,Tryz.ntmps84
 go_wp2
 go_region_o
 all_goals (go_wp2; go_ret; exact ⟨rfl,(Below.drew (Below.refl _ w)).alloc (Nat.le_refl _) _⟩)
theorem string_does:Ya Tryz.prog 84 where
 nil:=fun b p w hbk=>Any.Builder_String_nil bstrL Ic w.heap.size b p w hbk
 noroom:=ZX
 room:=fun b q cap p w hc hbk=>Any.Builder_String_room bstrL Ic w.heap.size b q cap p w hc hbk
 some:=string_some
theorem WZ:aC.Spec.Ok Tryz.prog 84 (Lo R):=bstr_ok Tryz.func84 rfl rfl string_does
end
end Go.Proofs.YtidfokedcnhahaaGreatDoor
/-
 Functions of the program as pure Lean functions, and the ties; printed by wip/tools/emit.py.
-/
set_option maxRecDepth 100000
namespace Go.Proofs.YtidfokedcnhahaaGreatDoor
open Go Go.aC
variable {R:Type}
/-! ### slices.Index[[]string,string] -/
abbrev gK (R:Type):Type:=(List ah)→ah→(Int→Option R)→Option R
abbrev nI:List cM := [.leaf (.sl .str), .leaf (.str)]
abbrev nJ:List aW := []
def uj (fn:gK R):k9 R nI nJ:=fun x y k=>fn x.1 x.2.1 (fun q0=>k (.int .i64 q0) [])
def nK (fn:gK R):=aI nI nJ (uj fn)
abbrev kl (R:Type):Type:=Nat→(List ah)→ah→Int→Int→(Option R)→(Int→Option R)→Option R
def ir:Hint := { live := [0,1,7,8],own := [],rows := [],cells := [],drop := [],out := [4] }
abbrev eG:Type:=(List ah)×ah×Int×Int
def ka:eG→St:=fun d=>⟨.sl .str d.1 .no :: .str d.2.1::U 5 (.int .i64 d.2.2.1 :: .int .i64 d.2.2.2::U 10 ([])), []⟩
def km (K:Ex→St→Option R):Option R:=K (.exit 0) ⟨U 19 ([]), []⟩
def kn (K:Ex→St→Option R) (q0:Int):Option R:=K (.ret) ⟨U 4 (.int .i64 q0::U 14 ([])), []⟩
abbrev fJ:List cM := .leaf (.sl .str) :: .leaf (.str)::PU 5 (.leaf (.int .i64) :: .leaf (.int .i64)::PU 10 ([]))
abbrev fK:List aW := []
def rq (x:cM.bQ fJ) (y:aW.bQ fK):Nat:=(List.length x.1+List.length x.2.1+Int.natAbs x.2.2.2.2.2.2.2.1+Int.natAbs ((t8 x).1)+64)
def CL (x:cM.bQ fJ) (y:aW.bQ fK):eG:=(x.1,x.2.1,x.2.2.2.2.2.2.2.1,(t8 x).1)
def pO (L:kl R):wU R fJ fK:=fun x y K=>L (rq x y) x.1 x.2.1 x.2.2.2.2.2.2.2.1 ((t8 x).1) (km K) (kn K)
section
variable (aS:kl R)
def eH (dx:(List ah)→ah→Int→Int→Option R) (x3:List ah) (x4:ah) (x5:Int) (x6:Int) (e0:Option R) (e1:Int→Option R):Option R :=
 bif (decide (x6<x5))then (ca (decide ((0:Int)≤x6)&&decide (x6<x3.length)) (bif (x4==(x3.getD x6.toNat (Ty.aZ .str)))then (e1 x6)else (dx x3 x4 x5 (IntKind.i64.wrap (x6+1)))))else (e0)
def rA (K:Ex→St→Option R) (rc:eG→Option R) (d:eG):Option R:=eH (fun z0 z1 z2 z3=>rc (z0,z1,z2,z3)) d.1 d.2.1 d.2.2.1 d.2.2.2 (km K) (kn K)
def gW:Nat→Option (Hint×cJ R):=fun i=>match i with
 | 2=>some (ir,(cE fJ fK (pO aS) iK))
 | _=>none
theorem zS (K:Ex→St→Option R) (rc:St→Option R) (d:eG):roundOf tt (cO []) (gW aS) 0 ((aA (bb Tryz.f127)).getD 0 .skip) ir (ka d) rc K=rA K (fun d=>rc (ka d)) d:=by kernel_rfl
def nL (x1:List ah) (x2:ah) (k0:Int→Option R):Option R :=
 aS (List.length x1+List.length x2+Int.natAbs (x1.length:Int)+Int.natAbs 0+64) x1 x2 (x1.length:Int) 0 (k0 (-1)) (fun y7=>k0 y7)
theorem ES:dC (R:=R) tt [] (gW aS) false Tryz.f127 nI nJ (uj (nL aS)):=fun x y k=>by kernel_rfl
end
def aS:kl R
 | 0,_,_,_,_,_,_=>none
 | n+1,gh,gl,gv,mB,e0,e1=>eH (fun gh gl gv mB=>aS n gh gl gv mB e0 e1) gh gl gv mB e0 e1
def rB (K:Ex→St→Option R) (n:Nat) (d:eG):Option R:=aS n d.1 d.2.1 d.2.2.1 d.2.2.2 (km K) (kn K)
theorem Bv (other:cJ R) (ho:gV tt (cO []) (gW (R:=R) aS) 0 ((aA (bb Tryz.f127)).getD 0 .skip) ir other):gV tt (cO []) (gW (R:=R) aS) 0 ((aA (bb Tryz.f127)).getD 0 .skip) ir (cE fJ fK (pO (aS)) other) :=
 cN (A:=rB) ho (dT ka (rA) (rB) (fun _ _=>by kernel_rfl) (zS aS) (fun _ _ _=>by kernel_rfl)) rq CL (fun _ _=>by kernel_rfl) (fun _ _ _=>by kernel_rfl)
def bp:gK R:=fun x1 x2 k0=>nL aS x1 x2 k0
theorem CM (R:Type):∀a∈aA (bb Tryz.f127),gJ tt (cO []) (gW (R:=R) aS) 0 a:=by
 refine eX 1 (by kernel_rfl) fun i hi => ?_
 match i,hi with
 | 0,_=>exact cy (by kernel_rfl) (Bv _ dt)
 | n+1,hi=>omega
theorem rV (R:Type):k6 Tryz.prog 127 (nK (bp (R:=R))):=br TT mixed .n rfl rfl rfl rfl (CM R) (ES aS)
/-! ### slices.Contains[[]string,string] -/
abbrev fL (R:Type):Type:=(List ah)→ah→(Bool→Option R)→Option R
abbrev lK:List cM := [.leaf (.sl .str), .leaf (.str)]
abbrev lL:List aW := []
def rC (fn:fL R):k9 R lK lL:=fun x y k=>fn x.1 x.2.1 (fun q0=>k (.bool q0) [])
def lM (fn:fL R):=aI lK lL (rC fn)
section
variable (bp:gK R)
def rW:List (oi R) := [(127,true,(nK bp ax))]
def lN (x1:List ah) (x2:ah) (k0:Bool→Option R):Option R :=
 bp x1 x2 (fun y3=>k0 (decide (y3≥(0:Int))))
theorem CN:dC (R:=R) tt (rW bp) rP false Tryz.f85 lK lL (rC (lN bp)):=fun x y k=>by kernel_rfl
end
theorem Bw:ct (R:=R) Tryz.prog (rW (R:=R) bp) := .c (rV R) <| .n
def aB:fL R:=fun x1 x2 k0=>lN bp x1 x2 k0
theorem pg (R:Type):k6 Tryz.prog 85 (lM (aB (R:=R))):=br TT mixed (Bw (R:=R)) rfl rfl rfl rfl cb (CN bp)
/-! ### slices.Clone[[]string,string] -/
abbrev jC (R:Type):Type:=(List ah)→((List ah)→Option R)→Option R
abbrev nM:List cM := [.leaf (.sl .str)]
abbrev nN:List aW := []
def uk (fn:jC R):k9 R nM nN:=fun x y k=>fn x.1 (fun q0=>k (.sl .str q0 .no) [])
def vd (fn:jC R):=aI nM nN (uk fn)
section
def nO (x1:List ah) (k0:(List ah)→Option R):Option R :=
 bif x1.isEmpty then (anyT (k0 ([]:List ah)) (ca (decide ((0+x1.length)*16≤140737488355328)) (k0 (([]:List ah)++x1))))else (ca (decide ((0+x1.length)*16≤140737488355328)) (k0 (([]:List ah)++x1)))
theorem ET:dC (R:=R) tt [] rP false Tryz.f128 nM nN (uk nO):=fun x y k=>by kernel_rfl
end
def bl:jC R:=fun x1 k0=>nO x1 k0
theorem Dl (R:Type):k6 Tryz.prog 128 (vd (bl (R:=R))):=br TT mixed .n rfl rfl rfl rfl cb (ET)
/-! ### slices.Clone[[]humpyard/api.Json,humpyard/api.Json] -/
abbrev jj (R:Type):Type:=(List Json)→(Option R)→(Nat→(List Json)→Option R)→Option R
abbrev mT:List cM := [.leaf (.sl .json)]
abbrev mU:List aW := []
def th (fn:jj R):k9 R mT mU:=fun x y k=>fn x.1 (k (.bw) []) (fun q0 q1=>k (.row 0 q0) [.row .json q1])
def um (fn:jj R):=aI mT mU (th fn)
section
def mV (x1:List Json) (k0:Option R) (k1:Nat→(List Json)→Option R):Option R :=
 bif x1.isEmpty then (anyT (k0) (ca (decide ((0+x1.length)*88≤140737488355328)) (k1 (0+x1.length) (([]:List Json)++x1))))else (ca (decide ((0+x1.length)*88≤140737488355328)) (k1 (0+x1.length) (([]:List Json)++x1)))
theorem Ed:dC (R:=R) (tt.mode [.json]) [] rP true Tryz.f129 mT mU (th mV):=fun x y k=>by kernel_rfl
end
def bg:jj R:=fun x1 k0 k1=>mV x1 k0 k1
theorem CO (R:Type):k6 Tryz.prog 129 (um (bg (R:=R))):=br (TT.mode [.json]) mixed .n rfl rfl rfl rfl cb (Ed)
/-! ### humpyard/field.fresh -/
abbrev dJ (R:Type):Type:=Json→(Json→Option R)→Option R
abbrev lZ:List cM := [.agg [.int .i64, .int .i64, .int .i64, .str, .sl .str, .sl .json]]
abbrev l0:List aW := []
def gL (fn:dJ R):k9 R lZ l0:=fun x y k=>fn (⟨x.1.1,⟨x.1.2.1,x.1.2.2.1⟩,x.1.2.2.2.1,x.1.2.2.2.2.1,x.1.2.2.2.2.2.1⟩:Json) (fun q0=>k (.agg [.int .i64 q0.kind, .int .i64 q0.num.ao, .int .i64 q0.num.exp, .str q0.text, .sl .str q0.names .no, .sl .json q0.items .no]) [])
def DR (fn:dJ R):=aI lZ l0 (gL fn)
abbrev zT (R:Type):Type:=Nat→Int→Int→Int→Int→Int→ah→(List ah)→Int→Int→Int→ah→(Int→Int→Int→ah→(List ah)→Int→Int→Int→ah→Option R)→Option R
abbrev zU (R:Type):Type:=Nat→Nat→Int→Int→Int→Int→Int→ah→(List ah)→Nat→Int→Int→Int→ah→(List Json)→(Int→Int→Int→ah→(List ah)→Nat→Int→Int→Int→ah→(List Json)→Option R)→Option R
def vf:Hint := { live := [1,2,14,15,16],own := [],rows := [],cells := [],drop := [],out := [1,2] }
abbrev mE:Type:=Int×Int×Int×Int×Int×ah×(List ah)×Int×Int×Int×ah
def xQ:mE→St:=fun d=>⟨.undef :: .ptr 0 0 :: .ptr 1 0::U 11 (.bw :: .int .i64 d.1 :: .int .i64 d.2.1::U 12 ([])), [.cells [.int .i64 d.2.2.1, .int .i64 d.2.2.2.1, .int .i64 d.2.2.2.2.1, .str d.2.2.2.2.2.1, .sl .str d.2.2.2.2.2.2.1 .no, .bw], .cells [.int .i64 d.2.2.2.2.2.2.2.1, .int .i64 d.2.2.2.2.2.2.2.2.1, .int .i64 d.2.2.2.2.2.2.2.2.2.1, .str d.2.2.2.2.2.2.2.2.2.2, .bw, .bw]]⟩
def zV (K:Ex→St→Option R) (q0:Int) (q1:Int) (q2:Int) (q3:ah) (q4:List ah) (q5:Int) (q6:Int) (q7:Int) (q8:ah):Option R:=K (.exit 0) ⟨.undef :: .ptr 0 0 :: .ptr 1 0::U 26 ([]), [.cells [.int .i64 q0, .int .i64 q1, .int .i64 q2, .str q3, .sl .str q4 .no, .bw], .cells [.int .i64 q5, .int .i64 q6, .int .i64 q7, .str q8, .bw, .bw]]⟩
abbrev pP:List cM := .leaf (.undef) :: .leaf (.ptr 0 0) :: .leaf (.ptr 1 0)::PU 11 (.leaf (.bw) :: .leaf (.int .i64) :: .leaf (.int .i64)::PU 12 ([]))
abbrev pQ:List aW := [.cells [.int .i64, .int .i64, .int .i64, .str, .sl .str, .bw], .cells [.int .i64, .int .i64, .int .i64, .str, .bw, .bw]]
def Ie (x:cM.bQ pP) (y:aW.bQ pQ):Nat:=(Int.natAbs ((t8 x).2.2.2.2.2.2.2.1)+Int.natAbs ((t8 (t8 x)).1)+Int.natAbs y.1.1+Int.natAbs y.1.2.1+Int.natAbs y.1.2.2.1+List.length y.1.2.2.2.1+List.length y.1.2.2.2.2.1+Int.natAbs y.2.1.1+Int.natAbs y.2.1.2.1+Int.natAbs y.2.1.2.2.1+List.length y.2.1.2.2.2.1+64)
def Sy (x:cM.bQ pP) (y:aW.bQ pQ):mE:=((t8 x).2.2.2.2.2.2.2.1,(t8 (t8 x)).1,y.1.1,y.1.2.1,y.1.2.2.1,y.1.2.2.2.1,y.1.2.2.2.2.1,y.2.1.1,y.2.1.2.1,y.2.1.2.2.1,y.2.1.2.2.2.1)
def GM (L:zT R):wU R pP pQ:=fun x y K=>L (Ie x y) ((t8 x).2.2.2.2.2.2.2.1) ((t8 (t8 x)).1) y.1.1 y.1.2.1 y.1.2.2.1 y.1.2.2.2.1 y.1.2.2.2.2.1 y.2.1.1 y.2.1.2.1 y.2.1.2.2.1 y.2.1.2.2.2.1 (zV K)
def Bx:Hint := { live := [1,2,14,15,16],own := [],rows := [],cells := [],drop := [],out := [1,2] }
abbrev mF:Type:=Nat×Int×Int×Int×Int×Int×ah×(List ah)×Nat×Int×Int×Int×ah×(List Json)
def xR:mF→St:=fun d=>⟨.undef :: .ptr 0 0 :: .ptr 1 0::U 11 (.row 2 d.1 :: .int .i64 d.2.1 :: .int .i64 d.2.2.1::U 12 ([])), [.cells [.int .i64 d.2.2.2.1, .int .i64 d.2.2.2.2.1, .int .i64 d.2.2.2.2.2.1, .str d.2.2.2.2.2.2.1, .sl .str d.2.2.2.2.2.2.2.1 .no, .row 2 d.2.2.2.2.2.2.2.2.1], .cells [.int .i64 d.2.2.2.2.2.2.2.2.2.1, .int .i64 d.2.2.2.2.2.2.2.2.2.2.1, .int .i64 d.2.2.2.2.2.2.2.2.2.2.2.1, .str d.2.2.2.2.2.2.2.2.2.2.2.2.1, .bw, .bw], .row .json d.2.2.2.2.2.2.2.2.2.2.2.2.2]⟩
def zW (K:Ex→St→Option R) (q0:Int) (q1:Int) (q2:Int) (q3:ah) (q4:List ah) (q5:Nat) (q6:Int) (q7:Int) (q8:Int) (q9:ah) (ZY:List Json):Option R:=K (.exit 0) ⟨.undef :: .ptr 0 0 :: .ptr 1 0::U 26 ([]), [.cells [.int .i64 q0, .int .i64 q1, .int .i64 q2, .str q3, .sl .str q4 .no, .row 2 q5], .cells [.int .i64 q6, .int .i64 q7, .int .i64 q8, .str q9, .bw, .bw], .row .json ZY]⟩
abbrev pR:List cM := .leaf (.undef) :: .leaf (.ptr 0 0) :: .leaf (.ptr 1 0)::PU 11 (.leaf (.row 2) :: .leaf (.int .i64) :: .leaf (.int .i64)::PU 12 ([]))
abbrev pS:List aW := [.cells [.int .i64, .int .i64, .int .i64, .str, .sl .str, .row 2], .cells [.int .i64, .int .i64, .int .i64, .str, .bw, .bw], .row .json]
def Ig (x:cM.bQ pR) (y:aW.bQ pS):Nat:=(Int.natAbs ((t8 x).2.2.2.2.2.2.2.1)+Int.natAbs ((t8 (t8 x)).1)+Int.natAbs y.1.1+Int.natAbs y.1.2.1+Int.natAbs y.1.2.2.1+List.length y.1.2.2.2.1+List.length y.1.2.2.2.2.1+Int.natAbs y.2.1.1+Int.natAbs y.2.1.2.1+Int.natAbs y.2.1.2.2.1+List.length y.2.1.2.2.2.1+List.length y.2.2.1+64)
def Sz (x:cM.bQ pR) (y:aW.bQ pS):mF:=((t8 x).2.2.2.2.2.2.1,(t8 x).2.2.2.2.2.2.2.1,(t8 (t8 x)).1,y.1.1,y.1.2.1,y.1.2.2.1,y.1.2.2.2.1,y.1.2.2.2.2.1,y.1.2.2.2.2.2.1,y.2.1.1,y.2.1.2.1,y.2.1.2.2.1,y.2.1.2.2.2.1,y.2.2.1)
def GN (L:zU R):wU R pR pS:=fun x y K=>L (Ig x y) ((t8 x).2.2.2.2.2.2.1) ((t8 x).2.2.2.2.2.2.2.1) ((t8 (t8 x)).1) y.1.1 y.1.2.1 y.1.2.2.1 y.1.2.2.2.1 y.1.2.2.2.2.1 y.1.2.2.2.2.2.1 y.2.1.1 y.2.1.2.1 y.2.1.2.2.1 y.2.1.2.2.2.1 y.2.2.1 (zW K)
section
variable (aF:dJ R) (bg:jj R) (bl:jC R) (cB:zT R) (cg:zU R)
def l7:List (oi R) := [(86,true,(aI lZ l0 (gL aF) ax)),(129,false,(um bg ax)),(128,true,(vd bl ax))]
def Ih (dx:Int→Int→Int→Int→Int→ah→(List ah)→Int→Int→Int→ah→Option R) (x5:Int) (x6:Int) (x7:Int) (x8:Int) (x9:Int) (Un:ah) (Ni:List ah) (CI:Int) (HC:Int) (Lp:Int) (oj:ah) (e0:Int→Int→Int→ah→(List ah)→Int→Int→Int→ah→Option R):Option R :=
 bif (decide (x6<x5))then (none)else (e0 x7 x8 x9 Un Ni CI HC Lp oj)
def Ii (K:Ex→St→Option R) (rc:mE→Option R) (d:mE):Option R:=Ih (fun z0 z1 z2 z3 z4 z5 z6 z7 z8 z9 Rp=>rc (z0,z1,z2,z3,z4,z5,z6,z7,z8,z9,Rp)) d.1 d.2.1 d.2.2.1 d.2.2.2.1 d.2.2.2.2.1 d.2.2.2.2.2.1 d.2.2.2.2.2.2.1 d.2.2.2.2.2.2.2.1 d.2.2.2.2.2.2.2.2.1 d.2.2.2.2.2.2.2.2.2.1 d.2.2.2.2.2.2.2.2.2.2 (zV K)
def vg (dx:Nat→Int→Int→Int→Int→Int→ah→(List ah)→Nat→Int→Int→Int→ah→(List Json)→Option R) (Qn:Nat) (x26:Int) (ZF:Int) (x28:Int) (x29:Int) (x30:Int) (x31:ah) (x32:List ah) (x33:Nat) (x34:Int) (x35:Int) (x36:Int) (x37:ah) (x38:List Json) (e0:Int→Int→Int→ah→(List ah)→Nat→Int→Int→Int→ah→(List Json)→Option R):Option R :=
 bif (decide (ZF<x26))then (ca (decide ((0:Int)≤ZF)&&decide (ZF<Qn)) (ca (decide (ZF.toNat<x38.length)) (aF (⟨(x38.getD ZF.toNat (Ty.aZ .json)).kind,⟨(x38.getD ZF.toNat (Ty.aZ .json)).num.ao,(x38.getD ZF.toNat (Ty.aZ .json)).num.exp⟩,(x38.getD ZF.toNat (Ty.aZ .json)).text,(x38.getD ZF.toNat (Ty.aZ .json)).names,(x38.getD ZF.toNat (Ty.aZ .json)).items⟩:Json) (fun W0=>ca (decide ((0:Int)≤ZF)&&decide (ZF<x33)) (ca (decide (ZF.toNat<x38.length)) (dx Qn x26 (IntKind.i64.wrap (ZF+1)) x28 x29 x30 x31 x32 x33 x34 x35 x36 x37 (x38.set ZF.toNat (⟨W0.kind,⟨W0.num.ao,W0.num.exp⟩,W0.text,W0.names,W0.items⟩:Json))))))))else (e0 x28 x29 x30 x31 x32 x33 x34 x35 x36 x37 x38)
def Ij (K:Ex→St→Option R) (rc:mF→Option R) (d:mF):Option R:=vg aF (fun z0 z1 z2 z3 z4 z5 z6 z7 z8 z9 Rp vN z12 z13=>rc (z0,z1,z2,z3,z4,z5,z6,z7,z8,z9,Rp,vN,z12,z13)) d.1 d.2.1 d.2.2.1 d.2.2.2.1 d.2.2.2.2.1 d.2.2.2.2.2.1 d.2.2.2.2.2.2.1 d.2.2.2.2.2.2.2.1 d.2.2.2.2.2.2.2.2.1 d.2.2.2.2.2.2.2.2.2.1 d.2.2.2.2.2.2.2.2.2.2.1 d.2.2.2.2.2.2.2.2.2.2.2.1 d.2.2.2.2.2.2.2.2.2.2.2.2.1 d.2.2.2.2.2.2.2.2.2.2.2.2.2 (zW K)
def n5:Nat→Option (Hint×cJ R):=fun i=>match i with
 | 4=>some (vf,(cE pP pQ (GM cB) (cE pR pS (GN cg) iK)))
 | _=>none
theorem NX (K:Ex→St→Option R) (rc:St→Option R) (d:mE):roundOf tt (cO (l7 aF bg bl)) (n5 cB cg) 0 ((aA (bb Tryz.f86)).getD 0 .skip) vf (xQ d) rc K=Ii K (fun d=>rc (xQ d)) d:=by kernel_rfl
theorem NY (K:Ex→St→Option R) (rc:St→Option R) (d:mF):roundOf tt (cO (l7 aF bg bl)) (n5 cB cg) 0 ((aA (bb Tryz.f86)).getD 0 .skip) Bx (xR d) rc K=Ij aF K (fun d=>rc (xR d)) d:=by kernel_rfl
def I6 (x1:Json) (k0:Json→Option R):Option R :=
 bl x1.names (fun y2=>bg x1.items (cB (Int.natAbs 0+Int.natAbs 0+Int.natAbs x1.kind+Int.natAbs x1.num.ao+Int.natAbs x1.num.exp+List.length x1.text+List.length y2+Int.natAbs 0+Int.natAbs 0+Int.natAbs 0+List.length ([]:ah)+64) 0 0 x1.kind x1.num.ao x1.num.exp x1.text y2 0 0 0 ([]:ah) (fun Fo R4 Nj ZG V1 GO y22 y23 y24=>k0 (⟨Fo,⟨R4,Nj⟩,ZG,V1,([]:List Json)⟩:Json))) (fun y3 y4=>cg (Int.natAbs (y3:Int)+Int.natAbs 0+Int.natAbs x1.kind+Int.natAbs x1.num.ao+Int.natAbs x1.num.exp+List.length x1.text+List.length y2+Int.natAbs 0+Int.natAbs 0+Int.natAbs 0+List.length ([]:ah)+List.length y4+64) y3 (y3:Int) 0 x1.kind x1.num.ao x1.num.exp x1.text y2 y3 0 0 0 ([]:ah) y4 (fun ZH ZZ Z0 W1 y44 y45 y46 y47 y48 y49 y50=>k0 (⟨ZH,⟨ZZ,Z0⟩,W1,y44,y50⟩:Json))))
theorem Ye:dC (R:=R) tt (l7 aF bg bl) (n5 cB cg) false Tryz.f86 lZ l0 (gL (I6 bg bl cB cg)):=fun x y k=>by kernel_rfl
end
theorem V2 (aF:dJ R) (uo:aC.Spec.Ok Tryz.prog 86 (aI lZ l0 (gL aF) ax)):ct (R:=R) Tryz.prog (l7 (R:=R) aF bg bl) := .p uo <| .d (CO R) rfl <| .c (Dl R) <| .n
def cB:zT R
 | 0,_,_,_,_,_,_,_,_,_,_,_,_=>none
 | n+1,gh,gl,gv,mB,v7,xS,Ee,Ef,HD,HE,pA,e0=>Ih (fun gh gl gv mB v7 xS Ee Ef HD HE pA=>cB n gh gl gv mB v7 xS Ee Ef HD HE pA e0) gh gl gv mB v7 xS Ee Ef HD HE pA e0
def Ik (K:Ex→St→Option R) (n:Nat) (d:mE):Option R:=cB n d.1 d.2.1 d.2.2.1 d.2.2.2.1 d.2.2.2.2.1 d.2.2.2.2.2.1 d.2.2.2.2.2.2.1 d.2.2.2.2.2.2.2.1 d.2.2.2.2.2.2.2.2.1 d.2.2.2.2.2.2.2.2.2.1 d.2.2.2.2.2.2.2.2.2.2 (zV K)
def cg (aF:dJ R):zU R
 | 0,_,_,_,_,_,_,_,_,_,_,_,_,_,_,_=>none
 | n+1,gh,gl,gv,mB,v7,xS,Ee,Ef,HD,HE,pA,xT,Dm,Dn,e0=>vg aF (fun gh gl gv mB v7 xS Ee Ef HD HE pA xT Dm Dn=>cg aF n gh gl gv mB v7 xS Ee Ef HD HE pA xT Dm Dn e0) gh gl gv mB v7 xS Ee Ef HD HE pA xT Dm Dn e0
def Il (aF:dJ R) (K:Ex→St→Option R) (n:Nat) (d:mF):Option R:=cg aF n d.1 d.2.1 d.2.2.1 d.2.2.2.1 d.2.2.2.2.1 d.2.2.2.2.2.1 d.2.2.2.2.2.2.1 d.2.2.2.2.2.2.2.1 d.2.2.2.2.2.2.2.2.1 d.2.2.2.2.2.2.2.2.2.1 d.2.2.2.2.2.2.2.2.2.2.1 d.2.2.2.2.2.2.2.2.2.2.2.1 d.2.2.2.2.2.2.2.2.2.2.2.2.1 d.2.2.2.2.2.2.2.2.2.2.2.2.2 (zW K)
theorem Rq (aF:dJ R) (other:cJ R) (ho:gV tt (cO (l7 (R:=R) aF bg bl)) (n5 (R:=R) cB (cg aF)) 0 ((aA (bb Tryz.f86)).getD 0 .skip) vf other):gV tt (cO (l7 (R:=R) aF bg bl)) (n5 (R:=R) cB (cg aF)) 0 ((aA (bb Tryz.f86)).getD 0 .skip) vf (cE pP pQ (GM (cB)) other) :=
 cN (A:=Ik) ho (dT xQ (Ii) (Ik) (fun _ _=>by kernel_rfl) (NX aF bg bl cB (cg aF)) (fun _ _ _=>by kernel_rfl)) Ie Sy (fun _ _=>by kernel_rfl) (fun _ _ _=>by kernel_rfl)
theorem Rr (aF:dJ R) (other:cJ R) (ho:gV tt (cO (l7 (R:=R) aF bg bl)) (n5 (R:=R) cB (cg aF)) 0 ((aA (bb Tryz.f86)).getD 0 .skip) Bx other):gV tt (cO (l7 (R:=R) aF bg bl)) (n5 (R:=R) cB (cg aF)) 0 ((aA (bb Tryz.f86)).getD 0 .skip) Bx (cE pR pS (GN (cg aF)) other) :=
 cN (A:=Il aF) ho (dT xR (Ij aF) (Il aF) (fun _ _=>by kernel_rfl) (NY aF bg bl cB (cg aF)) (fun _ _ _=>by kernel_rfl)) Ig Sz (fun _ _=>by kernel_rfl) (fun _ _ _=>by kernel_rfl)
def yD (aF:dJ R):dJ R:=fun x1 k0=>I6 bg bl cB (cg aF) x1 k0
theorem SA (R:Type) (aF:dJ R) (uo:aC.Spec.Ok Tryz.prog 86 (aI lZ l0 (gL aF) ax)):∀a∈aA (bb Tryz.f86),gJ tt (cO (l7 (R:=R) aF bg bl)) (n5 (R:=R) cB (cg aF)) 0 a:=by
 refine eX 1 (by kernel_rfl) fun i hi => ?_
 match i,hi with
 | 0,_=>exact cy (by kernel_rfl) (Rq aF _ (Rr aF _ dt))
 | n+1,hi=>omega
theorem SB (R:Type) (aF:dJ R) (uo:aC.Spec.Ok Tryz.prog 86 (aI lZ l0 (gL aF) ax)):k6 Tryz.prog 86 (DR (yD aF)):=br TT mixed (V2 aF uo) rfl rfl rfl rfl (SA R aF uo) (Ye aF bg bl cB (cg aF))
def iI:Nat→dJ R
 | 0,_,_=>none
 | n+1,gh,k0'=>yD (iI n) gh k0'
theorem field_fresh_N_succ (n:Nat):iI (R:=R) (n+1)=yD (iI n):=by kernel_rfl
theorem Uo (R:Type):∀n,aC.Spec.Ok Tryz.prog 86 (aI lZ l0 (gL (iI (R:=R) n)) ax) :=
 AL (run:=fun n=>gL (iI (R:=R) n)) (fun x y k=>by kernel_rfl) fun n hyp=>SB R (iI n) hyp ax (jl _)
def cp:dJ R:=fun x1 k0=>iI (Json.depth x1+2) x1 k0
theorem Up (R:Type):gL (R:=R) cp=fun x y k=>gL (iI (Json.depth (⟨x.1.1,⟨x.1.2.1,x.1.2.2.1⟩,x.1.2.2.2.1,x.1.2.2.2.2.1,x.1.2.2.2.2.2.1⟩:Json)+2)) x y k:=by kernel_rfl
theorem Dp (R:Type) (other:aC.Spec R) (ho:aC.Spec.Ok Tryz.prog 86 other):aC.Spec.Ok Tryz.prog 86 (aI lZ l0 (gL cp) other) :=
 GL (J8 (run:=fun n=>gL (iI (R:=R) n)) (fun x y=>(Json.depth (⟨x.1.1,⟨x.1.2.1,x.1.2.2.1⟩,x.1.2.2.2.1,x.1.2.2.2.2.1,x.1.2.2.2.2.2.1⟩:Json)+2)) ho (Uo R)) (Up R)
end Go.Proofs.YtidfokedcnhahaaGreatDoor
/-
 Functions of the program as pure Lean functions, and the ties; printed by wip/tools/emit.py.
-/
set_option maxRecDepth 100000
namespace Go.Proofs.YtidfokedcnhahaaGreatDoor
open Go Go.aC
variable {R:Type}
/-! ### humpyard/topic.Name -/
abbrev topic_Name_ty (R:Type):Type:=ah→(Bool→Option R)→Option R
abbrev topic_Name_p:List cM := [.leaf (.str)]
abbrev topic_Name_q:List aW := []
def topic_Name_rr (fn:topic_Name_ty R):k9 R topic_Name_p topic_Name_q:=fun x y k=>fn x.1 (fun q0=>k (.bool q0) [])
def topic_Name_s (fn:topic_Name_ty R):=aI topic_Name_p topic_Name_q (topic_Name_rr fn)
section
def topic_Name_E:List (oi R) := [(105,true,(PH R))]
def topic_Name_X (x1:ah) (k0:Bool→Option R):Option R :=
 ca (vY ([97,98,99,100,101,102,103,104,105,106,107,108,109,110,111,112,113,114,115,116,117,118,119,120,121,122,65,66,67,68,69,70,71,72,73,74,75,76,77,78,79,80,81,82,83,84,85,86,87,88,89,90,48,49,50,51,52,53,54,55,56,57,95,46,58,45]:ah)&&decide (([97,98,99,100,101,102,103,104,105,106,107,108,109,110,111,112,113,114,115,116,117,118,119,120,121,122,65,66,67,68,69,70,71,72,73,74,75,76,77,78,79,80,81,82,83,84,85,86,87,88,89,90,48,49,50,51,52,53,54,55,56,57,95,46,58,45]:ah).length<4294967281)) (bif ((bt x1 ([97,98,99,100,101,102,103,104,105,106,107,108,109,110,111,112,113,114,115,116,117,118,119,120,121,122,65,66,67,68,69,70,71,72,73,74,75,76,77,78,79,80,81,82,83,84,85,86,87,88,89,90,48,49,50,51,52,53,54,55,56,57,95,46,58,45]:ah))==([]:ah))then (bif (!(x1==([]:ah)))then (k0 (decide ((x1.length:Int)≤(16:Int))))else (k0 false))else (k0 false))
theorem topic_Name_ok:dC (R:=R) tt (topic_Name_E (R:=R)) rP false Tryz.f61 topic_Name_p topic_Name_q (topic_Name_rr topic_Name_X):=fun x y k=>by kernel_rfl
end
theorem topic_Name_EOk:ct (R:=R) Tryz.prog (topic_Name_E (R:=R)) := .p (Sx) <| .n
def topic_Name:topic_Name_ty R:=fun x1 k0=>topic_Name_X x1 k0
theorem topic_Name_S_ok (R:Type):k6 Tryz.prog 61 (topic_Name_s (topic_Name (R:=R))):=br TT mixed (topic_Name_EOk (R:=R)) rfl rfl rfl rfl cb (topic_Name_ok)
/-! ### humpyard/order.num$1 -/
abbrev By (R:Type):Type:=Int→(Bool→Option R)→Option R
abbrev I7:List cM := [.leaf (.int .i64)]
abbrev I8:List aW := []
def NZ (fn:By R):k9 R I7 I8:=fun x y k=>fn x.1 (fun q0=>k (.bool q0) [])
def Qo (fn:By R):=aI I7 I8 (NZ fn)
section
def I9 (x1:Int) (k0:Bool→Option R):Option R :=
 bif (decide (x1<(0:Int)))then (k0 true)else (k0 (decide (x1>(1000000000:Int))))
theorem Yf:dC (R:=R) tt [] rP false Tryz.f107 I7 I8 (NZ I9):=fun x y k=>by kernel_rfl
end
def fk:By R:=fun x1 k0=>I9 x1 k0
theorem Uq (R:Type):k6 Tryz.prog 107 (Qo (fk (R:=R))):=br TT mixed .n rfl rfl rfl rfl cb (Yf)
/-! ### slices.IndexFunc[[]int,int] -/
abbrev iu (R:Type):Type:=(List Int)→(Int→Option R)→Option R
abbrev lO:List cM := [.leaf (.sl (.int .i64)), .leaf (.fn 107)]
abbrev lP:List aW := []
def rD (fn:iu R):k9 R lO lP:=fun x y k=>fn x.1 (fun q0=>k (.int .i64 q0) [])
def rX (fn:iu R):=aI lO lP (rD fn)
abbrev jr (R:Type):Type:=Nat→(List Int)→Int→Int→(Option R)→(Int→Option R)→Option R
def gw:Hint := { live := [0,1,7,8],own := [],rows := [],cells := [],drop := [],out := [4] }
abbrev dN:Type:=(List Int)×Int×Int
def ji:dN→St:=fun d=>⟨.sl (.int .i64) d.1 .no :: .func 107 [] []::U 5 (.int .i64 d.2.1 :: .int .i64 d.2.2::U 10 ([])), []⟩
def js (K:Ex→St→Option R):Option R:=K (.exit 0) ⟨U 19 ([]), []⟩
def jt (K:Ex→St→Option R) (q0:Int):Option R:=K (.ret) ⟨U 4 (.int .i64 q0::U 14 ([])), []⟩
abbrev eS:List cM := .leaf (.sl (.int .i64)) :: .leaf (.fn 107)::PU 5 (.leaf (.int .i64) :: .leaf (.int .i64)::PU 10 ([]))
abbrev eT:List aW := []
def oC (x:cM.bQ eS) (y:aW.bQ eT):Nat:=(List.length x.1+Int.natAbs x.2.2.2.2.2.2.2.1+Int.natAbs ((t8 x).1)+64)
def zX (x:cM.bQ eS) (y:aW.bQ eT):dN:=(x.1,x.2.2.2.2.2.2.2.1,(t8 x).1)
def n7 (L:jr R):wU R eS eT:=fun x y K=>L (oC x y) x.1 x.2.2.2.2.2.2.2.1 ((t8 x).1) (js K) (jt K)
section
variable (fk:By R) (aU:jr R)
def eN:List (oi R) := [(107,true,(Qo fk ax))]
def gC (dx:(List Int)→Int→Int→Option R) (x2:List Int) (x3:Int) (x4:Int) (e0:Option R) (e1:Int→Option R):Option R :=
 bif (decide (x4<x3))then (ca (decide ((0:Int)≤x4)&&decide (x4<x2.length)) (fk (x2.getD x4.toNat (Ty.aZ (.int .i64))) (fun y5=>bif y5 then (e1 x4)else (dx x2 x3 (IntKind.i64.wrap (x4+1))))))else (e0)
def oD (K:Ex→St→Option R) (rc:dN→Option R) (d:dN):Option R:=gC fk (fun z0 z1 z2=>rc (z0,z1,z2)) d.1 d.2.1 d.2.2 (js K) (jt K)
def fV:Nat→Option (Hint×cJ R):=fun i=>match i with
 | 2=>some (gw,(cE eS eT (n7 aU) iK))
 | _=>none
theorem wV (K:Ex→St→Option R) (rc:St→Option R) (d:dN):roundOf tt (cO (eN fk)) (fV aU) 0 ((aA (bb Tryz.f143)).getD 0 .skip) gw (ji d) rc K=oD fk K (fun d=>rc (ji d)) d:=by kernel_rfl
def lQ (x1:List Int) (k0:Int→Option R):Option R :=
 aU (List.length x1+Int.natAbs (x1.length:Int)+Int.natAbs 0+64) x1 (x1.length:Int) 0 (k0 (-1)) (fun y6=>k0 y6)
theorem CP:dC (R:=R) tt (eN fk) (fV aU) false Tryz.f143 lO lP (rD (lQ aU)):=fun x y k=>by kernel_rfl
end
theorem Bz:ct (R:=R) Tryz.prog (eN (R:=R) fk) := .c (Uq R) <| .n
def aU:jr R
 | 0,_,_,_,_,_=>none
 | n+1,gh,gl,gv,e0,e1=>gC fk (fun gh gl gv=>aU n gh gl gv e0 e1) gh gl gv e0 e1
def oE (K:Ex→St→Option R) (n:Nat) (d:dN):Option R:=aU n d.1 d.2.1 d.2.2 (js K) (jt K)
theorem yE (other:cJ R) (ho:gV tt (cO (eN (R:=R) fk)) (fV (R:=R) aU) 0 ((aA (bb Tryz.f143)).getD 0 .skip) gw other):gV tt (cO (eN (R:=R) fk)) (fV (R:=R) aU) 0 ((aA (bb Tryz.f143)).getD 0 .skip) gw (cE eS eT (n7 (aU)) other) :=
 cN (A:=oE) ho (dT ji (oD fk) (oE) (fun _ _=>by kernel_rfl) (wV fk aU) (fun _ _ _=>by kernel_rfl)) oC zX (fun _ _=>by kernel_rfl) (fun _ _ _=>by kernel_rfl)
def cH:iu R:=fun x1 k0=>lQ aU x1 k0
theorem zY (R:Type):∀a∈aA (bb Tryz.f143),gJ tt (cO (eN (R:=R) fk)) (fV (R:=R) aU) 0 a:=by
 refine eX 1 (by kernel_rfl) fun i hi => ?_
 match i,hi with
 | 0,_=>exact cy (by kernel_rfl) (yE _ dt)
 | n+1,hi=>omega
theorem A8 (R:Type):k6 Tryz.prog 143 (rX (cH (R:=R))):=br TT mixed (Bz (R:=R)) rfl rfl rfl rfl (zY R) (CP fk aU)
/-! ### slices.ContainsFunc[[]int,int] -/
abbrev gD (R:Type):Type:=(List Int)→(Bool→Option R)→Option R
abbrev kb:List cM := [.leaf (.sl (.int .i64)), .leaf (.fn 107)]
abbrev ke:List aW := []
def oF (fn:gD R):k9 R kb ke:=fun x y k=>fn x.1 (fun q0=>k (.bool q0) [])
def ph (fn:gD R):=aI kb ke (oF fn)
section
variable (cH:iu R)
def pj:List (oi R) := [(143,true,(rX cH ax))]
def kf (x1:List Int) (k0:Bool→Option R):Option R :=
 cH x1 (fun y2=>k0 (decide (y2≥(0:Int))))
theorem zZ:dC (R:=R) tt (pj cH) rP false Tryz.f106 kb ke (oF (kf cH)):=fun x y k=>by kernel_rfl
end
theorem yF:ct (R:=R) Tryz.prog (pj (R:=R) cH) := .c (A8 R) <| .n
def cn:gD R:=fun x1 k0=>kf cH x1 k0
theorem xU (R:Type):k6 Tryz.prog 106 (ph (cn (R:=R))):=br TT mixed (yF (R:=R)) rfl rfl rfl rfl cb (zZ cH)
/-! ### humpyard/order.num -/
abbrev FO (R:Type):Type:=(List Int)→(Bool→Option R)→Option R
abbrev N0:List cM := [.leaf (.sl (.int .i64))]
abbrev N1:List aW := []
def SC (fn:FO R):k9 R N0 N1:=fun x y k=>fn x.1 (fun q0=>k (.bool q0) [])
def Vm (fn:FO R):=aI N0 N1 (SC fn)
section
variable (cn:gD R)
def Vn:List (oi R) := [(106,true,(ph cn ax))]
def N2 (x1:List Int) (k0:Bool→Option R):Option R :=
 cn x1 (fun y2=>k0 (!y2))
theorem order_num_ok:dC (R:=R) tt (Vn cn) rP false Tryz.f62 N0 N1 (SC (N2 cn)):=fun x y k=>by kernel_rfl
end
theorem Z1:ct (R:=R) Tryz.prog (Vn (R:=R) cn) := .c (xU R) <| .n
def fW:FO R:=fun x1 k0=>N2 cn x1 k0
theorem Yg (R:Type):k6 Tryz.prog 62 (Vm (fW (R:=R))):=br TT mixed (Z1 (R:=R)) rfl rfl rfl rfl cb (order_num_ok cn)
/-! ### humpyard/order.Right -/
abbrev oG (R:Type):Type:=Order→(Bool→Option R)→Option R
abbrev Ja:List cM := [.agg [.int .i64, .str, .int .i64, .int .i64, .sl .stop, .sl .qD]]
abbrev Jb:List aW := []
def N3 (fn:oG R):k9 R Ja Jb:=fun x y k=>fn (⟨x.1.1,x.1.2.1,x.1.2.2.1,x.1.2.2.2.1,x.1.2.2.2.2.1,x.1.2.2.2.2.2.1⟩:Order) (fun q0=>k (.bool q0) [])
def yG (fn:oG R):=aI Ja Jb (N3 fn)
abbrev Aa (R:Type):Type:=Nat→(List aC.Way)→Int→Int→Order→(Option R)→(Bool→Option R)→Option R
def vh:Hint := { live := [1,66,67,68],own := [],rows := [],cells := [],drop := [],out := [2] }
abbrev mG:Type:=(List aC.Way)×Int×Int×Order
def xV:mG→St:=fun d=>⟨.undef :: .ptr 0 0::U 64 (.sl .qD d.1 .no :: .int .i64 d.2.1 :: .int .i64 d.2.2.1::U 59 ([])), [.cells [.int .i64 d.2.2.2.header, .str d.2.2.2.cU, .int .i64 d.2.2.2.order, .int .i64 d.2.2.2.update, .sl .stop d.2.2.2.nodes .no, .sl .qD d.2.2.2.bN .no]]⟩
def Ab (K:Ex→St→Option R):Option R:=K (.exit 0) ⟨U 128 ([]), []⟩
def Ac (K:Ex→St→Option R) (q0:Bool):Option R:=K (.ret) ⟨U 2 (.bool q0::U 125 ([])), []⟩
abbrev pT:List cM := .leaf (.undef) :: .leaf (.ptr 0 0)::PU 64 (.leaf (.sl .qD) :: .leaf (.int .i64) :: .leaf (.int .i64)::PU 59 ([]))
abbrev pU:List aW := [.cells [.int .i64, .str, .int .i64, .int .i64, .sl .stop, .sl .qD]]
def Im (x:cM.bQ pT) (y:aW.bQ pU):Nat:=(List.length ((t8 (t8 (t8 (t8 (t8 (t8 (t8 (t8 x)))))))).2.2.1)+Int.natAbs ((t8 (t8 (t8 (t8 (t8 (t8 (t8 (t8 x)))))))).2.2.2.1)+Int.natAbs ((t8 (t8 (t8 (t8 (t8 (t8 (t8 (t8 x)))))))).2.2.2.2.1)+Order.fu (⟨y.1.1,y.1.2.1,y.1.2.2.1,y.1.2.2.2.1,y.1.2.2.2.2.1,y.1.2.2.2.2.2.1⟩:Order)+64)
def SD (x:cM.bQ pT) (y:aW.bQ pU):mG:=((t8 (t8 (t8 (t8 (t8 (t8 (t8 (t8 x)))))))).2.2.1,(t8 (t8 (t8 (t8 (t8 (t8 (t8 (t8 x)))))))).2.2.2.1,(t8 (t8 (t8 (t8 (t8 (t8 (t8 (t8 x)))))))).2.2.2.2.1,(⟨y.1.1,y.1.2.1,y.1.2.2.1,y.1.2.2.2.1,y.1.2.2.2.2.1,y.1.2.2.2.2.2.1⟩:Order))
def GP (L:Aa R):wU R pT pU:=fun x y K=>L (Im x y) ((t8 (t8 (t8 (t8 (t8 (t8 (t8 (t8 x)))))))).2.2.1) ((t8 (t8 (t8 (t8 (t8 (t8 (t8 (t8 x)))))))).2.2.2.1) ((t8 (t8 (t8 (t8 (t8 (t8 (t8 (t8 x)))))))).2.2.2.2.1) (⟨y.1.1,y.1.2.1,y.1.2.2.1,y.1.2.2.2.1,y.1.2.2.2.2.1,y.1.2.2.2.2.2.1⟩:Order) (Ab K) (Ac K)
section
variable (fW:FO R) (topic_Name:topic_Name_ty R) (cK:Aa R)
def uN:List (oi R) := [(62,true,(Vm fW ax)),(61,true,(topic_Name_s topic_Name ax))]
def vi (dx:(List aC.Way)→Int→Int→Order→Option R) (x6:List aC.Way) (x7:Int) (x8:Int) (x9:Order) (e0:Option R) (e1:Bool→Option R):Option R :=
 bif (decide (x8<x7))then (ca (decide ((0:Int)≤x8)&&decide (x8<x6.length)) (ca (decide ((0:Int)≤x8)&&decide (x8<x9.nodes.length)) (ca (decide ((0:Int)≤(IntKind.i64.wrap (x8+1)))&&decide ((IntKind.i64.wrap (x8+1))<x9.nodes.length)) (fW ([(x6.getD x8.toNat (Ty.aZ .qD)).yz,(x6.getD x8.toNat (Ty.aZ .qD)).seq,(x9.nodes.getD (IntKind.i64.wrap (x8+1)).toNat (Ty.aZ .stop)).node,(x9.nodes.getD (IntKind.i64.wrap (x8+1)).toNat (Ty.aZ .stop)).seq]:List Int) (fun uf=>bif (!uf)then (e1 false)else (bif ((x6.getD x8.toNat (Ty.aZ .qD)).seq != (IntKind.i64.wrap ((x9.nodes.getD x8.toNat (Ty.aZ .stop)).seq+1)))then (e1 false)else (bif ((x9.nodes.getD (IntKind.i64.wrap (x8+1)).toNat (Ty.aZ .stop)).seq != (IntKind.i64.wrap ((x6.getD x8.toNat (Ty.aZ .qD)).seq+1)))then (e1 false)else (bif (!((x6.getD x8.toNat (Ty.aZ .qD)).bP==(x9.nodes.getD (IntKind.i64.wrap (x8+1)).toNat (Ty.aZ .stop)).bP))then (e1 false)else (bif (x9.nodes.getD (IntKind.i64.wrap (x8+1)).toNat (Ty.aZ .stop)).bP then (bif (!(x9.nodes.getD x8.toNat (Ty.aZ .stop)).bP)then (e1 false)else (dx x6 x7 (IntKind.i64.wrap (x8+1)) x9))else (dx x6 x7 (IntKind.i64.wrap (x8+1)) x9))))))))))else (e0)
def Io (K:Ex→St→Option R) (rc:mG→Option R) (d:mG):Option R:=vi fW (fun z0 z1 z2 z3=>rc (z0,z1,z2,z3)) d.1 d.2.1 d.2.2.1 d.2.2.2 (Ab K) (Ac K)
def yH:Nat→Option (Hint×cJ R):=fun i=>match i with
 | 8=>some (vh,(cE pT pU (GP cK) iK))
 | _=>none
theorem N4 (K:Ex→St→Option R) (rc:St→Option R) (d:mG):roundOf tt (cO (uN fW topic_Name)) (yH cK) 0 ((aA (bb Tryz.f21)).getD 0 .skip) vh (xV d) rc K=Io fW K (fun d=>rc (xV d)) d:=by kernel_rfl
def Jc (x1:Order) (k0:Bool→Option R):Option R :=
 topic_Name x1.cU (fun y2=>bif (!y2)then (k0 false)else (fW ([x1.header,x1.order,x1.update]:List Int) (fun y3=>bif (!y3)then (k0 false)else (bif (decide ((x1.nodes.length:Int)<(1:Int)))then (k0 false)else (bif (decide ((x1.nodes.length:Int)>(64:Int)))then (k0 false)else (bif ((x1.bN.length:Int) != (IntKind.i64.wrap ((x1.nodes.length:Int) - 1)))then (k0 false)else (ca (decide ((0:Int)<x1.nodes.length)) (bif ((Int.tmod (x1.nodes.getD 0 (Ty.aZ .stop)).seq 2) != 0)then (k0 false)else (bif (!(x1.nodes.getD 0 (Ty.aZ .stop)).bP)then (k0 false)else (fW ([(x1.nodes.getD 0 (Ty.aZ .stop)).node,(x1.nodes.getD 0 (Ty.aZ .stop)).seq]:List Int) (fun y5=>bif (!y5)then (k0 false)else (cK (List.length x1.bN+Int.natAbs (x1.bN.length:Int)+Int.natAbs 0+Order.fu x1+64) x1.bN (x1.bN.length:Int) 0 x1 (k0 true) (fun Ad=>k0 Ad)))))))))))))
theorem Yh:dC (R:=R) tt (uN fW topic_Name) (yH cK) false Tryz.f21 Ja Jb (N3 (Jc fW topic_Name cK)):=fun x y k=>by kernel_rfl
end
theorem V3:ct (R:=R) Tryz.prog (uN (R:=R) fW topic_Name) := .c (Yg R) <| .c (topic_Name_S_ok R) <| .n
def cK:Aa R
 | 0,_,_,_,_,_,_=>none
 | n+1,gh,gl,gv,mB,e0,e1=>vi fW (fun gh gl gv mB=>cK n gh gl gv mB e0 e1) gh gl gv mB e0 e1
def Ip (K:Ex→St→Option R) (n:Nat) (d:mG):Option R:=cK n d.1 d.2.1 d.2.2.1 d.2.2.2 (Ab K) (Ac K)
theorem Rs (other:cJ R) (ho:gV tt (cO (uN (R:=R) fW topic_Name)) (yH (R:=R) cK) 0 ((aA (bb Tryz.f21)).getD 0 .skip) vh other):gV tt (cO (uN (R:=R) fW topic_Name)) (yH (R:=R) cK) 0 ((aA (bb Tryz.f21)).getD 0 .skip) vh (cE pT pU (GP (cK)) other) :=
 cN (A:=Ip) ho (dT xV (Io fW) (Ip) (fun _ _=>by kernel_rfl) (N4 fW topic_Name cK) (fun _ _ _=>by kernel_rfl)) Im SD (fun _ _=>by kernel_rfl) (fun _ _ _=>by kernel_rfl)
def bG:oG R:=fun x1 k0=>Jc fW topic_Name cK x1 k0
theorem SE (R:Type):∀a∈aA (bb Tryz.f21),gJ tt (cO (uN (R:=R) fW topic_Name)) (yH (R:=R) cK) 0 a:=by
 refine eX 1 (by kernel_rfl) fun i hi => ?_
 match i,hi with
 | 0,_=>exact cy (by kernel_rfl) (Rs _ dt)
 | n+1,hi=>omega
theorem wW (R:Type):k6 Tryz.prog 21 (yG (bG (R:=R))):=br TT mixed (V3 (R:=R)) rfl rfl rfl rfl (SE R) (Yh fW topic_Name cK)
/-! ### humpyard/decimal.within[int] -/
abbrev jm (R:Type):Type:=Int→Int→Int→(Bool→Option R)→Option R
abbrev v8:List cM := [.leaf (.int .i64), .leaf (.int .i64), .leaf (.int .i64)]
abbrev wa:List aW := []
def C0 (fn:jm R):k9 R v8 wa:=fun x y k=>fn x.1 x.2.1 x.2.2.1 (fun q0=>k (.bool q0) [])
def pV (fn:jm R):=aI v8 wa (C0 fn)
section
def mq (x1:Int) (x2:Int) (x3:Int) (k0:Bool→Option R):Option R :=
 bif (decide (x1≤x2))then (k0 (decide (x2≤x3)))else (k0 false)
theorem Nk:dC (R:=R) tt [] rP false Tryz.f135 v8 wa (C0 mq):=fun x y k=>by kernel_rfl
end
def ay:jm R:=fun x1 x2 x3 k0=>mq x1 x2 x3 k0
theorem rY (R:Type):k6 Tryz.prog 135 (pV (ay (R:=R))):=br TT mixed .n rfl rfl rfl rfl cb (Nk)
/-! ### humpyard/decimal.Make -/
abbrev ur (R:Type):Type:=Int→Int→(ft→Bool→Option R)→Option R
abbrev GQ:List cM := [.leaf (.int .i64), .leaf (.int .i64)]
abbrev GR:List aW := []
def MN (fn:ur R):k9 R GQ GR:=fun x y k=>fn x.1 x.2.1 (fun q0 q1=>k (.tuple [.agg [.int .i64 q0.ao, .int .i64 q0.exp], .bool q1]) [])
def GU (fn:ur R):=aI GQ GR (MN fn)
abbrev xW (R:Type):Type:=Nat→Int→Int→ft→(Int→Int→ft→Option R)→Option R
def tA:Hint := { live := [0,1,4],own := [],rows := [],cells := [],drop := [],out := [0,1,4,5] }
abbrev lR:Type:=Int×Int×ft
def wc:lR→St:=fun d=>⟨.int .i64 d.1 :: .int .i64 d.2.1::U 2 (.ptr 0 0::U 25 ([])), [.cells [.int .i64 d.2.2.ao, .int .i64 d.2.2.exp]]⟩
def xX (K:Ex→St→Option R) (q0:Int) (q1:Int) (q2:ft):Option R:=K (.exit 0) ⟨.int .i64 q0 :: .int .i64 q1::U 2 (.ptr 0 0::U 25 ([])), [.cells [.int .i64 q2.ao, .int .i64 q2.exp]]⟩
abbrev oH:List cM := .leaf (.int .i64) :: .leaf (.int .i64)::PU 2 (.leaf (.ptr 0 0)::PU 25 ([]))
abbrev oI:List aW := [.cells [.int .i64, .int .i64]]
def GV (x:cM.bQ oH) (y:aW.bQ oI):Nat:=(Int.natAbs x.1+Int.natAbs x.2.1+ft.fu (⟨y.1.1,y.1.2.1⟩:ft)+64)
def Rt (x:cM.bQ oH) (y:aW.bQ oI):lR:=(x.1,x.2.1,(⟨y.1.1,y.1.2.1⟩:ft))
def Fp (L:xW R):wU R oH oI:=fun x y K=>L (GV x y) x.1 x.2.1 (⟨y.1.1,y.1.2.1⟩:ft) (xX K)
section
variable (ay:jm R) (bB:xW R)
def rZ:List (oi R) := [(135,true,(pV ay ax))]
def fw (dx:Int→Int→ft→Option R) (x3:Int) (x4:Int) (x5:ft) (e0:Int→Int→ft→Option R):Option R :=
 bif ((Int.tmod x3 10)==0)then (dx (IntKind.i64.wrap (Int.tdiv x3 10)) (IntKind.i64.wrap (x4+1)) x5)else (e0 x3 x4 x5)
def GW (K:Ex→St→Option R) (rc:lR→Option R) (d:lR):Option R:=fw (fun z0 z1 z2=>rc (z0,z1,z2)) d.1 d.2.1 d.2.2 (xX K)
def wg:Nat→Option (Hint×cJ R):=fun i=>match i with
 | 4=>some (tA,(cE oH oI (Fp bB) iK))
 | _=>none
theorem Nl (K:Ex→St→Option R) (rc:St→Option R) (d:lR):roundOf tt (cO (rZ ay)) (wg bB) 0 ((aA (bb Tryz.f97)).getD 0 .skip) tA (wc d) rc K=GW K (fun d=>rc (wc d)) d:=by kernel_rfl
def ko (x1:Int) (x2:Int) (k0:ft→Bool→Option R):Option R :=
 bif (x1==0)then (k0 (⟨0,0⟩:ft) true)else (bB (Int.natAbs x1+Int.natAbs (min x2 1000000)+ft.fu (⟨0,0⟩:ft)+64) x1 (min x2 1000000) (⟨0,0⟩:ft) (fun y6 y7 y8=>ay (-1000000000000000) y6 1000000000000000 (fun y9=>bif (!y9)then (k0 (⟨0,0⟩:ft) false)else (ay (-9) y7 9 (fun uf=>bif (!uf)then (k0 (⟨0,0⟩:ft) false)else (k0 (⟨y6,y7⟩:ft) true))))))
theorem V4:dC (R:=R) tt (rZ ay) (wg bB) false Tryz.f97 GQ GR (MN (ko ay bB)):=fun x y k=>by kernel_rfl
end
theorem Ur:ct (R:=R) Tryz.prog (rZ (R:=R) ay) := .c (rY R) <| .n
def bB:xW R
 | 0,_,_,_,_=>none
 | n+1,gh,gl,gv,e0=>fw (fun gh gl gv=>bB n gh gl gv e0) gh gl gv e0
def GX (K:Ex→St→Option R) (n:Nat) (d:lR):Option R:=bB n d.1 d.2.1 d.2.2 (xX K)
theorem P3 (other:cJ R) (ho:gV tt (cO (rZ (R:=R) ay)) (wg (R:=R) bB) 0 ((aA (bb Tryz.f97)).getD 0 .skip) tA other):gV tt (cO (rZ (R:=R) ay)) (wg (R:=R) bB) 0 ((aA (bb Tryz.f97)).getD 0 .skip) tA (cE oH oI (Fp (bB)) other) :=
 cN (A:=GX) ho (dT wc (GW) (GX) (fun _ _=>by kernel_rfl) (Nl ay bB) (fun _ _ _=>by kernel_rfl)) GV Rt (fun _ _=>by kernel_rfl) (fun _ _ _=>by kernel_rfl)
def bj:ur R:=fun x1 x2 k0=>ko ay bB x1 x2 k0
theorem Ru (R:Type):∀a∈aA (bb Tryz.f97),gJ tt (cO (rZ (R:=R) ay)) (wg (R:=R) bB) 0 a:=by
 refine eX 1 (by kernel_rfl) fun i hi => ?_
 match i,hi with
 | 0,_=>exact cy (by kernel_rfl) (P3 _ dt)
 | n+1,hi=>omega
theorem Iq (R:Type):k6 Tryz.prog 97 (GU (bj (R:=R))):=br TT mixed (Ur (R:=R)) rfl rfl rfl rfl (Ru R) (V4 ay bB)
/-! ### humpyard/field.Int -/
abbrev BA (R:Type):Type:=Int→(Json→Option R)→Option R
abbrev N5:List cM := [.leaf (.int .i64)]
abbrev N6:List aW := []
def SF (fn:BA R):k9 R N5 N6:=fun x y k=>fn x.1 (fun q0=>k (.agg [.int .i64 q0.kind, .int .i64 q0.num.ao, .int .i64 q0.num.exp, .str q0.text, .sl .str q0.names .no, .sl .json q0.items .no]) [])
def N7 (fn:BA R):=aI N5 N6 (SF fn)
section
variable (bj:ur R)
def Vo:List (oi R) := [(97,true,(GU bj ax))]
def N8 (x1:Int) (k0:Json→Option R):Option R :=
 bj x1 0 (fun y2 y3=>bif (!y3)then (k0 (⟨1,⟨0,0⟩,([]:ah),([]:List ah),([]:List Json)⟩:Json))else (k0 (⟨4,⟨y2.ao,y2.exp⟩,([]:ah),([]:List ah),([]:List Json)⟩:Json)))
theorem field_Int_ok:dC (R:=R) tt (Vo bj) rP false Tryz.f48 N5 N6 (SF (N8 bj)):=fun x y k=>by kernel_rfl
end
theorem Z2:ct (R:=R) Tryz.prog (Vo (R:=R) bj) := .c (Iq R) <| .n
def gn:BA R:=fun x1 k0=>N8 bj x1 k0
theorem N9 (R:Type):k6 Tryz.prog 48 (N7 (gn (R:=R))):=br TT mixed (Z2 (R:=R)) rfl rfl rfl rfl cb (field_Int_ok bj)
/-! ### humpyard/field.Str -/
abbrev FP (R:Type):Type:=ah→(Json→Option R)→Option R
abbrev Oa:List cM := [.leaf (.str)]
abbrev Ob:List aW := []
def SG (fn:FP R):k9 R Oa Ob:=fun x y k=>fn x.1 (fun q0=>k (.agg [.int .i64 q0.kind, .int .i64 q0.num.ao, .int .i64 q0.num.exp, .str q0.text, .sl .str q0.names .no, .sl .json q0.items .no]) [])
def Vp (fn:FP R):=aI Oa Ob (SG fn)
section
def Vq (x1:ah) (k0:Json→Option R):Option R :=
 k0 (⟨5,⟨0,0⟩,x1,([]:List ah),([]:List Json)⟩:Json)
theorem field_Str_ok:dC (R:=R) tt [] rP false Tryz.f34 Oa Ob (SG Vq):=fun x y k=>by kernel_rfl
end
def uO:FP R:=fun x1 k0=>Vq x1 k0
theorem Yi (R:Type):k6 Tryz.prog 34 (Vp (uO (R:=R))):=br TT mixed .n rfl rfl rfl rfl cb (field_Str_ok)
/-! ### humpyard/field.Yes -/
abbrev FQ (R:Type):Type:=Bool→(Json→Option R)→Option R
abbrev Oc:List cM := [.leaf (.bool)]
abbrev Od:List aW := []
def SH (fn:FQ R):k9 R Oc Od:=fun x y k=>fn x.1 (fun q0=>k (.agg [.int .i64 q0.kind, .int .i64 q0.num.ao, .int .i64 q0.num.exp, .str q0.text, .sl .str q0.names .no, .sl .json q0.items .no]) [])
def Vr (fn:FQ R):=aI Oc Od (SH fn)
section
def Vs (x1:Bool) (k0:Json→Option R):Option R :=
 bif x1 then (k0 (⟨3,⟨0,0⟩,([]:ah),([]:List ah),([]:List Json)⟩:Json))else (k0 (⟨2,⟨0,0⟩,([]:ah),([]:List ah),([]:List Json)⟩:Json))
theorem field_Yes_ok:dC (R:=R) tt [] rP false Tryz.f99 Oc Od (SH Vs):=fun x y k=>by kernel_rfl
end
def uP:FQ R:=fun x1 k0=>Vs x1 k0
theorem Yj (R:Type):k6 Tryz.prog 99 (Vr (uP (R:=R))):=br TT mixed .n rfl rfl rfl rfl cb (field_Yes_ok)
end Go.Proofs.YtidfokedcnhahaaGreatDoor
/-
 Functions of the program as pure Lean functions, and the ties; printed by wip/tools/emit.py.
-/
set_option maxRecDepth 100000
namespace Go.Proofs.YtidfokedcnhahaaGreatDoor
open Go Go.aC
variable {R:Type}
/-! ### humpyard/field.Make -/
abbrev yI (R:Type):Type:=(List ah)→(List Json)→(Json→Option R)→Option R
abbrev Lq:List cM := [.leaf (.sl .str), .leaf (.sl .json)]
abbrev Lr:List aW := []
def Qp (fn:yI R):k9 R Lq Lr:=fun x y k=>fn x.1 x.2.1 (fun q0=>k (.agg [.int .i64 q0.kind, .int .i64 q0.num.ao, .int .i64 q0.num.exp, .str q0.text, .sl .str q0.names .no, .sl .json q0.items .no]) [])
def Ls (fn:yI R):=aI Lq Lr (Qp fn)
abbrev BB (R:Type):Type:=Nat→(List ah)→(List Json)→Int→Int→Int→Int→Int→ah→Int→Int→Int→ah→(List ah)→(List Json)→(Int→Int→Int→ah→Int→Int→Int→ah→(List ah)→(List Json)→Option R)→Option R
def wX:Hint := { live := [0,4,5,15,16,17],own := [],rows := [],cells := [(1,4, .str,false),(1,5, .json,false)],drop := [],out := [4,5] }
abbrev om:Type:=(List ah)×(List Json)×Int×Int×Int×Int×Int×ah×Int×Int×Int×ah×(List ah)×(List Json)
def Ae:om→St:=fun d=>⟨.sl .str d.1 .no::U 3 (.ptr 0 0 :: .ptr 1 0::U 9 (.sl .json d.2.1 .no :: .int .i64 d.2.2.1 :: .int .i64 d.2.2.2.1::U 30 ([]))), [.cells [.int .i64 d.2.2.2.2.1, .int .i64 d.2.2.2.2.2.1, .int .i64 d.2.2.2.2.2.2.1, .str d.2.2.2.2.2.2.2.1, .bw, .bw], .cells [.int .i64 d.2.2.2.2.2.2.2.2.1, .int .i64 d.2.2.2.2.2.2.2.2.2.1, .int .i64 d.2.2.2.2.2.2.2.2.2.2.1, .str d.2.2.2.2.2.2.2.2.2.2.2.1, .sl .str d.2.2.2.2.2.2.2.2.2.2.2.2.1 (.own 2), .sl .json d.2.2.2.2.2.2.2.2.2.2.2.2.2 (.own 3)], .tok, .tok]⟩
def BC (K:Ex→St→Option R) (q0:Int) (q1:Int) (q2:Int) (q3:ah) (q4:Int) (q5:Int) (q6:Int) (q7:ah) (q8:List ah) (q9:List Json):Option R:=K (.exit 0) ⟨U 4 (.ptr 0 0 :: .ptr 1 0::U 42 ([])), [.cells [.int .i64 q0, .int .i64 q1, .int .i64 q2, .str q3, .bw, .bw], .cells [.int .i64 q4, .int .i64 q5, .int .i64 q6, .str q7, .sl .str q8 (.own 2), .sl .json q9 (.own 3)], .tok, .tok]⟩
abbrev r3:List cM := .leaf (.sl .str)::PU 3 (.leaf (.ptr 0 0) :: .leaf (.ptr 1 0)::PU 9 (.leaf (.sl .json) :: .leaf (.int .i64) :: .leaf (.int .i64)::PU 30 ([])))
abbrev r4:List aW := [.cells [.int .i64, .int .i64, .int .i64, .str, .bw, .bw], .cells [.int .i64, .int .i64, .int .i64, .str, .TY .str 2, .TY .json 3], .tok, .tok]
def J9 (x:cM.bQ r3) (y:aW.bQ r4):Nat:=(List.length x.1+List.length ((t8 x).2.2.2.2.2.2.2.1)+Int.natAbs ((t8 (t8 x)).1)+Int.natAbs ((t8 (t8 x)).2.1)+Int.natAbs y.1.1+Int.natAbs y.1.2.1+Int.natAbs y.1.2.2.1+List.length y.1.2.2.2.1+Int.natAbs y.2.1.1+Int.natAbs y.2.1.2.1+Int.natAbs y.2.1.2.2.1+List.length y.2.1.2.2.2.1+List.length y.2.1.2.2.2.2.1+List.length y.2.1.2.2.2.2.2.1+64)
def Us (x:cM.bQ r3) (y:aW.bQ r4):om:=(x.1,(t8 x).2.2.2.2.2.2.2.1,(t8 (t8 x)).1,(t8 (t8 x)).2.1,y.1.1,y.1.2.1,y.1.2.2.1,y.1.2.2.2.1,y.2.1.1,y.2.1.2.1,y.2.1.2.2.1,y.2.1.2.2.2.1,y.2.1.2.2.2.2.1,y.2.1.2.2.2.2.2.1)
def Ir (L:BB R):wU R r3 r4:=fun x y K=>L (J9 x y) x.1 ((t8 x).2.2.2.2.2.2.2.1) ((t8 (t8 x)).1) ((t8 (t8 x)).2.1) y.1.1 y.1.2.1 y.1.2.2.1 y.1.2.2.2.1 y.2.1.1 y.2.1.2.1 y.2.1.2.2.1 y.2.1.2.2.2.1 y.2.1.2.2.2.2.1 y.2.1.2.2.2.2.2.1 (BC K)
section
variable (cp:dJ R) (aB:fL R) (di:BB R)
def wY:List (oi R) := [(86,true,(DR cp ax)),(85,true,(lM aB ax))]
def wZ (dx:(List ah)→(List Json)→Int→Int→Int→Int→Int→ah→Int→Int→Int→ah→(List ah)→(List Json)→Option R) (x3:List ah) (x4:List Json) (x5:Int) (x6:Int) (x7:Int) (x8:Int) (x9:Int) (Un:ah) (Ni:Int) (CI:Int) (HC:Int) (Lp:ah) (oj:List ah) (tB:List Json) (e0:Int→Int→Int→ah→Int→Int→Int→ah→(List ah)→(List Json)→Option R):Option R :=
 bif (decide (x6<x5))then (ca (decide ((0:Int)≤x6)&&decide (x6<x4.length)) (ca (decide ((0:Int)≤x6)&&decide (x6<x3.length)) (aB oj (x3.getD x6.toNat (Ty.aZ .str)) (fun R4=>bif (!R4)then (ca (decide ((0:Int)≤x6)&&decide (x6<x3.length)) (ca (decide ((oj.length+1)*16≤140737488355328)) (cp (⟨(x4.getD x6.toNat (Ty.aZ .json)).kind,⟨(x4.getD x6.toNat (Ty.aZ .json)).num.ao,(x4.getD x6.toNat (Ty.aZ .json)).num.exp⟩,(x4.getD x6.toNat (Ty.aZ .json)).text,(x4.getD x6.toNat (Ty.aZ .json)).names,(x4.getD x6.toNat (Ty.aZ .json)).items⟩:Json) (fun Nj=>ca (decide ((tB.length+1)*88≤140737488355328)) (dx x3 x4 x5 (IntKind.i64.wrap (x6+1)) x7 x8 x9 Un Ni CI HC Lp (oj++([(x3.getD x6.toNat (Ty.aZ .str))]:List ah)) (tB++([(⟨Nj.kind,⟨Nj.num.ao,Nj.num.exp⟩,Nj.text,Nj.names,Nj.items⟩:Json)]:List Json)))))))else (dx x3 x4 x5 (IntKind.i64.wrap (x6+1)) x7 x8 x9 Un Ni CI HC Lp oj tB)))))else (e0 x7 x8 x9 Un Ni CI HC Lp oj tB)
def Ka (K:Ex→St→Option R) (rc:om→Option R) (d:om):Option R:=wZ cp aB (fun z0 z1 z2 z3 z4 z5 z6 z7 z8 z9 Rp vN z12 z13=>rc (z0,z1,z2,z3,z4,z5,z6,z7,z8,z9,Rp,vN,z12,z13)) d.1 d.2.1 d.2.2.1 d.2.2.2.1 d.2.2.2.2.1 d.2.2.2.2.2.1 d.2.2.2.2.2.2.1 d.2.2.2.2.2.2.2.1 d.2.2.2.2.2.2.2.2.1 d.2.2.2.2.2.2.2.2.2.1 d.2.2.2.2.2.2.2.2.2.2.1 d.2.2.2.2.2.2.2.2.2.2.2.1 d.2.2.2.2.2.2.2.2.2.2.2.2.1 d.2.2.2.2.2.2.2.2.2.2.2.2.2 (BC K)
def BD:Nat→Option (Hint×cJ R):=fun i=>match i with
 | 3=>some (wX,(cE r3 r4 (Ir di) iK))
 | _=>none
theorem P4 (K:Ex→St→Option R) (rc:St→Option R) (d:om):roundOf tt (cO (wY cp aB)) (BD di) 0 ((aA (bb Tryz.f36)).getD 0 .skip) wX (Ae d) rc K=Ka cp aB K (fun d=>rc (Ae d)) d:=by kernel_rfl
def Lt (x1:List ah) (x2:List Json) (k0:Json→Option R):Option R :=
 ca (decide ((0:Int)≤(min (x2.length:Int) (x1.length:Int)))&&decide ((min (x2.length:Int) (x1.length:Int))≤x2.length)) (ca (decide ((0:Int)≤(min (x2.length:Int) (x1.length:Int)))) (di (List.length x1+List.length ((x2.drop 0).take ((min (x2.length:Int) (x1.length:Int)).toNat - 0))+Int.natAbs (((x2.drop 0).take ((min (x2.length:Int) (x1.length:Int)).toNat - 0)).length:Int)+Int.natAbs 0+Int.natAbs 0+Int.natAbs 0+Int.natAbs 0+List.length ([]:ah)+Int.natAbs 7+Int.natAbs 0+Int.natAbs 0+List.length ([]:ah)+List.length ([]:List ah)+List.length ([]:List Json)+64) x1 ((x2.drop 0).take ((min (x2.length:Int) (x1.length:Int)).toNat - 0)) (((x2.drop 0).take ((min (x2.length:Int) (x1.length:Int)).toNat - 0)).length:Int) 0 0 0 0 ([]:ah) 7 0 0 ([]:ah) ([]:List ah) ([]:List Json) (fun ZG V1 GO y22 y23 y24 Qq SI Jd Qr=>k0 (⟨y23,⟨y24,Qq⟩,SI,Jd,Qr⟩:Json))))
theorem Z3:dC (R:=R) tt (wY cp aB) (BD di) false Tryz.f36 Lq Lr (Qp (Lt di)):=fun x y k=>by kernel_rfl
end
theorem Yk:ct (R:=R) Tryz.prog (wY (R:=R) cp aB) := .p (Dp R _ (jl _)) <| .c (pg R) <| .n
def di:BB R
 | 0,_,_,_,_,_,_,_,_,_,_,_,_,_,_,_=>none
 | n+1,gh,gl,gv,mB,v7,xS,Ee,Ef,HD,HE,pA,xT,Dm,Dn,e0=>wZ cp aB (fun gh gl gv mB v7 xS Ee Ef HD HE pA xT Dm Dn=>di n gh gl gv mB v7 xS Ee Ef HD HE pA xT Dm Dn e0) gh gl gv mB v7 xS Ee Ef HD HE pA xT Dm Dn e0
def Kb (K:Ex→St→Option R) (n:Nat) (d:om):Option R:=di n d.1 d.2.1 d.2.2.1 d.2.2.2.1 d.2.2.2.2.1 d.2.2.2.2.2.1 d.2.2.2.2.2.2.1 d.2.2.2.2.2.2.2.1 d.2.2.2.2.2.2.2.2.1 d.2.2.2.2.2.2.2.2.2.1 d.2.2.2.2.2.2.2.2.2.2.1 d.2.2.2.2.2.2.2.2.2.2.2.1 d.2.2.2.2.2.2.2.2.2.2.2.2.1 d.2.2.2.2.2.2.2.2.2.2.2.2.2 (BC K)
theorem SJ (other:cJ R) (ho:gV tt (cO (wY (R:=R) cp aB)) (BD (R:=R) di) 0 ((aA (bb Tryz.f36)).getD 0 .skip) wX other):gV tt (cO (wY (R:=R) cp aB)) (BD (R:=R) di) 0 ((aA (bb Tryz.f36)).getD 0 .skip) wX (cE r3 r4 (Ir (di)) other) :=
 cN (A:=Kb) ho (dT Ae (Ka cp aB) (Kb) (fun _ _=>by kernel_rfl) (P4 cp aB di) (fun _ _ _=>by kernel_rfl)) J9 Us (fun _ _=>by kernel_rfl) (fun _ _ _=>by kernel_rfl)
def gE:yI R:=fun x1 x2 k0=>Lt di x1 x2 k0
theorem Ut (R:Type):∀a∈aA (bb Tryz.f36),gJ tt (cO (wY (R:=R) cp aB)) (BD (R:=R) di) 0 a:=by
 refine eX 1 (by kernel_rfl) fun i hi => ?_
 match i,hi with
 | 0,_=>exact cy (by kernel_rfl) (SJ _ dt)
 | n+1,hi=>omega
theorem MO (R:Type):k6 Tryz.prog 36 (Ls (gE (R:=R))):=br TT mixed (Yk (R:=R)) rfl rfl rfl rfl (Ut R) (Z3 cp aB di)
/-! ### humpyard/order.part -/
abbrev yJ (R:Type):Type:=ah→Int→Int→Bool→(Json→Option R)→Option R
abbrev Lu:List cM := [.leaf (.str), .leaf (.int .i64), .leaf (.int .i64), .leaf (.bool)]
abbrev Lv:List aW := []
def Qs (fn:yJ R):k9 R Lu Lv:=fun x y k=>fn x.1 x.2.1 x.2.2.1 x.2.2.2.1 (fun q0=>k (.agg [.int .i64 q0.kind, .int .i64 q0.num.ao, .int .i64 q0.num.exp, .str q0.text, .sl .str q0.names .no, .sl .json q0.items .no]) [])
def Lw (fn:yJ R):=aI Lu Lv (Qs fn)
section
variable (gn:BA R) (gE:yI R) (uP:FQ R)
def SK:List (oi R) := [(48,true,(N7 gn ax)),(36,true,(Ls gE ax)),(99,true,(Vr uP ax))]
def Lx (x1:ah) (x2:Int) (x3:Int) (x4:Bool) (k0:Json→Option R):Option R :=
 gn x2 (fun y5=>gn x3 (fun y6=>uP x4 (fun y7=>gE ([x1,([115,101,113,117,101,110,99,101,73,100]:ah),([114,101,108,101,97,115,101,100]:ah)]:List ah) ([(⟨y5.kind,⟨y5.num.ao,y5.num.exp⟩,y5.text,y5.names,y5.items⟩:Json),(⟨y6.kind,⟨y6.num.ao,y6.num.exp⟩,y6.text,y6.names,y6.items⟩:Json),(⟨y7.kind,⟨y7.num.ao,y7.num.exp⟩,y7.text,y7.names,y7.items⟩:Json)]:List Json) (fun y8=>k0 (⟨y8.kind,⟨y8.num.ao,y8.num.exp⟩,y8.text,y8.names,y8.items⟩:Json)))))
theorem Z4:dC (R:=R) tt (SK gn gE uP) rP false Tryz.f51 Lu Lv (Qs (Lx gn gE uP)):=fun x y k=>by kernel_rfl
end
theorem Yl:ct (R:=R) Tryz.prog (SK (R:=R) gn gE uP) := .c (N9 R) <| .c (MO R) <| .c (Yj R) <| .n
def gF:yJ R:=fun x1 x2 x3 x4 k0=>Lx gn gE uP x1 x2 x3 x4 k0
theorem MP (R:Type):k6 Tryz.prog 51 (Lw (gF (R:=R))):=br TT mixed (Yl (R:=R)) rfl rfl rfl rfl cb (Z4 gn gE uP)
/-! ### humpyard/order.Lay$1 -/
abbrev BE (R:Type):Type:=Stop→(Json→Option R)→Option R
abbrev Je:List cM := [.agg [.int .i64, .int .i64, .bool]]
abbrev Jf:List aW := []
def Oe (fn:BE R):k9 R Je Jf:=fun x y k=>fn (⟨x.1.1,x.1.2.1,x.1.2.2.1⟩:Stop) (fun q0=>k (.agg [.int .i64 q0.kind, .int .i64 q0.num.ao, .int .i64 q0.num.exp, .str q0.text, .sl .str q0.names .no, .sl .json q0.items .no]) [])
def Qt (fn:BE R):=aI Je Jf (Oe fn)
section
variable (gF:yJ R)
def Qu:List (oi R) := [(51,true,(Lw gF ax))]
def Qv (x1:Stop) (k0:Json→Option R):Option R :=
 gF ([110,111,100,101,73,100]:ah) x1.node x1.seq x1.bP (fun y2=>k0 (⟨y2.kind,⟨y2.num.ao,y2.num.exp⟩,y2.text,y2.names,y2.items⟩:Json))
theorem Ym:dC (R:=R) tt (Qu gF) rP false Tryz.f50 Je Jf (Oe (Qv gF)):=fun x y k=>by kernel_rfl
end
theorem V5:ct (R:=R) Tryz.prog (Qu (R:=R) gF) := .c (MP R) <| .n
def fO:BE R:=fun x1 k0=>Qv gF x1 k0
theorem Uu (R:Type):k6 Tryz.prog 50 (Qt (fO (R:=R))):=br TT mixed (V5 (R:=R)) rfl rfl rfl rfl cb (Ym gF)
/-! ### humpyard/field.Arr -/
abbrev BF (R:Type):Type:=(List Json)→(Json→Option R)→Option R
abbrev Of:List cM := [.leaf (.sl .json)]
abbrev Og:List aW := []
def SL (fn:BF R):k9 R Of Og:=fun x y k=>fn x.1 (fun q0=>k (.agg [.int .i64 q0.kind, .int .i64 q0.num.ao, .int .i64 q0.num.exp, .str q0.text, .sl .str q0.names .no, .sl .json q0.items .no]) [])
def Oh (fn:BF R):=aI Of Og (SL fn)
section
variable (cp:dJ R)
def Vt:List (oi R) := [(86,true,(DR cp ax))]
def Oi (x1:List Json) (k0:Json→Option R):Option R :=
 cp (⟨6,⟨0,0⟩,([]:ah),([]:List ah),x1⟩:Json) (fun y2=>k0 (⟨y2.kind,⟨y2.num.ao,y2.num.exp⟩,y2.text,y2.names,y2.items⟩:Json))
theorem field_Arr_ok:dC (R:=R) tt (Vt cp) rP false Tryz.f98 Of Og (SL (Oi cp)):=fun x y k=>by kernel_rfl
end
theorem Z5:ct (R:=R) Tryz.prog (Vt (R:=R) cp) := .p (Dp R _ (jl _)) <| .n
def ef:BF R:=fun x1 k0=>Oi cp x1 k0
theorem Oj (R:Type):k6 Tryz.prog 98 (Oh (ef (R:=R))):=br TT mixed (Z5 (R:=R)) rfl rfl rfl rfl cb (field_Arr_ok cp)
/-! ### humpyard/order.each[humpyard/api.Stop] -/
abbrev mH (R:Type):Type:=(List Stop)→(Json→Option R)→Option R
abbrev tC:List cM := [.leaf (.sl .stop), .leaf (.fn 50)]
abbrev tD:List aW := []
def AM (fn:mH R):k9 R tC tD:=fun x y k=>fn x.1 (fun q0=>k (.agg [.int .i64 q0.kind, .int .i64 q0.num.ao, .int .i64 q0.num.exp, .str q0.text, .sl .str q0.names .no, .sl .json q0.items .no]) [])
def BG (fn:mH R):=aI tC tD (AM fn)
abbrev nP (R:Type):Type:=Nat→(List Json)→(List Stop)→Int→Int→Int→Int→Int→ah→((List Json)→Int→Int→Int→ah→Option R)→Option R
def kq:Hint := { live := [1,4,5,8,9,10],own := [(5, .json)],rows := [],cells := [],drop := [],out := [4,5] }
abbrev fX:Type:=(List Json)×(List Stop)×Int×Int×Int×Int×Int×ah
def mW:fX→St:=fun d=>⟨.undef :: .func 50 [] []::U 2 (.ptr 0 0 :: .sl .json d.1 (.own 1)::U 2 (.sl .stop d.2.1 .no :: .int .i64 d.2.2.1 :: .int .i64 d.2.2.2.1::U 12 ([]))), [.cells [.int .i64 d.2.2.2.2.1, .int .i64 d.2.2.2.2.2.1, .int .i64 d.2.2.2.2.2.2.1, .str d.2.2.2.2.2.2.2, .bw, .bw], .tok]⟩
def nQ (K:Ex→St→Option R) (q0:List Json) (q1:Int) (q2:Int) (q3:Int) (q4:ah):Option R:=K (.exit 0) ⟨U 4 (.ptr 0 0 :: .sl .json q0 (.own 1)::U 17 ([])), [.cells [.int .i64 q1, .int .i64 q2, .int .i64 q3, .str q4, .bw, .bw], .tok]⟩
abbrev iA:List cM := .leaf (.undef) :: .leaf (.fn 50)::PU 2 (.leaf (.ptr 0 0) :: .leaf (.TY .json 1)::PU 2 (.leaf (.sl .stop) :: .leaf (.int .i64) :: .leaf (.int .i64)::PU 12 ([])))
abbrev iB:List aW := [.cells [.int .i64, .int .i64, .int .i64, .str, .bw, .bw], .tok]
def wh (x:cM.bQ iA) (y:aW.bQ iB):Nat:=(List.length x.2.2.2.2.2.1+List.length ((t8 x).1)+Int.natAbs ((t8 x).2.1)+Int.natAbs ((t8 x).2.2.1)+Int.natAbs y.1.1+Int.natAbs y.1.2.1+Int.natAbs y.1.2.2.1+List.length y.1.2.2.2.1+64)
def GY (x:cM.bQ iA) (y:aW.bQ iB):fX:=(x.2.2.2.2.2.1,(t8 x).1,(t8 x).2.1,(t8 x).2.2.1,y.1.1,y.1.2.1,y.1.2.2.1,y.1.2.2.2.1)
def vj (L:nP R):wU R iA iB:=fun x y K=>L (wh x y) x.2.2.2.2.2.1 ((t8 x).1) ((t8 x).2.1) ((t8 x).2.2.1) y.1.1 y.1.2.1 y.1.2.2.1 y.1.2.2.2.1 (nQ K)
section
variable (ef:BF R) (fO:BE R) (bC:nP R)
def iL:List (oi R) := [(98,true,(Oh ef ax)),(50,true,(Qt fO ax))]
def kr (dx:(List Json)→(List Stop)→Int→Int→Int→Int→Int→ah→Option R) (x2:List Json) (x3:List Stop) (x4:Int) (x5:Int) (x6:Int) (x7:Int) (x8:Int) (x9:ah) (e0:(List Json)→Int→Int→Int→ah→Option R):Option R :=
 bif (decide (x5<x4))then (ca (decide ((0:Int)≤x5)&&decide (x5<x3.length)) (fO (x3.getD x5.toNat (Ty.aZ .stop)) (fun uf=>ca (decide ((x2.length+1)*88≤140737488355328)) (dx (x2++([(⟨uf.kind,⟨uf.num.ao,uf.num.exp⟩,uf.text,uf.names,uf.items⟩:Json)]:List Json)) x3 x4 (IntKind.i64.wrap (x5+1)) x6 x7 x8 x9))))else (e0 x2 x6 x7 x8 x9)
def wi (K:Ex→St→Option R) (rc:fX→Option R) (d:fX):Option R:=kr fO (fun z0 z1 z2 z3 z4 z5 z6 z7=>rc (z0,z1,z2,z3,z4,z5,z6,z7)) d.1 d.2.1 d.2.2.1 d.2.2.2.1 d.2.2.2.2.1 d.2.2.2.2.2.1 d.2.2.2.2.2.2.1 d.2.2.2.2.2.2.2 (nQ K)
def ku:Nat→Option (Hint×cJ R):=fun i=>match i with
 | 3=>some (kq,(cE iA iB (vj bC) iK))
 | _=>none
theorem Eg (K:Ex→St→Option R) (rc:St→Option R) (d:fX):roundOf tt (cO (iL ef fO)) (ku bC) 0 ((aA (bb Tryz.f49)).getD 0 .skip) kq (mW d) rc K=wi fO K (fun d=>rc (mW d)) d:=by kernel_rfl
def tE (x1:List Stop) (k0:Json→Option R):Option R :=
 bC (List.length ([]:List Json)+List.length x1+Int.natAbs (x1.length:Int)+Int.natAbs 0+Int.natAbs 0+Int.natAbs 0+Int.natAbs 0+List.length ([]:ah)+64) ([]:List Json) x1 (x1.length:Int) 0 0 0 0 ([]:ah) (fun vO Ad Jg HF JR=>ef vO (fun Fo=>k0 (⟨Fo.kind,⟨Fo.num.ao,Fo.num.exp⟩,Fo.text,Fo.names,Fo.items⟩:Json)))
theorem Kc:dC (R:=R) tt (iL ef fO) (ku bC) false Tryz.f49 tC tD (AM (tE ef bC)):=fun x y k=>by kernel_rfl
end
theorem Jh:ct (R:=R) Tryz.prog (iL (R:=R) ef fO) := .c (Oj R) <| .c (Uu R) <| .n
def bC:nP R
 | 0,_,_,_,_,_,_,_,_,_=>none
 | n+1,gh,gl,gv,mB,v7,xS,Ee,Ef,e0=>kr fO (fun gh gl gv mB v7 xS Ee Ef=>bC n gh gl gv mB v7 xS Ee Ef e0) gh gl gv mB v7 xS Ee Ef e0
def wj (K:Ex→St→Option R) (n:Nat) (d:fX):Option R:=bC n d.1 d.2.1 d.2.2.1 d.2.2.2.1 d.2.2.2.2.1 d.2.2.2.2.2.1 d.2.2.2.2.2.2.1 d.2.2.2.2.2.2.2 (nQ K)
theorem FR (other:cJ R) (ho:gV tt (cO (iL (R:=R) ef fO)) (ku (R:=R) bC) 0 ((aA (bb Tryz.f49)).getD 0 .skip) kq other):gV tt (cO (iL (R:=R) ef fO)) (ku (R:=R) bC) 0 ((aA (bb Tryz.f49)).getD 0 .skip) kq (cE iA iB (vj (bC)) other) :=
 cN (A:=wj) ho (dT mW (wi fO) (wj) (fun _ _=>by kernel_rfl) (Eg ef fO bC) (fun _ _ _=>by kernel_rfl)) wh GY (fun _ _=>by kernel_rfl) (fun _ _ _=>by kernel_rfl)
def dU:mH R:=fun x1 k0=>tE ef bC x1 k0
theorem GZ (R:Type):∀a∈aA (bb Tryz.f49),gJ tt (cO (iL (R:=R) ef fO)) (ku (R:=R) bC) 0 a:=by
 refine eX 1 (by kernel_rfl) fun i hi => ?_
 match i,hi with
 | 0,_=>exact cy (by kernel_rfl) (FR _ dt)
 | n+1,hi=>omega
theorem HG (R:Type):k6 Tryz.prog 49 (BG (dU (R:=R))):=br TT mixed (Jh (R:=R)) rfl rfl rfl rfl (GZ R) (Kc ef fO bC)
/-! ### humpyard/order.Lay$2 -/
abbrev BH (R:Type):Type:=aC.Way→(Json→Option R)→Option R
abbrev Ji:List cM := [.agg [.int .i64, .int .i64, .bool]]
abbrev Jj:List aW := []
def Ol (fn:BH R):k9 R Ji Jj:=fun x y k=>fn (⟨x.1.1,x.1.2.1,x.1.2.2.1⟩:aC.Way) (fun q0=>k (.agg [.int .i64 q0.kind, .int .i64 q0.num.ao, .int .i64 q0.num.exp, .str q0.text, .sl .str q0.names .no, .sl .json q0.items .no]) [])
def Qw (fn:BH R):=aI Ji Jj (Ol fn)
section
variable (gF:yJ R)
def Qx:List (oi R) := [(51,true,(Lw gF ax))]
def Qy (x1:aC.Way) (k0:Json→Option R):Option R :=
 gF ([101,100,103,101,73,100]:ah) x1.yz x1.seq x1.bP (fun y2=>k0 (⟨y2.kind,⟨y2.num.ao,y2.num.exp⟩,y2.text,y2.names,y2.items⟩:Json))
theorem Yn:dC (R:=R) tt (Qx gF) rP false Tryz.f53 Ji Jj (Ol (Qy gF)):=fun x y k=>by kernel_rfl
end
theorem V6:ct (R:=R) Tryz.prog (Qx (R:=R) gF) := .c (MP R) <| .n
def fP:BH R:=fun x1 k0=>Qy gF x1 k0
theorem Uv (R:Type):k6 Tryz.prog 53 (Qw (fP (R:=R))):=br TT mixed (V6 (R:=R)) rfl rfl rfl rfl cb (Yn gF)
/-! ### humpyard/order.each[humpyard/api.Way] -/
abbrev nR (R:Type):Type:=(List aC.Way)→(Json→Option R)→Option R
abbrev uU:List cM := [.leaf (.sl .qD), .leaf (.fn 53)]
abbrev uV:List aW := []
def BI (fn:nR R):k9 R uU uV:=fun x y k=>fn x.1 (fun q0=>k (.agg [.int .i64 q0.kind, .int .i64 q0.num.ao, .int .i64 q0.num.exp, .str q0.text, .sl .str q0.names .no, .sl .json q0.items .no]) [])
def C1 (fn:nR R):=aI uU uV (BI fn)
abbrev oJ (R:Type):Type:=Nat→(List Json)→(List aC.Way)→Int→Int→Int→Int→Int→ah→((List Json)→Int→Int→Int→ah→Option R)→Option R
def lr:Hint := { live := [1,4,5,8,9,10],own := [(5, .json)],rows := [],cells := [],drop := [],out := [4,5] }
abbrev gp:Type:=(List Json)×(List aC.Way)×Int×Int×Int×Int×Int×ah
def nS:gp→St:=fun d=>⟨.undef :: .func 53 [] []::U 2 (.ptr 0 0 :: .sl .json d.1 (.own 1)::U 2 (.sl .qD d.2.1 .no :: .int .i64 d.2.2.1 :: .int .i64 d.2.2.2.1::U 12 ([]))), [.cells [.int .i64 d.2.2.2.2.1, .int .i64 d.2.2.2.2.2.1, .int .i64 d.2.2.2.2.2.2.1, .str d.2.2.2.2.2.2.2, .bw, .bw], .tok]⟩
def oK (K:Ex→St→Option R) (q0:List Json) (q1:Int) (q2:Int) (q3:Int) (q4:ah):Option R:=K (.exit 0) ⟨U 4 (.ptr 0 0 :: .sl .json q0 (.own 1)::U 17 ([])), [.cells [.int .i64 q1, .int .i64 q2, .int .i64 q3, .str q4, .bw, .bw], .tok]⟩
abbrev jc:List cM := .leaf (.undef) :: .leaf (.fn 53)::PU 2 (.leaf (.ptr 0 0) :: .leaf (.TY .json 1)::PU 2 (.leaf (.sl .qD) :: .leaf (.int .i64) :: .leaf (.int .i64)::PU 12 ([])))
abbrev jd:List aW := [.cells [.int .i64, .int .i64, .int .i64, .str, .bw, .bw], .tok]
def xq (x:cM.bQ jc) (y:aW.bQ jd):Nat:=(List.length x.2.2.2.2.2.1+List.length ((t8 x).1)+Int.natAbs ((t8 x).2.1)+Int.natAbs ((t8 x).2.2.1)+Int.natAbs y.1.1+Int.natAbs y.1.2.1+Int.natAbs y.1.2.2.1+List.length y.1.2.2.2.1+64)
def HH (x:cM.bQ jc) (y:aW.bQ jd):gp:=(x.2.2.2.2.2.1,(t8 x).1,(t8 x).2.1,(t8 x).2.2.1,y.1.1,y.1.2.1,y.1.2.2.1,y.1.2.2.2.1)
def wk (L:oJ R):wU R jc jd:=fun x y K=>L (xq x y) x.2.2.2.2.2.1 ((t8 x).1) ((t8 x).2.1) ((t8 x).2.2.1) y.1.1 y.1.2.1 y.1.2.2.1 y.1.2.2.2.1 (oK K)
section
variable (ef:BF R) (fP:BH R) (bH:oJ R)
def jn:List (oi R) := [(98,true,(Oh ef ax)),(53,true,(Qw fP ax))]
def lu (dx:(List Json)→(List aC.Way)→Int→Int→Int→Int→Int→ah→Option R) (x2:List Json) (x3:List aC.Way) (x4:Int) (x5:Int) (x6:Int) (x7:Int) (x8:Int) (x9:ah) (e0:(List Json)→Int→Int→Int→ah→Option R):Option R :=
 bif (decide (x5<x4))then (ca (decide ((0:Int)≤x5)&&decide (x5<x3.length)) (fP (x3.getD x5.toNat (Ty.aZ .qD)) (fun uf=>ca (decide ((x2.length+1)*88≤140737488355328)) (dx (x2++([(⟨uf.kind,⟨uf.num.ao,uf.num.exp⟩,uf.text,uf.names,uf.items⟩:Json)]:List Json)) x3 x4 (IntKind.i64.wrap (x5+1)) x6 x7 x8 x9))))else (e0 x2 x6 x7 x8 x9)
def xr (K:Ex→St→Option R) (rc:gp→Option R) (d:gp):Option R:=lu fP (fun z0 z1 z2 z3 z4 z5 z6 z7=>rc (z0,z1,z2,z3,z4,z5,z6,z7)) d.1 d.2.1 d.2.2.1 d.2.2.2.1 d.2.2.2.2.1 d.2.2.2.2.2.1 d.2.2.2.2.2.2.1 d.2.2.2.2.2.2.2 (oK K)
def lF:Nat→Option (Hint×cJ R):=fun i=>match i with
 | 3=>some (lr,(cE jc jd (wk bH) iK))
 | _=>none
theorem EU (K:Ex→St→Option R) (rc:St→Option R) (d:gp):roundOf tt (cO (jn ef fP)) (lF bH) 0 ((aA (bb Tryz.f52)).getD 0 .skip) lr (nS d) rc K=xr fP K (fun d=>rc (nS d)) d:=by kernel_rfl
def uW (x1:List aC.Way) (k0:Json→Option R):Option R :=
 bH (List.length ([]:List Json)+List.length x1+Int.natAbs (x1.length:Int)+Int.natAbs 0+Int.natAbs 0+Int.natAbs 0+Int.natAbs 0+List.length ([]:ah)+64) ([]:List Json) x1 (x1.length:Int) 0 0 0 0 ([]:ah) (fun vO Ad Jg HF JR=>ef vO (fun Fo=>k0 (⟨Fo.kind,⟨Fo.num.ao,Fo.num.exp⟩,Fo.text,Fo.names,Fo.items⟩:Json)))
theorem Ly:dC (R:=R) tt (jn ef fP) (lF bH) false Tryz.f52 uU uV (BI (uW ef bH)):=fun x y k=>by kernel_rfl
end
theorem Kd:ct (R:=R) Tryz.prog (jn (R:=R) ef fP) := .c (Oj R) <| .c (Uv R) <| .n
def bH:oJ R
 | 0,_,_,_,_,_,_,_,_,_=>none
 | n+1,gh,gl,gv,mB,v7,xS,Ee,Ef,e0=>lu fP (fun gh gl gv mB v7 xS Ee Ef=>bH n gh gl gv mB v7 xS Ee Ef e0) gh gl gv mB v7 xS Ee Ef e0
def xu (K:Ex→St→Option R) (n:Nat) (d:gp):Option R:=bH n d.1 d.2.1 d.2.2.1 d.2.2.2.1 d.2.2.2.2.1 d.2.2.2.2.2.1 d.2.2.2.2.2.2.1 d.2.2.2.2.2.2.2 (oK K)
theorem G0 (other:cJ R) (ho:gV tt (cO (jn (R:=R) ef fP)) (lF (R:=R) bH) 0 ((aA (bb Tryz.f52)).getD 0 .skip) lr other):gV tt (cO (jn (R:=R) ef fP)) (lF (R:=R) bH) 0 ((aA (bb Tryz.f52)).getD 0 .skip) lr (cE jc jd (wk (bH)) other) :=
 cN (A:=xu) ho (dT nS (xr fP) (xu) (fun _ _=>by kernel_rfl) (EU ef fP bH) (fun _ _ _=>by kernel_rfl)) xq HH (fun _ _=>by kernel_rfl) (fun _ _ _=>by kernel_rfl)
def ez:nR R:=fun x1 k0=>uW ef bH x1 k0
theorem HI (R:Type):∀a∈aA (bb Tryz.f52),gJ tt (cO (jn (R:=R) ef fP)) (lF (R:=R) bH) 0 a:=by
 refine eX 1 (by kernel_rfl) fun i hi => ?_
 match i,hi with
 | 0,_=>exact cy (by kernel_rfl) (G0 _ dt)
 | n+1,hi=>omega
theorem Jk (R:Type):k6 Tryz.prog 52 (C1 (ez (R:=R))):=br TT mixed (Kd (R:=R)) rfl rfl rfl rfl (HI R) (Ly ef fP bH)
/-! ### humpyard/json.bare -/
abbrev FT (R:Type):Type:=Json→(Json→Option R)→Option R
abbrev Om:List cM := [.agg [.int .i64, .int .i64, .int .i64, .str, .sl .str, .sl .json]]
abbrev On:List aW := []
def SM (fn:FT R):k9 R Om On:=fun x y k=>fn (⟨x.1.1,⟨x.1.2.1,x.1.2.2.1⟩,x.1.2.2.2.1,x.1.2.2.2.2.1,x.1.2.2.2.2.2.1⟩:Json) (fun q0=>k (.agg [.int .i64 q0.kind, .int .i64 q0.num.ao, .int .i64 q0.num.exp, .str q0.text, .sl .str q0.names .no, .sl .json q0.items .no]) [])
def Vu (fn:FT R):=aI Om On (SM fn)
section
def Iu (x1:Json) (k0:Json→Option R):Option R :=
 bif (x1.kind==4)then (k0 (⟨x1.kind,⟨0,0⟩,x1.text,x1.names,x1.items⟩:Json))else (bif (x1.kind==5)then (k0 (⟨x1.kind,⟨x1.num.ao,x1.num.exp⟩,([]:ah),x1.names,x1.items⟩:Json))else (bif (x1.kind==7)then (k0 (⟨x1.kind,⟨x1.num.ao,x1.num.exp⟩,x1.text,([]:List ah),([]:List Json)⟩:Json))else (bif (x1.kind==6)then (k0 (⟨x1.kind,⟨x1.num.ao,x1.num.exp⟩,x1.text,x1.names,([]:List Json)⟩:Json))else (k0 (⟨x1.kind,⟨x1.num.ao,x1.num.exp⟩,x1.text,x1.names,x1.items⟩:Json)))))
theorem json_bare_ok:dC (R:=R) tt [] rP false Tryz.f163 Om On (SM Iu):=fun x y k=>by kernel_rfl
end
def r5:FT R:=fun x1 k0=>Iu x1 k0
theorem Yo (R:Type):k6 Tryz.prog 163 (Vu (r5 (R:=R))):=br TT mixed .n rfl rfl rfl rfl cb (json_bare_ok)
/-! ### humpyard/decimal.Right -/
abbrev oo (R:Type):Type:=ft→(Bool→Option R)→Option R
abbrev EV:List cM := [.agg [.int .i64, .int .i64]]
abbrev EW:List aW := []
def Ke (fn:oo R):k9 R EV EW:=fun x y k=>fn (⟨x.1.1,x.1.2.1⟩:ft) (fun q0=>k (.bool q0) [])
def zA (fn:oo R):=aI EV EW (Ke fn)
section
variable (ay:jm R)
def MQ:List (oi R) := [(135,true,(pV ay ax))]
def jD (x1:ft) (k0:Bool→Option R):Option R :=
 bif (x1.ao==0)then (k0 (x1.exp==0))else (bif ((Int.tmod x1.ao 10) != 0)then (ay (-1000000000000000) x1.ao 1000000000000000 (fun y2=>bif y2 then (ay (-9) x1.exp 9 (fun y3=>k0 y3))else (k0 false)))else (k0 false))
theorem Uw:dC (R:=R) tt (MQ ay) rP false Tryz.f164 EV EW (Ke (jD ay)):=fun x y k=>by kernel_rfl
end
theorem SN:ct (R:=R) Tryz.prog (MQ (R:=R) ay) := .c (rY R) <| .n
def bK:oo R:=fun x1 k0=>jD ay x1 k0
theorem Af (R:Type):k6 Tryz.prog 164 (zA (bK (R:=R))):=br TT mixed (SN (R:=R)) rfl rfl rfl rfl cb (Uw ay)
/-! ### humpyard/quote.Whole -/
abbrev r6 (R:Type):Type:=ah→(Bool→Option R)→Option R
abbrev Jl:List cM := [.leaf (.str)]
abbrev Jm:List aW := []
def Oo (fn:r6 R):k9 R Jl Jm:=fun x y k=>fn x.1 (fun q0=>k (.bool q0) [])
def DS (fn:r6 R):=aI Jl Jm (Oo fn)
section
def Qz:List (oi R) := [(200,true,(valid_S R))]
def QA (x1:ah) (k0:Bool→Option R):Option R :=
 k0 (fU x1)
theorem Yp:dC (R:=R) tt (Qz (R:=R)) rP false Tryz.f165 Jl Jm (Oo QA):=fun x y k=>by kernel_rfl
end
theorem V7:ct (R:=R) Tryz.prog (Qz (R:=R)) := .p (valid_ok) <| .n
def bM:r6 R:=fun x1 k0=>QA x1 k0
theorem Dq (R:Type):k6 Tryz.prog 165 (DS (bM (R:=R))):=br TT mixed (V7 (R:=R)) rfl rfl rfl rfl cb (Yp)
end Go.Proofs.YtidfokedcnhahaaGreatDoor
/-
 Functions of the program as pure Lean functions, and the ties; printed by wip/tools/emit.py.
-/
set_option maxRecDepth 100000
namespace Go.Proofs.YtidfokedcnhahaaGreatDoor
open Go Go.aC
variable {R:Type}
/-! ### humpyard/json.unique -/
abbrev BJ (R:Type):Type:=(List ah)→(Bool→Option R)→Option R
abbrev Jn:List cM := [.leaf (.sl .str)]
abbrev Jo:List aW := []
def Oq (fn:BJ R):k9 R Jn Jo:=fun x y k=>fn x.1 (fun q0=>k (.bool q0) [])
def QB (fn:BJ R):=aI Jn Jo (Oq fn)
abbrev Ag (R:Type):Type:=Nat→(List ah)→Int→Int→(List (ah×Bool))→(Option R)→(Bool→Option R)→Option R
def vk:Hint := { live := [3,7,8,9],own := [],rows := [],cells := [],drop := [],out := [2] }
abbrev mI:Type:=(List ah)×Int×Int×(List (ah×Bool))
def xY:mI→St:=fun d=>⟨U 3 (.map 0::U 3 (.sl .str d.1 .no :: .int .i64 d.2.1 :: .int .i64 d.2.2.1::U 14 ([]))), [.zO .str .bool d.2.2.2]⟩
def Ah (K:Ex→St→Option R):Option R:=K (.exit 0) ⟨U 24 ([]), []⟩
def Ai (K:Ex→St→Option R) (q0:Bool):Option R:=K (.ret) ⟨U 2 (.bool q0::U 21 ([])), []⟩
abbrev pW:List cM:=PU 3 (.leaf (.map 0)::PU 3 (.leaf (.sl .str) :: .leaf (.int .i64) :: .leaf (.int .i64)::PU 14 ([])))
abbrev pX:List aW := [.zO .str .bool]
def Iv (x:cM.bQ pW) (y:aW.bQ pX):Nat:=(List.length x.2.2.2.2.2.2.2.1+Int.natAbs ((t8 x).1)+Int.natAbs ((t8 x).2.1)+List.length y.1+64)
def SO (x:cM.bQ pW) (y:aW.bQ pX):mI:=(x.2.2.2.2.2.2.2.1,(t8 x).1,(t8 x).2.1,y.1)
def G1 (L:Ag R):wU R pW pX:=fun x y K=>L (Iv x y) x.2.2.2.2.2.2.2.1 ((t8 x).1) ((t8 x).2.1) y.1 (Ah K) (Ai K)
section
variable (bM:r6 R) (cV:Ag R)
def uQ:List (oi R) := [(165,true,(DS bM ax))]
def vl (dx:(List ah)→Int→Int→(List (ah×Bool))→Option R) (x2:List ah) (x3:Int) (x4:Int) (x5:List (ah×Bool)) (e0:Option R) (e1:Bool→Option R):Option R :=
 bif (decide (x4<x3))then (ca (decide ((0:Int)≤x4)&&decide (x4<x2.length)) (bif (mj .str .bool (x2.getD x4.toNat (Ty.aZ .str)) x5)then (e1 false)else (bM (x2.getD x4.toNat (Ty.aZ .str)) (fun y6=>bif (!y6)then (e1 false)else (dx x2 x3 (IntKind.i64.wrap (x4+1)) (Bn .str .bool (x2.getD x4.toNat (Ty.aZ .str)) true x5))))))else (e0)
def Iw (K:Ex→St→Option R) (rc:mI→Option R) (d:mI):Option R:=vl bM (fun z0 z1 z2 z3=>rc (z0,z1,z2,z3)) d.1 d.2.1 d.2.2.1 d.2.2.2 (Ah K) (Ai K)
def yK:Nat→Option (Hint×cJ R):=fun i=>match i with
 | 3=>some (vk,(cE pW pX (G1 cV) iK))
 | _=>none
theorem Ot (K:Ex→St→Option R) (rc:St→Option R) (d:mI):roundOf tt (cO (uQ bM)) (yK cV) 0 ((aA (bb Tryz.f166)).getD 0 .skip) vk (xY d) rc K=Iw bM K (fun d=>rc (xY d)) d:=by kernel_rfl
def QC (x1:List ah) (k0:Bool→Option R):Option R :=
 cV (List.length x1+Int.natAbs (x1.length:Int)+Int.natAbs 0+List.length ([]:List (ah×Bool))+64) x1 (x1.length:Int) 0 ([]:List (ah×Bool)) (k0 true) (fun y8=>k0 y8)
theorem Yq:dC (R:=R) tt (uQ bM) (yK cV) false Tryz.f166 Jn Jo (Oq (QC cV)):=fun x y k=>by kernel_rfl
end
theorem V8:ct (R:=R) Tryz.prog (uQ (R:=R) bM) := .c (Dq R) <| .n
def cV:Ag R
 | 0,_,_,_,_,_,_=>none
 | n+1,gh,gl,gv,mB,e0,e1=>vl bM (fun gh gl gv mB=>cV n gh gl gv mB e0 e1) gh gl gv mB e0 e1
def Ix (K:Ex→St→Option R) (n:Nat) (d:mI):Option R:=cV n d.1 d.2.1 d.2.2.1 d.2.2.2 (Ah K) (Ai K)
theorem Rv (other:cJ R) (ho:gV tt (cO (uQ (R:=R) bM)) (yK (R:=R) cV) 0 ((aA (bb Tryz.f166)).getD 0 .skip) vk other):gV tt (cO (uQ (R:=R) bM)) (yK (R:=R) cV) 0 ((aA (bb Tryz.f166)).getD 0 .skip) vk (cE pW pX (G1 (cV)) other) :=
 cN (A:=Ix) ho (dT xY (Iw bM) (Ix) (fun _ _=>by kernel_rfl) (Ot bM cV) (fun _ _ _=>by kernel_rfl)) Iv SO (fun _ _=>by kernel_rfl) (fun _ _ _=>by kernel_rfl)
def k7:BJ R:=fun x1 k0=>QC cV x1 k0
theorem SP (R:Type):∀a∈aA (bb Tryz.f166),gJ tt (cO (uQ (R:=R) bM)) (yK (R:=R) cV) 0 a:=by
 refine eX 1 (by kernel_rfl) fun i hi => ?_
 match i,hi with
 | 0,_=>exact cy (by kernel_rfl) (Rv _ dt)
 | n+1,hi=>omega
theorem Ux (R:Type):k6 Tryz.prog 166 (QB (k7 (R:=R))):=br TT mixed (V8 (R:=R)) rfl rfl rfl rfl (SP R) (Yq bM cV)
/-! ### humpyard/json.right -/
abbrev cI (R:Type):Type:=Json→Int→(Bool→Option R)→Option R
abbrev gG:List cM := [.agg [.int .i64, .int .i64, .int .i64, .str, .sl .str, .sl .json], .leaf (.int .i64)]
abbrev gH:List aW := []
def eh (fn:cI R):k9 R gG gH:=fun x y k=>fn (⟨x.1.1,⟨x.1.2.1,x.1.2.2.1⟩,x.1.2.2.2.1,x.1.2.2.2.2.1,x.1.2.2.2.2.2.1⟩:Json) x.2.1 (fun q0=>k (.bool q0) [])
def SQ (fn:cI R):=aI gG gH (eh fn)
/-! ### humpyard/json.right$1 -/
abbrev pY (R:Type):Type:=Json→Int→(Bool→Int→Option R)→Option R
abbrev xZ:List cM := [.agg [.int .i64, .int .i64, .int .i64, .str, .sl .str, .sl .json], .leaf (.ptr 0 0)]
abbrev ya:List aW := [.cells [.int .i64]]
def Eh (fn:pY R):k9 R xZ ya:=fun x y k=>fn (⟨x.1.1,⟨x.1.2.1,x.1.2.2.1⟩,x.1.2.2.2.1,x.1.2.2.2.2.1,x.1.2.2.2.2.2.1⟩:Json) y.1.1 (fun q0 q1=>k (.bool q0) [.cells [.int .i64 q1]])
def Fq (fn:pY R):=aI xZ ya (Eh fn)
section
variable (au:cI R)
def Fs:List (oi R) := [(121,true,(aI gG gH (eh au) ax))]
def rQ (x1:Json) (x2:Int) (k0:Bool→Int→Option R):Option R :=
 au (⟨x1.kind,⟨x1.num.ao,x1.num.exp⟩,x1.text,x1.names,x1.items⟩:Json) (IntKind.i64.wrap (x2+1)) (fun y3=>k0 (!y3) x2)
theorem Ou:dC (R:=R) tt (Fs au) rP false Tryz.f168 xZ ya (Eh (rQ au)):=fun x y k=>by kernel_rfl
end
theorem Nn (au:cI R) (dV:aC.Spec.Ok Tryz.prog 121 (aI gG gH (eh au) ax)):ct (R:=R) Tryz.prog (Fs (R:=R) au) := .p dV <| .n
def cL (au:cI R):pY R:=fun x1 x2 k0=>rQ au x1 x2 k0
theorem Lz (R:Type) (au:cI R) (dV:aC.Spec.Ok Tryz.prog 121 (aI gG gH (eh au) ax)):k6 Tryz.prog 168 (Fq (cL au)):=br TT mixed (Nn au dV) rfl rfl rfl rfl cb (Ou au)
/-! ### slices.IndexFunc[[]humpyard/api.Json,humpyard/api.Json] -/
abbrev gQ (R:Type):Type:=(List Json)→Int→(Int→Int→Option R)→Option R
abbrev kv:List cM := [.leaf (.sl .json), .func 168 [] [.ptr 0 0]]
abbrev kz:List aW := [.cells [.int .i64]]
def pk (fn:gQ R):k9 R kv kz:=fun x y k=>fn x.1 y.1.1 (fun q0 q1=>k (.int .i64 q0) [.cells [.int .i64 q1]])
def pZ (fn:gQ R):=aI kv kz (pk fn)
abbrev iM (R:Type):Type:=Nat→(List Json)→Int→Int→Int→(Int→Option R)→(Int→Int→Option R)→Option R
def fQ:Hint := { live := [0,1,7,8],own := [],rows := [],cells := [],drop := [],out := [4] }
abbrev du:Type:=(List Json)×Int×Int×Int
def iC:du→St:=fun d=>⟨.sl .json d.1 .no :: .func 168 [] [.ptr 0 0]::U 5 (.int .i64 d.2.1 :: .int .i64 d.2.2.1::U 10 ([])), [.cells [.int .i64 d.2.2.2]]⟩
def iN (K:Ex→St→Option R) (q0:Int):Option R:=K (.exit 0) ⟨U 19 ([]), [.cells [.int .i64 q0]]⟩
def iO (K:Ex→St→Option R) (q0:Int) (q1:Int):Option R:=K (.ret) ⟨U 4 (.int .i64 q0::U 14 ([])), [.cells [.int .i64 q1]]⟩
abbrev eB:List cM := .leaf (.sl .json) :: .func 168 [] [.ptr 0 0]::PU 5 (.leaf (.int .i64) :: .leaf (.int .i64)::PU 10 ([]))
abbrev eC:List aW := [.cells [.int .i64]]
def nr (x:cM.bQ eB) (y:aW.bQ eC):Nat:=(List.length x.1+Int.natAbs x.2.2.2.2.2.2.2.1+Int.natAbs ((t8 x).1)+Int.natAbs y.1.1+64)
def yb (x:cM.bQ eB) (y:aW.bQ eC):du:=(x.1,x.2.2.2.2.2.2.2.1,(t8 x).1,y.1.1)
def mJ (L:iM R):wU R eB eC:=fun x y K=>L (nr x y) x.1 x.2.2.2.2.2.2.2.1 ((t8 x).1) y.1.1 (iN K) (iO K)
section
variable (cL:pY R) (aQ:iM R)
def eg:List (oi R) := [(168,false,(Fq cL ax))]
def fR (dx:(List Json)→Int→Int→Int→Option R) (x3:List Json) (x4:Int) (x5:Int) (x6:Int) (e0:Int→Option R) (e1:Int→Int→Option R):Option R :=
 bif (decide (x5<x4))then (ca (decide ((0:Int)≤x5)&&decide (x5<x3.length)) (cL (⟨(x3.getD x5.toNat (Ty.aZ .json)).kind,⟨(x3.getD x5.toNat (Ty.aZ .json)).num.ao,(x3.getD x5.toNat (Ty.aZ .json)).num.exp⟩,(x3.getD x5.toNat (Ty.aZ .json)).text,(x3.getD x5.toNat (Ty.aZ .json)).names,(x3.getD x5.toNat (Ty.aZ .json)).items⟩:Json) x6 (fun y7 y8=>bif y7 then (e1 x5 y8)else (dx x3 x4 (IntKind.i64.wrap (x5+1)) y8))))else (e0 x6)
def nt (K:Ex→St→Option R) (rc:du→Option R) (d:du):Option R:=fR cL (fun z0 z1 z2 z3=>rc (z0,z1,z2,z3)) d.1 d.2.1 d.2.2.1 d.2.2.2 (iN K) (iO K)
def fm:Nat→Option (Hint×cJ R):=fun i=>match i with
 | 2=>some (fQ,(cE eB eC (mJ aQ) iK))
 | _=>none
theorem vP (K:Ex→St→Option R) (rc:St→Option R) (d:du):roundOf tt (cO (eg cL)) (fm aQ) 1 ((aA (bb Tryz.f201)).getD 0 .skip) fQ (iC d) rc K=nt cL K (fun d=>rc (iC d)) d:=by kernel_rfl
def p7 (x1:List Json) (x2:Int) (k0:Int→Int→Option R):Option R :=
 aQ (List.length x1+Int.natAbs (x1.length:Int)+Int.natAbs 0+Int.natAbs x2+64) x1 (x1.length:Int) 0 x2 (fun y9=>k0 (-1) y9) (fun uf vO=>k0 uf vO)
theorem A9:dC (R:=R) tt (eg cL) (fm aQ) false Tryz.f201 kv kz (pk (p7 aQ)):=fun x y k=>by kernel_rfl
end
theorem Aj (au:cI R) (dV:aC.Spec.Ok Tryz.prog 121 (aI gG gH (eh au) ax)):ct (R:=R) Tryz.prog (eg (R:=R) (cL au)) := .d (Lz R au dV) rfl <| .n
def aQ (au:cI R):iM R
 | 0,_,_,_,_,_,_=>none
 | n+1,gh,gl,gv,mB,e0,e1=>fR (cL au) (fun gh gl gv mB=>aQ au n gh gl gv mB e0 e1) gh gl gv mB e0 e1
def nu (au:cI R) (K:Ex→St→Option R) (n:Nat) (d:du):Option R:=aQ au n d.1 d.2.1 d.2.2.1 d.2.2.2 (iN K) (iO K)
theorem w7 (au:cI R) (other:cJ R) (ho:gV tt (cO (eg (R:=R) (cL au))) (fm (R:=R) (aQ au)) 1 ((aA (bb Tryz.f201)).getD 0 .skip) fQ other):gV tt (cO (eg (R:=R) (cL au))) (fm (R:=R) (aQ au)) 1 ((aA (bb Tryz.f201)).getD 0 .skip) fQ (cE eB eC (mJ (aQ au)) other) :=
 cN (A:=nu au) ho (dT iC (nt (cL au)) (nu au) (fun _ _=>by kernel_rfl) (vP (cL au) (aQ au)) (fun _ _ _=>by kernel_rfl)) nr yb (fun _ _=>by kernel_rfl) (fun _ _ _=>by kernel_rfl)
def cP (au:cI R):gQ R:=fun x1 x2 k0=>p7 (aQ au) x1 x2 k0
theorem yc (R:Type) (au:cI R) (dV:aC.Spec.Ok Tryz.prog 121 (aI gG gH (eh au) ax)):∀a∈aA (bb Tryz.f201),gJ tt (cO (eg (R:=R) (cL au))) (fm (R:=R) (aQ au)) 1 a:=by
 refine eX 1 (by kernel_rfl) fun i hi => ?_
 match i,hi with
 | 0,_=>exact cy (by kernel_rfl) (w7 au _ dt)
 | n+1,hi=>omega
theorem yL (R:Type) (au:cI R) (dV:aC.Spec.Ok Tryz.prog 121 (aI gG gH (eh au) ax)):k6 Tryz.prog 201 (pZ (cP au)):=br TT mixed (Aj au dV) rfl rfl rfl rfl (yc R au dV) (A9 (cL au) (aQ au))
/-! ### slices.ContainsFunc[[]humpyard/api.Json,humpyard/api.Json] -/
abbrev fS (R:Type):Type:=(List Json)→Int→(Bool→Int→Option R)→Option R
abbrev ju:List cM := [.leaf (.sl .json), .func 168 [] [.ptr 0 0]]
abbrev jv:List aW := [.cells [.int .i64]]
def nv (fn:fS R):k9 R ju jv:=fun x y k=>fn x.1 y.1.1 (fun q0 q1=>k (.bool q0) [.cells [.int .i64 q1]])
def n8 (fn:fS R):=aI ju jv (nv fn)
section
variable (cP:gQ R)
def n9:List (oi R) := [(201,false,(pZ cP ax))]
def oa (x1:List Json) (x2:Int) (k0:Bool→Int→Option R):Option R :=
 cP x1 x2 (fun y3 y4=>k0 (decide (y3≥(0:Int))) y4)
theorem yd:dC (R:=R) tt (n9 cP) rP false Tryz.f167 ju jv (nv (oa cP)):=fun x y k=>by kernel_rfl
end
theorem w8 (au:cI R) (dV:aC.Spec.Ok Tryz.prog 121 (aI gG gH (eh au) ax)):ct (R:=R) Tryz.prog (n9 (R:=R) (cP au)) := .d (yL R au dV) rfl <| .n
def aP (au:cI R):fS R:=fun x1 x2 k0=>oa (cP au) x1 x2 k0
theorem wm (R:Type) (au:cI R) (dV:aC.Spec.Ok Tryz.prog 121 (aI gG gH (eh au) ax)):k6 Tryz.prog 167 (n8 (aP au)):=br TT mixed (w8 au dV) rfl rfl rfl rfl cb (yd (cP au))
section
variable (bM:r6 R) (bK:oo R) (r5:FT R) (k7:BJ R) (aP:fS R)
def SR:List (oi R) := [(165,true,(DS bM ax)),(164,true,(zA bK ax)),(163,true,(Vu r5 ax)),(166,true,(QB k7 ax)),(167,false,(n8 aP ax))]
def FU (x1:Json) (x2:Int) (k0:Bool→Option R):Option R :=
 r5 (⟨x1.kind,⟨x1.num.ao,x1.num.exp⟩,x1.text,x1.names,x1.items⟩:Json) (fun y3=>bif (decide (x2>(16:Int)))then (k0 false)else (bif (decide (x1.kind<(1:Int)))then (k0 false)else (bif (decide (x1.kind>(7:Int)))then (k0 false)else (bif (!(y3.num.ao==0&&(y3.num.exp==0&&true)))then (k0 false)else (bif (!(y3.text==([]:ah)))then (k0 false)else (bif (decide ((IntKind.i64.wrap ((y3.names.length:Int)+(y3.items.length:Int)))>(0:Int)))then (k0 false)else (bif (x1.kind==4)then (bK x1.num (fun y5=>k0 y5))else (bif (x1.kind==5)then (bM x1.text (fun y6=>k0 y6))else (bif (x1.kind==7)then (bif ((x1.names.length:Int) != (x1.items.length:Int))then (k0 false)else (k7 x1.names (fun y7=>bif (!y7)then (k0 false)else (aP x1.items x2 (fun vO Ad=>k0 (!vO))))))else (aP x1.items x2 (fun Jg HF=>k0 (!Jg))))))))))))
theorem Z6:dC (R:=R) tt (SR bM bK r5 k7 aP) rP false Tryz.f121 gG gH (eh (FU bM bK r5 k7 aP)):=fun x y k=>by kernel_rfl
end
theorem Yr (au:cI R) (dV:aC.Spec.Ok Tryz.prog 121 (aI gG gH (eh au) ax)):ct (R:=R) Tryz.prog (SR (R:=R) bM bK r5 k7 (aP au)) := .c (Dq R) <| .c (Af R) <| .c (Yo R) <| .c (Ux R) <| .d (wm R au dV) rfl <| .n
def LA (au:cI R):cI R:=fun x1 x2 k0=>FU bM bK r5 k7 (aP au) x1 x2 k0
theorem Uy (R:Type) (au:cI R) (dV:aC.Spec.Ok Tryz.prog 121 (aI gG gH (eh au) ax)):k6 Tryz.prog 121 (SQ (LA au)):=br TT mixed (Yr au dV) rfl rfl rfl rfl cb (Z6 bM bK r5 k7 (aP au))
def eK:Nat→cI R
 | 0,_,_,_=>none
 | n+1,gh,gl,k0'=>LA (eK n) gh gl k0'
theorem json_right_N_succ (n:Nat):eK (R:=R) (n+1)=LA (eK n):=by kernel_rfl
theorem V9 (R:Type):∀n,aC.Spec.Ok Tryz.prog 121 (aI gG gH (eh (eK (R:=R) n)) ax) :=
 AL (run:=fun n=>eh (eK (R:=R) n)) (fun x y k=>by kernel_rfl) fun n hyp=>Uy R (eK n) hyp ax (jl _)
def oL:cI R:=fun x1 x2 k0=>eK (Json.depth x1+2) x1 x2 k0
theorem Wa (R:Type):eh (R:=R) oL=fun x y k=>eh (eK (Json.depth (⟨x.1.1,⟨x.1.2.1,x.1.2.2.1⟩,x.1.2.2.2.1,x.1.2.2.2.2.1,x.1.2.2.2.2.2.1⟩:Json)+2)) x y k:=by kernel_rfl
theorem Wb (R:Type) (other:aC.Spec R) (ho:aC.Spec.Ok Tryz.prog 121 other):aC.Spec.Ok Tryz.prog 121 (aI gG gH (eh oL) other) :=
 GL (J8 (run:=fun n=>eh (eK (R:=R) n)) (fun x y=>(Json.depth (⟨x.1.1,⟨x.1.2.1,x.1.2.2.1⟩,x.1.2.2.2.1,x.1.2.2.2.2.1,x.1.2.2.2.2.2.1⟩:Json)+2)) ho (V9 R)) (Wa R)
/-! ### humpyard/json.Right -/
abbrev DT (R:Type):Type:=Json→(Bool→Option R)→Option R
abbrev LB:List cM := [.agg [.int .i64, .int .i64, .int .i64, .str, .sl .str, .sl .json]]
abbrev LC:List aW := []
def QD (fn:DT R):k9 R LB LC:=fun x y k=>fn (⟨x.1.1,⟨x.1.2.1,x.1.2.2.1⟩,x.1.2.2.2.1,x.1.2.2.2.2.1,x.1.2.2.2.2.2.1⟩:Json) (fun q0=>k (.bool q0) [])
def SS (fn:DT R):=aI LB LC (QD fn)
section
variable (oL:cI R)
def SU:List (oi R) := [(121,true,(SQ oL ax))]
def FV (x1:Json) (k0:Bool→Option R):Option R :=
 oL (⟨x1.kind,⟨x1.num.ao,x1.num.exp⟩,x1.text,x1.names,x1.items⟩:Json) 1 (fun y2=>k0 y2)
theorem Z7:dC (R:=R) tt (SU oL) rP false Tryz.f82 LB LC (QD (FV oL)):=fun x y k=>by kernel_rfl
end
theorem Ys:ct (R:=R) Tryz.prog (SU (R:=R) oL) := .p (Wb R _ (jl _)) <| .n
def mX:DT R:=fun x1 k0=>FV oL x1 k0
theorem Wc (R:Type):k6 Tryz.prog 82 (SS (mX (R:=R))):=br TT mixed (Ys (R:=R)) rfl rfl rfl rfl cb (Z7 oL)
/-! ### (*strings.Builder).WriteString -/
abbrev dz (R:Type):Type:=ah→(Int→(List Int)→Option R)→Option R
abbrev jI:List cM := [.leaf (.ptr 0 0), .leaf (.str)]
abbrev jJ:List aW := [.mA (.bw)]
def oc (fn:dz R):k9 R jI jJ:=fun x y k=>fn x.2.1 (fun q0 q1=>k (.tuple [.int .i64 q0, .dp]) [.mA (.sl (.int .u8) q1 (.own 1)), .tok])
def gI (fn:dz R):=aI jI jJ (oc fn)
section
def oM:List (oi R) := [(171,false,(Vl R))]
def oN (x1:ah) (k0:Int→(List Int)→Option R):Option R :=
 ca (decide ((0+(jH x1).length)*1≤140737488355328)) (k0 (x1.length:Int) (jH x1))
theorem yM:dC (R:=R) tt (oM (R:=R)) rP false Tryz.f124 jI jJ (oc oN):=fun x y k=>by kernel_rfl
end
theorem ye:ct (R:=R) Tryz.prog (oM (R:=R)) := .f (Yd) rfl <| .n
def ai:dz R:=fun x1 k0=>oN x1 k0
theorem iP (R:Type):k6 Tryz.prog 124 (gI (ai (R:=R))):=br TT mixed (ye (R:=R)) rfl rfl rfl rfl cb (yM)
/-! ### (*strings.Builder).WriteByte -/
abbrev dQ (R:Type):Type:=Int→((List Int)→Option R)→Option R
abbrev kA:List cM := [.leaf (.ptr 0 0), .leaf (.int .u8)]
abbrev kB:List aW := [.mA (.bw)]
def pn (fn:dQ R):k9 R kA kB:=fun x y k=>fn x.2.1 (fun q0=>k (.dp) [.mA (.sl (.int .u8) q0 (.own 1)), .tok])
def gX (fn:dQ R):=aI kA kB (pn fn)
section
def p8:List (oi R) := [(171,false,(Vl R))]
def p9 (x1:Int) (k0:(List Int)→Option R):Option R :=
 k0 ([x1]:List Int)
theorem Ba:dC (R:=R) tt (p8 (R:=R)) rP false Tryz.f126 kA kB (pn p9):=fun x y k=>by kernel_rfl
end
theorem Ak:ct (R:=R) Tryz.prog (p8 (R:=R)) := .f (Yd) rfl <| .n
def aj:dQ R:=fun x1 k0=>p9 x1 k0
theorem jx (R:Type):k6 Tryz.prog 126 (gX (aj (R:=R))):=br TT mixed (Ak (R:=R)) rfl rfl rfl rfl cb (Ba)
/-! ### (*strings.Builder).WriteString -/
abbrev cZ (R:Type):Type:=ah→(List Int)→(Int→(List Int)→Option R)→Option R
abbrev jK:List cM := [.leaf (.ptr 0 0), .leaf (.str)]
abbrev jL:List aW := [.mA (.TY (.int .u8) 1), .tok]
def oe (fn:cZ R):k9 R jK jL:=fun x y k=>fn x.2.1 y.1 (fun q0 q1=>k (.tuple [.int .i64 q0, .dp]) [.mA (.sl (.int .u8) q1 (.own 2)), .dead, .tok])
def eU (fn:cZ R):=aI jK jL (oe fn)
section
def oO:List (oi R) := [(171,false,(Vl R))]
def oP (x1:ah) (x2:List Int) (k0:Int→(List Int)→Option R):Option R :=
 ca (decide ((x2.length+(jH x1).length)*1≤140737488355328)) (k0 (x1.length:Int) ((x2:List Int)++((jH x1):List Int)))
theorem yN:dC (R:=R) tt (oO (R:=R)) rP false Tryz.f124 jK jL (oe oP):=fun x y k=>by kernel_rfl
end
theorem yf:ct (R:=R) Tryz.prog (oO (R:=R)) := .f (Yd) rfl <| .n
def ae:cZ R:=fun x1 x2 k0=>oP x1 x2 k0
theorem fG (R:Type):k6 Tryz.prog 124 (eU (ae (R:=R))):=br TT mixed (yf (R:=R)) rfl rfl rfl rfl cb (yN)
end Go.Proofs.YtidfokedcnhahaaGreatDoor
/-
 Functions of the program as pure Lean functions, and the ties; printed by wip/tools/emit.py.
-/
set_option maxRecDepth 100000
namespace Go.Proofs.YtidfokedcnhahaaGreatDoor
open Go Go.aC
variable {R:Type}
/-! ### humpyard/decimal.Print -/
abbrev r7 (R:Type):Type:=ft→(ah→Option R)→Option R
abbrev EX:List cM := [.agg [.int .i64, .int .i64]]
abbrev EY:List aW := []
def Kf (fn:r7 R):k9 R EX EY:=fun x y k=>fn (⟨x.1.1,x.1.2.1⟩:ft) (fun q0=>k (.str q0) [])
def EZ (fn:r7 R):=aI EX EY (Kf fn)
section
variable (bK:oo R) (aj:dQ R) (ae:cZ R) (ai:dz R)
def MR:List (oi R) := [(164,true,(zA bK ax)),(126,false,(gX aj ax)),(124,false,(gI ai (eU ae ax))),(84,false,(Lo R)),(172,true,(itoa_S R)),(173,true,(rep_S R))]
def pG (x1:ft) (k0:ah→Option R):Option R :=
 bK x1 (fun y2=>bif (!y2)then (k0 ([]:ah))else (bif (decide (x1.ao<(0:Int)))then (aj 45 (fun y3=>bif (decide (x1.exp≥(0:Int)))then (ca (decide (0≤x1.exp)&&decide ((([48]:ah).length:Int)*x1.exp≤140737488355328)) (ca (decide ((cd (max x1.ao (IntKind.i64.wrap (0 - x1.ao)))).length+(kZ ([48]:ah) x1.exp).length≤9223372036854775807)) (ae ((cd (max x1.ao (IntKind.i64.wrap (0 - x1.ao))))++(kZ ([48]:ah) x1.exp)) y3 (fun y4 y5=>k0 (vM y5)))))else (ca (decide (0≤(max 0 (IntKind.i64.wrap ((IntKind.i64.wrap (1 - x1.exp)) - ((cd (max x1.ao (IntKind.i64.wrap (0 - x1.ao)))).length:Int)))))&&decide ((([48]:ah).length:Int)*(max 0 (IntKind.i64.wrap ((IntKind.i64.wrap (1 - x1.exp)) - ((cd (max x1.ao (IntKind.i64.wrap (0 - x1.ao)))).length:Int))))≤140737488355328)) (ca (decide ((kZ ([48]:ah) (max 0 (IntKind.i64.wrap ((IntKind.i64.wrap (1 - x1.exp)) - ((cd (max x1.ao (IntKind.i64.wrap (0 - x1.ao)))).length:Int))))).length+(cd (max x1.ao (IntKind.i64.wrap (0 - x1.ao)))).length≤9223372036854775807)) (ca (decide ((0:Int)≤(IntKind.i64.wrap ((((kZ ([48]:ah) (max 0 (IntKind.i64.wrap ((IntKind.i64.wrap (1 - x1.exp)) - ((cd (max x1.ao (IntKind.i64.wrap (0 - x1.ao)))).length:Int)))))++(cd (max x1.ao (IntKind.i64.wrap (0 - x1.ao))))).length:Int)+x1.exp)))&&decide ((IntKind.i64.wrap ((((kZ ([48]:ah) (max 0 (IntKind.i64.wrap ((IntKind.i64.wrap (1 - x1.exp)) - ((cd (max x1.ao (IntKind.i64.wrap (0 - x1.ao)))).length:Int)))))++(cd (max x1.ao (IntKind.i64.wrap (0 - x1.ao))))).length:Int)+x1.exp))≤((kZ ([48]:ah) (max 0 (IntKind.i64.wrap ((IntKind.i64.wrap (1 - x1.exp)) - ((cd (max x1.ao (IntKind.i64.wrap (0 - x1.ao)))).length:Int)))))++(cd (max x1.ao (IntKind.i64.wrap (0 - x1.ao))))).length)) (ca (decide ((0:Int)≤(IntKind.i64.wrap ((((kZ ([48]:ah) (max 0 (IntKind.i64.wrap ((IntKind.i64.wrap (1 - x1.exp)) - ((cd (max x1.ao (IntKind.i64.wrap (0 - x1.ao)))).length:Int)))))++(cd (max x1.ao (IntKind.i64.wrap (0 - x1.ao))))).length:Int)+x1.exp)))) (ca (decide (((((kZ ([48]:ah) (max 0 (IntKind.i64.wrap ((IntKind.i64.wrap (1 - x1.exp)) - ((cd (max x1.ao (IntKind.i64.wrap (0 - x1.ao)))).length:Int)))))++(cd (max x1.ao (IntKind.i64.wrap (0 - x1.ao))))).drop 0).take ((IntKind.i64.wrap ((((kZ ([48]:ah) (max 0 (IntKind.i64.wrap ((IntKind.i64.wrap (1 - x1.exp)) - ((cd (max x1.ao (IntKind.i64.wrap (0 - x1.ao)))).length:Int)))))++(cd (max x1.ao (IntKind.i64.wrap (0 - x1.ao))))).length:Int)+x1.exp)).toNat - 0)).length+1≤9223372036854775807)) (ca (decide ((0:Int)≤(((kZ ([48]:ah) (max 0 (IntKind.i64.wrap ((IntKind.i64.wrap (1 - x1.exp)) - ((cd (max x1.ao (IntKind.i64.wrap (0 - x1.ao)))).length:Int)))))++(cd (max x1.ao (IntKind.i64.wrap (0 - x1.ao))))).length:Int))&&decide ((((kZ ([48]:ah) (max 0 (IntKind.i64.wrap ((IntKind.i64.wrap (1 - x1.exp)) - ((cd (max x1.ao (IntKind.i64.wrap (0 - x1.ao)))).length:Int)))))++(cd (max x1.ao (IntKind.i64.wrap (0 - x1.ao))))).length:Int)≤((kZ ([48]:ah) (max 0 (IntKind.i64.wrap ((IntKind.i64.wrap (1 - x1.exp)) - ((cd (max x1.ao (IntKind.i64.wrap (0 - x1.ao)))).length:Int)))))++(cd (max x1.ao (IntKind.i64.wrap (0 - x1.ao))))).length)) (ca (decide ((0:Int)≤(IntKind.i64.wrap ((((kZ ([48]:ah) (max 0 (IntKind.i64.wrap ((IntKind.i64.wrap (1 - x1.exp)) - ((cd (max x1.ao (IntKind.i64.wrap (0 - x1.ao)))).length:Int)))))++(cd (max x1.ao (IntKind.i64.wrap (0 - x1.ao))))).length:Int)+x1.exp)))&&decide ((IntKind.i64.wrap ((((kZ ([48]:ah) (max 0 (IntKind.i64.wrap ((IntKind.i64.wrap (1 - x1.exp)) - ((cd (max x1.ao (IntKind.i64.wrap (0 - x1.ao)))).length:Int)))))++(cd (max x1.ao (IntKind.i64.wrap (0 - x1.ao))))).length:Int)+x1.exp))≤(((kZ ([48]:ah) (max 0 (IntKind.i64.wrap ((IntKind.i64.wrap (1 - x1.exp)) - ((cd (max x1.ao (IntKind.i64.wrap (0 - x1.ao)))).length:Int)))))++(cd (max x1.ao (IntKind.i64.wrap (0 - x1.ao))))).length:Int))) (ca (decide ((((((kZ ([48]:ah) (max 0 (IntKind.i64.wrap ((IntKind.i64.wrap (1 - x1.exp)) - ((cd (max x1.ao (IntKind.i64.wrap (0 - x1.ao)))).length:Int)))))++(cd (max x1.ao (IntKind.i64.wrap (0 - x1.ao))))).drop 0).take ((IntKind.i64.wrap ((((kZ ([48]:ah) (max 0 (IntKind.i64.wrap ((IntKind.i64.wrap (1 - x1.exp)) - ((cd (max x1.ao (IntKind.i64.wrap (0 - x1.ao)))).length:Int)))))++(cd (max x1.ao (IntKind.i64.wrap (0 - x1.ao))))).length:Int)+x1.exp)).toNat - 0))++([46]:ah)).length+((((kZ ([48]:ah) (max 0 (IntKind.i64.wrap ((IntKind.i64.wrap (1 - x1.exp)) - ((cd (max x1.ao (IntKind.i64.wrap (0 - x1.ao)))).length:Int)))))++(cd (max x1.ao (IntKind.i64.wrap (0 - x1.ao))))).drop (IntKind.i64.wrap ((((kZ ([48]:ah) (max 0 (IntKind.i64.wrap ((IntKind.i64.wrap (1 - x1.exp)) - ((cd (max x1.ao (IntKind.i64.wrap (0 - x1.ao)))).length:Int)))))++(cd (max x1.ao (IntKind.i64.wrap (0 - x1.ao))))).length:Int)+x1.exp)).toNat).take ((((kZ ([48]:ah) (max 0 (IntKind.i64.wrap ((IntKind.i64.wrap (1 - x1.exp)) - ((cd (max x1.ao (IntKind.i64.wrap (0 - x1.ao)))).length:Int)))))++(cd (max x1.ao (IntKind.i64.wrap (0 - x1.ao))))).length:Int).toNat - (IntKind.i64.wrap ((((kZ ([48]:ah) (max 0 (IntKind.i64.wrap ((IntKind.i64.wrap (1 - x1.exp)) - ((cd (max x1.ao (IntKind.i64.wrap (0 - x1.ao)))).length:Int)))))++(cd (max x1.ao (IntKind.i64.wrap (0 - x1.ao))))).length:Int)+x1.exp)).toNat)).length≤9223372036854775807)) (ae ((((((kZ ([48]:ah) (max 0 (IntKind.i64.wrap ((IntKind.i64.wrap (1 - x1.exp)) - ((cd (max x1.ao (IntKind.i64.wrap (0 - x1.ao)))).length:Int)))))++(cd (max x1.ao (IntKind.i64.wrap (0 - x1.ao))))).drop 0).take ((IntKind.i64.wrap ((((kZ ([48]:ah) (max 0 (IntKind.i64.wrap ((IntKind.i64.wrap (1 - x1.exp)) - ((cd (max x1.ao (IntKind.i64.wrap (0 - x1.ao)))).length:Int)))))++(cd (max x1.ao (IntKind.i64.wrap (0 - x1.ao))))).length:Int)+x1.exp)).toNat - 0))++([46]:ah))++((((kZ ([48]:ah) (max 0 (IntKind.i64.wrap ((IntKind.i64.wrap (1 - x1.exp)) - ((cd (max x1.ao (IntKind.i64.wrap (0 - x1.ao)))).length:Int)))))++(cd (max x1.ao (IntKind.i64.wrap (0 - x1.ao))))).drop (IntKind.i64.wrap ((((kZ ([48]:ah) (max 0 (IntKind.i64.wrap ((IntKind.i64.wrap (1 - x1.exp)) - ((cd (max x1.ao (IntKind.i64.wrap (0 - x1.ao)))).length:Int)))))++(cd (max x1.ao (IntKind.i64.wrap (0 - x1.ao))))).length:Int)+x1.exp)).toNat).take ((((kZ ([48]:ah) (max 0 (IntKind.i64.wrap ((IntKind.i64.wrap (1 - x1.exp)) - ((cd (max x1.ao (IntKind.i64.wrap (0 - x1.ao)))).length:Int)))))++(cd (max x1.ao (IntKind.i64.wrap (0 - x1.ao))))).length:Int).toNat - (IntKind.i64.wrap ((((kZ ([48]:ah) (max 0 (IntKind.i64.wrap ((IntKind.i64.wrap (1 - x1.exp)) - ((cd (max x1.ao (IntKind.i64.wrap (0 - x1.ao)))).length:Int)))))++(cd (max x1.ao (IntKind.i64.wrap (0 - x1.ao))))).length:Int)+x1.exp)).toNat))) y3 (fun y6 y7=>k0 (vM y7)))))))))))))else (bif (decide (x1.exp≥(0:Int)))then (ca (decide (0≤x1.exp)&&decide ((([48]:ah).length:Int)*x1.exp≤140737488355328)) (ca (decide ((cd (max x1.ao (IntKind.i64.wrap (0 - x1.ao)))).length+(kZ ([48]:ah) x1.exp).length≤9223372036854775807)) (ai ((cd (max x1.ao (IntKind.i64.wrap (0 - x1.ao))))++(kZ ([48]:ah) x1.exp)) (fun y8 y9=>k0 (vM y9)))))else (ca (decide (0≤(max 0 (IntKind.i64.wrap ((IntKind.i64.wrap (1 - x1.exp)) - ((cd (max x1.ao (IntKind.i64.wrap (0 - x1.ao)))).length:Int)))))&&decide ((([48]:ah).length:Int)*(max 0 (IntKind.i64.wrap ((IntKind.i64.wrap (1 - x1.exp)) - ((cd (max x1.ao (IntKind.i64.wrap (0 - x1.ao)))).length:Int))))≤140737488355328)) (ca (decide ((kZ ([48]:ah) (max 0 (IntKind.i64.wrap ((IntKind.i64.wrap (1 - x1.exp)) - ((cd (max x1.ao (IntKind.i64.wrap (0 - x1.ao)))).length:Int))))).length+(cd (max x1.ao (IntKind.i64.wrap (0 - x1.ao)))).length≤9223372036854775807)) (ca (decide ((0:Int)≤(IntKind.i64.wrap ((((kZ ([48]:ah) (max 0 (IntKind.i64.wrap ((IntKind.i64.wrap (1 - x1.exp)) - ((cd (max x1.ao (IntKind.i64.wrap (0 - x1.ao)))).length:Int)))))++(cd (max x1.ao (IntKind.i64.wrap (0 - x1.ao))))).length:Int)+x1.exp)))&&decide ((IntKind.i64.wrap ((((kZ ([48]:ah) (max 0 (IntKind.i64.wrap ((IntKind.i64.wrap (1 - x1.exp)) - ((cd (max x1.ao (IntKind.i64.wrap (0 - x1.ao)))).length:Int)))))++(cd (max x1.ao (IntKind.i64.wrap (0 - x1.ao))))).length:Int)+x1.exp))≤((kZ ([48]:ah) (max 0 (IntKind.i64.wrap ((IntKind.i64.wrap (1 - x1.exp)) - ((cd (max x1.ao (IntKind.i64.wrap (0 - x1.ao)))).length:Int)))))++(cd (max x1.ao (IntKind.i64.wrap (0 - x1.ao))))).length)) (ca (decide ((0:Int)≤(IntKind.i64.wrap ((((kZ ([48]:ah) (max 0 (IntKind.i64.wrap ((IntKind.i64.wrap (1 - x1.exp)) - ((cd (max x1.ao (IntKind.i64.wrap (0 - x1.ao)))).length:Int)))))++(cd (max x1.ao (IntKind.i64.wrap (0 - x1.ao))))).length:Int)+x1.exp)))) (ca (decide (((((kZ ([48]:ah) (max 0 (IntKind.i64.wrap ((IntKind.i64.wrap (1 - x1.exp)) - ((cd (max x1.ao (IntKind.i64.wrap (0 - x1.ao)))).length:Int)))))++(cd (max x1.ao (IntKind.i64.wrap (0 - x1.ao))))).drop 0).take ((IntKind.i64.wrap ((((kZ ([48]:ah) (max 0 (IntKind.i64.wrap ((IntKind.i64.wrap (1 - x1.exp)) - ((cd (max x1.ao (IntKind.i64.wrap (0 - x1.ao)))).length:Int)))))++(cd (max x1.ao (IntKind.i64.wrap (0 - x1.ao))))).length:Int)+x1.exp)).toNat - 0)).length+1≤9223372036854775807)) (ca (decide ((0:Int)≤(((kZ ([48]:ah) (max 0 (IntKind.i64.wrap ((IntKind.i64.wrap (1 - x1.exp)) - ((cd (max x1.ao (IntKind.i64.wrap (0 - x1.ao)))).length:Int)))))++(cd (max x1.ao (IntKind.i64.wrap (0 - x1.ao))))).length:Int))&&decide ((((kZ ([48]:ah) (max 0 (IntKind.i64.wrap ((IntKind.i64.wrap (1 - x1.exp)) - ((cd (max x1.ao (IntKind.i64.wrap (0 - x1.ao)))).length:Int)))))++(cd (max x1.ao (IntKind.i64.wrap (0 - x1.ao))))).length:Int)≤((kZ ([48]:ah) (max 0 (IntKind.i64.wrap ((IntKind.i64.wrap (1 - x1.exp)) - ((cd (max x1.ao (IntKind.i64.wrap (0 - x1.ao)))).length:Int)))))++(cd (max x1.ao (IntKind.i64.wrap (0 - x1.ao))))).length)) (ca (decide ((0:Int)≤(IntKind.i64.wrap ((((kZ ([48]:ah) (max 0 (IntKind.i64.wrap ((IntKind.i64.wrap (1 - x1.exp)) - ((cd (max x1.ao (IntKind.i64.wrap (0 - x1.ao)))).length:Int)))))++(cd (max x1.ao (IntKind.i64.wrap (0 - x1.ao))))).length:Int)+x1.exp)))&&decide ((IntKind.i64.wrap ((((kZ ([48]:ah) (max 0 (IntKind.i64.wrap ((IntKind.i64.wrap (1 - x1.exp)) - ((cd (max x1.ao (IntKind.i64.wrap (0 - x1.ao)))).length:Int)))))++(cd (max x1.ao (IntKind.i64.wrap (0 - x1.ao))))).length:Int)+x1.exp))≤(((kZ ([48]:ah) (max 0 (IntKind.i64.wrap ((IntKind.i64.wrap (1 - x1.exp)) - ((cd (max x1.ao (IntKind.i64.wrap (0 - x1.ao)))).length:Int)))))++(cd (max x1.ao (IntKind.i64.wrap (0 - x1.ao))))).length:Int))) (ca (decide ((((((kZ ([48]:ah) (max 0 (IntKind.i64.wrap ((IntKind.i64.wrap (1 - x1.exp)) - ((cd (max x1.ao (IntKind.i64.wrap (0 - x1.ao)))).length:Int)))))++(cd (max x1.ao (IntKind.i64.wrap (0 - x1.ao))))).drop 0).take ((IntKind.i64.wrap ((((kZ ([48]:ah) (max 0 (IntKind.i64.wrap ((IntKind.i64.wrap (1 - x1.exp)) - ((cd (max x1.ao (IntKind.i64.wrap (0 - x1.ao)))).length:Int)))))++(cd (max x1.ao (IntKind.i64.wrap (0 - x1.ao))))).length:Int)+x1.exp)).toNat - 0))++([46]:ah)).length+((((kZ ([48]:ah) (max 0 (IntKind.i64.wrap ((IntKind.i64.wrap (1 - x1.exp)) - ((cd (max x1.ao (IntKind.i64.wrap (0 - x1.ao)))).length:Int)))))++(cd (max x1.ao (IntKind.i64.wrap (0 - x1.ao))))).drop (IntKind.i64.wrap ((((kZ ([48]:ah) (max 0 (IntKind.i64.wrap ((IntKind.i64.wrap (1 - x1.exp)) - ((cd (max x1.ao (IntKind.i64.wrap (0 - x1.ao)))).length:Int)))))++(cd (max x1.ao (IntKind.i64.wrap (0 - x1.ao))))).length:Int)+x1.exp)).toNat).take ((((kZ ([48]:ah) (max 0 (IntKind.i64.wrap ((IntKind.i64.wrap (1 - x1.exp)) - ((cd (max x1.ao (IntKind.i64.wrap (0 - x1.ao)))).length:Int)))))++(cd (max x1.ao (IntKind.i64.wrap (0 - x1.ao))))).length:Int).toNat - (IntKind.i64.wrap ((((kZ ([48]:ah) (max 0 (IntKind.i64.wrap ((IntKind.i64.wrap (1 - x1.exp)) - ((cd (max x1.ao (IntKind.i64.wrap (0 - x1.ao)))).length:Int)))))++(cd (max x1.ao (IntKind.i64.wrap (0 - x1.ao))))).length:Int)+x1.exp)).toNat)).length≤9223372036854775807)) (ai ((((((kZ ([48]:ah) (max 0 (IntKind.i64.wrap ((IntKind.i64.wrap (1 - x1.exp)) - ((cd (max x1.ao (IntKind.i64.wrap (0 - x1.ao)))).length:Int)))))++(cd (max x1.ao (IntKind.i64.wrap (0 - x1.ao))))).drop 0).take ((IntKind.i64.wrap ((((kZ ([48]:ah) (max 0 (IntKind.i64.wrap ((IntKind.i64.wrap (1 - x1.exp)) - ((cd (max x1.ao (IntKind.i64.wrap (0 - x1.ao)))).length:Int)))))++(cd (max x1.ao (IntKind.i64.wrap (0 - x1.ao))))).length:Int)+x1.exp)).toNat - 0))++([46]:ah))++((((kZ ([48]:ah) (max 0 (IntKind.i64.wrap ((IntKind.i64.wrap (1 - x1.exp)) - ((cd (max x1.ao (IntKind.i64.wrap (0 - x1.ao)))).length:Int)))))++(cd (max x1.ao (IntKind.i64.wrap (0 - x1.ao))))).drop (IntKind.i64.wrap ((((kZ ([48]:ah) (max 0 (IntKind.i64.wrap ((IntKind.i64.wrap (1 - x1.exp)) - ((cd (max x1.ao (IntKind.i64.wrap (0 - x1.ao)))).length:Int)))))++(cd (max x1.ao (IntKind.i64.wrap (0 - x1.ao))))).length:Int)+x1.exp)).toNat).take ((((kZ ([48]:ah) (max 0 (IntKind.i64.wrap ((IntKind.i64.wrap (1 - x1.exp)) - ((cd (max x1.ao (IntKind.i64.wrap (0 - x1.ao)))).length:Int)))))++(cd (max x1.ao (IntKind.i64.wrap (0 - x1.ao))))).length:Int).toNat - (IntKind.i64.wrap ((((kZ ([48]:ah) (max 0 (IntKind.i64.wrap ((IntKind.i64.wrap (1 - x1.exp)) - ((cd (max x1.ao (IntKind.i64.wrap (0 - x1.ao)))).length:Int)))))++(cd (max x1.ao (IntKind.i64.wrap (0 - x1.ao))))).length:Int)+x1.exp)).toNat))) (fun uf vO=>k0 (vM vO))))))))))))))
theorem Uz:dC (R:=R) tt (MR bK aj ae ai) rP false Tryz.f125 EX EY (Kf (pG bK aj ae ai)):=fun x y k=>by kernel_rfl
end
theorem SV:ct (R:=R) Tryz.prog (MR (R:=R) bK aj ae ai) := .c (Af R) <| .d (jx R) rfl <| .f (iP R _ (fG R _ (jl _))) rfl <| .s (WZ) PG <| .p (itoa_ok) <| .p (rep_ok) <| .n
def bL:r7 R:=fun x1 k0=>pG bK aj ae ai x1 k0
theorem G2 (R:Type):k6 Tryz.prog 125 (EZ (bL (R:=R))):=br TT mixed (SV (R:=R)) rfl rfl rfl rfl cb (Uz bK aj ae ai)
/-! ### humpyard/quote.short -/
abbrev BK (R:Type):Type:=Int→(Int→Option R)→Option R
abbrev Jp:List cM := [.leaf (.int .i32)]
abbrev Jq:List aW := []
def Ov (fn:BK R):k9 R Jp Jq:=fun x y k=>fn x.1 (fun q0=>k (.int .u8 q0) [])
def QE (fn:BK R):=aI Jp Jq (Ov fn)
section
def DU (x1:Int) (k0:Int→Option R):Option R :=
 bif (x1==34)then (bif (x1==34)then (k0 (IntKind.u8.wrap x1))else (bif (x1==8)then (k0 98)else (bif (x1==12)then (k0 102)else (bif (x1==10)then (k0 110)else (bif (x1==13)then (k0 114)else (bif (x1==9)then (k0 116)else (k0 0)))))))else (bif (x1==92)then (k0 (IntKind.u8.wrap x1))else (bif (x1==8)then (k0 98)else (bif (x1==12)then (k0 102)else (bif (x1==10)then (k0 110)else (bif (x1==13)then (k0 114)else (bif (x1==9)then (k0 116)else (k0 0)))))))
theorem Yt:dC (R:=R) tt [] rP false Tryz.f169 Jp Jq (Ov DU):=fun x y k=>by kernel_rfl
end
def eW:BK R:=fun x1 k0=>DU x1 k0
theorem UA (R:Type):k6 Tryz.prog 169 (QE (eW (R:=R))):=br TT mixed .n rfl rfl rfl rfl cb (Yt)
/-! ### (*strings.Builder).WriteByte -/
abbrev dR (R:Type):Type:=Int→(List Int)→((List Int)→Option R)→Option R
abbrev kC:List cM := [.leaf (.ptr 0 0), .leaf (.int .u8)]
abbrev kD:List aW := [.mA (.TY (.int .u8) 1), .tok]
def po (fn:dR R):k9 R kC kD:=fun x y k=>fn x.2.1 y.1 (fun q0=>k (.dp) [.mA (.sl (.int .u8) q0 (.own 2)), .dead, .tok])
def gY (fn:dR R):=aI kC kD (po fn)
section
def qa:List (oi R) := [(171,false,(Vl R))]
def qd (x1:Int) (x2:List Int) (k0:(List Int)→Option R):Option R :=
 ca (decide ((x2.length+1)*1≤140737488355328)) (k0 ((x2:List Int)++(([x1]:List Int):List Int)))
theorem Bb:dC (R:=R) tt (qa (R:=R)) rP false Tryz.f126 kC kD (po qd):=fun x y k=>by kernel_rfl
end
theorem Al:ct (R:=R) Tryz.prog (qa (R:=R)) := .f (Yd) rfl <| .n
def ad:dR R:=fun x1 x2 k0=>qd x1 x2 k0
theorem jy (R:Type):k6 Tryz.prog 126 (gY (ad (R:=R))):=br TT mixed (Al (R:=R)) rfl rfl rfl rfl cb (Bb)
/-! ### unicode/utf8.appendRuneNonASCII -/
abbrev fb (R:Type):Type:=(List Int)→Int→((List Int)→Option R)→Option R
abbrev iE:List cM := [.leaf (.TY (.int .u8) 0), .leaf (.int .i32)]
abbrev iF:List aW := [.tok]
def lX (fn:fb R):k9 R iE iF:=fun x y k=>fn x.1 x.2.1 (fun q0=>k (.sl (.int .u8) q0 (.own 1)) [.dead, .tok])
def mr (fn:fb R):=aI iE iF (lX fn)
section
def fo (x1:List Int) (x2:Int) (k0:(List Int)→Option R):Option R :=
 bif (decide ((IntKind.u32.wrap x2)≤(2047:Int)))then (ca (decide ((x1.length+2)*1≤140737488355328)) (k0 ((x1:List Int)++(([(IntKind.u8.wrap ((BitVec.ofInt IntKind.u8.bits 192 ||| BitVec.ofInt IntKind.u8.bits (IntKind.u8.wrap (Int.fdiv x2 (2 ^ (min 6 IntKind.i32.bits))))).toNat:Int)),(IntKind.u8.wrap ((BitVec.ofInt IntKind.u8.bits 128 ||| BitVec.ofInt IntKind.u8.bits (IntKind.u8.wrap ((BitVec.ofInt IntKind.u8.bits (IntKind.u8.wrap x2) &&& BitVec.ofInt IntKind.u8.bits 63).toNat:Int))).toNat:Int))]:List Int):List Int))))else (let j6:=fun (z3:Bool)=>bif z3 then (ca (decide ((x1.length+3)*1≤140737488355328)) (k0 ((x1:List Int)++(([(IntKind.u8.wrap ((BitVec.ofInt IntKind.u8.bits 224 ||| BitVec.ofInt IntKind.u8.bits (IntKind.u8.wrap (Int.fdiv x2 (2 ^ (min 12 IntKind.i32.bits))))).toNat:Int)),(IntKind.u8.wrap ((BitVec.ofInt IntKind.u8.bits 128 ||| BitVec.ofInt IntKind.u8.bits (IntKind.u8.wrap ((BitVec.ofInt IntKind.u8.bits (IntKind.u8.wrap (Int.fdiv x2 (2 ^ (min 6 IntKind.i32.bits)))) &&& BitVec.ofInt IntKind.u8.bits 63).toNat:Int))).toNat:Int)),(IntKind.u8.wrap ((BitVec.ofInt IntKind.u8.bits 128 ||| BitVec.ofInt IntKind.u8.bits (IntKind.u8.wrap ((BitVec.ofInt IntKind.u8.bits (IntKind.u8.wrap x2) &&& BitVec.ofInt IntKind.u8.bits 63).toNat:Int))).toNat:Int))]:List Int):List Int))))else (let j5:=fun (z4:Bool)=>bif z4 then (ca (decide ((x1.length+4)*1≤140737488355328)) (k0 ((x1:List Int)++(([(IntKind.u8.wrap ((BitVec.ofInt IntKind.u8.bits 240 ||| BitVec.ofInt IntKind.u8.bits (IntKind.u8.wrap (Int.fdiv x2 (2 ^ (min 18 IntKind.i32.bits))))).toNat:Int)),(IntKind.u8.wrap ((BitVec.ofInt IntKind.u8.bits 128 ||| BitVec.ofInt IntKind.u8.bits (IntKind.u8.wrap ((BitVec.ofInt IntKind.u8.bits (IntKind.u8.wrap (Int.fdiv x2 (2 ^ (min 12 IntKind.i32.bits)))) &&& BitVec.ofInt IntKind.u8.bits 63).toNat:Int))).toNat:Int)),(IntKind.u8.wrap ((BitVec.ofInt IntKind.u8.bits 128 ||| BitVec.ofInt IntKind.u8.bits (IntKind.u8.wrap ((BitVec.ofInt IntKind.u8.bits (IntKind.u8.wrap (Int.fdiv x2 (2 ^ (min 6 IntKind.i32.bits)))) &&& BitVec.ofInt IntKind.u8.bits 63).toNat:Int))).toNat:Int)),(IntKind.u8.wrap ((BitVec.ofInt IntKind.u8.bits 128 ||| BitVec.ofInt IntKind.u8.bits (IntKind.u8.wrap ((BitVec.ofInt IntKind.u8.bits (IntKind.u8.wrap x2) &&& BitVec.ofInt IntKind.u8.bits 63).toNat:Int))).toNat:Int))]:List Int):List Int))))else (ca (decide ((x1.length+3)*1≤140737488355328)) (k0 ((x1:List Int)++(([239,191,189]:List Int):List Int)))); bif (decide ((IntKind.u32.wrap x2)>(65535:Int)))then (j5 (decide ((IntKind.u32.wrap x2)≤(1114111:Int))))else (j5 false)); bif (decide ((IntKind.u32.wrap x2)<(55296:Int)))then (j6 (decide ((IntKind.u32.wrap x2)<(55296:Int))))else (bif (decide ((57343:Int)<(IntKind.u32.wrap x2)))then (j6 (decide ((IntKind.u32.wrap x2)≤(65535:Int))))else (j6 false)))
theorem vQ:dC (R:=R) tt [] rP true Tryz.f224 iE iF (lX fo):=fun x y k=>by kernel_rfl
end
def bR:fb R:=fun x1 x2 k0=>fo x1 x2 k0
theorem uu (R:Type):k6 Tryz.prog 224 (mr (bR (R:=R))):=br TT mixed .n rfl rfl rfl rfl cb (vQ)
/-! ### unicode/utf8.AppendRune -/
abbrev iv (R:Type):Type:=(List Int)→Int→((List Int)→Option R)→Option R
abbrev lS:List cM := [.leaf (.TY (.int .u8) 0), .leaf (.int .i32)]
abbrev lT:List aW := [.tok]
def rE (fn:iv R):k9 R lS lT:=fun x y k=>fn x.1 x.2.1 (fun q0=>k (.sl (.int .u8) q0 (.own 1)) [.dead, .tok])
def r8 (fn:iv R):=aI lS lT (rE fn)
section
variable (bR:fb R)
def r9:List (oi R) := [(224,false,(mr bR ax))]
def iQ (x1:List Int) (x2:Int) (k0:(List Int)→Option R):Option R :=
 bif (decide ((IntKind.u32.wrap x2)≤(127:Int)))then (ca (decide ((x1.length+1)*1≤140737488355328)) (k0 ((x1:List Int)++(([(IntKind.u8.wrap x2)]:List Int):List Int))))else (bR x1 x2 (fun y3=>k0 y3))
theorem CQ:dC (R:=R) tt (r9 bR) rP true Tryz.f202 lS lT (rE (iQ bR)):=fun x y k=>by kernel_rfl
end
theorem BL:ct (R:=R) Tryz.prog (r9 (R:=R) bR) := .d (uu R) rfl <| .n
def cq:iv R:=fun x1 x2 k0=>iQ bR x1 x2 k0
theorem Bc (R:Type):k6 Tryz.prog 202 (r8 (cq (R:=R))):=br TT mixed (BL (R:=R)) rfl rfl rfl rfl cb (CQ bR)
/-! ### (*strings.Builder).WriteRune -/
abbrev eY (R:Type):Type:=Int→(List Int)→(Int→(List Int)→Option R)→Option R
abbrev kE:List cM := [.leaf (.ptr 0 0), .leaf (.int .i32)]
abbrev kF:List aW := [.mA (.TY (.int .u8) 1), .tok]
def pq (fn:eY R):k9 R kE kF:=fun x y k=>fn x.2.1 y.1 (fun q0 q1=>k (.tuple [.int .i64 q0, .dp]) [.mA (.sl (.int .u8) q1 (.own 2)), .dead, .tok])
def kG (fn:eY R):=aI kE kF (pq fn)
section
variable (cq:iv R)
def qe:List (oi R) := [(171,false,(Vl R)),(202,false,(r8 cq ax))]
def gZ (x1:Int) (x2:List Int) (k0:Int→(List Int)→Option R):Option R :=
 cq x2 x1 (fun y3=>k0 (IntKind.i64.wrap ((y3.length:Int) - (x2.length:Int))) y3)
theorem Bd:dC (R:=R) tt (qe cq) rP false Tryz.f170 kE kF (pq (gZ cq)):=fun x y k=>by kernel_rfl
end
theorem Am:ct (R:=R) Tryz.prog (qe (R:=R) cq) := .f (Yd) rfl <| .d (Bc R) rfl <| .n
def ak:eY R:=fun x1 x2 k0=>gZ cq x1 x2 k0
theorem og (R:Type):k6 Tryz.prog 170 (kG (ak (R:=R))):=br TT mixed (Am (R:=R)) rfl rfl rfl rfl cb (Bd cq)
end Go.Proofs.YtidfokedcnhahaaGreatDoor
/-
 Functions of the program as pure Lean functions, and the ties; printed by wip/tools/emit.py.
-/
set_option maxRecDepth 100000
namespace Go.Proofs.YtidfokedcnhahaaGreatDoor
open Go Go.aC
variable {R:Type}
/-! ### humpyard/lexer.while -/
abbrev wo (R:Type):Type:=ah→ah→(ah→Option R)→Option R
abbrev Jr:List cM := [.leaf (.str), .leaf (.str)]
abbrev Js:List aW := []
def Ow (fn:wo R):k9 R Jr Js:=fun x y k=>fn x.1 x.2.1 (fun q0=>k (.str q0) [])
def Jt (fn:wo R):=aI Jr Js (Ow fn)
section
def QF:List (oi R) := [(105,true,(PH R))]
def DV (x1:ah) (x2:ah) (k0:ah→Option R):Option R :=
 ca (vY x2&&decide (x2.length<4294967281)) (ca (decide ((0:Int)≤(IntKind.i64.wrap ((x1.length:Int) - ((bt x1 x2).length:Int))))&&decide ((IntKind.i64.wrap ((x1.length:Int) - ((bt x1 x2).length:Int)))≤x1.length)) (ca (decide ((0:Int)≤(IntKind.i64.wrap ((x1.length:Int) - ((bt x1 x2).length:Int))))) (k0 ((x1.drop 0).take ((IntKind.i64.wrap ((x1.length:Int) - ((bt x1 x2).length:Int))).toNat - 0)))))
theorem Yu:dC (R:=R) tt (QF (R:=R)) rP false Tryz.f118 Jr Js (Ow DV):=fun x y k=>by kernel_rfl
end
theorem Wd:ct (R:=R) Tryz.prog (QF (R:=R)) := .p (Sx) <| .n
def cD:wo R:=fun x1 x2 k0=>DV x1 x2 k0
theorem Kg (R:Type):k6 Tryz.prog 118 (Jt (cD (R:=R))):=br TT mixed (Wd (R:=R)) rfl rfl rfl rfl cb (Yu)
/-! ### (*humpyard/decimal.reader).sign -/
abbrev hG (R:Type):Type:=ah→ah→(Int→ah→Option R)→Option R
abbrev oQ:List cM := [.leaf (.ptr 0 0), .leaf (.str)]
abbrev oR:List aW := [.cells [.str]]
def vm (fn:hG R):k9 R oQ oR:=fun x y k=>fn x.2.1 y.1.1 (fun q0 q1=>k (.int .u8 q0) [.cells [.str q1]])
def oS (fn:hG R):=aI oQ oR (vm fn)
section
def wu:List (oi R) := [(159,true,(idx_S R))]
def kH (x1:ah) (x2:ah) (k0:Int→ah→Option R):Option R :=
 bif (x2==([]:ah))then (k0 0 x2)else (ca (decide ((0:Int)<x2.length)) (bif (decide ((DQ x1 ((x2.getD 0 0).toNat:Int))<(0:Int)))then (k0 0 x2)else (ca (decide ((0:Int)<x2.length)) (ca (decide ((0:Int)≤(x2.length:Int))&&decide ((x2.length:Int)≤x2.length)) (ca (decide ((1:Int)≤(x2.length:Int))) (k0 ((x2.getD 0 0).toNat:Int) ((x2.drop 1).take ((x2.length:Int).toNat - 1))))))))
theorem FW:dC (R:=R) tt (wu (R:=R)) rP false Tryz.f190 oQ oR (vm kH):=fun x y k=>by kernel_rfl
end
theorem E0:ct (R:=R) Tryz.prog (wu (R:=R)) := .p (idx_ok) <| .n
def aV:hG R:=fun x1 x2 k0=>kH x1 x2 k0
theorem ti (R:Type):k6 Tryz.prog 190 (oS (aV (R:=R))):=br TT mixed (E0 (R:=R)) rfl rfl rfl rfl cb (FW)
/-! ### (*humpyard/decimal.reader).digits -/
abbrev gm (R:Type):Type:=ah→(ah→ah→Option R)→Option R
abbrev mY:List cM := [.leaf (.ptr 0 0)]
abbrev mZ:List aW := [.cells [.str]]
def tj (fn:gm R):k9 R mY mZ:=fun x y k=>fn y.1.1 (fun q0 q1=>k (.str q0) [.cells [.str q1]])
def na (fn:gm R):=aI mY mZ (tj fn)
section
def uv:List (oi R) := [(105,true,(PH R))]
def jE (x1:ah) (k0:ah→ah→Option R):Option R :=
 ca (vY ([48,49,50,51,52,53,54,55,56,57]:ah)&&decide (([48,49,50,51,52,53,54,55,56,57]:ah).length<4294967281)) (ca (decide ((0:Int)≤(IntKind.i64.wrap ((x1.length:Int) - ((bt x1 ([48,49,50,51,52,53,54,55,56,57]:ah)).length:Int))))&&decide ((IntKind.i64.wrap ((x1.length:Int) - ((bt x1 ([48,49,50,51,52,53,54,55,56,57]:ah)).length:Int)))≤x1.length)) (ca (decide ((0:Int)≤(IntKind.i64.wrap ((x1.length:Int) - ((bt x1 ([48,49,50,51,52,53,54,55,56,57]:ah)).length:Int))))) (k0 ((x1.drop 0).take ((IntKind.i64.wrap ((x1.length:Int) - ((bt x1 ([48,49,50,51,52,53,54,55,56,57]:ah)).length:Int))).toNat - 0)) (bt x1 ([48,49,50,51,52,53,54,55,56,57]:ah)))))
theorem Ei:dC (R:=R) tt (uv (R:=R)) rP false Tryz.f191 mY mZ (tj jE):=fun x y k=>by kernel_rfl
end
theorem Dr:ct (R:=R) Tryz.prog (uv (R:=R)) := .p (Sx) <| .n
def aR:gm R:=fun x1 k0=>jE x1 k0
theorem rF (R:Type):k6 Tryz.prog 191 (na (aR (R:=R))):=br TT mixed (Dr (R:=R)) rfl rfl rfl rfl cb (Ei)
/-! ### (*humpyard/decimal.reader).exponent -/
abbrev iw (R:Type):Type:=ah→(Int→Bool→ah→Option R)→Option R
abbrev lU:List cM := [.leaf (.ptr 0 0)]
abbrev lV:List aW := [.cells [.str]]
def rG (fn:iw R):k9 R lU lV:=fun x y k=>fn y.1.1 (fun q0 q1 q2=>k (.tuple [.int .i64 q0, .bool q1]) [.cells [.str q2]])
def sa (fn:iw R):=aI lU lV (rG fn)
section
variable (aV:hG R) (aR:gm R)
def sb:List (oi R) := [(190,false,(oS aV ax)),(191,false,(na aR ax)),(194,true,(atoi_S R))]
def iR (x1:ah) (k0:Int→Bool→ah→Option R):Option R :=
 aV ([43,45]:ah) x1 (fun y2 y3=>aR y3 (fun y4 y5=>ca (decide (y4.length≤281474976710656)) (bif vZ y4 then (bif (decide ((dY y4)>(1000000:Int)))then (bif (y2==45)then (k0 (-1000000) (!(y4==([]:ah))) y5)else (k0 1000000 (!(y4==([]:ah))) y5))else (bif (y2==45)then (k0 (IntKind.i64.wrap (0 - (dY y4))) (!(y4==([]:ah))) y5)else (k0 (dY y4) (!(y4==([]:ah))) y5)))else (bif (!(y4==([]:ah)))then (bif (y2==45)then (k0 (-1000000) (!(y4==([]:ah))) y5)else (k0 1000000 (!(y4==([]:ah))) y5))else (bif (decide ((dY y4)>(1000000:Int)))then (bif (y2==45)then (k0 (-1000000) (!(y4==([]:ah))) y5)else (k0 1000000 (!(y4==([]:ah))) y5))else (bif (y2==45)then (k0 (IntKind.i64.wrap (0 - (dY y4))) (!(y4==([]:ah))) y5)else (k0 (dY y4) (!(y4==([]:ah))) y5)))))))
theorem CR:dC (R:=R) tt (sb aV aR) rP false Tryz.f192 lU lV (rG (iR aV aR)):=fun x y k=>by kernel_rfl
end
theorem BM:ct (R:=R) Tryz.prog (sb (R:=R) aV aR) := .d (ti R) rfl <| .d (rF R) rfl <| .p (atoi_ok) <| .n
def bx:iw R:=fun x1 k0=>iR aV aR x1 k0
theorem Be (R:Type):k6 Tryz.prog 192 (sa (bx (R:=R))):=br TT mixed (BM (R:=R)) rfl rfl rfl rfl cb (CR aV aR)
/-! ### humpyard/decimal.Parse -/
abbrev w9 (R:Type):Type:=ah→(ft→Bool→Option R)→Option R
abbrev E1:List cM := [.leaf (.str)]
abbrev E2:List aW := []
def Kh (fn:w9 R):k9 R E1 E2:=fun x y k=>fn x.1 (fun q0 q1=>k (.tuple [.agg [.int .i64 q0.ao, .int .i64 q0.exp], .bool q1]) [])
def MS (fn:w9 R):=aI E1 E2 (Kh fn)
section
variable (bj:ur R) (aV:hG R) (aR:gm R) (bx:iw R)
def MT:List (oi R) := [(97,true,(GU bj ax)),(190,false,(oS aV ax)),(191,false,(na aR ax)),(192,false,(sa bx ax)),(105,true,(PH R)),(193,true,(trimR_S R)),(194,true,(atoi_S R))]
def pH (x1:ah) (k0:ft→Bool→Option R):Option R :=
 aV ([45]:ah) x1 (fun y2 y3=>aR y3 (fun y4 y5=>let j32:=let j31:=fun (vN:ah) (z12:Int) (z13:ah)=>let j30:=fun (z19:Int) (z20:ah)=>ca (vY ([48]:ah)&&decide (([48]:ah).length<4294967281)) (ca (vY ([48]:ah)&&decide (([48]:ah).length<4294967281)) (bif (!(z20==([]:ah)))then (k0 (⟨0,0⟩:ft) false)else (bif (decide (((cA (bt vN ([48]:ah)) ([48]:ah)).length:Int)>(18:Int)))then (k0 (⟨0,0⟩:ft) false)else (let j29:=bif (y2 != 0)then (bj (IntKind.i64.wrap (0 - (dY (([48]:ah)++(cA (bt vN ([48]:ah)) ([48]:ah)))))) (IntKind.i64.wrap (z19+(IntKind.i64.wrap (((bt vN ([48]:ah)).length:Int) - ((cA (bt vN ([48]:ah)) ([48]:ah)).length:Int))))) (fun Qq SI=>k0 Qq SI))else (bj (dY (([48]:ah)++(cA (bt vN ([48]:ah)) ([48]:ah)))) (IntKind.i64.wrap (z19+(IntKind.i64.wrap (((bt vN ([48]:ah)).length:Int) - ((cA (bt vN ([48]:ah)) ([48]:ah)).length:Int))))) (fun Jd Qr=>k0 Jd Qr)); ca (decide (1+(cA (bt vN ([48]:ah)) ([48]:ah)).length≤9223372036854775807)) (ca (decide ((([48]:ah)++(cA (bt vN ([48]:ah)) ([48]:ah))).length≤281474976710656)) (bif vZ (([48]:ah)++(cA (bt vN ([48]:ah)) ([48]:ah)))then (j29)else (j29))))))); aV ([101,69]:ah) z13 (fun HF JR=>bif (HF != 0)then (bx JR (fun Fo R4 Nj=>bif (!R4)then (k0 (⟨0,0⟩:ft) false)else (j30 (IntKind.i64.wrap (z12+Fo)) Nj)))else (j30 z12 JR)); aV ([46]:ah) y5 (fun y7 y8=>bif (y7 != 0)then (aR y8 (fun y9 uf=>bif (y9==([]:ah))then (k0 (⟨0,0⟩:ft) false)else (ca (decide (y4.length+y9.length≤9223372036854775807)) (j31 (y4++y9) (IntKind.i64.wrap (0 - (y9.length:Int))) uf))))else (j31 y4 0 y8)); bif (decide ((x1.length:Int)>(400:Int)))then (k0 (⟨0,0⟩:ft) false)else (bif (y4==([]:ah))then (k0 (⟨0,0⟩:ft) false)else (bif (decide ((y4.length:Int)>(1:Int)))then (ca (decide ((0:Int)<y4.length)) (bif (((y4.getD 0 0).toNat:Int)==48)then (k0 (⟨0,0⟩:ft) false)else (j32)))else (j32)))))
theorem UB:dC (R:=R) tt (MT bj aV aR bx) rP false Tryz.f157 E1 E2 (Kh (pH bj aV aR bx)):=fun x y k=>by kernel_rfl
end
theorem SW:ct (R:=R) Tryz.prog (MT (R:=R) bj aV aR bx) := .c (Iq R) <| .d (ti R) rfl <| .d (rF R) rfl <| .d (Be R) rfl <| .p (Sx) <| .p (trimR_ok) <| .p (atoi_ok) <| .n
def dP:w9 R:=fun x1 k0=>pH bj aV aR bx x1 k0
theorem Rw (R:Type):k6 Tryz.prog 157 (MS (dP (R:=R))):=br TT mixed (SW (R:=R)) rfl rfl rfl rfl cb (UB bj aV aR bx)
/-! ### internal/stringslite.HasPrefix -/
abbrev gR (R:Type):Type:=ah→ah→(Bool→Option R)→Option R
abbrev kI:List cM := [.leaf (.str), .leaf (.str)]
abbrev kJ:List aW := []
def pr (fn:gR R):k9 R kI kJ:=fun x y k=>fn x.1 x.2.1 (fun q0=>k (.bool q0) [])
def qf (fn:gR R):=aI kI kJ (pr fn)
section
def hJ (x1:ah) (x2:ah) (k0:Bool→Option R):Option R :=
 bif (decide ((x1.length:Int)≥(x2.length:Int)))then (ca (decide ((0:Int)≤(x2.length:Int))&&decide ((x2.length:Int)≤x1.length)) (ca (decide ((0:Int)≤(x2.length:Int))) (k0 (((x1.drop 0).take ((x2.length:Int).toNat - 0))==x2))))else (k0 false)
theorem Bf:dC (R:=R) tt [] rP false Tryz.f228 kI kJ (pr hJ):=fun x y k=>by kernel_rfl
end
def cf:gR R:=fun x1 x2 k0=>hJ x1 x2 k0
theorem yO (R:Type):k6 Tryz.prog 228 (qf (cf (R:=R))):=br TT mixed .n rfl rfl rfl rfl cb (Bf)
/-! ### internal/stringslite.CutPrefix -/
abbrev gS (R:Type):Type:=ah→ah→(ah→Bool→Option R)→Option R
abbrev kK:List cM := [.leaf (.str), .leaf (.str)]
abbrev kL:List aW := []
def pv (fn:gS R):k9 R kK kL:=fun x y k=>fn x.1 x.2.1 (fun q0 q1=>k (.tuple [.str q0, .bool q1]) [])
def qg (fn:gS R):=aI kK kL (pv fn)
section
variable (cf:gR R)
def qh:List (oi R) := [(228,true,(qf cf ax))]
def hM (x1:ah) (x2:ah) (k0:ah→Bool→Option R):Option R :=
 cf x1 x2 (fun y3=>bif (!y3)then (k0 x1 false)else (ca (decide ((0:Int)≤(x1.length:Int))&&decide ((x1.length:Int)≤x1.length)) (ca (decide ((0:Int)≤(x2.length:Int))&&decide ((x2.length:Int)≤(x1.length:Int))) (k0 ((x1.drop (x2.length:Int).toNat).take ((x1.length:Int).toNat - (x2.length:Int).toNat)) true))))
theorem Bg:dC (R:=R) tt (qh cf) rP false Tryz.f241 kK kL (pv (hM cf)):=fun x y k=>by kernel_rfl
end
theorem An:ct (R:=R) Tryz.prog (qh (R:=R) cf) := .c (yO R) <| .n
def cv:gS R:=fun x1 x2 k0=>hM cf x1 x2 k0
theorem yP (R:Type):k6 Tryz.prog 241 (qg (cv (R:=R))):=br TT mixed (An (R:=R)) rfl rfl rfl rfl cb (Bg cf)
/-! ### strings.CutPrefix -/
abbrev qi (R:Type):Type:=ah→ah→(ah→Bool→Option R)→Option R
abbrev yg:List cM := [.leaf (.str), .leaf (.str)]
abbrev yh:List aW := []
def Ej (fn:qi R):k9 R yg yh:=fun x y k=>fn x.1 x.2.1 (fun q0 q1=>k (.tuple [.str q0, .bool q1]) [])
def Ft (fn:qi R):=aI yg yh (Ej fn)
section
variable (cv:gS R)
def Fu:List (oi R) := [(241,true,(qg cv ax))]
def Fv (x1:ah) (x2:ah) (k0:ah→Bool→Option R):Option R :=
 cv x1 x2 (fun y3 y4=>k0 y3 y4)
theorem Ox:dC (R:=R) tt (Fu cv) rP false Tryz.f220 yg yh (Ej (Fv cv)):=fun x y k=>by kernel_rfl
end
theorem Np:ct (R:=R) Tryz.prog (Fu (R:=R) cv) := .c (yP R) <| .n
def fp:qi R:=fun x1 x2 k0=>Fv cv x1 x2 k0
theorem LD (R:Type):k6 Tryz.prog 220 (Ft (fp (R:=R))):=br TT mixed (Np (R:=R)) rfl rfl rfl rfl cb (Ox cv)
/-! ### (*humpyard/quote.reader).skip -/
abbrev je (R:Type):Type:=ah→ah→(Bool→ah→Option R)→Option R
abbrev qF:List cM := [.leaf (.ptr 0 0), .leaf (.str)]
abbrev qG:List aW := [.cells [.str]]
def xw (fn:je R):k9 R qF qG:=fun x y k=>fn x.2.1 y.1.1 (fun q0 q1=>k (.bool q0) [.cells [.str q1]])
def qH (fn:je R):=aI qF qG (xw fn)
section
variable (fp:qi R)
def yQ:List (oi R) := [(220,true,(Ft fp ax))]
def yR (x1:ah) (x2:ah) (k0:Bool→ah→Option R):Option R :=
 fp x2 x1 (fun y3 y4=>k0 y4 y3)
theorem HJ:dC (R:=R) tt (yQ fp) rP false Tryz.f195 qF qG (xw (yR fp)):=fun x y k=>by kernel_rfl
end
theorem G3:ct (R:=R) Tryz.prog (yQ (R:=R) fp) := .c (LD R) <| .n
def aK:je R:=fun x1 x2 k0=>yR fp x1 x2 k0
theorem vn (R:Type):k6 Tryz.prog 195 (qH (aK (R:=R))):=br TT mixed (G3 (R:=R)) rfl rfl rfl rfl cb (HJ fp)
/-! ### internal/strconv.lower -/
abbrev jf (R:Type):Type:=Int→(Int→Option R)→Option R
abbrev qI:List cM := [.leaf (.int .u8)]
abbrev qJ:List aW := []
def xx (fn:jf R):k9 R qI qJ:=fun x y k=>fn x.1 (fun q0=>k (.int .u8 q0) [])
def qK (fn:jf R):=aI qI qJ (xx fn)
section
def yS (x1:Int) (k0:Int→Option R):Option R :=
 k0 (IntKind.u8.wrap ((BitVec.ofInt IntKind.u8.bits x1 ||| BitVec.ofInt IntKind.u8.bits 32).toNat:Int))
theorem HK:dC (R:=R) tt [] rP false Tryz.f259 qI qJ (xx yS):=fun x y k=>by kernel_rfl
end
def internal_strconv_lower:jf R:=fun x1 k0=>yS x1 k0
theorem vo (R:Type):k6 Tryz.prog 259 (qK (internal_strconv_lower (R:=R))):=br TT mixed .n rfl rfl rfl rfl cb (HK)
/-! ### internal/strconv.underscoreOK -/
abbrev hP (R:Type):Type:=ah→(Bool→Option R)→Option R
abbrev lg:List cM := [.leaf (.str)]
abbrev lh:List aW := []
def qj (fn:hP R):k9 R lg lh:=fun x y k=>fn x.1 (fun q0=>k (.bool q0) [])
def rH (fn:hP R):=aI lg lh (qj fn)
abbrev iS (R:Type):Type:=Nat→ah→Int→Int→Bool→(Int→Option R)→(Bool→Int→Option R)→Option R
def fT:Hint := { live := [0,3,4,5],own := [],rows := [],cells := [],drop := [],out := [2,3] }
abbrev dv:Type:=ah×Int×Int×Bool
def iG:dv→St:=fun d=>⟨.str d.1::U 2 (.int .i32 d.2.1 :: .int .i64 d.2.2.1 :: .bool d.2.2.2::U 88 ([])), []⟩
def iT (K:Ex→St→Option R) (q0:Int):Option R:=K (.exit 0) ⟨U 3 (.int .i32 q0::U 90 ([])), []⟩
def iU (K:Ex→St→Option R) (q0:Bool) (q1:Int):Option R:=K (.ret) ⟨U 2 (.bool q0 :: .int .i32 q1::U 90 ([])), []⟩
abbrev eD:List cM := .leaf (.str)::PU 2 (.leaf (.int .i32) :: .leaf (.int .i64) :: .leaf (.bool)::PU 88 ([]))
abbrev eE:List aW := []
def nw (x:cM.bQ eD) (y:aW.bQ eE):Nat:=(List.length x.1+Int.natAbs x.2.2.2.1+Int.natAbs x.2.2.2.2.1+64)
def yi (x:cM.bQ eD) (y:aW.bQ eE):dv:=(x.1,x.2.2.2.1,x.2.2.2.2.1,x.2.2.2.2.2.1)
def mK (L:iS R):wU R eD eE:=fun x y K=>L (nw x y) x.1 x.2.2.2.1 x.2.2.2.2.1 x.2.2.2.2.2.1 (iT K) (iU K)
section
variable (internal_strconv_lower:jf R) (aE:iS R)
def eI:List (oi R) := [(259,true,(qK internal_strconv_lower ax))]
def nA (dx:ah→Int→Int→Bool→Option R) (oj:ah) (tB:Int) (lG:Int) (oT:Bool) (e0:Int→Option R) (e1:Bool→Int→Option R):Option R :=
 bif (decide (lG<(oj.length:Int)))then (ca (decide ((0:Int)≤lG)&&decide (lG<oj.length)) (bif (decide ((48:Int)≤((oj.getD lG.toNat 0).toNat:Int)))then (ca (decide ((0:Int)≤lG)&&decide (lG<oj.length)) (bif (decide (((oj.getD lG.toNat 0).toNat:Int)≤(57:Int)))then (dx oj 48 (IntKind.i64.wrap (lG+1)) oT)else (bif oT then (ca (decide ((0:Int)≤lG)&&decide (lG<oj.length)) (internal_strconv_lower ((oj.getD lG.toNat 0).toNat:Int) (fun ZG=>bif (decide ((97:Int)≤ZG))then (ca (decide ((0:Int)≤lG)&&decide (lG<oj.length)) (internal_strconv_lower ((oj.getD lG.toNat 0).toNat:Int) (fun V1=>bif (decide (V1≤(102:Int)))then (dx oj 48 (IntKind.i64.wrap (lG+1)) oT)else (ca (decide ((0:Int)≤lG)&&decide (lG<oj.length)) (bif (((oj.getD lG.toNat 0).toNat:Int)==95)then (bif (tB != 48)then (e1 false tB)else (dx oj 95 (IntKind.i64.wrap (lG+1)) oT))else (bif (tB==95)then (e1 false tB)else (dx oj 33 (IntKind.i64.wrap (lG+1)) oT)))))))else (ca (decide ((0:Int)≤lG)&&decide (lG<oj.length)) (bif (((oj.getD lG.toNat 0).toNat:Int)==95)then (bif (tB != 48)then (e1 false tB)else (dx oj 95 (IntKind.i64.wrap (lG+1)) oT))else (bif (tB==95)then (e1 false tB)else (dx oj 33 (IntKind.i64.wrap (lG+1)) oT)))))))else (ca (decide ((0:Int)≤lG)&&decide (lG<oj.length)) (bif (((oj.getD lG.toNat 0).toNat:Int)==95)then (bif (tB != 48)then (e1 false tB)else (dx oj 95 (IntKind.i64.wrap (lG+1)) oT))else (bif (tB==95)then (e1 false tB)else (dx oj 33 (IntKind.i64.wrap (lG+1)) oT)))))))else (bif oT then (ca (decide ((0:Int)≤lG)&&decide (lG<oj.length)) (internal_strconv_lower ((oj.getD lG.toNat 0).toNat:Int) (fun GO=>bif (decide ((97:Int)≤GO))then (ca (decide ((0:Int)≤lG)&&decide (lG<oj.length)) (internal_strconv_lower ((oj.getD lG.toNat 0).toNat:Int) (fun y22=>bif (decide (y22≤(102:Int)))then (dx oj 48 (IntKind.i64.wrap (lG+1)) oT)else (ca (decide ((0:Int)≤lG)&&decide (lG<oj.length)) (bif (((oj.getD lG.toNat 0).toNat:Int)==95)then (bif (tB != 48)then (e1 false tB)else (dx oj 95 (IntKind.i64.wrap (lG+1)) oT))else (bif (tB==95)then (e1 false tB)else (dx oj 33 (IntKind.i64.wrap (lG+1)) oT)))))))else (ca (decide ((0:Int)≤lG)&&decide (lG<oj.length)) (bif (((oj.getD lG.toNat 0).toNat:Int)==95)then (bif (tB != 48)then (e1 false tB)else (dx oj 95 (IntKind.i64.wrap (lG+1)) oT))else (bif (tB==95)then (e1 false tB)else (dx oj 33 (IntKind.i64.wrap (lG+1)) oT)))))))else (ca (decide ((0:Int)≤lG)&&decide (lG<oj.length)) (bif (((oj.getD lG.toNat 0).toNat:Int)==95)then (bif (tB != 48)then (e1 false tB)else (dx oj 95 (IntKind.i64.wrap (lG+1)) oT))else (bif (tB==95)then (e1 false tB)else (dx oj 33 (IntKind.i64.wrap (lG+1)) oT)))))))else (e0 tB)
def nB (K:Ex→St→Option R) (rc:dv→Option R) (d:dv):Option R:=nA internal_strconv_lower (fun z0 z1 z2 z3=>rc (z0,z1,z2,z3)) d.1 d.2.1 d.2.2.1 d.2.2.2 (iT K) (iU K)
def fM:Nat→Option (Hint×cJ R):=fun i=>match i with
 | 10=>some (fT,(cE eD eE (mK aE) iK))
 | _=>none
theorem vR (K:Ex→St→Option R) (rc:St→Option R) (d:dv):roundOf tt (cO (eI internal_strconv_lower)) (fM aE) 0 ((aA (bb Tryz.f260)).getD 0 .skip) fT (iG d) rc K=nB internal_strconv_lower K (fun d=>rc (iG d)) d:=by kernel_rfl
def rI (x1:ah) (k0:Bool→Option R):Option R :=
 let j46:=fun (z3:ah)=>bif (decide ((z3.length:Int)≥(2:Int)))then (ca (decide ((0:Int)<z3.length)) (bif (((z3.getD 0 0).toNat:Int)==48)then (ca (decide ((1:Int)<z3.length)) (internal_strconv_lower ((z3.getD 1 0).toNat:Int) (fun y4=>bif (y4==98)then (ca (decide ((1:Int)<z3.length)) (internal_strconv_lower ((z3.getD 1 0).toNat:Int) (fun y9=>aE (List.length z3+Int.natAbs 48+Int.natAbs 2+64) z3 48 2 (y9==120) (fun Qr=>k0 (Qr != 95)) (fun Yv W2=>k0 Yv))))else (ca (decide ((1:Int)<z3.length)) (internal_strconv_lower ((z3.getD 1 0).toNat:Int) (fun y5=>bif (y5==111)then (ca (decide ((1:Int)<z3.length)) (internal_strconv_lower ((z3.getD 1 0).toNat:Int) (fun uf=>aE (List.length z3+Int.natAbs 48+Int.natAbs 2+64) z3 48 2 (uf==120) (fun Z8=>k0 (Z8 != 95)) (fun UC y33=>k0 UC))))else (ca (decide ((1:Int)<z3.length)) (internal_strconv_lower ((z3.getD 1 0).toNat:Int) (fun y6=>bif (y6==120)then (ca (decide ((1:Int)<z3.length)) (internal_strconv_lower ((z3.getD 1 0).toNat:Int) (fun vO=>aE (List.length z3+Int.natAbs 48+Int.natAbs 2+64) z3 48 2 (vO==120) (fun y34=>k0 (y34 != 95)) (fun y35 y36=>k0 y35))))else (aE (List.length z3+Int.natAbs 94+Int.natAbs 0+64) z3 94 0 false (fun y37=>k0 (y37 != 95)) (fun y38 W0=>k0 y38)))))))))))else (aE (List.length z3+Int.natAbs 94+Int.natAbs 0+64) z3 94 0 false (fun ZH=>k0 (ZH != 95)) (fun ZZ Z0=>k0 ZZ))))else (aE (List.length z3+Int.natAbs 94+Int.natAbs 0+64) z3 94 0 false (fun W1=>k0 (W1 != 95)) (fun y44 y45=>k0 y44)); bif (decide ((x1.length:Int)≥(1:Int)))then (ca (decide ((0:Int)<x1.length)) (bif (((x1.getD 0 0).toNat:Int)==45)then (ca (decide ((0:Int)≤(x1.length:Int))&&decide ((x1.length:Int)≤x1.length)) (ca (decide ((1:Int)≤(x1.length:Int))) (j46 ((x1.drop 1).take ((x1.length:Int).toNat - 1)))))else (ca (decide ((0:Int)<x1.length)) (bif (((x1.getD 0 0).toNat:Int)==43)then (ca (decide ((0:Int)≤(x1.length:Int))&&decide ((x1.length:Int)≤x1.length)) (ca (decide ((1:Int)≤(x1.length:Int))) (j46 ((x1.drop 1).take ((x1.length:Int).toNat - 1)))))else (j46 x1)))))else (j46 x1)
theorem BN:dC (R:=R) tt (eI internal_strconv_lower) (fM aE) false Tryz.f260 lg lh (qj (rI internal_strconv_lower aE)):=fun x y k=>by kernel_rfl
end
theorem Bh:ct (R:=R) Tryz.prog (eI (R:=R) internal_strconv_lower) := .c (vo R) <| .n
def aE:iS R
 | 0,_,_,_,_,_,_=>none
 | n+1,gh,gl,gv,mB,e0,e1=>nA internal_strconv_lower (fun gh gl gv mB=>aE n gh gl gv mB e0 e1) gh gl gv mB e0 e1
def nC (K:Ex→St→Option R) (n:Nat) (d:dv):Option R:=aE n d.1 d.2.1 d.2.2.1 d.2.2.2 (iT K) (iU K)
theorem xa (other:cJ R) (ho:gV tt (cO (eI (R:=R) internal_strconv_lower)) (fM (R:=R) aE) 0 ((aA (bb Tryz.f260)).getD 0 .skip) fT other):gV tt (cO (eI (R:=R) internal_strconv_lower)) (fM (R:=R) aE) 0 ((aA (bb Tryz.f260)).getD 0 .skip) fT (cE eD eE (mK (aE)) other) :=
 cN (A:=nC) ho (dT iG (nB internal_strconv_lower) (nC) (fun _ _=>by kernel_rfl) (vR internal_strconv_lower aE) (fun _ _ _=>by kernel_rfl)) nw yi (fun _ _=>by kernel_rfl) (fun _ _ _=>by kernel_rfl)
def bD:hP R:=fun x1 k0=>rI internal_strconv_lower aE x1 k0
theorem yT (R:Type):∀a∈aA (bb Tryz.f260),gJ tt (cO (eI (R:=R) internal_strconv_lower)) (fM (R:=R) aE) 0 a:=by
 refine eX 1 (by kernel_rfl) fun i hi => ?_
 match i,hi with
 | 0,_=>exact cy (by kernel_rfl) (xa _ dt)
 | n+1,hi=>omega
theorem Ao (R:Type):k6 Tryz.prog 260 (rH (bD (R:=R))):=br TT mixed (Bh (R:=R)) rfl rfl rfl rfl (yT R) (BN internal_strconv_lower aE)
end Go.Proofs.YtidfokedcnhahaaGreatDoor
/-
 Functions of the program as pure Lean functions, and the ties; printed by wip/tools/emit.py.
-/
set_option maxRecDepth 100000
namespace Go.Proofs.YtidfokedcnhahaaGreatDoor
open Go Go.aC
variable {R:Type}
/-! ### internal/strconv.ParseUint -/
abbrev jk (R:Type):Type:=ah→Int→Int→(Int→Option R)→(Int→Option R)→(Int→Option R)→(Int→Option R)→(Int→Option R)→Option R
abbrev nc:List cM := [.leaf (.str), .leaf (.int .i64), .leaf (.int .i64)]
abbrev nd:List aW := []
def tm (fn:jk R):k9 R nc nd:=fun x y k=>fn x.1 x.2.1 x.2.2.1 (fun q0=>k (.tuple [.int .u64 q0, .Q3 250 .i64 2]) []) (fun q0=>k (.tuple [.int .u64 q0, .Q3 250 .i64 3]) []) (fun q0=>k (.tuple [.int .u64 q0, .Q3 250 .i64 4]) []) (fun q0=>k (.tuple [.int .u64 q0, .Q3 250 .i64 1]) []) (fun q0=>k (.tuple [.int .u64 q0, .dp]) [])
def uw (fn:jk R):=aI nc nd (tm fn)
abbrev jM (R:Type):Type:=Nat→Int→Bool→ah→Int→Int→Bool→Int→Nat→Int→Int→(List Int)→(ah→Bool→Int→Option R)→(Int→ah→Bool→Int→Option R)→(Int→ah→Bool→Int→Option R)→(Int→ah→Bool→Option R)→Option R
def gT:Hint := { live := [1,8,9,10,11,12,13,99,100,101],own := [],rows := [],cells := [],drop := [],out := [6,7,9,12,13] }
abbrev dS:Type:=Int×Bool×ah×Int×Int×Bool×Int×Nat×Int×Int×(List Int)
def jz:dS→St:=fun d=>⟨.undef :: .int .i64 d.1::U 6 (.bool d.2.1 :: .str d.2.2.1 :: .int .u64 d.2.2.2.1 :: .int .u64 d.2.2.2.2.1 :: .bool d.2.2.2.2.2.1 :: .int .u64 d.2.2.2.2.2.2.1::U 85 (.row 0 d.2.2.2.2.2.2.2.1 :: .int .i64 d.2.2.2.2.2.2.2.2.1 :: .int .i64 d.2.2.2.2.2.2.2.2.2.1::U 70 ([]))), [.row (.int .u8) d.2.2.2.2.2.2.2.2.2.2]⟩
def jN (K:Ex→St→Option R) (q0:ah) (q1:Bool) (q2:Int):Option R:=K (.exit 3) ⟨U 9 (.str q0::U 2 (.bool q1 :: .int .u64 q2::U 158 ([]))), []⟩
def jO (K:Ex→St→Option R) (q0:Int) (q1:ah) (q2:Bool) (q3:Int):Option R:=K (.ret) ⟨U 6 (.int .u64 q0 :: .Q3 250 .i64 2 :: .undef :: .str q1::U 2 (.bool q2 :: .int .u64 q3::U 158 ([]))), []⟩
def jP (K:Ex→St→Option R) (q0:Int) (q1:ah) (q2:Bool) (q3:Int):Option R:=K (.ret) ⟨U 6 (.int .u64 q0 :: .Q3 250 .i64 1 :: .undef :: .str q1::U 2 (.bool q2 :: .int .u64 q3::U 158 ([]))), []⟩
def jQ (K:Ex→St→Option R) (q0:Int) (q1:ah) (q2:Bool):Option R:=K (.ret) ⟨U 6 (.int .u64 q0 :: .Q3 250 .i64 1 :: .undef :: .str q1::U 2 (.bool q2::U 159 ([]))), []⟩
abbrev eZ:List cM := .leaf (.undef) :: .leaf (.int .i64)::PU 6 (.leaf (.bool) :: .leaf (.str) :: .leaf (.int .u64) :: .leaf (.int .u64) :: .leaf (.bool) :: .leaf (.int .u64)::PU 85 (.leaf (.row 0) :: .leaf (.int .i64) :: .leaf (.int .i64)::PU 70 ([])))
abbrev fa:List aW := [.row (.int .u8)]
def pw (x:cM.bQ eZ) (y:aW.bQ fa):Nat:=(Int.natAbs x.2.1+List.length ((t8 x).2.1)+Int.natAbs ((t8 x).2.2.1)+Int.natAbs ((t8 x).2.2.2.1)+Int.natAbs ((t8 x).2.2.2.2.2.1)+Int.natAbs ((t8 (t8 (t8 (t8 (t8 (t8 (t8 (t8 (t8 (t8 (t8 (t8 x)))))))))))).2.2.2.2.1)+Int.natAbs ((t8 (t8 (t8 (t8 (t8 (t8 (t8 (t8 (t8 (t8 (t8 (t8 x)))))))))))).2.2.2.2.2.1)+List.length y.1+64)
def Bi (x:cM.bQ eZ) (y:aW.bQ fa):dS:=(x.2.1,(t8 x).1,(t8 x).2.1,(t8 x).2.2.1,(t8 x).2.2.2.1,(t8 x).2.2.2.2.1,(t8 x).2.2.2.2.2.1,(t8 (t8 (t8 (t8 (t8 (t8 (t8 (t8 (t8 (t8 (t8 (t8 x)))))))))))).2.2.2.1,(t8 (t8 (t8 (t8 (t8 (t8 (t8 (t8 (t8 (t8 (t8 (t8 x)))))))))))).2.2.2.2.1,(t8 (t8 (t8 (t8 (t8 (t8 (t8 (t8 (t8 (t8 (t8 (t8 x)))))))))))).2.2.2.2.2.1,y.1)
def oU (L:jM R):wU R eZ fa:=fun x y K=>L (pw x y) x.2.1 ((t8 x).1) ((t8 x).2.1) ((t8 x).2.2.1) ((t8 x).2.2.2.1) ((t8 x).2.2.2.2.1) ((t8 x).2.2.2.2.2.1) ((t8 (t8 (t8 (t8 (t8 (t8 (t8 (t8 (t8 (t8 (t8 (t8 x)))))))))))).2.2.2.1) ((t8 (t8 (t8 (t8 (t8 (t8 (t8 (t8 (t8 (t8 (t8 (t8 x)))))))))))).2.2.2.2.1) ((t8 (t8 (t8 (t8 (t8 (t8 (t8 (t8 (t8 (t8 (t8 (t8 x)))))))))))).2.2.2.2.2.1) y.1 (jN K) (jO K) (jP K) (jQ K)
section
variable (internal_strconv_lower:jf R) (bD:hP R) (aH:jM R)
def fg:List (oi R) := [(259,true,(qK internal_strconv_lower ax)),(260,true,(rH bD ax))]
def dm (dx:Int→Bool→ah→Int→Int→Bool→Int→Nat→Int→Int→(List Int)→Option R) (uR:Int) (x21:Bool) (x22:ah) (Z9:Int) (x24:Int) (Qn:Bool) (x26:Int) (ZF:Nat) (x28:Int) (x29:Int) (x30:List Int) (e0:ah→Bool→Int→Option R) (e1:Int→ah→Bool→Int→Option R) (e2:Int→ah→Bool→Int→Option R) (e3:Int→ah→Bool→Option R):Option R :=
 bif (decide (x29<x28))then (ca (decide ((0:Int)≤x29)&&decide (x29<ZF)) (ca (decide (x29.toNat<x30.length)) (let j42:=fun (z40:Int)=>bif (decide (z40≥(IntKind.u8.wrap uR)))then (e1 0 x22 Qn x26)else (bif (decide (x26≥Z9))then (e2 x24 x22 Qn x26)else (bif (decide ((IntKind.u64.wrap ((IntKind.u64.wrap (x26*(IntKind.u64.wrap uR)))+(IntKind.u64.wrap z40)))<(IntKind.u64.wrap (x26*(IntKind.u64.wrap uR)))))then (e2 x24 x22 Qn (IntKind.u64.wrap (x26*(IntKind.u64.wrap uR))))else (bif (decide ((IntKind.u64.wrap ((IntKind.u64.wrap (x26*(IntKind.u64.wrap uR)))+(IntKind.u64.wrap z40)))>x24))then (e2 x24 x22 Qn (IntKind.u64.wrap (x26*(IntKind.u64.wrap uR))))else (dx uR x21 x22 Z9 x24 Qn (IntKind.u64.wrap ((IntKind.u64.wrap (x26*(IntKind.u64.wrap uR)))+(IntKind.u64.wrap z40))) ZF x28 (IntKind.i64.wrap (x29+1)) x30)))); let j39:=fun (z31:Bool)=>bif z31 then (dx uR x21 x22 Z9 x24 true x26 ZF x28 (IntKind.i64.wrap (x29+1)) x30)else (let j38:=fun (z32:Bool)=>bif z32 then (j42 (IntKind.u8.wrap ((x30.getD x29.toNat (Ty.aZ (.int .u8))) - 48)))else (internal_strconv_lower (x30.getD x29.toNat (Ty.aZ (.int .u8))) (fun y33=>bif (decide ((97:Int)≤y33))then (internal_strconv_lower (x30.getD x29.toNat (Ty.aZ (.int .u8))) (fun y34=>bif (decide (y34≤(122:Int)))then (internal_strconv_lower (x30.getD x29.toNat (Ty.aZ (.int .u8))) (fun y37=>j42 (IntKind.u8.wrap ((IntKind.u8.wrap (y37 - 97))+10))))else (e1 0 x22 Qn x26)))else (e1 0 x22 Qn x26))); bif (decide ((48:Int)≤(x30.getD x29.toNat (Ty.aZ (.int .u8)))))then (j38 (decide ((x30.getD x29.toNat (Ty.aZ (.int .u8)))≤(57:Int))))else (j38 false)); bif ((x30.getD x29.toNat (Ty.aZ (.int .u8)))==95)then (j39 x21)else (j39 false))))else (e0 x22 Qn x26)
def px (K:Ex→St→Option R) (rc:dS→Option R) (d:dS):Option R:=dm internal_strconv_lower (fun z0 z1 z2 z3 z4 z5 z6 z7 z8 z9 Rp=>rc (z0,z1,z2,z3,z4,z5,z6,z7,z8,z9,Rp)) d.1 d.2.1 d.2.2.1 d.2.2.2.1 d.2.2.2.2.1 d.2.2.2.2.2.1 d.2.2.2.2.2.2.1 d.2.2.2.2.2.2.2.1 d.2.2.2.2.2.2.2.2.1 d.2.2.2.2.2.2.2.2.2.1 d.2.2.2.2.2.2.2.2.2.2 (jN K) (jO K) (jP K) (jQ K)
def gN:Nat→Option (Hint×cJ R):=fun i=>match i with
 | 36=>some (gT,(cE eZ fa (oU aH) iK))
 | _=>none
theorem yj (K:Ex→St→Option R) (rc:St→Option R) (d:dS):roundOf tt (cO (fg internal_strconv_lower bD)) (gN aH) 0 ((aA (bb Tryz.f249)).getD 0 .skip) gT (jz d) rc K=px internal_strconv_lower K (fun d=>rc (jz d)) d:=by kernel_rfl
def jF (x1:ah) (x2:Int) (x3:Int) (k0:Int→Option R) (k1:Int→Option R) (k2:Int→Option R) (k3:Int→Option R) (k4:Int→Option R):Option R :=
 bif (x1==([]:ah))then (k0 0)else (let j63:=fun (z15:ah) (z16:Int)=>let j62:=fun (z18:Int)=>let j61:=fun (z19:Int)=>ca (decide ((0:Int)≤(IntKind.u64.wrap z18))) (aH (Int.natAbs z16+List.length x1+Int.natAbs z19+Int.natAbs (IntKind.u64.wrap ((IntKind.u64.wrap (1*2 ^ (min ((IntKind.u64.wrap z18).toNat) IntKind.u64.bits))) - 1))+Int.natAbs 0+Int.natAbs (z15.length:Int)+Int.natAbs 0+List.length (jH z15)+64) z16 (x2==0) x1 z19 (IntKind.u64.wrap ((IntKind.u64.wrap (1*2 ^ (min ((IntKind.u64.wrap z18).toNat) IntKind.u64.bits))) - 1)) false 0 z15.length (z15.length:Int) 0 (jH z15) (fun y45 y46 y47=>bif y46 then (bD y45 (fun y59=>bif (!y59)then (k0 0)else (k4 y47)))else (k4 y47)) (fun y48 y49 y50 y51=>k0 y48) (fun y52 y53 y54 y55=>k3 y52) (fun y56 y57 y58=>k3 y56)); bif (z16==10)then (j61 1844674407370955162)else (bif (z16==16)then (j61 1152921504606846976)else (ca (!decide ((IntKind.u64.wrap z16)=0)) (j61 (IntKind.u64.wrap ((IntKind.u64.wrap (Int.tdiv 18446744073709551615 (IntKind.u64.wrap z16)))+1))))); bif (x3==0)then (j62 64)else (bif (decide (x3<(0:Int)))then (k2 0)else (bif (decide (x3>(64:Int)))then (k2 0)else (j62 x3))); let j14:=fun (z4:Bool)=>bif z4 then (j63 x1 x2)else (bif (x2==0)then (ca (decide ((0:Int)<x1.length)) (bif (((x1.getD 0 0).toNat:Int)==48)then (let j13:=fun (z6:Bool)=>bif z6 then (ca (decide ((0:Int)≤(x1.length:Int))&&decide ((x1.length:Int)≤x1.length)) (ca (decide ((2:Int)≤(x1.length:Int))) (j63 ((x1.drop 2).take ((x1.length:Int).toNat - 2)) 2)))else (let j12:=fun (z8:Bool)=>bif z8 then (ca (decide ((0:Int)≤(x1.length:Int))&&decide ((x1.length:Int)≤x1.length)) (ca (decide ((2:Int)≤(x1.length:Int))) (j63 ((x1.drop 2).take ((x1.length:Int).toNat - 2)) 8)))else (let j11:=fun (Rp:Bool)=>bif Rp then (ca (decide ((0:Int)≤(x1.length:Int))&&decide ((x1.length:Int)≤x1.length)) (ca (decide ((2:Int)≤(x1.length:Int))) (j63 ((x1.drop 2).take ((x1.length:Int).toNat - 2)) 16)))else (ca (decide ((0:Int)≤(x1.length:Int))&&decide ((x1.length:Int)≤x1.length)) (ca (decide ((1:Int)≤(x1.length:Int))) (j63 ((x1.drop 1).take ((x1.length:Int).toNat - 1)) 8))); bif (decide ((x1.length:Int)≥(3:Int)))then (ca (decide ((1:Int)<x1.length)) (internal_strconv_lower ((x1.getD 1 0).toNat:Int) (fun y9=>j11 (y9==120))))else (j11 false)); bif (decide ((x1.length:Int)≥(3:Int)))then (ca (decide ((1:Int)<x1.length)) (internal_strconv_lower ((x1.getD 1 0).toNat:Int) (fun y7=>j12 (y7==111))))else (j12 false)); bif (decide ((x1.length:Int)≥(3:Int)))then (ca (decide ((1:Int)<x1.length)) (internal_strconv_lower ((x1.getD 1 0).toNat:Int) (fun y5=>j13 (y5==98))))else (j13 false))else (j63 x1 10)))else (k1 0)); bif (decide ((2:Int)≤x2))then (j14 (decide (x2≤(36:Int))))else (j14 false))
theorem Ek:dC (R:=R) tt (fg internal_strconv_lower bD) (gN aH) false Tryz.f249 nc nd (tm (jF internal_strconv_lower bD aH)):=fun x y k=>by kernel_rfl
end
theorem Ds:ct (R:=R) Tryz.prog (fg (R:=R) internal_strconv_lower bD) := .c (vo R) <| .c (Ao R) <| .n
def aH:jM R
 | 0,_,_,_,_,_,_,_,_,_,_,_,_,_,_,_=>none
 | n+1,gh,gl,gv,mB,v7,xS,Ee,Ef,HD,HE,pA,e0,e1,e2,e3=>dm internal_strconv_lower (fun gh gl gv mB v7 xS Ee Ef HD HE pA=>aH n gh gl gv mB v7 xS Ee Ef HD HE pA e0 e1 e2 e3) gh gl gv mB v7 xS Ee Ef HD HE pA e0 e1 e2 e3
def py (K:Ex→St→Option R) (n:Nat) (d:dS):Option R:=aH n d.1 d.2.1 d.2.2.1 d.2.2.2.1 d.2.2.2.2.1 d.2.2.2.2.2.1 d.2.2.2.2.2.2.1 d.2.2.2.2.2.2.2.1 d.2.2.2.2.2.2.2.2.1 d.2.2.2.2.2.2.2.2.2.1 d.2.2.2.2.2.2.2.2.2.2 (jN K) (jO K) (jP K) (jQ K)
theorem Ap (other:cJ R) (ho:gV tt (cO (fg (R:=R) internal_strconv_lower bD)) (gN (R:=R) aH) 0 ((aA (bb Tryz.f249)).getD 0 .skip) gT other):gV tt (cO (fg (R:=R) internal_strconv_lower bD)) (gN (R:=R) aH) 0 ((aA (bb Tryz.f249)).getD 0 .skip) gT (cE eZ fa (oU (aH)) other) :=
 cN (A:=py) ho (dT jz (px internal_strconv_lower) (py) (fun _ _=>by kernel_rfl) (yj internal_strconv_lower bD aH) (fun _ _ _=>by kernel_rfl)) pw Bi (fun _ _=>by kernel_rfl) (fun _ _ _=>by kernel_rfl)
def da:jk R:=fun x1 x2 x3 k0 k1 k2 k3 k4=>jF internal_strconv_lower bD aH x1 x2 x3 k0 k1 k2 k3 k4
theorem BO (R:Type):∀a∈aA (bb Tryz.f249),gJ tt (cO (fg (R:=R) internal_strconv_lower bD)) (gN (R:=R) aH) 0 a:=by
 refine eX 1 (by kernel_rfl) fun i hi => ?_
 match i,hi with
 | 0,_=>exact cy (by kernel_rfl) (Ap _ dt)
 | n+1,hi=>omega
theorem CS (R:Type):k6 Tryz.prog 249 (uw (da (R:=R))):=br TT mixed (Ds (R:=R)) rfl rfl rfl rfl (BO R) (Ek internal_strconv_lower bD aH)
/-! ### strconv.ParseUint -/
abbrev qk (R:Type):Type:=ah→Int→Int→(Int→Option R)→(Int→Option R)→Option R
abbrev yk:List cM := [.leaf (.str), .leaf (.int .i64), .leaf (.int .i64)]
abbrev yl:List aW := []
def El (fn:qk R):k9 R yk yl:=fun x y k=>fn x.1 x.2.1 x.2.2.1 (fun q0=>k (.tuple [.int .u64 q0, .iface]) []) (fun q0=>k (.tuple [.int .u64 q0, .dp]) [])
def Fw (fn:qk R):=aI yk yl (El fn)
section
variable (da:jk R)
def Fx:List (oi R) := [(219,true,(toErr_S R 250)),(249,true,(uw da ax))]
def rR (x1:ah) (x2:Int) (x3:Int) (k0:Int→Option R) (k1:Int→Option R):Option R :=
 da x1 x2 x3 (fun y4=>ca (Nat.beq 250 250&&(2==2||2==1)) (ca (decide (x1.length≤281474976710656)) (k0 y4))) (fun y5=>ca (Nat.beq 250 250&&(3==2||3==1)) (ca (decide (x1.length≤281474976710656)) (k0 y5))) (fun y6=>ca (Nat.beq 250 250&&(4==2||4==1)) (ca (decide (x1.length≤281474976710656)) (k0 y6))) (fun y7=>ca (Nat.beq 250 250&&(1==2||1==1)) (ca (decide (x1.length≤281474976710656)) (k0 y7))) (fun y8=>k1 y8)
theorem Oy:dC (R:=R) tt (Fx da) rP false Tryz.f252 yk yl (El (rR da)):=fun x y k=>by kernel_rfl
end
theorem Nq:ct (R:=R) Tryz.prog (Fx (R:=R) da) := .p (toErr_ok) <| .c (CS R) <| .n
def fq:qk R:=fun x1 x2 x3 k0 k1=>rR da x1 x2 x3 k0 k1
theorem LF (R:Type):k6 Tryz.prog 252 (Fw (fq (R:=R))):=br TT mixed (Nq (R:=R)) rfl rfl rfl rfl cb (Oy da)
/-! ### (*humpyard/quote.reader).unit -/
abbrev lv (R:Type):Type:=ah→(Int→ah→Option R)→Option R
abbrev qL:List cM := [.leaf (.ptr 0 0)]
abbrev qM:List aW := [.cells [.str]]
def xy (fn:lv R):k9 R qL qM:=fun x y k=>fn y.1.1 (fun q0 q1=>k (.int .i32 q0) [.cells [.str q1]])
def yU (fn:lv R):=aI qL qM (xy fn)
section
variable (fq:qk R)
def yV:List (oi R) := [(252,true,(Fw fq ax)),(253,true,(Yc R))]
def l8 (x1:ah) (k0:Int→ah→Option R):Option R :=
 bif (decide ((x1.length:Int)<(4:Int)))then (k0 (-1) x1)else (ca (decide ((4:Int)≤x1.length)) (fq ((x1.drop 0).take (4 - 0)) 16 16 (fun y2=>k0 (-1) x1) (fun y3=>ca (vY ((x1.drop 0).take (4 - 0))&&vY ([43,45,95]:ah)&&decide (((x1.drop 0).take (4 - 0)).length<4294967281)&&decide (([43,45,95]:ah).length<4294967281)) (bif (Yb ((x1.drop 0).take (4 - 0)) ([43,45,95]:ah))then (k0 (-1) x1)else (ca (decide ((0:Int)≤(x1.length:Int))&&decide ((x1.length:Int)≤x1.length)) (ca (decide ((4:Int)≤(x1.length:Int))) (k0 (IntKind.i32.wrap y3) ((x1.drop 4).take ((x1.length:Int).toNat - 4)))))))))
theorem HL:dC (R:=R) tt (yV fq) rP false Tryz.f242 qL qM (xy (l8 fq)):=fun x y k=>by kernel_rfl
end
theorem G4:ct (R:=R) Tryz.prog (yV (R:=R) fq) := .c (LF R) <| .p (hasAny_ok) <| .n
def db:lv R:=fun x1 k0=>l8 fq x1 k0
theorem FX (R:Type):k6 Tryz.prog 242 (yU (db (R:=R))):=br TT mixed (G4 (R:=R)) rfl rfl rfl rfl cb (HL fq)
/-! ### (*humpyard/quote.reader).long -/
abbrev lx (R:Type):Type:=ah→(Int→ah→Option R)→Option R
abbrev qN:List cM := [.leaf (.ptr 0 0)]
abbrev qO:List aW := [.cells [.str]]
def xA (fn:lx R):k9 R qN qO:=fun x y k=>fn y.1.1 (fun q0 q1=>k (.int .i32 q0) [.cells [.str q1]])
def yW (fn:lx R):=aI qN qO (xA fn)
section
variable (aK:je R) (db:lv R)
def yX:List (oi R) := [(195,false,(qH aK ax)),(242,false,(yU db ax))]
def l9 (x1:ah) (k0:Int→ah→Option R):Option R :=
 db x1 (fun y2 y3=>bif (decide (y2<(55296:Int)))then (k0 y2 y3)else (bif (decide (y2≥(57344:Int)))then (k0 y2 y3)else (bif (decide (y2≥(56320:Int)))then (k0 (-1) y3)else (aK ([92,117]:ah) y3 (fun y5 y6=>bif (!y5)then (k0 (-1) y6)else (db y6 (fun y9 uf=>bif (decide (y9<(56320:Int)))then (k0 (-1) uf)else (bif (decide (y9≥(57344:Int)))then (k0 (-1) uf)else (k0 (IntKind.i32.wrap ((IntKind.i32.wrap ((IntKind.i32.wrap (65536+(IntKind.i32.wrap ((IntKind.i32.wrap (y2 - 55296))*2 ^ (min 10 IntKind.i32.bits)))))+y9)) - 56320)) uf)))))))))
theorem HM:dC (R:=R) tt (yX aK db) rP false Tryz.f221 qN qO (xA (l9 aK db)):=fun x y k=>by kernel_rfl
end
theorem G5:ct (R:=R) Tryz.prog (yX (R:=R) aK db) := .d (vn R) rfl <| .d (FX R) rfl <| .n
def cQ:lx R:=fun x1 k0=>l9 aK db x1 k0
theorem FY (R:Type):k6 Tryz.prog 221 (yW (cQ (R:=R))):=br TT mixed (G5 (R:=R)) rfl rfl rfl rfl cb (HM aK db)
/-! ### (*humpyard/quote.reader).escaped -/
abbrev jG (R:Type):Type:=ah→(Int→ah→Option R)→Option R
abbrev nT:List cM := [.leaf (.ptr 0 0)]
abbrev nU:List aW := [.cells [.str]]
def ux (fn:jG R):k9 R nT nU:=fun x y k=>fn y.1.1 (fun q0 q1=>k (.int .i32 q0) [.cells [.str q1]])
def vp (fn:jG R):=aI nT nU (ux fn)
section
variable (cQ:lx R)
def vq:List (oi R) := [(221,false,(yW cQ ax))]
def jZ (x1:ah) (k0:Int→ah→Option R):Option R :=
 bif (x1==([]:ah))then (k0 (-1) x1)else (ca (decide ((0:Int)<x1.length)) (ca (decide ((0:Int)≤(x1.length:Int))&&decide ((x1.length:Int)≤x1.length)) (ca (decide ((1:Int)≤(x1.length:Int))) (let j5:=fun (z2:Bool)=>bif z2 then (k0 (IntKind.i32.wrap ((x1.getD 0 0).toNat:Int)) ((x1.drop 1).take ((x1.length:Int).toNat - 1)))else (bif (((x1.getD 0 0).toNat:Int)==98)then (k0 8 ((x1.drop 1).take ((x1.length:Int).toNat - 1)))else (bif (((x1.getD 0 0).toNat:Int)==102)then (k0 12 ((x1.drop 1).take ((x1.length:Int).toNat - 1)))else (bif (((x1.getD 0 0).toNat:Int)==110)then (k0 10 ((x1.drop 1).take ((x1.length:Int).toNat - 1)))else (bif (((x1.getD 0 0).toNat:Int)==114)then (k0 13 ((x1.drop 1).take ((x1.length:Int).toNat - 1)))else (bif (((x1.getD 0 0).toNat:Int)==116)then (k0 9 ((x1.drop 1).take ((x1.length:Int).toNat - 1)))else (bif (((x1.getD 0 0).toNat:Int)==117)then (cQ ((x1.drop 1).take ((x1.length:Int).toNat - 1)) (fun y3 y4=>k0 y3 y4))else (k0 (-1) ((x1.drop 1).take ((x1.length:Int).toNat - 1))))))))); bif (((x1.getD 0 0).toNat:Int)==34)then (j5 (((x1.getD 0 0).toNat:Int)==34))else (bif (((x1.getD 0 0).toNat:Int)==92)then (j5 (((x1.getD 0 0).toNat:Int)==92))else (j5 (((x1.getD 0 0).toNat:Int)==47)))))))
theorem E3:dC (R:=R) tt (vq cQ) rP false Tryz.f197 nT nU (ux (jZ cQ)):=fun x y k=>by kernel_rfl
end
theorem Em:ct (R:=R) Tryz.prog (vq (R:=R) cQ) := .d (FY R) rfl <| .n
def bm:jG R:=fun x1 k0=>jZ cQ x1 k0
theorem Dt (R:Type):k6 Tryz.prog 197 (vp (bm (R:=R))):=br TT mixed (Em (R:=R)) rfl rfl rfl rfl cb (E3 cQ)
/-! ### (*humpyard/quote.reader).plain -/
abbrev kM (R:Type):Type:=ah→(Int→ah→Option R)→Option R
abbrev pB:List cM := [.leaf (.ptr 0 0)]
abbrev pC:List aW := [.cells [.str]]
def wv (fn:kM R):k9 R pB pC:=fun x y k=>fn y.1.1 (fun q0 q1=>k (.int .i32 q0) [.cells [.str q1]])
def xB (fn:kM R):=aI pB pC (wv fn)
section
def xC:List (oi R) := [(184,true,(dec_S R))]
def ly (x1:ah) (k0:Int→ah→Option R):Option R :=
 let j3:=ca (decide ((0:Int)≤(x1.length:Int))&&decide ((x1.length:Int)≤x1.length)) (ca (decide ((0:Int)≤((o8 x1).2:Int))&&decide (((o8 x1).2:Int)≤(x1.length:Int))) (k0 ((o8 x1).1:Int) ((x1.drop ((o8 x1).2:Int).toNat).take ((x1.length:Int).toNat - ((o8 x1).2:Int).toNat)))); bif (((o8 x1).1:Int)==65533)then (bif (decide (((o8 x1).2:Int)<(2:Int)))then (k0 (-1) x1)else (bif (decide (((o8 x1).1:Int)<(32:Int)))then (k0 (-1) x1)else (j3)))else (bif (decide (((o8 x1).1:Int)<(32:Int)))then (k0 (-1) x1)else (j3))
theorem G6:dC (R:=R) tt (xC (R:=R)) rP false Tryz.f196 pB pC (wv ly):=fun x y k=>by kernel_rfl
end
theorem FZ:ct (R:=R) Tryz.prog (xC (R:=R)) := .p (dec_ok) <| .n
def bO:kM R:=fun x1 k0=>ly x1 k0
theorem E4 (R:Type):k6 Tryz.prog 196 (xB (bO (R:=R))):=br TT mixed (FZ (R:=R)) rfl rfl rfl rfl cb (G6)
end Go.Proofs.YtidfokedcnhahaaGreatDoor
/-
 Functions of the program as pure Lean functions, and the ties; printed by wip/tools/emit.py.
-/
set_option maxRecDepth 100000
namespace Go.Proofs.YtidfokedcnhahaaGreatDoor
open Go Go.aC
variable {R:Type}
/-! ### humpyard/quote.Unquote -/
abbrev xb (R:Type):Type:=ah→(ah→Int→Bool→Option R)→Option R
abbrev E5:List cM := [.leaf (.str)]
abbrev E6:List aW := []
def Ki (fn:xb R):k9 R E5 E6:=fun x y k=>fn x.1 (fun q0 q1 q2=>k (.tuple [.str q0, .int .i64 q1, .bool q2]) [])
def MU (fn:xb R):=aI E5 E6 (Ki fn)
abbrev wx (R:Type):Type:=Nat→ah→ah→(List Int)→(ah→ah→(List Int)→Option R)→(ah→ah→Int→Bool→ah→(List Int)→Option R)→Option R
def rS:Hint := { live := [0,5,6],own := [],rows := [],cells := [(1,1,(.int .u8),false)],drop := [],out := [0,2,3,4,5,6] }
abbrev kX:Type:=ah×ah×(List Int)
def uX:kX→St:=fun d=>⟨.str d.1::U 4 (.ptr 0 0 :: .ptr 1 0::U 32 ([])), [.cells [.str d.2.1], .mA (.sl (.int .u8) d.2.2 (.own 2)), .tok]⟩
def wy (K:Ex→St→Option R) (q0:ah) (q1:ah) (q2:List Int):Option R:=K (.exit 0) ⟨.str q0::U 4 (.ptr 0 0 :: .ptr 1 0::U 32 ([])), [.cells [.str q1], .mA (.sl (.int .u8) q2 (.own 2)), .tok]⟩
def wz (K:Ex→St→Option R) (q0:ah) (q1:ah) (q2:Int) (q3:Bool) (q4:ah) (q5:List Int):Option R:=K (.ret) ⟨.str q0 :: .undef :: .str q1 :: .int .i64 q2 :: .bool q3 :: .ptr 0 0 :: .ptr 1 0::U 32 ([]), [.cells [.str q4], .mA (.sl (.int .u8) q5 (.own 2)), .tok]⟩
abbrev nD:List cM := .leaf (.str)::PU 4 (.leaf (.ptr 0 0) :: .leaf (.ptr 1 0)::PU 32 ([]))
abbrev nE:List aW := [.cells [.str], .mA (.TY (.int .u8) 2), .tok]
def Fy (x:cM.bQ nD) (y:aW.bQ nE):Nat:=(List.length x.1+List.length y.1.1+List.length y.2.1+64)
def P5 (x:cM.bQ nD) (y:aW.bQ nE):kX:=(x.1,y.1.1,y.2.1)
def En (L:wx R):wU R nD nE:=fun x y K=>L (Fy x y) x.1 y.1.1 y.2.1 (wy K) (wz K)
section
variable (ak:eY R) (aK:je R) (bO:kM R) (bm:jG R) (bq:wx R)
def pI:List (oi R) := [(170,false,(kG ak ax)),(84,false,(Lo R)),(195,false,(qH aK ax)),(196,false,(xB bO ax)),(197,false,(vp bm ax))]
def rT (dx:ah→ah→(List Int)→Option R) (x4:ah) (x5:ah) (x6:List Int) (e0:ah→ah→(List Int)→Option R) (e1:ah→ah→Int→Bool→ah→(List Int)→Option R):Option R :=
 aK ([34]:ah) x5 (fun y7 y8=>bif (!y7)then (aK ([92]:ah) y8 (fun y9 uf=>bif y9 then (bm uf (fun vO Ad=>bif (decide (vO<(0:Int)))then (e1 x4 ([]:ah) 0 false Ad x6)else (ak vO x6 (fun Jg HF=>dx x4 Ad HF))))else (bO uf (fun JR Fo=>bif (decide (JR<(0:Int)))then (e1 x4 ([]:ah) 0 false Fo x6)else (ak JR x6 (fun R4 Nj=>dx x4 Fo Nj))))))else (e0 x4 y8 x6))
def Fz (K:Ex→St→Option R) (rc:kX→Option R) (d:kX):Option R:=rT ak aK bO bm (fun z0 z1 z2=>rc (z0,z1,z2)) d.1 d.2.1 d.2.2 (wy K) (wz K)
def uy:Nat→Option (Hint×cJ R):=fun i=>match i with
 | 5=>some (rS,(cE nD nE (En bq) iK))
 | _=>none
theorem LG (K:Ex→St→Option R) (rc:St→Option R) (d:kX):roundOf tt (cO (pI ak aK bO bm)) (uy bq) 0 ((aA (bb Tryz.f158)).getD 0 .skip) rS (uX d) rc K=Fz ak aK bO bm K (fun d=>rc (uX d)) d:=by kernel_rfl
def zB (x1:ah) (k0:ah→Int→Bool→Option R):Option R :=
 aK ([34]:ah) x1 (fun y2 y3=>bif (!y2)then (k0 ([]:ah) 0 false)else (bq (List.length x1+List.length y3+List.length ([]:List Int)+64) x1 y3 ([]:List Int) (fun ZG V1 GO=>k0 (vM GO) (IntKind.i64.wrap ((ZG.length:Int) - (V1.length:Int))) true) (fun y22 y23 y24 Qq SI Jd=>k0 y23 y24 Qq)))
theorem UD:dC (R:=R) tt (pI ak aK bO bm) (uy bq) false Tryz.f158 E5 E6 (Ki (zB aK bq)):=fun x y k=>by kernel_rfl
end
theorem SX:ct (R:=R) Tryz.prog (pI (R:=R) ak aK bO bm) := .d (og R) rfl <| .s (WZ) PG <| .d (vn R) rfl <| .d (E4 R) rfl <| .d (Dt R) rfl <| .n
def bq:wx R
 | 0,_,_,_,_,_=>none
 | n+1,gh,gl,gv,e0,e1=>rT ak aK bO bm (fun gh gl gv=>bq n gh gl gv e0 e1) gh gl gv e0 e1
def FA (K:Ex→St→Option R) (n:Nat) (d:kX):Option R:=bq n d.1 d.2.1 d.2.2 (wy K) (wz K)
theorem Oz (other:cJ R) (ho:gV tt (cO (pI (R:=R) ak aK bO bm)) (uy (R:=R) bq) 0 ((aA (bb Tryz.f158)).getD 0 .skip) rS other):gV tt (cO (pI (R:=R) ak aK bO bm)) (uy (R:=R) bq) 0 ((aA (bb Tryz.f158)).getD 0 .skip) rS (cE nD nE (En (bq)) other) :=
 cN (A:=FA) ho (dT uX (Fz ak aK bO bm) (FA) (fun _ _=>by kernel_rfl) (LG ak aK bO bm bq) (fun _ _ _=>by kernel_rfl)) Fy P5 (fun _ _=>by kernel_rfl) (fun _ _ _=>by kernel_rfl)
def fx:xb R:=fun x1 k0=>zB aK bq x1 k0
theorem P6 (R:Type):∀a∈aA (bb Tryz.f158),gJ tt (cO (pI (R:=R) ak aK bO bm)) (uy (R:=R) bq) 0 a:=by
 refine eX 1 (by kernel_rfl) fun i hi => ?_
 match i,hi with
 | 0,_=>exact cy (by kernel_rfl) (Oz _ dt)
 | n+1,hi=>omega
theorem Rx (R:Type):k6 Tryz.prog 158 (MU (fx (R:=R))):=br TT mixed (SX (R:=R)) rfl rfl rfl rfl (P6 R) (UD ak aK bO bm bq)
/-! ### humpyard/lexer.next -/
abbrev DW (R:Type):Type:=ah→(Token→Int→Option R)→Option R
abbrev LH:List cM := [.leaf (.str)]
abbrev LI:List aW := []
def QG (fn:DW R):k9 R LH LI:=fun x y k=>fn x.1 (fun q0 q1=>k (.tuple [.agg [.int .i64 q0.kind, .str q0.text, .int .i64 q0.num.ao, .int .i64 q0.num.exp, .int .i64 q0.at_], .int .i64 q1]) [])
def SY (fn:DW R):=aI LH LI (QG fn)
section
variable (fx:xb R) (dP:w9 R) (cD:wo R)
def SZ:List (oi R) := [(158,true,(MU fx ax)),(157,true,(MS dP ax)),(159,true,(idx_S R)),(118,true,(Jt cD ax))]
def F0 (x1:ah) (k0:Token→Int→Option R):Option R :=
 ca (decide ((0:Int)<x1.length)) (let j23:=cD x1 ([97,98,99,100,101,102,103,104,105,106,107,108,109,110,111,112,113,114,115,116,117,118,119,120,121,122]:ah) (fun GO=>bif (GO==([116,114,117,101]:ah))then (k0 (⟨4,GO,⟨0,0⟩,0⟩:Token) (GO.length:Int))else (bif (GO==([102,97,108,115,101]:ah))then (k0 (⟨4,GO,⟨0,0⟩,0⟩:Token) (GO.length:Int))else (bif (!(GO==([110,117,108,108]:ah)))then (k0 (⟨0,([]:ah),⟨0,0⟩,0⟩:Token) 0)else (k0 (⟨4,GO,⟨0,0⟩,0⟩:Token) (GO.length:Int))))); bif (((x1.getD 0 0).toNat:Int)==45)then (cD x1 ([48,49,50,51,52,53,54,55,56,57,43,45,46,101,69]:ah) (fun y6=>dP y6 (fun y7 y8=>bif (!y8)then (k0 (⟨0,([]:ah),⟨0,0⟩,0⟩:Token) 0)else (k0 (⟨3,y6,⟨y7.ao,y7.exp⟩,0⟩:Token) (y6.length:Int)))))else (bif (decide (((x1.getD 0 0).toNat:Int)≥(48:Int)))then (bif (decide (((x1.getD 0 0).toNat:Int)≤(57:Int)))then (cD x1 ([48,49,50,51,52,53,54,55,56,57,43,45,46,101,69]:ah) (fun y9=>dP y9 (fun uf vO=>bif (!vO)then (k0 (⟨0,([]:ah),⟨0,0⟩,0⟩:Token) 0)else (k0 (⟨3,y9,⟨uf.ao,uf.exp⟩,0⟩:Token) (y9.length:Int)))))else (bif (((x1.getD 0 0).toNat:Int)==34)then (fx x1 (fun JR Fo R4=>bif (!R4)then (k0 (⟨0,([]:ah),⟨0,0⟩,0⟩:Token) 0)else (k0 (⟨2,JR,⟨0,0⟩,0⟩:Token) Fo)))else (bif (decide ((DQ ([123,125,91,93,44,58]:ah) ((x1.getD 0 0).toNat:Int))≥(0:Int)))then (ca (decide ((1:Int)≤x1.length)) (k0 (⟨1,((x1.drop 0).take (1 - 0)),⟨0,0⟩,0⟩:Token) 1))else (j23))))else (bif (((x1.getD 0 0).toNat:Int)==34)then (fx x1 (fun Nj ZG V1=>bif (!V1)then (k0 (⟨0,([]:ah),⟨0,0⟩,0⟩:Token) 0)else (k0 (⟨2,Nj,⟨0,0⟩,0⟩:Token) ZG)))else (bif (decide ((DQ ([123,125,91,93,44,58]:ah) ((x1.getD 0 0).toNat:Int))≥(0:Int)))then (ca (decide ((1:Int)≤x1.length)) (k0 (⟨1,((x1.drop 0).take (1 - 0)),⟨0,0⟩,0⟩:Token) 1))else (j23)))))
theorem aac:dC (R:=R) tt (SZ fx dP cD) rP false Tryz.f119 LH LI (QG (F0 fx dP cD)):=fun x y k=>by kernel_rfl
end
theorem Yw:ct (R:=R) Tryz.prog (SZ (R:=R) fx dP cD) := .c (Rx R) <| .c (Rw R) <| .p (idx_ok) <| .c (Kg R) <| .n
def gU:DW R:=fun x1 k0=>F0 fx dP cD x1 k0
theorem We (R:Type):k6 Tryz.prog 119 (SY (gU (R:=R))):=br TT mixed (Yw (R:=R)) rfl rfl rfl rfl cb (aac fx dP cD)
/-! ### humpyard/lexer.Scan -/
abbrev DX (R:Type):Type:=ah→((List Token)→Int→Int→Option R)→Option R
abbrev LJ:List cM := [.leaf (.str)]
abbrev LK:List aW := []
def QH (fn:DX R):k9 R LJ LK:=fun x y k=>fn x.1 (fun q0 q1 q2=>k (.tuple [.sl .token q0 .no, .int .i64 q1, .int .i64 q2]) [])
def S0 (fn:DX R):=aI LJ LK (QH fn)
abbrev BP (R:Type):Type:=Nat→ah→(List Token)→Int→((List Token)→Int→Int→Option R)→(Int→Int→Option R)→Option R
def xc:Hint := { live := [0,2,4],own := [(2, .token)],rows := [],cells := [],drop := [],out := [2,3,4] }
abbrev oq:Type:=ah×(List Token)×Int
def Aq:oq→St:=fun d=>⟨.str d.1 :: .undef :: .sl .token d.2.1 (.own 0) :: .undef :: .int .i64 d.2.2::U 40 ([]), [.tok]⟩
def BQ (K:Ex→St→Option R) (q0:List Token) (q1:Int) (q2:Int):Option R:=K (.ret) ⟨U 2 (.sl .token q0 (.own 0) :: .int .i64 q1 :: .int .i64 q2::U 40 ([])), [.tok]⟩
def BR (K:Ex→St→Option R) (q0:Int) (q1:Int):Option R:=K (.ret) ⟨U 2 (.bw :: .int .i64 q0 :: .int .i64 q1::U 40 ([])), []⟩
abbrev sc:List cM := .leaf (.str) :: .leaf (.undef) :: .leaf (.TY .token 0) :: .leaf (.undef) :: .leaf (.int .i64)::PU 40 ([])
abbrev sd:List aW := [.tok]
def Kj (x:cM.bQ sc) (y:aW.bQ sd):Nat:=(List.length x.1+List.length x.2.2.1+Int.natAbs x.2.2.2.2.1+64)
def UE (x:cM.bQ sc) (y:aW.bQ sd):oq:=(x.1,x.2.2.1,x.2.2.2.2.1)
def Iy (L:BP R):wU R sc sd:=fun x y K=>L (Kj x y) x.1 x.2.2.1 x.2.2.2.2.1 (BQ K) (BR K)
section
variable (gU:DW R) (cD:wo R) (cX:BP R)
def xd:List (oi R) := [(119,true,(SY gU ax)),(118,true,(Jt cD ax))]
def Du (dx:ah→(List Token)→Int→Option R) (x2:ah) (x3:List Token) (x4:Int) (e0:(List Token)→Int→Int→Option R) (e1:Int→Int→Option R):Option R :=
 ca (decide ((0:Int)≤(x2.length:Int))&&decide ((x2.length:Int)≤x2.length)) (ca (decide ((0:Int)≤x4)&&decide (x4≤(x2.length:Int))) (cD ((x2.drop x4.toNat).take ((x2.length:Int).toNat - x4.toNat)) ([32,9,10,13]:ah) (fun y5=>bif ((IntKind.i64.wrap (x4+(y5.length:Int)))==(x2.length:Int))then (ca (decide ((x3.length+1)*48≤140737488355328)) (e0 (x3++([(⟨5,([]:ah),⟨0,0⟩,(IntKind.i64.wrap (x4+(y5.length:Int)))⟩:Token)]:List Token)) 0 0))else (ca (decide ((0:Int)≤(x2.length:Int))&&decide ((x2.length:Int)≤x2.length)) (ca (decide ((0:Int)≤(IntKind.i64.wrap (x4+(y5.length:Int))))&&decide ((IntKind.i64.wrap (x4+(y5.length:Int)))≤(x2.length:Int))) (gU ((x2.drop (IntKind.i64.wrap (x4+(y5.length:Int))).toNat).take ((x2.length:Int).toNat - (IntKind.i64.wrap (x4+(y5.length:Int))).toNat)) (fun y6 y7=>bif (y7==0)then (e1 30 (IntKind.i64.wrap (x4+(y5.length:Int))))else (ca (decide ((x3.length+1)*48≤140737488355328)) (dx x2 (x3++([(⟨y6.kind,y6.text,⟨y6.num.ao,y6.num.exp⟩,(IntKind.i64.wrap (x4+(y5.length:Int)))⟩:Token)]:List Token)) (IntKind.i64.wrap ((IntKind.i64.wrap (x4+(y5.length:Int)))+y7)))))))))))
def Kk (K:Ex→St→Option R) (rc:oq→Option R) (d:oq):Option R:=Du gU cD (fun z0 z1 z2=>rc (z0,z1,z2)) d.1 d.2.1 d.2.2 (BQ K) (BR K)
def BS:Nat→Option (Hint×cJ R):=fun i=>match i with
 | 3=>some (xc,(cE sc sd (Iy cX) iK))
 | _=>none
theorem P7 (K:Ex→St→Option R) (rc:St→Option R) (d:oq):roundOf tt (cO (xd gU cD)) (BS cX) 0 ((aA (bb Tryz.f79)).getD 0 .skip) xc (Aq d) rc K=Kk gU cD K (fun d=>rc (Aq d)) d:=by kernel_rfl
def F1 (x1:ah) (k0:(List Token)→Int→Int→Option R):Option R :=
 bif (decide ((x1.length:Int)>(20000:Int)))then (k0 ([]:List Token) 30 0)else (cX (List.length x1+List.length ([]:List Token)+Int.natAbs 0+64) x1 ([]:List Token) 0 (fun y8 y9 uf=>k0 y8 y9 uf) (fun vO Ad=>k0 ([]:List Token) vO Ad))
theorem aad:dC (R:=R) tt (xd gU cD) (BS cX) false Tryz.f79 LJ LK (QH (F1 cX)):=fun x y k=>by kernel_rfl
end
theorem Yx:ct (R:=R) Tryz.prog (xd (R:=R) gU cD) := .c (We R) <| .c (Kg R) <| .n
def cX:BP R
 | 0,_,_,_,_,_=>none
 | n+1,gh,gl,gv,e0,e1=>Du gU cD (fun gh gl gv=>cX n gh gl gv e0 e1) gh gl gv e0 e1
def Kl (K:Ex→St→Option R) (n:Nat) (d:oq):Option R:=cX n d.1 d.2.1 d.2.2 (BQ K) (BR K)
theorem S1 (other:cJ R) (ho:gV tt (cO (xd (R:=R) gU cD)) (BS (R:=R) cX) 0 ((aA (bb Tryz.f79)).getD 0 .skip) xc other):gV tt (cO (xd (R:=R) gU cD)) (BS (R:=R) cX) 0 ((aA (bb Tryz.f79)).getD 0 .skip) xc (cE sc sd (Iy (cX)) other) :=
 cN (A:=Kl) ho (dT Aq (Kk gU cD) (Kl) (fun _ _=>by kernel_rfl) (P7 gU cD cX) (fun _ _ _=>by kernel_rfl)) Kj UE (fun _ _=>by kernel_rfl) (fun _ _ _=>by kernel_rfl)
def nf:DX R:=fun x1 k0=>F1 cX x1 k0
theorem UF (R:Type):∀a∈aA (bb Tryz.f79),gJ tt (cO (xd (R:=R) gU cD)) (BS (R:=R) cX) 0 a:=by
 refine eX 1 (by kernel_rfl) fun i hi => ?_
 match i,hi with
 | 0,_=>exact cy (by kernel_rfl) (S1 _ dt)
 | n+1,hi=>omega
theorem Wf (R:Type):k6 Tryz.prog 79 (S0 (nf (R:=R))):=br TT mixed (Yx (R:=R)) rfl rfl rfl rfl (UF R) (aad gU cD cX)
/-! ### (*humpyard/json.parser).fail -/
abbrev fy (R:Type):Type:=Int→(List Token)→Int→((List Token)→Int→Option R)→Option R
abbrev se:List cM := [.leaf (.ptr 0 0), .leaf (.int .i64)]
abbrev sf:List aW := [.cells [.sl .token, .int .i64]]
def yY (fn:fy R):k9 R se sf:=fun x y k=>fn x.2.1 y.1.1 y.1.2.1 (fun q0 q1=>k (.tuple []) [.cells [.sl .token q0 .no, .int .i64 q1]])
def jT (fn:fy R):=aI se sf (yY fn)
section
def AN (x1:Int) (x2:List Token) (x3:Int) (k0:(List Token)→Int→Option R):Option R :=
 bif (x3==0)then (k0 x2 x1)else (k0 x2 x3)
theorem Ju:dC (R:=R) (tt.mode [.json]) [] rP false Tryz.f81 se sf (yY AN):=fun x y k=>by kernel_rfl
end
def aq:fy R:=fun x1 x2 x3 k0=>AN x1 x2 x3 k0
theorem kN (R:Type):k6 Tryz.prog 81 (jT (aq (R:=R))):=br (TT.mode [.json]) mixed .n rfl rfl rfl rfl cb (Ju)
/-! ### (*humpyard/json.parser).sign -/
abbrev jA (R:Type):Type:=ah→(List Token)→Int→(Bool→(List Token)→Int→Option R)→Option R
abbrev si:List cM := [.leaf (.ptr 0 0), .leaf (.str)]
abbrev sj:List aW := [.cells [.sl .token, .int .i64]]
def yZ (fn:jA R):k9 R si sj:=fun x y k=>fn x.2.1 y.1.1 y.1.2.1 (fun q0 q1 q2=>k (.bool q0) [.cells [.sl .token q1 .no, .int .i64 q2]])
def sk (fn:jA R):=aI si sj (yZ fn)
section
def AO (x1:ah) (x2:List Token) (x3:Int) (k0:Bool→(List Token)→Int→Option R):Option R :=
 ca (decide ((0:Int)<x2.length)) (bif (x3 != 0)then (k0 false x2 x3)else (bif ((x2.getD 0 (Ty.aZ .token)).kind != 1)then (k0 false x2 x3)else (bif (!((x2.getD 0 (Ty.aZ .token)).text==x1))then (k0 false x2 x3)else (ca (decide ((1:Int)≤x2.length)) (k0 true (x2.drop 1) x3)))))
theorem Jv:dC (R:=R) (tt.mode [.json]) [] rP false Tryz.f199 si sj (yZ AO):=fun x y k=>by kernel_rfl
end
def av:jA R:=fun x1 x2 x3 k0=>AO x1 x2 x3 k0
theorem wA (R:Type):k6 Tryz.prog 199 (sk (av (R:=R))):=br (TT.mode [.json]) mixed .n rfl rfl rfl rfl cb (Jv)
/-! ### (*humpyard/json.parser).name -/
abbrev ma (R:Type):Type:=(List ah)→(List Token)→Int→(ah→(List Token)→Int→Option R)→Option R
abbrev sn:List cM := [.leaf (.ptr 0 0), .leaf (.TY .str 1)]
abbrev so:List aW := [.cells [.sl .token, .int .i64], .tok]
def za (fn:ma R):k9 R sn so:=fun x y k=>fn x.2.1 y.1.1 y.1.2.1 (fun q0 q1 q2=>k (.str q0) [.cells [.sl .token q1 .no, .int .i64 q2], .tok])
def AP (fn:ma R):=aI sn so (za fn)
section
variable (aq:fy R) (av:jA R) (aB:fL R)
def AQ:List (oi R) := [(81,false,(jT aq ax)),(199,false,(sk av ax)),(85,true,(lM aB ax))]
def AR (x1:List ah) (x2:List Token) (x3:Int) (k0:ah→(List Token)→Int→Option R):Option R :=
 ca (decide ((0:Int)<x2.length)) (bif ((x2.getD 0 (Ty.aZ .token)).kind != 2)then (aq 40 x2 x3 (fun y4 y5=>k0 ((x2.getD 0 (Ty.aZ .token)).text) y4 y5))else (aB x1 ((x2.getD 0 (Ty.aZ .token)).text) (fun y6=>bif y6 then (aq 42 x2 x3 (fun y7 y8=>k0 ((x2.getD 0 (Ty.aZ .token)).text) y7 y8))else (ca (decide ((1:Int)≤x2.length)) (av ([58]:ah) (x2.drop 1) x3 (fun y9 uf vO=>bif (!y9)then (aq 40 uf vO (fun Ad Jg=>k0 ((x2.getD 0 (Ty.aZ .token)).text) Ad Jg))else (k0 ((x2.getD 0 (Ty.aZ .token)).text) uf vO)))))))
theorem Jw:dC (R:=R) (tt.mode [.json]) (AQ aq av aB) rP false Tryz.f162 sn so (za (AR aq av aB)):=fun x y k=>by kernel_rfl
end
theorem HN:ct (R:=R) Tryz.prog (AQ (R:=R) aq av aB) := .d (kN R) rfl <| .d (wA R) rfl <| .c (pg R) <| .n
def cY:ma R:=fun x1 x2 x3 k0=>AR aq av aB x1 x2 x3 k0
theorem G7 (R:Type):k6 Tryz.prog 162 (AP (cY (R:=R))):=br (TT.mode [.json]) mixed (HN (R:=R)) rfl rfl rfl rfl cb (Jw aq av aB)
end Go.Proofs.YtidfokedcnhahaaGreatDoor
/-
 Functions of the program as pure Lean functions, and the ties; printed by wip/tools/emit.py.
-/
set_option maxRecDepth 100000
namespace Go.Proofs.YtidfokedcnhahaaGreatDoor
open Go Go.aC
variable {R:Type}
/-! ### (*humpyard/json.parser).value -/
abbrev aD (R:Type):Type:=Int→(List Token)→Int→(Json→(List Token)→Int→Option R)→Option R
abbrev bW:List cM := [.leaf (.ptr 0 0), .leaf (.int .i64)]
abbrev bX:List aW := [.cells [.sl .token, .int .i64]]
def bA (fn:aD R):k9 R bW bX:=fun x y k=>fn x.2.1 y.1.1 y.1.2.1 (fun q0 q1 q2=>k (.agg [.int .i64 q0.kind, .int .i64 q0.num.ao, .int .i64 q0.num.exp, .str q0.text, .sl .str q0.names .no, .sl .json q0.items .no]) [.cells [.sl .token q1 .no, .int .i64 q2]])
def zc (fn:aD R):=aI bW bX (bA fn)
/-! ### (*humpyard/json.parser).parts$1 -/
abbrev j0 (R:Type):Type:=Bool→Int→Int→Int→ah→(List ah)→Nat→Int→(List Json)→(List Token)→Int→(Bool→Int→Int→Int→ah→(List ah)→Nat→Int→(List Token)→Int→(List Json)→Option R)→(Bool→Int→Int→Int→ah→(List ah)→Nat→Int→(List Json)→(List Token)→Int→Option R)→(Bool→Int→Int→Int→ah→(List ah)→Nat→Int→(List Token)→Int→(List Json)→Option R)→(Bool→Int→Int→Int→ah→(List ah)→Nat→Int→(List Json)→(List Token)→Int→Option R)→Option R
abbrev oV:List cM := [.leaf (.ptr 0 0), .leaf (.ptr 1 0), .leaf (.ptr 2 0), .leaf (.ptr 3 0)]
abbrev oW:List aW := [.cells [.bool], .cells [.int .i64, .int .i64, .int .i64, .str, .TY .str 4, .row 5], .cells [.ptr 6 0], .cells [.int .i64], .tok, .row .json, .cells [.sl .token, .int .i64]]
def vu (fn:j0 R):k9 R oV oW:=fun x y k=>fn y.1.1 y.2.1.1 y.2.1.2.1 y.2.1.2.2.1 y.2.1.2.2.2.1 y.2.1.2.2.2.2.1 y.2.1.2.2.2.2.2.1 y.2.2.2.1.1 y.2.2.2.2.2.1 y.2.2.2.2.2.2.1.1 y.2.2.2.2.2.2.1.2.1 (fun q0 q1 q2 q3 q4 q5 q6 q7 q8 q9 ZY=>k (.tuple []) [.cells [.bool q0], .cells [.int .i64 q1, .int .i64 q2, .int .i64 q3, .str q4, .sl .str q5 (.own 7), .row 8 q6], .cells [.ptr 6 0], .cells [.int .i64 q7], .dead, .dead, .cells [.sl .token q8 .no, .int .i64 q9], .tok, .row .json ZY]) (fun q0 q1 q2 q3 q4 q5 q6 q7 q8 q9 ZY=>k (.tuple []) [.cells [.bool q0], .cells [.int .i64 q1, .int .i64 q2, .int .i64 q3, .str q4, .sl .str q5 (.own 7), .row 5 q6], .cells [.ptr 6 0], .cells [.int .i64 q7], .dead, .row .json q8, .cells [.sl .token q9 .no, .int .i64 ZY], .tok]) (fun q0 q1 q2 q3 q4 q5 q6 q7 q8 q9 ZY=>k (.tuple []) [.cells [.bool q0], .cells [.int .i64 q1, .int .i64 q2, .int .i64 q3, .str q4, .sl .str q5 (.own 4), .row 7 q6], .cells [.ptr 6 0], .cells [.int .i64 q7], .tok, .dead, .cells [.sl .token q8 .no, .int .i64 q9], .row .json ZY]) (fun q0 q1 q2 q3 q4 q5 q6 q7 q8 q9 ZY=>k (.tuple []) [.cells [.bool q0], .cells [.int .i64 q1, .int .i64 q2, .int .i64 q3, .str q4, .sl .str q5 (.own 4), .row 5 q6], .cells [.ptr 6 0], .cells [.int .i64 q7], .tok, .row .json q8, .cells [.sl .token q9 .no, .int .i64 ZY]])
def wB (fn:j0 R):=aI oV oW (vu fn)
section
variable (cY:ma R) (ag:aD R)
def wC:List (oi R) := [(162,false,(AP cY ax)),(80,false,(aI bW bX (bA ag) ax))]
def dW (x1:Bool) (x2:Int) (x3:Int) (x4:Int) (x5:ah) (x6:List ah) (x7:Nat) (x8:Int) (x9:List Json) (Un:List Token) (Ni:Int) (k0:Bool→Int→Int→Int→ah→(List ah)→Nat→Int→(List Token)→Int→(List Json)→Option R) (k1:Bool→Int→Int→Int→ah→(List ah)→Nat→Int→(List Json)→(List Token)→Int→Option R) (k2:Bool→Int→Int→Int→ah→(List ah)→Nat→Int→(List Token)→Int→(List Json)→Option R) (k3:Bool→Int→Int→Int→ah→(List ah)→Nat→Int→(List Json)→(List Token)→Int→Option R):Option R :=
 bif x1 then (cY x6 Un Ni (fun Ad Jg HF=>ca (decide ((x6.length+1)*16≤140737488355328)) (bif (HF==0)then (ag (IntKind.i64.wrap (x8+1)) Jg HF (fun JR Fo R4=>ca (decide ((x9.length+1)*88≤140737488355328)) (ca (decide ((0:Int)≤(x7:Int))&&decide ((x7:Int)<(x9.length+1))) (ca (decide ((x7:Int).toNat<(x9++([(⟨0,⟨0,0⟩,([]:ah),([]:List ah),([]:List Json)⟩:Json)]:List Json)).length)) (k0 x1 x2 x3 x4 x5 (x6++([Ad]:List ah)) (x9.length+1) x8 Fo R4 ((x9++([(⟨0,⟨0,0⟩,([]:ah),([]:List ah),([]:List Json)⟩:Json)]:List Json)).set ((x7:Int).toNat) (⟨JR.kind,⟨JR.num.ao,JR.num.exp⟩,JR.text,JR.names,JR.items⟩:Json)))))))else (k1 x1 x2 x3 x4 x5 (x6++([Ad]:List ah)) x7 x8 x9 Jg HF))))else (bif (Ni==0)then (ag (IntKind.i64.wrap (x8+1)) Un Ni (fun Nj ZG V1=>ca (decide ((x9.length+1)*88≤140737488355328)) (ca (decide ((0:Int)≤(x7:Int))&&decide ((x7:Int)<(x9.length+1))) (ca (decide ((x7:Int).toNat<(x9++([(⟨0,⟨0,0⟩,([]:ah),([]:List ah),([]:List Json)⟩:Json)]:List Json)).length)) (k2 x1 x2 x3 x4 x5 x6 (x9.length+1) x8 ZG V1 ((x9++([(⟨0,⟨0,0⟩,([]:ah),([]:List ah),([]:List Json)⟩:Json)]:List Json)).set ((x7:Int).toNat) (⟨Nj.kind,⟨Nj.num.ao,Nj.num.exp⟩,Nj.text,Nj.names,Nj.items⟩:Json)))))))else (k3 x1 x2 x3 x4 x5 x6 x7 x8 x9 Un Ni))
theorem F2:dC (R:=R) (tt.mode [.json]) (wC cY ag) rP false Tryz.f161 oV oW (vu (dW cY ag)):=fun x y k=>by kernel_rfl
end
theorem E7 (ag:aD R) (bE:aC.Spec.Ok Tryz.prog 80 (aI bW bX (bA ag) ax)):ct (R:=R) Tryz.prog (wC (R:=R) cY ag) := .d (G7 R) rfl <| .f bE rfl <| .n
def bk (ag:aD R):j0 R:=fun x1 x2 x3 x4 x5 x6 x7 x8 x9 Un Ni k0 k1 k2 k3=>dW cY ag x1 x2 x3 x4 x5 x6 x7 x8 x9 Un Ni k0 k1 k2 k3
theorem Eo (R:Type) (ag:aD R) (bE:aC.Spec.Ok Tryz.prog 80 (aI bW bX (bA ag) ax)):k6 Tryz.prog 161 (wB (bk ag)):=br (TT.mode [.json]) mixed (E7 ag bE) rfl rfl rfl rfl cb (F2 cY ag)
/-! ### (*humpyard/json.parser).list -/
abbrev mb (R:Type):Type:=ah→(List Token)→Int→Bool→Int→Int→Int→ah→Int→((List Token)→Int→Bool→Int→Int→Int→ah→Int→Option R)→((List Token)→Int→Bool→Int→Int→Int→ah→(List ah)→Nat→Int→(List Json)→Option R)→Option R
abbrev sq:List cM := [.leaf (.ptr 0 0), .leaf (.str), .func 161 [] [.ptr 1 0, .ptr 2 0, .ptr 3 0, .ptr 4 0]]
abbrev sr:List aW := [.cells [.sl .token, .int .i64], .cells [.bool], .cells [.int .i64, .int .i64, .int .i64, .str, .bw, .bw], .cells [.ptr 0 0], .cells [.int .i64]]
def zd (fn:mb R):k9 R sq sr:=fun x y k=>fn x.2.1 y.1.1 y.1.2.1 y.2.1.1 y.2.2.1.1 y.2.2.1.2.1 y.2.2.1.2.2.1 y.2.2.1.2.2.2.1 y.2.2.2.2.1.1 (fun q0 q1 q2 q3 q4 q5 q6 q7=>k (.tuple []) [.cells [.sl .token q0 .no, .int .i64 q1], .cells [.bool q2], .cells [.int .i64 q3, .int .i64 q4, .int .i64 q5, .str q6, .bw, .bw], .cells [.ptr 0 0], .cells [.int .i64 q7]]) (fun q0 q1 q2 q3 q4 q5 q6 q7 q8 q9 ZY=>k (.tuple []) [.cells [.sl .token q0 .no, .int .i64 q1], .cells [.bool q2], .cells [.int .i64 q3, .int .i64 q4, .int .i64 q5, .str q6, .sl .str q7 (.own 5), .row 6 q8], .cells [.ptr 0 0], .cells [.int .i64 q9], .tok, .row .json ZY])
def AS (fn:mb R):=aI sq sr (zd fn)
abbrev ng (R:Type):Type:=Nat→ah→(List Token)→Int→Bool→Int→Int→Int→ah→(List ah)→Nat→Int→(List Json)→((List Token)→Int→Bool→Int→Int→Int→ah→(List ah)→Nat→Int→(List Json)→Option R)→Option R
def j4:Hint := { live := [0,1,2],own := [],rows := [],cells := [(2,4, .str,false),(2,5, .json,true)],drop := [],out := [] }
abbrev fH:Type:=ah×(List Token)×Int×Bool×Int×Int×Int×ah×(List ah)×Nat×Int×(List Json)
def mu:fH→St:=fun d=>⟨.ptr 0 0 :: .str d.1 :: .func 161 [] [.ptr 1 0, .ptr 2 0, .ptr 3 0, .ptr 4 0]::U 23 ([]), [.cells [.sl .token d.2.1 .no, .int .i64 d.2.2.1], .cells [.bool d.2.2.2.1], .cells [.int .i64 d.2.2.2.2.1, .int .i64 d.2.2.2.2.2.1, .int .i64 d.2.2.2.2.2.2.1, .str d.2.2.2.2.2.2.2.1, .sl .str d.2.2.2.2.2.2.2.2.1 (.own 5), .row 6 d.2.2.2.2.2.2.2.2.2.1], .cells [.ptr 0 0], .cells [.int .i64 d.2.2.2.2.2.2.2.2.2.2.1], .tok, .row .json d.2.2.2.2.2.2.2.2.2.2.2]⟩
def nh (K:Ex→St→Option R) (q0:List Token) (q1:Int) (q2:Bool) (q3:Int) (q4:Int) (q5:Int) (q6:ah) (q7:List ah) (q8:Nat) (q9:Int) (ZY:List Json):Option R:=K (.ret) ⟨U 26 ([]), [.cells [.sl .token q0 .no, .int .i64 q1], .cells [.bool q2], .cells [.int .i64 q3, .int .i64 q4, .int .i64 q5, .str q6, .sl .str q7 (.own 5), .row 6 q8], .cells [.ptr 0 0], .cells [.int .i64 q9], .tok, .row .json ZY]⟩
abbrev hQ:List cM := .leaf (.ptr 0 0) :: .leaf (.str) :: .func 161 [] [.ptr 1 0, .ptr 2 0, .ptr 3 0, .ptr 4 0]::PU 23 ([])
abbrev hU:List aW := [.cells [.sl .token, .int .i64], .cells [.bool], .cells [.int .i64, .int .i64, .int .i64, .str, .TY .str 5, .row 6], .cells [.ptr 0 0], .cells [.int .i64], .tok, .row .json]
def vv (x:cM.bQ hQ) (y:aW.bQ hU):Nat:=(List.length x.2.1+List.length y.1.1+Int.natAbs y.1.2.1+Int.natAbs y.2.2.1.1+Int.natAbs y.2.2.1.2.1+Int.natAbs y.2.2.1.2.2.1+List.length y.2.2.1.2.2.2.1+List.length y.2.2.1.2.2.2.2.1+Int.natAbs y.2.2.2.2.1.1+List.length y.2.2.2.2.2.2.1+64)
def F3 (x:cM.bQ hQ) (y:aW.bQ hU):fH:=(x.2.1,y.1.1,y.1.2.1,y.2.1.1,y.2.2.1.1,y.2.2.1.2.1,y.2.2.1.2.2.1,y.2.2.1.2.2.2.1,y.2.2.1.2.2.2.2.1,y.2.2.1.2.2.2.2.2.1,y.2.2.2.2.1.1,y.2.2.2.2.2.2.1)
def uz (L:ng R):wU R hQ hU:=fun x y K=>L (vv x y) x.2.1 y.1.1 y.1.2.1 y.2.1.1 y.2.2.1.1 y.2.2.1.2.1 y.2.2.1.2.2.1 y.2.2.1.2.2.2.1 y.2.2.1.2.2.2.2.1 y.2.2.1.2.2.2.2.2.1 y.2.2.2.2.1.1 y.2.2.2.2.2.2.1 (nh K)
section
variable (aq:fy R) (bk:j0 R) (av:jA R) (aJ:ng R)
def ig:List (oi R) := [(81,false,(jT aq ax)),(161,false,(wB bk ax)),(199,false,(sk av ax))]
def nV (dx:ah→(List Token)→Int→Bool→Int→Int→Int→ah→(List ah)→Nat→Int→(List Json)→Option R) (HC:ah) (Lp:List Token) (oj:Int) (tB:Bool) (lG:Int) (oT:Int) (E8:Int) (uR:ah) (x21:List ah) (x22:Nat) (Z9:Int) (x24:List Json) (e0:(List Token)→Int→Bool→Int→Int→Int→ah→(List ah)→Nat→Int→(List Json)→Option R):Option R :=
 bk tB lG oT E8 uR x21 x22 Z9 x24 Lp oj (fun Qq SI Jd Qr Yv W2 Z8 UC y33 y34 y35=>bif (y34 != 0)then (e0 y33 y34 Qq SI Jd Qr Yv W2 Z8 UC y35)else (av HC y33 y34 (fun y69 y70 y71=>bif y69 then (e0 y70 y71 Qq SI Jd Qr Yv W2 Z8 UC y35)else (av ([44]:ah) y70 y71 (fun y75 y76 y77=>bif (!y75)then (aq 40 y76 y77 (fun y78 y79=>e0 y78 y79 Qq SI Jd Qr Yv W2 Z8 UC y35))else (dx HC y76 y77 Qq SI Jd Qr Yv W2 Z8 UC y35)))))) (fun y36 y37 y38 W0 ZH ZZ Z0 W1 y44 y45 y46=>bif (y46 != 0)then (e0 y45 y46 y36 y37 y38 W0 ZH ZZ Z0 W1 y44)else (av HC y45 y46 (fun y80 y81 y82=>bif y80 then (e0 y81 y82 y36 y37 y38 W0 ZH ZZ Z0 W1 y44)else (av ([44]:ah) y81 y82 (fun y86 y87 y88=>bif (!y86)then (aq 40 y87 y88 (fun y89 y90=>e0 y89 y90 y36 y37 y38 W0 ZH ZZ Z0 W1 y44))else (dx HC y87 y88 y36 y37 y38 W0 ZH ZZ Z0 W1 y44)))))) (fun y47 y48 y49 y50 y51 y52 y53 y54 y55 y56 y57=>bif (y56 != 0)then (e0 y55 y56 y47 y48 y49 y50 y51 y52 y53 y54 y57)else (av HC y55 y56 (fun y91 y92 y93=>bif y91 then (e0 y92 y93 y47 y48 y49 y50 y51 y52 y53 y54 y57)else (av ([44]:ah) y92 y93 (fun y97 y98 y99=>bif (!y97)then (aq 40 y98 y99 (fun y100 y101=>e0 y100 y101 y47 y48 y49 y50 y51 y52 y53 y54 y57))else (dx HC y98 y99 y47 y48 y49 y50 y51 y52 y53 y54 y57)))))) (fun y58 y59 y60 y61 y62 y63 y64 y65 y66 y67 y68=>bif (y68 != 0)then (e0 y67 y68 y58 y59 y60 y61 y62 y63 y64 y65 y66)else (av HC y67 y68 (fun y102 y103 y104=>bif y102 then (e0 y103 y104 y58 y59 y60 y61 y62 y63 y64 y65 y66)else (av ([44]:ah) y103 y104 (fun y108 y109 y110=>bif (!y108)then (aq 40 y109 y110 (fun y111 y112=>e0 y111 y112 y58 y59 y60 y61 y62 y63 y64 y65 y66))else (dx HC y109 y110 y58 y59 y60 y61 y62 y63 y64 y65 y66))))))
def vw (K:Ex→St→Option R) (rc:fH→Option R) (d:fH):Option R:=nV aq bk av (fun z0 z1 z2 z3 z4 z5 z6 z7 z8 z9 Rp vN=>rc (z0,z1,z2,z3,z4,z5,z6,z7,z8,z9,Rp,vN)) d.1 d.2.1 d.2.2.1 d.2.2.2.1 d.2.2.2.2.1 d.2.2.2.2.2.1 d.2.2.2.2.2.2.1 d.2.2.2.2.2.2.2.1 d.2.2.2.2.2.2.2.2.1 d.2.2.2.2.2.2.2.2.2.1 d.2.2.2.2.2.2.2.2.2.2.1 d.2.2.2.2.2.2.2.2.2.2.2 (nh K)
def jU:Nat→Option (Hint×cJ R):=fun i=>match i with
 | 1=>some (j4,(cE hQ hU (uz aJ) iK))
 | _=>none
theorem Dv (K:Ex→St→Option R) (rc:St→Option R) (d:fH):roundOf (tt.mode [.json]) (cO (ig aq bk av)) (jU aJ) 5 ((aA (bb Tryz.f160)).getD 0 .skip) j4 (mu d) rc K=vw aq bk av K (fun d=>rc (mu d)) d:=by kernel_rfl
def AT (x1:ah) (x2:List Token) (x3:Int) (x4:Bool) (x5:Int) (x6:Int) (x7:Int) (x8:ah) (x9:Int) (k0:(List Token)→Int→Bool→Int→Int→Int→ah→Int→Option R) (k1:(List Token)→Int→Bool→Int→Int→Int→ah→(List ah)→Nat→Int→(List Json)→Option R):Option R :=
 av x1 x2 x3 (fun uf vO Ad=>bif uf then (k0 vO Ad x4 x5 x6 x7 x8 x9)else (aJ (List.length x1+List.length vO+Int.natAbs Ad+Int.natAbs x5+Int.natAbs x6+Int.natAbs x7+List.length x8+List.length ([]:List ah)+Int.natAbs x9+List.length ([]:List Json)+64) x1 vO Ad x4 x5 x6 x7 x8 ([]:List ah) 0 x9 ([]:List Json) (fun y113 y114 y115 y116 y117 y118 y119 y120 y121 y122 y123=>k1 y113 y114 y115 y116 y117 y118 y119 y120 y121 y122 y123)))
theorem Jx:dC (R:=R) (tt.mode [.json]) (ig aq bk av) (jU aJ) false Tryz.f160 sq sr (zd (AT av aJ)):=fun x y k=>by kernel_rfl
end
theorem HO (ag:aD R) (bE:aC.Spec.Ok Tryz.prog 80 (aI bW bX (bA ag) ax)):ct (R:=R) Tryz.prog (ig (R:=R) aq (bk ag) av) := .d (kN R) rfl <| .d (Eo R ag bE) rfl <| .d (wA R) rfl <| .n
def aJ (ag:aD R):ng R
 | 0,_,_,_,_,_,_,_,_,_,_,_,_,_=>none
 | n+1,gh,gl,gv,mB,v7,xS,Ee,Ef,HD,HE,pA,xT,e0=>nV aq (bk ag) av (fun gh gl gv mB v7 xS Ee Ef HD HE pA xT=>aJ ag n gh gl gv mB v7 xS Ee Ef HD HE pA xT e0) gh gl gv mB v7 xS Ee Ef HD HE pA xT e0
def vy (ag:aD R) (K:Ex→St→Option R) (n:Nat) (d:fH):Option R:=aJ ag n d.1 d.2.1 d.2.2.1 d.2.2.2.1 d.2.2.2.2.1 d.2.2.2.2.2.1 d.2.2.2.2.2.2.1 d.2.2.2.2.2.2.2.1 d.2.2.2.2.2.2.2.2.1 d.2.2.2.2.2.2.2.2.2.1 d.2.2.2.2.2.2.2.2.2.2.1 d.2.2.2.2.2.2.2.2.2.2.2 (nh K)
theorem E9 (ag:aD R) (other:cJ R) (ho:gV (tt.mode [.json]) (cO (ig (R:=R) aq (bk ag) av)) (jU (R:=R) (aJ ag)) 5 ((aA (bb Tryz.f160)).getD 0 .skip) j4 other):gV (tt.mode [.json]) (cO (ig (R:=R) aq (bk ag) av)) (jU (R:=R) (aJ ag)) 5 ((aA (bb Tryz.f160)).getD 0 .skip) j4 (cE hQ hU (uz (aJ ag)) other) :=
 cN (A:=vy ag) ho (dT mu (vw aq (bk ag) av) (vy ag) (fun _ _=>by kernel_rfl) (Dv aq (bk ag) av (aJ ag)) (fun _ _ _=>by kernel_rfl)) vv F3 (fun _ _=>by kernel_rfl) (fun _ _ _=>by kernel_rfl)
def bU (ag:aD R):mb R:=fun x1 x2 x3 x4 x5 x6 x7 x8 x9 k0 k1=>AT av (aJ ag) x1 x2 x3 x4 x5 x6 x7 x8 x9 k0 k1
theorem F4 (R:Type) (ag:aD R) (bE:aC.Spec.Ok Tryz.prog 80 (aI bW bX (bA ag) ax)):∀a∈aA (bb Tryz.f160),gJ (tt.mode [.json]) (cO (ig (R:=R) aq (bk ag) av)) (jU (R:=R) (aJ ag)) 5 a:=by
 refine eX 1 (by kernel_rfl) fun i hi => ?_
 match i,hi with
 | 0,_=>exact cy (by kernel_rfl) (E9 ag _ dt)
 | n+1,hi=>omega
theorem G8 (R:Type) (ag:aD R) (bE:aC.Spec.Ok Tryz.prog 80 (aI bW bX (bA ag) ax)):k6 Tryz.prog 160 (AS (bU ag)):=br (TT.mode [.json]) mixed (HO ag bE) rfl rfl rfl rfl (F4 R ag bE) (Jx aq (bk ag) av (aJ ag))
/-! ### (*humpyard/json.parser).parts -/
abbrev lA (R:Type):Type:=Bool→Int→(List Token)→Int→(Json→(List Token)→Int→Option R)→Option R
abbrev qP:List cM := [.leaf (.ptr 0 0), .leaf (.bool), .leaf (.int .i64)]
abbrev qQ:List aW := [.cells [.sl .token, .int .i64]]
def xD (fn:lA R):k9 R qP qQ:=fun x y k=>fn x.2.1 x.2.2.1 y.1.1 y.1.2.1 (fun q0 q1 q2=>k (.agg [.int .i64 q0.kind, .int .i64 q0.num.ao, .int .i64 q0.num.exp, .str q0.text, .sl .str q0.names .no, .sl .json q0.items .no]) [.cells [.sl .token q1 .no, .int .i64 q2]])
def ze (fn:lA R):=aI qP qQ (xD fn)
section
variable (bU:mb R)
def zf:List (oi R) := [(160,false,(AS bU ax))]
def zg (x1:Bool) (x2:Int) (x3:List Token) (x4:Int) (k0:Json→(List Token)→Int→Option R):Option R :=
 bif x1 then (bU ([125]:ah) x3 x4 x1 7 0 0 ([]:ah) x2 (fun y5 y6 y7 y8 y9 uf vO Ad=>k0 (⟨y8,⟨y9,uf⟩,vO,([]:List ah),([]:List Json)⟩:Json) y5 y6) (fun Jg HF JR Fo R4 Nj ZG V1 GO y22 y23=>k0 (⟨Fo,⟨R4,Nj⟩,ZG,V1,y23⟩:Json) Jg HF))else (bU ([93]:ah) x3 x4 x1 6 0 0 ([]:ah) x2 (fun y24 Qq SI Jd Qr Yv W2 Z8=>k0 (⟨Jd,⟨Qr,Yv⟩,W2,([]:List ah),([]:List Json)⟩:Json) y24 Qq) (fun UC y33 y34 y35 y36 y37 y38 W0 ZH ZZ Z0=>k0 (⟨y35,⟨y36,y37⟩,y38,W0,Z0⟩:Json) UC y33))
theorem HP:dC (R:=R) (tt.mode [.json]) (zf bU) rP false Tryz.f120 qP qQ (xD (zg bU)):=fun x y k=>by kernel_rfl
end
theorem G9 (ag:aD R) (bE:aC.Spec.Ok Tryz.prog 80 (aI bW bX (bA ag) ax)):ct (R:=R) Tryz.prog (zf (R:=R) (bU ag)) := .d (G8 R ag bE) rfl <| .n
def cR (ag:aD R):lA R:=fun x1 x2 x3 x4 k0=>zg (bU ag) x1 x2 x3 x4 k0
theorem F5 (R:Type) (ag:aD R) (bE:aC.Spec.Ok Tryz.prog 80 (aI bW bX (bA ag) ax)):k6 Tryz.prog 120 (ze (cR ag)):=br (TT.mode [.json]) mixed (G9 ag bE) rfl rfl rfl rfl cb (HP (bU ag))
section
variable (aq:fy R) (cR:lA R)
def zh:List (oi R) := [(81,false,(jT aq ax)),(120,false,(ze cR ax))]
def zi (x1:Int) (x2:List Token) (x3:Int) (k0:Json→(List Token)→Int→Option R):Option R :=
 ca (decide ((0:Int)<x2.length)) (let j20:=fun (z4:Bool)=>let j19:=fun (z9:List Token) (Rp:Int)=>bif (Rp != 0)then (k0 (⟨0,⟨0,0⟩,([]:ah),([]:List ah),([]:List Json)⟩:Json) z9 Rp)else (ca (decide ((1:Int)≤z9.length)) (let j18:=bif ((x2.getD 0 (Ty.aZ .token)).kind==3)then (k0 (⟨4,⟨(x2.getD 0 (Ty.aZ .token)).num.ao,(x2.getD 0 (Ty.aZ .token)).num.exp⟩,([]:ah),([]:List ah),([]:List Json)⟩:Json) (z9.drop 1) Rp)else (k0 (⟨5,⟨0,0⟩,(x2.getD 0 (Ty.aZ .token)).text,([]:List ah),([]:List Json)⟩:Json) (z9.drop 1) Rp); let j17:=fun (vN:Bool)=>bif vN then (bif ((x2.getD 0 (Ty.aZ .token)).kind==1)then (cR ((x2.getD 0 (Ty.aZ .token)).text==([123]:ah)) x1 (z9.drop 1) Rp (fun Ad Jg HF=>k0 (⟨Ad.kind,⟨Ad.num.ao,Ad.num.exp⟩,Ad.text,Ad.names,Ad.items⟩:Json) Jg HF))else (j18))else (let j16:=fun (z15:Bool)=>bif z15 then (bif ((x2.getD 0 (Ty.aZ .token)).kind==4)then (k0 (⟨((mj .str (.int .i64) ((x2.getD 0 (Ty.aZ .token)).text) ([(([110,117,108,108]:ah),1),(([102,97,108,115,101]:ah),2),(([116,114,117,101]:ah),3)]:List (ah×Int))):Int),⟨0,0⟩,([]:ah),([]:List ah),([]:List Json)⟩:Json) (z9.drop 1) Rp)else (j18))else (j18); bif ((x2.getD 0 (Ty.aZ .token)).text==([110,117,108,108]:ah))then (j16 ((x2.getD 0 (Ty.aZ .token)).text==([110,117,108,108]:ah)))else (bif ((x2.getD 0 (Ty.aZ .token)).text==([102,97,108,115,101]:ah))then (j16 ((x2.getD 0 (Ty.aZ .token)).text==([102,97,108,115,101]:ah)))else (j16 ((x2.getD 0 (Ty.aZ .token)).text==([116,114,117,101]:ah))))); bif ((x2.getD 0 (Ty.aZ .token)).text==([91]:ah))then (j17 ((x2.getD 0 (Ty.aZ .token)).text==([91]:ah)))else (j17 ((x2.getD 0 (Ty.aZ .token)).text==([123]:ah))))); bif (!z4)then (aq 40 x2 x3 (fun y5 y6=>j19 y5 y6))else (bif (decide (x1>(16:Int)))then (aq 41 x2 x3 (fun y7 y8=>j19 y7 y8))else (j19 x2 x3)); bif ((x2.getD 0 (Ty.aZ .token)).kind==2)then (j20 true)else (bif ((x2.getD 0 (Ty.aZ .token)).kind==3)then (j20 true)else (bif ((x2.getD 0 (Ty.aZ .token)).kind==4)then (j20 true)else (bif ((x2.getD 0 (Ty.aZ .token)).kind==1)then (bif ((x2.getD 0 (Ty.aZ .token)).text==([91]:ah))then (j20 true)else (j20 ((x2.getD 0 (Ty.aZ .token)).text==([123]:ah))))else (j20 false)))))
theorem HQ:dC (R:=R) (tt.mode [.json]) (zh aq cR) rP false Tryz.f80 bW bX (bA (zi aq cR)):=fun x y k=>by kernel_rfl
end
theorem Ha (ag:aD R) (bE:aC.Spec.Ok Tryz.prog 80 (aI bW bX (bA ag) ax)):ct (R:=R) Tryz.prog (zh (R:=R) aq (cR ag)) := .d (kN R) rfl <| .d (F5 R ag bE) rfl <| .n
def qR (ag:aD R):aD R:=fun x1 x2 x3 k0=>zi aq (cR ag) x1 x2 x3 k0
theorem Fa (R:Type) (ag:aD R) (bE:aC.Spec.Ok Tryz.prog 80 (aI bW bX (bA ag) ax)):k6 Tryz.prog 80 (zc (qR ag)):=br (TT.mode [.json]) mixed (Ha ag bE) rfl rfl rfl rfl cb (HQ aq (cR ag))
def bn:Nat→aD R
 | 0,_,_,_,_=>none
 | n+1,gh,gl,gv,k0'=>qR (bn n) gh gl gv k0'
theorem Vv (n:Nat):bn (R:=R) (n+1)=qR (bn n):=by kernel_rfl
theorem F6 (R:Type):∀n,aC.Spec.Ok Tryz.prog 80 (aI bW bX (bA (bn (R:=R) n)) ax) :=
 AL (run:=fun n=>bA (bn (R:=R) n)) (fun x y k=>by kernel_rfl) fun n hyp=>Fa R (bn n) hyp ax (jl _)
def dc:aD R:=fun x1 x2 x3 k0=>bn 40 x1 x2 x3 k0
theorem F7 (R:Type):bA (R:=R) dc=fun x y k=>bA (bn 40) x y k:=by kernel_rfl
theorem F8 (R:Type) (other:aC.Spec R) (ho:aC.Spec.Ok Tryz.prog 80 other):aC.Spec.Ok Tryz.prog 80 (aI bW bX (bA dc) other) :=
 GL (J8 (run:=fun n=>bA (bn (R:=R) n)) (fun x y=>40) ho (F6 R)) (F7 R)
end Go.Proofs.YtidfokedcnhahaaGreatDoor
end
