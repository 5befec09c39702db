/-
  GA, part 6 of 10.
-/
import Derived.Test.YtidfokedcnhahaaGreatDoorCards
import Derived.Test.YtidfokedcnhahaaGreatDoorTie
import Derived.Lib.LaidU8T
import Derived.Stop.LaidErr
import Derived.Deep.DeepHandedRow
import Derived.Deep.DeepWitnessRowRef
import Derived.WalkKit
import Derived.ProofKit
import Derived.OpenShut
import Derived.Lib.ValidU
import Derived.Lib.ItoaLen
import Derived.Lib.Repeat
import Derived.Lib.AtoiAll
import Derived.Lib.IndexAny
import Derived.Lib.Bytealg
import Derived.Lib.SlTrimSet
import Derived.Lib.LastIndexByte
import Derived.Sort.Grow
import Derived.Shelf.Strings.BuilderX
import Derived.Test.YtidfokedcnhahaaGreatDoorGAB5
set_option linter.unusedSimpArgs false
set_option linter.unnecessarySimpa false
set_option linter.unusedVariables false
set_option linter.unusedSectionVars false
noncomputable section
set_option maxRecDepth 100000
namespace Go.Proofs.YtidfokedcnhahaaGreatDoor.Door
open Go Go.Lib Go.RowKit Go.ChangeShapes Go.aq
theorem own:ownKnob Tryz.prog.godebug=none:=by kernel_rfl
theorem leaves:Pp Tryz.prog Go.Proofs.YtidfokedcnhahaaGreatDoor.tt:=leaves_ok (by kernel_rfl)
theorem gSyn:Tryz.prog.globalNamed "strconv.ErrSyntax" = some 3:=by kernel_rfl
theorem gRng:Tryz.prog.globalNamed "strconv.ErrRange" = some 4:=by kernel_rfl
theorem tSyn:(Tryz.prog.globals[3]?).map (·.type)=some 158:=by kernel_rfl
theorem tRng:(Tryz.prog.globals[4]?).map (·.type)=some 158:=by kernel_rfl
theorem star : "*" ++ "errors.errorString" = "*errors.errorString" :=by decide
theorem rowErr (u:TypeId) (h:Tryz.prog.typeName? 3 u=some "*errors.errorString"):u=271 :=
 typeName_ptr_named (nm := "errors.errorString") (by rw[star]; kernel_rfl) (by kernel_rfl) (by decide) u (by rw[star]; exact h)
theorem lt_of_var {n:String} {g:Nat} {W:World} {cs:Array Value} (hg:Tryz.prog.globalNamed n=some g) (h:W.var? Tryz.prog n=some cs):g<W.heap.size:=by
 unfold World.var? at h
 simp only[hg,Option.bind_some]at h
 rcases Nat.lt_or_ge g W.heap.size with h'|h'
 ·exact h'
 ·simp[Array.getElem?_eq_none h']at h
theorem Rn {W:World} (h:laidMet Tryz.prog Rows.orderTellsUptoRow.laid W):pf.says W∧∀b,pf.blocks b→b<W.heap.size:=by
 have r0:VarReads Tryz.prog W "unicode/utf8.first" firstData:=laidMet.reads h (.tail _ (.tail _ (.tail _ (.tail _ (.tail _ (.tail _ (.head _)))))))
 have r1:VarReads Tryz.prog W "unicode/utf8.acceptRanges" acceptData:=laidMet.reads h (.tail _ (.tail _ (.tail _ (.head _))))
 have ht:Utf8Tabs 1 2 W:=utf8Tabs_of_readsT (U8Types.of196 Tryz.lay196) ⟨by kernel_rfl,by kernel_rfl,by kernel_rfl,by kernel_rfl,by kernel_rfl,by kernel_rfl,by kernel_rfl⟩ r0 r1
 have h2:=laidMet.tail (laidMet.tail h)
 have hp:TabIs Tryz.prog W "internal/strconv.uint64pow10" .u64 pow10Tab:=tabIs_of_head (t:=267) (e:=244) (n:=20) lay_pow10 (by kernel_rfl) (by kernel_rfl) (by kernel_rfl) (by kernel_rfl) (by kernel_rfl) h2
 have h4:=laidMet.tail (laidMet.tail h2)
 obtain ⟨a3,s3,v3,_⟩:=laid_sentinel (ms := #[("Error",120)]) (f := { name := "s",type:=9,offset:=0,embedded:=false,tag := "",pkgPath := "errors",byteOffset:=0 }) (te:=273) (ts:=9) h4 gRng tRng (by kernel_rfl) rowErr (by kernel_rfl) (by kernel_rfl) rfl rfl (by kernel_rfl) (by kernel_rfl) (by kernel_rfl)
 obtain ⟨a2,s2,v2,_⟩:=laid_sentinel (ms := #[("Error",120)]) (f := { name := "s",type:=9,offset:=0,embedded:=false,tag := "",pkgPath := "errors",byteOffset:=0 }) (te:=273) (ts:=9) (laidMet.tail h4) gSyn tSyn (by kernel_rfl) rowErr (by kernel_rfl) (by kernel_rfl) rfl rfl (by kernel_rfl) (by kernel_rfl) (by kernel_rfl)
 refine ⟨⟨ht,hp,⟨_,_,World.var?_cell gSyn v2 0⟩,⟨_,_,World.var?_cell gRng v3 0⟩⟩,fun b hb => ?_⟩
 have hb:b<8:=hb
 obtain ⟨g,t,cs,fuel,p,hg,_,hv,_⟩:VarReads Tryz.prog W "math/bits.deBruijn64tab" Rows.laid_math_bits_deBruijn64tab:=laidMet.reads h (.tail _ (.head _))
 have e:(some 7:Option Nat)=some g:=(by kernel_rfl:Tryz.prog.globalNamed "math/bits.deBruijn64tab" = some 7).symm.trans hg
 cases e
 have l4:=lt_of_var hg hv
 omega
abbrev synS:ByteArray := { data := #[105,110,118,97,108,105,100,32,115,121,110,116,97,120] }
abbrev rngS:ByteArray := { data := #[118,97,108,117,101,32,111,117,116,32,111,102,32,114,97,110,103,101] }
def low:Nat:=(World.holding Tryz.prog default ⟨#[], #[], []⟩).heap.size
def lit1:DataW Unit→Value
 | .lit (.int k n) => .int k n
 | _ => .int .u8 0
def litsOf:DataW Unit→List Value
 | .agg l=>l.map lit1
 | _ => []
def oq (os:Os):World :=
 let w0:=World.holding Tryz.prog os ⟨#[.cells #[.string synS] 273, .cells #[.string rngS] 273], #[], []⟩
 let put (h:Array Obj) (g:Nat) (cs:Array Value):Array Obj:=h.modify g fun
  | .cells _ t frozen => .cells cs t frozen
  | o=>o
 let h0:=put w0.heap 1 (firstTab.map fun z=>Value.int .u8 z).toArray
 let h1:=put h0 2 ((List.range 16).flatMap fun i => [Value.int .u8 (accLo i),Value.int .u8 (accHi i)]).toArray
 let h2:=put h1 3 #[.iface 271 (.pointer (some ⟨low,0,none⟩))]
 let h3:=put h2 4 #[.iface 271 (.pointer (some ⟨low+1,0,none⟩))]
 let h4:=put h3 5 (pow10Tab.map fun z=>Value.int .u64 z).toArray
 let h6:=put h4 6 (litsOf Rows.laid_math_bits_deBruijn32tab).toArray
 let h7:=put h6 7 (litsOf Rows.laid_math_bits_deBruijn64tab).toArray
 { w0 with heap:=h7 }
theorem Lf (os:Os) (args:Array Value):laidMet Tryz.prog Rows.orderTellsUptoRow.laid ((oq os).forCall (fun _ _=>0) ⟨#[],args, []⟩).memory :=
 laidMet_of_run' 8 (by kernel_rfl) (by kernel_rfl)
end Go.Proofs.YtidfokedcnhahaaGreatDoor.Door
namespace Go.aq
theorem ay {R:Type} {b:Bool} {k:Option R} (h:b=true):cx b k=k:=by subst h; rfl
theorem cK {n:Int} (h1 : -9223372036854775808≤n) (h2:n≤9223372036854775807):IntKind.i64.wrap n=n:=by
 simp only[IntKind.wrap,IntKind.bits,IntKind.signed,IntKind.min,IntKind.max]
 simp
 omega
theorem Json.eta (x:Json):(⟨x.kind,⟨x.num.ao,x.num.exp⟩,x.text,x.names,x.items⟩:Json)=x:=by cases x; rfl
theorem Raw.eta (x:Raw):(⟨x.kind,x.ao,x.exp,x.text,x.items⟩:Raw)=x:=by cases x; rfl
theorem getD_at {α:Type} {l:List α} {i:Nat} (h:i<l.length) (d:α):l.getD i d=l[i]:=by simp[List.getD,h]
end Go.aq
namespace Go.aq
open Go.RowKit
section
variable {P:Program} {tt:dw} {w w':World} {h h':aM} {c c':jP} {R:Type}
theorem D8 (hb:Below w.heap.size w w'):Ext w h c w' h c where
 os:=hb.os
 tape:=hb.tape
 output:=hb.output
 size:=hb.size
 used:=fun _ hi=>hi
 same:=fun i hi hd=>⟨La (Rg hi.2 hd) (fun _ _ _ => .inr trivial),rfl,rfl⟩
 cell:=fun b x hx _=>wz (hb.block b hx)
 block:=fun b hx _=>hb.block b hx
 Bl:=fun _ _ _ ho=>ho
 ext:=rfl
 arr:=fun b arr e fz hx=>⟨arr,fz,by rw[hb.block b (Ez hx)]; exact hx,rfl⟩
theorem Pq (wf:WF w h c) (hb:Below w.heap.size w w'):WF w' h c where
 C4:=wf.C4
 rF:=fun b x he=>Nat.lt_of_lt_of_le (wf.rF b x he) hb.size
 obj:=fun i hi=>by
  by_cases hl:(h.at i).live
  ·exact (wf.obj i hi).wg (D8 hb) (fun b pP=>hb.block b ((wf.obj i hi).lt hl pP)) rfl rfl
  ·have h0:h.at i = .free∨h.at i = .dead:=by revert hl; cases h.at i <;> simp[ck.live]
   rcases h0 with h0|h0 <;> rw[h0] <;> trivial
 inj:=wf.inj
 lay:=wf.vL (D8 hb)
theorem wA {g:Nat} {fn:Func} (hf:P.funcs[g]? = some fn) (hn:(fn.name == "runtime.NumGoroutine")=false) (hb:fn.body.isNone=false) {args:Array Value} {Q:Value→World→Prop}
  (h:Calls P g args w fun e w'=>∃d,e = .returned d∧Q d w'):BE P g args w Q:=by
 refine ⟨.enter g args,w,?_,h⟩
 have hn':fn.name ≠ "runtime.NumGoroutine" :=by simpa using hn
 have pP:fn.body≠none:=fun e=>by rw[e]at hb; cases hb
 simp[callFunc,hf,hn',pP]
theorem oF {g:Nat} {fn:Func} (hf:P.funcs[g]? = some fn) (hn:(fn.name == "runtime.NumGoroutine")=false) (hb:fn.body.isNone=false) {sp:Spec R}
  (hs:∀vs hp k r,sp vs hp k=some r→∀(w:World) (c:jP) (args:Array Value),WF w hp c→cF w hp c vs args.toList →
   ∃v,k v hp=some r∧Calls P g args w fun e w'=>∃d,e = .returned d∧Below w.heap.size w w'∧dC w' hp c v d):Spec.Ok P g sp:=by
 intro vs hp k r hk w c args wf ra
 obtain ⟨v,hv,hc⟩:=hs vs hp k r hk w c args wf ra
 refine wA hf hn hb (Calls.mono hc ?_)
 rintro e w' ⟨d,he,hbl,hr⟩
 exact ⟨d,he,v,hp,c,Pq wf hbl,D8 hbl,hr,hv⟩
theorem repL1 {v:V} {args:Array Value} (ra:cF w h c [v] args.toList):∃d,args = #[d]∧dC w h c v d:=by
 obtain ⟨l⟩:=args
 match l,ra with
 | [d],ra=>exact ⟨d,rfl,ra.head⟩
 | [],ra=>have:=ra.1; simp at this
 | _::_::_,ra=>have:=ra.1; simp at this
theorem repL2 {u v:V} {args:Array Value} (ra:cF w h c [u,v] args.toList):∃d e,args = #[d,e]∧dC w h c u d∧dC w h c v e:=by
 obtain ⟨l⟩:=args
 match l,ra with
 | [d,e],ra=>exact ⟨d,e,rfl,ra.head,ra.tail.head⟩
 | [],ra=>have:=ra.1; simp at this
 | [_],ra=>have:=ra.1; simp at this
 | _::_::_::_,ra=>have:=ra.1; simp at this
end
section
variable {P:Program} {tt:dw} {w w':World} {h h':aM} {c c':jP} {R:Type}
def WO (R:Type):Spec R:=fun vs h k =>
 match vs with
 | [.ptr i 0]=>(match h.at i with | .mE _=>k (.tuple []) h|_=>none)
 | _=>none
theorem VR {i:Nat} {v:V} {a':Value} (wf:WF w h c) (ra:dC w h c (.ptr i 0) a') (hv:h.at i = .mE v) :
  ∃b p d,a' = .pointer (some ⟨b,0,none⟩)∧c.wm i=some b∧w.heap[b]? = some (Obj.cells #[p,d] pf.mE (0,0))∧(p = .pointer none∨p = .pointer (some ⟨b,0,none⟩))∧dC w h c v d:=by
 have hi:=aM.gE hv (by simp)
 have ho:=wf.obj i hi
 rw[hv]at ho
 obtain ⟨b,p,d,g1,g2,g3,g4⟩:=ho
 cases ra with
 | ptr hu hq =>
  obtain ⟨b',rfl,pP⟩:=hq
  have:=pP (by rw[hv]; simp)
  rw[g1]at this; cases this
  exact ⟨b,p,d,rfl,g1,g2,g3,g4⟩
theorem bcc_ok {g:Nat} {fn:Func} (hf:P.funcs[g]? = some fn) (hn:(fn.name == "runtime.NumGoroutine")=false) (hb:fn.body.isNone=false)
  (fresh:∀(b:Nat) (w:World),w.cell? ⟨b,0,none⟩=some (.pointer none)→w.shape? b=some (pf.mE,2)→w.frozen? ⟨b,0,none⟩=false →
   Calls P g #[.pointer (some ⟨b,0,none⟩)] w fun e w'=>e = .returned (.tuple #[])∧w'=w.setCell ⟨b,0,none⟩ (.pointer (some ⟨b,0,none⟩)))
  (used:∀(b:Nat) (w:World),w.cell? ⟨b,0,none⟩=some (.pointer (some ⟨b,0,none⟩))→Calls P g #[.pointer (some ⟨b,0,none⟩)] w fun e w'=>e = .returned (.tuple #[])∧w'=w):Spec.Ok P g (WO R):=by
 intro vs h k r hk w c args wf ra
 unfold WO at hk
 split at hk <;> try (first|cases hk)
 rename_i i
 split at hk <;> try (first|cases hk)
 rename_i v hv
 obtain ⟨a',rfl,r1⟩:=repL1 ra
 obtain ⟨b,p,d,rfl,g1,g2,g3,g4⟩:=VR wf r1 hv
 have Se:w.cell? ⟨b,0,none⟩=some p:=by rw[cell_of_row w b _ _ _ _ g2]; rfl
 have rt:∀w' h' c',dC w' h' c' (.tuple []) (.tuple #[]):=fun w' h' c' => .tuple rfl (fun j v d hv=>by simp at hv)
 rcases g3 with rfl|rfl
 ·refine wA hf hn hb (Calls.mono (fresh b w Se (by simp[World.shape?,g2]) (AR g2 0)) ?_)
  rintro e w' ⟨he,rfl⟩
  have pP:(w.setCell ⟨b,0,none⟩ (.pointer (some ⟨b,0,none⟩))).heap[b]? = some (.cells #[.pointer (some ⟨b,0,none⟩),d] pf.mE (0,0)):=by
   simp[World.setCell,Array.getElem?_modify,g2]
  have hw:YU w (w.setCell ⟨b,0,none⟩ (.pointer (some ⟨b,0,none⟩))) b #[.pointer (some ⟨b,0,none⟩),d] pf.mE (0,0):=⟨rfl,rfl,rfl,by simp,fun k hk=>heap_setCell_other w _ k _ hk,pP⟩
  have vM:(h.at i).from_ (c.off i)=some 0:=by rw[hv]; rfl
  have xO:(h.at i).iF (.mE v):=by rw[hv]; trivial
  have VH:h.set i (.mE v)=h:=by
   have hi:=aM.gE hv (by simp)
   have e:h[i] = .mE v:=by
    have:=hv
    unfold aM.at at this
    simpa [List.getD,List.getElem?_eq_getElem hi]using this
   rw[←e]
   exact List.set_getElem_self hi
  have x:=T5 g1 g2 hw rfl vM rfl xO
  have q:=upd_wf wf g1 g2 hw rfl vM rfl xO ⟨b,_,d,g1,pP, .inr rfl,g4.mono x⟩
  rw[VH]at x q
  exact ⟨_,he,_,h,c,q,x,rt _ _ _,hk⟩
 ·refine wA hf hn hb (Calls.mono (used b w Se) ?_)
  rintro e w' ⟨he,rfl⟩
  exact ⟨_,he,_,h,c,wf, .refl _ _ _,rt _ _ _,hk⟩
def wh (l:List Int):ag:=l.map fun n=>UInt8.ofNat n.toNat
theorem bstr_len (l:List Int):(wh l).length=l.length:=List.length_map _
theorem bstr_get (l:List Int) (m:Nat) (x:UInt8) (h:(wh l)[m]? = some x):∃n,l[m]? = some n∧x=UInt8.ofNat n.toNat:=by
 unfold wh at h
 rw[List.getElem?_map]at h
 cases hm:l[m]? with
 | none=>rw[hm]at h; cases h
 | some n=>rw[hm]at h; simp at h; exact ⟨n,rfl,h.symm⟩
def MB (R:Type):Spec R:=fun vs h k =>
 match vs with
 | [.ptr i 0] =>
  (match h.at i with
   | .mE .cv=>k (.str []) h
   | .mE (.sl (.int .u8) l (.own j))=>(match h.at j with | .tok=>k (.str (wh l)) h|_=>none)
   | _=>none)
 | _=>none
theorem Ro:Pg (MB R):=by
 intro vs h k k' he
 unfold MB
 split <;> try rfl
 split <;> try (first|rfl|exact he _)
 split <;> first|rfl|exact he _
theorem freeze_wf (wf:WF w h c) {j g:Nat} (hj:h.at j = .tok) (hg:c.wm j=some g) {cur:Array Value} {e:TypeId} {fz RL:Nat×Nat} (h1:w.heap[g]? = some (.cells cur e fz))
  (hos:w'.os=w.os) (htape:w'.tape=w.tape) (hout:w'.output=w.output) (hsize:w'.heap.size=w.heap.size) (VF:∀k,k≠g→w'.heap[k]? = w.heap[k]?) (h2:w'.heap[g]? = some (.cells cur e RL))
  (hfz:(fz.1=fz.2∨fz.2≤c.off j)→(RL.1=RL.2∨RL.2≤c.off j)) :
  WF w' h c∧Ext w h c w' h c:=by
 have hjl:=aM.gE hj (by simp)
 have l8:xf h c g (c.off j):=⟨j,c.off j,hg,by rw[hj]; rfl,Nat.le_refl _⟩
 have Di:∀b x,w'.cell? ⟨b,x,none⟩=w.cell? ⟨b,x,none⟩:=fun b x=>by
  by_cases hb:b=g
  ·subst hb; rw[cell_of_row w' b x cur e RL h2,cell_of_row w b x cur e fz h1]
  ·exact wz (VF b hb)
 have x:Ext w h c w' h c := {
  os:=hos
  tape:=htape
  output:=hout
  size:=by omega
  used:=(Ext.refl w h c).used
  same:=(Ext.refl w h c).same
  cell:=fun b x _ _=>Di b x
  block:=fun b _ ho=>VF b (by rintro rfl; exact ho _ l8)
  Bl:=(Ext.refl w h c).Bl
  ext:=rfl
  arr:=fun b arr el fz0 hb=>by
   by_cases hbg:b=g
   ·subst hbg; rw[h1]at hb; cases hb; exact ⟨cur,RL,h2,rfl⟩
   ·exact ⟨arr,fz0,by rw[VF b hbg]; exact hb,rfl⟩ }
 refine ⟨?_,x⟩
 exact {
  lay:=wf.vL x
  C4:=wf.C4
  rF:=fun b y he=>by rw[hsize]; exact wf.rF b y he
  obj:=fun i hi=>by
   by_cases AP:i=j
   ·subst AP
    have:=wf.obj i hi
    rw[hj]at this ⊢
    rcases this with h0|⟨b',Pc,e',fz0,p1,p2,p3,p4⟩
    ·rw[hg]at h0; cases h0
    ·rw[hg]at p1; cases p1
     rw[h1]at p2; cases p2
     exact .inr ⟨g,cur,e,RL,hg,h2,p3,hfz p4⟩
   ·by_cases hl:(h.at i).live
    ·refine (wf.obj i hi).wg x (fun b hb=>VF b ?_) rfl rfl
     rintro rfl
     exact AP (wf.inj i j b hl (by rw[hj]; trivial) hb hg)
    ·have h0:h.at i = .free∨h.at i = .dead:=by revert hl; cases h.at i <;> simp[ck.live]
     rcases h0 with h0|h0 <;> rw[h0] <;> trivial
  inj:=wf.inj }
theorem freeze_facts {q n:Nat} {cur:Array Value} {e:TypeId} {fz:Nat×Nat} (hn:n≠0) (hq:w.heap[q]? = some (.cells cur e fz)) :
  (w.drew.freeze ⟨q,0,none⟩ n).os=w.os∧(w.drew.freeze ⟨q,0,none⟩ n).tape=w.tape∧(w.drew.freeze ⟨q,0,none⟩ n).output=w.output∧(w.drew.freeze ⟨q,0,none⟩ n).heap.size=w.heap.size ∧
   (∀k,k≠q→(w.drew.freeze ⟨q,0,none⟩ n).heap[k]? = w.heap[k]?)∧∃RL,(w.drew.freeze ⟨q,0,none⟩ n).heap[q]? = some (.cells cur e RL)∧∀o,n≤o→(fz.1=fz.2∨fz.2≤o)→(RL.1=RL.2∨RL.2≤o):=by
 obtain ⟨lo,hi⟩:=fz
 unfold World.freeze
 rw[if_neg hn]
 refine ⟨rfl,rfl,rfl,Array.size_modify,fun k hk => ?_,(if lo==hi then (0,0+n)else (min lo 0,max hi (0+n))),?_,fun o ho hf => ?_⟩
 ·simp only[Array.getElem?_modify]
  rw[if_neg (Ne.symm hk)]
  rfl
 ·simp only[Array.getElem?_modify,if_true]
  rw[show w.drew.heap[q]? = some (.cells cur e (lo,hi))from hq]
  rfl
 ·simp only at hf
  split
  ·exact .inr (by simp; omega)
  ·rename_i jE
   have:lo≠hi:=by simpa using jE
   exact .inr (by simp; omega)
theorem u8_of {n:Int} (hn:IntKind.u8.has n):((UInt8.ofNat n.toNat).toNat:Int)=n:=by
 have:0≤n∧n≤255:=by simpa [IntKind.has,IntKind.min,IntKind.max,IntKind.signed,IntKind.bits]using hn
 simp only[UInt8.toNat_ofNat']
 omega
structure Zr (P:Program) (g:Nat):Prop where
 nil:∀(b:Nat) (p:Value) (w:World),w.heap[b]? = some (.cells #[p, .slice none 0 0] pf.mE (0,0)) →
  Calls P g #[.pointer (some ⟨b,0,none⟩)] w fun e w'=>e = .returned (.string ⟨#[]⟩)∧Below w.heap.size w w'
 noroom:∀(b q:Nat) (p:Value) (cur:Array Value) (fz:Nat×Nat) (w:World),w.heap[b]? = some (.cells #[p, .slice (some ⟨q,0,none⟩) 0 0] pf.mE (0,0))→w.heap[q]? = some (.cells cur pf.u8 fz) →
  Calls P g #[.pointer (some ⟨b,0,none⟩)] w fun e w'=>e = .returned (.string ⟨#[]⟩)∧Below w.heap.size w w'
 room:∀(b q cap:Nat) (p:Value) (w:World),cap≠0→w.heap[b]? = some (.cells #[p, .slice (some ⟨q,0,none⟩) 0 cap] pf.mE (0,0)) →
  Calls P g #[.pointer (some ⟨b,0,none⟩)] w fun e w'=>e = .returned (.string ⟨#[]⟩)∧Below w.heap.size w w'
 some:∀(b q cap:Nat) (p:Value) (cur:Array Value) (fz:Nat×Nat) (l:List UInt8) (w:World),l ≠ []→w.heap[b]? = some (.cells #[p, .slice (some ⟨q,0,none⟩) l.length cap] pf.mE (0,0)) →
  w.heap[q]? = some (.cells cur pf.u8 fz)→l.length≤cap→cap≤mx→l.length≤cur.size→(∀(j:Nat) (x:UInt8),l[j]? = some x→w.cell? ⟨q,j,none⟩=some (.int .u8 x.toNat)) →
  Calls P g #[.pointer (some ⟨b,0,none⟩)] w fun e w'=>e = .returned (.string ⟨l.toArray⟩)∧w'=w.drew.freeze ⟨q,0,none⟩ l.length
theorem bstr_ok {g:Nat} {fn:Func} (hf:P.funcs[g]? = some fn) (hn:(fn.name == "runtime.NumGoroutine")=false) (hb:fn.body.isNone=false) (D:Zr P g):Spec.Ok P g (MB R):=by
 intro vs h k r hk w c args wf ra
 unfold MB at hk
 split at hk <;> try (first|cases hk)
 rename_i i
 obtain ⟨a',rfl,r1⟩:=repL1 ra
 have empty:∀ {w':World} {h':aM} {c':jP},dC w' h' c' (.str []) (.string ⟨#[]⟩):=fun {w' h' c'}=>GL ⟨#[]⟩ rfl (Nat.zero_le _)
 split at hk <;> try (first|cases hk)
 ·rename_i hv
  obtain ⟨b,p,d,rfl,g1,g2,g3,g4⟩:=VR wf r1 hv
  cases g4
  refine wA hf hn hb (Calls.mono (D.nil b p w g2) ?_)
  rintro e w' ⟨he,hbl⟩
  exact ⟨_,he,_,h,c,Pq wf hbl,D8 hbl,empty,hk⟩
 ·rename_i l j hv
  split at hk <;> try (first|cases hk)
  rename_i hj
  obtain ⟨b,p,d,rfl,g1,g2,g3,g4⟩:=VR wf r1 hv
  have hi:=aM.gE hv (by simp)
  have AP:j≠i:=by rintro rfl; rw[hj]at hv; cases hv
  have hu8:∀x∈(l:List Int),IntKind.u8.has x:=by
   intro x hx
   cases g4 with
   | sl f lk wo hc hr DW l8 =>
    obtain ⟨m,hm⟩:=List.mem_iff_getElem?.1 hx
    exact (hr m 0 x (.int .u8 x) hm rfl).fg.2
  have hlen:(wh l).length=List.length (α:=Int) l:=bstr_len l
  cases g4 with
  | @sl _ _ _ A cap f lk wo hc hr DW l8 =>
   obtain ⟨_,ho⟩:=l8 j rfl
   have hcap':List.length (α:=Int) l≤cap:=lk
   have TX:∀(w':World) (h':aM) (c':jP),dC w' h' c' (.str (wh l)) (.string ⟨(wh l).toArray⟩):=fun w' h' c'=>GL _ rfl (by rw[hlen]; exact Nat.le_trans lk wo)
   rcases ho hj with ⟨e1,rfl,rfl⟩|⟨q,o,cur,e,fz,e1,rfl,e3,e4,e5,e6⟩
   ·have WB:l = []:=List.eq_nil_of_length_eq_zero (Nat.le_zero.1 lk)
    subst WB
    refine wA hf hn hb (Calls.mono (D.nil b p w g2) ?_)
    rintro e w' ⟨he,hbl⟩
    exact ⟨_,he,_,h,c,Pq wf hbl,D8 hbl,TX _ _ _,hk⟩
   ·obtain ⟨rfl,rfl⟩:=e6 rfl
    by_cases WB:l = []
    ·subst WB
     by_cases Se:cap=0
     ·subst Se
      refine wA hf hn hb (Calls.mono (D.noroom b q p cur fz w g2 e4) ?_)
      rintro e w' ⟨he,hbl⟩
      exact ⟨_,he,_,h,c,Pq wf hbl,D8 hbl,TX _ _ _,hk⟩
     ·refine wA hf hn hb (Calls.mono (D.room b q cap p w Se g2) ?_)
      rintro e w' ⟨he,hbl⟩
      exact ⟨_,he,_,h,c,Pq wf hbl,D8 hbl,TX _ _ _,hk⟩
    ·have hbl:wh l ≠ []:=fun e=>WB (List.eq_nil_of_length_eq_zero (hlen.symm.trans (by rw[e]; rfl)))
     have e5':0+cap*1≤cur.size:=e5
     have JY:∀(m:Nat) (x:UInt8),(wh l)[m]? = some x→w.cell? ⟨q,m,none⟩=some (.int .u8 x.toNat):=by
      intro m x hx
      obtain ⟨n,hm,rfl⟩:=bstr_get l m x hx
      have hml:m<List.length (α:=Int) l:=(List.getElem?_eq_some_iff.1 hm).1
      obtain ⟨b',o',hA,Di,_⟩:=hc m 0 hml (by simp[Ty.sz])
      cases hA
      have hrn:=hr m 0 n (.int .u8 n) hm rfl
      rw[hrn.fg.1]at Di
      rw[u8_of hrn.fg.2]
      simpa [Ty.sz]using Di
     have g2':w.heap[b]? = some (.cells #[p, .slice (some ⟨q,0,none⟩) (wh l).length cap] pf.mE (0,0)):=by rw[hlen]; exact g2
     refine wA hf hn hb (Calls.mono (D.some b q cap p cur fz (wh l) w hbl g2' e4 (by rw[hlen]; exact lk) wo (by rw[hlen]; omega) JY) ?_)
     rintro e w' ⟨he,rfl⟩
     have hne0:(wh l).length≠0:=by simpa using hbl
     obtain ⟨f1,f2,f3,f4,f5,RL,f6,f7⟩:=freeze_facts hne0 e4
     obtain ⟨q1,q2⟩:=freeze_wf wf hj e1 e4 f1 f2 f3 f4 f5 f6 (f7 _ (by rw[e3,hlen]; simp[Ty.sz]; exact Nat.le_refl _))
     exact ⟨_,he,_,h,c,q1,q2,TX _ _ _,hk⟩
end
def wB (s:ag):Bool:=s.all fun b=>decide (b.toNat<128)
def fE (s:ag):Bool:=Go.Lib.validD s
def o4 (s:ag):Nat×Nat:=if s.isEmpty then (65533,0)else Utf8.decode ⟨s.toArray⟩ 0
def cz (n:Int):ag:=Go.Lib.itoa n
def lh (s:ag) (n:Int):ag:=Go.Lib.repeatL s n.toNat
def bx (s cs:ag):ag:=s.dropWhile (cs.contains ·)
def cL (s cs:ag):ag:=(s.reverse.dropWhile (cs.contains ·)).reverse
def wC (s:ag):Bool:=match Go.Lib.atoiAll s with | .ok _=>true|_=>false
def eG (s:ag):Int:=match Go.Lib.atoiAll s with | .ok v=>v | .range=>Go.Lib.atoiSat s|_=>0
def Zs (s cs:ag):Bool:=Go.Lib.containsAny s cs
def EV (s:ag) (c:UInt8):Int:=Go.Lib.lastIndexByte ⟨s.toArray⟩ (c.toNat:Int)
def EC (s:ag) (c:Int):Int:=Go.Lib.indexByte s c.toNat.toUInt8
section
variable (R:Type)
def valid_S:Spec R:=fun vs h k=>match vs with | [.str s]=>k (.bool (fE s)) h|_=>none
def dec_S:Spec R:=fun vs h k=>match vs with | [.str s]=>k (.tuple [.int .i32 (o4 s).1, .int .i64 (o4 s).2]) h|_=>none
def itoa_S:Spec R:=fun vs h k=>match vs with | [.int .i64 n]=>k (.str (cz n)) h|_=>none
def rep_S:Spec R:=fun vs h k=>match vs with | [.str s, .int .i64 n]=>cx (decide (0≤n)&&decide ((s.length:Int)*n≤140737488355328)) (k (.str (lh s n)) h)|_=>none
def Rp:Spec R:=fun vs h k=>match vs with | [.str s, .str cs]=>cx (wB cs&&decide (cs.length<4294967281)) (k (.str (bx s cs)) h)|_=>none
def trimR_S:Spec R:=fun vs h k=>match vs with | [.str s, .str cs]=>cx (wB cs&&decide (cs.length<4294967281)) (k (.str (cL s cs)) h)|_=>none
def atoi_S:Spec R:=fun vs h k=>match vs with
 | [.str s]=>cx (decide (s.length≤281474976710656)) (bif wC s then k (.tuple [.int .i64 (eG s), .dJ]) h else k (.tuple [.int .i64 (eG s), .iface]) h)
 | _=>none
def toErr_S (T:Nat):Spec R:=fun vs h k=>match vs with
 | [.str _, .str s, .int .i64 _, .int .i64 _, .SQ t .i64 n]=>cx (Nat.beq t T&&(n==2||n==1)) (cx (decide (s.length≤281474976710656)) (k .iface h))
 | _=>none
def Zt:Spec R:=fun vs h k=>match vs with
 | [.str s, .str cs]=>cx (wB s&&wB cs&&decide (s.length<4294967281)&&decide (cs.length<4294967281)) (k (.bool (Zs s cs)) h)
 | _=>none
def lastI_S:Spec R:=fun vs h k=>match vs with | [.str s, .str [c]]=>cx (decide (s.length≤281474976710656)) (k (.int .i64 (EV s c)) h)|_=>none
def idx_S:Spec R:=fun vs h k=>match vs with | [.str s, .int .u8 c]=>k (.int .i64 (EC s c)) h|_=>none
end
section
variable {P:Program} {w w':World} {h:aM} {c:jP} {R:Type}
open Go.Lib
theorem Yg {s:ag} (hs:wB s=true):∀(j:Nat) (b:UInt8),s[j]? = some b→b.toNat<128:=by
 intro j b hb
 have:=List.all_eq_true.1 hs b (List.mem_of_getElem? hb)
 simpa using this
theorem BF (p:UInt8→Bool):∀s:ag,(s.dropWhile p).length≤s.length
 | []=>Nat.le_refl _
 | b::s=>by
  rw[List.dropWhile_cons]
  split
  ·have:=BF p s; simp; omega
  ·exact Nat.le_refl _
theorem str_of (l:ag) (h':l.length≤mx):dC w h c (.str l) (.string ⟨l.toArray⟩):=GL _ rfl h'
theorem lI {g:Nat} {args:Array Value} {Q:Ending→World→Prop} {v:V} (hc:Calls P g args w Q)
  (hq:∀e w',Q e w'→∃d,e = .returned d∧Below w.heap.size w w'∧dC w' h c v d):Calls P g args w fun e w'=>∃d,e = .returned d∧Below w.heap.size w w'∧dC w' h c v d:=Calls.mono hc fun e w' q=>hq e w' q
end
end Go.aq
set_option maxRecDepth 100000
namespace Go.Proofs.YtidfokedcnhahaaGreatDoor
open Go Go.aq Go.RowKit Go.Shelf
section
variable {w w':World} {h:aM} {c:jP} {R:Type}
theorem below_drewN:∀(q:Nat) (a:World),Below w.heap.size w a→Below w.heap.size w (a.drewN q)
 | 0,_,ha=>ha
 | q+1,a,ha=>(below_drewN q a ha).drew
theorem below_push (a:World) (os:Array Obj) (ha:Below w.heap.size w a):Below w.heap.size w { a with heap:=a.heap++os } :=
 ⟨ha.os,ha.tape,ha.output,by simp; have:=ha.size; omega,fun k hk=>by
  have:=ha.size
  rw[←ha.block k hk]
  exact Array.getElem?_append_left (by omega)⟩
theorem below_bytes (e:TypeId) (t:ByteArray):Below w.heap.size w (Go.Lib.bytesWorld w e t):=by
 unfold Go.Lib.bytesWorld World.freeze
 have hb:Below w.heap.size w (w.drew.alloc (.cells (Go.Lib.bytesCells w e t) e)):=D0 w _
 split
 ·exact hb
 ·refine ⟨hb.os,hb.tape,hb.output,?_,fun k hk => ?_⟩
  ·have:=hb.size; simpa using this
  ·rw[←hb.block k hk]
   simp only[Array.getElem?_modify]
   rw[if_neg (by show ¬w.heap.size=k; omega)]
theorem trimL_le (s cs:ag):(bx s cs).length≤s.length:=BF _ s
theorem trimR_le (s cs:ag):(cL s cs).length≤s.length:=by
 unfold cL
 rw[List.length_reverse]
 exact Nat.le_trans (BF _ _) (by simp)
theorem trimL_nil (s:ag):bx s []=s:=by
 unfold bx
 cases s with
 | nil=>rfl
 | cons b s=>simp
theorem trimR_nil (s:ag):cL s []=s:=by
 unfold cL
 have:(s.reverse.dropWhile fun x=>List.contains [] x)=s.reverse:=by
  cases s.reverse with
  | nil=>rfl
  | cons b s=>simp
 rw[this,List.reverse_reverse]
theorem trimL_one (s:ag) (b:UInt8):bx s [b]=Go.Lib.trimLeftB s b:=by
 unfold bx Go.Lib.trimLeftB
 congr 1
 funext x
 rw[List.contains_cons]
 show (x==b||false)=_
 rw[Bool.or_false]
theorem trimR_one (s:ag) (b:UInt8):cL s [b]=Go.Lib.trimRightB s b:=by
 unfold cL Go.Lib.trimRightB
 congr 2
 funext x
 rw[List.contains_cons]
 show (x==b||false)=_
 rw[Bool.or_false]
theorem valid_ok:aq.Spec.Ok Tryz.prog 200 (valid_S R):=by
 refine oF Tryz.func200 rfl rfl fun vs hp k r hk w c args wf ra => ?_
 unfold valid_S at hk
 split at hk <;> try (first|cases hk)
 rename_i s
 obtain ⟨a,rfl,r1⟩:=repL1 ra
 obtain ⟨t,rfl,rfl,hl⟩:=r1.gK
 refine ⟨_,hk,lI (Any.utf8_ValidString Tryz.lay196 t w hl wf.lay.1.1) ?_⟩
 rintro e w' ⟨he,hb⟩
 exact ⟨_,he,hb, .bool _⟩
theorem dec_ok:aq.Spec.Ok Tryz.prog 184 (dec_S R):=by
 refine oF Tryz.func184 rfl rfl fun vs hp k r hk w c args wf ra => ?_
 unfold dec_S at hk
 split at hk <;> try (first|cases hk)
 rename_i s
 obtain ⟨a,rfl,r1⟩:=repL1 ra
 obtain ⟨t,rfl,rfl,hl⟩:=r1.gK
 have hd:Go.Lib.decodeGo t=o4 t.data.toList:=by
  unfold Go.Lib.decodeGo o4
  by_cases h0:t.size=0
  ·have:t.data.toList = []:=List.eq_nil_of_length_eq_zero (by rw[size_data]; exact h0)
   simp[h0,this]
  ·have:t.data.toList ≠ []:=fun e=>h0 (by rw[←size_data,e]; rfl)
   have hm:(⟨t.data.toList.toArray⟩:ByteArray)=t:=tu rfl
   simp[h0,hm]
   exact fun e=>absurd (show t.data.size=0 by rw[e]; rfl) h0
 have jD:(o4 t.data.toList).1<2097152∧(o4 t.data.toList).2≤4:=by
  unfold o4
  split
  ·exact ⟨by omega,by omega⟩
  ·exact ⟨(VG _ _).1,(VG _ _).2.2⟩
 refine ⟨_,hk,lI (Any.utf8_DecodeRuneInString Tryz.lay197 t w wf.lay.1.1) ?_⟩
 rintro e w' ⟨he,hb⟩
 rw[hd]at he
 refine ⟨_,he,hb, .tuple rfl fun j v d hv hd => ?_⟩
 match j,hv,hd with
 | 0,hv,hd=>simp at hv hd; subst hv; subst hd; exact .int (has_rune _ jD.1)
 | 1,hv,hd=>simp at hv hd; subst hv; subst hd; exact .int (Mk _ (by unfold mx; omega))
 | j+2,hv,_=>simp at hv
theorem itoa_ok:aq.Spec.Ok Tryz.prog 172 (itoa_S R):=by
 refine oF Tryz.func172 rfl rfl fun vs hp k r hk w c args wf ra => ?_
 unfold itoa_S at hk
 split at hk <;> try (first|cases hk)
 rename_i n
 obtain ⟨a,rfl,r1⟩:=repL1 ra
 obtain ⟨rfl,hn⟩:=r1.fg
 have hn' : -9223372036854775808≤n∧n≤9223372036854775807:=by simpa [IntKind.has,IntKind.min,IntKind.max,IntKind.signed,IntKind.bits]using hn
 refine ⟨_,hk,lI (Any.strconv_Itoa Tryz.lay171 n hn'.1 hn'.2 w wf.lay.1.2.1) ?_⟩
 rintro e w' ⟨he,q,os,rfl⟩
 refine ⟨_,he,below_push _ os (below_drewN q w (Below.refl _ _)),str_of _ ?_⟩
 have:=Go.Lib.itoa_length_le n hn'.1 hn'.2
 unfold cz mx
 omega
theorem x72:Builder.X72 Tryz.prog Tryz.MA := { sizeBuilder:=by kernel_rfl,liesBuilder:=by kernel_rfl }
theorem xBuilder:Builder.Extra Tryz.prog Tryz.MA := { x72 with t5:=Tryz.underlying5,a5:=Tryz.isAgg5,z5:=Tryz.sizeOf5,v5:=Tryz.zeroValue5,infoByte:=by kernel_rfl,cellsByte:=by kernel_rfl,sizeByte:=by kernel_rfl,neB5:=by decide }
theorem rep_ok:aq.Spec.Ok Tryz.prog 173 (rep_S R):=by
 refine oF Tryz.func173 rfl rfl fun vs hp k r hk w c args wf ra => ?_
 unfold rep_S at hk
 split at hk <;> try (first|cases hk)
 rename_i s n
 obtain ⟨hc,hk⟩:=cw hk
 simp only[Bool.and_eq_true,decide_eq_true_eq]at hc
 obtain ⟨h0,hlen⟩:=hc
 obtain ⟨a,b,rfl,r1,r2⟩:=repL2 ra
 obtain ⟨t,rfl,rfl,hl⟩:=r1.gK
 obtain ⟨rfl,hn⟩:=r2.fg
 obtain ⟨m,rfl⟩:=Int.eq_ofNat_of_zero_le h0
 have hn':(m:Int)≤9223372036854775807:=by
  have:IntKind.i64.has (m:Int):=hn
  simp[IntKind.has,IntKind.min,IntKind.max,IntKind.signed,IntKind.bits]at this
  omega
 rw[size_data]at hlen
 have hlen':t.size*m≤140737488355328:=by omega
 have hrl:(Go.Lib.repeatL t.data.toList m).length≤140737488355328:=by
  rw[Go.Lib.repeatL_length,size_data,Nat.mul_comm]; exact hlen'
 refine ⟨_,hk,lI (Any.strings_Repeat Tryz.lay105 xBuilder t m w (by omega) hlen') ?_⟩
 rintro e w' ⟨he,hb⟩
 refine ⟨_,he,hb,?_⟩
 have e2:lh t.data.toList (m:Int)=Go.Lib.repeatL t.data.toList m:=by unfold lh; simp
 rw[e2]
 exact str_of _ (by unfold mx; omega)
theorem Um:aq.Spec.Ok Tryz.prog 105 (Rp R):=by
 refine oF Tryz.func105 rfl rfl fun vs hp k r hk w c args wf ra => ?_
 unfold Rp at hk
 split at hk <;> try (first|cases hk)
 rename_i s cs
 obtain ⟨hc,hk⟩:=cw hk
 simp only[Bool.and_eq_true,decide_eq_true_eq]at hc
 obtain ⟨ha,O6⟩:=hc
 obtain ⟨a,b,rfl,r1,r2⟩:=repL2 ra
 obtain ⟨t,rfl,rfl,hl⟩:=r1.gK
 obtain ⟨u,rfl,rfl,hl2⟩:=r2.gK
 rw[size_data]at O6
 have hasc:=Yg ha
 have hle:=trimL_le t.data.toList u.data.toList
 rw[size_data]at hle
 have fin:∀(l:ag),l=bx t.data.toList u.data.toList→∀w':World,dC w' hp c (.str (bx t.data.toList u.data.toList)) (.string ⟨l.toArray⟩):=fun l e w'=>by
  rw[e]; exact str_of _ (by omega)
 by_cases h0:t.size=0∨u.size=0
 ·refine ⟨_,hk,lI (Any.strings_TrimLeft_empty Tryz.lay161 t u w h0) ?_⟩
  rintro e w' ⟨he,rfl⟩
  have e2:(⟨t.data.toList.toArray⟩:ByteArray)=t:=tu rfl
  rw[←e2]at he
  refine ⟨_,he,Below.refl _ _,fin _ ?_ _⟩
  rcases h0 with h0|h0
  ·have:t.data.toList = []:=List.eq_nil_of_length_eq_zero (by rw[size_data]; exact h0)
   rw[this]; unfold bx; simp
  ·have:u.data.toList = []:=List.eq_nil_of_length_eq_zero (by rw[size_data]; exact h0)
   rw[this,trimL_nil]
 ·have hu1:u.size=1∨2≤u.size:=by omega
  rcases hu1 with hu1|hu2
  ·obtain ⟨b,hb⟩:∃b,u.data.toList = [b]:=by
    have hul:u.data.toList.length=1:=by rw[size_data]; exact hu1
    match hq:u.data.toList,hul with
    | [b],_=>exact ⟨b,rfl⟩
   have eu:u=⟨#[b]⟩:=tu (by rw[hb])
   subst eu
   refine ⟨_,hk,lI (Any.strings_TrimLeft_one Tryz.lay161 t b (hasc 0 b rfl) w) ?_⟩
   rintro e w' ⟨he,rfl⟩
   exact ⟨_,he,Below.refl _ _,fin _ (trimL_one _ _).symm _⟩
  ·refine ⟨_,hk,lI (Any.strings_TrimLeft_set Tryz.lay161 Tryz.zeroValue178 (by kernel_rfl) t u w hu2 (by omega) (by omega) hasc) ?_⟩
   rintro e w' ⟨he,rfl⟩
   refine ⟨_,he,?_,fin _ rfl _⟩
   exact ((Below.refl _ _).alloc (Nat.le_refl _) _).alloc (by simp) _
theorem trimR_ok:aq.Spec.Ok Tryz.prog 193 (trimR_S R):=by
 refine oF Tryz.func193 rfl rfl fun vs hp k r hk w c args wf ra => ?_
 unfold trimR_S at hk
 split at hk <;> try (first|cases hk)
 rename_i s cs
 obtain ⟨hc,hk⟩:=cw hk
 simp only[Bool.and_eq_true,decide_eq_true_eq]at hc
 obtain ⟨ha,O6⟩:=hc
 obtain ⟨a,b,rfl,r1,r2⟩:=repL2 ra
 obtain ⟨t,rfl,rfl,hl⟩:=r1.gK
 obtain ⟨u,rfl,rfl,hl2⟩:=r2.gK
 rw[size_data]at O6
 have hasc:=Yg ha
 have hle:=trimR_le t.data.toList u.data.toList
 rw[size_data]at hle
 have fin:∀(l:ag),l=cL t.data.toList u.data.toList→∀w':World,dC w' hp c (.str (cL t.data.toList u.data.toList)) (.string ⟨l.toArray⟩):=fun l e w'=>by
  rw[e]; exact str_of _ (by omega)
 by_cases h0:t.size=0∨u.size=0
 ·refine ⟨_,hk,lI (Any.strings_TrimRight_empty Tryz.lay162 t u w h0) ?_⟩
  rintro e w' ⟨he,rfl⟩
  have e2:(⟨t.data.toList.toArray⟩:ByteArray)=t:=tu rfl
  rw[←e2]at he
  refine ⟨_,he,Below.refl _ _,fin _ ?_ _⟩
  rcases h0 with h0|h0
  ·have:t.data.toList = []:=List.eq_nil_of_length_eq_zero (by rw[size_data]; exact h0)
   rw[this]; unfold cL; simp
  ·have:u.data.toList = []:=List.eq_nil_of_length_eq_zero (by rw[size_data]; exact h0)
   rw[this,trimR_nil]
 ·have hu1:u.size=1∨2≤u.size:=by omega
  rcases hu1 with hu1|hu2
  ·obtain ⟨b,hb⟩:∃b,u.data.toList = [b]:=by
    have hul:u.data.toList.length=1:=by rw[size_data]; exact hu1
    match hq:u.data.toList,hul with
    | [b],_=>exact ⟨b,rfl⟩
   have eu:u=⟨#[b]⟩:=tu (by rw[hb])
   subst eu
   refine ⟨_,hk,lI (Any.strings_TrimRight_one Tryz.lay162 t b (hasc 0 b rfl) w hl) ?_⟩
   rintro e w' ⟨he,rfl⟩
   exact ⟨_,he,Below.refl _ _,fin _ (trimR_one _ _).symm _⟩
  ·refine ⟨_,hk,lI (Any.strings_TrimRight_set Tryz.lay162 Tryz.zeroValue178 (by kernel_rfl) t u w hu2 (by omega) hl (by omega) hasc) ?_⟩
   rintro e w' ⟨he,rfl⟩
   refine ⟨_,he,?_,fin _ rfl _⟩
   exact ((Below.refl _ _).alloc (Nat.le_refl _) _).alloc (by simp) _
theorem atoi_ok:aq.Spec.Ok Tryz.prog 194 (atoi_S R):=by
 refine oF Tryz.func194 rfl rfl fun vs hp k r hk w c args wf ra => ?_
 unfold atoi_S at hk
 split at hk <;> try (first|cases hk)
 rename_i s
 obtain ⟨hc,hk⟩:=cw hk
 simp only[decide_eq_true_eq]at hc
 obtain ⟨a,rfl,r1⟩:=repL1 ra
 obtain ⟨t,rfl,rfl,hl⟩:=r1.gK
 rw[size_data]at hc
 obtain ⟨_,_,⟨t1,x1,hv1⟩,⟨t2,x2,hv2⟩⟩:=wf.lay.1
 have lM:IntKind.i64.has (eG t.data.toList):=by
  unfold eG
  split
  ·rename_i v hv
   unfold Go.Lib.atoiAll at hv
   split at hv
   ·cases hv
   ·dsimp only at hv
    split at hv
    ·cases hv
    ·cases hv
    ·rename_i u _
     split at hv
     ·cases hv
     ·split at hv
      ·cases hv
      ·cases hv
       split <;> simp[IntKind.has,IntKind.min,IntKind.max,IntKind.signed,IntKind.bits] <;> omega
  ·unfold Go.Lib.atoiSat
   split <;> simp[IntKind.has,IntKind.min,IntKind.max,IntKind.signed,IntKind.bits]
  ·simp[IntKind.has,IntKind.min,IntKind.max,IntKind.signed,IntKind.bits]
 have two:∀(z:Int) (u:V) (w':World) (x:Value),eG t.data.toList=z→dC w' hp c u x→dC w' hp c (.tuple [.int .i64 (eG t.data.toList),u]) (.tuple #[.int .i64 z,x]):=fun z u w' x hz hx=>by
  subst hz
  refine .tuple rfl fun j v d hv hd => ?_
  match j,hv,hd with
  | 0,hv,hd=>simp at hv hd; subst hv; subst hd; exact .int lM
  | 1,hv,hd=>simp at hv hd; subst hv; subst hd; exact hx
  | j+2,hv,_=>simp at hv
 rcases hA:Go.Lib.atoiAll t.data.toList with v|_|_
 ·
  have e1:wC t.data.toList=true:=by unfold wC; rw[hA]
  have e2:eG t.data.toList=v:=by unfold eG; rw[hA]
  rw[e1]at hk
  refine ⟨_,hk,lI (Any.strconv_Atoi_ok Tryz.lay172 t (by omega) v hA w) ?_⟩
  rintro e w' ⟨he,hb⟩
  refine ⟨_,he,?_,two _ _ _ _ e2 .dJ⟩
  rcases hb with rfl|⟨q,rfl⟩
  ·exact Below.refl _ _
  ·exact below_bytes _ _
 ·
  have e1:wC t.data.toList=false:=by unfold wC; rw[hA]
  have e2:eG t.data.toList=0:=by unfold eG; rw[hA]
  rw[e1]at hk
  refine ⟨_,hk,lI (Any.strconv_Atoi_syntax Tryz.lay172 t hc hA (.iface t1 x1) w hv1 (.inr ⟨_,_,rfl⟩)) ?_⟩
  rintro e w' ⟨q,he,_,_,hb⟩
  exact ⟨_,he,hb,two _ _ _ _ e2 (.iface _ _)⟩
 ·
  have e1:wC t.data.toList=false:=by unfold wC; rw[hA]
  have e2:eG t.data.toList=Go.Lib.atoiSat t.data.toList:=by unfold eG; rw[hA]
  rw[e1]at hk
  refine ⟨_,hk,lI (Any.strconv_Atoi_range Tryz.lay172 t hc hA (.iface t2 x2) w hv2 (.inr ⟨_,_,rfl⟩)) ?_⟩
  rintro e w' ⟨q,he,_,_,hb⟩
  exact ⟨_,he,hb,two _ _ _ _ e2 (.iface _ _)⟩
theorem toErr_ok:aq.Spec.Ok Tryz.prog 219 (toErr_S R 250):=by
 refine oF Tryz.func219 rfl rfl fun vs hp k r hk w c args wf ra => ?_
 unfold toErr_S at hk
 split at hk <;> try (first|cases hk)
 rename_i fn s b1 b2 t n
 obtain ⟨hc,hk1⟩:=cw hk
 obtain ⟨WB,Re⟩:=cw hk1
 simp only[Bool.and_eq_true,Bool.or_eq_true,beq_iff_eq,decide_eq_true_eq]at hc WB
 obtain ⟨ht,hn⟩:=hc
 have ht:=Nat.eq_of_beq_eq_true ht
 subst ht
 obtain ⟨l⟩:=args
 match l,ra with
 | [a1,a2,a3,a4,a5],ra =>
  obtain ⟨t1,rfl,rfl,_⟩:=ra.head.gK
  obtain ⟨t2,rfl,rfl,hl2⟩:=ra.tail.head.gK
  obtain ⟨rfl,_⟩:=ra.tail.tail.head.fg
  obtain ⟨rfl,_⟩:=ra.tail.tail.tail.head.fg
  obtain ⟨rfl,_⟩:=ra.tail.tail.tail.tail.head.ifi_inv
  rw[size_data]at WB
  obtain ⟨_,_,⟨p1,x1,hv1⟩,⟨p2,x2,hv2⟩⟩:=wf.lay.1
  rcases hn with rfl|rfl
  ·refine ⟨_,Re,lI (Any.strconv_toError_syntax Tryz.lay245 t1 t2 b1 b2 (.iface p1 x1) w WB hv1 (.inr ⟨_,_,rfl⟩)) ?_⟩
   rintro e w' ⟨q,he,_,_,hb⟩
   exact ⟨_,he,hb, .iface _ _⟩
  ·refine ⟨_,Re,lI (Any.strconv_toError_range Tryz.lay245 t1 t2 b1 b2 (.iface p2 x2) w WB hv2 (.inr ⟨_,_,rfl⟩)) ?_⟩
   rintro e w' ⟨q,he,_,_,hb⟩
   exact ⟨_,he,hb, .iface _ _⟩
 | [],ra=>have:=ra.1; simp at this
 | [_],ra=>have:=ra.1; simp at this
 | [_,_],ra=>have:=ra.1; simp at this
 | [_,_,_],ra=>have:=ra.1; simp at this
 | [_,_,_,_],ra=>have:=ra.1; simp at this
 | _::_::_::_::_::_::_,ra=>have:=ra.1; simp at this
theorem hasAny_ok:aq.Spec.Ok Tryz.prog 253 (Zt R):=by
 refine oF Tryz.func253 rfl rfl fun vs hp k r hk w c args wf ra => ?_
 unfold Zt at hk
 split at hk <;> try (first|cases hk)
 rename_i s cs
 obtain ⟨hc,hk⟩:=cw hk
 simp only[Bool.and_eq_true,decide_eq_true_eq]at hc
 obtain ⟨⟨⟨ha,hb⟩,hsl⟩,O6⟩:=hc
 obtain ⟨a,b,rfl,r1,r2⟩:=repL2 ra
 obtain ⟨t,rfl,rfl,hl⟩:=r1.gK
 obtain ⟨u,rfl,rfl,hl2⟩:=r2.gK
 rw[size_data]at hsl O6
 refine ⟨_,hk,lI (Any.strings_ContainsAny_laid Tryz.lay150 (by kernel_rfl) t u w hsl O6 (Yg ha) (Yg hb)) ?_⟩
 rintro e w' ⟨he,hb⟩
 exact ⟨_,he,hb, .bool _⟩
theorem idx_ok:aq.Spec.Ok Tryz.prog 159 (idx_S R):=by
 refine oF Tryz.func159 rfl rfl fun vs hp k r hk w c args wf ra => ?_
 unfold idx_S at hk
 split at hk <;> try (first|cases hk)
 rename_i s ch
 obtain ⟨a,b,rfl,r1,r2⟩:=repL2 ra
 obtain ⟨t,rfl,rfl,hl⟩:=r1.gK
 obtain ⟨rfl,hn⟩:=r2.fg
 have hb:IntKind.i64.has (Go.Lib.indexByte t.data.toList ch.toNat.toUInt8):=by
  have h1:=Go.Lib.indexByte_ge t.data.toList ch.toNat.toUInt8
  have h2:Go.Lib.indexByte t.data.toList ch.toNat.toUInt8≤t.data.toList.length:=by
   generalize t.data.toList=l
   induction l with
   | nil=>simp[Go.Lib.indexByte]
   | cons x l ih =>
    have:=Go.Lib.indexByte_ge l ch.toNat.toUInt8
    unfold Go.Lib.indexByte
    split
    ·simp; omega
    ·split
     ·simp; omega
     ·simp; omega
  rw[size_data]at h2
  unfold mx at hl
  generalize Go.Lib.indexByte t.data.toList ch.toNat.toUInt8=z at h1 h2
  simp[IntKind.has,IntKind.min,IntKind.max,IntKind.signed,IntKind.bits]; omega
 refine ⟨_,hk,lI (Any.strings_IndexByte Tryz.lay137 t ch w) ?_⟩
 rintro e w' ⟨he,rfl⟩
 exact ⟨_,he,Below.refl _ _, .int hb⟩
theorem lastI_ok:aq.Spec.Ok Tryz.prog 78 (lastI_S R):=by
 refine oF Tryz.func78 rfl rfl fun vs hp k r hk w c args wf ra => ?_
 unfold lastI_S at hk
 split at hk <;> try (first|cases hk)
 rename_i s ch
 obtain ⟨a,b,rfl,r1,r2⟩:=repL2 ra
 obtain ⟨t,rfl,rfl,hl⟩:=r1.gK
 obtain ⟨u,rfl,hu,hl2⟩:=r2.gK
 obtain ⟨hb,hk⟩:=cw hk
 rw[decide_eq_true_eq,size_data]at hb
 have h1:u.size=1:=by rw[←size_data,hu]; rfl
 have hu0:u[0]'(by omega)=ch:=by
  have e:u.data = #[ch]:=by
   have:=congrArg List.toArray hu
   simpa using this
  show u.data[0]'_=ch
  simp[e]
 refine ⟨_,hk,lI (Any.strings_LastIndex_one Tryz.lay148 t u h1 (by omega) w) ?_⟩
 rintro e w' ⟨he,rfl⟩
 rw[hu0]at he
 have ht:(⟨t.data.toList.toArray⟩:ByteArray)=t:=tu rfl
 have hh:IntKind.i64.has (EV t.data.toList ch):=by
  unfold EV
  rw[ht]
  rcases Go.Lib.lastIndexByte_spec t (ch.toNat:Int)with ⟨e,_⟩|⟨i,hi,e,_⟩
  ·rw[e]; simp[IntKind.has,IntKind.min,IntKind.max,IntKind.signed,IntKind.bits]
  ·rw[e]; simp[IntKind.has,IntKind.min,IntKind.max,IntKind.signed,IntKind.bits]; omega
 have e2:EV t.data.toList ch=Go.Lib.lastIndexByte t (ch.toNat:Int):=by unfold EV; rw[ht]
 refine ⟨_,he,Below.refl _ _,?_⟩
 rw[←e2]
 exact .int hh
theorem bccL:Lays.n240 Tryz.prog Tryz.MA := { Tryz.lay105 with }
theorem Zu:aq.Spec.Ok Tryz.prog 171 (WO R) :=
 bcc_ok Tryz.func171 rfl rfl (fun b w h0 hs hf=>Any.Builder_copyCheck_fresh bccL x72 b w h0 hs hf) (fun b w h0=>Any.Builder_copyCheck_used bccL x72 b w h0)
theorem bstrL:Lays.n169 Tryz.prog Tryz.Tc:=Tryz.lay169
theorem Jp:Builder.Extra Tryz.prog Tryz.Tc := { sizeBuilder:=by kernel_rfl,liesBuilder:=by kernel_rfl,t5:=Tryz.underlying5,a5:=Tryz.isAgg5,z5:=Tryz.sizeOf5,v5:=Tryz.zeroValue5,infoByte:=by kernel_rfl,cellsByte:=by kernel_rfl,sizeByte:=by kernel_rfl,neB5:=by decide }
set_option maxHeartbeats 1000000 in
theorem string_some (b q cap:Nat) (p:Value) (cur:Array Value) (fz:Nat×Nat) (l:List UInt8) (w:World) (h0:l ≠ []) (hbk:w.heap[b]? = some (.cells #[p, .slice (some ⟨q,0,none⟩) l.length cap] pf.mE (0,0)))
  (hq:w.heap[q]? = some (.cells cur pf.u8 fz)) (hnc:l.length≤cap) (hcm:cap≤mx) (rG:l.length≤cur.size) (Di:∀(j:Nat) (x:UInt8),l[j]? = some x→w.cell? ⟨q,j,none⟩=some (.int .u8 x.toNat)) :
  Calls Tryz.prog 84 #[.pointer (some ⟨b,0,none⟩)] w fun e w'=>e = .returned (.string ⟨l.toArray⟩)∧w'=w.drew.freeze ⟨q,0,none⟩ l.length:=by
 have WB:l.length≠0:=by simpa using h0
 have L:=bstrL
 have X:=Jp
 have c1:w.drew.cell? ⟨b,1,none⟩=some (.slice (some ⟨q,0,none⟩) l.length cap):=by
  have h1:w.drew.heap[b]? = some (.cells #[p, .slice (some ⟨q,0,none⟩) l.length cap] pf.mE (0,0)):=hbk
  rw[Lib.cell_of_heap h1]; rfl
 have hSD:(Builtin.unsafeSliceData_ #[42] 164 #[.slice (some ⟨q,0,none⟩) l.length cap]).run Tryz.prog w.drew = .ok (.pointer (some ⟨q,0,none⟩)) w.drew :=
  Lib.run_unsafeSliceData_row _ _ _ _ _ _ (by omega)
 have hUS:(Builtin.unsafeString_ #[164,3] 9 #[.pointer (some ⟨q,0,none⟩), .int .i64 l.length]).run Tryz.prog w.drew = .ok (.string ⟨l.toArray⟩) (w.drew.freeze ⟨q,0,none⟩ l.length):=by
  refine Lib.run_unsafeString_row w.drew 164 3 9 5 L.t127 X.cellsByte q cur.size (by have hq':w.drew.heap[q]? = some (.cells cur 5 fz):=hq; simp[World.shape?,hq']) l h0 rG (by unfold mx at hcm; omega) ?_
  intro j x hx
  have:=Di j x hx
  rw[aq.tw,Nat.zero_add]
  exact this
 have mixed:=L.mixed
 have t72:=L.t72; have a72:=L.a72; have z72:=L.z72; have v72:=L.v72; have u72:=run_underlying L.t72
 have t70:=L.t70; have a70:=L.a70; have z70:=L.z70; have v70:=L.v70; have u70:=run_underlying L.t70
 have t37:=L.t37; have a37:=L.a37; have z37:=L.z37; have v37:=L.v37; have u37:=run_underlying L.t37
 have t127:=L.t127; have a127:=L.a127; have z127:=L.z127; have v127:=L.v127; have u127:=run_underlying L.t127
 have t3:=L.t3; have a3:=L.a3; have z3:=L.z3; have v3:=L.v3; have u3:=run_underlying L.t3
 have t9:=L.t9; have a9:=L.a9; have z9:=L.z9; have v9:=L.v9; have u9:=run_underlying L.t9
 have t5:=X.t5; have a5:=X.a5; have z5:=X.z5; have v5:=X.v5; have u5:=run_underlying X.t5
 go_enter Tryz.func84,Tryz.ntmps84
 go_wp2
 go_region_o
 all_goals (go_wp2; go_ret; exact ⟨rfl,rfl⟩)
set_option maxHeartbeats 2000000 in
theorem string_noroom (b q:Nat) (p:Value) (cur:Array Value) (fz:Nat×Nat) (w:World) (hbk:w.heap[b]? = some (.cells #[p, .slice (some ⟨q,0,none⟩) 0 0] pf.mE (0,0))) (hq:w.heap[q]? = some (.cells cur pf.u8 fz)) :
  Calls Tryz.prog 84 #[.pointer (some ⟨b,0,none⟩)] w fun e w'=>e = .returned (.string ⟨#[]⟩)∧Below w.heap.size w w':=by
 have L:=bstrL
 have X:=Jp
 have hUS:∀(W:World) (q:Option Addr),(Builtin.unsafeString_ #[164,3] 9 #[.pointer q, .int .i64 0]).run Tryz.prog W = .ok (.string .empty) W:=fun W q=>Lib.run_unsafeString_none W _ _ _ q
 have jD:b<w.heap.size:=by
  rcases Nat.lt_or_ge b w.heap.size with h'|h'
  ·exact h'
  ·simp[Array.getElem?_eq_none h']at hbk
 have c1:w.drew.cell? ⟨b,1,none⟩=some (.slice (some ⟨q,0,none⟩) 0 0):=by
  have:w.drew.heap[b]? = some (.cells #[p, .slice (some ⟨q,0,none⟩) 0 0] pf.mE (0,0)):=hbk
  rw[Lib.cell_of_heap this]; rfl
 have hSD:(Builtin.unsafeSliceData_ #[42] 164 #[.slice (some ⟨q,0,none⟩) 0 0]).run Tryz.prog w.drew = .ok (.pointer (some ⟨w.drew.heap.size,0,none⟩)) (w.drew.alloc (.view ⟨q,0,none⟩ 5)) :=
  Lib.run_unsafeSliceData_zero w.drew _ _ 5 L.t127 ⟨q,0,none⟩ 0 (5,cur.size) (by have hq':w.drew.heap[q]? = some (.cells cur 5 fz):=hq; simp[World.shape?,hq'])
 have c2:(w.drew.alloc (.view ⟨q,0,none⟩ 5)).cell? ⟨b,1,none⟩=some (.slice (some ⟨q,0,none⟩) 0 0):=by
  have:(w.drew.alloc (.view ⟨q,0,none⟩ 5)).heap[b]? = _:=(Lib.alloc_old w.drew _ b jD).trans hbk
  rw[Lib.cell_of_heap this]; rfl
 have c3:(w.alloc (.view ⟨q,0,none⟩ 5)).drew.cell? ⟨b,1,none⟩=some (.slice (some ⟨q,0,none⟩) 0 0):=c2
 have c0:w.cell? ⟨b,1,none⟩=some (.slice (some ⟨q,0,none⟩) 0 0):=c1
 have mixed:=L.mixed
 have t72:=L.t72; have a72:=L.a72; have z72:=L.z72; have v72:=L.v72; have u72:=run_underlying L.t72
 have t70:=L.t70; have a70:=L.a70; have z70:=L.z70; have v70:=L.v70; have u70:=run_underlying L.t70
 have t37:=L.t37; have a37:=L.a37; have z37:=L.z37; have v37:=L.v37; have u37:=run_underlying L.t37
 have t127:=L.t127; have a127:=L.a127; have z127:=L.z127; have v127:=L.v127; have u127:=run_underlying L.t127
 have t3:=L.t3; have a3:=L.a3; have z3:=L.z3; have v3:=L.v3; have u3:=run_underlying L.t3
 have t9:=L.t9; have a9:=L.a9; have z9:=L.z9; have v9:=L.v9; have u9:=run_underlying L.t9
 have t5:=X.t5; have a5:=X.a5; have z5:=X.z5; have v5:=X.v5; have u5:=run_underlying X.t5
 go_enter Tryz.func84,Tryz.ntmps84
 go_wp2
 go_region_o
 all_goals (go_wp2; go_ret; exact ⟨rfl,(Below.drew (Below.refl _ w)).alloc (Nat.le_refl _) _⟩)
theorem string_does:Zr Tryz.prog 84 where
 nil:=fun b p w hbk=>Any.Builder_String_nil bstrL Jp w.heap.size b p w hbk
 noroom:=string_noroom
 room:=fun b q cap p w hc hbk=>Any.Builder_String_room bstrL Jp w.heap.size b q cap p w hc hbk
 some:=string_some
theorem Yh:aq.Spec.Ok Tryz.prog 84 (MB R):=bstr_ok Tryz.func84 rfl rfl string_does
end
end Go.Proofs.YtidfokedcnhahaaGreatDoor
/-
 Functions of the program as pure Lean functions, and the ties; printed by wip/tools/emit.py.
-/
set_option maxRecDepth 100000
namespace Go.Proofs.YtidfokedcnhahaaGreatDoor
open Go Go.aq
variable {R:Type}
/-! ### slices.Index[[]string,string] -/
abbrev gS (R:Type):Type:=(List ag)→ag→(Int→Option R)→Option R
abbrev nK:List cY := [.leaf (.sl .str), .leaf (.str)]
abbrev nL:List aY := []
def uj (fn:gS R):jR R nK nL:=fun x y k=>fn x.1 x.2.1 (fun q0=>k (.int .i64 q0) [])
def nM (fn:gS R):=aC nK nL (uj fn)
abbrev kk (R:Type):Type:=Nat→(List ag)→ag→Int→Int→(Option R)→(Int→Option R)→Option R
def iB:Hint := { live := [0,1,7,8],own := [],rows := [],cells := [],drop := [],out := [4] }
abbrev eW:Type:=(List ag)×ag×Int×Int
def ke:eW→St:=fun d=>⟨.sl .str d.1 .no :: .str d.2.1::U 5 (.int .i64 d.2.2.1 :: .int .i64 d.2.2.2::U 10 ([])), []⟩
def kl (K:Ex→St→Option R):Option R:=K (.exit 0) ⟨U 19 ([]), []⟩
def km (K:Ex→St→Option R) (q0:Int):Option R:=K (.ret) ⟨U 4 (.int .i64 q0::U 14 ([])), []⟩
abbrev gf:List cY := .leaf (.sl .str) :: .leaf (.str)::PU 5 (.leaf (.int .i64) :: .leaf (.int .i64)::PU 10 ([]))
abbrev gg:List aY := []
def rH (x:cY.cC gf) (y:aY.cC gg):Nat:=(List.length x.1+List.length x.2.1+Int.natAbs x.2.2.2.2.2.2.2.1+Int.natAbs ((t8 x).1)+64)
def C5 (x:cY.cC gf) (y:aY.cC gg):eW:=(x.1,x.2.1,x.2.2.2.2.2.2.2.1,(t8 x).1)
def pQ (L:kk R):D7 R gf gg:=fun x y K=>L (rH x y) x.1 x.2.1 x.2.2.2.2.2.2.2.1 ((t8 x).1) (kl K) (km K)
section
variable (aS:kk R)
def eX (fb:(List ag)→ag→Int→Int→Option R) (x3:List ag) (x4:ag) (x5:Int) (x6:Int) (e0:Option R) (e1:Int→Option R):Option R :=
 bif (decide (x6<x5))then (cx (decide ((0:Int)≤x6)&&decide (x6<x3.length)) (bif (x4==(x3.getD x6.toNat (Ty.bR .str)))then (e1 x6)else (fb x3 x4 x5 (IntKind.i64.wrap (x6+1)))))else (e0)
def rI (K:Ex→St→Option R) (rc:eW→Option R) (d:eW):Option R:=eX (fun z0 z1 z2 z3=>rc (z0,z1,z2,z3)) d.1 d.2.1 d.2.2.1 d.2.2.2 (kl K) (km K)
def hM:Nat→Option (Hint×dE R):=fun i=>match i with
 | 2=>some (iB,(dR gf gg (pQ aS) lL))
 | _=>none
theorem Ai (K:Ex→St→Option R) (rc:St→Option R) (d:eW):roundOf tt (dx []) (hM aS) 0 ((aN (bm Tryz.f127)).getD 0 .skip) iB (ke d) rc K=rI K (fun d=>rc (ke d)) d:=by kernel_rfl
def nN (x1:List ag) (x2:ag) (k0:Int→Option R):Option R :=
 aS (List.length x1+List.length x2+Int.natAbs (x1.length:Int)+Int.natAbs 0+64) x1 x2 (x1.length:Int) 0 (k0 (-1)) (fun y7=>k0 y7)
theorem FH:dD (R:=R) tt [] (hM aS) false Tryz.f127 nK nL (uj (nN aS)):=fun x y k=>by kernel_rfl
end
def aS:kk R
 | 0,_,_,_,_,_,_=>none
 | n+1,jb,jf,jl,uk,e0,e1=>eX (fun jb jf jl uk=>aS n jb jf jl uk e0 e1) jb jf jl uk e0 e1
def rJ (K:Ex→St→Option R) (n:Nat) (d:eW):Option R:=aS n d.1 d.2.1 d.2.2.1 d.2.2.2 (kl K) (km K)
theorem BG (other:dE R) (ho:kg tt (dx []) (hM (R:=R) aS) 0 ((aN (bm Tryz.f127)).getD 0 .skip) iB other):kg tt (dx []) (hM (R:=R) aS) 0 ((aN (bm Tryz.f127)).getD 0 .skip) iB (dR gf gg (pQ (aS)) other) :=
 ei (A:=rJ) ho (gd ke (rI) (rJ) (fun _ _=>by kernel_rfl) (Ai aS) (fun _ _ _=>by kernel_rfl)) rH C5 (fun _ _=>by kernel_rfl) (fun _ _ _=>by kernel_rfl)
def bu:gS R:=fun x1 x2 k0=>nN aS x1 x2 k0
theorem C6 (R:Type):∀a∈aN (bm Tryz.f127),je tt (dx []) (hM (R:=R) aS) 0 a:=by
 refine gQ 1 (by kernel_rfl) fun i hi => ?_
 match i,hi with
 | 0,_=>exact dH (by kernel_rfl) (BG _ fk)
 | n+1,hi=>omega
theorem r7 (R:Type):jQ Tryz.prog 127 (nM (bu (R:=R))):=bj TT mixed .n rfl rfl rfl rfl (C6 R) (FH aS)
/-! ### slices.Contains[[]string,string] -/
abbrev gh (R:Type):Type:=(List ag)→ag→(Bool→Option R)→Option R
abbrev lN:List cY := [.leaf (.sl .str), .leaf (.str)]
abbrev lO:List aY := []
def rK (fn:gh R):jR R lN lO:=fun x y k=>fn x.1 x.2.1 (fun q0=>k (.bool q0) [])
def lP (fn:gh R):=aC lN lO (rK fn)
section
variable (bu:gS R)
def r8:List (lC R) := [(127,true,(nM bu av))]
def lQ (x1:List ag) (x2:ag) (k0:Bool→Option R):Option R :=
 bu x1 x2 (fun y3=>k0 (decide (y3≥(0:Int))))
theorem C7:dD (R:=R) tt (r8 bu) nJ false Tryz.f85 lN lO (rK (lQ bu)):=fun x y k=>by kernel_rfl
end
theorem BH:cq (R:=R) Tryz.prog (r8 (R:=R) bu) := .c (r7 R) <| .n
def aB:gh R:=fun x1 x2 k0=>lQ bu x1 x2 k0
theorem ph (R:Type):jQ Tryz.prog 85 (lP (aB (R:=R))):=bj TT mixed (BH (R:=R)) rfl rfl rfl rfl bX (C7 bu)
/-! ### slices.Clone[[]string,string] -/
abbrev jx (R:Type):Type:=(List ag)→((List ag)→Option R)→Option R
abbrev nO:List cY := [.leaf (.sl .str)]
abbrev nP:List aY := []
def um (fn:jx R):jR R nO nP:=fun x y k=>fn x.1 (fun q0=>k (.sl .str q0 .no) [])
def vN (fn:jx R):=aC nO nP (um fn)
section
def nQ (x1:List ag) (k0:(List ag)→Option R):Option R :=
 bif x1.isEmpty then (anyT (k0 ([]:List ag)) (cx (decide ((0+x1.length)*16≤140737488355328)) (k0 (([]:List ag)++x1))))else (cx (decide ((0+x1.length)*16≤140737488355328)) (k0 (([]:List ag)++x1)))
theorem FI:dD (R:=R) tt [] nJ false Tryz.f128 nO nP (um nQ):=fun x y k=>by kernel_rfl
end
def bp:jx R:=fun x1 k0=>nQ x1 k0
theorem D9 (R:Type):jQ Tryz.prog 128 (vN (bp (R:=R))):=bj TT mixed .n rfl rfl rfl rfl bX (FI)
/-! ### slices.Clone[[]humpyard/api.Json,humpyard/api.Json] -/
abbrev jg (R:Type):Type:=(List Json)→(Option R)→(Nat→(List Json)→Option R)→Option R
abbrev mX:List cY := [.leaf (.sl .json)]
abbrev mY:List aY := []
def tg (fn:jg R):jR R mX mY:=fun x y k=>fn x.1 (k (.cv) []) (fun q0 q1=>k (.row 0 q0) [.row .json q1])
def uo (fn:jg R):=aC mX mY (tg fn)
section
def mZ (x1:List Json) (k0:Option R) (k1:Nat→(List Json)→Option R):Option R :=
 bif x1.isEmpty then (anyT (k0) (cx (decide ((0+x1.length)*88≤140737488355328)) (k1 (0+x1.length) (([]:List Json)++x1))))else (cx (decide ((0+x1.length)*88≤140737488355328)) (k1 (0+x1.length) (([]:List Json)++x1)))
theorem EW:dD (R:=R) (tt.mode [.json]) [] nJ true Tryz.f129 mX mY (tg mZ):=fun x y k=>by kernel_rfl
end
def bg:jg R:=fun x1 k0 k1=>mZ x1 k0 k1
theorem C8 (R:Type):jQ Tryz.prog 129 (uo (bg (R:=R))):=bj (TT.mode [.json]) mixed .n rfl rfl rfl rfl bX (EW)
/-! ### humpyard/field.fresh -/
abbrev eR (R:Type):Type:=Json→(Json→Option R)→Option R
abbrev l9:List cY := [.agg [.int .i64, .int .i64, .int .i64, .str, .sl .str, .sl .json]]
abbrev ma:List aY := []
def gT (fn:eR R):jR R l9 ma:=fun x y k=>fn (⟨x.1.1,⟨x.1.2.1,x.1.2.2.1⟩,x.1.2.2.2.1,x.1.2.2.2.2.1,x.1.2.2.2.2.2.1⟩:Json) (fun q0=>k (.agg [.int .i64 q0.kind, .int .i64 q0.num.ao, .int .i64 q0.num.exp, .str q0.text, .sl .str q0.names .no, .sl .json q0.items .no]) [])
def Sh (fn:eR R):=aC l9 ma (gT fn)
abbrev Aj (R:Type):Type:=Nat→Int→Int→Int→Int→Int→ag→(List ag)→Int→Int→Int→ag→(Int→Int→Int→ag→(List ag)→Int→Int→Int→ag→Option R)→Option R
abbrev Ak (R:Type):Type:=Nat→Nat→Int→Int→Int→Int→Int→ag→(List ag)→Nat→Int→Int→Int→ag→(List Json)→(Int→Int→Int→ag→(List ag)→Nat→Int→Int→Int→ag→(List Json)→Option R)→Option R
def vO:Hint := { live := [1,2,14,15,16],own := [],rows := [],cells := [],drop := [],out := [1,2] }
abbrev mH:Type:=Int×Int×Int×Int×Int×ag×(List ag)×Int×Int×Int×ag
def xR:mH→St:=fun d=>⟨.undef :: .ptr 0 0 :: .ptr 1 0::U 11 (.cv :: .int .i64 d.1 :: .int .i64 d.2.1::U 12 ([])), [.cells [.int .i64 d.2.2.1, .int .i64 d.2.2.2.1, .int .i64 d.2.2.2.2.1, .str d.2.2.2.2.2.1, .sl .str d.2.2.2.2.2.2.1 .no, .cv], .cells [.int .i64 d.2.2.2.2.2.2.2.1, .int .i64 d.2.2.2.2.2.2.2.2.1, .int .i64 d.2.2.2.2.2.2.2.2.2.1, .str d.2.2.2.2.2.2.2.2.2.2, .cv, .cv]]⟩
def Al (K:Ex→St→Option R) (q0:Int) (q1:Int) (q2:Int) (q3:ag) (q4:List ag) (q5:Int) (q6:Int) (q7:Int) (q8:ag):Option R:=K (.exit 0) ⟨.undef :: .ptr 0 0 :: .ptr 1 0::U 26 ([]), [.cells [.int .i64 q0, .int .i64 q1, .int .i64 q2, .str q3, .sl .str q4 .no, .cv], .cells [.int .i64 q5, .int .i64 q6, .int .i64 q7, .str q8, .cv, .cv]]⟩
abbrev pR:List cY := .leaf (.undef) :: .leaf (.ptr 0 0) :: .leaf (.ptr 1 0)::PU 11 (.leaf (.cv) :: .leaf (.int .i64) :: .leaf (.int .i64)::PU 12 ([]))
abbrev pS:List aY := [.cells [.int .i64, .int .i64, .int .i64, .str, .sl .str, .cv], .cells [.int .i64, .int .i64, .int .i64, .str, .cv, .cv]]
def Jq (x:cY.cC pR) (y:aY.cC pS):Nat:=(Int.natAbs ((t8 x).2.2.2.2.2.2.2.1)+Int.natAbs ((t8 (t8 x)).1)+Int.natAbs y.1.1+Int.natAbs y.1.2.1+Int.natAbs y.1.2.2.1+List.length y.1.2.2.2.1+List.length y.1.2.2.2.2.1+Int.natAbs y.2.1.1+Int.natAbs y.2.1.2.1+Int.natAbs y.2.1.2.2.1+List.length y.2.1.2.2.2.1+64)
def Un (x:cY.cC pR) (y:aY.cC pS):mH:=((t8 x).2.2.2.2.2.2.2.1,(t8 (t8 x)).1,y.1.1,y.1.2.1,y.1.2.2.1,y.1.2.2.2.1,y.1.2.2.2.2.1,y.2.1.1,y.2.1.2.1,y.2.1.2.2.1,y.2.1.2.2.2.1)
def HI (L:Aj R):D7 R pR pS:=fun x y K=>L (Jq x y) ((t8 x).2.2.2.2.2.2.2.1) ((t8 (t8 x)).1) y.1.1 y.1.2.1 y.1.2.2.1 y.1.2.2.2.1 y.1.2.2.2.2.1 y.2.1.1 y.2.1.2.1 y.2.1.2.2.1 y.2.1.2.2.2.1 (Al K)
def BI:Hint := { live := [1,2,14,15,16],own := [],rows := [],cells := [],drop := [],out := [1,2] }
abbrev mI:Type:=Nat×Int×Int×Int×Int×Int×ag×(List ag)×Nat×Int×Int×Int×ag×(List Json)
def xS:mI→St:=fun d=>⟨.undef :: .ptr 0 0 :: .ptr 1 0::U 11 (.row 2 d.1 :: .int .i64 d.2.1 :: .int .i64 d.2.2.1::U 12 ([])), [.cells [.int .i64 d.2.2.2.1, .int .i64 d.2.2.2.2.1, .int .i64 d.2.2.2.2.2.1, .str d.2.2.2.2.2.2.1, .sl .str d.2.2.2.2.2.2.2.1 .no, .row 2 d.2.2.2.2.2.2.2.2.1], .cells [.int .i64 d.2.2.2.2.2.2.2.2.2.1, .int .i64 d.2.2.2.2.2.2.2.2.2.2.1, .int .i64 d.2.2.2.2.2.2.2.2.2.2.2.1, .str d.2.2.2.2.2.2.2.2.2.2.2.2.1, .cv, .cv], .row .json d.2.2.2.2.2.2.2.2.2.2.2.2.2]⟩
def Am (K:Ex→St→Option R) (q0:Int) (q1:Int) (q2:Int) (q3:ag) (q4:List ag) (q5:Nat) (q6:Int) (q7:Int) (q8:Int) (q9:ag) (q10:List Json):Option R:=K (.exit 0) ⟨.undef :: .ptr 0 0 :: .ptr 1 0::U 26 ([]), [.cells [.int .i64 q0, .int .i64 q1, .int .i64 q2, .str q3, .sl .str q4 .no, .row 2 q5], .cells [.int .i64 q6, .int .i64 q7, .int .i64 q8, .str q9, .cv, .cv], .row .json q10]⟩
abbrev pT:List cY := .leaf (.undef) :: .leaf (.ptr 0 0) :: .leaf (.ptr 1 0)::PU 11 (.leaf (.row 2) :: .leaf (.int .i64) :: .leaf (.int .i64)::PU 12 ([]))
abbrev pU:List aY := [.cells [.int .i64, .int .i64, .int .i64, .str, .sl .str, .row 2], .cells [.int .i64, .int .i64, .int .i64, .str, .cv, .cv], .row .json]
def Jr (x:cY.cC pT) (y:aY.cC pU):Nat:=(Int.natAbs ((t8 x).2.2.2.2.2.2.2.1)+Int.natAbs ((t8 (t8 x)).1)+Int.natAbs y.1.1+Int.natAbs y.1.2.1+Int.natAbs y.1.2.2.1+List.length y.1.2.2.2.1+List.length y.1.2.2.2.2.1+Int.natAbs y.2.1.1+Int.natAbs y.2.1.2.1+Int.natAbs y.2.1.2.2.1+List.length y.2.1.2.2.2.1+List.length y.2.2.1+64)
def Uo (x:cY.cC pT) (y:aY.cC pU):mI:=((t8 x).2.2.2.2.2.2.1,(t8 x).2.2.2.2.2.2.2.1,(t8 (t8 x)).1,y.1.1,y.1.2.1,y.1.2.2.1,y.1.2.2.2.1,y.1.2.2.2.2.1,y.1.2.2.2.2.2.1,y.2.1.1,y.2.1.2.1,y.2.1.2.2.1,y.2.1.2.2.2.1,y.2.2.1)
def HJ (L:Ak R):D7 R pT pU:=fun x y K=>L (Jr x y) ((t8 x).2.2.2.2.2.2.1) ((t8 x).2.2.2.2.2.2.2.1) ((t8 (t8 x)).1) y.1.1 y.1.2.1 y.1.2.2.1 y.1.2.2.2.1 y.1.2.2.2.2.1 y.1.2.2.2.2.2.1 y.2.1.1 y.2.1.2.1 y.2.1.2.2.1 y.2.1.2.2.2.1 y.2.2.1 (Am K)
section
variable (aG:eR R) (bg:jg R) (bp:jx R) (cM:Aj R) (cB:Ak R)
def mb:List (lC R) := [(86,true,(aC l9 ma (gT aG) av)),(129,false,(uo bg av)),(128,true,(vN bp av))]
def Js (fb:Int→Int→Int→Int→Int→ag→(List ag)→Int→Int→Int→ag→Option R) (x5:Int) (x6:Int) (x7:Int) (x8:Int) (x9:Int) (x10:ag) (x11:List ag) (x12:Int) (VS:Int) (Xr:Int) (n9:ag) (e0:Int→Int→Int→ag→(List ag)→Int→Int→Int→ag→Option R):Option R :=
 bif (decide (x6<x5))then (none)else (e0 x7 x8 x9 x10 x11 x12 VS Xr n9)
def Jt (K:Ex→St→Option R) (rc:mH→Option R) (d:mH):Option R:=Js (fun z0 z1 z2 z3 z4 z5 z6 z7 z8 z9 Xs=>rc (z0,z1,z2,z3,z4,z5,z6,z7,z8,z9,Xs)) d.1 d.2.1 d.2.2.1 d.2.2.2.1 d.2.2.2.2.1 d.2.2.2.2.2.1 d.2.2.2.2.2.2.1 d.2.2.2.2.2.2.2.1 d.2.2.2.2.2.2.2.2.1 d.2.2.2.2.2.2.2.2.2.1 d.2.2.2.2.2.2.2.2.2.2 (Al K)
def vP (fb:Nat→Int→Int→Int→Int→Int→ag→(List ag)→Nat→Int→Int→Int→ag→(List Json)→Option R) (x25:Nat) (x26:Int) (x27:Int) (x28:Int) (x29:Int) (x30:Int) (x31:ag) (x32:List ag) (x33:Nat) (x34:Int) (x35:Int) (x36:Int) (x37:ag) (x38:List Json) (e0:Int→Int→Int→ag→(List ag)→Nat→Int→Int→Int→ag→(List Json)→Option R):Option R :=
 bif (decide (x27<x26))then (cx (decide ((0:Int)≤x27)&&decide (x27<x25)) (cx (decide (x27.toNat<x38.length)) (aG (⟨(x38.getD x27.toNat (Ty.bR .json)).kind,⟨(x38.getD x27.toNat (Ty.bR .json)).num.ao,(x38.getD x27.toNat (Ty.bR .json)).num.exp⟩,(x38.getD x27.toNat (Ty.bR .json)).text,(x38.getD x27.toNat (Ty.bR .json)).names,(x38.getD x27.toNat (Ty.bR .json)).items⟩:Json) (fun Zv=>cx (decide ((0:Int)≤x27)&&decide (x27<x33)) (cx (decide (x27.toNat<x38.length)) (fb x25 x26 (IntKind.i64.wrap (x27+1)) x28 x29 x30 x31 x32 x33 x34 x35 x36 x37 (x38.set x27.toNat (⟨Zv.kind,⟨Zv.num.ao,Zv.num.exp⟩,Zv.text,Zv.names,Zv.items⟩:Json))))))))else (e0 x28 x29 x30 x31 x32 x33 x34 x35 x36 x37 x38)
def Ju (K:Ex→St→Option R) (rc:mI→Option R) (d:mI):Option R:=vP aG (fun z0 z1 z2 z3 z4 z5 z6 z7 z8 z9 Xs xT z12 z13=>rc (z0,z1,z2,z3,z4,z5,z6,z7,z8,z9,Xs,xT,z12,z13)) d.1 d.2.1 d.2.2.1 d.2.2.2.1 d.2.2.2.2.1 d.2.2.2.2.2.1 d.2.2.2.2.2.2.1 d.2.2.2.2.2.2.2.1 d.2.2.2.2.2.2.2.2.1 d.2.2.2.2.2.2.2.2.2.1 d.2.2.2.2.2.2.2.2.2.2.1 d.2.2.2.2.2.2.2.2.2.2.2.1 d.2.2.2.2.2.2.2.2.2.2.2.2.1 d.2.2.2.2.2.2.2.2.2.2.2.2.2 (Am K)
def oa:Nat→Option (Hint×dE R):=fun i=>match i with
 | 4=>some (vO,(dR pR pS (HI cM) (dR pT pU (HJ cB) lL)))
 | _=>none
theorem Pr (K:Ex→St→Option R) (rc:St→Option R) (d:mH):roundOf tt (dx (mb aG bg bp)) (oa cM cB) 0 ((aN (bm Tryz.f86)).getD 0 .skip) vO (xR d) rc K=Jt K (fun d=>rc (xR d)) d:=by kernel_rfl
theorem Ps (K:Ex→St→Option R) (rc:St→Option R) (d:mI):roundOf tt (dx (mb aG bg bp)) (oa cM cB) 0 ((aN (bm Tryz.f86)).getD 0 .skip) BI (xS d) rc K=Ju aG K (fun d=>rc (xS d)) d:=by kernel_rfl
def J3 (x1:Json) (k0:Json→Option R):Option R :=
 bp x1.names (fun y2=>bg x1.items (cM (Int.natAbs 0+Int.natAbs 0+Int.natAbs x1.kind+Int.natAbs x1.num.ao+Int.natAbs x1.num.exp+List.length x1.text+List.length y2+Int.natAbs 0+Int.natAbs 0+Int.natAbs 0+List.length ([]:ag)+64) 0 0 x1.kind x1.num.ao x1.num.exp x1.text y2 0 0 0 ([]:ag) (fun An KV J4 Pt Lg C2 Yi Si y24=>k0 (⟨An,⟨KV,J4⟩,Pt,Lg,([]:List Json)⟩:Json))) (fun y3 y4=>cB (Int.natAbs (y3:Int)+Int.natAbs 0+Int.natAbs x1.kind+Int.natAbs x1.num.ao+Int.natAbs x1.num.exp+List.length x1.text+List.length y2+Int.natAbs 0+Int.natAbs 0+Int.natAbs 0+List.length ([]:ag)+List.length y4+64) y3 (y3:Int) 0 x1.kind x1.num.ao x1.num.exp x1.text y2 y3 0 0 0 ([]:ag) y4 (fun y40 y41 y42 y43 y44 y45 y46 y47 y48 y49 y50=>k0 (⟨y40,⟨y41,y42⟩,y43,y44,y50⟩:Json))))
theorem Zw:dD (R:=R) tt (mb aG bg bp) (oa cM cB) false Tryz.f86 l9 ma (gT (J3 bg bp cM cB)):=fun x y k=>by kernel_rfl
end
theorem Xt (aG:eR R) (ur:aq.Spec.Ok Tryz.prog 86 (aC l9 ma (gT aG) av)):cq (R:=R) Tryz.prog (mb (R:=R) aG bg bp) := .p ur <| .d (C8 R) rfl <| .c (D9 R) <| .n
def cM:Aj R
 | 0,_,_,_,_,_,_,_,_,_,_,_,_=>none
 | n+1,jb,jf,jl,uk,Ea,FJ,RN,RO,RP,RQ,xU,e0=>Js (fun jb jf jl uk Ea FJ RN RO RP RQ xU=>cM n jb jf jl uk Ea FJ RN RO RP RQ xU e0) jb jf jl uk Ea FJ RN RO RP RQ xU e0
def Jv (K:Ex→St→Option R) (n:Nat) (d:mH):Option R:=cM n d.1 d.2.1 d.2.2.1 d.2.2.2.1 d.2.2.2.2.1 d.2.2.2.2.2.1 d.2.2.2.2.2.2.1 d.2.2.2.2.2.2.2.1 d.2.2.2.2.2.2.2.2.1 d.2.2.2.2.2.2.2.2.2.1 d.2.2.2.2.2.2.2.2.2.2 (Al K)
def cB (aG:eR R):Ak R
 | 0,_,_,_,_,_,_,_,_,_,_,_,_,_,_,_=>none
 | n+1,jb,jf,jl,uk,Ea,FJ,RN,RO,RP,RQ,xU,J5,Td,Te,e0=>vP aG (fun jb jf jl uk Ea FJ RN RO RP RQ xU J5 Td Te=>cB aG n jb jf jl uk Ea FJ RN RO RP RQ xU J5 Td Te e0) jb jf jl uk Ea FJ RN RO RP RQ xU J5 Td Te e0
def Jw (aG:eR R) (K:Ex→St→Option R) (n:Nat) (d:mI):Option R:=cB aG n d.1 d.2.1 d.2.2.1 d.2.2.2.1 d.2.2.2.2.1 d.2.2.2.2.2.1 d.2.2.2.2.2.2.1 d.2.2.2.2.2.2.2.1 d.2.2.2.2.2.2.2.2.1 d.2.2.2.2.2.2.2.2.2.1 d.2.2.2.2.2.2.2.2.2.2.1 d.2.2.2.2.2.2.2.2.2.2.2.1 d.2.2.2.2.2.2.2.2.2.2.2.2.1 d.2.2.2.2.2.2.2.2.2.2.2.2.2 (Am K)
theorem Tf (aG:eR R) (other:dE R) (ho:kg tt (dx (mb (R:=R) aG bg bp)) (oa (R:=R) cM (cB aG)) 0 ((aN (bm Tryz.f86)).getD 0 .skip) vO other):kg tt (dx (mb (R:=R) aG bg bp)) (oa (R:=R) cM (cB aG)) 0 ((aN (bm Tryz.f86)).getD 0 .skip) vO (dR pR pS (HI (cM)) other) :=
 ei (A:=Jv) ho (gd xR (Jt) (Jv) (fun _ _=>by kernel_rfl) (Pr aG bg bp cM (cB aG)) (fun _ _ _=>by kernel_rfl)) Jq Un (fun _ _=>by kernel_rfl) (fun _ _ _=>by kernel_rfl)
theorem Tg (aG:eR R) (other:dE R) (ho:kg tt (dx (mb (R:=R) aG bg bp)) (oa (R:=R) cM (cB aG)) 0 ((aN (bm Tryz.f86)).getD 0 .skip) BI other):kg tt (dx (mb (R:=R) aG bg bp)) (oa (R:=R) cM (cB aG)) 0 ((aN (bm Tryz.f86)).getD 0 .skip) BI (dR pT pU (HJ (cB aG)) other) :=
 ei (A:=Jw aG) ho (gd xS (Ju aG) (Jw aG) (fun _ _=>by kernel_rfl) (Ps aG bg bp cM (cB aG)) (fun _ _ _=>by kernel_rfl)) Jr Uo (fun _ _=>by kernel_rfl) (fun _ _ _=>by kernel_rfl)
def zf (aG:eR R):eR R:=fun x1 k0=>J3 bg bp cM (cB aG) x1 k0
theorem Up (R:Type) (aG:eR R) (ur:aq.Spec.Ok Tryz.prog 86 (aC l9 ma (gT aG) av)):∀a∈aN (bm Tryz.f86),je tt (dx (mb (R:=R) aG bg bp)) (oa (R:=R) cM (cB aG)) 0 a:=by
 refine gQ 1 (by kernel_rfl) fun i hi => ?_
 match i,hi with
 | 0,_=>exact dH (by kernel_rfl) (Tf aG _ (Tg aG _ fk))
 | n+1,hi=>omega
theorem Uq (R:Type) (aG:eR R) (ur:aq.Spec.Ok Tryz.prog 86 (aC l9 ma (gT aG) av)):jQ Tryz.prog 86 (Sh (zf aG)):=bj TT mixed (Xt aG ur) rfl rfl rfl rfl (Up R aG ur) (Zw aG bg bp cM (cB aG))
def iK:Nat→eR R
 | 0,_,_=>none
 | n+1,jb,k0'=>zf (iK n) jb k0'
theorem field_fresh_N_succ (n:Nat):iK (R:=R) (n+1)=zf (iK n):=by kernel_rfl
theorem VT (R:Type):∀n,aq.Spec.Ok Tryz.prog 86 (aC l9 ma (gT (iK (R:=R) n)) av) :=
 AT (run:=fun n=>gT (iK (R:=R) n)) (fun x y k=>by kernel_rfl) fun n hyp=>Uq R (iK n) hyp av (fA _)
def gl:eR R:=fun x1 k0=>iK (Json.depth x1+2) x1 k0
theorem VU (R:Type):gT (R:=R) gl=fun x y k=>gT (iK (Json.depth (⟨x.1.1,⟨x.1.2.1,x.1.2.2.1⟩,x.1.2.2.2.1,x.1.2.2.2.2.1,x.1.2.2.2.2.2.1⟩:Json)+2)) x y k:=by kernel_rfl
theorem VV (R:Type) (other:aq.Spec R) (ho:aq.Spec.Ok Tryz.prog 86 other):aq.Spec.Ok Tryz.prog 86 (aC l9 ma (gT gl) other) :=
 HH (Le (run:=fun n=>gT (iK (R:=R) n)) (fun x y=>(Json.depth (⟨x.1.1,⟨x.1.2.1,x.1.2.2.1⟩,x.1.2.2.2.1,x.1.2.2.2.2.1,x.1.2.2.2.2.2.1⟩:Json)+2)) ho (VT R)) (VU R)
end Go.Proofs.YtidfokedcnhahaaGreatDoor
/-
 Functions of the program as pure Lean functions, and the ties; printed by wip/tools/emit.py.
-/
set_option maxRecDepth 100000
namespace Go.Proofs.YtidfokedcnhahaaGreatDoor
open Go Go.aq
variable {R:Type}
/-! ### humpyard/topic.Name -/
abbrev topic_Name_ty (R:Type):Type:=ag→(Bool→Option R)→Option R
abbrev topic_Name_p:List cY := [.leaf (.str)]
abbrev topic_Name_q:List aY := []
def topic_Name_rr (fn:topic_Name_ty R):jR R topic_Name_p topic_Name_q:=fun x y k=>fn x.1 (fun q0=>k (.bool q0) [])
def topic_Name_s (fn:topic_Name_ty R):=aC topic_Name_p topic_Name_q (topic_Name_rr fn)
section
def topic_Name_E:List (lC R) := [(105,true,(Rp R))]
def topic_Name_X (x1:ag) (k0:Bool→Option R):Option R :=
 cx (wB ([97,98,99,100,101,102,103,104,105,106,107,108,109,110,111,112,113,114,115,116,117,118,119,120,121,122,65,66,67,68,69,70,71,72,73,74,75,76,77,78,79,80,81,82,83,84,85,86,87,88,89,90,48,49,50,51,52,53,54,55,56,57,95,46,58,45]:ag)&&decide (([97,98,99,100,101,102,103,104,105,106,107,108,109,110,111,112,113,114,115,116,117,118,119,120,121,122,65,66,67,68,69,70,71,72,73,74,75,76,77,78,79,80,81,82,83,84,85,86,87,88,89,90,48,49,50,51,52,53,54,55,56,57,95,46,58,45]:ag).length<4294967281)) (bif ((bx x1 ([97,98,99,100,101,102,103,104,105,106,107,108,109,110,111,112,113,114,115,116,117,118,119,120,121,122,65,66,67,68,69,70,71,72,73,74,75,76,77,78,79,80,81,82,83,84,85,86,87,88,89,90,48,49,50,51,52,53,54,55,56,57,95,46,58,45]:ag))==([]:ag))then (bif (!(x1==([]:ag)))then (k0 (decide ((x1.length:Int)≤(16:Int))))else (k0 false))else (k0 false))
theorem topic_Name_ok:dD (R:=R) tt (topic_Name_E (R:=R)) nJ false Tryz.f61 topic_Name_p topic_Name_q (topic_Name_rr topic_Name_X):=fun x y k=>by kernel_rfl
end
theorem topic_Name_EOk:cq (R:=R) Tryz.prog (topic_Name_E (R:=R)) := .p (Um) <| .n
def topic_Name:topic_Name_ty R:=fun x1 k0=>topic_Name_X x1 k0
theorem topic_Name_S_ok (R:Type):jQ Tryz.prog 61 (topic_Name_s (topic_Name (R:=R))):=bj TT mixed (topic_Name_EOk (R:=R)) rfl rfl rfl rfl bX (topic_Name_ok)
/-! ### humpyard/decimal.within[int] -/
abbrev ji (R:Type):Type:=Int→Int→Int→(Bool→Option R)→Option R
abbrev wD:List cY := [.leaf (.int .i64), .leaf (.int .i64), .leaf (.int .i64)]
abbrev wE:List aY := []
def Dj (fn:ji R):jR R wD wE:=fun x y k=>fn x.1 x.2.1 x.2.2.1 (fun q0=>k (.bool q0) [])
def pV (fn:ji R):=aC wD wE (Dj fn)
section
def mu (x1:Int) (x2:Int) (x3:Int) (k0:Bool→Option R):Option R :=
 bif (decide (x1≤x2))then (k0 (decide (x2≤x3)))else (k0 false)
theorem OE:dD (R:=R) tt [] nJ false Tryz.f135 wD wE (Dj mu):=fun x y k=>by kernel_rfl
end
def az:ji R:=fun x1 x2 x3 k0=>mu x1 x2 x3 k0
theorem r9 (R:Type):jQ Tryz.prog 135 (pV (az (R:=R))):=bj TT mixed .n rfl rfl rfl rfl bX (OE)
/-! ### humpyard/decimal.Make -/
abbrev uu (R:Type):Type:=Int→Int→(fT→Bool→Option R)→Option R
abbrev HK:List cY := [.leaf (.int .i64), .leaf (.int .i64)]
abbrev HL:List aY := []
def Oa (fn:uu R):jR R HK HL:=fun x y k=>fn x.1 x.2.1 (fun q0 q1=>k (.tuple [.agg [.int .i64 q0.ao, .int .i64 q0.exp], .bool q1]) [])
def HM (fn:uu R):=aC HK HL (Oa fn)
abbrev xV (R:Type):Type:=Nat→Int→Int→fT→(Int→Int→fT→Option R)→Option R
def tB:Hint := { live := [0,1,4],own := [],rows := [],cells := [],drop := [],out := [0,1,4,5] }
abbrev lR:Type:=Int×Int×fT
def wF:lR→St:=fun d=>⟨.int .i64 d.1 :: .int .i64 d.2.1::U 2 (.ptr 0 0::U 25 ([])), [.cells [.int .i64 d.2.2.ao, .int .i64 d.2.2.exp]]⟩
def xW (K:Ex→St→Option R) (q0:Int) (q1:Int) (q2:fT):Option R:=K (.exit 0) ⟨.int .i64 q0 :: .int .i64 q1::U 2 (.ptr 0 0::U 25 ([])), [.cells [.int .i64 q2.ao, .int .i64 q2.exp]]⟩
abbrev oG:List cY := .leaf (.int .i64) :: .leaf (.int .i64)::PU 2 (.leaf (.ptr 0 0)::PU 25 ([]))
abbrev oH:List aY := [.cells [.int .i64, .int .i64]]
def HN (x:cY.cC oG) (y:aY.cC oH):Nat:=(Int.natAbs x.1+Int.natAbs x.2.1+fT.fu (⟨y.1.1,y.1.2.1⟩:fT)+64)
def Th (x:cY.cC oG) (y:aY.cC oH):lR:=(x.1,x.2.1,(⟨y.1.1,y.1.2.1⟩:fT))
def Ga (L:xV R):D7 R oG oH:=fun x y K=>L (HN x y) x.1 x.2.1 (⟨y.1.1,y.1.2.1⟩:fT) (xW K)
section
variable (az:ji R) (bL:xV R)
def sa:List (lC R) := [(135,true,(pV az av))]
def fV (fb:Int→Int→fT→Option R) (x3:Int) (x4:Int) (x5:fT) (e0:Int→Int→fT→Option R):Option R :=
 bif ((Int.tmod x3 10)==0)then (fb (IntKind.i64.wrap (Int.tdiv x3 10)) (IntKind.i64.wrap (x4+1)) x5)else (e0 x3 x4 x5)
def HO (K:Ex→St→Option R) (rc:lR→Option R) (d:lR):Option R:=fV (fun z0 z1 z2=>rc (z0,z1,z2)) d.1 d.2.1 d.2.2 (xW K)
def wG:Nat→Option (Hint×dE R):=fun i=>match i with
 | 4=>some (tB,(dR oG oH (Ga bL) lL))
 | _=>none
theorem OF (K:Ex→St→Option R) (rc:St→Option R) (d:lR):roundOf tt (dx (sa az)) (wG bL) 0 ((aN (bm Tryz.f97)).getD 0 .skip) tB (wF d) rc K=HO K (fun d=>rc (wF d)) d:=by kernel_rfl
def kn (x1:Int) (x2:Int) (k0:fT→Bool→Option R):Option R :=
 bif (x1==0)then (k0 (⟨0,0⟩:fT) true)else (bL (Int.natAbs x1+Int.natAbs (min x2 1000000)+fT.fu (⟨0,0⟩:fT)+64) x1 (min x2 1000000) (⟨0,0⟩:fT) (fun y6 y7 y8=>az (-1000000000000000) y6 1000000000000000 (fun y9=>bif (!y9)then (k0 (⟨0,0⟩:fT) false)else (az (-9) y7 9 (fun oc=>bif (!oc)then (k0 (⟨0,0⟩:fT) false)else (k0 (⟨y6,y7⟩:fT) true))))))
theorem Xu:dD (R:=R) tt (sa az) (wG bL) false Tryz.f97 HK HL (Oa (kn az bL)):=fun x y k=>by kernel_rfl
end
theorem VW:cq (R:=R) Tryz.prog (sa (R:=R) az) := .c (r9 R) <| .n
def bL:xV R
 | 0,_,_,_,_=>none
 | n+1,jb,jf,jl,e0=>fV (fun jb jf jl=>bL n jb jf jl e0) jb jf jl e0
def HP (K:Ex→St→Option R) (n:Nat) (d:lR):Option R:=bL n d.1 d.2.1 d.2.2 (xW K)
theorem RR (other:dE R) (ho:kg tt (dx (sa (R:=R) az)) (wG (R:=R) bL) 0 ((aN (bm Tryz.f97)).getD 0 .skip) tB other):kg tt (dx (sa (R:=R) az)) (wG (R:=R) bL) 0 ((aN (bm Tryz.f97)).getD 0 .skip) tB (dR oG oH (Ga (bL)) other) :=
 ei (A:=HP) ho (gd wF (HO) (HP) (fun _ _=>by kernel_rfl) (OF az bL) (fun _ _ _=>by kernel_rfl)) HN Th (fun _ _=>by kernel_rfl) (fun _ _ _=>by kernel_rfl)
def bk:uu R:=fun x1 x2 k0=>kn az bL x1 x2 k0
theorem Ti (R:Type):∀a∈aN (bm Tryz.f97),je tt (dx (sa (R:=R) az)) (wG (R:=R) bL) 0 a:=by
 refine gQ 1 (by kernel_rfl) fun i hi => ?_
 match i,hi with
 | 0,_=>exact dH (by kernel_rfl) (RR _ fk)
 | n+1,hi=>omega
theorem Jx (R:Type):jQ Tryz.prog 97 (HM (bk (R:=R))):=bj TT mixed (VW (R:=R)) rfl rfl rfl rfl (Ti R) (Xu az bL)
/-! ### humpyard/field.Int -/
abbrev ko (R:Type):Type:=Int→(Json→Option R)→Option R
abbrev Pv:List cY := [.leaf (.int .i64)]
abbrev Pw:List aY := []
def Ur (fn:ko R):jR R Pv Pw:=fun x y k=>fn x.1 (fun q0=>k (.agg [.int .i64 q0.kind, .int .i64 q0.num.ao, .int .i64 q0.num.exp, .str q0.text, .sl .str q0.names .no, .sl .json q0.items .no]) [])
def pW (fn:ko R):=aC Pv Pw (Ur fn)
section
variable (bk:uu R)
def WQ:List (lC R) := [(97,true,(HM bk av))]
def Px (x1:Int) (k0:Json→Option R):Option R :=
 bk x1 0 (fun y2 y3=>bif (!y3)then (k0 (⟨1,⟨0,0⟩,([]:ag),([]:List ag),([]:List Json)⟩:Json))else (k0 (⟨4,⟨y2.ao,y2.exp⟩,([]:ag),([]:List ag),([]:List Json)⟩:Json)))
theorem field_Int_ok:dD (R:=R) tt (WQ bk) nJ false Tryz.f48 Pv Pw (Ur (Px bk)):=fun x y k=>by kernel_rfl
end
theorem field_Int_EOk:cq (R:=R) Tryz.prog (WQ (R:=R) bk) := .c (Jx R) <| .n
def bf:ko R:=fun x1 k0=>Px bk x1 k0
theorem mv (R:Type):jQ Tryz.prog 48 (pW (bf (R:=R))):=bj TT mixed (field_Int_EOk (R:=R)) rfl rfl rfl rfl bX (field_Int_ok bk)
/-! ### humpyard/field.Str -/
abbrev GQ (R:Type):Type:=ag→(Json→Option R)→Option R
abbrev Py:List cY := [.leaf (.str)]
abbrev Pz:List aY := []
def Us (fn:GQ R):jR R Py Pz:=fun x y k=>fn x.1 (fun q0=>k (.agg [.int .i64 q0.kind, .int .i64 q0.num.ao, .int .i64 q0.num.exp, .str q0.text, .sl .str q0.names .no, .sl .json q0.items .no]) [])
def WR (fn:GQ R):=aC Py Pz (Us fn)
section
def WS (x1:ag) (k0:Json→Option R):Option R :=
 k0 (⟨5,⟨0,0⟩,x1,([]:List ag),([]:List Json)⟩:Json)
theorem field_Str_ok:dD (R:=R) tt [] nJ false Tryz.f34 Py Pz (Us WS):=fun x y k=>by kernel_rfl
end
def uN:GQ R:=fun x1 k0=>WS x1 k0
theorem Zx (R:Type):jQ Tryz.prog 34 (WR (uN (R:=R))):=bj TT mixed .n rfl rfl rfl rfl bX (field_Str_ok)
/-! ### humpyard/field.Yes -/
abbrev BJ (R:Type):Type:=Bool→(Json→Option R)→Option R
abbrev PA:List cY := [.leaf (.bool)]
abbrev PB:List aY := []
def Ut (fn:BJ R):jR R PA PB:=fun x y k=>fn x.1 (fun q0=>k (.agg [.int .i64 q0.kind, .int .i64 q0.num.ao, .int .i64 q0.num.exp, .str q0.text, .sl .str q0.names .no, .sl .json q0.items .no]) [])
def PC (fn:BJ R):=aC PA PB (Ut fn)
section
def WT (x1:Bool) (k0:Json→Option R):Option R :=
 bif x1 then (k0 (⟨3,⟨0,0⟩,([]:ag),([]:List ag),([]:List Json)⟩:Json))else (k0 (⟨2,⟨0,0⟩,([]:ag),([]:List ag),([]:List Json)⟩:Json))
theorem field_Yes_ok:dD (R:=R) tt [] nJ false Tryz.f99 PA PB (Ut WT):=fun x y k=>by kernel_rfl
end
def jj:BJ R:=fun x1 k0=>WT x1 k0
theorem PD (R:Type):jQ Tryz.prog 99 (PC (jj (R:=R))):=bj TT mixed .n rfl rfl rfl rfl bX (field_Yes_ok)
end Go.Proofs.YtidfokedcnhahaaGreatDoor
/-
 Functions of the program as pure Lean functions, and the ties; printed by wip/tools/emit.py.
-/
set_option maxRecDepth 100000
namespace Go.Proofs.YtidfokedcnhahaaGreatDoor
open Go Go.aq
variable {R:Type}
/-! ### humpyard/field.Make -/
abbrev uO (R:Type):Type:=(List ag)→(List Json)→(Json→Option R)→Option R
abbrev MC:List cY := [.leaf (.sl .str), .leaf (.sl .json)]
abbrev MD:List aY := []
def Sj (fn:uO R):jR R MC MD:=fun x y k=>fn x.1 x.2.1 (fun q0=>k (.agg [.int .i64 q0.kind, .int .i64 q0.num.ao, .int .i64 q0.num.exp, .str q0.text, .sl .str q0.names .no, .sl .json q0.items .no]) [])
def ME (fn:uO R):=aC MC MD (Sj fn)
abbrev BK (R:Type):Type:=Nat→(List ag)→(List Json)→Int→Int→Int→Int→Int→ag→Int→Int→Int→ag→(List ag)→(List Json)→(Int→Int→Int→ag→Int→Int→Int→ag→(List ag)→(List Json)→Option R)→Option R
def xi:Hint := { live := [0,4,5,15,16,17],own := [],rows := [],cells := [(1,4, .str,false),(1,5, .json,false)],drop := [],out := [4,5] }
abbrev ot:Type:=(List ag)×(List Json)×Int×Int×Int×Int×Int×ag×Int×Int×Int×ag×(List ag)×(List Json)
def Ao:ot→St:=fun d=>⟨.sl .str d.1 .no::U 3 (.ptr 0 0 :: .ptr 1 0::U 9 (.sl .json d.2.1 .no :: .int .i64 d.2.2.1 :: .int .i64 d.2.2.2.1::U 30 ([]))), [.cells [.int .i64 d.2.2.2.2.1, .int .i64 d.2.2.2.2.2.1, .int .i64 d.2.2.2.2.2.2.1, .str d.2.2.2.2.2.2.2.1, .cv, .cv], .cells [.int .i64 d.2.2.2.2.2.2.2.2.1, .int .i64 d.2.2.2.2.2.2.2.2.2.1, .int .i64 d.2.2.2.2.2.2.2.2.2.2.1, .str d.2.2.2.2.2.2.2.2.2.2.2.1, .sl .str d.2.2.2.2.2.2.2.2.2.2.2.2.1 (.own 2), .sl .json d.2.2.2.2.2.2.2.2.2.2.2.2.2 (.own 3)], .tok, .tok]⟩
def BL (K:Ex→St→Option R) (q0:Int) (q1:Int) (q2:Int) (q3:ag) (q4:Int) (q5:Int) (q6:Int) (q7:ag) (q8:List ag) (q9:List Json):Option R:=K (.exit 0) ⟨U 4 (.ptr 0 0 :: .ptr 1 0::U 42 ([])), [.cells [.int .i64 q0, .int .i64 q1, .int .i64 q2, .str q3, .cv, .cv], .cells [.int .i64 q4, .int .i64 q5, .int .i64 q6, .str q7, .sl .str q8 (.own 2), .sl .json q9 (.own 3)], .tok, .tok]⟩
abbrev sb:List cY := .leaf (.sl .str)::PU 3 (.leaf (.ptr 0 0) :: .leaf (.ptr 1 0)::PU 9 (.leaf (.sl .json) :: .leaf (.int .i64) :: .leaf (.int .i64)::PU 30 ([])))
abbrev sc:List aY := [.cells [.int .i64, .int .i64, .int .i64, .str, .cv, .cv], .cells [.int .i64, .int .i64, .int .i64, .str, .Ye .str 2, .Ye .json 3], .tok, .tok]
def Lh (x:cY.cC sb) (y:aY.cC sc):Nat:=(List.length x.1+List.length ((t8 x).2.2.2.2.2.2.2.1)+Int.natAbs ((t8 (t8 x)).1)+Int.natAbs ((t8 (t8 x)).2.1)+Int.natAbs y.1.1+Int.natAbs y.1.2.1+Int.natAbs y.1.2.2.1+List.length y.1.2.2.2.1+Int.natAbs y.2.1.1+Int.natAbs y.2.1.2.1+Int.natAbs y.2.1.2.2.1+List.length y.2.1.2.2.2.1+List.length y.2.1.2.2.2.2.1+List.length y.2.1.2.2.2.2.2.1+64)
def VX (x:cY.cC sb) (y:aY.cC sc):ot:=(x.1,(t8 x).2.2.2.2.2.2.2.1,(t8 (t8 x)).1,(t8 (t8 x)).2.1,y.1.1,y.1.2.1,y.1.2.2.1,y.1.2.2.2.1,y.2.1.1,y.2.1.2.1,y.2.1.2.2.1,y.2.1.2.2.2.1,y.2.1.2.2.2.2.1,y.2.1.2.2.2.2.2.1)
def Jy (L:BK R):D7 R sb sc:=fun x y K=>L (Lh x y) x.1 ((t8 x).2.2.2.2.2.2.2.1) ((t8 (t8 x)).1) ((t8 (t8 x)).2.1) y.1.1 y.1.2.1 y.1.2.2.1 y.1.2.2.2.1 y.2.1.1 y.2.1.2.1 y.2.1.2.2.1 y.2.1.2.2.2.1 y.2.1.2.2.2.2.1 y.2.1.2.2.2.2.2.1 (BL K)
section
variable (gl:eR R) (aB:gh R) (dy:BK R)
def xj:List (lC R) := [(86,true,(Sh gl av)),(85,true,(lP aB av))]
def xk (fb:(List ag)→(List Json)→Int→Int→Int→Int→Int→ag→Int→Int→Int→ag→(List ag)→(List Json)→Option R) (x3:List ag) (x4:List Json) (x5:Int) (x6:Int) (x7:Int) (x8:Int) (x9:Int) (x10:ag) (x11:Int) (x12:Int) (VS:Int) (Xr:ag) (n9:List ag) (uP:List Json) (e0:Int→Int→Int→ag→Int→Int→Int→ag→(List ag)→(List Json)→Option R):Option R :=
 bif (decide (x6<x5))then (cx (decide ((0:Int)≤x6)&&decide (x6<x4.length)) (cx (decide ((0:Int)≤x6)&&decide (x6<x3.length)) (aB n9 (x3.getD x6.toNat (Ty.bR .str)) (fun KV=>bif (!KV)then (cx (decide ((0:Int)≤x6)&&decide (x6<x3.length)) (cx (decide ((n9.length+1)*16≤140737488355328)) (gl (⟨(x4.getD x6.toNat (Ty.bR .json)).kind,⟨(x4.getD x6.toNat (Ty.bR .json)).num.ao,(x4.getD x6.toNat (Ty.bR .json)).num.exp⟩,(x4.getD x6.toNat (Ty.bR .json)).text,(x4.getD x6.toNat (Ty.bR .json)).names,(x4.getD x6.toNat (Ty.bR .json)).items⟩:Json) (fun J4=>cx (decide ((uP.length+1)*88≤140737488355328)) (fb x3 x4 x5 (IntKind.i64.wrap (x6+1)) x7 x8 x9 x10 x11 x12 VS Xr (n9++([(x3.getD x6.toNat (Ty.bR .str))]:List ag)) (uP++([(⟨J4.kind,⟨J4.num.ao,J4.num.exp⟩,J4.text,J4.names,J4.items⟩:Json)]:List Json)))))))else (fb x3 x4 x5 (IntKind.i64.wrap (x6+1)) x7 x8 x9 x10 x11 x12 VS Xr n9 uP)))))else (e0 x7 x8 x9 x10 x11 x12 VS Xr n9 uP)
def Li (K:Ex→St→Option R) (rc:ot→Option R) (d:ot):Option R:=xk gl aB (fun z0 z1 z2 z3 z4 z5 z6 z7 z8 z9 Xs xT z12 z13=>rc (z0,z1,z2,z3,z4,z5,z6,z7,z8,z9,Xs,xT,z12,z13)) d.1 d.2.1 d.2.2.1 d.2.2.2.1 d.2.2.2.2.1 d.2.2.2.2.2.1 d.2.2.2.2.2.2.1 d.2.2.2.2.2.2.2.1 d.2.2.2.2.2.2.2.2.1 d.2.2.2.2.2.2.2.2.2.1 d.2.2.2.2.2.2.2.2.2.2.1 d.2.2.2.2.2.2.2.2.2.2.2.1 d.2.2.2.2.2.2.2.2.2.2.2.2.1 d.2.2.2.2.2.2.2.2.2.2.2.2.2 (BL K)
def BM:Nat→Option (Hint×dE R):=fun i=>match i with
 | 3=>some (xi,(dR sb sc (Jy dy) lL))
 | _=>none
theorem RS (K:Ex→St→Option R) (rc:St→Option R) (d:ot):roundOf tt (dx (xj gl aB)) (BM dy) 0 ((aN (bm Tryz.f36)).getD 0 .skip) xi (Ao d) rc K=Li gl aB K (fun d=>rc (Ao d)) d:=by kernel_rfl
def MF (x1:List ag) (x2:List Json) (k0:Json→Option R):Option R :=
 cx (decide ((0:Int)≤(min (x2.length:Int) (x1.length:Int)))&&decide ((min (x2.length:Int) (x1.length:Int))≤x2.length)) (cx (decide ((0:Int)≤(min (x2.length:Int) (x1.length:Int)))) (dy (List.length x1+List.length ((x2.drop 0).take ((min (x2.length:Int) (x1.length:Int)).toNat - 0))+Int.natAbs (((x2.drop 0).take ((min (x2.length:Int) (x1.length:Int)).toNat - 0)).length:Int)+Int.natAbs 0+Int.natAbs 0+Int.natAbs 0+Int.natAbs 0+List.length ([]:ag)+Int.natAbs 7+Int.natAbs 0+Int.natAbs 0+List.length ([]:ag)+List.length ([]:List ag)+List.length ([]:List Json)+64) x1 ((x2.drop 0).take ((min (x2.length:Int) (x1.length:Int)).toNat - 0)) (((x2.drop 0).take ((min (x2.length:Int) (x1.length:Int)).toNat - 0)).length:Int) 0 0 0 0 ([]:ag) 7 0 0 ([]:ag) ([]:List ag) ([]:List Json) (fun Pt Lg C2 Yi Si y24 AU IX FB O7=>k0 (⟨Si,⟨y24,AU⟩,IX,FB,O7⟩:Json))))
theorem field_Make_ok:dD (R:=R) tt (xj gl aB) (BM dy) false Tryz.f36 MC MD (Sj (MF dy)):=fun x y k=>by kernel_rfl
end
theorem Zy:cq (R:=R) Tryz.prog (xj (R:=R) gl aB) := .p (VV R _ (fA _)) <| .c (ph R) <| .n
def dy:BK R
 | 0,_,_,_,_,_,_,_,_,_,_,_,_,_,_,_=>none
 | n+1,jb,jf,jl,uk,Ea,FJ,RN,RO,RP,RQ,xU,J5,Td,Te,e0=>xk gl aB (fun jb jf jl uk Ea FJ RN RO RP RQ xU J5 Td Te=>dy n jb jf jl uk Ea FJ RN RO RP RQ xU J5 Td Te e0) jb jf jl uk Ea FJ RN RO RP RQ xU J5 Td Te e0
def Lj (K:Ex→St→Option R) (n:Nat) (d:ot):Option R:=dy n d.1 d.2.1 d.2.2.1 d.2.2.2.1 d.2.2.2.2.1 d.2.2.2.2.2.1 d.2.2.2.2.2.2.1 d.2.2.2.2.2.2.2.1 d.2.2.2.2.2.2.2.2.1 d.2.2.2.2.2.2.2.2.2.1 d.2.2.2.2.2.2.2.2.2.2.1 d.2.2.2.2.2.2.2.2.2.2.2.1 d.2.2.2.2.2.2.2.2.2.2.2.2.1 d.2.2.2.2.2.2.2.2.2.2.2.2.2 (BL K)
theorem Uu (other:dE R) (ho:kg tt (dx (xj (R:=R) gl aB)) (BM (R:=R) dy) 0 ((aN (bm Tryz.f36)).getD 0 .skip) xi other):kg tt (dx (xj (R:=R) gl aB)) (BM (R:=R) dy) 0 ((aN (bm Tryz.f36)).getD 0 .skip) xi (dR sb sc (Jy (dy)) other) :=
 ei (A:=Lj) ho (gd Ao (Li gl aB) (Lj) (fun _ _=>by kernel_rfl) (RS gl aB dy) (fun _ _ _=>by kernel_rfl)) Lh VX (fun _ _=>by kernel_rfl) (fun _ _ _=>by kernel_rfl)
def dK:uO R:=fun x1 x2 k0=>MF dy x1 x2 k0
theorem VY (R:Type):∀a∈aN (bm Tryz.f36),je tt (dx (xj (R:=R) gl aB)) (BM (R:=R) dy) 0 a:=by
 refine gQ 1 (by kernel_rfl) fun i hi => ?_
 match i,hi with
 | 0,_=>exact dH (by kernel_rfl) (Uu _ fk)
 | n+1,hi=>omega
theorem Ob (R:Type):jQ Tryz.prog 36 (ME (dK (R:=R))):=bj TT mixed (Zy (R:=R)) rfl rfl rfl rfl (VY R) (field_Make_ok gl aB dy)
/-! ### humpyard/json.bare -/
abbrev GR (R:Type):Type:=Json→(Json→Option R)→Option R
abbrev PE:List cY := [.agg [.int .i64, .int .i64, .int .i64, .str, .sl .str, .sl .json]]
abbrev PF:List aY := []
def Uv (fn:GR R):jR R PE PF:=fun x y k=>fn (⟨x.1.1,⟨x.1.2.1,x.1.2.2.1⟩,x.1.2.2.2.1,x.1.2.2.2.2.1,x.1.2.2.2.2.2.1⟩:Json) (fun q0=>k (.agg [.int .i64 q0.kind, .int .i64 q0.num.ao, .int .i64 q0.num.exp, .str q0.text, .sl .str q0.names .no, .sl .json q0.items .no]) [])
def WU (fn:GR R):=aC PE PF (Uv fn)
section
def Jz (x1:Json) (k0:Json→Option R):Option R :=
 bif (x1.kind==4)then (k0 (⟨x1.kind,⟨0,0⟩,x1.text,x1.names,x1.items⟩:Json))else (bif (x1.kind==5)then (k0 (⟨x1.kind,⟨x1.num.ao,x1.num.exp⟩,([]:ag),x1.names,x1.items⟩:Json))else (bif (x1.kind==7)then (k0 (⟨x1.kind,⟨x1.num.ao,x1.num.exp⟩,x1.text,([]:List ag),([]:List Json)⟩:Json))else (bif (x1.kind==6)then (k0 (⟨x1.kind,⟨x1.num.ao,x1.num.exp⟩,x1.text,x1.names,([]:List Json)⟩:Json))else (k0 (⟨x1.kind,⟨x1.num.ao,x1.num.exp⟩,x1.text,x1.names,x1.items⟩:Json)))))
theorem json_bare_ok:dD (R:=R) tt [] nJ false Tryz.f163 PE PF (Uv Jz):=fun x y k=>by kernel_rfl
end
def sd:GR R:=fun x1 k0=>Jz x1 k0
theorem Zz (R:Type):jQ Tryz.prog 163 (WU (sd (R:=R))):=bj TT mixed .n rfl rfl rfl rfl bX (json_bare_ok)
/-! ### humpyard/decimal.Right -/
abbrev ou (R:Type):Type:=fT→(Bool→Option R)→Option R
abbrev FK:List cY := [.agg [.int .i64, .int .i64]]
abbrev FL:List aY := []
def Lk (fn:ou R):jR R FK FL:=fun x y k=>fn (⟨x.1.1,x.1.2.1⟩:fT) (fun q0=>k (.bool q0) [])
def zW (fn:ou R):=aC FK FL (Lk fn)
section
variable (az:ji R)
def Oc:List (lC R) := [(135,true,(pV az av))]
def jy (x1:fT) (k0:Bool→Option R):Option R :=
 bif (x1.ao==0)then (k0 (x1.exp==0))else (bif ((Int.tmod x1.ao 10) != 0)then (az (-1000000000000000) x1.ao 1000000000000000 (fun y2=>bif y2 then (az (-9) x1.exp 9 (fun y3=>k0 y3))else (k0 false)))else (k0 false))
theorem VZ:dD (R:=R) tt (Oc az) nJ false Tryz.f164 FK FL (Lk (jy az)):=fun x y k=>by kernel_rfl
end
theorem Uw:cq (R:=R) Tryz.prog (Oc (R:=R) az) := .c (r9 R) <| .n
def bS:ou R:=fun x1 k0=>jy az x1 k0
theorem Ap (R:Type):jQ Tryz.prog 164 (zW (bS (R:=R))):=bj TT mixed (Uw (R:=R)) rfl rfl rfl rfl bX (VZ az)
/-! ### humpyard/quote.Whole -/
abbrev se (R:Type):Type:=ag→(Bool→Option R)→Option R
abbrev J6:List cY := [.leaf (.str)]
abbrev J7:List aY := []
def PG (fn:se R):jR R J6 J7:=fun x y k=>fn x.1 (fun q0=>k (.bool q0) [])
def ED (fn:se R):=aC J6 J7 (PG fn)
section
def Sk:List (lC R) := [(200,true,(valid_S R))]
def Sl (x1:ag) (k0:Bool→Option R):Option R :=
 k0 (fE x1)
theorem ZA:dD (R:=R) tt (Sk (R:=R)) nJ false Tryz.f165 J6 J7 (PG Sl):=fun x y k=>by kernel_rfl
end
theorem Xv:cq (R:=R) Tryz.prog (Sk (R:=R)) := .p (valid_ok) <| .n
def bU:se R:=fun x1 k0=>Sl x1 k0
theorem Eb (R:Type):jQ Tryz.prog 165 (ED (bU (R:=R))):=bj TT mixed (Xv (R:=R)) rfl rfl rfl rfl bX (ZA)
end Go.Proofs.YtidfokedcnhahaaGreatDoor
/-
 Functions of the program as pure Lean functions, and the ties; printed by wip/tools/emit.py.
-/
set_option maxRecDepth 100000
namespace Go.Proofs.YtidfokedcnhahaaGreatDoor
open Go Go.aq
variable {R:Type}
/-! ### humpyard/json.unique -/
abbrev BN (R:Type):Type:=(List ag)→(Bool→Option R)→Option R
abbrev J8:List cY := [.leaf (.sl .str)]
abbrev J9:List aY := []
def PH (fn:BN R):jR R J8 J9:=fun x y k=>fn x.1 (fun q0=>k (.bool q0) [])
def Sm (fn:BN R):=aC J8 J9 (PH fn)
abbrev Aq (R:Type):Type:=Nat→(List ag)→Int→Int→(List (ag×Bool))→(Option R)→(Bool→Option R)→Option R
def vQ:Hint := { live := [3,7,8,9],own := [],rows := [],cells := [],drop := [],out := [2] }
abbrev mJ:Type:=(List ag)×Int×Int×(List (ag×Bool))
def xX:mJ→St:=fun d=>⟨U 3 (.map 0::U 3 (.sl .str d.1 .no :: .int .i64 d.2.1 :: .int .i64 d.2.2.1::U 14 ([]))), [.Ae .str .bool d.2.2.2]⟩
def Ar (K:Ex→St→Option R):Option R:=K (.exit 0) ⟨U 24 ([]), []⟩
def As (K:Ex→St→Option R) (q0:Bool):Option R:=K (.ret) ⟨U 2 (.bool q0::U 21 ([])), []⟩
abbrev pX:List cY:=PU 3 (.leaf (.map 0)::PU 3 (.leaf (.sl .str) :: .leaf (.int .i64) :: .leaf (.int .i64)::PU 14 ([])))
abbrev pY:List aY := [.Ae .str .bool]
def JA (x:cY.cC pX) (y:aY.cC pY):Nat:=(List.length x.2.2.2.2.2.2.2.1+Int.natAbs ((t8 x).1)+Int.natAbs ((t8 x).2.1)+List.length y.1+64)
def Ux (x:cY.cC pX) (y:aY.cC pY):mJ:=(x.2.2.2.2.2.2.2.1,(t8 x).1,(t8 x).2.1,y.1)
def HQ (L:Aq R):D7 R pX pY:=fun x y K=>L (JA x y) x.2.2.2.2.2.2.2.1 ((t8 x).1) ((t8 x).2.1) y.1 (Ar K) (As K)
section
variable (bU:se R) (cW:Aq R)
def uQ:List (lC R) := [(165,true,(ED bU av))]
def vR (fb:(List ag)→Int→Int→(List (ag×Bool))→Option R) (x2:List ag) (x3:Int) (x4:Int) (x5:List (ag×Bool)) (e0:Option R) (e1:Bool→Option R):Option R :=
 bif (decide (x4<x3))then (cx (decide ((0:Int)≤x4)&&decide (x4<x2.length)) (bif (mm .str .bool (x2.getD x4.toNat (Ty.bR .str)) x5)then (e1 false)else (bU (x2.getD x4.toNat (Ty.bR .str)) (fun y6=>bif (!y6)then (e1 false)else (fb x2 x3 (IntKind.i64.wrap (x4+1)) (By .str .bool (x2.getD x4.toNat (Ty.bR .str)) true x5))))))else (e0)
def JB (K:Ex→St→Option R) (rc:mJ→Option R) (d:mJ):Option R:=vR bU (fun z0 z1 z2 z3=>rc (z0,z1,z2,z3)) d.1 d.2.1 d.2.2.1 d.2.2.2 (Ar K) (As K)
def zg:Nat→Option (Hint×dE R):=fun i=>match i with
 | 3=>some (vQ,(dR pX pY (HQ cW) lL))
 | _=>none
theorem PI (K:Ex→St→Option R) (rc:St→Option R) (d:mJ):roundOf tt (dx (uQ bU)) (zg cW) 0 ((aN (bm Tryz.f166)).getD 0 .skip) vQ (xX d) rc K=JB bU K (fun d=>rc (xX d)) d:=by kernel_rfl
def Sn (x1:List ag) (k0:Bool→Option R):Option R :=
 cW (List.length x1+Int.natAbs (x1.length:Int)+Int.natAbs 0+List.length ([]:List (ag×Bool))+64) x1 (x1.length:Int) 0 ([]:List (ag×Bool)) (k0 true) (fun y8=>k0 y8)
theorem ZB:dD (R:=R) tt (uQ bU) (zg cW) false Tryz.f166 J8 J9 (PH (Sn cW)):=fun x y k=>by kernel_rfl
end
theorem Xw:cq (R:=R) Tryz.prog (uQ (R:=R) bU) := .c (Eb R) <| .n
def cW:Aq R
 | 0,_,_,_,_,_,_=>none
 | n+1,jb,jf,jl,uk,e0,e1=>vR bU (fun jb jf jl uk=>cW n jb jf jl uk e0 e1) jb jf jl uk e0 e1
def JC (K:Ex→St→Option R) (n:Nat) (d:mJ):Option R:=cW n d.1 d.2.1 d.2.2.1 d.2.2.2 (Ar K) (As K)
theorem Tj (other:dE R) (ho:kg tt (dx (uQ (R:=R) bU)) (zg (R:=R) cW) 0 ((aN (bm Tryz.f166)).getD 0 .skip) vQ other):kg tt (dx (uQ (R:=R) bU)) (zg (R:=R) cW) 0 ((aN (bm Tryz.f166)).getD 0 .skip) vQ (dR pX pY (HQ (cW)) other) :=
 ei (A:=JC) ho (gd xX (JB bU) (JC) (fun _ _=>by kernel_rfl) (PI bU cW) (fun _ _ _=>by kernel_rfl)) JA Ux (fun _ _=>by kernel_rfl) (fun _ _ _=>by kernel_rfl)
def lj:BN R:=fun x1 k0=>Sn cW x1 k0
theorem Uy (R:Type):∀a∈aN (bm Tryz.f166),je tt (dx (uQ (R:=R) bU)) (zg (R:=R) cW) 0 a:=by
 refine gQ 1 (by kernel_rfl) fun i hi => ?_
 match i,hi with
 | 0,_=>exact dH (by kernel_rfl) (Tj _ fk)
 | n+1,hi=>omega
theorem V0 (R:Type):jQ Tryz.prog 166 (Sm (lj (R:=R))):=bj TT mixed (Xw (R:=R)) rfl rfl rfl rfl (Uy R) (ZB bU cW)
/-! ### humpyard/json.right -/
abbrev cQ (R:Type):Type:=Json→Int→(Bool→Option R)→Option R
abbrev gL:List cY := [.agg [.int .i64, .int .i64, .int .i64, .str, .sl .str, .sl .json], .leaf (.int .i64)]
abbrev gN:List aY := []
def eK (fn:cQ R):jR R gL gN:=fun x y k=>fn (⟨x.1.1,⟨x.1.2.1,x.1.2.2.1⟩,x.1.2.2.2.1,x.1.2.2.2.2.1,x.1.2.2.2.2.2.1⟩:Json) x.2.1 (fun q0=>k (.bool q0) [])
def Uz (fn:cQ R):=aC gL gN (eK fn)
/-! ### humpyard/json.right$1 -/
abbrev pZ (R:Type):Type:=Json→Int→(Bool→Int→Option R)→Option R
abbrev xY:List cY := [.agg [.int .i64, .int .i64, .int .i64, .str, .sl .str, .sl .json], .leaf (.ptr 0 0)]
abbrev xZ:List aY := [.cells [.int .i64]]
def EX (fn:pZ R):jR R xY xZ:=fun x y k=>fn (⟨x.1.1,⟨x.1.2.1,x.1.2.2.1⟩,x.1.2.2.2.1,x.1.2.2.2.2.1,x.1.2.2.2.2.2.1⟩:Json) y.1.1 (fun q0 q1=>k (.bool q0) [.cells [.int .i64 q1]])
def Gb (fn:pZ R):=aC xY xZ (EX fn)
section
variable (aw:cQ R)
def Gc:List (lC R) := [(121,true,(aC gL gN (eK aw) av))]
def rV (x1:Json) (x2:Int) (k0:Bool→Int→Option R):Option R :=
 aw (⟨x1.kind,⟨x1.num.ao,x1.num.exp⟩,x1.text,x1.names,x1.items⟩:Json) (IntKind.i64.wrap (x2+1)) (fun y3=>k0 (!y3) x2)
theorem PJ:dD (R:=R) tt (Gc aw) nJ false Tryz.f168 xY xZ (EX (rV aw)):=fun x y k=>by kernel_rfl
end
theorem OG (aw:cQ R) (eC:aq.Spec.Ok Tryz.prog 121 (aC gL gN (eK aw) av)):cq (R:=R) Tryz.prog (Gc (R:=R) aw) := .p eC <| .n
def cR (aw:cQ R):pZ R:=fun x1 x2 k0=>rV aw x1 x2 k0
theorem MG (R:Type) (aw:cQ R) (eC:aq.Spec.Ok Tryz.prog 121 (aC gL gN (eK aw) av)):jQ Tryz.prog 168 (Gb (cR aw)):=bj TT mixed (OG aw eC) rfl rfl rfl rfl bX (PJ aw)
/-! ### slices.IndexFunc[[]humpyard/api.Json,humpyard/api.Json] -/
abbrev gX (R:Type):Type:=(List Json)→Int→(Int→Int→Option R)→Option R
abbrev kq:List cY := [.leaf (.sl .json), .func 168 [] [.ptr 0 0]]
abbrev kr:List aY := [.cells [.int .i64]]
def pj (fn:gX R):jR R kq kr:=fun x y k=>fn x.1 y.1.1 (fun q0 q1=>k (.int .i64 q0) [.cells [.int .i64 q1]])
def p7 (fn:gX R):=aC kq kr (pj fn)
abbrev iM (R:Type):Type:=Nat→(List Json)→Int→Int→Int→(Int→Option R)→(Int→Int→Option R)→Option R
def gm:Hint := { live := [0,1,7,8],own := [],rows := [],cells := [],drop := [],out := [4] }
abbrev dN:Type:=(List Json)×Int×Int×Int
def iG:dN→St:=fun d=>⟨.sl .json d.1 .no :: .func 168 [] [.ptr 0 0]::U 5 (.int .i64 d.2.1 :: .int .i64 d.2.2.1::U 10 ([])), [.cells [.int .i64 d.2.2.2]]⟩
def iN (K:Ex→St→Option R) (q0:Int):Option R:=K (.exit 0) ⟨U 19 ([]), [.cells [.int .i64 q0]]⟩
def iO (K:Ex→St→Option R) (q0:Int) (q1:Int):Option R:=K (.ret) ⟨U 4 (.int .i64 q0::U 14 ([])), [.cells [.int .i64 q1]]⟩
abbrev eS:List cY := .leaf (.sl .json) :: .func 168 [] [.ptr 0 0]::PU 5 (.leaf (.int .i64) :: .leaf (.int .i64)::PU 10 ([]))
abbrev eT:List aY := [.cells [.int .i64]]
def nq (x:cY.cC eS) (y:aY.cC eT):Nat:=(List.length x.1+Int.natAbs x.2.2.2.2.2.2.2.1+Int.natAbs ((t8 x).1)+Int.natAbs y.1.1+64)
def ya (x:cY.cC eS) (y:aY.cC eT):dN:=(x.1,x.2.2.2.2.2.2.2.1,(t8 x).1,y.1.1)
def mK (L:iM R):D7 R eS eT:=fun x y K=>L (nq x y) x.1 x.2.2.2.2.2.2.2.1 ((t8 x).1) y.1.1 (iN K) (iO K)
section
variable (cR:pZ R) (aP:iM R)
def eJ:List (lC R) := [(168,false,(Gb cR av))]
def gn (fb:(List Json)→Int→Int→Int→Option R) (x3:List Json) (x4:Int) (x5:Int) (x6:Int) (e0:Int→Option R) (e1:Int→Int→Option R):Option R :=
 bif (decide (x5<x4))then (cx (decide ((0:Int)≤x5)&&decide (x5<x3.length)) (cR (⟨(x3.getD x5.toNat (Ty.bR .json)).kind,⟨(x3.getD x5.toNat (Ty.bR .json)).num.ao,(x3.getD x5.toNat (Ty.bR .json)).num.exp⟩,(x3.getD x5.toNat (Ty.bR .json)).text,(x3.getD x5.toNat (Ty.bR .json)).names,(x3.getD x5.toNat (Ty.bR .json)).items⟩:Json) x6 (fun y7 y8=>bif y7 then (e1 x5 y8)else (fb x3 x4 (IntKind.i64.wrap (x5+1)) y8))))else (e0 x6)
def nr (K:Ex→St→Option R) (rc:dN→Option R) (d:dN):Option R:=gn cR (fun z0 z1 z2 z3=>rc (z0,z1,z2,z3)) d.1 d.2.1 d.2.2.1 d.2.2.2 (iN K) (iO K)
def fF:Nat→Option (Hint×dE R):=fun i=>match i with
 | 2=>some (gm,(dR eS eT (mK aP) lL))
 | _=>none
theorem wi (K:Ex→St→Option R) (rc:St→Option R) (d:dN):roundOf tt (dx (eJ cR)) (fF aP) 1 ((aN (bm Tryz.f201)).getD 0 .skip) gm (iG d) rc K=nr cR K (fun d=>rc (iG d)) d:=by kernel_rfl
def p8 (x1:List Json) (x2:Int) (k0:Int→Int→Option R):Option R :=
 aP (List.length x1+Int.natAbs (x1.length:Int)+Int.natAbs 0+Int.natAbs x2+64) x1 (x1.length:Int) 0 x2 (fun y9=>k0 (-1) y9) (fun oc uf=>k0 oc uf)
theorem Bm:dD (R:=R) tt (eJ cR) (fF aP) false Tryz.f201 kq kr (pj (p8 aP)):=fun x y k=>by kernel_rfl
end
theorem Au (aw:cQ R) (eC:aq.Spec.Ok Tryz.prog 121 (aC gL gN (eK aw) av)):cq (R:=R) Tryz.prog (eJ (R:=R) (cR aw)) := .d (MG R aw eC) rfl <| .n
def aP (aw:cQ R):iM R
 | 0,_,_,_,_,_,_=>none
 | n+1,jb,jf,jl,uk,e0,e1=>gn (cR aw) (fun jb jf jl uk=>aP aw n jb jf jl uk e0 e1) jb jf jl uk e0 e1
def nt (aw:cQ R) (K:Ex→St→Option R) (n:Nat) (d:dN):Option R:=aP aw n d.1 d.2.1 d.2.2.1 d.2.2.2 (iN K) (iO K)
theorem xl (aw:cQ R) (other:dE R) (ho:kg tt (dx (eJ (R:=R) (cR aw))) (fF (R:=R) (aP aw)) 1 ((aN (bm Tryz.f201)).getD 0 .skip) gm other):kg tt (dx (eJ (R:=R) (cR aw))) (fF (R:=R) (aP aw)) 1 ((aN (bm Tryz.f201)).getD 0 .skip) gm (dR eS eT (mK (aP aw)) other) :=
 ei (A:=nt aw) ho (gd iG (nr (cR aw)) (nt aw) (fun _ _=>by kernel_rfl) (wi (cR aw) (aP aw)) (fun _ _ _=>by kernel_rfl)) nq ya (fun _ _=>by kernel_rfl) (fun _ _ _=>by kernel_rfl)
def cS (aw:cQ R):gX R:=fun x1 x2 k0=>p8 (aP aw) x1 x2 k0
theorem yb (R:Type) (aw:cQ R) (eC:aq.Spec.Ok Tryz.prog 121 (aC gL gN (eK aw) av)):∀a∈aN (bm Tryz.f201),je tt (dx (eJ (R:=R) (cR aw))) (fF (R:=R) (aP aw)) 1 a:=by
 refine gQ 1 (by kernel_rfl) fun i hi => ?_
 match i,hi with
 | 0,_=>exact dH (by kernel_rfl) (xl aw _ fk)
 | n+1,hi=>omega
theorem zh (R:Type) (aw:cQ R) (eC:aq.Spec.Ok Tryz.prog 121 (aC gL gN (eK aw) av)):jQ Tryz.prog 201 (p7 (cS aw)):=bj TT mixed (Au aw eC) rfl rfl rfl rfl (yb R aw eC) (Bm (cR aw) (aP aw))
/-! ### slices.ContainsFunc[[]humpyard/api.Json,humpyard/api.Json] -/
abbrev gp (R:Type):Type:=(List Json)→Int→(Bool→Int→Option R)→Option R
abbrev jm:List cY := [.leaf (.sl .json), .func 168 [] [.ptr 0 0]]
abbrev jn:List aY := [.cells [.int .i64]]
def nu (fn:gp R):jR R jm jn:=fun x y k=>fn x.1 y.1.1 (fun q0 q1=>k (.bool q0) [.cells [.int .i64 q1]])
def od (fn:gp R):=aC jm jn (nu fn)
section
variable (cS:gX R)
def oe:List (lC R) := [(201,false,(p7 cS av))]
def og (x1:List Json) (x2:Int) (k0:Bool→Int→Option R):Option R :=
 cS x1 x2 (fun y3 y4=>k0 (decide (y3≥(0:Int))) y4)
theorem yc:dD (R:=R) tt (oe cS) nJ false Tryz.f167 jm jn (nu (og cS)):=fun x y k=>by kernel_rfl
end
theorem xm (aw:cQ R) (eC:aq.Spec.Ok Tryz.prog 121 (aC gL gN (eK aw) av)):cq (R:=R) Tryz.prog (oe (R:=R) (cS aw)) := .d (zh R aw eC) rfl <| .n
def aO (aw:cQ R):gp R:=fun x1 x2 k0=>og (cS aw) x1 x2 k0
theorem wH (R:Type) (aw:cQ R) (eC:aq.Spec.Ok Tryz.prog 121 (aC gL gN (eK aw) av)):jQ Tryz.prog 167 (od (aO aw)):=bj TT mixed (xm aw eC) rfl rfl rfl rfl bX (yc (cS aw))
section
variable (bU:se R) (bS:ou R) (sd:GR R) (lj:BN R) (aO:gp R)
def UA:List (lC R) := [(165,true,(ED bU av)),(164,true,(zW bS av)),(163,true,(WU sd av)),(166,true,(Sm lj av)),(167,false,(od aO av))]
def GS (x1:Json) (x2:Int) (k0:Bool→Option R):Option R :=
 sd (⟨x1.kind,⟨x1.num.ao,x1.num.exp⟩,x1.text,x1.names,x1.items⟩:Json) (fun y3=>bif (decide (x2>(16:Int)))then (k0 false)else (bif (decide (x1.kind<(1:Int)))then (k0 false)else (bif (decide (x1.kind>(7:Int)))then (k0 false)else (bif (!(y3.num.ao==0&&(y3.num.exp==0&&true)))then (k0 false)else (bif (!(y3.text==([]:ag)))then (k0 false)else (bif (decide ((IntKind.i64.wrap ((y3.names.length:Int)+(y3.items.length:Int)))>(0:Int)))then (k0 false)else (bif (x1.kind==4)then (bS x1.num (fun y5=>k0 y5))else (bif (x1.kind==5)then (bU x1.text (fun y6=>k0 y6))else (bif (x1.kind==7)then (bif ((x1.names.length:Int) != (x1.items.length:Int))then (k0 false)else (lj x1.names (fun y7=>bif (!y7)then (k0 false)else (aO x1.items x2 (fun uf za=>k0 (!uf))))))else (aO x1.items x2 (fun FM Gd=>k0 (!FM))))))))))))
theorem json_right_ok:dD (R:=R) tt (UA bU bS sd lj aO) nJ false Tryz.f121 gL gN (eK (GS bU bS sd lj aO)):=fun x y k=>by kernel_rfl
end
theorem ZC (aw:cQ R) (eC:aq.Spec.Ok Tryz.prog 121 (aC gL gN (eK aw) av)):cq (R:=R) Tryz.prog (UA (R:=R) bU bS sd lj (aO aw)) := .c (Eb R) <| .c (Ap R) <| .c (Zz R) <| .c (V0 R) <| .d (wH R aw eC) rfl <| .n
def MH (aw:cQ R):cQ R:=fun x1 x2 k0=>GS bU bS sd lj (aO aw) x1 x2 k0
theorem V1 (R:Type) (aw:cQ R) (eC:aq.Spec.Ok Tryz.prog 121 (aC gL gN (eK aw) av)):jQ Tryz.prog 121 (Uz (MH aw)):=bj TT mixed (ZC aw eC) rfl rfl rfl rfl bX (json_right_ok bU bS sd lj (aO aw))
def eZ:Nat→cQ R
 | 0,_,_,_=>none
 | n+1,jb,jf,k0'=>MH (eZ n) jb jf k0'
theorem json_right_N_succ (n:Nat):eZ (R:=R) (n+1)=MH (eZ n):=by kernel_rfl
theorem Xx (R:Type):∀n,aq.Spec.Ok Tryz.prog 121 (aC gL gN (eK (eZ (R:=R) n)) av) :=
 AT (run:=fun n=>eK (eZ (R:=R) n)) (fun x y k=>by kernel_rfl) fun n hyp=>V1 R (eZ n) hyp av (fA _)
def oI:cQ R:=fun x1 x2 k0=>eZ (Json.depth x1+2) x1 x2 k0
theorem Xy (R:Type):eK (R:=R) oI=fun x y k=>eK (eZ (Json.depth (⟨x.1.1,⟨x.1.2.1,x.1.2.2.1⟩,x.1.2.2.2.1,x.1.2.2.2.2.1,x.1.2.2.2.2.2.1⟩:Json)+2)) x y k:=by kernel_rfl
theorem Xz (R:Type) (other:aq.Spec R) (ho:aq.Spec.Ok Tryz.prog 121 other):aq.Spec.Ok Tryz.prog 121 (aC gL gN (eK oI) other) :=
 HH (Le (run:=fun n=>eK (eZ (R:=R) n)) (fun x y=>(Json.depth (⟨x.1.1,⟨x.1.2.1,x.1.2.2.1⟩,x.1.2.2.2.1,x.1.2.2.2.2.1,x.1.2.2.2.2.2.1⟩:Json)+2)) ho (Xx R)) (Xy R)
/-! ### humpyard/json.Right -/
abbrev EE (R:Type):Type:=Json→(Bool→Option R)→Option R
abbrev MI:List cY := [.agg [.int .i64, .int .i64, .int .i64, .str, .sl .str, .sl .json]]
abbrev MJ:List aY := []
def So (fn:EE R):jR R MI MJ:=fun x y k=>fn (⟨x.1.1,⟨x.1.2.1,x.1.2.2.1⟩,x.1.2.2.2.1,x.1.2.2.2.2.1,x.1.2.2.2.2.2.1⟩:Json) (fun q0=>k (.bool q0) [])
def UB (fn:EE R):=aC MI MJ (So fn)
section
variable (oI:cQ R)
def UC:List (lC R) := [(121,true,(Uz oI av))]
def GU (x1:Json) (k0:Bool→Option R):Option R :=
 oI (⟨x1.kind,⟨x1.num.ao,x1.num.exp⟩,x1.text,x1.names,x1.items⟩:Json) 1 (fun y2=>k0 y2)
theorem json_Right_ok:dD (R:=R) tt (UC oI) nJ false Tryz.f82 MI MJ (So (GU oI)):=fun x y k=>by kernel_rfl
end
theorem ZD:cq (R:=R) Tryz.prog (UC (R:=R) oI) := .p (Xz R _ (fA _)) <| .n
def na:EE R:=fun x1 k0=>GU oI x1 k0
theorem XA (R:Type):jQ Tryz.prog 82 (UB (na (R:=R))):=bj TT mixed (ZD (R:=R)) rfl rfl rfl rfl bX (json_Right_ok oI)
/-! ### (*strings.Builder).WriteString -/
abbrev dT (R:Type):Type:=ag→(Int→(List Int)→Option R)→Option R
abbrev jF:List cY := [.leaf (.ptr 0 0), .leaf (.str)]
abbrev jG:List aY := [.mE (.cv)]
def oh (fn:dT R):jR R jF jG:=fun x y k=>fn x.2.1 (fun q0 q1=>k (.tuple [.int .i64 q0, .dJ]) [.mE (.sl (.int .u8) q1 (.own 1)), .tok])
def gO (fn:dT R):=aC jF jG (oh fn)
section
def oJ:List (lC R) := [(171,false,(WO R))]
def oK (x1:ag) (k0:Int→(List Int)→Option R):Option R :=
 cx (decide ((0+(gR x1).length)*1≤140737488355328)) (k0 (x1.length:Int) (gR x1))
theorem zi:dD (R:=R) tt (oJ (R:=R)) nJ false Tryz.f124 jF jG (oh oK):=fun x y k=>by kernel_rfl
end
theorem yd:cq (R:=R) Tryz.prog (oJ (R:=R)) := .f (Zu) rfl <| .n
def ai:dT R:=fun x1 k0=>oK x1 k0
theorem iP (R:Type):jQ Tryz.prog 124 (gO (ai (R:=R))):=bj TT mixed (yd (R:=R)) rfl rfl rfl rfl bX (zi)
/-! ### (*strings.Builder).WriteByte -/
abbrev ez (R:Type):Type:=Int→((List Int)→Option R)→Option R
abbrev ku:List cY := [.leaf (.ptr 0 0), .leaf (.int .u8)]
abbrev kv:List aY := [.mE (.cv)]
def pk (fn:ez R):jR R ku kv:=fun x y k=>fn x.2.1 (fun q0=>k (.dJ) [.mE (.sl (.int .u8) q0 (.own 1)), .tok])
def hP (fn:ez R):=aC ku kv (pk fn)
section
def p9:List (lC R) := [(171,false,(WO R))]
def qa (x1:Int) (k0:(List Int)→Option R):Option R :=
 k0 ([x1]:List Int)
theorem Bn:dD (R:=R) tt (p9 (R:=R)) nJ false Tryz.f126 ku kv (pk qa):=fun x y k=>by kernel_rfl
end
theorem Av:cq (R:=R) Tryz.prog (p9 (R:=R)) := .f (Zu) rfl <| .n
def aj:ez R:=fun x1 k0=>qa x1 k0
theorem jq (R:Type):jQ Tryz.prog 126 (hP (aj (R:=R))):=bj TT mixed (Av (R:=R)) rfl rfl rfl rfl bX (Bn)
/-! ### (*strings.Builder).WriteString -/
abbrev dd (R:Type):Type:=ag→(List Int)→(Int→(List Int)→Option R)→Option R
abbrev jH:List cY := [.leaf (.ptr 0 0), .leaf (.str)]
abbrev jI:List aY := [.mE (.Ye (.int .u8) 1), .tok]
def oi (fn:dd R):jR R jH jI:=fun x y k=>fn x.2.1 y.1 (fun q0 q1=>k (.tuple [.int .i64 q0, .dJ]) [.mE (.sl (.int .u8) q1 (.own 2)), .dead, .tok])
def fj (fn:dd R):=aC jH jI (oi fn)
section
def oL:List (lC R) := [(171,false,(WO R))]
def oM (x1:ag) (x2:List Int) (k0:Int→(List Int)→Option R):Option R :=
 cx (decide ((x2.length+(gR x1).length)*1≤140737488355328)) (k0 (x1.length:Int) ((x2:List Int)++((gR x1):List Int)))
theorem zj:dD (R:=R) tt (oL (R:=R)) nJ false Tryz.f124 jH jI (oi oM):=fun x y k=>by kernel_rfl
end
theorem ye:cq (R:=R) Tryz.prog (oL (R:=R)) := .f (Zu) rfl <| .n
def ae:dd R:=fun x1 x2 k0=>oM x1 x2 k0
theorem fZ (R:Type):jQ Tryz.prog 124 (fj (ae (R:=R))):=bj TT mixed (ye (R:=R)) rfl rfl rfl rfl bX (zj)
end Go.Proofs.YtidfokedcnhahaaGreatDoor
/-
 Functions of the program as pure Lean functions, and the ties; printed by wip/tools/emit.py.
-/
set_option maxRecDepth 100000
namespace Go.Proofs.YtidfokedcnhahaaGreatDoor
open Go Go.aq
variable {R:Type}
/-! ### humpyard/decimal.Print -/
abbrev sf (R:Type):Type:=fT→(ag→Option R)→Option R
abbrev FN:List cY := [.agg [.int .i64, .int .i64]]
abbrev FO:List aY := []
def Ll (fn:sf R):jR R FN FO:=fun x y k=>fn (⟨x.1.1,x.1.2.1⟩:fT) (fun q0=>k (.str q0) [])
def FP (fn:sf R):=aC FN FO (Ll fn)
section
variable (bS:ou R) (aj:ez R) (ae:dd R) (ai:dT R)
def Od:List (lC R) := [(164,true,(zW bS av)),(126,false,(hP aj av)),(124,false,(gO ai (fj ae av))),(84,false,(MB R)),(172,true,(itoa_S R)),(173,true,(rep_S R))]
def pI (x1:fT) (k0:ag→Option R):Option R :=
 bS x1 (fun y2=>bif (!y2)then (k0 ([]:ag))else (bif (decide (x1.ao<(0:Int)))then (aj 45 (fun y3=>bif (decide (x1.exp≥(0:Int)))then (cx (decide (0≤x1.exp)&&decide ((([48]:ag).length:Int)*x1.exp≤140737488355328)) (cx (decide ((cz (max x1.ao (IntKind.i64.wrap (0 - x1.ao)))).length+(lh ([48]:ag) x1.exp).length≤9223372036854775807)) (ae ((cz (max x1.ao (IntKind.i64.wrap (0 - x1.ao))))++(lh ([48]:ag) x1.exp)) y3 (fun y4 y5=>k0 (wh y5)))))else (cx (decide (0≤(max 0 (IntKind.i64.wrap ((IntKind.i64.wrap (1 - x1.exp)) - ((cz (max x1.ao (IntKind.i64.wrap (0 - x1.ao)))).length:Int)))))&&decide ((([48]:ag).length:Int)*(max 0 (IntKind.i64.wrap ((IntKind.i64.wrap (1 - x1.exp)) - ((cz (max x1.ao (IntKind.i64.wrap (0 - x1.ao)))).length:Int))))≤140737488355328)) (cx (decide ((lh ([48]:ag) (max 0 (IntKind.i64.wrap ((IntKind.i64.wrap (1 - x1.exp)) - ((cz (max x1.ao (IntKind.i64.wrap (0 - x1.ao)))).length:Int))))).length+(cz (max x1.ao (IntKind.i64.wrap (0 - x1.ao)))).length≤9223372036854775807)) (cx (decide ((0:Int)≤(IntKind.i64.wrap ((((lh ([48]:ag) (max 0 (IntKind.i64.wrap ((IntKind.i64.wrap (1 - x1.exp)) - ((cz (max x1.ao (IntKind.i64.wrap (0 - x1.ao)))).length:Int)))))++(cz (max x1.ao (IntKind.i64.wrap (0 - x1.ao))))).length:Int)+x1.exp)))&&decide ((IntKind.i64.wrap ((((lh ([48]:ag) (max 0 (IntKind.i64.wrap ((IntKind.i64.wrap (1 - x1.exp)) - ((cz (max x1.ao (IntKind.i64.wrap (0 - x1.ao)))).length:Int)))))++(cz (max x1.ao (IntKind.i64.wrap (0 - x1.ao))))).length:Int)+x1.exp))≤((lh ([48]:ag) (max 0 (IntKind.i64.wrap ((IntKind.i64.wrap (1 - x1.exp)) - ((cz (max x1.ao (IntKind.i64.wrap (0 - x1.ao)))).length:Int)))))++(cz (max x1.ao (IntKind.i64.wrap (0 - x1.ao))))).length)) (cx (decide ((0:Int)≤(IntKind.i64.wrap ((((lh ([48]:ag) (max 0 (IntKind.i64.wrap ((IntKind.i64.wrap (1 - x1.exp)) - ((cz (max x1.ao (IntKind.i64.wrap (0 - x1.ao)))).length:Int)))))++(cz (max x1.ao (IntKind.i64.wrap (0 - x1.ao))))).length:Int)+x1.exp)))) (cx (decide (((((lh ([48]:ag) (max 0 (IntKind.i64.wrap ((IntKind.i64.wrap (1 - x1.exp)) - ((cz (max x1.ao (IntKind.i64.wrap (0 - x1.ao)))).length:Int)))))++(cz (max x1.ao (IntKind.i64.wrap (0 - x1.ao))))).drop 0).take ((IntKind.i64.wrap ((((lh ([48]:ag) (max 0 (IntKind.i64.wrap ((IntKind.i64.wrap (1 - x1.exp)) - ((cz (max x1.ao (IntKind.i64.wrap (0 - x1.ao)))).length:Int)))))++(cz (max x1.ao (IntKind.i64.wrap (0 - x1.ao))))).length:Int)+x1.exp)).toNat - 0)).length+1≤9223372036854775807)) (cx (decide ((0:Int)≤(((lh ([48]:ag) (max 0 (IntKind.i64.wrap ((IntKind.i64.wrap (1 - x1.exp)) - ((cz (max x1.ao (IntKind.i64.wrap (0 - x1.ao)))).length:Int)))))++(cz (max x1.ao (IntKind.i64.wrap (0 - x1.ao))))).length:Int))&&decide ((((lh ([48]:ag) (max 0 (IntKind.i64.wrap ((IntKind.i64.wrap (1 - x1.exp)) - ((cz (max x1.ao (IntKind.i64.wrap (0 - x1.ao)))).length:Int)))))++(cz (max x1.ao (IntKind.i64.wrap (0 - x1.ao))))).length:Int)≤((lh ([48]:ag) (max 0 (IntKind.i64.wrap ((IntKind.i64.wrap (1 - x1.exp)) - ((cz (max x1.ao (IntKind.i64.wrap (0 - x1.ao)))).length:Int)))))++(cz (max x1.ao (IntKind.i64.wrap (0 - x1.ao))))).length)) (cx (decide ((0:Int)≤(IntKind.i64.wrap ((((lh ([48]:ag) (max 0 (IntKind.i64.wrap ((IntKind.i64.wrap (1 - x1.exp)) - ((cz (max x1.ao (IntKind.i64.wrap (0 - x1.ao)))).length:Int)))))++(cz (max x1.ao (IntKind.i64.wrap (0 - x1.ao))))).length:Int)+x1.exp)))&&decide ((IntKind.i64.wrap ((((lh ([48]:ag) (max 0 (IntKind.i64.wrap ((IntKind.i64.wrap (1 - x1.exp)) - ((cz (max x1.ao (IntKind.i64.wrap (0 - x1.ao)))).length:Int)))))++(cz (max x1.ao (IntKind.i64.wrap (0 - x1.ao))))).length:Int)+x1.exp))≤(((lh ([48]:ag) (max 0 (IntKind.i64.wrap ((IntKind.i64.wrap (1 - x1.exp)) - ((cz (max x1.ao (IntKind.i64.wrap (0 - x1.ao)))).length:Int)))))++(cz (max x1.ao (IntKind.i64.wrap (0 - x1.ao))))).length:Int))) (cx (decide ((((((lh ([48]:ag) (max 0 (IntKind.i64.wrap ((IntKind.i64.wrap (1 - x1.exp)) - ((cz (max x1.ao (IntKind.i64.wrap (0 - x1.ao)))).length:Int)))))++(cz (max x1.ao (IntKind.i64.wrap (0 - x1.ao))))).drop 0).take ((IntKind.i64.wrap ((((lh ([48]:ag) (max 0 (IntKind.i64.wrap ((IntKind.i64.wrap (1 - x1.exp)) - ((cz (max x1.ao (IntKind.i64.wrap (0 - x1.ao)))).length:Int)))))++(cz (max x1.ao (IntKind.i64.wrap (0 - x1.ao))))).length:Int)+x1.exp)).toNat - 0))++([46]:ag)).length+((((lh ([48]:ag) (max 0 (IntKind.i64.wrap ((IntKind.i64.wrap (1 - x1.exp)) - ((cz (max x1.ao (IntKind.i64.wrap (0 - x1.ao)))).length:Int)))))++(cz (max x1.ao (IntKind.i64.wrap (0 - x1.ao))))).drop (IntKind.i64.wrap ((((lh ([48]:ag) (max 0 (IntKind.i64.wrap ((IntKind.i64.wrap (1 - x1.exp)) - ((cz (max x1.ao (IntKind.i64.wrap (0 - x1.ao)))).length:Int)))))++(cz (max x1.ao (IntKind.i64.wrap (0 - x1.ao))))).length:Int)+x1.exp)).toNat).take ((((lh ([48]:ag) (max 0 (IntKind.i64.wrap ((IntKind.i64.wrap (1 - x1.exp)) - ((cz (max x1.ao (IntKind.i64.wrap (0 - x1.ao)))).length:Int)))))++(cz (max x1.ao (IntKind.i64.wrap (0 - x1.ao))))).length:Int).toNat - (IntKind.i64.wrap ((((lh ([48]:ag) (max 0 (IntKind.i64.wrap ((IntKind.i64.wrap (1 - x1.exp)) - ((cz (max x1.ao (IntKind.i64.wrap (0 - x1.ao)))).length:Int)))))++(cz (max x1.ao (IntKind.i64.wrap (0 - x1.ao))))).length:Int)+x1.exp)).toNat)).length≤9223372036854775807)) (ae ((((((lh ([48]:ag) (max 0 (IntKind.i64.wrap ((IntKind.i64.wrap (1 - x1.exp)) - ((cz (max x1.ao (IntKind.i64.wrap (0 - x1.ao)))).length:Int)))))++(cz (max x1.ao (IntKind.i64.wrap (0 - x1.ao))))).drop 0).take ((IntKind.i64.wrap ((((lh ([48]:ag) (max 0 (IntKind.i64.wrap ((IntKind.i64.wrap (1 - x1.exp)) - ((cz (max x1.ao (IntKind.i64.wrap (0 - x1.ao)))).length:Int)))))++(cz (max x1.ao (IntKind.i64.wrap (0 - x1.ao))))).length:Int)+x1.exp)).toNat - 0))++([46]:ag))++((((lh ([48]:ag) (max 0 (IntKind.i64.wrap ((IntKind.i64.wrap (1 - x1.exp)) - ((cz (max x1.ao (IntKind.i64.wrap (0 - x1.ao)))).length:Int)))))++(cz (max x1.ao (IntKind.i64.wrap (0 - x1.ao))))).drop (IntKind.i64.wrap ((((lh ([48]:ag) (max 0 (IntKind.i64.wrap ((IntKind.i64.wrap (1 - x1.exp)) - ((cz (max x1.ao (IntKind.i64.wrap (0 - x1.ao)))).length:Int)))))++(cz (max x1.ao (IntKind.i64.wrap (0 - x1.ao))))).length:Int)+x1.exp)).toNat).take ((((lh ([48]:ag) (max 0 (IntKind.i64.wrap ((IntKind.i64.wrap (1 - x1.exp)) - ((cz (max x1.ao (IntKind.i64.wrap (0 - x1.ao)))).length:Int)))))++(cz (max x1.ao (IntKind.i64.wrap (0 - x1.ao))))).length:Int).toNat - (IntKind.i64.wrap ((((lh ([48]:ag) (max 0 (IntKind.i64.wrap ((IntKind.i64.wrap (1 - x1.exp)) - ((cz (max x1.ao (IntKind.i64.wrap (0 - x1.ao)))).length:Int)))))++(cz (max x1.ao (IntKind.i64.wrap (0 - x1.ao))))).length:Int)+x1.exp)).toNat))) y3 (fun y6 y7=>k0 (wh y7)))))))))))))else (bif (decide (x1.exp≥(0:Int)))then (cx (decide (0≤x1.exp)&&decide ((([48]:ag).length:Int)*x1.exp≤140737488355328)) (cx (decide ((cz (max x1.ao (IntKind.i64.wrap (0 - x1.ao)))).length+(lh ([48]:ag) x1.exp).length≤9223372036854775807)) (ai ((cz (max x1.ao (IntKind.i64.wrap (0 - x1.ao))))++(lh ([48]:ag) x1.exp)) (fun y8 y9=>k0 (wh y9)))))else (cx (decide (0≤(max 0 (IntKind.i64.wrap ((IntKind.i64.wrap (1 - x1.exp)) - ((cz (max x1.ao (IntKind.i64.wrap (0 - x1.ao)))).length:Int)))))&&decide ((([48]:ag).length:Int)*(max 0 (IntKind.i64.wrap ((IntKind.i64.wrap (1 - x1.exp)) - ((cz (max x1.ao (IntKind.i64.wrap (0 - x1.ao)))).length:Int))))≤140737488355328)) (cx (decide ((lh ([48]:ag) (max 0 (IntKind.i64.wrap ((IntKind.i64.wrap (1 - x1.exp)) - ((cz (max x1.ao (IntKind.i64.wrap (0 - x1.ao)))).length:Int))))).length+(cz (max x1.ao (IntKind.i64.wrap (0 - x1.ao)))).length≤9223372036854775807)) (cx (decide ((0:Int)≤(IntKind.i64.wrap ((((lh ([48]:ag) (max 0 (IntKind.i64.wrap ((IntKind.i64.wrap (1 - x1.exp)) - ((cz (max x1.ao (IntKind.i64.wrap (0 - x1.ao)))).length:Int)))))++(cz (max x1.ao (IntKind.i64.wrap (0 - x1.ao))))).length:Int)+x1.exp)))&&decide ((IntKind.i64.wrap ((((lh ([48]:ag) (max 0 (IntKind.i64.wrap ((IntKind.i64.wrap (1 - x1.exp)) - ((cz (max x1.ao (IntKind.i64.wrap (0 - x1.ao)))).length:Int)))))++(cz (max x1.ao (IntKind.i64.wrap (0 - x1.ao))))).length:Int)+x1.exp))≤((lh ([48]:ag) (max 0 (IntKind.i64.wrap ((IntKind.i64.wrap (1 - x1.exp)) - ((cz (max x1.ao (IntKind.i64.wrap (0 - x1.ao)))).length:Int)))))++(cz (max x1.ao (IntKind.i64.wrap (0 - x1.ao))))).length)) (cx (decide ((0:Int)≤(IntKind.i64.wrap ((((lh ([48]:ag) (max 0 (IntKind.i64.wrap ((IntKind.i64.wrap (1 - x1.exp)) - ((cz (max x1.ao (IntKind.i64.wrap (0 - x1.ao)))).length:Int)))))++(cz (max x1.ao (IntKind.i64.wrap (0 - x1.ao))))).length:Int)+x1.exp)))) (cx (decide (((((lh ([48]:ag) (max 0 (IntKind.i64.wrap ((IntKind.i64.wrap (1 - x1.exp)) - ((cz (max x1.ao (IntKind.i64.wrap (0 - x1.ao)))).length:Int)))))++(cz (max x1.ao (IntKind.i64.wrap (0 - x1.ao))))).drop 0).take ((IntKind.i64.wrap ((((lh ([48]:ag) (max 0 (IntKind.i64.wrap ((IntKind.i64.wrap (1 - x1.exp)) - ((cz (max x1.ao (IntKind.i64.wrap (0 - x1.ao)))).length:Int)))))++(cz (max x1.ao (IntKind.i64.wrap (0 - x1.ao))))).length:Int)+x1.exp)).toNat - 0)).length+1≤9223372036854775807)) (cx (decide ((0:Int)≤(((lh ([48]:ag) (max 0 (IntKind.i64.wrap ((IntKind.i64.wrap (1 - x1.exp)) - ((cz (max x1.ao (IntKind.i64.wrap (0 - x1.ao)))).length:Int)))))++(cz (max x1.ao (IntKind.i64.wrap (0 - x1.ao))))).length:Int))&&decide ((((lh ([48]:ag) (max 0 (IntKind.i64.wrap ((IntKind.i64.wrap (1 - x1.exp)) - ((cz (max x1.ao (IntKind.i64.wrap (0 - x1.ao)))).length:Int)))))++(cz (max x1.ao (IntKind.i64.wrap (0 - x1.ao))))).length:Int)≤((lh ([48]:ag) (max 0 (IntKind.i64.wrap ((IntKind.i64.wrap (1 - x1.exp)) - ((cz (max x1.ao (IntKind.i64.wrap (0 - x1.ao)))).length:Int)))))++(cz (max x1.ao (IntKind.i64.wrap (0 - x1.ao))))).length)) (cx (decide ((0:Int)≤(IntKind.i64.wrap ((((lh ([48]:ag) (max 0 (IntKind.i64.wrap ((IntKind.i64.wrap (1 - x1.exp)) - ((cz (max x1.ao (IntKind.i64.wrap (0 - x1.ao)))).length:Int)))))++(cz (max x1.ao (IntKind.i64.wrap (0 - x1.ao))))).length:Int)+x1.exp)))&&decide ((IntKind.i64.wrap ((((lh ([48]:ag) (max 0 (IntKind.i64.wrap ((IntKind.i64.wrap (1 - x1.exp)) - ((cz (max x1.ao (IntKind.i64.wrap (0 - x1.ao)))).length:Int)))))++(cz (max x1.ao (IntKind.i64.wrap (0 - x1.ao))))).length:Int)+x1.exp))≤(((lh ([48]:ag) (max 0 (IntKind.i64.wrap ((IntKind.i64.wrap (1 - x1.exp)) - ((cz (max x1.ao (IntKind.i64.wrap (0 - x1.ao)))).length:Int)))))++(cz (max x1.ao (IntKind.i64.wrap (0 - x1.ao))))).length:Int))) (cx (decide ((((((lh ([48]:ag) (max 0 (IntKind.i64.wrap ((IntKind.i64.wrap (1 - x1.exp)) - ((cz (max x1.ao (IntKind.i64.wrap (0 - x1.ao)))).length:Int)))))++(cz (max x1.ao (IntKind.i64.wrap (0 - x1.ao))))).drop 0).take ((IntKind.i64.wrap ((((lh ([48]:ag) (max 0 (IntKind.i64.wrap ((IntKind.i64.wrap (1 - x1.exp)) - ((cz (max x1.ao (IntKind.i64.wrap (0 - x1.ao)))).length:Int)))))++(cz (max x1.ao (IntKind.i64.wrap (0 - x1.ao))))).length:Int)+x1.exp)).toNat - 0))++([46]:ag)).length+((((lh ([48]:ag) (max 0 (IntKind.i64.wrap ((IntKind.i64.wrap (1 - x1.exp)) - ((cz (max x1.ao (IntKind.i64.wrap (0 - x1.ao)))).length:Int)))))++(cz (max x1.ao (IntKind.i64.wrap (0 - x1.ao))))).drop (IntKind.i64.wrap ((((lh ([48]:ag) (max 0 (IntKind.i64.wrap ((IntKind.i64.wrap (1 - x1.exp)) - ((cz (max x1.ao (IntKind.i64.wrap (0 - x1.ao)))).length:Int)))))++(cz (max x1.ao (IntKind.i64.wrap (0 - x1.ao))))).length:Int)+x1.exp)).toNat).take ((((lh ([48]:ag) (max 0 (IntKind.i64.wrap ((IntKind.i64.wrap (1 - x1.exp)) - ((cz (max x1.ao (IntKind.i64.wrap (0 - x1.ao)))).length:Int)))))++(cz (max x1.ao (IntKind.i64.wrap (0 - x1.ao))))).length:Int).toNat - (IntKind.i64.wrap ((((lh ([48]:ag) (max 0 (IntKind.i64.wrap ((IntKind.i64.wrap (1 - x1.exp)) - ((cz (max x1.ao (IntKind.i64.wrap (0 - x1.ao)))).length:Int)))))++(cz (max x1.ao (IntKind.i64.wrap (0 - x1.ao))))).length:Int)+x1.exp)).toNat)).length≤9223372036854775807)) (ai ((((((lh ([48]:ag) (max 0 (IntKind.i64.wrap ((IntKind.i64.wrap (1 - x1.exp)) - ((cz (max x1.ao (IntKind.i64.wrap (0 - x1.ao)))).length:Int)))))++(cz (max x1.ao (IntKind.i64.wrap (0 - x1.ao))))).drop 0).take ((IntKind.i64.wrap ((((lh ([48]:ag) (max 0 (IntKind.i64.wrap ((IntKind.i64.wrap (1 - x1.exp)) - ((cz (max x1.ao (IntKind.i64.wrap (0 - x1.ao)))).length:Int)))))++(cz (max x1.ao (IntKind.i64.wrap (0 - x1.ao))))).length:Int)+x1.exp)).toNat - 0))++([46]:ag))++((((lh ([48]:ag) (max 0 (IntKind.i64.wrap ((IntKind.i64.wrap (1 - x1.exp)) - ((cz (max x1.ao (IntKind.i64.wrap (0 - x1.ao)))).length:Int)))))++(cz (max x1.ao (IntKind.i64.wrap (0 - x1.ao))))).drop (IntKind.i64.wrap ((((lh ([48]:ag) (max 0 (IntKind.i64.wrap ((IntKind.i64.wrap (1 - x1.exp)) - ((cz (max x1.ao (IntKind.i64.wrap (0 - x1.ao)))).length:Int)))))++(cz (max x1.ao (IntKind.i64.wrap (0 - x1.ao))))).length:Int)+x1.exp)).toNat).take ((((lh ([48]:ag) (max 0 (IntKind.i64.wrap ((IntKind.i64.wrap (1 - x1.exp)) - ((cz (max x1.ao (IntKind.i64.wrap (0 - x1.ao)))).length:Int)))))++(cz (max x1.ao (IntKind.i64.wrap (0 - x1.ao))))).length:Int).toNat - (IntKind.i64.wrap ((((lh ([48]:ag) (max 0 (IntKind.i64.wrap ((IntKind.i64.wrap (1 - x1.exp)) - ((cz (max x1.ao (IntKind.i64.wrap (0 - x1.ao)))).length:Int)))))++(cz (max x1.ao (IntKind.i64.wrap (0 - x1.ao))))).length:Int)+x1.exp)).toNat))) (fun oc uf=>k0 (wh uf))))))))))))))
theorem V2:dD (R:=R) tt (Od bS aj ae ai) nJ false Tryz.f125 FN FO (Ll (pI bS aj ae ai)):=fun x y k=>by kernel_rfl
end
theorem UD:cq (R:=R) Tryz.prog (Od (R:=R) bS aj ae ai) := .c (Ap R) <| .d (jq R) rfl <| .f (iP R _ (fZ R _ (fA _))) rfl <| .s (Yh) Ro <| .p (itoa_ok) <| .p (rep_ok) <| .n
def bT:sf R:=fun x1 k0=>pI bS aj ae ai x1 k0
theorem HR (R:Type):jQ Tryz.prog 125 (FP (bT (R:=R))):=bj TT mixed (UD (R:=R)) rfl rfl rfl rfl bX (V2 bS aj ae ai)
/-! ### humpyard/quote.short -/
abbrev BO (R:Type):Type:=Int→(Int→Option R)→Option R
abbrev Ka:List cY := [.leaf (.int .i32)]
abbrev Kb:List aY := []
def PK (fn:BO R):jR R Ka Kb:=fun x y k=>fn x.1 (fun q0=>k (.int .u8 q0) [])
def Sp (fn:BO R):=aC Ka Kb (PK fn)
section
def EF (x1:Int) (k0:Int→Option R):Option R :=
 bif (x1==34)then (bif (x1==34)then (k0 (IntKind.u8.wrap x1))else (bif (x1==8)then (k0 98)else (bif (x1==12)then (k0 102)else (bif (x1==10)then (k0 110)else (bif (x1==13)then (k0 114)else (bif (x1==9)then (k0 116)else (k0 0)))))))else (bif (x1==92)then (k0 (IntKind.u8.wrap x1))else (bif (x1==8)then (k0 98)else (bif (x1==12)then (k0 102)else (bif (x1==10)then (k0 110)else (bif (x1==13)then (k0 114)else (bif (x1==9)then (k0 116)else (k0 0)))))))
theorem ZE:dD (R:=R) tt [] nJ false Tryz.f169 Ka Kb (PK EF):=fun x y k=>by kernel_rfl
end
def fm:BO R:=fun x1 k0=>EF x1 k0
theorem V3 (R:Type):jQ Tryz.prog 169 (Sp (fm (R:=R))):=bj TT mixed .n rfl rfl rfl rfl bX (ZE)
/-! ### (*strings.Builder).WriteByte -/
abbrev eA (R:Type):Type:=Int→(List Int)→((List Int)→Option R)→Option R
abbrev kz:List cY := [.leaf (.ptr 0 0), .leaf (.int .u8)]
abbrev kA:List aY := [.mE (.Ye (.int .u8) 1), .tok]
def pn (fn:eA R):jR R kz kA:=fun x y k=>fn x.2.1 y.1 (fun q0=>k (.dJ) [.mE (.sl (.int .u8) q0 (.own 2)), .dead, .tok])
def hQ (fn:eA R):=aC kz kA (pn fn)
section
def qd:List (lC R) := [(171,false,(WO R))]
def qe (x1:Int) (x2:List Int) (k0:(List Int)→Option R):Option R :=
 cx (decide ((x2.length+1)*1≤140737488355328)) (k0 ((x2:List Int)++(([x1]:List Int):List Int)))
theorem Bo:dD (R:=R) tt (qd (R:=R)) nJ false Tryz.f126 kz kA (pn qe):=fun x y k=>by kernel_rfl
end
theorem Aw:cq (R:=R) Tryz.prog (qd (R:=R)) := .f (Zu) rfl <| .n
def ad:eA R:=fun x1 x2 k0=>qe x1 x2 k0
theorem jr (R:Type):jQ Tryz.prog 126 (hQ (ad (R:=R))):=bj TT mixed (Aw (R:=R)) rfl rfl rfl rfl bX (Bo)
/-! ### unicode/utf8.appendRuneNonASCII -/
abbrev fv (R:Type):Type:=(List Int)→Int→((List Int)→Option R)→Option R
abbrev iH:List cY := [.leaf (.Ye (.int .u8) 0), .leaf (.int .i32)]
abbrev iI:List aY := [.tok]
def l0 (fn:fv R):jR R iH iI:=fun x y k=>fn x.1 x.2.1 (fun q0=>k (.sl (.int .u8) q0 (.own 1)) [.dead, .tok])
def mw (fn:fv R):=aC iH iI (l0 fn)
section
def fG (x1:List Int) (x2:Int) (k0:(List Int)→Option R):Option R :=
 bif (decide ((IntKind.u32.wrap x2)≤(2047:Int)))then (cx (decide ((x1.length+2)*1≤140737488355328)) (k0 ((x1:List Int)++(([(IntKind.u8.wrap ((BitVec.ofInt IntKind.u8.bits 192 ||| BitVec.ofInt IntKind.u8.bits (IntKind.u8.wrap (Int.fdiv x2 (2 ^ (min 6 IntKind.i32.bits))))).toNat:Int)),(IntKind.u8.wrap ((BitVec.ofInt IntKind.u8.bits 128 ||| BitVec.ofInt IntKind.u8.bits (IntKind.u8.wrap ((BitVec.ofInt IntKind.u8.bits (IntKind.u8.wrap x2) &&& BitVec.ofInt IntKind.u8.bits 63).toNat:Int))).toNat:Int))]:List Int):List Int))))else (let j6:=fun (z3:Bool)=>bif z3 then (cx (decide ((x1.length+3)*1≤140737488355328)) (k0 ((x1:List Int)++(([(IntKind.u8.wrap ((BitVec.ofInt IntKind.u8.bits 224 ||| BitVec.ofInt IntKind.u8.bits (IntKind.u8.wrap (Int.fdiv x2 (2 ^ (min 12 IntKind.i32.bits))))).toNat:Int)),(IntKind.u8.wrap ((BitVec.ofInt IntKind.u8.bits 128 ||| BitVec.ofInt IntKind.u8.bits (IntKind.u8.wrap ((BitVec.ofInt IntKind.u8.bits (IntKind.u8.wrap (Int.fdiv x2 (2 ^ (min 6 IntKind.i32.bits)))) &&& BitVec.ofInt IntKind.u8.bits 63).toNat:Int))).toNat:Int)),(IntKind.u8.wrap ((BitVec.ofInt IntKind.u8.bits 128 ||| BitVec.ofInt IntKind.u8.bits (IntKind.u8.wrap ((BitVec.ofInt IntKind.u8.bits (IntKind.u8.wrap x2) &&& BitVec.ofInt IntKind.u8.bits 63).toNat:Int))).toNat:Int))]:List Int):List Int))))else (let j5:=fun (z4:Bool)=>bif z4 then (cx (decide ((x1.length+4)*1≤140737488355328)) (k0 ((x1:List Int)++(([(IntKind.u8.wrap ((BitVec.ofInt IntKind.u8.bits 240 ||| BitVec.ofInt IntKind.u8.bits (IntKind.u8.wrap (Int.fdiv x2 (2 ^ (min 18 IntKind.i32.bits))))).toNat:Int)),(IntKind.u8.wrap ((BitVec.ofInt IntKind.u8.bits 128 ||| BitVec.ofInt IntKind.u8.bits (IntKind.u8.wrap ((BitVec.ofInt IntKind.u8.bits (IntKind.u8.wrap (Int.fdiv x2 (2 ^ (min 12 IntKind.i32.bits)))) &&& BitVec.ofInt IntKind.u8.bits 63).toNat:Int))).toNat:Int)),(IntKind.u8.wrap ((BitVec.ofInt IntKind.u8.bits 128 ||| BitVec.ofInt IntKind.u8.bits (IntKind.u8.wrap ((BitVec.ofInt IntKind.u8.bits (IntKind.u8.wrap (Int.fdiv x2 (2 ^ (min 6 IntKind.i32.bits)))) &&& BitVec.ofInt IntKind.u8.bits 63).toNat:Int))).toNat:Int)),(IntKind.u8.wrap ((BitVec.ofInt IntKind.u8.bits 128 ||| BitVec.ofInt IntKind.u8.bits (IntKind.u8.wrap ((BitVec.ofInt IntKind.u8.bits (IntKind.u8.wrap x2) &&& BitVec.ofInt IntKind.u8.bits 63).toNat:Int))).toNat:Int))]:List Int):List Int))))else (cx (decide ((x1.length+3)*1≤140737488355328)) (k0 ((x1:List Int)++(([239,191,189]:List Int):List Int)))); bif (decide ((IntKind.u32.wrap x2)>(65535:Int)))then (j5 (decide ((IntKind.u32.wrap x2)≤(1114111:Int))))else (j5 false)); bif (decide ((IntKind.u32.wrap x2)<(55296:Int)))then (j6 (decide ((IntKind.u32.wrap x2)<(55296:Int))))else (bif (decide ((57343:Int)<(IntKind.u32.wrap x2)))then (j6 (decide ((IntKind.u32.wrap x2)≤(65535:Int))))else (j6 false)))
theorem wj:dD (R:=R) tt [] nJ true Tryz.f224 iH iI (l0 fG):=fun x y k=>by kernel_rfl
end
def cj:fv R:=fun x1 x2 k0=>fG x1 x2 k0
theorem uv (R:Type):jQ Tryz.prog 224 (mw (cj (R:=R))):=bj TT mixed .n rfl rfl rfl rfl bX (wj)
/-! ### unicode/utf8.AppendRune -/
abbrev iC (R:Type):Type:=(List Int)→Int→((List Int)→Option R)→Option R
abbrev lS:List cY := [.leaf (.Ye (.int .u8) 0), .leaf (.int .i32)]
abbrev lT:List aY := [.tok]
def rL (fn:iC R):jR R lS lT:=fun x y k=>fn x.1 x.2.1 (fun q0=>k (.sl (.int .u8) q0 (.own 1)) [.dead, .tok])
def si (fn:iC R):=aC lS lT (rL fn)
section
variable (cj:fv R)
def sj:List (lC R) := [(224,false,(mw cj av))]
def iQ (x1:List Int) (x2:Int) (k0:(List Int)→Option R):Option R :=
 bif (decide ((IntKind.u32.wrap x2)≤(127:Int)))then (cx (decide ((x1.length+1)*1≤140737488355328)) (k0 ((x1:List Int)++(([(IntKind.u8.wrap x2)]:List Int):List Int))))else (cj x1 x2 (fun y3=>k0 y3))
theorem C9:dD (R:=R) tt (sj cj) nJ true Tryz.f202 lS lT (rL (iQ cj)):=fun x y k=>by kernel_rfl
end
theorem BP:cq (R:=R) Tryz.prog (sj (R:=R) cj) := .d (uv R) rfl <| .n
def cG:iC R:=fun x1 x2 k0=>iQ cj x1 x2 k0
theorem Bp (R:Type):jQ Tryz.prog 202 (si (cG (R:=R))):=bj TT mixed (BP (R:=R)) rfl rfl rfl rfl bX (C9 cj)
/-! ### (*strings.Builder).WriteRune -/
abbrev fp (R:Type):Type:=Int→(List Int)→(Int→(List Int)→Option R)→Option R
abbrev kB:List cY := [.leaf (.ptr 0 0), .leaf (.int .i32)]
abbrev kC:List aY := [.mE (.Ye (.int .u8) 1), .tok]
def po (fn:fp R):jR R kB kC:=fun x y k=>fn x.2.1 y.1 (fun q0 q1=>k (.tuple [.int .i64 q0, .dJ]) [.mE (.sl (.int .u8) q1 (.own 2)), .dead, .tok])
def kD (fn:fp R):=aC kB kC (po fn)
section
variable (cG:iC R)
def qf:List (lC R) := [(171,false,(WO R)),(202,false,(si cG av))]
def hU (x1:Int) (x2:List Int) (k0:Int→(List Int)→Option R):Option R :=
 cG x2 x1 (fun y3=>k0 (IntKind.i64.wrap ((y3.length:Int) - (x2.length:Int))) y3)
theorem Bq:dD (R:=R) tt (qf cG) nJ false Tryz.f170 kB kC (po (hU cG)):=fun x y k=>by kernel_rfl
end
theorem Ax:cq (R:=R) Tryz.prog (qf (R:=R) cG) := .f (Zu) rfl <| .d (Bp R) rfl <| .n
def ak:fp R:=fun x1 x2 k0=>hU cG x1 x2 k0
theorem oj (R:Type):jQ Tryz.prog 170 (kD (ak (R:=R))):=bj TT mixed (Ax (R:=R)) rfl rfl rfl rfl bX (Bq cG)
end Go.Proofs.YtidfokedcnhahaaGreatDoor
/-
 Functions of the program as pure Lean functions, and the ties; printed by wip/tools/emit.py.
-/
set_option maxRecDepth 100000
namespace Go.Proofs.YtidfokedcnhahaaGreatDoor
open Go Go.aq
variable {R:Type}
/-! ### humpyard/lexer.while -/
abbrev wI (R:Type):Type:=ag→ag→(ag→Option R)→Option R
abbrev Kc:List cY := [.leaf (.str), .leaf (.str)]
abbrev Kd:List aY := []
def PL (fn:wI R):jR R Kc Kd:=fun x y k=>fn x.1 x.2.1 (fun q0=>k (.str q0) [])
def Ke (fn:wI R):=aC Kc Kd (PL fn)
section
def Sq:List (lC R) := [(105,true,(Rp R))]
def EG (x1:ag) (x2:ag) (k0:ag→Option R):Option R :=
 cx (wB x2&&decide (x2.length<4294967281)) (cx (decide ((0:Int)≤(IntKind.i64.wrap ((x1.length:Int) - ((bx x1 x2).length:Int))))&&decide ((IntKind.i64.wrap ((x1.length:Int) - ((bx x1 x2).length:Int)))≤x1.length)) (cx (decide ((0:Int)≤(IntKind.i64.wrap ((x1.length:Int) - ((bx x1 x2).length:Int))))) (k0 ((x1.drop 0).take ((IntKind.i64.wrap ((x1.length:Int) - ((bx x1 x2).length:Int))).toNat - 0)))))
theorem ZF:dD (R:=R) tt (Sq (R:=R)) nJ false Tryz.f118 Kc Kd (PL EG):=fun x y k=>by kernel_rfl
end
theorem XB:cq (R:=R) Tryz.prog (Sq (R:=R)) := .p (Um) <| .n
def cO:wI R:=fun x1 x2 k0=>EG x1 x2 k0
theorem Lm (R:Type):jQ Tryz.prog 118 (Ke (cO (R:=R))):=bj TT mixed (XB (R:=R)) rfl rfl rfl rfl bX (ZF)
/-! ### (*humpyard/decimal.reader).sign -/
abbrev hY (R:Type):Type:=ag→ag→(Int→ag→Option R)→Option R
abbrev oN:List cY := [.leaf (.ptr 0 0), .leaf (.str)]
abbrev oO:List aY := [.cells [.str]]
def vS (fn:hY R):jR R oN oO:=fun x y k=>fn x.2.1 y.1.1 (fun q0 q1=>k (.int .u8 q0) [.cells [.str q1]])
def oP (fn:hY R):=aC oN oO (vS fn)
section
def wJ:List (lC R) := [(159,true,(idx_S R))]
def kE (x1:ag) (x2:ag) (k0:Int→ag→Option R):Option R :=
 bif (x2==([]:ag))then (k0 0 x2)else (cx (decide ((0:Int)<x2.length)) (bif (decide ((EC x1 ((x2.getD 0 0).toNat:Int))<(0:Int)))then (k0 0 x2)else (cx (decide ((0:Int)<x2.length)) (cx (decide ((0:Int)≤(x2.length:Int))&&decide ((x2.length:Int)≤x2.length)) (cx (decide ((1:Int)≤(x2.length:Int))) (k0 ((x2.getD 0 0).toNat:Int) ((x2.drop 1).take ((x2.length:Int).toNat - 1))))))))
theorem GV:dD (R:=R) tt (wJ (R:=R)) nJ false Tryz.f190 oN oO (vS kE):=fun x y k=>by kernel_rfl
end
theorem FQ:cq (R:=R) Tryz.prog (wJ (R:=R)) := .p (idx_ok) <| .n
def aU:hY R:=fun x1 x2 k0=>kE x1 x2 k0
theorem th (R:Type):jQ Tryz.prog 190 (oP (aU (R:=R))):=bj TT mixed (FQ (R:=R)) rfl rfl rfl rfl bX (GV)
/-! ### (*humpyard/decimal.reader).digits -/
abbrev gG (R:Type):Type:=ag→(ag→ag→Option R)→Option R
abbrev nc:List cY := [.leaf (.ptr 0 0)]
abbrev nd:List aY := [.cells [.str]]
def ti (fn:gG R):jR R nc nd:=fun x y k=>fn y.1.1 (fun q0 q1=>k (.str q0) [.cells [.str q1]])
def nf (fn:gG R):=aC nc nd (ti fn)
section
def uw:List (lC R) := [(105,true,(Rp R))]
def jz (x1:ag) (k0:ag→ag→Option R):Option R :=
 cx (wB ([48,49,50,51,52,53,54,55,56,57]:ag)&&decide (([48,49,50,51,52,53,54,55,56,57]:ag).length<4294967281)) (cx (decide ((0:Int)≤(IntKind.i64.wrap ((x1.length:Int) - ((bx x1 ([48,49,50,51,52,53,54,55,56,57]:ag)).length:Int))))&&decide ((IntKind.i64.wrap ((x1.length:Int) - ((bx x1 ([48,49,50,51,52,53,54,55,56,57]:ag)).length:Int)))≤x1.length)) (cx (decide ((0:Int)≤(IntKind.i64.wrap ((x1.length:Int) - ((bx x1 ([48,49,50,51,52,53,54,55,56,57]:ag)).length:Int))))) (k0 ((x1.drop 0).take ((IntKind.i64.wrap ((x1.length:Int) - ((bx x1 ([48,49,50,51,52,53,54,55,56,57]:ag)).length:Int))).toNat - 0)) (bx x1 ([48,49,50,51,52,53,54,55,56,57]:ag)))))
theorem EY:dD (R:=R) tt (uw (R:=R)) nJ false Tryz.f191 nc nd (ti jz):=fun x y k=>by kernel_rfl
end
theorem Ec:cq (R:=R) Tryz.prog (uw (R:=R)) := .p (Um) <| .n
def aR:gG R:=fun x1 k0=>jz x1 k0
theorem rM (R:Type):jQ Tryz.prog 191 (nf (aR (R:=R))):=bj TT mixed (Ec (R:=R)) rfl rfl rfl rfl bX (EY)
/-! ### (*humpyard/decimal.reader).exponent -/
abbrev iE (R:Type):Type:=ag→(Int→Bool→ag→Option R)→Option R
abbrev lU:List cY := [.leaf (.ptr 0 0)]
abbrev lV:List aY := [.cells [.str]]
def rN (fn:iE R):jR R lU lV:=fun x y k=>fn y.1.1 (fun q0 q1 q2=>k (.tuple [.int .i64 q0, .bool q1]) [.cells [.str q2]])
def sk (fn:iE R):=aC lU lV (rN fn)
section
variable (aU:hY R) (aR:gG R)
def sn:List (lC R) := [(190,false,(oP aU av)),(191,false,(nf aR av)),(194,true,(atoi_S R))]
def iR (x1:ag) (k0:Int→Bool→ag→Option R):Option R :=
 aU ([43,45]:ag) x1 (fun y2 y3=>aR y3 (fun y4 y5=>cx (decide (y4.length≤281474976710656)) (bif wC y4 then (bif (decide ((eG y4)>(1000000:Int)))then (bif (y2==45)then (k0 (-1000000) (!(y4==([]:ag))) y5)else (k0 1000000 (!(y4==([]:ag))) y5))else (bif (y2==45)then (k0 (IntKind.i64.wrap (0 - (eG y4))) (!(y4==([]:ag))) y5)else (k0 (eG y4) (!(y4==([]:ag))) y5)))else (bif (!(y4==([]:ag)))then (bif (y2==45)then (k0 (-1000000) (!(y4==([]:ag))) y5)else (k0 1000000 (!(y4==([]:ag))) y5))else (bif (decide ((eG y4)>(1000000:Int)))then (bif (y2==45)then (k0 (-1000000) (!(y4==([]:ag))) y5)else (k0 1000000 (!(y4==([]:ag))) y5))else (bif (y2==45)then (k0 (IntKind.i64.wrap (0 - (eG y4))) (!(y4==([]:ag))) y5)else (k0 (eG y4) (!(y4==([]:ag))) y5)))))))
theorem Da:dD (R:=R) tt (sn aU aR) nJ false Tryz.f192 lU lV (rN (iR aU aR)):=fun x y k=>by kernel_rfl
end
theorem BQ:cq (R:=R) Tryz.prog (sn (R:=R) aU aR) := .d (th R) rfl <| .d (rM R) rfl <| .p (atoi_ok) <| .n
def bA:iE R:=fun x1 k0=>iR aU aR x1 k0
theorem Br (R:Type):jQ Tryz.prog 192 (sk (bA (R:=R))):=bj TT mixed (BQ (R:=R)) rfl rfl rfl rfl bX (Da aU aR)
/-! ### humpyard/decimal.Parse -/
abbrev xn (R:Type):Type:=ag→(fT→Bool→Option R)→Option R
abbrev FR:List cY := [.leaf (.str)]
abbrev FT:List aY := []
def Ln (fn:xn R):jR R FR FT:=fun x y k=>fn x.1 (fun q0 q1=>k (.tuple [.agg [.int .i64 q0.ao, .int .i64 q0.exp], .bool q1]) [])
def Oe (fn:xn R):=aC FR FT (Ln fn)
section
variable (bk:uu R) (aU:hY R) (aR:gG R) (bA:iE R)
def Of:List (lC R) := [(97,true,(HM bk av)),(190,false,(oP aU av)),(191,false,(nf aR av)),(192,false,(sk bA av)),(105,true,(Rp R)),(193,true,(trimR_S R)),(194,true,(atoi_S R))]
def pJ (x1:ag) (k0:fT→Bool→Option R):Option R :=
 aU ([45]:ag) x1 (fun y2 y3=>aR y3 (fun y4 y5=>let j32:=let j31:=fun (xT:ag) (z12:Int) (z13:ag)=>let j30:=fun (z19:Int) (z20:ag)=>cx (wB ([48]:ag)&&decide (([48]:ag).length<4294967281)) (cx (wB ([48]:ag)&&decide (([48]:ag).length<4294967281)) (bif (!(z20==([]:ag)))then (k0 (⟨0,0⟩:fT) false)else (bif (decide (((cL (bx xT ([48]:ag)) ([48]:ag)).length:Int)>(18:Int)))then (k0 (⟨0,0⟩:fT) false)else (let j29:=bif (y2 != 0)then (bk (IntKind.i64.wrap (0 - (eG (([48]:ag)++(cL (bx xT ([48]:ag)) ([48]:ag)))))) (IntKind.i64.wrap (z19+(IntKind.i64.wrap (((bx xT ([48]:ag)).length:Int) - ((cL (bx xT ([48]:ag)) ([48]:ag)).length:Int))))) (fun AU IX=>k0 AU IX))else (bk (eG (([48]:ag)++(cL (bx xT ([48]:ag)) ([48]:ag)))) (IntKind.i64.wrap (z19+(IntKind.i64.wrap (((bx xT ([48]:ag)).length:Int) - ((cL (bx xT ([48]:ag)) ([48]:ag)).length:Int))))) (fun FB O7=>k0 FB O7)); cx (decide (1+(cL (bx xT ([48]:ag)) ([48]:ag)).length≤9223372036854775807)) (cx (decide ((([48]:ag)++(cL (bx xT ([48]:ag)) ([48]:ag))).length≤281474976710656)) (bif wC (([48]:ag)++(cL (bx xT ([48]:ag)) ([48]:ag)))then (j29)else (j29))))))); aU ([101,69]:ag) z13 (fun Gd Ed=>bif (Gd != 0)then (bA Ed (fun An KV J4=>bif (!KV)then (k0 (⟨0,0⟩:fT) false)else (j30 (IntKind.i64.wrap (z12+An)) J4)))else (j30 z12 Ed)); aU ([46]:ag) y5 (fun y7 y8=>bif (y7 != 0)then (aR y8 (fun y9 oc=>bif (y9==([]:ag))then (k0 (⟨0,0⟩:fT) false)else (cx (decide (y4.length+y9.length≤9223372036854775807)) (j31 (y4++y9) (IntKind.i64.wrap (0 - (y9.length:Int))) oc))))else (j31 y4 0 y8)); bif (decide ((x1.length:Int)>(400:Int)))then (k0 (⟨0,0⟩:fT) false)else (bif (y4==([]:ag))then (k0 (⟨0,0⟩:fT) false)else (bif (decide ((y4.length:Int)>(1:Int)))then (cx (decide ((0:Int)<y4.length)) (bif (((y4.getD 0 0).toNat:Int)==48)then (k0 (⟨0,0⟩:fT) false)else (j32)))else (j32)))))
theorem V4:dD (R:=R) tt (Of bk aU aR bA) nJ false Tryz.f157 FR FT (Ln (pJ bk aU aR bA)):=fun x y k=>by kernel_rfl
end
theorem UE:cq (R:=R) Tryz.prog (Of (R:=R) bk aU aR bA) := .c (Jx R) <| .d (th R) rfl <| .d (rM R) rfl <| .d (Br R) rfl <| .p (Um) <| .p (trimR_ok) <| .p (atoi_ok) <| .n
def er:xn R:=fun x1 k0=>pJ bk aU aR bA x1 k0
theorem Tk (R:Type):jQ Tryz.prog 157 (Oe (er (R:=R))):=bj TT mixed (UE (R:=R)) rfl rfl rfl rfl bX (V4 bk aU aR bA)
/-! ### internal/stringslite.HasPrefix -/
abbrev gY (R:Type):Type:=ag→ag→(Bool→Option R)→Option R
abbrev kF:List cY := [.leaf (.str), .leaf (.str)]
abbrev kG:List aY := []
def pq (fn:gY R):jR R kF kG:=fun x y k=>fn x.1 x.2.1 (fun q0=>k (.bool q0) [])
def qg (fn:gY R):=aC kF kG (pq fn)
section
def hZ (x1:ag) (x2:ag) (k0:Bool→Option R):Option R :=
 bif (decide ((x1.length:Int)≥(x2.length:Int)))then (cx (decide ((0:Int)≤(x2.length:Int))&&decide ((x2.length:Int)≤x1.length)) (cx (decide ((0:Int)≤(x2.length:Int))) (k0 (((x1.drop 0).take ((x2.length:Int).toNat - 0))==x2))))else (k0 false)
theorem Bs:dD (R:=R) tt [] nJ false Tryz.f228 kF kG (pq hZ):=fun x y k=>by kernel_rfl
end
def cA:gY R:=fun x1 x2 k0=>hZ x1 x2 k0
theorem zk (R:Type):jQ Tryz.prog 228 (qg (cA (R:=R))):=bj TT mixed .n rfl rfl rfl rfl bX (Bs)
/-! ### internal/stringslite.CutPrefix -/
abbrev gZ (R:Type):Type:=ag→ag→(ag→Bool→Option R)→Option R
abbrev kH:List cY := [.leaf (.str), .leaf (.str)]
abbrev kI:List aY := []
def pr (fn:gZ R):jR R kH kI:=fun x y k=>fn x.1 x.2.1 (fun q0 q1=>k (.tuple [.str q0, .bool q1]) [])
def qh (fn:gZ R):=aC kH kI (pr fn)
section
variable (cA:gY R)
def qi:List (lC R) := [(228,true,(qg cA av))]
def ia (x1:ag) (x2:ag) (k0:ag→Bool→Option R):Option R :=
 cA x1 x2 (fun y3=>bif (!y3)then (k0 x1 false)else (cx (decide ((0:Int)≤(x1.length:Int))&&decide ((x1.length:Int)≤x1.length)) (cx (decide ((0:Int)≤(x2.length:Int))&&decide ((x2.length:Int)≤(x1.length:Int))) (k0 ((x1.drop (x2.length:Int).toNat).take ((x1.length:Int).toNat - (x2.length:Int).toNat)) true))))
theorem Bt:dD (R:=R) tt (qi cA) nJ false Tryz.f241 kH kI (pr (ia cA)):=fun x y k=>by kernel_rfl
end
theorem Ay:cq (R:=R) Tryz.prog (qi (R:=R) cA) := .c (zk R) <| .n
def cJ:gZ R:=fun x1 x2 k0=>ia cA x1 x2 k0
theorem zm (R:Type):jQ Tryz.prog 241 (qh (cJ (R:=R))):=bj TT mixed (Ay (R:=R)) rfl rfl rfl rfl bX (Bt cA)
/-! ### strings.CutPrefix -/
abbrev qj (R:Type):Type:=ag→ag→(ag→Bool→Option R)→Option R
abbrev yf:List cY := [.leaf (.str), .leaf (.str)]
abbrev yg:List aY := []
def EZ (fn:qj R):jR R yf yg:=fun x y k=>fn x.1 x.2.1 (fun q0 q1=>k (.tuple [.str q0, .bool q1]) [])
def Ge (fn:qj R):=aC yf yg (EZ fn)
section
variable (cJ:gZ R)
def Gf:List (lC R) := [(241,true,(qh cJ av))]
def Gg (x1:ag) (x2:ag) (k0:ag→Bool→Option R):Option R :=
 cJ x1 x2 (fun y3 y4=>k0 y3 y4)
theorem PM:dD (R:=R) tt (Gf cJ) nJ false Tryz.f220 yf yg (EZ (Gg cJ)):=fun x y k=>by kernel_rfl
end
theorem OH:cq (R:=R) Tryz.prog (Gf (R:=R) cJ) := .c (zm R) <| .n
def fH:qj R:=fun x1 x2 k0=>Gg cJ x1 x2 k0
theorem MK (R:Type):jQ Tryz.prog 220 (Ge (fH (R:=R))):=bj TT mixed (OH (R:=R)) rfl rfl rfl rfl bX (PM cJ)
/-! ### (*humpyard/quote.reader).skip -/
abbrev jc (R:Type):Type:=ag→ag→(Bool→ag→Option R)→Option R
abbrev qD:List cY := [.leaf (.ptr 0 0), .leaf (.str)]
abbrev qE:List aY := [.cells [.str]]
def xC (fn:jc R):jR R qD qE:=fun x y k=>fn x.2.1 y.1.1 (fun q0 q1=>k (.bool q0) [.cells [.str q1]])
def qF (fn:jc R):=aC qD qE (xC fn)
section
variable (fH:qj R)
def zn:List (lC R) := [(220,true,(Ge fH av))]
def zo (x1:ag) (x2:ag) (k0:Bool→ag→Option R):Option R :=
 fH x2 x1 (fun y3 y4=>k0 y4 y3)
theorem IY:dD (R:=R) tt (zn fH) nJ false Tryz.f195 qD qE (xC (zo fH)):=fun x y k=>by kernel_rfl
end
theorem HS:cq (R:=R) Tryz.prog (zn (R:=R) fH) := .c (MK R) <| .n
def aK:jc R:=fun x1 x2 k0=>zo fH x1 x2 k0
theorem vT (R:Type):jQ Tryz.prog 195 (qF (aK (R:=R))):=bj TT mixed (HS (R:=R)) rfl rfl rfl rfl bX (IY fH)
/-! ### internal/strconv.lower -/
abbrev jd (R:Type):Type:=Int→(Int→Option R)→Option R
abbrev qG:List cY := [.leaf (.int .u8)]
abbrev qH:List aY := []
def xD (fn:jd R):jR R qG qH:=fun x y k=>fn x.1 (fun q0=>k (.int .u8 q0) [])
def qI (fn:jd R):=aC qG qH (xD fn)
section
def zp (x1:Int) (k0:Int→Option R):Option R :=
 k0 (IntKind.u8.wrap ((BitVec.ofInt IntKind.u8.bits x1 ||| BitVec.ofInt IntKind.u8.bits 32).toNat:Int))
theorem IZ:dD (R:=R) tt [] nJ false Tryz.f259 qG qH (xD zp):=fun x y k=>by kernel_rfl
end
def internal_strconv_lower:jd R:=fun x1 k0=>zp x1 k0
theorem vU (R:Type):jQ Tryz.prog 259 (qI (internal_strconv_lower (R:=R))):=bj TT mixed .n rfl rfl rfl rfl bX (IZ)
/-! ### internal/strconv.underscoreOK -/
abbrev ib (R:Type):Type:=ag→(Bool→Option R)→Option R
abbrev ll:List cY := [.leaf (.str)]
abbrev ln:List aY := []
def qk (fn:ib R):jR R ll ln:=fun x y k=>fn x.1 (fun q0=>k (.bool q0) [])
def rO (fn:ib R):=aC ll ln (qk fn)
abbrev iS (R:Type):Type:=Nat→ag→Int→Int→Bool→(Int→Option R)→(Bool→Int→Option R)→Option R
def gq:Hint := { live := [0,3,4,5],own := [],rows := [],cells := [],drop := [],out := [2,3] }
abbrev dO:Type:=ag×Int×Int×Bool
def iJ:dO→St:=fun d=>⟨.str d.1::U 2 (.int .i32 d.2.1 :: .int .i64 d.2.2.1 :: .bool d.2.2.2::U 88 ([])), []⟩
def iT (K:Ex→St→Option R) (q0:Int):Option R:=K (.exit 0) ⟨U 3 (.int .i32 q0::U 90 ([])), []⟩
def iU (K:Ex→St→Option R) (q0:Bool) (q1:Int):Option R:=K (.ret) ⟨U 2 (.bool q0 :: .int .i32 q1::U 90 ([])), []⟩
abbrev eU:List cY := .leaf (.str)::PU 2 (.leaf (.int .i32) :: .leaf (.int .i64) :: .leaf (.bool)::PU 88 ([]))
abbrev eV:List aY := []
def nv (x:cY.cC eU) (y:aY.cC eV):Nat:=(List.length x.1+Int.natAbs x.2.2.2.1+Int.natAbs x.2.2.2.2.1+64)
def yh (x:cY.cC eU) (y:aY.cC eV):dO:=(x.1,x.2.2.2.1,x.2.2.2.2.1,x.2.2.2.2.2.1)
def mL (L:iS R):D7 R eU eV:=fun x y K=>L (nv x y) x.1 x.2.2.2.1 x.2.2.2.2.1 x.2.2.2.2.2.1 (iT K) (iU K)
section
variable (internal_strconv_lower:jd R) (aF:iS R)
def eY:List (lC R) := [(259,true,(qI internal_strconv_lower av))]
def nw (fb:ag→Int→Int→Bool→Option R) (n9:ag) (uP:Int) (ml:Int) (wu:Bool) (e0:Int→Option R) (e1:Bool→Int→Option R):Option R :=
 bif (decide (ml<(n9.length:Int)))then (cx (decide ((0:Int)≤ml)&&decide (ml<n9.length)) (bif (decide ((48:Int)≤((n9.getD ml.toNat 0).toNat:Int)))then (cx (decide ((0:Int)≤ml)&&decide (ml<n9.length)) (bif (decide (((n9.getD ml.toNat 0).toNat:Int)≤(57:Int)))then (fb n9 48 (IntKind.i64.wrap (ml+1)) wu)else (bif wu then (cx (decide ((0:Int)≤ml)&&decide (ml<n9.length)) (internal_strconv_lower ((n9.getD ml.toNat 0).toNat:Int) (fun Pt=>bif (decide ((97:Int)≤Pt))then (cx (decide ((0:Int)≤ml)&&decide (ml<n9.length)) (internal_strconv_lower ((n9.getD ml.toNat 0).toNat:Int) (fun Lg=>bif (decide (Lg≤(102:Int)))then (fb n9 48 (IntKind.i64.wrap (ml+1)) wu)else (cx (decide ((0:Int)≤ml)&&decide (ml<n9.length)) (bif (((n9.getD ml.toNat 0).toNat:Int)==95)then (bif (uP != 48)then (e1 false uP)else (fb n9 95 (IntKind.i64.wrap (ml+1)) wu))else (bif (uP==95)then (e1 false uP)else (fb n9 33 (IntKind.i64.wrap (ml+1)) wu)))))))else (cx (decide ((0:Int)≤ml)&&decide (ml<n9.length)) (bif (((n9.getD ml.toNat 0).toNat:Int)==95)then (bif (uP != 48)then (e1 false uP)else (fb n9 95 (IntKind.i64.wrap (ml+1)) wu))else (bif (uP==95)then (e1 false uP)else (fb n9 33 (IntKind.i64.wrap (ml+1)) wu)))))))else (cx (decide ((0:Int)≤ml)&&decide (ml<n9.length)) (bif (((n9.getD ml.toNat 0).toNat:Int)==95)then (bif (uP != 48)then (e1 false uP)else (fb n9 95 (IntKind.i64.wrap (ml+1)) wu))else (bif (uP==95)then (e1 false uP)else (fb n9 33 (IntKind.i64.wrap (ml+1)) wu)))))))else (bif wu then (cx (decide ((0:Int)≤ml)&&decide (ml<n9.length)) (internal_strconv_lower ((n9.getD ml.toNat 0).toNat:Int) (fun C2=>bif (decide ((97:Int)≤C2))then (cx (decide ((0:Int)≤ml)&&decide (ml<n9.length)) (internal_strconv_lower ((n9.getD ml.toNat 0).toNat:Int) (fun Yi=>bif (decide (Yi≤(102:Int)))then (fb n9 48 (IntKind.i64.wrap (ml+1)) wu)else (cx (decide ((0:Int)≤ml)&&decide (ml<n9.length)) (bif (((n9.getD ml.toNat 0).toNat:Int)==95)then (bif (uP != 48)then (e1 false uP)else (fb n9 95 (IntKind.i64.wrap (ml+1)) wu))else (bif (uP==95)then (e1 false uP)else (fb n9 33 (IntKind.i64.wrap (ml+1)) wu)))))))else (cx (decide ((0:Int)≤ml)&&decide (ml<n9.length)) (bif (((n9.getD ml.toNat 0).toNat:Int)==95)then (bif (uP != 48)then (e1 false uP)else (fb n9 95 (IntKind.i64.wrap (ml+1)) wu))else (bif (uP==95)then (e1 false uP)else (fb n9 33 (IntKind.i64.wrap (ml+1)) wu)))))))else (cx (decide ((0:Int)≤ml)&&decide (ml<n9.length)) (bif (((n9.getD ml.toNat 0).toNat:Int)==95)then (bif (uP != 48)then (e1 false uP)else (fb n9 95 (IntKind.i64.wrap (ml+1)) wu))else (bif (uP==95)then (e1 false uP)else (fb n9 33 (IntKind.i64.wrap (ml+1)) wu)))))))else (e0 uP)
def nA (K:Ex→St→Option R) (rc:dO→Option R) (d:dO):Option R:=nw internal_strconv_lower (fun z0 z1 z2 z3=>rc (z0,z1,z2,z3)) d.1 d.2.1 d.2.2.1 d.2.2.2 (iT K) (iU K)
def gi:Nat→Option (Hint×dE R):=fun i=>match i with
 | 10=>some (gq,(dR eU eV (mL aF) lL))
 | _=>none
theorem wk (K:Ex→St→Option R) (rc:St→Option R) (d:dO):roundOf tt (dx (eY internal_strconv_lower)) (gi aF) 0 ((aN (bm Tryz.f260)).getD 0 .skip) gq (iJ d) rc K=nA internal_strconv_lower K (fun d=>rc (iJ d)) d:=by kernel_rfl
def rP (x1:ag) (k0:Bool→Option R):Option R :=
 let j46:=fun (z3:ag)=>bif (decide ((z3.length:Int)≥(2:Int)))then (cx (decide ((0:Int)<z3.length)) (bif (((z3.getD 0 0).toNat:Int)==48)then (cx (decide ((1:Int)<z3.length)) (internal_strconv_lower ((z3.getD 1 0).toNat:Int) (fun y4=>bif (y4==98)then (cx (decide ((1:Int)<z3.length)) (internal_strconv_lower ((z3.getD 1 0).toNat:Int) (fun y9=>aF (List.length z3+Int.natAbs 48+Int.natAbs 2+64) z3 48 2 (y9==120) (fun O7=>k0 (O7 != 95)) (fun WV OI=>k0 WV))))else (cx (decide ((1:Int)<z3.length)) (internal_strconv_lower ((z3.getD 1 0).toNat:Int) (fun y5=>bif (y5==111)then (cx (decide ((1:Int)<z3.length)) (internal_strconv_lower ((z3.getD 1 0).toNat:Int) (fun oc=>aF (List.length z3+Int.natAbs 48+Int.natAbs 2+64) z3 48 2 (oc==120) (fun XC=>k0 (XC != 95)) (fun HT y33=>k0 HT))))else (cx (decide ((1:Int)<z3.length)) (internal_strconv_lower ((z3.getD 1 0).toNat:Int) (fun y6=>bif (y6==120)then (cx (decide ((1:Int)<z3.length)) (internal_strconv_lower ((z3.getD 1 0).toNat:Int) (fun uf=>aF (List.length z3+Int.natAbs 48+Int.natAbs 2+64) z3 48 2 (uf==120) (fun y34=>k0 (y34 != 95)) (fun y35 y36=>k0 y35))))else (aF (List.length z3+Int.natAbs 94+Int.natAbs 0+64) z3 94 0 false (fun y37=>k0 (y37 != 95)) (fun y38 Zv=>k0 y38)))))))))))else (aF (List.length z3+Int.natAbs 94+Int.natAbs 0+64) z3 94 0 false (fun y40=>k0 (y40 != 95)) (fun y41 y42=>k0 y41))))else (aF (List.length z3+Int.natAbs 94+Int.natAbs 0+64) z3 94 0 false (fun y43=>k0 (y43 != 95)) (fun y44 y45=>k0 y44)); bif (decide ((x1.length:Int)≥(1:Int)))then (cx (decide ((0:Int)<x1.length)) (bif (((x1.getD 0 0).toNat:Int)==45)then (cx (decide ((0:Int)≤(x1.length:Int))&&decide ((x1.length:Int)≤x1.length)) (cx (decide ((1:Int)≤(x1.length:Int))) (j46 ((x1.drop 1).take ((x1.length:Int).toNat - 1)))))else (cx (decide ((0:Int)<x1.length)) (bif (((x1.getD 0 0).toNat:Int)==43)then (cx (decide ((0:Int)≤(x1.length:Int))&&decide ((x1.length:Int)≤x1.length)) (cx (decide ((1:Int)≤(x1.length:Int))) (j46 ((x1.drop 1).take ((x1.length:Int).toNat - 1)))))else (j46 x1)))))else (j46 x1)
theorem BR:dD (R:=R) tt (eY internal_strconv_lower) (gi aF) false Tryz.f260 ll ln (qk (rP internal_strconv_lower aF)):=fun x y k=>by kernel_rfl
end
theorem Bu:cq (R:=R) Tryz.prog (eY (R:=R) internal_strconv_lower) := .c (vU R) <| .n
def aF:iS R
 | 0,_,_,_,_,_,_=>none
 | n+1,jb,jf,jl,uk,e0,e1=>nw internal_strconv_lower (fun jb jf jl uk=>aF n jb jf jl uk e0 e1) jb jf jl uk e0 e1
def nB (K:Ex→St→Option R) (n:Nat) (d:dO):Option R:=aF n d.1 d.2.1 d.2.2.1 d.2.2.2 (iT K) (iU K)
theorem xo (other:dE R) (ho:kg tt (dx (eY (R:=R) internal_strconv_lower)) (gi (R:=R) aF) 0 ((aN (bm Tryz.f260)).getD 0 .skip) gq other):kg tt (dx (eY (R:=R) internal_strconv_lower)) (gi (R:=R) aF) 0 ((aN (bm Tryz.f260)).getD 0 .skip) gq (dR eU eV (mL (aF)) other) :=
 ei (A:=nB) ho (gd iJ (nA internal_strconv_lower) (nB) (fun _ _=>by kernel_rfl) (wk internal_strconv_lower aF) (fun _ _ _=>by kernel_rfl)) nv yh (fun _ _=>by kernel_rfl) (fun _ _ _=>by kernel_rfl)
def bM:ib R:=fun x1 k0=>rP internal_strconv_lower aF x1 k0
theorem zq (R:Type):∀a∈aN (bm Tryz.f260),je tt (dx (eY (R:=R) internal_strconv_lower)) (gi (R:=R) aF) 0 a:=by
 refine gQ 1 (by kernel_rfl) fun i hi => ?_
 match i,hi with
 | 0,_=>exact dH (by kernel_rfl) (xo _ fk)
 | n+1,hi=>omega
theorem Az (R:Type):jQ Tryz.prog 260 (rO (bM (R:=R))):=bj TT mixed (Bu (R:=R)) rfl rfl rfl rfl (zq R) (BR internal_strconv_lower aF)
end Go.Proofs.YtidfokedcnhahaaGreatDoor
/-
 Functions of the program as pure Lean functions, and the ties; printed by wip/tools/emit.py.
-/
set_option maxRecDepth 100000
namespace Go.Proofs.YtidfokedcnhahaaGreatDoor
open Go Go.aq
variable {R:Type}
/-! ### internal/strconv.ParseUint -/
abbrev jh (R:Type):Type:=ag→Int→Int→(Int→Option R)→(Int→Option R)→(Int→Option R)→(Int→Option R)→(Int→Option R)→Option R
abbrev ng:List cY := [.leaf (.str), .leaf (.int .i64), .leaf (.int .i64)]
abbrev nh:List aY := []
def tj (fn:jh R):jR R ng nh:=fun x y k=>fn x.1 x.2.1 x.2.2.1 (fun q0=>k (.tuple [.int .u64 q0, .SQ 250 .i64 2]) []) (fun q0=>k (.tuple [.int .u64 q0, .SQ 250 .i64 3]) []) (fun q0=>k (.tuple [.int .u64 q0, .SQ 250 .i64 4]) []) (fun q0=>k (.tuple [.int .u64 q0, .SQ 250 .i64 1]) []) (fun q0=>k (.tuple [.int .u64 q0, .dJ]) [])
def ux (fn:jh R):=aC ng nh (tj fn)
abbrev jJ (R:Type):Type:=Nat→Int→Bool→ag→Int→Int→Bool→Int→Nat→Int→Int→(List Int)→(ag→Bool→Int→Option R)→(Int→ag→Bool→Int→Option R)→(Int→ag→Bool→Int→Option R)→(Int→ag→Bool→Option R)→Option R
def hG:Hint := { live := [1,8,9,10,11,12,13,99,100,101],own := [],rows := [],cells := [],drop := [],out := [6,7,9,12,13] }
abbrev eB:Type:=Int×Bool×ag×Int×Int×Bool×Int×Nat×Int×Int×(List Int)
def js:eB→St:=fun d=>⟨.undef :: .int .i64 d.1::U 6 (.bool d.2.1 :: .str d.2.2.1 :: .int .u64 d.2.2.2.1 :: .int .u64 d.2.2.2.2.1 :: .bool d.2.2.2.2.2.1 :: .int .u64 d.2.2.2.2.2.2.1::U 85 (.row 0 d.2.2.2.2.2.2.2.1 :: .int .i64 d.2.2.2.2.2.2.2.2.1 :: .int .i64 d.2.2.2.2.2.2.2.2.2.1::U 70 ([]))), [.row (.int .u8) d.2.2.2.2.2.2.2.2.2.2]⟩
def jK (K:Ex→St→Option R) (q0:ag) (q1:Bool) (q2:Int):Option R:=K (.exit 3) ⟨U 9 (.str q0::U 2 (.bool q1 :: .int .u64 q2::U 158 ([]))), []⟩
def jL (K:Ex→St→Option R) (q0:Int) (q1:ag) (q2:Bool) (q3:Int):Option R:=K (.ret) ⟨U 6 (.int .u64 q0 :: .SQ 250 .i64 2 :: .undef :: .str q1::U 2 (.bool q2 :: .int .u64 q3::U 158 ([]))), []⟩
def jM (K:Ex→St→Option R) (q0:Int) (q1:ag) (q2:Bool) (q3:Int):Option R:=K (.ret) ⟨U 6 (.int .u64 q0 :: .SQ 250 .i64 1 :: .undef :: .str q1::U 2 (.bool q2 :: .int .u64 q3::U 158 ([]))), []⟩
def jN (K:Ex→St→Option R) (q0:Int) (q1:ag) (q2:Bool):Option R:=K (.ret) ⟨U 6 (.int .u64 q0 :: .SQ 250 .i64 1 :: .undef :: .str q1::U 2 (.bool q2::U 159 ([]))), []⟩
abbrev fq:List cY := .leaf (.undef) :: .leaf (.int .i64)::PU 6 (.leaf (.bool) :: .leaf (.str) :: .leaf (.int .u64) :: .leaf (.int .u64) :: .leaf (.bool) :: .leaf (.int .u64)::PU 85 (.leaf (.row 0) :: .leaf (.int .i64) :: .leaf (.int .i64)::PU 70 ([])))
abbrev ft:List aY := [.row (.int .u8)]
def pv (x:cY.cC fq) (y:aY.cC ft):Nat:=(Int.natAbs x.2.1+List.length ((t8 x).2.1)+Int.natAbs ((t8 x).2.2.1)+Int.natAbs ((t8 x).2.2.2.1)+Int.natAbs ((t8 x).2.2.2.2.2.1)+Int.natAbs ((t8 (t8 (t8 (t8 (t8 (t8 (t8 (t8 (t8 (t8 (t8 (t8 x)))))))))))).2.2.2.2.1)+Int.natAbs ((t8 (t8 (t8 (t8 (t8 (t8 (t8 (t8 (t8 (t8 (t8 (t8 x)))))))))))).2.2.2.2.2.1)+List.length y.1+64)
def Bv (x:cY.cC fq) (y:aY.cC ft):eB:=(x.2.1,(t8 x).1,(t8 x).2.1,(t8 x).2.2.1,(t8 x).2.2.2.1,(t8 x).2.2.2.2.1,(t8 x).2.2.2.2.2.1,(t8 (t8 (t8 (t8 (t8 (t8 (t8 (t8 (t8 (t8 (t8 (t8 x)))))))))))).2.2.2.1,(t8 (t8 (t8 (t8 (t8 (t8 (t8 (t8 (t8 (t8 (t8 (t8 x)))))))))))).2.2.2.2.1,(t8 (t8 (t8 (t8 (t8 (t8 (t8 (t8 (t8 (t8 (t8 (t8 x)))))))))))).2.2.2.2.2.1,y.1)
def oQ (L:jJ R):D7 R fq ft:=fun x y K=>L (pv x y) x.2.1 ((t8 x).1) ((t8 x).2.1) ((t8 x).2.2.1) ((t8 x).2.2.2.1) ((t8 x).2.2.2.2.1) ((t8 x).2.2.2.2.2.1) ((t8 (t8 (t8 (t8 (t8 (t8 (t8 (t8 (t8 (t8 (t8 (t8 x)))))))))))).2.2.2.1) ((t8 (t8 (t8 (t8 (t8 (t8 (t8 (t8 (t8 (t8 (t8 (t8 x)))))))))))).2.2.2.2.1) ((t8 (t8 (t8 (t8 (t8 (t8 (t8 (t8 (t8 (t8 (t8 (t8 x)))))))))))).2.2.2.2.2.1) y.1 (jK K) (jL K) (jM K) (jN K)
section
variable (internal_strconv_lower:jd R) (bM:ib R) (aI:jJ R)
def fB:List (lC R) := [(259,true,(qI internal_strconv_lower av)),(260,true,(rO bM av))]
def dG (fb:Int→Bool→ag→Int→Int→Bool→Int→Nat→Int→Int→(List Int)→Option R) (Gh:Int) (Sr:Bool) (x22:ag) (x23:Int) (x24:Int) (x25:Bool) (x26:Int) (x27:Nat) (x28:Int) (x29:Int) (x30:List Int) (e0:ag→Bool→Int→Option R) (e1:Int→ag→Bool→Int→Option R) (e2:Int→ag→Bool→Int→Option R) (e3:Int→ag→Bool→Option R):Option R :=
 bif (decide (x29<x28))then (cx (decide ((0:Int)≤x29)&&decide (x29<x27)) (cx (decide (x29.toNat<x30.length)) (let j42:=fun (z40:Int)=>bif (decide (z40≥(IntKind.u8.wrap Gh)))then (e1 0 x22 x25 x26)else (bif (decide (x26≥x23))then (e2 x24 x22 x25 x26)else (bif (decide ((IntKind.u64.wrap ((IntKind.u64.wrap (x26*(IntKind.u64.wrap Gh)))+(IntKind.u64.wrap z40)))<(IntKind.u64.wrap (x26*(IntKind.u64.wrap Gh)))))then (e2 x24 x22 x25 (IntKind.u64.wrap (x26*(IntKind.u64.wrap Gh))))else (bif (decide ((IntKind.u64.wrap ((IntKind.u64.wrap (x26*(IntKind.u64.wrap Gh)))+(IntKind.u64.wrap z40)))>x24))then (e2 x24 x22 x25 (IntKind.u64.wrap (x26*(IntKind.u64.wrap Gh))))else (fb Gh Sr x22 x23 x24 x25 (IntKind.u64.wrap ((IntKind.u64.wrap (x26*(IntKind.u64.wrap Gh)))+(IntKind.u64.wrap z40))) x27 x28 (IntKind.i64.wrap (x29+1)) x30)))); let j39:=fun (z31:Bool)=>bif z31 then (fb Gh Sr x22 x23 x24 true x26 x27 x28 (IntKind.i64.wrap (x29+1)) x30)else (let j38:=fun (z32:Bool)=>bif z32 then (j42 (IntKind.u8.wrap ((x30.getD x29.toNat (Ty.bR (.int .u8))) - 48)))else (internal_strconv_lower (x30.getD x29.toNat (Ty.bR (.int .u8))) (fun y33=>bif (decide ((97:Int)≤y33))then (internal_strconv_lower (x30.getD x29.toNat (Ty.bR (.int .u8))) (fun y34=>bif (decide (y34≤(122:Int)))then (internal_strconv_lower (x30.getD x29.toNat (Ty.bR (.int .u8))) (fun y37=>j42 (IntKind.u8.wrap ((IntKind.u8.wrap (y37 - 97))+10))))else (e1 0 x22 x25 x26)))else (e1 0 x22 x25 x26))); bif (decide ((48:Int)≤(x30.getD x29.toNat (Ty.bR (.int .u8)))))then (j38 (decide ((x30.getD x29.toNat (Ty.bR (.int .u8)))≤(57:Int))))else (j38 false)); bif ((x30.getD x29.toNat (Ty.bR (.int .u8)))==95)then (j39 Sr)else (j39 false))))else (e0 x22 x25 x26)
def pw (K:Ex→St→Option R) (rc:eB→Option R) (d:eB):Option R:=dG internal_strconv_lower (fun z0 z1 z2 z3 z4 z5 z6 z7 z8 z9 Xs=>rc (z0,z1,z2,z3,z4,z5,z6,z7,z8,z9,Xs)) d.1 d.2.1 d.2.2.1 d.2.2.2.1 d.2.2.2.2.1 d.2.2.2.2.2.1 d.2.2.2.2.2.2.1 d.2.2.2.2.2.2.2.1 d.2.2.2.2.2.2.2.2.1 d.2.2.2.2.2.2.2.2.2.1 d.2.2.2.2.2.2.2.2.2.2 (jK K) (jL K) (jM K) (jN K)
def gU:Nat→Option (Hint×dE R):=fun i=>match i with
 | 36=>some (hG,(dR fq ft (oQ aI) lL))
 | _=>none
theorem yi (K:Ex→St→Option R) (rc:St→Option R) (d:eB):roundOf tt (dx (fB internal_strconv_lower bM)) (gU aI) 0 ((aN (bm Tryz.f249)).getD 0 .skip) hG (js d) rc K=pw internal_strconv_lower K (fun d=>rc (js d)) d:=by kernel_rfl
def jA (x1:ag) (x2:Int) (x3:Int) (k0:Int→Option R) (k1:Int→Option R) (k2:Int→Option R) (k3:Int→Option R) (k4:Int→Option R):Option R :=
 bif (x1==([]:ag))then (k0 0)else (let j63:=fun (z15:ag) (z16:Int)=>let j62:=fun (z18:Int)=>let j61:=fun (z19:Int)=>cx (decide ((0:Int)≤(IntKind.u64.wrap z18))) (aI (Int.natAbs z16+List.length x1+Int.natAbs z19+Int.natAbs (IntKind.u64.wrap ((IntKind.u64.wrap (1*2 ^ (min ((IntKind.u64.wrap z18).toNat) IntKind.u64.bits))) - 1))+Int.natAbs 0+Int.natAbs (z15.length:Int)+Int.natAbs 0+List.length (gR z15)+64) z16 (x2==0) x1 z19 (IntKind.u64.wrap ((IntKind.u64.wrap (1*2 ^ (min ((IntKind.u64.wrap z18).toNat) IntKind.u64.bits))) - 1)) false 0 z15.length (z15.length:Int) 0 (gR z15) (fun y45 y46 y47=>bif y46 then (bM y45 (fun y59=>bif (!y59)then (k0 0)else (k4 y47)))else (k4 y47)) (fun y48 y49 y50 y51=>k0 y48) (fun y52 y53 y54 y55=>k3 y52) (fun y56 y57 y58=>k3 y56)); bif (z16==10)then (j61 1844674407370955162)else (bif (z16==16)then (j61 1152921504606846976)else (cx (!decide ((IntKind.u64.wrap z16)=0)) (j61 (IntKind.u64.wrap ((IntKind.u64.wrap (Int.tdiv 18446744073709551615 (IntKind.u64.wrap z16)))+1))))); bif (x3==0)then (j62 64)else (bif (decide (x3<(0:Int)))then (k2 0)else (bif (decide (x3>(64:Int)))then (k2 0)else (j62 x3))); let j14:=fun (z4:Bool)=>bif z4 then (j63 x1 x2)else (bif (x2==0)then (cx (decide ((0:Int)<x1.length)) (bif (((x1.getD 0 0).toNat:Int)==48)then (let j13:=fun (z6:Bool)=>bif z6 then (cx (decide ((0:Int)≤(x1.length:Int))&&decide ((x1.length:Int)≤x1.length)) (cx (decide ((2:Int)≤(x1.length:Int))) (j63 ((x1.drop 2).take ((x1.length:Int).toNat - 2)) 2)))else (let j12:=fun (z8:Bool)=>bif z8 then (cx (decide ((0:Int)≤(x1.length:Int))&&decide ((x1.length:Int)≤x1.length)) (cx (decide ((2:Int)≤(x1.length:Int))) (j63 ((x1.drop 2).take ((x1.length:Int).toNat - 2)) 8)))else (let j11:=fun (Xs:Bool)=>bif Xs then (cx (decide ((0:Int)≤(x1.length:Int))&&decide ((x1.length:Int)≤x1.length)) (cx (decide ((2:Int)≤(x1.length:Int))) (j63 ((x1.drop 2).take ((x1.length:Int).toNat - 2)) 16)))else (cx (decide ((0:Int)≤(x1.length:Int))&&decide ((x1.length:Int)≤x1.length)) (cx (decide ((1:Int)≤(x1.length:Int))) (j63 ((x1.drop 1).take ((x1.length:Int).toNat - 1)) 8))); bif (decide ((x1.length:Int)≥(3:Int)))then (cx (decide ((1:Int)<x1.length)) (internal_strconv_lower ((x1.getD 1 0).toNat:Int) (fun y9=>j11 (y9==120))))else (j11 false)); bif (decide ((x1.length:Int)≥(3:Int)))then (cx (decide ((1:Int)<x1.length)) (internal_strconv_lower ((x1.getD 1 0).toNat:Int) (fun y7=>j12 (y7==111))))else (j12 false)); bif (decide ((x1.length:Int)≥(3:Int)))then (cx (decide ((1:Int)<x1.length)) (internal_strconv_lower ((x1.getD 1 0).toNat:Int) (fun y5=>j13 (y5==98))))else (j13 false))else (j63 x1 10)))else (k1 0)); bif (decide ((2:Int)≤x2))then (j14 (decide (x2≤(36:Int))))else (j14 false))
theorem E0:dD (R:=R) tt (fB internal_strconv_lower bM) (gU aI) false Tryz.f249 ng nh (tj (jA internal_strconv_lower bM aI)):=fun x y k=>by kernel_rfl
end
theorem Ee:cq (R:=R) Tryz.prog (fB (R:=R) internal_strconv_lower bM) := .c (vU R) <| .c (Az R) <| .n
def aI:jJ R
 | 0,_,_,_,_,_,_,_,_,_,_,_,_,_,_,_=>none
 | n+1,jb,jf,jl,uk,Ea,FJ,RN,RO,RP,RQ,xU,e0,e1,e2,e3=>dG internal_strconv_lower (fun jb jf jl uk Ea FJ RN RO RP RQ xU=>aI n jb jf jl uk Ea FJ RN RO RP RQ xU e0 e1 e2 e3) jb jf jl uk Ea FJ RN RO RP RQ xU e0 e1 e2 e3
def px (K:Ex→St→Option R) (n:Nat) (d:eB):Option R:=aI n d.1 d.2.1 d.2.2.1 d.2.2.2.1 d.2.2.2.2.1 d.2.2.2.2.2.1 d.2.2.2.2.2.2.1 d.2.2.2.2.2.2.2.1 d.2.2.2.2.2.2.2.2.1 d.2.2.2.2.2.2.2.2.2.1 d.2.2.2.2.2.2.2.2.2.2 (jK K) (jL K) (jM K) (jN K)
theorem AA (other:dE R) (ho:kg tt (dx (fB (R:=R) internal_strconv_lower bM)) (gU (R:=R) aI) 0 ((aN (bm Tryz.f249)).getD 0 .skip) hG other):kg tt (dx (fB (R:=R) internal_strconv_lower bM)) (gU (R:=R) aI) 0 ((aN (bm Tryz.f249)).getD 0 .skip) hG (dR fq ft (oQ (aI)) other) :=
 ei (A:=px) ho (gd js (pw internal_strconv_lower) (px) (fun _ _=>by kernel_rfl) (yi internal_strconv_lower bM aI) (fun _ _ _=>by kernel_rfl)) pv Bv (fun _ _=>by kernel_rfl) (fun _ _ _=>by kernel_rfl)
def de:jh R:=fun x1 x2 x3 k0 k1 k2 k3 k4=>jA internal_strconv_lower bM aI x1 x2 x3 k0 k1 k2 k3 k4
theorem BS (R:Type):∀a∈aN (bm Tryz.f249),je tt (dx (fB (R:=R) internal_strconv_lower bM)) (gU (R:=R) aI) 0 a:=by
 refine gQ 1 (by kernel_rfl) fun i hi => ?_
 match i,hi with
 | 0,_=>exact dH (by kernel_rfl) (AA _ fk)
 | n+1,hi=>omega
theorem Db (R:Type):jQ Tryz.prog 249 (ux (de (R:=R))):=bj TT mixed (Ee (R:=R)) rfl rfl rfl rfl (BS R) (E0 internal_strconv_lower bM aI)
/-! ### strconv.ParseUint -/
abbrev ql (R:Type):Type:=ag→Int→Int→(Int→Option R)→(Int→Option R)→Option R
abbrev yj:List cY := [.leaf (.str), .leaf (.int .i64), .leaf (.int .i64)]
abbrev yk:List aY := []
def E1 (fn:ql R):jR R yj yk:=fun x y k=>fn x.1 x.2.1 x.2.2.1 (fun q0=>k (.tuple [.int .u64 q0, .iface]) []) (fun q0=>k (.tuple [.int .u64 q0, .dJ]) [])
def Gi (fn:ql R):=aC yj yk (E1 fn)
section
variable (de:jh R)
def Gj:List (lC R) := [(219,true,(toErr_S R 250)),(249,true,(ux de av))]
def rW (x1:ag) (x2:Int) (x3:Int) (k0:Int→Option R) (k1:Int→Option R):Option R :=
 de x1 x2 x3 (fun y4=>cx (Nat.beq 250 250&&(2==2||2==1)) (cx (decide (x1.length≤281474976710656)) (k0 y4))) (fun y5=>cx (Nat.beq 250 250&&(3==2||3==1)) (cx (decide (x1.length≤281474976710656)) (k0 y5))) (fun y6=>cx (Nat.beq 250 250&&(4==2||4==1)) (cx (decide (x1.length≤281474976710656)) (k0 y6))) (fun y7=>cx (Nat.beq 250 250&&(1==2||1==1)) (cx (decide (x1.length≤281474976710656)) (k0 y7))) (fun y8=>k1 y8)
theorem PN:dD (R:=R) tt (Gj de) nJ false Tryz.f252 yj yk (E1 (rW de)):=fun x y k=>by kernel_rfl
end
theorem OJ:cq (R:=R) Tryz.prog (Gj (R:=R) de) := .p (toErr_ok) <| .c (Db R) <| .n
def fI:ql R:=fun x1 x2 x3 k0 k1=>rW de x1 x2 x3 k0 k1
theorem ML (R:Type):jQ Tryz.prog 252 (Gi (fI (R:=R))):=bj TT mixed (OJ (R:=R)) rfl rfl rfl rfl bX (PN de)
/-! ### (*humpyard/quote.reader).unit -/
abbrev lD (R:Type):Type:=ag→(Int→ag→Option R)→Option R
abbrev qJ:List cY := [.leaf (.ptr 0 0)]
abbrev qK:List aY := [.cells [.str]]
def xE (fn:lD R):jR R qJ qK:=fun x y k=>fn y.1.1 (fun q0 q1=>k (.int .i32 q0) [.cells [.str q1]])
def zt (fn:lD R):=aC qJ qK (xE fn)
section
variable (fI:ql R)
def zu:List (lC R) := [(252,true,(Gi fI av)),(253,true,(Zt R))]
def mc (x1:ag) (k0:Int→ag→Option R):Option R :=
 bif (decide ((x1.length:Int)<(4:Int)))then (k0 (-1) x1)else (cx (decide ((4:Int)≤x1.length)) (fI ((x1.drop 0).take (4 - 0)) 16 16 (fun y2=>k0 (-1) x1) (fun y3=>cx (wB ((x1.drop 0).take (4 - 0))&&wB ([43,45,95]:ag)&&decide (((x1.drop 0).take (4 - 0)).length<4294967281)&&decide (([43,45,95]:ag).length<4294967281)) (bif (Zs ((x1.drop 0).take (4 - 0)) ([43,45,95]:ag))then (k0 (-1) x1)else (cx (decide ((0:Int)≤(x1.length:Int))&&decide ((x1.length:Int)≤x1.length)) (cx (decide ((4:Int)≤(x1.length:Int))) (k0 (IntKind.i32.wrap y3) ((x1.drop 4).take ((x1.length:Int).toNat - 4)))))))))
theorem I0:dD (R:=R) tt (zu fI) nJ false Tryz.f242 qJ qK (xE (mc fI)):=fun x y k=>by kernel_rfl
end
theorem HU:cq (R:=R) Tryz.prog (zu (R:=R) fI) := .c (ML R) <| .p (hasAny_ok) <| .n
def dh:lD R:=fun x1 k0=>mc fI x1 k0
theorem GW (R:Type):jQ Tryz.prog 242 (zt (dh (R:=R))):=bj TT mixed (HU (R:=R)) rfl rfl rfl rfl bX (I0 fI)
/-! ### (*humpyard/quote.reader).long -/
abbrev lE (R:Type):Type:=ag→(Int→ag→Option R)→Option R
abbrev qL:List cY := [.leaf (.ptr 0 0)]
abbrev qM:List aY := [.cells [.str]]
def xF (fn:lE R):jR R qL qM:=fun x y k=>fn y.1.1 (fun q0 q1=>k (.int .i32 q0) [.cells [.str q1]])
def zw (fn:lE R):=aC qL qM (xF fn)
section
variable (aK:jc R) (dh:lD R)
def zx:List (lC R) := [(195,false,(qF aK av)),(242,false,(zt dh av))]
def me (x1:ag) (k0:Int→ag→Option R):Option R :=
 dh x1 (fun y2 y3=>bif (decide (y2<(55296:Int)))then (k0 y2 y3)else (bif (decide (y2≥(57344:Int)))then (k0 y2 y3)else (bif (decide (y2≥(56320:Int)))then (k0 (-1) y3)else (aK ([92,117]:ag) y3 (fun y5 y6=>bif (!y5)then (k0 (-1) y6)else (dh y6 (fun y9 oc=>bif (decide (y9<(56320:Int)))then (k0 (-1) oc)else (bif (decide (y9≥(57344:Int)))then (k0 (-1) oc)else (k0 (IntKind.i32.wrap ((IntKind.i32.wrap ((IntKind.i32.wrap (65536+(IntKind.i32.wrap ((IntKind.i32.wrap (y2 - 55296))*2 ^ (min 10 IntKind.i32.bits)))))+y9)) - 56320)) oc)))))))))
theorem I1:dD (R:=R) tt (zx aK dh) nJ false Tryz.f221 qL qM (xF (me aK dh)):=fun x y k=>by kernel_rfl
end
theorem HV:cq (R:=R) Tryz.prog (zx (R:=R) aK dh) := .d (vT R) rfl <| .d (GW R) rfl <| .n
def cT:lE R:=fun x1 k0=>me aK dh x1 k0
theorem GX (R:Type):jQ Tryz.prog 221 (zw (cT (R:=R))):=bj TT mixed (HV (R:=R)) rfl rfl rfl rfl bX (I1 aK dh)
/-! ### (*humpyard/quote.reader).escaped -/
abbrev jB (R:Type):Type:=ag→(Int→ag→Option R)→Option R
abbrev nR:List cY := [.leaf (.ptr 0 0)]
abbrev nS:List aY := [.cells [.str]]
def uy (fn:jB R):jR R nR nS:=fun x y k=>fn y.1.1 (fun q0 q1=>k (.int .i32 q0) [.cells [.str q1]])
def vV (fn:jB R):=aC nR nS (uy fn)
section
variable (cT:lE R)
def vW:List (lC R) := [(221,false,(zw cT av))]
def j8 (x1:ag) (k0:Int→ag→Option R):Option R :=
 bif (x1==([]:ag))then (k0 (-1) x1)else (cx (decide ((0:Int)<x1.length)) (cx (decide ((0:Int)≤(x1.length:Int))&&decide ((x1.length:Int)≤x1.length)) (cx (decide ((1:Int)≤(x1.length:Int))) (let j5:=fun (z2:Bool)=>bif z2 then (k0 (IntKind.i32.wrap ((x1.getD 0 0).toNat:Int)) ((x1.drop 1).take ((x1.length:Int).toNat - 1)))else (bif (((x1.getD 0 0).toNat:Int)==98)then (k0 8 ((x1.drop 1).take ((x1.length:Int).toNat - 1)))else (bif (((x1.getD 0 0).toNat:Int)==102)then (k0 12 ((x1.drop 1).take ((x1.length:Int).toNat - 1)))else (bif (((x1.getD 0 0).toNat:Int)==110)then (k0 10 ((x1.drop 1).take ((x1.length:Int).toNat - 1)))else (bif (((x1.getD 0 0).toNat:Int)==114)then (k0 13 ((x1.drop 1).take ((x1.length:Int).toNat - 1)))else (bif (((x1.getD 0 0).toNat:Int)==116)then (k0 9 ((x1.drop 1).take ((x1.length:Int).toNat - 1)))else (bif (((x1.getD 0 0).toNat:Int)==117)then (cT ((x1.drop 1).take ((x1.length:Int).toNat - 1)) (fun y3 y4=>k0 y3 y4))else (k0 (-1) ((x1.drop 1).take ((x1.length:Int).toNat - 1))))))))); bif (((x1.getD 0 0).toNat:Int)==34)then (j5 (((x1.getD 0 0).toNat:Int)==34))else (bif (((x1.getD 0 0).toNat:Int)==92)then (j5 (((x1.getD 0 0).toNat:Int)==92))else (j5 (((x1.getD 0 0).toNat:Int)==47)))))))
theorem FU:dD (R:=R) tt (vW cT) nJ false Tryz.f197 nR nS (uy (j8 cT)):=fun x y k=>by kernel_rfl
end
theorem E2:cq (R:=R) Tryz.prog (vW (R:=R) cT) := .d (GX R) rfl <| .n
def bq:jB R:=fun x1 k0=>j8 cT x1 k0
theorem Ef (R:Type):jQ Tryz.prog 197 (vV (bq (R:=R))):=bj TT mixed (E2 (R:=R)) rfl rfl rfl rfl bX (FU cT)
/-! ### (*humpyard/quote.reader).plain -/
abbrev kJ (R:Type):Type:=ag→(Int→ag→Option R)→Option R
abbrev pz:List cY := [.leaf (.ptr 0 0)]
abbrev pA:List aY := [.cells [.str]]
def wK (fn:kJ R):jR R pz pA:=fun x y k=>fn y.1.1 (fun q0 q1=>k (.int .i32 q0) [.cells [.str q1]])
def xG (fn:kJ R):=aC pz pA (wK fn)
section
def xH:List (lC R) := [(184,true,(dec_S R))]
def lF (x1:ag) (k0:Int→ag→Option R):Option R :=
 let j3:=cx (decide ((0:Int)≤(x1.length:Int))&&decide ((x1.length:Int)≤x1.length)) (cx (decide ((0:Int)≤((o4 x1).2:Int))&&decide (((o4 x1).2:Int)≤(x1.length:Int))) (k0 ((o4 x1).1:Int) ((x1.drop ((o4 x1).2:Int).toNat).take ((x1.length:Int).toNat - ((o4 x1).2:Int).toNat)))); bif (((o4 x1).1:Int)==65533)then (bif (decide (((o4 x1).2:Int)<(2:Int)))then (k0 (-1) x1)else (bif (decide (((o4 x1).1:Int)<(32:Int)))then (k0 (-1) x1)else (j3)))else (bif (decide (((o4 x1).1:Int)<(32:Int)))then (k0 (-1) x1)else (j3))
theorem HW:dD (R:=R) tt (xH (R:=R)) nJ false Tryz.f196 pz pA (wK lF):=fun x y k=>by kernel_rfl
end
theorem GY:cq (R:=R) Tryz.prog (xH (R:=R)) := .p (dec_ok) <| .n
def bV:kJ R:=fun x1 k0=>lF x1 k0
theorem FV (R:Type):jQ Tryz.prog 196 (xG (bV (R:=R))):=bj TT mixed (GY (R:=R)) rfl rfl rfl rfl bX (HW)
end Go.Proofs.YtidfokedcnhahaaGreatDoor
/-
 Functions of the program as pure Lean functions, and the ties; printed by wip/tools/emit.py.
-/
set_option maxRecDepth 100000
namespace Go.Proofs.YtidfokedcnhahaaGreatDoor
open Go Go.aq
variable {R:Type}
/-! ### humpyard/quote.Unquote -/
abbrev xp (R:Type):Type:=ag→(ag→Int→Bool→Option R)→Option R
abbrev FW:List cY := [.leaf (.str)]
abbrev FX:List aY := []
def Lo (fn:xp R):jR R FW FX:=fun x y k=>fn x.1 (fun q0 q1 q2=>k (.tuple [.str q0, .int .i64 q1, .bool q2]) [])
def Og (fn:xp R):=aC FW FX (Lo fn)
abbrev wL (R:Type):Type:=Nat→ag→ag→(List Int)→(ag→ag→(List Int)→Option R)→(ag→ag→Int→Bool→ag→(List Int)→Option R)→Option R
def rX:Hint := { live := [0,5,6],own := [],rows := [],cells := [(1,1,(.int .u8),false)],drop := [],out := [0,2,3,4,5,6] }
abbrev lg:Type:=ag×ag×(List Int)
def uW:lg→St:=fun d=>⟨.str d.1::U 4 (.ptr 0 0 :: .ptr 1 0::U 32 ([])), [.cells [.str d.2.1], .mE (.sl (.int .u8) d.2.2 (.own 2)), .tok]⟩
def wM (K:Ex→St→Option R) (q0:ag) (q1:ag) (q2:List Int):Option R:=K (.exit 0) ⟨.str q0::U 4 (.ptr 0 0 :: .ptr 1 0::U 32 ([])), [.cells [.str q1], .mE (.sl (.int .u8) q2 (.own 2)), .tok]⟩
def wN (K:Ex→St→Option R) (q0:ag) (q1:ag) (q2:Int) (q3:Bool) (q4:ag) (q5:List Int):Option R:=K (.ret) ⟨.str q0 :: .undef :: .str q1 :: .int .i64 q2 :: .bool q3 :: .ptr 0 0 :: .ptr 1 0::U 32 ([]), [.cells [.str q4], .mE (.sl (.int .u8) q5 (.own 2)), .tok]⟩
abbrev nC:List cY := .leaf (.str)::PU 4 (.leaf (.ptr 0 0) :: .leaf (.ptr 1 0)::PU 32 ([]))
abbrev nD:List aY := [.cells [.str], .mE (.Ye (.int .u8) 2), .tok]
def Gk (x:cY.cC nC) (y:aY.cC nD):Nat:=(List.length x.1+List.length y.1.1+List.length y.2.1+64)
def RT (x:cY.cC nC) (y:aY.cC nD):lg:=(x.1,y.1.1,y.2.1)
def E3 (L:wL R):D7 R nC nD:=fun x y K=>L (Gk x y) x.1 y.1.1 y.2.1 (wM K) (wN K)
section
variable (ak:fp R) (aK:jc R) (bV:kJ R) (bq:jB R) (bw:wL R)
def pK:List (lC R) := [(170,false,(kD ak av)),(84,false,(MB R)),(195,false,(qF aK av)),(196,false,(xG bV av)),(197,false,(vV bq av))]
def rY (fb:ag→ag→(List Int)→Option R) (x4:ag) (x5:ag) (x6:List Int) (e0:ag→ag→(List Int)→Option R) (e1:ag→ag→Int→Bool→ag→(List Int)→Option R):Option R :=
 aK ([34]:ag) x5 (fun y7 y8=>bif (!y7)then (aK ([92]:ag) y8 (fun y9 oc=>bif y9 then (bq oc (fun uf za=>bif (decide (uf<(0:Int)))then (e1 x4 ([]:ag) 0 false za x6)else (ak uf x6 (fun FM Gd=>fb x4 za Gd))))else (bV oc (fun Ed An=>bif (decide (Ed<(0:Int)))then (e1 x4 ([]:ag) 0 false An x6)else (ak Ed x6 (fun KV J4=>fb x4 An J4))))))else (e0 x4 y8 x6))
def Gl (K:Ex→St→Option R) (rc:lg→Option R) (d:lg):Option R:=rY ak aK bV bq (fun z0 z1 z2=>rc (z0,z1,z2)) d.1 d.2.1 d.2.2 (wM K) (wN K)
def uz:Nat→Option (Hint×dE R):=fun i=>match i with
 | 5=>some (rX,(dR nC nD (E3 bw) lL))
 | _=>none
theorem MN (K:Ex→St→Option R) (rc:St→Option R) (d:lg):roundOf tt (dx (pK ak aK bV bq)) (uz bw) 0 ((aN (bm Tryz.f158)).getD 0 .skip) rX (uW d) rc K=Gl ak aK bV bq K (fun d=>rc (uW d)) d:=by kernel_rfl
def zX (x1:ag) (k0:ag→Int→Bool→Option R):Option R :=
 aK ([34]:ag) x1 (fun y2 y3=>bif (!y2)then (k0 ([]:ag) 0 false)else (bw (List.length x1+List.length y3+List.length ([]:List Int)+64) x1 y3 ([]:List Int) (fun Pt Lg C2=>k0 (wh C2) (IntKind.i64.wrap ((Pt.length:Int) - (Lg.length:Int))) true) (fun Yi Si y24 AU IX FB=>k0 Si y24 AU)))
theorem V5:dD (R:=R) tt (pK ak aK bV bq) (uz bw) false Tryz.f158 FW FX (Lo (zX aK bw)):=fun x y k=>by kernel_rfl
end
theorem UF:cq (R:=R) Tryz.prog (pK (R:=R) ak aK bV bq) := .d (oj R) rfl <| .s (Yh) Ro <| .d (vT R) rfl <| .d (FV R) rfl <| .d (Ef R) rfl <| .n
def bw:wL R
 | 0,_,_,_,_,_=>none
 | n+1,jb,jf,jl,e0,e1=>rY ak aK bV bq (fun jb jf jl=>bw n jb jf jl e0 e1) jb jf jl e0 e1
def Gm (K:Ex→St→Option R) (n:Nat) (d:lg):Option R:=bw n d.1 d.2.1 d.2.2 (wM K) (wN K)
theorem PO (other:dE R) (ho:kg tt (dx (pK (R:=R) ak aK bV bq)) (uz (R:=R) bw) 0 ((aN (bm Tryz.f158)).getD 0 .skip) rX other):kg tt (dx (pK (R:=R) ak aK bV bq)) (uz (R:=R) bw) 0 ((aN (bm Tryz.f158)).getD 0 .skip) rX (dR nC nD (E3 (bw)) other) :=
 ei (A:=Gm) ho (gd uW (Gl ak aK bV bq) (Gm) (fun _ _=>by kernel_rfl) (MN ak aK bV bq bw) (fun _ _ _=>by kernel_rfl)) Gk RT (fun _ _=>by kernel_rfl) (fun _ _ _=>by kernel_rfl)
def fW:xp R:=fun x1 k0=>zX aK bw x1 k0
theorem RU (R:Type):∀a∈aN (bm Tryz.f158),je tt (dx (pK (R:=R) ak aK bV bq)) (uz (R:=R) bw) 0 a:=by
 refine gQ 1 (by kernel_rfl) fun i hi => ?_
 match i,hi with
 | 0,_=>exact dH (by kernel_rfl) (PO _ fk)
 | n+1,hi=>omega
theorem Tl (R:Type):jQ Tryz.prog 158 (Og (fW (R:=R))):=bj TT mixed (UF (R:=R)) rfl rfl rfl rfl (RU R) (V5 ak aK bV bq bw)
/-! ### humpyard/lexer.next -/
abbrev EH (R:Type):Type:=ag→(Token→Int→Option R)→Option R
abbrev MO:List cY := [.leaf (.str)]
abbrev MP:List aY := []
def Ss (fn:EH R):jR R MO MP:=fun x y k=>fn x.1 (fun q0 q1=>k (.tuple [.agg [.int .i64 q0.kind, .str q0.text, .int .i64 q0.num.ao, .int .i64 q0.num.exp, .int .i64 q0.at_], .int .i64 q1]) [])
def UG (fn:EH R):=aC MO MP (Ss fn)
section
variable (fW:xp R) (er:xn R) (cO:wI R)
def UH:List (lC R) := [(158,true,(Og fW av)),(157,true,(Oe er av)),(159,true,(idx_S R)),(118,true,(Ke cO av))]
def GZ (x1:ag) (k0:Token→Int→Option R):Option R :=
 cx (decide ((0:Int)<x1.length)) (let j23:=cO x1 ([97,98,99,100,101,102,103,104,105,106,107,108,109,110,111,112,113,114,115,116,117,118,119,120,121,122]:ag) (fun C2=>bif (C2==([116,114,117,101]:ag))then (k0 (⟨4,C2,⟨0,0⟩,0⟩:Token) (C2.length:Int))else (bif (C2==([102,97,108,115,101]:ag))then (k0 (⟨4,C2,⟨0,0⟩,0⟩:Token) (C2.length:Int))else (bif (!(C2==([110,117,108,108]:ag)))then (k0 (⟨0,([]:ag),⟨0,0⟩,0⟩:Token) 0)else (k0 (⟨4,C2,⟨0,0⟩,0⟩:Token) (C2.length:Int))))); bif (((x1.getD 0 0).toNat:Int)==45)then (cO x1 ([48,49,50,51,52,53,54,55,56,57,43,45,46,101,69]:ag) (fun y6=>er y6 (fun y7 y8=>bif (!y8)then (k0 (⟨0,([]:ag),⟨0,0⟩,0⟩:Token) 0)else (k0 (⟨3,y6,⟨y7.ao,y7.exp⟩,0⟩:Token) (y6.length:Int)))))else (bif (decide (((x1.getD 0 0).toNat:Int)≥(48:Int)))then (bif (decide (((x1.getD 0 0).toNat:Int)≤(57:Int)))then (cO x1 ([48,49,50,51,52,53,54,55,56,57,43,45,46,101,69]:ag) (fun y9=>er y9 (fun oc uf=>bif (!uf)then (k0 (⟨0,([]:ag),⟨0,0⟩,0⟩:Token) 0)else (k0 (⟨3,y9,⟨oc.ao,oc.exp⟩,0⟩:Token) (y9.length:Int)))))else (bif (((x1.getD 0 0).toNat:Int)==34)then (fW x1 (fun Ed An KV=>bif (!KV)then (k0 (⟨0,([]:ag),⟨0,0⟩,0⟩:Token) 0)else (k0 (⟨2,Ed,⟨0,0⟩,0⟩:Token) An)))else (bif (decide ((EC ([123,125,91,93,44,58]:ag) ((x1.getD 0 0).toNat:Int))≥(0:Int)))then (cx (decide ((1:Int)≤x1.length)) (k0 (⟨1,((x1.drop 0).take (1 - 0)),⟨0,0⟩,0⟩:Token) 1))else (j23))))else (bif (((x1.getD 0 0).toNat:Int)==34)then (fW x1 (fun J4 Pt Lg=>bif (!Lg)then (k0 (⟨0,([]:ag),⟨0,0⟩,0⟩:Token) 0)else (k0 (⟨2,J4,⟨0,0⟩,0⟩:Token) Pt)))else (bif (decide ((EC ([123,125,91,93,44,58]:ag) ((x1.getD 0 0).toNat:Int))≥(0:Int)))then (cx (decide ((1:Int)≤x1.length)) (k0 (⟨1,((x1.drop 0).take (1 - 0)),⟨0,0⟩,0⟩:Token) 1))else (j23)))))
theorem lexer_next_ok:dD (R:=R) tt (UH fW er cO) nJ false Tryz.f119 MO MP (Ss (GZ fW er cO)):=fun x y k=>by kernel_rfl
end
theorem ZG:cq (R:=R) Tryz.prog (UH (R:=R) fW er cO) := .c (Tl R) <| .c (Tk R) <| .p (idx_ok) <| .c (Lm R) <| .n
def hJ:EH R:=fun x1 k0=>GZ fW er cO x1 k0
theorem XD (R:Type):jQ Tryz.prog 119 (UG (hJ (R:=R))):=bj TT mixed (ZG (R:=R)) rfl rfl rfl rfl bX (lexer_next_ok fW er cO)
/-! ### humpyard/lexer.Scan -/
abbrev EI (R:Type):Type:=ag→((List Token)→Int→Int→Option R)→Option R
abbrev MQ:List cY := [.leaf (.str)]
abbrev MR:List aY := []
def Su (fn:EI R):jR R MQ MR:=fun x y k=>fn x.1 (fun q0 q1 q2=>k (.tuple [.sl .token q0 .no, .int .i64 q1, .int .i64 q2]) [])
def UI (fn:EI R):=aC MQ MR (Su fn)
abbrev BT (R:Type):Type:=Nat→ag→(List Token)→Int→((List Token)→Int→Int→Option R)→(Int→Int→Option R)→Option R
def xq:Hint := { live := [0,2,4],own := [(2, .token)],rows := [],cells := [],drop := [],out := [2,3,4] }
abbrev ov:Type:=ag×(List Token)×Int
def AB:ov→St:=fun d=>⟨.str d.1 :: .undef :: .sl .token d.2.1 (.own 0) :: .undef :: .int .i64 d.2.2::U 40 ([]), [.tok]⟩
def BU (K:Ex→St→Option R) (q0:List Token) (q1:Int) (q2:Int):Option R:=K (.ret) ⟨U 2 (.sl .token q0 (.own 0) :: .int .i64 q1 :: .int .i64 q2::U 40 ([])), [.tok]⟩
def BV (K:Ex→St→Option R) (q0:Int) (q1:Int):Option R:=K (.ret) ⟨U 2 (.cv :: .int .i64 q0 :: .int .i64 q1::U 40 ([])), []⟩
abbrev so:List cY := .leaf (.str) :: .leaf (.undef) :: .leaf (.Ye .token 0) :: .leaf (.undef) :: .leaf (.int .i64)::PU 40 ([])
abbrev sq:List aY := [.tok]
def Lp (x:cY.cC so) (y:aY.cC sq):Nat:=(List.length x.1+List.length x.2.2.1+Int.natAbs x.2.2.2.2.1+64)
def V6 (x:cY.cC so) (y:aY.cC sq):ov:=(x.1,x.2.2.1,x.2.2.2.2.1)
def JD (L:BT R):D7 R so sq:=fun x y K=>L (Lp x y) x.1 x.2.2.1 x.2.2.2.2.1 (BU K) (BV K)
section
variable (hJ:EH R) (cO:wI R) (cZ:BT R)
def xr:List (lC R) := [(119,true,(UG hJ av)),(118,true,(Ke cO av))]
def Eg (fb:ag→(List Token)→Int→Option R) (x2:ag) (x3:List Token) (x4:Int) (e0:(List Token)→Int→Int→Option R) (e1:Int→Int→Option R):Option R :=
 cx (decide ((0:Int)≤(x2.length:Int))&&decide ((x2.length:Int)≤x2.length)) (cx (decide ((0:Int)≤x4)&&decide (x4≤(x2.length:Int))) (cO ((x2.drop x4.toNat).take ((x2.length:Int).toNat - x4.toNat)) ([32,9,10,13]:ag) (fun y5=>bif ((IntKind.i64.wrap (x4+(y5.length:Int)))==(x2.length:Int))then (cx (decide ((x3.length+1)*48≤140737488355328)) (e0 (x3++([(⟨5,([]:ag),⟨0,0⟩,(IntKind.i64.wrap (x4+(y5.length:Int)))⟩:Token)]:List Token)) 0 0))else (cx (decide ((0:Int)≤(x2.length:Int))&&decide ((x2.length:Int)≤x2.length)) (cx (decide ((0:Int)≤(IntKind.i64.wrap (x4+(y5.length:Int))))&&decide ((IntKind.i64.wrap (x4+(y5.length:Int)))≤(x2.length:Int))) (hJ ((x2.drop (IntKind.i64.wrap (x4+(y5.length:Int))).toNat).take ((x2.length:Int).toNat - (IntKind.i64.wrap (x4+(y5.length:Int))).toNat)) (fun y6 y7=>bif (y7==0)then (e1 30 (IntKind.i64.wrap (x4+(y5.length:Int))))else (cx (decide ((x3.length+1)*48≤140737488355328)) (fb x2 (x3++([(⟨y6.kind,y6.text,⟨y6.num.ao,y6.num.exp⟩,(IntKind.i64.wrap (x4+(y5.length:Int)))⟩:Token)]:List Token)) (IntKind.i64.wrap ((IntKind.i64.wrap (x4+(y5.length:Int)))+y7)))))))))))
def Lq (K:Ex→St→Option R) (rc:ov→Option R) (d:ov):Option R:=Eg hJ cO (fun z0 z1 z2=>rc (z0,z1,z2)) d.1 d.2.1 d.2.2 (BU K) (BV K)
def BW:Nat→Option (Hint×dE R):=fun i=>match i with
 | 3=>some (xq,(dR so sq (JD cZ) lL))
 | _=>none
theorem RV (K:Ex→St→Option R) (rc:St→Option R) (d:ov):roundOf tt (dx (xr hJ cO)) (BW cZ) 0 ((aN (bm Tryz.f79)).getD 0 .skip) xq (AB d) rc K=Lq hJ cO K (fun d=>rc (AB d)) d:=by kernel_rfl
def G0 (x1:ag) (k0:(List Token)→Int→Int→Option R):Option R :=
 bif (decide ((x1.length:Int)>(20000:Int)))then (k0 ([]:List Token) 30 0)else (cZ (List.length x1+List.length ([]:List Token)+Int.natAbs 0+64) x1 ([]:List Token) 0 (fun y8 y9 oc=>k0 y8 y9 oc) (fun uf za=>k0 ([]:List Token) uf za))
theorem lexer_Scan_ok:dD (R:=R) tt (xr hJ cO) (BW cZ) false Tryz.f79 MQ MR (Su (G0 cZ)):=fun x y k=>by kernel_rfl
end
theorem ZH:cq (R:=R) Tryz.prog (xr (R:=R) hJ cO) := .c (XD R) <| .c (Lm R) <| .n
def cZ:BT R
 | 0,_,_,_,_,_=>none
 | n+1,jb,jf,jl,e0,e1=>Eg hJ cO (fun jb jf jl=>cZ n jb jf jl e0 e1) jb jf jl e0 e1
def Lr (K:Ex→St→Option R) (n:Nat) (d:ov):Option R:=cZ n d.1 d.2.1 d.2.2 (BU K) (BV K)
theorem UJ (other:dE R) (ho:kg tt (dx (xr (R:=R) hJ cO)) (BW (R:=R) cZ) 0 ((aN (bm Tryz.f79)).getD 0 .skip) xq other):kg tt (dx (xr (R:=R) hJ cO)) (BW (R:=R) cZ) 0 ((aN (bm Tryz.f79)).getD 0 .skip) xq (dR so sq (JD (cZ)) other) :=
 ei (A:=Lr) ho (gd AB (Lq hJ cO) (Lr) (fun _ _=>by kernel_rfl) (RV hJ cO cZ) (fun _ _ _=>by kernel_rfl)) Lp V6 (fun _ _=>by kernel_rfl) (fun _ _ _=>by kernel_rfl)
def ni:EI R:=fun x1 k0=>G0 cZ x1 k0
theorem V7 (R:Type):∀a∈aN (bm Tryz.f79),je tt (dx (xr (R:=R) hJ cO)) (BW (R:=R) cZ) 0 a:=by
 refine gQ 1 (by kernel_rfl) fun i hi => ?_
 match i,hi with
 | 0,_=>exact dH (by kernel_rfl) (UJ _ fk)
 | n+1,hi=>omega
theorem XE (R:Type):jQ Tryz.prog 79 (UI (ni (R:=R))):=bj TT mixed (ZH (R:=R)) rfl rfl rfl rfl (V7 R) (lexer_Scan_ok hJ cO cZ)
/-! ### (*humpyard/json.parser).fail -/
abbrev fX (R:Type):Type:=Int→(List Token)→Int→((List Token)→Int→Option R)→Option R
abbrev sr:List cY := [.leaf (.ptr 0 0), .leaf (.int .i64)]
abbrev ss:List aY := [.cells [.sl .token, .int .i64]]
def zy (fn:fX R):jR R sr ss:=fun x y k=>fn x.2.1 y.1.1 y.1.2.1 (fun q0 q1=>k (.tuple []) [.cells [.sl .token q0 .no, .int .i64 q1]])
def jS (fn:fX R):=aC sr ss (zy fn)
section
def AV (x1:Int) (x2:List Token) (x3:Int) (k0:(List Token)→Int→Option R):Option R :=
 bif (x3==0)then (k0 x2 x1)else (k0 x2 x3)
theorem Kf:dD (R:=R) (tt.mode [.json]) [] nJ false Tryz.f81 sr ss (zy AV):=fun x y k=>by kernel_rfl
end
def au:fX R:=fun x1 x2 x3 k0=>AV x1 x2 x3 k0
theorem kK (R:Type):jQ Tryz.prog 81 (jS (au (R:=R))):=bj (TT.mode [.json]) mixed .n rfl rfl rfl rfl bX (Kf)
/-! ### (*humpyard/json.parser).sign -/
abbrev jt (R:Type):Type:=ag→(List Token)→Int→(Bool→(List Token)→Int→Option R)→Option R
abbrev su:List cY := [.leaf (.ptr 0 0), .leaf (.str)]
abbrev sv:List aY := [.cells [.sl .token, .int .i64]]
def zz (fn:jt R):jR R su sv:=fun x y k=>fn x.2.1 y.1.1 y.1.2.1 (fun q0 q1 q2=>k (.bool q0) [.cells [.sl .token q1 .no, .int .i64 q2]])
def sw (fn:jt R):=aC su sv (zz fn)
section
def AW (x1:ag) (x2:List Token) (x3:Int) (k0:Bool→(List Token)→Int→Option R):Option R :=
 cx (decide ((0:Int)<x2.length)) (bif (x3 != 0)then (k0 false x2 x3)else (bif ((x2.getD 0 (Ty.bR .token)).kind != 1)then (k0 false x2 x3)else (bif (!((x2.getD 0 (Ty.bR .token)).text==x1))then (k0 false x2 x3)else (cx (decide ((1:Int)≤x2.length)) (k0 true (x2.drop 1) x3)))))
theorem Kg:dD (R:=R) (tt.mode [.json]) [] nJ false Tryz.f199 su sv (zz AW):=fun x y k=>by kernel_rfl
end
def ax:jt R:=fun x1 x2 x3 k0=>AW x1 x2 x3 k0
theorem wO (R:Type):jQ Tryz.prog 199 (sw (ax (R:=R))):=bj (TT.mode [.json]) mixed .n rfl rfl rfl rfl bX (Kg)
/-! ### (*humpyard/json.parser).name -/
abbrev mf (R:Type):Type:=(List ag)→(List Token)→Int→(ag→(List Token)→Int→Option R)→Option R
abbrev sA:List cY := [.leaf (.ptr 0 0), .leaf (.Ye .str 1)]
abbrev sB:List aY := [.cells [.sl .token, .int .i64], .tok]
def zA (fn:mf R):jR R sA sB:=fun x y k=>fn x.2.1 y.1.1 y.1.2.1 (fun q0 q1 q2=>k (.str q0) [.cells [.sl .token q1 .no, .int .i64 q2], .tok])
def AX (fn:mf R):=aC sA sB (zA fn)
section
variable (au:fX R) (ax:jt R) (aB:gh R)
def AY:List (lC R) := [(81,false,(jS au av)),(199,false,(sw ax av)),(85,true,(lP aB av))]
def AZ (x1:List ag) (x2:List Token) (x3:Int) (k0:ag→(List Token)→Int→Option R):Option R :=
 cx (decide ((0:Int)<x2.length)) (bif ((x2.getD 0 (Ty.bR .token)).kind != 2)then (au 40 x2 x3 (fun y4 y5=>k0 ((x2.getD 0 (Ty.bR .token)).text) y4 y5))else (aB x1 ((x2.getD 0 (Ty.bR .token)).text) (fun y6=>bif y6 then (au 42 x2 x3 (fun y7 y8=>k0 ((x2.getD 0 (Ty.bR .token)).text) y7 y8))else (cx (decide ((1:Int)≤x2.length)) (ax ([58]:ag) (x2.drop 1) x3 (fun y9 oc uf=>bif (!y9)then (au 40 oc uf (fun za FM=>k0 ((x2.getD 0 (Ty.bR .token)).text) za FM))else (k0 ((x2.getD 0 (Ty.bR .token)).text) oc uf)))))))
theorem Kh:dD (R:=R) (tt.mode [.json]) (AY au ax aB) nJ false Tryz.f162 sA sB (zA (AZ au ax aB)):=fun x y k=>by kernel_rfl
end
theorem I2:cq (R:=R) Tryz.prog (AY (R:=R) au ax aB) := .d (kK R) rfl <| .d (wO R) rfl <| .c (ph R) <| .n
def da:mf R:=fun x1 x2 x3 k0=>AZ au ax aB x1 x2 x3 k0
theorem HX (R:Type):jQ Tryz.prog 162 (AX (da (R:=R))):=bj (TT.mode [.json]) mixed (I2 (R:=R)) rfl rfl rfl rfl bX (Kh au ax aB)
end Go.Proofs.YtidfokedcnhahaaGreatDoor
/-
 Functions of the program as pure Lean functions, and the ties; printed by wip/tools/emit.py.
-/
set_option maxRecDepth 100000
namespace Go.Proofs.YtidfokedcnhahaaGreatDoor
open Go Go.aq
variable {R:Type}
/-! ### (*humpyard/json.parser).value -/
abbrev aD (R:Type):Type:=Int→(List Token)→Int→(Json→(List Token)→Int→Option R)→Option R
abbrev cr:List cY := [.leaf (.ptr 0 0), .leaf (.int .i64)]
abbrev ct:List aY := [.cells [.sl .token, .int .i64]]
def bK (fn:aD R):jR R cr ct:=fun x y k=>fn x.2.1 y.1.1 y.1.2.1 (fun q0 q1 q2=>k (.agg [.int .i64 q0.kind, .int .i64 q0.num.ao, .int .i64 q0.num.exp, .str q0.text, .sl .str q0.names .no, .sl .json q0.items .no]) [.cells [.sl .token q1 .no, .int .i64 q2]])
def zB (fn:aD R):=aC cr ct (bK fn)
/-! ### (*humpyard/json.parser).parts$1 -/
abbrev j9 (R:Type):Type:=Bool→Int→Int→Int→ag→(List ag)→Nat→Int→(List Json)→(List Token)→Int→(Bool→Int→Int→Int→ag→(List ag)→Nat→Int→(List Token)→Int→(List Json)→Option R)→(Bool→Int→Int→Int→ag→(List ag)→Nat→Int→(List Json)→(List Token)→Int→Option R)→(Bool→Int→Int→Int→ag→(List ag)→Nat→Int→(List Token)→Int→(List Json)→Option R)→(Bool→Int→Int→Int→ag→(List ag)→Nat→Int→(List Json)→(List Token)→Int→Option R)→Option R
abbrev oR:List cY := [.leaf (.ptr 0 0), .leaf (.ptr 1 0), .leaf (.ptr 2 0), .leaf (.ptr 3 0)]
abbrev oS:List aY := [.cells [.bool], .cells [.int .i64, .int .i64, .int .i64, .str, .Ye .str 4, .row 5], .cells [.ptr 6 0], .cells [.int .i64], .tok, .row .json, .cells [.sl .token, .int .i64]]
def vX (fn:j9 R):jR R oR oS:=fun x y k=>fn y.1.1 y.2.1.1 y.2.1.2.1 y.2.1.2.2.1 y.2.1.2.2.2.1 y.2.1.2.2.2.2.1 y.2.1.2.2.2.2.2.1 y.2.2.2.1.1 y.2.2.2.2.2.1 y.2.2.2.2.2.2.1.1 y.2.2.2.2.2.2.1.2.1 (fun q0 q1 q2 q3 q4 q5 q6 q7 q8 q9 q10=>k (.tuple []) [.cells [.bool q0], .cells [.int .i64 q1, .int .i64 q2, .int .i64 q3, .str q4, .sl .str q5 (.own 7), .row 8 q6], .cells [.ptr 6 0], .cells [.int .i64 q7], .dead, .dead, .cells [.sl .token q8 .no, .int .i64 q9], .tok, .row .json q10]) (fun q0 q1 q2 q3 q4 q5 q6 q7 q8 q9 q10=>k (.tuple []) [.cells [.bool q0], .cells [.int .i64 q1, .int .i64 q2, .int .i64 q3, .str q4, .sl .str q5 (.own 7), .row 5 q6], .cells [.ptr 6 0], .cells [.int .i64 q7], .dead, .row .json q8, .cells [.sl .token q9 .no, .int .i64 q10], .tok]) (fun q0 q1 q2 q3 q4 q5 q6 q7 q8 q9 q10=>k (.tuple []) [.cells [.bool q0], .cells [.int .i64 q1, .int .i64 q2, .int .i64 q3, .str q4, .sl .str q5 (.own 4), .row 7 q6], .cells [.ptr 6 0], .cells [.int .i64 q7], .tok, .dead, .cells [.sl .token q8 .no, .int .i64 q9], .row .json q10]) (fun q0 q1 q2 q3 q4 q5 q6 q7 q8 q9 q10=>k (.tuple []) [.cells [.bool q0], .cells [.int .i64 q1, .int .i64 q2, .int .i64 q3, .str q4, .sl .str q5 (.own 4), .row 5 q6], .cells [.ptr 6 0], .cells [.int .i64 q7], .tok, .row .json q8, .cells [.sl .token q9 .no, .int .i64 q10]])
def wP (fn:j9 R):=aC oR oS (vX fn)
section
variable (da:mf R) (ah:aD R)
def wQ:List (lC R) := [(162,false,(AX da av)),(80,false,(aC cr ct (bK ah) av))]
def eD (x1:Bool) (x2:Int) (x3:Int) (x4:Int) (x5:ag) (x6:List ag) (x7:Nat) (x8:Int) (x9:List Json) (x10:List Token) (x11:Int) (k0:Bool→Int→Int→Int→ag→(List ag)→Nat→Int→(List Token)→Int→(List Json)→Option R) (k1:Bool→Int→Int→Int→ag→(List ag)→Nat→Int→(List Json)→(List Token)→Int→Option R) (k2:Bool→Int→Int→Int→ag→(List ag)→Nat→Int→(List Token)→Int→(List Json)→Option R) (k3:Bool→Int→Int→Int→ag→(List ag)→Nat→Int→(List Json)→(List Token)→Int→Option R):Option R :=
 bif x1 then (da x6 x10 x11 (fun za FM Gd=>cx (decide ((x6.length+1)*16≤140737488355328)) (bif (Gd==0)then (ah (IntKind.i64.wrap (x8+1)) FM Gd (fun Ed An KV=>cx (decide ((x9.length+1)*88≤140737488355328)) (cx (decide ((0:Int)≤(x7:Int))&&decide ((x7:Int)<(x9.length+1))) (cx (decide ((x7:Int).toNat<(x9++([(⟨0,⟨0,0⟩,([]:ag),([]:List ag),([]:List Json)⟩:Json)]:List Json)).length)) (k0 x1 x2 x3 x4 x5 (x6++([za]:List ag)) (x9.length+1) x8 An KV ((x9++([(⟨0,⟨0,0⟩,([]:ag),([]:List ag),([]:List Json)⟩:Json)]:List Json)).set ((x7:Int).toNat) (⟨Ed.kind,⟨Ed.num.ao,Ed.num.exp⟩,Ed.text,Ed.names,Ed.items⟩:Json)))))))else (k1 x1 x2 x3 x4 x5 (x6++([za]:List ag)) x7 x8 x9 FM Gd))))else (bif (x11==0)then (ah (IntKind.i64.wrap (x8+1)) x10 x11 (fun J4 Pt Lg=>cx (decide ((x9.length+1)*88≤140737488355328)) (cx (decide ((0:Int)≤(x7:Int))&&decide ((x7:Int)<(x9.length+1))) (cx (decide ((x7:Int).toNat<(x9++([(⟨0,⟨0,0⟩,([]:ag),([]:List ag),([]:List Json)⟩:Json)]:List Json)).length)) (k2 x1 x2 x3 x4 x5 x6 (x9.length+1) x8 Pt Lg ((x9++([(⟨0,⟨0,0⟩,([]:ag),([]:List ag),([]:List Json)⟩:Json)]:List Json)).set ((x7:Int).toNat) (⟨J4.kind,⟨J4.num.ao,J4.num.exp⟩,J4.text,J4.names,J4.items⟩:Json)))))))else (k3 x1 x2 x3 x4 x5 x6 x7 x8 x9 x10 x11))
theorem G1:dD (R:=R) (tt.mode [.json]) (wQ da ah) nJ false Tryz.f161 oR oS (vX (eD da ah)):=fun x y k=>by kernel_rfl
end
theorem FY (ah:aD R) (bN:aq.Spec.Ok Tryz.prog 80 (aC cr ct (bK ah) av)):cq (R:=R) Tryz.prog (wQ (R:=R) da ah) := .d (HX R) rfl <| .f bN rfl <| .n
def bn (ah:aD R):j9 R:=fun x1 x2 x3 x4 x5 x6 x7 x8 x9 x10 x11 k0 k1 k2 k3=>eD da ah x1 x2 x3 x4 x5 x6 x7 x8 x9 x10 x11 k0 k1 k2 k3
theorem E4 (R:Type) (ah:aD R) (bN:aq.Spec.Ok Tryz.prog 80 (aC cr ct (bK ah) av)):jQ Tryz.prog 161 (wP (bn ah)):=bj (TT.mode [.json]) mixed (FY ah bN) rfl rfl rfl rfl bX (G1 da ah)
/-! ### (*humpyard/json.parser).list -/
abbrev mg (R:Type):Type:=ag→(List Token)→Int→Bool→Int→Int→Int→ag→Int→((List Token)→Int→Bool→Int→Int→Int→ag→Int→Option R)→((List Token)→Int→Bool→Int→Int→Int→ag→(List ag)→Nat→Int→(List Json)→Option R)→Option R
abbrev sC:List cY := [.leaf (.ptr 0 0), .leaf (.str), .func 161 [] [.ptr 1 0, .ptr 2 0, .ptr 3 0, .ptr 4 0]]
abbrev sD:List aY := [.cells [.sl .token, .int .i64], .cells [.bool], .cells [.int .i64, .int .i64, .int .i64, .str, .cv, .cv], .cells [.ptr 0 0], .cells [.int .i64]]
def zC (fn:mg R):jR R sC sD:=fun x y k=>fn x.2.1 y.1.1 y.1.2.1 y.2.1.1 y.2.2.1.1 y.2.2.1.2.1 y.2.2.1.2.2.1 y.2.2.1.2.2.2.1 y.2.2.2.2.1.1 (fun q0 q1 q2 q3 q4 q5 q6 q7=>k (.tuple []) [.cells [.sl .token q0 .no, .int .i64 q1], .cells [.bool q2], .cells [.int .i64 q3, .int .i64 q4, .int .i64 q5, .str q6, .cv, .cv], .cells [.ptr 0 0], .cells [.int .i64 q7]]) (fun q0 q1 q2 q3 q4 q5 q6 q7 q8 q9 q10=>k (.tuple []) [.cells [.sl .token q0 .no, .int .i64 q1], .cells [.bool q2], .cells [.int .i64 q3, .int .i64 q4, .int .i64 q5, .str q6, .sl .str q7 (.own 5), .row 6 q8], .cells [.ptr 0 0], .cells [.int .i64 q9], .tok, .row .json q10])
def A0 (fn:mg R):=aC sC sD (zC fn)
abbrev nj (R:Type):Type:=Nat→ag→(List Token)→Int→Bool→Int→Int→Int→ag→(List ag)→Nat→Int→(List Json)→((List Token)→Int→Bool→Int→Int→Int→ag→(List ag)→Nat→Int→(List Json)→Option R)→Option R
def ka:Hint := { live := [0,1,2],own := [],rows := [],cells := [(2,4, .str,false),(2,5, .json,true)],drop := [],out := [] }
abbrev ga:Type:=ag×(List Token)×Int×Bool×Int×Int×Int×ag×(List ag)×Nat×Int×(List Json)
def my:ga→St:=fun d=>⟨.ptr 0 0 :: .str d.1 :: .func 161 [] [.ptr 1 0, .ptr 2 0, .ptr 3 0, .ptr 4 0]::U 23 ([]), [.cells [.sl .token d.2.1 .no, .int .i64 d.2.2.1], .cells [.bool d.2.2.2.1], .cells [.int .i64 d.2.2.2.2.1, .int .i64 d.2.2.2.2.2.1, .int .i64 d.2.2.2.2.2.2.1, .str d.2.2.2.2.2.2.2.1, .sl .str d.2.2.2.2.2.2.2.2.1 (.own 5), .row 6 d.2.2.2.2.2.2.2.2.2.1], .cells [.ptr 0 0], .cells [.int .i64 d.2.2.2.2.2.2.2.2.2.2.1], .tok, .row .json d.2.2.2.2.2.2.2.2.2.2.2]⟩
def nk (K:Ex→St→Option R) (q0:List Token) (q1:Int) (q2:Bool) (q3:Int) (q4:Int) (q5:Int) (q6:ag) (q7:List ag) (q8:Nat) (q9:Int) (q10:List Json):Option R:=K (.ret) ⟨U 26 ([]), [.cells [.sl .token q0 .no, .int .i64 q1], .cells [.bool q2], .cells [.int .i64 q3, .int .i64 q4, .int .i64 q5, .str q6, .sl .str q7 (.own 5), .row 6 q8], .cells [.ptr 0 0], .cells [.int .i64 q9], .tok, .row .json q10]⟩
abbrev ic:List cY := .leaf (.ptr 0 0) :: .leaf (.str) :: .func 161 [] [.ptr 1 0, .ptr 2 0, .ptr 3 0, .ptr 4 0]::PU 23 ([])
abbrev ie:List aY := [.cells [.sl .token, .int .i64], .cells [.bool], .cells [.int .i64, .int .i64, .int .i64, .str, .Ye .str 5, .row 6], .cells [.ptr 0 0], .cells [.int .i64], .tok, .row .json]
def vY (x:cY.cC ic) (y:aY.cC ie):Nat:=(List.length x.2.1+List.length y.1.1+Int.natAbs y.1.2.1+Int.natAbs y.2.2.1.1+Int.natAbs y.2.2.1.2.1+Int.natAbs y.2.2.1.2.2.1+List.length y.2.2.1.2.2.2.1+List.length y.2.2.1.2.2.2.2.1+Int.natAbs y.2.2.2.2.1.1+List.length y.2.2.2.2.2.2.1+64)
def G2 (x:cY.cC ic) (y:aY.cC ie):ga:=(x.2.1,y.1.1,y.1.2.1,y.2.1.1,y.2.2.1.1,y.2.2.1.2.1,y.2.2.1.2.2.1,y.2.2.1.2.2.2.1,y.2.2.1.2.2.2.2.1,y.2.2.1.2.2.2.2.2.1,y.2.2.2.2.1.1,y.2.2.2.2.2.2.1)
def uA (L:nj R):D7 R ic ie:=fun x y K=>L (vY x y) x.2.1 y.1.1 y.1.2.1 y.2.1.1 y.2.2.1.1 y.2.2.1.2.1 y.2.2.1.2.2.1 y.2.2.1.2.2.2.1 y.2.2.1.2.2.2.2.1 y.2.2.1.2.2.2.2.2.1 y.2.2.2.2.1.1 y.2.2.2.2.2.2.1 (nk K)
section
variable (au:fX R) (bn:j9 R) (ax:jt R) (aJ:nj R)
def iu:List (lC R) := [(81,false,(jS au av)),(161,false,(wP bn av)),(199,false,(sw ax av))]
def nT (fb:ag→(List Token)→Int→Bool→Int→Int→Int→ag→(List ag)→Nat→Int→(List Json)→Option R) (VS:ag) (Xr:List Token) (n9:Int) (uP:Bool) (ml:Int) (wu:Int) (Dk:Int) (Gh:ag) (Sr:List ag) (x22:Nat) (x23:Int) (x24:List Json) (e0:(List Token)→Int→Bool→Int→Int→Int→ag→(List ag)→Nat→Int→(List Json)→Option R):Option R :=
 bn uP ml wu Dk Gh Sr x22 x23 x24 Xr n9 (fun AU IX FB O7 WV OI XC HT y33 y34 y35=>bif (y34 != 0)then (e0 y33 y34 AU IX FB O7 WV OI XC HT y35)else (ax VS y33 y34 (fun y69 y70 y71=>bif y69 then (e0 y70 y71 AU IX FB O7 WV OI XC HT y35)else (ax ([44]:ag) y70 y71 (fun y75 y76 y77=>bif (!y75)then (au 40 y76 y77 (fun y78 y79=>e0 y78 y79 AU IX FB O7 WV OI XC HT y35))else (fb VS y76 y77 AU IX FB O7 WV OI XC HT y35)))))) (fun y36 y37 y38 Zv y40 y41 y42 y43 y44 y45 y46=>bif (y46 != 0)then (e0 y45 y46 y36 y37 y38 Zv y40 y41 y42 y43 y44)else (ax VS y45 y46 (fun y80 y81 y82=>bif y80 then (e0 y81 y82 y36 y37 y38 Zv y40 y41 y42 y43 y44)else (ax ([44]:ag) y81 y82 (fun y86 y87 y88=>bif (!y86)then (au 40 y87 y88 (fun y89 y90=>e0 y89 y90 y36 y37 y38 Zv y40 y41 y42 y43 y44))else (fb VS y87 y88 y36 y37 y38 Zv y40 y41 y42 y43 y44)))))) (fun y47 y48 y49 y50 y51 y52 y53 y54 y55 y56 y57=>bif (y56 != 0)then (e0 y55 y56 y47 y48 y49 y50 y51 y52 y53 y54 y57)else (ax VS y55 y56 (fun y91 y92 y93=>bif y91 then (e0 y92 y93 y47 y48 y49 y50 y51 y52 y53 y54 y57)else (ax ([44]:ag) y92 y93 (fun y97 y98 y99=>bif (!y97)then (au 40 y98 y99 (fun y100 y101=>e0 y100 y101 y47 y48 y49 y50 y51 y52 y53 y54 y57))else (fb VS y98 y99 y47 y48 y49 y50 y51 y52 y53 y54 y57)))))) (fun y58 y59 y60 y61 y62 y63 y64 y65 y66 y67 y68=>bif (y68 != 0)then (e0 y67 y68 y58 y59 y60 y61 y62 y63 y64 y65 y66)else (ax VS y67 y68 (fun y102 y103 y104=>bif y102 then (e0 y103 y104 y58 y59 y60 y61 y62 y63 y64 y65 y66)else (ax ([44]:ag) y103 y104 (fun y108 y109 y110=>bif (!y108)then (au 40 y109 y110 (fun y111 y112=>e0 y111 y112 y58 y59 y60 y61 y62 y63 y64 y65 y66))else (fb VS y109 y110 y58 y59 y60 y61 y62 y63 y64 y65 y66))))))
def vZ (K:Ex→St→Option R) (rc:ga→Option R) (d:ga):Option R:=nT au bn ax (fun z0 z1 z2 z3 z4 z5 z6 z7 z8 z9 Xs xT=>rc (z0,z1,z2,z3,z4,z5,z6,z7,z8,z9,Xs,xT)) d.1 d.2.1 d.2.2.1 d.2.2.2.1 d.2.2.2.2.1 d.2.2.2.2.2.1 d.2.2.2.2.2.2.1 d.2.2.2.2.2.2.2.1 d.2.2.2.2.2.2.2.2.1 d.2.2.2.2.2.2.2.2.2.1 d.2.2.2.2.2.2.2.2.2.2.1 d.2.2.2.2.2.2.2.2.2.2.2 (nk K)
def jT:Nat→Option (Hint×dE R):=fun i=>match i with
 | 1=>some (ka,(dR ic ie (uA aJ) lL))
 | _=>none
theorem Eh (K:Ex→St→Option R) (rc:St→Option R) (d:ga):roundOf (tt.mode [.json]) (dx (iu au bn ax)) (jT aJ) 5 ((aN (bm Tryz.f160)).getD 0 .skip) ka (my d) rc K=vZ au bn ax K (fun d=>rc (my d)) d:=by kernel_rfl
def A1 (x1:ag) (x2:List Token) (x3:Int) (x4:Bool) (x5:Int) (x6:Int) (x7:Int) (x8:ag) (x9:Int) (k0:(List Token)→Int→Bool→Int→Int→Int→ag→Int→Option R) (k1:(List Token)→Int→Bool→Int→Int→Int→ag→(List ag)→Nat→Int→(List Json)→Option R):Option R :=
 ax x1 x2 x3 (fun oc uf za=>bif oc then (k0 uf za x4 x5 x6 x7 x8 x9)else (aJ (List.length x1+List.length uf+Int.natAbs za+Int.natAbs x5+Int.natAbs x6+Int.natAbs x7+List.length x8+List.length ([]:List ag)+Int.natAbs x9+List.length ([]:List Json)+64) x1 uf za x4 x5 x6 x7 x8 ([]:List ag) 0 x9 ([]:List Json) (fun y113 y114 y115 y116 y117 y118 y119 y120 y121 y122 y123=>k1 y113 y114 y115 y116 y117 y118 y119 y120 y121 y122 y123)))
theorem Ki:dD (R:=R) (tt.mode [.json]) (iu au bn ax) (jT aJ) false Tryz.f160 sC sD (zC (A1 ax aJ)):=fun x y k=>by kernel_rfl
end
theorem I3 (ah:aD R) (bN:aq.Spec.Ok Tryz.prog 80 (aC cr ct (bK ah) av)):cq (R:=R) Tryz.prog (iu (R:=R) au (bn ah) ax) := .d (kK R) rfl <| .d (E4 R ah bN) rfl <| .d (wO R) rfl <| .n
def aJ (ah:aD R):nj R
 | 0,_,_,_,_,_,_,_,_,_,_,_,_,_=>none
 | n+1,jb,jf,jl,uk,Ea,FJ,RN,RO,RP,RQ,xU,J5,e0=>nT au (bn ah) ax (fun jb jf jl uk Ea FJ RN RO RP RQ xU J5=>aJ ah n jb jf jl uk Ea FJ RN RO RP RQ xU J5 e0) jb jf jl uk Ea FJ RN RO RP RQ xU J5 e0
def v7 (ah:aD R) (K:Ex→St→Option R) (n:Nat) (d:ga):Option R:=aJ ah n d.1 d.2.1 d.2.2.1 d.2.2.2.1 d.2.2.2.2.1 d.2.2.2.2.2.1 d.2.2.2.2.2.2.1 d.2.2.2.2.2.2.2.1 d.2.2.2.2.2.2.2.2.1 d.2.2.2.2.2.2.2.2.2.1 d.2.2.2.2.2.2.2.2.2.2.1 d.2.2.2.2.2.2.2.2.2.2.2 (nk K)
theorem FZ (ah:aD R) (other:dE R) (ho:kg (tt.mode [.json]) (dx (iu (R:=R) au (bn ah) ax)) (jT (R:=R) (aJ ah)) 5 ((aN (bm Tryz.f160)).getD 0 .skip) ka other):kg (tt.mode [.json]) (dx (iu (R:=R) au (bn ah) ax)) (jT (R:=R) (aJ ah)) 5 ((aN (bm Tryz.f160)).getD 0 .skip) ka (dR ic ie (uA (aJ ah)) other) :=
 ei (A:=v7 ah) ho (gd my (vZ au (bn ah) ax) (v7 ah) (fun _ _=>by kernel_rfl) (Eh au (bn ah) ax (aJ ah)) (fun _ _ _=>by kernel_rfl)) vY G2 (fun _ _=>by kernel_rfl) (fun _ _ _=>by kernel_rfl)
def cn (ah:aD R):mg R:=fun x1 x2 x3 x4 x5 x6 x7 x8 x9 k0 k1=>A1 ax (aJ ah) x1 x2 x3 x4 x5 x6 x7 x8 x9 k0 k1
theorem G3 (R:Type) (ah:aD R) (bN:aq.Spec.Ok Tryz.prog 80 (aC cr ct (bK ah) av)):∀a∈aN (bm Tryz.f160),je (tt.mode [.json]) (dx (iu (R:=R) au (bn ah) ax)) (jT (R:=R) (aJ ah)) 5 a:=by
 refine gQ 1 (by kernel_rfl) fun i hi => ?_
 match i,hi with
 | 0,_=>exact dH (by kernel_rfl) (FZ ah _ fk)
 | n+1,hi=>omega
theorem HY (R:Type) (ah:aD R) (bN:aq.Spec.Ok Tryz.prog 80 (aC cr ct (bK ah) av)):jQ Tryz.prog 160 (A0 (cn ah)):=bj (TT.mode [.json]) mixed (I3 ah bN) rfl rfl rfl rfl (G3 R ah bN) (Ki au (bn ah) ax (aJ ah))
/-! ### (*humpyard/json.parser).parts -/
abbrev lG (R:Type):Type:=Bool→Int→(List Token)→Int→(Json→(List Token)→Int→Option R)→Option R
abbrev qN:List cY := [.leaf (.ptr 0 0), .leaf (.bool), .leaf (.int .i64)]
abbrev qO:List aY := [.cells [.sl .token, .int .i64]]
def xI (fn:lG R):jR R qN qO:=fun x y k=>fn x.2.1 x.2.2.1 y.1.1 y.1.2.1 (fun q0 q1 q2=>k (.agg [.int .i64 q0.kind, .int .i64 q0.num.ao, .int .i64 q0.num.exp, .str q0.text, .sl .str q0.names .no, .sl .json q0.items .no]) [.cells [.sl .token q1 .no, .int .i64 q2]])
def zD (fn:lG R):=aC qN qO (xI fn)
section
variable (cn:mg R)
def zE:List (lC R) := [(160,false,(A0 cn av))]
def zF (x1:Bool) (x2:Int) (x3:List Token) (x4:Int) (k0:Json→(List Token)→Int→Option R):Option R :=
 bif x1 then (cn ([125]:ag) x3 x4 x1 7 0 0 ([]:ag) x2 (fun y5 y6 y7 y8 y9 oc uf za=>k0 (⟨y8,⟨y9,oc⟩,uf,([]:List ag),([]:List Json)⟩:Json) y5 y6) (fun FM Gd Ed An KV J4 Pt Lg C2 Yi Si=>k0 (⟨An,⟨KV,J4⟩,Pt,Lg,Si⟩:Json) FM Gd))else (cn ([93]:ag) x3 x4 x1 6 0 0 ([]:ag) x2 (fun y24 AU IX FB O7 WV OI XC=>k0 (⟨FB,⟨O7,WV⟩,OI,([]:List ag),([]:List Json)⟩:Json) y24 AU) (fun HT y33 y34 y35 y36 y37 y38 Zv y40 y41 y42=>k0 (⟨y35,⟨y36,y37⟩,y38,Zv,y42⟩:Json) HT y33))
theorem I4:dD (R:=R) (tt.mode [.json]) (zE cn) nJ false Tryz.f120 qN qO (xI (zF cn)):=fun x y k=>by kernel_rfl
end
theorem HZ (ah:aD R) (bN:aq.Spec.Ok Tryz.prog 80 (aC cr ct (bK ah) av)):cq (R:=R) Tryz.prog (zE (R:=R) (cn ah)) := .d (HY R ah bN) rfl <| .n
def cU (ah:aD R):lG R:=fun x1 x2 x3 x4 k0=>zF (cn ah) x1 x2 x3 x4 k0
theorem G4 (R:Type) (ah:aD R) (bN:aq.Spec.Ok Tryz.prog 80 (aC cr ct (bK ah) av)):jQ Tryz.prog 120 (zD (cU ah)):=bj (TT.mode [.json]) mixed (HZ ah bN) rfl rfl rfl rfl bX (I4 (cn ah))
section
variable (au:fX R) (cU:lG R)
def zG:List (lC R) := [(81,false,(jS au av)),(120,false,(zD cU av))]
def zH (x1:Int) (x2:List Token) (x3:Int) (k0:Json→(List Token)→Int→Option R):Option R :=
 cx (decide ((0:Int)<x2.length)) (let j20:=fun (z4:Bool)=>let j19:=fun (z9:List Token) (Xs:Int)=>bif (Xs != 0)then (k0 (⟨0,⟨0,0⟩,([]:ag),([]:List ag),([]:List Json)⟩:Json) z9 Xs)else (cx (decide ((1:Int)≤z9.length)) (let j18:=bif ((x2.getD 0 (Ty.bR .token)).kind==3)then (k0 (⟨4,⟨(x2.getD 0 (Ty.bR .token)).num.ao,(x2.getD 0 (Ty.bR .token)).num.exp⟩,([]:ag),([]:List ag),([]:List Json)⟩:Json) (z9.drop 1) Xs)else (k0 (⟨5,⟨0,0⟩,(x2.getD 0 (Ty.bR .token)).text,([]:List ag),([]:List Json)⟩:Json) (z9.drop 1) Xs); let j17:=fun (xT:Bool)=>bif xT then (bif ((x2.getD 0 (Ty.bR .token)).kind==1)then (cU ((x2.getD 0 (Ty.bR .token)).text==([123]:ag)) x1 (z9.drop 1) Xs (fun za FM Gd=>k0 (⟨za.kind,⟨za.num.ao,za.num.exp⟩,za.text,za.names,za.items⟩:Json) FM Gd))else (j18))else (let j16:=fun (z15:Bool)=>bif z15 then (bif ((x2.getD 0 (Ty.bR .token)).kind==4)then (k0 (⟨((mm .str (.int .i64) ((x2.getD 0 (Ty.bR .token)).text) ([(([110,117,108,108]:ag),1),(([102,97,108,115,101]:ag),2),(([116,114,117,101]:ag),3)]:List (ag×Int))):Int),⟨0,0⟩,([]:ag),([]:List ag),([]:List Json)⟩:Json) (z9.drop 1) Xs)else (j18))else (j18); bif ((x2.getD 0 (Ty.bR .token)).text==([110,117,108,108]:ag))then (j16 ((x2.getD 0 (Ty.bR .token)).text==([110,117,108,108]:ag)))else (bif ((x2.getD 0 (Ty.bR .token)).text==([102,97,108,115,101]:ag))then (j16 ((x2.getD 0 (Ty.bR .token)).text==([102,97,108,115,101]:ag)))else (j16 ((x2.getD 0 (Ty.bR .token)).text==([116,114,117,101]:ag))))); bif ((x2.getD 0 (Ty.bR .token)).text==([91]:ag))then (j17 ((x2.getD 0 (Ty.bR .token)).text==([91]:ag)))else (j17 ((x2.getD 0 (Ty.bR .token)).text==([123]:ag))))); bif (!z4)then (au 40 x2 x3 (fun y5 y6=>j19 y5 y6))else (bif (decide (x1>(16:Int)))then (au 41 x2 x3 (fun y7 y8=>j19 y7 y8))else (j19 x2 x3)); bif ((x2.getD 0 (Ty.bR .token)).kind==2)then (j20 true)else (bif ((x2.getD 0 (Ty.bR .token)).kind==3)then (j20 true)else (bif ((x2.getD 0 (Ty.bR .token)).kind==4)then (j20 true)else (bif ((x2.getD 0 (Ty.bR .token)).kind==1)then (bif ((x2.getD 0 (Ty.bR .token)).text==([91]:ag))then (j20 true)else (j20 ((x2.getD 0 (Ty.bR .token)).text==([123]:ag))))else (j20 false)))))
theorem I5:dD (R:=R) (tt.mode [.json]) (zG au cU) nJ false Tryz.f80 cr ct (bK (zH au cU)):=fun x y k=>by kernel_rfl
end
theorem H0 (ah:aD R) (bN:aq.Spec.Ok Tryz.prog 80 (aC cr ct (bK ah) av)):cq (R:=R) Tryz.prog (zG (R:=R) au (cU ah)) := .d (kK R) rfl <| .d (G4 R ah bN) rfl <| .n
def qP (ah:aD R):aD R:=fun x1 x2 x3 k0=>zH au (cU ah) x1 x2 x3 k0
theorem F0 (R:Type) (ah:aD R) (bN:aq.Spec.Ok Tryz.prog 80 (aC cr ct (bK ah) av)):jQ Tryz.prog 80 (zB (qP ah)):=bj (TT.mode [.json]) mixed (H0 ah bN) rfl rfl rfl rfl bX (I5 au (cU ah))
def bt:Nat→aD R
 | 0,_,_,_,_=>none
 | n+1,jb,jf,jl,k0'=>qP (bt n) jb jf jl k0'
theorem WW (n:Nat):bt (R:=R) (n+1)=qP (bt n):=by kernel_rfl
theorem G5 (R:Type):∀n,aq.Spec.Ok Tryz.prog 80 (aC cr ct (bK (bt (R:=R) n)) av) :=
 AT (run:=fun n=>bK (bt (R:=R) n)) (fun x y k=>by kernel_rfl) fun n hyp=>F0 R (bt n) hyp av (fA _)
def di:aD R:=fun x1 x2 x3 k0=>bt 40 x1 x2 x3 k0
theorem G6 (R:Type):bK (R:=R) di=fun x y k=>bK (bt 40) x y k:=by kernel_rfl
theorem G7 (R:Type) (other:aq.Spec R) (ho:aq.Spec.Ok Tryz.prog 80 other):aq.Spec.Ok Tryz.prog 80 (aC cr ct (bK di) other) :=
 HH (Le (run:=fun n=>bK (bt (R:=R) n)) (fun x y=>40) ho (G5 R)) (G6 R)
end Go.Proofs.YtidfokedcnhahaaGreatDoor
/-
 Functions of the program as pure Lean functions, and the ties; printed by wip/tools/emit.py.
-/
set_option maxRecDepth 100000
namespace Go.Proofs.YtidfokedcnhahaaGreatDoor
open Go Go.aq
variable {R:Type}
/-! ### humpyard/json.Parse -/
abbrev mh (R:Type):Type:=ag→(Json→Int→Int→Option R)→Option R
abbrev MS:List cY := [.leaf (.str)]
abbrev MT:List aY := []
def Sv (fn:mh R):jR R MS MT:=fun x y k=>fn x.1 (fun q0 q1 q2=>k (.tuple [.agg [.int .i64 q0.kind, .int .i64 q0.num.ao, .int .i64 q0.num.exp, .str q0.text, .sl .str q0.names .no, .sl .json q0.items .no], .int .i64 q1, .int .i64 q2]) [])
def MU (fn:mh R):=aC MS MT (Sv fn)
section
variable (au:fX R) (di:aD R) (ni:EI R)
def UK:List (lC R) := [(81,false,(jS au av)),(80,false,(zB di av)),(79,true,(UI ni av))]
def G8 (x1:ag) (k0:Json→Int→Int→Option R):Option R :=
 ni x1 (fun y2 y3 y4=>bif (y3 != 0)then (k0 (⟨0,⟨0,0⟩,([]:ag),([]:List ag),([]:List Json)⟩:Json) y3 y4)else (di 1 y2 0 (fun y5 y6 y7=>let j12:=fun (Xs:List Token) (xT:Int)=>bif (xT != 0)then (cx (decide ((0:Int)<Xs.length)) (k0 (⟨0,⟨0,0⟩,([]:ag),([]:List ag),([]:List Json)⟩:Json) xT ((Xs.getD 0 (Ty.bR .token)).at_)))else (k0 (⟨y5.kind,⟨y5.num.ao,y5.num.exp⟩,y5.text,y5.names,y5.items⟩:Json) 0 0); cx (decide ((0:Int)<y6.length)) (bif ((y6.getD 0 (Ty.bR .token)).kind != 5)then (au 40 y6 y7 (fun y8 y9=>j12 y8 y9))else (j12 y6 y7)))))
theorem json_Parse_ok:dD (R:=R) tt (UK au di ni) nJ false Tryz.f32 MS MT (Sv (G8 au di ni)):=fun x y k=>by kernel_rfl
end
theorem ZI:cq (R:=R) Tryz.prog (UK (R:=R) au di ni) := .d (kK R) rfl <| .f (G7 R _ (fA _)) rfl <| .c (XE R) <| .n
def cH:mh R:=fun x1 k0=>G8 au di ni x1 k0
theorem Oh (R:Type):jQ Tryz.prog 32 (MU (cH (R:=R))):=bj TT mixed (ZI (R:=R)) rfl rfl rfl rfl bX (json_Parse_ok au di ni)
/-! ### humpyard/field.find -/
abbrev uR (R:Type):Type:=Json→ag→(Json→Bool→Option R)→Option R
abbrev MV:List cY := [.agg [.int .i64, .int .i64, .int .i64, .str, .sl .str, .sl .json], .leaf (.str)]
abbrev MW:List aY := []
def Sw (fn:uR R):jR R MV MW:=fun x y k=>fn (⟨x.1.1,⟨x.1.2.1,x.1.2.2.1⟩,x.1.2.2.2.1,x.1.2.2.2.2.1,x.1.2.2.2.2.2.1⟩:Json) x.2.1 (fun q0 q1=>k (.tuple [.agg [.int .i64 q0.kind, .int .i64 q0.num.ao, .int .i64 q0.num.exp, .str q0.text, .sl .str q0.names .no, .sl .json q0.items .no], .bool q1]) [])
def G9 (fn:uR R):=aC MV MW (Sw fn)
section
variable (bu:gS R)
def UL:List (lC R) := [(127,true,(nM bu av))]
def MX (x1:Json) (x2:ag) (k0:Json→Bool→Option R):Option R :=
 bu x1.names x2 (fun y3=>bif (x1.kind != 7)then (k0 (⟨0,⟨0,0⟩,([]:ag),([]:List ag),([]:List Json)⟩:Json) false)else (bif (decide (y3<(0:Int)))then (k0 (⟨0,⟨0,0⟩,([]:ag),([]:List ag),([]:List Json)⟩:Json) false)else (bif (decide (y3≥(x1.items.length:Int)))then (k0 (⟨0,⟨0,0⟩,([]:ag),([]:List ag),([]:List Json)⟩:Json) false)else (cx (decide ((0:Int)≤y3)&&decide (y3<x1.items.length)) (k0 (⟨(x1.items.getD y3.toNat (Ty.bR .json)).kind,⟨(x1.items.getD y3.toNat (Ty.bR .json)).num.ao,(x1.items.getD y3.toNat (Ty.bR .json)).num.exp⟩,(x1.items.getD y3.toNat (Ty.bR .json)).text,(x1.items.getD y3.toNat (Ty.bR .json)).names,(x1.items.getD y3.toNat (Ty.bR .json)).items⟩:Json) true)))))
theorem field_find_ok:dD (R:=R) tt (UL bu) nJ false Tryz.f144 MV MW (Sw (MX bu)):=fun x y k=>by kernel_rfl
end
theorem ZJ:cq (R:=R) Tryz.prog (UL (R:=R) bu) := .c (r7 R) <| .n
def ej:uR R:=fun x1 x2 k0=>MX bu x1 x2 k0
theorem F1 (R:Type):jQ Tryz.prog 144 (G9 (ej (R:=R))):=bj TT mixed (ZJ (R:=R)) rfl rfl rfl rfl bX (field_find_ok bu)
/-! ### humpyard/field.Text$1 -/
abbrev zY (R:Type):Type:=Json→(ag→Bool→Option R)→Option R
abbrev H2:List cY := [.agg [.int .i64, .int .i64, .int .i64, .str, .sl .str, .sl .json]]
abbrev H3:List aY := []
def Oi (fn:zY R):jR R H2 H3:=fun x y k=>fn (⟨x.1.1,⟨x.1.2.1,x.1.2.2.1⟩,x.1.2.2.2.1,x.1.2.2.2.2.1,x.1.2.2.2.2.2.1⟩:Json) (fun q0 q1=>k (.tuple [.str q0, .bool q1]) [])
def PQ (fn:zY R):=aC H2 H3 (Oi fn)
section
def H4 (x1:Json) (k0:ag→Bool→Option R):Option R :=
 k0 x1.text (x1.kind==5)
theorem XF:dD (R:=R) tt [] nJ false Tryz.f109 H2 H3 (Oi H4):=fun x y k=>by kernel_rfl
end
def mi:zY R:=fun x1 k0=>H4 x1 k0
theorem UM (R:Type):jQ Tryz.prog 109 (PQ (mi (R:=R))):=bj TT mixed .n rfl rfl rfl rfl bX (XF)
/-! ### humpyard/field.of[string] -/
abbrev mM (R:Type):Type:=Json→ag→(ag→Bool→Option R)→Option R
abbrev tC:List cY := [.agg [.int .i64, .int .i64, .int .i64, .str, .sl .str, .sl .json], .leaf (.str), .leaf (.fn 109)]
abbrev tD:List aY := []
def A2 (fn:mM R):jR R tC tD:=fun x y k=>fn (⟨x.1.1,⟨x.1.2.1,x.1.2.2.1⟩,x.1.2.2.2.1,x.1.2.2.2.2.1,x.1.2.2.2.2.2.1⟩:Json) x.2.1 (fun q0 q1=>k (.tuple [.str q0, .bool q1]) [])
def BX (fn:mM R):=aC tC tD (A2 fn)
section
variable (mi:zY R) (ej:uR R)
def BY:List (lC R) := [(109,true,(PQ mi av)),(144,true,(G9 ej av))]
def tE (x1:Json) (x2:ag) (k0:ag→Bool→Option R):Option R :=
 ej (⟨x1.kind,⟨x1.num.ao,x1.num.exp⟩,x1.text,x1.names,x1.items⟩:Json) x2 (fun y3 y4=>bif (!y4)then (k0 ([]:ag) false)else (mi (⟨y3.kind,⟨y3.num.ao,y3.num.exp⟩,y3.text,y3.names,y3.items⟩:Json) (fun y5 y6=>bif y6 then (k0 y5 true)else (k0 ([]:ag) false))))
theorem Ls:dD (R:=R) tt (BY mi ej) nJ false Tryz.f108 tC tD (A2 (tE mi ej)):=fun x y k=>by kernel_rfl
end
theorem Kj:cq (R:=R) Tryz.prog (BY (R:=R) mi ej) := .c (UM R) <| .c (F1 R) <| .n
def fa:mM R:=fun x1 x2 k0=>tE mi ej x1 x2 k0
theorem I6 (R:Type):jQ Tryz.prog 108 (BX (fa (R:=R))):=bj TT mixed (Kj (R:=R)) rfl rfl rfl rfl bX (Ls mi ej)
/-! ### humpyard/field.Text -/
abbrev EJ (R:Type):Type:=Json→ag→(ag→Bool→Option R)→Option R
abbrev MY:List cY := [.agg [.int .i64, .int .i64, .int .i64, .str, .sl .str, .sl .json], .leaf (.str)]
abbrev MZ:List aY := []
def Sx (fn:EJ R):jR R MY MZ:=fun x y k=>fn (⟨x.1.1,⟨x.1.2.1,x.1.2.2.1⟩,x.1.2.2.2.1,x.1.2.2.2.2.1,x.1.2.2.2.2.2.1⟩:Json) x.2.1 (fun q0 q1=>k (.tuple [.str q0, .bool q1]) [])
def UN (fn:EJ R):=aC MY MZ (Sx fn)
section
variable (fa:mM R)
def UO:List (lC R) := [(108,true,(BX fa av))]
def M0 (x1:Json) (x2:ag) (k0:ag→Bool→Option R):Option R :=
 fa (⟨x1.kind,⟨x1.num.ao,x1.num.exp⟩,x1.text,x1.names,x1.items⟩:Json) x2 (fun y3 y4=>k0 y3 y4)
theorem field_Text_ok:dD (R:=R) tt (UO fa) nJ false Tryz.f68 MY MZ (Sx (M0 fa)):=fun x y k=>by kernel_rfl
end
theorem ZK:cq (R:=R) Tryz.prog (UO (R:=R) fa) := .c (I6 R) <| .n
def oT:EJ R:=fun x1 x2 k0=>M0 fa x1 x2 k0
theorem XG (R:Type):jQ Tryz.prog 68 (UN (oT (R:=R))):=bj TT mixed (ZK (R:=R)) rfl rfl rfl rfl bX (field_Text_ok fa)
/-! ### humpyard/decimal.shifted -/
abbrev tF (R:Type):Type:=fT→Int→(Int→Bool→Option R)→Option R
abbrev BZ:List cY := [.agg [.int .i64, .int .i64], .leaf (.int .i64)]
abbrev B0:List aY := []
def H5 (fn:tF R):jR R BZ B0:=fun x y k=>fn (⟨x.1.1,x.1.2.1⟩:fT) x.2.1 (fun q0 q1=>k (.tuple [.int .i64 q0, .bool q1]) [])
def JE (fn:tF R):=aC BZ B0 (H5 fn)
abbrev tG (R:Type):Type:=Nat→Int→Int→Int→(Int→Option R)→(Int→Bool→Int→Option R)→Option R
def o5:Hint := { live := [6,12,13],own := [],rows := [],cells := [],drop := [],out := [4,5,6] }
abbrev jk:Type:=Int×Int×Int
def sE:jk→St:=fun d=>⟨U 6 (.int .i64 d.1::U 5 (.int .i64 d.2.1 :: .int .i64 d.2.2::U 8 ([]))), []⟩
def tH (K:Ex→St→Option R) (q0:Int):Option R:=K (.exit 0) ⟨U 6 (.int .i64 q0::U 15 ([])), []⟩
def tI (K:Ex→St→Option R) (q0:Int) (q1:Bool) (q2:Int):Option R:=K (.ret) ⟨U 4 (.int .i64 q0 :: .bool q1 :: .int .i64 q2::U 15 ([])), []⟩
abbrev lJ:List cY:=PU 6 (.leaf (.int .i64)::PU 5 (.leaf (.int .i64) :: .leaf (.int .i64)::PU 8 ([])))
abbrev lK:List aY := []
def Dl (x:cY.cC lJ) (y:aY.cC lK):Nat:=(Int.natAbs x.2.2.2.2.2.2.1+Int.natAbs ((t8 x).2.2.2.2.1)+Int.natAbs ((t8 x).2.2.2.2.2.1)+64)
def OK (x:cY.cC lJ) (y:aY.cC lK):jk:=(x.2.2.2.2.2.2.1,(t8 x).2.2.2.2.1,(t8 x).2.2.2.2.2.1)
def B1 (L:tG R):D7 R lJ lK:=fun x y K=>L (Dl x y) x.2.2.2.2.2.2.1 ((t8 x).2.2.2.2.1) ((t8 x).2.2.2.2.2.1) (tH K) (tI K)
section
variable (az:ji R) (cy:tG R)
def mN:List (lC R) := [(135,true,(pV az av))]
def o6 (fb:Int→Int→Int→Option R) (x3:Int) (x4:Int) (x5:Int) (e0:Int→Option R) (e1:Int→Bool→Int→Option R):Option R :=
 bif (decide (x5<x4))then (az (-100000000000000000) x3 100000000000000000 (fun y6=>bif (!y6)then (e1 0 false x3)else (fb (IntKind.i64.wrap (x3*10)) x4 (IntKind.i64.wrap (x5+1)))))else (e0 x3)
def Dm (K:Ex→St→Option R) (rc:jk→Option R) (d:jk):Option R:=o6 az (fun z0 z1 z2=>rc (z0,z1,z2)) d.1 d.2.1 d.2.2 (tH K) (tI K)
def qm:Nat→Option (Hint×dE R):=fun i=>match i with
 | 3=>some (o5,(dR lJ lK (B1 cy) lL))
 | _=>none
theorem Kk (K:Ex→St→Option R) (rc:St→Option R) (d:jk):roundOf tt (dx (mN az)) (qm cy) 0 ((aN (bm Tryz.f212)).getD 0 .skip) o5 (sE d) rc K=Dm az K (fun d=>rc (sE d)) d:=by kernel_rfl
def B2 (x1:fT) (x2:Int) (k0:Int→Bool→Option R):Option R :=
 cy (Int.natAbs x1.ao+Int.natAbs (IntKind.i64.wrap (x1.exp - x2))+Int.natAbs 0+64) x1.ao (IntKind.i64.wrap (x1.exp - x2)) 0 (fun y7=>k0 y7 true) (fun y8 y9 oc=>k0 y8 y9)
theorem Tm:dD (R:=R) tt (mN az) (qm cy) false Tryz.f212 BZ B0 (H5 (B2 cy)):=fun x y k=>by kernel_rfl
end
theorem RW:cq (R:=R) Tryz.prog (mN (R:=R) az) := .c (r9 R) <| .n
def cy:tG R
 | 0,_,_,_,_,_=>none
 | n+1,jb,jf,jl,e0,e1=>o6 az (fun jb jf jl=>cy n jb jf jl e0 e1) jb jf jl e0 e1
def Dn (K:Ex→St→Option R) (n:Nat) (d:jk):Option R:=cy n d.1 d.2.1 d.2.2 (tH K) (tI K)
theorem M1 (other:dE R) (ho:kg tt (dx (mN (R:=R) az)) (qm (R:=R) cy) 0 ((aN (bm Tryz.f212)).getD 0 .skip) o5 other):kg tt (dx (mN (R:=R) az)) (qm (R:=R) cy) 0 ((aN (bm Tryz.f212)).getD 0 .skip) o5 (dR lJ lK (B1 (cy)) other) :=
 ei (A:=Dn) ho (gd sE (Dm az) (Dn) (fun _ _=>by kernel_rfl) (Kk az cy) (fun _ _ _=>by kernel_rfl)) Dl OK (fun _ _=>by kernel_rfl) (fun _ _ _=>by kernel_rfl)
def iL:tF R:=fun x1 x2 k0=>B2 cy x1 x2 k0
theorem OL (R:Type):∀a∈aN (bm Tryz.f212),je tt (dx (mN (R:=R) az)) (qm (R:=R) cy) 0 a:=by
 refine gQ 1 (by kernel_rfl) fun i hi => ?_
 match i,hi with
 | 0,_=>exact dH (by kernel_rfl) (M1 _ fk)
 | n+1,hi=>omega
theorem PR (R:Type):jQ Tryz.prog 212 (JE (iL (R:=R))):=bj TT mixed (RW (R:=R)) rfl rfl rfl rfl (OL R) (Tm az cy)
/-! ### humpyard/decimal.Int -/
abbrev B3 (R:Type):Type:=fT→(Int→Bool→Option R)→Option R
abbrev Kl:List cY := [.agg [.int .i64, .int .i64]]
abbrev Km:List aY := []
def PS (fn:B3 R):jR R Kl Km:=fun x y k=>fn (⟨x.1.1,x.1.2.1⟩:fT) (fun q0 q1=>k (.tuple [.int .i64 q0, .bool q1]) [])
def Sy (fn:B3 R):=aC Kl Km (PS fn)
section
variable (bS:ou R) (iL:tF R)
def Sz:List (lC R) := [(164,true,(zW bS av)),(212,true,(JE iL av))]
def Kn (x1:fT) (k0:Int→Bool→Option R):Option R :=
 bS x1 (fun y2=>bif (!y2)then (k0 0 false)else (bif (decide (x1.exp<(0:Int)))then (k0 0 false)else (iL x1 0 (fun y4 y5=>k0 y4 y5))))
theorem ZL:dD (R:=R) tt (Sz bS iL) nJ false Tryz.f186 Kl Km (PS (Kn bS iL)):=fun x y k=>by kernel_rfl
end
theorem XH:cq (R:=R) Tryz.prog (Sz (R:=R) bS iL) := .c (Ap R) <| .c (PR R) <| .n
def mz:B3 R:=fun x1 k0=>Kn bS iL x1 k0
theorem V8 (R:Type):jQ Tryz.prog 186 (Sy (mz (R:=R))):=bj TT mixed (XH (R:=R)) rfl rfl rfl rfl bX (ZL bS iL)
/-! ### humpyard/field.num -/
abbrev Ha (R:Type):Type:=Json→(Int→Bool→Option R)→Option R
abbrev PT:List cY := [.agg [.int .i64, .int .i64, .int .i64, .str, .sl .str, .sl .json]]
abbrev PV:List aY := []
def UP (fn:Ha R):jR R PT PV:=fun x y k=>fn (⟨x.1.1,⟨x.1.2.1,x.1.2.2.1⟩,x.1.2.2.2.1,x.1.2.2.2.2.1,x.1.2.2.2.2.2.1⟩:Json) (fun q0 q1=>k (.tuple [.int .i64 q0, .bool q1]) [])
def WX (fn:Ha R):=aC PT PV (UP fn)
section
variable (mz:B3 R)
def WY:List (lC R) := [(186,true,(Sy mz av))]
def PW (x1:Json) (k0:Int→Bool→Option R):Option R :=
 mz x1.num (fun y2 y3=>bif y3 then (k0 y2 (x1.kind==4))else (k0 y2 false))
theorem field_num_ok:dD (R:=R) tt (WY mz) nJ false Tryz.f146 PT PV (UP (PW mz)):=fun x y k=>by kernel_rfl
end
theorem field_num_EOk:cq (R:=R) Tryz.prog (WY (R:=R) mz) := .c (V8 R) <| .n
def sF:Ha R:=fun x1 k0=>PW mz x1 k0
theorem ZM (R:Type):jQ Tryz.prog 146 (WX (sF (R:=R))):=bj TT mixed (field_num_EOk (R:=R)) rfl rfl rfl rfl bX (field_num_ok mz)
/-! ### humpyard/field.of[int] -/
abbrev qo (R:Type):Type:=Json→ag→(Int→Bool→Option R)→Option R
abbrev yl:List cY := [.agg [.int .i64, .int .i64, .int .i64, .str, .sl .str, .sl .json], .leaf (.str), .leaf (.fn 146)]
abbrev ym:List aY := []
def E5 (fn:qo R):jR R yl ym:=fun x y k=>fn (⟨x.1.1,⟨x.1.2.1,x.1.2.2.1⟩,x.1.2.2.2.1,x.1.2.2.2.2.1,x.1.2.2.2.2.2.1⟩:Json) x.2.1 (fun q0 q1=>k (.tuple [.int .i64 q0, .bool q1]) [])
def Gn (fn:qo R):=aC yl ym (E5 fn)
section
variable (ej:uR R) (sF:Ha R)
def Gp:List (lC R) := [(144,true,(G9 ej av)),(146,true,(WX sF av))]
def yn (x1:Json) (x2:ag) (k0:Int→Bool→Option R):Option R :=
 ej (⟨x1.kind,⟨x1.num.ao,x1.num.exp⟩,x1.text,x1.names,x1.items⟩:Json) x2 (fun y3 y4=>bif (!y4)then (k0 0 false)else (sF (⟨y3.kind,⟨y3.num.ao,y3.num.exp⟩,y3.text,y3.names,y3.items⟩:Json) (fun y5 y6=>bif y6 then (k0 y5 true)else (k0 0 false))))
theorem PX:dD (R:=R) tt (Gp ej sF) nJ false Tryz.f145 yl ym (E5 (yn ej sF)):=fun x y k=>by kernel_rfl
end
theorem OM:cq (R:=R) Tryz.prog (Gp (R:=R) ej sF) := .c (F1 R) <| .c (ZM R) <| .n
def gF:qo R:=fun x1 x2 k0=>yn ej sF x1 x2 k0
theorem M3 (R:Type):jQ Tryz.prog 145 (Gn (gF (R:=R))):=bj TT mixed (OM (R:=R)) rfl rfl rfl rfl bX (PX ej sF)
/-! ### humpyard/field.Num -/
abbrev mj (R:Type):Type:=Json→ag→(Int→Bool→Option R)→Option R
abbrev PY:List cY := [.agg [.int .i64, .int .i64, .int .i64, .str, .sl .str, .sl .json], .leaf (.str)]
abbrev PZ:List aY := []
def UQ (fn:mj R):jR R PY PZ:=fun x y k=>fn (⟨x.1.1,⟨x.1.2.1,x.1.2.2.1⟩,x.1.2.2.2.1,x.1.2.2.2.2.1,x.1.2.2.2.2.2.1⟩:Json) x.2.1 (fun q0 q1=>k (.tuple [.int .i64 q0, .bool q1]) [])
def tm (fn:mj R):=aC PY PZ (UQ fn)
section
variable (gF:qo R)
def WZ:List (lC R) := [(145,true,(Gn gF av))]
def P0 (x1:Json) (x2:ag) (k0:Int→Bool→Option R):Option R :=
 gF (⟨x1.kind,⟨x1.num.ao,x1.num.exp⟩,x1.text,x1.names,x1.items⟩:Json) x2 (fun y3 y4=>k0 y3 y4)
theorem field_Num_ok:dD (R:=R) tt (WZ gF) nJ false Tryz.f110 PY PZ (UQ (P0 gF)):=fun x y k=>by kernel_rfl
end
theorem field_Num_EOk:cq (R:=R) Tryz.prog (WZ (R:=R) gF) := .c (M3 R) <| .n
def bP:mj R:=fun x1 x2 k0=>P0 gF x1 x2 k0
theorem oU (R:Type):jQ Tryz.prog 110 (tm (bP (R:=R))):=bj TT mixed (field_Num_EOk (R:=R)) rfl rfl rfl rfl bX (field_Num_ok gF)
/-! ### humpyard/field.flag -/
abbrev EK (R:Type):Type:=Json→(Bool→Bool→Option R)→Option R
abbrev M4:List cY := [.agg [.int .i64, .int .i64, .int .i64, .str, .sl .str, .sl .json]]
abbrev M5:List aY := []
def SA (fn:EK R):jR R M4 M5:=fun x y k=>fn (⟨x.1.1,⟨x.1.2.1,x.1.2.2.1⟩,x.1.2.2.2.1,x.1.2.2.2.2.1,x.1.2.2.2.2.2.1⟩:Json) (fun q0 q1=>k (.tuple [.bool q0, .bool q1]) [])
def UR (fn:EK R):=aC M4 M5 (SA fn)
section
def M6 (x1:Json) (k0:Bool→Bool→Option R):Option R :=
 bif (x1.kind==3)then (k0 (x1.kind==3) true)else (k0 (x1.kind==3) (x1.kind==2))
theorem field_flag_ok:dD (R:=R) tt [] nJ false Tryz.f150 M4 M5 (SA M6):=fun x y k=>by kernel_rfl
end
def oV:EK R:=fun x1 k0=>M6 x1 k0
theorem XI (R:Type):jQ Tryz.prog 150 (UR (oV (R:=R))):=bj TT mixed .n rfl rfl rfl rfl bX (field_flag_ok)
/-! ### humpyard/field.of[bool] -/
abbrev o7 (R:Type):Type:=Json→ag→(Bool→Bool→Option R)→Option R
abbrev wR:List cY := [.agg [.int .i64, .int .i64, .int .i64, .str, .sl .str, .sl .json], .leaf (.str), .leaf (.fn 150)]
abbrev wS:List aY := []
def Dp (fn:o7 R):jR R wR wS:=fun x y k=>fn (⟨x.1.1,⟨x.1.2.1,x.1.2.2.1⟩,x.1.2.2.2.1,x.1.2.2.2.2.1,x.1.2.2.2.2.2.1⟩:Json) x.2.1 (fun q0 q1=>k (.tuple [.bool q0, .bool q1]) [])
def E6 (fn:o7 R):=aC wR wS (Dp fn)
section
variable (ej:uR R) (oV:EK R)
def E7:List (lC R) := [(144,true,(G9 ej av)),(150,true,(UR oV av))]
def wT (x1:Json) (x2:ag) (k0:Bool→Bool→Option R):Option R :=
 ej (⟨x1.kind,⟨x1.num.ao,x1.num.exp⟩,x1.text,x1.names,x1.items⟩:Json) x2 (fun y3 y4=>bif (!y4)then (k0 false false)else (oV (⟨y3.kind,⟨y3.num.ao,y3.num.exp⟩,y3.text,y3.names,y3.items⟩:Json) (fun y5 y6=>bif y6 then (k0 y5 true)else (k0 false false))))
theorem ON:dD (R:=R) tt (E7 ej oV) nJ false Tryz.f149 wR wS (Dp (wT ej oV)):=fun x y k=>by kernel_rfl
end
theorem M7:cq (R:=R) Tryz.prog (E7 (R:=R) ej oV) := .c (F1 R) <| .c (XI R) <| .n
def fY:o7 R:=fun x1 x2 k0=>wT ej oV x1 x2 k0
theorem Lt (R:Type):jQ Tryz.prog 149 (E6 (fY (R:=R))):=bj TT mixed (M7 (R:=R)) rfl rfl rfl rfl bX (ON ej oV)
/-! ### humpyard/field.Flag -/
abbrev zI (R:Type):Type:=Json→ag→(Bool→Bool→Option R)→Option R
abbrev M8:List cY := [.agg [.int .i64, .int .i64, .int .i64, .str, .sl .str, .sl .json], .leaf (.str)]
abbrev M9:List aY := []
def SB (fn:zI R):jR R M8 M9:=fun x y k=>fn (⟨x.1.1,⟨x.1.2.1,x.1.2.2.1⟩,x.1.2.2.2.1,x.1.2.2.2.2.1,x.1.2.2.2.2.2.1⟩:Json) x.2.1 (fun q0 q1=>k (.tuple [.bool q0, .bool q1]) [])
def Na (fn:zI R):=aC M8 M9 (SB fn)
section
variable (fY:o7 R)
def US:List (lC R) := [(149,true,(E6 fY av))]
def Nb (x1:Json) (x2:ag) (k0:Bool→Bool→Option R):Option R :=
 fY (⟨x1.kind,⟨x1.num.ao,x1.num.exp⟩,x1.text,x1.names,x1.items⟩:Json) x2 (fun y3 y4=>k0 y3 y4)
theorem field_Flag_ok:dD (R:=R) tt (US fY) nJ false Tryz.f112 M8 M9 (SB (Nb fY)):=fun x y k=>by kernel_rfl
end
theorem ZN:cq (R:=R) Tryz.prog (US (R:=R) fY) := .c (Lt R) <| .n
def gP:zI R:=fun x1 x2 k0=>Nb fY x1 x2 k0
theorem Oj (R:Type):jQ Tryz.prog 112 (Na (gP (R:=R))):=bj TT mixed (ZN (R:=R)) rfl rfl rfl rfl bX (field_Flag_ok fY)
end Go.Proofs.YtidfokedcnhahaaGreatDoor
namespace Go.Proofs.YtidfokedcnhahaaGreatDoor.Pu
open Go Go.aq
def Hb (x:Json):Prop:=∀c∈Ty.cells .json x,Small 1099511627776 c
theorem Hb.text {x:Json} (h:Hb x):x.text.length≤1099511627776:=(h (.str x.text) (by simp[Ty.cells])).gK
theorem Hb.names {x:Json} (h:Hb x):x.names.length≤1099511627776:=(h (.sl .str x.names .no) (by simp[Ty.cells])).JZ.1
theorem Hb.items {x:Json} (h:Hb x):x.items.length≤1099511627776:=(h (.sl .json x.items .no) (by simp[Ty.cells])).JZ.1
theorem Hb.item {x:Json} (h:Hb x) {y:Json} (hy:y∈x.items):Hb y:=(h (.sl .json x.items .no) (by simp[Ty.cells])).JZ.2 y hy
theorem anyT_same {R:Type} {a b:Option R} (h:a=b):anyT a b=b:=by subst h; unfold anyT; rw[if_pos rfl]
theorem clone_str {R:Type} (l:List ag) (hl:l.length≤1099511627776) (k:List ag→Option R):bp l k=k l:=by
 unfold bp nQ
 have h:decide ((0+l.length)*16≤140737488355328)=true:=by simp; omega
 rw[ay h]
 cases l with
 | nil=>exact anyT_same rfl
 | cons a l=>rfl
theorem clone_json {R:Type} (l:List Json) (hl:l.length≤1099511627776) (k0:Option R) (k1:Nat→List Json→Option R) (h0:l = []→k0=k1 0 []):bg l k0 k1=k1 l.length l:=by
 unfold bg mZ
 have h:decide ((0+l.length)*88≤140737488355328)=true:=by simp; omega
 rw[ay h,Nat.zero_add]
 cases l with
 | nil=>exact anyT_same (h0 rfl)
 | cons a l=>rfl
theorem depthL_mem {l:List Json} {y:Json} (h:y∈l):y.depth≤Json.HG l:=by
 induction l with
 | nil=>cases h
 | cons a l ih =>
  simp only[Json.HG]
  rcases List.mem_cons.1 h with rfl|h
  ·exact Nat.le_max_left _ _
  ·exact Nat.le_trans (ih h) (Nat.le_max_right _ _)
theorem depth_eq (x:Json):x.depth=Json.HG x.items+1:=by cases x; simp[Json.depth]
theorem depth_item {x y:Json} (h:y∈x.items):y.depth<x.depth:=by rw[depth_eq x]; exact Nat.lt_succ_of_le (depthL_mem h)
theorem Y8 {α:Type} {l:List α} {i:Nat} (h:i<l.length):l.set i l[i]=l:=List.set_getElem_self h
theorem fresh_loop {R:Type} (f:eR R) (l:List Json) (hl:l.length≤1099511627776) (hf:∀y∈l,∀k,f y k=k y) (a b c:Int) (t:ag) (ns:List ag) (p q r:Int) (u:ag)
  (e0:Int→Int→Int→ag→List ag→Nat→Int→Int→Int→ag→List Json→Option R):∀(n i:Nat),i≤l.length→l.length - i<n →
  cB f n l.length (l.length:Int) (i:Int) a b c t ns l.length p q r u l e0=e0 a b c t ns l.length p q r u l:=by
 intro n
 induction n with
 | zero=>intro i _ h; omega
 | succ n ih =>
  intro i hi hn
  show vP f (fun x1 x2 x3 x4 x5 x6 x7 x8 x9 x10 x11 x12 VS Xr=>cB f n x1 x2 x3 x4 x5 x6 x7 x8 x9 x10 x11 x12 VS Xr e0) _ _ _ _ _ _ _ _ _ _ _ _ _ _ e0=_
  unfold vP
  by_cases h:i<l.length
  ·have h1:decide ((i:Int)<(l.length:Int))=true:=by simp; omega
   have h2:(decide ((0:Int)≤(i:Int))&&true)=true:=by simp
   have h3:decide ((i:Int).toNat<l.length)=true:=by simp; omega
   have hw:IntKind.i64.wrap ((i:Int)+1)=((i+1:Nat):Int):=by rw[cK (by omega) (by omega)]; omega
   have hg:l.getD (i:Int).toNat (Ty.bR .json)=l[i]:=getD_at h _
   rw[h1,cond_true,ay h2,ay h3,hg,Json.eta,hf _ (List.getElem_mem h),ay h2,ay h3,hw,Json.eta]
   have hs:l.set (i:Int).toNat l[i]=l:=Y8 h
   rw[hs]
   exact ih (i+1) (by omega) (by omega)
  ·have h1:decide ((i:Int)<(l.length:Int))=false:=by simp; omega
   rw[h1,cond_false]
theorem fresh_N {R:Type}:∀(n:Nat) (x:Json),Hb x→x.depth<n→∀k:Json→Option R,iK n x k=k x:=by
 intro n
 induction n with
 | zero=>intro x _ h; omega
 | succ n ih =>
  intro x hx hd k
  show zf (iK n) x k=_
  unfold zf J3
  rw[clone_str _ hx.names,clone_json _ hx.items]
  ·have:=fresh_loop (iK (R:=R) n) x.items hx.items (fun y hy k=>ih y (hx.item hy) (by have:=depth_item hy; omega) k) x.kind x.num.ao x.num.exp x.text x.names 0 0 0 []
    (fun y40 y41 y42 y43 y44 y45 y46 y47 y48 y49 y50=>k (⟨y40,⟨y41,y42⟩,y43,y44,y50⟩:Json))
   refine (this _ 0 (by omega) (by omega)).trans ?_
   rw[Json.eta]
  ·intro h0
   have:x=⟨x.kind,⟨x.num.ao,x.num.exp⟩,x.text,x.names, []⟩:=by rw[←h0,Json.eta]
   rfl
theorem fresh_eq {R:Type} (x:Json) (hx:Hb x) (k:Json→Option R):gl x k=k x:=fresh_N _ x hx (by omega) k
theorem Tn {R:Type} (l:List ag) (hl:l.length≤1099511627776) (s:ag) (e0:Int→Option R) (e1:Option R):∀(n i:Nat),i≤l.length→l.length - i<n →
  aS n l s (l.length:Int) (i:Int) e1 e0=match (l.drop i).findIdx? (s == ·)with|some j=>e0 ((i+j:Nat):Int)|none=>e1:=by
 intro n
 induction n with
 | zero=>intro i _ h; omega
 | succ n ih =>
  intro i hi hn
  show eX (fun a b c d=>aS n a b c d e1 e0) _ _ _ _ e1 e0=_
  unfold eX
  by_cases h:i<l.length
  ·have h1:decide ((i:Int)<(l.length:Int))=true:=by simp; omega
   have h2:(decide ((0:Int)≤(i:Int))&&true)=true:=by simp
   have hw:IntKind.i64.wrap ((i:Int)+1)=((i+1:Nat):Int):=by rw[cK (by omega) (by omega)]; omega
   have hg:l.getD (i:Int).toNat (Ty.bR .str)=l[i]:=getD_at h _
   have e1':=ih (i+1) (by omega) (by omega)
   rw[h1,cond_true,ay h2,hg,hw,List.drop_eq_getElem_cons h,List.findIdx?_cons]
   simp only[e1']
   cases hq:(s==l[i])with
   | true=>simp
   | false =>
    simp only[cond_false,Bool.false_eq_true,if_false]
    cases (l.drop (i+1)).findIdx? (s == ·)with
    | none=>rfl
    | some j =>
     show e0 ((i+1+j:Nat):Int)=e0 ((i+(j+1):Nat):Int)
     rw[show i+1+j=i+(j+1) by omega]
  ·have h1:decide ((i:Int)<(l.length:Int))=false:=by simp; omega
   rw[h1,cond_false,List.drop_eq_nil_of_le (by omega)]
   rfl
theorem index_eq {R:Type} (l:List ag) (hl:l.length≤1099511627776) (s:ag) (k:Int→Option R):bu l s k=k (match l.findIdx? (s == ·)with|some j=>(j:Int)|none => -1):=by
 unfold bu nN
 refine (Tn l hl s _ _ _ 0 (by omega) (by omega)).trans ?_
 simp only[List.drop_zero,Nat.zero_add]
 cases l.findIdx? (s == ·) <;> rfl
theorem contains_eq {R:Type} (l:List ag) (hl:l.length≤1099511627776) (s:ag) (k:Bool→Option R):aB l s k=k (l.contains s):=by
 unfold aB lQ
 rw[index_eq l hl]
 congr 1
 cases hq:l.findIdx? (s == ·)with
 | none =>
  have:l.contains s=false:=by
   rw[List.findIdx?_eq_none_iff]at hq
   rw[List.contains_eq_any_beq]
   simpa [List.any_eq_false]using hq
  rw[this]; rfl
 | some j =>
  have:l.contains s=true:=by
   obtain ⟨hj,hp,_⟩:=List.findIdx?_eq_some_iff_getElem.1 hq
   rw[List.contains_eq_any_beq,List.any_eq_true]
   exact ⟨l[j],List.getElem_mem hj,hp⟩
  rw[this]
  simp
def look (s:ag):List ag→List Json→Option Json
 | n::ns,x::xs=>if s==n then some x else look s ns xs
 | _,_=>none
theorem ZO (s:ag):∀(ns:List ag) (xs:List Json),look s ns xs=(ns.findIdx? (s == ·)).bind fun j=>xs[j]?
 | [],xs=>by simp[look]
 | n::ns, []=>by
  simp only[look]
  cases (n::ns).findIdx? (s == ·) <;> simp
 | n::ns,x::xs=>by
  simp only[look,List.findIdx?_cons]
  cases hq:(s==n)with
  | true=>simp
  | false =>
   simp only[Bool.false_eq_true,if_false,ZO s ns xs]
   cases ns.findIdx? (s == ·) <;> simp
def zeroJ:Json:=⟨0,⟨0,0⟩, [], [], []⟩
theorem find_eq {R:Type} (v:Json) (hv:Hb v) (s:ag) (k:Json→Bool→Option R) :
  ej v s k=match (if v.kind=7 then look s v.names v.items else none)with|some x=>k x true|none=>k zeroJ false:=by
 unfold ej MX
 rw[index_eq _ hv.names]
 by_cases h7:v.kind=7
 ·have c1:(v.kind != 7)=false:=by simp[h7]
  rw[c1,cond_false,if_pos h7,ZO]
  cases hq:v.names.findIdx? (s == ·)with
  | none=>rfl
  | some j =>
   have hj:decide ((j:Int)<0)=false:=by simp
   simp only[Option.bind_some]
   by_cases hi:j<v.items.length
   ·have h1:decide ((j:Int)<(0:Int))=false:=by simp
    have h2:decide ((j:Int)≥(v.items.length:Int))=false:=by simp; omega
    have h3:(decide ((0:Int)≤(j:Int))&&decide ((j:Int)<v.items.length))=true:=by simp; omega
    have hg:v.items.getD (j:Int).toNat (Ty.bR .json)=v.items[j]:=getD_at hi _
    simp only[h1,h2,cond_false,hg,Json.eta]
    rw[ay h3]
    simp[hi]
   ·have h1:decide ((j:Int)<(0:Int))=false:=by simp
    have h2:decide ((j:Int)≥(v.items.length:Int))=true:=by simp; omega
    simp only[h1,h2,cond_false,cond_true]
    simp[show v.items.length≤j by omega]
    rfl
 ·have c1:(v.kind != 7)=true:=by simp[h7]
  rw[c1,cond_true,if_neg h7]
  rfl
end Go.Proofs.YtidfokedcnhahaaGreatDoor.Pu
end
