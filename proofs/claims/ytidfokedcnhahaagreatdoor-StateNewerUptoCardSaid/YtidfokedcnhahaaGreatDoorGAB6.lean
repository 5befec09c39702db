/-
  GA, part 6 of 10.
-/
import Derived.Test.YtidfokedcnhahaaGreatDoorCards
import Derived.Test.YtidfokedcnhahaaGreatDoorTie
import Derived.Lib.LaidU8T
import Derived.Stop.LaidErr
import Derived.Deep.DeepHandedRow
import Derived.Deep.DeepWitnessRowRef
import Derived.WalkKit
import Derived.ProofKit
import Derived.OpenShut
import Derived.Lib.ValidU
import Derived.Lib.ItoaLen
import Derived.Lib.Repeat
import Derived.Lib.AtoiAll
import Derived.Lib.IndexAny
import Derived.Lib.Bytealg
import Derived.Lib.SlTrimSet
import Derived.Lib.LastIndexByte
import Derived.Sort.Grow
import Derived.Shelf.Strings.BuilderX
import Derived.Test.YtidfokedcnhahaaGreatDoorGAB5
set_option linter.unusedSimpArgs false
set_option linter.unnecessarySimpa false
set_option linter.unusedVariables false
set_option linter.unusedSectionVars false
noncomputable section
set_option maxRecDepth 100000
namespace Go.Proofs.YtidfokedcnhahaaGreatDoor.Door
open Go Go.Lib Go.RowKit Go.ChangeShapes Go.aq
theorem own:ownKnob Tryz.prog.godebug=none:=by kernel_rfl
theorem leaves:Pv Tryz.prog Go.Proofs.YtidfokedcnhahaaGreatDoor.tt:=leaves_ok (by kernel_rfl)
theorem gSyn:Tryz.prog.globalNamed "strconv.ErrSyntax" = some 3:=by kernel_rfl
theorem gRng:Tryz.prog.globalNamed "strconv.ErrRange" = some 4:=by kernel_rfl
theorem tSyn:(Tryz.prog.globals[3]?).map (·.type)=some 158:=by kernel_rfl
theorem tRng:(Tryz.prog.globals[4]?).map (·.type)=some 158:=by kernel_rfl
theorem star : "*" ++ "errors.errorString" = "*errors.errorString" :=by decide
theorem rowErr (u:TypeId) (h:Tryz.prog.typeName? 3 u=some "*errors.errorString"):u=271 :=
 typeName_ptr_named (nm := "errors.errorString") (by rw[star]; kernel_rfl) (by kernel_rfl) (by decide) u (by rw[star]; exact h)
theorem lt_of_var {n:String} {g:Nat} {W:World} {cs:Array Value} (hg:Tryz.prog.globalNamed n=some g) (h:W.var? Tryz.prog n=some cs):g<W.heap.size:=by
 unfold World.var? at h
 simp only[hg,Option.bind_some]at h
 rcases Nat.lt_or_ge g W.heap.size with h'|h'
 ·exact h'
 ·simp[Array.getElem?_eq_none h']at h
theorem Rs {W:World} (h:laidMet Tryz.prog Rows.orderTellsUptoRow.laid W):pg.says W∧∀b,pg.blocks b→b<W.heap.size:=by
 have r0:VarReads Tryz.prog W "unicode/utf8.first" firstData:=laidMet.reads h (.tail _ (.tail _ (.tail _ (.tail _ (.tail _ (.tail _ (.head _)))))))
 have r1:VarReads Tryz.prog W "unicode/utf8.acceptRanges" acceptData:=laidMet.reads h (.tail _ (.tail _ (.tail _ (.head _))))
 have ht:Utf8Tabs 1 2 W:=utf8Tabs_of_readsT (U8Types.of196 Tryz.lay196) ⟨by kernel_rfl,by kernel_rfl,by kernel_rfl,by kernel_rfl,by kernel_rfl,by kernel_rfl,by kernel_rfl⟩ r0 r1
 have h2:=laidMet.tail (laidMet.tail h)
 have hp:TabIs Tryz.prog W "internal/strconv.uint64pow10" .u64 pow10Tab:=tabIs_of_head (t:=267) (e:=244) (n:=20) lay_pow10 (by kernel_rfl) (by kernel_rfl) (by kernel_rfl) (by kernel_rfl) (by kernel_rfl) h2
 have h4:=laidMet.tail (laidMet.tail h2)
 obtain ⟨a3,s3,v3,_⟩:=laid_sentinel (ms := #[("Error",120)]) (f := { name := "s",type:=9,offset:=0,embedded:=false,tag := "",pkgPath := "errors",byteOffset:=0 }) (te:=273) (ts:=9) h4 gRng tRng (by kernel_rfl) rowErr (by kernel_rfl) (by kernel_rfl) rfl rfl (by kernel_rfl) (by kernel_rfl) (by kernel_rfl)
 obtain ⟨a2,s2,v2,_⟩:=laid_sentinel (ms := #[("Error",120)]) (f := { name := "s",type:=9,offset:=0,embedded:=false,tag := "",pkgPath := "errors",byteOffset:=0 }) (te:=273) (ts:=9) (laidMet.tail h4) gSyn tSyn (by kernel_rfl) rowErr (by kernel_rfl) (by kernel_rfl) rfl rfl (by kernel_rfl) (by kernel_rfl) (by kernel_rfl)
 refine ⟨⟨ht,hp,⟨_,_,World.var?_cell gSyn v2 0⟩,⟨_,_,World.var?_cell gRng v3 0⟩⟩,fun b hb => ?_⟩
 have hb:b<8:=hb
 obtain ⟨g,t,cs,fuel,p,hg,_,hv,_⟩:VarReads Tryz.prog W "math/bits.deBruijn64tab" Rows.laid_math_bits_deBruijn64tab:=laidMet.reads h (.tail _ (.head _))
 have e:(some 7:Option Nat)=some g:=(by kernel_rfl:Tryz.prog.globalNamed "math/bits.deBruijn64tab" = some 7).symm.trans hg
 cases e
 have l4:=lt_of_var hg hv
 omega
abbrev synS:ByteArray := { data := #[105,110,118,97,108,105,100,32,115,121,110,116,97,120] }
abbrev rngS:ByteArray := { data := #[118,97,108,117,101,32,111,117,116,32,111,102,32,114,97,110,103,101] }
def low:Nat:=(World.holding Tryz.prog default ⟨#[], #[], []⟩).heap.size
def lit1:DataW Unit→Value
 | .lit (.int k n) => .int k n
 | _ => .int .u8 0
def litsOf:DataW Unit→List Value
 | .agg l=>l.map lit1
 | _ => []
def ot (os:Os):World :=
 let w0:=World.holding Tryz.prog os ⟨#[.cells #[.string synS] 273, .cells #[.string rngS] 273], #[], []⟩
 let put (h:Array Obj) (g:Nat) (cs:Array Value):Array Obj:=h.modify g fun
  | .cells _ t frozen => .cells cs t frozen
  | o=>o
 let h0:=put w0.heap 1 (firstTab.map fun z=>Value.int .u8 z).toArray
 let h1:=put h0 2 ((List.range 16).flatMap fun i => [Value.int .u8 (accLo i),Value.int .u8 (accHi i)]).toArray
 let h2:=put h1 3 #[.iface 271 (.pointer (some ⟨low,0,none⟩))]
 let h3:=put h2 4 #[.iface 271 (.pointer (some ⟨low+1,0,none⟩))]
 let h4:=put h3 5 (pow10Tab.map fun z=>Value.int .u64 z).toArray
 let h6:=put h4 6 (litsOf Rows.laid_math_bits_deBruijn32tab).toArray
 let h7:=put h6 7 (litsOf Rows.laid_math_bits_deBruijn64tab).toArray
 { w0 with heap:=h7 }
theorem Lh (os:Os) (args:Array Value):laidMet Tryz.prog Rows.orderTellsUptoRow.laid ((ot os).forCall (fun _ _=>0) ⟨#[],args, []⟩).memory :=
 laidMet_of_run' 8 (by kernel_rfl) (by kernel_rfl)
end Go.Proofs.YtidfokedcnhahaaGreatDoor.Door
namespace Go.aq
theorem ay {R:Type} {b:Bool} {k:Option R} (h:b=true):cw b k=k:=by subst h; rfl
theorem cL {n:Int} (h1 : -9223372036854775808≤n) (h2:n≤9223372036854775807):IntKind.i64.wrap n=n:=by
 simp only[IntKind.wrap,IntKind.bits,IntKind.signed,IntKind.min,IntKind.max]
 simp
 omega
theorem Json.eta (x:Json):(⟨x.kind,⟨x.num.ao,x.num.exp⟩,x.text,x.names,x.items⟩:Json)=x:=by cases x; rfl
theorem Raw.eta (x:Raw):(⟨x.kind,x.ao,x.exp,x.text,x.items⟩:Raw)=x:=by cases x; rfl
theorem getD_at {α:Type} {l:List α} {i:Nat} (h:i<l.length) (d:α):l.getD i d=l[i]:=by simp[List.getD,h]
end Go.aq
namespace Go.aq
open Go.RowKit
section
variable {P:Program} {tt:dd} {w w':World} {h h':aM} {c c':jI} {R:Type}
theorem Ee (hb:Below w.heap.size w w'):Ext w h c w' h c where
 os:=hb.os
 tape:=hb.tape
 output:=hb.output
 size:=hb.size
 used:=fun _ hi=>hi
 same:=fun i hi hd=>⟨Ld (Rl hi.2 hd) (fun _ _ _ => .inr trivial),rfl,rfl⟩
 cell:=fun b x hx _=>wC (hb.block b hx)
 block:=fun b hx _=>hb.block b hx
 Bp:=fun _ _ _ ho=>ho
 ext:=rfl
 arr:=fun b arr e fz hx=>⟨arr,fz,by rw[hb.block b (EF hx)]; exact hx,rfl⟩
theorem Pw (wf:WF w h c) (hb:Below w.heap.size w w'):WF w' h c where
 C8:=wf.C8
 rG:=fun b x he=>Nat.lt_of_lt_of_le (wf.rG b x he) hb.size
 obj:=fun i hi=>by
  by_cases hl:(h.at i).live
  ·exact (wf.obj i hi).uY (Ee hb) (fun b ph=>hb.block b ((wf.obj i hi).lt hl ph)) rfl rfl
  ·have h0:h.at i = .free∨h.at i = .dead:=by revert hl; cases h.at i <;> simp[cm.live]
   rcases h0 with h0|h0 <;> rw[h0] <;> trivial
 inj:=wf.inj
 lay:=wf.vP (Ee hb)
theorem wF {g:Nat} {fn:Func} (hf:P.funcs[g]? = some fn) (hn:(fn.name == "runtime.NumGoroutine")=false) (hb:fn.body.isNone=false) {args:Array Value} {Q:Value→World→Prop}
  (h:Calls P g args w fun e w'=>∃d,e = .returned d∧Q d w'):BI P g args w Q:=by
 refine ⟨.enter g args,w,?_,h⟩
 have hn':fn.name ≠ "runtime.NumGoroutine" :=by simpa using hn
 have ph:fn.body≠none:=fun e=>by rw[e]at hb; cases hb
 simp[callFunc,hf,hn',ph]
theorem oG {g:Nat} {fn:Func} (hf:P.funcs[g]? = some fn) (hn:(fn.name == "runtime.NumGoroutine")=false) (hb:fn.body.isNone=false) {sp:Spec R}
  (hs:∀vs hp k r,sp vs hp k=some r→∀(w:World) (c:jI) (args:Array Value),WF w hp c→cC w hp c vs args.toList →
   ∃v,k v hp=some r∧Calls P g args w fun e w'=>∃d,e = .returned d∧Below w.heap.size w w'∧dx w' hp c v d):Spec.Ok P g sp:=by
 intro vs hp k r hk w c args wf ra
 obtain ⟨v,hv,hc⟩:=hs vs hp k r hk w c args wf ra
 refine wF hf hn hb (Calls.mono hc ?_)
 rintro e w' ⟨d,he,hbl,hr⟩
 exact ⟨d,he,v,hp,c,Pw wf hbl,Ee hbl,hr,hv⟩
theorem repL1 {v:V} {args:Array Value} (ra:cC w h c [v] args.toList):∃d,args = #[d]∧dx w h c v d:=by
 obtain ⟨l⟩:=args
 match l,ra with
 | [d],ra=>exact ⟨d,rfl,ra.head⟩
 | [],ra=>have:=ra.1; simp at this
 | _::_::_,ra=>have:=ra.1; simp at this
theorem repL2 {u v:V} {args:Array Value} (ra:cC w h c [u,v] args.toList):∃d e,args = #[d,e]∧dx w h c u d∧dx w h c v e:=by
 obtain ⟨l⟩:=args
 match l,ra with
 | [d,e],ra=>exact ⟨d,e,rfl,ra.head,ra.tail.head⟩
 | [],ra=>have:=ra.1; simp at this
 | [_],ra=>have:=ra.1; simp at this
 | _::_::_::_,ra=>have:=ra.1; simp at this
end
section
variable {P:Program} {tt:dd} {w w':World} {h h':aM} {c c':jI} {R:Type}
def WY (R:Type):Spec R:=fun vs h k =>
 match vs with
 | [.ptr i 0]=>(match h.at i with | .mE _=>k (.tuple []) h|_=>none)
 | _=>none
theorem VY {i:Nat} {v:V} {a':Value} (wf:WF w h c) (ra:dx w h c (.ptr i 0) a') (hv:h.at i = .mE v) :
  ∃b p d,a' = .pointer (some ⟨b,0,none⟩)∧c.vN i=some b∧w.heap[b]? = some (Obj.cells #[p,d] pg.mE (0,0))∧(p = .pointer none∨p = .pointer (some ⟨b,0,none⟩))∧dx w h c v d:=by
 have hi:=aM.gF hv (by simp)
 have ho:=wf.obj i hi
 rw[hv]at ho
 obtain ⟨b,p,d,g1,g2,g3,g4⟩:=ho
 cases ra with
 | ptr hu hq =>
  obtain ⟨b',rfl,ph⟩:=hq
  have:=ph (by rw[hv]; simp)
  rw[g1]at this; cases this
  exact ⟨b,p,d,rfl,g1,g2,g3,g4⟩
theorem bcc_ok {g:Nat} {fn:Func} (hf:P.funcs[g]? = some fn) (hn:(fn.name == "runtime.NumGoroutine")=false) (hb:fn.body.isNone=false)
  (fresh:∀(b:Nat) (w:World),w.cell? ⟨b,0,none⟩=some (.pointer none)→w.shape? b=some (pg.mE,2)→w.frozen? ⟨b,0,none⟩=false →
   Calls P g #[.pointer (some ⟨b,0,none⟩)] w fun e w'=>e = .returned (.tuple #[])∧w'=w.setCell ⟨b,0,none⟩ (.pointer (some ⟨b,0,none⟩)))
  (used:∀(b:Nat) (w:World),w.cell? ⟨b,0,none⟩=some (.pointer (some ⟨b,0,none⟩))→Calls P g #[.pointer (some ⟨b,0,none⟩)] w fun e w'=>e = .returned (.tuple #[])∧w'=w):Spec.Ok P g (WY R):=by
 intro vs h k r hk w c args wf ra
 unfold WY at hk
 split at hk <;> try (first|cases hk)
 rename_i i
 split at hk <;> try (first|cases hk)
 rename_i v hv
 obtain ⟨a',rfl,r1⟩:=repL1 ra
 obtain ⟨b,p,d,rfl,g1,g2,g3,g4⟩:=VY wf r1 hv
 have Sj:w.cell? ⟨b,0,none⟩=some p:=by rw[cell_of_row w b _ _ _ _ g2]; rfl
 have rt:∀w' h' c',dx w' h' c' (.tuple []) (.tuple #[]):=fun w' h' c' => .tuple rfl (fun j v d hv=>by simp at hv)
 rcases g3 with rfl|rfl
 ·refine wF hf hn hb (Calls.mono (fresh b w Sj (by simp[World.shape?,g2]) (wE g2 0)) ?_)
  rintro e w' ⟨he,rfl⟩
  have ph:(w.setCell ⟨b,0,none⟩ (.pointer (some ⟨b,0,none⟩))).heap[b]? = some (.cells #[.pointer (some ⟨b,0,none⟩),d] pg.mE (0,0)):=by
   simp[World.setCell,Array.getElem?_modify,g2]
  have hw:Y3 w (w.setCell ⟨b,0,none⟩ (.pointer (some ⟨b,0,none⟩))) b #[.pointer (some ⟨b,0,none⟩),d] pg.mE (0,0):=⟨rfl,rfl,rfl,by simp,fun k hk=>heap_setCell_other w _ k _ hk,ph⟩
  have vQ:(h.at i).from_ (c.off i)=some 0:=by rw[hv]; rfl
  have xW:(h.at i).iG (.mE v):=by rw[hv]; trivial
  have VO:h.set i (.mE v)=h:=by
   have hi:=aM.gF hv (by simp)
   have e:h[i] = .mE v:=by
    have:=hv
    unfold aM.at at this
    simpa [List.getD,List.getElem?_eq_getElem hi]using this
   rw[←e]
   exact List.set_getElem_self hi
  have x:=Uc g1 g2 hw rfl vQ rfl xW
  have q:=upd_wf wf g1 g2 hw rfl vQ rfl xW ⟨b,_,d,g1,ph, .inr rfl,g4.mono x⟩
  rw[VO]at x q
  exact ⟨_,he,_,h,c,q,x,rt _ _ _,hk⟩
 ·refine wF hf hn hb (Calls.mono (used b w Sj) ?_)
  rintro e w' ⟨he,rfl⟩
  exact ⟨_,he,_,h,c,wf, .refl _ _ _,rt _ _ _,hk⟩
def wm (l:List Int):ag:=l.map fun n=>UInt8.ofNat n.toNat
theorem bstr_len (l:List Int):(wm l).length=l.length:=List.length_map _
theorem bstr_get (l:List Int) (m:Nat) (x:UInt8) (h:(wm l)[m]? = some x):∃n,l[m]? = some n∧x=UInt8.ofNat n.toNat:=by
 unfold wm at h
 rw[List.getElem?_map]at h
 cases hm:l[m]? with
 | none=>rw[hm]at h; cases h
 | some n=>rw[hm]at h; simp at h; exact ⟨n,rfl,h.symm⟩
def MH (R:Type):Spec R:=fun vs h k =>
 match vs with
 | [.ptr i 0] =>
  (match h.at i with
   | .mE .cx=>k (.str []) h
   | .mE (.sl (.int .u8) l (.own j))=>(match h.at j with | .tok=>k (.str (wm l)) h|_=>none)
   | _=>none)
 | _=>none
theorem Rt:Pm (MH R):=by
 intro vs h k k' he
 unfold MH
 split <;> try rfl
 split <;> try (first|rfl|exact he _)
 split <;> first|rfl|exact he _
theorem freeze_wf (wf:WF w h c) {j g:Nat} (hj:h.at j = .tok) (hg:c.vN j=some g) {cur:Array Value} {e:TypeId} {fz Ph:Nat×Nat} (h1:w.heap[g]? = some (.cells cur e fz))
  (hos:w'.os=w.os) (htape:w'.tape=w.tape) (hout:w'.output=w.output) (hsize:w'.heap.size=w.heap.size) (VM:∀k,k≠g→w'.heap[k]? = w.heap[k]?) (h2:w'.heap[g]? = some (.cells cur e Ph))
  (hfz:(fz.1=fz.2∨fz.2≤c.off j)→(Ph.1=Ph.2∨Ph.2≤c.off j)) :
  WF w' h c∧Ext w h c w' h c:=by
 have hjl:=aM.gF hj (by simp)
 have l9:xk h c g (c.off j):=⟨j,c.off j,hg,by rw[hj]; rfl,Nat.le_refl _⟩
 have Dn:∀b x,w'.cell? ⟨b,x,none⟩=w.cell? ⟨b,x,none⟩:=fun b x=>by
  by_cases hb:b=g
  ·subst hb; rw[cell_of_row w' b x cur e Ph h2,cell_of_row w b x cur e fz h1]
  ·exact wC (VM b hb)
 have x:Ext w h c w' h c := {
  os:=hos
  tape:=htape
  output:=hout
  size:=by omega
  used:=(Ext.refl w h c).used
  same:=(Ext.refl w h c).same
  cell:=fun b x _ _=>Dn b x
  block:=fun b _ ho=>VM b (by rintro rfl; exact ho _ l9)
  Bp:=(Ext.refl w h c).Bp
  ext:=rfl
  arr:=fun b arr el fz0 hb=>by
   by_cases hbg:b=g
   ·subst hbg; rw[h1]at hb; cases hb; exact ⟨cur,Ph,h2,rfl⟩
   ·exact ⟨arr,fz0,by rw[VM b hbg]; exact hb,rfl⟩ }
 refine ⟨?_,x⟩
 exact {
  lay:=wf.vP x
  C8:=wf.C8
  rG:=fun b y he=>by rw[hsize]; exact wf.rG b y he
  obj:=fun i hi=>by
   by_cases AT:i=j
   ·subst AT
    have:=wf.obj i hi
    rw[hj]at this ⊢
    rcases this with h0|⟨b',Mn,e',fz0,p1,p2,p3,p4⟩
    ·rw[hg]at h0; cases h0
    ·rw[hg]at p1; cases p1
     rw[h1]at p2; cases p2
     exact .inr ⟨g,cur,e,Ph,hg,h2,p3,hfz p4⟩
   ·by_cases hl:(h.at i).live
    ·refine (wf.obj i hi).uY x (fun b hb=>VM b ?_) rfl rfl
     rintro rfl
     exact AT (wf.inj i j b hl (by rw[hj]; trivial) hb hg)
    ·have h0:h.at i = .free∨h.at i = .dead:=by revert hl; cases h.at i <;> simp[cm.live]
     rcases h0 with h0|h0 <;> rw[h0] <;> trivial
  inj:=wf.inj }
theorem freeze_facts {q n:Nat} {cur:Array Value} {e:TypeId} {fz:Nat×Nat} (hn:n≠0) (hq:w.heap[q]? = some (.cells cur e fz)) :
  (w.drew.freeze ⟨q,0,none⟩ n).os=w.os∧(w.drew.freeze ⟨q,0,none⟩ n).tape=w.tape∧(w.drew.freeze ⟨q,0,none⟩ n).output=w.output∧(w.drew.freeze ⟨q,0,none⟩ n).heap.size=w.heap.size ∧
   (∀k,k≠q→(w.drew.freeze ⟨q,0,none⟩ n).heap[k]? = w.heap[k]?)∧∃Ph,(w.drew.freeze ⟨q,0,none⟩ n).heap[q]? = some (.cells cur e Ph)∧∀o,n≤o→(fz.1=fz.2∨fz.2≤o)→(Ph.1=Ph.2∨Ph.2≤o):=by
 obtain ⟨lo,hi⟩:=fz
 unfold World.freeze
 rw[if_neg hn]
 refine ⟨rfl,rfl,rfl,Array.size_modify,fun k hk => ?_,(if lo==hi then (0,0+n)else (min lo 0,max hi (0+n))),?_,fun o ho hf => ?_⟩
 ·simp only[Array.getElem?_modify]
  rw[if_neg (Ne.symm hk)]
  rfl
 ·simp only[Array.getElem?_modify,if_true]
  rw[show w.drew.heap[q]? = some (.cells cur e (lo,hi))from hq]
  rfl
 ·simp only at hf
  split
  ·exact .inr (by simp; omega)
  ·rename_i jA
   have:lo≠hi:=by simpa using jA
   exact .inr (by simp; omega)
theorem u8_of {n:Int} (hn:IntKind.u8.has n):((UInt8.ofNat n.toNat).toNat:Int)=n:=by
 have:0≤n∧n≤255:=by simpa [IntKind.has,IntKind.min,IntKind.max,IntKind.signed,IntKind.bits]using hn
 simp only[UInt8.toNat_ofNat']
 omega
structure ZA (P:Program) (g:Nat):Prop where
 nil:∀(b:Nat) (p:Value) (w:World),w.heap[b]? = some (.cells #[p, .slice none 0 0] pg.mE (0,0)) →
  Calls P g #[.pointer (some ⟨b,0,none⟩)] w fun e w'=>e = .returned (.string ⟨#[]⟩)∧Below w.heap.size w w'
 noroom:∀(b q:Nat) (p:Value) (cur:Array Value) (fz:Nat×Nat) (w:World),w.heap[b]? = some (.cells #[p, .slice (some ⟨q,0,none⟩) 0 0] pg.mE (0,0))→w.heap[q]? = some (.cells cur pg.u8 fz) →
  Calls P g #[.pointer (some ⟨b,0,none⟩)] w fun e w'=>e = .returned (.string ⟨#[]⟩)∧Below w.heap.size w w'
 room:∀(b q cap:Nat) (p:Value) (w:World),cap≠0→w.heap[b]? = some (.cells #[p, .slice (some ⟨q,0,none⟩) 0 cap] pg.mE (0,0)) →
  Calls P g #[.pointer (some ⟨b,0,none⟩)] w fun e w'=>e = .returned (.string ⟨#[]⟩)∧Below w.heap.size w w'
 some:∀(b q cap:Nat) (p:Value) (cur:Array Value) (fz:Nat×Nat) (l:List UInt8) (w:World),l ≠ []→w.heap[b]? = some (.cells #[p, .slice (some ⟨q,0,none⟩) l.length cap] pg.mE (0,0)) →
  w.heap[q]? = some (.cells cur pg.u8 fz)→l.length≤cap→cap≤mx→l.length≤cur.size→(∀(j:Nat) (x:UInt8),l[j]? = some x→w.cell? ⟨q,j,none⟩=some (.int .u8 x.toNat)) →
  Calls P g #[.pointer (some ⟨b,0,none⟩)] w fun e w'=>e = .returned (.string ⟨l.toArray⟩)∧w'=w.drew.freeze ⟨q,0,none⟩ l.length
theorem bstr_ok {g:Nat} {fn:Func} (hf:P.funcs[g]? = some fn) (hn:(fn.name == "runtime.NumGoroutine")=false) (hb:fn.body.isNone=false) (D:ZA P g):Spec.Ok P g (MH R):=by
 intro vs h k r hk w c args wf ra
 unfold MH at hk
 split at hk <;> try (first|cases hk)
 rename_i i
 obtain ⟨a',rfl,r1⟩:=repL1 ra
 have empty:∀ {w':World} {h':aM} {c':jI},dx w' h' c' (.str []) (.string ⟨#[]⟩):=fun {w' h' c'}=>GV ⟨#[]⟩ rfl (Nat.zero_le _)
 split at hk <;> try (first|cases hk)
 ·rename_i hv
  obtain ⟨b,p,d,rfl,g1,g2,g3,g4⟩:=VY wf r1 hv
  cases g4
  refine wF hf hn hb (Calls.mono (D.nil b p w g2) ?_)
  rintro e w' ⟨he,hbl⟩
  exact ⟨_,he,_,h,c,Pw wf hbl,Ee hbl,empty,hk⟩
 ·rename_i l j hv
  split at hk <;> try (first|cases hk)
  rename_i hj
  obtain ⟨b,p,d,rfl,g1,g2,g3,g4⟩:=VY wf r1 hv
  have hi:=aM.gF hv (by simp)
  have AT:j≠i:=by rintro rfl; rw[hj]at hv; cases hv
  have hu8:∀x∈(l:List Int),IntKind.u8.has x:=by
   intro x hx
   cases g4 with
   | sl f iN tf hc hr D1 l9 =>
    obtain ⟨m,hm⟩:=List.mem_iff_getElem?.1 hx
    exact (hr m 0 x (.int .u8 x) hm rfl).fi.2
  have hlen:(wm l).length=List.length (α:=Int) l:=bstr_len l
  cases g4 with
  | @sl _ _ _ A cap f iN tf hc hr D1 l9 =>
   obtain ⟨_,ho⟩:=l9 j rfl
   have hcap':List.length (α:=Int) l≤cap:=iN
   have T5:∀(w':World) (h':aM) (c':jI),dx w' h' c' (.str (wm l)) (.string ⟨(wm l).toArray⟩):=fun w' h' c'=>GV _ rfl (by rw[hlen]; exact Nat.le_trans iN tf)
   rcases ho hj with ⟨e1,rfl,rfl⟩|⟨q,o,cur,e,fz,e1,rfl,e3,e4,e5,e6⟩
   ·have WJ:l = []:=List.eq_nil_of_length_eq_zero (Nat.le_zero.1 iN)
    subst WJ
    refine wF hf hn hb (Calls.mono (D.nil b p w g2) ?_)
    rintro e w' ⟨he,hbl⟩
    exact ⟨_,he,_,h,c,Pw wf hbl,Ee hbl,T5 _ _ _,hk⟩
   ·obtain ⟨rfl,rfl⟩:=e6 rfl
    by_cases WJ:l = []
    ·subst WJ
     by_cases Sj:cap=0
     ·subst Sj
      refine wF hf hn hb (Calls.mono (D.noroom b q p cur fz w g2 e4) ?_)
      rintro e w' ⟨he,hbl⟩
      exact ⟨_,he,_,h,c,Pw wf hbl,Ee hbl,T5 _ _ _,hk⟩
     ·refine wF hf hn hb (Calls.mono (D.room b q cap p w Sj g2) ?_)
      rintro e w' ⟨he,hbl⟩
      exact ⟨_,he,_,h,c,Pw wf hbl,Ee hbl,T5 _ _ _,hk⟩
    ·have hbl:wm l ≠ []:=fun e=>WJ (List.eq_nil_of_length_eq_zero (hlen.symm.trans (by rw[e]; rfl)))
     have e5':0+cap*1≤cur.size:=e5
     have J3:∀(m:Nat) (x:UInt8),(wm l)[m]? = some x→w.cell? ⟨q,m,none⟩=some (.int .u8 x.toNat):=by
      intro m x hx
      obtain ⟨n,hm,rfl⟩:=bstr_get l m x hx
      have hml:m<List.length (α:=Int) l:=(List.getElem?_eq_some_iff.1 hm).1
      obtain ⟨b',o',hA,Dn,_⟩:=hc m 0 hml (by simp[Ty.sz])
      cases hA
      have hrn:=hr m 0 n (.int .u8 n) hm rfl
      rw[hrn.fi.1]at Dn
      rw[u8_of hrn.fi.2]
      simpa [Ty.sz]using Dn
     have g2':w.heap[b]? = some (.cells #[p, .slice (some ⟨q,0,none⟩) (wm l).length cap] pg.mE (0,0)):=by rw[hlen]; exact g2
     refine wF hf hn hb (Calls.mono (D.some b q cap p cur fz (wm l) w hbl g2' e4 (by rw[hlen]; exact iN) tf (by rw[hlen]; omega) J3) ?_)
     rintro e w' ⟨he,rfl⟩
     have hne0:(wm l).length≠0:=by simpa using hbl
     obtain ⟨f1,f2,f3,f4,f5,Ph,f6,f7⟩:=freeze_facts hne0 e4
     obtain ⟨q1,q2⟩:=freeze_wf wf hj e1 e4 f1 f2 f3 f4 f5 f6 (f7 _ (by rw[e3,hlen]; simp[Ty.sz]; exact Nat.le_refl _))
     exact ⟨_,he,_,h,c,q1,q2,T5 _ _ _,hk⟩
end
def wG (s:ag):Bool:=s.all fun b=>decide (b.toNat<128)
def fE (s:ag):Bool:=Go.Lib.validD s
def o5 (s:ag):Nat×Nat:=if s.isEmpty then (65533,0)else Utf8.decode ⟨s.toArray⟩ 0
def cz (n:Int):ag:=Go.Lib.itoa n
def lj (s:ag) (n:Int):ag:=Go.Lib.repeatL s n.toNat
def bx (s cs:ag):ag:=s.dropWhile (cs.contains ·)
def cM (s cs:ag):ag:=(s.reverse.dropWhile (cs.contains ·)).reverse
def wH (s:ag):Bool:=match Go.Lib.atoiAll s with | .ok _=>true|_=>false
def eJ (s:ag):Int:=match Go.Lib.atoiAll s with | .ok v=>v | .range=>Go.Lib.atoiSat s|_=>0
def ZB (s cs:ag):Bool:=Go.Lib.containsAny s cs
def E3 (s:ag) (c:UInt8):Int:=Go.Lib.lastIndexByte ⟨s.toArray⟩ (c.toNat:Int)
def EI (s:ag) (c:Int):Int:=Go.Lib.indexByte s c.toNat.toUInt8
section
variable (R:Type)
def valid_S:Spec R:=fun vs h k=>match vs with | [.str s]=>k (.bool (fE s)) h|_=>none
def dec_S:Spec R:=fun vs h k=>match vs with | [.str s]=>k (.tuple [.int .i32 (o5 s).1, .int .i64 (o5 s).2]) h|_=>none
def itoa_S:Spec R:=fun vs h k=>match vs with | [.int .i64 n]=>k (.str (cz n)) h|_=>none
def rep_S:Spec R:=fun vs h k=>match vs with | [.str s, .int .i64 n]=>cw (decide (0≤n)&&decide ((s.length:Int)*n≤140737488355328)) (k (.str (lj s n)) h)|_=>none
def Ru:Spec R:=fun vs h k=>match vs with | [.str s, .str cs]=>cw (wG cs&&decide (cs.length<4294967281)) (k (.str (bx s cs)) h)|_=>none
def trimR_S:Spec R:=fun vs h k=>match vs with | [.str s, .str cs]=>cw (wG cs&&decide (cs.length<4294967281)) (k (.str (cM s cs)) h)|_=>none
def atoi_S:Spec R:=fun vs h k=>match vs with
 | [.str s]=>cw (decide (s.length≤281474976710656)) (bif wH s then k (.tuple [.int .i64 (eJ s), .dJ]) h else k (.tuple [.int .i64 (eJ s), .iface]) h)
 | _=>none
def toErr_S (T:Nat):Spec R:=fun vs h k=>match vs with
 | [.str _, .str s, .int .i64 _, .int .i64 _, .SW t .i64 n]=>cw (Nat.beq t T&&(n==2||n==1)) (cw (decide (s.length≤281474976710656)) (k .iface h))
 | _=>none
def ZC:Spec R:=fun vs h k=>match vs with
 | [.str s, .str cs]=>cw (wG s&&wG cs&&decide (s.length<4294967281)&&decide (cs.length<4294967281)) (k (.bool (ZB s cs)) h)
 | _=>none
def lastI_S:Spec R:=fun vs h k=>match vs with | [.str s, .str [c]]=>cw (decide (s.length≤281474976710656)) (k (.int .i64 (E3 s c)) h)|_=>none
def idx_S:Spec R:=fun vs h k=>match vs with | [.str s, .int .u8 c]=>k (.int .i64 (EI s c)) h|_=>none
end
section
variable {P:Program} {w w':World} {h:aM} {c:jI} {R:Type}
open Go.Lib
theorem Yp {s:ag} (hs:wG s=true):∀(j:Nat) (b:UInt8),s[j]? = some b→b.toNat<128:=by
 intro j b hb
 have:=List.all_eq_true.1 hs b (List.mem_of_getElem? hb)
 simpa using this
theorem BJ (p:UInt8→Bool):∀s:ag,(s.dropWhile p).length≤s.length
 | []=>Nat.le_refl _
 | b::s=>by
  rw[List.dropWhile_cons]
  split
  ·have:=BJ p s; simp; omega
  ·exact Nat.le_refl _
theorem str_of (l:ag) (h':l.length≤mx):dx w h c (.str l) (.string ⟨l.toArray⟩):=GV _ rfl h'
theorem lI {g:Nat} {args:Array Value} {Q:Ending→World→Prop} {v:V} (hc:Calls P g args w Q)
  (hq:∀e w',Q e w'→∃d,e = .returned d∧Below w.heap.size w w'∧dx w' h c v d):Calls P g args w fun e w'=>∃d,e = .returned d∧Below w.heap.size w w'∧dx w' h c v d:=Calls.mono hc fun e w' q=>hq e w' q
end
end Go.aq
set_option maxRecDepth 100000
namespace Go.Proofs.YtidfokedcnhahaaGreatDoor
open Go Go.aq Go.RowKit Go.Shelf
section
variable {w w':World} {h:aM} {c:jI} {R:Type}
theorem below_drewN:∀(q:Nat) (a:World),Below w.heap.size w a→Below w.heap.size w (a.drewN q)
 | 0,_,ha=>ha
 | q+1,a,ha=>(below_drewN q a ha).drew
theorem below_push (a:World) (os:Array Obj) (ha:Below w.heap.size w a):Below w.heap.size w { a with heap:=a.heap++os } :=
 ⟨ha.os,ha.tape,ha.output,by simp; have:=ha.size; omega,fun k hk=>by
  have:=ha.size
  rw[←ha.block k hk]
  exact Array.getElem?_append_left (by omega)⟩
theorem below_bytes (e:TypeId) (t:ByteArray):Below w.heap.size w (Go.Lib.bytesWorld w e t):=by
 unfold Go.Lib.bytesWorld World.freeze
 have hb:Below w.heap.size w (w.drew.alloc (.cells (Go.Lib.bytesCells w e t) e)):=D7 w _
 split
 ·exact hb
 ·refine ⟨hb.os,hb.tape,hb.output,?_,fun k hk => ?_⟩
  ·have:=hb.size; simpa using this
  ·rw[←hb.block k hk]
   simp only[Array.getElem?_modify]
   rw[if_neg (by show ¬w.heap.size=k; omega)]
theorem trimL_le (s cs:ag):(bx s cs).length≤s.length:=BJ _ s
theorem trimR_le (s cs:ag):(cM s cs).length≤s.length:=by
 unfold cM
 rw[List.length_reverse]
 exact Nat.le_trans (BJ _ _) (by simp)
theorem trimL_nil (s:ag):bx s []=s:=by
 unfold bx
 cases s with
 | nil=>rfl
 | cons b s=>simp
theorem trimR_nil (s:ag):cM s []=s:=by
 unfold cM
 have:(s.reverse.dropWhile fun x=>List.contains [] x)=s.reverse:=by
  cases s.reverse with
  | nil=>rfl
  | cons b s=>simp
 rw[this,List.reverse_reverse]
theorem trimL_one (s:ag) (b:UInt8):bx s [b]=Go.Lib.trimLeftB s b:=by
 unfold bx Go.Lib.trimLeftB
 congr 1
 funext x
 rw[List.contains_cons]
 show (x==b||false)=_
 rw[Bool.or_false]
theorem trimR_one (s:ag) (b:UInt8):cM s [b]=Go.Lib.trimRightB s b:=by
 unfold cM Go.Lib.trimRightB
 congr 2
 funext x
 rw[List.contains_cons]
 show (x==b||false)=_
 rw[Bool.or_false]
theorem valid_ok:aq.Spec.Ok Tryz.prog 200 (valid_S R):=by
 refine oG Tryz.func200 rfl rfl fun vs hp k r hk w c args wf ra => ?_
 unfold valid_S at hk
 split at hk <;> try (first|cases hk)
 rename_i s
 obtain ⟨a,rfl,r1⟩:=repL1 ra
 obtain ⟨t,rfl,rfl,hl⟩:=r1.gL
 refine ⟨_,hk,lI (Any.utf8_ValidString Tryz.lay196 t w hl wf.lay.1.1) ?_⟩
 rintro e w' ⟨he,hb⟩
 exact ⟨_,he,hb, .bool _⟩
theorem dec_ok:aq.Spec.Ok Tryz.prog 184 (dec_S R):=by
 refine oG Tryz.func184 rfl rfl fun vs hp k r hk w c args wf ra => ?_
 unfold dec_S at hk
 split at hk <;> try (first|cases hk)
 rename_i s
 obtain ⟨a,rfl,r1⟩:=repL1 ra
 obtain ⟨t,rfl,rfl,hl⟩:=r1.gL
 have hd:Go.Lib.decodeGo t=o5 t.data.toList:=by
  unfold Go.Lib.decodeGo o5
  by_cases h0:t.size=0
  ·have:t.data.toList = []:=List.eq_nil_of_length_eq_zero (by rw[size_data]; exact h0)
   simp[h0,this]
  ·have:t.data.toList ≠ []:=fun e=>h0 (by rw[←size_data,e]; rfl)
   have hm:(⟨t.data.toList.toArray⟩:ByteArray)=t:=tz rfl
   simp[h0,hm]
   exact fun e=>absurd (show t.data.size=0 by rw[e]; rfl) h0
 have je:(o5 t.data.toList).1<2097152∧(o5 t.data.toList).2≤4:=by
  unfold o5
  split
  ·exact ⟨by omega,by omega⟩
  ·exact ⟨(VN _ _).1,(VN _ _).2.2⟩
 refine ⟨_,hk,lI (Any.utf8_DecodeRuneInString Tryz.lay197 t w wf.lay.1.1) ?_⟩
 rintro e w' ⟨he,hb⟩
 rw[hd]at he
 refine ⟨_,he,hb, .tuple rfl fun j v d hv hd => ?_⟩
 match j,hv,hd with
 | 0,hv,hd=>simp at hv hd; subst hv; subst hd; exact .int (has_rune _ je.1)
 | 1,hv,hd=>simp at hv hd; subst hv; subst hd; exact .int (Mo _ (by unfold mx; omega))
 | j+2,hv,_=>simp at hv
theorem itoa_ok:aq.Spec.Ok Tryz.prog 172 (itoa_S R):=by
 refine oG Tryz.func172 rfl rfl fun vs hp k r hk w c args wf ra => ?_
 unfold itoa_S at hk
 split at hk <;> try (first|cases hk)
 rename_i n
 obtain ⟨a,rfl,r1⟩:=repL1 ra
 obtain ⟨rfl,hn⟩:=r1.fi
 have hn' : -9223372036854775808≤n∧n≤9223372036854775807:=by simpa [IntKind.has,IntKind.min,IntKind.max,IntKind.signed,IntKind.bits]using hn
 refine ⟨_,hk,lI (Any.strconv_Itoa Tryz.lay171 n hn'.1 hn'.2 w wf.lay.1.2.1) ?_⟩
 rintro e w' ⟨he,q,os,rfl⟩
 refine ⟨_,he,below_push _ os (below_drewN q w (Below.refl _ _)),str_of _ ?_⟩
 have:=Go.Lib.itoa_length_le n hn'.1 hn'.2
 unfold cz mx
 omega
theorem x72:Builder.X72 Tryz.prog Tryz.MG := { sizeBuilder:=by kernel_rfl,liesBuilder:=by kernel_rfl }
theorem xBuilder:Builder.Extra Tryz.prog Tryz.MG := { x72 with t5:=Tryz.underlying5,a5:=Tryz.isAgg5,z5:=Tryz.sizeOf5,v5:=Tryz.zeroValue5,infoByte:=by kernel_rfl,cellsByte:=by kernel_rfl,sizeByte:=by kernel_rfl,neB5:=by decide }
theorem rep_ok:aq.Spec.Ok Tryz.prog 173 (rep_S R):=by
 refine oG Tryz.func173 rfl rfl fun vs hp k r hk w c args wf ra => ?_
 unfold rep_S at hk
 split at hk <;> try (first|cases hk)
 rename_i s n
 obtain ⟨hc,hk⟩:=cd hk
 simp only[Bool.and_eq_true,decide_eq_true_eq]at hc
 obtain ⟨h0,hlen⟩:=hc
 obtain ⟨a,b,rfl,r1,r2⟩:=repL2 ra
 obtain ⟨t,rfl,rfl,hl⟩:=r1.gL
 obtain ⟨rfl,hn⟩:=r2.fi
 obtain ⟨m,rfl⟩:=Int.eq_ofNat_of_zero_le h0
 have hn':(m:Int)≤9223372036854775807:=by
  have:IntKind.i64.has (m:Int):=hn
  simp[IntKind.has,IntKind.min,IntKind.max,IntKind.signed,IntKind.bits]at this
  omega
 rw[size_data]at hlen
 have hlen':t.size*m≤140737488355328:=by omega
 have hrl:(Go.Lib.repeatL t.data.toList m).length≤140737488355328:=by
  rw[Go.Lib.repeatL_length,size_data,Nat.mul_comm]; exact hlen'
 refine ⟨_,hk,lI (Any.strings_Repeat Tryz.lay105 xBuilder t m w (by omega) hlen') ?_⟩
 rintro e w' ⟨he,hb⟩
 refine ⟨_,he,hb,?_⟩
 have e2:lj t.data.toList (m:Int)=Go.Lib.repeatL t.data.toList m:=by unfold lj; simp
 rw[e2]
 exact str_of _ (by unfold mx; omega)
theorem Ut:aq.Spec.Ok Tryz.prog 105 (Ru R):=by
 refine oG Tryz.func105 rfl rfl fun vs hp k r hk w c args wf ra => ?_
 unfold Ru at hk
 split at hk <;> try (first|cases hk)
 rename_i s cs
 obtain ⟨hc,hk⟩:=cd hk
 simp only[Bool.and_eq_true,decide_eq_true_eq]at hc
 obtain ⟨ha,Pc⟩:=hc
 obtain ⟨a,b,rfl,r1,r2⟩:=repL2 ra
 obtain ⟨t,rfl,rfl,hl⟩:=r1.gL
 obtain ⟨u,rfl,rfl,hl2⟩:=r2.gL
 rw[size_data]at Pc
 have hasc:=Yp ha
 have hle:=trimL_le t.data.toList u.data.toList
 rw[size_data]at hle
 have fin:∀(l:ag),l=bx t.data.toList u.data.toList→∀w':World,dx w' hp c (.str (bx t.data.toList u.data.toList)) (.string ⟨l.toArray⟩):=fun l e w'=>by
  rw[e]; exact str_of _ (by omega)
 by_cases h0:t.size=0∨u.size=0
 ·refine ⟨_,hk,lI (Any.strings_TrimLeft_empty Tryz.lay161 t u w h0) ?_⟩
  rintro e w' ⟨he,rfl⟩
  have e2:(⟨t.data.toList.toArray⟩:ByteArray)=t:=tz rfl
  rw[←e2]at he
  refine ⟨_,he,Below.refl _ _,fin _ ?_ _⟩
  rcases h0 with h0|h0
  ·have:t.data.toList = []:=List.eq_nil_of_length_eq_zero (by rw[size_data]; exact h0)
   rw[this]; unfold bx; simp
  ·have:u.data.toList = []:=List.eq_nil_of_length_eq_zero (by rw[size_data]; exact h0)
   rw[this,trimL_nil]
 ·have hu1:u.size=1∨2≤u.size:=by omega
  rcases hu1 with hu1|hu2
  ·obtain ⟨b,hb⟩:∃b,u.data.toList = [b]:=by
    have hul:u.data.toList.length=1:=by rw[size_data]; exact hu1
    match hq:u.data.toList,hul with
    | [b],_=>exact ⟨b,rfl⟩
   have eu:u=⟨#[b]⟩:=tz (by rw[hb])
   subst eu
   refine ⟨_,hk,lI (Any.strings_TrimLeft_one Tryz.lay161 t b (hasc 0 b rfl) w) ?_⟩
   rintro e w' ⟨he,rfl⟩
   exact ⟨_,he,Below.refl _ _,fin _ (trimL_one _ _).symm _⟩
  ·refine ⟨_,hk,lI (Any.strings_TrimLeft_set Tryz.lay161 Tryz.zeroValue178 (by kernel_rfl) t u w hu2 (by omega) (by omega) hasc) ?_⟩
   rintro e w' ⟨he,rfl⟩
   refine ⟨_,he,?_,fin _ rfl _⟩
   exact ((Below.refl _ _).alloc (Nat.le_refl _) _).alloc (by simp) _
theorem trimR_ok:aq.Spec.Ok Tryz.prog 193 (trimR_S R):=by
 refine oG Tryz.func193 rfl rfl fun vs hp k r hk w c args wf ra => ?_
 unfold trimR_S at hk
 split at hk <;> try (first|cases hk)
 rename_i s cs
 obtain ⟨hc,hk⟩:=cd hk
 simp only[Bool.and_eq_true,decide_eq_true_eq]at hc
 obtain ⟨ha,Pc⟩:=hc
 obtain ⟨a,b,rfl,r1,r2⟩:=repL2 ra
 obtain ⟨t,rfl,rfl,hl⟩:=r1.gL
 obtain ⟨u,rfl,rfl,hl2⟩:=r2.gL
 rw[size_data]at Pc
 have hasc:=Yp ha
 have hle:=trimR_le t.data.toList u.data.toList
 rw[size_data]at hle
 have fin:∀(l:ag),l=cM t.data.toList u.data.toList→∀w':World,dx w' hp c (.str (cM t.data.toList u.data.toList)) (.string ⟨l.toArray⟩):=fun l e w'=>by
  rw[e]; exact str_of _ (by omega)
 by_cases h0:t.size=0∨u.size=0
 ·refine ⟨_,hk,lI (Any.strings_TrimRight_empty Tryz.lay162 t u w h0) ?_⟩
  rintro e w' ⟨he,rfl⟩
  have e2:(⟨t.data.toList.toArray⟩:ByteArray)=t:=tz rfl
  rw[←e2]at he
  refine ⟨_,he,Below.refl _ _,fin _ ?_ _⟩
  rcases h0 with h0|h0
  ·have:t.data.toList = []:=List.eq_nil_of_length_eq_zero (by rw[size_data]; exact h0)
   rw[this]; unfold cM; simp
  ·have:u.data.toList = []:=List.eq_nil_of_length_eq_zero (by rw[size_data]; exact h0)
   rw[this,trimR_nil]
 ·have hu1:u.size=1∨2≤u.size:=by omega
  rcases hu1 with hu1|hu2
  ·obtain ⟨b,hb⟩:∃b,u.data.toList = [b]:=by
    have hul:u.data.toList.length=1:=by rw[size_data]; exact hu1
    match hq:u.data.toList,hul with
    | [b],_=>exact ⟨b,rfl⟩
   have eu:u=⟨#[b]⟩:=tz (by rw[hb])
   subst eu
   refine ⟨_,hk,lI (Any.strings_TrimRight_one Tryz.lay162 t b (hasc 0 b rfl) w hl) ?_⟩
   rintro e w' ⟨he,rfl⟩
   exact ⟨_,he,Below.refl _ _,fin _ (trimR_one _ _).symm _⟩
  ·refine ⟨_,hk,lI (Any.strings_TrimRight_set Tryz.lay162 Tryz.zeroValue178 (by kernel_rfl) t u w hu2 (by omega) hl (by omega) hasc) ?_⟩
   rintro e w' ⟨he,rfl⟩
   refine ⟨_,he,?_,fin _ rfl _⟩
   exact ((Below.refl _ _).alloc (Nat.le_refl _) _).alloc (by simp) _
theorem atoi_ok:aq.Spec.Ok Tryz.prog 194 (atoi_S R):=by
 refine oG Tryz.func194 rfl rfl fun vs hp k r hk w c args wf ra => ?_
 unfold atoi_S at hk
 split at hk <;> try (first|cases hk)
 rename_i s
 obtain ⟨hc,hk⟩:=cd hk
 simp only[decide_eq_true_eq]at hc
 obtain ⟨a,rfl,r1⟩:=repL1 ra
 obtain ⟨t,rfl,rfl,hl⟩:=r1.gL
 rw[size_data]at hc
 obtain ⟨_,_,⟨t1,x1,hv1⟩,⟨t2,x2,hv2⟩⟩:=wf.lay.1
 have lN:IntKind.i64.has (eJ t.data.toList):=by
  unfold eJ
  split
  ·rename_i v hv
   unfold Go.Lib.atoiAll at hv
   split at hv
   ·cases hv
   ·dsimp only at hv
    split at hv
    ·cases hv
    ·cases hv
    ·rename_i u _
     split at hv
     ·cases hv
     ·split at hv
      ·cases hv
      ·cases hv
       split <;> simp[IntKind.has,IntKind.min,IntKind.max,IntKind.signed,IntKind.bits] <;> omega
  ·unfold Go.Lib.atoiSat
   split <;> simp[IntKind.has,IntKind.min,IntKind.max,IntKind.signed,IntKind.bits]
  ·simp[IntKind.has,IntKind.min,IntKind.max,IntKind.signed,IntKind.bits]
 have two:∀(z:Int) (u:V) (w':World) (x:Value),eJ t.data.toList=z→dx w' hp c u x→dx w' hp c (.tuple [.int .i64 (eJ t.data.toList),u]) (.tuple #[.int .i64 z,x]):=fun z u w' x hz hx=>by
  subst hz
  refine .tuple rfl fun j v d hv hd => ?_
  match j,hv,hd with
  | 0,hv,hd=>simp at hv hd; subst hv; subst hd; exact .int lN
  | 1,hv,hd=>simp at hv hd; subst hv; subst hd; exact hx
  | j+2,hv,_=>simp at hv
 rcases hA:Go.Lib.atoiAll t.data.toList with v|_|_
 ·
  have e1:wH t.data.toList=true:=by unfold wH; rw[hA]
  have e2:eJ t.data.toList=v:=by unfold eJ; rw[hA]
  rw[e1]at hk
  refine ⟨_,hk,lI (Any.strconv_Atoi_ok Tryz.lay172 t (by omega) v hA w) ?_⟩
  rintro e w' ⟨he,hb⟩
  refine ⟨_,he,?_,two _ _ _ _ e2 .dJ⟩
  rcases hb with rfl|⟨q,rfl⟩
  ·exact Below.refl _ _
  ·exact below_bytes _ _
 ·
  have e1:wH t.data.toList=false:=by unfold wH; rw[hA]
  have e2:eJ t.data.toList=0:=by unfold eJ; rw[hA]
  rw[e1]at hk
  refine ⟨_,hk,lI (Any.strconv_Atoi_syntax Tryz.lay172 t hc hA (.iface t1 x1) w hv1 (.inr ⟨_,_,rfl⟩)) ?_⟩
  rintro e w' ⟨q,he,_,_,hb⟩
  exact ⟨_,he,hb,two _ _ _ _ e2 (.iface _ _)⟩
 ·
  have e1:wH t.data.toList=false:=by unfold wH; rw[hA]
  have e2:eJ t.data.toList=Go.Lib.atoiSat t.data.toList:=by unfold eJ; rw[hA]
  rw[e1]at hk
  refine ⟨_,hk,lI (Any.strconv_Atoi_range Tryz.lay172 t hc hA (.iface t2 x2) w hv2 (.inr ⟨_,_,rfl⟩)) ?_⟩
  rintro e w' ⟨q,he,_,_,hb⟩
  exact ⟨_,he,hb,two _ _ _ _ e2 (.iface _ _)⟩
theorem toErr_ok:aq.Spec.Ok Tryz.prog 219 (toErr_S R 250):=by
 refine oG Tryz.func219 rfl rfl fun vs hp k r hk w c args wf ra => ?_
 unfold toErr_S at hk
 split at hk <;> try (first|cases hk)
 rename_i fn s b1 b2 t n
 obtain ⟨hc,hk1⟩:=cd hk
 obtain ⟨WJ,Rj⟩:=cd hk1
 simp only[Bool.and_eq_true,Bool.or_eq_true,beq_iff_eq,decide_eq_true_eq]at hc WJ
 obtain ⟨ht,hn⟩:=hc
 have ht:=Nat.eq_of_beq_eq_true ht
 subst ht
 obtain ⟨l⟩:=args
 match l,ra with
 | [a1,a2,a3,a4,a5],ra =>
  obtain ⟨t1,rfl,rfl,_⟩:=ra.head.gL
  obtain ⟨t2,rfl,rfl,hl2⟩:=ra.tail.head.gL
  obtain ⟨rfl,_⟩:=ra.tail.tail.head.fi
  obtain ⟨rfl,_⟩:=ra.tail.tail.tail.head.fi
  obtain ⟨rfl,_⟩:=ra.tail.tail.tail.tail.head.ifi_inv
  rw[size_data]at WJ
  obtain ⟨_,_,⟨p1,x1,hv1⟩,⟨p2,x2,hv2⟩⟩:=wf.lay.1
  rcases hn with rfl|rfl
  ·refine ⟨_,Rj,lI (Any.strconv_toError_syntax Tryz.lay245 t1 t2 b1 b2 (.iface p1 x1) w WJ hv1 (.inr ⟨_,_,rfl⟩)) ?_⟩
   rintro e w' ⟨q,he,_,_,hb⟩
   exact ⟨_,he,hb, .iface _ _⟩
  ·refine ⟨_,Rj,lI (Any.strconv_toError_range Tryz.lay245 t1 t2 b1 b2 (.iface p2 x2) w WJ hv2 (.inr ⟨_,_,rfl⟩)) ?_⟩
   rintro e w' ⟨q,he,_,_,hb⟩
   exact ⟨_,he,hb, .iface _ _⟩
 | [],ra=>have:=ra.1; simp at this
 | [_],ra=>have:=ra.1; simp at this
 | [_,_],ra=>have:=ra.1; simp at this
 | [_,_,_],ra=>have:=ra.1; simp at this
 | [_,_,_,_],ra=>have:=ra.1; simp at this
 | _::_::_::_::_::_::_,ra=>have:=ra.1; simp at this
theorem hasAny_ok:aq.Spec.Ok Tryz.prog 253 (ZC R):=by
 refine oG Tryz.func253 rfl rfl fun vs hp k r hk w c args wf ra => ?_
 unfold ZC at hk
 split at hk <;> try (first|cases hk)
 rename_i s cs
 obtain ⟨hc,hk⟩:=cd hk
 simp only[Bool.and_eq_true,decide_eq_true_eq]at hc
 obtain ⟨⟨⟨ha,hb⟩,hsl⟩,Pc⟩:=hc
 obtain ⟨a,b,rfl,r1,r2⟩:=repL2 ra
 obtain ⟨t,rfl,rfl,hl⟩:=r1.gL
 obtain ⟨u,rfl,rfl,hl2⟩:=r2.gL
 rw[size_data]at hsl Pc
 refine ⟨_,hk,lI (Any.strings_ContainsAny_laid Tryz.lay150 (by kernel_rfl) t u w hsl Pc (Yp ha) (Yp hb)) ?_⟩
 rintro e w' ⟨he,hb⟩
 exact ⟨_,he,hb, .bool _⟩
theorem idx_ok:aq.Spec.Ok Tryz.prog 159 (idx_S R):=by
 refine oG Tryz.func159 rfl rfl fun vs hp k r hk w c args wf ra => ?_
 unfold idx_S at hk
 split at hk <;> try (first|cases hk)
 rename_i s ch
 obtain ⟨a,b,rfl,r1,r2⟩:=repL2 ra
 obtain ⟨t,rfl,rfl,hl⟩:=r1.gL
 obtain ⟨rfl,hn⟩:=r2.fi
 have hb:IntKind.i64.has (Go.Lib.indexByte t.data.toList ch.toNat.toUInt8):=by
  have h1:=Go.Lib.indexByte_ge t.data.toList ch.toNat.toUInt8
  have h2:Go.Lib.indexByte t.data.toList ch.toNat.toUInt8≤t.data.toList.length:=by
   generalize t.data.toList=l
   induction l with
   | nil=>simp[Go.Lib.indexByte]
   | cons x l ih =>
    have:=Go.Lib.indexByte_ge l ch.toNat.toUInt8
    unfold Go.Lib.indexByte
    split
    ·simp; omega
    ·split
     ·simp; omega
     ·simp; omega
  rw[size_data]at h2
  unfold mx at hl
  generalize Go.Lib.indexByte t.data.toList ch.toNat.toUInt8=z at h1 h2
  simp[IntKind.has,IntKind.min,IntKind.max,IntKind.signed,IntKind.bits]; omega
 refine ⟨_,hk,lI (Any.strings_IndexByte Tryz.lay137 t ch w) ?_⟩
 rintro e w' ⟨he,rfl⟩
 exact ⟨_,he,Below.refl _ _, .int hb⟩
theorem lastI_ok:aq.Spec.Ok Tryz.prog 78 (lastI_S R):=by
 refine oG Tryz.func78 rfl rfl fun vs hp k r hk w c args wf ra => ?_
 unfold lastI_S at hk
 split at hk <;> try (first|cases hk)
 rename_i s ch
 obtain ⟨a,b,rfl,r1,r2⟩:=repL2 ra
 obtain ⟨t,rfl,rfl,hl⟩:=r1.gL
 obtain ⟨u,rfl,hu,hl2⟩:=r2.gL
 obtain ⟨hb,hk⟩:=cd hk
 rw[decide_eq_true_eq,size_data]at hb
 have h1:u.size=1:=by rw[←size_data,hu]; rfl
 have hu0:u[0]'(by omega)=ch:=by
  have e:u.data = #[ch]:=by
   have:=congrArg List.toArray hu
   simpa using this
  show u.data[0]'_=ch
  simp[e]
 refine ⟨_,hk,lI (Any.strings_LastIndex_one Tryz.lay148 t u h1 (by omega) w) ?_⟩
 rintro e w' ⟨he,rfl⟩
 rw[hu0]at he
 have ht:(⟨t.data.toList.toArray⟩:ByteArray)=t:=tz rfl
 have hh:IntKind.i64.has (E3 t.data.toList ch):=by
  unfold E3
  rw[ht]
  rcases Go.Lib.lastIndexByte_spec t (ch.toNat:Int)with ⟨e,_⟩|⟨i,hi,e,_⟩
  ·rw[e]; simp[IntKind.has,IntKind.min,IntKind.max,IntKind.signed,IntKind.bits]
  ·rw[e]; simp[IntKind.has,IntKind.min,IntKind.max,IntKind.signed,IntKind.bits]; omega
 have e2:E3 t.data.toList ch=Go.Lib.lastIndexByte t (ch.toNat:Int):=by unfold E3; rw[ht]
 refine ⟨_,he,Below.refl _ _,?_⟩
 rw[←e2]
 exact .int hh
theorem bccL:Lays.n240 Tryz.prog Tryz.MG := { Tryz.lay105 with }
theorem ZD:aq.Spec.Ok Tryz.prog 171 (WY R) :=
 bcc_ok Tryz.func171 rfl rfl (fun b w h0 hs hf=>Any.Builder_copyCheck_fresh bccL x72 b w h0 hs hf) (fun b w h0=>Any.Builder_copyCheck_used bccL x72 b w h0)
theorem bstrL:Lays.n169 Tryz.prog Tryz.Ti:=Tryz.lay169
theorem Js:Builder.Extra Tryz.prog Tryz.Ti := { sizeBuilder:=by kernel_rfl,liesBuilder:=by kernel_rfl,t5:=Tryz.underlying5,a5:=Tryz.isAgg5,z5:=Tryz.sizeOf5,v5:=Tryz.zeroValue5,infoByte:=by kernel_rfl,cellsByte:=by kernel_rfl,sizeByte:=by kernel_rfl,neB5:=by decide }
set_option maxHeartbeats 1000000 in
theorem string_some (b q cap:Nat) (p:Value) (cur:Array Value) (fz:Nat×Nat) (l:List UInt8) (w:World) (h0:l ≠ []) (hbk:w.heap[b]? = some (.cells #[p, .slice (some ⟨q,0,none⟩) l.length cap] pg.mE (0,0)))
  (hq:w.heap[q]? = some (.cells cur pg.u8 fz)) (hnc:l.length≤cap) (hcm:cap≤mx) (qE:l.length≤cur.size) (Dn:∀(j:Nat) (x:UInt8),l[j]? = some x→w.cell? ⟨q,j,none⟩=some (.int .u8 x.toNat)) :
  Calls Tryz.prog 84 #[.pointer (some ⟨b,0,none⟩)] w fun e w'=>e = .returned (.string ⟨l.toArray⟩)∧w'=w.drew.freeze ⟨q,0,none⟩ l.length:=by
 have WJ:l.length≠0:=by simpa using h0
 have L:=bstrL
 have X:=Js
 have c1:w.drew.cell? ⟨b,1,none⟩=some (.slice (some ⟨q,0,none⟩) l.length cap):=by
  have h1:w.drew.heap[b]? = some (.cells #[p, .slice (some ⟨q,0,none⟩) l.length cap] pg.mE (0,0)):=hbk
  rw[Lib.cell_of_heap h1]; rfl
 have hSD:(Builtin.unsafeSliceData_ #[42] 164 #[.slice (some ⟨q,0,none⟩) l.length cap]).run Tryz.prog w.drew = .ok (.pointer (some ⟨q,0,none⟩)) w.drew :=
  Lib.run_unsafeSliceData_row _ _ _ _ _ _ (by omega)
 have hUS:(Builtin.unsafeString_ #[164,3] 9 #[.pointer (some ⟨q,0,none⟩), .int .i64 l.length]).run Tryz.prog w.drew = .ok (.string ⟨l.toArray⟩) (w.drew.freeze ⟨q,0,none⟩ l.length):=by
  refine Lib.run_unsafeString_row w.drew 164 3 9 5 L.t127 X.cellsByte q cur.size (by have hq':w.drew.heap[q]? = some (.cells cur 5 fz):=hq; simp[World.shape?,hq']) l h0 qE (by unfold mx at hcm; omega) ?_
  intro j x hx
  have:=Dn j x hx
  rw[aq.rV,Nat.zero_add]
  exact this
 have mixed:=L.mixed
 have t72:=L.t72; have a72:=L.a72; have z72:=L.z72; have v72:=L.v72; have u72:=run_underlying L.t72
 have t70:=L.t70; have a70:=L.a70; have z70:=L.z70; have v70:=L.v70; have u70:=run_underlying L.t70
 have t37:=L.t37; have a37:=L.a37; have z37:=L.z37; have v37:=L.v37; have u37:=run_underlying L.t37
 have t127:=L.t127; have a127:=L.a127; have z127:=L.z127; have v127:=L.v127; have u127:=run_underlying L.t127
 have t3:=L.t3; have a3:=L.a3; have z3:=L.z3; have v3:=L.v3; have u3:=run_underlying L.t3
 have t9:=L.t9; have a9:=L.a9; have z9:=L.z9; have v9:=L.v9; have u9:=run_underlying L.t9
 have t5:=X.t5; have a5:=X.a5; have z5:=X.z5; have v5:=X.v5; have u5:=run_underlying X.t5
 go_enter Tryz.func84,Tryz.ntmps84
 go_wp2
 go_region_o
 all_goals (go_wp2; go_ret; exact ⟨rfl,rfl⟩)
set_option maxHeartbeats 2000000 in
theorem string_noroom (b q:Nat) (p:Value) (cur:Array Value) (fz:Nat×Nat) (w:World) (hbk:w.heap[b]? = some (.cells #[p, .slice (some ⟨q,0,none⟩) 0 0] pg.mE (0,0))) (hq:w.heap[q]? = some (.cells cur pg.u8 fz)) :
  Calls Tryz.prog 84 #[.pointer (some ⟨b,0,none⟩)] w fun e w'=>e = .returned (.string ⟨#[]⟩)∧Below w.heap.size w w':=by
 have L:=bstrL
 have X:=Js
 have hUS:∀(W:World) (q:Option Addr),(Builtin.unsafeString_ #[164,3] 9 #[.pointer q, .int .i64 0]).run Tryz.prog W = .ok (.string .empty) W:=fun W q=>Lib.run_unsafeString_none W _ _ _ q
 have je:b<w.heap.size:=by
  rcases Nat.lt_or_ge b w.heap.size with h'|h'
  ·exact h'
  ·simp[Array.getElem?_eq_none h']at hbk
 have c1:w.drew.cell? ⟨b,1,none⟩=some (.slice (some ⟨q,0,none⟩) 0 0):=by
  have:w.drew.heap[b]? = some (.cells #[p, .slice (some ⟨q,0,none⟩) 0 0] pg.mE (0,0)):=hbk
  rw[Lib.cell_of_heap this]; rfl
 have hSD:(Builtin.unsafeSliceData_ #[42] 164 #[.slice (some ⟨q,0,none⟩) 0 0]).run Tryz.prog w.drew = .ok (.pointer (some ⟨w.drew.heap.size,0,none⟩)) (w.drew.alloc (.view ⟨q,0,none⟩ 5)) :=
  Lib.run_unsafeSliceData_zero w.drew _ _ 5 L.t127 ⟨q,0,none⟩ 0 (5,cur.size) (by have hq':w.drew.heap[q]? = some (.cells cur 5 fz):=hq; simp[World.shape?,hq'])
 have c2:(w.drew.alloc (.view ⟨q,0,none⟩ 5)).cell? ⟨b,1,none⟩=some (.slice (some ⟨q,0,none⟩) 0 0):=by
  have:(w.drew.alloc (.view ⟨q,0,none⟩ 5)).heap[b]? = _:=(Lib.alloc_old w.drew _ b je).trans hbk
  rw[Lib.cell_of_heap this]; rfl
 have c3:(w.alloc (.view ⟨q,0,none⟩ 5)).drew.cell? ⟨b,1,none⟩=some (.slice (some ⟨q,0,none⟩) 0 0):=c2
 have c0:w.cell? ⟨b,1,none⟩=some (.slice (some ⟨q,0,none⟩) 0 0):=c1
 have mixed:=L.mixed
 have t72:=L.t72; have a72:=L.a72; have z72:=L.z72; have v72:=L.v72; have u72:=run_underlying L.t72
 have t70:=L.t70; have a70:=L.a70; have z70:=L.z70; have v70:=L.v70; have u70:=run_underlying L.t70
 have t37:=L.t37; have a37:=L.a37; have z37:=L.z37; have v37:=L.v37; have u37:=run_underlying L.t37
 have t127:=L.t127; have a127:=L.a127; have z127:=L.z127; have v127:=L.v127; have u127:=run_underlying L.t127
 have t3:=L.t3; have a3:=L.a3; have z3:=L.z3; have v3:=L.v3; have u3:=run_underlying L.t3
 have t9:=L.t9; have a9:=L.a9; have z9:=L.z9; have v9:=L.v9; have u9:=run_underlying L.t9
 have t5:=X.t5; have a5:=X.a5; have z5:=X.z5; have v5:=X.v5; have u5:=run_underlying X.t5
 go_enter Tryz.func84,Tryz.ntmps84
 go_wp2
 go_region_o
 all_goals (go_wp2; go_ret; exact ⟨rfl,(Below.drew (Below.refl _ w)).alloc (Nat.le_refl _) _⟩)
theorem string_does:ZA Tryz.prog 84 where
 nil:=fun b p w hbk=>Any.Builder_String_nil bstrL Js w.heap.size b p w hbk
 noroom:=string_noroom
 room:=fun b q cap p w hc hbk=>Any.Builder_String_room bstrL Js w.heap.size b q cap p w hc hbk
 some:=string_some
theorem Yq:aq.Spec.Ok Tryz.prog 84 (MH R):=bstr_ok Tryz.func84 rfl rfl string_does
end
end Go.Proofs.YtidfokedcnhahaaGreatDoor
/-
 Functions of the program as pure Lean functions, and the ties; printed by wip/tools/emit.py.
-/
set_option maxRecDepth 100000
namespace Go.Proofs.YtidfokedcnhahaaGreatDoor
open Go Go.aq
variable {R:Type}
/-! ### slices.Index[[]string,string] -/
abbrev gT (R:Type):Type:=(List ag)→ag→(Int→Option R)→Option R
abbrev nL:List cY := [.leaf (.sl .str), .leaf (.str)]
abbrev nM:List aY := []
def uo (fn:gT R):jU R nL nM:=fun x y k=>fn x.1 x.2.1 (fun q0=>k (.int .i64 q0) [])
def nN (fn:gT R):=aC nL nM (uo fn)
abbrev km (R:Type):Type:=Nat→(List ag)→ag→Int→Int→(Option R)→(Int→Option R)→Option R
def iC:Hint := { live := [0,1,7,8],own := [],rows := [],cells := [],drop := [],out := [4] }
abbrev eX:Type:=(List ag)×ag×Int×Int
def kg:eX→St:=fun d=>⟨.sl .str d.1 .no :: .str d.2.1::U 5 (.int .i64 d.2.2.1 :: .int .i64 d.2.2.2::U 10 ([])), []⟩
def kn (K:Ex→St→Option R):Option R:=K (.exit 0) ⟨U 19 ([]), []⟩
def ko (K:Ex→St→Option R) (q0:Int):Option R:=K (.ret) ⟨U 4 (.int .i64 q0::U 14 ([])), []⟩
abbrev gf:List cY := .leaf (.sl .str) :: .leaf (.str)::PU 5 (.leaf (.int .i64) :: .leaf (.int .i64)::PU 10 ([]))
abbrev gg:List aY := []
def rH (x:cY.cD gf) (y:aY.cD gg):Nat:=(List.length x.1+List.length x.2.1+Int.natAbs x.2.2.2.2.2.2.2.1+Int.natAbs ((t8 x).1)+64)
def Da (x:cY.cD gf) (y:aY.cD gg):eX:=(x.1,x.2.1,x.2.2.2.2.2.2.2.1,(t8 x).1)
def pR (L:km R):Ed R gf gg:=fun x y K=>L (rH x y) x.1 x.2.1 x.2.2.2.2.2.2.2.1 ((t8 x).1) (kn K) (ko K)
section
variable (aS:km R)
def eY (fc:(List ag)→ag→Int→Int→Option R) (x3:List ag) (x4:ag) (x5:Int) (x6:Int) (e0:Option R) (e1:Int→Option R):Option R :=
 bif (decide (x6<x5))then (cw (decide ((0:Int)≤x6)&&decide (x6<x3.length)) (bif (x4==(x3.getD x6.toNat (Ty.bR .str)))then (e1 x6)else (fc x3 x4 x5 (IntKind.i64.wrap (x6+1)))))else (e0)
def rI (K:Ex→St→Option R) (rc:eX→Option R) (d:eX):Option R:=eY (fun z0 z1 z2 z3=>rc (z0,z1,z2,z3)) d.1 d.2.1 d.2.2.1 d.2.2.2 (kn K) (ko K)
def hP:Nat→Option (Hint×dE R):=fun i=>match i with
 | 2=>some (iC,(dR gf gg (pR aS) lM))
 | _=>none
theorem Am (K:Ex→St→Option R) (rc:St→Option R) (d:eX):roundOf tt (dy []) (hP aS) 0 ((aN (bm Tryz.f127)).getD 0 .skip) iC (kg d) rc K=rI K (fun d=>rc (kg d)) d:=by kernel_rfl
def nO (x1:List ag) (x2:ag) (k0:Int→Option R):Option R :=
 aS (List.length x1+List.length x2+Int.natAbs (x1.length:Int)+Int.natAbs 0+64) x1 x2 (x1.length:Int) 0 (k0 (-1)) (fun y7=>k0 y7)
theorem FQ:dD (R:=R) tt [] (hP aS) false Tryz.f127 nL nM (uo (nO aS)):=fun x y k=>by kernel_rfl
end
def aS:km R
 | 0,_,_,_,_,_,_=>none
 | n+1,jf,jj,jr,ur,e0,e1=>eY (fun jf jj jr ur=>aS n jf jj jr ur e0 e1) jf jj jr ur e0 e1
def rJ (K:Ex→St→Option R) (n:Nat) (d:eX):Option R:=aS n d.1 d.2.1 d.2.2.1 d.2.2.2 (kn K) (ko K)
theorem BK (other:dE R) (ho:ki tt (dy []) (hP (R:=R) aS) 0 ((aN (bm Tryz.f127)).getD 0 .skip) iC other):ki tt (dy []) (hP (R:=R) aS) 0 ((aN (bm Tryz.f127)).getD 0 .skip) iC (dR gf gg (pR (aS)) other) :=
 ei (A:=rJ) ho (gd kg (rI) (rJ) (fun _ _=>by kernel_rfl) (Am aS) (fun _ _ _=>by kernel_rfl)) rH Da (fun _ _=>by kernel_rfl) (fun _ _ _=>by kernel_rfl)
def bu:gT R:=fun x1 x2 k0=>nO aS x1 x2 k0
theorem Db (R:Type):∀a∈aN (bm Tryz.f127),ji tt (dy []) (hP (R:=R) aS) 0 a:=by
 refine gR 1 (by kernel_rfl) fun i hi => ?_
 match i,hi with
 | 0,_=>exact dH (by kernel_rfl) (BK _ fm)
 | n+1,hi=>omega
theorem r8 (R:Type):jT Tryz.prog 127 (nN (bu (R:=R))):=bj TT mixed .n rfl rfl rfl rfl (Db R) (FQ aS)
/-! ### slices.Contains[[]string,string] -/
abbrev gh (R:Type):Type:=(List ag)→ag→(Bool→Option R)→Option R
abbrev lO:List cY := [.leaf (.sl .str), .leaf (.str)]
abbrev lP:List aY := []
def rK (fn:gh R):jU R lO lP:=fun x y k=>fn x.1 x.2.1 (fun q0=>k (.bool q0) [])
def lQ (fn:gh R):=aC lO lP (rK fn)
section
variable (bu:gT R)
def r9:List (lC R) := [(127,true,(nN bu av))]
def lR (x1:List ag) (x2:ag) (k0:Bool→Option R):Option R :=
 bu x1 x2 (fun y3=>k0 (decide (y3≥(0:Int))))
theorem Dc:dD (R:=R) tt (r9 bu) nK false Tryz.f85 lO lP (rK (lR bu)):=fun x y k=>by kernel_rfl
end
theorem BL:cr (R:=R) Tryz.prog (r9 (R:=R) bu) := .c (r8 R) <| .n
def aB:gh R:=fun x1 x2 k0=>lR bu x1 x2 k0
theorem pj (R:Type):jT Tryz.prog 85 (lQ (aB (R:=R))):=bj TT mixed (BL (R:=R)) rfl rfl rfl rfl bX (Dc bu)
/-! ### slices.Clone[[]string,string] -/
abbrev jC (R:Type):Type:=(List ag)→((List ag)→Option R)→Option R
abbrev nP:List cY := [.leaf (.sl .str)]
abbrev nQ:List aY := []
def uu (fn:jC R):jU R nP nQ:=fun x y k=>fn x.1 (fun q0=>k (.sl .str q0 .no) [])
def vS (fn:jC R):=aC nP nQ (uu fn)
section
def nR (x1:List ag) (k0:(List ag)→Option R):Option R :=
 bif x1.isEmpty then (anyT (k0 ([]:List ag)) (cw (decide ((0+x1.length)*16≤140737488355328)) (k0 (([]:List ag)++x1))))else (cw (decide ((0+x1.length)*16≤140737488355328)) (k0 (([]:List ag)++x1)))
theorem FR:dD (R:=R) tt [] nK false Tryz.f128 nP nQ (uu nR):=fun x y k=>by kernel_rfl
end
def bp:jC R:=fun x1 k0=>nR x1 k0
theorem Ef (R:Type):jT Tryz.prog 128 (vS (bp (R:=R))):=bj TT mixed .n rfl rfl rfl rfl bX (FR)
/-! ### slices.Clone[[]humpyard/api.Json,humpyard/api.Json] -/
abbrev jk (R:Type):Type:=(List Json)→(Option R)→(Nat→(List Json)→Option R)→Option R
abbrev mY:List cY := [.leaf (.sl .json)]
abbrev mZ:List aY := []
def ti (fn:jk R):jU R mY mZ:=fun x y k=>fn x.1 (k (.cx) []) (fun q0 q1=>k (.row 0 q0) [.row .json q1])
def uv (fn:jk R):=aC mY mZ (ti fn)
section
def na (x1:List Json) (k0:Option R) (k1:Nat→(List Json)→Option R):Option R :=
 bif x1.isEmpty then (anyT (k0) (cw (decide ((0+x1.length)*88≤140737488355328)) (k1 (0+x1.length) (([]:List Json)++x1))))else (cw (decide ((0+x1.length)*88≤140737488355328)) (k1 (0+x1.length) (([]:List Json)++x1)))
theorem E4:dD (R:=R) (tt.mode [.json]) [] nK true Tryz.f129 mY mZ (ti na):=fun x y k=>by kernel_rfl
end
def bg:jk R:=fun x1 k0 k1=>na x1 k0 k1
theorem Dd (R:Type):jT Tryz.prog 129 (uv (bg (R:=R))):=bj (TT.mode [.json]) mixed .n rfl rfl rfl rfl bX (E4)
/-! ### humpyard/field.fresh -/
abbrev eS (R:Type):Type:=Json→(Json→Option R)→Option R
abbrev ma:List cY := [.agg [.int .i64, .int .i64, .int .i64, .str, .sl .str, .sl .json]]
abbrev mb:List aY := []
def gU (fn:eS R):jU R ma mb:=fun x y k=>fn (⟨x.1.1,⟨x.1.2.1,x.1.2.2.1⟩,x.1.2.2.2.1,x.1.2.2.2.2.1,x.1.2.2.2.2.2.1⟩:Json) (fun q0=>k (.agg [.int .i64 q0.kind, .int .i64 q0.num.ao, .int .i64 q0.num.exp, .str q0.text, .sl .str q0.names .no, .sl .json q0.items .no]) [])
def Sm (fn:eS R):=aC ma mb (gU fn)
abbrev An (R:Type):Type:=Nat→Int→Int→Int→Int→Int→ag→(List ag)→Int→Int→Int→ag→(Int→Int→Int→ag→(List ag)→Int→Int→Int→ag→Option R)→Option R
abbrev Ao (R:Type):Type:=Nat→Nat→Int→Int→Int→Int→Int→ag→(List ag)→Nat→Int→Int→Int→ag→(List Json)→(Int→Int→Int→ag→(List ag)→Nat→Int→Int→Int→ag→(List Json)→Option R)→Option R
def vT:Hint := { live := [1,2,14,15,16],own := [],rows := [],cells := [],drop := [],out := [1,2] }
abbrev mG:Type:=Int×Int×Int×Int×Int×ag×(List ag)×Int×Int×Int×ag
def xZ:mG→St:=fun d=>⟨.undef :: .ptr 0 0 :: .ptr 1 0::U 11 (.cx :: .int .i64 d.1 :: .int .i64 d.2.1::U 12 ([])), [.cells [.int .i64 d.2.2.1, .int .i64 d.2.2.2.1, .int .i64 d.2.2.2.2.1, .str d.2.2.2.2.2.1, .sl .str d.2.2.2.2.2.2.1 .no, .cx], .cells [.int .i64 d.2.2.2.2.2.2.2.1, .int .i64 d.2.2.2.2.2.2.2.2.1, .int .i64 d.2.2.2.2.2.2.2.2.2.1, .str d.2.2.2.2.2.2.2.2.2.2, .cx, .cx]]⟩
def Ap (K:Ex→St→Option R) (q0:Int) (q1:Int) (q2:Int) (q3:ag) (q4:List ag) (q5:Int) (q6:Int) (q7:Int) (q8:ag):Option R:=K (.exit 0) ⟨.undef :: .ptr 0 0 :: .ptr 1 0::U 26 ([]), [.cells [.int .i64 q0, .int .i64 q1, .int .i64 q2, .str q3, .sl .str q4 .no, .cx], .cells [.int .i64 q5, .int .i64 q6, .int .i64 q7, .str q8, .cx, .cx]]⟩
abbrev pS:List cY := .leaf (.undef) :: .leaf (.ptr 0 0) :: .leaf (.ptr 1 0)::PU 11 (.leaf (.cx) :: .leaf (.int .i64) :: .leaf (.int .i64)::PU 12 ([]))
abbrev pT:List aY := [.cells [.int .i64, .int .i64, .int .i64, .str, .sl .str, .cx], .cells [.int .i64, .int .i64, .int .i64, .str, .cx, .cx]]
def Jt (x:cY.cD pS) (y:aY.cD pT):Nat:=(Int.natAbs ((t8 x).2.2.2.2.2.2.2.1)+Int.natAbs ((t8 (t8 x)).1)+Int.natAbs y.1.1+Int.natAbs y.1.2.1+Int.natAbs y.1.2.2.1+List.length y.1.2.2.2.1+List.length y.1.2.2.2.2.1+Int.natAbs y.2.1.1+Int.natAbs y.2.1.2.1+Int.natAbs y.2.1.2.2.1+List.length y.2.1.2.2.2.1+64)
def Uu (x:cY.cD pS) (y:aY.cD pT):mG:=((t8 x).2.2.2.2.2.2.2.1,(t8 (t8 x)).1,y.1.1,y.1.2.1,y.1.2.2.1,y.1.2.2.2.1,y.1.2.2.2.2.1,y.2.1.1,y.2.1.2.1,y.2.1.2.2.1,y.2.1.2.2.2.1)
def HN (L:An R):Ed R pS pT:=fun x y K=>L (Jt x y) ((t8 x).2.2.2.2.2.2.2.1) ((t8 (t8 x)).1) y.1.1 y.1.2.1 y.1.2.2.1 y.1.2.2.2.1 y.1.2.2.2.2.1 y.2.1.1 y.2.1.2.1 y.2.1.2.2.1 y.2.1.2.2.2.1 (Ap K)
def BM:Hint := { live := [1,2,14,15,16],own := [],rows := [],cells := [],drop := [],out := [1,2] }
abbrev mH:Type:=Nat×Int×Int×Int×Int×Int×ag×(List ag)×Nat×Int×Int×Int×ag×(List Json)
def ya:mH→St:=fun d=>⟨.undef :: .ptr 0 0 :: .ptr 1 0::U 11 (.row 2 d.1 :: .int .i64 d.2.1 :: .int .i64 d.2.2.1::U 12 ([])), [.cells [.int .i64 d.2.2.2.1, .int .i64 d.2.2.2.2.1, .int .i64 d.2.2.2.2.2.1, .str d.2.2.2.2.2.2.1, .sl .str d.2.2.2.2.2.2.2.1 .no, .row 2 d.2.2.2.2.2.2.2.2.1], .cells [.int .i64 d.2.2.2.2.2.2.2.2.2.1, .int .i64 d.2.2.2.2.2.2.2.2.2.2.1, .int .i64 d.2.2.2.2.2.2.2.2.2.2.2.1, .str d.2.2.2.2.2.2.2.2.2.2.2.2.1, .cx, .cx], .row .json d.2.2.2.2.2.2.2.2.2.2.2.2.2]⟩
def Aq (K:Ex→St→Option R) (q0:Int) (q1:Int) (q2:Int) (q3:ag) (q4:List ag) (q5:Nat) (q6:Int) (q7:Int) (q8:Int) (q9:ag) (q10:List Json):Option R:=K (.exit 0) ⟨.undef :: .ptr 0 0 :: .ptr 1 0::U 26 ([]), [.cells [.int .i64 q0, .int .i64 q1, .int .i64 q2, .str q3, .sl .str q4 .no, .row 2 q5], .cells [.int .i64 q6, .int .i64 q7, .int .i64 q8, .str q9, .cx, .cx], .row .json q10]⟩
abbrev pU:List cY := .leaf (.undef) :: .leaf (.ptr 0 0) :: .leaf (.ptr 1 0)::PU 11 (.leaf (.row 2) :: .leaf (.int .i64) :: .leaf (.int .i64)::PU 12 ([]))
abbrev pV:List aY := [.cells [.int .i64, .int .i64, .int .i64, .str, .sl .str, .row 2], .cells [.int .i64, .int .i64, .int .i64, .str, .cx, .cx], .row .json]
def Ju (x:cY.cD pU) (y:aY.cD pV):Nat:=(Int.natAbs ((t8 x).2.2.2.2.2.2.2.1)+Int.natAbs ((t8 (t8 x)).1)+Int.natAbs y.1.1+Int.natAbs y.1.2.1+Int.natAbs y.1.2.2.1+List.length y.1.2.2.2.1+List.length y.1.2.2.2.2.1+Int.natAbs y.2.1.1+Int.natAbs y.2.1.2.1+Int.natAbs y.2.1.2.2.1+List.length y.2.1.2.2.2.1+List.length y.2.2.1+64)
def Uv (x:cY.cD pU) (y:aY.cD pV):mH:=((t8 x).2.2.2.2.2.2.1,(t8 x).2.2.2.2.2.2.2.1,(t8 (t8 x)).1,y.1.1,y.1.2.1,y.1.2.2.1,y.1.2.2.2.1,y.1.2.2.2.2.1,y.1.2.2.2.2.2.1,y.2.1.1,y.2.1.2.1,y.2.1.2.2.1,y.2.1.2.2.2.1,y.2.2.1)
def HO (L:Ao R):Ed R pU pV:=fun x y K=>L (Ju x y) ((t8 x).2.2.2.2.2.2.1) ((t8 x).2.2.2.2.2.2.2.1) ((t8 (t8 x)).1) y.1.1 y.1.2.1 y.1.2.2.1 y.1.2.2.2.1 y.1.2.2.2.2.1 y.1.2.2.2.2.2.1 y.2.1.1 y.2.1.2.1 y.2.1.2.2.1 y.2.1.2.2.2.1 y.2.2.1 (Aq K)
section
variable (aG:eS R) (bg:jk R) (bp:jC R) (cN:An R) (cB:Ao R)
def mc:List (lC R) := [(86,true,(aC ma mb (gU aG) av)),(129,false,(uv bg av)),(128,true,(vS bp av))]
def Jv (fc:Int→Int→Int→Int→Int→ag→(List ag)→Int→Int→Int→ag→Option R) (x5:Int) (x6:Int) (x7:Int) (x8:Int) (x9:Int) (x10:ag) (x11:List ag) (x12:Int) (VZ:Int) (XA:Int) (oa:ag) (e0:Int→Int→Int→ag→(List ag)→Int→Int→Int→ag→Option R):Option R :=
 bif (decide (x6<x5))then (none)else (e0 x7 x8 x9 x10 x11 x12 VZ XA oa)
def Jw (K:Ex→St→Option R) (rc:mG→Option R) (d:mG):Option R:=Jv (fun z0 z1 z2 z3 z4 z5 z6 z7 z8 z9 XB=>rc (z0,z1,z2,z3,z4,z5,z6,z7,z8,z9,XB)) d.1 d.2.1 d.2.2.1 d.2.2.2.1 d.2.2.2.2.1 d.2.2.2.2.2.1 d.2.2.2.2.2.2.1 d.2.2.2.2.2.2.2.1 d.2.2.2.2.2.2.2.2.1 d.2.2.2.2.2.2.2.2.2.1 d.2.2.2.2.2.2.2.2.2.2 (Ap K)
def vU (fc:Nat→Int→Int→Int→Int→Int→ag→(List ag)→Nat→Int→Int→Int→ag→(List Json)→Option R) (x25:Nat) (x26:Int) (x27:Int) (x28:Int) (x29:Int) (x30:Int) (x31:ag) (x32:List ag) (x33:Nat) (x34:Int) (x35:Int) (x36:Int) (x37:ag) (x38:List Json) (e0:Int→Int→Int→ag→(List ag)→Nat→Int→Int→Int→ag→(List Json)→Option R):Option R :=
 bif (decide (x27<x26))then (cw (decide ((0:Int)≤x27)&&decide (x27<x25)) (cw (decide (x27.toNat<x38.length)) (aG (⟨(x38.getD x27.toNat (Ty.bR .json)).kind,⟨(x38.getD x27.toNat (Ty.bR .json)).num.ao,(x38.getD x27.toNat (Ty.bR .json)).num.exp⟩,(x38.getD x27.toNat (Ty.bR .json)).text,(x38.getD x27.toNat (Ty.bR .json)).names,(x38.getD x27.toNat (Ty.bR .json)).items⟩:Json) (fun ZE=>cw (decide ((0:Int)≤x27)&&decide (x27<x33)) (cw (decide (x27.toNat<x38.length)) (fc x25 x26 (IntKind.i64.wrap (x27+1)) x28 x29 x30 x31 x32 x33 x34 x35 x36 x37 (x38.set x27.toNat (⟨ZE.kind,⟨ZE.num.ao,ZE.num.exp⟩,ZE.text,ZE.names,ZE.items⟩:Json))))))))else (e0 x28 x29 x30 x31 x32 x33 x34 x35 x36 x37 x38)
def Jx (K:Ex→St→Option R) (rc:mH→Option R) (d:mH):Option R:=vU aG (fun z0 z1 z2 z3 z4 z5 z6 z7 z8 z9 XB yb z12 z13=>rc (z0,z1,z2,z3,z4,z5,z6,z7,z8,z9,XB,yb,z12,z13)) d.1 d.2.1 d.2.2.1 d.2.2.2.1 d.2.2.2.2.1 d.2.2.2.2.2.1 d.2.2.2.2.2.2.1 d.2.2.2.2.2.2.2.1 d.2.2.2.2.2.2.2.2.1 d.2.2.2.2.2.2.2.2.2.1 d.2.2.2.2.2.2.2.2.2.2.1 d.2.2.2.2.2.2.2.2.2.2.2.1 d.2.2.2.2.2.2.2.2.2.2.2.2.1 d.2.2.2.2.2.2.2.2.2.2.2.2.2 (Aq K)
def oc:Nat→Option (Hint×dE R):=fun i=>match i with
 | 4=>some (vT,(dR pS pT (HN cN) (dR pU pV (HO cB) lM)))
 | _=>none
theorem Px (K:Ex→St→Option R) (rc:St→Option R) (d:mG):roundOf tt (dy (mc aG bg bp)) (oc cN cB) 0 ((aN (bm Tryz.f86)).getD 0 .skip) vT (xZ d) rc K=Jw K (fun d=>rc (xZ d)) d:=by kernel_rfl
theorem Py (K:Ex→St→Option R) (rc:St→Option R) (d:mH):roundOf tt (dy (mc aG bg bp)) (oc cN cB) 0 ((aN (bm Tryz.f86)).getD 0 .skip) BM (ya d) rc K=Jx aG K (fun d=>rc (ya d)) d:=by kernel_rfl
def J8 (x1:Json) (k0:Json→Option R):Option R :=
 bp x1.names (fun y2=>bg x1.items (cN (Int.natAbs 0+Int.natAbs 0+Int.natAbs x1.kind+Int.natAbs x1.num.ao+Int.natAbs x1.num.exp+List.length x1.text+List.length y2+Int.natAbs 0+Int.natAbs 0+Int.natAbs 0+List.length ([]:ag)+64) 0 0 x1.kind x1.num.ao x1.num.exp x1.text y2 0 0 0 ([]:ag) (fun Ar K2 J9 Pz Li C6 Yr Sn y24=>k0 (⟨Ar,⟨K2,J9⟩,Pz,Li,([]:List Json)⟩:Json))) (fun y3 y4=>cB (Int.natAbs (y3:Int)+Int.natAbs 0+Int.natAbs x1.kind+Int.natAbs x1.num.ao+Int.natAbs x1.num.exp+List.length x1.text+List.length y2+Int.natAbs 0+Int.natAbs 0+Int.natAbs 0+List.length ([]:ag)+List.length y4+64) y3 (y3:Int) 0 x1.kind x1.num.ao x1.num.exp x1.text y2 y3 0 0 0 ([]:ag) y4 (fun y40 y41 y42 y43 y44 y45 y46 y47 y48 y49 y50=>k0 (⟨y40,⟨y41,y42⟩,y43,y44,y50⟩:Json))))
theorem ZF:dD (R:=R) tt (mc aG bg bp) (oc cN cB) false Tryz.f86 ma mb (gU (J8 bg bp cN cB)):=fun x y k=>by kernel_rfl
end
theorem XC (aG:eS R) (uw:aq.Spec.Ok Tryz.prog 86 (aC ma mb (gU aG) av)):cr (R:=R) Tryz.prog (mc (R:=R) aG bg bp) := .p uw <| .d (Dd R) rfl <| .c (Ef R) <| .n
def cN:An R
 | 0,_,_,_,_,_,_,_,_,_,_,_,_=>none
 | n+1,jf,jj,jr,ur,Eg,FT,RS,RT,RU,RV,yc,e0=>Jv (fun jf jj jr ur Eg FT RS RT RU RV yc=>cN n jf jj jr ur Eg FT RS RT RU RV yc e0) jf jj jr ur Eg FT RS RT RU RV yc e0
def Jy (K:Ex→St→Option R) (n:Nat) (d:mG):Option R:=cN n d.1 d.2.1 d.2.2.1 d.2.2.2.1 d.2.2.2.2.1 d.2.2.2.2.2.1 d.2.2.2.2.2.2.1 d.2.2.2.2.2.2.2.1 d.2.2.2.2.2.2.2.2.1 d.2.2.2.2.2.2.2.2.2.1 d.2.2.2.2.2.2.2.2.2.2 (Ap K)
def cB (aG:eS R):Ao R
 | 0,_,_,_,_,_,_,_,_,_,_,_,_,_,_,_=>none
 | n+1,jf,jj,jr,ur,Eg,FT,RS,RT,RU,RV,yc,Ka,Tj,Tk,e0=>vU aG (fun jf jj jr ur Eg FT RS RT RU RV yc Ka Tj Tk=>cB aG n jf jj jr ur Eg FT RS RT RU RV yc Ka Tj Tk e0) jf jj jr ur Eg FT RS RT RU RV yc Ka Tj Tk e0
def Jz (aG:eS R) (K:Ex→St→Option R) (n:Nat) (d:mH):Option R:=cB aG n d.1 d.2.1 d.2.2.1 d.2.2.2.1 d.2.2.2.2.1 d.2.2.2.2.2.1 d.2.2.2.2.2.2.1 d.2.2.2.2.2.2.2.1 d.2.2.2.2.2.2.2.2.1 d.2.2.2.2.2.2.2.2.2.1 d.2.2.2.2.2.2.2.2.2.2.1 d.2.2.2.2.2.2.2.2.2.2.2.1 d.2.2.2.2.2.2.2.2.2.2.2.2.1 d.2.2.2.2.2.2.2.2.2.2.2.2.2 (Aq K)
theorem Tl (aG:eS R) (other:dE R) (ho:ki tt (dy (mc (R:=R) aG bg bp)) (oc (R:=R) cN (cB aG)) 0 ((aN (bm Tryz.f86)).getD 0 .skip) vT other):ki tt (dy (mc (R:=R) aG bg bp)) (oc (R:=R) cN (cB aG)) 0 ((aN (bm Tryz.f86)).getD 0 .skip) vT (dR pS pT (HN (cN)) other) :=
 ei (A:=Jy) ho (gd xZ (Jw) (Jy) (fun _ _=>by kernel_rfl) (Px aG bg bp cN (cB aG)) (fun _ _ _=>by kernel_rfl)) Jt Uu (fun _ _=>by kernel_rfl) (fun _ _ _=>by kernel_rfl)
theorem Tm (aG:eS R) (other:dE R) (ho:ki tt (dy (mc (R:=R) aG bg bp)) (oc (R:=R) cN (cB aG)) 0 ((aN (bm Tryz.f86)).getD 0 .skip) BM other):ki tt (dy (mc (R:=R) aG bg bp)) (oc (R:=R) cN (cB aG)) 0 ((aN (bm Tryz.f86)).getD 0 .skip) BM (dR pU pV (HO (cB aG)) other) :=
 ei (A:=Jz aG) ho (gd ya (Jx aG) (Jz aG) (fun _ _=>by kernel_rfl) (Py aG bg bp cN (cB aG)) (fun _ _ _=>by kernel_rfl)) Ju Uv (fun _ _=>by kernel_rfl) (fun _ _ _=>by kernel_rfl)
def zo (aG:eS R):eS R:=fun x1 k0=>J8 bg bp cN (cB aG) x1 k0
theorem Uw (R:Type) (aG:eS R) (uw:aq.Spec.Ok Tryz.prog 86 (aC ma mb (gU aG) av)):∀a∈aN (bm Tryz.f86),ji tt (dy (mc (R:=R) aG bg bp)) (oc (R:=R) cN (cB aG)) 0 a:=by
 refine gR 1 (by kernel_rfl) fun i hi => ?_
 match i,hi with
 | 0,_=>exact dH (by kernel_rfl) (Tl aG _ (Tm aG _ fm))
 | n+1,hi=>omega
theorem Ux (R:Type) (aG:eS R) (uw:aq.Spec.Ok Tryz.prog 86 (aC ma mb (gU aG) av)):jT Tryz.prog 86 (Sm (zo aG)):=bj TT mixed (XC aG uw) rfl rfl rfl rfl (Uw R aG uw) (ZF aG bg bp cN (cB aG))
def iL:Nat→eS R
 | 0,_,_=>none
 | n+1,jf,k0'=>zo (iL n) jf k0'
theorem field_fresh_N_succ (n:Nat):iL (R:=R) (n+1)=zo (iL n):=by kernel_rfl
theorem V0 (R:Type):∀n,aq.Spec.Ok Tryz.prog 86 (aC ma mb (gU (iL (R:=R) n)) av) :=
 AX (run:=fun n=>gU (iL (R:=R) n)) (fun x y k=>by kernel_rfl) fun n hyp=>Ux R (iL n) hyp av (fA _)
def gl:eS R:=fun x1 k0=>iL (Json.depth x1+2) x1 k0
theorem V1 (R:Type):gU (R:=R) gl=fun x y k=>gU (iL (Json.depth (⟨x.1.1,⟨x.1.2.1,x.1.2.2.1⟩,x.1.2.2.2.1,x.1.2.2.2.2.1,x.1.2.2.2.2.2.1⟩:Json)+2)) x y k:=by kernel_rfl
theorem V2 (R:Type) (other:aq.Spec R) (ho:aq.Spec.Ok Tryz.prog 86 other):aq.Spec.Ok Tryz.prog 86 (aC ma mb (gU gl) other) :=
 HM (Lg (run:=fun n=>gU (iL (R:=R) n)) (fun x y=>(Json.depth (⟨x.1.1,⟨x.1.2.1,x.1.2.2.1⟩,x.1.2.2.2.1,x.1.2.2.2.2.1,x.1.2.2.2.2.2.1⟩:Json)+2)) ho (V0 R)) (V1 R)
end Go.Proofs.YtidfokedcnhahaaGreatDoor
/-
 Functions of the program as pure Lean functions, and the ties; printed by wip/tools/emit.py.
-/
set_option maxRecDepth 100000
namespace Go.Proofs.YtidfokedcnhahaaGreatDoor
open Go Go.aq
variable {R:Type}
/-! ### humpyard/topic.Name -/
abbrev topic_Name_ty (R:Type):Type:=ag→(Bool→Option R)→Option R
abbrev topic_Name_p:List cY := [.leaf (.str)]
abbrev topic_Name_q:List aY := []
def topic_Name_rr (fn:topic_Name_ty R):jU R topic_Name_p topic_Name_q:=fun x y k=>fn x.1 (fun q0=>k (.bool q0) [])
def topic_Name_s (fn:topic_Name_ty R):=aC topic_Name_p topic_Name_q (topic_Name_rr fn)
section
def topic_Name_E:List (lC R) := [(105,true,(Ru R))]
def topic_Name_X (x1:ag) (k0:Bool→Option R):Option R :=
 cw (wG ([97,98,99,100,101,102,103,104,105,106,107,108,109,110,111,112,113,114,115,116,117,118,119,120,121,122,65,66,67,68,69,70,71,72,73,74,75,76,77,78,79,80,81,82,83,84,85,86,87,88,89,90,48,49,50,51,52,53,54,55,56,57,95,46,58,45]:ag)&&decide (([97,98,99,100,101,102,103,104,105,106,107,108,109,110,111,112,113,114,115,116,117,118,119,120,121,122,65,66,67,68,69,70,71,72,73,74,75,76,77,78,79,80,81,82,83,84,85,86,87,88,89,90,48,49,50,51,52,53,54,55,56,57,95,46,58,45]:ag).length<4294967281)) (bif ((bx x1 ([97,98,99,100,101,102,103,104,105,106,107,108,109,110,111,112,113,114,115,116,117,118,119,120,121,122,65,66,67,68,69,70,71,72,73,74,75,76,77,78,79,80,81,82,83,84,85,86,87,88,89,90,48,49,50,51,52,53,54,55,56,57,95,46,58,45]:ag))==([]:ag))then (bif (!(x1==([]:ag)))then (k0 (decide ((x1.length:Int)≤(16:Int))))else (k0 false))else (k0 false))
theorem topic_Name_ok:dD (R:=R) tt (topic_Name_E (R:=R)) nK false Tryz.f61 topic_Name_p topic_Name_q (topic_Name_rr topic_Name_X):=fun x y k=>by kernel_rfl
end
theorem topic_Name_EOk:cr (R:=R) Tryz.prog (topic_Name_E (R:=R)) := .p (Ut) <| .n
def topic_Name:topic_Name_ty R:=fun x1 k0=>topic_Name_X x1 k0
theorem topic_Name_S_ok (R:Type):jT Tryz.prog 61 (topic_Name_s (topic_Name (R:=R))):=bj TT mixed (topic_Name_EOk (R:=R)) rfl rfl rfl rfl bX (topic_Name_ok)
/-! ### humpyard/decimal.within[int] -/
abbrev jm (R:Type):Type:=Int→Int→Int→(Bool→Option R)→Option R
abbrev wI:List cY := [.leaf (.int .i64), .leaf (.int .i64), .leaf (.int .i64)]
abbrev wJ:List aY := []
def Dp (fn:jm R):jU R wI wJ:=fun x y k=>fn x.1 x.2.1 x.2.2.1 (fun q0=>k (.bool q0) [])
def pW (fn:jm R):=aC wI wJ (Dp fn)
section
def mu (x1:Int) (x2:Int) (x3:Int) (k0:Bool→Option R):Option R :=
 bif (decide (x1≤x2))then (k0 (decide (x2≤x3)))else (k0 false)
theorem OK:dD (R:=R) tt [] nK false Tryz.f135 wI wJ (Dp mu):=fun x y k=>by kernel_rfl
end
def az:jm R:=fun x1 x2 x3 k0=>mu x1 x2 x3 k0
theorem sa (R:Type):jT Tryz.prog 135 (pW (az (R:=R))):=bj TT mixed .n rfl rfl rfl rfl bX (OK)
/-! ### humpyard/decimal.Make -/
abbrev ux (R:Type):Type:=Int→Int→(fT→Bool→Option R)→Option R
abbrev HP:List cY := [.leaf (.int .i64), .leaf (.int .i64)]
abbrev HQ:List aY := []
def Og (fn:ux R):jU R HP HQ:=fun x y k=>fn x.1 x.2.1 (fun q0 q1=>k (.tuple [.agg [.int .i64 q0.ao, .int .i64 q0.exp], .bool q1]) [])
def HR (fn:ux R):=aC HP HQ (Og fn)
abbrev yd (R:Type):Type:=Nat→Int→Int→fT→(Int→Int→fT→Option R)→Option R
def tC:Hint := { live := [0,1,4],own := [],rows := [],cells := [],drop := [],out := [0,1,4,5] }
abbrev lS:Type:=Int×Int×fT
def wK:lS→St:=fun d=>⟨.int .i64 d.1 :: .int .i64 d.2.1::U 2 (.ptr 0 0::U 25 ([])), [.cells [.int .i64 d.2.2.ao, .int .i64 d.2.2.exp]]⟩
def ye (K:Ex→St→Option R) (q0:Int) (q1:Int) (q2:fT):Option R:=K (.exit 0) ⟨.int .i64 q0 :: .int .i64 q1::U 2 (.ptr 0 0::U 25 ([])), [.cells [.int .i64 q2.ao, .int .i64 q2.exp]]⟩
abbrev oH:List cY := .leaf (.int .i64) :: .leaf (.int .i64)::PU 2 (.leaf (.ptr 0 0)::PU 25 ([]))
abbrev oI:List aY := [.cells [.int .i64, .int .i64]]
def HS (x:cY.cD oH) (y:aY.cD oI):Nat:=(Int.natAbs x.1+Int.natAbs x.2.1+fT.fu (⟨y.1.1,y.1.2.1⟩:fT)+64)
def Tn (x:cY.cD oH) (y:aY.cD oI):lS:=(x.1,x.2.1,(⟨y.1.1,y.1.2.1⟩:fT))
def Gj (L:yd R):Ed R oH oI:=fun x y K=>L (HS x y) x.1 x.2.1 (⟨y.1.1,y.1.2.1⟩:fT) (ye K)
section
variable (az:jm R) (bL:yd R)
def sb:List (lC R) := [(135,true,(pW az av))]
def fV (fc:Int→Int→fT→Option R) (x3:Int) (x4:Int) (x5:fT) (e0:Int→Int→fT→Option R):Option R :=
 bif ((Int.tmod x3 10)==0)then (fc (IntKind.i64.wrap (Int.tdiv x3 10)) (IntKind.i64.wrap (x4+1)) x5)else (e0 x3 x4 x5)
def HT (K:Ex→St→Option R) (rc:lS→Option R) (d:lS):Option R:=fV (fun z0 z1 z2=>rc (z0,z1,z2)) d.1 d.2.1 d.2.2 (ye K)
def wL:Nat→Option (Hint×dE R):=fun i=>match i with
 | 4=>some (tC,(dR oH oI (Gj bL) lM))
 | _=>none
theorem OL (K:Ex→St→Option R) (rc:St→Option R) (d:lS):roundOf tt (dy (sb az)) (wL bL) 0 ((aN (bm Tryz.f97)).getD 0 .skip) tC (wK d) rc K=HT K (fun d=>rc (wK d)) d:=by kernel_rfl
def kq (x1:Int) (x2:Int) (k0:fT→Bool→Option R):Option R :=
 bif (x1==0)then (k0 (⟨0,0⟩:fT) true)else (bL (Int.natAbs x1+Int.natAbs (min x2 1000000)+fT.fu (⟨0,0⟩:fT)+64) x1 (min x2 1000000) (⟨0,0⟩:fT) (fun y6 y7 y8=>az (-1000000000000000) y6 1000000000000000 (fun y9=>bif (!y9)then (k0 (⟨0,0⟩:fT) false)else (az (-9) y7 9 (fun od=>bif (!od)then (k0 (⟨0,0⟩:fT) false)else (k0 (⟨y6,y7⟩:fT) true))))))
theorem XD:dD (R:=R) tt (sb az) (wL bL) false Tryz.f97 HP HQ (Og (kq az bL)):=fun x y k=>by kernel_rfl
end
theorem V3:cr (R:=R) Tryz.prog (sb (R:=R) az) := .c (sa R) <| .n
def bL:yd R
 | 0,_,_,_,_=>none
 | n+1,jf,jj,jr,e0=>fV (fun jf jj jr=>bL n jf jj jr e0) jf jj jr e0
def HU (K:Ex→St→Option R) (n:Nat) (d:lS):Option R:=bL n d.1 d.2.1 d.2.2 (ye K)
theorem RW (other:dE R) (ho:ki tt (dy (sb (R:=R) az)) (wL (R:=R) bL) 0 ((aN (bm Tryz.f97)).getD 0 .skip) tC other):ki tt (dy (sb (R:=R) az)) (wL (R:=R) bL) 0 ((aN (bm Tryz.f97)).getD 0 .skip) tC (dR oH oI (Gj (bL)) other) :=
 ei (A:=HU) ho (gd wK (HT) (HU) (fun _ _=>by kernel_rfl) (OL az bL) (fun _ _ _=>by kernel_rfl)) HS Tn (fun _ _=>by kernel_rfl) (fun _ _ _=>by kernel_rfl)
def bk:ux R:=fun x1 x2 k0=>kq az bL x1 x2 k0
theorem To (R:Type):∀a∈aN (bm Tryz.f97),ji tt (dy (sb (R:=R) az)) (wL (R:=R) bL) 0 a:=by
 refine gR 1 (by kernel_rfl) fun i hi => ?_
 match i,hi with
 | 0,_=>exact dH (by kernel_rfl) (RW _ fm)
 | n+1,hi=>omega
theorem JA (R:Type):jT Tryz.prog 97 (HR (bk (R:=R))):=bj TT mixed (V3 (R:=R)) rfl rfl rfl rfl (To R) (XD az bL)
/-! ### humpyard/field.Int -/
abbrev kr (R:Type):Type:=Int→(Json→Option R)→Option R
abbrev PA:List cY := [.leaf (.int .i64)]
abbrev PB:List aY := []
def Uy (fn:kr R):jU R PA PB:=fun x y k=>fn x.1 (fun q0=>k (.agg [.int .i64 q0.kind, .int .i64 q0.num.ao, .int .i64 q0.num.exp, .str q0.text, .sl .str q0.names .no, .sl .json q0.items .no]) [])
def pX (fn:kr R):=aC PA PB (Uy fn)
section
variable (bk:ux R)
def WZ:List (lC R) := [(97,true,(HR bk av))]
def PC (x1:Int) (k0:Json→Option R):Option R :=
 bk x1 0 (fun y2 y3=>bif (!y3)then (k0 (⟨1,⟨0,0⟩,([]:ag),([]:List ag),([]:List Json)⟩:Json))else (k0 (⟨4,⟨y2.ao,y2.exp⟩,([]:ag),([]:List ag),([]:List Json)⟩:Json)))
theorem field_Int_ok:dD (R:=R) tt (WZ bk) nK false Tryz.f48 PA PB (Uy (PC bk)):=fun x y k=>by kernel_rfl
end
theorem field_Int_EOk:cr (R:=R) Tryz.prog (WZ (R:=R) bk) := .c (JA R) <| .n
def bf:kr R:=fun x1 k0=>PC bk x1 k0
theorem mv (R:Type):jT Tryz.prog 48 (pX (bf (R:=R))):=bj TT mixed (field_Int_EOk (R:=R)) rfl rfl rfl rfl bX (field_Int_ok bk)
/-! ### humpyard/field.Str -/
abbrev G0 (R:Type):Type:=ag→(Json→Option R)→Option R
abbrev PD:List cY := [.leaf (.str)]
abbrev PE:List aY := []
def Uz (fn:G0 R):jU R PD PE:=fun x y k=>fn x.1 (fun q0=>k (.agg [.int .i64 q0.kind, .int .i64 q0.num.ao, .int .i64 q0.num.exp, .str q0.text, .sl .str q0.names .no, .sl .json q0.items .no]) [])
def W0 (fn:G0 R):=aC PD PE (Uz fn)
section
def W1 (x1:ag) (k0:Json→Option R):Option R :=
 k0 (⟨5,⟨0,0⟩,x1,([]:List ag),([]:List Json)⟩:Json)
theorem field_Str_ok:dD (R:=R) tt [] nK false Tryz.f34 PD PE (Uz W1):=fun x y k=>by kernel_rfl
end
def uP:G0 R:=fun x1 k0=>W1 x1 k0
theorem ZG (R:Type):jT Tryz.prog 34 (W0 (uP (R:=R))):=bj TT mixed .n rfl rfl rfl rfl bX (field_Str_ok)
/-! ### humpyard/field.Yes -/
abbrev BN (R:Type):Type:=Bool→(Json→Option R)→Option R
abbrev PF:List cY := [.leaf (.bool)]
abbrev PG:List aY := []
def UA (fn:BN R):jU R PF PG:=fun x y k=>fn x.1 (fun q0=>k (.agg [.int .i64 q0.kind, .int .i64 q0.num.ao, .int .i64 q0.num.exp, .str q0.text, .sl .str q0.names .no, .sl .json q0.items .no]) [])
def PH (fn:BN R):=aC PF PG (UA fn)
section
def W2 (x1:Bool) (k0:Json→Option R):Option R :=
 bif x1 then (k0 (⟨3,⟨0,0⟩,([]:ag),([]:List ag),([]:List Json)⟩:Json))else (k0 (⟨2,⟨0,0⟩,([]:ag),([]:List ag),([]:List Json)⟩:Json))
theorem field_Yes_ok:dD (R:=R) tt [] nK false Tryz.f99 PF PG (UA W2):=fun x y k=>by kernel_rfl
end
def jn:BN R:=fun x1 k0=>W2 x1 k0
theorem PI (R:Type):jT Tryz.prog 99 (PH (jn (R:=R))):=bj TT mixed .n rfl rfl rfl rfl bX (field_Yes_ok)
end Go.Proofs.YtidfokedcnhahaaGreatDoor
/-
 Functions of the program as pure Lean functions, and the ties; printed by wip/tools/emit.py.
-/
set_option maxRecDepth 100000
namespace Go.Proofs.YtidfokedcnhahaaGreatDoor
open Go Go.aq
variable {R:Type}
/-! ### humpyard/field.Make -/
abbrev uQ (R:Type):Type:=(List ag)→(List Json)→(Json→Option R)→Option R
abbrev MI:List cY := [.leaf (.sl .str), .leaf (.sl .json)]
abbrev MJ:List aY := []
def So (fn:uQ R):jU R MI MJ:=fun x y k=>fn x.1 x.2.1 (fun q0=>k (.agg [.int .i64 q0.kind, .int .i64 q0.num.ao, .int .i64 q0.num.exp, .str q0.text, .sl .str q0.names .no, .sl .json q0.items .no]) [])
def MK (fn:uQ R):=aC MI MJ (So fn)
abbrev BO (R:Type):Type:=Nat→(List ag)→(List Json)→Int→Int→Int→Int→Int→ag→Int→Int→Int→ag→(List ag)→(List Json)→(Int→Int→Int→ag→Int→Int→Int→ag→(List ag)→(List Json)→Option R)→Option R
def xo:Hint := { live := [0,4,5,15,16,17],own := [],rows := [],cells := [(1,4, .str,false),(1,5, .json,false)],drop := [],out := [4,5] }
abbrev ou:Type:=(List ag)×(List Json)×Int×Int×Int×Int×Int×ag×Int×Int×Int×ag×(List ag)×(List Json)
def As:ou→St:=fun d=>⟨.sl .str d.1 .no::U 3 (.ptr 0 0 :: .ptr 1 0::U 9 (.sl .json d.2.1 .no :: .int .i64 d.2.2.1 :: .int .i64 d.2.2.2.1::U 30 ([]))), [.cells [.int .i64 d.2.2.2.2.1, .int .i64 d.2.2.2.2.2.1, .int .i64 d.2.2.2.2.2.2.1, .str d.2.2.2.2.2.2.2.1, .cx, .cx], .cells [.int .i64 d.2.2.2.2.2.2.2.2.1, .int .i64 d.2.2.2.2.2.2.2.2.2.1, .int .i64 d.2.2.2.2.2.2.2.2.2.2.1, .str d.2.2.2.2.2.2.2.2.2.2.2.1, .sl .str d.2.2.2.2.2.2.2.2.2.2.2.2.1 (.own 2), .sl .json d.2.2.2.2.2.2.2.2.2.2.2.2.2 (.own 3)], .tok, .tok]⟩
def BP (K:Ex→St→Option R) (q0:Int) (q1:Int) (q2:Int) (q3:ag) (q4:Int) (q5:Int) (q6:Int) (q7:ag) (q8:List ag) (q9:List Json):Option R:=K (.exit 0) ⟨U 4 (.ptr 0 0 :: .ptr 1 0::U 42 ([])), [.cells [.int .i64 q0, .int .i64 q1, .int .i64 q2, .str q3, .cx, .cx], .cells [.int .i64 q4, .int .i64 q5, .int .i64 q6, .str q7, .sl .str q8 (.own 2), .sl .json q9 (.own 3)], .tok, .tok]⟩
abbrev sc:List cY := .leaf (.sl .str)::PU 3 (.leaf (.ptr 0 0) :: .leaf (.ptr 1 0)::PU 9 (.leaf (.sl .json) :: .leaf (.int .i64) :: .leaf (.int .i64)::PU 30 ([])))
abbrev sd:List aY := [.cells [.int .i64, .int .i64, .int .i64, .str, .cx, .cx], .cells [.int .i64, .int .i64, .int .i64, .str, .Yn .str 2, .Yn .json 3], .tok, .tok]
def Lj (x:cY.cD sc) (y:aY.cD sd):Nat:=(List.length x.1+List.length ((t8 x).2.2.2.2.2.2.2.1)+Int.natAbs ((t8 (t8 x)).1)+Int.natAbs ((t8 (t8 x)).2.1)+Int.natAbs y.1.1+Int.natAbs y.1.2.1+Int.natAbs y.1.2.2.1+List.length y.1.2.2.2.1+Int.natAbs y.2.1.1+Int.natAbs y.2.1.2.1+Int.natAbs y.2.1.2.2.1+List.length y.2.1.2.2.2.1+List.length y.2.1.2.2.2.2.1+List.length y.2.1.2.2.2.2.2.1+64)
def V4 (x:cY.cD sc) (y:aY.cD sd):ou:=(x.1,(t8 x).2.2.2.2.2.2.2.1,(t8 (t8 x)).1,(t8 (t8 x)).2.1,y.1.1,y.1.2.1,y.1.2.2.1,y.1.2.2.2.1,y.2.1.1,y.2.1.2.1,y.2.1.2.2.1,y.2.1.2.2.2.1,y.2.1.2.2.2.2.1,y.2.1.2.2.2.2.2.1)
def JB (L:BO R):Ed R sc sd:=fun x y K=>L (Lj x y) x.1 ((t8 x).2.2.2.2.2.2.2.1) ((t8 (t8 x)).1) ((t8 (t8 x)).2.1) y.1.1 y.1.2.1 y.1.2.2.1 y.1.2.2.2.1 y.2.1.1 y.2.1.2.1 y.2.1.2.2.1 y.2.1.2.2.2.1 y.2.1.2.2.2.2.1 y.2.1.2.2.2.2.2.1 (BP K)
section
variable (gl:eS R) (aB:gh R) (dz:BO R)
def xp:List (lC R) := [(86,true,(Sm gl av)),(85,true,(lQ aB av))]
def xq (fc:(List ag)→(List Json)→Int→Int→Int→Int→Int→ag→Int→Int→Int→ag→(List ag)→(List Json)→Option R) (x3:List ag) (x4:List Json) (x5:Int) (x6:Int) (x7:Int) (x8:Int) (x9:Int) (x10:ag) (x11:Int) (x12:Int) (VZ:Int) (XA:ag) (oa:List ag) (uR:List Json) (e0:Int→Int→Int→ag→Int→Int→Int→ag→(List ag)→(List Json)→Option R):Option R :=
 bif (decide (x6<x5))then (cw (decide ((0:Int)≤x6)&&decide (x6<x4.length)) (cw (decide ((0:Int)≤x6)&&decide (x6<x3.length)) (aB oa (x3.getD x6.toNat (Ty.bR .str)) (fun K2=>bif (!K2)then (cw (decide ((0:Int)≤x6)&&decide (x6<x3.length)) (cw (decide ((oa.length+1)*16≤140737488355328)) (gl (⟨(x4.getD x6.toNat (Ty.bR .json)).kind,⟨(x4.getD x6.toNat (Ty.bR .json)).num.ao,(x4.getD x6.toNat (Ty.bR .json)).num.exp⟩,(x4.getD x6.toNat (Ty.bR .json)).text,(x4.getD x6.toNat (Ty.bR .json)).names,(x4.getD x6.toNat (Ty.bR .json)).items⟩:Json) (fun J9=>cw (decide ((uR.length+1)*88≤140737488355328)) (fc x3 x4 x5 (IntKind.i64.wrap (x6+1)) x7 x8 x9 x10 x11 x12 VZ XA (oa++([(x3.getD x6.toNat (Ty.bR .str))]:List ag)) (uR++([(⟨J9.kind,⟨J9.num.ao,J9.num.exp⟩,J9.text,J9.names,J9.items⟩:Json)]:List Json)))))))else (fc x3 x4 x5 (IntKind.i64.wrap (x6+1)) x7 x8 x9 x10 x11 x12 VZ XA oa uR)))))else (e0 x7 x8 x9 x10 x11 x12 VZ XA oa uR)
def Lk (K:Ex→St→Option R) (rc:ou→Option R) (d:ou):Option R:=xq gl aB (fun z0 z1 z2 z3 z4 z5 z6 z7 z8 z9 XB yb z12 z13=>rc (z0,z1,z2,z3,z4,z5,z6,z7,z8,z9,XB,yb,z12,z13)) d.1 d.2.1 d.2.2.1 d.2.2.2.1 d.2.2.2.2.1 d.2.2.2.2.2.1 d.2.2.2.2.2.2.1 d.2.2.2.2.2.2.2.1 d.2.2.2.2.2.2.2.2.1 d.2.2.2.2.2.2.2.2.2.1 d.2.2.2.2.2.2.2.2.2.2.1 d.2.2.2.2.2.2.2.2.2.2.2.1 d.2.2.2.2.2.2.2.2.2.2.2.2.1 d.2.2.2.2.2.2.2.2.2.2.2.2.2 (BP K)
def BQ:Nat→Option (Hint×dE R):=fun i=>match i with
 | 3=>some (xo,(dR sc sd (JB dz) lM))
 | _=>none
theorem RX (K:Ex→St→Option R) (rc:St→Option R) (d:ou):roundOf tt (dy (xp gl aB)) (BQ dz) 0 ((aN (bm Tryz.f36)).getD 0 .skip) xo (As d) rc K=Lk gl aB K (fun d=>rc (As d)) d:=by kernel_rfl
def ML (x1:List ag) (x2:List Json) (k0:Json→Option R):Option R :=
 cw (decide ((0:Int)≤(min (x2.length:Int) (x1.length:Int)))&&decide ((min (x2.length:Int) (x1.length:Int))≤x2.length)) (cw (decide ((0:Int)≤(min (x2.length:Int) (x1.length:Int)))) (dz (List.length x1+List.length ((x2.drop 0).take ((min (x2.length:Int) (x1.length:Int)).toNat - 0))+Int.natAbs (((x2.drop 0).take ((min (x2.length:Int) (x1.length:Int)).toNat - 0)).length:Int)+Int.natAbs 0+Int.natAbs 0+Int.natAbs 0+Int.natAbs 0+List.length ([]:ag)+Int.natAbs 7+Int.natAbs 0+Int.natAbs 0+List.length ([]:ag)+List.length ([]:List ag)+List.length ([]:List Json)+64) x1 ((x2.drop 0).take ((min (x2.length:Int) (x1.length:Int)).toNat - 0)) (((x2.drop 0).take ((min (x2.length:Int) (x1.length:Int)).toNat - 0)).length:Int) 0 0 0 0 ([]:ag) 7 0 0 ([]:ag) ([]:List ag) ([]:List Json) (fun Pz Li C6 Yr Sn y24 AY I1 FJ Pd=>k0 (⟨Sn,⟨y24,AY⟩,I1,FJ,Pd⟩:Json))))
theorem field_Make_ok:dD (R:=R) tt (xp gl aB) (BQ dz) false Tryz.f36 MI MJ (So (ML dz)):=fun x y k=>by kernel_rfl
end
theorem ZH:cr (R:=R) Tryz.prog (xp (R:=R) gl aB) := .p (V2 R _ (fA _)) <| .c (pj R) <| .n
def dz:BO R
 | 0,_,_,_,_,_,_,_,_,_,_,_,_,_,_,_=>none
 | n+1,jf,jj,jr,ur,Eg,FT,RS,RT,RU,RV,yc,Ka,Tj,Tk,e0=>xq gl aB (fun jf jj jr ur Eg FT RS RT RU RV yc Ka Tj Tk=>dz n jf jj jr ur Eg FT RS RT RU RV yc Ka Tj Tk e0) jf jj jr ur Eg FT RS RT RU RV yc Ka Tj Tk e0
def Ll (K:Ex→St→Option R) (n:Nat) (d:ou):Option R:=dz n d.1 d.2.1 d.2.2.1 d.2.2.2.1 d.2.2.2.2.1 d.2.2.2.2.2.1 d.2.2.2.2.2.2.1 d.2.2.2.2.2.2.2.1 d.2.2.2.2.2.2.2.2.1 d.2.2.2.2.2.2.2.2.2.1 d.2.2.2.2.2.2.2.2.2.2.1 d.2.2.2.2.2.2.2.2.2.2.2.1 d.2.2.2.2.2.2.2.2.2.2.2.2.1 d.2.2.2.2.2.2.2.2.2.2.2.2.2 (BP K)
theorem UB (other:dE R) (ho:ki tt (dy (xp (R:=R) gl aB)) (BQ (R:=R) dz) 0 ((aN (bm Tryz.f36)).getD 0 .skip) xo other):ki tt (dy (xp (R:=R) gl aB)) (BQ (R:=R) dz) 0 ((aN (bm Tryz.f36)).getD 0 .skip) xo (dR sc sd (JB (dz)) other) :=
 ei (A:=Ll) ho (gd As (Lk gl aB) (Ll) (fun _ _=>by kernel_rfl) (RX gl aB dz) (fun _ _ _=>by kernel_rfl)) Lj V4 (fun _ _=>by kernel_rfl) (fun _ _ _=>by kernel_rfl)
def dK:uQ R:=fun x1 x2 k0=>ML dz x1 x2 k0
theorem V5 (R:Type):∀a∈aN (bm Tryz.f36),ji tt (dy (xp (R:=R) gl aB)) (BQ (R:=R) dz) 0 a:=by
 refine gR 1 (by kernel_rfl) fun i hi => ?_
 match i,hi with
 | 0,_=>exact dH (by kernel_rfl) (UB _ fm)
 | n+1,hi=>omega
theorem Oh (R:Type):jT Tryz.prog 36 (MK (dK (R:=R))):=bj TT mixed (ZH (R:=R)) rfl rfl rfl rfl (V5 R) (field_Make_ok gl aB dz)
/-! ### humpyard/json.bare -/
abbrev G1 (R:Type):Type:=Json→(Json→Option R)→Option R
abbrev PJ:List cY := [.agg [.int .i64, .int .i64, .int .i64, .str, .sl .str, .sl .json]]
abbrev PK:List aY := []
def UC (fn:G1 R):jU R PJ PK:=fun x y k=>fn (⟨x.1.1,⟨x.1.2.1,x.1.2.2.1⟩,x.1.2.2.2.1,x.1.2.2.2.2.1,x.1.2.2.2.2.2.1⟩:Json) (fun q0=>k (.agg [.int .i64 q0.kind, .int .i64 q0.num.ao, .int .i64 q0.num.exp, .str q0.text, .sl .str q0.names .no, .sl .json q0.items .no]) [])
def W3 (fn:G1 R):=aC PJ PK (UC fn)
section
def JC (x1:Json) (k0:Json→Option R):Option R :=
 bif (x1.kind==4)then (k0 (⟨x1.kind,⟨0,0⟩,x1.text,x1.names,x1.items⟩:Json))else (bif (x1.kind==5)then (k0 (⟨x1.kind,⟨x1.num.ao,x1.num.exp⟩,([]:ag),x1.names,x1.items⟩:Json))else (bif (x1.kind==7)then (k0 (⟨x1.kind,⟨x1.num.ao,x1.num.exp⟩,x1.text,([]:List ag),([]:List Json)⟩:Json))else (bif (x1.kind==6)then (k0 (⟨x1.kind,⟨x1.num.ao,x1.num.exp⟩,x1.text,x1.names,([]:List Json)⟩:Json))else (k0 (⟨x1.kind,⟨x1.num.ao,x1.num.exp⟩,x1.text,x1.names,x1.items⟩:Json)))))
theorem json_bare_ok:dD (R:=R) tt [] nK false Tryz.f163 PJ PK (UC JC):=fun x y k=>by kernel_rfl
end
def se:G1 R:=fun x1 k0=>JC x1 k0
theorem ZI (R:Type):jT Tryz.prog 163 (W3 (se (R:=R))):=bj TT mixed .n rfl rfl rfl rfl bX (json_bare_ok)
/-! ### humpyard/decimal.Right -/
abbrev ov (R:Type):Type:=fT→(Bool→Option R)→Option R
abbrev FU:List cY := [.agg [.int .i64, .int .i64]]
abbrev FV:List aY := []
def Lm (fn:ov R):jU R FU FV:=fun x y k=>fn (⟨x.1.1,x.1.2.1⟩:fT) (fun q0=>k (.bool q0) [])
def Ab (fn:ov R):=aC FU FV (Lm fn)
section
variable (az:jm R)
def Oi:List (lC R) := [(135,true,(pW az av))]
def jD (x1:fT) (k0:Bool→Option R):Option R :=
 bif (x1.ao==0)then (k0 (x1.exp==0))else (bif ((Int.tmod x1.ao 10) != 0)then (az (-1000000000000000) x1.ao 1000000000000000 (fun y2=>bif y2 then (az (-9) x1.exp 9 (fun y3=>k0 y3))else (k0 false)))else (k0 false))
theorem V6:dD (R:=R) tt (Oi az) nK false Tryz.f164 FU FV (Lm (jD az)):=fun x y k=>by kernel_rfl
end
theorem UD:cr (R:=R) Tryz.prog (Oi (R:=R) az) := .c (sa R) <| .n
def bS:ov R:=fun x1 k0=>jD az x1 k0
theorem Au (R:Type):jT Tryz.prog 164 (Ab (bS (R:=R))):=bj TT mixed (UD (R:=R)) rfl rfl rfl rfl bX (V6 az)
/-! ### humpyard/quote.Whole -/
abbrev sf (R:Type):Type:=ag→(Bool→Option R)→Option R
abbrev Kb:List cY := [.leaf (.str)]
abbrev Kc:List aY := []
def PL (fn:sf R):jU R Kb Kc:=fun x y k=>fn x.1 (fun q0=>k (.bool q0) [])
def EJ (fn:sf R):=aC Kb Kc (PL fn)
section
def Sp:List (lC R) := [(200,true,(valid_S R))]
def Sq (x1:ag) (k0:Bool→Option R):Option R :=
 k0 (fE x1)
theorem ZJ:dD (R:=R) tt (Sp (R:=R)) nK false Tryz.f165 Kb Kc (PL Sq):=fun x y k=>by kernel_rfl
end
theorem XE:cr (R:=R) Tryz.prog (Sp (R:=R)) := .p (valid_ok) <| .n
def bU:sf R:=fun x1 k0=>Sq x1 k0
theorem Eh (R:Type):jT Tryz.prog 165 (EJ (bU (R:=R))):=bj TT mixed (XE (R:=R)) rfl rfl rfl rfl bX (ZJ)
end Go.Proofs.YtidfokedcnhahaaGreatDoor
/-
 Functions of the program as pure Lean functions, and the ties; printed by wip/tools/emit.py.
-/
set_option maxRecDepth 100000
namespace Go.Proofs.YtidfokedcnhahaaGreatDoor
open Go Go.aq
variable {R:Type}
/-! ### humpyard/json.unique -/
abbrev BR (R:Type):Type:=(List ag)→(Bool→Option R)→Option R
abbrev Kd:List cY := [.leaf (.sl .str)]
abbrev Ke:List aY := []
def PM (fn:BR R):jU R Kd Ke:=fun x y k=>fn x.1 (fun q0=>k (.bool q0) [])
def Sr (fn:BR R):=aC Kd Ke (PM fn)
abbrev Av (R:Type):Type:=Nat→(List ag)→Int→Int→(List (ag×Bool))→(Option R)→(Bool→Option R)→Option R
def vV:Hint := { live := [3,7,8,9],own := [],rows := [],cells := [],drop := [],out := [2] }
abbrev mI:Type:=(List ag)×Int×Int×(List (ag×Bool))
def yf:mI→St:=fun d=>⟨U 3 (.map 0::U 3 (.sl .str d.1 .no :: .int .i64 d.2.1 :: .int .i64 d.2.2.1::U 14 ([]))), [.Aj .str .bool d.2.2.2]⟩
def Aw (K:Ex→St→Option R):Option R:=K (.exit 0) ⟨U 24 ([]), []⟩
def Ax (K:Ex→St→Option R) (q0:Bool):Option R:=K (.ret) ⟨U 2 (.bool q0::U 21 ([])), []⟩
abbrev pY:List cY:=PU 3 (.leaf (.map 0)::PU 3 (.leaf (.sl .str) :: .leaf (.int .i64) :: .leaf (.int .i64)::PU 14 ([])))
abbrev pZ:List aY := [.Aj .str .bool]
def JD (x:cY.cD pY) (y:aY.cD pZ):Nat:=(List.length x.2.2.2.2.2.2.2.1+Int.natAbs ((t8 x).1)+Int.natAbs ((t8 x).2.1)+List.length y.1+64)
def UE (x:cY.cD pY) (y:aY.cD pZ):mI:=(x.2.2.2.2.2.2.2.1,(t8 x).1,(t8 x).2.1,y.1)
def HV (L:Av R):Ed R pY pZ:=fun x y K=>L (JD x y) x.2.2.2.2.2.2.2.1 ((t8 x).1) ((t8 x).2.1) y.1 (Aw K) (Ax K)
section
variable (bU:sf R) (cW:Av R)
def uS:List (lC R) := [(165,true,(EJ bU av))]
def vW (fc:(List ag)→Int→Int→(List (ag×Bool))→Option R) (x2:List ag) (x3:Int) (x4:Int) (x5:List (ag×Bool)) (e0:Option R) (e1:Bool→Option R):Option R :=
 bif (decide (x4<x3))then (cw (decide ((0:Int)≤x4)&&decide (x4<x2.length)) (bif (mn .str .bool (x2.getD x4.toNat (Ty.bR .str)) x5)then (e1 false)else (bU (x2.getD x4.toNat (Ty.bR .str)) (fun y6=>bif (!y6)then (e1 false)else (fc x2 x3 (IntKind.i64.wrap (x4+1)) (BC .str .bool (x2.getD x4.toNat (Ty.bR .str)) true x5))))))else (e0)
def JE (K:Ex→St→Option R) (rc:mI→Option R) (d:mI):Option R:=vW bU (fun z0 z1 z2 z3=>rc (z0,z1,z2,z3)) d.1 d.2.1 d.2.2.1 d.2.2.2 (Aw K) (Ax K)
def zp:Nat→Option (Hint×dE R):=fun i=>match i with
 | 3=>some (vV,(dR pY pZ (HV cW) lM))
 | _=>none
theorem PN (K:Ex→St→Option R) (rc:St→Option R) (d:mI):roundOf tt (dy (uS bU)) (zp cW) 0 ((aN (bm Tryz.f166)).getD 0 .skip) vV (yf d) rc K=JE bU K (fun d=>rc (yf d)) d:=by kernel_rfl
def Ss (x1:List ag) (k0:Bool→Option R):Option R :=
 cW (List.length x1+Int.natAbs (x1.length:Int)+Int.natAbs 0+List.length ([]:List (ag×Bool))+64) x1 (x1.length:Int) 0 ([]:List (ag×Bool)) (k0 true) (fun y8=>k0 y8)
theorem ZK:dD (R:=R) tt (uS bU) (zp cW) false Tryz.f166 Kd Ke (PM (Ss cW)):=fun x y k=>by kernel_rfl
end
theorem XF:cr (R:=R) Tryz.prog (uS (R:=R) bU) := .c (Eh R) <| .n
def cW:Av R
 | 0,_,_,_,_,_,_=>none
 | n+1,jf,jj,jr,ur,e0,e1=>vW bU (fun jf jj jr ur=>cW n jf jj jr ur e0 e1) jf jj jr ur e0 e1
def JF (K:Ex→St→Option R) (n:Nat) (d:mI):Option R:=cW n d.1 d.2.1 d.2.2.1 d.2.2.2 (Aw K) (Ax K)
theorem Tp (other:dE R) (ho:ki tt (dy (uS (R:=R) bU)) (zp (R:=R) cW) 0 ((aN (bm Tryz.f166)).getD 0 .skip) vV other):ki tt (dy (uS (R:=R) bU)) (zp (R:=R) cW) 0 ((aN (bm Tryz.f166)).getD 0 .skip) vV (dR pY pZ (HV (cW)) other) :=
 ei (A:=JF) ho (gd yf (JE bU) (JF) (fun _ _=>by kernel_rfl) (PN bU cW) (fun _ _ _=>by kernel_rfl)) JD UE (fun _ _=>by kernel_rfl) (fun _ _ _=>by kernel_rfl)
def lk:BR R:=fun x1 k0=>Ss cW x1 k0
theorem UF (R:Type):∀a∈aN (bm Tryz.f166),ji tt (dy (uS (R:=R) bU)) (zp (R:=R) cW) 0 a:=by
 refine gR 1 (by kernel_rfl) fun i hi => ?_
 match i,hi with
 | 0,_=>exact dH (by kernel_rfl) (Tp _ fm)
 | n+1,hi=>omega
theorem V7 (R:Type):jT Tryz.prog 166 (Sr (lk (R:=R))):=bj TT mixed (XF (R:=R)) rfl rfl rfl rfl (UF R) (ZK bU cW)
/-! ### humpyard/json.right -/
abbrev cR (R:Type):Type:=Json→Int→(Bool→Option R)→Option R
abbrev gN:List cY := [.agg [.int .i64, .int .i64, .int .i64, .str, .sl .str, .sl .json], .leaf (.int .i64)]
abbrev gO:List aY := []
def eM (fn:cR R):jU R gN gO:=fun x y k=>fn (⟨x.1.1,⟨x.1.2.1,x.1.2.2.1⟩,x.1.2.2.2.1,x.1.2.2.2.2.1,x.1.2.2.2.2.2.1⟩:Json) x.2.1 (fun q0=>k (.bool q0) [])
def UG (fn:cR R):=aC gN gO (eM fn)
/-! ### humpyard/json.right$1 -/
abbrev p7 (R:Type):Type:=Json→Int→(Bool→Int→Option R)→Option R
abbrev yg:List cY := [.agg [.int .i64, .int .i64, .int .i64, .str, .sl .str, .sl .json], .leaf (.ptr 0 0)]
abbrev yh:List aY := [.cells [.int .i64]]
def E5 (fn:p7 R):jU R yg yh:=fun x y k=>fn (⟨x.1.1,⟨x.1.2.1,x.1.2.2.1⟩,x.1.2.2.2.1,x.1.2.2.2.2.1,x.1.2.2.2.2.2.1⟩:Json) y.1.1 (fun q0 q1=>k (.bool q0) [.cells [.int .i64 q1]])
def Gk (fn:p7 R):=aC yg yh (E5 fn)
section
variable (aw:cR R)
def Gl:List (lC R) := [(121,true,(aC gN gO (eM aw) av))]
def rW (x1:Json) (x2:Int) (k0:Bool→Int→Option R):Option R :=
 aw (⟨x1.kind,⟨x1.num.ao,x1.num.exp⟩,x1.text,x1.names,x1.items⟩:Json) (IntKind.i64.wrap (x2+1)) (fun y3=>k0 (!y3) x2)
theorem PO:dD (R:=R) tt (Gl aw) nK false Tryz.f168 yg yh (E5 (rW aw)):=fun x y k=>by kernel_rfl
end
theorem OM (aw:cR R) (eE:aq.Spec.Ok Tryz.prog 121 (aC gN gO (eM aw) av)):cr (R:=R) Tryz.prog (Gl (R:=R) aw) := .p eE <| .n
def cS (aw:cR R):p7 R:=fun x1 x2 k0=>rW aw x1 x2 k0
theorem MN (R:Type) (aw:cR R) (eE:aq.Spec.Ok Tryz.prog 121 (aC gN gO (eM aw) av)):jT Tryz.prog 168 (Gk (cS aw)):=bj TT mixed (OM aw eE) rfl rfl rfl rfl bX (PO aw)
/-! ### slices.IndexFunc[[]humpyard/api.Json,humpyard/api.Json] -/
abbrev gY (R:Type):Type:=(List Json)→Int→(Int→Int→Option R)→Option R
abbrev ku:List cY := [.leaf (.sl .json), .func 168 [] [.ptr 0 0]]
abbrev kv:List aY := [.cells [.int .i64]]
def pk (fn:gY R):jU R ku kv:=fun x y k=>fn x.1 y.1.1 (fun q0 q1=>k (.int .i64 q0) [.cells [.int .i64 q1]])
def p8 (fn:gY R):=aC ku kv (pk fn)
abbrev iP (R:Type):Type:=Nat→(List Json)→Int→Int→Int→(Int→Option R)→(Int→Int→Option R)→Option R
def gm:Hint := { live := [0,1,7,8],own := [],rows := [],cells := [],drop := [],out := [4] }
abbrev dN:Type:=(List Json)×Int×Int×Int
def iH:dN→St:=fun d=>⟨.sl .json d.1 .no :: .func 168 [] [.ptr 0 0]::U 5 (.int .i64 d.2.1 :: .int .i64 d.2.2.1::U 10 ([])), [.cells [.int .i64 d.2.2.2]]⟩
def iQ (K:Ex→St→Option R) (q0:Int):Option R:=K (.exit 0) ⟨U 19 ([]), [.cells [.int .i64 q0]]⟩
def iR (K:Ex→St→Option R) (q0:Int) (q1:Int):Option R:=K (.ret) ⟨U 4 (.int .i64 q0::U 14 ([])), [.cells [.int .i64 q1]]⟩
abbrev eT:List cY := .leaf (.sl .json) :: .func 168 [] [.ptr 0 0]::PU 5 (.leaf (.int .i64) :: .leaf (.int .i64)::PU 10 ([]))
abbrev eU:List aY := [.cells [.int .i64]]
def nr (x:cY.cD eT) (y:aY.cD eU):Nat:=(List.length x.1+Int.natAbs x.2.2.2.2.2.2.2.1+Int.natAbs ((t8 x).1)+Int.natAbs y.1.1+64)
def yi (x:cY.cD eT) (y:aY.cD eU):dN:=(x.1,x.2.2.2.2.2.2.2.1,(t8 x).1,y.1.1)
def mJ (L:iP R):Ed R eT eU:=fun x y K=>L (nr x y) x.1 x.2.2.2.2.2.2.2.1 ((t8 x).1) y.1.1 (iQ K) (iR K)
section
variable (cS:p7 R) (aP:iP R)
def eK:List (lC R) := [(168,false,(Gk cS av))]
def gn (fc:(List Json)→Int→Int→Int→Option R) (x3:List Json) (x4:Int) (x5:Int) (x6:Int) (e0:Int→Option R) (e1:Int→Int→Option R):Option R :=
 bif (decide (x5<x4))then (cw (decide ((0:Int)≤x5)&&decide (x5<x3.length)) (cS (⟨(x3.getD x5.toNat (Ty.bR .json)).kind,⟨(x3.getD x5.toNat (Ty.bR .json)).num.ao,(x3.getD x5.toNat (Ty.bR .json)).num.exp⟩,(x3.getD x5.toNat (Ty.bR .json)).text,(x3.getD x5.toNat (Ty.bR .json)).names,(x3.getD x5.toNat (Ty.bR .json)).items⟩:Json) x6 (fun y7 y8=>bif y7 then (e1 x5 y8)else (fc x3 x4 (IntKind.i64.wrap (x5+1)) y8))))else (e0 x6)
def nt (K:Ex→St→Option R) (rc:dN→Option R) (d:dN):Option R:=gn cS (fun z0 z1 z2 z3=>rc (z0,z1,z2,z3)) d.1 d.2.1 d.2.2.1 d.2.2.2 (iQ K) (iR K)
def fF:Nat→Option (Hint×dE R):=fun i=>match i with
 | 2=>some (gm,(dR eT eU (mJ aP) lM))
 | _=>none
theorem wo (K:Ex→St→Option R) (rc:St→Option R) (d:dN):roundOf tt (dy (eK cS)) (fF aP) 1 ((aN (bm Tryz.f201)).getD 0 .skip) gm (iH d) rc K=nt cS K (fun d=>rc (iH d)) d:=by kernel_rfl
def p9 (x1:List Json) (x2:Int) (k0:Int→Int→Option R):Option R :=
 aP (List.length x1+Int.natAbs (x1.length:Int)+Int.natAbs 0+Int.natAbs x2+64) x1 (x1.length:Int) 0 x2 (fun y9=>k0 (-1) y9) (fun od ug=>k0 od ug)
theorem Bq:dD (R:=R) tt (eK cS) (fF aP) false Tryz.f201 ku kv (pk (p9 aP)):=fun x y k=>by kernel_rfl
end
theorem Ay (aw:cR R) (eE:aq.Spec.Ok Tryz.prog 121 (aC gN gO (eM aw) av)):cr (R:=R) Tryz.prog (eK (R:=R) (cS aw)) := .d (MN R aw eE) rfl <| .n
def aP (aw:cR R):iP R
 | 0,_,_,_,_,_,_=>none
 | n+1,jf,jj,jr,ur,e0,e1=>gn (cS aw) (fun jf jj jr ur=>aP aw n jf jj jr ur e0 e1) jf jj jr ur e0 e1
def nu (aw:cR R) (K:Ex→St→Option R) (n:Nat) (d:dN):Option R:=aP aw n d.1 d.2.1 d.2.2.1 d.2.2.2 (iQ K) (iR K)
theorem xr (aw:cR R) (other:dE R) (ho:ki tt (dy (eK (R:=R) (cS aw))) (fF (R:=R) (aP aw)) 1 ((aN (bm Tryz.f201)).getD 0 .skip) gm other):ki tt (dy (eK (R:=R) (cS aw))) (fF (R:=R) (aP aw)) 1 ((aN (bm Tryz.f201)).getD 0 .skip) gm (dR eT eU (mJ (aP aw)) other) :=
 ei (A:=nu aw) ho (gd iH (nt (cS aw)) (nu aw) (fun _ _=>by kernel_rfl) (wo (cS aw) (aP aw)) (fun _ _ _=>by kernel_rfl)) nr yi (fun _ _=>by kernel_rfl) (fun _ _ _=>by kernel_rfl)
def cT (aw:cR R):gY R:=fun x1 x2 k0=>p9 (aP aw) x1 x2 k0
theorem yj (R:Type) (aw:cR R) (eE:aq.Spec.Ok Tryz.prog 121 (aC gN gO (eM aw) av)):∀a∈aN (bm Tryz.f201),ji tt (dy (eK (R:=R) (cS aw))) (fF (R:=R) (aP aw)) 1 a:=by
 refine gR 1 (by kernel_rfl) fun i hi => ?_
 match i,hi with
 | 0,_=>exact dH (by kernel_rfl) (xr aw _ fm)
 | n+1,hi=>omega
theorem zq (R:Type) (aw:cR R) (eE:aq.Spec.Ok Tryz.prog 121 (aC gN gO (eM aw) av)):jT Tryz.prog 201 (p8 (cT aw)):=bj TT mixed (Ay aw eE) rfl rfl rfl rfl (yj R aw eE) (Bq (cS aw) (aP aw))
/-! ### slices.ContainsFunc[[]humpyard/api.Json,humpyard/api.Json] -/
abbrev gp (R:Type):Type:=(List Json)→Int→(Bool→Int→Option R)→Option R
abbrev js:List cY := [.leaf (.sl .json), .func 168 [] [.ptr 0 0]]
abbrev jt:List aY := [.cells [.int .i64]]
def nv (fn:gp R):jU R js jt:=fun x y k=>fn x.1 y.1.1 (fun q0 q1=>k (.bool q0) [.cells [.int .i64 q1]])
def oe (fn:gp R):=aC js jt (nv fn)
section
variable (cT:gY R)
def og:List (lC R) := [(201,false,(p8 cT av))]
def oh (x1:List Json) (x2:Int) (k0:Bool→Int→Option R):Option R :=
 cT x1 x2 (fun y3 y4=>k0 (decide (y3≥(0:Int))) y4)
theorem yk:dD (R:=R) tt (og cT) nK false Tryz.f167 js jt (nv (oh cT)):=fun x y k=>by kernel_rfl
end
theorem xu (aw:cR R) (eE:aq.Spec.Ok Tryz.prog 121 (aC gN gO (eM aw) av)):cr (R:=R) Tryz.prog (og (R:=R) (cT aw)) := .d (zq R aw eE) rfl <| .n
def aO (aw:cR R):gp R:=fun x1 x2 k0=>oh (cT aw) x1 x2 k0
theorem wM (R:Type) (aw:cR R) (eE:aq.Spec.Ok Tryz.prog 121 (aC gN gO (eM aw) av)):jT Tryz.prog 167 (oe (aO aw)):=bj TT mixed (xu aw eE) rfl rfl rfl rfl bX (yk (cT aw))
section
variable (bU:sf R) (bS:ov R) (se:G1 R) (lk:BR R) (aO:gp R)
def UH:List (lC R) := [(165,true,(EJ bU av)),(164,true,(Ab bS av)),(163,true,(W3 se av)),(166,true,(Sr lk av)),(167,false,(oe aO av))]
def G2 (x1:Json) (x2:Int) (k0:Bool→Option R):Option R :=
 se (⟨x1.kind,⟨x1.num.ao,x1.num.exp⟩,x1.text,x1.names,x1.items⟩:Json) (fun y3=>bif (decide (x2>(16:Int)))then (k0 false)else (bif (decide (x1.kind<(1:Int)))then (k0 false)else (bif (decide (x1.kind>(7:Int)))then (k0 false)else (bif (!(y3.num.ao==0&&(y3.num.exp==0&&true)))then (k0 false)else (bif (!(y3.text==([]:ag)))then (k0 false)else (bif (decide ((IntKind.i64.wrap ((y3.names.length:Int)+(y3.items.length:Int)))>(0:Int)))then (k0 false)else (bif (x1.kind==4)then (bS x1.num (fun y5=>k0 y5))else (bif (x1.kind==5)then (bU x1.text (fun y6=>k0 y6))else (bif (x1.kind==7)then (bif ((x1.names.length:Int) != (x1.items.length:Int))then (k0 false)else (lk x1.names (fun y7=>bif (!y7)then (k0 false)else (aO x1.items x2 (fun ug zj=>k0 (!ug))))))else (aO x1.items x2 (fun FW Gm=>k0 (!FW))))))))))))
theorem json_right_ok:dD (R:=R) tt (UH bU bS se lk aO) nK false Tryz.f121 gN gO (eM (G2 bU bS se lk aO)):=fun x y k=>by kernel_rfl
end
theorem ZL (aw:cR R) (eE:aq.Spec.Ok Tryz.prog 121 (aC gN gO (eM aw) av)):cr (R:=R) Tryz.prog (UH (R:=R) bU bS se lk (aO aw)) := .c (Eh R) <| .c (Au R) <| .c (ZI R) <| .c (V7 R) <| .d (wM R aw eE) rfl <| .n
def MO (aw:cR R):cR R:=fun x1 x2 k0=>G2 bU bS se lk (aO aw) x1 x2 k0
theorem V8 (R:Type) (aw:cR R) (eE:aq.Spec.Ok Tryz.prog 121 (aC gN gO (eM aw) av)):jT Tryz.prog 121 (UG (MO aw)):=bj TT mixed (ZL aw eE) rfl rfl rfl rfl bX (json_right_ok bU bS se lk (aO aw))
def fa:Nat→cR R
 | 0,_,_,_=>none
 | n+1,jf,jj,k0'=>MO (fa n) jf jj k0'
theorem json_right_N_succ (n:Nat):fa (R:=R) (n+1)=MO (fa n):=by kernel_rfl
theorem XG (R:Type):∀n,aq.Spec.Ok Tryz.prog 121 (aC gN gO (eM (fa (R:=R) n)) av) :=
 AX (run:=fun n=>eM (fa (R:=R) n)) (fun x y k=>by kernel_rfl) fun n hyp=>V8 R (fa n) hyp av (fA _)
def oJ:cR R:=fun x1 x2 k0=>fa (Json.depth x1+2) x1 x2 k0
theorem XH (R:Type):eM (R:=R) oJ=fun x y k=>eM (fa (Json.depth (⟨x.1.1,⟨x.1.2.1,x.1.2.2.1⟩,x.1.2.2.2.1,x.1.2.2.2.2.1,x.1.2.2.2.2.2.1⟩:Json)+2)) x y k:=by kernel_rfl
theorem XI (R:Type) (other:aq.Spec R) (ho:aq.Spec.Ok Tryz.prog 121 other):aq.Spec.Ok Tryz.prog 121 (aC gN gO (eM oJ) other) :=
 HM (Lg (run:=fun n=>eM (fa (R:=R) n)) (fun x y=>(Json.depth (⟨x.1.1,⟨x.1.2.1,x.1.2.2.1⟩,x.1.2.2.2.1,x.1.2.2.2.2.1,x.1.2.2.2.2.2.1⟩:Json)+2)) ho (XG R)) (XH R)
/-! ### humpyard/json.Right -/
abbrev EK (R:Type):Type:=Json→(Bool→Option R)→Option R
abbrev MP:List cY := [.agg [.int .i64, .int .i64, .int .i64, .str, .sl .str, .sl .json]]
abbrev MQ:List aY := []
def Su (fn:EK R):jU R MP MQ:=fun x y k=>fn (⟨x.1.1,⟨x.1.2.1,x.1.2.2.1⟩,x.1.2.2.2.1,x.1.2.2.2.2.1,x.1.2.2.2.2.2.1⟩:Json) (fun q0=>k (.bool q0) [])
def UI (fn:EK R):=aC MP MQ (Su fn)
section
variable (oJ:cR R)
def UJ:List (lC R) := [(121,true,(UG oJ av))]
def G3 (x1:Json) (k0:Bool→Option R):Option R :=
 oJ (⟨x1.kind,⟨x1.num.ao,x1.num.exp⟩,x1.text,x1.names,x1.items⟩:Json) 1 (fun y2=>k0 y2)
theorem json_Right_ok:dD (R:=R) tt (UJ oJ) nK false Tryz.f82 MP MQ (Su (G3 oJ)):=fun x y k=>by kernel_rfl
end
theorem ZM:cr (R:=R) Tryz.prog (UJ (R:=R) oJ) := .p (XI R _ (fA _)) <| .n
def nc:EK R:=fun x1 k0=>G3 oJ x1 k0
theorem XJ (R:Type):jT Tryz.prog 82 (UI (nc (R:=R))):=bj TT mixed (ZM (R:=R)) rfl rfl rfl rfl bX (json_Right_ok oJ)
/-! ### (*strings.Builder).WriteString -/
abbrev dT (R:Type):Type:=ag→(Int→(List Int)→Option R)→Option R
abbrev jJ:List cY := [.leaf (.ptr 0 0), .leaf (.str)]
abbrev jK:List aY := [.mE (.cx)]
def oi (fn:dT R):jU R jJ jK:=fun x y k=>fn x.2.1 (fun q0 q1=>k (.tuple [.int .i64 q0, .dJ]) [.mE (.sl (.int .u8) q1 (.own 1)), .tok])
def gP (fn:dT R):=aC jJ jK (oi fn)
section
def oK:List (lC R) := [(171,false,(WY R))]
def oL (x1:ag) (k0:Int→(List Int)→Option R):Option R :=
 cw (decide ((0+(gS x1).length)*1≤140737488355328)) (k0 (x1.length:Int) (gS x1))
theorem zt:dD (R:=R) tt (oK (R:=R)) nK false Tryz.f124 jJ jK (oi oL):=fun x y k=>by kernel_rfl
end
theorem yl:cr (R:=R) Tryz.prog (oK (R:=R)) := .f (ZD) rfl <| .n
def ai:dT R:=fun x1 k0=>oL x1 k0
theorem iS (R:Type):jT Tryz.prog 124 (gP (ai (R:=R))):=bj TT mixed (yl (R:=R)) rfl rfl rfl rfl bX (zt)
/-! ### (*strings.Builder).WriteByte -/
abbrev ez (R:Type):Type:=Int→((List Int)→Option R)→Option R
abbrev kz:List cY := [.leaf (.ptr 0 0), .leaf (.int .u8)]
abbrev kA:List aY := [.mE (.cx)]
def pn (fn:ez R):jU R kz kA:=fun x y k=>fn x.2.1 (fun q0=>k (.dJ) [.mE (.sl (.int .u8) q0 (.own 1)), .tok])
def hQ (fn:ez R):=aC kz kA (pn fn)
section
def qa:List (lC R) := [(171,false,(WY R))]
def qd (x1:Int) (k0:(List Int)→Option R):Option R :=
 k0 ([x1]:List Int)
theorem Br:dD (R:=R) tt (qa (R:=R)) nK false Tryz.f126 kz kA (pn qd):=fun x y k=>by kernel_rfl
end
theorem Az:cr (R:=R) Tryz.prog (qa (R:=R)) := .f (ZD) rfl <| .n
def aj:ez R:=fun x1 k0=>qd x1 k0
theorem ju (R:Type):jT Tryz.prog 126 (hQ (aj (R:=R))):=bj TT mixed (Az (R:=R)) rfl rfl rfl rfl bX (Br)
/-! ### (*strings.Builder).WriteString -/
abbrev de (R:Type):Type:=ag→(List Int)→(Int→(List Int)→Option R)→Option R
abbrev jL:List cY := [.leaf (.ptr 0 0), .leaf (.str)]
abbrev jM:List aY := [.mE (.Yn (.int .u8) 1), .tok]
def oj (fn:de R):jU R jL jM:=fun x y k=>fn x.2.1 y.1 (fun q0 q1=>k (.tuple [.int .i64 q0, .dJ]) [.mE (.sl (.int .u8) q1 (.own 2)), .dead, .tok])
def fk (fn:de R):=aC jL jM (oj fn)
section
def oM:List (lC R) := [(171,false,(WY R))]
def oN (x1:ag) (x2:List Int) (k0:Int→(List Int)→Option R):Option R :=
 cw (decide ((x2.length+(gS x1).length)*1≤140737488355328)) (k0 (x1.length:Int) ((x2:List Int)++((gS x1):List Int)))
theorem zu:dD (R:=R) tt (oM (R:=R)) nK false Tryz.f124 jL jM (oj oN):=fun x y k=>by kernel_rfl
end
theorem ym:cr (R:=R) Tryz.prog (oM (R:=R)) := .f (ZD) rfl <| .n
def ae:de R:=fun x1 x2 k0=>oN x1 x2 k0
theorem fZ (R:Type):jT Tryz.prog 124 (fk (ae (R:=R))):=bj TT mixed (ym (R:=R)) rfl rfl rfl rfl bX (zu)
end Go.Proofs.YtidfokedcnhahaaGreatDoor
/-
 Functions of the program as pure Lean functions, and the ties; printed by wip/tools/emit.py.
-/
set_option maxRecDepth 100000
namespace Go.Proofs.YtidfokedcnhahaaGreatDoor
open Go Go.aq
variable {R:Type}
/-! ### humpyard/decimal.Print -/
abbrev si (R:Type):Type:=fT→(ag→Option R)→Option R
abbrev FX:List cY := [.agg [.int .i64, .int .i64]]
abbrev FY:List aY := []
def Ln (fn:si R):jU R FX FY:=fun x y k=>fn (⟨x.1.1,x.1.2.1⟩:fT) (fun q0=>k (.str q0) [])
def FZ (fn:si R):=aC FX FY (Ln fn)
section
variable (bS:ov R) (aj:ez R) (ae:de R) (ai:dT R)
def Oj:List (lC R) := [(164,true,(Ab bS av)),(126,false,(hQ aj av)),(124,false,(gP ai (fk ae av))),(84,false,(MH R)),(172,true,(itoa_S R)),(173,true,(rep_S R))]
def pJ (x1:fT) (k0:ag→Option R):Option R :=
 bS x1 (fun y2=>bif (!y2)then (k0 ([]:ag))else (bif (decide (x1.ao<(0:Int)))then (aj 45 (fun y3=>bif (decide (x1.exp≥(0:Int)))then (cw (decide (0≤x1.exp)&&decide ((([48]:ag).length:Int)*x1.exp≤140737488355328)) (cw (decide ((cz (max x1.ao (IntKind.i64.wrap (0 - x1.ao)))).length+(lj ([48]:ag) x1.exp).length≤9223372036854775807)) (ae ((cz (max x1.ao (IntKind.i64.wrap (0 - x1.ao))))++(lj ([48]:ag) x1.exp)) y3 (fun y4 y5=>k0 (wm y5)))))else (cw (decide (0≤(max 0 (IntKind.i64.wrap ((IntKind.i64.wrap (1 - x1.exp)) - ((cz (max x1.ao (IntKind.i64.wrap (0 - x1.ao)))).length:Int)))))&&decide ((([48]:ag).length:Int)*(max 0 (IntKind.i64.wrap ((IntKind.i64.wrap (1 - x1.exp)) - ((cz (max x1.ao (IntKind.i64.wrap (0 - x1.ao)))).length:Int))))≤140737488355328)) (cw (decide ((lj ([48]:ag) (max 0 (IntKind.i64.wrap ((IntKind.i64.wrap (1 - x1.exp)) - ((cz (max x1.ao (IntKind.i64.wrap (0 - x1.ao)))).length:Int))))).length+(cz (max x1.ao (IntKind.i64.wrap (0 - x1.ao)))).length≤9223372036854775807)) (cw (decide ((0:Int)≤(IntKind.i64.wrap ((((lj ([48]:ag) (max 0 (IntKind.i64.wrap ((IntKind.i64.wrap (1 - x1.exp)) - ((cz (max x1.ao (IntKind.i64.wrap (0 - x1.ao)))).length:Int)))))++(cz (max x1.ao (IntKind.i64.wrap (0 - x1.ao))))).length:Int)+x1.exp)))&&decide ((IntKind.i64.wrap ((((lj ([48]:ag) (max 0 (IntKind.i64.wrap ((IntKind.i64.wrap (1 - x1.exp)) - ((cz (max x1.ao (IntKind.i64.wrap (0 - x1.ao)))).length:Int)))))++(cz (max x1.ao (IntKind.i64.wrap (0 - x1.ao))))).length:Int)+x1.exp))≤((lj ([48]:ag) (max 0 (IntKind.i64.wrap ((IntKind.i64.wrap (1 - x1.exp)) - ((cz (max x1.ao (IntKind.i64.wrap (0 - x1.ao)))).length:Int)))))++(cz (max x1.ao (IntKind.i64.wrap (0 - x1.ao))))).length)) (cw (decide ((0:Int)≤(IntKind.i64.wrap ((((lj ([48]:ag) (max 0 (IntKind.i64.wrap ((IntKind.i64.wrap (1 - x1.exp)) - ((cz (max x1.ao (IntKind.i64.wrap (0 - x1.ao)))).length:Int)))))++(cz (max x1.ao (IntKind.i64.wrap (0 - x1.ao))))).length:Int)+x1.exp)))) (cw (decide (((((lj ([48]:ag) (max 0 (IntKind.i64.wrap ((IntKind.i64.wrap (1 - x1.exp)) - ((cz (max x1.ao (IntKind.i64.wrap (0 - x1.ao)))).length:Int)))))++(cz (max x1.ao (IntKind.i64.wrap (0 - x1.ao))))).drop 0).take ((IntKind.i64.wrap ((((lj ([48]:ag) (max 0 (IntKind.i64.wrap ((IntKind.i64.wrap (1 - x1.exp)) - ((cz (max x1.ao (IntKind.i64.wrap (0 - x1.ao)))).length:Int)))))++(cz (max x1.ao (IntKind.i64.wrap (0 - x1.ao))))).length:Int)+x1.exp)).toNat - 0)).length+1≤9223372036854775807)) (cw (decide ((0:Int)≤(((lj ([48]:ag) (max 0 (IntKind.i64.wrap ((IntKind.i64.wrap (1 - x1.exp)) - ((cz (max x1.ao (IntKind.i64.wrap (0 - x1.ao)))).length:Int)))))++(cz (max x1.ao (IntKind.i64.wrap (0 - x1.ao))))).length:Int))&&decide ((((lj ([48]:ag) (max 0 (IntKind.i64.wrap ((IntKind.i64.wrap (1 - x1.exp)) - ((cz (max x1.ao (IntKind.i64.wrap (0 - x1.ao)))).length:Int)))))++(cz (max x1.ao (IntKind.i64.wrap (0 - x1.ao))))).length:Int)≤((lj ([48]:ag) (max 0 (IntKind.i64.wrap ((IntKind.i64.wrap (1 - x1.exp)) - ((cz (max x1.ao (IntKind.i64.wrap (0 - x1.ao)))).length:Int)))))++(cz (max x1.ao (IntKind.i64.wrap (0 - x1.ao))))).length)) (cw (decide ((0:Int)≤(IntKind.i64.wrap ((((lj ([48]:ag) (max 0 (IntKind.i64.wrap ((IntKind.i64.wrap (1 - x1.exp)) - ((cz (max x1.ao (IntKind.i64.wrap (0 - x1.ao)))).length:Int)))))++(cz (max x1.ao (IntKind.i64.wrap (0 - x1.ao))))).length:Int)+x1.exp)))&&decide ((IntKind.i64.wrap ((((lj ([48]:ag) (max 0 (IntKind.i64.wrap ((IntKind.i64.wrap (1 - x1.exp)) - ((cz (max x1.ao (IntKind.i64.wrap (0 - x1.ao)))).length:Int)))))++(cz (max x1.ao (IntKind.i64.wrap (0 - x1.ao))))).length:Int)+x1.exp))≤(((lj ([48]:ag) (max 0 (IntKind.i64.wrap ((IntKind.i64.wrap (1 - x1.exp)) - ((cz (max x1.ao (IntKind.i64.wrap (0 - x1.ao)))).length:Int)))))++(cz (max x1.ao (IntKind.i64.wrap (0 - x1.ao))))).length:Int))) (cw (decide ((((((lj ([48]:ag) (max 0 (IntKind.i64.wrap ((IntKind.i64.wrap (1 - x1.exp)) - ((cz (max x1.ao (IntKind.i64.wrap (0 - x1.ao)))).length:Int)))))++(cz (max x1.ao (IntKind.i64.wrap (0 - x1.ao))))).drop 0).take ((IntKind.i64.wrap ((((lj ([48]:ag) (max 0 (IntKind.i64.wrap ((IntKind.i64.wrap (1 - x1.exp)) - ((cz (max x1.ao (IntKind.i64.wrap (0 - x1.ao)))).length:Int)))))++(cz (max x1.ao (IntKind.i64.wrap (0 - x1.ao))))).length:Int)+x1.exp)).toNat - 0))++([46]:ag)).length+((((lj ([48]:ag) (max 0 (IntKind.i64.wrap ((IntKind.i64.wrap (1 - x1.exp)) - ((cz (max x1.ao (IntKind.i64.wrap (0 - x1.ao)))).length:Int)))))++(cz (max x1.ao (IntKind.i64.wrap (0 - x1.ao))))).drop (IntKind.i64.wrap ((((lj ([48]:ag) (max 0 (IntKind.i64.wrap ((IntKind.i64.wrap (1 - x1.exp)) - ((cz (max x1.ao (IntKind.i64.wrap (0 - x1.ao)))).length:Int)))))++(cz (max x1.ao (IntKind.i64.wrap (0 - x1.ao))))).length:Int)+x1.exp)).toNat).take ((((lj ([48]:ag) (max 0 (IntKind.i64.wrap ((IntKind.i64.wrap (1 - x1.exp)) - ((cz (max x1.ao (IntKind.i64.wrap (0 - x1.ao)))).length:Int)))))++(cz (max x1.ao (IntKind.i64.wrap (0 - x1.ao))))).length:Int).toNat - (IntKind.i64.wrap ((((lj ([48]:ag) (max 0 (IntKind.i64.wrap ((IntKind.i64.wrap (1 - x1.exp)) - ((cz (max x1.ao (IntKind.i64.wrap (0 - x1.ao)))).length:Int)))))++(cz (max x1.ao (IntKind.i64.wrap (0 - x1.ao))))).length:Int)+x1.exp)).toNat)).length≤9223372036854775807)) (ae ((((((lj ([48]:ag) (max 0 (IntKind.i64.wrap ((IntKind.i64.wrap (1 - x1.exp)) - ((cz (max x1.ao (IntKind.i64.wrap (0 - x1.ao)))).length:Int)))))++(cz (max x1.ao (IntKind.i64.wrap (0 - x1.ao))))).drop 0).take ((IntKind.i64.wrap ((((lj ([48]:ag) (max 0 (IntKind.i64.wrap ((IntKind.i64.wrap (1 - x1.exp)) - ((cz (max x1.ao (IntKind.i64.wrap (0 - x1.ao)))).length:Int)))))++(cz (max x1.ao (IntKind.i64.wrap (0 - x1.ao))))).length:Int)+x1.exp)).toNat - 0))++([46]:ag))++((((lj ([48]:ag) (max 0 (IntKind.i64.wrap ((IntKind.i64.wrap (1 - x1.exp)) - ((cz (max x1.ao (IntKind.i64.wrap (0 - x1.ao)))).length:Int)))))++(cz (max x1.ao (IntKind.i64.wrap (0 - x1.ao))))).drop (IntKind.i64.wrap ((((lj ([48]:ag) (max 0 (IntKind.i64.wrap ((IntKind.i64.wrap (1 - x1.exp)) - ((cz (max x1.ao (IntKind.i64.wrap (0 - x1.ao)))).length:Int)))))++(cz (max x1.ao (IntKind.i64.wrap (0 - x1.ao))))).length:Int)+x1.exp)).toNat).take ((((lj ([48]:ag) (max 0 (IntKind.i64.wrap ((IntKind.i64.wrap (1 - x1.exp)) - ((cz (max x1.ao (IntKind.i64.wrap (0 - x1.ao)))).length:Int)))))++(cz (max x1.ao (IntKind.i64.wrap (0 - x1.ao))))).length:Int).toNat - (IntKind.i64.wrap ((((lj ([48]:ag) (max 0 (IntKind.i64.wrap ((IntKind.i64.wrap (1 - x1.exp)) - ((cz (max x1.ao (IntKind.i64.wrap (0 - x1.ao)))).length:Int)))))++(cz (max x1.ao (IntKind.i64.wrap (0 - x1.ao))))).length:Int)+x1.exp)).toNat))) y3 (fun y6 y7=>k0 (wm y7)))))))))))))else (bif (decide (x1.exp≥(0:Int)))then (cw (decide (0≤x1.exp)&&decide ((([48]:ag).length:Int)*x1.exp≤140737488355328)) (cw (decide ((cz (max x1.ao (IntKind.i64.wrap (0 - x1.ao)))).length+(lj ([48]:ag) x1.exp).length≤9223372036854775807)) (ai ((cz (max x1.ao (IntKind.i64.wrap (0 - x1.ao))))++(lj ([48]:ag) x1.exp)) (fun y8 y9=>k0 (wm y9)))))else (cw (decide (0≤(max 0 (IntKind.i64.wrap ((IntKind.i64.wrap (1 - x1.exp)) - ((cz (max x1.ao (IntKind.i64.wrap (0 - x1.ao)))).length:Int)))))&&decide ((([48]:ag).length:Int)*(max 0 (IntKind.i64.wrap ((IntKind.i64.wrap (1 - x1.exp)) - ((cz (max x1.ao (IntKind.i64.wrap (0 - x1.ao)))).length:Int))))≤140737488355328)) (cw (decide ((lj ([48]:ag) (max 0 (IntKind.i64.wrap ((IntKind.i64.wrap (1 - x1.exp)) - ((cz (max x1.ao (IntKind.i64.wrap (0 - x1.ao)))).length:Int))))).length+(cz (max x1.ao (IntKind.i64.wrap (0 - x1.ao)))).length≤9223372036854775807)) (cw (decide ((0:Int)≤(IntKind.i64.wrap ((((lj ([48]:ag) (max 0 (IntKind.i64.wrap ((IntKind.i64.wrap (1 - x1.exp)) - ((cz (max x1.ao (IntKind.i64.wrap (0 - x1.ao)))).length:Int)))))++(cz (max x1.ao (IntKind.i64.wrap (0 - x1.ao))))).length:Int)+x1.exp)))&&decide ((IntKind.i64.wrap ((((lj ([48]:ag) (max 0 (IntKind.i64.wrap ((IntKind.i64.wrap (1 - x1.exp)) - ((cz (max x1.ao (IntKind.i64.wrap (0 - x1.ao)))).length:Int)))))++(cz (max x1.ao (IntKind.i64.wrap (0 - x1.ao))))).length:Int)+x1.exp))≤((lj ([48]:ag) (max 0 (IntKind.i64.wrap ((IntKind.i64.wrap (1 - x1.exp)) - ((cz (max x1.ao (IntKind.i64.wrap (0 - x1.ao)))).length:Int)))))++(cz (max x1.ao (IntKind.i64.wrap (0 - x1.ao))))).length)) (cw (decide ((0:Int)≤(IntKind.i64.wrap ((((lj ([48]:ag) (max 0 (IntKind.i64.wrap ((IntKind.i64.wrap (1 - x1.exp)) - ((cz (max x1.ao (IntKind.i64.wrap (0 - x1.ao)))).length:Int)))))++(cz (max x1.ao (IntKind.i64.wrap (0 - x1.ao))))).length:Int)+x1.exp)))) (cw (decide (((((lj ([48]:ag) (max 0 (IntKind.i64.wrap ((IntKind.i64.wrap (1 - x1.exp)) - ((cz (max x1.ao (IntKind.i64.wrap (0 - x1.ao)))).length:Int)))))++(cz (max x1.ao (IntKind.i64.wrap (0 - x1.ao))))).drop 0).take ((IntKind.i64.wrap ((((lj ([48]:ag) (max 0 (IntKind.i64.wrap ((IntKind.i64.wrap (1 - x1.exp)) - ((cz (max x1.ao (IntKind.i64.wrap (0 - x1.ao)))).length:Int)))))++(cz (max x1.ao (IntKind.i64.wrap (0 - x1.ao))))).length:Int)+x1.exp)).toNat - 0)).length+1≤9223372036854775807)) (cw (decide ((0:Int)≤(((lj ([48]:ag) (max 0 (IntKind.i64.wrap ((IntKind.i64.wrap (1 - x1.exp)) - ((cz (max x1.ao (IntKind.i64.wrap (0 - x1.ao)))).length:Int)))))++(cz (max x1.ao (IntKind.i64.wrap (0 - x1.ao))))).length:Int))&&decide ((((lj ([48]:ag) (max 0 (IntKind.i64.wrap ((IntKind.i64.wrap (1 - x1.exp)) - ((cz (max x1.ao (IntKind.i64.wrap (0 - x1.ao)))).length:Int)))))++(cz (max x1.ao (IntKind.i64.wrap (0 - x1.ao))))).length:Int)≤((lj ([48]:ag) (max 0 (IntKind.i64.wrap ((IntKind.i64.wrap (1 - x1.exp)) - ((cz (max x1.ao (IntKind.i64.wrap (0 - x1.ao)))).length:Int)))))++(cz (max x1.ao (IntKind.i64.wrap (0 - x1.ao))))).length)) (cw (decide ((0:Int)≤(IntKind.i64.wrap ((((lj ([48]:ag) (max 0 (IntKind.i64.wrap ((IntKind.i64.wrap (1 - x1.exp)) - ((cz (max x1.ao (IntKind.i64.wrap (0 - x1.ao)))).length:Int)))))++(cz (max x1.ao (IntKind.i64.wrap (0 - x1.ao))))).length:Int)+x1.exp)))&&decide ((IntKind.i64.wrap ((((lj ([48]:ag) (max 0 (IntKind.i64.wrap ((IntKind.i64.wrap (1 - x1.exp)) - ((cz (max x1.ao (IntKind.i64.wrap (0 - x1.ao)))).length:Int)))))++(cz (max x1.ao (IntKind.i64.wrap (0 - x1.ao))))).length:Int)+x1.exp))≤(((lj ([48]:ag) (max 0 (IntKind.i64.wrap ((IntKind.i64.wrap (1 - x1.exp)) - ((cz (max x1.ao (IntKind.i64.wrap (0 - x1.ao)))).length:Int)))))++(cz (max x1.ao (IntKind.i64.wrap (0 - x1.ao))))).length:Int))) (cw (decide ((((((lj ([48]:ag) (max 0 (IntKind.i64.wrap ((IntKind.i64.wrap (1 - x1.exp)) - ((cz (max x1.ao (IntKind.i64.wrap (0 - x1.ao)))).length:Int)))))++(cz (max x1.ao (IntKind.i64.wrap (0 - x1.ao))))).drop 0).take ((IntKind.i64.wrap ((((lj ([48]:ag) (max 0 (IntKind.i64.wrap ((IntKind.i64.wrap (1 - x1.exp)) - ((cz (max x1.ao (IntKind.i64.wrap (0 - x1.ao)))).length:Int)))))++(cz (max x1.ao (IntKind.i64.wrap (0 - x1.ao))))).length:Int)+x1.exp)).toNat - 0))++([46]:ag)).length+((((lj ([48]:ag) (max 0 (IntKind.i64.wrap ((IntKind.i64.wrap (1 - x1.exp)) - ((cz (max x1.ao (IntKind.i64.wrap (0 - x1.ao)))).length:Int)))))++(cz (max x1.ao (IntKind.i64.wrap (0 - x1.ao))))).drop (IntKind.i64.wrap ((((lj ([48]:ag) (max 0 (IntKind.i64.wrap ((IntKind.i64.wrap (1 - x1.exp)) - ((cz (max x1.ao (IntKind.i64.wrap (0 - x1.ao)))).length:Int)))))++(cz (max x1.ao (IntKind.i64.wrap (0 - x1.ao))))).length:Int)+x1.exp)).toNat).take ((((lj ([48]:ag) (max 0 (IntKind.i64.wrap ((IntKind.i64.wrap (1 - x1.exp)) - ((cz (max x1.ao (IntKind.i64.wrap (0 - x1.ao)))).length:Int)))))++(cz (max x1.ao (IntKind.i64.wrap (0 - x1.ao))))).length:Int).toNat - (IntKind.i64.wrap ((((lj ([48]:ag) (max 0 (IntKind.i64.wrap ((IntKind.i64.wrap (1 - x1.exp)) - ((cz (max x1.ao (IntKind.i64.wrap (0 - x1.ao)))).length:Int)))))++(cz (max x1.ao (IntKind.i64.wrap (0 - x1.ao))))).length:Int)+x1.exp)).toNat)).length≤9223372036854775807)) (ai ((((((lj ([48]:ag) (max 0 (IntKind.i64.wrap ((IntKind.i64.wrap (1 - x1.exp)) - ((cz (max x1.ao (IntKind.i64.wrap (0 - x1.ao)))).length:Int)))))++(cz (max x1.ao (IntKind.i64.wrap (0 - x1.ao))))).drop 0).take ((IntKind.i64.wrap ((((lj ([48]:ag) (max 0 (IntKind.i64.wrap ((IntKind.i64.wrap (1 - x1.exp)) - ((cz (max x1.ao (IntKind.i64.wrap (0 - x1.ao)))).length:Int)))))++(cz (max x1.ao (IntKind.i64.wrap (0 - x1.ao))))).length:Int)+x1.exp)).toNat - 0))++([46]:ag))++((((lj ([48]:ag) (max 0 (IntKind.i64.wrap ((IntKind.i64.wrap (1 - x1.exp)) - ((cz (max x1.ao (IntKind.i64.wrap (0 - x1.ao)))).length:Int)))))++(cz (max x1.ao (IntKind.i64.wrap (0 - x1.ao))))).drop (IntKind.i64.wrap ((((lj ([48]:ag) (max 0 (IntKind.i64.wrap ((IntKind.i64.wrap (1 - x1.exp)) - ((cz (max x1.ao (IntKind.i64.wrap (0 - x1.ao)))).length:Int)))))++(cz (max x1.ao (IntKind.i64.wrap (0 - x1.ao))))).length:Int)+x1.exp)).toNat).take ((((lj ([48]:ag) (max 0 (IntKind.i64.wrap ((IntKind.i64.wrap (1 - x1.exp)) - ((cz (max x1.ao (IntKind.i64.wrap (0 - x1.ao)))).length:Int)))))++(cz (max x1.ao (IntKind.i64.wrap (0 - x1.ao))))).length:Int).toNat - (IntKind.i64.wrap ((((lj ([48]:ag) (max 0 (IntKind.i64.wrap ((IntKind.i64.wrap (1 - x1.exp)) - ((cz (max x1.ao (IntKind.i64.wrap (0 - x1.ao)))).length:Int)))))++(cz (max x1.ao (IntKind.i64.wrap (0 - x1.ao))))).length:Int)+x1.exp)).toNat))) (fun od ug=>k0 (wm ug))))))))))))))
theorem V9:dD (R:=R) tt (Oj bS aj ae ai) nK false Tryz.f125 FX FY (Ln (pJ bS aj ae ai)):=fun x y k=>by kernel_rfl
end
theorem UK:cr (R:=R) Tryz.prog (Oj (R:=R) bS aj ae ai) := .c (Au R) <| .d (ju R) rfl <| .f (iS R _ (fZ R _ (fA _))) rfl <| .s (Yq) Rt <| .p (itoa_ok) <| .p (rep_ok) <| .n
def bT:si R:=fun x1 k0=>pJ bS aj ae ai x1 k0
theorem HW (R:Type):jT Tryz.prog 125 (FZ (bT (R:=R))):=bj TT mixed (UK (R:=R)) rfl rfl rfl rfl bX (V9 bS aj ae ai)
/-! ### humpyard/quote.short -/
abbrev BS (R:Type):Type:=Int→(Int→Option R)→Option R
abbrev Kf:List cY := [.leaf (.int .i32)]
abbrev Kg:List aY := []
def PQ (fn:BS R):jU R Kf Kg:=fun x y k=>fn x.1 (fun q0=>k (.int .u8 q0) [])
def Sv (fn:BS R):=aC Kf Kg (PQ fn)
section
def EL (x1:Int) (k0:Int→Option R):Option R :=
 bif (x1==34)then (bif (x1==34)then (k0 (IntKind.u8.wrap x1))else (bif (x1==8)then (k0 98)else (bif (x1==12)then (k0 102)else (bif (x1==10)then (k0 110)else (bif (x1==13)then (k0 114)else (bif (x1==9)then (k0 116)else (k0 0)))))))else (bif (x1==92)then (k0 (IntKind.u8.wrap x1))else (bif (x1==8)then (k0 98)else (bif (x1==12)then (k0 102)else (bif (x1==10)then (k0 110)else (bif (x1==13)then (k0 114)else (bif (x1==9)then (k0 116)else (k0 0)))))))
theorem ZN:dD (R:=R) tt [] nK false Tryz.f169 Kf Kg (PQ EL):=fun x y k=>by kernel_rfl
end
def fo:BS R:=fun x1 k0=>EL x1 k0
theorem Wa (R:Type):jT Tryz.prog 169 (Sv (fo (R:=R))):=bj TT mixed .n rfl rfl rfl rfl bX (ZN)
/-! ### (*strings.Builder).WriteByte -/
abbrev eA (R:Type):Type:=Int→(List Int)→((List Int)→Option R)→Option R
abbrev kB:List cY := [.leaf (.ptr 0 0), .leaf (.int .u8)]
abbrev kC:List aY := [.mE (.Yn (.int .u8) 1), .tok]
def po (fn:eA R):jU R kB kC:=fun x y k=>fn x.2.1 y.1 (fun q0=>k (.dJ) [.mE (.sl (.int .u8) q0 (.own 2)), .dead, .tok])
def hU (fn:eA R):=aC kB kC (po fn)
section
def qe:List (lC R) := [(171,false,(WY R))]
def qf (x1:Int) (x2:List Int) (k0:(List Int)→Option R):Option R :=
 cw (decide ((x2.length+1)*1≤140737488355328)) (k0 ((x2:List Int)++(([x1]:List Int):List Int)))
theorem Bs:dD (R:=R) tt (qe (R:=R)) nK false Tryz.f126 kB kC (po qf):=fun x y k=>by kernel_rfl
end
theorem AA:cr (R:=R) Tryz.prog (qe (R:=R)) := .f (ZD) rfl <| .n
def ad:eA R:=fun x1 x2 k0=>qf x1 x2 k0
theorem jv (R:Type):jT Tryz.prog 126 (hU (ad (R:=R))):=bj TT mixed (AA (R:=R)) rfl rfl rfl rfl bX (Bs)
/-! ### unicode/utf8.appendRuneNonASCII -/
abbrev fw (R:Type):Type:=(List Int)→Int→((List Int)→Option R)→Option R
abbrev iI:List cY := [.leaf (.Yn (.int .u8) 0), .leaf (.int .i32)]
abbrev iJ:List aY := [.tok]
def l7 (fn:fw R):jU R iI iJ:=fun x y k=>fn x.1 x.2.1 (fun q0=>k (.sl (.int .u8) q0 (.own 1)) [.dead, .tok])
def mw (fn:fw R):=aC iI iJ (l7 fn)
section
def fG (x1:List Int) (x2:Int) (k0:(List Int)→Option R):Option R :=
 bif (decide ((IntKind.u32.wrap x2)≤(2047:Int)))then (cw (decide ((x1.length+2)*1≤140737488355328)) (k0 ((x1:List Int)++(([(IntKind.u8.wrap ((BitVec.ofInt IntKind.u8.bits 192 ||| BitVec.ofInt IntKind.u8.bits (IntKind.u8.wrap (Int.fdiv x2 (2 ^ (min 6 IntKind.i32.bits))))).toNat:Int)),(IntKind.u8.wrap ((BitVec.ofInt IntKind.u8.bits 128 ||| BitVec.ofInt IntKind.u8.bits (IntKind.u8.wrap ((BitVec.ofInt IntKind.u8.bits (IntKind.u8.wrap x2) &&& BitVec.ofInt IntKind.u8.bits 63).toNat:Int))).toNat:Int))]:List Int):List Int))))else (let j6:=fun (z3:Bool)=>bif z3 then (cw (decide ((x1.length+3)*1≤140737488355328)) (k0 ((x1:List Int)++(([(IntKind.u8.wrap ((BitVec.ofInt IntKind.u8.bits 224 ||| BitVec.ofInt IntKind.u8.bits (IntKind.u8.wrap (Int.fdiv x2 (2 ^ (min 12 IntKind.i32.bits))))).toNat:Int)),(IntKind.u8.wrap ((BitVec.ofInt IntKind.u8.bits 128 ||| BitVec.ofInt IntKind.u8.bits (IntKind.u8.wrap ((BitVec.ofInt IntKind.u8.bits (IntKind.u8.wrap (Int.fdiv x2 (2 ^ (min 6 IntKind.i32.bits)))) &&& BitVec.ofInt IntKind.u8.bits 63).toNat:Int))).toNat:Int)),(IntKind.u8.wrap ((BitVec.ofInt IntKind.u8.bits 128 ||| BitVec.ofInt IntKind.u8.bits (IntKind.u8.wrap ((BitVec.ofInt IntKind.u8.bits (IntKind.u8.wrap x2) &&& BitVec.ofInt IntKind.u8.bits 63).toNat:Int))).toNat:Int))]:List Int):List Int))))else (let j5:=fun (z4:Bool)=>bif z4 then (cw (decide ((x1.length+4)*1≤140737488355328)) (k0 ((x1:List Int)++(([(IntKind.u8.wrap ((BitVec.ofInt IntKind.u8.bits 240 ||| BitVec.ofInt IntKind.u8.bits (IntKind.u8.wrap (Int.fdiv x2 (2 ^ (min 18 IntKind.i32.bits))))).toNat:Int)),(IntKind.u8.wrap ((BitVec.ofInt IntKind.u8.bits 128 ||| BitVec.ofInt IntKind.u8.bits (IntKind.u8.wrap ((BitVec.ofInt IntKind.u8.bits (IntKind.u8.wrap (Int.fdiv x2 (2 ^ (min 12 IntKind.i32.bits)))) &&& BitVec.ofInt IntKind.u8.bits 63).toNat:Int))).toNat:Int)),(IntKind.u8.wrap ((BitVec.ofInt IntKind.u8.bits 128 ||| BitVec.ofInt IntKind.u8.bits (IntKind.u8.wrap ((BitVec.ofInt IntKind.u8.bits (IntKind.u8.wrap (Int.fdiv x2 (2 ^ (min 6 IntKind.i32.bits)))) &&& BitVec.ofInt IntKind.u8.bits 63).toNat:Int))).toNat:Int)),(IntKind.u8.wrap ((BitVec.ofInt IntKind.u8.bits 128 ||| BitVec.ofInt IntKind.u8.bits (IntKind.u8.wrap ((BitVec.ofInt IntKind.u8.bits (IntKind.u8.wrap x2) &&& BitVec.ofInt IntKind.u8.bits 63).toNat:Int))).toNat:Int))]:List Int):List Int))))else (cw (decide ((x1.length+3)*1≤140737488355328)) (k0 ((x1:List Int)++(([239,191,189]:List Int):List Int)))); bif (decide ((IntKind.u32.wrap x2)>(65535:Int)))then (j5 (decide ((IntKind.u32.wrap x2)≤(1114111:Int))))else (j5 false)); bif (decide ((IntKind.u32.wrap x2)<(55296:Int)))then (j6 (decide ((IntKind.u32.wrap x2)<(55296:Int))))else (bif (decide ((57343:Int)<(IntKind.u32.wrap x2)))then (j6 (decide ((IntKind.u32.wrap x2)≤(65535:Int))))else (j6 false)))
theorem wu:dD (R:=R) tt [] nK true Tryz.f224 iI iJ (l7 fG):=fun x y k=>by kernel_rfl
end
def ck:fw R:=fun x1 x2 k0=>fG x1 x2 k0
theorem uy (R:Type):jT Tryz.prog 224 (mw (ck (R:=R))):=bj TT mixed .n rfl rfl rfl rfl bX (wu)
/-! ### unicode/utf8.AppendRune -/
abbrev iE (R:Type):Type:=(List Int)→Int→((List Int)→Option R)→Option R
abbrev lT:List cY := [.leaf (.Yn (.int .u8) 0), .leaf (.int .i32)]
abbrev lU:List aY := [.tok]
def rL (fn:iE R):jU R lT lU:=fun x y k=>fn x.1 x.2.1 (fun q0=>k (.sl (.int .u8) q0 (.own 1)) [.dead, .tok])
def sj (fn:iE R):=aC lT lU (rL fn)
section
variable (ck:fw R)
def sk:List (lC R) := [(224,false,(mw ck av))]
def iT (x1:List Int) (x2:Int) (k0:(List Int)→Option R):Option R :=
 bif (decide ((IntKind.u32.wrap x2)≤(127:Int)))then (cw (decide ((x1.length+1)*1≤140737488355328)) (k0 ((x1:List Int)++(([(IntKind.u8.wrap x2)]:List Int):List Int))))else (ck x1 x2 (fun y3=>k0 y3))
theorem De:dD (R:=R) tt (sk ck) nK true Tryz.f202 lT lU (rL (iT ck)):=fun x y k=>by kernel_rfl
end
theorem BT:cr (R:=R) Tryz.prog (sk (R:=R) ck) := .d (uy R) rfl <| .n
def cH:iE R:=fun x1 x2 k0=>iT ck x1 x2 k0
theorem Bt (R:Type):jT Tryz.prog 202 (sj (cH (R:=R))):=bj TT mixed (BT (R:=R)) rfl rfl rfl rfl bX (De ck)
/-! ### (*strings.Builder).WriteRune -/
abbrev fq (R:Type):Type:=Int→(List Int)→(Int→(List Int)→Option R)→Option R
abbrev kD:List cY := [.leaf (.ptr 0 0), .leaf (.int .i32)]
abbrev kE:List aY := [.mE (.Yn (.int .u8) 1), .tok]
def pq (fn:fq R):jU R kD kE:=fun x y k=>fn x.2.1 y.1 (fun q0 q1=>k (.tuple [.int .i64 q0, .dJ]) [.mE (.sl (.int .u8) q1 (.own 2)), .dead, .tok])
def kF (fn:fq R):=aC kD kE (pq fn)
section
variable (cH:iE R)
def qg:List (lC R) := [(171,false,(WY R)),(202,false,(sj cH av))]
def hY (x1:Int) (x2:List Int) (k0:Int→(List Int)→Option R):Option R :=
 cH x2 x1 (fun y3=>k0 (IntKind.i64.wrap ((y3.length:Int) - (x2.length:Int))) y3)
theorem Bu:dD (R:=R) tt (qg cH) nK false Tryz.f170 kD kE (pq (hY cH)):=fun x y k=>by kernel_rfl
end
theorem AB:cr (R:=R) Tryz.prog (qg (R:=R) cH) := .f (ZD) rfl <| .d (Bt R) rfl <| .n
def ak:fq R:=fun x1 x2 k0=>hY cH x1 x2 k0
theorem om (R:Type):jT Tryz.prog 170 (kF (ak (R:=R))):=bj TT mixed (AB (R:=R)) rfl rfl rfl rfl bX (Bu cH)
end Go.Proofs.YtidfokedcnhahaaGreatDoor
/-
 Functions of the program as pure Lean functions, and the ties; printed by wip/tools/emit.py.
-/
set_option maxRecDepth 100000
namespace Go.Proofs.YtidfokedcnhahaaGreatDoor
open Go Go.aq
variable {R:Type}
/-! ### humpyard/lexer.while -/
abbrev wN (R:Type):Type:=ag→ag→(ag→Option R)→Option R
abbrev Kh:List cY := [.leaf (.str), .leaf (.str)]
abbrev Ki:List aY := []
def PR (fn:wN R):jU R Kh Ki:=fun x y k=>fn x.1 x.2.1 (fun q0=>k (.str q0) [])
def Kj (fn:wN R):=aC Kh Ki (PR fn)
section
def Sw:List (lC R) := [(105,true,(Ru R))]
def EM (x1:ag) (x2:ag) (k0:ag→Option R):Option R :=
 cw (wG x2&&decide (x2.length<4294967281)) (cw (decide ((0:Int)≤(IntKind.i64.wrap ((x1.length:Int) - ((bx x1 x2).length:Int))))&&decide ((IntKind.i64.wrap ((x1.length:Int) - ((bx x1 x2).length:Int)))≤x1.length)) (cw (decide ((0:Int)≤(IntKind.i64.wrap ((x1.length:Int) - ((bx x1 x2).length:Int))))) (k0 ((x1.drop 0).take ((IntKind.i64.wrap ((x1.length:Int) - ((bx x1 x2).length:Int))).toNat - 0)))))
theorem ZO:dD (R:=R) tt (Sw (R:=R)) nK false Tryz.f118 Kh Ki (PR EM):=fun x y k=>by kernel_rfl
end
theorem XK:cr (R:=R) Tryz.prog (Sw (R:=R)) := .p (Ut) <| .n
def cP:wN R:=fun x1 x2 k0=>EM x1 x2 k0
theorem Lo (R:Type):jT Tryz.prog 118 (Kj (cP (R:=R))):=bj TT mixed (XK (R:=R)) rfl rfl rfl rfl bX (ZO)
/-! ### (*humpyard/decimal.reader).sign -/
abbrev hZ (R:Type):Type:=ag→ag→(Int→ag→Option R)→Option R
abbrev oO:List cY := [.leaf (.ptr 0 0), .leaf (.str)]
abbrev oP:List aY := [.cells [.str]]
def vX (fn:hZ R):jU R oO oP:=fun x y k=>fn x.2.1 y.1.1 (fun q0 q1=>k (.int .u8 q0) [.cells [.str q1]])
def oQ (fn:hZ R):=aC oO oP (vX fn)
section
def wO:List (lC R) := [(159,true,(idx_S R))]
def kG (x1:ag) (x2:ag) (k0:Int→ag→Option R):Option R :=
 bif (x2==([]:ag))then (k0 0 x2)else (cw (decide ((0:Int)<x2.length)) (bif (decide ((EI x1 ((x2.getD 0 0).toNat:Int))<(0:Int)))then (k0 0 x2)else (cw (decide ((0:Int)<x2.length)) (cw (decide ((0:Int)≤(x2.length:Int))&&decide ((x2.length:Int)≤x2.length)) (cw (decide ((1:Int)≤(x2.length:Int))) (k0 ((x2.getD 0 0).toNat:Int) ((x2.drop 1).take ((x2.length:Int).toNat - 1))))))))
theorem G4:dD (R:=R) tt (wO (R:=R)) nK false Tryz.f190 oO oP (vX kG):=fun x y k=>by kernel_rfl
end
theorem F0:cr (R:=R) Tryz.prog (wO (R:=R)) := .p (idx_ok) <| .n
def aU:hZ R:=fun x1 x2 k0=>kG x1 x2 k0
theorem tj (R:Type):jT Tryz.prog 190 (oQ (aU (R:=R))):=bj TT mixed (F0 (R:=R)) rfl rfl rfl rfl bX (G4)
/-! ### (*humpyard/decimal.reader).digits -/
abbrev gH (R:Type):Type:=ag→(ag→ag→Option R)→Option R
abbrev nd:List cY := [.leaf (.ptr 0 0)]
abbrev nf:List aY := [.cells [.str]]
def tm (fn:gH R):jU R nd nf:=fun x y k=>fn y.1.1 (fun q0 q1=>k (.str q0) [.cells [.str q1]])
def ng (fn:gH R):=aC nd nf (tm fn)
section
def uz:List (lC R) := [(105,true,(Ru R))]
def jE (x1:ag) (k0:ag→ag→Option R):Option R :=
 cw (wG ([48,49,50,51,52,53,54,55,56,57]:ag)&&decide (([48,49,50,51,52,53,54,55,56,57]:ag).length<4294967281)) (cw (decide ((0:Int)≤(IntKind.i64.wrap ((x1.length:Int) - ((bx x1 ([48,49,50,51,52,53,54,55,56,57]:ag)).length:Int))))&&decide ((IntKind.i64.wrap ((x1.length:Int) - ((bx x1 ([48,49,50,51,52,53,54,55,56,57]:ag)).length:Int)))≤x1.length)) (cw (decide ((0:Int)≤(IntKind.i64.wrap ((x1.length:Int) - ((bx x1 ([48,49,50,51,52,53,54,55,56,57]:ag)).length:Int))))) (k0 ((x1.drop 0).take ((IntKind.i64.wrap ((x1.length:Int) - ((bx x1 ([48,49,50,51,52,53,54,55,56,57]:ag)).length:Int))).toNat - 0)) (bx x1 ([48,49,50,51,52,53,54,55,56,57]:ag)))))
theorem E6:dD (R:=R) tt (uz (R:=R)) nK false Tryz.f191 nd nf (tm jE):=fun x y k=>by kernel_rfl
end
theorem Ei:cr (R:=R) Tryz.prog (uz (R:=R)) := .p (Ut) <| .n
def aR:gH R:=fun x1 k0=>jE x1 k0
theorem rM (R:Type):jT Tryz.prog 191 (ng (aR (R:=R))):=bj TT mixed (Ei (R:=R)) rfl rfl rfl rfl bX (E6)
/-! ### (*humpyard/decimal.reader).exponent -/
abbrev iF (R:Type):Type:=ag→(Int→Bool→ag→Option R)→Option R
abbrev lV:List cY := [.leaf (.ptr 0 0)]
abbrev lW:List aY := [.cells [.str]]
def rN (fn:iF R):jU R lV lW:=fun x y k=>fn y.1.1 (fun q0 q1 q2=>k (.tuple [.int .i64 q0, .bool q1]) [.cells [.str q2]])
def sn (fn:iF R):=aC lV lW (rN fn)
section
variable (aU:hZ R) (aR:gH R)
def so:List (lC R) := [(190,false,(oQ aU av)),(191,false,(ng aR av)),(194,true,(atoi_S R))]
def iU (x1:ag) (k0:Int→Bool→ag→Option R):Option R :=
 aU ([43,45]:ag) x1 (fun y2 y3=>aR y3 (fun y4 y5=>cw (decide (y4.length≤281474976710656)) (bif wH y4 then (bif (decide ((eJ y4)>(1000000:Int)))then (bif (y2==45)then (k0 (-1000000) (!(y4==([]:ag))) y5)else (k0 1000000 (!(y4==([]:ag))) y5))else (bif (y2==45)then (k0 (IntKind.i64.wrap (0 - (eJ y4))) (!(y4==([]:ag))) y5)else (k0 (eJ y4) (!(y4==([]:ag))) y5)))else (bif (!(y4==([]:ag)))then (bif (y2==45)then (k0 (-1000000) (!(y4==([]:ag))) y5)else (k0 1000000 (!(y4==([]:ag))) y5))else (bif (decide ((eJ y4)>(1000000:Int)))then (bif (y2==45)then (k0 (-1000000) (!(y4==([]:ag))) y5)else (k0 1000000 (!(y4==([]:ag))) y5))else (bif (y2==45)then (k0 (IntKind.i64.wrap (0 - (eJ y4))) (!(y4==([]:ag))) y5)else (k0 (eJ y4) (!(y4==([]:ag))) y5)))))))
theorem Df:dD (R:=R) tt (so aU aR) nK false Tryz.f192 lV lW (rN (iU aU aR)):=fun x y k=>by kernel_rfl
end
theorem BU:cr (R:=R) Tryz.prog (so (R:=R) aU aR) := .d (tj R) rfl <| .d (rM R) rfl <| .p (atoi_ok) <| .n
def bA:iF R:=fun x1 k0=>iU aU aR x1 k0
theorem Bv (R:Type):jT Tryz.prog 192 (sn (bA (R:=R))):=bj TT mixed (BU (R:=R)) rfl rfl rfl rfl bX (Df aU aR)
/-! ### humpyard/decimal.Parse -/
abbrev xw (R:Type):Type:=ag→(fT→Bool→Option R)→Option R
abbrev F1:List cY := [.leaf (.str)]
abbrev F2:List aY := []
def Lp (fn:xw R):jU R F1 F2:=fun x y k=>fn x.1 (fun q0 q1=>k (.tuple [.agg [.int .i64 q0.ao, .int .i64 q0.exp], .bool q1]) [])
def Ol (fn:xw R):=aC F1 F2 (Lp fn)
section
variable (bk:ux R) (aU:hZ R) (aR:gH R) (bA:iF R)
def Om:List (lC R) := [(97,true,(HR bk av)),(190,false,(oQ aU av)),(191,false,(ng aR av)),(192,false,(sn bA av)),(105,true,(Ru R)),(193,true,(trimR_S R)),(194,true,(atoi_S R))]
def pK (x1:ag) (k0:fT→Bool→Option R):Option R :=
 aU ([45]:ag) x1 (fun y2 y3=>aR y3 (fun y4 y5=>let j32:=let j31:=fun (yb:ag) (z12:Int) (z13:ag)=>let j30:=fun (z19:Int) (z20:ag)=>cw (wG ([48]:ag)&&decide (([48]:ag).length<4294967281)) (cw (wG ([48]:ag)&&decide (([48]:ag).length<4294967281)) (bif (!(z20==([]:ag)))then (k0 (⟨0,0⟩:fT) false)else (bif (decide (((cM (bx yb ([48]:ag)) ([48]:ag)).length:Int)>(18:Int)))then (k0 (⟨0,0⟩:fT) false)else (let j29:=bif (y2 != 0)then (bk (IntKind.i64.wrap (0 - (eJ (([48]:ag)++(cM (bx yb ([48]:ag)) ([48]:ag)))))) (IntKind.i64.wrap (z19+(IntKind.i64.wrap (((bx yb ([48]:ag)).length:Int) - ((cM (bx yb ([48]:ag)) ([48]:ag)).length:Int))))) (fun AY I1=>k0 AY I1))else (bk (eJ (([48]:ag)++(cM (bx yb ([48]:ag)) ([48]:ag)))) (IntKind.i64.wrap (z19+(IntKind.i64.wrap (((bx yb ([48]:ag)).length:Int) - ((cM (bx yb ([48]:ag)) ([48]:ag)).length:Int))))) (fun FJ Pd=>k0 FJ Pd)); cw (decide (1+(cM (bx yb ([48]:ag)) ([48]:ag)).length≤9223372036854775807)) (cw (decide ((([48]:ag)++(cM (bx yb ([48]:ag)) ([48]:ag))).length≤281474976710656)) (bif wH (([48]:ag)++(cM (bx yb ([48]:ag)) ([48]:ag)))then (j29)else (j29))))))); aU ([101,69]:ag) z13 (fun Gm Ej=>bif (Gm != 0)then (bA Ej (fun Ar K2 J9=>bif (!K2)then (k0 (⟨0,0⟩:fT) false)else (j30 (IntKind.i64.wrap (z12+Ar)) J9)))else (j30 z12 Ej)); aU ([46]:ag) y5 (fun y7 y8=>bif (y7 != 0)then (aR y8 (fun y9 od=>bif (y9==([]:ag))then (k0 (⟨0,0⟩:fT) false)else (cw (decide (y4.length+y9.length≤9223372036854775807)) (j31 (y4++y9) (IntKind.i64.wrap (0 - (y9.length:Int))) od))))else (j31 y4 0 y8)); bif (decide ((x1.length:Int)>(400:Int)))then (k0 (⟨0,0⟩:fT) false)else (bif (y4==([]:ag))then (k0 (⟨0,0⟩:fT) false)else (bif (decide ((y4.length:Int)>(1:Int)))then (cw (decide ((0:Int)<y4.length)) (bif (((y4.getD 0 0).toNat:Int)==48)then (k0 (⟨0,0⟩:fT) false)else (j32)))else (j32)))))
theorem Wb:dD (R:=R) tt (Om bk aU aR bA) nK false Tryz.f157 F1 F2 (Lp (pK bk aU aR bA)):=fun x y k=>by kernel_rfl
end
theorem UL:cr (R:=R) Tryz.prog (Om (R:=R) bk aU aR bA) := .c (JA R) <| .d (tj R) rfl <| .d (rM R) rfl <| .d (Bv R) rfl <| .p (Ut) <| .p (trimR_ok) <| .p (atoi_ok) <| .n
def er:xw R:=fun x1 k0=>pK bk aU aR bA x1 k0
theorem Tq (R:Type):jT Tryz.prog 157 (Ol (er (R:=R))):=bj TT mixed (UL (R:=R)) rfl rfl rfl rfl bX (Wb bk aU aR bA)
/-! ### internal/stringslite.HasPrefix -/
abbrev gZ (R:Type):Type:=ag→ag→(Bool→Option R)→Option R
abbrev kH:List cY := [.leaf (.str), .leaf (.str)]
abbrev kI:List aY := []
def pr (fn:gZ R):jU R kH kI:=fun x y k=>fn x.1 x.2.1 (fun q0=>k (.bool q0) [])
def qh (fn:gZ R):=aC kH kI (pr fn)
section
def ia (x1:ag) (x2:ag) (k0:Bool→Option R):Option R :=
 bif (decide ((x1.length:Int)≥(x2.length:Int)))then (cw (decide ((0:Int)≤(x2.length:Int))&&decide ((x2.length:Int)≤x1.length)) (cw (decide ((0:Int)≤(x2.length:Int))) (k0 (((x1.drop 0).take ((x2.length:Int).toNat - 0))==x2))))else (k0 false)
theorem Bw:dD (R:=R) tt [] nK false Tryz.f228 kH kI (pr ia):=fun x y k=>by kernel_rfl
end
def cA:gZ R:=fun x1 x2 k0=>ia x1 x2 k0
theorem zw (R:Type):jT Tryz.prog 228 (qh (cA (R:=R))):=bj TT mixed .n rfl rfl rfl rfl bX (Bw)
/-! ### internal/stringslite.CutPrefix -/
abbrev hG (R:Type):Type:=ag→ag→(ag→Bool→Option R)→Option R
abbrev kJ:List cY := [.leaf (.str), .leaf (.str)]
abbrev kK:List aY := []
def pv (fn:hG R):jU R kJ kK:=fun x y k=>fn x.1 x.2.1 (fun q0 q1=>k (.tuple [.str q0, .bool q1]) [])
def qi (fn:hG R):=aC kJ kK (pv fn)
section
variable (cA:gZ R)
def qj:List (lC R) := [(228,true,(qh cA av))]
def ib (x1:ag) (x2:ag) (k0:ag→Bool→Option R):Option R :=
 cA x1 x2 (fun y3=>bif (!y3)then (k0 x1 false)else (cw (decide ((0:Int)≤(x1.length:Int))&&decide ((x1.length:Int)≤x1.length)) (cw (decide ((0:Int)≤(x2.length:Int))&&decide ((x2.length:Int)≤(x1.length:Int))) (k0 ((x1.drop (x2.length:Int).toNat).take ((x1.length:Int).toNat - (x2.length:Int).toNat)) true))))
theorem Bx:dD (R:=R) tt (qj cA) nK false Tryz.f241 kJ kK (pv (ib cA)):=fun x y k=>by kernel_rfl
end
theorem AD:cr (R:=R) Tryz.prog (qj (R:=R) cA) := .c (zw R) <| .n
def cK:hG R:=fun x1 x2 k0=>ib cA x1 x2 k0
theorem zx (R:Type):jT Tryz.prog 241 (qi (cK (R:=R))):=bj TT mixed (AD (R:=R)) rfl rfl rfl rfl bX (Bx cA)
/-! ### strings.CutPrefix -/
abbrev qk (R:Type):Type:=ag→ag→(ag→Bool→Option R)→Option R
abbrev yn:List cY := [.leaf (.str), .leaf (.str)]
abbrev yo:List aY := []
def E7 (fn:qk R):jU R yn yo:=fun x y k=>fn x.1 x.2.1 (fun q0 q1=>k (.tuple [.str q0, .bool q1]) [])
def Gn (fn:qk R):=aC yn yo (E7 fn)
section
variable (cK:hG R)
def Gp:List (lC R) := [(241,true,(qi cK av))]
def Gq (x1:ag) (x2:ag) (k0:ag→Bool→Option R):Option R :=
 cK x1 x2 (fun y3 y4=>k0 y3 y4)
theorem PS:dD (R:=R) tt (Gp cK) nK false Tryz.f220 yn yo (E7 (Gq cK)):=fun x y k=>by kernel_rfl
end
theorem ON:cr (R:=R) Tryz.prog (Gp (R:=R) cK) := .c (zx R) <| .n
def fH:qk R:=fun x1 x2 k0=>Gq cK x1 x2 k0
theorem MR (R:Type):jT Tryz.prog 220 (Gn (fH (R:=R))):=bj TT mixed (ON (R:=R)) rfl rfl rfl rfl bX (PS cK)
/-! ### (*humpyard/quote.reader).skip -/
abbrev jg (R:Type):Type:=ag→ag→(Bool→ag→Option R)→Option R
abbrev qF:List cY := [.leaf (.ptr 0 0), .leaf (.str)]
abbrev qG:List aY := [.cells [.str]]
def xJ (fn:jg R):jU R qF qG:=fun x y k=>fn x.2.1 y.1.1 (fun q0 q1=>k (.bool q0) [.cells [.str q1]])
def qH (fn:jg R):=aC qF qG (xJ fn)
section
variable (fH:qk R)
def zy:List (lC R) := [(220,true,(Gn fH av))]
def zz (x1:ag) (x2:ag) (k0:Bool→ag→Option R):Option R :=
 fH x2 x1 (fun y3 y4=>k0 y4 y3)
theorem I2:dD (R:=R) tt (zy fH) nK false Tryz.f195 qF qG (xJ (zz fH)):=fun x y k=>by kernel_rfl
end
theorem HX:cr (R:=R) Tryz.prog (zy (R:=R) fH) := .c (MR R) <| .n
def aK:jg R:=fun x1 x2 k0=>zz fH x1 x2 k0
theorem vY (R:Type):jT Tryz.prog 195 (qH (aK (R:=R))):=bj TT mixed (HX (R:=R)) rfl rfl rfl rfl bX (I2 fH)
/-! ### internal/strconv.lower -/
abbrev jh (R:Type):Type:=Int→(Int→Option R)→Option R
abbrev qI:List cY := [.leaf (.int .u8)]
abbrev qJ:List aY := []
def xK (fn:jh R):jU R qI qJ:=fun x y k=>fn x.1 (fun q0=>k (.int .u8 q0) [])
def qK (fn:jh R):=aC qI qJ (xK fn)
section
def zA (x1:Int) (k0:Int→Option R):Option R :=
 k0 (IntKind.u8.wrap ((BitVec.ofInt IntKind.u8.bits x1 ||| BitVec.ofInt IntKind.u8.bits 32).toNat:Int))
theorem I3:dD (R:=R) tt [] nK false Tryz.f259 qI qJ (xK zA):=fun x y k=>by kernel_rfl
end
def internal_strconv_lower:jh R:=fun x1 k0=>zA x1 k0
theorem vZ (R:Type):jT Tryz.prog 259 (qK (internal_strconv_lower (R:=R))):=bj TT mixed .n rfl rfl rfl rfl bX (I3)
/-! ### internal/strconv.underscoreOK -/
abbrev ic (R:Type):Type:=ag→(Bool→Option R)→Option R
abbrev ll:List cY := [.leaf (.str)]
abbrev ln:List aY := []
def ql (fn:ic R):jU R ll ln:=fun x y k=>fn x.1 (fun q0=>k (.bool q0) [])
def rO (fn:ic R):=aC ll ln (ql fn)
abbrev iV (R:Type):Type:=Nat→ag→Int→Int→Bool→(Int→Option R)→(Bool→Int→Option R)→Option R
def gq:Hint := { live := [0,3,4,5],own := [],rows := [],cells := [],drop := [],out := [2,3] }
abbrev dO:Type:=ag×Int×Int×Bool
def iK:dO→St:=fun d=>⟨.str d.1::U 2 (.int .i32 d.2.1 :: .int .i64 d.2.2.1 :: .bool d.2.2.2::U 88 ([])), []⟩
def iW (K:Ex→St→Option R) (q0:Int):Option R:=K (.exit 0) ⟨U 3 (.int .i32 q0::U 90 ([])), []⟩
def iX (K:Ex→St→Option R) (q0:Bool) (q1:Int):Option R:=K (.ret) ⟨U 2 (.bool q0 :: .int .i32 q1::U 90 ([])), []⟩
abbrev eV:List cY := .leaf (.str)::PU 2 (.leaf (.int .i32) :: .leaf (.int .i64) :: .leaf (.bool)::PU 88 ([]))
abbrev eW:List aY := []
def nw (x:cY.cD eV) (y:aY.cD eW):Nat:=(List.length x.1+Int.natAbs x.2.2.2.1+Int.natAbs x.2.2.2.2.1+64)
def yp (x:cY.cD eV) (y:aY.cD eW):dO:=(x.1,x.2.2.2.1,x.2.2.2.2.1,x.2.2.2.2.2.1)
def mK (L:iV R):Ed R eV eW:=fun x y K=>L (nw x y) x.1 x.2.2.2.1 x.2.2.2.2.1 x.2.2.2.2.2.1 (iW K) (iX K)
section
variable (internal_strconv_lower:jh R) (aF:iV R)
def eZ:List (lC R) := [(259,true,(qK internal_strconv_lower av))]
def nA (fc:ag→Int→Int→Bool→Option R) (oa:ag) (uR:Int) (mm:Int) (wx:Bool) (e0:Int→Option R) (e1:Bool→Int→Option R):Option R :=
 bif (decide (mm<(oa.length:Int)))then (cw (decide ((0:Int)≤mm)&&decide (mm<oa.length)) (bif (decide ((48:Int)≤((oa.getD mm.toNat 0).toNat:Int)))then (cw (decide ((0:Int)≤mm)&&decide (mm<oa.length)) (bif (decide (((oa.getD mm.toNat 0).toNat:Int)≤(57:Int)))then (fc oa 48 (IntKind.i64.wrap (mm+1)) wx)else (bif wx then (cw (decide ((0:Int)≤mm)&&decide (mm<oa.length)) (internal_strconv_lower ((oa.getD mm.toNat 0).toNat:Int) (fun Pz=>bif (decide ((97:Int)≤Pz))then (cw (decide ((0:Int)≤mm)&&decide (mm<oa.length)) (internal_strconv_lower ((oa.getD mm.toNat 0).toNat:Int) (fun Li=>bif (decide (Li≤(102:Int)))then (fc oa 48 (IntKind.i64.wrap (mm+1)) wx)else (cw (decide ((0:Int)≤mm)&&decide (mm<oa.length)) (bif (((oa.getD mm.toNat 0).toNat:Int)==95)then (bif (uR != 48)then (e1 false uR)else (fc oa 95 (IntKind.i64.wrap (mm+1)) wx))else (bif (uR==95)then (e1 false uR)else (fc oa 33 (IntKind.i64.wrap (mm+1)) wx)))))))else (cw (decide ((0:Int)≤mm)&&decide (mm<oa.length)) (bif (((oa.getD mm.toNat 0).toNat:Int)==95)then (bif (uR != 48)then (e1 false uR)else (fc oa 95 (IntKind.i64.wrap (mm+1)) wx))else (bif (uR==95)then (e1 false uR)else (fc oa 33 (IntKind.i64.wrap (mm+1)) wx)))))))else (cw (decide ((0:Int)≤mm)&&decide (mm<oa.length)) (bif (((oa.getD mm.toNat 0).toNat:Int)==95)then (bif (uR != 48)then (e1 false uR)else (fc oa 95 (IntKind.i64.wrap (mm+1)) wx))else (bif (uR==95)then (e1 false uR)else (fc oa 33 (IntKind.i64.wrap (mm+1)) wx)))))))else (bif wx then (cw (decide ((0:Int)≤mm)&&decide (mm<oa.length)) (internal_strconv_lower ((oa.getD mm.toNat 0).toNat:Int) (fun C6=>bif (decide ((97:Int)≤C6))then (cw (decide ((0:Int)≤mm)&&decide (mm<oa.length)) (internal_strconv_lower ((oa.getD mm.toNat 0).toNat:Int) (fun Yr=>bif (decide (Yr≤(102:Int)))then (fc oa 48 (IntKind.i64.wrap (mm+1)) wx)else (cw (decide ((0:Int)≤mm)&&decide (mm<oa.length)) (bif (((oa.getD mm.toNat 0).toNat:Int)==95)then (bif (uR != 48)then (e1 false uR)else (fc oa 95 (IntKind.i64.wrap (mm+1)) wx))else (bif (uR==95)then (e1 false uR)else (fc oa 33 (IntKind.i64.wrap (mm+1)) wx)))))))else (cw (decide ((0:Int)≤mm)&&decide (mm<oa.length)) (bif (((oa.getD mm.toNat 0).toNat:Int)==95)then (bif (uR != 48)then (e1 false uR)else (fc oa 95 (IntKind.i64.wrap (mm+1)) wx))else (bif (uR==95)then (e1 false uR)else (fc oa 33 (IntKind.i64.wrap (mm+1)) wx)))))))else (cw (decide ((0:Int)≤mm)&&decide (mm<oa.length)) (bif (((oa.getD mm.toNat 0).toNat:Int)==95)then (bif (uR != 48)then (e1 false uR)else (fc oa 95 (IntKind.i64.wrap (mm+1)) wx))else (bif (uR==95)then (e1 false uR)else (fc oa 33 (IntKind.i64.wrap (mm+1)) wx)))))))else (e0 uR)
def nB (K:Ex→St→Option R) (rc:dO→Option R) (d:dO):Option R:=nA internal_strconv_lower (fun z0 z1 z2 z3=>rc (z0,z1,z2,z3)) d.1 d.2.1 d.2.2.1 d.2.2.2 (iW K) (iX K)
def gi:Nat→Option (Hint×dE R):=fun i=>match i with
 | 10=>some (gq,(dR eV eW (mK aF) lM))
 | _=>none
theorem wv (K:Ex→St→Option R) (rc:St→Option R) (d:dO):roundOf tt (dy (eZ internal_strconv_lower)) (gi aF) 0 ((aN (bm Tryz.f260)).getD 0 .skip) gq (iK d) rc K=nB internal_strconv_lower K (fun d=>rc (iK d)) d:=by kernel_rfl
def rP (x1:ag) (k0:Bool→Option R):Option R :=
 let j46:=fun (z3:ag)=>bif (decide ((z3.length:Int)≥(2:Int)))then (cw (decide ((0:Int)<z3.length)) (bif (((z3.getD 0 0).toNat:Int)==48)then (cw (decide ((1:Int)<z3.length)) (internal_strconv_lower ((z3.getD 1 0).toNat:Int) (fun y4=>bif (y4==98)then (cw (decide ((1:Int)<z3.length)) (internal_strconv_lower ((z3.getD 1 0).toNat:Int) (fun y9=>aF (List.length z3+Int.natAbs 48+Int.natAbs 2+64) z3 48 2 (y9==120) (fun Pd=>k0 (Pd != 95)) (fun W4 OO=>k0 W4))))else (cw (decide ((1:Int)<z3.length)) (internal_strconv_lower ((z3.getD 1 0).toNat:Int) (fun y5=>bif (y5==111)then (cw (decide ((1:Int)<z3.length)) (internal_strconv_lower ((z3.getD 1 0).toNat:Int) (fun od=>aF (List.length z3+Int.natAbs 48+Int.natAbs 2+64) z3 48 2 (od==120) (fun XL=>k0 (XL != 95)) (fun HY y33=>k0 HY))))else (cw (decide ((1:Int)<z3.length)) (internal_strconv_lower ((z3.getD 1 0).toNat:Int) (fun y6=>bif (y6==120)then (cw (decide ((1:Int)<z3.length)) (internal_strconv_lower ((z3.getD 1 0).toNat:Int) (fun ug=>aF (List.length z3+Int.natAbs 48+Int.natAbs 2+64) z3 48 2 (ug==120) (fun y34=>k0 (y34 != 95)) (fun y35 y36=>k0 y35))))else (aF (List.length z3+Int.natAbs 94+Int.natAbs 0+64) z3 94 0 false (fun y37=>k0 (y37 != 95)) (fun y38 ZE=>k0 y38)))))))))))else (aF (List.length z3+Int.natAbs 94+Int.natAbs 0+64) z3 94 0 false (fun y40=>k0 (y40 != 95)) (fun y41 y42=>k0 y41))))else (aF (List.length z3+Int.natAbs 94+Int.natAbs 0+64) z3 94 0 false (fun y43=>k0 (y43 != 95)) (fun y44 y45=>k0 y44)); bif (decide ((x1.length:Int)≥(1:Int)))then (cw (decide ((0:Int)<x1.length)) (bif (((x1.getD 0 0).toNat:Int)==45)then (cw (decide ((0:Int)≤(x1.length:Int))&&decide ((x1.length:Int)≤x1.length)) (cw (decide ((1:Int)≤(x1.length:Int))) (j46 ((x1.drop 1).take ((x1.length:Int).toNat - 1)))))else (cw (decide ((0:Int)<x1.length)) (bif (((x1.getD 0 0).toNat:Int)==43)then (cw (decide ((0:Int)≤(x1.length:Int))&&decide ((x1.length:Int)≤x1.length)) (cw (decide ((1:Int)≤(x1.length:Int))) (j46 ((x1.drop 1).take ((x1.length:Int).toNat - 1)))))else (j46 x1)))))else (j46 x1)
theorem BV:dD (R:=R) tt (eZ internal_strconv_lower) (gi aF) false Tryz.f260 ll ln (ql (rP internal_strconv_lower aF)):=fun x y k=>by kernel_rfl
end
theorem By:cr (R:=R) Tryz.prog (eZ (R:=R) internal_strconv_lower) := .c (vZ R) <| .n
def aF:iV R
 | 0,_,_,_,_,_,_=>none
 | n+1,jf,jj,jr,ur,e0,e1=>nA internal_strconv_lower (fun jf jj jr ur=>aF n jf jj jr ur e0 e1) jf jj jr ur e0 e1
def nC (K:Ex→St→Option R) (n:Nat) (d:dO):Option R:=aF n d.1 d.2.1 d.2.2.1 d.2.2.2 (iW K) (iX K)
theorem xx (other:dE R) (ho:ki tt (dy (eZ (R:=R) internal_strconv_lower)) (gi (R:=R) aF) 0 ((aN (bm Tryz.f260)).getD 0 .skip) gq other):ki tt (dy (eZ (R:=R) internal_strconv_lower)) (gi (R:=R) aF) 0 ((aN (bm Tryz.f260)).getD 0 .skip) gq (dR eV eW (mK (aF)) other) :=
 ei (A:=nC) ho (gd iK (nB internal_strconv_lower) (nC) (fun _ _=>by kernel_rfl) (wv internal_strconv_lower aF) (fun _ _ _=>by kernel_rfl)) nw yp (fun _ _=>by kernel_rfl) (fun _ _ _=>by kernel_rfl)
def bM:ic R:=fun x1 k0=>rP internal_strconv_lower aF x1 k0
theorem zB (R:Type):∀a∈aN (bm Tryz.f260),ji tt (dy (eZ (R:=R) internal_strconv_lower)) (gi (R:=R) aF) 0 a:=by
 refine gR 1 (by kernel_rfl) fun i hi => ?_
 match i,hi with
 | 0,_=>exact dH (by kernel_rfl) (xx _ fm)
 | n+1,hi=>omega
theorem AE (R:Type):jT Tryz.prog 260 (rO (bM (R:=R))):=bj TT mixed (By (R:=R)) rfl rfl rfl rfl (zB R) (BV internal_strconv_lower aF)
end Go.Proofs.YtidfokedcnhahaaGreatDoor
/-
 Functions of the program as pure Lean functions, and the ties; printed by wip/tools/emit.py.
-/
set_option maxRecDepth 100000
namespace Go.Proofs.YtidfokedcnhahaaGreatDoor
open Go Go.aq
variable {R:Type}
/-! ### internal/strconv.ParseUint -/
abbrev jl (R:Type):Type:=ag→Int→Int→(Int→Option R)→(Int→Option R)→(Int→Option R)→(Int→Option R)→(Int→Option R)→Option R
abbrev nh:List cY := [.leaf (.str), .leaf (.int .i64), .leaf (.int .i64)]
abbrev ni:List aY := []
def tp (fn:jl R):jU R nh ni:=fun x y k=>fn x.1 x.2.1 x.2.2.1 (fun q0=>k (.tuple [.int .u64 q0, .SW 250 .i64 2]) []) (fun q0=>k (.tuple [.int .u64 q0, .SW 250 .i64 3]) []) (fun q0=>k (.tuple [.int .u64 q0, .SW 250 .i64 4]) []) (fun q0=>k (.tuple [.int .u64 q0, .SW 250 .i64 1]) []) (fun q0=>k (.tuple [.int .u64 q0, .dJ]) [])
def uA (fn:jl R):=aC nh ni (tp fn)
abbrev jN (R:Type):Type:=Nat→Int→Bool→ag→Int→Int→Bool→Int→Nat→Int→Int→(List Int)→(ag→Bool→Int→Option R)→(Int→ag→Bool→Int→Option R)→(Int→ag→Bool→Int→Option R)→(Int→ag→Bool→Option R)→Option R
def hJ:Hint := { live := [1,8,9,10,11,12,13,99,100,101],own := [],rows := [],cells := [],drop := [],out := [6,7,9,12,13] }
abbrev eB:Type:=Int×Bool×ag×Int×Int×Bool×Int×Nat×Int×Int×(List Int)
def jx:eB→St:=fun d=>⟨.undef :: .int .i64 d.1::U 6 (.bool d.2.1 :: .str d.2.2.1 :: .int .u64 d.2.2.2.1 :: .int .u64 d.2.2.2.2.1 :: .bool d.2.2.2.2.2.1 :: .int .u64 d.2.2.2.2.2.2.1::U 85 (.row 0 d.2.2.2.2.2.2.2.1 :: .int .i64 d.2.2.2.2.2.2.2.2.1 :: .int .i64 d.2.2.2.2.2.2.2.2.2.1::U 70 ([]))), [.row (.int .u8) d.2.2.2.2.2.2.2.2.2.2]⟩
def jO (K:Ex→St→Option R) (q0:ag) (q1:Bool) (q2:Int):Option R:=K (.exit 3) ⟨U 9 (.str q0::U 2 (.bool q1 :: .int .u64 q2::U 158 ([]))), []⟩
def jP (K:Ex→St→Option R) (q0:Int) (q1:ag) (q2:Bool) (q3:Int):Option R:=K (.ret) ⟨U 6 (.int .u64 q0 :: .SW 250 .i64 2 :: .undef :: .str q1::U 2 (.bool q2 :: .int .u64 q3::U 158 ([]))), []⟩
def jQ (K:Ex→St→Option R) (q0:Int) (q1:ag) (q2:Bool) (q3:Int):Option R:=K (.ret) ⟨U 6 (.int .u64 q0 :: .SW 250 .i64 1 :: .undef :: .str q1::U 2 (.bool q2 :: .int .u64 q3::U 158 ([]))), []⟩
def jR (K:Ex→St→Option R) (q0:Int) (q1:ag) (q2:Bool):Option R:=K (.ret) ⟨U 6 (.int .u64 q0 :: .SW 250 .i64 1 :: .undef :: .str q1::U 2 (.bool q2::U 159 ([]))), []⟩
abbrev ft:List cY := .leaf (.undef) :: .leaf (.int .i64)::PU 6 (.leaf (.bool) :: .leaf (.str) :: .leaf (.int .u64) :: .leaf (.int .u64) :: .leaf (.bool) :: .leaf (.int .u64)::PU 85 (.leaf (.row 0) :: .leaf (.int .i64) :: .leaf (.int .i64)::PU 70 ([])))
abbrev fv:List aY := [.row (.int .u8)]
def pw (x:cY.cD ft) (y:aY.cD fv):Nat:=(Int.natAbs x.2.1+List.length ((t8 x).2.1)+Int.natAbs ((t8 x).2.2.1)+Int.natAbs ((t8 x).2.2.2.1)+Int.natAbs ((t8 x).2.2.2.2.2.1)+Int.natAbs ((t8 (t8 (t8 (t8 (t8 (t8 (t8 (t8 (t8 (t8 (t8 (t8 x)))))))))))).2.2.2.2.1)+Int.natAbs ((t8 (t8 (t8 (t8 (t8 (t8 (t8 (t8 (t8 (t8 (t8 (t8 x)))))))))))).2.2.2.2.2.1)+List.length y.1+64)
def Bz (x:cY.cD ft) (y:aY.cD fv):eB:=(x.2.1,(t8 x).1,(t8 x).2.1,(t8 x).2.2.1,(t8 x).2.2.2.1,(t8 x).2.2.2.2.1,(t8 x).2.2.2.2.2.1,(t8 (t8 (t8 (t8 (t8 (t8 (t8 (t8 (t8 (t8 (t8 (t8 x)))))))))))).2.2.2.1,(t8 (t8 (t8 (t8 (t8 (t8 (t8 (t8 (t8 (t8 (t8 (t8 x)))))))))))).2.2.2.2.1,(t8 (t8 (t8 (t8 (t8 (t8 (t8 (t8 (t8 (t8 (t8 (t8 x)))))))))))).2.2.2.2.2.1,y.1)
def oR (L:jN R):Ed R ft fv:=fun x y K=>L (pw x y) x.2.1 ((t8 x).1) ((t8 x).2.1) ((t8 x).2.2.1) ((t8 x).2.2.2.1) ((t8 x).2.2.2.2.1) ((t8 x).2.2.2.2.2.1) ((t8 (t8 (t8 (t8 (t8 (t8 (t8 (t8 (t8 (t8 (t8 (t8 x)))))))))))).2.2.2.1) ((t8 (t8 (t8 (t8 (t8 (t8 (t8 (t8 (t8 (t8 (t8 (t8 x)))))))))))).2.2.2.2.1) ((t8 (t8 (t8 (t8 (t8 (t8 (t8 (t8 (t8 (t8 (t8 (t8 x)))))))))))).2.2.2.2.2.1) y.1 (jO K) (jP K) (jQ K) (jR K)
section
variable (internal_strconv_lower:jh R) (bM:ic R) (aI:jN R)
def fB:List (lC R) := [(259,true,(qK internal_strconv_lower av)),(260,true,(rO bM av))]
def dG (fc:Int→Bool→ag→Int→Int→Bool→Int→Nat→Int→Int→(List Int)→Option R) (Gr:Int) (Sx:Bool) (x22:ag) (x23:Int) (x24:Int) (x25:Bool) (x26:Int) (x27:Nat) (x28:Int) (x29:Int) (x30:List Int) (e0:ag→Bool→Int→Option R) (e1:Int→ag→Bool→Int→Option R) (e2:Int→ag→Bool→Int→Option R) (e3:Int→ag→Bool→Option R):Option R :=
 bif (decide (x29<x28))then (cw (decide ((0:Int)≤x29)&&decide (x29<x27)) (cw (decide (x29.toNat<x30.length)) (let j42:=fun (z40:Int)=>bif (decide (z40≥(IntKind.u8.wrap Gr)))then (e1 0 x22 x25 x26)else (bif (decide (x26≥x23))then (e2 x24 x22 x25 x26)else (bif (decide ((IntKind.u64.wrap ((IntKind.u64.wrap (x26*(IntKind.u64.wrap Gr)))+(IntKind.u64.wrap z40)))<(IntKind.u64.wrap (x26*(IntKind.u64.wrap Gr)))))then (e2 x24 x22 x25 (IntKind.u64.wrap (x26*(IntKind.u64.wrap Gr))))else (bif (decide ((IntKind.u64.wrap ((IntKind.u64.wrap (x26*(IntKind.u64.wrap Gr)))+(IntKind.u64.wrap z40)))>x24))then (e2 x24 x22 x25 (IntKind.u64.wrap (x26*(IntKind.u64.wrap Gr))))else (fc Gr Sx x22 x23 x24 x25 (IntKind.u64.wrap ((IntKind.u64.wrap (x26*(IntKind.u64.wrap Gr)))+(IntKind.u64.wrap z40))) x27 x28 (IntKind.i64.wrap (x29+1)) x30)))); let j39:=fun (z31:Bool)=>bif z31 then (fc Gr Sx x22 x23 x24 true x26 x27 x28 (IntKind.i64.wrap (x29+1)) x30)else (let j38:=fun (z32:Bool)=>bif z32 then (j42 (IntKind.u8.wrap ((x30.getD x29.toNat (Ty.bR (.int .u8))) - 48)))else (internal_strconv_lower (x30.getD x29.toNat (Ty.bR (.int .u8))) (fun y33=>bif (decide ((97:Int)≤y33))then (internal_strconv_lower (x30.getD x29.toNat (Ty.bR (.int .u8))) (fun y34=>bif (decide (y34≤(122:Int)))then (internal_strconv_lower (x30.getD x29.toNat (Ty.bR (.int .u8))) (fun y37=>j42 (IntKind.u8.wrap ((IntKind.u8.wrap (y37 - 97))+10))))else (e1 0 x22 x25 x26)))else (e1 0 x22 x25 x26))); bif (decide ((48:Int)≤(x30.getD x29.toNat (Ty.bR (.int .u8)))))then (j38 (decide ((x30.getD x29.toNat (Ty.bR (.int .u8)))≤(57:Int))))else (j38 false)); bif ((x30.getD x29.toNat (Ty.bR (.int .u8)))==95)then (j39 Sx)else (j39 false))))else (e0 x22 x25 x26)
def px (K:Ex→St→Option R) (rc:eB→Option R) (d:eB):Option R:=dG internal_strconv_lower (fun z0 z1 z2 z3 z4 z5 z6 z7 z8 z9 XB=>rc (z0,z1,z2,z3,z4,z5,z6,z7,z8,z9,XB)) d.1 d.2.1 d.2.2.1 d.2.2.2.1 d.2.2.2.2.1 d.2.2.2.2.2.1 d.2.2.2.2.2.2.1 d.2.2.2.2.2.2.2.1 d.2.2.2.2.2.2.2.2.1 d.2.2.2.2.2.2.2.2.2.1 d.2.2.2.2.2.2.2.2.2.2 (jO K) (jP K) (jQ K) (jR K)
def gV:Nat→Option (Hint×dE R):=fun i=>match i with
 | 36=>some (hJ,(dR ft fv (oR aI) lM))
 | _=>none
theorem yq (K:Ex→St→Option R) (rc:St→Option R) (d:eB):roundOf tt (dy (fB internal_strconv_lower bM)) (gV aI) 0 ((aN (bm Tryz.f249)).getD 0 .skip) hJ (jx d) rc K=px internal_strconv_lower K (fun d=>rc (jx d)) d:=by kernel_rfl
def jF (x1:ag) (x2:Int) (x3:Int) (k0:Int→Option R) (k1:Int→Option R) (k2:Int→Option R) (k3:Int→Option R) (k4:Int→Option R):Option R :=
 bif (x1==([]:ag))then (k0 0)else (let j63:=fun (z15:ag) (z16:Int)=>let j62:=fun (z18:Int)=>let j61:=fun (z19:Int)=>cw (decide ((0:Int)≤(IntKind.u64.wrap z18))) (aI (Int.natAbs z16+List.length x1+Int.natAbs z19+Int.natAbs (IntKind.u64.wrap ((IntKind.u64.wrap (1*2 ^ (min ((IntKind.u64.wrap z18).toNat) IntKind.u64.bits))) - 1))+Int.natAbs 0+Int.natAbs (z15.length:Int)+Int.natAbs 0+List.length (gS z15)+64) z16 (x2==0) x1 z19 (IntKind.u64.wrap ((IntKind.u64.wrap (1*2 ^ (min ((IntKind.u64.wrap z18).toNat) IntKind.u64.bits))) - 1)) false 0 z15.length (z15.length:Int) 0 (gS z15) (fun y45 y46 y47=>bif y46 then (bM y45 (fun y59=>bif (!y59)then (k0 0)else (k4 y47)))else (k4 y47)) (fun y48 y49 y50 y51=>k0 y48) (fun y52 y53 y54 y55=>k3 y52) (fun y56 y57 y58=>k3 y56)); bif (z16==10)then (j61 1844674407370955162)else (bif (z16==16)then (j61 1152921504606846976)else (cw (!decide ((IntKind.u64.wrap z16)=0)) (j61 (IntKind.u64.wrap ((IntKind.u64.wrap (Int.tdiv 18446744073709551615 (IntKind.u64.wrap z16)))+1))))); bif (x3==0)then (j62 64)else (bif (decide (x3<(0:Int)))then (k2 0)else (bif (decide (x3>(64:Int)))then (k2 0)else (j62 x3))); let j14:=fun (z4:Bool)=>bif z4 then (j63 x1 x2)else (bif (x2==0)then (cw (decide ((0:Int)<x1.length)) (bif (((x1.getD 0 0).toNat:Int)==48)then (let j13:=fun (z6:Bool)=>bif z6 then (cw (decide ((0:Int)≤(x1.length:Int))&&decide ((x1.length:Int)≤x1.length)) (cw (decide ((2:Int)≤(x1.length:Int))) (j63 ((x1.drop 2).take ((x1.length:Int).toNat - 2)) 2)))else (let j12:=fun (z8:Bool)=>bif z8 then (cw (decide ((0:Int)≤(x1.length:Int))&&decide ((x1.length:Int)≤x1.length)) (cw (decide ((2:Int)≤(x1.length:Int))) (j63 ((x1.drop 2).take ((x1.length:Int).toNat - 2)) 8)))else (let j11:=fun (XB:Bool)=>bif XB then (cw (decide ((0:Int)≤(x1.length:Int))&&decide ((x1.length:Int)≤x1.length)) (cw (decide ((2:Int)≤(x1.length:Int))) (j63 ((x1.drop 2).take ((x1.length:Int).toNat - 2)) 16)))else (cw (decide ((0:Int)≤(x1.length:Int))&&decide ((x1.length:Int)≤x1.length)) (cw (decide ((1:Int)≤(x1.length:Int))) (j63 ((x1.drop 1).take ((x1.length:Int).toNat - 1)) 8))); bif (decide ((x1.length:Int)≥(3:Int)))then (cw (decide ((1:Int)<x1.length)) (internal_strconv_lower ((x1.getD 1 0).toNat:Int) (fun y9=>j11 (y9==120))))else (j11 false)); bif (decide ((x1.length:Int)≥(3:Int)))then (cw (decide ((1:Int)<x1.length)) (internal_strconv_lower ((x1.getD 1 0).toNat:Int) (fun y7=>j12 (y7==111))))else (j12 false)); bif (decide ((x1.length:Int)≥(3:Int)))then (cw (decide ((1:Int)<x1.length)) (internal_strconv_lower ((x1.getD 1 0).toNat:Int) (fun y5=>j13 (y5==98))))else (j13 false))else (j63 x1 10)))else (k1 0)); bif (decide ((2:Int)≤x2))then (j14 (decide (x2≤(36:Int))))else (j14 false))
theorem E8:dD (R:=R) tt (fB internal_strconv_lower bM) (gV aI) false Tryz.f249 nh ni (tp (jF internal_strconv_lower bM aI)):=fun x y k=>by kernel_rfl
end
theorem Ek:cr (R:=R) Tryz.prog (fB (R:=R) internal_strconv_lower bM) := .c (vZ R) <| .c (AE R) <| .n
def aI:jN R
 | 0,_,_,_,_,_,_,_,_,_,_,_,_,_,_,_=>none
 | n+1,jf,jj,jr,ur,Eg,FT,RS,RT,RU,RV,yc,e0,e1,e2,e3=>dG internal_strconv_lower (fun jf jj jr ur Eg FT RS RT RU RV yc=>aI n jf jj jr ur Eg FT RS RT RU RV yc e0 e1 e2 e3) jf jj jr ur Eg FT RS RT RU RV yc e0 e1 e2 e3
def py (K:Ex→St→Option R) (n:Nat) (d:eB):Option R:=aI n d.1 d.2.1 d.2.2.1 d.2.2.2.1 d.2.2.2.2.1 d.2.2.2.2.2.1 d.2.2.2.2.2.2.1 d.2.2.2.2.2.2.2.1 d.2.2.2.2.2.2.2.2.1 d.2.2.2.2.2.2.2.2.2.1 d.2.2.2.2.2.2.2.2.2.2 (jO K) (jP K) (jQ K) (jR K)
theorem AF (other:dE R) (ho:ki tt (dy (fB (R:=R) internal_strconv_lower bM)) (gV (R:=R) aI) 0 ((aN (bm Tryz.f249)).getD 0 .skip) hJ other):ki tt (dy (fB (R:=R) internal_strconv_lower bM)) (gV (R:=R) aI) 0 ((aN (bm Tryz.f249)).getD 0 .skip) hJ (dR ft fv (oR (aI)) other) :=
 ei (A:=py) ho (gd jx (px internal_strconv_lower) (py) (fun _ _=>by kernel_rfl) (yq internal_strconv_lower bM aI) (fun _ _ _=>by kernel_rfl)) pw Bz (fun _ _=>by kernel_rfl) (fun _ _ _=>by kernel_rfl)
def dh:jl R:=fun x1 x2 x3 k0 k1 k2 k3 k4=>jF internal_strconv_lower bM aI x1 x2 x3 k0 k1 k2 k3 k4
theorem BW (R:Type):∀a∈aN (bm Tryz.f249),ji tt (dy (fB (R:=R) internal_strconv_lower bM)) (gV (R:=R) aI) 0 a:=by
 refine gR 1 (by kernel_rfl) fun i hi => ?_
 match i,hi with
 | 0,_=>exact dH (by kernel_rfl) (AF _ fm)
 | n+1,hi=>omega
theorem Dg (R:Type):jT Tryz.prog 249 (uA (dh (R:=R))):=bj TT mixed (Ek (R:=R)) rfl rfl rfl rfl (BW R) (E8 internal_strconv_lower bM aI)
/-! ### strconv.ParseUint -/
abbrev qm (R:Type):Type:=ag→Int→Int→(Int→Option R)→(Int→Option R)→Option R
abbrev yr:List cY := [.leaf (.str), .leaf (.int .i64), .leaf (.int .i64)]
abbrev yt:List aY := []
def E9 (fn:qm R):jU R yr yt:=fun x y k=>fn x.1 x.2.1 x.2.2.1 (fun q0=>k (.tuple [.int .u64 q0, .iface]) []) (fun q0=>k (.tuple [.int .u64 q0, .dJ]) [])
def Gs (fn:qm R):=aC yr yt (E9 fn)
section
variable (dh:jl R)
def Gt:List (lC R) := [(219,true,(toErr_S R 250)),(249,true,(uA dh av))]
def rX (x1:ag) (x2:Int) (x3:Int) (k0:Int→Option R) (k1:Int→Option R):Option R :=
 dh x1 x2 x3 (fun y4=>cw (Nat.beq 250 250&&(2==2||2==1)) (cw (decide (x1.length≤281474976710656)) (k0 y4))) (fun y5=>cw (Nat.beq 250 250&&(3==2||3==1)) (cw (decide (x1.length≤281474976710656)) (k0 y5))) (fun y6=>cw (Nat.beq 250 250&&(4==2||4==1)) (cw (decide (x1.length≤281474976710656)) (k0 y6))) (fun y7=>cw (Nat.beq 250 250&&(1==2||1==1)) (cw (decide (x1.length≤281474976710656)) (k0 y7))) (fun y8=>k1 y8)
theorem PT:dD (R:=R) tt (Gt dh) nK false Tryz.f252 yr yt (E9 (rX dh)):=fun x y k=>by kernel_rfl
end
theorem OP:cr (R:=R) Tryz.prog (Gt (R:=R) dh) := .p (toErr_ok) <| .c (Dg R) <| .n
def fI:qm R:=fun x1 x2 x3 k0 k1=>rX dh x1 x2 x3 k0 k1
theorem MS (R:Type):jT Tryz.prog 252 (Gs (fI (R:=R))):=bj TT mixed (OP (R:=R)) rfl rfl rfl rfl bX (PT dh)
/-! ### (*humpyard/quote.reader).unit -/
abbrev lD (R:Type):Type:=ag→(Int→ag→Option R)→Option R
abbrev qL:List cY := [.leaf (.ptr 0 0)]
abbrev qM:List aY := [.cells [.str]]
def xL (fn:lD R):jU R qL qM:=fun x y k=>fn y.1.1 (fun q0 q1=>k (.int .i32 q0) [.cells [.str q1]])
def zC (fn:lD R):=aC qL qM (xL fn)
section
variable (fI:qm R)
def zD:List (lC R) := [(252,true,(Gs fI av)),(253,true,(ZC R))]
def me (x1:ag) (k0:Int→ag→Option R):Option R :=
 bif (decide ((x1.length:Int)<(4:Int)))then (k0 (-1) x1)else (cw (decide ((4:Int)≤x1.length)) (fI ((x1.drop 0).take (4 - 0)) 16 16 (fun y2=>k0 (-1) x1) (fun y3=>cw (wG ((x1.drop 0).take (4 - 0))&&wG ([43,45,95]:ag)&&decide (((x1.drop 0).take (4 - 0)).length<4294967281)&&decide (([43,45,95]:ag).length<4294967281)) (bif (ZB ((x1.drop 0).take (4 - 0)) ([43,45,95]:ag))then (k0 (-1) x1)else (cw (decide ((0:Int)≤(x1.length:Int))&&decide ((x1.length:Int)≤x1.length)) (cw (decide ((4:Int)≤(x1.length:Int))) (k0 (IntKind.i32.wrap y3) ((x1.drop 4).take ((x1.length:Int).toNat - 4)))))))))
theorem I4:dD (R:=R) tt (zD fI) nK false Tryz.f242 qL qM (xL (me fI)):=fun x y k=>by kernel_rfl
end
theorem HZ:cr (R:=R) Tryz.prog (zD (R:=R) fI) := .c (MS R) <| .p (hasAny_ok) <| .n
def di:lD R:=fun x1 k0=>me fI x1 k0
theorem G5 (R:Type):jT Tryz.prog 242 (zC (di (R:=R))):=bj TT mixed (HZ (R:=R)) rfl rfl rfl rfl bX (I4 fI)
/-! ### (*humpyard/quote.reader).long -/
abbrev lE (R:Type):Type:=ag→(Int→ag→Option R)→Option R
abbrev qN:List cY := [.leaf (.ptr 0 0)]
abbrev qO:List aY := [.cells [.str]]
def xM (fn:lE R):jU R qN qO:=fun x y k=>fn y.1.1 (fun q0 q1=>k (.int .i32 q0) [.cells [.str q1]])
def zE (fn:lE R):=aC qN qO (xM fn)
section
variable (aK:jg R) (di:lD R)
def zF:List (lC R) := [(195,false,(qH aK av)),(242,false,(zC di av))]
def mf (x1:ag) (k0:Int→ag→Option R):Option R :=
 di x1 (fun y2 y3=>bif (decide (y2<(55296:Int)))then (k0 y2 y3)else (bif (decide (y2≥(57344:Int)))then (k0 y2 y3)else (bif (decide (y2≥(56320:Int)))then (k0 (-1) y3)else (aK ([92,117]:ag) y3 (fun y5 y6=>bif (!y5)then (k0 (-1) y6)else (di y6 (fun y9 od=>bif (decide (y9<(56320:Int)))then (k0 (-1) od)else (bif (decide (y9≥(57344:Int)))then (k0 (-1) od)else (k0 (IntKind.i32.wrap ((IntKind.i32.wrap ((IntKind.i32.wrap (65536+(IntKind.i32.wrap ((IntKind.i32.wrap (y2 - 55296))*2 ^ (min 10 IntKind.i32.bits)))))+y9)) - 56320)) od)))))))))
theorem I5:dD (R:=R) tt (zF aK di) nK false Tryz.f221 qN qO (xM (mf aK di)):=fun x y k=>by kernel_rfl
end
theorem H0:cr (R:=R) Tryz.prog (zF (R:=R) aK di) := .d (vY R) rfl <| .d (G5 R) rfl <| .n
def cU:lE R:=fun x1 k0=>mf aK di x1 k0
theorem G6 (R:Type):jT Tryz.prog 221 (zE (cU (R:=R))):=bj TT mixed (H0 (R:=R)) rfl rfl rfl rfl bX (I5 aK di)
/-! ### (*humpyard/quote.reader).escaped -/
abbrev jG (R:Type):Type:=ag→(Int→ag→Option R)→Option R
abbrev nS:List cY := [.leaf (.ptr 0 0)]
abbrev nT:List aY := [.cells [.str]]
def uB (fn:jG R):jU R nS nT:=fun x y k=>fn y.1.1 (fun q0 q1=>k (.int .i32 q0) [.cells [.str q1]])
def v7 (fn:jG R):=aC nS nT (uB fn)
section
variable (cU:lE R)
def v8:List (lC R) := [(221,false,(zE cU av))]
def kb (x1:ag) (k0:Int→ag→Option R):Option R :=
 bif (x1==([]:ag))then (k0 (-1) x1)else (cw (decide ((0:Int)<x1.length)) (cw (decide ((0:Int)≤(x1.length:Int))&&decide ((x1.length:Int)≤x1.length)) (cw (decide ((1:Int)≤(x1.length:Int))) (let j5:=fun (z2:Bool)=>bif z2 then (k0 (IntKind.i32.wrap ((x1.getD 0 0).toNat:Int)) ((x1.drop 1).take ((x1.length:Int).toNat - 1)))else (bif (((x1.getD 0 0).toNat:Int)==98)then (k0 8 ((x1.drop 1).take ((x1.length:Int).toNat - 1)))else (bif (((x1.getD 0 0).toNat:Int)==102)then (k0 12 ((x1.drop 1).take ((x1.length:Int).toNat - 1)))else (bif (((x1.getD 0 0).toNat:Int)==110)then (k0 10 ((x1.drop 1).take ((x1.length:Int).toNat - 1)))else (bif (((x1.getD 0 0).toNat:Int)==114)then (k0 13 ((x1.drop 1).take ((x1.length:Int).toNat - 1)))else (bif (((x1.getD 0 0).toNat:Int)==116)then (k0 9 ((x1.drop 1).take ((x1.length:Int).toNat - 1)))else (bif (((x1.getD 0 0).toNat:Int)==117)then (cU ((x1.drop 1).take ((x1.length:Int).toNat - 1)) (fun y3 y4=>k0 y3 y4))else (k0 (-1) ((x1.drop 1).take ((x1.length:Int).toNat - 1))))))))); bif (((x1.getD 0 0).toNat:Int)==34)then (j5 (((x1.getD 0 0).toNat:Int)==34))else (bif (((x1.getD 0 0).toNat:Int)==92)then (j5 (((x1.getD 0 0).toNat:Int)==92))else (j5 (((x1.getD 0 0).toNat:Int)==47)))))))
theorem F3:dD (R:=R) tt (v8 cU) nK false Tryz.f197 nS nT (uB (kb cU)):=fun x y k=>by kernel_rfl
end
theorem Fa:cr (R:=R) Tryz.prog (v8 (R:=R) cU) := .d (G6 R) rfl <| .n
def bq:jG R:=fun x1 k0=>kb cU x1 k0
theorem El (R:Type):jT Tryz.prog 197 (v7 (bq (R:=R))):=bj TT mixed (Fa (R:=R)) rfl rfl rfl rfl bX (F3 cU)
/-! ### (*humpyard/quote.reader).plain -/
abbrev kL (R:Type):Type:=ag→(Int→ag→Option R)→Option R
abbrev pA:List cY := [.leaf (.ptr 0 0)]
abbrev pB:List aY := [.cells [.str]]
def wP (fn:kL R):jU R pA pB:=fun x y k=>fn y.1.1 (fun q0 q1=>k (.int .i32 q0) [.cells [.str q1]])
def xN (fn:kL R):=aC pA pB (wP fn)
section
def xO:List (lC R) := [(184,true,(dec_S R))]
def lF (x1:ag) (k0:Int→ag→Option R):Option R :=
 let j3:=cw (decide ((0:Int)≤(x1.length:Int))&&decide ((x1.length:Int)≤x1.length)) (cw (decide ((0:Int)≤((o5 x1).2:Int))&&decide (((o5 x1).2:Int)≤(x1.length:Int))) (k0 ((o5 x1).1:Int) ((x1.drop ((o5 x1).2:Int).toNat).take ((x1.length:Int).toNat - ((o5 x1).2:Int).toNat)))); bif (((o5 x1).1:Int)==65533)then (bif (decide (((o5 x1).2:Int)<(2:Int)))then (k0 (-1) x1)else (bif (decide (((o5 x1).1:Int)<(32:Int)))then (k0 (-1) x1)else (j3)))else (bif (decide (((o5 x1).1:Int)<(32:Int)))then (k0 (-1) x1)else (j3))
theorem H2:dD (R:=R) tt (xO (R:=R)) nK false Tryz.f196 pA pB (wP lF):=fun x y k=>by kernel_rfl
end
theorem G7:cr (R:=R) Tryz.prog (xO (R:=R)) := .p (dec_ok) <| .n
def bV:kL R:=fun x1 k0=>lF x1 k0
theorem F4 (R:Type):jT Tryz.prog 196 (xN (bV (R:=R))):=bj TT mixed (G7 (R:=R)) rfl rfl rfl rfl bX (H2)
end Go.Proofs.YtidfokedcnhahaaGreatDoor
/-
 Functions of the program as pure Lean functions, and the ties; printed by wip/tools/emit.py.
-/
set_option maxRecDepth 100000
namespace Go.Proofs.YtidfokedcnhahaaGreatDoor
open Go Go.aq
variable {R:Type}
/-! ### humpyard/quote.Unquote -/
abbrev xy (R:Type):Type:=ag→(ag→Int→Bool→Option R)→Option R
abbrev F5:List cY := [.leaf (.str)]
abbrev F6:List aY := []
def Lq (fn:xy R):jU R F5 F6:=fun x y k=>fn x.1 (fun q0 q1 q2=>k (.tuple [.str q0, .int .i64 q1, .bool q2]) [])
def On (fn:xy R):=aC F5 F6 (Lq fn)
abbrev wQ (R:Type):Type:=Nat→ag→ag→(List Int)→(ag→ag→(List Int)→Option R)→(ag→ag→Int→Bool→ag→(List Int)→Option R)→Option R
def rY:Hint := { live := [0,5,6],own := [],rows := [],cells := [(1,1,(.int .u8),false)],drop := [],out := [0,2,3,4,5,6] }
abbrev lh:Type:=ag×ag×(List Int)
def uZ:lh→St:=fun d=>⟨.str d.1::U 4 (.ptr 0 0 :: .ptr 1 0::U 32 ([])), [.cells [.str d.2.1], .mE (.sl (.int .u8) d.2.2 (.own 2)), .tok]⟩
def wR (K:Ex→St→Option R) (q0:ag) (q1:ag) (q2:List Int):Option R:=K (.exit 0) ⟨.str q0::U 4 (.ptr 0 0 :: .ptr 1 0::U 32 ([])), [.cells [.str q1], .mE (.sl (.int .u8) q2 (.own 2)), .tok]⟩
def wS (K:Ex→St→Option R) (q0:ag) (q1:ag) (q2:Int) (q3:Bool) (q4:ag) (q5:List Int):Option R:=K (.ret) ⟨.str q0 :: .undef :: .str q1 :: .int .i64 q2 :: .bool q3 :: .ptr 0 0 :: .ptr 1 0::U 32 ([]), [.cells [.str q4], .mE (.sl (.int .u8) q5 (.own 2)), .tok]⟩
abbrev nD:List cY := .leaf (.str)::PU 4 (.leaf (.ptr 0 0) :: .leaf (.ptr 1 0)::PU 32 ([]))
abbrev nE:List aY := [.cells [.str], .mE (.Yn (.int .u8) 2), .tok]
def Gu (x:cY.cD nD) (y:aY.cD nE):Nat:=(List.length x.1+List.length y.1.1+List.length y.2.1+64)
def RY (x:cY.cD nD) (y:aY.cD nE):lh:=(x.1,y.1.1,y.2.1)
def Fb (L:wQ R):Ed R nD nE:=fun x y K=>L (Gu x y) x.1 y.1.1 y.2.1 (wR K) (wS K)
section
variable (ak:fq R) (aK:jg R) (bV:kL R) (bq:jG R) (bw:wQ R)
def pL:List (lC R) := [(170,false,(kF ak av)),(84,false,(MH R)),(195,false,(qH aK av)),(196,false,(xN bV av)),(197,false,(v7 bq av))]
def rZ (fc:ag→ag→(List Int)→Option R) (x4:ag) (x5:ag) (x6:List Int) (e0:ag→ag→(List Int)→Option R) (e1:ag→ag→Int→Bool→ag→(List Int)→Option R):Option R :=
 aK ([34]:ag) x5 (fun y7 y8=>bif (!y7)then (aK ([92]:ag) y8 (fun y9 od=>bif y9 then (bq od (fun ug zj=>bif (decide (ug<(0:Int)))then (e1 x4 ([]:ag) 0 false zj x6)else (ak ug x6 (fun FW Gm=>fc x4 zj Gm))))else (bV od (fun Ej Ar=>bif (decide (Ej<(0:Int)))then (e1 x4 ([]:ag) 0 false Ar x6)else (ak Ej x6 (fun K2 J9=>fc x4 Ar J9))))))else (e0 x4 y8 x6))
def Gv (K:Ex→St→Option R) (rc:lh→Option R) (d:lh):Option R:=rZ ak aK bV bq (fun z0 z1 z2=>rc (z0,z1,z2)) d.1 d.2.1 d.2.2 (wR K) (wS K)
def uC:Nat→Option (Hint×dE R):=fun i=>match i with
 | 5=>some (rY,(dR nD nE (Fb bw) lM))
 | _=>none
theorem MT (K:Ex→St→Option R) (rc:St→Option R) (d:lh):roundOf tt (dy (pL ak aK bV bq)) (uC bw) 0 ((aN (bm Tryz.f158)).getD 0 .skip) rY (uZ d) rc K=Gv ak aK bV bq K (fun d=>rc (uZ d)) d:=by kernel_rfl
def Ac (x1:ag) (k0:ag→Int→Bool→Option R):Option R :=
 aK ([34]:ag) x1 (fun y2 y3=>bif (!y2)then (k0 ([]:ag) 0 false)else (bw (List.length x1+List.length y3+List.length ([]:List Int)+64) x1 y3 ([]:List Int) (fun Pz Li C6=>k0 (wm C6) (IntKind.i64.wrap ((Pz.length:Int) - (Li.length:Int))) true) (fun Yr Sn y24 AY I1 FJ=>k0 Sn y24 AY)))
theorem Wc:dD (R:=R) tt (pL ak aK bV bq) (uC bw) false Tryz.f158 F5 F6 (Lq (Ac aK bw)):=fun x y k=>by kernel_rfl
end
theorem UM:cr (R:=R) Tryz.prog (pL (R:=R) ak aK bV bq) := .d (om R) rfl <| .s (Yq) Rt <| .d (vY R) rfl <| .d (F4 R) rfl <| .d (El R) rfl <| .n
def bw:wQ R
 | 0,_,_,_,_,_=>none
 | n+1,jf,jj,jr,e0,e1=>rZ ak aK bV bq (fun jf jj jr=>bw n jf jj jr e0 e1) jf jj jr e0 e1
def Gw (K:Ex→St→Option R) (n:Nat) (d:lh):Option R:=bw n d.1 d.2.1 d.2.2 (wR K) (wS K)
theorem PV (other:dE R) (ho:ki tt (dy (pL (R:=R) ak aK bV bq)) (uC (R:=R) bw) 0 ((aN (bm Tryz.f158)).getD 0 .skip) rY other):ki tt (dy (pL (R:=R) ak aK bV bq)) (uC (R:=R) bw) 0 ((aN (bm Tryz.f158)).getD 0 .skip) rY (dR nD nE (Fb (bw)) other) :=
 ei (A:=Gw) ho (gd uZ (Gv ak aK bV bq) (Gw) (fun _ _=>by kernel_rfl) (MT ak aK bV bq bw) (fun _ _ _=>by kernel_rfl)) Gu RY (fun _ _=>by kernel_rfl) (fun _ _ _=>by kernel_rfl)
def fW:xy R:=fun x1 k0=>Ac aK bw x1 k0
theorem RZ (R:Type):∀a∈aN (bm Tryz.f158),ji tt (dy (pL (R:=R) ak aK bV bq)) (uC (R:=R) bw) 0 a:=by
 refine gR 1 (by kernel_rfl) fun i hi => ?_
 match i,hi with
 | 0,_=>exact dH (by kernel_rfl) (PV _ fm)
 | n+1,hi=>omega
theorem Tr (R:Type):jT Tryz.prog 158 (On (fW (R:=R))):=bj TT mixed (UM (R:=R)) rfl rfl rfl rfl (RZ R) (Wc ak aK bV bq bw)
/-! ### humpyard/lexer.next -/
abbrev EN (R:Type):Type:=ag→(Token→Int→Option R)→Option R
abbrev MU:List cY := [.leaf (.str)]
abbrev MV:List aY := []
def Sy (fn:EN R):jU R MU MV:=fun x y k=>fn x.1 (fun q0 q1=>k (.tuple [.agg [.int .i64 q0.kind, .str q0.text, .int .i64 q0.num.ao, .int .i64 q0.num.exp, .int .i64 q0.at_], .int .i64 q1]) [])
def UN (fn:EN R):=aC MU MV (Sy fn)
section
variable (fW:xy R) (er:xw R) (cP:wN R)
def UO:List (lC R) := [(158,true,(On fW av)),(157,true,(Ol er av)),(159,true,(idx_S R)),(118,true,(Kj cP av))]
def G8 (x1:ag) (k0:Token→Int→Option R):Option R :=
 cw (decide ((0:Int)<x1.length)) (let j25:=cP x1 ([97,98,99,100,101,102,103,104,105,106,107,108,109,110,111,112,113,114,115,116,117,118,119,120,121,122]:ag) (fun C6=>bif (C6==([116,114,117,101]:ag))then (k0 (⟨4,C6,⟨0,0⟩,0⟩:Token) (C6.length:Int))else (bif (C6==([102,97,108,115,101]:ag))then (k0 (⟨4,C6,⟨0,0⟩,0⟩:Token) (C6.length:Int))else (bif (!(C6==([110,117,108,108]:ag)))then (k0 (⟨0,([]:ag),⟨0,0⟩,0⟩:Token) 0)else (k0 (⟨4,C6,⟨0,0⟩,0⟩:Token) (C6.length:Int))))); bif (((x1.getD 0 0).toNat:Int)==45)then (cP x1 ([48,49,50,51,52,53,54,55,56,57,43,45,46,101,69]:ag) (fun y6=>er y6 (fun y7 y8=>bif (!y8)then (k0 (⟨0,([]:ag),⟨0,0⟩,0⟩:Token) 0)else (k0 (⟨3,y6,⟨y7.ao,y7.exp⟩,0⟩:Token) (y6.length:Int)))))else (bif (decide (((x1.getD 0 0).toNat:Int)≥(48:Int)))then (bif (decide (((x1.getD 0 0).toNat:Int)≤(57:Int)))then (cP x1 ([48,49,50,51,52,53,54,55,56,57,43,45,46,101,69]:ag) (fun y9=>er y9 (fun od ug=>bif (!ug)then (k0 (⟨0,([]:ag),⟨0,0⟩,0⟩:Token) 0)else (k0 (⟨3,y9,⟨od.ao,od.exp⟩,0⟩:Token) (y9.length:Int)))))else (bif (((x1.getD 0 0).toNat:Int)==34)then (fW x1 (fun Ej Ar K2=>bif (!K2)then (k0 (⟨0,([]:ag),⟨0,0⟩,0⟩:Token) 0)else (k0 (⟨2,Ej,⟨0,0⟩,0⟩:Token) Ar)))else (bif (decide ((EI ([123,125,91,93,44,58]:ag) ((x1.getD 0 0).toNat:Int))≥(0:Int)))then (cw (decide ((1:Int)≤x1.length)) (k0 (⟨1,((x1.drop 0).take (1 - 0)),⟨0,0⟩,0⟩:Token) 1))else (j25))))else (bif (((x1.getD 0 0).toNat:Int)==34)then (fW x1 (fun J9 Pz Li=>bif (!Li)then (k0 (⟨0,([]:ag),⟨0,0⟩,0⟩:Token) 0)else (k0 (⟨2,J9,⟨0,0⟩,0⟩:Token) Pz)))else (bif (decide ((EI ([123,125,91,93,44,58]:ag) ((x1.getD 0 0).toNat:Int))≥(0:Int)))then (cw (decide ((1:Int)≤x1.length)) (k0 (⟨1,((x1.drop 0).take (1 - 0)),⟨0,0⟩,0⟩:Token) 1))else (j25)))))
theorem lexer_next_ok:dD (R:=R) tt (UO fW er cP) nK false Tryz.f119 MU MV (Sy (G8 fW er cP)):=fun x y k=>by kernel_rfl
end
theorem ZP:cr (R:=R) Tryz.prog (UO (R:=R) fW er cP) := .c (Tr R) <| .c (Tq R) <| .p (idx_ok) <| .c (Lo R) <| .n
def hM:EN R:=fun x1 k0=>G8 fW er cP x1 k0
theorem XM (R:Type):jT Tryz.prog 119 (UN (hM (R:=R))):=bj TT mixed (ZP (R:=R)) rfl rfl rfl rfl bX (lexer_next_ok fW er cP)
/-! ### humpyard/lexer.Scan -/
abbrev EO (R:Type):Type:=ag→((List Token)→Int→Int→Option R)→Option R
abbrev MW:List cY := [.leaf (.str)]
abbrev MX:List aY := []
def Sz (fn:EO R):jU R MW MX:=fun x y k=>fn x.1 (fun q0 q1 q2=>k (.tuple [.sl .token q0 .no, .int .i64 q1, .int .i64 q2]) [])
def UP (fn:EO R):=aC MW MX (Sz fn)
abbrev BX (R:Type):Type:=Nat→ag→(List Token)→Int→((List Token)→Int→Int→Option R)→(Int→Int→Option R)→Option R
def xA:Hint := { live := [0,2,4],own := [(2, .token)],rows := [],cells := [],drop := [],out := [2,3,4] }
abbrev ow:Type:=ag×(List Token)×Int
def AG:ow→St:=fun d=>⟨.str d.1 :: .undef :: .sl .token d.2.1 (.own 0) :: .undef :: .int .i64 d.2.2::U 40 ([]), [.tok]⟩
def BY (K:Ex→St→Option R) (q0:List Token) (q1:Int) (q2:Int):Option R:=K (.ret) ⟨U 2 (.sl .token q0 (.own 0) :: .int .i64 q1 :: .int .i64 q2::U 40 ([])), [.tok]⟩
def BZ (K:Ex→St→Option R) (q0:Int) (q1:Int):Option R:=K (.ret) ⟨U 2 (.cx :: .int .i64 q0 :: .int .i64 q1::U 40 ([])), []⟩
abbrev sq:List cY := .leaf (.str) :: .leaf (.undef) :: .leaf (.Yn .token 0) :: .leaf (.undef) :: .leaf (.int .i64)::PU 40 ([])
abbrev sr:List aY := [.tok]
def Lr (x:cY.cD sq) (y:aY.cD sr):Nat:=(List.length x.1+List.length x.2.2.1+Int.natAbs x.2.2.2.2.1+64)
def Wd (x:cY.cD sq) (y:aY.cD sr):ow:=(x.1,x.2.2.1,x.2.2.2.2.1)
def JG (L:BX R):Ed R sq sr:=fun x y K=>L (Lr x y) x.1 x.2.2.1 x.2.2.2.2.1 (BY K) (BZ K)
section
variable (hM:EN R) (cP:wN R) (cZ:BX R)
def xB:List (lC R) := [(119,true,(UN hM av)),(118,true,(Kj cP av))]
def Em (fc:ag→(List Token)→Int→Option R) (x2:ag) (x3:List Token) (x4:Int) (e0:(List Token)→Int→Int→Option R) (e1:Int→Int→Option R):Option R :=
 cw (decide ((0:Int)≤(x2.length:Int))&&decide ((x2.length:Int)≤x2.length)) (cw (decide ((0:Int)≤x4)&&decide (x4≤(x2.length:Int))) (cP ((x2.drop x4.toNat).take ((x2.length:Int).toNat - x4.toNat)) ([32,9,10,13]:ag) (fun y5=>bif ((IntKind.i64.wrap (x4+(y5.length:Int)))==(x2.length:Int))then (cw (decide ((x3.length+1)*48≤140737488355328)) (e0 (x3++([(⟨5,([]:ag),⟨0,0⟩,(IntKind.i64.wrap (x4+(y5.length:Int)))⟩:Token)]:List Token)) 0 0))else (cw (decide ((0:Int)≤(x2.length:Int))&&decide ((x2.length:Int)≤x2.length)) (cw (decide ((0:Int)≤(IntKind.i64.wrap (x4+(y5.length:Int))))&&decide ((IntKind.i64.wrap (x4+(y5.length:Int)))≤(x2.length:Int))) (hM ((x2.drop (IntKind.i64.wrap (x4+(y5.length:Int))).toNat).take ((x2.length:Int).toNat - (IntKind.i64.wrap (x4+(y5.length:Int))).toNat)) (fun y6 y7=>bif (y7==0)then (e1 30 (IntKind.i64.wrap (x4+(y5.length:Int))))else (cw (decide ((x3.length+1)*48≤140737488355328)) (fc x2 (x3++([(⟨y6.kind,y6.text,⟨y6.num.ao,y6.num.exp⟩,(IntKind.i64.wrap (x4+(y5.length:Int)))⟩:Token)]:List Token)) (IntKind.i64.wrap ((IntKind.i64.wrap (x4+(y5.length:Int)))+y7)))))))))))
def Ls (K:Ex→St→Option R) (rc:ow→Option R) (d:ow):Option R:=Em hM cP (fun z0 z1 z2=>rc (z0,z1,z2)) d.1 d.2.1 d.2.2 (BY K) (BZ K)
def B0:Nat→Option (Hint×dE R):=fun i=>match i with
 | 3=>some (xA,(dR sq sr (JG cZ) lM))
 | _=>none
theorem R0 (K:Ex→St→Option R) (rc:St→Option R) (d:ow):roundOf tt (dy (xB hM cP)) (B0 cZ) 0 ((aN (bm Tryz.f79)).getD 0 .skip) xA (AG d) rc K=Ls hM cP K (fun d=>rc (AG d)) d:=by kernel_rfl
def G9 (x1:ag) (k0:(List Token)→Int→Int→Option R):Option R :=
 bif (decide ((x1.length:Int)>(20000:Int)))then (k0 ([]:List Token) 30 0)else (cZ (List.length x1+List.length ([]:List Token)+Int.natAbs 0+64) x1 ([]:List Token) 0 (fun y8 y9 od=>k0 y8 y9 od) (fun ug zj=>k0 ([]:List Token) ug zj))
theorem lexer_Scan_ok:dD (R:=R) tt (xB hM cP) (B0 cZ) false Tryz.f79 MW MX (Sz (G9 cZ)):=fun x y k=>by kernel_rfl
end
theorem ZQ:cr (R:=R) Tryz.prog (xB (R:=R) hM cP) := .c (XM R) <| .c (Lo R) <| .n
def cZ:BX R
 | 0,_,_,_,_,_=>none
 | n+1,jf,jj,jr,e0,e1=>Em hM cP (fun jf jj jr=>cZ n jf jj jr e0 e1) jf jj jr e0 e1
def Lt (K:Ex→St→Option R) (n:Nat) (d:ow):Option R:=cZ n d.1 d.2.1 d.2.2 (BY K) (BZ K)
theorem UQ (other:dE R) (ho:ki tt (dy (xB (R:=R) hM cP)) (B0 (R:=R) cZ) 0 ((aN (bm Tryz.f79)).getD 0 .skip) xA other):ki tt (dy (xB (R:=R) hM cP)) (B0 (R:=R) cZ) 0 ((aN (bm Tryz.f79)).getD 0 .skip) xA (dR sq sr (JG (cZ)) other) :=
 ei (A:=Lt) ho (gd AG (Ls hM cP) (Lt) (fun _ _=>by kernel_rfl) (R0 hM cP cZ) (fun _ _ _=>by kernel_rfl)) Lr Wd (fun _ _=>by kernel_rfl) (fun _ _ _=>by kernel_rfl)
def nj:EO R:=fun x1 k0=>G9 cZ x1 k0
theorem We (R:Type):∀a∈aN (bm Tryz.f79),ji tt (dy (xB (R:=R) hM cP)) (B0 (R:=R) cZ) 0 a:=by
 refine gR 1 (by kernel_rfl) fun i hi => ?_
 match i,hi with
 | 0,_=>exact dH (by kernel_rfl) (UQ _ fm)
 | n+1,hi=>omega
theorem XO (R:Type):jT Tryz.prog 79 (UP (nj (R:=R))):=bj TT mixed (ZQ (R:=R)) rfl rfl rfl rfl (We R) (lexer_Scan_ok hM cP cZ)
/-! ### (*humpyard/json.parser).fail -/
abbrev fX (R:Type):Type:=Int→(List Token)→Int→((List Token)→Int→Option R)→Option R
abbrev ss:List cY := [.leaf (.ptr 0 0), .leaf (.int .i64)]
abbrev su:List aY := [.cells [.sl .token, .int .i64]]
def zG (fn:fX R):jU R ss su:=fun x y k=>fn x.2.1 y.1.1 y.1.2.1 (fun q0 q1=>k (.tuple []) [.cells [.sl .token q0 .no, .int .i64 q1]])
def jV (fn:fX R):=aC ss su (zG fn)
section
def AZ (x1:Int) (x2:List Token) (x3:Int) (k0:(List Token)→Int→Option R):Option R :=
 bif (x3==0)then (k0 x2 x1)else (k0 x2 x3)
theorem Kk:dD (R:=R) (tt.mode [.json]) [] nK false Tryz.f81 ss su (zG AZ):=fun x y k=>by kernel_rfl
end
def au:fX R:=fun x1 x2 x3 k0=>AZ x1 x2 x3 k0
theorem kM (R:Type):jT Tryz.prog 81 (jV (au (R:=R))):=bj (TT.mode [.json]) mixed .n rfl rfl rfl rfl bX (Kk)
/-! ### (*humpyard/json.parser).sign -/
abbrev jy (R:Type):Type:=ag→(List Token)→Int→(Bool→(List Token)→Int→Option R)→Option R
abbrev sv:List cY := [.leaf (.ptr 0 0), .leaf (.str)]
abbrev sw:List aY := [.cells [.sl .token, .int .i64]]
def zH (fn:jy R):jU R sv sw:=fun x y k=>fn x.2.1 y.1.1 y.1.2.1 (fun q0 q1 q2=>k (.bool q0) [.cells [.sl .token q1 .no, .int .i64 q2]])
def sA (fn:jy R):=aC sv sw (zH fn)
section
def A0 (x1:ag) (x2:List Token) (x3:Int) (k0:Bool→(List Token)→Int→Option R):Option R :=
 cw (decide ((0:Int)<x2.length)) (bif (x3 != 0)then (k0 false x2 x3)else (bif ((x2.getD 0 (Ty.bR .token)).kind != 1)then (k0 false x2 x3)else (bif (!((x2.getD 0 (Ty.bR .token)).text==x1))then (k0 false x2 x3)else (cw (decide ((1:Int)≤x2.length)) (k0 true (x2.drop 1) x3)))))
theorem Kl:dD (R:=R) (tt.mode [.json]) [] nK false Tryz.f199 sv sw (zH A0):=fun x y k=>by kernel_rfl
end
def ax:jy R:=fun x1 x2 x3 k0=>A0 x1 x2 x3 k0
theorem wT (R:Type):jT Tryz.prog 199 (sA (ax (R:=R))):=bj (TT.mode [.json]) mixed .n rfl rfl rfl rfl bX (Kl)
/-! ### (*humpyard/json.parser).name -/
abbrev mg (R:Type):Type:=(List ag)→(List Token)→Int→(ag→(List Token)→Int→Option R)→Option R
abbrev sB:List cY := [.leaf (.ptr 0 0), .leaf (.Yn .str 1)]
abbrev sC:List aY := [.cells [.sl .token, .int .i64], .tok]
def zI (fn:mg R):jU R sB sC:=fun x y k=>fn x.2.1 y.1.1 y.1.2.1 (fun q0 q1 q2=>k (.str q0) [.cells [.sl .token q1 .no, .int .i64 q2], .tok])
def A1 (fn:mg R):=aC sB sC (zI fn)
section
variable (au:fX R) (ax:jy R) (aB:gh R)
def A2:List (lC R) := [(81,false,(jV au av)),(199,false,(sA ax av)),(85,true,(lQ aB av))]
def A3 (x1:List ag) (x2:List Token) (x3:Int) (k0:ag→(List Token)→Int→Option R):Option R :=
 cw (decide ((0:Int)<x2.length)) (bif ((x2.getD 0 (Ty.bR .token)).kind != 2)then (au 40 x2 x3 (fun y4 y5=>k0 ((x2.getD 0 (Ty.bR .token)).text) y4 y5))else (aB x1 ((x2.getD 0 (Ty.bR .token)).text) (fun y6=>bif y6 then (au 42 x2 x3 (fun y7 y8=>k0 ((x2.getD 0 (Ty.bR .token)).text) y7 y8))else (cw (decide ((1:Int)≤x2.length)) (ax ([58]:ag) (x2.drop 1) x3 (fun y9 od ug=>bif (!y9)then (au 40 od ug (fun zj FW=>k0 ((x2.getD 0 (Ty.bR .token)).text) zj FW))else (k0 ((x2.getD 0 (Ty.bR .token)).text) od ug)))))))
theorem Km:dD (R:=R) (tt.mode [.json]) (A2 au ax aB) nK false Tryz.f162 sB sC (zI (A3 au ax aB)):=fun x y k=>by kernel_rfl
end
theorem I6:cr (R:=R) Tryz.prog (A2 (R:=R) au ax aB) := .d (kM R) rfl <| .d (wT R) rfl <| .c (pj R) <| .n
def da:mg R:=fun x1 x2 x3 k0=>A3 au ax aB x1 x2 x3 k0
theorem H3 (R:Type):jT Tryz.prog 162 (A1 (da (R:=R))):=bj (TT.mode [.json]) mixed (I6 (R:=R)) rfl rfl rfl rfl bX (Km au ax aB)
end Go.Proofs.YtidfokedcnhahaaGreatDoor
/-
 Functions of the program as pure Lean functions, and the ties; printed by wip/tools/emit.py.
-/
set_option maxRecDepth 100000
namespace Go.Proofs.YtidfokedcnhahaaGreatDoor
open Go Go.aq
variable {R:Type}
/-! ### (*humpyard/json.parser).value -/
abbrev aD (R:Type):Type:=Int→(List Token)→Int→(Json→(List Token)→Int→Option R)→Option R
abbrev ct:List cY := [.leaf (.ptr 0 0), .leaf (.int .i64)]
abbrev cu:List aY := [.cells [.sl .token, .int .i64]]
def bK (fn:aD R):jU R ct cu:=fun x y k=>fn x.2.1 y.1.1 y.1.2.1 (fun q0 q1 q2=>k (.agg [.int .i64 q0.kind, .int .i64 q0.num.ao, .int .i64 q0.num.exp, .str q0.text, .sl .str q0.names .no, .sl .json q0.items .no]) [.cells [.sl .token q1 .no, .int .i64 q2]])
def zJ (fn:aD R):=aC ct cu (bK fn)
/-! ### (*humpyard/json.parser).parts$1 -/
abbrev ke (R:Type):Type:=Bool→Int→Int→Int→ag→(List ag)→Nat→Int→(List Json)→(List Token)→Int→(Bool→Int→Int→Int→ag→(List ag)→Nat→Int→(List Token)→Int→(List Json)→Option R)→(Bool→Int→Int→Int→ag→(List ag)→Nat→Int→(List Json)→(List Token)→Int→Option R)→(Bool→Int→Int→Int→ag→(List ag)→Nat→Int→(List Token)→Int→(List Json)→Option R)→(Bool→Int→Int→Int→ag→(List ag)→Nat→Int→(List Json)→(List Token)→Int→Option R)→Option R
abbrev oS:List cY := [.leaf (.ptr 0 0), .leaf (.ptr 1 0), .leaf (.ptr 2 0), .leaf (.ptr 3 0)]
abbrev oT:List aY := [.cells [.bool], .cells [.int .i64, .int .i64, .int .i64, .str, .Yn .str 4, .row 5], .cells [.ptr 6 0], .cells [.int .i64], .tok, .row .json, .cells [.sl .token, .int .i64]]
def wa (fn:ke R):jU R oS oT:=fun x y k=>fn y.1.1 y.2.1.1 y.2.1.2.1 y.2.1.2.2.1 y.2.1.2.2.2.1 y.2.1.2.2.2.2.1 y.2.1.2.2.2.2.2.1 y.2.2.2.1.1 y.2.2.2.2.2.1 y.2.2.2.2.2.2.1.1 y.2.2.2.2.2.2.1.2.1 (fun q0 q1 q2 q3 q4 q5 q6 q7 q8 q9 q10=>k (.tuple []) [.cells [.bool q0], .cells [.int .i64 q1, .int .i64 q2, .int .i64 q3, .str q4, .sl .str q5 (.own 7), .row 8 q6], .cells [.ptr 6 0], .cells [.int .i64 q7], .dead, .dead, .cells [.sl .token q8 .no, .int .i64 q9], .tok, .row .json q10]) (fun q0 q1 q2 q3 q4 q5 q6 q7 q8 q9 q10=>k (.tuple []) [.cells [.bool q0], .cells [.int .i64 q1, .int .i64 q2, .int .i64 q3, .str q4, .sl .str q5 (.own 7), .row 5 q6], .cells [.ptr 6 0], .cells [.int .i64 q7], .dead, .row .json q8, .cells [.sl .token q9 .no, .int .i64 q10], .tok]) (fun q0 q1 q2 q3 q4 q5 q6 q7 q8 q9 q10=>k (.tuple []) [.cells [.bool q0], .cells [.int .i64 q1, .int .i64 q2, .int .i64 q3, .str q4, .sl .str q5 (.own 4), .row 7 q6], .cells [.ptr 6 0], .cells [.int .i64 q7], .tok, .dead, .cells [.sl .token q8 .no, .int .i64 q9], .row .json q10]) (fun q0 q1 q2 q3 q4 q5 q6 q7 q8 q9 q10=>k (.tuple []) [.cells [.bool q0], .cells [.int .i64 q1, .int .i64 q2, .int .i64 q3, .str q4, .sl .str q5 (.own 4), .row 5 q6], .cells [.ptr 6 0], .cells [.int .i64 q7], .tok, .row .json q8, .cells [.sl .token q9 .no, .int .i64 q10]])
def wU (fn:ke R):=aC oS oT (wa fn)
section
variable (da:mg R) (ah:aD R)
def wV:List (lC R) := [(162,false,(A1 da av)),(80,false,(aC ct cu (bK ah) av))]
def eF (x1:Bool) (x2:Int) (x3:Int) (x4:Int) (x5:ag) (x6:List ag) (x7:Nat) (x8:Int) (x9:List Json) (x10:List Token) (x11:Int) (k0:Bool→Int→Int→Int→ag→(List ag)→Nat→Int→(List Token)→Int→(List Json)→Option R) (k1:Bool→Int→Int→Int→ag→(List ag)→Nat→Int→(List Json)→(List Token)→Int→Option R) (k2:Bool→Int→Int→Int→ag→(List ag)→Nat→Int→(List Token)→Int→(List Json)→Option R) (k3:Bool→Int→Int→Int→ag→(List ag)→Nat→Int→(List Json)→(List Token)→Int→Option R):Option R :=
 bif x1 then (da x6 x10 x11 (fun zj FW Gm=>cw (decide ((x6.length+1)*16≤140737488355328)) (bif (Gm==0)then (ah (IntKind.i64.wrap (x8+1)) FW Gm (fun Ej Ar K2=>cw (decide ((x9.length+1)*88≤140737488355328)) (cw (decide ((0:Int)≤(x7:Int))&&decide ((x7:Int)<(x9.length+1))) (cw (decide ((x7:Int).toNat<(x9++([(⟨0,⟨0,0⟩,([]:ag),([]:List ag),([]:List Json)⟩:Json)]:List Json)).length)) (k0 x1 x2 x3 x4 x5 (x6++([zj]:List ag)) (x9.length+1) x8 Ar K2 ((x9++([(⟨0,⟨0,0⟩,([]:ag),([]:List ag),([]:List Json)⟩:Json)]:List Json)).set ((x7:Int).toNat) (⟨Ej.kind,⟨Ej.num.ao,Ej.num.exp⟩,Ej.text,Ej.names,Ej.items⟩:Json)))))))else (k1 x1 x2 x3 x4 x5 (x6++([zj]:List ag)) x7 x8 x9 FW Gm))))else (bif (x11==0)then (ah (IntKind.i64.wrap (x8+1)) x10 x11 (fun J9 Pz Li=>cw (decide ((x9.length+1)*88≤140737488355328)) (cw (decide ((0:Int)≤(x7:Int))&&decide ((x7:Int)<(x9.length+1))) (cw (decide ((x7:Int).toNat<(x9++([(⟨0,⟨0,0⟩,([]:ag),([]:List ag),([]:List Json)⟩:Json)]:List Json)).length)) (k2 x1 x2 x3 x4 x5 x6 (x9.length+1) x8 Pz Li ((x9++([(⟨0,⟨0,0⟩,([]:ag),([]:List ag),([]:List Json)⟩:Json)]:List Json)).set ((x7:Int).toNat) (⟨J9.kind,⟨J9.num.ao,J9.num.exp⟩,J9.text,J9.names,J9.items⟩:Json)))))))else (k3 x1 x2 x3 x4 x5 x6 x7 x8 x9 x10 x11))
theorem Ha:dD (R:=R) (tt.mode [.json]) (wV da ah) nK false Tryz.f161 oS oT (wa (eF da ah)):=fun x y k=>by kernel_rfl
end
theorem F7 (ah:aD R) (bN:aq.Spec.Ok Tryz.prog 80 (aC ct cu (bK ah) av)):cr (R:=R) Tryz.prog (wV (R:=R) da ah) := .d (H3 R) rfl <| .f bN rfl <| .n
def bn (ah:aD R):ke R:=fun x1 x2 x3 x4 x5 x6 x7 x8 x9 x10 x11 k0 k1 k2 k3=>eF da ah x1 x2 x3 x4 x5 x6 x7 x8 x9 x10 x11 k0 k1 k2 k3
theorem Fc (R:Type) (ah:aD R) (bN:aq.Spec.Ok Tryz.prog 80 (aC ct cu (bK ah) av)):jT Tryz.prog 161 (wU (bn ah)):=bj (TT.mode [.json]) mixed (F7 ah bN) rfl rfl rfl rfl bX (Ha da ah)
/-! ### (*humpyard/json.parser).list -/
abbrev mh (R:Type):Type:=ag→(List Token)→Int→Bool→Int→Int→Int→ag→Int→((List Token)→Int→Bool→Int→Int→Int→ag→Int→Option R)→((List Token)→Int→Bool→Int→Int→Int→ag→(List ag)→Nat→Int→(List Json)→Option R)→Option R
abbrev sD:List cY := [.leaf (.ptr 0 0), .leaf (.str), .func 161 [] [.ptr 1 0, .ptr 2 0, .ptr 3 0, .ptr 4 0]]
abbrev sE:List aY := [.cells [.sl .token, .int .i64], .cells [.bool], .cells [.int .i64, .int .i64, .int .i64, .str, .cx, .cx], .cells [.ptr 0 0], .cells [.int .i64]]
def zK (fn:mh R):jU R sD sE:=fun x y k=>fn x.2.1 y.1.1 y.1.2.1 y.2.1.1 y.2.2.1.1 y.2.2.1.2.1 y.2.2.1.2.2.1 y.2.2.1.2.2.2.1 y.2.2.2.2.1.1 (fun q0 q1 q2 q3 q4 q5 q6 q7=>k (.tuple []) [.cells [.sl .token q0 .no, .int .i64 q1], .cells [.bool q2], .cells [.int .i64 q3, .int .i64 q4, .int .i64 q5, .str q6, .cx, .cx], .cells [.ptr 0 0], .cells [.int .i64 q7]]) (fun q0 q1 q2 q3 q4 q5 q6 q7 q8 q9 q10=>k (.tuple []) [.cells [.sl .token q0 .no, .int .i64 q1], .cells [.bool q2], .cells [.int .i64 q3, .int .i64 q4, .int .i64 q5, .str q6, .sl .str q7 (.own 5), .row 6 q8], .cells [.ptr 0 0], .cells [.int .i64 q9], .tok, .row .json q10])
def A4 (fn:mh R):=aC sD sE (zK fn)
abbrev nk (R:Type):Type:=Nat→ag→(List Token)→Int→Bool→Int→Int→Int→ag→(List ag)→Nat→Int→(List Json)→((List Token)→Int→Bool→Int→Int→Int→ag→(List ag)→Nat→Int→(List Json)→Option R)→Option R
def kf:Hint := { live := [0,1,2],own := [],rows := [],cells := [(2,4, .str,false),(2,5, .json,true)],drop := [],out := [] }
abbrev ga:Type:=ag×(List Token)×Int×Bool×Int×Int×Int×ag×(List ag)×Nat×Int×(List Json)
def my:ga→St:=fun d=>⟨.ptr 0 0 :: .str d.1 :: .func 161 [] [.ptr 1 0, .ptr 2 0, .ptr 3 0, .ptr 4 0]::U 23 ([]), [.cells [.sl .token d.2.1 .no, .int .i64 d.2.2.1], .cells [.bool d.2.2.2.1], .cells [.int .i64 d.2.2.2.2.1, .int .i64 d.2.2.2.2.2.1, .int .i64 d.2.2.2.2.2.2.1, .str d.2.2.2.2.2.2.2.1, .sl .str d.2.2.2.2.2.2.2.2.1 (.own 5), .row 6 d.2.2.2.2.2.2.2.2.2.1], .cells [.ptr 0 0], .cells [.int .i64 d.2.2.2.2.2.2.2.2.2.2.1], .tok, .row .json d.2.2.2.2.2.2.2.2.2.2.2]⟩
def nn (K:Ex→St→Option R) (q0:List Token) (q1:Int) (q2:Bool) (q3:Int) (q4:Int) (q5:Int) (q6:ag) (q7:List ag) (q8:Nat) (q9:Int) (q10:List Json):Option R:=K (.ret) ⟨U 26 ([]), [.cells [.sl .token q0 .no, .int .i64 q1], .cells [.bool q2], .cells [.int .i64 q3, .int .i64 q4, .int .i64 q5, .str q6, .sl .str q7 (.own 5), .row 6 q8], .cells [.ptr 0 0], .cells [.int .i64 q9], .tok, .row .json q10]⟩
abbrev ie:List cY := .leaf (.ptr 0 0) :: .leaf (.str) :: .func 161 [] [.ptr 1 0, .ptr 2 0, .ptr 3 0, .ptr 4 0]::PU 23 ([])
abbrev ig:List aY := [.cells [.sl .token, .int .i64], .cells [.bool], .cells [.int .i64, .int .i64, .int .i64, .str, .Yn .str 5, .row 6], .cells [.ptr 0 0], .cells [.int .i64], .tok, .row .json]
def wc (x:cY.cD ie) (y:aY.cD ig):Nat:=(List.length x.2.1+List.length y.1.1+Int.natAbs y.1.2.1+Int.natAbs y.2.2.1.1+Int.natAbs y.2.2.1.2.1+Int.natAbs y.2.2.1.2.2.1+List.length y.2.2.1.2.2.2.1+List.length y.2.2.1.2.2.2.2.1+Int.natAbs y.2.2.2.2.1.1+List.length y.2.2.2.2.2.2.1+64)
def Hb (x:cY.cD ie) (y:aY.cD ig):ga:=(x.2.1,y.1.1,y.1.2.1,y.2.1.1,y.2.2.1.1,y.2.2.1.2.1,y.2.2.1.2.2.1,y.2.2.1.2.2.2.1,y.2.2.1.2.2.2.2.1,y.2.2.1.2.2.2.2.2.1,y.2.2.2.2.1.1,y.2.2.2.2.2.2.1)
def uD (L:nk R):Ed R ie ig:=fun x y K=>L (wc x y) x.2.1 y.1.1 y.1.2.1 y.2.1.1 y.2.2.1.1 y.2.2.1.2.1 y.2.2.1.2.2.1 y.2.2.1.2.2.2.1 y.2.2.1.2.2.2.2.1 y.2.2.1.2.2.2.2.2.1 y.2.2.2.2.1.1 y.2.2.2.2.2.2.1 (nn K)
section
variable (au:fX R) (bn:ke R) (ax:jy R) (aJ:nk R)
def iv:List (lC R) := [(81,false,(jV au av)),(161,false,(wU bn av)),(199,false,(sA ax av))]
def nU (fc:ag→(List Token)→Int→Bool→Int→Int→Int→ag→(List ag)→Nat→Int→(List Json)→Option R) (VZ:ag) (XA:List Token) (oa:Int) (uR:Bool) (mm:Int) (wx:Int) (Dq:Int) (Gr:ag) (Sx:List ag) (x22:Nat) (x23:Int) (x24:List Json) (e0:(List Token)→Int→Bool→Int→Int→Int→ag→(List ag)→Nat→Int→(List Json)→Option R):Option R :=
 bn uR mm wx Dq Gr Sx x22 x23 x24 XA oa (fun AY I1 FJ Pd W4 OO XL HY y33 y34 y35=>bif (y34 != 0)then (e0 y33 y34 AY I1 FJ Pd W4 OO XL HY y35)else (ax VZ y33 y34 (fun y69 y70 y71=>bif y69 then (e0 y70 y71 AY I1 FJ Pd W4 OO XL HY y35)else (ax ([44]:ag) y70 y71 (fun y75 y76 y77=>bif (!y75)then (au 40 y76 y77 (fun y78 y79=>e0 y78 y79 AY I1 FJ Pd W4 OO XL HY y35))else (fc VZ y76 y77 AY I1 FJ Pd W4 OO XL HY y35)))))) (fun y36 y37 y38 ZE y40 y41 y42 y43 y44 y45 y46=>bif (y46 != 0)then (e0 y45 y46 y36 y37 y38 ZE y40 y41 y42 y43 y44)else (ax VZ y45 y46 (fun y80 y81 y82=>bif y80 then (e0 y81 y82 y36 y37 y38 ZE y40 y41 y42 y43 y44)else (ax ([44]:ag) y81 y82 (fun y86 y87 y88=>bif (!y86)then (au 40 y87 y88 (fun y89 y90=>e0 y89 y90 y36 y37 y38 ZE y40 y41 y42 y43 y44))else (fc VZ y87 y88 y36 y37 y38 ZE y40 y41 y42 y43 y44)))))) (fun y47 y48 y49 y50 y51 y52 y53 y54 y55 y56 y57=>bif (y56 != 0)then (e0 y55 y56 y47 y48 y49 y50 y51 y52 y53 y54 y57)else (ax VZ y55 y56 (fun y91 y92 y93=>bif y91 then (e0 y92 y93 y47 y48 y49 y50 y51 y52 y53 y54 y57)else (ax ([44]:ag) y92 y93 (fun y97 y98 y99=>bif (!y97)then (au 40 y98 y99 (fun y100 y101=>e0 y100 y101 y47 y48 y49 y50 y51 y52 y53 y54 y57))else (fc VZ y98 y99 y47 y48 y49 y50 y51 y52 y53 y54 y57)))))) (fun y58 y59 y60 y61 y62 y63 y64 y65 y66 y67 y68=>bif (y68 != 0)then (e0 y67 y68 y58 y59 y60 y61 y62 y63 y64 y65 y66)else (ax VZ y67 y68 (fun y102 y103 y104=>bif y102 then (e0 y103 y104 y58 y59 y60 y61 y62 y63 y64 y65 y66)else (ax ([44]:ag) y103 y104 (fun y108 y109 y110=>bif (!y108)then (au 40 y109 y110 (fun y111 y112=>e0 y111 y112 y58 y59 y60 y61 y62 y63 y64 y65 y66))else (fc VZ y109 y110 y58 y59 y60 y61 y62 y63 y64 y65 y66))))))
def wg (K:Ex→St→Option R) (rc:ga→Option R) (d:ga):Option R:=nU au bn ax (fun z0 z1 z2 z3 z4 z5 z6 z7 z8 z9 XB yb=>rc (z0,z1,z2,z3,z4,z5,z6,z7,z8,z9,XB,yb)) d.1 d.2.1 d.2.2.1 d.2.2.2.1 d.2.2.2.2.1 d.2.2.2.2.2.1 d.2.2.2.2.2.2.1 d.2.2.2.2.2.2.2.1 d.2.2.2.2.2.2.2.2.1 d.2.2.2.2.2.2.2.2.2.1 d.2.2.2.2.2.2.2.2.2.2.1 d.2.2.2.2.2.2.2.2.2.2.2 (nn K)
def jW:Nat→Option (Hint×dE R):=fun i=>match i with
 | 1=>some (kf,(dR ie ig (uD aJ) lM))
 | _=>none
theorem En (K:Ex→St→Option R) (rc:St→Option R) (d:ga):roundOf (tt.mode [.json]) (dy (iv au bn ax)) (jW aJ) 5 ((aN (bm Tryz.f160)).getD 0 .skip) kf (my d) rc K=wg au bn ax K (fun d=>rc (my d)) d:=by kernel_rfl
def A5 (x1:ag) (x2:List Token) (x3:Int) (x4:Bool) (x5:Int) (x6:Int) (x7:Int) (x8:ag) (x9:Int) (k0:(List Token)→Int→Bool→Int→Int→Int→ag→Int→Option R) (k1:(List Token)→Int→Bool→Int→Int→Int→ag→(List ag)→Nat→Int→(List Json)→Option R):Option R :=
 ax x1 x2 x3 (fun od ug zj=>bif od then (k0 ug zj x4 x5 x6 x7 x8 x9)else (aJ (List.length x1+List.length ug+Int.natAbs zj+Int.natAbs x5+Int.natAbs x6+Int.natAbs x7+List.length x8+List.length ([]:List ag)+Int.natAbs x9+List.length ([]:List Json)+64) x1 ug zj x4 x5 x6 x7 x8 ([]:List ag) 0 x9 ([]:List Json) (fun y113 y114 y115 y116 y117 y118 y119 y120 y121 y122 y123=>k1 y113 y114 y115 y116 y117 y118 y119 y120 y121 y122 y123)))
theorem Kn:dD (R:=R) (tt.mode [.json]) (iv au bn ax) (jW aJ) false Tryz.f160 sD sE (zK (A5 ax aJ)):=fun x y k=>by kernel_rfl
end
theorem I7 (ah:aD R) (bN:aq.Spec.Ok Tryz.prog 80 (aC ct cu (bK ah) av)):cr (R:=R) Tryz.prog (iv (R:=R) au (bn ah) ax) := .d (kM R) rfl <| .d (Fc R ah bN) rfl <| .d (wT R) rfl <| .n
def aJ (ah:aD R):nk R
 | 0,_,_,_,_,_,_,_,_,_,_,_,_,_=>none
 | n+1,jf,jj,jr,ur,Eg,FT,RS,RT,RU,RV,yc,Ka,e0=>nU au (bn ah) ax (fun jf jj jr ur Eg FT RS RT RU RV yc Ka=>aJ ah n jf jj jr ur Eg FT RS RT RU RV yc Ka e0) jf jj jr ur Eg FT RS RT RU RV yc Ka e0
def wh (ah:aD R) (K:Ex→St→Option R) (n:Nat) (d:ga):Option R:=aJ ah n d.1 d.2.1 d.2.2.1 d.2.2.2.1 d.2.2.2.2.1 d.2.2.2.2.2.1 d.2.2.2.2.2.2.1 d.2.2.2.2.2.2.2.1 d.2.2.2.2.2.2.2.2.1 d.2.2.2.2.2.2.2.2.2.1 d.2.2.2.2.2.2.2.2.2.2.1 d.2.2.2.2.2.2.2.2.2.2.2 (nn K)
theorem F8 (ah:aD R) (other:dE R) (ho:ki (tt.mode [.json]) (dy (iv (R:=R) au (bn ah) ax)) (jW (R:=R) (aJ ah)) 5 ((aN (bm Tryz.f160)).getD 0 .skip) kf other):ki (tt.mode [.json]) (dy (iv (R:=R) au (bn ah) ax)) (jW (R:=R) (aJ ah)) 5 ((aN (bm Tryz.f160)).getD 0 .skip) kf (dR ie ig (uD (aJ ah)) other) :=
 ei (A:=wh ah) ho (gd my (wg au (bn ah) ax) (wh ah) (fun _ _=>by kernel_rfl) (En au (bn ah) ax (aJ ah)) (fun _ _ _=>by kernel_rfl)) wc Hb (fun _ _=>by kernel_rfl) (fun _ _ _=>by kernel_rfl)
def cq (ah:aD R):mh R:=fun x1 x2 x3 x4 x5 x6 x7 x8 x9 k0 k1=>A5 ax (aJ ah) x1 x2 x3 x4 x5 x6 x7 x8 x9 k0 k1
theorem Hc (R:Type) (ah:aD R) (bN:aq.Spec.Ok Tryz.prog 80 (aC ct cu (bK ah) av)):∀a∈aN (bm Tryz.f160),ji (tt.mode [.json]) (dy (iv (R:=R) au (bn ah) ax)) (jW (R:=R) (aJ ah)) 5 a:=by
 refine gR 1 (by kernel_rfl) fun i hi => ?_
 match i,hi with
 | 0,_=>exact dH (by kernel_rfl) (F8 ah _ fm)
 | n+1,hi=>omega
theorem H4 (R:Type) (ah:aD R) (bN:aq.Spec.Ok Tryz.prog 80 (aC ct cu (bK ah) av)):jT Tryz.prog 160 (A4 (cq ah)):=bj (TT.mode [.json]) mixed (I7 ah bN) rfl rfl rfl rfl (Hc R ah bN) (Kn au (bn ah) ax (aJ ah))
/-! ### (*humpyard/json.parser).parts -/
abbrev lG (R:Type):Type:=Bool→Int→(List Token)→Int→(Json→(List Token)→Int→Option R)→Option R
abbrev qP:List cY := [.leaf (.ptr 0 0), .leaf (.bool), .leaf (.int .i64)]
abbrev qQ:List aY := [.cells [.sl .token, .int .i64]]
def xP (fn:lG R):jU R qP qQ:=fun x y k=>fn x.2.1 x.2.2.1 y.1.1 y.1.2.1 (fun q0 q1 q2=>k (.agg [.int .i64 q0.kind, .int .i64 q0.num.ao, .int .i64 q0.num.exp, .str q0.text, .sl .str q0.names .no, .sl .json q0.items .no]) [.cells [.sl .token q1 .no, .int .i64 q2]])
def zM (fn:lG R):=aC qP qQ (xP fn)
section
variable (cq:mh R)
def zN:List (lC R) := [(160,false,(A4 cq av))]
def zO (x1:Bool) (x2:Int) (x3:List Token) (x4:Int) (k0:Json→(List Token)→Int→Option R):Option R :=
 bif x1 then (cq ([125]:ag) x3 x4 x1 7 0 0 ([]:ag) x2 (fun y5 y6 y7 y8 y9 od ug zj=>k0 (⟨y8,⟨y9,od⟩,ug,([]:List ag),([]:List Json)⟩:Json) y5 y6) (fun FW Gm Ej Ar K2 J9 Pz Li C6 Yr Sn=>k0 (⟨Ar,⟨K2,J9⟩,Pz,Li,Sn⟩:Json) FW Gm))else (cq ([93]:ag) x3 x4 x1 6 0 0 ([]:ag) x2 (fun y24 AY I1 FJ Pd W4 OO XL=>k0 (⟨FJ,⟨Pd,W4⟩,OO,([]:List ag),([]:List Json)⟩:Json) y24 AY) (fun HY y33 y34 y35 y36 y37 y38 ZE y40 y41 y42=>k0 (⟨y35,⟨y36,y37⟩,y38,ZE,y42⟩:Json) HY y33))
theorem I8:dD (R:=R) (tt.mode [.json]) (zN cq) nK false Tryz.f120 qP qQ (xP (zO cq)):=fun x y k=>by kernel_rfl
end
theorem H5 (ah:aD R) (bN:aq.Spec.Ok Tryz.prog 80 (aC ct cu (bK ah) av)):cr (R:=R) Tryz.prog (zN (R:=R) (cq ah)) := .d (H4 R ah bN) rfl <| .n
def cV (ah:aD R):lG R:=fun x1 x2 x3 x4 k0=>zO (cq ah) x1 x2 x3 x4 k0
theorem Hd (R:Type) (ah:aD R) (bN:aq.Spec.Ok Tryz.prog 80 (aC ct cu (bK ah) av)):jT Tryz.prog 120 (zM (cV ah)):=bj (TT.mode [.json]) mixed (H5 ah bN) rfl rfl rfl rfl bX (I8 (cq ah))
section
variable (au:fX R) (cV:lG R)
def zP:List (lC R) := [(81,false,(jV au av)),(120,false,(zM cV av))]
def zQ (x1:Int) (x2:List Token) (x3:Int) (k0:Json→(List Token)→Int→Option R):Option R :=
 cw (decide ((0:Int)<x2.length)) (let j20:=fun (z4:Bool)=>let j19:=fun (z9:List Token) (XB:Int)=>bif (XB != 0)then (k0 (⟨0,⟨0,0⟩,([]:ag),([]:List ag),([]:List Json)⟩:Json) z9 XB)else (cw (decide ((1:Int)≤z9.length)) (let j18:=bif ((x2.getD 0 (Ty.bR .token)).kind==3)then (k0 (⟨4,⟨(x2.getD 0 (Ty.bR .token)).num.ao,(x2.getD 0 (Ty.bR .token)).num.exp⟩,([]:ag),([]:List ag),([]:List Json)⟩:Json) (z9.drop 1) XB)else (k0 (⟨5,⟨0,0⟩,(x2.getD 0 (Ty.bR .token)).text,([]:List ag),([]:List Json)⟩:Json) (z9.drop 1) XB); let j17:=fun (yb:Bool)=>bif yb then (bif ((x2.getD 0 (Ty.bR .token)).kind==1)then (cV ((x2.getD 0 (Ty.bR .token)).text==([123]:ag)) x1 (z9.drop 1) XB (fun zj FW Gm=>k0 (⟨zj.kind,⟨zj.num.ao,zj.num.exp⟩,zj.text,zj.names,zj.items⟩:Json) FW Gm))else (j18))else (let j16:=fun (z15:Bool)=>bif z15 then (bif ((x2.getD 0 (Ty.bR .token)).kind==4)then (k0 (⟨((mn .str (.int .i64) ((x2.getD 0 (Ty.bR .token)).text) ([(([110,117,108,108]:ag),1),(([102,97,108,115,101]:ag),2),(([116,114,117,101]:ag),3)]:List (ag×Int))):Int),⟨0,0⟩,([]:ag),([]:List ag),([]:List Json)⟩:Json) (z9.drop 1) XB)else (j18))else (j18); bif ((x2.getD 0 (Ty.bR .token)).text==([110,117,108,108]:ag))then (j16 ((x2.getD 0 (Ty.bR .token)).text==([110,117,108,108]:ag)))else (bif ((x2.getD 0 (Ty.bR .token)).text==([102,97,108,115,101]:ag))then (j16 ((x2.getD 0 (Ty.bR .token)).text==([102,97,108,115,101]:ag)))else (j16 ((x2.getD 0 (Ty.bR .token)).text==([116,114,117,101]:ag))))); bif ((x2.getD 0 (Ty.bR .token)).text==([91]:ag))then (j17 ((x2.getD 0 (Ty.bR .token)).text==([91]:ag)))else (j17 ((x2.getD 0 (Ty.bR .token)).text==([123]:ag))))); bif (!z4)then (au 40 x2 x3 (fun y5 y6=>j19 y5 y6))else (bif (decide (x1>(16:Int)))then (au 41 x2 x3 (fun y7 y8=>j19 y7 y8))else (j19 x2 x3)); bif ((x2.getD 0 (Ty.bR .token)).kind==2)then (j20 true)else (bif ((x2.getD 0 (Ty.bR .token)).kind==3)then (j20 true)else (bif ((x2.getD 0 (Ty.bR .token)).kind==4)then (j20 true)else (bif ((x2.getD 0 (Ty.bR .token)).kind==1)then (bif ((x2.getD 0 (Ty.bR .token)).text==([91]:ag))then (j20 true)else (j20 ((x2.getD 0 (Ty.bR .token)).text==([123]:ag))))else (j20 false)))))
theorem I9:dD (R:=R) (tt.mode [.json]) (zP au cV) nK false Tryz.f80 ct cu (bK (zQ au cV)):=fun x y k=>by kernel_rfl
end
theorem H6 (ah:aD R) (bN:aq.Spec.Ok Tryz.prog 80 (aC ct cu (bK ah) av)):cr (R:=R) Tryz.prog (zP (R:=R) au (cV ah)) := .d (kM R) rfl <| .d (Hd R ah bN) rfl <| .n
def qR (ah:aD R):aD R:=fun x1 x2 x3 k0=>zQ au (cV ah) x1 x2 x3 k0
theorem F9 (R:Type) (ah:aD R) (bN:aq.Spec.Ok Tryz.prog 80 (aC ct cu (bK ah) av)):jT Tryz.prog 80 (zJ (qR ah)):=bj (TT.mode [.json]) mixed (H6 ah bN) rfl rfl rfl rfl bX (I9 au (cV ah))
def bt:Nat→aD R
 | 0,_,_,_,_=>none
 | n+1,jf,jj,jr,k0'=>qR (bt n) jf jj jr k0'
theorem W5 (n:Nat):bt (R:=R) (n+1)=qR (bt n):=by kernel_rfl
theorem He (R:Type):∀n,aq.Spec.Ok Tryz.prog 80 (aC ct cu (bK (bt (R:=R) n)) av) :=
 AX (run:=fun n=>bK (bt (R:=R) n)) (fun x y k=>by kernel_rfl) fun n hyp=>F9 R (bt n) hyp av (fA _)
def dj:aD R:=fun x1 x2 x3 k0=>bt 40 x1 x2 x3 k0
theorem Hf (R:Type):bK (R:=R) dj=fun x y k=>bK (bt 40) x y k:=by kernel_rfl
theorem Hg (R:Type) (other:aq.Spec R) (ho:aq.Spec.Ok Tryz.prog 80 other):aq.Spec.Ok Tryz.prog 80 (aC ct cu (bK dj) other) :=
 HM (Lg (run:=fun n=>bK (bt (R:=R) n)) (fun x y=>40) ho (He R)) (Hf R)
end Go.Proofs.YtidfokedcnhahaaGreatDoor
/-
 Functions of the program as pure Lean functions, and the ties; printed by wip/tools/emit.py.
-/
set_option maxRecDepth 100000
namespace Go.Proofs.YtidfokedcnhahaaGreatDoor
open Go Go.aq
variable {R:Type}
/-! ### humpyard/json.Parse -/
abbrev mi (R:Type):Type:=ag→(Json→Int→Int→Option R)→Option R
abbrev MY:List cY := [.leaf (.str)]
abbrev MZ:List aY := []
def SA (fn:mi R):jU R MY MZ:=fun x y k=>fn x.1 (fun q0 q1 q2=>k (.tuple [.agg [.int .i64 q0.kind, .int .i64 q0.num.ao, .int .i64 q0.num.exp, .str q0.text, .sl .str q0.names .no, .sl .json q0.items .no], .int .i64 q1, .int .i64 q2]) [])
def M0 (fn:mi R):=aC MY MZ (SA fn)
section
variable (au:fX R) (dj:aD R) (nj:EO R)
def UR:List (lC R) := [(81,false,(jV au av)),(80,false,(zJ dj av)),(79,true,(UP nj av))]
def Hh (x1:ag) (k0:Json→Int→Int→Option R):Option R :=
 nj x1 (fun y2 y3 y4=>bif (y3 != 0)then (k0 (⟨0,⟨0,0⟩,([]:ag),([]:List ag),([]:List Json)⟩:Json) y3 y4)else (dj 1 y2 0 (fun y5 y6 y7=>let j12:=fun (XB:List Token) (yb:Int)=>bif (yb != 0)then (cw (decide ((0:Int)<XB.length)) (k0 (⟨0,⟨0,0⟩,([]:ag),([]:List ag),([]:List Json)⟩:Json) yb ((XB.getD 0 (Ty.bR .token)).at_)))else (k0 (⟨y5.kind,⟨y5.num.ao,y5.num.exp⟩,y5.text,y5.names,y5.items⟩:Json) 0 0); cw (decide ((0:Int)<y6.length)) (bif ((y6.getD 0 (Ty.bR .token)).kind != 5)then (au 40 y6 y7 (fun y8 y9=>j12 y8 y9))else (j12 y6 y7)))))
theorem json_Parse_ok:dD (R:=R) tt (UR au dj nj) nK false Tryz.f32 MY MZ (SA (Hh au dj nj)):=fun x y k=>by kernel_rfl
end
theorem ZR:cr (R:=R) Tryz.prog (UR (R:=R) au dj nj) := .d (kM R) rfl <| .f (Hg R _ (fA _)) rfl <| .c (XO R) <| .n
def cI:mi R:=fun x1 k0=>Hh au dj nj x1 k0
theorem Oo (R:Type):jT Tryz.prog 32 (M0 (cI (R:=R))):=bj TT mixed (ZR (R:=R)) rfl rfl rfl rfl bX (json_Parse_ok au dj nj)
/-! ### humpyard/field.find -/
abbrev uT (R:Type):Type:=Json→ag→(Json→Bool→Option R)→Option R
abbrev M1:List cY := [.agg [.int .i64, .int .i64, .int .i64, .str, .sl .str, .sl .json], .leaf (.str)]
abbrev M3:List aY := []
def SB (fn:uT R):jU R M1 M3:=fun x y k=>fn (⟨x.1.1,⟨x.1.2.1,x.1.2.2.1⟩,x.1.2.2.2.1,x.1.2.2.2.2.1,x.1.2.2.2.2.2.1⟩:Json) x.2.1 (fun q0 q1=>k (.tuple [.agg [.int .i64 q0.kind, .int .i64 q0.num.ao, .int .i64 q0.num.exp, .str q0.text, .sl .str q0.names .no, .sl .json q0.items .no], .bool q1]) [])
def Hi (fn:uT R):=aC M1 M3 (SB fn)
section
variable (bu:gT R)
def US:List (lC R) := [(127,true,(nN bu av))]
def M4 (x1:Json) (x2:ag) (k0:Json→Bool→Option R):Option R :=
 bu x1.names x2 (fun y3=>bif (x1.kind != 7)then (k0 (⟨0,⟨0,0⟩,([]:ag),([]:List ag),([]:List Json)⟩:Json) false)else (bif (decide (y3<(0:Int)))then (k0 (⟨0,⟨0,0⟩,([]:ag),([]:List ag),([]:List Json)⟩:Json) false)else (bif (decide (y3≥(x1.items.length:Int)))then (k0 (⟨0,⟨0,0⟩,([]:ag),([]:List ag),([]:List Json)⟩:Json) false)else (cw (decide ((0:Int)≤y3)&&decide (y3<x1.items.length)) (k0 (⟨(x1.items.getD y3.toNat (Ty.bR .json)).kind,⟨(x1.items.getD y3.toNat (Ty.bR .json)).num.ao,(x1.items.getD y3.toNat (Ty.bR .json)).num.exp⟩,(x1.items.getD y3.toNat (Ty.bR .json)).text,(x1.items.getD y3.toNat (Ty.bR .json)).names,(x1.items.getD y3.toNat (Ty.bR .json)).items⟩:Json) true)))))
theorem field_find_ok:dD (R:=R) tt (US bu) nK false Tryz.f144 M1 M3 (SB (M4 bu)):=fun x y k=>by kernel_rfl
end
theorem ZS:cr (R:=R) Tryz.prog (US (R:=R) bu) := .c (r8 R) <| .n
def ej:uT R:=fun x1 x2 k0=>M4 bu x1 x2 k0
theorem Ga (R:Type):jT Tryz.prog 144 (Hi (ej (R:=R))):=bj TT mixed (ZS (R:=R)) rfl rfl rfl rfl bX (field_find_ok bu)
/-! ### humpyard/field.Text$1 -/
abbrev Ad (R:Type):Type:=Json→(ag→Bool→Option R)→Option R
abbrev H7:List cY := [.agg [.int .i64, .int .i64, .int .i64, .str, .sl .str, .sl .json]]
abbrev H8:List aY := []
def Oq (fn:Ad R):jU R H7 H8:=fun x y k=>fn (⟨x.1.1,⟨x.1.2.1,x.1.2.2.1⟩,x.1.2.2.2.1,x.1.2.2.2.2.1,x.1.2.2.2.2.2.1⟩:Json) (fun q0 q1=>k (.tuple [.str q0, .bool q1]) [])
def PW (fn:Ad R):=aC H7 H8 (Oq fn)
section
def H9 (x1:Json) (k0:ag→Bool→Option R):Option R :=
 k0 x1.text (x1.kind==5)
theorem XP:dD (R:=R) tt [] nK false Tryz.f109 H7 H8 (Oq H9):=fun x y k=>by kernel_rfl
end
def mj:Ad R:=fun x1 k0=>H9 x1 k0
theorem UT (R:Type):jT Tryz.prog 109 (PW (mj (R:=R))):=bj TT mixed .n rfl rfl rfl rfl bX (XP)
/-! ### humpyard/field.of[string] -/
abbrev mL (R:Type):Type:=Json→ag→(ag→Bool→Option R)→Option R
abbrev tD:List cY := [.agg [.int .i64, .int .i64, .int .i64, .str, .sl .str, .sl .json], .leaf (.str), .leaf (.fn 109)]
abbrev tE:List aY := []
def A6 (fn:mL R):jU R tD tE:=fun x y k=>fn (⟨x.1.1,⟨x.1.2.1,x.1.2.2.1⟩,x.1.2.2.2.1,x.1.2.2.2.2.1,x.1.2.2.2.2.2.1⟩:Json) x.2.1 (fun q0 q1=>k (.tuple [.str q0, .bool q1]) [])
def B1 (fn:mL R):=aC tD tE (A6 fn)
section
variable (mj:Ad R) (ej:uT R)
def B2:List (lC R) := [(109,true,(PW mj av)),(144,true,(Hi ej av))]
def tF (x1:Json) (x2:ag) (k0:ag→Bool→Option R):Option R :=
 ej (⟨x1.kind,⟨x1.num.ao,x1.num.exp⟩,x1.text,x1.names,x1.items⟩:Json) x2 (fun y3 y4=>bif (!y4)then (k0 ([]:ag) false)else (mj (⟨y3.kind,⟨y3.num.ao,y3.num.exp⟩,y3.text,y3.names,y3.items⟩:Json) (fun y5 y6=>bif y6 then (k0 y5 true)else (k0 ([]:ag) false))))
theorem Lu:dD (R:=R) tt (B2 mj ej) nK false Tryz.f108 tD tE (A6 (tF mj ej)):=fun x y k=>by kernel_rfl
end
theorem Ko:cr (R:=R) Tryz.prog (B2 (R:=R) mj ej) := .c (UT R) <| .c (Ga R) <| .n
def fb:mL R:=fun x1 x2 k0=>tF mj ej x1 x2 k0
theorem Ja (R:Type):jT Tryz.prog 108 (B1 (fb (R:=R))):=bj TT mixed (Ko (R:=R)) rfl rfl rfl rfl bX (Lu mj ej)
/-! ### humpyard/field.Text -/
abbrev EP (R:Type):Type:=Json→ag→(ag→Bool→Option R)→Option R
abbrev M5:List cY := [.agg [.int .i64, .int .i64, .int .i64, .str, .sl .str, .sl .json], .leaf (.str)]
abbrev M6:List aY := []
def SC (fn:EP R):jU R M5 M6:=fun x y k=>fn (⟨x.1.1,⟨x.1.2.1,x.1.2.2.1⟩,x.1.2.2.2.1,x.1.2.2.2.2.1,x.1.2.2.2.2.2.1⟩:Json) x.2.1 (fun q0 q1=>k (.tuple [.str q0, .bool q1]) [])
def UU (fn:EP R):=aC M5 M6 (SC fn)
section
variable (fb:mL R)
def UW:List (lC R) := [(108,true,(B1 fb av))]
def M7 (x1:Json) (x2:ag) (k0:ag→Bool→Option R):Option R :=
 fb (⟨x1.kind,⟨x1.num.ao,x1.num.exp⟩,x1.text,x1.names,x1.items⟩:Json) x2 (fun y3 y4=>k0 y3 y4)
theorem field_Text_ok:dD (R:=R) tt (UW fb) nK false Tryz.f68 M5 M6 (SC (M7 fb)):=fun x y k=>by kernel_rfl
end
theorem ZT:cr (R:=R) Tryz.prog (UW (R:=R) fb) := .c (Ja R) <| .n
def oU:EP R:=fun x1 x2 k0=>M7 fb x1 x2 k0
theorem XQ (R:Type):jT Tryz.prog 68 (UU (oU (R:=R))):=bj TT mixed (ZT (R:=R)) rfl rfl rfl rfl bX (field_Text_ok fb)
/-! ### humpyard/decimal.shifted -/
abbrev tG (R:Type):Type:=fT→Int→(Int→Bool→Option R)→Option R
abbrev B3:List cY := [.agg [.int .i64, .int .i64], .leaf (.int .i64)]
abbrev B4:List aY := []
def Ia (fn:tG R):jU R B3 B4:=fun x y k=>fn (⟨x.1.1,x.1.2.1⟩:fT) x.2.1 (fun q0 q1=>k (.tuple [.int .i64 q0, .bool q1]) [])
def JH (fn:tG R):=aC B3 B4 (Ia fn)
abbrev tH (R:Type):Type:=Nat→Int→Int→Int→(Int→Option R)→(Int→Bool→Int→Option R)→Option R
def o6:Hint := { live := [6,12,13],own := [],rows := [],cells := [],drop := [],out := [4,5,6] }
abbrev jq:Type:=Int×Int×Int
def sF:jq→St:=fun d=>⟨U 6 (.int .i64 d.1::U 5 (.int .i64 d.2.1 :: .int .i64 d.2.2::U 8 ([]))), []⟩
def tI (K:Ex→St→Option R) (q0:Int):Option R:=K (.exit 0) ⟨U 6 (.int .i64 q0::U 15 ([])), []⟩
def tJ (K:Ex→St→Option R) (q0:Int) (q1:Bool) (q2:Int):Option R:=K (.ret) ⟨U 4 (.int .i64 q0 :: .bool q1 :: .int .i64 q2::U 15 ([])), []⟩
abbrev lJ:List cY:=PU 6 (.leaf (.int .i64)::PU 5 (.leaf (.int .i64) :: .leaf (.int .i64)::PU 8 ([])))
abbrev lK:List aY := []
def Dr (x:cY.cD lJ) (y:aY.cD lK):Nat:=(Int.natAbs x.2.2.2.2.2.2.1+Int.natAbs ((t8 x).2.2.2.2.1)+Int.natAbs ((t8 x).2.2.2.2.2.1)+64)
def OQ (x:cY.cD lJ) (y:aY.cD lK):jq:=(x.2.2.2.2.2.2.1,(t8 x).2.2.2.2.1,(t8 x).2.2.2.2.2.1)
def B5 (L:tH R):Ed R lJ lK:=fun x y K=>L (Dr x y) x.2.2.2.2.2.2.1 ((t8 x).2.2.2.2.1) ((t8 x).2.2.2.2.2.1) (tI K) (tJ K)
section
variable (az:jm R) (cy:tH R)
def mM:List (lC R) := [(135,true,(pW az av))]
def o7 (fc:Int→Int→Int→Option R) (x3:Int) (x4:Int) (x5:Int) (e0:Int→Option R) (e1:Int→Bool→Int→Option R):Option R :=
 bif (decide (x5<x4))then (az (-100000000000000000) x3 100000000000000000 (fun y6=>bif (!y6)then (e1 0 false x3)else (fc (IntKind.i64.wrap (x3*10)) x4 (IntKind.i64.wrap (x5+1)))))else (e0 x3)
def Ds (K:Ex→St→Option R) (rc:jq→Option R) (d:jq):Option R:=o7 az (fun z0 z1 z2=>rc (z0,z1,z2)) d.1 d.2.1 d.2.2 (tI K) (tJ K)
def qo:Nat→Option (Hint×dE R):=fun i=>match i with
 | 3=>some (o6,(dR lJ lK (B5 cy) lM))
 | _=>none
theorem Kp (K:Ex→St→Option R) (rc:St→Option R) (d:jq):roundOf tt (dy (mM az)) (qo cy) 0 ((aN (bm Tryz.f212)).getD 0 .skip) o6 (sF d) rc K=Ds az K (fun d=>rc (sF d)) d:=by kernel_rfl
def B6 (x1:fT) (x2:Int) (k0:Int→Bool→Option R):Option R :=
 cy (Int.natAbs x1.ao+Int.natAbs (IntKind.i64.wrap (x1.exp - x2))+Int.natAbs 0+64) x1.ao (IntKind.i64.wrap (x1.exp - x2)) 0 (fun y7=>k0 y7 true) (fun y8 y9 od=>k0 y8 y9)
theorem Ts:dD (R:=R) tt (mM az) (qo cy) false Tryz.f212 B3 B4 (Ia (B6 cy)):=fun x y k=>by kernel_rfl
end
theorem R1:cr (R:=R) Tryz.prog (mM (R:=R) az) := .c (sa R) <| .n
def cy:tH R
 | 0,_,_,_,_,_=>none
 | n+1,jf,jj,jr,e0,e1=>o7 az (fun jf jj jr=>cy n jf jj jr e0 e1) jf jj jr e0 e1
def Dt (K:Ex→St→Option R) (n:Nat) (d:jq):Option R:=cy n d.1 d.2.1 d.2.2 (tI K) (tJ K)
theorem M8 (other:dE R) (ho:ki tt (dy (mM (R:=R) az)) (qo (R:=R) cy) 0 ((aN (bm Tryz.f212)).getD 0 .skip) o6 other):ki tt (dy (mM (R:=R) az)) (qo (R:=R) cy) 0 ((aN (bm Tryz.f212)).getD 0 .skip) o6 (dR lJ lK (B5 (cy)) other) :=
 ei (A:=Dt) ho (gd sF (Ds az) (Dt) (fun _ _=>by kernel_rfl) (Kp az cy) (fun _ _ _=>by kernel_rfl)) Dr OQ (fun _ _=>by kernel_rfl) (fun _ _ _=>by kernel_rfl)
def iM:tG R:=fun x1 x2 k0=>B6 cy x1 x2 k0
theorem OR (R:Type):∀a∈aN (bm Tryz.f212),ji tt (dy (mM (R:=R) az)) (qo (R:=R) cy) 0 a:=by
 refine gR 1 (by kernel_rfl) fun i hi => ?_
 match i,hi with
 | 0,_=>exact dH (by kernel_rfl) (M8 _ fm)
 | n+1,hi=>omega
theorem PX (R:Type):jT Tryz.prog 212 (JH (iM (R:=R))):=bj TT mixed (R1 (R:=R)) rfl rfl rfl rfl (OR R) (Ts az cy)
/-! ### humpyard/decimal.Int -/
abbrev B7 (R:Type):Type:=fT→(Int→Bool→Option R)→Option R
abbrev Kq:List cY := [.agg [.int .i64, .int .i64]]
abbrev Kr:List aY := []
def PY (fn:B7 R):jU R Kq Kr:=fun x y k=>fn (⟨x.1.1,x.1.2.1⟩:fT) (fun q0 q1=>k (.tuple [.int .i64 q0, .bool q1]) [])
def SD (fn:B7 R):=aC Kq Kr (PY fn)
section
variable (bS:ov R) (iM:tG R)
def SE:List (lC R) := [(164,true,(Ab bS av)),(212,true,(JH iM av))]
def Ks (x1:fT) (k0:Int→Bool→Option R):Option R :=
 bS x1 (fun y2=>bif (!y2)then (k0 0 false)else (bif (decide (x1.exp<(0:Int)))then (k0 0 false)else (iM x1 0 (fun y4 y5=>k0 y4 y5))))
theorem ZU:dD (R:=R) tt (SE bS iM) nK false Tryz.f186 Kq Kr (PY (Ks bS iM)):=fun x y k=>by kernel_rfl
end
theorem XR:cr (R:=R) Tryz.prog (SE (R:=R) bS iM) := .c (Au R) <| .c (PX R) <| .n
def mz:B7 R:=fun x1 k0=>Ks bS iM x1 k0
theorem Wf (R:Type):jT Tryz.prog 186 (SD (mz (R:=R))):=bj TT mixed (XR (R:=R)) rfl rfl rfl rfl bX (ZU bS iM)
/-! ### humpyard/field.num -/
abbrev Hj (R:Type):Type:=Json→(Int→Bool→Option R)→Option R
abbrev PZ:List cY := [.agg [.int .i64, .int .i64, .int .i64, .str, .sl .str, .sl .json]]
abbrev P0:List aY := []
def UX (fn:Hj R):jU R PZ P0:=fun x y k=>fn (⟨x.1.1,⟨x.1.2.1,x.1.2.2.1⟩,x.1.2.2.2.1,x.1.2.2.2.2.1,x.1.2.2.2.2.2.1⟩:Json) (fun q0 q1=>k (.tuple [.int .i64 q0, .bool q1]) [])
def W6 (fn:Hj R):=aC PZ P0 (UX fn)
section
variable (mz:B7 R)
def W7:List (lC R) := [(186,true,(SD mz av))]
def P1 (x1:Json) (k0:Int→Bool→Option R):Option R :=
 mz x1.num (fun y2 y3=>bif y3 then (k0 y2 (x1.kind==4))else (k0 y2 false))
theorem field_num_ok:dD (R:=R) tt (W7 mz) nK false Tryz.f146 PZ P0 (UX (P1 mz)):=fun x y k=>by kernel_rfl
end
theorem field_num_EOk:cr (R:=R) Tryz.prog (W7 (R:=R) mz) := .c (Wf R) <| .n
def sG:Hj R:=fun x1 k0=>P1 mz x1 k0
theorem ZV (R:Type):jT Tryz.prog 146 (W6 (sG (R:=R))):=bj TT mixed (field_num_EOk (R:=R)) rfl rfl rfl rfl bX (field_num_ok mz)
/-! ### humpyard/field.of[int] -/
abbrev qp (R:Type):Type:=Json→ag→(Int→Bool→Option R)→Option R
abbrev yu:List cY := [.agg [.int .i64, .int .i64, .int .i64, .str, .sl .str, .sl .json], .leaf (.str), .leaf (.fn 146)]
abbrev yv:List aY := []
def Fe (fn:qp R):jU R yu yv:=fun x y k=>fn (⟨x.1.1,⟨x.1.2.1,x.1.2.2.1⟩,x.1.2.2.2.1,x.1.2.2.2.2.1,x.1.2.2.2.2.2.1⟩:Json) x.2.1 (fun q0 q1=>k (.tuple [.int .i64 q0, .bool q1]) [])
def Gx (fn:qp R):=aC yu yv (Fe fn)
section
variable (ej:uT R) (sG:Hj R)
def Gy:List (lC R) := [(144,true,(Hi ej av)),(146,true,(W6 sG av))]
def yw (x1:Json) (x2:ag) (k0:Int→Bool→Option R):Option R :=
 ej (⟨x1.kind,⟨x1.num.ao,x1.num.exp⟩,x1.text,x1.names,x1.items⟩:Json) x2 (fun y3 y4=>bif (!y4)then (k0 0 false)else (sG (⟨y3.kind,⟨y3.num.ao,y3.num.exp⟩,y3.text,y3.names,y3.items⟩:Json) (fun y5 y6=>bif y6 then (k0 y5 true)else (k0 0 false))))
theorem P2:dD (R:=R) tt (Gy ej sG) nK false Tryz.f145 yu yv (Fe (yw ej sG)):=fun x y k=>by kernel_rfl
end
theorem OS:cr (R:=R) Tryz.prog (Gy (R:=R) ej sG) := .c (Ga R) <| .c (ZV R) <| .n
def gG:qp R:=fun x1 x2 k0=>yw ej sG x1 x2 k0
theorem M9 (R:Type):jT Tryz.prog 145 (Gx (gG (R:=R))):=bj TT mixed (OS (R:=R)) rfl rfl rfl rfl bX (P2 ej sG)
/-! ### humpyard/field.Num -/
abbrev ml (R:Type):Type:=Json→ag→(Int→Bool→Option R)→Option R
abbrev P3:List cY := [.agg [.int .i64, .int .i64, .int .i64, .str, .sl .str, .sl .json], .leaf (.str)]
abbrev P4:List aY := []
def UY (fn:ml R):jU R P3 P4:=fun x y k=>fn (⟨x.1.1,⟨x.1.2.1,x.1.2.2.1⟩,x.1.2.2.2.1,x.1.2.2.2.2.1,x.1.2.2.2.2.2.1⟩:Json) x.2.1 (fun q0 q1=>k (.tuple [.int .i64 q0, .bool q1]) [])
def tq (fn:ml R):=aC P3 P4 (UY fn)
section
variable (gG:qp R)
def W8:List (lC R) := [(145,true,(Gx gG av))]
def P5 (x1:Json) (x2:ag) (k0:Int→Bool→Option R):Option R :=
 gG (⟨x1.kind,⟨x1.num.ao,x1.num.exp⟩,x1.text,x1.names,x1.items⟩:Json) x2 (fun y3 y4=>k0 y3 y4)
theorem field_Num_ok:dD (R:=R) tt (W8 gG) nK false Tryz.f110 P3 P4 (UY (P5 gG)):=fun x y k=>by kernel_rfl
end
theorem field_Num_EOk:cr (R:=R) Tryz.prog (W8 (R:=R) gG) := .c (M9 R) <| .n
def bP:ml R:=fun x1 x2 k0=>P5 gG x1 x2 k0
theorem oV (R:Type):jT Tryz.prog 110 (tq (bP (R:=R))):=bj TT mixed (field_Num_EOk (R:=R)) rfl rfl rfl rfl bX (field_Num_ok gG)
/-! ### humpyard/field.flag -/
abbrev ER (R:Type):Type:=Json→(Bool→Bool→Option R)→Option R
abbrev Na:List cY := [.agg [.int .i64, .int .i64, .int .i64, .str, .sl .str, .sl .json]]
abbrev Nb:List aY := []
def SF (fn:ER R):jU R Na Nb:=fun x y k=>fn (⟨x.1.1,⟨x.1.2.1,x.1.2.2.1⟩,x.1.2.2.2.1,x.1.2.2.2.2.1,x.1.2.2.2.2.2.1⟩:Json) (fun q0 q1=>k (.tuple [.bool q0, .bool q1]) [])
def UZ (fn:ER R):=aC Na Nb (SF fn)
section
def Nc (x1:Json) (k0:Bool→Bool→Option R):Option R :=
 bif (x1.kind==3)then (k0 (x1.kind==3) true)else (k0 (x1.kind==3) (x1.kind==2))
theorem field_flag_ok:dD (R:=R) tt [] nK false Tryz.f150 Na Nb (SF Nc):=fun x y k=>by kernel_rfl
end
def oW:ER R:=fun x1 k0=>Nc x1 k0
theorem XS (R:Type):jT Tryz.prog 150 (UZ (oW (R:=R))):=bj TT mixed .n rfl rfl rfl rfl bX (field_flag_ok)
/-! ### humpyard/field.of[bool] -/
abbrev o8 (R:Type):Type:=Json→ag→(Bool→Bool→Option R)→Option R
abbrev wW:List cY := [.agg [.int .i64, .int .i64, .int .i64, .str, .sl .str, .sl .json], .leaf (.str), .leaf (.fn 150)]
abbrev wX:List aY := []
def Du (fn:o8 R):jU R wW wX:=fun x y k=>fn (⟨x.1.1,⟨x.1.2.1,x.1.2.2.1⟩,x.1.2.2.2.1,x.1.2.2.2.2.1,x.1.2.2.2.2.2.1⟩:Json) x.2.1 (fun q0 q1=>k (.tuple [.bool q0, .bool q1]) [])
def Ff (fn:o8 R):=aC wW wX (Du fn)
section
variable (ej:uT R) (oW:ER R)
def Fg:List (lC R) := [(144,true,(Hi ej av)),(150,true,(UZ oW av))]
def wY (x1:Json) (x2:ag) (k0:Bool→Bool→Option R):Option R :=
 ej (⟨x1.kind,⟨x1.num.ao,x1.num.exp⟩,x1.text,x1.names,x1.items⟩:Json) x2 (fun y3 y4=>bif (!y4)then (k0 false false)else (oW (⟨y3.kind,⟨y3.num.ao,y3.num.exp⟩,y3.text,y3.names,y3.items⟩:Json) (fun y5 y6=>bif y6 then (k0 y5 true)else (k0 false false))))
theorem OT:dD (R:=R) tt (Fg ej oW) nK false Tryz.f149 wW wX (Du (wY ej oW)):=fun x y k=>by kernel_rfl
end
theorem Nd:cr (R:=R) Tryz.prog (Fg (R:=R) ej oW) := .c (Ga R) <| .c (XS R) <| .n
def fY:o8 R:=fun x1 x2 k0=>wY ej oW x1 x2 k0
theorem Lv (R:Type):jT Tryz.prog 149 (Ff (fY (R:=R))):=bj TT mixed (Nd (R:=R)) rfl rfl rfl rfl bX (OT ej oW)
/-! ### humpyard/field.Flag -/
abbrev zR (R:Type):Type:=Json→ag→(Bool→Bool→Option R)→Option R
abbrev Nf:List cY := [.agg [.int .i64, .int .i64, .int .i64, .str, .sl .str, .sl .json], .leaf (.str)]
abbrev Ng:List aY := []
def SG (fn:zR R):jU R Nf Ng:=fun x y k=>fn (⟨x.1.1,⟨x.1.2.1,x.1.2.2.1⟩,x.1.2.2.2.1,x.1.2.2.2.2.1,x.1.2.2.2.2.2.1⟩:Json) x.2.1 (fun q0 q1=>k (.tuple [.bool q0, .bool q1]) [])
def Nh (fn:zR R):=aC Nf Ng (SG fn)
section
variable (fY:o8 R)
def U0:List (lC R) := [(149,true,(Ff fY av))]
def Ni (x1:Json) (x2:ag) (k0:Bool→Bool→Option R):Option R :=
 fY (⟨x1.kind,⟨x1.num.ao,x1.num.exp⟩,x1.text,x1.names,x1.items⟩:Json) x2 (fun y3 y4=>k0 y3 y4)
theorem field_Flag_ok:dD (R:=R) tt (U0 fY) nK false Tryz.f112 Nf Ng (SG (Ni fY)):=fun x y k=>by kernel_rfl
end
theorem ZW:cr (R:=R) Tryz.prog (U0 (R:=R) fY) := .c (Lv R) <| .n
def gQ:zR R:=fun x1 x2 k0=>Ni fY x1 x2 k0
theorem Ot (R:Type):jT Tryz.prog 112 (Nh (gQ (R:=R))):=bj TT mixed (ZW (R:=R)) rfl rfl rfl rfl bX (field_Flag_ok fY)
end Go.Proofs.YtidfokedcnhahaaGreatDoor
namespace Go.Proofs.YtidfokedcnhahaaGreatDoor.Pu
open Go Go.aq
def Hk (x:Json):Prop:=∀c∈Ty.cells .json x,Small 1099511627776 c
theorem Hk.text {x:Json} (h:Hk x):x.text.length≤1099511627776:=(h (.str x.text) (by simp[Ty.cells])).gL
theorem Hk.names {x:Json} (h:Hk x):x.names.length≤1099511627776:=(h (.sl .str x.names .no) (by simp[Ty.cells])).J4.1
theorem Hk.items {x:Json} (h:Hk x):x.items.length≤1099511627776:=(h (.sl .json x.items .no) (by simp[Ty.cells])).J4.1
theorem Hk.item {x:Json} (h:Hk x) {y:Json} (hy:y∈x.items):Hk y:=(h (.sl .json x.items .no) (by simp[Ty.cells])).J4.2 y hy
theorem anyT_same {R:Type} {a b:Option R} (h:a=b):anyT a b=b:=by subst h; unfold anyT; rw[if_pos rfl]
theorem clone_str {R:Type} (l:List ag) (hl:l.length≤1099511627776) (k:List ag→Option R):bp l k=k l:=by
 unfold bp nR
 have h:decide ((0+l.length)*16≤140737488355328)=true:=by simp; omega
 rw[ay h]
 cases l with
 | nil=>exact anyT_same rfl
 | cons a l=>rfl
theorem clone_json {R:Type} (l:List Json) (hl:l.length≤1099511627776) (k0:Option R) (k1:Nat→List Json→Option R) (h0:l = []→k0=k1 0 []):bg l k0 k1=k1 l.length l:=by
 unfold bg na
 have h:decide ((0+l.length)*88≤140737488355328)=true:=by simp; omega
 rw[ay h,Nat.zero_add]
 cases l with
 | nil=>exact anyT_same (h0 rfl)
 | cons a l=>rfl
theorem depthL_mem {l:List Json} {y:Json} (h:y∈l):y.depth≤Json.HL l:=by
 induction l with
 | nil=>cases h
 | cons a l ih =>
  simp only[Json.HL]
  rcases List.mem_cons.1 h with rfl|h
  ·exact Nat.le_max_left _ _
  ·exact Nat.le_trans (ih h) (Nat.le_max_right _ _)
theorem depth_eq (x:Json):x.depth=Json.HL x.items+1:=by cases x; simp[Json.depth]
theorem depth_item {x y:Json} (h:y∈x.items):y.depth<x.depth:=by rw[depth_eq x]; exact Nat.lt_succ_of_le (depthL_mem h)
theorem Zh {α:Type} {l:List α} {i:Nat} (h:i<l.length):l.set i l[i]=l:=List.set_getElem_self h
theorem fresh_loop {R:Type} (f:eS R) (l:List Json) (hl:l.length≤1099511627776) (hf:∀y∈l,∀k,f y k=k y) (a b c:Int) (t:ag) (ns:List ag) (p q r:Int) (u:ag)
  (e0:Int→Int→Int→ag→List ag→Nat→Int→Int→Int→ag→List Json→Option R):∀(n i:Nat),i≤l.length→l.length - i<n →
  cB f n l.length (l.length:Int) (i:Int) a b c t ns l.length p q r u l e0=e0 a b c t ns l.length p q r u l:=by
 intro n
 induction n with
 | zero=>intro i _ h; omega
 | succ n ih =>
  intro i hi hn
  show vU f (fun x1 x2 x3 x4 x5 x6 x7 x8 x9 x10 x11 x12 VZ XA=>cB f n x1 x2 x3 x4 x5 x6 x7 x8 x9 x10 x11 x12 VZ XA e0) _ _ _ _ _ _ _ _ _ _ _ _ _ _ e0=_
  unfold vU
  by_cases h:i<l.length
  ·have h1:decide ((i:Int)<(l.length:Int))=true:=by simp; omega
   have h2:(decide ((0:Int)≤(i:Int))&&true)=true:=by simp
   have h3:decide ((i:Int).toNat<l.length)=true:=by simp; omega
   have hw:IntKind.i64.wrap ((i:Int)+1)=((i+1:Nat):Int):=by rw[cL (by omega) (by omega)]; omega
   have hg:l.getD (i:Int).toNat (Ty.bR .json)=l[i]:=getD_at h _
   rw[h1,cond_true,ay h2,ay h3,hg,Json.eta,hf _ (List.getElem_mem h),ay h2,ay h3,hw,Json.eta]
   have hs:l.set (i:Int).toNat l[i]=l:=Zh h
   rw[hs]
   exact ih (i+1) (by omega) (by omega)
  ·have h1:decide ((i:Int)<(l.length:Int))=false:=by simp; omega
   rw[h1,cond_false]
theorem fresh_N {R:Type}:∀(n:Nat) (x:Json),Hk x→x.depth<n→∀k:Json→Option R,iL n x k=k x:=by
 intro n
 induction n with
 | zero=>intro x _ h; omega
 | succ n ih =>
  intro x hx hd k
  show zo (iL n) x k=_
  unfold zo J8
  rw[clone_str _ hx.names,clone_json _ hx.items]
  ·have:=fresh_loop (iL (R:=R) n) x.items hx.items (fun y hy k=>ih y (hx.item hy) (by have:=depth_item hy; omega) k) x.kind x.num.ao x.num.exp x.text x.names 0 0 0 []
    (fun y40 y41 y42 y43 y44 y45 y46 y47 y48 y49 y50=>k (⟨y40,⟨y41,y42⟩,y43,y44,y50⟩:Json))
   refine (this _ 0 (by omega) (by omega)).trans ?_
   rw[Json.eta]
  ·intro h0
   have:x=⟨x.kind,⟨x.num.ao,x.num.exp⟩,x.text,x.names, []⟩:=by rw[←h0,Json.eta]
   rfl
theorem fresh_eq {R:Type} (x:Json) (hx:Hk x) (k:Json→Option R):gl x k=k x:=fresh_N _ x hx (by omega) k
theorem Tt {R:Type} (l:List ag) (hl:l.length≤1099511627776) (s:ag) (e0:Int→Option R) (e1:Option R):∀(n i:Nat),i≤l.length→l.length - i<n →
  aS n l s (l.length:Int) (i:Int) e1 e0=match (l.drop i).findIdx? (s == ·)with|some j=>e0 ((i+j:Nat):Int)|none=>e1:=by
 intro n
 induction n with
 | zero=>intro i _ h; omega
 | succ n ih =>
  intro i hi hn
  show eY (fun a b c d=>aS n a b c d e1 e0) _ _ _ _ e1 e0=_
  unfold eY
  by_cases h:i<l.length
  ·have h1:decide ((i:Int)<(l.length:Int))=true:=by simp; omega
   have h2:(decide ((0:Int)≤(i:Int))&&true)=true:=by simp
   have hw:IntKind.i64.wrap ((i:Int)+1)=((i+1:Nat):Int):=by rw[cL (by omega) (by omega)]; omega
   have hg:l.getD (i:Int).toNat (Ty.bR .str)=l[i]:=getD_at h _
   have e1':=ih (i+1) (by omega) (by omega)
   rw[h1,cond_true,ay h2,hg,hw,List.drop_eq_getElem_cons h,List.findIdx?_cons]
   simp only[e1']
   cases hq:(s==l[i])with
   | true=>simp
   | false =>
    simp only[cond_false,Bool.false_eq_true,if_false]
    cases (l.drop (i+1)).findIdx? (s == ·)with
    | none=>rfl
    | some j =>
     show e0 ((i+1+j:Nat):Int)=e0 ((i+(j+1):Nat):Int)
     rw[show i+1+j=i+(j+1) by omega]
  ·have h1:decide ((i:Int)<(l.length:Int))=false:=by simp; omega
   rw[h1,cond_false,List.drop_eq_nil_of_le (by omega)]
   rfl
theorem index_eq {R:Type} (l:List ag) (hl:l.length≤1099511627776) (s:ag) (k:Int→Option R):bu l s k=k (match l.findIdx? (s == ·)with|some j=>(j:Int)|none => -1):=by
 unfold bu nO
 refine (Tt l hl s _ _ _ 0 (by omega) (by omega)).trans ?_
 simp only[List.drop_zero,Nat.zero_add]
 cases l.findIdx? (s == ·) <;> rfl
theorem contains_eq {R:Type} (l:List ag) (hl:l.length≤1099511627776) (s:ag) (k:Bool→Option R):aB l s k=k (l.contains s):=by
 unfold aB lR
 rw[index_eq l hl]
 congr 1
 cases hq:l.findIdx? (s == ·)with
 | none =>
  have:l.contains s=false:=by
   rw[List.findIdx?_eq_none_iff]at hq
   rw[List.contains_eq_any_beq]
   simpa [List.any_eq_false]using hq
  rw[this]; rfl
 | some j =>
  have:l.contains s=true:=by
   obtain ⟨hj,hp,_⟩:=List.findIdx?_eq_some_iff_getElem.1 hq
   rw[List.contains_eq_any_beq,List.any_eq_true]
   exact ⟨l[j],List.getElem_mem hj,hp⟩
  rw[this]
  simp
def look (s:ag):List ag→List Json→Option Json
 | n::ns,x::xs=>if s==n then some x else look s ns xs
 | _,_=>none
theorem ZX (s:ag):∀(ns:List ag) (xs:List Json),look s ns xs=(ns.findIdx? (s == ·)).bind fun j=>xs[j]?
 | [],xs=>by simp[look]
 | n::ns, []=>by
  simp only[look]
  cases (n::ns).findIdx? (s == ·) <;> simp
 | n::ns,x::xs=>by
  simp only[look,List.findIdx?_cons]
  cases hq:(s==n)with
  | true=>simp
  | false =>
   simp only[Bool.false_eq_true,if_false,ZX s ns xs]
   cases ns.findIdx? (s == ·) <;> simp
def zeroJ:Json:=⟨0,⟨0,0⟩, [], [], []⟩
theorem find_eq {R:Type} (v:Json) (hv:Hk v) (s:ag) (k:Json→Bool→Option R) :
  ej v s k=match (if v.kind=7 then look s v.names v.items else none)with|some x=>k x true|none=>k zeroJ false:=by
 unfold ej M4
 rw[index_eq _ hv.names]
 by_cases h7:v.kind=7
 ·have c1:(v.kind != 7)=false:=by simp[h7]
  rw[c1,cond_false,if_pos h7,ZX]
  cases hq:v.names.findIdx? (s == ·)with
  | none=>rfl
  | some j =>
   have hj:decide ((j:Int)<0)=false:=by simp
   simp only[Option.bind_some]
   by_cases hi:j<v.items.length
   ·have h1:decide ((j:Int)<(0:Int))=false:=by simp
    have h2:decide ((j:Int)≥(v.items.length:Int))=false:=by simp; omega
    have h3:(decide ((0:Int)≤(j:Int))&&decide ((j:Int)<v.items.length))=true:=by simp; omega
    have hg:v.items.getD (j:Int).toNat (Ty.bR .json)=v.items[j]:=getD_at hi _
    simp only[h1,h2,cond_false,hg,Json.eta]
    rw[ay h3]
    simp[hi]
   ·have h1:decide ((j:Int)<(0:Int))=false:=by simp
    have h2:decide ((j:Int)≥(v.items.length:Int))=true:=by simp; omega
    simp only[h1,h2,cond_false,cond_true]
    simp[show v.items.length≤j by omega]
    rfl
 ·have c1:(v.kind != 7)=true:=by simp[h7]
  rw[c1,cond_true,if_neg h7]
  rfl
end Go.Proofs.YtidfokedcnhahaaGreatDoor.Pu
end
