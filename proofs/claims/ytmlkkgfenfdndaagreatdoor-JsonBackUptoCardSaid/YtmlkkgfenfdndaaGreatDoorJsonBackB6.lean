/-
  JsonBack: for every input whose bulk is at most 1048576 the law returns true, and each argument reads behind the call as it read before; part 6 of 8 of the proof: an interpreter of the model's code over typed data, proved sound; the functions that the law reaches, printed as Lean functions and tied; the plain law. Own texts laid one behind the other.
-/
import Derived.Test.YtmlkkgfenfdndaaGreatDoorCards
import Derived.Test.YtmlkkgfenfdndaaGreatDoorTie
import Derived.Lib.LaidU8T
import Derived.Stop.LaidErr
import Derived.Deep.DeepHandedRow
import Derived.Deep.DeepWitnessRowRef
import Derived.WalkKit
import Derived.ProofKit
import Derived.OpenShut
import Derived.KernelRfl
import Derived.Lib.ValidU
import Derived.Lib.ItoaLen
import Derived.Lib.Repeat
import Derived.Lib.AtoiAll
import Derived.Lib.IndexAny
import Derived.Lib.Bytealg
import Derived.Lib.SlTrimSet
import Derived.Lib.LastIndexByte
import Derived.Lib.ValidLaws
import Derived.Lib.MapLaws
import Derived.Lib.TrimUEq
import Derived.Lib.RuneBytes
import Derived.Sort.Grow
import Derived.Shelf.Strings.BuilderX
import Derived.Lib.ItoaMem
import Derived.Test.YtmlkkgfenfdndaaGreatDoorJsonBackB5
set_option linter.unusedSimpArgs false
set_option linter.unnecessarySimpa false
set_option linter.unusedVariables false
set_option linter.unusedSectionVars false
set_option maxRecDepth 100000
namespace Go.Proofs.YtmlkkgfenfdndaaGreatDoor.Door
open Go Go.Lib Go.RowKit Go.ChangeShapes Go.ay

theorem own:ownKnob Tryz.prog.godebug=none:=by kernel_rfl
theorem leaves:HZ Tryz.prog Go.Proofs.YtmlkkgfenfdndaaGreatDoor.tt:=VO (by kernel_rfl)

theorem gSyn:Tryz.prog.globalNamed "strconv.ErrSyntax" = some 4:=by kernel_rfl
theorem gRng:Tryz.prog.globalNamed "strconv.ErrRange" = some 5:=by kernel_rfl
theorem tSyn:(Tryz.prog.globals[4]?).map (·.type)=some 94:=by kernel_rfl
theorem tRng:(Tryz.prog.globals[5]?).map (·.type)=some 94:=by kernel_rfl
theorem star : "*" ++ "errors.errorString" = "*errors.errorString" :=by decide
theorem Yz (u:TypeId) (h:Tryz.prog.typeName? 3 u=some "*errors.errorString"):u=204 :=
  typeName_ptr_named (nm := "errors.errorString") (by rw[star]; kernel_rfl) (by kernel_rfl) (by decide) u (by rw[star]; exact h)

theorem VT {n:String} {g:Nat} {W:World} {cs:Array Value} (hg:Tryz.prog.globalNamed n=some g) (h:W.var? Tryz.prog n=some cs):g<W.heap.size:=by
  unfold World.var? at h
  simp only[hg,Option.bind_some]at h
  rcases Nat.lt_or_ge g W.heap.size with h'|h'
  · exact h'
  · simp[Array.getElem?_eq_none h']at h

theorem lay_met {W:World} (h:laidMet Tryz.prog Rows.topTextsUptoRow.laid W):oJ.UK W∧∀b,oJ.blocks b→b<W.heap.size:=by
  have r0:VarReads Tryz.prog W "unicode/utf8.first" firstData:=laidMet.reads h (.tail _ (.tail _ (.tail _ (.tail _ (.tail _ (.tail _ (.head _)))))))
  have r1:VarReads Tryz.prog W "unicode/utf8.acceptRanges" acceptData:=laidMet.reads h (.tail _ (.tail _ (.tail _ (.head _))))
  have ht:Utf8Tabs 1 2 W:=utf8Tabs_of_readsT (U8Types.of196 Tryz.Yw) ⟨by kernel_rfl,by kernel_rfl,by kernel_rfl,by kernel_rfl,by kernel_rfl,by kernel_rfl,by kernel_rfl⟩ r0 r1
  have h2:=laidMet.tail (laidMet.tail h)
  have hp:TabIs Tryz.prog W "internal/strconv.uint64pow10" .u64 pow10Tab:=tabIs_of_head (t:=192) (e:=165) (n:=20) NX (by kernel_rfl) (by kernel_rfl) (by kernel_rfl) (by kernel_rfl) (by kernel_rfl) h2
  have h4:=laidMet.tail (laidMet.tail h2)
  obtain ⟨a3,s3,v3,_⟩:=laid_sentinel (ms := #[("Error",75)]) (f := { name := "s",type:=9,offset:=0,embedded:=false,tag := "",pkgPath := "errors",byteOffset:=0 }) (te:=206) (ts:=9) h4 gRng tRng (by kernel_rfl) Yz (by kernel_rfl) (by kernel_rfl) rfl rfl (by kernel_rfl) (by kernel_rfl) (by kernel_rfl)
  obtain ⟨a2,s2,v2,_⟩:=laid_sentinel (ms := #[("Error",75)]) (f := { name := "s",type:=9,offset:=0,embedded:=false,tag := "",pkgPath := "errors",byteOffset:=0 }) (te:=206) (ts:=9) (laidMet.tail h4) gSyn tSyn (by kernel_rfl) Yz (by kernel_rfl) (by kernel_rfl) rfl rfl (by kernel_rfl) (by kernel_rfl) (by kernel_rfl)
  refine ⟨⟨ht,hp,⟨_,_,World.var?_cell gSyn v2 0⟩,⟨_,_,World.var?_cell gRng v3 0⟩⟩,fun b hb => ?_⟩
  have hb:b<8:=hb
  obtain ⟨g,t,cs,fuel,p,hg,_,hv,_⟩:VarReads Tryz.prog W "math/bits.deBruijn64tab" Rows.laid_math_bits_deBruijn64tab:=laidMet.reads h (.tail _ (.head _))
  have e:(some 7:Option Nat)=some g:=(by kernel_rfl:Tryz.prog.globalNamed "math/bits.deBruijn64tab" = some 7).symm.trans hg
  cases e
  have l4:=VT hg hv
  omega

abbrev synS:ByteArray := { data := #[105,110,118,97,108,105,100,32,115,121,110,116,97,120] }
abbrev rngS:ByteArray := { data := #[118,97,108,117,101,32,111,117,116,32,111,102,32,114,97,110,103,101] }
noncomputable def low:Nat:=(World.holding Tryz.prog default ⟨#[], #[], []⟩).heap.size
def lit1:DataW Unit→Value
  | .lit (.int k n) => .int k n
  | _ => .int .u8 0
def YA:DataW Unit→List Value
  | .agg l=>l.map lit1
  | _ => []
noncomputable def Jl (os:Os):World :=
  let w0:=World.holding Tryz.prog os ⟨#[.cells #[.string synS] 206, .cells #[.string rngS] 206], #[], []⟩
  let put (h:Array Obj) (g:Nat) (cs:Array Value):Array Obj:=h.modify g fun
    | .cells _ t frozen => .cells cs t frozen
    | o=>o
  let h0:=put w0.heap 1 (firstTab.map fun z=>Value.int .u8 z).toArray
  let h1:=put h0 2 ((List.range 16).flatMap fun i => [Value.int .u8 (accLo i),Value.int .u8 (accHi i)]).toArray
  let h2:=put h1 4 #[.iface 204 (.pointer (some ⟨low,0,none⟩))]
  let h3:=put h2 5 #[.iface 204 (.pointer (some ⟨low+1,0,none⟩))]
  let h4:=put h3 3 (pow10Tab.map fun z=>Value.int .u64 z).toArray
  let h6:=put h4 6 (YA Rows.laid_math_bits_deBruijn32tab).toArray
  let h7:=put h6 7 (YA Rows.laid_math_bits_deBruijn64tab).toArray
  { w0 with heap:=h7 }

theorem YB (os:Os) (args:Array Value):laidMet Tryz.prog Rows.topTextsUptoRow.laid ((Jl os).forCall (fun _ _=>0) ⟨#[],args, []⟩).memory :=
  laidMet_of_run' 8 (by kernel_rfl) (by kernel_rfl)
end Go.Proofs.YtmlkkgfenfdndaaGreatDoor.Door

set_option maxRecDepth 100000
namespace Go.Proofs.YtmlkkgfenfdndaaGreatDoor
open Go Go.ay
end Go.Proofs.YtmlkkgfenfdndaaGreatDoor

namespace Go.ay
open Go.RowKit

section
variable {P:Program} {tt:dJ} {w w':World} {h h':az} {c c':kh} {R:Type}

theorem yc (hb:Below w.heap.size w w'):Ext w h c w' h c where
  os:=hb.os
  tape:=hb.tape
  output:=hb.output
  size:=hb.size
  used:=fun _ hi=>hi
  same:=fun i hi hd=>⟨C2 (FM hi.2 hd) (fun _ _ _ => .inr trivial),rfl,rfl⟩
  cell:=fun b x hx _=>sB (hb.block b hx)
  block:=fun b hx _=>hb.block b hx
  wa:=fun _ _ _ ho=>ho
  ext:=rfl
  arr:=fun b arr e fz hx=>⟨arr,fz,by rw[hb.block b (yJ hx)]; exact hx,rfl⟩

theorem E8 (wf:WF w h c) (hb:Below w.heap.size w w'):WF w' h c where
  xS:=wf.xS
  pz:=fun b x he=>Nat.lt_of_lt_of_le (wf.pz b x he) hb.size
  obj:=fun i hi=>by
    by_cases hl:(h.at i).live
    · exact (wf.obj i hi).keep (yc hb) (fun b pA=>hb.block b ((wf.obj i hi).lt hl pA)) rfl rfl
    · have h0:h.at i = .free∨h.at i = .dead:=by revert hl; cases h.at i <;> simp[bY.live]
      rcases h0 with h0|h0 <;> rw[h0] <;> trivial
  inj:=wf.inj
  lay:=wf.rW (yc hb)

theorem sC {g:Nat} {fn:Func} (hf:P.funcs[g]? = some fn) (hn:(fn.name == "runtime.NumGoroutine")=false) (hb:fn.body.isNone=false) {args:Array Value} {Q:Value→World→Prop}
    (h:Calls P g args w fun e w'=>∃d,e = .returned d∧Q d w'):wG P g args w Q:=by
  refine ⟨.enter g args,w,?_,h⟩
  have P7:fn.name ≠ "runtime.NumGoroutine" :=by simpa using hn
  have pA:fn.body≠none:=fun e=>by rw[e]at hb; cases hb
  simp[callFunc,hf,P7,pA]

theorem o8 {g:Nat} {fn:Func} (hf:P.funcs[g]? = some fn) (hn:(fn.name == "runtime.NumGoroutine")=false) (hb:fn.body.isNone=false) {sp:Spec R}
    (hs:∀vs hp k r,sp vs hp k=some r→∀(w:World) (c:kh) (args:Array Value),WF w hp c→cH w hp c vs args.toList →
      ∃v,k v hp=some r∧Calls P g args w fun e w'=>∃d,e = .returned d∧Below w.heap.size w w'∧dC w' hp c v d):Spec.Ok P g sp:=by
  intro vs hp k r hk w c args wf ra
  obtain ⟨v,hv,hc⟩:=hs vs hp k r hk w c args wf ra
  refine sC hf hn hb (Calls.mono hc ?_)
  rintro e w' ⟨d,he,Po,hr⟩
  exact ⟨d,he,v,hp,c,E8 wf Po,yc Po,hr,hv⟩

theorem Oq {v:V} {args:Array Value} (ra:cH w h c [v] args.toList):∃d,args = #[d]∧dC w h c v d:=by
  obtain ⟨l⟩:=args
  match l,ra with
  | [d],ra=>exact ⟨d,rfl,ra.head⟩
  | [],ra=>have:=ra.1; simp at this
  | _::_::_,ra=>have:=ra.1; simp at this
theorem Rc {u v:V} {args:Array Value} (ra:cH w h c [u,v] args.toList):∃d e,args = #[d,e]∧dC w h c u d∧dC w h c v e:=by
  obtain ⟨l⟩:=args
  match l,ra with
  | [d,e],ra=>exact ⟨d,e,rfl,ra.head,ra.tail.head⟩
  | [],ra=>have:=ra.1; simp at this
  | [_],ra=>have:=ra.1; simp at this
  | _::_::_::_,ra=>have:=ra.1; simp at this
end

section
variable {P:Program} {tt:dJ} {w w':World} {h h':az} {c c':kh} {R:Type}

def J7 (R:Type):Spec R:=fun vs h k =>
  match vs with
  | [.ptr i 0]=>(match h.at i with | .kI _=>k (.tuple []) h|_=>none)
  | _=>none

theorem Jm {i:Nat} {v:V} {a':Value} (wf:WF w h c) (ra:dC w h c (.ptr i 0) a') (hv:h.at i = .kI v) :
    ∃b p d,a' = .pointer (some ⟨b,0,none⟩)∧c.su i=some b∧w.heap[b]? = some (Obj.cells #[p,d] oJ.kI (0,0))∧(p = .pointer none∨p = .pointer (some ⟨b,0,none⟩))∧dC w h c v d:=by
  have hi:=az.gD hv (by simp)
  have ho:=wf.obj i hi
  rw[hv]at ho
  obtain ⟨b,p,d,g1,g2,g3,g4⟩:=ho
  cases ra with
  | ptr hu hq =>
    obtain ⟨b',rfl,pA⟩:=hq
    have:=pA (by rw[hv]; simp)
    rw[g1]at this; cases this
    exact ⟨b,p,d,rfl,g1,g2,g3,g4⟩

theorem bcc_ok {g:Nat} {fn:Func} (hf:P.funcs[g]? = some fn) (hn:(fn.name == "runtime.NumGoroutine")=false) (hb:fn.body.isNone=false)
    (fresh:∀(b:Nat) (w:World),w.cell? ⟨b,0,none⟩=some (.pointer none)→w.shape? b=some (oJ.kI,2)→w.frozen? ⟨b,0,none⟩=false →
      Calls P g #[.pointer (some ⟨b,0,none⟩)] w fun e w'=>e = .returned (.tuple #[])∧w'=w.setCell ⟨b,0,none⟩ (.pointer (some ⟨b,0,none⟩)))
    (used:∀(b:Nat) (w:World),w.cell? ⟨b,0,none⟩=some (.pointer (some ⟨b,0,none⟩))→Calls P g #[.pointer (some ⟨b,0,none⟩)] w fun e w'=>e = .returned (.tuple #[])∧w'=w):Spec.Ok P g (J7 R):=by
  intro vs h k r hk w c args wf ra
  unfold J7 at hk
  split at hk <;> try (first|cases hk)
  rename_i i
  split at hk <;> try (first|cases hk)
  rename_i v hv
  obtain ⟨a',rfl,r1⟩:=Oq ra
  obtain ⟨b,p,d,rfl,g1,g2,g3,g4⟩:=Jm wf r1 hv
  have Hu:w.cell? ⟨b,0,none⟩=some p:=by rw[cell_of_row w b _ _ _ _ g2]; rfl
  have rt:∀w' h' c',dC w' h' c' (.tuple []) (.tuple #[]):=fun w' h' c' => .tuple rfl (fun j v d hv=>by simp at hv)
  rcases g3 with rfl|rfl
  · refine sC hf hn hb (Calls.mono (fresh b w Hu (by simp[World.shape?,g2]) (vP g2 0)) ?_)
    rintro e w' ⟨he,rfl⟩
    have pA:(w.setCell ⟨b,0,none⟩ (.pointer (some ⟨b,0,none⟩))).heap[b]? = some (.cells #[.pointer (some ⟨b,0,none⟩),d] oJ.kI (0,0)):=by
      simp[World.setCell,Array.getElem?_modify,g2]
    have hw:LG w (w.setCell ⟨b,0,none⟩ (.pointer (some ⟨b,0,none⟩))) b #[.pointer (some ⟨b,0,none⟩),d] oJ.kI (0,0):=⟨rfl,rfl,rfl,by simp,fun k hk=>heap_setCell_other w _ k _ hk,pA⟩
    have rX:(h.at i).from_ (c.off i)=some 0:=by rw[hv]; rfl
    have tP:(h.at i).iF (.kI v):=by rw[hv]; trivial
    have SE:h.set i (.kI v)=h:=by
      have hi:=az.gD hv (by simp)
      have e:h[i] = .kI v:=by
        have:=hv
        unfold az.at at this
        simpa [List.getD,List.getElem?_eq_getElem hi]using this
      rw[←e]
      exact List.set_getElem_self hi
    have x:=HJ g1 g2 hw rfl rX rfl tP
    have q:=Pf wf g1 g2 hw rfl rX rfl tP ⟨b,_,d,g1,pA, .inr rfl,g4.mono x⟩
    rw[SE]at x q
    exact ⟨_,he,_,h,c,q,x,rt _ _ _,hk⟩
  · refine sC hf hn hb (Calls.mono (used b w Hu) ?_)
    rintro e w' ⟨he,rfl⟩
    exact ⟨_,he,_,h,c,wf, .refl _ _ _,rt _ _ _,hk⟩

def sD (l:List Int):aj:=l.map fun n=>UInt8.ofNat n.toNat

theorem YC (l:List Int):(sD l).length=l.length:=List.length_map _
theorem YD (l:List Int) (m:Nat) (x:UInt8) (h:(sD l)[m]? = some x):∃n,l[m]? = some n∧x=UInt8.ofNat n.toNat:=by
  unfold sD at h
  rw[List.getElem?_map]at h
  cases hm:l[m]? with
  | none=>rw[hm]at h; cases h
  | some n=>rw[hm]at h; simp at h; exact ⟨n,rfl,h.symm⟩

def DP (R:Type):Spec R:=fun vs h k =>
  match vs with
  | [.ptr i 0] =>
    (match h.at i with
     | .kI .cF=>k (.str []) h
     | .kI (.sl (.int .u8) l (.own j))=>(match h.at j with | .tok=>k (.str (sD l)) h|_=>none)
     | _=>none)
  | _=>none

theorem FT:HV (DP R):=by
  intro vs h k k' he
  unfold DP
  split <;> try rfl
  split <;> try (first|rfl|exact he _)
  split <;> first|rfl|exact he _

theorem VU (wf:WF w h c) {j g:Nat} (hj:h.at j = .tok) (hg:c.su j=some g) {cur:Array Value} {e:TypeId} {fz F1:Nat × Nat} (h1:w.heap[g]? = some (.cells cur e fz))
    (hos:w'.os=w.os) (htape:w'.tape=w.tape) (hout:w'.output=w.output) (XG:w'.heap.size=w.heap.size) (Jb:∀k,k≠g→w'.heap[k]? = w.heap[k]?) (h2:w'.heap[g]? = some (.cells cur e F1))
    (TW:(fz.1=fz.2∨fz.2≤c.off j)→(F1.1=F1.2∨F1.2≤c.off j)) :
    WF w' h c∧Ext w h c w' h c:=by
  have hjl:=az.gD hj (by simp)
  have mR:tO h c g (c.off j):=⟨j,c.off j,hg,by rw[hj]; rfl,Nat.le_refl _⟩
  have xO:∀b x,w'.cell? ⟨b,x,none⟩=w.cell? ⟨b,x,none⟩:=fun b x=>by
    by_cases hb:b=g
    · subst hb; rw[cell_of_row w' b x cur e F1 h2,cell_of_row w b x cur e fz h1]
    · exact sB (Jb b hb)
  have x:Ext w h c w' h c := {
    os:=hos
    tape:=htape
    output:=hout
    size:=by omega
    used:=(Ext.refl w h c).used
    same:=(Ext.refl w h c).same
    cell:=fun b x _ _=>xO b x
    block:=fun b _ ho=>Jb b (by rintro rfl; exact ho _ mR)
    wa:=(Ext.refl w h c).wa
    ext:=rfl
    arr:=fun b arr el fz0 hb=>by
      by_cases hbg:b=g
      · subst hbg; rw[h1]at hb; cases hb; exact ⟨cur,F1,h2,rfl⟩
      · exact ⟨arr,fz0,by rw[Jb b hbg]; exact hb,rfl⟩ }
  refine ⟨?_,x⟩
  exact {
    lay:=wf.rW x
    xS:=wf.xS
    pz:=fun b y he=>by rw[XG]; exact wf.pz b y he
    obj:=fun i hi=>by
      by_cases xC:i=j
      · subst xC
        have:=wf.obj i hi
        rw[hj]at this ⊢
        rcases this with h0|⟨b',EY,e',fz0,p1,p2,p3,p4⟩
        · rw[hg]at h0; cases h0
        · rw[hg]at p1; cases p1
          rw[h1]at p2; cases p2
          exact .inr ⟨g,cur,e,F1,hg,h2,p3,TW p4⟩
      · by_cases hl:(h.at i).live
        · refine (wf.obj i hi).keep x (fun b hb=>Jb b ?_) rfl rfl
          rintro rfl
          exact xC (wf.inj i j b hl (by rw[hj]; trivial) hb hg)
        · have h0:h.at i = .free∨h.at i = .dead:=by revert hl; cases h.at i <;> simp[bY.live]
          rcases h0 with h0|h0 <;> rw[h0] <;> trivial
    inj:=wf.inj }

theorem PG {q n:Nat} {cur:Array Value} {e:TypeId} {fz:Nat × Nat} (hn:n≠0) (hq:w.heap[q]? = some (.cells cur e fz)) :
    (w.drew.freeze ⟨q,0,none⟩ n).os=w.os∧(w.drew.freeze ⟨q,0,none⟩ n).tape=w.tape∧(w.drew.freeze ⟨q,0,none⟩ n).output=w.output∧(w.drew.freeze ⟨q,0,none⟩ n).heap.size=w.heap.size ∧
      (∀k,k≠q→(w.drew.freeze ⟨q,0,none⟩ n).heap[k]? = w.heap[k]?)∧∃F1,(w.drew.freeze ⟨q,0,none⟩ n).heap[q]? = some (.cells cur e F1)∧∀o,n≤o→(fz.1=fz.2∨fz.2≤o)→(F1.1=F1.2∨F1.2≤o):=by
  obtain ⟨lo,hi⟩:=fz
  unfold World.freeze
  rw[if_neg hn]
  refine ⟨rfl,rfl,rfl,Array.size_modify,fun k hk => ?_,(if lo==hi then (0,0+n)else (min lo 0,max hi (0+n))),?_,fun o ho hf => ?_⟩
  · simp only[Array.getElem?_modify]
    rw[if_neg (Ne.symm hk)]
    rfl
  · simp only[Array.getElem?_modify,if_true]
    rw[show w.drew.heap[q]? = some (.cells cur e (lo,hi))from hq]
    rfl
  · simp only at hf
    split
    · exact .inr (by simp; omega)
    · rename_i j7
      have:lo≠hi:=by simpa using j7
      exact .inr (by simp; omega)

theorem u8_of {n:Int} (hn:IntKind.u8.has n):((UInt8.ofNat n.toNat).toNat:Int)=n:=by
  have:0≤n∧n≤255:=by simpa [IntKind.has,IntKind.min,IntKind.max,IntKind.signed,IntKind.bits]using hn
  simp only[UInt8.toNat_ofNat']
  omega

structure Mb (P:Program) (g:Nat):Prop where
  nil:∀(b:Nat) (p:Value) (w:World),w.heap[b]? = some (.cells #[p, .slice none 0 0] oJ.kI (0,0)) →
    Calls P g #[.pointer (some ⟨b,0,none⟩)] w fun e w'=>e = .returned (.string ⟨#[]⟩)∧Below w.heap.size w w'
  YE:∀(b q:Nat) (p:Value) (cur:Array Value) (fz:Nat × Nat) (w:World),w.heap[b]? = some (.cells #[p, .slice (some ⟨q,0,none⟩) 0 0] oJ.kI (0,0))→w.heap[q]? = some (.cells cur oJ.u8 fz) →
    Calls P g #[.pointer (some ⟨b,0,none⟩)] w fun e w'=>e = .returned (.string ⟨#[]⟩)∧Below w.heap.size w w'
  room:∀(b q cap:Nat) (p:Value) (w:World),cap≠0→w.heap[b]? = some (.cells #[p, .slice (some ⟨q,0,none⟩) 0 cap] oJ.kI (0,0)) →
    Calls P g #[.pointer (some ⟨b,0,none⟩)] w fun e w'=>e = .returned (.string ⟨#[]⟩)∧Below w.heap.size w w'
  some:∀(b q cap:Nat) (p:Value) (cur:Array Value) (fz:Nat × Nat) (l:List UInt8) (w:World),l ≠ []→w.heap[b]? = some (.cells #[p, .slice (some ⟨q,0,none⟩) l.length cap] oJ.kI (0,0)) →
    w.heap[q]? = some (.cells cur oJ.u8 fz)→l.length≤cap→cap≤mx→l.length≤cur.size→(∀(j:Nat) (x:UInt8),l[j]? = some x→w.cell? ⟨q,j,none⟩=some (.int .u8 x.toNat)) →
    Calls P g #[.pointer (some ⟨b,0,none⟩)] w fun e w'=>e = .returned (.string ⟨l.toArray⟩)∧w'=w.drew.freeze ⟨q,0,none⟩ l.length

theorem bstr_ok {g:Nat} {fn:Func} (hf:P.funcs[g]? = some fn) (hn:(fn.name == "runtime.NumGoroutine")=false) (hb:fn.body.isNone=false) (D:Mb P g):Spec.Ok P g (DP R):=by
  intro vs h k r hk w c args wf ra
  unfold DP at hk
  split at hk <;> try (first|cases hk)
  rename_i i
  obtain ⟨a',rfl,r1⟩:=Oq ra
  have empty:∀ {w':World} {h':az} {c':kh},dC w' h' c' (.str []) (.string ⟨#[]⟩):=fun {w' h' c'}=>Au ⟨#[]⟩ rfl (Nat.zero_le _)
  split at hk <;> try (first|cases hk)
  · rename_i hv
    obtain ⟨b,p,d,rfl,g1,g2,g3,g4⟩:=Jm wf r1 hv
    cases g4
    refine sC hf hn hb (Calls.mono (D.nil b p w g2) ?_)
    rintro e w' ⟨he,Po⟩
    exact ⟨_,he,_,h,c,E8 wf Po,yc Po,empty,hk⟩
  · rename_i l j hv
    split at hk <;> try (first|cases hk)
    rename_i hj
    obtain ⟨b,p,d,rfl,g1,g2,g3,g4⟩:=Jm wf r1 hv
    have hi:=az.gD hv (by simp)
    have xC:j≠i:=by rintro rfl; rw[hj]at hv; cases hv
    have hu8:∀x∈(l:List Int),IntKind.u8.has x:=by
      intro x hx
      cases g4 with
      | sl f lO sw hc hr xR mR =>
        obtain ⟨m,hm⟩:=List.mem_iff_getElem?.1 hx
        exact (hr m 0 x (.int .u8 x) hm rfl).iQ.2
    have hlen:(sD l).length=List.length (α:=Int) l:=YC l
    cases g4 with
    | @sl _ _ _ A cap f lO sw hc hr xR mR =>
      obtain ⟨_,ho⟩:=mR j rfl
      have hcap':List.length (α:=Int) l≤cap:=lO
      have HA:∀(w':World) (h':az) (c':kh),dC w' h' c' (.str (sD l)) (.string ⟨(sD l).toArray⟩):=fun w' h' c'=>Au _ rfl (by rw[hlen]; exact Nat.le_trans lO sw)
      rcases ho hj with ⟨e1,rfl,rfl⟩|⟨q,o,cur,e,fz,e1,rfl,e3,e4,e5,e6⟩
      · have JX:l = []:=List.eq_nil_of_length_eq_zero (Nat.le_zero.1 lO)
        subst JX
        refine sC hf hn hb (Calls.mono (D.nil b p w g2) ?_)
        rintro e w' ⟨he,Po⟩
        exact ⟨_,he,_,h,c,E8 wf Po,yc Po,HA _ _ _,hk⟩
      · obtain ⟨rfl,rfl⟩:=e6 rfl
        by_cases JX:l = []
        · subst JX
          by_cases Hu:cap=0
          · subst Hu
            refine sC hf hn hb (Calls.mono (D.YE b q p cur fz w g2 e4) ?_)
            rintro e w' ⟨he,Po⟩
            exact ⟨_,he,_,h,c,E8 wf Po,yc Po,HA _ _ _,hk⟩
          · refine sC hf hn hb (Calls.mono (D.room b q cap p w Hu g2) ?_)
            rintro e w' ⟨he,Po⟩
            exact ⟨_,he,_,h,c,E8 wf Po,yc Po,HA _ _ _,hk⟩
        · have Po:sD l ≠ []:=fun e=>JX (List.eq_nil_of_length_eq_zero (hlen.symm.trans (by rw[e]; rfl)))
          have e5':0+cap*1≤cur.size:=e5
          have CB:∀(m:Nat) (x:UInt8),(sD l)[m]? = some x→w.cell? ⟨q,m,none⟩=some (.int .u8 x.toNat):=by
            intro m x hx
            obtain ⟨n,hm,rfl⟩:=YD l m x hx
            have hml:m<List.length (α:=Int) l:=(List.getElem?_eq_some_iff.1 hm).1
            obtain ⟨b',o',hA,xO,_⟩:=hc m 0 hml (by simp[Ty.sz])
            cases hA
            have hrn:=hr m 0 n (.int .u8 n) hm rfl
            rw[hrn.iQ.1]at xO
            rw[u8_of hrn.iQ.2]
            simpa [Ty.sz]using xO
          have g2':w.heap[b]? = some (.cells #[p, .slice (some ⟨q,0,none⟩) (sD l).length cap] oJ.kI (0,0)):=by rw[hlen]; exact g2
          refine sC hf hn hb (Calls.mono (D.some b q cap p cur fz (sD l) w Po g2' e4 (by rw[hlen]; exact lO) sw (by rw[hlen]; omega) CB) ?_)
          rintro e w' ⟨he,rfl⟩
          have hne0:(sD l).length≠0:=by simpa using Po
          obtain ⟨f1,f2,f3,f4,f5,F1,f6,f7⟩:=PG hne0 e4
          obtain ⟨q1,q2⟩:=VU wf hj e1 e4 f1 f2 f3 f4 f5 f6 (f7 _ (by rw[e3,hlen]; simp[Ty.sz]; exact Nat.le_refl _))
          exact ⟨_,he,_,h,c,q1,q2,HA _ _ _,hk⟩
end

def tI (s:aj):Bool:=s.all fun b=>decide (b.toNat<128)
def jt (s:aj):Bool:=Go.Lib.validD s
def oi (s:aj):Nat × Nat:=if s.isEmpty then (65533,0)else Utf8.decode ⟨s.toArray⟩ 0
def cv (n:Int):aj:=Go.Lib.itoa n
def lG (s:aj) (n:Int):aj:=Go.Lib.repeatL s n.toNat
def bE (s cs:aj):aj:=s.dropWhile (cs.contains ·)
def cU (s cs:aj):aj:=(s.reverse.dropWhile (cs.contains ·)).reverse
def sE (s:aj):Bool:=match Go.Lib.atoiAll s with | .ok _=>true|_=>false
def eA (s:aj):Int:=match Go.Lib.atoiAll s with | .ok v=>v | .range=>Go.Lib.atoiSat s|_=>0
def Mc (s cs:aj):Bool:=Go.Lib.containsAny s cs
def yL (s:aj) (c:Int):Int:=Go.Lib.indexByte s c.toNat.toUInt8

section
variable (R:Type)
def PH:Spec R:=fun vs h k=>match vs with | [.str s]=>k (.bool (jt s)) h|_=>none
def YF:Spec R:=fun vs h k=>match vs with | [.str s]=>k (.tuple [.int .i32 (oi s).1, .int .i64 (oi s).2]) h|_=>none
def S9:Spec R:=fun vs h k=>match vs with | [.int .i64 n]=>k (.str (cv n)) h|_=>none
def YG:Spec R:=fun vs h k=>match vs with | [.str s, .int .i64 n]=>cX (decide (0≤n)&&decide ((s.length:Int)*n≤140737488355328)) (k (.str (lG s n)) h)|_=>none
def H3:Spec R:=fun vs h k=>match vs with | [.str s, .str cs]=>cX (tI cs&&decide (cs.length<4294967281)) (k (.str (bE s cs)) h)|_=>none
def PI:Spec R:=fun vs h k=>match vs with | [.str s, .str cs]=>cX (tI cs&&decide (cs.length<4294967281)) (k (.str (cU s cs)) h)|_=>none
def PJ:Spec R:=fun vs h k=>match vs with
  | [.str s]=>cX (decide (s.length≤281474976710656)) (bif sE s then k (.tuple [.int .i64 (eA s), .cR]) h else k (.tuple [.int .i64 (eA s), .iface]) h)
  | _=>none
def toErr_S (T:Nat):Spec R:=fun vs h k=>match vs with
  | [.str _, .str s, .int .i64 _, .int .i64 _, .ET t .i64 n]=>cX (Nat.beq t T&&(n==2||n==1)) (cX (decide (s.length≤281474976710656)) (k .iface h))
  | _=>none
def Md:Spec R:=fun vs h k=>match vs with
  | [.str s, .str cs]=>cX (tI s&&tI cs&&decide (s.length<4294967281)&&decide (cs.length<4294967281)) (k (.bool (Mc s cs)) h)
  | _=>none
def Uk:Spec R:=fun vs h k=>match vs with | [.str s, .int .u8 c]=>k (.int .i64 (yL s c)) h|_=>none
end

section
variable {P:Program} {w w':World} {h:az} {c:kh} {R:Type}
open Go.Lib

theorem KZ {s:aj} (hs:tI s=true):∀(j:Nat) (b:UInt8),s[j]? = some b→b.toNat<128:=by
  intro j b hb
  have:=List.all_eq_true.1 hs b (List.mem_of_getElem? hb)
  simpa using this

theorem yM (p:UInt8→Bool):∀s:aj,(s.dropWhile p).length≤s.length
  | []=>Nat.le_refl _
  | b::s=>by
    rw[List.dropWhile_cons]
    split
    · have:=yM p s; simp; omega
    · exact Nat.le_refl _

theorem PK (l:aj) (h':l.length≤mx):dC w h c (.str l) (.string ⟨l.toArray⟩):=Au _ rfl h'

theorem mJ {g:Nat} {args:Array Value} {Q:Ending→World→Prop} {v:V} (hc:Calls P g args w Q)
    (hq:∀e w',Q e w'→∃d,e = .returned d∧Below w.heap.size w w'∧dC w' h c v d):Calls P g args w fun e w'=>∃d,e = .returned d∧Below w.heap.size w w'∧dC w' h c v d:=Calls.mono hc fun e w' q=>hq e w' q

end
end Go.ay

set_option maxRecDepth 100000
namespace Go.ay
open Go.Lib

def vr (c:Nat):Prop:=c<55296∨(57344≤c∧c≤1114111)
instance (c:Nat):Decidable (vr c):=inferInstanceAs (Decidable (_∨_))

def enc (c:Nat):aj:=encodeRune (c:Int)

theorem enc1 {c:Nat} (h:c<128):enc c = [UInt8.ofNat c]:=by
  unfold enc encodeRune encodeRuneZ
  rw[if_pos (by omega)]
  rfl
theorem enc2 {c:Nat} (h0:128≤c) (h:c<2048):enc c = [UInt8.ofNat (192+c / 64),UInt8.ofNat (128+c % 64)]:=by
  unfold enc encodeRune encodeRuneZ
  rw[if_neg (by omega),if_pos (by omega)]
  have e1:(192+(c:Int) / 64).toNat=192+c / 64:=by omega
  have e2:(128+(c:Int) % 64).toNat=128+c % 64:=by omega
  simp only[List.map_cons,List.map_nil,e1,e2]
theorem enc3 {c:Nat} (h0:2048≤c) (h:c<65536) (hv:vr c):enc c = [UInt8.ofNat (224+c / 4096),UInt8.ofNat (128+c / 64 % 64),UInt8.ofNat (128+c % 64)]:=by
  unfold vr at hv
  unfold enc encodeRune encodeRuneZ
  rw[if_neg (by omega),if_neg (by omega),if_pos (by omega)]
  have e1:(224+(c:Int) / 4096).toNat=224+c / 4096:=by omega
  have e2:(128+(c:Int) / 64 % 64).toNat=128+c / 64 % 64:=by omega
  have e3:(128+(c:Int) % 64).toNat=128+c % 64:=by omega
  simp only[List.map_cons,List.map_nil,e1,e2,e3]
theorem enc4 {c:Nat} (h0:65536≤c) (h:c<1114112):enc c = [UInt8.ofNat (240+c / 262144),UInt8.ofNat (128+c / 4096 % 64),UInt8.ofNat (128+c / 64 % 64),UInt8.ofNat (128+c % 64)]:=by
  unfold enc encodeRune encodeRuneZ
  rw[if_neg (by omega),if_neg (by omega),if_neg (by omega),if_pos (by omega)]
  have e1:(240+(c:Int) / 262144).toNat=240+c / 262144:=by omega
  have e2:(128+(c:Int) / 4096 % 64).toNat=128+c / 4096 % 64:=by omega
  have e3:(128+(c:Int) / 64 % 64).toNat=128+c / 64 % 64:=by omega
  have e4:(128+(c:Int) % 64).toNat=128+c % 64:=by omega
  simp only[List.map_cons,List.map_nil,e1,e2,e3,e4]

theorem gX (n:Nat) (h:n<256):(UInt8.ofNat n).toNat=n:=by
  simp only[UInt8.toNat_ofNat']
  omega

theorem Ot {c:Nat} (h:vr c):c<1114112:=by unfold vr at h; omega
theorem C7 {c:Nat} (hv:vr c):(c<128∧enc c = [UInt8.ofNat c])∨(128≤c∧c<2048∧enc c = [UInt8.ofNat (192+c / 64),UInt8.ofNat (128+c % 64)]) ∨
    (2048≤c∧c<65536∧enc c = [UInt8.ofNat (224+c / 4096),UInt8.ofNat (128+c / 64 % 64),UInt8.ofNat (128+c % 64)]) ∨
    (65536≤c∧enc c = [UInt8.ofNat (240+c / 262144),UInt8.ofNat (128+c / 4096 % 64),UInt8.ofNat (128+c / 64 % 64),UInt8.ofNat (128+c % 64)]):=by
  have:=Ot hv
  by_cases h1:c<128
  · exact .inl ⟨h1,enc1 h1⟩
  by_cases h2:c<2048
  · exact .inr (.inl ⟨by omega,h2,enc2 (by omega) h2⟩)
  by_cases h3:c<65536
  · exact .inr (.inr (.inl ⟨by omega,h3,enc3 (by omega) h3 hv⟩))
  · exact .inr (.inr (.inr ⟨by omega,enc4 (by omega) this⟩))

theorem Ay {c:Nat} (hv:vr c):1≤(enc c).length∧(enc c).length≤4:=by
  rcases C7 hv with ⟨_,e⟩|⟨_,_,e⟩|⟨_,_,e⟩|⟨_,e⟩ <;> rw[e] <;> simp

theorem H4 {c:Nat} (hv:vr c) (t:aj):decodeL (enc c++t)=(c,(enc c).length):=by
  have kY:=Ot hv
  unfold vr at hv
  rw[decodeL_N]
  rcases C7 hv with ⟨h1,e⟩|⟨h0,h1,e⟩|⟨h0,h1,e⟩|⟨h0,e⟩ <;> rw[e]
  · simp only[List.cons_append,List.getD_cons_zero,gX c (by omega)]
    exact decodeN_ascii _ _ _ _ _ h1
  · simp only[List.cons_append,List.nil_append,List.getD_cons_zero,List.getD_cons_succ,gX (192+c / 64) (by omega),gX (128+c % 64) (by omega),List.length_cons]
    unfold decodeN
    rw[if_neg (by omega),if_pos ⟨by omega,by omega,by omega⟩,if_pos (by omega)]
    refine Prod.ext ?_ rfl
    show (192+c / 64) % 32*64+(128+c % 64) % 64=c
    omega
  · simp only[List.cons_append,List.nil_append,List.getD_cons_zero,List.getD_cons_succ,gX (224+c / 4096) (by omega),gX (128+c / 64 % 64) (by omega),gX (128+c % 64) (by omega),List.length_cons]
    unfold decodeN
    have k:(224+c / 4096) % 16*4096+(128+c / 64 % 64) % 64*64+(128+c % 64) % 64=c:=by omega
    rw[if_neg (by omega),if_neg (by omega),if_pos ⟨by omega,⟨by omega,by omega⟩,by omega,by omega⟩,k,if_pos (by omega)]
    simp only[List.length_nil]
  · simp only[List.cons_append,List.nil_append,List.getD_cons_zero,List.getD_cons_succ,gX (240+c / 262144) (by omega),gX (128+c / 4096 % 64) (by omega),gX (128+c / 64 % 64) (by omega),gX (128+c % 64) (by omega),List.length_cons]
    unfold decodeN
    have k:(240+c / 262144) % 8*262144+(128+c / 4096 % 64) % 64*4096+(128+c / 64 % 64) % 64*64+(128+c % 64) % 64=c:=by omega
    rw[if_neg (by omega),if_neg (by omega),if_neg (by omega),if_pos ⟨by omega,⟨by omega,by omega⟩,⟨by omega,by omega⟩,by omega,by omega⟩,k,if_pos (by omega)]
    simp only[List.length_nil]

def Ta (l:aj):Prop:=¬((decodeL l).1=65533∧(decodeL l).2=1)
instance (l:aj):Decidable (Ta l):=inferInstanceAs (Decidable (¬_))

theorem Rd {c:Nat} (hv:vr c) (t:aj):Ta (enc c++t):=by
  unfold Ta
  rw[H4 hv t]
  rintro ⟨h1,h2⟩
  simp only at h1 h2
  rw[h1]at h2
  rw[enc3 (by omega) (by omega) (by unfold vr; omega)]at h2
  cases h2

theorem Tb (n b0 b1 b2 b3:Nat) (h0:b0<256):vr (decodeN n b0 b1 b2 b3).1:=by
  unfold vr decodeN
  repeat' split
  all_goals simp only
  all_goals omega

theorem Tc (l:aj):vr (decodeL l).1:=by
  rw[decodeL_N]
  exact Tb _ _ _ _ _ (UInt8.toNat_lt _)

theorem YH {l:aj} (j7:l ≠ []) (h:Ta l):l=enc (decodeL l).1++l.drop (decodeL l).2∧(enc (decodeL l).1).length=(decodeL l).2:=by
  have h1:=encode_decode l j7 h
  have h2:=decodeL_le l j7
  refine ⟨?_,?_⟩
  · unfold enc
    rw[h1,List.take_append_drop]
  · unfold enc
    rw[h1,List.length_take]
    omega

theorem J8 {l:aj} (j7:l ≠ []):jt l=if Ta l then jt (l.drop (decodeL l).2)else false:=by
  unfold jt
  rw[validD_step l j7]
  by_cases h:Ta l
  · rw[if_pos h,if_neg (show ¬((decodeL l).1=65533∧(decodeL l).2=1)from h)]
  · rw[if_neg h,if_pos (Decidable.not_not.1 h)]

theorem YI {c:Nat} (hv:vr c) (t:aj):enc c++t ≠ []:=by
  have:=Ay hv
  intro e
  have:=congrArg List.length e
  rw[List.length_append,List.length_nil]at this
  omega

theorem Td {c:Nat} (hv:vr c) (t:aj):jt (enc c++t)=jt t:=by
  rw[J8 (YI hv t),if_pos (Rd hv t),H4 hv t]
  simp

def cT (rs:List Nat):aj:=rs.flatMap enc

theorem J9:∀(rs:List Nat),(∀c∈rs,vr c)→∀t,jt (cT rs++t)=jt t
  | [],_,t=>rfl
  | c::rs,h,t=>by
    have:cT (c::rs)++t=enc c++(cT rs++t):=by simp[cT]
    rw[this,Td (h c (by simp)),J9 rs (fun x hx=>h x (by simp[hx]))]

theorem Ka:∀(n:Nat) (l:aj),l.length≤n→jt l=true→∃rs:List Nat,(∀c∈rs,vr c)∧l=cT rs
  | 0,l,hl,_=>⟨[],by simp,List.eq_nil_of_length_eq_zero (by omega)⟩
  | n+1,l,hl,h=>by
    by_cases j7:l = []
    · exact ⟨[],by simp,j7⟩
    rw[J8 j7]at h
    split at h
    · rename_i hg
      obtain ⟨h1,h2⟩:=YH j7 hg
      have h3:=Ay (Tc l)
      obtain ⟨rs,hr,e⟩:=Ka n (l.drop (decodeL l).2) (by rw[List.length_drop]; omega) h
      refine ⟨(decodeL l).1::rs,?_,?_⟩
      · intro c hc
        rcases List.mem_cons.1 hc with rfl|hc
        · exact Tc l
        · exact hr c hc
      · exact h1.trans ((congrArg (enc (decodeL l).1 ++ ·) e).trans (by simp[cT]))
    · cases h

theorem C8 {l:aj}:jt l=true↔∃rs:List Nat,(∀c∈rs,vr c)∧l=cT rs:=by
  refine ⟨Ka l.length l (Nat.le_refl _),?_⟩
  rintro ⟨rs,hr,rfl⟩
  have:=J9 rs hr []
  rw[List.append_nil]at this
  rw[this]; rfl

theorem Re {s t:aj} {i:Nat} (h:i<s.length):(s++t).getD i 0=s.getD i 0:=by
  simp[List.getD,List.getElem?_append_left h]
end Go.ay

namespace Go.ay

theorem aT {R:Type} {b:Bool} {k:Option R} (h:b=true):cX b k=k:=by subst h; rfl

theorem dD {n:Int} (h1 : -9223372036854775808≤n) (h2:n≤9223372036854775807):IntKind.i64.wrap n=n:=by
  simp only[IntKind.wrap,IntKind.bits,IntKind.signed,IntKind.min,IntKind.max]
  simp
  omega

theorem Json.eta (x:Json):(⟨x.kind,⟨x.num.aB,x.num.exp⟩,x.text,x.names,x.items⟩:Json)=x:=by cases x; rfl
theorem Raw.eta (x:Raw):(⟨x.kind,x.aB,x.exp,x.text,x.items⟩:Raw)=x:=by cases x; rfl

theorem getD_at {α:Type} {l:List α} {i:Nat} (h:i<l.length) (d:α):l.getD i d=l[i]:=by simp[List.getD,h]
end Go.ay

set_option maxRecDepth 100000
namespace Go.Proofs.YtmlkkgfenfdndaaGreatDoor
open Go Go.ay Go.RowKit Go.Shelf

section
variable {w w':World} {h:az} {c:kh} {R:Type}

theorem below_drewN:∀(q:Nat) (a:World),Below w.heap.size w a→Below w.heap.size w (a.drewN q)
  | 0,_,ha=>ha
  | q+1,a,ha=>(below_drewN q a ha).drew

theorem Te (a:World) (os:Array Obj) (ha:Below w.heap.size w a):Below w.heap.size w { a with heap:=a.heap++os } :=
  ⟨ha.os,ha.tape,ha.output,by simp; have:=ha.size; omega,fun k hk=>by
    have:=ha.size
    rw[←ha.block k hk]
    exact Array.getElem?_append_left (by omega)⟩

theorem Rf (e:TypeId) (t:ByteArray):Below w.heap.size w (Go.Lib.bytesWorld w e t):=by
  unfold Go.Lib.bytesWorld World.freeze
  have hb:Below w.heap.size w (w.drew.alloc (.cells (Go.Lib.bytesCells w e t) e)):=xW w _
  split
  · exact hb
  · refine ⟨hb.os,hb.tape,hb.output,?_,fun k hk => ?_⟩
    · have:=hb.size; simpa using this
    · rw[←hb.block k hk]
      simp only[Array.getElem?_modify]
      rw[if_neg (by show ¬w.heap.size=k; omega)]

theorem YJ (s cs:aj):(bE s cs).length≤s.length:=yM _ s
theorem YK (s cs:aj):(cU s cs).length≤s.length:=by
  unfold cU
  rw[List.length_reverse]
  exact Nat.le_trans (yM _ _) (by simp)
theorem VV (s:aj):bE s []=s:=by
  unfold bE
  cases s with
  | nil=>rfl
  | cons b s=>simp
theorem VW (s:aj):cU s []=s:=by
  unfold cU
  have:(s.reverse.dropWhile fun x=>List.contains [] x)=s.reverse:=by
    cases s.reverse with
    | nil=>rfl
    | cons b s=>simp
  rw[this,List.reverse_reverse]
theorem VX (s:aj) (b:UInt8):bE s [b]=Go.Lib.trimLeftB s b:=by
  unfold bE Go.Lib.trimLeftB
  congr 1
  funext x
  rw[List.contains_cons]
  show (x==b||false)=_
  rw[Bool.or_false]
theorem VY (s:aj) (b:UInt8):cU s [b]=Go.Lib.trimRightB s b:=by
  unfold cU Go.Lib.trimRightB
  congr 2
  funext x
  rw[List.contains_cons]
  show (x==b||false)=_
  rw[Bool.or_false]

theorem YL:ay.Spec.Ok Tryz.prog 72 (PH R):=by
  refine o8 Tryz.func72 rfl rfl fun vs hp k r hk w c args wf ra => ?_
  unfold PH at hk
  split at hk <;> try (first|cases hk)
  rename_i s
  obtain ⟨a,rfl,r1⟩:=Oq ra
  obtain ⟨t,rfl,rfl,hl⟩:=r1.kJ
  refine ⟨_,hk,mJ (Any.utf8_ValidString Tryz.Yw t w hl wf.lay.1.1) ?_⟩
  rintro e w' ⟨he,hb⟩
  exact ⟨_,he,hb, .bool _⟩

theorem dec_ok:ay.Spec.Ok Tryz.prog 130 (YF R):=by
  refine o8 Tryz.func130 rfl rfl fun vs hp k r hk w c args wf ra => ?_
  unfold YF at hk
  split at hk <;> try (first|cases hk)
  rename_i s
  obtain ⟨a,rfl,r1⟩:=Oq ra
  obtain ⟨t,rfl,rfl,hl⟩:=r1.kJ
  have hd:Go.Lib.decodeGo t=oi t.data.toList:=by
    unfold Go.Lib.decodeGo oi
    by_cases h0:t.size=0
    · have:t.data.toList = []:=List.eq_nil_of_length_eq_zero (by rw[size_data]; exact h0)
      simp[h0,this]
    · have:t.data.toList ≠ []:=fun e=>h0 (by rw[←size_data,e]; rfl)
      have hm:(⟨t.data.toList.toArray⟩:ByteArray)=t:=sA rfl
      simp[h0,hm]
      exact fun e=>absurd (show t.data.size=0 by rw[e]; rfl) h0
  have kY:(oi t.data.toList).1<2097152∧(oi t.data.toList).2≤4:=by
    unfold oi
    split
    · exact ⟨by omega,by omega⟩
    · exact ⟨(Jc _ _).1,(Jc _ _).2.2⟩
  refine ⟨_,hk,mJ (Any.utf8_DecodeRuneInString Tryz.lay197 t w wf.lay.1.1) ?_⟩
  rintro e w' ⟨he,hb⟩
  rw[hd]at he
  refine ⟨_,he,hb, .tuple rfl fun j v d hv hd => ?_⟩
  match j,hv,hd with
  | 0,hv,hd=>simp at hv hd; subst hv; subst hd; exact .int (QS _ kY.1)
  | 1,hv,hd=>simp at hv hd; subst hv; subst hd; exact .int (Dz _ (by unfold mx; omega))
  | j+2,hv,_=>simp at hv

theorem itoa_ok:ay.Spec.Ok Tryz.prog 66 (S9 R):=by
  refine o8 Tryz.func66 rfl rfl fun vs hp k r hk w c args wf ra => ?_
  unfold S9 at hk
  split at hk <;> try (first|cases hk)
  rename_i n
  obtain ⟨a,rfl,r1⟩:=Oq ra
  obtain ⟨rfl,hn⟩:=r1.iQ
  have P7 : -9223372036854775808≤n∧n≤9223372036854775807:=by simpa [IntKind.has,IntKind.min,IntKind.max,IntKind.signed,IntKind.bits]using hn
  refine ⟨_,hk,mJ (Any.strconv_Itoa Tryz.lay171 n P7.1 P7.2 w wf.lay.1.2.1) ?_⟩
  rintro e w' ⟨he,q,os,rfl⟩
  refine ⟨_,he,Te _ os (below_drewN q w (Below.refl _ _)),PK _ ?_⟩
  have:=Go.Lib.itoa_length_le n P7.1 P7.2
  unfold cv mx
  omega

theorem x72:Builder.X72 Tryz.prog Tryz.DO := { sizeBuilder:=by kernel_rfl,liesBuilder:=by kernel_rfl }
theorem YM:Builder.Extra Tryz.prog Tryz.DO := { x72 with t5:=Tryz.underlying5,a5:=Tryz.isAgg5,z5:=Tryz.sizeOf5,v5:=Tryz.zeroValue5,infoByte:=by kernel_rfl,cellsByte:=by kernel_rfl,sizeByte:=by kernel_rfl,neB5:=by decide }

theorem rep_ok:ay.Spec.Ok Tryz.prog 67 (YG R):=by
  refine o8 Tryz.func67 rfl rfl fun vs hp k r hk w c args wf ra => ?_
  unfold YG at hk
  split at hk <;> try (first|cases hk)
  rename_i s n
  obtain ⟨hc,hk⟩:=cx hk
  simp only[Bool.and_eq_true,decide_eq_true_eq]at hc
  obtain ⟨h0,hlen⟩:=hc
  obtain ⟨a,b,rfl,r1,r2⟩:=Rc ra
  obtain ⟨t,rfl,rfl,hl⟩:=r1.kJ
  obtain ⟨rfl,hn⟩:=r2.iQ
  obtain ⟨m,rfl⟩:=Int.eq_ofNat_of_zero_le h0
  have P7:(m:Int)≤9223372036854775807:=by
    have:IntKind.i64.has (m:Int):=hn
    simp[IntKind.has,IntKind.min,IntKind.max,IntKind.signed,IntKind.bits]at this
    omega
  rw[size_data]at hlen
  have hlen':t.size*m≤140737488355328:=by omega
  have hrl:(Go.Lib.repeatL t.data.toList m).length≤140737488355328:=by
    rw[Go.Lib.repeatL_length,size_data,Nat.mul_comm]; exact hlen'
  refine ⟨_,hk,mJ (Any.strings_Repeat Tryz.Yx YM t m w (by omega) hlen') ?_⟩
  rintro e w' ⟨he,hb⟩
  refine ⟨_,he,hb,?_⟩
  have e2:lG t.data.toList (m:Int)=Go.Lib.repeatL t.data.toList m:=by unfold lG; simp
  rw[e2]
  exact PK _ (by unfold mx; omega)

theorem Me:ay.Spec.Ok Tryz.prog 68 (H3 R):=by
  refine o8 Tryz.func68 rfl rfl fun vs hp k r hk w c args wf ra => ?_
  unfold H3 at hk
  split at hk <;> try (first|cases hk)
  rename_i s cs
  obtain ⟨hc,hk⟩:=cx hk
  simp only[Bool.and_eq_true,decide_eq_true_eq]at hc
  obtain ⟨ha,ES⟩:=hc
  obtain ⟨a,b,rfl,r1,r2⟩:=Rc ra
  obtain ⟨t,rfl,rfl,hl⟩:=r1.kJ
  obtain ⟨u,rfl,rfl,P8⟩:=r2.kJ
  rw[size_data]at ES
  have Tf:=KZ ha
  have hle:=YJ t.data.toList u.data.toList
  rw[size_data]at hle
  have fin:∀(l:aj),l=bE t.data.toList u.data.toList→∀w':World,dC w' hp c (.str (bE t.data.toList u.data.toList)) (.string ⟨l.toArray⟩):=fun l e w'=>by
    rw[e]; exact PK _ (by omega)
  by_cases h0:t.size=0∨u.size=0
  · refine ⟨_,hk,mJ (Any.strings_TrimLeft_empty Tryz.S1 t u w h0) ?_⟩
    rintro e w' ⟨he,rfl⟩
    have e2:(⟨t.data.toList.toArray⟩:ByteArray)=t:=sA rfl
    rw[←e2]at he
    refine ⟨_,he,Below.refl _ _,fin _ ?_ _⟩
    rcases h0 with h0|h0
    · have:t.data.toList = []:=List.eq_nil_of_length_eq_zero (by rw[size_data]; exact h0)
      rw[this]; unfold bE; simp
    · have:u.data.toList = []:=List.eq_nil_of_length_eq_zero (by rw[size_data]; exact h0)
      rw[this,VV]
  · have hu1:u.size=1∨2≤u.size:=by omega
    rcases hu1 with hu1|TR
    · obtain ⟨b,hb⟩:∃b,u.data.toList = [b]:=by
        have hul:u.data.toList.length=1:=by rw[size_data]; exact hu1
        match hq:u.data.toList,hul with
        | [b],_=>exact ⟨b,rfl⟩
      have eu:u=⟨#[b]⟩:=sA (by rw[hb])
      subst eu
      refine ⟨_,hk,mJ (Any.strings_TrimLeft_one Tryz.S1 t b (Tf 0 b rfl) w) ?_⟩
      rintro e w' ⟨he,rfl⟩
      exact ⟨_,he,Below.refl _ _,fin _ (VX _ _).symm _⟩
    · refine ⟨_,hk,mJ (Any.strings_TrimLeft_set Tryz.S1 Tryz.zeroValue135 (by kernel_rfl) t u w TR (by omega) (by omega) Tf) ?_⟩
      rintro e w' ⟨he,rfl⟩
      refine ⟨_,he,?_,fin _ rfl _⟩
      exact ((Below.refl _ _).alloc (Nat.le_refl _) _).alloc (by simp) _

theorem YN:ay.Spec.Ok Tryz.prog 104 (PI R):=by
  refine o8 Tryz.func104 rfl rfl fun vs hp k r hk w c args wf ra => ?_
  unfold PI at hk
  split at hk <;> try (first|cases hk)
  rename_i s cs
  obtain ⟨hc,hk⟩:=cx hk
  simp only[Bool.and_eq_true,decide_eq_true_eq]at hc
  obtain ⟨ha,ES⟩:=hc
  obtain ⟨a,b,rfl,r1,r2⟩:=Rc ra
  obtain ⟨t,rfl,rfl,hl⟩:=r1.kJ
  obtain ⟨u,rfl,rfl,P8⟩:=r2.kJ
  rw[size_data]at ES
  have Tf:=KZ ha
  have hle:=YK t.data.toList u.data.toList
  rw[size_data]at hle
  have fin:∀(l:aj),l=cU t.data.toList u.data.toList→∀w':World,dC w' hp c (.str (cU t.data.toList u.data.toList)) (.string ⟨l.toArray⟩):=fun l e w'=>by
    rw[e]; exact PK _ (by omega)
  by_cases h0:t.size=0∨u.size=0
  · refine ⟨_,hk,mJ (Any.strings_TrimRight_empty Tryz.S3 t u w h0) ?_⟩
    rintro e w' ⟨he,rfl⟩
    have e2:(⟨t.data.toList.toArray⟩:ByteArray)=t:=sA rfl
    rw[←e2]at he
    refine ⟨_,he,Below.refl _ _,fin _ ?_ _⟩
    rcases h0 with h0|h0
    · have:t.data.toList = []:=List.eq_nil_of_length_eq_zero (by rw[size_data]; exact h0)
      rw[this]; unfold cU; simp
    · have:u.data.toList = []:=List.eq_nil_of_length_eq_zero (by rw[size_data]; exact h0)
      rw[this,VW]
  · have hu1:u.size=1∨2≤u.size:=by omega
    rcases hu1 with hu1|TR
    · obtain ⟨b,hb⟩:∃b,u.data.toList = [b]:=by
        have hul:u.data.toList.length=1:=by rw[size_data]; exact hu1
        match hq:u.data.toList,hul with
        | [b],_=>exact ⟨b,rfl⟩
      have eu:u=⟨#[b]⟩:=sA (by rw[hb])
      subst eu
      refine ⟨_,hk,mJ (Any.strings_TrimRight_one Tryz.S3 t b (Tf 0 b rfl) w hl) ?_⟩
      rintro e w' ⟨he,rfl⟩
      exact ⟨_,he,Below.refl _ _,fin _ (VY _ _).symm _⟩
    · refine ⟨_,hk,mJ (Any.strings_TrimRight_set Tryz.S3 Tryz.zeroValue135 (by kernel_rfl) t u w TR (by omega) hl (by omega) Tf) ?_⟩
      rintro e w' ⟨he,rfl⟩
      refine ⟨_,he,?_,fin _ rfl _⟩
      exact ((Below.refl _ _).alloc (Nat.le_refl _) _).alloc (by simp) _

theorem Ul:ay.Spec.Ok Tryz.prog 105 (PJ R):=by
  refine o8 Tryz.func105 rfl rfl fun vs hp k r hk w c args wf ra => ?_
  unfold PJ at hk
  split at hk <;> try (first|cases hk)
  rename_i s
  obtain ⟨hc,hk⟩:=cx hk
  simp only[decide_eq_true_eq]at hc
  obtain ⟨a,rfl,r1⟩:=Oq ra
  obtain ⟨t,rfl,rfl,hl⟩:=r1.kJ
  rw[size_data]at hc
  obtain ⟨_,_,⟨t1,x1,UP⟩,⟨t2,x2,VE⟩⟩:=wf.lay.1
  have G9:IntKind.i64.has (eA t.data.toList):=by
    unfold eA
    split
    · rename_i v hv
      unfold Go.Lib.atoiAll at hv
      split at hv
      · cases hv
      · dsimp only at hv
        split at hv
        · cases hv
        · cases hv
        · rename_i u _
          split at hv
          · cases hv
          · split at hv
            · cases hv
            · cases hv
              split <;> simp[IntKind.has,IntKind.min,IntKind.max,IntKind.signed,IntKind.bits] <;> omega
    · unfold Go.Lib.atoiSat
      split <;> simp[IntKind.has,IntKind.min,IntKind.max,IntKind.signed,IntKind.bits]
    · simp[IntKind.has,IntKind.min,IntKind.max,IntKind.signed,IntKind.bits]
  have two:∀(z:Int) (u:V) (w':World) (x:Value),eA t.data.toList=z→dC w' hp c u x→dC w' hp c (.tuple [.int .i64 (eA t.data.toList),u]) (.tuple #[.int .i64 z,x]):=fun z u w' x hz hx=>by
    subst hz
    refine .tuple rfl fun j v d hv hd => ?_
    match j,hv,hd with
    | 0,hv,hd=>simp at hv hd; subst hv; subst hd; exact .int G9
    | 1,hv,hd=>simp at hv hd; subst hv; subst hd; exact hx
    | j+2,hv,_=>simp at hv
  rcases hA:Go.Lib.atoiAll t.data.toList with v|_|_
  ·
    have e1:sE t.data.toList=true:=by unfold sE; rw[hA]
    have e2:eA t.data.toList=v:=by unfold eA; rw[hA]
    rw[e1]at hk
    refine ⟨_,hk,mJ (Any.strconv_Atoi_ok Tryz.S5 t (by omega) v hA w) ?_⟩
    rintro e w' ⟨he,hb⟩
    refine ⟨_,he,?_,two _ _ _ _ e2 .cR⟩
    rcases hb with rfl|⟨q,rfl⟩
    · exact Below.refl _ _
    · exact Rf _ _
  ·
    have e1:sE t.data.toList=false:=by unfold sE; rw[hA]
    have e2:eA t.data.toList=0:=by unfold eA; rw[hA]
    rw[e1]at hk
    refine ⟨_,hk,mJ (Any.strconv_Atoi_syntax Tryz.S5 t hc hA (.iface t1 x1) w UP (.inr ⟨_,_,rfl⟩)) ?_⟩
    rintro e w' ⟨q,he,_,_,hb⟩
    exact ⟨_,he,hb,two _ _ _ _ e2 (.iface _ _)⟩
  ·
    have e1:sE t.data.toList=false:=by unfold sE; rw[hA]
    have e2:eA t.data.toList=Go.Lib.atoiSat t.data.toList:=by unfold eA; rw[hA]
    rw[e1]at hk
    refine ⟨_,hk,mJ (Any.strconv_Atoi_range Tryz.S5 t hc hA (.iface t2 x2) w VE (.inr ⟨_,_,rfl⟩)) ?_⟩
    rintro e w' ⟨q,he,_,_,hb⟩
    exact ⟨_,he,hb,two _ _ _ _ e2 (.iface _ _)⟩

theorem toErr_ok:ay.Spec.Ok Tryz.prog 136 (toErr_S R 184):=by
  refine o8 Tryz.func136 rfl rfl fun vs hp k r hk w c args wf ra => ?_
  unfold toErr_S at hk
  split at hk <;> try (first|cases hk)
  rename_i fn s b1 b2 t n
  obtain ⟨hc,Vw⟩:=cx hk
  obtain ⟨JX,GU⟩:=cx Vw
  simp only[Bool.and_eq_true,Bool.or_eq_true,beq_iff_eq,decide_eq_true_eq]at hc JX
  obtain ⟨ht,hn⟩:=hc
  have ht:=Nat.eq_of_beq_eq_true ht
  subst ht
  obtain ⟨l⟩:=args
  match l,ra with
  | [a1,a2,a3,a4,a5],ra =>
    obtain ⟨t1,rfl,rfl,_⟩:=ra.head.kJ
    obtain ⟨t2,rfl,rfl,P8⟩:=ra.tail.head.kJ
    obtain ⟨rfl,_⟩:=ra.tail.tail.head.iQ
    obtain ⟨rfl,_⟩:=ra.tail.tail.tail.head.iQ
    obtain ⟨rfl,_⟩:=ra.tail.tail.tail.tail.head.Pa
    rw[size_data]at JX
    obtain ⟨_,_,⟨p1,x1,UP⟩,⟨p2,x2,VE⟩⟩:=wf.lay.1
    rcases hn with rfl|rfl
    · refine ⟨_,GU,mJ (Any.strconv_toError_syntax Tryz.Yy t1 t2 b1 b2 (.iface p1 x1) w JX UP (.inr ⟨_,_,rfl⟩)) ?_⟩
      rintro e w' ⟨q,he,_,_,hb⟩
      exact ⟨_,he,hb, .iface _ _⟩
    · refine ⟨_,GU,mJ (Any.strconv_toError_range Tryz.Yy t1 t2 b1 b2 (.iface p2 x2) w JX VE (.inr ⟨_,_,rfl⟩)) ?_⟩
      rintro e w' ⟨q,he,_,_,hb⟩
      exact ⟨_,he,hb, .iface _ _⟩
  | [],ra=>have:=ra.1; simp at this
  | [_],ra=>have:=ra.1; simp at this
  | [_,_],ra=>have:=ra.1; simp at this
  | [_,_,_],ra=>have:=ra.1; simp at this
  | [_,_,_,_],ra=>have:=ra.1; simp at this
  | _::_::_::_::_::_::_,ra=>have:=ra.1; simp at this

theorem VZ:ay.Spec.Ok Tryz.prog 173 (Md R):=by
  refine o8 Tryz.func173 rfl rfl fun vs hp k r hk w c args wf ra => ?_
  unfold Md at hk
  split at hk <;> try (first|cases hk)
  rename_i s cs
  obtain ⟨hc,hk⟩:=cx hk
  simp only[Bool.and_eq_true,decide_eq_true_eq]at hc
  obtain ⟨⟨⟨ha,hb⟩,hsl⟩,ES⟩:=hc
  obtain ⟨a,b,rfl,r1,r2⟩:=Rc ra
  obtain ⟨t,rfl,rfl,hl⟩:=r1.kJ
  obtain ⟨u,rfl,rfl,P8⟩:=r2.kJ
  rw[size_data]at hsl ES
  refine ⟨_,hk,mJ (Any.strings_ContainsAny_laid Tryz.lay150 (by kernel_rfl) t u w hsl ES (KZ ha) (KZ hb)) ?_⟩
  rintro e w' ⟨he,hb⟩
  exact ⟨_,he,hb, .bool _⟩

theorem YO:ay.Spec.Ok Tryz.prog 71 (Uk R):=by
  refine o8 Tryz.func71 rfl rfl fun vs hp k r hk w c args wf ra => ?_
  unfold Uk at hk
  split at hk <;> try (first|cases hk)
  rename_i s ch
  obtain ⟨a,b,rfl,r1,r2⟩:=Rc ra
  obtain ⟨t,rfl,rfl,hl⟩:=r1.kJ
  obtain ⟨rfl,hn⟩:=r2.iQ
  have hb:IntKind.i64.has (Go.Lib.indexByte t.data.toList ch.toNat.toUInt8):=by
    have h1:=Go.Lib.indexByte_ge t.data.toList ch.toNat.toUInt8
    have h2:Go.Lib.indexByte t.data.toList ch.toNat.toUInt8≤t.data.toList.length:=by
      generalize t.data.toList=l
      induction l with
      | nil=>simp[Go.Lib.indexByte]
      | cons x l ih =>
        have:=Go.Lib.indexByte_ge l ch.toNat.toUInt8
        unfold Go.Lib.indexByte
        split
        · simp; omega
        · split
          · simp; omega
          · simp; omega
    rw[size_data]at h2
    unfold mx at hl
    generalize Go.Lib.indexByte t.data.toList ch.toNat.toUInt8=z at h1 h2
    simp[IntKind.has,IntKind.min,IntKind.max,IntKind.signed,IntKind.bits]; omega
  refine ⟨_,hk,mJ (Any.strings_IndexByte Tryz.lay137 t ch w) ?_⟩
  rintro e w' ⟨he,rfl⟩
  exact ⟨_,he,Below.refl _ _, .int hb⟩

theorem bccL:Lays.n240 Tryz.prog Tryz.DO := { Tryz.Yx with }
theorem Mf:ay.Spec.Ok Tryz.prog 73 (J7 R) :=
  bcc_ok Tryz.func73 rfl rfl (fun b w h0 hs hf=>Any.Builder_copyCheck_fresh bccL x72 b w h0 hs hf) (fun b w h0=>Any.Builder_copyCheck_used bccL x72 b w h0)

theorem Um:Lays.n169 Tryz.prog Tryz.G8:=Tryz.lay169
theorem Cp:Builder.Extra Tryz.prog Tryz.G8 := { sizeBuilder:=by kernel_rfl,liesBuilder:=by kernel_rfl,t5:=Tryz.underlying5,a5:=Tryz.isAgg5,z5:=Tryz.sizeOf5,v5:=Tryz.zeroValue5,infoByte:=by kernel_rfl,cellsByte:=by kernel_rfl,sizeByte:=by kernel_rfl,neB5:=by decide }

set_option maxHeartbeats 1000000 in
theorem Rg (b q cap:Nat) (p:Value) (cur:Array Value) (fz:Nat × Nat) (l:List UInt8) (w:World) (h0:l ≠ []) (TX:w.heap[b]? = some (.cells #[p, .slice (some ⟨q,0,none⟩) l.length cap] oJ.kI (0,0)))
    (hq:w.heap[q]? = some (.cells cur oJ.u8 fz)) (hnc:l.length≤cap) (hcm:cap≤mx) (qs:l.length≤cur.size) (xO:∀(j:Nat) (x:UInt8),l[j]? = some x→w.cell? ⟨q,j,none⟩=some (.int .u8 x.toNat)) :
    Calls Tryz.prog 39 #[.pointer (some ⟨b,0,none⟩)] w fun e w'=>e = .returned (.string ⟨l.toArray⟩)∧w'=w.drew.freeze ⟨q,0,none⟩ l.length:=by
  have JX:l.length≠0:=by simpa using h0
  have L:=Um
  have X:=Cp
  have c1:w.drew.cell? ⟨b,1,none⟩=some (.slice (some ⟨q,0,none⟩) l.length cap):=by
    have h1:w.drew.heap[b]? = some (.cells #[p, .slice (some ⟨q,0,none⟩) l.length cap] oJ.kI (0,0)):=TX
    rw[Lib.cell_of_heap h1]; rfl
  have hSD:(Builtin.unsafeSliceData_ #[41] 106 #[.slice (some ⟨q,0,none⟩) l.length cap]).run Tryz.prog w.drew = .ok (.pointer (some ⟨q,0,none⟩)) w.drew :=
    Lib.run_unsafeSliceData_row _ _ _ _ _ _ (by omega)
  have hUS:(Builtin.unsafeString_ #[106,3] 9 #[.pointer (some ⟨q,0,none⟩), .int .i64 l.length]).run Tryz.prog w.drew = .ok (.string ⟨l.toArray⟩) (w.drew.freeze ⟨q,0,none⟩ l.length):=by
    refine Lib.run_unsafeString_row w.drew 106 3 9 5 L.t127 X.cellsByte q cur.size (by have hq':w.drew.heap[q]? = some (.cells cur 5 fz):=hq; simp[World.shape?,hq']) l h0 qs (by unfold mx at hcm; omega) ?_
    intro j x hx
    have:=xO j x hx
    rw[ay.ta,Nat.zero_add]
    exact this
  have mixed:=L.mixed
  have t72:=L.t72; have a72:=L.a72; have z72:=L.z72; have v72:=L.v72; have u72:=run_underlying L.t72
  have t70:=L.t70; have a70:=L.a70; have z70:=L.z70; have v70:=L.v70; have u70:=run_underlying L.t70
  have t37:=L.t37; have a37:=L.a37; have z37:=L.z37; have v37:=L.v37; have u37:=run_underlying L.t37
  have t127:=L.t127; have a127:=L.a127; have z127:=L.z127; have v127:=L.v127; have u127:=run_underlying L.t127
  have t3:=L.t3; have a3:=L.a3; have z3:=L.z3; have v3:=L.v3; have u3:=run_underlying L.t3
  have t9:=L.t9; have a9:=L.a9; have z9:=L.z9; have v9:=L.v9; have u9:=run_underlying L.t9
  have t5:=X.t5; have a5:=X.a5; have z5:=X.z5; have v5:=X.v5; have u5:=run_underlying X.t5
  go_enter Tryz.func39,Tryz.ntmps39
  go_wp2
  go_region_o
  all_goals (go_wp2; go_ret; exact ⟨rfl,rfl⟩)

set_option maxHeartbeats 2000000 in
theorem Nz (b q:Nat) (p:Value) (cur:Array Value) (fz:Nat × Nat) (w:World) (TX:w.heap[b]? = some (.cells #[p, .slice (some ⟨q,0,none⟩) 0 0] oJ.kI (0,0))) (hq:w.heap[q]? = some (.cells cur oJ.u8 fz)) :
    Calls Tryz.prog 39 #[.pointer (some ⟨b,0,none⟩)] w fun e w'=>e = .returned (.string ⟨#[]⟩)∧Below w.heap.size w w':=by
  have L:=Um
  have X:=Cp
  have hUS:∀(W:World) (q:Option Addr),(Builtin.unsafeString_ #[106,3] 9 #[.pointer q, .int .i64 0]).run Tryz.prog W = .ok (.string .empty) W:=fun W q=>Lib.run_unsafeString_none W _ _ _ q
  have kY:b<w.heap.size:=by
    rcases Nat.lt_or_ge b w.heap.size with h'|h'
    · exact h'
    · simp[Array.getElem?_eq_none h']at TX
  have c1:w.drew.cell? ⟨b,1,none⟩=some (.slice (some ⟨q,0,none⟩) 0 0):=by
    have:w.drew.heap[b]? = some (.cells #[p, .slice (some ⟨q,0,none⟩) 0 0] oJ.kI (0,0)):=TX
    rw[Lib.cell_of_heap this]; rfl
  have hSD:(Builtin.unsafeSliceData_ #[41] 106 #[.slice (some ⟨q,0,none⟩) 0 0]).run Tryz.prog w.drew = .ok (.pointer (some ⟨w.drew.heap.size,0,none⟩)) (w.drew.alloc (.view ⟨q,0,none⟩ 5)) :=
    Lib.run_unsafeSliceData_zero w.drew _ _ 5 L.t127 ⟨q,0,none⟩ 0 (5,cur.size) (by have hq':w.drew.heap[q]? = some (.cells cur 5 fz):=hq; simp[World.shape?,hq'])
  have c2:(w.drew.alloc (.view ⟨q,0,none⟩ 5)).cell? ⟨b,1,none⟩=some (.slice (some ⟨q,0,none⟩) 0 0):=by
    have:(w.drew.alloc (.view ⟨q,0,none⟩ 5)).heap[b]? = _:=(Lib.alloc_old w.drew _ b kY).trans TX
    rw[Lib.cell_of_heap this]; rfl
  have c3:(w.alloc (.view ⟨q,0,none⟩ 5)).drew.cell? ⟨b,1,none⟩=some (.slice (some ⟨q,0,none⟩) 0 0):=c2
  have c0:w.cell? ⟨b,1,none⟩=some (.slice (some ⟨q,0,none⟩) 0 0):=c1
  have mixed:=L.mixed
  have t72:=L.t72; have a72:=L.a72; have z72:=L.z72; have v72:=L.v72; have u72:=run_underlying L.t72
  have t70:=L.t70; have a70:=L.a70; have z70:=L.z70; have v70:=L.v70; have u70:=run_underlying L.t70
  have t37:=L.t37; have a37:=L.a37; have z37:=L.z37; have v37:=L.v37; have u37:=run_underlying L.t37
  have t127:=L.t127; have a127:=L.a127; have z127:=L.z127; have v127:=L.v127; have u127:=run_underlying L.t127
  have t3:=L.t3; have a3:=L.a3; have z3:=L.z3; have v3:=L.v3; have u3:=run_underlying L.t3
  have t9:=L.t9; have a9:=L.a9; have z9:=L.z9; have v9:=L.v9; have u9:=run_underlying L.t9
  have t5:=X.t5; have a5:=X.a5; have z5:=X.z5; have v5:=X.v5; have u5:=run_underlying X.t5
  go_enter Tryz.func39,Tryz.ntmps39
  go_wp2
  go_region_o
  all_goals (go_wp2; go_ret; exact ⟨rfl,(Below.drew (Below.refl _ w)).alloc (Nat.le_refl _) _⟩)

theorem Rh:Mb Tryz.prog 39 where
  nil:=fun b p w TX=>Any.Builder_String_nil Um Cp w.heap.size b p w TX
  YE:=Nz
  room:=fun b q cap p w hc TX=>Any.Builder_String_room Um Cp w.heap.size b q cap p w hc TX
  some:=Rg

theorem K2:ay.Spec.Ok Tryz.prog 39 (DP R):=bstr_ok Tryz.func39 rfl rfl Rh

end
end Go.Proofs.YtmlkkgfenfdndaaGreatDoor

/-
  Functions of the program as pure Lean functions, and the ties; printed by wip/tools/emit.py.
-/
set_option maxRecDepth 100000
namespace Go.Proofs.YtmlkkgfenfdndaaGreatDoor
open Go Go.ay

/-! ### humpyard/humpyardlaw04.pick -/
abbrev o9 (R:Type):Type:=Int→Int→(Int→Option R)→Option R
abbrev Az:List bP := [.leaf (.int .i64), .leaf (.int .i64)]
abbrev AA:List aI := []
noncomputable def Gu {R:Type} (fn:o9 R):bP.av Az→aI.av AA→(V→az→Option R)→Option R:=fun x y k=>fn x.1 x.2.1 (fun q0=>k (.int .i64 q0) [])
noncomputable def AB (R:Type):Env R:=fun i=>match i with
  | _=>none
theorem Mg (R:Type):pK Tryz.prog (AB R):=by
  intro i b sp h
  unfold AB at h
  split at h
  · cases h

noncomputable def H5 (R:Type):Nat→Option (Hint × cp R):=fun i=>match i with
  | _=>none

noncomputable def H6 {R:Type} (x1:Int) (x2:Int) (k0:Int→Option R):Option R :=
  bif (decide (x1<(0:Int)))then (cX (!decide (x2=0)) (k0 (Int.tmod (IntKind.i64.wrap (0 - (IntKind.i64.wrap (x1+1)))) x2)))else (cX (!decide (x2=0)) (k0 (Int.tmod x1 x2)))
noncomputable def eT {R:Type}:o9 R:=fun x1 x2 k0=>H6 x1 x2 k0
theorem NA {R:Type} (x1:Int) (x2:Int) (k:V→az→Option R):iE tt (AB R) (H5 R) false Tryz.f35 (aL Tryz.f35) [.int .i64 x1, .int .i64 x2] [] k =
    H6 x1 x2 (fun q0=>k (.int .i64 q0) []):=by kernel_rfl
theorem Jn (R:Type):∀a∈aQ (aL Tryz.f35),cO tt (AB R) (H5 R) 0 a:=by
  refine bF 0 (by kernel_rfl) fun i hi => ?_
  omega
theorem Km (R:Type) (other:ay.Spec R) (ho:ay.Spec.Ok Tryz.prog 35 other):ay.Spec.Ok Tryz.prog 35 (aA Az AA (Gu eT) other) :=
  bu ho (bj TT mixed (Mg R) (keep:=false) rfl rfl rfl rfl 0 (Jn R)) fun (x:bP.av Az) (y:aI.av AA) k=>NA x.1 x.2.1 k

/-! ### humpyard/humpyardlaw01.pick -/
abbrev rJ (R:Type):Type:=Int→Int→(Int→Option R)→Option R
abbrev AD:List bP := [.leaf (.int .i64), .leaf (.int .i64)]
abbrev AE:List aI := []
noncomputable def Gv {R:Type} (fn:rJ R):bP.av AD→aI.av AE→(V→az→Option R)→Option R:=fun x y k=>fn x.1 x.2.1 (fun q0=>k (.int .i64 q0) [])
noncomputable def AF (R:Type):Env R:=fun i=>match i with
  | _=>none
theorem Mh (R:Type):pK Tryz.prog (AF R):=by
  intro i b sp h
  unfold AF at h
  split at h
  · cases h

noncomputable def H7 (R:Type):Nat→Option (Hint × cp R):=fun i=>match i with
  | _=>none

noncomputable def H8 {R:Type} (x1:Int) (x2:Int) (k0:Int→Option R):Option R :=
  bif (decide (x1<(0:Int)))then (cX (!decide (x2=0)) (k0 (Int.tmod (IntKind.i64.wrap (0 - (IntKind.i64.wrap (x1+1)))) x2)))else (cX (!decide (x2=0)) (k0 (Int.tmod x1 x2)))
noncomputable def gh {R:Type}:rJ R:=fun x1 x2 k0=>H8 x1 x2 k0
theorem NB {R:Type} (x1:Int) (x2:Int) (k:V→az→Option R):iE tt (AF R) (H7 R) false Tryz.f54 (aL Tryz.f54) [.int .i64 x1, .int .i64 x2] [] k =
    H8 x1 x2 (fun q0=>k (.int .i64 q0) []):=by kernel_rfl
theorem Jo (R:Type):∀a∈aQ (aL Tryz.f54),cO tt (AF R) (H7 R) 0 a:=by
  refine bF 0 (by kernel_rfl) fun i hi => ?_
  omega
theorem Kn (R:Type) (other:ay.Spec R) (ho:ay.Spec.Ok Tryz.prog 54 other):ay.Spec.Ok Tryz.prog 54 (aA AD AE (Gv gh) other) :=
  bu ho (bj TT mixed (Mh R) (keep:=false) rfl rfl rfl rfl 0 (Jo R)) fun (x:bP.av AD) (y:aI.av AE) k=>NB x.1 x.2.1 k

/-! ### humpyard/humpyardlaw01.Fit -/
abbrev mi (R:Type):Type:=Int→Int→(iO→Option R)→Option R
abbrev zh:List bP := [.leaf (.int .i64), .leaf (.int .i64)]
abbrev zi:List aI := []
noncomputable def DQ {R:Type} (fn:mi R):bP.av zh→aI.av zi→(V→az→Option R)→Option R:=fun x y k=>fn x.1 x.2.1 (fun q0=>k (.agg [.int .i64 q0.aB, .int .i64 q0.exp]) [])
abbrev nR (R:Type):Type:=Nat→Int→Int→iO→(Int→Int→iO→Option R)→Option R
noncomputable def sF (R:Type) (gh:rJ R):Env R:=fun i=>match i with
  | 54=>some (true,(aA AD AE (Gv gh) bg))
  | _=>none
theorem NC (R:Type):pK Tryz.prog (sF R gh):=by
  intro i b sp h
  unfold sF at h
  split at h
  · cases h; exact ⟨(Kn R _ (aO _)),fun h=>nomatch h⟩
  · cases h

noncomputable def oD {R:Type} (fT:Int→Int→iO→Option R) (x5:Int) (x6:Int) (x7:iO) (e0:Int→Int→iO→Option R):Option R :=
  bif (x5 != 0)then (bif ((Int.tmod x5 10)==0)then (fT (IntKind.i64.wrap (Int.tdiv x5 10)) x6 x7)else (e0 x5 x6 x7))else (e0 x5 x6 x7)
noncomputable def cu {R:Type}:nR R
  | 0,_,_,_,_=>none
  | n+1,l0,l7,nj,e0=>oD (fun l0 l7 nj=>cu n l0 l7 nj e0) l0 l7 nj e0
noncomputable def u0:Hint := { live := [4,5,6],own := [],rows := [],cells := [],drop := [],out := [4,5,6] }
abbrev lH:Type:=Int × Int × iO
noncomputable def rY:lH→St:=fun d=>⟨[.undef, .undef, .undef, .undef, .ptr 0 0, .int .i64 d.1, .int .i64 d.2.1, .undef, .undef, .undef, .undef, .undef, .undef, .undef, .undef, .undef, .undef, .undef, .undef, .undef, .undef, .undef, .undef, .undef, .undef, .undef, .undef], [.cells [.int .i64 d.2.2.aB, .int .i64 d.2.2.exp]]⟩
noncomputable def yd {R:Type} (K:Ex→St→Option R) (q0:Int) (q1:Int) (q2:iO):Option R:=K (.exit 0) ⟨[.undef, .undef, .undef, .undef, .ptr 0 0, .int .i64 q0, .int .i64 q1, .undef, .undef, .undef, .undef, .undef, .undef, .undef, .undef, .undef, .undef, .undef, .undef, .undef, .undef, .undef, .undef, .undef, .undef, .undef, .undef], [.cells [.int .i64 q2.aB, .int .i64 q2.exp]]⟩
noncomputable def zK {R:Type} (K:Ex→St→Option R) (rc:lH→Option R) (d:lH):Option R:=oD (fun z0 z1 z2=>rc (z0,z1,z2)) d.1 d.2.1 d.2.2 (yd K)
noncomputable def oE {R:Type} (K:Ex→St→Option R) (n:Nat) (d:lH):Option R:=cu n d.1 d.2.1 d.2.2 (yd K)
abbrev lI:List bP := [.leaf (.undef), .leaf (.undef), .leaf (.undef), .leaf (.undef), .leaf (.ptr 0 0), .leaf (.int .i64), .leaf (.int .i64), .leaf (.undef), .leaf (.undef), .leaf (.undef), .leaf (.undef), .leaf (.undef), .leaf (.undef), .leaf (.undef), .leaf (.undef), .leaf (.undef), .leaf (.undef), .leaf (.undef), .leaf (.undef), .leaf (.undef), .leaf (.undef), .leaf (.undef), .leaf (.undef), .leaf (.undef), .leaf (.undef), .leaf (.undef), .leaf (.undef)]
abbrev lJ:List aI := [.cells [.int .i64, .int .i64]]
noncomputable def zM (x:bP.av lI) (y:aI.av lJ):Nat:=(Int.natAbs x.2.2.2.2.2.1+Int.natAbs x.2.2.2.2.2.2.1+iO.fu (⟨y.1.1,y.1.2.1⟩:iO)+64)
noncomputable def zN (x:bP.av lI) (y:aI.av lJ):lH:=(x.2.2.2.2.2.1,x.2.2.2.2.2.2.1,(⟨y.1.1,y.1.2.1⟩:iO))
noncomputable def ye {R:Type} (L:nR R):bP.av lI→aI.av lJ→(Ex→St→Option R)→Option R:=fun x y K=>L (zM x y) x.2.2.2.2.2.1 x.2.2.2.2.2.2.1 (⟨y.1.1,y.1.2.1⟩:iO) (yd K)
noncomputable def zj (R:Type) (cu:nR R):Nat→Option (Hint × cp R):=fun i=>match i with
  | 3=>some (u0,(gE lI lJ (ye cu) qB))
  | _=>none

theorem Ha {R:Type} (gh:rJ R) (cu:nR R) (K:Ex→St→Option R) (rc:St→Option R) (d:lH):roundOf tt (sF R gh) (zj R cu) 0 ((aQ (aL Tryz.f28)).getD 0 .skip) u0 (rY d) rc K=zK K (fun d=>rc (rY d)) d:=by kernel_rfl
theorem E9 {R:Type} (K:Ex→St→Option R) (n:Nat) (d:lH):oE K (n+1) d=zK K (oE K n) d:=by kernel_rfl
theorem Fa {R:Type} (K:Ex→St→Option R) (d:lH):oE K 0 d=none:=by kernel_rfl
theorem Hb (x:bP.av lI) (y:aI.av lJ):(⟨bP.cT lI x,aI.cT lJ y⟩:St)=rY (zN x y):=by kernel_rfl
theorem Hc {R:Type} (x:bP.av lI) (y:aI.av lJ) (K:Ex→St→Option R):ye (cu) x y K=oE K (zM x y) (zN x y):=by kernel_rfl
theorem Jp {R:Type} (other:cp R) (ho:pG tt (sF R gh) (zj R cu) 0 ((aQ (aL Tryz.f28)).getD 0 .skip) u0 other):pG tt (sF R gh) (zj R cu) 0 ((aQ (aL Tryz.f28)).getD 0 .skip) u0 (gE lI lJ (ye (cu)) other) :=
  gW (A:=oE) ho (k9 rY (zK) (oE) (Fa) (Ha gh cu) (E9)) zM zN Hb (Hc)

noncomputable def zk {R:Type} (gh:rJ R) (cu:nR R) (x1:Int) (x2:Int) (k0:iO→Option R):Option R :=
  gh x1 2000000000000001 (fun y3=>gh x2 19 (fun y4=>cu (Int.natAbs (IntKind.i64.wrap (y3 - 1000000000000000))+Int.natAbs (IntKind.i64.wrap (y4 - 9))+iO.fu (⟨0,0⟩:iO)+64) (IntKind.i64.wrap (y3 - 1000000000000000)) (IntKind.i64.wrap (y4 - 9)) (⟨0,0⟩:iO) (fun y9 yf wc=>bif (y9==0)then (k0 (⟨y9,0⟩:iO))else (k0 (⟨y9,yf⟩:iO)))))
noncomputable def di {R:Type}:mi R:=fun x1 x2 k0=>zk gh cu x1 x2 k0
theorem PL {R:Type} (gh:rJ R) (cu:nR R) (x1:Int) (x2:Int) (k:V→az→Option R):iE tt (sF R gh) (zj R cu) false Tryz.f28 (aL Tryz.f28) [.int .i64 x1, .int .i64 x2] [] k =
    zk gh cu x1 x2 (fun q0=>k (.agg [.int .i64 q0.aB, .int .i64 q0.exp]) []):=by kernel_rfl
theorem Ko (R:Type):∀a∈aQ (aL Tryz.f28),cO tt (sF R gh) (zj R cu) 0 a:=by
  refine bF 1 (by kernel_rfl) fun i hi => ?_
  match i,hi with
  | 0,_=>exact gb (by kernel_rfl) (Jp _ jL)
  | n+1,hi=>omega
theorem Fb (R:Type) (other:ay.Spec R) (ho:ay.Spec.Ok Tryz.prog 28 other):ay.Spec.Ok Tryz.prog 28 (aA zh zi (DQ di) other) :=
  bu ho (bj TT mixed (NC R) (keep:=false) rfl rfl rfl rfl 0 (Ko R)) fun (x:bP.av zh) (y:aI.av zi) k=>PL gh cu x.1 x.2.1 k

/-! ### humpyard/humpyardlaw02.pick -/
abbrev pc (R:Type):Type:=Int→Int→(Int→Option R)→Option R
abbrev AG:List bP := [.leaf (.int .i64), .leaf (.int .i64)]
abbrev AH:List aI := []
noncomputable def Gw {R:Type} (fn:pc R):bP.av AG→aI.av AH→(V→az→Option R)→Option R:=fun x y k=>fn x.1 x.2.1 (fun q0=>k (.int .i64 q0) [])
noncomputable def AI (R:Type):Env R:=fun i=>match i with
  | _=>none
theorem Mi (R:Type):pK Tryz.prog (AI R):=by
  intro i b sp h
  unfold AI at h
  split at h
  · cases h

noncomputable def H9 (R:Type):Nat→Option (Hint × cp R):=fun i=>match i with
  | _=>none

noncomputable def Ia {R:Type} (x1:Int) (x2:Int) (k0:Int→Option R):Option R :=
  bif (decide (x1<(0:Int)))then (cX (!decide (x2=0)) (k0 (Int.tmod (IntKind.i64.wrap (0 - (IntKind.i64.wrap (x1+1)))) x2)))else (cX (!decide (x2=0)) (k0 (Int.tmod x1 x2)))
noncomputable def dK {R:Type}:pc R:=fun x1 x2 k0=>Ia x1 x2 k0
theorem ND {R:Type} (x1:Int) (x2:Int) (k:V→az→Option R):iE tt (AI R) (H9 R) false Tryz.f60 (aL Tryz.f60) [.int .i64 x1, .int .i64 x2] [] k =
    Ia x1 x2 (fun q0=>k (.int .i64 q0) []):=by kernel_rfl
theorem Jq (R:Type):∀a∈aQ (aL Tryz.f60),cO tt (AI R) (H9 R) 0 a:=by
  refine bF 0 (by kernel_rfl) fun i hi => ?_
  omega
theorem Kp (R:Type) (other:ay.Spec R) (ho:ay.Spec.Ok Tryz.prog 60 other):ay.Spec.Ok Tryz.prog 60 (aA AG AH (Gw dK) other) :=
  bu ho (bj TT mixed (Mi R) (keep:=false) rfl rfl rfl rfl 0 (Jq R)) fun (x:bP.av AG) (y:aI.av AH) k=>ND x.1 x.2.1 k

/-! ### humpyard/humpyardlaw02.Text -/
abbrev iP (R:Type):Type:=(List Int)→(aj→Option R)→Option R
abbrev wH:List bP := [.leaf (.sl (.int .i64))]
abbrev wI:List aI := []
noncomputable def CF {R:Type} (fn:iP R):bP.av wH→aI.av wI→(V→az→Option R)→Option R:=fun x y k=>fn x.1 (fun q0=>k (.str q0) [])
abbrev mU (R:Type):Type:=Nat→(List Int)→aj→Int→(aj→Option R)→Option R
noncomputable def qC (R:Type) (dK:pc R):Env R:=fun i=>match i with
  | 60=>some (true,(aA AG AH (Gw dK) bg))
  | _=>none
theorem Mj (R:Type):pK Tryz.prog (qC R dK):=by
  intro i b sp h
  unfold qC at h
  split at h
  · cases h; exact ⟨(Kp R _ (aO _)),fun h=>nomatch h⟩
  · cases h

noncomputable def ki {R:Type} (dK:pc R) (fT:(List Int)→aj→Int→Option R) (x2:List Int) (x3:aj) (x4:Int) (e0:aj→Option R):Option R :=
  bif (decide (x4<(x2.length:Int)))then (bif (decide (x4<(200:Int)))then (cX (decide ((0:Int)≤x4)&&decide (x4<x2.length)) (let j16:=fun (Ri:Int)=>bif (decide (Ri≥(55296:Int)))then (bif (decide (Ri≤(57343:Int)))then (cX (decide (x3.length+(ox ([120]:List Int)).length≤9223372036854775807)) (fT x2 (x3++(ox ([120]:List Int))) (IntKind.i64.wrap (x4+1))))else (cX (decide (x3.length+(ox ([(IntKind.i32.wrap Ri)]:List Int)).length≤9223372036854775807)) (fT x2 (x3++(ox ([(IntKind.i32.wrap Ri)]:List Int))) (IntKind.i64.wrap (x4+1)))))else (cX (decide (x3.length+(ox ([(IntKind.i32.wrap Ri)]:List Int)).length≤9223372036854775807)) (fT x2 (x3++(ox ([(IntKind.i32.wrap Ri)]:List Int))) (IntKind.i64.wrap (x4+1)))); dK (x2.getD x4.toNat (Ty.cn (.int .i64))) 5 (fun y6=>let j12:=fun (z7:Bool)=>bif z7 then (dK (IntKind.i64.wrap (Int.tdiv (x2.getD x4.toNat (Ty.cn (.int .i64))) 5)) 128 (fun y8=>j16 y8))else (bif (y6==2)then (dK (IntKind.i64.wrap (Int.tdiv (x2.getD x4.toNat (Ty.cn (.int .i64))) 5)) 2048 (fun y9=>j16 y9))else (bif (y6==3)then (dK (IntKind.i64.wrap (Int.tdiv (x2.getD x4.toNat (Ty.cn (.int .i64))) 5)) 65536 (fun yf=>j16 yf))else (dK (IntKind.i64.wrap (Int.tdiv (x2.getD x4.toNat (Ty.cn (.int .i64))) 5)) 1114112 (fun wc=>j16 wc)))); bif (y6==0)then (j12 (y6==0))else (j12 (y6==1)))))else (e0 x3))else (e0 x3)
noncomputable def cA {R:Type}:mU R
  | 0,_,_,_,_=>none
  | n+1,l0,l7,nj,e0=>ki dK (fun l0 l7 nj=>cA n l0 l7 nj e0) l0 l7 nj e0
noncomputable def th:Hint := { live := [0,3,4],own := [],rows := [],cells := [],drop := [],out := [2,3] }
abbrev kj:Type:=(List Int) × aj × Int
noncomputable def qD:kj→St:=fun d=>⟨[.sl (.int .i64) d.1 .no, .undef, .undef, .str d.2.1, .int .i64 d.2.2, .undef, .undef, .undef, .undef, .undef, .undef, .undef, .undef, .undef, .undef, .undef, .undef, .undef, .undef, .undef, .undef, .undef, .undef, .undef, .undef, .undef, .undef, .undef, .undef, .undef, .undef, .undef, .undef, .undef, .undef, .undef, .undef, .undef, .undef, .undef, .undef, .undef, .undef, .undef, .undef, .undef, .undef, .undef, .undef, .undef, .undef, .undef, .undef, .undef, .undef], []⟩
noncomputable def wJ {R:Type} (K:Ex→St→Option R) (q0:aj):Option R:=K (.exit 0) ⟨[.undef, .undef, .undef, .str q0, .undef, .undef, .undef, .undef, .undef, .undef, .undef, .undef, .undef, .undef, .undef, .undef, .undef, .undef, .undef, .undef, .undef, .undef, .undef, .undef, .undef, .undef, .undef, .undef, .undef, .undef, .undef, .undef, .undef, .undef, .undef, .undef, .undef, .undef, .undef, .undef, .undef, .undef, .undef, .undef, .undef, .undef, .undef, .undef, .undef, .undef, .undef, .undef, .undef, .undef, .undef], []⟩
noncomputable def yg {R:Type} (dK:pc R) (K:Ex→St→Option R) (rc:kj→Option R) (d:kj):Option R:=ki dK (fun z0 z1 z2=>rc (z0,z1,z2)) d.1 d.2.1 d.2.2 (wJ K)
noncomputable def nS {R:Type} (K:Ex→St→Option R) (n:Nat) (d:kj):Option R:=cA n d.1 d.2.1 d.2.2 (wJ K)
abbrev kk:List bP := [.leaf (.sl (.int .i64)), .leaf (.undef), .leaf (.undef), .leaf (.str), .leaf (.int .i64), .leaf (.undef), .leaf (.undef), .leaf (.undef), .leaf (.undef), .leaf (.undef), .leaf (.undef), .leaf (.undef), .leaf (.undef), .leaf (.undef), .leaf (.undef), .leaf (.undef), .leaf (.undef), .leaf (.undef), .leaf (.undef), .leaf (.undef), .leaf (.undef), .leaf (.undef), .leaf (.undef), .leaf (.undef), .leaf (.undef), .leaf (.undef), .leaf (.undef), .leaf (.undef), .leaf (.undef), .leaf (.undef), .leaf (.undef), .leaf (.undef), .leaf (.undef), .leaf (.undef), .leaf (.undef), .leaf (.undef), .leaf (.undef), .leaf (.undef), .leaf (.undef), .leaf (.undef), .leaf (.undef), .leaf (.undef), .leaf (.undef), .leaf (.undef), .leaf (.undef), .leaf (.undef), .leaf (.undef), .leaf (.undef), .leaf (.undef), .leaf (.undef), .leaf (.undef), .leaf (.undef), .leaf (.undef), .leaf (.undef), .leaf (.undef)]
abbrev kl:List aI := []
noncomputable def yh (x:bP.av kk) (y:aI.av kl):Nat:=(List.length x.1+List.length x.2.2.2.1+Int.natAbs x.2.2.2.2.1+64)
noncomputable def yi (x:bP.av kk) (y:aI.av kl):kj:=(x.1,x.2.2.2.1,x.2.2.2.2.1)
noncomputable def wK {R:Type} (L:mU R):bP.av kk→aI.av kl→(Ex→St→Option R)→Option R:=fun x y K=>L (yh x y) x.1 x.2.2.2.1 x.2.2.2.2.1 (wJ K)
noncomputable def wL (R:Type) (cA:mU R):Nat→Option (Hint × cp R):=fun i=>match i with
  | 3=>some (th,(gE kk kl (wK cA) qB))
  | _=>none

theorem F2 {R:Type} (dK:pc R) (cA:mU R) (K:Ex→St→Option R) (rc:St→Option R) (d:kj):roundOf tt (qC R dK) (wL R cA) 0 ((aQ (aL Tryz.f37)).getD 0 .skip) th (qD d) rc K=yg dK K (fun d=>rc (qD d)) d:=by kernel_rfl
theorem Ev {R:Type} (K:Ex→St→Option R) (n:Nat) (d:kj):nS K (n+1) d=yg dK K (nS K n) d:=by kernel_rfl
theorem Ew {R:Type} (K:Ex→St→Option R) (d:kj):nS K 0 d=none:=by kernel_rfl
theorem F3 (x:bP.av kk) (y:aI.av kl):(⟨bP.cT kk x,aI.cT kl y⟩:St)=qD (yi x y):=by kernel_rfl
theorem F4 {R:Type} (x:bP.av kk) (y:aI.av kl) (K:Ex→St→Option R):wK (cA) x y K=nS K (yh x y) (yi x y):=by kernel_rfl
theorem Ib {R:Type} (other:cp R) (ho:pG tt (qC R dK) (wL R cA) 0 ((aQ (aL Tryz.f37)).getD 0 .skip) th other):pG tt (qC R dK) (wL R cA) 0 ((aQ (aL Tryz.f37)).getD 0 .skip) th (gE kk kl (wK (cA)) other) :=
  gW (A:=nS) ho (k9 qD (yg dK) (nS) (Ew) (F2 dK cA) (Ev)) yh yi F3 (F4)

noncomputable def Ic {R:Type} (cA:mU R) (x1:List Int) (k0:aj→Option R):Option R :=
  cA (List.length x1+List.length ([]:aj)+Int.natAbs 0+64) x1 ([]:aj) 0 (fun Hw=>k0 Hw)
noncomputable def bZ {R:Type}:iP R:=fun x1 k0=>Ic cA x1 k0
theorem NF {R:Type} (dK:pc R) (cA:mU R) (x1:List Int) (k:V→az→Option R):iE tt (qC R dK) (wL R cA) false Tryz.f37 (aL Tryz.f37) [.sl (.int .i64) x1 .no] [] k =
    Ic cA x1 (fun q0=>k (.str q0) []):=by kernel_rfl
theorem Jr (R:Type):∀a∈aQ (aL Tryz.f37),cO tt (qC R dK) (wL R cA) 0 a:=by
  refine bF 1 (by kernel_rfl) fun i hi => ?_
  match i,hi with
  | 0,_=>exact gb (by kernel_rfl) (Ib _ jL)
  | n+1,hi=>omega
theorem Ei (R:Type) (other:ay.Spec R) (ho:ay.Spec.Ok Tryz.prog 37 other):ay.Spec.Ok Tryz.prog 37 (aA wH wI (CF bZ) other) :=
  bu ho (bj TT mixed (Mj R) (keep:=false) rfl rfl rfl rfl 0 (Jr R)) fun (x:bP.av wH) (y:aI.av wI) k=>NF dK cA x.1 k

end Go.Proofs.YtmlkkgfenfdndaaGreatDoor

set_option maxRecDepth 100000
namespace Go.Proofs.YtmlkkgfenfdndaaGreatDoor
open Go Go.ay

def DR (n:Int):Prop := -9223372036854775808≤n∧n≤9223372036854775807
theorem K3 {n:Int}:IntKind.i64.has n↔DR n:=by
  unfold IntKind.has DR
  simp only[IntKind.min,IntKind.max,IntKind.bits,IntKind.signed]
  simp

theorem Mk {R:Type} (c n:Int) (hc:DR c) (h0:0<n) (hn:n≤9223372036854775807):∃r:Int,0≤r∧r<n∧∀k:Int→Option R,
    (bif (decide (c<(0:Int)))then (cX (!decide (n=0)) (k (Int.tmod (IntKind.i64.wrap (0 - (IntKind.i64.wrap (c+1)))) n)))else (cX (!decide (n=0)) (k (Int.tmod c n))))=k r:=by
  obtain ⟨h1,h2⟩:=hc
  have hz:(!decide (n=0))=true:=by simp; omega
  by_cases h:c<0
  · refine ⟨Int.tmod (0 - (c+1)) n,Int.tmod_nonneg _ (by omega),Int.tmod_lt_of_pos _ h0,fun k => ?_⟩
    have hd:decide (c<(0:Int))=true:=by simpa using h
    rw[hd,cond_true,aT hz,dD (n:=c+1) (by omega) (by omega),dD (by omega) (by omega)]
  · refine ⟨Int.tmod c n,Int.tmod_nonneg _ (by omega),Int.tmod_lt_of_pos _ h0,fun k => ?_⟩
    have hd:decide (c<(0:Int))=false:=by simpa using h
    rw[hd,cond_false,aT hz]

theorem Ml {R:Type} (c n:Int) (hc:DR c) (h0:0<n) (hn:n≤9223372036854775807):∃r:Int,0≤r∧r<n∧∀k:Int→Option R,dK c n k=k r:=Mk c n hc h0 hn

theorem Ou {n:Int} (h1:0≤n) (h2:n<1114112):IntKind.i32.wrap n=n:=by
  simp only[IntKind.wrap,IntKind.bits,IntKind.signed,IntKind.min,IntKind.max]
  simp
  omega

theorem Tg {c:Nat} (hv:vr c):(Utf8.encode (c:Int)).data.toList=enc c:=by
  have kY:=Ot hv
  have G9:Utf8.valid (c:Int)=true:=by
    unfold vr at hv
    simp only[Utf8.valid,Bool.or_eq_true,Bool.and_eq_true,decide_eq_true_eq]
    omega
  unfold Utf8.encode
  simp only[G9,if_true,Int.toNat_natCast]
  by_cases h1:c<128
  · rw[if_pos h1,enc1 h1]
  by_cases h2:c<2048
  · rw[if_neg h1,if_pos h2,enc2 (by omega) h2]
  by_cases h3:c<65536
  · rw[if_neg h1,if_neg h2,if_pos h3,enc3 (by omega) h3 hv]
  · rw[if_neg h1,if_neg h2,if_neg h3,enc4 (by omega) kY]

theorem Mm {c:Nat} (hv:vr c):ox [(c:Int)]=enc c:=by
  unfold ox
  simp only[List.flatMap_cons,List.flatMap_nil,List.append_nil]
  exact Tg hv

theorem Js (rs:List Nat) (c:Nat):cT (rs ++ [c])=cT rs++enc c:=by simp[cT]

theorem bq {p:Prop} [Decidable p] (h:p):decide p=true:=decide_eq_true h
theorem cY {p:Prop} [Decidable p] (h:¬p):decide p=false:=decide_eq_false h

def DS (z:Int):Nat:=if 55296≤z∧z≤57343 then 120 else z.toNat
theorem Ov {z:Int} (h0:0≤z) (h1:z<1114112):vr (DS z):=by unfold DS vr; split <;> omega

theorem YP {R:Type} (raw:List Int) (s:aj) (i:Nat) (fT:List Int→aj→Int→Option R) {z:Int} (h0:0≤z) (h1:z<1114112) (hl:s.length≤4*i) (hi:i<200) :
    (bif (decide (z≥(55296:Int)))then (bif (decide (z≤(57343:Int)))then (cX (decide (s.length+(ox ([120]:List Int)).length≤9223372036854775807)) (fT raw (s++(ox ([120]:List Int))) (IntKind.i64.wrap ((i:Int)+1))))else (cX (decide (s.length+(ox ([(IntKind.i32.wrap z)]:List Int)).length≤9223372036854775807)) (fT raw (s++(ox ([(IntKind.i32.wrap z)]:List Int))) (IntKind.i64.wrap ((i:Int)+1)))))else (cX (decide (s.length+(ox ([(IntKind.i32.wrap z)]:List Int)).length≤9223372036854775807)) (fT raw (s++(ox ([(IntKind.i32.wrap z)]:List Int))) (IntKind.i64.wrap ((i:Int)+1))))) =
      fT raw (s++enc (DS z)) ((i+1:Nat):Int):=by
  have hw:IntKind.i64.wrap ((i:Int)+1)=((i+1:Nat):Int):=by rw[dD (by omega) (by omega)]; omega
  have hv:=Ov h0 h1
  have hle:=Ay hv
  by_cases hb:55296≤z∧z≤57343
  · have e:ox [120]=enc (DS z):=by unfold DS at hv ⊢; rw[if_pos hb]at hv ⊢; exact Mm hv
    rw[bq (show z≥55296 from hb.1),cond_true,bq hb.2,cond_true,e,aT (bq (by omega)),hw]
  · have e:ox [IntKind.i32.wrap z]=enc (DS z):=by
      unfold DS at hv ⊢; rw[if_neg hb]at hv ⊢
      rw[←Mm hv,Ou h0 h1,Int.toNat_of_nonneg h0]
    by_cases hc:z≥55296
    · rw[bq hc,cond_true,cY (show ¬z≤57343 by omega),cond_false,e,aT (bq (by omega)),hw]
    · rw[cY hc,cond_false,e,aT (bq (by omega)),hw]

theorem YQ {n k:Int} (h:DR n) (hk:1<k):DR (Int.tdiv n k):=by
  have h1:(Int.tdiv n k).natAbs≤n.natAbs:=by rw[Int.natAbs_tdiv]; exact Nat.div_le_self _ _
  have h2:(Int.tdiv n k).natAbs=n.natAbs / k.natAbs:=Int.natAbs_tdiv _ _
  unfold DR at h ⊢
  have h3:n.natAbs / k.natAbs≤n.natAbs / 2:=Nat.div_le_div_left (by omega) (by omega)
  omega

theorem V0 {R:Type} (raw:List Int) (hraw:∀x∈raw,DR x):∀(n i:Nat) (rs:List Nat),i≤raw.length→raw.length - i<n→i≤200→(∀c∈rs,vr c)→(cT rs).length≤4*i →
    ∃V1:List Nat,(∀c∈V1,vr c)∧(cT V1).length≤800∧(rs.length≤i→V1.length≤raw.length)∧∀e0:aj→Option R,cA n raw (cT rs) (i:Int) e0=e0 (cT V1):=by
  intro n
  induction n with
  | zero=>intro i rs h1 h2; omega
  | succ n ih =>
    intro i rs h1 h2 h3 Xh hl
    by_cases hi:i<raw.length
    · by_cases hi2:i<200
      · have hx:DR raw[i]:=hraw _ (List.getElem_mem hi)
        have CC:raw.getD (i:Int).toNat (Ty.cn (.int .i64))=raw[i]:=by simp[List.getD,hi]; rfl
        have key:∀z:Int,0≤z→z<1114112→∃V1:List Nat,(∀c∈V1,vr c)∧(cT V1).length≤800∧(rs.length≤i→V1.length≤raw.length)∧∀e0:aj→Option R,cA n raw (cT rs++enc (DS z)) ((i+1:Nat):Int) e0=e0 (cT V1):=by
          intro z z0 z1
          have hv:=Ov z0 z1
          have hle:=Ay hv
          obtain ⟨V1,q1,q2,qn,q3⟩:=ih (i+1) (rs ++ [DS z]) (by omega) (by omega) (by omega) (by
            intro c hc
            rcases List.mem_append.1 hc with hc|hc
            · exact Xh c hc
            · simp at hc; subst hc; exact hv) (by rw[Js,List.length_append]; omega)
          exact ⟨V1,q1,q2,fun hn=>qn (by simp; omega),fun e0=>by rw[←q3 e0,Js]⟩
        -- what is picked
        obtain ⟨y6,Un,y61,py⟩:=Ml (R:=R) raw[i] 5 hx (by omega) (by omega)
        have ht:DR (IntKind.i64.wrap (Int.tdiv raw[i] 5)):=by
          have:=YQ (k:=5) hx (by omega)
          rw[dD this.1 this.2]; exact this
        obtain ⟨a,a0,a1,pa⟩:=Ml (R:=R) (IntKind.i64.wrap (Int.tdiv raw[i] 5)) 128 ht (by omega) (by omega)
        obtain ⟨b,b0,b1,pb⟩:=Ml (R:=R) (IntKind.i64.wrap (Int.tdiv raw[i] 5)) 2048 ht (by omega) (by omega)
        obtain ⟨d,d0,d1,pd⟩:=Ml (R:=R) (IntKind.i64.wrap (Int.tdiv raw[i] 5)) 65536 ht (by omega) (by omega)
        obtain ⟨f,f0,f1,pf⟩:=Ml (R:=R) (IntKind.i64.wrap (Int.tdiv raw[i] 5)) 1114112 ht (by omega) (by omega)
        obtain ⟨V1,q1,q2,qn,q3⟩:=key (if y6=0∨y6=1 then a else if y6=2 then b else if y6=3 then d else f) (by split; omega; split; omega; split <;> omega) (by split; omega; split; omega; split <;> omega)
        refine ⟨V1,q1,q2,qn,fun e0 => ?_⟩
        rw[←q3 e0]
        show ki dK _ raw (cT rs) (i:Int) e0=_
        unfold ki
        rw[bq (show (i:Int)<(raw.length:Int) by omega),cond_true,bq (show (i:Int)<200 by omega),cond_true,bq (show (0:Int)≤(i:Int) by omega)]
        rw[aT (by rfl)]
        simp only[CC,py,pa,pb,pd,pf]
        have add:=fun (z:Int) (z0:0≤z) (z1:z<1114112)=>YP raw (cT rs) i (fun l0 l7 nj=>cA (R:=R) n l0 l7 nj e0) z0 z1 hl hi2
        by_cases c0:y6=0
        · rw[if_pos (.inl c0)]
          have e0':(y6==0)=true:=by simp[c0]
          rw[e0',cond_true,cond_true]
          exact add a a0 (by omega)
        · have e0':(y6==0)=false:=by simp[c0]
          rw[e0',cond_false]
          by_cases c1:y6=1
          · rw[if_pos (.inr c1)]
            have T6:(y6==1)=true:=by simp[c1]
            rw[T6,cond_true]
            exact add a a0 (by omega)
          · have T6:(y6==1)=false:=by simp[c1]
            rw[T6,cond_false,if_neg (by omega)]
            by_cases c2:y6=2
            · have e2':(y6==2)=true:=by simp[c2]
              rw[e2',cond_true,if_pos c2]
              exact add b b0 (by omega)
            · have e2':(y6==2)=false:=by simp[c2]
              rw[e2',cond_false,if_neg c2]
              by_cases c3:y6=3
              · have e3':(y6==3)=true:=by simp[c3]
                rw[e3',cond_true,if_pos c3]
                exact add d d0 (by omega)
              · have e3':(y6==3)=false:=by simp[c3]
                rw[e3',cond_false,if_neg c3]
                exact add f f0 (by omega)
      · refine ⟨rs,Xh,by omega,fun _=>by omega,fun e0 => ?_⟩
        show ki dK _ raw (cT rs) (i:Int) e0=_
        unfold ki
        rw[bq (show (i:Int)<(raw.length:Int) by omega),cond_true,cY (show ¬(i:Int)<200 by omega),cond_false]
    · refine ⟨rs,Xh,by omega,fun _=>by omega,fun e0 => ?_⟩
      show ki dK _ raw (cT rs) (i:Int) e0=_
      unfold ki
      rw[cY (show ¬(i:Int)<(raw.length:Int) by omega),cond_false]

theorem Rj {R:Type} (raw:List Int) (hraw:∀x∈raw,DR x):∃rs:List Nat,(∀c∈rs,vr c)∧(cT rs).length≤800∧rs.length≤raw.length∧∀k:aj→Option R,bZ raw k=k (cT rs):=by
  obtain ⟨rs,h1,h2,h4,h3⟩:=V0 (R:=R) raw hraw (List.length raw+List.length ([]:aj)+Int.natAbs 0+64) 0 [] (by omega) (by omega) (by omega) (by simp) (by simp[cT])
  exact ⟨rs,h1,h2,h4 (by simp),fun k=>h3 _⟩
end Go.Proofs.YtmlkkgfenfdndaaGreatDoor

/-
  Functions of the program as pure Lean functions, and the ties; printed by wip/tools/emit.py.
-/
set_option maxRecDepth 100000
namespace Go.Proofs.YtmlkkgfenfdndaaGreatDoor
open Go Go.ay

/-! ### humpyard/json.bare -/
abbrev wM (R:Type):Type:=Json→(Json→Option R)→Option R
abbrev Cq:List bP := [.agg [.int .i64, .int .i64, .int .i64, .str, .sl .str, .sl .json]]
abbrev Cr:List aI := []
noncomputable def Ie {R:Type} (fn:wM R):bP.av Cq→aI.av Cr→(V→az→Option R)→Option R:=fun x y k=>fn (⟨x.1.1,⟨x.1.2.1,x.1.2.2.1⟩,x.1.2.2.2.1,x.1.2.2.2.2.1,x.1.2.2.2.2.2.1⟩:Json) (fun q0=>k (.agg [.int .i64 q0.kind, .int .i64 q0.num.aB, .int .i64 q0.num.exp, .str q0.text, .sl .str q0.names .no, .sl .json q0.items .no]) [])
noncomputable def Cs (R:Type):Env R:=fun i=>match i with
  | _=>none
theorem NG (R:Type):pK Tryz.prog (Cs R):=by
  intro i b sp h
  unfold Cs at h
  split at h
  · cases h

noncomputable def Kb (R:Type):Nat→Option (Hint × cp R):=fun i=>match i with
  | _=>none

noncomputable def Ct {R:Type} (x1:Json) (k0:Json→Option R):Option R :=
  bif (x1.kind==4)then (k0 (⟨x1.kind,⟨0,0⟩,x1.text,x1.names,x1.items⟩:Json))else (bif (x1.kind==5)then (k0 (⟨x1.kind,⟨x1.num.aB,x1.num.exp⟩,([]:aj),x1.names,x1.items⟩:Json))else (bif (x1.kind==7)then (k0 (⟨x1.kind,⟨x1.num.aB,x1.num.exp⟩,x1.text,([]:List aj),([]:List Json)⟩:Json))else (bif (x1.kind==6)then (k0 (⟨x1.kind,⟨x1.num.aB,x1.num.exp⟩,x1.text,x1.names,([]:List Json)⟩:Json))else (k0 (⟨x1.kind,⟨x1.num.aB,x1.num.exp⟩,x1.text,x1.names,x1.items⟩:Json)))))
noncomputable def mV {R:Type}:wM R:=fun x1 k0=>Ct x1 k0
theorem PM {R:Type} (x1:Json) (k:V→az→Option R):iE tt (Cs R) (Kb R) false Tryz.f77 (aL Tryz.f77) [.agg [.int .i64 x1.kind, .int .i64 x1.num.aB, .int .i64 x1.num.exp, .str x1.text, .sl .str x1.names .no, .sl .json x1.items .no]] [] k =
    Ct x1 (fun q0=>k (.agg [.int .i64 q0.kind, .int .i64 q0.num.aB, .int .i64 q0.num.exp, .str q0.text, .sl .str q0.names .no, .sl .json q0.items .no]) []):=by kernel_rfl
theorem Kq (R:Type):∀a∈aQ (aL Tryz.f77),cO tt (Cs R) (Kb R) 0 a:=by
  refine bF 0 (by kernel_rfl) fun i hi => ?_
  omega
theorem Mn (R:Type) (other:ay.Spec R) (ho:ay.Spec.Ok Tryz.prog 77 other):ay.Spec.Ok Tryz.prog 77 (aA Cq Cr (Ie mV) other) :=
  bu ho (bj TT mixed (NG R) (keep:=false) rfl rfl rfl rfl 0 (Kq R)) fun (x:bP.av Cq) (y:aI.av Cr) k=>PM (⟨x.1.1,⟨x.1.2.1,x.1.2.2.1⟩,x.1.2.2.2.1,x.1.2.2.2.2.1,x.1.2.2.2.2.2.1⟩:Json) k

/-! ### humpyard/decimal.within[int] -/
abbrev fj (R:Type):Type:=Int→Int→Int→(Bool→Option R)→Option R
abbrev mK:List bP := [.leaf (.int .i64), .leaf (.int .i64), .leaf (.int .i64)]
abbrev mL:List aI := []
noncomputable def rP {R:Type} (fn:fj R):bP.av mK→aI.av mL→(V→az→Option R)→Option R:=fun x y k=>fn x.1 x.2.1 x.2.2.1 (fun q0=>k (.bool q0) [])
noncomputable def oL (R:Type):Env R:=fun i=>match i with
  | _=>none
theorem DT (R:Type):pK Tryz.prog (oL R):=by
  intro i b sp h
  unfold oL at h
  split at h
  · cases h

noncomputable def zm (R:Type):Nat→Option (Hint × cp R):=fun i=>match i with
  | _=>none

noncomputable def oM {R:Type} (x1:Int) (x2:Int) (x3:Int) (k0:Bool→Option R):Option R :=
  bif (decide (x1≤x2))then (k0 (decide (x2≤x3)))else (k0 false)
noncomputable def aY {R:Type}:fj R:=fun x1 x2 x3 k0=>oM x1 x2 x3 k0
theorem Ey {R:Type} (x1:Int) (x2:Int) (x3:Int) (k:V→az→Option R):iE tt (oL R) (zm R) false Tryz.f91 (aL Tryz.f91) [.int .i64 x1, .int .i64 x2, .int .i64 x3] [] k =
    oM x1 x2 x3 (fun q0=>k (.bool q0) []):=by kernel_rfl
theorem CG (R:Type):∀a∈aQ (aL Tryz.f91),cO tt (oL R) (zm R) 0 a:=by
  refine bF 0 (by kernel_rfl) fun i hi => ?_
  omega
theorem vS (R:Type) (other:ay.Spec R) (ho:ay.Spec.Ok Tryz.prog 91 other):ay.Spec.Ok Tryz.prog 91 (aA mK mL (rP aY) other) :=
  bu ho (bj TT mixed (DT R) (keep:=false) rfl rfl rfl rfl 0 (CG R)) fun (x:bP.av mK) (y:aI.av mL) k=>Ey x.1 x.2.1 x.2.2.1 k

/-! ### humpyard/decimal.Right -/
abbrev km (R:Type):Type:=iO→(Bool→Option R)→Option R
abbrev qW:List bP := [.agg [.int .i64, .int .i64]]
abbrev qX:List aI := []
noncomputable def yj {R:Type} (fn:km R):bP.av qW→aI.av qX→(V→az→Option R)→Option R:=fun x y k=>fn (⟨x.1.1,x.1.2.1⟩:iO) (fun q0=>k (.bool q0) [])
noncomputable def u4 (R:Type) (aY:fj R):Env R:=fun i=>match i with
  | 91=>some (true,(aA mK mL (rP aY) bg))
  | _=>none
theorem Ig (R:Type):pK Tryz.prog (u4 R aY):=by
  intro i b sp h
  unfold u4 at h
  split at h
  · cases h; exact ⟨(vS R _ (aO _)),fun h=>nomatch h⟩
  · cases h

noncomputable def Ej (R:Type):Nat→Option (Hint × cp R):=fun i=>match i with
  | _=>none

noncomputable def lK {R:Type} (aY:fj R) (x1:iO) (k0:Bool→Option R):Option R :=
  bif (x1.aB==0)then (k0 (x1.exp==0))else (bif ((Int.tmod x1.aB 10) != 0)then (aY (-1000000000000000) x1.aB 1000000000000000 (fun y2=>bif y2 then (aY (-9) x1.exp 9 (fun y3=>k0 y3))else (k0 false)))else (k0 false))
noncomputable def cd {R:Type}:km R:=fun x1 k0=>lK aY x1 k0
theorem Jt {R:Type} (aY:fj R) (x1:iO) (k:V→az→Option R):iE tt (u4 R aY) (Ej R) false Tryz.f65 (aL Tryz.f65) [.agg [.int .i64 x1.aB, .int .i64 x1.exp]] [] k =
    lK aY x1 (fun q0=>k (.bool q0) []):=by kernel_rfl
theorem F5 (R:Type):∀a∈aQ (aL Tryz.f65),cO tt (u4 R aY) (Ej R) 0 a:=by
  refine bF 0 (by kernel_rfl) fun i hi => ?_
  omega
theorem BA (R:Type) (other:ay.Spec R) (ho:ay.Spec.Ok Tryz.prog 65 other):ay.Spec.Ok Tryz.prog 65 (aA qW qX (yj cd) other) :=
  bu ho (bj TT mixed (Ig R) (keep:=false) rfl rfl rfl rfl 0 (F5 R)) fun (x:bP.av qW) (y:aI.av qX) k=>Jt aY (⟨x.1.1,x.1.2.1⟩:iO) k

/-! ### humpyard/quote.Whole -/
abbrev fy (R:Type):Type:=aj→(Bool→Option R)→Option R
abbrev rK:List bP := [.leaf (.str)]
abbrev rL:List aI := []
noncomputable def wN {R:Type} (fn:fy R):bP.av rK→aI.av rL→(V→az→Option R)→Option R:=fun x y k=>fn x.1 (fun q0=>k (.bool q0) [])
noncomputable def yN (R:Type):Env R:=fun i=>match i with
  | 72=>some (true,(PH R))
  | _=>none
theorem Kr (R:Type):pK Tryz.prog (yN R):=by
  intro i b sp h
  unfold yN at h
  split at h
  · cases h; exact ⟨(YL),fun h=>nomatch h⟩
  · cases h

noncomputable def Gx (R:Type):Nat→Option (Hint × cp R):=fun i=>match i with
  | _=>none

noncomputable def Gy {R:Type} (x1:aj) (k0:Bool→Option R):Option R :=
  k0 (jt x1)
noncomputable def br {R:Type}:fy R:=fun x1 k0=>Gy x1 k0
theorem Mo {R:Type} (x1:aj) (k:V→az→Option R):iE tt (yN R) (Gx R) false Tryz.f49 (aL Tryz.f49) [.str x1] [] k =
    Gy x1 (fun q0=>k (.bool q0) []):=by kernel_rfl
theorem Ih (R:Type):∀a∈aQ (aL Tryz.f49),cO tt (yN R) (Gx R) 0 a:=by
  refine bF 0 (by kernel_rfl) fun i hi => ?_
  omega
theorem yk (R:Type) (other:ay.Spec R) (ho:ay.Spec.Ok Tryz.prog 49 other):ay.Spec.Ok Tryz.prog 49 (aA rK rL (wN br) other) :=
  bu ho (bj TT mixed (Kr R) (keep:=false) rfl rfl rfl rfl 0 (Ih R)) fun (x:bP.av rK) (y:aI.av rL) k=>Mo x.1 k

/-! ### humpyard/json.unique -/
abbrev sG (R:Type):Type:=(List aj)→(Bool→Option R)→Option R
abbrev yO:List bP := [.leaf (.sl .str)]
abbrev yP:List aI := []
noncomputable def Fc {R:Type} (fn:sG R):bP.av yO→aI.av yP→(V→az→Option R)→Option R:=fun x y k=>fn x.1 (fun q0=>k (.bool q0) [])
abbrev l8 (R:Type):Type:=Nat→(List aj)→Int→Int→(List (aj × Bool))→(Option R)→(Bool→Option R)→Option R
noncomputable def pe (R:Type) (br:fy R):Env R:=fun i=>match i with
  | 49=>some (true,(aA rK rL (wN br) bg))
  | _=>none
theorem Ks (R:Type):pK Tryz.prog (pe R br):=by
  intro i b sp h
  unfold pe at h
  split at h
  · cases h; exact ⟨(yk R _ (aO _)),fun h=>nomatch h⟩
  · cases h

noncomputable def rZ {R:Type} (br:fy R) (fT:(List aj)→Int→Int→(List (aj × Bool))→Option R) (x2:List aj) (x3:Int) (x4:Int) (x5:List (aj × Bool)) (e0:Option R) (e1:Bool→Option R):Option R :=
  bif (decide (x4<x3))then (cX (decide ((0:Int)≤x4)&&decide (x4<x2.length)) (bif (nA .str .bool (x2.getD x4.toNat (Ty.cn .str)) x5)then (e1 false)else (br (x2.getD x4.toNat (Ty.cn .str)) (fun y6=>bif (!y6)then (e1 false)else (fT x2 x3 (IntKind.i64.wrap (x4+1)) (wy .str .bool (x2.getD x4.toNat (Ty.cn .str)) true x5))))))else (e0)
noncomputable def cy {R:Type}:l8 R
  | 0,_,_,_,_,_,_=>none
  | n+1,l0,l7,nj,vj,e0,e1=>rZ br (fun l0 l7 nj vj=>cy n l0 l7 nj vj e0 e1) l0 l7 nj vj e0 e1
noncomputable def r5:Hint := { live := [3,7,8,9],own := [],rows := [],cells := [],drop := [],out := [2] }
abbrev jB:Type:=(List aj) × Int × Int × (List (aj × Bool))
noncomputable def pL:jB→St:=fun d=>⟨[.undef, .undef, .undef, .map 0, .undef, .undef, .undef, .sl .str d.1 .no, .int .i64 d.2.1, .int .i64 d.2.2.1, .undef, .undef, .undef, .undef, .undef, .undef, .undef, .undef, .undef, .undef, .undef, .undef, .undef, .undef], [.vg .str .bool d.2.2.2]⟩
noncomputable def vk {R:Type} (K:Ex→St→Option R):Option R:=K (.exit 0) ⟨[.undef, .undef, .undef, .undef, .undef, .undef, .undef, .undef, .undef, .undef, .undef, .undef, .undef, .undef, .undef, .undef, .undef, .undef, .undef, .undef, .undef, .undef, .undef, .undef], []⟩
noncomputable def vl {R:Type} (K:Ex→St→Option R) (q0:Bool):Option R:=K (.ret) ⟨[.undef, .undef, .bool q0, .undef, .undef, .undef, .undef, .undef, .undef, .undef, .undef, .undef, .undef, .undef, .undef, .undef, .undef, .undef, .undef, .undef, .undef, .undef, .undef, .undef], []⟩
noncomputable def wO {R:Type} (br:fy R) (K:Ex→St→Option R) (rc:jB→Option R) (d:jB):Option R:=rZ br (fun z0 z1 z2 z3=>rc (z0,z1,z2,z3)) d.1 d.2.1 d.2.2.1 d.2.2.2 (vk K) (vl K)
noncomputable def mW {R:Type} (K:Ex→St→Option R) (n:Nat) (d:jB):Option R:=cy n d.1 d.2.1 d.2.2.1 d.2.2.2 (vk K) (vl K)
abbrev jC:List bP := [.leaf (.undef), .leaf (.undef), .leaf (.undef), .leaf (.map 0), .leaf (.undef), .leaf (.undef), .leaf (.undef), .leaf (.sl .str), .leaf (.int .i64), .leaf (.int .i64), .leaf (.undef), .leaf (.undef), .leaf (.undef), .leaf (.undef), .leaf (.undef), .leaf (.undef), .leaf (.undef), .leaf (.undef), .leaf (.undef), .leaf (.undef), .leaf (.undef), .leaf (.undef), .leaf (.undef), .leaf (.undef)]
abbrev jD:List aI := [.vg .str .bool]
noncomputable def wP (x:bP.av jC) (y:aI.av jD):Nat:=(List.length x.2.2.2.2.2.2.2.1+Int.natAbs x.2.2.2.2.2.2.2.2.1+Int.natAbs x.2.2.2.2.2.2.2.2.2.1+List.length y.1+64)
noncomputable def wQ (x:bP.av jC) (y:aI.av jD):jB:=(x.2.2.2.2.2.2.2.1,x.2.2.2.2.2.2.2.2.1,x.2.2.2.2.2.2.2.2.2.1,y.1)
noncomputable def vm {R:Type} (L:l8 R):bP.av jC→aI.av jD→(Ex→St→Option R)→Option R:=fun x y K=>L (wP x y) x.2.2.2.2.2.2.2.1 x.2.2.2.2.2.2.2.2.1 x.2.2.2.2.2.2.2.2.2.1 y.1 (vk K) (vl K)
noncomputable def uz (R:Type) (cy:l8 R):Nat→Option (Hint × cp R):=fun i=>match i with
  | 3=>some (r5,(gE jC jD (vm cy) qB))
  | _=>none

theorem Fe {R:Type} (br:fy R) (cy:l8 R) (K:Ex→St→Option R) (rc:St→Option R) (d:jB):roundOf tt (pe R br) (uz R cy) 0 ((aQ (aL Tryz.f78)).getD 0 .skip) r5 (pL d) rc K=wO br K (fun d=>rc (pL d)) d:=by kernel_rfl
theorem DU {R:Type} (K:Ex→St→Option R) (n:Nat) (d:jB):mW K (n+1) d=wO br K (mW K n) d:=by kernel_rfl
theorem DV {R:Type} (K:Ex→St→Option R) (d:jB):mW K 0 d=none:=by kernel_rfl
theorem Ff (x:bP.av jC) (y:aI.av jD):(⟨bP.cT jC x,aI.cT jD y⟩:St)=pL (wQ x y):=by kernel_rfl
theorem Fg {R:Type} (x:bP.av jC) (y:aI.av jD) (K:Ex→St→Option R):vm (cy) x y K=mW K (wP x y) (wQ x y):=by kernel_rfl
theorem Hd {R:Type} (other:cp R) (ho:pG tt (pe R br) (uz R cy) 0 ((aQ (aL Tryz.f78)).getD 0 .skip) r5 other):pG tt (pe R br) (uz R cy) 0 ((aQ (aL Tryz.f78)).getD 0 .skip) r5 (gE jC jD (vm (cy)) other) :=
  gW (A:=mW) ho (k9 pL (wO br) (mW) (DV) (Fe br cy) (DU)) wP wQ Ff (Fg)

noncomputable def Gz {R:Type} (cy:l8 R) (x1:List aj) (k0:Bool→Option R):Option R :=
  cy (List.length x1+Int.natAbs (x1.length:Int)+Int.natAbs 0+List.length ([]:List (aj × Bool))+64) x1 (x1.length:Int) 0 ([]:List (aj × Bool)) (k0 true) (fun y8=>k0 y8)
noncomputable def iG {R:Type}:sG R:=fun x1 k0=>Gz cy x1 k0
theorem Mp {R:Type} (br:fy R) (cy:l8 R) (x1:List aj) (k:V→az→Option R):iE tt (pe R br) (uz R cy) false Tryz.f78 (aL Tryz.f78) [.sl .str x1 .no] [] k =
    Gz cy x1 (fun q0=>k (.bool q0) []):=by kernel_rfl
theorem Ii (R:Type):∀a∈aQ (aL Tryz.f78),cO tt (pe R br) (uz R cy) 0 a:=by
  refine bF 1 (by kernel_rfl) fun i hi => ?_
  match i,hi with
  | 0,_=>exact gb (by kernel_rfl) (Hd _ jL)
  | n+1,hi=>omega
theorem Ju (R:Type) (other:ay.Spec R) (ho:ay.Spec.Ok Tryz.prog 78 other):ay.Spec.Ok Tryz.prog 78 (aA yO yP (Fc iG) other) :=
  bu ho (bj TT mixed (Ks R) (keep:=false) rfl rfl rfl rfl 0 (Ii R)) fun (x:bP.av yO) (y:aI.av yP) k=>Mp br cy x.1 k

end Go.Proofs.YtmlkkgfenfdndaaGreatDoor

namespace Go.Proofs.YtmlkkgfenfdndaaGreatDoor
open Go Go.ay

end Go.Proofs.YtmlkkgfenfdndaaGreatDoor

/-
  Functions of the program as pure Lean functions, and the ties; printed by wip/tools/emit.py.
-/
set_option maxRecDepth 100000
namespace Go.Proofs.YtmlkkgfenfdndaaGreatDoor
open Go Go.ay

/-! ### humpyard/json.right -/
abbrev bQ (R:Type):Type:=Json→Int→(Bool→Option R)→Option R
abbrev gF:List bP := [.agg [.int .i64, .int .i64, .int .i64, .str, .sl .str, .sl .json], .leaf (.int .i64)]
abbrev gG:List aI := []
noncomputable def eZ {R:Type} (fn:bQ R):bP.av gF→aI.av gG→(V→az→Option R)→Option R:=fun x y k=>fn (⟨x.1.1,⟨x.1.2.1,x.1.2.2.1⟩,x.1.2.2.2.1,x.1.2.2.2.2.1,x.1.2.2.2.2.2.1⟩:Json) x.2.1 (fun q0=>k (.bool q0) [])
/-! ### humpyard/json.right$1 -/
abbrev iH (R:Type):Type:=Json→Int→(Bool→Int→Option R)→Option R
abbrev pM:List bP := [.agg [.int .i64, .int .i64, .int .i64, .str, .sl .str, .sl .json], .leaf (.ptr 0 0)]
abbrev pN:List aI := [.cells [.int .i64]]
noncomputable def zn {R:Type} (fn:iH R):bP.av pM→aI.av pN→(V→az→Option R)→Option R:=fun x y k=>fn (⟨x.1.1,⟨x.1.2.1,x.1.2.2.1⟩,x.1.2.2.2.1,x.1.2.2.2.2.1,x.1.2.2.2.2.2.1⟩:Json) y.1.1 (fun q0 q1=>k (.bool q0) [.cells [.int .i64 q1]])
noncomputable def pO (R:Type) (ao:bQ R):Env R:=fun i=>match i with
  | 56=>some (true,(aA gF gG (eZ ao) bg))
  | _=>none
theorem Ez (R:Type) (ao:bQ R) (fe:ay.Spec.Ok Tryz.prog 56 (aA gF gG (eZ ao) bg)):pK Tryz.prog (pO R ao):=by
  intro i b sp h
  unfold pO at h
  split at h
  · cases h; exact ⟨fe,fun h=>nomatch h⟩
  · cases h

noncomputable def Ai (R:Type):Nat→Option (Hint × cp R):=fun i=>match i with
  | _=>none

noncomputable def pP {R:Type} (ao:bQ R) (x1:Json) (x2:Int) (k0:Bool→Int→Option R):Option R :=
  ao (⟨x1.kind,⟨x1.num.aB,x1.num.exp⟩,x1.text,x1.names,x1.items⟩:Json) (IntKind.i64.wrap (x2+1)) (fun y3=>k0 (!y3) x2)
noncomputable def cf {R:Type} (ao:bQ R):iH R:=fun x1 x2 k0=>pP ao x1 x2 k0
theorem Fh {R:Type} (ao:bQ R) (x1:Json) (x2:Int) (k:V→az→Option R):iE tt (pO R ao) (Ai R) false Tryz.f80 (aL Tryz.f80) [.agg [.int .i64 x1.kind, .int .i64 x1.num.aB, .int .i64 x1.num.exp, .str x1.text, .sl .str x1.names .no, .sl .json x1.items .no], .ptr 0 0] [.cells [.int .i64 x2]] k =
    pP ao x1 x2 (fun q0 q1=>k (.bool q0) [.cells [.int .i64 q1]]):=by kernel_rfl
theorem C9 (R:Type) (ao:bQ R):∀a∈aQ (aL Tryz.f80),cO tt (pO R ao) (Ai R) 1 a:=by
  refine bF 0 (by kernel_rfl) fun i hi => ?_
  omega
theorem DW (R:Type) (ao:bQ R) (fe:ay.Spec.Ok Tryz.prog 56 (aA gF gG (eZ ao) bg)) (other:ay.Spec R) (ho:ay.Spec.Ok Tryz.prog 80 other):ay.Spec.Ok Tryz.prog 80 (aA pM pN (zn (cf ao)) other) :=
  bu ho (bj TT mixed (Ez R ao fe) (keep:=false) rfl rfl rfl rfl 1 (C9 R ao)) fun (x:bP.av pM) (y:aI.av pN) k=>Fh ao (⟨x.1.1,⟨x.1.2.1,x.1.2.2.1⟩,x.1.2.2.2.1,x.1.2.2.2.2.1,x.1.2.2.2.2.2.1⟩:Json) y.1.1 k

/-! ### slices.IndexFunc[[]humpyard/api.Json,humpyard/api.Json] -/
abbrev fo (R:Type):Type:=(List Json)→Int→(Int→Int→Option R)→Option R
abbrev gY:List bP := [.leaf (.sl .json), .func 80 [] [.ptr 0 0]]
abbrev gZ:List aI := [.cells [.int .i64]]
noncomputable def ot {R:Type} (fn:fo R):bP.av gY→aI.av gZ→(V→az→Option R)→Option R:=fun x y k=>fn x.1 y.1.1 (fun q0 q1=>k (.int .i64 q0) [.cells [.int .i64 q1]])
abbrev dE (R:Type):Type:=Nat→(List Json)→Int→Int→Int→(Int→Option R)→(Int→Int→Option R)→Option R
noncomputable def dL (R:Type) (cf:iH R):Env R:=fun i=>match i with
  | 80=>some (false,(aA pM pN (zn cf) bg))
  | _=>none
theorem vn (R:Type) (ao:bQ R) (fe:ay.Spec.Ok Tryz.prog 56 (aA gF gG (eZ ao) bg)):pK Tryz.prog (dL R (cf ao)):=by
  intro i b sp h
  unfold dL at h
  split at h
  · cases h; exact ⟨(DW R ao fe _ (aO _)),fun _ h=>nomatch h⟩
  · cases h

noncomputable def gd {R:Type} (cf:iH R) (fT:(List Json)→Int→Int→Int→Option R) (x3:List Json) (x4:Int) (x5:Int) (x6:Int) (e0:Int→Option R) (e1:Int→Int→Option R):Option R :=
  bif (decide (x5<x4))then (cX (decide ((0:Int)≤x5)&&decide (x5<x3.length)) (cf (⟨(x3.getD x5.toNat (Ty.cn .json)).kind,⟨(x3.getD x5.toNat (Ty.cn .json)).num.aB,(x3.getD x5.toNat (Ty.cn .json)).num.exp⟩,(x3.getD x5.toNat (Ty.cn .json)).text,(x3.getD x5.toNat (Ty.cn .json)).names,(x3.getD x5.toNat (Ty.cn .json)).items⟩:Json) x6 (fun y7 y8=>bif y7 then (e1 x5 y8)else (fT x3 x4 (IntKind.i64.wrap (x5+1)) y8))))else (e0 x6)
noncomputable def aM {R:Type} (ao:bQ R):dE R
  | 0,_,_,_,_,_,_=>none
  | n+1,l0,l7,nj,vj,e0,e1=>gd (cf ao) (fun l0 l7 nj vj=>aM ao n l0 l7 nj vj e0 e1) l0 l7 nj vj e0 e1
noncomputable def gf:Hint := { live := [0,1,7,8],own := [],rows := [],cells := [],drop := [],out := [4] }
abbrev cI:Type:=(List Json) × Int × Int × Int
noncomputable def fA:cI→St:=fun d=>⟨[.sl .json d.1 .no, .func 80 [] [.ptr 0 0], .undef, .undef, .undef, .undef, .undef, .int .i64 d.2.1, .int .i64 d.2.2.1, .undef, .undef, .undef, .undef, .undef, .undef, .undef, .undef, .undef, .undef], [.cells [.int .i64 d.2.2.2]]⟩
noncomputable def iR {R:Type} (K:Ex→St→Option R) (q0:Int):Option R:=K (.exit 0) ⟨[.undef, .undef, .undef, .undef, .undef, .undef, .undef, .undef, .undef, .undef, .undef, .undef, .undef, .undef, .undef, .undef, .undef, .undef, .undef], [.cells [.int .i64 q0]]⟩
noncomputable def iS {R:Type} (K:Ex→St→Option R) (q0:Int) (q1:Int):Option R:=K (.ret) ⟨[.undef, .undef, .undef, .undef, .int .i64 q0, .undef, .undef, .undef, .undef, .undef, .undef, .undef, .undef, .undef, .undef, .undef, .undef, .undef, .undef], [.cells [.int .i64 q1]]⟩
noncomputable def ju {R:Type} (cf:iH R) (K:Ex→St→Option R) (rc:cI→Option R) (d:cI):Option R:=gd cf (fun z0 z1 z2 z3=>rc (z0,z1,z2,z3)) d.1 d.2.1 d.2.2.1 d.2.2.2 (iR K) (iS K)
noncomputable def dM {R:Type} (ao:bQ R) (K:Ex→St→Option R) (n:Nat) (d:cI):Option R:=aM ao n d.1 d.2.1 d.2.2.1 d.2.2.2 (iR K) (iS K)
abbrev cJ:List bP := [.leaf (.sl .json), .func 80 [] [.ptr 0 0], .leaf (.undef), .leaf (.undef), .leaf (.undef), .leaf (.undef), .leaf (.undef), .leaf (.int .i64), .leaf (.int .i64), .leaf (.undef), .leaf (.undef), .leaf (.undef), .leaf (.undef), .leaf (.undef), .leaf (.undef), .leaf (.undef), .leaf (.undef), .leaf (.undef), .leaf (.undef)]
abbrev cK:List aI := [.cells [.int .i64]]
noncomputable def jv (x:bP.av cJ) (y:aI.av cK):Nat:=(List.length x.1+Int.natAbs x.2.2.2.2.2.2.2.1+Int.natAbs x.2.2.2.2.2.2.2.2.1+Int.natAbs y.1.1+64)
noncomputable def jx (x:bP.av cJ) (y:aI.av cK):cI:=(x.1,x.2.2.2.2.2.2.2.1,x.2.2.2.2.2.2.2.2.1,y.1.1)
noncomputable def iT {R:Type} (L:dE R):bP.av cJ→aI.av cK→(Ex→St→Option R)→Option R:=fun x y K=>L (jv x y) x.1 x.2.2.2.2.2.2.2.1 x.2.2.2.2.2.2.2.2.1 y.1.1 (iR K) (iS K)
noncomputable def fB (R:Type) (aM:dE R):Nat→Option (Hint × cp R):=fun i=>match i with
  | 2=>some (gf,(gE cJ cK (iT aM) qB))
  | _=>none

theorem si {R:Type} (cf:iH R) (aM:dE R) (K:Ex→St→Option R) (rc:St→Option R) (d:cI):roundOf tt (dL R cf) (fB R aM) 1 ((aQ (aL Tryz.f116)).getD 0 .skip) gf (fA d) rc K=ju cf K (fun d=>rc (fA d)) d:=by kernel_rfl
theorem qY {R:Type} (ao:bQ R) (K:Ex→St→Option R) (n:Nat) (d:cI):dM ao K (n+1) d=ju (cf ao) K (dM ao K n) d:=by kernel_rfl
theorem qZ {R:Type} (ao:bQ R) (K:Ex→St→Option R) (d:cI):dM ao K 0 d=none:=by kernel_rfl
theorem sj (x:bP.av cJ) (y:aI.av cK):(⟨bP.cT cJ x,aI.cT cK y⟩:St)=fA (jx x y):=by kernel_rfl
theorem sk {R:Type} (ao:bQ R) (x:bP.av cJ) (y:aI.av cK) (K:Ex→St→Option R):iT (aM ao) x y K=dM ao K (jv x y) (jx x y):=by kernel_rfl
theorem ti {R:Type} (ao:bQ R) (other:cp R) (ho:pG tt (dL R (cf ao)) (fB R (aM ao)) 1 ((aQ (aL Tryz.f116)).getD 0 .skip) gf other):pG tt (dL R (cf ao)) (fB R (aM ao)) 1 ((aQ (aL Tryz.f116)).getD 0 .skip) gf (gE cJ cK (iT (aM ao)) other) :=
  gW (A:=dM ao) ho (k9 fA (ju (cf ao)) (dM ao) (qZ ao) (si (cf ao) (aM ao)) (qY ao)) jv jx sj (sk ao)

noncomputable def oN {R:Type} (aM:dE R) (x1:List Json) (x2:Int) (k0:Int→Int→Option R):Option R :=
  aM (List.length x1+Int.natAbs (x1.length:Int)+Int.natAbs 0+Int.natAbs x2+64) x1 (x1.length:Int) 0 x2 (fun y9=>k0 (-1) y9) (fun yf wc=>k0 yf wc)
noncomputable def cb {R:Type} (ao:bQ R):fo R:=fun x1 x2 k0=>oN (aM ao) x1 x2 k0
theorem wg {R:Type} (cf:iH R) (aM:dE R) (x1:List Json) (x2:Int) (k:V→az→Option R):iE tt (dL R cf) (fB R aM) false Tryz.f116 (aL Tryz.f116) [.sl .json x1 .no, .func 80 [] [.ptr 0 0]] [.cells [.int .i64 x2]] k =
    oN aM x1 x2 (fun q0 q1=>k (.int .i64 q0) [.cells [.int .i64 q1]]):=by kernel_rfl
theorem tS (R:Type) (ao:bQ R):∀a∈aQ (aL Tryz.f116),cO tt (dL R (cf ao)) (fB R (aM ao)) 1 a:=by
  refine bF 1 (by kernel_rfl) fun i hi => ?_
  match i,hi with
  | 0,_=>exact gb (by kernel_rfl) (ti ao _ jL)
  | n+1,hi=>omega
theorem uA (R:Type) (ao:bQ R) (fe:ay.Spec.Ok Tryz.prog 56 (aA gF gG (eZ ao) bg)) (other:ay.Spec R) (ho:ay.Spec.Ok Tryz.prog 116 other):ay.Spec.Ok Tryz.prog 116 (aA gY gZ (ot (cb ao)) other) :=
  bu ho (bj TT mixed (vn R ao fe) (keep:=false) rfl rfl rfl rfl 1 (tS R ao)) fun (x:bP.av gY) (y:aI.av gZ) k=>wg (cf ao) (aM ao) x.1 y.1.1 k

/-! ### slices.ContainsFunc[[]humpyard/api.Json,humpyard/api.Json] -/
abbrev eP (R:Type):Type:=(List Json)→Int→(Bool→Int→Option R)→Option R
abbrev gq:List bP := [.leaf (.sl .json), .func 80 [] [.ptr 0 0]]
abbrev gu:List aI := [.cells [.int .i64]]
noncomputable def nr {R:Type} (fn:eP R):bP.av gq→aI.av gu→(V→az→Option R)→Option R:=fun x y k=>fn x.1 y.1.1 (fun q0 q1=>k (.bool q0) [.cells [.int .i64 q1]])
noncomputable def gv (R:Type) (cb:fo R):Env R:=fun i=>match i with
  | 116=>some (false,(aA gY gZ (ot cb) bg))
  | _=>none
theorem tj (R:Type) (ao:bQ R) (fe:ay.Spec.Ok Tryz.prog 56 (aA gF gG (eZ ao) bg)):pK Tryz.prog (gv R (cb ao)):=by
  intro i b sp h
  unfold gv at h
  split at h
  · cases h; exact ⟨(uA R ao fe _ (aO _)),fun _ h=>nomatch h⟩
  · cases h

noncomputable def nJ (R:Type):Nat→Option (Hint × cp R):=fun i=>match i with
  | _=>none

noncomputable def nK {R:Type} (cb:fo R) (x1:List Json) (x2:Int) (k0:Bool→Int→Option R):Option R :=
  cb x1 x2 (fun y3 y4=>k0 (decide (y3≥(0:Int))) y4)
noncomputable def aP {R:Type} (ao:bQ R):eP R:=fun x1 x2 k0=>nK (cb ao) x1 x2 k0
theorem tT {R:Type} (cb:fo R) (x1:List Json) (x2:Int) (k:V→az→Option R):iE tt (gv R cb) (nJ R) false Tryz.f79 (aL Tryz.f79) [.sl .json x1 .no, .func 80 [] [.ptr 0 0]] [.cells [.int .i64 x2]] k =
    nK cb x1 x2 (fun q0 q1=>k (.bool q0) [.cells [.int .i64 q1]]):=by kernel_rfl
theorem sn (R:Type) (ao:bQ R):∀a∈aQ (aL Tryz.f79),cO tt (gv R (cb ao)) (nJ R) 1 a:=by
  refine bF 0 (by kernel_rfl) fun i hi => ?_
  omega
theorem sH (R:Type) (ao:bQ R) (fe:ay.Spec.Ok Tryz.prog 56 (aA gF gG (eZ ao) bg)) (other:ay.Spec R) (ho:ay.Spec.Ok Tryz.prog 79 other):ay.Spec.Ok Tryz.prog 79 (aA gq gu (nr (aP ao)) other) :=
  bu ho (bj TT mixed (tj R ao fe) (keep:=false) rfl rfl rfl rfl 1 (sn R ao)) fun (x:bP.av gq) (y:aI.av gu) k=>tT (cb ao) x.1 y.1.1 k

noncomputable def AJ (R:Type) (br:fy R) (cd:km R) (mV:wM R) (iG:sG R) (aP:eP R):Env R:=fun i=>match i with
  | 49=>some (true,(aA rK rL (wN br) bg))
  | 65=>some (true,(aA qW qX (yj cd) bg))
  | 77=>some (true,(aA Cq Cr (Ie mV) bg))
  | 78=>some (true,(aA yO yP (Fc iG) bg))
  | 79=>some (false,(aA gq gu (nr aP) bg))
  | _=>none
theorem Mq (R:Type) (ao:bQ R) (fe:ay.Spec.Ok Tryz.prog 56 (aA gF gG (eZ ao) bg)):pK Tryz.prog (AJ R br cd mV iG (aP ao)):=by
  intro i b sp h
  unfold AJ at h
  split at h
  · cases h; exact ⟨(yk R _ (aO _)),fun h=>nomatch h⟩
  · cases h; exact ⟨(BA R _ (aO _)),fun h=>nomatch h⟩
  · cases h; exact ⟨(Mn R _ (aO _)),fun h=>nomatch h⟩
  · cases h; exact ⟨(Ju R _ (aO _)),fun h=>nomatch h⟩
  · cases h; exact ⟨(sH R ao fe _ (aO _)),fun _ h=>nomatch h⟩
  · cases h

noncomputable def Ij (R:Type):Nat→Option (Hint × cp R):=fun i=>match i with
  | _=>none

noncomputable def AK {R:Type} (br:fy R) (cd:km R) (mV:wM R) (iG:sG R) (aP:eP R) (x1:Json) (x2:Int) (k0:Bool→Option R):Option R :=
  mV (⟨x1.kind,⟨x1.num.aB,x1.num.exp⟩,x1.text,x1.names,x1.items⟩:Json) (fun y3=>bif (decide (x2>(16:Int)))then (k0 false)else (bif (decide (x1.kind<(1:Int)))then (k0 false)else (bif (decide (x1.kind>(7:Int)))then (k0 false)else (bif (!(y3.num.aB==0&&(y3.num.exp==0&&true)))then (k0 false)else (bif (!(y3.text==([]:aj)))then (k0 false)else (bif (decide ((IntKind.i64.wrap ((y3.names.length:Int)+(y3.items.length:Int)))>(0:Int)))then (k0 false)else (bif (x1.kind==4)then (cd x1.num (fun y5=>k0 y5))else (bif (x1.kind==5)then (br x1.text (fun y6=>k0 y6))else (bif (x1.kind==7)then (bif ((x1.names.length:Int) != (x1.items.length:Int))then (k0 false)else (iG x1.names (fun y7=>bif (!y7)then (k0 false)else (aP x1.items x2 (fun wc zO=>k0 (!wc))))))else (aP x1.items x2 (fun Ek Da=>k0 (!Ek))))))))))))
noncomputable def DX {R:Type} (ao:bQ R):bQ R:=fun x1 x2 k0=>AK br cd mV iG (aP ao) x1 x2 k0
theorem NH {R:Type} (br:fy R) (cd:km R) (mV:wM R) (iG:sG R) (aP:eP R) (x1:Json) (x2:Int) (k:V→az→Option R):iE tt (AJ R br cd mV iG aP) (Ij R) false Tryz.f56 (aL Tryz.f56) [.agg [.int .i64 x1.kind, .int .i64 x1.num.aB, .int .i64 x1.num.exp, .str x1.text, .sl .str x1.names .no, .sl .json x1.items .no], .int .i64 x2] [] k =
    AK br cd mV iG aP x1 x2 (fun q0=>k (.bool q0) []):=by kernel_rfl
theorem Jv (R:Type) (ao:bQ R):∀a∈aQ (aL Tryz.f56),cO tt (AJ R br cd mV iG (aP ao)) (Ij R) 0 a:=by
  refine bF 0 (by kernel_rfl) fun i hi => ?_
  omega
theorem Jw (R:Type) (ao:bQ R) (fe:ay.Spec.Ok Tryz.prog 56 (aA gF gG (eZ ao) bg)) (other:ay.Spec R) (ho:ay.Spec.Ok Tryz.prog 56 other):ay.Spec.Ok Tryz.prog 56 (aA gF gG (eZ (DX ao)) other) :=
  bu ho (bj TT mixed (Mq R ao fe) (keep:=false) rfl rfl rfl rfl 0 (Jv R ao)) fun (x:bP.av gF) (y:aI.av gG) k=>NH br cd mV iG (aP ao) (⟨x.1.1,⟨x.1.2.1,x.1.2.2.1⟩,x.1.2.2.2.1,x.1.2.2.2.2.1,x.1.2.2.2.2.2.1⟩:Json) x.2.1 k
noncomputable def eU {R:Type}:Nat→bQ R
  | 0,_,_,_=>none
  | n+1,l0,l7,k0'=>DX (eU n) l0 l7 k0'
theorem Uo {R:Type} (n:Nat):eU (R:=R) (n+1)=DX (eU n):=by kernel_rfl
theorem Kt (R:Type):∀n,ay.Spec.Ok Tryz.prog 56 (aA gF gG (eZ (eU (R:=R) n)) bg) :=
  vR (run:=fun n=>eZ (eU (R:=R) n)) (fun x y k=>by kernel_rfl) fun n hyp=>Jw R (eU n) hyp bg (aO _)
noncomputable def la {R:Type}:bQ R:=fun x1 x2 k0=>eU (Json.depth x1+2) x1 x2 k0
theorem Ku (R:Type):eZ (R:=R) la=fun x y k=>eZ (eU (Json.depth (⟨x.1.1,⟨x.1.2.1,x.1.2.2.1⟩,x.1.2.2.2.1,x.1.2.2.2.2.1,x.1.2.2.2.2.2.1⟩:Json)+2)) x y k:=by kernel_rfl
theorem Kv (R:Type) (other:ay.Spec R) (ho:ay.Spec.Ok Tryz.prog 56 other):ay.Spec.Ok Tryz.prog 56 (aA gF gG (eZ la) other) :=
  Bz (C6 (run:=fun n=>eZ (eU (R:=R) n)) (fun x y=>(Json.depth (⟨x.1.1,⟨x.1.2.1,x.1.2.2.1⟩,x.1.2.2.2.1,x.1.2.2.2.2.1,x.1.2.2.2.2.2.1⟩:Json)+2)) ho (Kt R)) (Ku R)

end Go.Proofs.YtmlkkgfenfdndaaGreatDoor

/-
  Functions of the program as pure Lean functions, and the ties; printed by wip/tools/emit.py.
-/
set_option maxRecDepth 100000
namespace Go.Proofs.YtmlkkgfenfdndaaGreatDoor
open Go Go.ay

/-! ### humpyard/json.Right -/
abbrev jM (R:Type):Type:=Json→(Bool→Option R)→Option R
abbrev tm:List bP := [.agg [.int .i64, .int .i64, .int .i64, .str, .sl .str, .sl .json]]
abbrev tp:List aI := []
noncomputable def yQ {R:Type} (fn:jM R):bP.av tm→aI.av tp→(V→az→Option R)→Option R:=fun x y k=>fn (⟨x.1.1,⟨x.1.2.1,x.1.2.2.1⟩,x.1.2.2.2.1,x.1.2.2.2.2.1,x.1.2.2.2.2.2.1⟩:Json) (fun q0=>k (.bool q0) [])
noncomputable def AL (R:Type) (la:bQ R):Env R:=fun i=>match i with
  | 56=>some (true,(aA gF gG (eZ la) bg))
  | _=>none
theorem Mr (R:Type):pK Tryz.prog (AL R la):=by
  intro i b sp h
  unfold AL at h
  split at h
  · cases h; exact ⟨(Kv R _ (aO _)),fun h=>nomatch h⟩
  · cases h

noncomputable def Ik (R:Type):Nat→Option (Hint × cp R):=fun i=>match i with
  | _=>none

noncomputable def AM {R:Type} (la:bQ R) (x1:Json) (k0:Bool→Option R):Option R :=
  la (⟨x1.kind,⟨x1.num.aB,x1.num.exp⟩,x1.text,x1.names,x1.items⟩:Json) 1 (fun y2=>k0 y2)
noncomputable def cG {R:Type}:jM R:=fun x1 k0=>AM la x1 k0
theorem NI {R:Type} (la:bQ R) (x1:Json) (k:V→az→Option R):iE tt (AL R la) (Ik R) false Tryz.f32 (aL Tryz.f32) [.agg [.int .i64 x1.kind, .int .i64 x1.num.aB, .int .i64 x1.num.exp, .str x1.text, .sl .str x1.names .no, .sl .json x1.items .no]] [] k =
    AM la x1 (fun q0=>k (.bool q0) []):=by kernel_rfl
theorem Jx (R:Type):∀a∈aQ (aL Tryz.f32),cO tt (AL R la) (Ik R) 0 a:=by
  refine bF 0 (by kernel_rfl) fun i hi => ?_
  omega
theorem zP (R:Type) (other:ay.Spec R) (ho:ay.Spec.Ok Tryz.prog 32 other):ay.Spec.Ok Tryz.prog 32 (aA tm tp (yQ cG) other) :=
  bu ho (bj TT mixed (Mr R) (keep:=false) rfl rfl rfl rfl 0 (Jx R)) fun (x:bP.av tm) (y:aI.av tp) k=>NI la (⟨x.1.1,⟨x.1.2.1,x.1.2.2.1⟩,x.1.2.2.2.1,x.1.2.2.2.2.1,x.1.2.2.2.2.2.1⟩:Json) k

/-! ### (*strings.Builder).WriteString -/
abbrev bC (R:Type):Type:=aj→(Int→(List Int)→Option R)→Option R
abbrev dY:List bP := [.leaf (.ptr 0 0), .leaf (.str)]
abbrev dZ:List aI := [.kI (.cF)]
noncomputable def gw {R:Type} (fn:bC R):bP.av dY→aI.av dZ→(V→az→Option R)→Option R:=fun x y k=>fn x.2.1 (fun q0 q1=>k (.tuple [.int .i64 q0, .cR]) [.kI (.sl (.int .u8) q1 (.own 1)), .tok])
noncomputable def gH (R:Type):Env R:=fun i=>match i with
  | 73=>some (false,(J7 R))
  | _=>none
theorem tU (R:Type):pK Tryz.prog (gH R):=by
  intro i b sp h
  unfold gH at h
  split at h
  · cases h; exact ⟨(Mf),fun _ h=>nomatch h⟩
  · cases h

noncomputable def nZ (R:Type):Nat→Option (Hint × cp R):=fun i=>match i with
  | _=>none

noncomputable def n0 {R:Type} (x1:aj) (k0:Int→(List Int)→Option R):Option R :=
  cX (decide ((0+(oy x1).length)*1≤140737488355328)) (k0 (x1.length:Int) (oy x1))
noncomputable def ag {R:Type}:bC R:=fun x1 k0=>n0 x1 k0
theorem uB {R:Type} (x1:aj) (k:V→az→Option R):iE tt (gH R) (nZ R) false Tryz.f52 (aL Tryz.f52) [.ptr 0 0, .str x1] [.kI (.cF)] k =
    n0 x1 (fun q0 q1=>k (.tuple [.int .i64 q0, .cR]) [.kI (.sl (.int .u8) q1 (.own 1)), .tok]):=by kernel_rfl
theorem sI (R:Type):∀a∈aQ (aL Tryz.f52),cO tt (gH R) (nZ R) 1 a:=by
  refine bF 0 (by kernel_rfl) fun i hi => ?_
  omega
theorem iU (R:Type) (other:ay.Spec R) (ho:ay.Spec.Ok Tryz.prog 52 other):ay.Spec.Ok Tryz.prog 52 (aA dY dZ (gw ag) other) :=
  bu ho (bj TT mixed (tU R) (keep:=false) rfl rfl rfl rfl 1 (sI R)) fun (x:bP.av dY) (y:aI.av dZ) k=>uB x.2.1 k

/-! ### (*strings.Builder).WriteByte -/
abbrev bB (R:Type):Type:=Int→((List Int)→Option R)→Option R
abbrev eB:List bP := [.leaf (.ptr 0 0), .leaf (.int .u8)]
abbrev eC:List aI := [.kI (.cF)]
noncomputable def gO {R:Type} (fn:bB R):bP.av eB→aI.av eC→(V→az→Option R)→Option R:=fun x y k=>fn x.2.1 (fun q0=>k (.cR) [.kI (.sl (.int .u8) q0 (.own 1)), .tok])
noncomputable def hG (R:Type):Env R:=fun i=>match i with
  | 73=>some (false,(J7 R))
  | _=>none
theorem vo (R:Type):pK Tryz.prog (hG R):=by
  intro i b sp h
  unfold hG at h
  split at h
  · cases h; exact ⟨(Mf),fun _ h=>nomatch h⟩
  · cases h

noncomputable def oO (R:Type):Nat→Option (Hint × cp R):=fun i=>match i with
  | _=>none

noncomputable def oP {R:Type} (x1:Int) (k0:(List Int)→Option R):Option R :=
  k0 ([x1]:List Int)
noncomputable def ah {R:Type}:bB R:=fun x1 k0=>oP x1 k0
theorem wh {R:Type} (x1:Int) (k:V→az→Option R):iE tt (hG R) (oO R) false Tryz.f50 (aL Tryz.f50) [.ptr 0 0, .int .u8 x1] [.kI (.cF)] k =
    oP x1 (fun q0=>k (.cR) [.kI (.sl (.int .u8) q0 (.own 1)), .tok]):=by kernel_rfl
theorem tV (R:Type):∀a∈aQ (aL Tryz.f50),cO tt (hG R) (oO R) 1 a:=by
  refine bF 0 (by kernel_rfl) fun i hi => ?_
  omega
theorem jN (R:Type) (other:ay.Spec R) (ho:ay.Spec.Ok Tryz.prog 50 other):ay.Spec.Ok Tryz.prog 50 (aA eB eC (gO ah) other) :=
  bu ho (bj TT mixed (vo R) (keep:=false) rfl rfl rfl rfl 1 (tV R)) fun (x:bP.av eB) (y:aI.av eC) k=>wh x.2.1 k

/-! ### (*strings.Builder).WriteString -/
abbrev bb (R:Type):Type:=aj→(List Int)→(Int→(List Int)→Option R)→Option R
abbrev dw:List bP := [.leaf (.ptr 0 0), .leaf (.str)]
abbrev dx:List aI := [.kI (.Nd (.int .u8) 1), .tok]
noncomputable def fa {R:Type} (fn:bb R):bP.av dw→aI.av dx→(V→az→Option R)→Option R:=fun x y k=>fn x.2.1 y.1 (fun q0 q1=>k (.tuple [.int .i64 q0, .cR]) [.kI (.sl (.int .u8) q1 (.own 2)), .dead, .tok])
noncomputable def gI (R:Type):Env R:=fun i=>match i with
  | 73=>some (false,(J7 R))
  | _=>none
theorem tW (R:Type):pK Tryz.prog (gI R):=by
  intro i b sp h
  unfold gI at h
  split at h
  · cases h; exact ⟨(Mf),fun _ h=>nomatch h⟩
  · cases h

noncomputable def n5 (R:Type):Nat→Option (Hint × cp R):=fun i=>match i with
  | _=>none

noncomputable def n7 {R:Type} (x1:aj) (x2:List Int) (k0:Int→(List Int)→Option R):Option R :=
  cX (decide ((x2.length+(oy x1).length)*1≤140737488355328)) (k0 (x1.length:Int) ((x2:List Int)++((oy x1):List Int)))
noncomputable def af {R:Type}:bb R:=fun x1 x2 k0=>n7 x1 x2 k0
theorem uC {R:Type} (x1:aj) (x2:List Int) (k:V→az→Option R):iE tt (gI R) (n5 R) false Tryz.f52 (aL Tryz.f52) [.ptr 0 0, .str x1] [.kI (.sl (.int .u8) x2 (.own 1)), .tok] k =
    n7 x1 x2 (fun q0 q1=>k (.tuple [.int .i64 q0, .cR]) [.kI (.sl (.int .u8) q1 (.own 2)), .dead, .tok]):=by kernel_rfl
theorem sJ (R:Type):∀a∈aQ (aL Tryz.f52),cO tt (gI R) (n5 R) 2 a:=by
  refine bF 0 (by kernel_rfl) fun i hi => ?_
  omega
theorem fR (R:Type) (other:ay.Spec R) (ho:ay.Spec.Ok Tryz.prog 52 other):ay.Spec.Ok Tryz.prog 52 (aA dw dx (fa af) other) :=
  bu ho (bj TT mixed (tW R) (keep:=false) rfl rfl rfl rfl 2 (sJ R)) fun (x:bP.av dw) (y:aI.av dx) k=>uC x.2.1 y.1 k

/-! ### humpyard/decimal.Print -/
abbrev fb (R:Type):Type:=iO→(aj→Option R)→Option R
abbrev oF:List bP := [.agg [.int .i64, .int .i64]]
abbrev oG:List aI := []
noncomputable def tq {R:Type} (fn:fb R):bP.av oF→aI.av oG→(V→az→Option R)→Option R:=fun x y k=>fn (⟨x.1.1,x.1.2.1⟩:iO) (fun q0=>k (.str q0) [])
noncomputable def u6 (R:Type) (cd:km R) (ah:bB R) (af:bb R) (ag:bC R):Env R:=fun i=>match i with
  | 65=>some (true,(aA qW qX (yj cd) bg))
  | 50=>some (false,(aA eB eC (gO ah) bg))
  | 52=>some (false,(aA dY dZ (gw ag) (aA dw dx (fa af) bg)))
  | 39=>some (false,(DP R))
  | 66=>some (true,(S9 R))
  | 67=>some (true,(YG R))
  | _=>none
theorem Il (R:Type):pK Tryz.prog (u6 R cd ah af ag):=by
  intro i b sp h
  unfold u6 at h
  split at h
  · cases h; exact ⟨(BA R _ (aO _)),fun h=>nomatch h⟩
  · cases h; exact ⟨(jN R _ (aO _)),fun _ h=>nomatch h⟩
  · cases h; exact ⟨(iU R _ (fR R _ (aO _))),fun _ h=>nomatch h⟩
  · cases h; exact ⟨(K2),fun _ _=>FT⟩
  · cases h; exact ⟨(itoa_ok),fun h=>nomatch h⟩
  · cases h; exact ⟨(rep_ok),fun h=>nomatch h⟩
  · cases h

noncomputable def El (R:Type):Nat→Option (Hint × cp R):=fun i=>match i with
  | _=>none

noncomputable def oH {R:Type} (cd:km R) (ah:bB R) (af:bb R) (ag:bC R) (x1:iO) (k0:aj→Option R):Option R :=
  cd x1 (fun y2=>bif (!y2)then (k0 ([]:aj))else (bif (decide (x1.aB<(0:Int)))then (ah 45 (fun y3=>bif (decide (x1.exp≥(0:Int)))then (cX (decide (0≤x1.exp)&&decide ((([48]:aj).length:Int)*x1.exp≤140737488355328)) (cX (decide ((cv (max x1.aB (IntKind.i64.wrap (0 - x1.aB)))).length+(lG ([48]:aj) x1.exp).length≤9223372036854775807)) (af ((cv (max x1.aB (IntKind.i64.wrap (0 - x1.aB))))++(lG ([48]:aj) x1.exp)) y3 (fun y4 y5=>k0 (sD y5)))))else (cX (decide (0≤(max 0 (IntKind.i64.wrap ((IntKind.i64.wrap (1 - x1.exp)) - ((cv (max x1.aB (IntKind.i64.wrap (0 - x1.aB)))).length:Int)))))&&decide ((([48]:aj).length:Int)*(max 0 (IntKind.i64.wrap ((IntKind.i64.wrap (1 - x1.exp)) - ((cv (max x1.aB (IntKind.i64.wrap (0 - x1.aB)))).length:Int))))≤140737488355328)) (cX (decide ((lG ([48]:aj) (max 0 (IntKind.i64.wrap ((IntKind.i64.wrap (1 - x1.exp)) - ((cv (max x1.aB (IntKind.i64.wrap (0 - x1.aB)))).length:Int))))).length+(cv (max x1.aB (IntKind.i64.wrap (0 - x1.aB)))).length≤9223372036854775807)) (cX (decide ((0:Int)≤(IntKind.i64.wrap ((((lG ([48]:aj) (max 0 (IntKind.i64.wrap ((IntKind.i64.wrap (1 - x1.exp)) - ((cv (max x1.aB (IntKind.i64.wrap (0 - x1.aB)))).length:Int)))))++(cv (max x1.aB (IntKind.i64.wrap (0 - x1.aB))))).length:Int)+x1.exp)))&&decide ((IntKind.i64.wrap ((((lG ([48]:aj) (max 0 (IntKind.i64.wrap ((IntKind.i64.wrap (1 - x1.exp)) - ((cv (max x1.aB (IntKind.i64.wrap (0 - x1.aB)))).length:Int)))))++(cv (max x1.aB (IntKind.i64.wrap (0 - x1.aB))))).length:Int)+x1.exp))≤((lG ([48]:aj) (max 0 (IntKind.i64.wrap ((IntKind.i64.wrap (1 - x1.exp)) - ((cv (max x1.aB (IntKind.i64.wrap (0 - x1.aB)))).length:Int)))))++(cv (max x1.aB (IntKind.i64.wrap (0 - x1.aB))))).length)) (cX (decide ((0:Int)≤(IntKind.i64.wrap ((((lG ([48]:aj) (max 0 (IntKind.i64.wrap ((IntKind.i64.wrap (1 - x1.exp)) - ((cv (max x1.aB (IntKind.i64.wrap (0 - x1.aB)))).length:Int)))))++(cv (max x1.aB (IntKind.i64.wrap (0 - x1.aB))))).length:Int)+x1.exp)))) (cX (decide (((((lG ([48]:aj) (max 0 (IntKind.i64.wrap ((IntKind.i64.wrap (1 - x1.exp)) - ((cv (max x1.aB (IntKind.i64.wrap (0 - x1.aB)))).length:Int)))))++(cv (max x1.aB (IntKind.i64.wrap (0 - x1.aB))))).drop 0).take ((IntKind.i64.wrap ((((lG ([48]:aj) (max 0 (IntKind.i64.wrap ((IntKind.i64.wrap (1 - x1.exp)) - ((cv (max x1.aB (IntKind.i64.wrap (0 - x1.aB)))).length:Int)))))++(cv (max x1.aB (IntKind.i64.wrap (0 - x1.aB))))).length:Int)+x1.exp)).toNat - 0)).length+1≤9223372036854775807)) (cX (decide ((0:Int)≤(((lG ([48]:aj) (max 0 (IntKind.i64.wrap ((IntKind.i64.wrap (1 - x1.exp)) - ((cv (max x1.aB (IntKind.i64.wrap (0 - x1.aB)))).length:Int)))))++(cv (max x1.aB (IntKind.i64.wrap (0 - x1.aB))))).length:Int))&&decide ((((lG ([48]:aj) (max 0 (IntKind.i64.wrap ((IntKind.i64.wrap (1 - x1.exp)) - ((cv (max x1.aB (IntKind.i64.wrap (0 - x1.aB)))).length:Int)))))++(cv (max x1.aB (IntKind.i64.wrap (0 - x1.aB))))).length:Int)≤((lG ([48]:aj) (max 0 (IntKind.i64.wrap ((IntKind.i64.wrap (1 - x1.exp)) - ((cv (max x1.aB (IntKind.i64.wrap (0 - x1.aB)))).length:Int)))))++(cv (max x1.aB (IntKind.i64.wrap (0 - x1.aB))))).length)) (cX (decide ((0:Int)≤(IntKind.i64.wrap ((((lG ([48]:aj) (max 0 (IntKind.i64.wrap ((IntKind.i64.wrap (1 - x1.exp)) - ((cv (max x1.aB (IntKind.i64.wrap (0 - x1.aB)))).length:Int)))))++(cv (max x1.aB (IntKind.i64.wrap (0 - x1.aB))))).length:Int)+x1.exp)))&&decide ((IntKind.i64.wrap ((((lG ([48]:aj) (max 0 (IntKind.i64.wrap ((IntKind.i64.wrap (1 - x1.exp)) - ((cv (max x1.aB (IntKind.i64.wrap (0 - x1.aB)))).length:Int)))))++(cv (max x1.aB (IntKind.i64.wrap (0 - x1.aB))))).length:Int)+x1.exp))≤(((lG ([48]:aj) (max 0 (IntKind.i64.wrap ((IntKind.i64.wrap (1 - x1.exp)) - ((cv (max x1.aB (IntKind.i64.wrap (0 - x1.aB)))).length:Int)))))++(cv (max x1.aB (IntKind.i64.wrap (0 - x1.aB))))).length:Int))) (cX (decide ((((((lG ([48]:aj) (max 0 (IntKind.i64.wrap ((IntKind.i64.wrap (1 - x1.exp)) - ((cv (max x1.aB (IntKind.i64.wrap (0 - x1.aB)))).length:Int)))))++(cv (max x1.aB (IntKind.i64.wrap (0 - x1.aB))))).drop 0).take ((IntKind.i64.wrap ((((lG ([48]:aj) (max 0 (IntKind.i64.wrap ((IntKind.i64.wrap (1 - x1.exp)) - ((cv (max x1.aB (IntKind.i64.wrap (0 - x1.aB)))).length:Int)))))++(cv (max x1.aB (IntKind.i64.wrap (0 - x1.aB))))).length:Int)+x1.exp)).toNat - 0))++([46]:aj)).length+((((lG ([48]:aj) (max 0 (IntKind.i64.wrap ((IntKind.i64.wrap (1 - x1.exp)) - ((cv (max x1.aB (IntKind.i64.wrap (0 - x1.aB)))).length:Int)))))++(cv (max x1.aB (IntKind.i64.wrap (0 - x1.aB))))).drop (IntKind.i64.wrap ((((lG ([48]:aj) (max 0 (IntKind.i64.wrap ((IntKind.i64.wrap (1 - x1.exp)) - ((cv (max x1.aB (IntKind.i64.wrap (0 - x1.aB)))).length:Int)))))++(cv (max x1.aB (IntKind.i64.wrap (0 - x1.aB))))).length:Int)+x1.exp)).toNat).take ((((lG ([48]:aj) (max 0 (IntKind.i64.wrap ((IntKind.i64.wrap (1 - x1.exp)) - ((cv (max x1.aB (IntKind.i64.wrap (0 - x1.aB)))).length:Int)))))++(cv (max x1.aB (IntKind.i64.wrap (0 - x1.aB))))).length:Int).toNat - (IntKind.i64.wrap ((((lG ([48]:aj) (max 0 (IntKind.i64.wrap ((IntKind.i64.wrap (1 - x1.exp)) - ((cv (max x1.aB (IntKind.i64.wrap (0 - x1.aB)))).length:Int)))))++(cv (max x1.aB (IntKind.i64.wrap (0 - x1.aB))))).length:Int)+x1.exp)).toNat)).length≤9223372036854775807)) (af ((((((lG ([48]:aj) (max 0 (IntKind.i64.wrap ((IntKind.i64.wrap (1 - x1.exp)) - ((cv (max x1.aB (IntKind.i64.wrap (0 - x1.aB)))).length:Int)))))++(cv (max x1.aB (IntKind.i64.wrap (0 - x1.aB))))).drop 0).take ((IntKind.i64.wrap ((((lG ([48]:aj) (max 0 (IntKind.i64.wrap ((IntKind.i64.wrap (1 - x1.exp)) - ((cv (max x1.aB (IntKind.i64.wrap (0 - x1.aB)))).length:Int)))))++(cv (max x1.aB (IntKind.i64.wrap (0 - x1.aB))))).length:Int)+x1.exp)).toNat - 0))++([46]:aj))++((((lG ([48]:aj) (max 0 (IntKind.i64.wrap ((IntKind.i64.wrap (1 - x1.exp)) - ((cv (max x1.aB (IntKind.i64.wrap (0 - x1.aB)))).length:Int)))))++(cv (max x1.aB (IntKind.i64.wrap (0 - x1.aB))))).drop (IntKind.i64.wrap ((((lG ([48]:aj) (max 0 (IntKind.i64.wrap ((IntKind.i64.wrap (1 - x1.exp)) - ((cv (max x1.aB (IntKind.i64.wrap (0 - x1.aB)))).length:Int)))))++(cv (max x1.aB (IntKind.i64.wrap (0 - x1.aB))))).length:Int)+x1.exp)).toNat).take ((((lG ([48]:aj) (max 0 (IntKind.i64.wrap ((IntKind.i64.wrap (1 - x1.exp)) - ((cv (max x1.aB (IntKind.i64.wrap (0 - x1.aB)))).length:Int)))))++(cv (max x1.aB (IntKind.i64.wrap (0 - x1.aB))))).length:Int).toNat - (IntKind.i64.wrap ((((lG ([48]:aj) (max 0 (IntKind.i64.wrap ((IntKind.i64.wrap (1 - x1.exp)) - ((cv (max x1.aB (IntKind.i64.wrap (0 - x1.aB)))).length:Int)))))++(cv (max x1.aB (IntKind.i64.wrap (0 - x1.aB))))).length:Int)+x1.exp)).toNat))) y3 (fun y6 y7=>k0 (sD y7)))))))))))))else (bif (decide (x1.exp≥(0:Int)))then (cX (decide (0≤x1.exp)&&decide ((([48]:aj).length:Int)*x1.exp≤140737488355328)) (cX (decide ((cv (max x1.aB (IntKind.i64.wrap (0 - x1.aB)))).length+(lG ([48]:aj) x1.exp).length≤9223372036854775807)) (ag ((cv (max x1.aB (IntKind.i64.wrap (0 - x1.aB))))++(lG ([48]:aj) x1.exp)) (fun y8 y9=>k0 (sD y9)))))else (cX (decide (0≤(max 0 (IntKind.i64.wrap ((IntKind.i64.wrap (1 - x1.exp)) - ((cv (max x1.aB (IntKind.i64.wrap (0 - x1.aB)))).length:Int)))))&&decide ((([48]:aj).length:Int)*(max 0 (IntKind.i64.wrap ((IntKind.i64.wrap (1 - x1.exp)) - ((cv (max x1.aB (IntKind.i64.wrap (0 - x1.aB)))).length:Int))))≤140737488355328)) (cX (decide ((lG ([48]:aj) (max 0 (IntKind.i64.wrap ((IntKind.i64.wrap (1 - x1.exp)) - ((cv (max x1.aB (IntKind.i64.wrap (0 - x1.aB)))).length:Int))))).length+(cv (max x1.aB (IntKind.i64.wrap (0 - x1.aB)))).length≤9223372036854775807)) (cX (decide ((0:Int)≤(IntKind.i64.wrap ((((lG ([48]:aj) (max 0 (IntKind.i64.wrap ((IntKind.i64.wrap (1 - x1.exp)) - ((cv (max x1.aB (IntKind.i64.wrap (0 - x1.aB)))).length:Int)))))++(cv (max x1.aB (IntKind.i64.wrap (0 - x1.aB))))).length:Int)+x1.exp)))&&decide ((IntKind.i64.wrap ((((lG ([48]:aj) (max 0 (IntKind.i64.wrap ((IntKind.i64.wrap (1 - x1.exp)) - ((cv (max x1.aB (IntKind.i64.wrap (0 - x1.aB)))).length:Int)))))++(cv (max x1.aB (IntKind.i64.wrap (0 - x1.aB))))).length:Int)+x1.exp))≤((lG ([48]:aj) (max 0 (IntKind.i64.wrap ((IntKind.i64.wrap (1 - x1.exp)) - ((cv (max x1.aB (IntKind.i64.wrap (0 - x1.aB)))).length:Int)))))++(cv (max x1.aB (IntKind.i64.wrap (0 - x1.aB))))).length)) (cX (decide ((0:Int)≤(IntKind.i64.wrap ((((lG ([48]:aj) (max 0 (IntKind.i64.wrap ((IntKind.i64.wrap (1 - x1.exp)) - ((cv (max x1.aB (IntKind.i64.wrap (0 - x1.aB)))).length:Int)))))++(cv (max x1.aB (IntKind.i64.wrap (0 - x1.aB))))).length:Int)+x1.exp)))) (cX (decide (((((lG ([48]:aj) (max 0 (IntKind.i64.wrap ((IntKind.i64.wrap (1 - x1.exp)) - ((cv (max x1.aB (IntKind.i64.wrap (0 - x1.aB)))).length:Int)))))++(cv (max x1.aB (IntKind.i64.wrap (0 - x1.aB))))).drop 0).take ((IntKind.i64.wrap ((((lG ([48]:aj) (max 0 (IntKind.i64.wrap ((IntKind.i64.wrap (1 - x1.exp)) - ((cv (max x1.aB (IntKind.i64.wrap (0 - x1.aB)))).length:Int)))))++(cv (max x1.aB (IntKind.i64.wrap (0 - x1.aB))))).length:Int)+x1.exp)).toNat - 0)).length+1≤9223372036854775807)) (cX (decide ((0:Int)≤(((lG ([48]:aj) (max 0 (IntKind.i64.wrap ((IntKind.i64.wrap (1 - x1.exp)) - ((cv (max x1.aB (IntKind.i64.wrap (0 - x1.aB)))).length:Int)))))++(cv (max x1.aB (IntKind.i64.wrap (0 - x1.aB))))).length:Int))&&decide ((((lG ([48]:aj) (max 0 (IntKind.i64.wrap ((IntKind.i64.wrap (1 - x1.exp)) - ((cv (max x1.aB (IntKind.i64.wrap (0 - x1.aB)))).length:Int)))))++(cv (max x1.aB (IntKind.i64.wrap (0 - x1.aB))))).length:Int)≤((lG ([48]:aj) (max 0 (IntKind.i64.wrap ((IntKind.i64.wrap (1 - x1.exp)) - ((cv (max x1.aB (IntKind.i64.wrap (0 - x1.aB)))).length:Int)))))++(cv (max x1.aB (IntKind.i64.wrap (0 - x1.aB))))).length)) (cX (decide ((0:Int)≤(IntKind.i64.wrap ((((lG ([48]:aj) (max 0 (IntKind.i64.wrap ((IntKind.i64.wrap (1 - x1.exp)) - ((cv (max x1.aB (IntKind.i64.wrap (0 - x1.aB)))).length:Int)))))++(cv (max x1.aB (IntKind.i64.wrap (0 - x1.aB))))).length:Int)+x1.exp)))&&decide ((IntKind.i64.wrap ((((lG ([48]:aj) (max 0 (IntKind.i64.wrap ((IntKind.i64.wrap (1 - x1.exp)) - ((cv (max x1.aB (IntKind.i64.wrap (0 - x1.aB)))).length:Int)))))++(cv (max x1.aB (IntKind.i64.wrap (0 - x1.aB))))).length:Int)+x1.exp))≤(((lG ([48]:aj) (max 0 (IntKind.i64.wrap ((IntKind.i64.wrap (1 - x1.exp)) - ((cv (max x1.aB (IntKind.i64.wrap (0 - x1.aB)))).length:Int)))))++(cv (max x1.aB (IntKind.i64.wrap (0 - x1.aB))))).length:Int))) (cX (decide ((((((lG ([48]:aj) (max 0 (IntKind.i64.wrap ((IntKind.i64.wrap (1 - x1.exp)) - ((cv (max x1.aB (IntKind.i64.wrap (0 - x1.aB)))).length:Int)))))++(cv (max x1.aB (IntKind.i64.wrap (0 - x1.aB))))).drop 0).take ((IntKind.i64.wrap ((((lG ([48]:aj) (max 0 (IntKind.i64.wrap ((IntKind.i64.wrap (1 - x1.exp)) - ((cv (max x1.aB (IntKind.i64.wrap (0 - x1.aB)))).length:Int)))))++(cv (max x1.aB (IntKind.i64.wrap (0 - x1.aB))))).length:Int)+x1.exp)).toNat - 0))++([46]:aj)).length+((((lG ([48]:aj) (max 0 (IntKind.i64.wrap ((IntKind.i64.wrap (1 - x1.exp)) - ((cv (max x1.aB (IntKind.i64.wrap (0 - x1.aB)))).length:Int)))))++(cv (max x1.aB (IntKind.i64.wrap (0 - x1.aB))))).drop (IntKind.i64.wrap ((((lG ([48]:aj) (max 0 (IntKind.i64.wrap ((IntKind.i64.wrap (1 - x1.exp)) - ((cv (max x1.aB (IntKind.i64.wrap (0 - x1.aB)))).length:Int)))))++(cv (max x1.aB (IntKind.i64.wrap (0 - x1.aB))))).length:Int)+x1.exp)).toNat).take ((((lG ([48]:aj) (max 0 (IntKind.i64.wrap ((IntKind.i64.wrap (1 - x1.exp)) - ((cv (max x1.aB (IntKind.i64.wrap (0 - x1.aB)))).length:Int)))))++(cv (max x1.aB (IntKind.i64.wrap (0 - x1.aB))))).length:Int).toNat - (IntKind.i64.wrap ((((lG ([48]:aj) (max 0 (IntKind.i64.wrap ((IntKind.i64.wrap (1 - x1.exp)) - ((cv (max x1.aB (IntKind.i64.wrap (0 - x1.aB)))).length:Int)))))++(cv (max x1.aB (IntKind.i64.wrap (0 - x1.aB))))).length:Int)+x1.exp)).toNat)).length≤9223372036854775807)) (ag ((((((lG ([48]:aj) (max 0 (IntKind.i64.wrap ((IntKind.i64.wrap (1 - x1.exp)) - ((cv (max x1.aB (IntKind.i64.wrap (0 - x1.aB)))).length:Int)))))++(cv (max x1.aB (IntKind.i64.wrap (0 - x1.aB))))).drop 0).take ((IntKind.i64.wrap ((((lG ([48]:aj) (max 0 (IntKind.i64.wrap ((IntKind.i64.wrap (1 - x1.exp)) - ((cv (max x1.aB (IntKind.i64.wrap (0 - x1.aB)))).length:Int)))))++(cv (max x1.aB (IntKind.i64.wrap (0 - x1.aB))))).length:Int)+x1.exp)).toNat - 0))++([46]:aj))++((((lG ([48]:aj) (max 0 (IntKind.i64.wrap ((IntKind.i64.wrap (1 - x1.exp)) - ((cv (max x1.aB (IntKind.i64.wrap (0 - x1.aB)))).length:Int)))))++(cv (max x1.aB (IntKind.i64.wrap (0 - x1.aB))))).drop (IntKind.i64.wrap ((((lG ([48]:aj) (max 0 (IntKind.i64.wrap ((IntKind.i64.wrap (1 - x1.exp)) - ((cv (max x1.aB (IntKind.i64.wrap (0 - x1.aB)))).length:Int)))))++(cv (max x1.aB (IntKind.i64.wrap (0 - x1.aB))))).length:Int)+x1.exp)).toNat).take ((((lG ([48]:aj) (max 0 (IntKind.i64.wrap ((IntKind.i64.wrap (1 - x1.exp)) - ((cv (max x1.aB (IntKind.i64.wrap (0 - x1.aB)))).length:Int)))))++(cv (max x1.aB (IntKind.i64.wrap (0 - x1.aB))))).length:Int).toNat - (IntKind.i64.wrap ((((lG ([48]:aj) (max 0 (IntKind.i64.wrap ((IntKind.i64.wrap (1 - x1.exp)) - ((cv (max x1.aB (IntKind.i64.wrap (0 - x1.aB)))).length:Int)))))++(cv (max x1.aB (IntKind.i64.wrap (0 - x1.aB))))).length:Int)+x1.exp)).toNat))) (fun yf wc=>k0 (sD wc))))))))))))))
noncomputable def bc {R:Type}:fb R:=fun x1 k0=>oH cd ah af ag x1 k0
theorem Jy {R:Type} (cd:km R) (ah:bB R) (af:bb R) (ag:bC R) (x1:iO) (k:V→az→Option R):iE tt (u6 R cd ah af ag) (El R) false Tryz.f46 (aL Tryz.f46) [.agg [.int .i64 x1.aB, .int .i64 x1.exp]] [] k =
    oH cd ah af ag x1 (fun q0=>k (.str q0) []):=by kernel_rfl
theorem F6 (R:Type):∀a∈aQ (aL Tryz.f46),cO tt (u6 R cd ah af ag) (El R) 0 a:=by
  refine bF 0 (by kernel_rfl) fun i hi => ?_
  omega
theorem vp (R:Type) (other:ay.Spec R) (ho:ay.Spec.Ok Tryz.prog 46 other):ay.Spec.Ok Tryz.prog 46 (aA oF oG (tq bc) other) :=
  bu ho (bj TT mixed (Il R) (keep:=false) rfl rfl rfl rfl 0 (F6 R)) fun (x:bP.av oF) (y:aI.av oG) k=>Jy cd ah af ag (⟨x.1.1,x.1.2.1⟩:iO) k

/-! ### humpyard/quote.short -/
abbrev n8 (R:Type):Type:=Int→(Int→Option R)→Option R
abbrev yR:List bP := [.leaf (.int .i32)]
abbrev yS:List aI := []
noncomputable def Fi {R:Type} (fn:n8 R):bP.av yR→aI.av yS→(V→az→Option R)→Option R:=fun x y k=>fn x.1 (fun q0=>k (.int .u8 q0) [])
noncomputable def yT (R:Type):Env R:=fun i=>match i with
  | _=>none
theorem Kw (R:Type):pK Tryz.prog (yT R):=by
  intro i b sp h
  unfold yT at h
  split at h
  · cases h

noncomputable def GA (R:Type):Nat→Option (Hint × cp R):=fun i=>match i with
  | _=>none

noncomputable def yU {R:Type} (x1:Int) (k0:Int→Option R):Option R :=
  bif (x1==34)then (bif (x1==34)then (k0 (IntKind.u8.wrap x1))else (bif (x1==8)then (k0 98)else (bif (x1==12)then (k0 102)else (bif (x1==10)then (k0 110)else (bif (x1==13)then (k0 114)else (bif (x1==9)then (k0 116)else (k0 0)))))))else (bif (x1==92)then (k0 (IntKind.u8.wrap x1))else (bif (x1==8)then (k0 98)else (bif (x1==12)then (k0 102)else (bif (x1==10)then (k0 110)else (bif (x1==13)then (k0 114)else (bif (x1==9)then (k0 116)else (k0 0)))))))
noncomputable def dO {R:Type}:n8 R:=fun x1 k0=>yU x1 k0
theorem Ms {R:Type} (x1:Int) (k:V→az→Option R):iE tt (yT R) (GA R) false Tryz.f51 (aL Tryz.f51) [.int .i32 x1] [] k =
    yU x1 (fun q0=>k (.int .u8 q0) []):=by kernel_rfl
theorem Im (R:Type):∀a∈aQ (aL Tryz.f51),cO tt (yT R) (GA R) 0 a:=by
  refine bF 0 (by kernel_rfl) fun i hi => ?_
  omega
theorem Jz (R:Type) (other:ay.Spec R) (ho:ay.Spec.Ok Tryz.prog 51 other):ay.Spec.Ok Tryz.prog 51 (aA yR yS (Fi dO) other) :=
  bu ho (bj TT mixed (Kw R) (keep:=false) rfl rfl rfl rfl 0 (Im R)) fun (x:bP.av yR) (y:aI.av yS) k=>Ms x.1 k

/-! ### (*strings.Builder).WriteByte -/
abbrev aW (R:Type):Type:=Int→(List Int)→((List Int)→Option R)→Option R
abbrev eD:List bP := [.leaf (.ptr 0 0), .leaf (.int .u8)]
abbrev eE:List aI := [.kI (.Nd (.int .u8) 1), .tok]
noncomputable def gP {R:Type} (fn:aW R):bP.av eD→aI.av eE→(V→az→Option R)→Option R:=fun x y k=>fn x.2.1 y.1 (fun q0=>k (.cR) [.kI (.sl (.int .u8) q0 (.own 2)), .dead, .tok])
noncomputable def hH (R:Type):Env R:=fun i=>match i with
  | 73=>some (false,(J7 R))
  | _=>none
theorem vq (R:Type):pK Tryz.prog (hH R):=by
  intro i b sp h
  unfold hH at h
  split at h
  · cases h; exact ⟨(Mf),fun _ h=>nomatch h⟩
  · cases h

noncomputable def oQ (R:Type):Nat→Option (Hint × cp R):=fun i=>match i with
  | _=>none

noncomputable def oR {R:Type} (x1:Int) (x2:List Int) (k0:(List Int)→Option R):Option R :=
  cX (decide ((x2.length+1)*1≤140737488355328)) (k0 ((x2:List Int)++(([x1]:List Int):List Int)))
noncomputable def ad {R:Type}:aW R:=fun x1 x2 k0=>oR x1 x2 k0
theorem wi {R:Type} (x1:Int) (x2:List Int) (k:V→az→Option R):iE tt (hH R) (oQ R) false Tryz.f50 (aL Tryz.f50) [.ptr 0 0, .int .u8 x1] [.kI (.sl (.int .u8) x2 (.own 1)), .tok] k =
    oR x1 x2 (fun q0=>k (.cR) [.kI (.sl (.int .u8) q0 (.own 2)), .dead, .tok]):=by kernel_rfl
theorem tX (R:Type):∀a∈aQ (aL Tryz.f50),cO tt (hH R) (oQ R) 2 a:=by
  refine bF 0 (by kernel_rfl) fun i hi => ?_
  omega
theorem jO (R:Type) (other:ay.Spec R) (ho:ay.Spec.Ok Tryz.prog 50 other):ay.Spec.Ok Tryz.prog 50 (aA eD eE (gP ad) other) :=
  bu ho (bj TT mixed (vq R) (keep:=false) rfl rfl rfl rfl 2 (tX R)) fun (x:bP.av eD) (y:aI.av eE) k=>wi x.2.1 y.1 k

end Go.Proofs.YtmlkkgfenfdndaaGreatDoor

/-
  Functions of the program as pure Lean functions, and the ties; printed by wip/tools/emit.py.
-/
set_option maxRecDepth 100000
namespace Go.Proofs.YtmlkkgfenfdndaaGreatDoor
open Go Go.ay

/-! ### unicode/utf8.appendRuneNonASCII -/
abbrev ei (R:Type):Type:=(List Int)→Int→((List Int)→Option R)→Option R
abbrev fC:List bP := [.leaf (.Nd (.int .u8) 0), .leaf (.int .i32)]
abbrev fE:List aI := [.tok]
noncomputable def mf {R:Type} (fn:ei R):bP.av fC→aI.av fE→(V→az→Option R)→Option R:=fun x y k=>fn x.1 x.2.1 (fun q0=>k (.sl (.int .u8) q0 (.own 1)) [.dead, .tok])
noncomputable def fF (R:Type):Env R:=fun i=>match i with
  | _=>none
theorem rQ (R:Type):pK Tryz.prog (fF R):=by
  intro i b sp h
  unfold fF at h
  split at h
  · cases h

noncomputable def mM (R:Type):Nat→Option (Hint × cp R):=fun i=>match i with
  | _=>none

noncomputable def fG {R:Type} (x1:List Int) (x2:Int) (k0:(List Int)→Option R):Option R :=
  bif (decide ((IntKind.u32.wrap x2)≤(2047:Int)))then (cX (decide ((x1.length+2)*1≤140737488355328)) (k0 ((x1:List Int)++(([(IntKind.u8.wrap ((BitVec.ofInt IntKind.u8.bits 192 ||| BitVec.ofInt IntKind.u8.bits (IntKind.u8.wrap (Int.fdiv x2 (2 ^ (min 6 IntKind.i32.bits))))).toNat:Int)),(IntKind.u8.wrap ((BitVec.ofInt IntKind.u8.bits 128 ||| BitVec.ofInt IntKind.u8.bits (IntKind.u8.wrap ((BitVec.ofInt IntKind.u8.bits (IntKind.u8.wrap x2) &&& BitVec.ofInt IntKind.u8.bits 63).toNat:Int))).toNat:Int))]:List Int):List Int))))else (let j6:=fun (z3:Bool)=>bif z3 then (cX (decide ((x1.length+3)*1≤140737488355328)) (k0 ((x1:List Int)++(([(IntKind.u8.wrap ((BitVec.ofInt IntKind.u8.bits 224 ||| BitVec.ofInt IntKind.u8.bits (IntKind.u8.wrap (Int.fdiv x2 (2 ^ (min 12 IntKind.i32.bits))))).toNat:Int)),(IntKind.u8.wrap ((BitVec.ofInt IntKind.u8.bits 128 ||| BitVec.ofInt IntKind.u8.bits (IntKind.u8.wrap ((BitVec.ofInt IntKind.u8.bits (IntKind.u8.wrap (Int.fdiv x2 (2 ^ (min 6 IntKind.i32.bits)))) &&& BitVec.ofInt IntKind.u8.bits 63).toNat:Int))).toNat:Int)),(IntKind.u8.wrap ((BitVec.ofInt IntKind.u8.bits 128 ||| BitVec.ofInt IntKind.u8.bits (IntKind.u8.wrap ((BitVec.ofInt IntKind.u8.bits (IntKind.u8.wrap x2) &&& BitVec.ofInt IntKind.u8.bits 63).toNat:Int))).toNat:Int))]:List Int):List Int))))else (let j5:=fun (z4:Bool)=>bif z4 then (cX (decide ((x1.length+4)*1≤140737488355328)) (k0 ((x1:List Int)++(([(IntKind.u8.wrap ((BitVec.ofInt IntKind.u8.bits 240 ||| BitVec.ofInt IntKind.u8.bits (IntKind.u8.wrap (Int.fdiv x2 (2 ^ (min 18 IntKind.i32.bits))))).toNat:Int)),(IntKind.u8.wrap ((BitVec.ofInt IntKind.u8.bits 128 ||| BitVec.ofInt IntKind.u8.bits (IntKind.u8.wrap ((BitVec.ofInt IntKind.u8.bits (IntKind.u8.wrap (Int.fdiv x2 (2 ^ (min 12 IntKind.i32.bits)))) &&& BitVec.ofInt IntKind.u8.bits 63).toNat:Int))).toNat:Int)),(IntKind.u8.wrap ((BitVec.ofInt IntKind.u8.bits 128 ||| BitVec.ofInt IntKind.u8.bits (IntKind.u8.wrap ((BitVec.ofInt IntKind.u8.bits (IntKind.u8.wrap (Int.fdiv x2 (2 ^ (min 6 IntKind.i32.bits)))) &&& BitVec.ofInt IntKind.u8.bits 63).toNat:Int))).toNat:Int)),(IntKind.u8.wrap ((BitVec.ofInt IntKind.u8.bits 128 ||| BitVec.ofInt IntKind.u8.bits (IntKind.u8.wrap ((BitVec.ofInt IntKind.u8.bits (IntKind.u8.wrap x2) &&& BitVec.ofInt IntKind.u8.bits 63).toNat:Int))).toNat:Int))]:List Int):List Int))))else (cX (decide ((x1.length+3)*1≤140737488355328)) (k0 ((x1:List Int)++(([239,191,189]:List Int):List Int)))); bif (decide ((IntKind.u32.wrap x2)>(65535:Int)))then (j5 (decide ((IntKind.u32.wrap x2)≤(1114111:Int))))else (j5 false)); bif (decide ((IntKind.u32.wrap x2)<(55296:Int)))then (j6 (decide ((IntKind.u32.wrap x2)<(55296:Int))))else (bif (decide ((57343:Int)<(IntKind.u32.wrap x2)))then (j6 (decide ((IntKind.u32.wrap x2)≤(65535:Int))))else (j6 false)))
noncomputable def bw {R:Type}:ei R:=fun x1 x2 k0=>fG x1 x2 k0
theorem so {R:Type} (x1:List Int) (x2:Int) (k:V→az→Option R):iE tt (fF R) (mM R) true Tryz.f113 (aL Tryz.f113) [.sl (.int .u8) x1 (.own 0), .int .i32 x2] [.tok] k =
    fG x1 x2 (fun q0=>k (.sl (.int .u8) q0 (.own 1)) [.dead, .tok]):=by kernel_rfl
theorem qE (R:Type):∀a∈aQ (aL Tryz.f113),cO tt (fF R) (mM R) 1 a:=by
  refine bF 0 (by kernel_rfl) fun i hi => ?_
  omega
theorem rh (R:Type) (other:ay.Spec R) (ho:ay.Spec.Ok Tryz.prog 113 other):ay.Spec.Ok Tryz.prog 113 (aA fC fE (mf bw) other) :=
  bu ho (bj TT mixed (rQ R) (keep:=true) rfl rfl rfl rfl 1 (qE R)) fun (x:bP.av fC) (y:aI.av fE) k=>so x.1 x.2.1 k

/-! ### unicode/utf8.AppendRune -/
abbrev fU (R:Type):Type:=(List Int)→Int→((List Int)→Option R)→Option R
abbrev iV:List bP := [.leaf (.Nd (.int .u8) 0), .leaf (.int .i32)]
abbrev iW:List aI := [.tok]
noncomputable def pB {R:Type} (fn:fU R):bP.av iV→aI.av iW→(V→az→Option R)→Option R:=fun x y k=>fn x.1 x.2.1 (fun q0=>k (.sl (.int .u8) q0 (.own 1)) [.dead, .tok])
noncomputable def iX (R:Type) (bw:ei R):Env R:=fun i=>match i with
  | 113=>some (false,(aA fC fE (mf bw) bg))
  | _=>none
theorem wR (R:Type):pK Tryz.prog (iX R bw):=by
  intro i b sp h
  unfold iX at h
  split at h
  · cases h; exact ⟨(rh R _ (aO _)),fun _ h=>nomatch h⟩
  · cases h

noncomputable def qa (R:Type):Nat→Option (Hint × cp R):=fun i=>match i with
  | _=>none

noncomputable def iY {R:Type} (bw:ei R) (x1:List Int) (x2:Int) (k0:(List Int)→Option R):Option R :=
  bif (decide ((IntKind.u32.wrap x2)≤(127:Int)))then (cX (decide ((x1.length+1)*1≤140737488355328)) (k0 ((x1:List Int)++(([(IntKind.u8.wrap x2)]:List Int):List Int))))else (bw x1 x2 (fun y3=>k0 y3))
noncomputable def bN {R:Type}:fU R:=fun x1 x2 k0=>iY bw x1 x2 k0
theorem xD {R:Type} (bw:ei R) (x1:List Int) (x2:Int) (k:V→az→Option R):iE tt (iX R bw) (qa R) true Tryz.f74 (aL Tryz.f74) [.sl (.int .u8) x1 (.own 0), .int .i32 x2] [.tok] k =
    iY bw x1 x2 (fun q0=>k (.sl (.int .u8) q0 (.own 1)) [.dead, .tok]):=by kernel_rfl
theorem vu (R:Type):∀a∈aQ (aL Tryz.f74),cO tt (iX R bw) (qa R) 1 a:=by
  refine bF 0 (by kernel_rfl) fun i hi => ?_
  omega
theorem wj (R:Type) (other:ay.Spec R) (ho:ay.Spec.Ok Tryz.prog 74 other):ay.Spec.Ok Tryz.prog 74 (aA iV iW (pB bN) other) :=
  bu ho (bj TT mixed (wR R) (keep:=true) rfl rfl rfl rfl 1 (vu R)) fun (x:bP.av iV) (y:aI.av iW) k=>xD bw x.1 x.2.1 k

/-! ### (*strings.Builder).WriteRune -/
abbrev bK (R:Type):Type:=Int→(List Int)→(Int→(List Int)→Option R)→Option R
abbrev fH:List bP := [.leaf (.ptr 0 0), .leaf (.int .i32)]
abbrev fI:List aI := [.kI (.Nd (.int .u8) 1), .tok]
noncomputable def kU {R:Type} (fn:bK R):bP.av fH→aI.av fI→(V→az→Option R)→Option R:=fun x y k=>fn x.2.1 y.1 (fun q0 q1=>k (.tuple [.int .i64 q0, .cR]) [.kI (.sl (.int .u8) q1 (.own 2)), .dead, .tok])
noncomputable def hJ (R:Type) (bN:fU R):Env R:=fun i=>match i with
  | 73=>some (false,(J7 R))
  | 74=>some (false,(aA iV iW (pB bN) bg))
  | _=>none
theorem vv (R:Type):pK Tryz.prog (hJ R bN):=by
  intro i b sp h
  unfold hJ at h
  split at h
  · cases h; exact ⟨(Mf),fun _ h=>nomatch h⟩
  · cases h; exact ⟨(wj R _ (aO _)),fun _ h=>nomatch h⟩
  · cases h

noncomputable def oS (R:Type):Nat→Option (Hint × cp R):=fun i=>match i with
  | _=>none

noncomputable def hM {R:Type} (bN:fU R) (x1:Int) (x2:List Int) (k0:Int→(List Int)→Option R):Option R :=
  bN x2 x1 (fun y3=>k0 (IntKind.i64.wrap ((y3.length:Int) - (x2.length:Int))) y3)
noncomputable def ai {R:Type}:bK R:=fun x1 x2 k0=>hM bN x1 x2 k0
theorem wk {R:Type} (bN:fU R) (x1:Int) (x2:List Int) (k:V→az→Option R):iE tt (hJ R bN) (oS R) false Tryz.f53 (aL Tryz.f53) [.ptr 0 0, .int .i32 x1] [.kI (.sl (.int .u8) x2 (.own 1)), .tok] k =
    hM bN x1 x2 (fun q0 q1=>k (.tuple [.int .i64 q0, .cR]) [.kI (.sl (.int .u8) q1 (.own 2)), .dead, .tok]):=by kernel_rfl
theorem tY (R:Type):∀a∈aQ (aL Tryz.f53),cO tt (hJ R bN) (oS R) 2 a:=by
  refine bF 0 (by kernel_rfl) fun i hi => ?_
  omega
theorem nL (R:Type) (other:ay.Spec R) (ho:ay.Spec.Ok Tryz.prog 53 other):ay.Spec.Ok Tryz.prog 53 (aA fH fI (kU ai) other) :=
  bu ho (bj TT mixed (vv R) (keep:=false) rfl rfl rfl rfl 2 (tY R)) fun (x:bP.av fH) (y:aI.av fI) k=>wk bN x.2.1 y.1 k

/-! ### humpyard/quote.Quote -/
abbrev iI (R:Type):Type:=aj→(aj→Bool→Option R)→Option R
abbrev rM:List bP := [.leaf (.str)]
abbrev rN:List aI := []
noncomputable def wS {R:Type} (fn:iI R):bP.av rM→aI.av rN→(V→az→Option R)→Option R:=fun x y k=>fn x.1 (fun q0 q1=>k (.tuple [.str q0, .bool q1]) [])
abbrev l9 (R:Type):Type:=Nat→(List Int)→aj→Nat→((List Int)→Option R)→Option R
noncomputable def pg (R:Type) (br:fy R) (ah:bB R) (ad:aW R) (dO:n8 R) (af:bb R) (ai:bK R):Env R:=fun i=>match i with
  | 49=>some (true,(aA rK rL (wN br) bg))
  | 50=>some (false,(aA eD eE (gP ad) (aA eB eC (gO ah) bg)))
  | 51=>some (true,(aA yR yS (Fi dO) bg))
  | 52=>some (false,(aA dw dx (fa af) bg))
  | 53=>some (false,(aA fH fI (kU ai) bg))
  | 39=>some (false,(DP R))
  | _=>none
theorem Kx (R:Type):pK Tryz.prog (pg R br ah ad dO af ai):=by
  intro i b sp h
  unfold pg at h
  split at h
  · cases h; exact ⟨(yk R _ (aO _)),fun h=>nomatch h⟩
  · cases h; exact ⟨(jO R _ (jN R _ (aO _))),fun _ h=>nomatch h⟩
  · cases h; exact ⟨(Jz R _ (aO _)),fun h=>nomatch h⟩
  · cases h; exact ⟨(fR R _ (aO _)),fun _ h=>nomatch h⟩
  · cases h; exact ⟨(nL R _ (aO _)),fun _ h=>nomatch h⟩
  · cases h; exact ⟨(K2),fun _ _=>FT⟩
  · cases h

noncomputable def lb {R:Type} (ad:aW R) (dO:n8 R) (af:bb R) (ai:bK R) (fT:(List Int)→aj→Nat→Option R) (x4:List Int) (x5:aj) (x6:Nat) (e0:(List Int)→Option R):Option R :=
  bif decide (x6<x5.length)then (dO ((mF x5 x6).1:Int) (fun y7=>bif (y7 != 0)then (ad 92 x4 (fun y8=>ad y7 y8 (fun y9=>fT y9 x5 (x6+(mF x5 x6).2))))else (bif (decide (((mF x5 x6).1:Int)<(32:Int)))then (af ([92,117,48,48]:aj) x4 (fun yf wc=>cX (decide ((0:Int)≤(Int.fdiv ((mF x5 x6).1:Int) (2 ^ (min 4 IntKind.i32.bits))))&&decide ((Int.fdiv ((mF x5 x6).1:Int) (2 ^ (min 4 IntKind.i32.bits)))<(16:Int))) (ad ((([48,49,50,51,52,53,54,55,56,57,97,98,99,100,101,102]:aj).getD ((Int.fdiv ((mF x5 x6).1:Int) (2 ^ (min 4 IntKind.i32.bits))).toNat) 0).toNat:Int) wc (fun zO=>cX (decide ((0:Int)≤(IntKind.i32.wrap ((BitVec.ofInt IntKind.i32.bits ((mF x5 x6).1:Int) &&& BitVec.ofInt IntKind.i32.bits 15).toNat:Int)))&&decide ((IntKind.i32.wrap ((BitVec.ofInt IntKind.i32.bits ((mF x5 x6).1:Int) &&& BitVec.ofInt IntKind.i32.bits 15).toNat:Int))<(16:Int))) (ad ((([48,49,50,51,52,53,54,55,56,57,97,98,99,100,101,102]:aj).getD ((IntKind.i32.wrap ((BitVec.ofInt IntKind.i32.bits ((mF x5 x6).1:Int) &&& BitVec.ofInt IntKind.i32.bits 15).toNat:Int)).toNat) 0).toNat:Int) zO (fun Ek=>fT Ek x5 (x6+(mF x5 x6).2)))))))else (ai ((mF x5 x6).1:Int) x4 (fun Da F7=>fT F7 x5 (x6+(mF x5 x6).2))))))else (e0 x4)
noncomputable def cg {R:Type}:l9 R
  | 0,_,_,_,_=>none
  | n+1,l0,l7,nj,e0=>lb ad dO af ai (fun l0 l7 nj=>cg n l0 l7 nj e0) l0 l7 nj e0
noncomputable def r6:Hint := { live := [4,13],own := [],rows := [],cells := [],drop := [],out := [2,3,4] }
abbrev jE:Type:=(List Int) × aj × Nat
noncomputable def pQ:jE→St:=fun d=>⟨[.undef, .undef, .undef, .undef, .ptr 0 0, .undef, .undef, .undef, .undef, .undef, .undef, .undef, .undef, .ptr 1 0, .undef, .undef, .undef, .undef, .undef, .undef, .undef, .undef, .undef, .undef, .undef, .undef, .undef, .undef, .undef, .undef, .undef, .undef, .undef, .undef, .undef, .undef, .undef, .undef, .undef, .undef, .undef], [.kI (.sl (.int .u8) d.1 (.own 2)), .iter d.2.1 d.2.2, .tok]⟩
noncomputable def vw {R:Type} (K:Ex→St→Option R) (q0:List Int):Option R:=K (.exit 0) ⟨[.undef, .undef, .undef, .undef, .ptr 0 0, .undef, .undef, .undef, .undef, .undef, .undef, .undef, .undef, .undef, .undef, .undef, .undef, .undef, .undef, .undef, .undef, .undef, .undef, .undef, .undef, .undef, .undef, .undef, .undef, .undef, .undef, .undef, .undef, .undef, .undef, .undef, .undef, .undef, .undef, .undef, .undef], [.kI (.sl (.int .u8) q0 (.own 1)), .tok]⟩
noncomputable def wT {R:Type} (ad:aW R) (dO:n8 R) (af:bb R) (ai:bK R) (K:Ex→St→Option R) (rc:jE→Option R) (d:jE):Option R:=lb ad dO af ai (fun z0 z1 z2=>rc (z0,z1,z2)) d.1 d.2.1 d.2.2 (vw K)
noncomputable def mX {R:Type} (K:Ex→St→Option R) (n:Nat) (d:jE):Option R:=cg n d.1 d.2.1 d.2.2 (vw K)
abbrev jF:List bP := [.leaf (.undef), .leaf (.undef), .leaf (.undef), .leaf (.undef), .leaf (.ptr 0 0), .leaf (.undef), .leaf (.undef), .leaf (.undef), .leaf (.undef), .leaf (.undef), .leaf (.undef), .leaf (.undef), .leaf (.undef), .leaf (.ptr 1 0), .leaf (.undef), .leaf (.undef), .leaf (.undef), .leaf (.undef), .leaf (.undef), .leaf (.undef), .leaf (.undef), .leaf (.undef), .leaf (.undef), .leaf (.undef), .leaf (.undef), .leaf (.undef), .leaf (.undef), .leaf (.undef), .leaf (.undef), .leaf (.undef), .leaf (.undef), .leaf (.undef), .leaf (.undef), .leaf (.undef), .leaf (.undef), .leaf (.undef), .leaf (.undef), .leaf (.undef), .leaf (.undef), .leaf (.undef), .leaf (.undef)]
abbrev jG:List aI := [.kI (.Nd (.int .u8) 2), .iter, .tok]
noncomputable def wU (x:bP.av jF) (y:aI.av jG):Nat:=(List.length y.1+List.length y.2.1.1+64)
noncomputable def wV (x:bP.av jF) (y:aI.av jG):jE:=(y.1,y.2.1.1,y.2.1.2)
noncomputable def vy {R:Type} (L:l9 R):bP.av jF→aI.av jG→(Ex→St→Option R)→Option R:=fun x y K=>L (wU x y) y.1 y.2.1.1 y.2.1.2 (vw K)
noncomputable def uD (R:Type) (cg:l9 R):Nat→Option (Hint × cp R):=fun i=>match i with
  | 6=>some (r6,(gE jF jG (vy cg) qB))
  | _=>none

theorem Fj {R:Type} (br:fy R) (ah:bB R) (ad:aW R) (dO:n8 R) (af:bb R) (ai:bK R) (cg:l9 R) (K:Ex→St→Option R) (rc:St→Option R) (d:jE):roundOf tt (pg R br ah ad dO af ai) (uD R cg) 0 ((aQ (aL Tryz.f26)).getD 0 .skip) r6 (pQ d) rc K=wT ad dO af ai K (fun d=>rc (pQ d)) d:=by kernel_rfl
theorem DY {R:Type} (K:Ex→St→Option R) (n:Nat) (d:jE):mX K (n+1) d=wT ad dO af ai K (mX K n) d:=by kernel_rfl
theorem DZ {R:Type} (K:Ex→St→Option R) (d:jE):mX K 0 d=none:=by kernel_rfl
theorem Fk (x:bP.av jF) (y:aI.av jG):(⟨bP.cT jF x,aI.cT jG y⟩:St)=pQ (wV x y):=by kernel_rfl
theorem Fl {R:Type} (x:bP.av jF) (y:aI.av jG) (K:Ex→St→Option R):vy (cg) x y K=mX K (wU x y) (wV x y):=by kernel_rfl
theorem He {R:Type} (other:cp R) (ho:pG tt (pg R br ah ad dO af ai) (uD R cg) 0 ((aQ (aL Tryz.f26)).getD 0 .skip) r6 other):pG tt (pg R br ah ad dO af ai) (uD R cg) 0 ((aQ (aL Tryz.f26)).getD 0 .skip) r6 (gE jF jG (vy (cg)) other) :=
  gW (A:=mX) ho (k9 pQ (wT ad dO af ai) (mX) (DZ) (Fj br ah ad dO af ai cg) (DY)) wU wV Fk (Fl)

noncomputable def rO {R:Type} (br:fy R) (ah:bB R) (ad:aW R) (cg:l9 R) (x1:aj) (k0:aj→Bool→Option R):Option R :=
  br x1 (fun y2=>bif (!y2)then (k0 ([]:aj) false)else (ah 34 (fun y3=>cg (List.length y3+List.length x1+64) y3 x1 0 (fun GB=>ad 34 GB (fun Kc=>k0 (sD Kc) true)))))
noncomputable def bS {R:Type}:iI R:=fun x1 k0=>rO br ah ad cg x1 k0
theorem Mt {R:Type} (br:fy R) (ah:bB R) (ad:aW R) (dO:n8 R) (af:bb R) (ai:bK R) (cg:l9 R) (x1:aj) (k:V→az→Option R):iE tt (pg R br ah ad dO af ai) (uD R cg) false Tryz.f26 (aL Tryz.f26) [.str x1] [] k =
    rO br ah ad cg x1 (fun q0 q1=>k (.tuple [.str q0, .bool q1]) []):=by kernel_rfl
theorem Io (R:Type):∀a∈aQ (aL Tryz.f26),cO tt (pg R br ah ad dO af ai) (uD R cg) 0 a:=by
  refine bF 1 (by kernel_rfl) fun i hi => ?_
  match i,hi with
  | 0,_=>exact gb (by kernel_rfl) (He _ jL)
  | n+1,hi=>omega
theorem yl (R:Type) (other:ay.Spec R) (ho:ay.Spec.Ok Tryz.prog 26 other):ay.Spec.Ok Tryz.prog 26 (aA rM rN (wS bS) other) :=
  bu ho (bj TT mixed (Kx R) (keep:=false) rfl rfl rfl rfl 0 (Io R)) fun (x:bP.av rM) (y:aI.av rN) k=>Mt br ah ad dO af ai cg x.1 k

/-! ### humpyard/json.write$1 -/
abbrev kn (R:Type):Type:=aj→((List Int)→Option R)→Option R
abbrev pR:List bP := [.leaf (.str), .leaf (.ptr 0 0)]
abbrev pS:List aI := [.cells [.ptr 1 0], .kI (.cF)]
noncomputable def zo {R:Type} (fn:kn R):bP.av pR→aI.av pS→(V→az→Option R)→Option R:=fun x y k=>fn x.1 (fun q0=>k (.tuple []) [.cells [.ptr 1 0], .kI (.sl (.int .u8) q0 (.own 2)), .tok])
noncomputable def pT (R:Type) (bS:iI R) (ag:bC R):Env R:=fun i=>match i with
  | 26=>some (true,(aA rM rN (wS bS) bg))
  | 52=>some (false,(aA dY dZ (gw ag) bg))
  | _=>none
theorem EA (R:Type):pK Tryz.prog (pT R bS ag):=by
  intro i b sp h
  unfold pT at h
  split at h
  · cases h; exact ⟨(yl R _ (aO _)),fun h=>nomatch h⟩
  · cases h; exact ⟨(iU R _ (aO _)),fun _ h=>nomatch h⟩
  · cases h

noncomputable def Aj (R:Type):Nat→Option (Hint × cp R):=fun i=>match i with
  | _=>none

noncomputable def Ak {R:Type} (bS:iI R) (ag:bC R) (x1:aj) (k0:(List Int)→Option R):Option R :=
  bS x1 (fun y2 y3=>ag y2 (fun y4 y5=>k0 y5))
noncomputable def da {R:Type}:kn R:=fun x1 k0=>Ak bS ag x1 k0
theorem Fo {R:Type} (bS:iI R) (ag:bC R) (x1:aj) (k:V→az→Option R):iE tt (pT R bS ag) (Aj R) false Tryz.f61 (aL Tryz.f61) [.str x1, .ptr 0 0] [.cells [.ptr 1 0], .kI (.cF)] k =
    Ak bS ag x1 (fun q0=>k (.tuple []) [.cells [.ptr 1 0], .kI (.sl (.int .u8) q0 (.own 2)), .tok]):=by kernel_rfl
theorem Db (R:Type):∀a∈aQ (aL Tryz.f61),cO tt (pT R bS ag) (Aj R) 2 a:=by
  refine bF 0 (by kernel_rfl) fun i hi => ?_
  omega
theorem D0 (R:Type) (other:ay.Spec R) (ho:ay.Spec.Ok Tryz.prog 61 other):ay.Spec.Ok Tryz.prog 61 (aA pR pS (zo da) other) :=
  bu ho (bj TT mixed (EA R) (keep:=false) rfl rfl rfl rfl 2 (Db R)) fun (x:bP.av pR) (y:aI.av pS) k=>Fo bS ag x.1 k

/-! ### humpyard/json.write$1 -/
abbrev dA (R:Type):Type:=aj→(List Int)→((List Int)→Option R)→Option R
abbrev nt:List bP := [.leaf (.str), .leaf (.ptr 0 0)]
abbrev nu:List aI := [.cells [.ptr 1 0], .kI (.Nd (.int .u8) 2), .tok]
noncomputable def sK {R:Type} (fn:dA R):bP.av nt→aI.av nu→(V→az→Option R)→Option R:=fun x y k=>fn x.1 y.2.1 (fun q0=>k (.tuple []) [.cells [.ptr 1 0], .kI (.sl (.int .u8) q0 (.own 3)), .dead, .tok])
noncomputable def pU (R:Type) (bS:iI R) (af:bb R):Env R:=fun i=>match i with
  | 26=>some (true,(aA rM rN (wS bS) bg))
  | 52=>some (false,(aA dw dx (fa af) bg))
  | _=>none
theorem EB (R:Type):pK Tryz.prog (pU R bS af):=by
  intro i b sp h
  unfold pU at h
  split at h
  · cases h; exact ⟨(yl R _ (aO _)),fun h=>nomatch h⟩
  · cases h; exact ⟨(fR R _ (aO _)),fun _ h=>nomatch h⟩
  · cases h

noncomputable def Al (R:Type):Nat→Option (Hint × cp R):=fun i=>match i with
  | _=>none

noncomputable def Am {R:Type} (bS:iI R) (af:bb R) (x1:aj) (x2:List Int) (k0:(List Int)→Option R):Option R :=
  bS x1 (fun y3 y4=>af y3 x2 (fun y5 y6=>k0 y6))
noncomputable def aG {R:Type}:dA R:=fun x1 x2 k0=>Am bS af x1 x2 k0
theorem Fp {R:Type} (bS:iI R) (af:bb R) (x1:aj) (x2:List Int) (k:V→az→Option R):iE tt (pU R bS af) (Al R) false Tryz.f61 (aL Tryz.f61) [.str x1, .ptr 0 0] [.cells [.ptr 1 0], .kI (.sl (.int .u8) x2 (.own 2)), .tok] k =
    Am bS af x1 x2 (fun q0=>k (.tuple []) [.cells [.ptr 1 0], .kI (.sl (.int .u8) q0 (.own 3)), .dead, .tok]):=by kernel_rfl
theorem Dc (R:Type):∀a∈aQ (aL Tryz.f61),cO tt (pU R bS af) (Al R) 3 a:=by
  refine bF 0 (by kernel_rfl) fun i hi => ?_
  omega
theorem wW (R:Type) (other:ay.Spec R) (ho:ay.Spec.Ok Tryz.prog 61 other):ay.Spec.Ok Tryz.prog 61 (aA nt nu (sK aG) other) :=
  bu ho (bj TT mixed (EB R) (keep:=false) rfl rfl rfl rfl 3 (Dc R)) fun (x:bP.av nt) (y:aI.av nu) k=>Fp bS af x.1 y.2.1 k

end Go.Proofs.YtmlkkgfenfdndaaGreatDoor

/-
  Functions of the program as pure Lean functions, and the ties; printed by wip/tools/emit.py.
-/
set_option maxRecDepth 100000
namespace Go.Proofs.YtmlkkgfenfdndaaGreatDoor
open Go Go.ay

/-! ### humpyard/json.write -/
abbrev bI (R:Type):Type:=Json→(List Int)→((List Int)→Option R)→Option R
abbrev hP:List bP := [.leaf (.ptr 0 0), .agg [.int .i64, .int .i64, .int .i64, .str, .sl .str, .sl .json]]
abbrev hQ:List aI := [.kI (.Nd (.int .u8) 1), .tok]
noncomputable def ff {R:Type} (fn:bI R):bP.av hP→aI.av hQ→(V→az→Option R)→Option R:=fun x y k=>fn (⟨x.2.1.1,⟨x.2.1.2.1,x.2.1.2.2.1⟩,x.2.1.2.2.2.1,x.2.1.2.2.2.2.1,x.2.1.2.2.2.2.2.1⟩:Json) y.1 (fun q0=>k (.tuple []) [.kI (.sl (.int .u8) q0 (.own 2)), .dead, .tok])
abbrev ir (R:Type):Type:=Nat→aj→(List Json)→Int→Int→(List Int)→Json→(aj→(List Int)→Option R)→Option R
noncomputable def lg (R:Type) (bc:fb R) (ad:aW R) (af:bb R) (au:bI R) (aG:dA R):Env R:=fun i=>match i with
  | 46=>some (true,(aA oF oG (tq bc) bg))
  | 50=>some (false,(aA eD eE (gP ad) bg))
  | 52=>some (false,(aA dw dx (fa af) bg))
  | 38=>some (false,(aA hP hQ (ff au) bg))
  | 61=>some (false,(aA nt nu (sK aG) bg))
  | _=>none
theorem F8 (R:Type) (au:bI R) (tZ:ay.Spec.Ok Tryz.prog 38 (aA hP hQ (ff au) bg)):pK Tryz.prog (lg R bc ad af au aG):=by
  intro i b sp h
  unfold lg at h
  split at h
  · cases h; exact ⟨(vp R _ (aO _)),fun h=>nomatch h⟩
  · cases h; exact ⟨(jO R _ (aO _)),fun _ h=>nomatch h⟩
  · cases h; exact ⟨(fR R _ (aO _)),fun _ h=>nomatch h⟩
  · cases h; exact ⟨tZ,fun _ h=>nomatch h⟩
  · cases h; exact ⟨(wW R _ (aO _)),fun _ h=>nomatch h⟩
  · cases h

noncomputable def iZ {R:Type} (ad:aW R) (au:bI R) (aG:dA R) (fT:aj→(List Json)→Int→Int→(List Int)→Json→Option R) (pH:aj) (s5:List Json) (mQ:Int) (s6:Int) (Cu:List Int) (An:Json) (e0:aj→(List Int)→Option R):Option R :=
  bif (decide (s6<mQ))then (cX (decide ((0:Int)≤s6)&&decide (s6<s5.length)) (bif (decide (s6>(0:Int)))then (ad 44 Cu (fun BW=>bif (An.kind==7)then (cX (decide ((0:Int)≤s6)&&decide (s6<An.names.length)) (aG (An.names.getD s6.toNat (Ty.cn .str)) BW (fun Th=>ad 58 Th (fun Rk=>au (⟨(s5.getD s6.toNat (Ty.cn .json)).kind,⟨(s5.getD s6.toNat (Ty.cn .json)).num.aB,(s5.getD s6.toNat (Ty.cn .json)).num.exp⟩,(s5.getD s6.toNat (Ty.cn .json)).text,(s5.getD s6.toNat (Ty.cn .json)).names,(s5.getD s6.toNat (Ty.cn .json)).items⟩:Json) Rk (fun y24=>fT pH s5 mQ (IntKind.i64.wrap (s6+1)) y24 (⟨An.kind,⟨An.num.aB,An.num.exp⟩,An.text,An.names,An.items⟩:Json))))))else (au (⟨(s5.getD s6.toNat (Ty.cn .json)).kind,⟨(s5.getD s6.toNat (Ty.cn .json)).num.aB,(s5.getD s6.toNat (Ty.cn .json)).num.exp⟩,(s5.getD s6.toNat (Ty.cn .json)).text,(s5.getD s6.toNat (Ty.cn .json)).names,(s5.getD s6.toNat (Ty.cn .json)).items⟩:Json) BW (fun IX=>fT pH s5 mQ (IntKind.i64.wrap (s6+1)) IX (⟨An.kind,⟨An.num.aB,An.num.exp⟩,An.text,An.names,An.items⟩:Json)))))else (bif (An.kind==7)then (cX (decide ((0:Int)≤s6)&&decide (s6<An.names.length)) (aG (An.names.getD s6.toNat (Ty.cn .str)) Cu (fun JA=>ad 58 JA (fun IY=>au (⟨(s5.getD s6.toNat (Ty.cn .json)).kind,⟨(s5.getD s6.toNat (Ty.cn .json)).num.aB,(s5.getD s6.toNat (Ty.cn .json)).num.exp⟩,(s5.getD s6.toNat (Ty.cn .json)).text,(s5.getD s6.toNat (Ty.cn .json)).names,(s5.getD s6.toNat (Ty.cn .json)).items⟩:Json) IY (fun IZ=>fT pH s5 mQ (IntKind.i64.wrap (s6+1)) IZ (⟨An.kind,⟨An.num.aB,An.num.exp⟩,An.text,An.names,An.items⟩:Json))))))else (au (⟨(s5.getD s6.toNat (Ty.cn .json)).kind,⟨(s5.getD s6.toNat (Ty.cn .json)).num.aB,(s5.getD s6.toNat (Ty.cn .json)).num.exp⟩,(s5.getD s6.toNat (Ty.cn .json)).text,(s5.getD s6.toNat (Ty.cn .json)).names,(s5.getD s6.toNat (Ty.cn .json)).items⟩:Json) Cu (fun NJ=>fT pH s5 mQ (IntKind.i64.wrap (s6+1)) NJ (⟨An.kind,⟨An.num.aB,An.num.exp⟩,An.text,An.names,An.items⟩:Json))))))else (e0 pH Cu)
noncomputable def aU {R:Type} (au:bI R):ir R
  | 0,_,_,_,_,_,_,_=>none
  | n+1,l0,l7,nj,vj,D1,D2,e0=>iZ ad au aG (fun l0 l7 nj vj D1 D2=>aU au n l0 l7 nj vj D1 D2 e0) l0 l7 nj vj D1 D2 e0
noncomputable def nC:Hint := { live := [2,3,4,5,43,44,45],own := [],rows := [],cells := [],drop := [],out := [2,5] }
abbrev fJ:Type:=aj × (List Json) × Int × Int × (List Int) × Json
noncomputable def mj:fJ→St:=fun d=>⟨[.undef, .undef, .ptr 2 0, .ptr 3 0, .func 61 [] [.ptr 2 0], .str d.1, .undef, .undef, .undef, .undef, .undef, .undef, .undef, .undef, .undef, .undef, .undef, .undef, .undef, .undef, .undef, .undef, .undef, .undef, .undef, .undef, .undef, .undef, .undef, .undef, .undef, .undef, .undef, .undef, .undef, .undef, .undef, .undef, .undef, .undef, .undef, .undef, .undef, .sl .json d.2.1 .no, .int .i64 d.2.2.1, .int .i64 d.2.2.2.1, .undef, .undef, .undef, .undef, .undef, .undef, .undef, .undef, .undef, .undef, .undef, .undef, .undef, .undef, .undef, .undef, .undef, .undef, .undef, .undef, .undef, .undef, .undef, .undef, .undef, .undef, .undef, .undef], [.kI (.sl (.int .u8) d.2.2.2.2.1 (.own 4)), .dead, .cells [.ptr 0 0], .cells [.int .i64 d.2.2.2.2.2.kind, .int .i64 d.2.2.2.2.2.num.aB, .int .i64 d.2.2.2.2.2.num.exp, .str d.2.2.2.2.2.text, .sl .str d.2.2.2.2.2.names .no, .sl .json d.2.2.2.2.2.items .no], .tok]⟩
noncomputable def qd {R:Type} (K:Ex→St→Option R) (q0:aj) (q1:List Int):Option R:=K (.exit 1) ⟨[.undef, .undef, .ptr 2 0, .undef, .undef, .str q0, .undef, .undef, .undef, .undef, .undef, .undef, .undef, .undef, .undef, .undef, .undef, .undef, .undef, .undef, .undef, .undef, .undef, .undef, .undef, .undef, .undef, .undef, .undef, .undef, .undef, .undef, .undef, .undef, .undef, .undef, .undef, .undef, .undef, .undef, .undef, .undef, .undef, .undef, .undef, .undef, .undef, .undef, .undef, .undef, .undef, .undef, .undef, .undef, .undef, .undef, .undef, .undef, .undef, .undef, .undef, .undef, .undef, .undef, .undef, .undef, .undef, .undef, .undef, .undef, .undef, .undef, .undef, .undef], [.kI (.sl (.int .u8) q1 (.own 3)), .dead, .cells [.ptr 0 0], .tok]⟩
noncomputable def qF {R:Type} (ad:aW R) (au:bI R) (aG:dA R) (K:Ex→St→Option R) (rc:fJ→Option R) (d:fJ):Option R:=iZ ad au aG (fun z0 z1 z2 z3 z4 z5=>rc (z0,z1,z2,z3,z4,z5)) d.1 d.2.1 d.2.2.1 d.2.2.2.1 d.2.2.2.2.1 d.2.2.2.2.2 (qd K)
noncomputable def ja {R:Type} (au:bI R) (K:Ex→St→Option R) (n:Nat) (d:fJ):Option R:=aU au n d.1 d.2.1 d.2.2.1 d.2.2.2.1 d.2.2.2.2.1 d.2.2.2.2.2 (qd K)
abbrev fK:List bP := [.leaf (.undef), .leaf (.undef), .leaf (.ptr 2 0), .leaf (.ptr 3 0), .func 61 [] [.ptr 2 0], .leaf (.str), .leaf (.undef), .leaf (.undef), .leaf (.undef), .leaf (.undef), .leaf (.undef), .leaf (.undef), .leaf (.undef), .leaf (.undef), .leaf (.undef), .leaf (.undef), .leaf (.undef), .leaf (.undef), .leaf (.undef), .leaf (.undef), .leaf (.undef), .leaf (.undef), .leaf (.undef), .leaf (.undef), .leaf (.undef), .leaf (.undef), .leaf (.undef), .leaf (.undef), .leaf (.undef), .leaf (.undef), .leaf (.undef), .leaf (.undef), .leaf (.undef), .leaf (.undef), .leaf (.undef), .leaf (.undef), .leaf (.undef), .leaf (.undef), .leaf (.undef), .leaf (.undef), .leaf (.undef), .leaf (.undef), .leaf (.undef), .leaf (.sl .json), .leaf (.int .i64), .leaf (.int .i64), .leaf (.undef), .leaf (.undef), .leaf (.undef), .leaf (.undef), .leaf (.undef), .leaf (.undef), .leaf (.undef), .leaf (.undef), .leaf (.undef), .leaf (.undef), .leaf (.undef), .leaf (.undef), .leaf (.undef), .leaf (.undef), .leaf (.undef), .leaf (.undef), .leaf (.undef), .leaf (.undef), .leaf (.undef), .leaf (.undef), .leaf (.undef), .leaf (.undef), .leaf (.undef), .leaf (.undef), .leaf (.undef), .leaf (.undef), .leaf (.undef), .leaf (.undef)]
abbrev fL:List aI := [.kI (.Nd (.int .u8) 4), .dead, .cells [.ptr 0 0], .cells [.int .i64, .int .i64, .int .i64, .str, .sl .str, .sl .json], .tok]
noncomputable def qG (x:bP.av fK) (y:aI.av fL):Nat:=(List.length x.2.2.2.2.2.1+List.length x.2.2.2.2.2.2.2.2.2.2.2.2.2.2.2.2.2.2.2.2.2.2.2.2.2.2.2.2.2.2.2.2.2.2.2.2.2.2.2.2.2.2.2.1+Int.natAbs x.2.2.2.2.2.2.2.2.2.2.2.2.2.2.2.2.2.2.2.2.2.2.2.2.2.2.2.2.2.2.2.2.2.2.2.2.2.2.2.2.2.2.2.2.1+Int.natAbs x.2.2.2.2.2.2.2.2.2.2.2.2.2.2.2.2.2.2.2.2.2.2.2.2.2.2.2.2.2.2.2.2.2.2.2.2.2.2.2.2.2.2.2.2.2.1+List.length y.1+Json.fu (⟨y.2.2.2.1.1,⟨y.2.2.2.1.2.1,y.2.2.2.1.2.2.1⟩,y.2.2.2.1.2.2.2.1,y.2.2.2.1.2.2.2.2.1,y.2.2.2.1.2.2.2.2.2.1⟩:Json)+64)
noncomputable def qH (x:bP.av fK) (y:aI.av fL):fJ:=(x.2.2.2.2.2.1,x.2.2.2.2.2.2.2.2.2.2.2.2.2.2.2.2.2.2.2.2.2.2.2.2.2.2.2.2.2.2.2.2.2.2.2.2.2.2.2.2.2.2.2.1,x.2.2.2.2.2.2.2.2.2.2.2.2.2.2.2.2.2.2.2.2.2.2.2.2.2.2.2.2.2.2.2.2.2.2.2.2.2.2.2.2.2.2.2.2.1,x.2.2.2.2.2.2.2.2.2.2.2.2.2.2.2.2.2.2.2.2.2.2.2.2.2.2.2.2.2.2.2.2.2.2.2.2.2.2.2.2.2.2.2.2.2.1,y.1,(⟨y.2.2.2.1.1,⟨y.2.2.2.1.2.1,y.2.2.2.1.2.2.1⟩,y.2.2.2.1.2.2.2.1,y.2.2.2.1.2.2.2.2.1,y.2.2.2.1.2.2.2.2.2.1⟩:Json))
noncomputable def qe {R:Type} (L:ir R):bP.av fK→aI.av fL→(Ex→St→Option R)→Option R:=fun x y K=>L (qG x y) x.2.2.2.2.2.1 x.2.2.2.2.2.2.2.2.2.2.2.2.2.2.2.2.2.2.2.2.2.2.2.2.2.2.2.2.2.2.2.2.2.2.2.2.2.2.2.2.2.2.2.1 x.2.2.2.2.2.2.2.2.2.2.2.2.2.2.2.2.2.2.2.2.2.2.2.2.2.2.2.2.2.2.2.2.2.2.2.2.2.2.2.2.2.2.2.2.1 x.2.2.2.2.2.2.2.2.2.2.2.2.2.2.2.2.2.2.2.2.2.2.2.2.2.2.2.2.2.2.2.2.2.2.2.2.2.2.2.2.2.2.2.2.2.1 y.1 (⟨y.2.2.2.1.1,⟨y.2.2.2.1.2.1,y.2.2.2.1.2.2.1⟩,y.2.2.2.1.2.2.2.1,y.2.2.2.1.2.2.2.2.1,y.2.2.2.1.2.2.2.2.2.1⟩:Json) (qd K)
noncomputable def oT (R:Type) (aU:ir R):Nat→Option (Hint × cp R):=fun i=>match i with
  | 18=>some (nC,(gE fK fL (qe aU) qB))
  | _=>none

theorem BX {R:Type} (bc:fb R) (ad:aW R) (af:bb R) (au:bI R) (aG:dA R) (aU:ir R) (K:Ex→St→Option R) (rc:St→Option R) (d:fJ):roundOf tt (lg R bc ad af au aG) (oT R aU) 2 ((aQ (aL Tryz.f38)).getD 0 .skip) nC (mj d) rc K=qF ad au aG K (fun d=>rc (mj d)) d:=by kernel_rfl
theorem AN {R:Type} (au:bI R) (K:Ex→St→Option R) (n:Nat) (d:fJ):ja au K (n+1) d=qF ad au aG K (ja au K n) d:=by kernel_rfl
theorem AO {R:Type} (au:bI R) (K:Ex→St→Option R) (d:fJ):ja au K 0 d=none:=by kernel_rfl
theorem BY (x:bP.av fK) (y:aI.av fL):(⟨bP.cT fK x,aI.cT fL y⟩:St)=mj (qH x y):=by kernel_rfl
theorem BZ {R:Type} (au:bI R) (x:bP.av fK) (y:aI.av fL) (K:Ex→St→Option R):qe (aU au) x y K=ja au K (qG x y) (qH x y):=by kernel_rfl
theorem Dd {R:Type} (au:bI R) (other:cp R) (ho:pG tt (lg R bc ad af au aG) (oT R (aU au)) 2 ((aQ (aL Tryz.f38)).getD 0 .skip) nC other):pG tt (lg R bc ad af au aG) (oT R (aU au)) 2 ((aQ (aL Tryz.f38)).getD 0 .skip) nC (gE fK fL (qe (aU au)) other) :=
  gW (A:=ja au) ho (k9 mj (qF ad au aG) (ja au) (AO au) (BX bc ad af au aG (aU au)) (AN au)) qG qH BY (BZ au)

noncomputable def wX {R:Type} (bc:fb R) (ad:aW R) (af:bb R) (aG:dA R) (aU:ir R) (x1:Json) (x2:List Int) (k0:(List Int)→Option R):Option R :=
  let j33:=fun (Ri:aj)=>cX (decide ((0:Int)<Ri.length)) (ad ((Ri.getD 0 0).toNat:Int) x2 (fun Da=>aU (List.length Ri+List.length x1.items+Int.natAbs (x1.items.length:Int)+Int.natAbs 0+List.length Da+Json.fu (⟨x1.kind,⟨x1.num.aB,x1.num.exp⟩,x1.text,x1.names,x1.items⟩:Json)+64) Ri x1.items (x1.items.length:Int) 0 Da (⟨x1.kind,⟨x1.num.aB,x1.num.exp⟩,x1.text,x1.names,x1.items⟩:Json) (fun Nf PN=>cX (decide ((1:Int)<Nf.length)) (ad ((Nf.getD 1 0).toNat:Int) PN (fun Ng=>k0 Ng))))); bif (x1.kind==1)then (af ([110,117,108,108]:aj) x2 (fun y3 y4=>k0 y4))else (bif (x1.kind==2)then (af ([102,97,108,115,101]:aj) x2 (fun y5 y6=>k0 y6))else (bif (x1.kind==3)then (af ([116,114,117,101]:aj) x2 (fun y7 y8=>k0 y8))else (bif (x1.kind==4)then (bc x1.num (fun y9=>af y9 x2 (fun yf wc=>k0 wc)))else (bif (x1.kind==5)then (aG x1.text x2 (fun zO=>k0 zO))else (bif (x1.kind==7)then (j33 ([123,125]:aj))else (j33 ([91,93]:aj)))))))
noncomputable def wY {R:Type} (au:bI R):bI R:=fun x1 x2 k0=>wX bc ad af aG (aU au) x1 x2 k0
theorem Hf {R:Type} (bc:fb R) (ad:aW R) (af:bb R) (au:bI R) (aG:dA R) (aU:ir R) (x1:Json) (x2:List Int) (k:V→az→Option R):iE tt (lg R bc ad af au aG) (oT R aU) false Tryz.f38 (aL Tryz.f38) [.ptr 0 0, .agg [.int .i64 x1.kind, .int .i64 x1.num.aB, .int .i64 x1.num.exp, .str x1.text, .sl .str x1.names .no, .sl .json x1.items .no]] [.kI (.sl (.int .u8) x2 (.own 1)), .tok] k =
    wX bc ad af aG aU x1 x2 (fun q0=>k (.tuple []) [.kI (.sl (.int .u8) q0 (.own 2)), .dead, .tok]):=by kernel_rfl
theorem EC (R:Type) (au:bI R):∀a∈aQ (aL Tryz.f38),cO tt (lg R bc ad af au aG) (oT R (aU au)) 2 a:=by
  refine bF 1 (by kernel_rfl) fun i hi => ?_
  match i,hi with
  | 0,_=>exact gb (by kernel_rfl) (Dd au _ jL)
  | n+1,hi=>omega
theorem ED (R:Type) (au:bI R) (tZ:ay.Spec.Ok Tryz.prog 38 (aA hP hQ (ff au) bg)) (other:ay.Spec R) (ho:ay.Spec.Ok Tryz.prog 38 other):ay.Spec.Ok Tryz.prog 38 (aA hP hQ (ff (wY au)) other) :=
  bu ho (bj TT mixed (F8 R au tZ) (keep:=false) rfl rfl rfl rfl 2 (EC R au)) fun (x:bP.av hP) (y:aI.av hQ) k=>Hf bc ad af au aG (aU au) (⟨x.2.1.1,⟨x.2.1.2.1,x.2.1.2.2.1⟩,x.2.1.2.2.2.1,x.2.1.2.2.2.2.1,x.2.1.2.2.2.2.2.1⟩:Json) y.1 k
noncomputable def dy {R:Type}:Nat→bI R
  | 0,_,_,_=>none
  | n+1,l0,l7,k0'=>wY (dy n) l0 l7 k0'
theorem PO {R:Type} (n:Nat):dy (R:=R) (n+1)=wY (dy n):=by kernel_rfl
theorem Fq (R:Type):∀n,ay.Spec.Ok Tryz.prog 38 (aA hP hQ (ff (dy (R:=R) n)) bg) :=
  vR (run:=fun n=>ff (dy (R:=R) n)) (fun x y k=>by kernel_rfl) fun n hyp=>ED R (dy n) hyp bg (aO _)
noncomputable def bD {R:Type}:bI R:=fun x1 x2 k0=>dy (Json.depth x1+2) x1 x2 k0
theorem Fs (R:Type):ff (R:=R) bD=fun x y k=>ff (dy (Json.depth (⟨x.2.1.1,⟨x.2.1.2.1,x.2.1.2.2.1⟩,x.2.1.2.2.2.1,x.2.1.2.2.2.2.1,x.2.1.2.2.2.2.2.1⟩:Json)+2)) x y k:=by kernel_rfl
theorem Ft (R:Type) (other:ay.Spec R) (ho:ay.Spec.Ok Tryz.prog 38 other):ay.Spec.Ok Tryz.prog 38 (aA hP hQ (ff bD) other) :=
  Bz (C6 (run:=fun n=>ff (dy (R:=R) n)) (fun x y=>(Json.depth (⟨x.2.1.1,⟨x.2.1.2.1,x.2.1.2.2.1⟩,x.2.1.2.2.2.1,x.2.1.2.2.2.2.1,x.2.1.2.2.2.2.2.1⟩:Json)+2)) ho (Fq R)) (Fs R)

end Go.Proofs.YtmlkkgfenfdndaaGreatDoor

/-
  Functions of the program as pure Lean functions, and the ties; printed by wip/tools/emit.py.
-/
set_option maxRecDepth 100000
namespace Go.Proofs.YtmlkkgfenfdndaaGreatDoor
open Go Go.ay

/-! ### humpyard/json.write -/
abbrev n9 (R:Type):Type:=Json→((List Int)→Option R)→Option R
abbrev r7:List bP := [.leaf (.ptr 0 0), .agg [.int .i64, .int .i64, .int .i64, .str, .sl .str, .sl .json]]
abbrev r8:List aI := [.kI (.cF)]
noncomputable def BB {R:Type} (fn:n9 R):bP.av r7→aI.av r8→(V→az→Option R)→Option R:=fun x y k=>fn (⟨x.2.1.1,⟨x.2.1.2.1,x.2.1.2.2.1⟩,x.2.1.2.2.2.1,x.2.1.2.2.2.2.1,x.2.1.2.2.2.2.2.1⟩:Json) (fun q0=>k (.tuple []) [.kI (.sl (.int .u8) q0 (.own 1)), .tok])
abbrev iu (R:Type):Type:=Nat→aj→(List Json)→Int→Int→(List Int)→Json→(aj→(List Int)→Option R)→Option R
noncomputable def lh (R:Type) (bc:fb R) (ah:bB R) (ad:aW R) (ag:bC R) (bD:bI R) (da:kn R) (aG:dA R):Env R:=fun i=>match i with
  | 46=>some (true,(aA oF oG (tq bc) bg))
  | 50=>some (false,(aA eD eE (gP ad) (aA eB eC (gO ah) bg)))
  | 52=>some (false,(aA dY dZ (gw ag) bg))
  | 38=>some (false,(aA hP hQ (ff bD) bg))
  | 61=>some (false,(aA nt nu (sK aG) (aA pR pS (zo da) bg)))
  | _=>none
theorem F9 (R:Type):pK Tryz.prog (lh R bc ah ad ag bD da aG):=by
  intro i b sp h
  unfold lh at h
  split at h
  · cases h; exact ⟨(vp R _ (aO _)),fun h=>nomatch h⟩
  · cases h; exact ⟨(jO R _ (jN R _ (aO _))),fun _ h=>nomatch h⟩
  · cases h; exact ⟨(iU R _ (aO _)),fun _ h=>nomatch h⟩
  · cases h; exact ⟨(Ft R _ (aO _)),fun _ h=>nomatch h⟩
  · cases h; exact ⟨(wW R _ (D0 R _ (aO _))),fun _ h=>nomatch h⟩
  · cases h

noncomputable def wZ {R:Type} (ad:aW R) (bD:bI R) (aG:dA R) (fT:aj→(List Json)→Int→Int→(List Int)→Json→Option R) (Up:aj) (pH:List Json) (s5:Int) (mQ:Int) (s6:List Int) (Cu:Json) (e0:aj→(List Int)→Option R):Option R :=
  bif (decide (mQ<s5))then (cX (decide ((0:Int)≤mQ)&&decide (mQ<pH.length)) (bif (decide (mQ>(0:Int)))then (ad 44 s6 (fun Nh=>bif (Cu.kind==7)then (cX (decide ((0:Int)≤mQ)&&decide (mQ<Cu.names.length)) (aG (Cu.names.getD mQ.toNat (Ty.cn .str)) Nh (fun BW=>ad 58 BW (fun Th=>bD (⟨(pH.getD mQ.toNat (Ty.cn .json)).kind,⟨(pH.getD mQ.toNat (Ty.cn .json)).num.aB,(pH.getD mQ.toNat (Ty.cn .json)).num.exp⟩,(pH.getD mQ.toNat (Ty.cn .json)).text,(pH.getD mQ.toNat (Ty.cn .json)).names,(pH.getD mQ.toNat (Ty.cn .json)).items⟩:Json) Th (fun Rk=>fT Up pH s5 (IntKind.i64.wrap (mQ+1)) Rk (⟨Cu.kind,⟨Cu.num.aB,Cu.num.exp⟩,Cu.text,Cu.names,Cu.items⟩:Json))))))else (bD (⟨(pH.getD mQ.toNat (Ty.cn .json)).kind,⟨(pH.getD mQ.toNat (Ty.cn .json)).num.aB,(pH.getD mQ.toNat (Ty.cn .json)).num.exp⟩,(pH.getD mQ.toNat (Ty.cn .json)).text,(pH.getD mQ.toNat (Ty.cn .json)).names,(pH.getD mQ.toNat (Ty.cn .json)).items⟩:Json) Nh (fun y24=>fT Up pH s5 (IntKind.i64.wrap (mQ+1)) y24 (⟨Cu.kind,⟨Cu.num.aB,Cu.num.exp⟩,Cu.text,Cu.names,Cu.items⟩:Json)))))else (bif (Cu.kind==7)then (cX (decide ((0:Int)≤mQ)&&decide (mQ<Cu.names.length)) (aG (Cu.names.getD mQ.toNat (Ty.cn .str)) s6 (fun IX=>ad 58 IX (fun JA=>bD (⟨(pH.getD mQ.toNat (Ty.cn .json)).kind,⟨(pH.getD mQ.toNat (Ty.cn .json)).num.aB,(pH.getD mQ.toNat (Ty.cn .json)).num.exp⟩,(pH.getD mQ.toNat (Ty.cn .json)).text,(pH.getD mQ.toNat (Ty.cn .json)).names,(pH.getD mQ.toNat (Ty.cn .json)).items⟩:Json) JA (fun IY=>fT Up pH s5 (IntKind.i64.wrap (mQ+1)) IY (⟨Cu.kind,⟨Cu.num.aB,Cu.num.exp⟩,Cu.text,Cu.names,Cu.items⟩:Json))))))else (bD (⟨(pH.getD mQ.toNat (Ty.cn .json)).kind,⟨(pH.getD mQ.toNat (Ty.cn .json)).num.aB,(pH.getD mQ.toNat (Ty.cn .json)).num.exp⟩,(pH.getD mQ.toNat (Ty.cn .json)).text,(pH.getD mQ.toNat (Ty.cn .json)).names,(pH.getD mQ.toNat (Ty.cn .json)).items⟩:Json) s6 (fun IZ=>fT Up pH s5 (IntKind.i64.wrap (mQ+1)) IZ (⟨Cu.kind,⟨Cu.num.aB,Cu.num.exp⟩,Cu.text,Cu.names,Cu.items⟩:Json))))))else (e0 Up s6)
noncomputable def bl {R:Type}:iu R
  | 0,_,_,_,_,_,_,_=>none
  | n+1,l0,l7,nj,vj,D1,D2,e0=>wZ ad bD aG (fun l0 l7 nj vj D1 D2=>bl n l0 l7 nj vj D1 D2 e0) l0 l7 nj vj D1 D2 e0
noncomputable def nD:Hint := { live := [2,3,4,5,43,44,45],own := [],rows := [],cells := [],drop := [],out := [2,5] }
abbrev fM:Type:=aj × (List Json) × Int × Int × (List Int) × Json
noncomputable def ml:fM→St:=fun d=>⟨[.undef, .undef, .ptr 1 0, .ptr 2 0, .func 61 [] [.ptr 1 0], .str d.1, .undef, .undef, .undef, .undef, .undef, .undef, .undef, .undef, .undef, .undef, .undef, .undef, .undef, .undef, .undef, .undef, .undef, .undef, .undef, .undef, .undef, .undef, .undef, .undef, .undef, .undef, .undef, .undef, .undef, .undef, .undef, .undef, .undef, .undef, .undef, .undef, .undef, .sl .json d.2.1 .no, .int .i64 d.2.2.1, .int .i64 d.2.2.2.1, .undef, .undef, .undef, .undef, .undef, .undef, .undef, .undef, .undef, .undef, .undef, .undef, .undef, .undef, .undef, .undef, .undef, .undef, .undef, .undef, .undef, .undef, .undef, .undef, .undef, .undef, .undef, .undef], [.kI (.sl (.int .u8) d.2.2.2.2.1 (.own 3)), .cells [.ptr 0 0], .cells [.int .i64 d.2.2.2.2.2.kind, .int .i64 d.2.2.2.2.2.num.aB, .int .i64 d.2.2.2.2.2.num.exp, .str d.2.2.2.2.2.text, .sl .str d.2.2.2.2.2.names .no, .sl .json d.2.2.2.2.2.items .no], .tok]⟩
noncomputable def qf {R:Type} (K:Ex→St→Option R) (q0:aj) (q1:List Int):Option R:=K (.exit 1) ⟨[.undef, .undef, .ptr 1 0, .undef, .undef, .str q0, .undef, .undef, .undef, .undef, .undef, .undef, .undef, .undef, .undef, .undef, .undef, .undef, .undef, .undef, .undef, .undef, .undef, .undef, .undef, .undef, .undef, .undef, .undef, .undef, .undef, .undef, .undef, .undef, .undef, .undef, .undef, .undef, .undef, .undef, .undef, .undef, .undef, .undef, .undef, .undef, .undef, .undef, .undef, .undef, .undef, .undef, .undef, .undef, .undef, .undef, .undef, .undef, .undef, .undef, .undef, .undef, .undef, .undef, .undef, .undef, .undef, .undef, .undef, .undef, .undef, .undef, .undef, .undef], [.kI (.sl (.int .u8) q1 (.own 2)), .cells [.ptr 0 0], .tok]⟩
noncomputable def qI {R:Type} (ad:aW R) (bD:bI R) (aG:dA R) (K:Ex→St→Option R) (rc:fM→Option R) (d:fM):Option R:=wZ ad bD aG (fun z0 z1 z2 z3 z4 z5=>rc (z0,z1,z2,z3,z4,z5)) d.1 d.2.1 d.2.2.1 d.2.2.2.1 d.2.2.2.2.1 d.2.2.2.2.2 (qf K)
noncomputable def jb {R:Type} (K:Ex→St→Option R) (n:Nat) (d:fM):Option R:=bl n d.1 d.2.1 d.2.2.1 d.2.2.2.1 d.2.2.2.2.1 d.2.2.2.2.2 (qf K)
abbrev fN:List bP := [.leaf (.undef), .leaf (.undef), .leaf (.ptr 1 0), .leaf (.ptr 2 0), .func 61 [] [.ptr 1 0], .leaf (.str), .leaf (.undef), .leaf (.undef), .leaf (.undef), .leaf (.undef), .leaf (.undef), .leaf (.undef), .leaf (.undef), .leaf (.undef), .leaf (.undef), .leaf (.undef), .leaf (.undef), .leaf (.undef), .leaf (.undef), .leaf (.undef), .leaf (.undef), .leaf (.undef), .leaf (.undef), .leaf (.undef), .leaf (.undef), .leaf (.undef), .leaf (.undef), .leaf (.undef), .leaf (.undef), .leaf (.undef), .leaf (.undef), .leaf (.undef), .leaf (.undef), .leaf (.undef), .leaf (.undef), .leaf (.undef), .leaf (.undef), .leaf (.undef), .leaf (.undef), .leaf (.undef), .leaf (.undef), .leaf (.undef), .leaf (.undef), .leaf (.sl .json), .leaf (.int .i64), .leaf (.int .i64), .leaf (.undef), .leaf (.undef), .leaf (.undef), .leaf (.undef), .leaf (.undef), .leaf (.undef), .leaf (.undef), .leaf (.undef), .leaf (.undef), .leaf (.undef), .leaf (.undef), .leaf (.undef), .leaf (.undef), .leaf (.undef), .leaf (.undef), .leaf (.undef), .leaf (.undef), .leaf (.undef), .leaf (.undef), .leaf (.undef), .leaf (.undef), .leaf (.undef), .leaf (.undef), .leaf (.undef), .leaf (.undef), .leaf (.undef), .leaf (.undef), .leaf (.undef)]
abbrev fO:List aI := [.kI (.Nd (.int .u8) 3), .cells [.ptr 0 0], .cells [.int .i64, .int .i64, .int .i64, .str, .sl .str, .sl .json], .tok]
noncomputable def qJ (x:bP.av fN) (y:aI.av fO):Nat:=(List.length x.2.2.2.2.2.1+List.length x.2.2.2.2.2.2.2.2.2.2.2.2.2.2.2.2.2.2.2.2.2.2.2.2.2.2.2.2.2.2.2.2.2.2.2.2.2.2.2.2.2.2.2.1+Int.natAbs x.2.2.2.2.2.2.2.2.2.2.2.2.2.2.2.2.2.2.2.2.2.2.2.2.2.2.2.2.2.2.2.2.2.2.2.2.2.2.2.2.2.2.2.2.1+Int.natAbs x.2.2.2.2.2.2.2.2.2.2.2.2.2.2.2.2.2.2.2.2.2.2.2.2.2.2.2.2.2.2.2.2.2.2.2.2.2.2.2.2.2.2.2.2.2.1+List.length y.1+Json.fu (⟨y.2.2.1.1,⟨y.2.2.1.2.1,y.2.2.1.2.2.1⟩,y.2.2.1.2.2.2.1,y.2.2.1.2.2.2.2.1,y.2.2.1.2.2.2.2.2.1⟩:Json)+64)
noncomputable def qK (x:bP.av fN) (y:aI.av fO):fM:=(x.2.2.2.2.2.1,x.2.2.2.2.2.2.2.2.2.2.2.2.2.2.2.2.2.2.2.2.2.2.2.2.2.2.2.2.2.2.2.2.2.2.2.2.2.2.2.2.2.2.2.1,x.2.2.2.2.2.2.2.2.2.2.2.2.2.2.2.2.2.2.2.2.2.2.2.2.2.2.2.2.2.2.2.2.2.2.2.2.2.2.2.2.2.2.2.2.1,x.2.2.2.2.2.2.2.2.2.2.2.2.2.2.2.2.2.2.2.2.2.2.2.2.2.2.2.2.2.2.2.2.2.2.2.2.2.2.2.2.2.2.2.2.2.1,y.1,(⟨y.2.2.1.1,⟨y.2.2.1.2.1,y.2.2.1.2.2.1⟩,y.2.2.1.2.2.2.1,y.2.2.1.2.2.2.2.1,y.2.2.1.2.2.2.2.2.1⟩:Json))
noncomputable def qg {R:Type} (L:iu R):bP.av fN→aI.av fO→(Ex→St→Option R)→Option R:=fun x y K=>L (qJ x y) x.2.2.2.2.2.1 x.2.2.2.2.2.2.2.2.2.2.2.2.2.2.2.2.2.2.2.2.2.2.2.2.2.2.2.2.2.2.2.2.2.2.2.2.2.2.2.2.2.2.2.1 x.2.2.2.2.2.2.2.2.2.2.2.2.2.2.2.2.2.2.2.2.2.2.2.2.2.2.2.2.2.2.2.2.2.2.2.2.2.2.2.2.2.2.2.2.1 x.2.2.2.2.2.2.2.2.2.2.2.2.2.2.2.2.2.2.2.2.2.2.2.2.2.2.2.2.2.2.2.2.2.2.2.2.2.2.2.2.2.2.2.2.2.1 y.1 (⟨y.2.2.1.1,⟨y.2.2.1.2.1,y.2.2.1.2.2.1⟩,y.2.2.1.2.2.2.1,y.2.2.1.2.2.2.2.1,y.2.2.1.2.2.2.2.2.1⟩:Json) (qf K)
noncomputable def oU (R:Type) (bl:iu R):Nat→Option (Hint × cp R):=fun i=>match i with
  | 18=>some (nD,(gE fN fO (qg bl) qB))
  | _=>none

theorem B0 {R:Type} (bc:fb R) (ah:bB R) (ad:aW R) (ag:bC R) (bD:bI R) (da:kn R) (aG:dA R) (bl:iu R) (K:Ex→St→Option R) (rc:St→Option R) (d:fM):roundOf tt (lh R bc ah ad ag bD da aG) (oU R bl) 1 ((aQ (aL Tryz.f38)).getD 0 .skip) nD (ml d) rc K=qI ad bD aG K (fun d=>rc (ml d)) d:=by kernel_rfl
theorem AP {R:Type} (K:Ex→St→Option R) (n:Nat) (d:fM):jb K (n+1) d=qI ad bD aG K (jb K n) d:=by kernel_rfl
theorem AQ {R:Type} (K:Ex→St→Option R) (d:fM):jb K 0 d=none:=by kernel_rfl
theorem B1 (x:bP.av fN) (y:aI.av fO):(⟨bP.cT fN x,aI.cT fO y⟩:St)=ml (qK x y):=by kernel_rfl
theorem B2 {R:Type} (x:bP.av fN) (y:aI.av fO) (K:Ex→St→Option R):qg (bl) x y K=jb K (qJ x y) (qK x y):=by kernel_rfl
theorem De {R:Type} (other:cp R) (ho:pG tt (lh R bc ah ad ag bD da aG) (oU R bl) 1 ((aQ (aL Tryz.f38)).getD 0 .skip) nD other):pG tt (lh R bc ah ad ag bD da aG) (oU R bl) 1 ((aQ (aL Tryz.f38)).getD 0 .skip) nD (gE fN fO (qg (bl)) other) :=
  gW (A:=jb) ho (k9 ml (qI ad bD aG) (jb) (AQ) (B0 bc ah ad ag bD da aG bl) (AP)) qJ qK B1 (B2)

noncomputable def w3 {R:Type} (bc:fb R) (ah:bB R) (ad:aW R) (ag:bC R) (da:kn R) (bl:iu R) (x1:Json) (k0:(List Int)→Option R):Option R :=
  let j32:=fun (z12:aj)=>cX (decide ((0:Int)<z12.length)) (ah ((z12.getD 0 0).toNat:Int) (fun Ek=>bl (List.length z12+List.length x1.items+Int.natAbs (x1.items.length:Int)+Int.natAbs 0+List.length Ek+Json.fu (⟨x1.kind,⟨x1.num.aB,x1.num.exp⟩,x1.text,x1.names,x1.items⟩:Json)+64) z12 x1.items (x1.items.length:Int) 0 Ek (⟨x1.kind,⟨x1.num.aB,x1.num.exp⟩,x1.text,x1.names,x1.items⟩:Json) (fun NJ Nf=>cX (decide ((1:Int)<NJ.length)) (ad ((NJ.getD 1 0).toNat:Int) Nf (fun PN=>k0 PN))))); bif (x1.kind==1)then (ag ([110,117,108,108]:aj) (fun y2 y3=>k0 y3))else (bif (x1.kind==2)then (ag ([102,97,108,115,101]:aj) (fun y4 y5=>k0 y5))else (bif (x1.kind==3)then (ag ([116,114,117,101]:aj) (fun y6 y7=>k0 y7))else (bif (x1.kind==4)then (bc x1.num (fun y8=>ag y8 (fun y9 yf=>k0 yf)))else (bif (x1.kind==5)then (da x1.text (fun wc=>k0 wc))else (bif (x1.kind==7)then (j32 ([123,125]:aj))else (j32 ([91,93]:aj)))))))
noncomputable def fc {R:Type}:n9 R:=fun x1 k0=>w3 bc ah ad ag da bl x1 k0
theorem Hg {R:Type} (bc:fb R) (ah:bB R) (ad:aW R) (ag:bC R) (bD:bI R) (da:kn R) (aG:dA R) (bl:iu R) (x1:Json) (k:V→az→Option R):iE tt (lh R bc ah ad ag bD da aG) (oU R bl) false Tryz.f38 (aL Tryz.f38) [.ptr 0 0, .agg [.int .i64 x1.kind, .int .i64 x1.num.aB, .int .i64 x1.num.exp, .str x1.text, .sl .str x1.names .no, .sl .json x1.items .no]] [.kI (.cF)] k =
    w3 bc ah ad ag da bl x1 (fun q0=>k (.tuple []) [.kI (.sl (.int .u8) q0 (.own 1)), .tok]):=by kernel_rfl
theorem EE (R:Type):∀a∈aQ (aL Tryz.f38),cO tt (lh R bc ah ad ag bD da aG) (oU R bl) 1 a:=by
  refine bF 1 (by kernel_rfl) fun i hi => ?_
  match i,hi with
  | 0,_=>exact gb (by kernel_rfl) (De _ jL)
  | n+1,hi=>omega
theorem Fu (R:Type) (other:ay.Spec R) (ho:ay.Spec.Ok Tryz.prog 38 other):ay.Spec.Ok Tryz.prog 38 (aA r7 r8 (BB fc) other) :=
  bu ho (bj TT mixed (F9 R) (keep:=false) rfl rfl rfl rfl 1 (EE R)) fun (x:bP.av r7) (y:aI.av r8) k=>Hg bc ah ad ag bD da aG bl (⟨x.2.1.1,⟨x.2.1.2.1,x.2.1.2.2.1⟩,x.2.1.2.2.2.1,x.2.1.2.2.2.2.1,x.2.1.2.2.2.2.2.1⟩:Json) k

/-! ### humpyard/json.Print -/
abbrev nM (R:Type):Type:=Json→(aj→Option R)→Option R
abbrev w6:List bP := [.agg [.int .i64, .int .i64, .int .i64, .str, .sl .str, .sl .json]]
abbrev w7:List aI := []
noncomputable def CH {R:Type} (fn:nM R):bP.av w6→aI.av w7→(V→az→Option R)→Option R:=fun x y k=>fn (⟨x.1.1,⟨x.1.2.1,x.1.2.2.1⟩,x.1.2.2.2.1,x.1.2.2.2.2.1,x.1.2.2.2.2.2.1⟩:Json) (fun q0=>k (.str q0) [])
noncomputable def AR (R:Type) (cG:jM R) (fc:n9 R):Env R:=fun i=>match i with
  | 39=>some (false,(DP R))
  | 32=>some (true,(aA tm tp (yQ cG) bg))
  | 38=>some (false,(aA r7 r8 (BB fc) bg))
  | _=>none
theorem Mu (R:Type):pK Tryz.prog (AR R cG fc):=by
  intro i b sp h
  unfold AR at h
  split at h
  · cases h; exact ⟨(K2),fun _ _=>FT⟩
  · cases h; exact ⟨(zP R _ (aO _)),fun h=>nomatch h⟩
  · cases h; exact ⟨(Fu R _ (aO _)),fun _ h=>nomatch h⟩
  · cases h

noncomputable def Ip (R:Type):Nat→Option (Hint × cp R):=fun i=>match i with
  | _=>none

noncomputable def AS {R:Type} (cG:jM R) (fc:n9 R) (x1:Json) (k0:aj→Option R):Option R :=
  cG (⟨x1.kind,⟨x1.num.aB,x1.num.exp⟩,x1.text,x1.names,x1.items⟩:Json) (fun y2=>bif (!y2)then (k0 ([]:aj))else (fc (⟨x1.kind,⟨x1.num.aB,x1.num.exp⟩,x1.text,x1.names,x1.items⟩:Json) (fun y3=>k0 (sD y3))))
noncomputable def ew {R:Type}:nM R:=fun x1 k0=>AS cG fc x1 k0
theorem NK {R:Type} (cG:jM R) (fc:n9 R) (x1:Json) (k:V→az→Option R):iE tt (AR R cG fc) (Ip R) false Tryz.f17 (aL Tryz.f17) [.agg [.int .i64 x1.kind, .int .i64 x1.num.aB, .int .i64 x1.num.exp, .str x1.text, .sl .str x1.names .no, .sl .json x1.items .no]] [] k =
    AS cG fc x1 (fun q0=>k (.str q0) []):=by kernel_rfl
theorem JB (R:Type):∀a∈aQ (aL Tryz.f17),cO tt (AR R cG fc) (Ip R) 0 a:=by
  refine bF 0 (by kernel_rfl) fun i hi => ?_
  omega
theorem Em (R:Type) (other:ay.Spec R) (ho:ay.Spec.Ok Tryz.prog 17 other):ay.Spec.Ok Tryz.prog 17 (aA w6 w7 (CH ew) other) :=
  bu ho (bj TT mixed (Mu R) (keep:=false) rfl rfl rfl rfl 0 (JB R)) fun (x:bP.av w6) (y:aI.av w7) k=>NK cG fc (⟨x.1.1,⟨x.1.2.1,x.1.2.2.1⟩,x.1.2.2.2.1,x.1.2.2.2.2.1,x.1.2.2.2.2.2.1⟩:Json) k

/-! ### humpyard/lexer.while -/
abbrev jP (R:Type):Type:=aj→aj→(aj→Option R)→Option R
abbrev uE:List bP := [.leaf (.str), .leaf (.str)]
abbrev uF:List aI := []
noncomputable def BC {R:Type} (fn:jP R):bP.av uE→aI.av uF→(V→az→Option R)→Option R:=fun x y k=>fn x.1 x.2.1 (fun q0=>k (.str q0) [])
noncomputable def yV (R:Type):Env R:=fun i=>match i with
  | 68=>some (true,(H3 R))
  | _=>none
theorem Ky (R:Type):pK Tryz.prog (yV R):=by
  intro i b sp h
  unfold yV at h
  split at h
  · cases h; exact ⟨(Me),fun h=>nomatch h⟩
  · cases h

noncomputable def GC (R:Type):Nat→Option (Hint × cp R):=fun i=>match i with
  | _=>none

noncomputable def yW {R:Type} (x1:aj) (x2:aj) (k0:aj→Option R):Option R :=
  cX (tI x2&&decide (x2.length<4294967281)) (cX (decide ((0:Int)≤(IntKind.i64.wrap ((x1.length:Int) - ((bE x1 x2).length:Int))))&&decide ((IntKind.i64.wrap ((x1.length:Int) - ((bE x1 x2).length:Int)))≤x1.length)) (cX (decide ((0:Int)≤(IntKind.i64.wrap ((x1.length:Int) - ((bE x1 x2).length:Int))))) (k0 ((x1.drop 0).take ((IntKind.i64.wrap ((x1.length:Int) - ((bE x1 x2).length:Int))).toNat - 0)))))
noncomputable def bX {R:Type}:jP R:=fun x1 x2 k0=>yW x1 x2 k0
theorem Mv {R:Type} (x1:aj) (x2:aj) (k:V→az→Option R):iE tt (yV R) (GC R) false Tryz.f47 (aL Tryz.f47) [.str x1, .str x2] [] k =
    yW x1 x2 (fun q0=>k (.str q0) []):=by kernel_rfl
theorem Iq (R:Type):∀a∈aQ (aL Tryz.f47),cO tt (yV R) (GC R) 0 a:=by
  refine bF 0 (by kernel_rfl) fun i hi => ?_
  omega
theorem Df (R:Type) (other:ay.Spec R) (ho:ay.Spec.Ok Tryz.prog 47 other):ay.Spec.Ok Tryz.prog 47 (aA uE uF (BC bX) other) :=
  bu ho (bj TT mixed (Ky R) (keep:=false) rfl rfl rfl rfl 0 (Iq R)) fun (x:bP.av uE) (y:aI.av uF) k=>Mv x.1 x.2.1 k

/-! ### (*humpyard/decimal.reader).sign -/
abbrev dS (R:Type):Type:=aj→aj→(Int→aj→Option R)→Option R
abbrev iJ:List bP := [.leaf (.ptr 0 0), .leaf (.str)]
abbrev iK:List aI := [.cells [.str]]
noncomputable def nE {R:Type} (fn:dS R):bP.av iJ→aI.av iK→(V→az→Option R)→Option R:=fun x y k=>fn x.2.1 y.1.1 (fun q0 q1=>k (.int .u8 q0) [.cells [.str q1]])
noncomputable def lj (R:Type):Env R:=fun i=>match i with
  | 71=>some (true,(Uk R))
  | _=>none
theorem zQ (R:Type):pK Tryz.prog (lj R):=by
  intro i b sp h
  unfold lj at h
  split at h
  · cases h; exact ⟨(YO),fun h=>nomatch h⟩
  · cases h

noncomputable def sL (R:Type):Nat→Option (Hint × cp R):=fun i=>match i with
  | _=>none

noncomputable def lk {R:Type} (x1:aj) (x2:aj) (k0:Int→aj→Option R):Option R :=
  bif (x2==([]:aj))then (k0 0 x2)else (cX (decide ((0:Int)<x2.length)) (bif (decide ((yL x1 ((x2.getD 0 0).toNat:Int))<(0:Int)))then (k0 0 x2)else (cX (decide ((0:Int)<x2.length)) (cX (decide ((0:Int)≤(x2.length:Int))&&decide ((x2.length:Int)≤x2.length)) (cX (decide ((1:Int)≤(x2.length:Int))) (k0 ((x2.getD 0 0).toNat:Int) ((x2.drop 1).take ((x2.length:Int).toNat - 1))))))))
noncomputable def aR {R:Type}:dS R:=fun x1 x2 k0=>lk x1 x2 k0
theorem AT {R:Type} (x1:aj) (x2:aj) (k:V→az→Option R):iE tt (lj R) (sL R) false Tryz.f101 (aL Tryz.f101) [.ptr 0 0, .str x1] [.cells [.str x2]] k =
    lk x1 x2 (fun q0 q1=>k (.int .u8 q0) [.cells [.str q1]]):=by kernel_rfl
theorem ym (R:Type):∀a∈aQ (aL Tryz.f101),cO tt (lj R) (sL R) 1 a:=by
  refine bF 0 (by kernel_rfl) fun i hi => ?_
  omega
theorem qw (R:Type) (other:ay.Spec R) (ho:ay.Spec.Ok Tryz.prog 101 other):ay.Spec.Ok Tryz.prog 101 (aA iJ iK (nE aR) other) :=
  bu ho (bj TT mixed (zQ R) (keep:=false) rfl rfl rfl rfl 1 (ym R)) fun (x:bP.av iJ) (y:aI.av iK) k=>AT x.2.1 y.1.1 k

/-! ### (*humpyard/decimal.reader).digits -/
abbrev dH (R:Type):Type:=aj→(aj→aj→Option R)→Option R
abbrev gJ:List bP := [.leaf (.ptr 0 0)]
abbrev gK:List aI := [.cells [.str]]
noncomputable def mN {R:Type} (fn:dH R):bP.av gJ→aI.av gK→(V→az→Option R)→Option R:=fun x y k=>fn y.1.1 (fun q0 q1=>k (.str q0) [.cells [.str q1]])
noncomputable def jZ (R:Type):Env R:=fun i=>match i with
  | 68=>some (true,(H3 R))
  | _=>none
theorem yn (R:Type):pK Tryz.prog (jZ R):=by
  intro i b sp h
  unfold jZ at h
  split at h
  · cases h; exact ⟨(Me),fun h=>nomatch h⟩
  · cases h

noncomputable def rj (R:Type):Nat→Option (Hint × cp R):=fun i=>match i with
  | _=>none

noncomputable def j0 {R:Type} (x1:aj) (k0:aj→aj→Option R):Option R :=
  cX (tI ([48,49,50,51,52,53,54,55,56,57]:aj)&&decide (([48,49,50,51,52,53,54,55,56,57]:aj).length<4294967281)) (cX (decide ((0:Int)≤(IntKind.i64.wrap ((x1.length:Int) - ((bE x1 ([48,49,50,51,52,53,54,55,56,57]:aj)).length:Int))))&&decide ((IntKind.i64.wrap ((x1.length:Int) - ((bE x1 ([48,49,50,51,52,53,54,55,56,57]:aj)).length:Int)))≤x1.length)) (cX (decide ((0:Int)≤(IntKind.i64.wrap ((x1.length:Int) - ((bE x1 ([48,49,50,51,52,53,54,55,56,57]:aj)).length:Int))))) (k0 ((x1.drop 0).take ((IntKind.i64.wrap ((x1.length:Int) - ((bE x1 ([48,49,50,51,52,53,54,55,56,57]:aj)).length:Int))).toNat - 0)) (bE x1 ([48,49,50,51,52,53,54,55,56,57]:aj)))))
noncomputable def aN {R:Type}:dH R:=fun x1 k0=>j0 x1 k0
theorem zp {R:Type} (x1:aj) (k:V→az→Option R):iE tt (jZ R) (rj R) false Tryz.f102 (aL Tryz.f102) [.ptr 0 0] [.cells [.str x1]] k =
    j0 x1 (fun q0 q1=>k (.str q0) [.cells [.str q1]]):=by kernel_rfl
theorem w8 (R:Type):∀a∈aQ (aL Tryz.f102),cO tt (jZ R) (rj R) 1 a:=by
  refine bF 0 (by kernel_rfl) fun i hi => ?_
  omega
theorem pC (R:Type) (other:ay.Spec R) (ho:ay.Spec.Ok Tryz.prog 102 other):ay.Spec.Ok Tryz.prog 102 (aA gJ gK (mN aN) other) :=
  bu ho (bj TT mixed (yn R) (keep:=false) rfl rfl rfl rfl 1 (w8 R)) fun (x:bP.av gJ) (y:aI.av gK) k=>zp y.1.1 k

end Go.Proofs.YtmlkkgfenfdndaaGreatDoor

/-
  Functions of the program as pure Lean functions, and the ties; printed by wip/tools/emit.py.
-/
set_option maxRecDepth 100000
namespace Go.Proofs.YtmlkkgfenfdndaaGreatDoor
open Go Go.ay

/-! ### (*humpyard/decimal.reader).exponent -/
abbrev fV (R:Type):Type:=aj→(Int→Bool→aj→Option R)→Option R
abbrev jc:List bP := [.leaf (.ptr 0 0)]
abbrev jd:List aI := [.cells [.str]]
noncomputable def pD {R:Type} (fn:fV R):bP.av jc→aI.av jd→(V→az→Option R)→Option R:=fun x y k=>fn y.1.1 (fun q0 q1 q2=>k (.tuple [.int .i64 q0, .bool q1]) [.cells [.str q2]])
noncomputable def je (R:Type) (aR:dS R) (aN:dH R):Env R:=fun i=>match i with
  | 101=>some (false,(aA iJ iK (nE aR) bg))
  | 102=>some (false,(aA gJ gK (mN aN) bg))
  | 105=>some (true,(PJ R))
  | _=>none
theorem w9 (R:Type):pK Tryz.prog (je R aR aN):=by
  intro i b sp h
  unfold je at h
  split at h
  · cases h; exact ⟨(qw R _ (aO _)),fun _ h=>nomatch h⟩
  · cases h; exact ⟨(pC R _ (aO _)),fun _ h=>nomatch h⟩
  · cases h; exact ⟨(Ul),fun h=>nomatch h⟩
  · cases h

noncomputable def qh (R:Type):Nat→Option (Hint × cp R):=fun i=>match i with
  | _=>none

noncomputable def jf {R:Type} (aR:dS R) (aN:dH R) (x1:aj) (k0:Int→Bool→aj→Option R):Option R :=
  aR ([43,45]:aj) x1 (fun y2 y3=>aN y3 (fun y4 y5=>cX (decide (y4.length≤281474976710656)) (bif sE y4 then (bif (decide ((eA y4)>(1000000:Int)))then (bif (y2==45)then (k0 (-1000000) (!(y4==([]:aj))) y5)else (k0 1000000 (!(y4==([]:aj))) y5))else (bif (y2==45)then (k0 (IntKind.i64.wrap (0 - (eA y4))) (!(y4==([]:aj))) y5)else (k0 (eA y4) (!(y4==([]:aj))) y5)))else (bif (!(y4==([]:aj)))then (bif (y2==45)then (k0 (-1000000) (!(y4==([]:aj))) y5)else (k0 1000000 (!(y4==([]:aj))) y5))else (bif (decide ((eA y4)>(1000000:Int)))then (bif (y2==45)then (k0 (-1000000) (!(y4==([]:aj))) y5)else (k0 1000000 (!(y4==([]:aj))) y5))else (bif (y2==45)then (k0 (IntKind.i64.wrap (0 - (eA y4))) (!(y4==([]:aj))) y5)else (k0 (eA y4) (!(y4==([]:aj))) y5)))))))
noncomputable def bm {R:Type}:fV R:=fun x1 k0=>jf aR aN x1 k0
theorem xE {R:Type} (aR:dS R) (aN:dH R) (x1:aj) (k:V→az→Option R):iE tt (je R aR aN) (qh R) false Tryz.f103 (aL Tryz.f103) [.ptr 0 0] [.cells [.str x1]] k =
    jf aR aN x1 (fun q0 q1 q2=>k (.tuple [.int .i64 q0, .bool q1]) [.cells [.str q2]]):=by kernel_rfl
theorem vz (R:Type):∀a∈aQ (aL Tryz.f103),cO tt (je R aR aN) (qh R) 1 a:=by
  refine bF 0 (by kernel_rfl) fun i hi => ?_
  omega
theorem wm (R:Type) (other:ay.Spec R) (ho:ay.Spec.Ok Tryz.prog 103 other):ay.Spec.Ok Tryz.prog 103 (aA jc jd (pD bm) other) :=
  bu ho (bj TT mixed (w9 R) (keep:=false) rfl rfl rfl rfl 1 (vz R)) fun (x:bP.av jc) (y:aI.av jd) k=>xE aR aN y.1.1 k

/-! ### humpyard/decimal.Make -/
abbrev rq (R:Type):Type:=Int→Int→(iO→Bool→Option R)→Option R
abbrev xa:List bP := [.leaf (.int .i64), .leaf (.int .i64)]
abbrev xb:List aI := []
noncomputable def En {R:Type} (fn:rq R):bP.av xa→aI.av xb→(V→az→Option R)→Option R:=fun x y k=>fn x.1 x.2.1 (fun q0 q1=>k (.tuple [.agg [.int .i64 q0.aB, .int .i64 q0.exp], .bool q1]) [])
abbrev lE (R:Type):Type:=Nat→Int→Int→iO→(Int→Int→iO→Option R)→Option R
noncomputable def oa (R:Type) (aY:fj R):Env R:=fun i=>match i with
  | 91=>some (true,(aA mK mL (rP aY) bg))
  | _=>none
theorem JC (R:Type):pK Tryz.prog (oa R aY):=by
  intro i b sp h
  unfold oa at h
  split at h
  · cases h; exact ⟨(vS R _ (aO _)),fun h=>nomatch h⟩
  · cases h

noncomputable def ma {R:Type} (fT:Int→Int→iO→Option R) (x3:Int) (x4:Int) (x5:iO) (e0:Int→Int→iO→Option R):Option R :=
  bif ((Int.tmod x3 10)==0)then (fT (IntKind.i64.wrap (Int.tdiv x3 10)) (IntKind.i64.wrap (x4+1)) x5)else (e0 x3 x4 x5)
noncomputable def bx {R:Type}:lE R
  | 0,_,_,_,_=>none
  | n+1,l0,l7,nj,e0=>ma (fun l0 l7 nj=>bx n l0 l7 nj e0) l0 l7 nj e0
noncomputable def qL:Hint := { live := [0,1,4],own := [],rows := [],cells := [],drop := [],out := [0,1,4,5] }
abbrev iL:Type:=Int × Int × iO
noncomputable def oV:iL→St:=fun d=>⟨[.int .i64 d.1, .int .i64 d.2.1, .undef, .undef, .ptr 0 0, .undef, .undef, .undef, .undef, .undef, .undef, .undef, .undef, .undef, .undef, .undef, .undef, .undef, .undef, .undef, .undef, .undef, .undef, .undef, .undef, .undef, .undef, .undef, .undef, .undef], [.cells [.int .i64 d.2.2.aB, .int .i64 d.2.2.exp]]⟩
noncomputable def ua {R:Type} (K:Ex→St→Option R) (q0:Int) (q1:Int) (q2:iO):Option R:=K (.exit 0) ⟨[.int .i64 q0, .int .i64 q1, .undef, .undef, .ptr 0 0, .undef, .undef, .undef, .undef, .undef, .undef, .undef, .undef, .undef, .undef, .undef, .undef, .undef, .undef, .undef, .undef, .undef, .undef, .undef, .undef, .undef, .undef, .undef, .undef, .undef], [.cells [.int .i64 q2.aB, .int .i64 q2.exp]]⟩
noncomputable def vA {R:Type} (K:Ex→St→Option R) (rc:iL→Option R) (d:iL):Option R:=ma (fun z0 z1 z2=>rc (z0,z1,z2)) d.1 d.2.1 d.2.2 (ua K)
noncomputable def mb {R:Type} (K:Ex→St→Option R) (n:Nat) (d:iL):Option R:=bx n d.1 d.2.1 d.2.2 (ua K)
abbrev iM:List bP := [.leaf (.int .i64), .leaf (.int .i64), .leaf (.undef), .leaf (.undef), .leaf (.ptr 0 0), .leaf (.undef), .leaf (.undef), .leaf (.undef), .leaf (.undef), .leaf (.undef), .leaf (.undef), .leaf (.undef), .leaf (.undef), .leaf (.undef), .leaf (.undef), .leaf (.undef), .leaf (.undef), .leaf (.undef), .leaf (.undef), .leaf (.undef), .leaf (.undef), .leaf (.undef), .leaf (.undef), .leaf (.undef), .leaf (.undef), .leaf (.undef), .leaf (.undef), .leaf (.undef), .leaf (.undef), .leaf (.undef)]
abbrev iN:List aI := [.cells [.int .i64, .int .i64]]
noncomputable def vB (x:bP.av iM) (y:aI.av iN):Nat:=(Int.natAbs x.1+Int.natAbs x.2.1+iO.fu (⟨y.1.1,y.1.2.1⟩:iO)+64)
noncomputable def vC (x:bP.av iM) (y:aI.av iN):iL:=(x.1,x.2.1,(⟨y.1.1,y.1.2.1⟩:iO))
noncomputable def ub {R:Type} (L:lE R):bP.av iM→aI.av iN→(Ex→St→Option R)→Option R:=fun x y K=>L (vB x y) x.1 x.2.1 (⟨y.1.1,y.1.2.1⟩:iO) (ua K)
noncomputable def sM (R:Type) (bx:lE R):Nat→Option (Hint × cp R):=fun i=>match i with
  | 4=>some (qL,(gE iM iN (ub bx) qB))
  | _=>none

theorem EF {R:Type} (aY:fj R) (bx:lE R) (K:Ex→St→Option R) (rc:St→Option R) (d:iL):roundOf tt (oa R aY) (sM R bx) 0 ((aQ (aL Tryz.f106)).getD 0 .skip) qL (oV d) rc K=vA K (fun d=>rc (oV d)) d:=by kernel_rfl
theorem Dg {R:Type} (K:Ex→St→Option R) (n:Nat) (d:iL):mb K (n+1) d=vA K (mb K n) d:=by kernel_rfl
theorem Dh {R:Type} (K:Ex→St→Option R) (d:iL):mb K 0 d=none:=by kernel_rfl
theorem EG (x:bP.av iM) (y:aI.av iN):(⟨bP.cT iM x,aI.cT iN y⟩:St)=oV (vC x y):=by kernel_rfl
theorem EH {R:Type} (x:bP.av iM) (y:aI.av iN) (K:Ex→St→Option R):ub (bx) x y K=mb K (vB x y) (vC x y):=by kernel_rfl
theorem Ga {R:Type} (other:cp R) (ho:pG tt (oa R aY) (sM R bx) 0 ((aQ (aL Tryz.f106)).getD 0 .skip) qL other):pG tt (oa R aY) (sM R bx) 0 ((aQ (aL Tryz.f106)).getD 0 .skip) qL (gE iM iN (ub (bx)) other) :=
  gW (A:=mb) ho (k9 oV (vA) (mb) (Dh) (EF aY bx) (Dg)) vB vC EG (EH)

noncomputable def oc {R:Type} (aY:fj R) (bx:lE R) (x1:Int) (x2:Int) (k0:iO→Bool→Option R):Option R :=
  bif (x1==0)then (k0 (⟨0,0⟩:iO) true)else (bx (Int.natAbs x1+Int.natAbs (min x2 1000000)+iO.fu (⟨0,0⟩:iO)+64) x1 (min x2 1000000) (⟨0,0⟩:iO) (fun y6 y7 y8=>aY (-1000000000000000) y6 1000000000000000 (fun y9=>bif (!y9)then (k0 (⟨0,0⟩:iO) false)else (aY (-9) y7 9 (fun yf=>bif (!yf)then (k0 (⟨0,0⟩:iO) false)else (k0 (⟨y6,y7⟩:iO) true))))))
noncomputable def bL {R:Type}:rq R:=fun x1 x2 k0=>oc aY bx x1 x2 k0
theorem Kz {R:Type} (aY:fj R) (bx:lE R) (x1:Int) (x2:Int) (k:V→az→Option R):iE tt (oa R aY) (sM R bx) false Tryz.f106 (aL Tryz.f106) [.int .i64 x1, .int .i64 x2] [] k =
    oc aY bx x1 x2 (fun q0 q1=>k (.tuple [.agg [.int .i64 q0.aB, .int .i64 q0.exp], .bool q1]) []):=by kernel_rfl
theorem Hh (R:Type):∀a∈aQ (aL Tryz.f106),cO tt (oa R aY) (sM R bx) 0 a:=by
  refine bF 1 (by kernel_rfl) fun i hi => ?_
  match i,hi with
  | 0,_=>exact gb (by kernel_rfl) (Ga _ jL)
  | n+1,hi=>omega
theorem Ir (R:Type) (other:ay.Spec R) (ho:ay.Spec.Ok Tryz.prog 106 other):ay.Spec.Ok Tryz.prog 106 (aA xa xb (En bL) other) :=
  bu ho (bj TT mixed (JC R) (keep:=false) rfl rfl rfl rfl 0 (Hh R)) fun (x:bP.av xa) (y:aI.av xb) k=>Kz aY bx x.1 x.2.1 k

/-! ### humpyard/decimal.Parse -/
abbrev qi (R:Type):Type:=aj→(iO→Bool→Option R)→Option R
abbrev u7:List bP := [.leaf (.str)]
abbrev va:List aI := []
noncomputable def Di {R:Type} (fn:qi R):bP.av u7→aI.av va→(V→az→Option R)→Option R:=fun x y k=>fn x.1 (fun q0 q1=>k (.tuple [.agg [.int .i64 q0.aB, .int .i64 q0.exp], .bool q1]) [])
noncomputable def vb (R:Type) (bL:rq R) (aR:dS R) (aN:dH R) (bm:fV R):Env R:=fun i=>match i with
  | 106=>some (true,(aA xa xb (En bL) bg))
  | 101=>some (false,(aA iJ iK (nE aR) bg))
  | 102=>some (false,(aA gJ gK (mN aN) bg))
  | 103=>some (false,(aA jc jd (pD bm) bg))
  | 68=>some (true,(H3 R))
  | 104=>some (true,(PI R))
  | 105=>some (true,(PJ R))
  | _=>none
theorem Iu (R:Type):pK Tryz.prog (vb R bL aR aN bm):=by
  intro i b sp h
  unfold vb at h
  split at h
  · cases h; exact ⟨(Ir R _ (aO _)),fun h=>nomatch h⟩
  · cases h; exact ⟨(qw R _ (aO _)),fun _ h=>nomatch h⟩
  · cases h; exact ⟨(pC R _ (aO _)),fun _ h=>nomatch h⟩
  · cases h; exact ⟨(wm R _ (aO _)),fun _ h=>nomatch h⟩
  · cases h; exact ⟨(Me),fun h=>nomatch h⟩
  · cases h; exact ⟨(YN),fun h=>nomatch h⟩
  · cases h; exact ⟨(Ul),fun h=>nomatch h⟩
  · cases h

noncomputable def Eo (R:Type):Nat→Option (Hint × cp R):=fun i=>match i with
  | _=>none

noncomputable def oI {R:Type} (bL:rq R) (aR:dS R) (aN:dH R) (bm:fV R) (x1:aj) (k0:iO→Bool→Option R):Option R :=
  aR ([45]:aj) x1 (fun y2 y3=>aN y3 (fun y4 y5=>let j32:=let j31:=fun (vD:aj) (z12:Int) (Ri:aj)=>let j30:=fun (Qa:Int) (z20:aj)=>cX (tI ([48]:aj)&&decide (([48]:aj).length<4294967281)) (cX (tI ([48]:aj)&&decide (([48]:aj).length<4294967281)) (bif (!(z20==([]:aj)))then (k0 (⟨0,0⟩:iO) false)else (bif (decide (((cU (bE vD ([48]:aj)) ([48]:aj)).length:Int)>(18:Int)))then (k0 (⟨0,0⟩:iO) false)else (let j29:=bif (y2 != 0)then (bL (IntKind.i64.wrap (0 - (eA (([48]:aj)++(cU (bE vD ([48]:aj)) ([48]:aj)))))) (IntKind.i64.wrap (Qa+(IntKind.i64.wrap (((bE vD ([48]:aj)).length:Int) - ((cU (bE vD ([48]:aj)) ([48]:aj)).length:Int))))) (fun IX JA=>k0 IX JA))else (bL (eA (([48]:aj)++(cU (bE vD ([48]:aj)) ([48]:aj)))) (IntKind.i64.wrap (Qa+(IntKind.i64.wrap (((bE vD ([48]:aj)).length:Int) - ((cU (bE vD ([48]:aj)) ([48]:aj)).length:Int))))) (fun IY IZ=>k0 IY IZ)); cX (decide (1+(cU (bE vD ([48]:aj)) ([48]:aj)).length≤9223372036854775807)) (cX (decide ((([48]:aj)++(cU (bE vD ([48]:aj)) ([48]:aj))).length≤281474976710656)) (bif sE (([48]:aj)++(cU (bE vD ([48]:aj)) ([48]:aj)))then (j29)else (j29))))))); aR ([101,69]:aj) Ri (fun Da F7=>bif (Da != 0)then (bm F7 (fun GB Kc Hw=>bif (!Kc)then (k0 (⟨0,0⟩:iO) false)else (j30 (IntKind.i64.wrap (z12+GB)) Hw)))else (j30 z12 F7)); aR ([46]:aj) y5 (fun y7 y8=>bif (y7 != 0)then (aN y8 (fun y9 yf=>bif (y9==([]:aj))then (k0 (⟨0,0⟩:iO) false)else (cX (decide (y4.length+y9.length≤9223372036854775807)) (j31 (y4++y9) (IntKind.i64.wrap (0 - (y9.length:Int))) yf))))else (j31 y4 0 y8)); bif (decide ((x1.length:Int)>(400:Int)))then (k0 (⟨0,0⟩:iO) false)else (bif (y4==([]:aj))then (k0 (⟨0,0⟩:iO) false)else (bif (decide ((y4.length:Int)>(1:Int)))then (cX (decide ((0:Int)<y4.length)) (bif (((y4.getD 0 0).toNat:Int)==48)then (k0 (⟨0,0⟩:iO) false)else (j32)))else (j32)))))
noncomputable def dz {R:Type}:qi R:=fun x1 k0=>oI bL aR aN bm x1 k0
theorem JD {R:Type} (bL:rq R) (aR:dS R) (aN:dH R) (bm:fV R) (x1:aj) (k:V→az→Option R):iE tt (vb R bL aR aN bm) (Eo R) false Tryz.f69 (aL Tryz.f69) [.str x1] [] k =
    oI bL aR aN bm x1 (fun q0 q1=>k (.tuple [.agg [.int .i64 q0.aB, .int .i64 q0.exp], .bool q1]) []):=by kernel_rfl
theorem Gb (R:Type):∀a∈aQ (aL Tryz.f69),cO tt (vb R bL aR aN bm) (Eo R) 0 a:=by
  refine bF 0 (by kernel_rfl) fun i hi => ?_
  omega
theorem Hi (R:Type) (other:ay.Spec R) (ho:ay.Spec.Ok Tryz.prog 69 other):ay.Spec.Ok Tryz.prog 69 (aA u7 va (Di dz) other) :=
  bu ho (bj TT mixed (Iu R) (keep:=false) rfl rfl rfl rfl 0 (Gb R)) fun (x:bP.av u7) (y:aI.av va) k=>JD bL aR aN bm x.1 k

/-! ### internal/stringslite.HasPrefix -/
abbrev fp (R:Type):Type:=aj→aj→(Bool→Option R)→Option R
abbrev hU:List bP := [.leaf (.str), .leaf (.str)]
abbrev hY:List aI := []
noncomputable def ou {R:Type} (fn:fp R):bP.av hU→aI.av hY→(V→az→Option R)→Option R:=fun x y k=>fn x.1 x.2.1 (fun q0=>k (.bool q0) [])
noncomputable def hZ (R:Type):Env R:=fun i=>match i with
  | _=>none
theorem vE (R:Type):pK Tryz.prog (hZ R):=by
  intro i b sp h
  unfold hZ at h
  split at h
  · cases h

noncomputable def oW (R:Type):Nat→Option (Hint × cp R):=fun i=>match i with
  | _=>none

noncomputable def ia {R:Type} (x1:aj) (x2:aj) (k0:Bool→Option R):Option R :=
  bif (decide ((x1.length:Int)≥(x2.length:Int)))then (cX (decide ((0:Int)≤(x2.length:Int))&&decide ((x2.length:Int)≤x1.length)) (cX (decide ((0:Int)≤(x2.length:Int))) (k0 (((x1.drop 0).take ((x2.length:Int).toNat - 0))==x2))))else (k0 false)
noncomputable def bG {R:Type}:fp R:=fun x1 x2 k0=>ia x1 x2 k0
theorem wo {R:Type} (x1:aj) (x2:aj) (k:V→az→Option R):iE tt (hZ R) (oW R) false Tryz.f127 (aL Tryz.f127) [.str x1, .str x2] [] k =
    ia x1 x2 (fun q0=>k (.bool q0) []):=by kernel_rfl
theorem uc (R:Type):∀a∈aQ (aL Tryz.f127),cO tt (hZ R) (oW R) 0 a:=by
  refine bF 0 (by kernel_rfl) fun i hi => ?_
  omega
theorem uG (R:Type) (other:ay.Spec R) (ho:ay.Spec.Ok Tryz.prog 127 other):ay.Spec.Ok Tryz.prog 127 (aA hU hY (ou bG) other) :=
  bu ho (bj TT mixed (vE R) (keep:=false) rfl rfl rfl rfl 0 (uc R)) fun (x:bP.av hU) (y:aI.av hY) k=>wo x.1 x.2.1 k

/-! ### internal/stringslite.CutPrefix -/
abbrev fq (R:Type):Type:=aj→aj→(aj→Bool→Option R)→Option R
abbrev ib:List bP := [.leaf (.str), .leaf (.str)]
abbrev ic:List aI := []
noncomputable def ov {R:Type} (fn:fq R):bP.av ib→aI.av ic→(V→az→Option R)→Option R:=fun x y k=>fn x.1 x.2.1 (fun q0 q1=>k (.tuple [.str q0, .bool q1]) [])
noncomputable def ie (R:Type) (bG:fp R):Env R:=fun i=>match i with
  | 127=>some (true,(aA hU hY (ou bG) bg))
  | _=>none
theorem vF (R:Type):pK Tryz.prog (ie R bG):=by
  intro i b sp h
  unfold ie at h
  split at h
  · cases h; exact ⟨(uG R _ (aO _)),fun h=>nomatch h⟩
  · cases h

noncomputable def oX (R:Type):Nat→Option (Hint × cp R):=fun i=>match i with
  | _=>none

noncomputable def ig {R:Type} (bG:fp R) (x1:aj) (x2:aj) (k0:aj→Bool→Option R):Option R :=
  bG x1 x2 (fun y3=>bif (!y3)then (k0 x1 false)else (cX (decide ((0:Int)≤(x1.length:Int))&&decide ((x1.length:Int)≤x1.length)) (cX (decide ((0:Int)≤(x2.length:Int))&&decide ((x2.length:Int)≤(x1.length:Int))) (k0 ((x1.drop (x2.length:Int).toNat).take ((x1.length:Int).toNat - (x2.length:Int).toNat)) true))))
noncomputable def bM {R:Type}:fq R:=fun x1 x2 k0=>ig bG x1 x2 k0
theorem wu {R:Type} (bG:fp R) (x1:aj) (x2:aj) (k:V→az→Option R):iE tt (ie R bG) (oX R) false Tryz.f156 (aL Tryz.f156) [.str x1, .str x2] [] k =
    ig bG x1 x2 (fun q0 q1=>k (.tuple [.str q0, .bool q1]) []):=by kernel_rfl
theorem uf (R:Type):∀a∈aQ (aL Tryz.f156),cO tt (ie R bG) (oX R) 0 a:=by
  refine bF 0 (by kernel_rfl) fun i hi => ?_
  omega
theorem uH (R:Type) (other:ay.Spec R) (ho:ay.Spec.Ok Tryz.prog 156 other):ay.Spec.Ok Tryz.prog 156 (aA ib ic (ov bM) other) :=
  bu ho (bj TT mixed (vF R) (keep:=false) rfl rfl rfl rfl 0 (uf R)) fun (x:bP.av ib) (y:aI.av ic) k=>wu bG x.1 x.2.1 k

/-! ### strings.CutPrefix -/
abbrev mO (R:Type):Type:=aj→aj→(aj→Bool→Option R)→Option R
abbrev pV:List bP := [.leaf (.str), .leaf (.str)]
abbrev pW:List aI := []
noncomputable def zq {R:Type} (fn:mO R):bP.av pV→aI.av pW→(V→az→Option R)→Option R:=fun x y k=>fn x.1 x.2.1 (fun q0 q1=>k (.tuple [.str q0, .bool q1]) [])
noncomputable def pX (R:Type) (bM:fq R):Env R:=fun i=>match i with
  | 156=>some (true,(aA ib ic (ov bM) bg))
  | _=>none
theorem EI (R:Type):pK Tryz.prog (pX R bM):=by
  intro i b sp h
  unfold pX at h
  split at h
  · cases h; exact ⟨(uH R _ (aO _)),fun h=>nomatch h⟩
  · cases h

noncomputable def Ao (R:Type):Nat→Option (Hint × cp R):=fun i=>match i with
  | _=>none

noncomputable def Ap {R:Type} (bM:fq R) (x1:aj) (x2:aj) (k0:aj→Bool→Option R):Option R :=
  bM x1 x2 (fun y3 y4=>k0 y3 y4)
noncomputable def dT {R:Type}:mO R:=fun x1 x2 k0=>Ap bM x1 x2 k0
theorem Fv {R:Type} (bM:fq R) (x1:aj) (x2:aj) (k:V→az→Option R):iE tt (pX R bM) (Ao R) false Tryz.f137 (aL Tryz.f137) [.str x1, .str x2] [] k =
    Ap bM x1 x2 (fun q0 q1=>k (.tuple [.str q0, .bool q1]) []):=by kernel_rfl
theorem Dj (R:Type):∀a∈aQ (aL Tryz.f137),cO tt (pX R bM) (Ao R) 0 a:=by
  refine bF 0 (by kernel_rfl) fun i hi => ?_
  omega
theorem D3 (R:Type) (other:ay.Spec R) (ho:ay.Spec.Ok Tryz.prog 137 other):ay.Spec.Ok Tryz.prog 137 (aA pV pW (zq dT) other) :=
  bu ho (bj TT mixed (EI R) (keep:=false) rfl rfl rfl rfl 0 (Dj R)) fun (x:bP.av pV) (y:aI.av pW) k=>Fv bM x.1 x.2.1 k

/-! ### (*humpyard/quote.reader).skip -/
abbrev dh (R:Type):Type:=aj→aj→(Bool→aj→Option R)→Option R
abbrev jQ:List bP := [.leaf (.ptr 0 0), .leaf (.str)]
abbrev jR:List aI := [.cells [.str]]
noncomputable def oz {R:Type} (fn:dh R):bP.av jQ→aI.av jR→(V→az→Option R)→Option R:=fun x y k=>fn x.2.1 y.1.1 (fun q0 q1=>k (.bool q0) [.cells [.str q1]])
noncomputable def mn (R:Type) (dT:mO R):Env R:=fun i=>match i with
  | 137=>some (true,(aA pV pW (zq dT) bg))
  | _=>none
theorem BD (R:Type):pK Tryz.prog (mn R dT):=by
  intro i b sp h
  unfold mn at h
  split at h
  · cases h; exact ⟨(D3 R _ (aO _)),fun h=>nomatch h⟩
  · cases h

noncomputable def uI (R:Type):Nat→Option (Hint × cp R):=fun i=>match i with
  | _=>none

noncomputable def uJ {R:Type} (dT:mO R) (x1:aj) (x2:aj) (k0:Bool→aj→Option R):Option R :=
  dT x2 x1 (fun y3 y4=>k0 y4 y3)
noncomputable def aD {R:Type}:dh R:=fun x1 x2 k0=>uJ dT x1 x2 k0
theorem B3 {R:Type} (dT:mO R) (x1:aj) (x2:aj) (k:V→az→Option R):iE tt (mn R dT) (uI R) false Tryz.f107 (aL Tryz.f107) [.ptr 0 0, .str x1] [.cells [.str x2]] k =
    uJ dT x1 x2 (fun q0 q1=>k (.bool q0) [.cells [.str q1]]):=by kernel_rfl
theorem zR (R:Type):∀a∈aQ (aL Tryz.f107),cO tt (mn R dT) (uI R) 1 a:=by
  refine bF 0 (by kernel_rfl) fun i hi => ?_
  omega
theorem r9 (R:Type) (other:ay.Spec R) (ho:ay.Spec.Ok Tryz.prog 107 other):ay.Spec.Ok Tryz.prog 107 (aA jQ jR (oz aD) other) :=
  bu ho (bj TT mixed (BD R) (keep:=false) rfl rfl rfl rfl 1 (zR R)) fun (x:bP.av jQ) (y:aI.av jR) k=>B3 dT x.2.1 y.1.1 k

/-! ### internal/strconv.lower -/
abbrev cq (R:Type):Type:=Int→(Int→Option R)→Option R
abbrev jS:List bP := [.leaf (.int .u8)]
abbrev jT:List aI := []
noncomputable def oA {R:Type} (fn:cq R):bP.av jS→aI.av jT→(V→az→Option R)→Option R:=fun x y k=>fn x.1 (fun q0=>k (.int .u8 q0) [])
noncomputable def mo (R:Type):Env R:=fun i=>match i with
  | _=>none
theorem BE (R:Type):pK Tryz.prog (mo R):=by
  intro i b sp h
  unfold mo at h
  split at h
  · cases h

noncomputable def uK (R:Type):Nat→Option (Hint × cp R):=fun i=>match i with
  | _=>none

noncomputable def uL {R:Type} (x1:Int) (k0:Int→Option R):Option R :=
  k0 (IntKind.u8.wrap ((BitVec.ofInt IntKind.u8.bits x1 ||| BitVec.ofInt IntKind.u8.bits 32).toNat:Int))
noncomputable def internal_strconv_lower {R:Type}:cq R:=fun x1 k0=>uL x1 k0
theorem B4 {R:Type} (x1:Int) (k:V→az→Option R):iE tt (mo R) (uK R) false Tryz.f176 (aL Tryz.f176) [.int .u8 x1] [] k =
    uL x1 (fun q0=>k (.int .u8 q0) []):=by kernel_rfl
theorem zS (R:Type):∀a∈aQ (aL Tryz.f176),cO tt (mo R) (uK R) 0 a:=by
  refine bF 0 (by kernel_rfl) fun i hi => ?_
  omega
theorem sa (R:Type) (other:ay.Spec R) (ho:ay.Spec.Ok Tryz.prog 176 other):ay.Spec.Ok Tryz.prog 176 (aA jS jT (oA internal_strconv_lower) other) :=
  bu ho (bj TT mixed (BE R) (keep:=false) rfl rfl rfl rfl 0 (zS R)) fun (x:bP.av jS) (y:aI.av jT) k=>B4 x.1 k

end Go.Proofs.YtmlkkgfenfdndaaGreatDoor

set_option maxRecDepth 100000
namespace Go.Proofs.YtmlkkgfenfdndaaGreatDoor
open Go Go.ay

theorem YR {R:Type} (c n:Int) (hc:DR c) (h0:0<n) (hn:n≤9223372036854775807):∃r:Int,0≤r∧r<n∧∀k:Int→Option R,gh c n k=k r:=Mk c n hc h0 hn

theorem Mw:∀(b:Nat) (m:Int),m≠0→m.natAbs<b→∃(j:Nat) (u:Int),m=u*10 ^ j∧Int.tmod u 10≠0
  | 0,m,_,h=>by omega
  | b+1,m,h0,hb=>by
    by_cases h:Int.tmod m 10=0
    · have hd:m=Int.tdiv m 10*10:=by have:=Int.tmod_add_mul_tdiv m 10; omega
      have hn:(Int.tdiv m 10).natAbs<m.natAbs:=by rw[Int.natAbs_tdiv]; show m.natAbs / 10<m.natAbs; omega
      obtain ⟨j,u,e,hu⟩:=Mw b (Int.tdiv m 10) (by omega) (by omega)
      refine ⟨j+1,u,?_,hu⟩
      rw[Int.pow_succ,←Int.mul_assoc,←e]
      exact hd
    · exact ⟨0,m,by simp,h⟩

theorem Ow:∀(i j:Nat) (u v:Int),Int.tmod u 10≠0→Int.tmod v 10≠0→u*10 ^ i=v*10 ^ j→i=j∧u=v
  | 0,0,u,v,_,_,h=>⟨rfl,by simpa using h⟩
  | 0,j+1,u,v,hu,_,h=>by
    exfalso
    apply hu
    have:u=(v*10 ^ j)*10:=by rw[Int.pow_succ,←Int.mul_assoc]at h; simpa using h
    rw[this]
    exact Int.mul_tmod_left _ _
  | i+1,0,u,v,_,hv,h=>by
    exfalso
    apply hv
    have:v=(u*10 ^ i)*10:=by rw[Int.pow_succ,←Int.mul_assoc]at h; simpa using h.symm
    rw[this]
    exact Int.mul_tmod_left _ _
  | i+1,j+1,u,v,hu,hv,h=>by
    have h2:u*10 ^ i=v*10 ^ j:=by
      rw[Int.pow_succ,Int.pow_succ,←Int.mul_assoc,←Int.mul_assoc]at h
      omega
    obtain ⟨h3,h4⟩:=Ow i j u v hu hv h2
    exact ⟨by omega,h4⟩

theorem Ox (j:Nat):(1:Int)≤10 ^ j:=by
  induction j with
  | zero=>simp
  | succ j ih=>rw[Int.pow_succ]; omega

theorem D4 (u:Int) (j:Nat):u.natAbs≤(u*10 ^ j).natAbs:=by
  rw[Int.natAbs_mul]
  have h:=Ox j
  have:1≤((10:Int) ^ j).natAbs:=by omega
  exact Nat.le_mul_of_pos_right _ this

theorem Ti (u:Int) (hu:u≠0):∀j:Nat,j≤(u*10 ^ j).natAbs:=by
  intro j
  rw[Int.natAbs_mul]
  have h1:1≤u.natAbs:=by omega
  have h2:j≤((10:Int) ^ j).natAbs:=by
    induction j with
    | zero=>simp
    | succ j ih =>
      have:=Ox j
      rw[Int.pow_succ,Int.natAbs_mul]
      show j+1≤((10:Int) ^ j).natAbs*10
      omega
  calc j≤((10:Int) ^ j).natAbs:=h2
    _≤u.natAbs*((10:Int) ^ j).natAbs:=Nat.le_mul_of_pos_left _ h1

theorem Rl (u:Int) (hu:u≠0) (j:Nat):2 ^ j≤(u*10 ^ j).natAbs:=by
  rw[Int.natAbs_mul]
  have h2:∀j:Nat,2 ^ j≤((10:Int) ^ j).natAbs:=by
    intro j
    induction j with
    | zero=>simp
    | succ j ih =>
      rw[Int.pow_succ,Int.natAbs_mul,Nat.pow_succ]
      show 2 ^ j*2≤((10:Int) ^ j).natAbs*10
      omega
  exact Nat.le_trans (h2 j) (Nat.le_mul_of_pos_left _ (by omega))

theorem Mx {u:Int} (hu:u≠0) {j:Nat} (hb:DR (u*10 ^ j)):j<64:=by
  have h:=Rl u hu j
  unfold DR at hb
  rcases Nat.lt_or_ge j 64 with h1|h1
  · exact h1
  · have h2:(2:Nat) ^ 64≤2 ^ j:=Nat.pow_le_pow_right (by omega) h1
    have h3:(2:Nat) ^ 64=18446744073709551616:=rfl
    omega

theorem V2 {R:Type} (d:iO) (e0:Int→Int→iO→Option R):∀(j n:Nat) (u x:Int),j<n→Int.tmod u 10≠0→DR (u*10 ^ j) → -9223372036854775808≤x→x+j≤4000000000000000000 →
    bx n (u*10 ^ j) x d e0=e0 u (x+j) d:=by
  intro j
  induction j with
  | zero =>
    intro n u x hn hu hb h1 h2
    obtain ⟨m,rfl⟩:∃m,n=m+1:=⟨n - 1,by omega⟩
    have e:bx (m+1) (u*10 ^ 0) x d e0=ma (fun l0 l7 nj=>bx m l0 l7 nj e0) (u*10 ^ 0) x d e0:=rfl
    rw[e]
    unfold ma
    have e1:u*10 ^ 0=u:=by simp
    have e2:(Int.tmod u 10==0)=false:=by rw[beq_eq_false_iff_ne]; exact hu
    rw[e1,e2,cond_false]
    simp
  | succ j ih =>
    intro n u x hn hu hb h1 h2
    obtain ⟨m,rfl⟩:∃m,n=m+1:=⟨n - 1,by omega⟩
    have e:bx (m+1) (u*10 ^ (j+1)) x d e0=ma (fun l0 l7 nj=>bx m l0 l7 nj e0) (u*10 ^ (j+1)) x d e0:=rfl
    rw[e]
    unfold ma
    have ep:u*10 ^ (j+1)=u*10 ^ j*10:=by rw[Int.pow_succ,Int.mul_assoc]
    unfold DR at hb
    rw[ep]at hb ⊢
    have e1:(Int.tmod (u*10 ^ j*10) 10==0)=true:=by rw[Int.mul_tmod_left]; rfl
    have e2:Int.tdiv (u*10 ^ j*10) 10=u*10 ^ j:=Int.mul_tdiv_cancel _ (by omega)
    rw[e1,cond_true,e2,dD (n:=u*10 ^ j) (by omega) (by omega),dD (n:=x+1) (by omega) (by omega)]
    show bx m (u*10 ^ j) (x+1) d e0=_
    rw[ih m u (x+1) (by omega) hu (by unfold DR; omega) (by omega) (by omega)]
    have:x+1+(j:Int)=x+((j+1:Nat):Int):=by omega
    rw[this]

theorem Dk {R:Type} (a b c:Int) (k:Bool→Option R):aY a b c k=k (decide (a≤b)&&decide (b≤c)):=by
  have e:aY a b c k=oM a b c k:=rfl
  rw[e]
  unfold oM
  by_cases h1:a≤b
  · rw[bq h1]; first|rfl|simp
  · rw[cY h1]; first|rfl|simp

def V3 (u x:Int):iO × Bool:=if -1000000000000000≤u∧u≤1000000000000000 ∧ -9≤x∧x≤9 then (⟨u,x⟩,true)else (⟨0,0⟩,false)

theorem Uq {R:Type} (u:Int) (j:Nat) (x:Int) (hu:Int.tmod u 10≠0) (hb:DR (u*10 ^ j)) (h1 : -9223372036854775808≤x) (h2:x≤1000000) (k:iO→Bool→Option R) :
    bL (u*10 ^ j) x k=k (V3 u (x+j)).1 (V3 u (x+j)).2:=by
  have e:bL (u*10 ^ j) x k=oc aY bx (u*10 ^ j) x k:=rfl
  rw[e]
  unfold oc
  have hu0:u≠0:=by rintro rfl; exact hu rfl
  have ha:=D4 u j
  have hn:=Ti u hu0 j
  have h64:=Mx hu0 hb
  have h0:(u*10 ^ j==0)=false:=by rw[beq_eq_false_iff_ne]; omega
  have hm:min x 1000000=x:=Int.min_eq_left h2
  unfold DR at hb
  rw[h0,cond_false,hm,V2 _ _ j _ u x (by omega) hu (by unfold DR; exact hb) h1 (by omega)]
  rw[Dk]
  unfold V3
  by_cases c1 : -1000000000000000≤u∧u≤1000000000000000
  · rw[bq c1.1,bq c1.2]
    simp only[Bool.and_self,Bool.not_true,cond_false]
    rw[Dk]
    by_cases c2 : -9≤x+(j:Int)∧x+(j:Int)≤9
    · rw[bq c2.1,bq c2.2,if_pos ⟨c1.1,c1.2,c2.1,c2.2⟩]
      rfl
    · rw[if_neg (fun h=>c2 h.2.2)]
      have:(decide (-9≤x+(j:Int))&&decide (x+(j:Int)≤9))=false:=by
        rw[Bool.and_eq_false_iff,decide_eq_false_iff_not,decide_eq_false_iff_not]; omega
      rw[this]
      rfl
  · rw[if_neg (fun h=>c1 ⟨h.1,h.2.1⟩)]
    have:(decide (-1000000000000000≤u)&&decide (u≤1000000000000000))=false:=by
      rw[Bool.and_eq_false_iff,decide_eq_false_iff_not,decide_eq_false_iff_not]; omega
    rw[this]
    rfl

theorem Oy {R:Type} (x:Int) (k:iO→Bool→Option R):bL 0 x k=k ⟨0,0⟩ true:=by
  have e:bL 0 x k=oc aY bx 0 x k:=rfl
  rw[e]
  rfl

theorem YS {R:Type} {u x:Int} (hu:Int.tmod u 10≠0) (h : -1000000000000000≤u∧u≤1000000000000000 ∧ -9≤x∧x≤9) (k:Bool→Option R):cd ⟨u,x⟩ k=k true:=by
  have e:cd ⟨u,x⟩ k=lK aY ⟨u,x⟩ k:=rfl
  rw[e]
  unfold lK
  have hu0:u≠0:=by rintro rfl; exact hu rfl
  have e1:(u==0)=false:=by rw[beq_eq_false_iff_ne]; exact hu0
  have e2:(Int.tmod u 10 != 0)=true:=bne_iff_ne.2 hu
  simp only[e1,e2,cond_false,cond_true,Dk]
  rw[bq h.1,bq h.2.1,bq h.2.2.1,bq h.2.2.2]
  rfl

end Go.Proofs.YtmlkkgfenfdndaaGreatDoor

set_option maxRecDepth 100000
namespace Go.Proofs.YtmlkkgfenfdndaaGreatDoor
open Go Go.ay Go.Lib

def Fm (d:iO):Prop:=(d.aB=0∧d.exp=0)∨(Int.tmod d.aB 10≠0 ∧ -1000000000000000≤d.aB∧d.aB≤1000000000000000 ∧ -9≤d.exp∧d.exp≤9)

theorem Fm.bounds {d:iO} (h:Fm d) : -1000000000000000≤d.aB∧d.aB≤1000000000000000 ∧ -9≤d.exp∧d.exp≤9:=by
  rcases h with h|h <;> omega
theorem Fm.nz {d:iO} (h:Fm d) (h0:d.aB≠0):Int.tmod d.aB 10≠0:=by
  rcases h with h|h
  · exact (h0 h.1).elim
  · exact h.1
theorem Fm.zero {d:iO} (h:Fm d) (h0:d.aB=0):d=⟨0,0⟩:=by
  rcases h with h|h
  · cases d; simp only at h; rw[h.1,h.2]
  · exact (h.1 (by rw[h0]; rfl)).elim
theorem Fm.mk0:Fm ⟨0,0⟩ := .inl ⟨rfl,rfl⟩
theorem tmod_neg {m:Int} (h:Int.tmod m 10≠0):Int.tmod (-m) 10≠0:=by rw[Int.neg_tmod]; omega
theorem Fm.neg {d:iO} (h:Fm d):Fm ⟨-d.aB,d.exp⟩:=by
  rcases h with h|h
  · exact .inl ⟨by simp only; omega,h.2⟩
  · exact .inr ⟨tmod_neg h.1,by simp only; omega,by simp only; omega,h.2.2.2⟩

theorem YT {R:Type} {d:iO} (h:Fm d) (k:Bool→Option R):cd d k=k true:=by
  rcases h with h|h
  · have e:cd d k=lK aY d k:=rfl
    rw[e]
    unfold lK
    rw[h.1,h.2]
    rfl
  · cases d; exact YS h.1 h.2 k

theorem YU {R:Type} (x:Int) (d:iO) (e0:Int→Int→iO→Option R):∀(j n:Nat) (u:Int),j<n→Int.tmod u 10≠0→DR (u*10 ^ j) →
    cu n (u*10 ^ j) x d e0=e0 u x d:=by
  intro j
  induction j with
  | zero =>
    intro n u hn hu hb
    obtain ⟨m,rfl⟩:∃m,n=m+1:=⟨n - 1,by omega⟩
    have e:cu (m+1) (u*10 ^ 0) x d e0=oD (fun l0 l7 nj=>cu m l0 l7 nj e0) (u*10 ^ 0) x d e0:=rfl
    rw[e]
    unfold oD
    have e1:u*10 ^ 0=u:=by simp
    have e2:(Int.tmod u 10==0)=false:=by rw[beq_eq_false_iff_ne]; exact hu
    have e3:(u != 0)=true:=bne_iff_ne.2 (by rintro rfl; exact hu rfl)
    rw[e1,e3,cond_true,e2,cond_false]
  | succ j ih =>
    intro n u hn hu hb
    obtain ⟨m,rfl⟩:∃m,n=m+1:=⟨n - 1,by omega⟩
    have e:cu (m+1) (u*10 ^ (j+1)) x d e0=oD (fun l0 l7 nj=>cu m l0 l7 nj e0) (u*10 ^ (j+1)) x d e0:=rfl
    rw[e]
    unfold oD
    have ep:u*10 ^ (j+1)=u*10 ^ j*10:=by rw[Int.pow_succ,Int.mul_assoc]
    have hu0:u≠0:=by rintro rfl; exact hu rfl
    have hab:=D4 u (j+1)
    have e3:(u*10 ^ (j+1) != 0)=true:=bne_iff_ne.2 (by omega)
    unfold DR at hb
    rw[e3,cond_true]
    rw[ep]at hb ⊢
    have e1:(Int.tmod (u*10 ^ j*10) 10==0)=true:=by rw[Int.mul_tmod_left]; rfl
    have e2:Int.tdiv (u*10 ^ j*10) 10=u*10 ^ j:=Int.mul_tdiv_cancel _ (by omega)
    rw[e1,cond_true,e2,dD (n:=u*10 ^ j) (by omega) (by omega)]
    exact ih m u (by omega) hu (by unfold DR; omega)

theorem fit_ok {R:Type} (a b:Int) (ha:DR a) (hb:DR b):∃d:iO,Fm d∧∀k:iO→Option R,di a b k=k d:=by
  obtain ⟨m,m0,m1,hm⟩:=YR (R:=R) a 2000000000000001 ha (by omega) (by omega)
  obtain ⟨x,x0,x1,hx⟩:=YR (R:=R) b 19 hb (by omega) (by omega)
  have e:∀k:iO→Option R,di a b k=zk gh cu a b k:=fun _=>rfl
  by_cases h0:m - 1000000000000000=0
  · refine ⟨⟨0,0⟩, .mk0,fun k => ?_⟩
    rw[e]
    unfold zk
    rw[hm,hx,dD (n:=m - 1000000000000000) (by omega) (by omega),h0]
    rfl
  · obtain ⟨j,u,hu,hd⟩:=Mw ((m - 1000000000000000).natAbs+1) _ h0 (by omega)
    have hab:=D4 u j
    have hb64:DR (u*10 ^ j):=by unfold DR; omega
    have h64:=Mx (by rintro rfl; exact hd rfl) hb64
    refine ⟨⟨u,x - 9⟩, .inr ⟨hd,by simp only; omega,by simp only; omega,by simp only; omega,by simp only; omega⟩,fun k => ?_⟩
    rw[e]
    unfold zk
    rw[hm,hx,dD (n:=m - 1000000000000000) (by omega) (by omega),dD (n:=x - 9) (by omega) (by omega)]
    have key:=fun (F:Nat) (hF:j<F)=>YU (R:=R) (x - 9) ⟨0,0⟩ (fun y9 yf wc=>bif (y9==0)then (k (⟨y9,0⟩:iO))else (k (⟨y9,yf⟩:iO))) j F u hF hd hb64
    rw[←hu]at key
    rw[key _ (by omega)]
    have e0:(u==0)=false:=by rw[beq_eq_false_iff_ne]; rintro rfl; exact hd rfl
    rw[e0]
    rfl


def Made (m x:Int) (r:iO × Bool):Prop:=(m=0∧r=(⟨0,0⟩,true))∨∃(u:Int) (j:Nat),m=u*10 ^ j∧Int.tmod u 10≠0∧r=V3 u (x+j)

theorem YV {R:Type} (m x:Int) (hm:DR m) (h1 : -4000000000000000000≤x) (h2:x≤1000000):∃r:iO × Bool,Made m x r∧∀k:iO→Bool→Option R,bL m x k=k r.1 r.2:=by
  by_cases h0:m=0
  · subst h0
    exact ⟨_, .inl ⟨rfl,rfl⟩,fun k=>Oy x k⟩
  · obtain ⟨j,u,hu,hd⟩:=Mw (m.natAbs+1) m h0 (by omega)
    exact ⟨_, .inr ⟨u,j,hu,hd,rfl⟩,fun k=>by subst hu; exact Uq u j x hd hm (by omega) h2 k⟩

def val (d:iO):Int:=d.aB*10 ^ (d.exp+9).toNat

theorem Rm (u:Nat) (h:0<u):10 ^ (nDigits u - 1)≤u:=by
  induction u using Nat.strongRecOn with
  | _ u ih =>
    by_cases h1:u<10
    · rw[nDigits_small h1]; exact h
    · rw[nDigits_big h1,Nat.add_sub_cancel]
      have h2:=ih (u / 10) (by omega) (by omega)
      have h3:=nDigits_pos (u / 10)
      have e:nDigits (u / 10)=(nDigits (u / 10) - 1)+1:=by omega
      rw[e,Nat.pow_succ]
      omega

theorem My {u:Nat} (h:u≤1000000000000000):nDigits u≤16:=by
  rcases Nat.eq_zero_or_pos u with rfl|h0
  · rw[nDigits_small (by omega)]; omega
  · have h1:=Rm u h0
    rcases Nat.lt_or_ge (nDigits u) 17 with h2|h2
    · omega
    · have h3:(10:Nat) ^ 16≤10 ^ (nDigits u - 1):=Nat.pow_le_pow_right (by omega) (by omega)
      have e:(10:Nat) ^ 16=10000000000000000:=rfl
      omega

theorem V4 {d:iO} (h:Fm d) (h0:d.aB≠0) {j:Nat} {x:Int} (hx:x+j=d.exp) {r:iO × Bool} (hr:Made (d.aB*10 ^ j) x r):r=(d,true):=by
  have hz:=h.nz h0
  have hab:=D4 d.aB j
  rcases hr with ⟨h1,_⟩|⟨u,i,e,hu,rfl⟩
  · omega
  · obtain ⟨rfl,rfl⟩:=Ow i j u d.aB hu hz e.symm
    have b:=h.bounds
    unfold V3
    rw[if_pos (by omega),hx]

end Go.Proofs.YtmlkkgfenfdndaaGreatDoor

set_option maxRecDepth 100000
namespace Go.Proofs.YtmlkkgfenfdndaaGreatDoor
open Go Go.ay

abbrev zs (s:aj):List Int:=s.map fun b=>(b.toNat:Int)
theorem Tj (s t:aj):zs (s++t)=zs s++zs t:=List.map_append
theorem JE (s:aj):oy s=zs s:=rfl
theorem Hj (s:aj):(zs s).length=s.length:=List.length_map _
theorem tu (s:aj):sD (zs s)=s:=by
  unfold sD zs
  rw[List.map_map]
  conv=>rhs; rw[←List.map_id s]
  exact List.map_congr_left fun b _=>by simp
theorem yo (n:Nat) (h:n<256):((UInt8.ofNat n).toNat:Int)=n:=by rw[gX n h]

def Iv (s:aj):Prop:=s.length≤100000000000

theorem wb {R:Type} (b:UInt8) (s:aj) (hl:Iv s) (k:List Int→Option R):ad (b.toNat:Int) (zs s) k=k (zs (s ++ [b])):=by
  show cX (decide (((zs s).length+1)*1≤140737488355328)) (k (zs s ++ [(b.toNat:Int)]))=_
  unfold Iv at hl
  rw[aT (bq (by rw[Hj]; omega)),Tj]
  rfl

theorem ws {R:Type} (x:aj) (s:aj) (hx:x.length≤100000000000) (hl:Iv s) (k:Int→List Int→Option R):af x (zs s) k=k (x.length:Int) (zs (s++x)):=by
  show cX (decide (((zs s).length+(oy x).length)*1≤140737488355328)) (k (x.length:Int) (zs s++oy x))=_
  unfold Iv at hl
  rw[JE,aT (bq (by rw[Hj,Hj]; omega)),Tj]

theorem or128:∀x:Fin 64,IntKind.u8.wrap ((BitVec.ofInt IntKind.u8.bits 128 ||| BitVec.ofInt IntKind.u8.bits (x.val:Int)).toNat:Int)=((128+x.val:Nat):Int):=by decide +kernel
theorem or192:∀x:Fin 32,IntKind.u8.wrap ((BitVec.ofInt IntKind.u8.bits 192 ||| BitVec.ofInt IntKind.u8.bits (IntKind.u8.wrap (x.val:Int))).toNat:Int)=((192+x.val:Nat):Int):=by decide +kernel
theorem or224:∀x:Fin 16,IntKind.u8.wrap ((BitVec.ofInt IntKind.u8.bits 224 ||| BitVec.ofInt IntKind.u8.bits (IntKind.u8.wrap (x.val:Int))).toNat:Int)=((224+x.val:Nat):Int):=by decide +kernel
theorem or240:∀x:Fin 8,IntKind.u8.wrap ((BitVec.ofInt IntKind.u8.bits 240 ||| BitVec.ofInt IntKind.u8.bits (IntKind.u8.wrap (x.val:Int))).toNat:Int)=((240+x.val:Nat):Int):=by decide +kernel
theorem and63:∀x:Fin 256,IntKind.u8.wrap ((BitVec.ofInt IntKind.u8.bits (x.val:Int) &&& BitVec.ofInt IntKind.u8.bits 63).toNat:Int)=((x.val % 64:Nat):Int):=by decide +kernel

theorem YW (n:Nat):IntKind.u8.wrap (n:Int)=((n % 256:Nat):Int):=by
  simp only[IntKind.wrap,IntKind.bits,IntKind.signed]
  simp
theorem Ur {n:Nat} (h:n<1114112):IntKind.u32.wrap (n:Int)=(n:Int):=by
  simp only[IntKind.wrap,IntKind.bits,IntKind.signed]
  simp
  omega
theorem shr (c n:Nat) (h:n≤32):Int.fdiv (c:Int) (2 ^ (min n IntKind.i32.bits))=((c / 2 ^ n:Nat):Int):=by
  have e:min n IntKind.i32.bits=n:=Nat.min_eq_left h
  rw[e,Int.fdiv_eq_ediv_of_nonneg _ (by exact Int.le_of_lt (Int.pow_pos (by omega)))]
  rw[Int.natCast_ediv]
  congr 1

theorem cont (c:Nat):IntKind.u8.wrap ((BitVec.ofInt IntKind.u8.bits 128 ||| BitVec.ofInt IntKind.u8.bits (IntKind.u8.wrap ((BitVec.ofInt IntKind.u8.bits (IntKind.u8.wrap (c:Int)) &&& BitVec.ofInt IntKind.u8.bits 63).toNat:Int))).toNat:Int)=((128+c % 64:Nat):Int):=by
  have h1:=and63 ⟨c % 256,Nat.mod_lt _ (by omega)⟩
  simp only at h1
  rw[YW c,h1,show c % 256 % 64=c % 64 by omega]
  exact or128 ⟨c % 64,Nat.mod_lt _ (by omega)⟩

theorem zs_enc1 (n:Nat) (h:n<256):zs [UInt8.ofNat n] = [(n:Int)]:=by simp only[zs,List.map_cons,List.map_nil,yo n h]

theorem ar {R:Type} {c:Nat} (hv:vr c) (s:aj) (hl:Iv s) (k:List Int→Option R):bN (zs s) (c:Int) k=k (zs (s++enc c)):=by
  have kY:=Ot hv
  unfold Iv at hl
  show iY bw (zs s) (c:Int) k=_
  unfold iY
  rw[Ur kY,Tj]
  rcases C7 hv with ⟨h1,e⟩|⟨h0,h1,e⟩|⟨h0,h1,e⟩|⟨h0,e⟩
  · rw[bq (show (c:Int)≤127 by omega),cond_true,aT (bq (by rw[Hj]; omega)),e,zs_enc1 c (by omega),YW,Nat.mod_eq_of_lt (by omega)]
  all_goals
    rw[cY (show ¬(c:Int)≤127 by omega),cond_false]
    show fG (zs s) (c:Int) _=_
    unfold fG
    rw[Ur kY,e]
    simp only[cont,shr _ 6 (by omega),shr _ 12 (by omega),shr _ 18 (by omega),Hj]
  · rw[bq (show (c:Int)≤2047 by omega),cond_true,aT (bq (by omega))]
    have:=or192 ⟨c / 64,by omega⟩
    simp only at this
    rw[show c / 2 ^ 6=c / 64 from rfl,this]
    simp only[zs,List.map_cons,List.map_nil,yo (192+c / 64) (by omega),yo (128+c % 64) (by omega)]
  · rw[cY (show ¬(c:Int)≤2047 by omega),cond_false]
    unfold vr at hv
    by_cases h2:c<55296
    · rw[bq (show (c:Int)<55296 by omega),cond_true,cond_true,aT (bq (by omega))]
      have:=or224 ⟨c / 4096,by omega⟩
      simp only at this
      rw[show c / 2 ^ 12=c / 4096 from rfl,this]
      simp only[zs,List.map_cons,List.map_nil,yo (224+c / 4096) (by omega),yo (128+c % 64) (by omega),yo (128+c / 64 % 64) (by omega)]
    rw[cY (show ¬(c:Int)<55296 by omega),cond_false,bq (show (57343:Int)<(c:Int) by omega),cond_true,bq (show (c:Int)≤65535 by omega),cond_true,aT (bq (by omega))]
    have:=or224 ⟨c / 4096,by omega⟩
    simp only at this
    rw[show c / 2 ^ 12=c / 4096 from rfl,this]
    simp only[zs,List.map_cons,List.map_nil,yo (224+c / 4096) (by omega),yo (128+c % 64) (by omega),yo (128+c / 64 % 64) (by omega)]
  · rw[cY (show ¬(c:Int)≤2047 by omega),cond_false]
    rw[cY (show ¬(c:Int)<55296 by omega),cond_false,bq (show (57343:Int)<(c:Int) by omega),cond_true,cY (show ¬(c:Int)≤65535 by omega),cond_false,
      bq (show (c:Int)>65535 by omega),cond_true,bq (show (c:Int)≤1114111 by omega),cond_true,aT (bq (by omega))]
    have:=or240 ⟨c / 262144,by omega⟩
    simp only at this
    rw[show c / 2 ^ 18=c / 262144 from rfl,this]
    simp only[zs,List.map_cons,List.map_nil,yo (240+c / 262144) (by omega),yo (128+c % 64) (by omega),yo (128+c / 64 % 64) (by omega),yo (128+c / 4096 % 64) (by omega)]

theorem wr {R:Type} {c:Nat} (hv:vr c) (s:aj) (hl:Iv s) (k:Int→List Int→Option R):∃n:Int,ai (c:Int) (zs s) k=k n (zs (s++enc c)):=by
  refine ⟨IntKind.i64.wrap (((zs (s++enc c)).length:Int) - ((zs s).length:Int)),?_⟩
  show hM bN (c:Int) (zs s) k=_
  unfold hM
  rw[ar hv s hl]
end Go.Proofs.YtmlkkgfenfdndaaGreatDoor

set_option maxRecDepth 100000
namespace Go.Proofs.YtmlkkgfenfdndaaGreatDoor
open Go Go.ay Go.Lib

def jU (n:Nat):aj:=List.replicate n 48
theorem qj (n:Nat):(jU n).length=n:=List.length_replicate
theorem GD:∀n:Nat,repeatL [48] n=jU n
  | 0=>rfl
  | n+1=>by
    have:=GD n
    simp[repeatL,jU,List.replicate_succ]at this ⊢
    try exact this
theorem Tk (z:Int):lG [48] z=jU z.toNat:=GD _

def body (L:aj) (e:Int):aj :=
  if 0≤e then L++jU e.toNat
  else
    let t:=jU (max 0 (1 - e - (L.length:Int))).toNat++L
    t.take ((t.length:Int)+e).toNat ++ [46]++t.drop ((t.length:Int)+e).toNat
def NL (d:iO):aj:=(if d.aB<0 then [45]else [])++body (decDigits d.aB.natAbs) d.exp

theorem wsn {R:Type} (x:aj) (hx:x.length≤100000000000) (k:Int→List Int→Option R):ag x k=k (x.length:Int) (zs x):=by
  show cX (decide ((0+(oy x).length)*1≤140737488355328)) (k (x.length:Int) (oy x))=_
  rw[JE,aT (bq (by rw[Hj]; omega))]

theorem YX {R:Type} {d:iO} (h:Fm d) (k:aj→Option R):bc d k=k (NL d):=by
  have b:=h.bounds
  have e:bc d k=oH cd ah af ag d k:=rfl
  rw[e]
  unfold oH
  rw[YT h,Bool.not_true,cond_false]
  have hL:cv (max d.aB (IntKind.i64.wrap (0 - d.aB)))=decDigits d.aB.natAbs:=by
    rw[dD (n:=0 - d.aB) (by omega) (by omega)]
    have hm:max d.aB (0 - d.aB)=(d.aB.natAbs:Int):=by omega
    rw[hm]
    exact itoa_nonneg _
  have hlen:(decDigits d.aB.natAbs).length≤16:=by rw[decDigits_length]; exact My (by omega)
  simp only[hL,Tk]
  unfold NL
  generalize decDigits d.aB.natAbs=L at *
  have w1:IntKind.i64.wrap (1 - d.exp)=1 - d.exp:=dD (by omega) (by omega)
  have w2:IntKind.i64.wrap (1 - d.exp - (L.length:Int))=1 - d.exp - (L.length:Int):=dD (by omega) (by omega)
  rw[w1,w2]
  have one:(([48]:aj).length:Int)=1:=rfl
  rw[one]
  have z0:0≤max 0 (1 - d.exp - (L.length:Int)):=by omega
  have zl:max 0 (1 - d.exp - (L.length:Int))≤10:=by omega
  have zL:1 - d.exp≤max 0 (1 - d.exp - (L.length:Int))+L.length:=by omega
  unfold body
  simp only
  generalize max 0 (1 - d.exp - (L.length:Int))=z at *
  have tl:(jU z.toNat++L).length=z.toNat+L.length:=by rw[List.length_append,qj]
  generalize jU z.toNat++L=t at *
  have Rn:∀a b:aj,(a++b).length=a.length+b.length:=fun a b=>List.length_append
  have lone:([46]:aj).length=1:=rfl
  have e45:([45]:List Int)=zs [45]:=rfl
  have q2:∀(x:Int) (f:List Int→Option R),ah x f=f [x]:=fun _ _=>rfl
  have lim45:Iv [45]:=by unfold Iv; simp
  by_cases he:0≤d.exp
  · rw[bq (show d.exp≥0 from he),if_pos he]
    by_cases hm:d.aB<0
    · rw[bq hm,if_pos hm]
      simp only[cond_true]
      rw[q2,aT (by rw[bq (show 1*d.exp≤140737488355328 by omega)]; rfl),aT (bq (by rw[qj]; omega)),e45,ws _ _ (by rw[Rn,qj]; omega) lim45,tu]
    · rw[cY hm,if_neg hm]
      simp only[cond_true,cond_false]
      rw[aT (by rw[bq (show 1*d.exp≤140737488355328 by omega)]; rfl),aT (bq (by rw[qj]; omega)),wsn _ (by rw[Rn,qj]; omega),tu]
      rfl
  · have wt:IntKind.i64.wrap ((t.length:Int)+d.exp)=(t.length:Int)+d.exp:=dD (by omega) (by omega)
    rw[cY (show ¬d.exp≥0 from he),if_neg he]
    simp only[wt,List.drop_zero,Nat.sub_zero,Int.toNat_natCast,cond_false]
    have l1:(t.take ((t.length:Int)+d.exp).toNat).length≤t.length:=by rw[List.length_take]; omega
    have l2:(t.drop ((t.length:Int)+d.exp).toNat).length≤t.length:=by rw[List.length_drop]; omega
    have c1:(decide ((0:Int)≤(t.length:Int)+d.exp)&&decide ((t.length:Int)+d.exp≤(t.length:Int)))=true:=by rw[bq (by omega),bq (by omega)]; rfl
    have c2:(decide ((0:Int)≤(t.length:Int))&&decide ((t.length:Int)≤(t.length:Int)))=true:=by rw[bq (by omega),bq (by omega)]; rfl
    have c3:(decide ((0:Int)≤z)&&decide (1*z≤140737488355328))=true:=by rw[bq z0,bq (by omega)]; rfl
    have et:(t.drop ((t.length:Int)+d.exp).toNat).take (t.length - ((t.length:Int)+d.exp).toNat)=t.drop ((t.length:Int)+d.exp).toNat:=List.take_of_length_le (by rw[List.length_drop]; exact Nat.le_refl _)
    rw[et]
    by_cases hm:d.aB<0
    · rw[bq hm,if_pos hm]
      simp only[cond_true]
      rw[q2,aT c3,aT (bq (by rw[qj]; omega)),aT c1,aT (bq (by omega)),aT (bq (by omega)),aT c2,aT c1,aT (bq (by rw[Rn,lone]; omega)),e45,ws _ _ (by rw[Rn,Rn,lone]; omega) lim45,tu]
    · rw[cY hm,if_neg hm]
      simp only[cond_false]
      rw[aT c3,aT (bq (by rw[qj]; omega)),aT c1,aT (bq (by omega)),aT (bq (by omega)),aT c2,aT c1,aT (bq (by rw[Rn,lone]; omega)),wsn _ (by rw[Rn,Rn,lone]; omega),tu]
      rfl
end Go.Proofs.YtmlkkgfenfdndaaGreatDoor

