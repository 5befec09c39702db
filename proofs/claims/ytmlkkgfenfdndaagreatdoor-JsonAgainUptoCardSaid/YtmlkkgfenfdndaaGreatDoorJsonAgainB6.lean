/-
  JsonAgain: for every input whose bulk is at most 1048576 the law returns true, and each argument reads behind the call as it read before; part 6 of 9 of the proof: an interpreter of the model's code over typed data, proved sound; the functions that the law reaches, printed as Lean functions and tied; the plain law. Own texts laid one behind the other.
-/
import Derived.Test.YtmlkkgfenfdndaaGreatDoorCards
import Derived.Test.YtmlkkgfenfdndaaGreatDoorTie
import Derived.Lib.LaidU8T
import Derived.Stop.LaidErr
import Derived.Deep.DeepHandedRow
import Derived.Deep.DeepWitnessRowRef
import Derived.WalkKit
import Derived.ProofKit
import Derived.OpenShut
import Derived.KernelRfl
import Derived.Lib.ValidU
import Derived.Lib.ItoaLen
import Derived.Lib.Repeat
import Derived.Lib.AtoiAll
import Derived.Lib.IndexAny
import Derived.Lib.Bytealg
import Derived.Lib.SlTrimSet
import Derived.Lib.LastIndexByte
import Derived.Lib.ValidLaws
import Derived.Lib.MapLaws
import Derived.Lib.TrimUEq
import Derived.Lib.RuneBytes
import Derived.Sort.Grow
import Derived.Shelf.Strings.BuilderX
import Derived.Lib.ItoaMem
import Derived.Test.YtmlkkgfenfdndaaGreatDoorJsonAgainB5
set_option linter.unusedSimpArgs false
set_option linter.unnecessarySimpa false
set_option linter.unusedVariables false
set_option linter.unusedSectionVars false
set_option maxRecDepth 100000
namespace Go.Proofs.YtmlkkgfenfdndaaGreatDoor.Door
open Go Go.Lib Go.RowKit Go.ChangeShapes Go.ay

theorem own:ownKnob Tryz.prog.godebug=none:=by kernel_rfl
theorem leaves:FP Tryz.prog Go.Proofs.YtmlkkgfenfdndaaGreatDoor.tt:=WW (by kernel_rfl)

theorem gSyn:Tryz.prog.globalNamed "strconv.ErrSyntax" = some 4:=by kernel_rfl
theorem gRng:Tryz.prog.globalNamed "strconv.ErrRange" = some 5:=by kernel_rfl
theorem tSyn:(Tryz.prog.globals[4]?).map (·.type)=some 94:=by kernel_rfl
theorem tRng:(Tryz.prog.globals[5]?).map (·.type)=some 94:=by kernel_rfl
theorem star : "*" ++ "errors.errorString" = "*errors.errorString" :=by decide
theorem ZB (u:TypeId) (h:Tryz.prog.typeName? 3 u=some "*errors.errorString"):u=204 :=
  typeName_ptr_named (nm := "errors.errorString") (by rw[star]; kernel_rfl) (by kernel_rfl) (by decide) u (by rw[star]; exact h)

theorem W1 {n:String} {g:Nat} {W:World} {cs:Array Value} (hg:Tryz.prog.globalNamed n=some g) (h:W.var? Tryz.prog n=some cs):g<W.heap.size:=by
  unfold World.var? at h
  simp only[hg,Option.bind_some]at h
  rcases Nat.lt_or_ge g W.heap.size with h'|h'
  · exact h'
  · simp[Array.getElem?_eq_none h']at h

theorem lay_met {W:World} (h:laidMet Tryz.prog Rows.topTextsUptoRow.laid W):oZ.VP W∧∀b,oZ.blocks b→b<W.heap.size:=by
  have r0:VarReads Tryz.prog W "unicode/utf8.first" firstData:=laidMet.reads h (.tail _ (.tail _ (.tail _ (.tail _ (.tail _ (.tail _ (.head _)))))))
  have r1:VarReads Tryz.prog W "unicode/utf8.acceptRanges" acceptData:=laidMet.reads h (.tail _ (.tail _ (.tail _ (.head _))))
  have ht:Utf8Tabs 1 2 W:=utf8Tabs_of_readsT (U8Types.of196 Tryz.Zy) ⟨by kernel_rfl,by kernel_rfl,by kernel_rfl,by kernel_rfl,by kernel_rfl,by kernel_rfl,by kernel_rfl⟩ r0 r1
  have h2:=laidMet.tail (laidMet.tail h)
  have hp:TabIs Tryz.prog W "internal/strconv.uint64pow10" .u64 pow10Tab:=tabIs_of_head (t:=192) (e:=165) (n:=20) OS (by kernel_rfl) (by kernel_rfl) (by kernel_rfl) (by kernel_rfl) (by kernel_rfl) h2
  have h4:=laidMet.tail (laidMet.tail h2)
  obtain ⟨a3,s3,v3,_⟩:=laid_sentinel (ms := #[("Error",75)]) (f := { name := "s",type:=9,offset:=0,embedded:=false,tag := "",pkgPath := "errors",byteOffset:=0 }) (te:=206) (ts:=9) h4 gRng tRng (by kernel_rfl) ZB (by kernel_rfl) (by kernel_rfl) rfl rfl (by kernel_rfl) (by kernel_rfl) (by kernel_rfl)
  obtain ⟨a2,s2,v2,_⟩:=laid_sentinel (ms := #[("Error",75)]) (f := { name := "s",type:=9,offset:=0,embedded:=false,tag := "",pkgPath := "errors",byteOffset:=0 }) (te:=206) (ts:=9) (laidMet.tail h4) gSyn tSyn (by kernel_rfl) ZB (by kernel_rfl) (by kernel_rfl) rfl rfl (by kernel_rfl) (by kernel_rfl) (by kernel_rfl)
  refine ⟨⟨ht,hp,⟨_,_,World.var?_cell gSyn v2 0⟩,⟨_,_,World.var?_cell gRng v3 0⟩⟩,fun b hb => ?_⟩
  have hb:b<8:=hb
  obtain ⟨g,t,cs,fuel,p,hg,_,hv,_⟩:VarReads Tryz.prog W "math/bits.deBruijn64tab" Rows.laid_math_bits_deBruijn64tab:=laidMet.reads h (.tail _ (.head _))
  have e:(some 7:Option Nat)=some g:=(by kernel_rfl:Tryz.prog.globalNamed "math/bits.deBruijn64tab" = some 7).symm.trans hg
  cases e
  have l4:=W1 hg hv
  omega

abbrev synS:ByteArray := { data := #[105,110,118,97,108,105,100,32,115,121,110,116,97,120] }
abbrev rngS:ByteArray := { data := #[118,97,108,117,101,32,111,117,116,32,111,102,32,114,97,110,103,101] }
noncomputable def low:Nat:=(World.holding Tryz.prog default ⟨#[], #[], []⟩).heap.size
def lit1:DataW Unit→Value
  | .lit (.int k n) => .int k n
  | _ => .int .u8 0
def ZC:DataW Unit→List Value
  | .agg l=>l.map lit1
  | _ => []
noncomputable def J1 (os:Os):World :=
  let w0:=World.holding Tryz.prog os ⟨#[.cells #[.string synS] 206, .cells #[.string rngS] 206], #[], []⟩
  let put (h:Array Obj) (g:Nat) (cs:Array Value):Array Obj:=h.modify g fun
    | .cells _ t frozen => .cells cs t frozen
    | o=>o
  let h0:=put w0.heap 1 (firstTab.map fun z=>Value.int .u8 z).toArray
  let h1:=put h0 2 ((List.range 16).flatMap fun i => [Value.int .u8 (accLo i),Value.int .u8 (accHi i)]).toArray
  let h2:=put h1 4 #[.iface 204 (.pointer (some ⟨low,0,none⟩))]
  let h3:=put h2 5 #[.iface 204 (.pointer (some ⟨low+1,0,none⟩))]
  let h4:=put h3 3 (pow10Tab.map fun z=>Value.int .u64 z).toArray
  let h6:=put h4 6 (ZC Rows.laid_math_bits_deBruijn32tab).toArray
  let h7:=put h6 7 (ZC Rows.laid_math_bits_deBruijn64tab).toArray
  { w0 with heap:=h7 }

theorem ZD (os:Os) (args:Array Value):laidMet Tryz.prog Rows.topTextsUptoRow.laid ((J1 os).forCall (fun _ _=>0) ⟨#[],args, []⟩).memory :=
  laidMet_of_run' 8 (by kernel_rfl) (by kernel_rfl)
end Go.Proofs.YtmlkkgfenfdndaaGreatDoor.Door

set_option maxRecDepth 100000
namespace Go.Proofs.YtmlkkgfenfdndaaGreatDoor
open Go Go.ay
end Go.Proofs.YtmlkkgfenfdndaaGreatDoor

namespace Go.ay
open Go.RowKit

section
variable {P:Program} {tt:dO} {w w':World} {h h':az} {c c':kA} {R:Type}

theorem yG (hb:Below w.heap.size w w'):Ext w h c w' h c where
  os:=hb.os
  tape:=hb.tape
  output:=hb.output
  size:=hb.size
  used:=fun _ hi=>hi
  same:=fun i hi hd=>⟨DE (Gt hi.2 hd) (fun _ _ _ => .inr trivial),rfl,rfl⟩
  cell:=fun b x hx _=>s9 (hb.block b hx)
  block:=fun b hx _=>hb.block b hx
  wK:=fun _ _ _ ho=>ho
  ext:=rfl
  arr:=fun b arr e fz hx=>⟨arr,fz,by rw[hb.block b (zt hx)]; exact hx,rfl⟩

theorem FQ (wf:WF w h c) (hb:Below w.heap.size w w'):WF w' h c where
  yw:=wf.yw
  pP:=fun b x he=>Nat.lt_of_lt_of_le (wf.pP b x he) hb.size
  obj:=fun i hi=>by
    by_cases hl:(h.at i).live
    · exact (wf.obj i hi).keep (yG hb) (fun b pQ=>hb.block b ((wf.obj i hi).lt hl pQ)) rfl rfl
    · have h0:h.at i = .free∨h.at i = .dead:=by revert hl; cases h.at i <;> simp[ca.live]
      rcases h0 with h0|h0 <;> rw[h0] <;> trivial
  inj:=wf.inj
  lay:=wf.sA (yG hb)

theorem ta {g:Nat} {fn:Func} (hf:P.funcs[g]? = some fn) (hn:(fn.name == "runtime.NumGoroutine")=false) (hb:fn.body.isNone=false) {args:Array Value} {Q:Value→World→Prop}
    (h:Calls P g args w fun e w'=>∃d,e = .returned d∧Q d w'):w9 P g args w Q:=by
  refine ⟨.enter g args,w,?_,h⟩
  have Q1:fn.name ≠ "runtime.NumGoroutine" :=by simpa using hn
  have pQ:fn.body≠none:=fun e=>by rw[e]at hb; cases hb
  simp[callFunc,hf,Q1,pQ]

theorem pE {g:Nat} {fn:Func} (hf:P.funcs[g]? = some fn) (hn:(fn.name == "runtime.NumGoroutine")=false) (hb:fn.body.isNone=false) {sp:Spec R}
    (hs:∀vs hp k r,sp vs hp k=some r→∀(w:World) (c:kA) (args:Array Value),WF w hp c→cK w hp c vs args.toList →
      ∃v,k v hp=some r∧Calls P g args w fun e w'=>∃d,e = .returned d∧Below w.heap.size w w'∧dK w' hp c v d):Spec.Ok P g sp:=by
  intro vs hp k r hk w c args wf ra
  obtain ⟨v,hv,hc⟩:=hs vs hp k r hk w c args wf ra
  refine ta hf hn hb (Calls.mono hc ?_)
  rintro e w' ⟨d,he,Qj,hr⟩
  exact ⟨d,he,v,hp,c,FQ wf Qj,yG Qj,hr,hv⟩

theorem Pk {v:V} {args:Array Value} (ra:cK w h c [v] args.toList):∃d,args = #[d]∧dK w h c v d:=by
  obtain ⟨l⟩:=args
  match l,ra with
  | [d],ra=>exact ⟨d,rfl,ra.head⟩
  | [],ra=>have:=ra.1; simp at this
  | _::_::_,ra=>have:=ra.1; simp at this
theorem R8 {u v:V} {args:Array Value} (ra:cK w h c [u,v] args.toList):∃d e,args = #[d,e]∧dK w h c u d∧dK w h c v e:=by
  obtain ⟨l⟩:=args
  match l,ra with
  | [d,e],ra=>exact ⟨d,e,rfl,ra.head,ra.tail.head⟩
  | [],ra=>have:=ra.1; simp at this
  | [_],ra=>have:=ra.1; simp at this
  | _::_::_::_,ra=>have:=ra.1; simp at this
end

section
variable {P:Program} {tt:dO} {w w':World} {h h':az} {c c':kA} {R:Type}

def KM (R:Type):Spec R:=fun vs h k =>
  match vs with
  | [.ptr i 0]=>(match h.at i with | .kW _=>k (.tuple []) h|_=>none)
  | _=>none

theorem J2 {i:Nat} {v:V} {a':Value} (wf:WF w h c) (ra:dK w h c (.ptr i 0) a') (hv:h.at i = .kW v) :
    ∃b p d,a' = .pointer (some ⟨b,0,none⟩)∧c.s5 i=some b∧w.heap[b]? = some (Obj.cells #[p,d] oZ.kW (0,0))∧(p = .pointer none∨p = .pointer (some ⟨b,0,none⟩))∧dK w h c v d:=by
  have hi:=az.gM hv (by simp)
  have ho:=wf.obj i hi
  rw[hv]at ho
  obtain ⟨b,p,d,g1,g2,g3,g4⟩:=ho
  cases ra with
  | ptr hu hq =>
    obtain ⟨b',rfl,pQ⟩:=hq
    have:=pQ (by rw[hv]; simp)
    rw[g1]at this; cases this
    exact ⟨b,p,d,rfl,g1,g2,g3,g4⟩

theorem bcc_ok {g:Nat} {fn:Func} (hf:P.funcs[g]? = some fn) (hn:(fn.name == "runtime.NumGoroutine")=false) (hb:fn.body.isNone=false)
    (fresh:∀(b:Nat) (w:World),w.cell? ⟨b,0,none⟩=some (.pointer none)→w.shape? b=some (oZ.kW,2)→w.frozen? ⟨b,0,none⟩=false →
      Calls P g #[.pointer (some ⟨b,0,none⟩)] w fun e w'=>e = .returned (.tuple #[])∧w'=w.setCell ⟨b,0,none⟩ (.pointer (some ⟨b,0,none⟩)))
    (used:∀(b:Nat) (w:World),w.cell? ⟨b,0,none⟩=some (.pointer (some ⟨b,0,none⟩))→Calls P g #[.pointer (some ⟨b,0,none⟩)] w fun e w'=>e = .returned (.tuple #[])∧w'=w):Spec.Ok P g (KM R):=by
  intro vs h k r hk w c args wf ra
  unfold KM at hk
  split at hk <;> try (first|cases hk)
  rename_i i
  split at hk <;> try (first|cases hk)
  rename_i v hv
  obtain ⟨a',rfl,r1⟩:=Pk ra
  obtain ⟨b,p,d,rfl,g1,g2,g3,g4⟩:=J2 wf r1 hv
  have Ig:w.cell? ⟨b,0,none⟩=some p:=by rw[cell_of_row w b _ _ _ _ g2]; rfl
  have rt:∀w' h' c',dK w' h' c' (.tuple []) (.tuple #[]):=fun w' h' c' => .tuple rfl (fun j v d hv=>by simp at hv)
  rcases g3 with rfl|rfl
  · refine ta hf hn hb (Calls.mono (fresh b w Ig (by simp[World.shape?,g2]) (wz g2 0)) ?_)
    rintro e w' ⟨he,rfl⟩
    have pQ:(w.setCell ⟨b,0,none⟩ (.pointer (some ⟨b,0,none⟩))).heap[b]? = some (.cells #[.pointer (some ⟨b,0,none⟩),d] oZ.kW (0,0)):=by
      simp[World.setCell,Array.getElem?_modify,g2]
    have hw:Mo w (w.setCell ⟨b,0,none⟩ (.pointer (some ⟨b,0,none⟩))) b #[.pointer (some ⟨b,0,none⟩),d] oZ.kW (0,0):=⟨rfl,rfl,rfl,by simp,fun k hk=>heap_setCell_other w _ k _ hk,pQ⟩
    have sB:(h.at i).from_ (c.off i)=some 0:=by rw[hv]; rfl
    have ur:(h.at i).iQ (.kW v):=by rw[hv]; trivial
    have TG:h.set i (.kW v)=h:=by
      have hi:=az.gM hv (by simp)
      have e:h[i] = .kW v:=by
        have:=hv
        unfold az.at at this
        simpa [List.getD,List.getElem?_eq_getElem hi]using this
      rw[←e]
      exact List.set_getElem_self hi
    have x:=Ix g1 g2 hw rfl sB rfl ur
    have q:=Qb wf g1 g2 hw rfl sB rfl ur ⟨b,_,d,g1,pQ, .inr rfl,g4.mono x⟩
    rw[TG]at x q
    exact ⟨_,he,_,h,c,q,x,rt _ _ _,hk⟩
  · refine ta hf hn hb (Calls.mono (used b w Ig) ?_)
    rintro e w' ⟨he,rfl⟩
    exact ⟨_,he,_,h,c,wf, .refl _ _ _,rt _ _ _,hk⟩

def td (l:List Int):aj:=l.map fun n=>UInt8.ofNat n.toNat

theorem ZE (l:List Int):(td l).length=l.length:=List.length_map _
theorem ZF (l:List Int) (m:Nat) (x:UInt8) (h:(td l)[m]? = some x):∃n,l[m]? = some n∧x=UInt8.ofNat n.toNat:=by
  unfold td at h
  rw[List.getElem?_map]at h
  cases hm:l[m]? with
  | none=>rw[hm]at h; cases h
  | some n=>rw[hm]at h; simp at h; exact ⟨n,rfl,h.symm⟩

def Eo (R:Type):Spec R:=fun vs h k =>
  match vs with
  | [.ptr i 0] =>
    (match h.at i with
     | .kW .cJ=>k (.str []) h
     | .kW (.sl (.int .u8) l (.own j))=>(match h.at j with | .tok=>k (.str (td l)) h|_=>none)
     | _=>none)
  | _=>none

theorem Gz:IJ (Eo R):=by
  intro vs h k k' he
  unfold Eo
  split <;> try rfl
  split <;> try (first|rfl|exact he _)
  split <;> first|rfl|exact he _

theorem W2 (wf:WF w h c) {j g:Nat} (hj:h.at j = .tok) (hg:c.s5 j=some g) {cur:Array Value} {e:TypeId} {fz GM:Nat × Nat} (h1:w.heap[g]? = some (.cells cur e fz))
    (hos:w'.os=w.os) (htape:w'.tape=w.tape) (hout:w'.output=w.output) (YJ:w'.heap.size=w.heap.size) (JR:∀k,k≠g→w'.heap[k]? = w.heap[k]?) (h2:w'.heap[g]? = some (.cells cur e GM))
    (UZ:(fz.1=fz.2∨fz.2≤c.off j)→(GM.1=GM.2∨GM.2≤c.off j)) :
    WF w' h c∧Ext w h c w' h c:=by
  have hjl:=az.gM hj (by simp)
  have nk:uo h c g (c.off j):=⟨j,c.off j,hg,by rw[hj]; rfl,Nat.le_refl _⟩
  have yr:∀b x,w'.cell? ⟨b,x,none⟩=w.cell? ⟨b,x,none⟩:=fun b x=>by
    by_cases hb:b=g
    · subst hb; rw[cell_of_row w' b x cur e GM h2,cell_of_row w b x cur e fz h1]
    · exact s9 (JR b hb)
  have x:Ext w h c w' h c := {
    os:=hos
    tape:=htape
    output:=hout
    size:=by omega
    used:=(Ext.refl w h c).used
    same:=(Ext.refl w h c).same
    cell:=fun b x _ _=>yr b x
    block:=fun b _ ho=>JR b (by rintro rfl; exact ho _ nk)
    wK:=(Ext.refl w h c).wK
    ext:=rfl
    arr:=fun b arr el fz0 hb=>by
      by_cases hbg:b=g
      · subst hbg; rw[h1]at hb; cases hb; exact ⟨cur,GM,h2,rfl⟩
      · exact ⟨arr,fz0,by rw[JR b hbg]; exact hb,rfl⟩ }
  refine ⟨?_,x⟩
  exact {
    lay:=wf.sA x
    yw:=wf.yw
    pP:=fun b y he=>by rw[YJ]; exact wf.pP b y he
    obj:=fun i hi=>by
      by_cases ye:i=j
      · subst ye
        have:=wf.obj i hi
        rw[hj]at this ⊢
        rcases this with h0|⟨b',FF,e',fz0,p1,p2,p3,p4⟩
        · rw[hg]at h0; cases h0
        · rw[hg]at p1; cases p1
          rw[h1]at p2; cases p2
          exact .inr ⟨g,cur,e,GM,hg,h2,p3,UZ p4⟩
      · by_cases hl:(h.at i).live
        · refine (wf.obj i hi).keep x (fun b hb=>JR b ?_) rfl rfl
          rintro rfl
          exact ye (wf.inj i j b hl (by rw[hj]; trivial) hb hg)
        · have h0:h.at i = .free∨h.at i = .dead:=by revert hl; cases h.at i <;> simp[ca.live]
          rcases h0 with h0|h0 <;> rw[h0] <;> trivial
    inj:=wf.inj }

theorem QB {q n:Nat} {cur:Array Value} {e:TypeId} {fz:Nat × Nat} (hn:n≠0) (hq:w.heap[q]? = some (.cells cur e fz)) :
    (w.drew.freeze ⟨q,0,none⟩ n).os=w.os∧(w.drew.freeze ⟨q,0,none⟩ n).tape=w.tape∧(w.drew.freeze ⟨q,0,none⟩ n).output=w.output∧(w.drew.freeze ⟨q,0,none⟩ n).heap.size=w.heap.size ∧
      (∀k,k≠q→(w.drew.freeze ⟨q,0,none⟩ n).heap[k]? = w.heap[k]?)∧∃GM,(w.drew.freeze ⟨q,0,none⟩ n).heap[q]? = some (.cells cur e GM)∧∀o,n≤o→(fz.1=fz.2∨fz.2≤o)→(GM.1=GM.2∨GM.2≤o):=by
  obtain ⟨lo,hi⟩:=fz
  unfold World.freeze
  rw[if_neg hn]
  refine ⟨rfl,rfl,rfl,Array.size_modify,fun k hk => ?_,(if lo==hi then (0,0+n)else (min lo 0,max hi (0+n))),?_,fun o ho hf => ?_⟩
  · simp only[Array.getElem?_modify]
    rw[if_neg (Ne.symm hk)]
    rfl
  · simp only[Array.getElem?_modify,if_true]
    rw[show w.drew.heap[q]? = some (.cells cur e (lo,hi))from hq]
    rfl
  · simp only at hf
    split
    · exact .inr (by simp; omega)
    · rename_i km
      have:lo≠hi:=by simpa using km
      exact .inr (by simp; omega)

theorem u8_of {n:Int} (hn:IntKind.u8.has n):((UInt8.ofNat n.toNat).toNat:Int)=n:=by
  have:0≤n∧n≤255:=by simpa [IntKind.has,IntKind.min,IntKind.max,IntKind.signed,IntKind.bits]using hn
  simp only[UInt8.toNat_ofNat']
  omega

structure MT (P:Program) (g:Nat):Prop where
  nil:∀(b:Nat) (p:Value) (w:World),w.heap[b]? = some (.cells #[p, .slice none 0 0] oZ.kW (0,0)) →
    Calls P g #[.pointer (some ⟨b,0,none⟩)] w fun e w'=>e = .returned (.string ⟨#[]⟩)∧Below w.heap.size w w'
  ZG:∀(b q:Nat) (p:Value) (cur:Array Value) (fz:Nat × Nat) (w:World),w.heap[b]? = some (.cells #[p, .slice (some ⟨q,0,none⟩) 0 0] oZ.kW (0,0))→w.heap[q]? = some (.cells cur oZ.u8 fz) →
    Calls P g #[.pointer (some ⟨b,0,none⟩)] w fun e w'=>e = .returned (.string ⟨#[]⟩)∧Below w.heap.size w w'
  room:∀(b q cap:Nat) (p:Value) (w:World),cap≠0→w.heap[b]? = some (.cells #[p, .slice (some ⟨q,0,none⟩) 0 cap] oZ.kW (0,0)) →
    Calls P g #[.pointer (some ⟨b,0,none⟩)] w fun e w'=>e = .returned (.string ⟨#[]⟩)∧Below w.heap.size w w'
  some:∀(b q cap:Nat) (p:Value) (cur:Array Value) (fz:Nat × Nat) (l:List UInt8) (w:World),l ≠ []→w.heap[b]? = some (.cells #[p, .slice (some ⟨q,0,none⟩) l.length cap] oZ.kW (0,0)) →
    w.heap[q]? = some (.cells cur oZ.u8 fz)→l.length≤cap→cap≤mx→l.length≤cur.size→(∀(j:Nat) (x:UInt8),l[j]? = some x→w.cell? ⟨q,j,none⟩=some (.int .u8 x.toNat)) →
    Calls P g #[.pointer (some ⟨b,0,none⟩)] w fun e w'=>e = .returned (.string ⟨l.toArray⟩)∧w'=w.drew.freeze ⟨q,0,none⟩ l.length

theorem bstr_ok {g:Nat} {fn:Func} (hf:P.funcs[g]? = some fn) (hn:(fn.name == "runtime.NumGoroutine")=false) (hb:fn.body.isNone=false) (D:MT P g):Spec.Ok P g (Eo R):=by
  intro vs h k r hk w c args wf ra
  unfold Eo at hk
  split at hk <;> try (first|cases hk)
  rename_i i
  obtain ⟨a',rfl,r1⟩:=Pk ra
  have empty:∀ {w':World} {h':az} {c':kA},dK w' h' c' (.str []) (.string ⟨#[]⟩):=fun {w' h' c'}=>A0 ⟨#[]⟩ rfl (Nat.zero_le _)
  split at hk <;> try (first|cases hk)
  · rename_i hv
    obtain ⟨b,p,d,rfl,g1,g2,g3,g4⟩:=J2 wf r1 hv
    cases g4
    refine ta hf hn hb (Calls.mono (D.nil b p w g2) ?_)
    rintro e w' ⟨he,Qj⟩
    exact ⟨_,he,_,h,c,FQ wf Qj,yG Qj,empty,hk⟩
  · rename_i l j hv
    split at hk <;> try (first|cases hk)
    rename_i hj
    obtain ⟨b,p,d,rfl,g1,g2,g3,g4⟩:=J2 wf r1 hv
    have hi:=az.gM hv (by simp)
    have ye:j≠i:=by rintro rfl; rw[hj]at hv; cases hv
    have hu8:∀x∈(l:List Int),IntKind.u8.has x:=by
      intro x hx
      cases g4 with
      | sl f me s7 hc hr yv nk =>
        obtain ⟨m,hm⟩:=List.mem_iff_getElem?.1 hx
        exact (hr m 0 x (.int .u8 x) hm rfl).jb.2
    have hlen:(td l).length=List.length (α:=Int) l:=ZE l
    cases g4 with
    | @sl _ _ _ A cap f me s7 hc hr yv nk =>
      obtain ⟨_,ho⟩:=nk j rfl
      have hcap':List.length (α:=Int) l≤cap:=me
      have Il:∀(w':World) (h':az) (c':kA),dK w' h' c' (.str (td l)) (.string ⟨(td l).toArray⟩):=fun w' h' c'=>A0 _ rfl (by rw[hlen]; exact Nat.le_trans me s7)
      rcases ho hj with ⟨e1,rfl,rfl⟩|⟨q,o,cur,e,fz,e1,rfl,e3,e4,e5,e6⟩
      · have KC:l = []:=List.eq_nil_of_length_eq_zero (Nat.le_zero.1 me)
        subst KC
        refine ta hf hn hb (Calls.mono (D.nil b p w g2) ?_)
        rintro e w' ⟨he,Qj⟩
        exact ⟨_,he,_,h,c,FQ wf Qj,yG Qj,Il _ _ _,hk⟩
      · obtain ⟨rfl,rfl⟩:=e6 rfl
        by_cases KC:l = []
        · subst KC
          by_cases Ig:cap=0
          · subst Ig
            refine ta hf hn hb (Calls.mono (D.ZG b q p cur fz w g2 e4) ?_)
            rintro e w' ⟨he,Qj⟩
            exact ⟨_,he,_,h,c,FQ wf Qj,yG Qj,Il _ _ _,hk⟩
          · refine ta hf hn hb (Calls.mono (D.room b q cap p w Ig g2) ?_)
            rintro e w' ⟨he,Qj⟩
            exact ⟨_,he,_,h,c,FQ wf Qj,yG Qj,Il _ _ _,hk⟩
        · have Qj:td l ≠ []:=fun e=>KC (List.eq_nil_of_length_eq_zero (hlen.symm.trans (by rw[e]; rfl)))
          have e5':0+cap*1≤cur.size:=e5
          have C7:∀(m:Nat) (x:UInt8),(td l)[m]? = some x→w.cell? ⟨q,m,none⟩=some (.int .u8 x.toNat):=by
            intro m x hx
            obtain ⟨n,hm,rfl⟩:=ZF l m x hx
            have hml:m<List.length (α:=Int) l:=(List.getElem?_eq_some_iff.1 hm).1
            obtain ⟨b',o',hA,yr,_⟩:=hc m 0 hml (by simp[Ty.sz])
            cases hA
            have hrn:=hr m 0 n (.int .u8 n) hm rfl
            rw[hrn.jb.1]at yr
            rw[u8_of hrn.jb.2]
            simpa [Ty.sz]using yr
          have g2':w.heap[b]? = some (.cells #[p, .slice (some ⟨q,0,none⟩) (td l).length cap] oZ.kW (0,0)):=by rw[hlen]; exact g2
          refine ta hf hn hb (Calls.mono (D.some b q cap p cur fz (td l) w Qj g2' e4 (by rw[hlen]; exact me) s7 (by rw[hlen]; omega) C7) ?_)
          rintro e w' ⟨he,rfl⟩
          have hne0:(td l).length≠0:=by simpa using Qj
          obtain ⟨f1,f2,f3,f4,f5,GM,f6,f7⟩:=QB hne0 e4
          obtain ⟨q1,q2⟩:=W2 wf hj e1 e4 f1 f2 f3 f4 f5 f6 (f7 _ (by rw[e3,hlen]; simp[Ty.sz]; exact Nat.le_refl _))
          exact ⟨_,he,_,h,c,q1,q2,Il _ _ _,hk⟩
end

def uf (s:aj):Bool:=s.all fun b=>decide (b.toNat<128)
def gO (s:aj):Bool:=Go.Lib.validD s
def oD (s:aj):Nat × Nat:=if s.isEmpty then (65533,0)else Utf8.decode ⟨s.toArray⟩ 0
def cy (n:Int):aj:=Go.Lib.itoa n
def lX (s:aj) (n:Int):aj:=Go.Lib.repeatL s n.toNat
def bD (s cs:aj):aj:=s.dropWhile (cs.contains ·)
def cY (s cs:aj):aj:=(s.reverse.dropWhile (cs.contains ·)).reverse
def tf (s:aj):Bool:=match Go.Lib.atoiAll s with | .ok _=>true|_=>false
def eD (s:aj):Int:=match Go.Lib.atoiAll s with | .ok v=>v | .range=>Go.Lib.atoiSat s|_=>0
def MU (s cs:aj):Bool:=Go.Lib.containsAny s cs
def zw (s:aj) (c:Int):Int:=Go.Lib.indexByte s c.toNat.toUInt8

section
variable (R:Type)
def QC:Spec R:=fun vs h k=>match vs with | [.str s]=>k (.bool (gO s)) h|_=>none
def ZH:Spec R:=fun vs h k=>match vs with | [.str s]=>k (.tuple [.int .i32 (oD s).1, .int .i64 (oD s).2]) h|_=>none
def Uc:Spec R:=fun vs h k=>match vs with | [.int .i64 n]=>k (.str (cy n)) h|_=>none
def ZI:Spec R:=fun vs h k=>match vs with | [.str s, .int .i64 n]=>cU (decide (0≤n)&&decide ((s.length:Int)*n≤140737488355328)) (k (.str (lX s n)) h)|_=>none
def IQ:Spec R:=fun vs h k=>match vs with | [.str s, .str cs]=>cU (uf cs&&decide (cs.length<4294967281)) (k (.str (bD s cs)) h)|_=>none
def QD:Spec R:=fun vs h k=>match vs with | [.str s, .str cs]=>cU (uf cs&&decide (cs.length<4294967281)) (k (.str (cY s cs)) h)|_=>none
def QE:Spec R:=fun vs h k=>match vs with
  | [.str s]=>cU (decide (s.length≤281474976710656)) (bif tf s then k (.tuple [.int .i64 (eD s), .cX]) h else k (.tuple [.int .i64 (eD s), .iface]) h)
  | _=>none
def toErr_S (T:Nat):Spec R:=fun vs h k=>match vs with
  | [.str _, .str s, .int .i64 _, .int .i64 _, .FA t .i64 n]=>cU (Nat.beq t T&&(n==2||n==1)) (cU (decide (s.length≤281474976710656)) (k .iface h))
  | _=>none
def MV:Spec R:=fun vs h k=>match vs with
  | [.str s, .str cs]=>cU (uf s&&uf cs&&decide (s.length<4294967281)&&decide (cs.length<4294967281)) (k (.bool (MU s cs)) h)
  | _=>none
def Vo:Spec R:=fun vs h k=>match vs with | [.str s, .int .u8 c]=>k (.int .i64 (zw s c)) h|_=>none
end

section
variable {P:Program} {w w':World} {h:az} {c:kA} {R:Type}
open Go.Lib

theorem LI {s:aj} (hs:uf s=true):∀(j:Nat) (b:UInt8),s[j]? = some b→b.toNat<128:=by
  intro j b hb
  have:=List.all_eq_true.1 hs b (List.mem_of_getElem? hb)
  simpa using this

theorem xa (p:UInt8→Bool):∀s:aj,(s.dropWhile p).length≤s.length
  | []=>Nat.le_refl _
  | b::s=>by
    rw[List.dropWhile_cons]
    split
    · have:=xa p s; simp; omega
    · exact Nat.le_refl _

theorem QF (l:aj) (h':l.length≤mx):dK w h c (.str l) (.string ⟨l.toArray⟩):=A0 _ rfl h'

theorem na {g:Nat} {args:Array Value} {Q:Ending→World→Prop} {v:V} (hc:Calls P g args w Q)
    (hq:∀e w',Q e w'→∃d,e = .returned d∧Below w.heap.size w w'∧dK w' h c v d):Calls P g args w fun e w'=>∃d,e = .returned d∧Below w.heap.size w w'∧dK w' h c v d:=Calls.mono hc fun e w' q=>hq e w' q

end
end Go.ay

set_option maxRecDepth 100000
namespace Go.ay
open Go.Lib

def vr (c:Nat):Prop:=c<55296∨(57344≤c∧c≤1114111)
instance (c:Nat):Decidable (vr c):=inferInstanceAs (Decidable (_∨_))

def enc (c:Nat):aj:=encodeRune (c:Int)

theorem enc1 {c:Nat} (h:c<128):enc c = [UInt8.ofNat c]:=by
  unfold enc encodeRune encodeRuneZ
  rw[if_pos (by omega)]
  rfl
theorem enc2 {c:Nat} (h0:128≤c) (h:c<2048):enc c = [UInt8.ofNat (192+c / 64),UInt8.ofNat (128+c % 64)]:=by
  unfold enc encodeRune encodeRuneZ
  rw[if_neg (by omega),if_pos (by omega)]
  have e1:(192+(c:Int) / 64).toNat=192+c / 64:=by omega
  have e2:(128+(c:Int) % 64).toNat=128+c % 64:=by omega
  simp only[List.map_cons,List.map_nil,e1,e2]
theorem enc3 {c:Nat} (h0:2048≤c) (h:c<65536) (hv:vr c):enc c = [UInt8.ofNat (224+c / 4096),UInt8.ofNat (128+c / 64 % 64),UInt8.ofNat (128+c % 64)]:=by
  unfold vr at hv
  unfold enc encodeRune encodeRuneZ
  rw[if_neg (by omega),if_neg (by omega),if_pos (by omega)]
  have e1:(224+(c:Int) / 4096).toNat=224+c / 4096:=by omega
  have e2:(128+(c:Int) / 64 % 64).toNat=128+c / 64 % 64:=by omega
  have e3:(128+(c:Int) % 64).toNat=128+c % 64:=by omega
  simp only[List.map_cons,List.map_nil,e1,e2,e3]
theorem enc4 {c:Nat} (h0:65536≤c) (h:c<1114112):enc c = [UInt8.ofNat (240+c / 262144),UInt8.ofNat (128+c / 4096 % 64),UInt8.ofNat (128+c / 64 % 64),UInt8.ofNat (128+c % 64)]:=by
  unfold enc encodeRune encodeRuneZ
  rw[if_neg (by omega),if_neg (by omega),if_neg (by omega),if_pos (by omega)]
  have e1:(240+(c:Int) / 262144).toNat=240+c / 262144:=by omega
  have e2:(128+(c:Int) / 4096 % 64).toNat=128+c / 4096 % 64:=by omega
  have e3:(128+(c:Int) / 64 % 64).toNat=128+c / 64 % 64:=by omega
  have e4:(128+(c:Int) % 64).toNat=128+c % 64:=by omega
  simp only[List.map_cons,List.map_nil,e1,e2,e3,e4]

theorem hY (n:Nat) (h:n<256):(UInt8.ofNat n).toNat=n:=by
  simp only[UInt8.toNat_ofNat']
  omega

theorem Pl {c:Nat} (h:vr c):c<1114112:=by unfold vr at h; omega
theorem DJ {c:Nat} (hv:vr c):(c<128∧enc c = [UInt8.ofNat c])∨(128≤c∧c<2048∧enc c = [UInt8.ofNat (192+c / 64),UInt8.ofNat (128+c % 64)]) ∨
    (2048≤c∧c<65536∧enc c = [UInt8.ofNat (224+c / 4096),UInt8.ofNat (128+c / 64 % 64),UInt8.ofNat (128+c % 64)]) ∨
    (65536≤c∧enc c = [UInt8.ofNat (240+c / 262144),UInt8.ofNat (128+c / 4096 % 64),UInt8.ofNat (128+c / 64 % 64),UInt8.ofNat (128+c % 64)]):=by
  have:=Pl hv
  by_cases h1:c<128
  · exact .inl ⟨h1,enc1 h1⟩
  by_cases h2:c<2048
  · exact .inr (.inl ⟨by omega,h2,enc2 (by omega) h2⟩)
  by_cases h3:c<65536
  · exact .inr (.inr (.inl ⟨by omega,h3,enc3 (by omega) h3 hv⟩))
  · exact .inr (.inr (.inr ⟨by omega,enc4 (by omega) this⟩))

theorem zx {c:Nat} (hv:vr c):1≤(enc c).length∧(enc c).length≤4:=by
  rcases DJ hv with ⟨_,e⟩|⟨_,_,e⟩|⟨_,_,e⟩|⟨_,e⟩ <;> rw[e] <;> simp

theorem IS {c:Nat} (hv:vr c) (t:aj):decodeL (enc c++t)=(c,(enc c).length):=by
  have lp:=Pl hv
  unfold vr at hv
  rw[decodeL_N]
  rcases DJ hv with ⟨h1,e⟩|⟨h0,h1,e⟩|⟨h0,h1,e⟩|⟨h0,e⟩ <;> rw[e]
  · simp only[List.cons_append,List.getD_cons_zero,hY c (by omega)]
    exact decodeN_ascii _ _ _ _ _ h1
  · simp only[List.cons_append,List.nil_append,List.getD_cons_zero,List.getD_cons_succ,hY (192+c / 64) (by omega),hY (128+c % 64) (by omega),List.length_cons]
    unfold decodeN
    rw[if_neg (by omega),if_pos ⟨by omega,by omega,by omega⟩,if_pos (by omega)]
    refine Prod.ext ?_ rfl
    show (192+c / 64) % 32*64+(128+c % 64) % 64=c
    omega
  · simp only[List.cons_append,List.nil_append,List.getD_cons_zero,List.getD_cons_succ,hY (224+c / 4096) (by omega),hY (128+c / 64 % 64) (by omega),hY (128+c % 64) (by omega),List.length_cons]
    unfold decodeN
    have k:(224+c / 4096) % 16*4096+(128+c / 64 % 64) % 64*64+(128+c % 64) % 64=c:=by omega
    rw[if_neg (by omega),if_neg (by omega),if_pos ⟨by omega,⟨by omega,by omega⟩,by omega,by omega⟩,k,if_pos (by omega)]
    simp only[List.length_nil]
  · simp only[List.cons_append,List.nil_append,List.getD_cons_zero,List.getD_cons_succ,hY (240+c / 262144) (by omega),hY (128+c / 4096 % 64) (by omega),hY (128+c / 64 % 64) (by omega),hY (128+c % 64) (by omega),List.length_cons]
    unfold decodeN
    have k:(240+c / 262144) % 8*262144+(128+c / 4096 % 64) % 64*4096+(128+c / 64 % 64) % 64*64+(128+c % 64) % 64=c:=by omega
    rw[if_neg (by omega),if_neg (by omega),if_neg (by omega),if_pos ⟨by omega,⟨by omega,by omega⟩,⟨by omega,by omega⟩,by omega,by omega⟩,k,if_pos (by omega)]
    simp only[List.length_nil]

def Ud (l:aj):Prop:=¬((decodeL l).1=65533∧(decodeL l).2=1)
instance (l:aj):Decidable (Ud l):=inferInstanceAs (Decidable (¬_))

theorem R9 {c:Nat} (hv:vr c) (t:aj):Ud (enc c++t):=by
  unfold Ud
  rw[IS hv t]
  rintro ⟨h1,h2⟩
  simp only at h1 h2
  rw[h1]at h2
  rw[enc3 (by omega) (by omega) (by unfold vr; omega)]at h2
  cases h2

theorem Ue (n b0 b1 b2 b3:Nat) (h0:b0<256):vr (decodeN n b0 b1 b2 b3).1:=by
  unfold vr decodeN
  repeat' split
  all_goals simp only
  all_goals omega

theorem Uf (l:aj):vr (decodeL l).1:=by
  rw[decodeL_N]
  exact Ue _ _ _ _ _ (UInt8.toNat_lt _)

theorem ZJ {l:aj} (km:l ≠ []) (h:Ud l):l=enc (decodeL l).1++l.drop (decodeL l).2∧(enc (decodeL l).1).length=(decodeL l).2:=by
  have h1:=encode_decode l km h
  have h2:=decodeL_le l km
  refine ⟨?_,?_⟩
  · unfold enc
    rw[h1,List.take_append_drop]
  · unfold enc
    rw[h1,List.length_take]
    omega

theorem KN {l:aj} (km:l ≠ []):gO l=if Ud l then gO (l.drop (decodeL l).2)else false:=by
  unfold gO
  rw[validD_step l km]
  by_cases h:Ud l
  · rw[if_pos h,if_neg (show ¬((decodeL l).1=65533∧(decodeL l).2=1)from h)]
  · rw[if_neg h,if_pos (Decidable.not_not.1 h)]

theorem ZK {c:Nat} (hv:vr c) (t:aj):enc c++t ≠ []:=by
  have:=zx hv
  intro e
  have:=congrArg List.length e
  rw[List.length_append,List.length_nil]at this
  omega

theorem Ug {c:Nat} (hv:vr c) (t:aj):gO (enc c++t)=gO t:=by
  rw[KN (ZK hv t),if_pos (R9 hv t),IS hv t]
  simp

def cV (rs:List Nat):aj:=rs.flatMap enc

theorem KO:∀(rs:List Nat),(∀c∈rs,vr c)→∀t,gO (cV rs++t)=gO t
  | [],_,t=>rfl
  | c::rs,h,t=>by
    have:cV (c::rs)++t=enc c++(cV rs++t):=by simp[cV]
    rw[this,Ug (h c (by simp)),KO rs (fun x hx=>h x (by simp[hx]))]

theorem KP:∀(n:Nat) (l:aj),l.length≤n→gO l=true→∃rs:List Nat,(∀c∈rs,vr c)∧l=cV rs
  | 0,l,hl,_=>⟨[],by simp,List.eq_nil_of_length_eq_zero (by omega)⟩
  | n+1,l,hl,h=>by
    by_cases km:l = []
    · exact ⟨[],by simp,km⟩
    rw[KN km]at h
    split at h
    · rename_i hg
      obtain ⟨h1,h2⟩:=ZJ km hg
      have h3:=zx (Uf l)
      obtain ⟨rs,hr,e⟩:=KP n (l.drop (decodeL l).2) (by rw[List.length_drop]; omega) h
      refine ⟨(decodeL l).1::rs,?_,?_⟩
      · intro c hc
        rcases List.mem_cons.1 hc with rfl|hc
        · exact Uf l
        · exact hr c hc
      · exact h1.trans ((congrArg (enc (decodeL l).1 ++ ·) e).trans (by simp[cV]))
    · cases h

theorem BS {l:aj}:gO l=true↔∃rs:List Nat,(∀c∈rs,vr c)∧l=cV rs:=by
  refine ⟨KP l.length l (Nat.le_refl _),?_⟩
  rintro ⟨rs,hr,rfl⟩
  have:=KO rs hr []
  rw[List.append_nil]at this
  rw[this]; rfl

theorem Sa {s t:aj} {i:Nat} (h:i<s.length):(s++t).getD i 0=s.getD i 0:=by
  simp[List.getD,List.getElem?_append_left h]
end Go.ay

namespace Go.ay

theorem aS {R:Type} {b:Bool} {k:Option R} (h:b=true):cU b k=k:=by subst h; rfl

theorem dB {n:Int} (h1 : -9223372036854775808≤n) (h2:n≤9223372036854775807):IntKind.i64.wrap n=n:=by
  simp only[IntKind.wrap,IntKind.bits,IntKind.signed,IntKind.min,IntKind.max]
  simp
  omega

theorem Json.eta (x:Json):(⟨x.kind,⟨x.num.aB,x.num.exp⟩,x.text,x.names,x.items⟩:Json)=x:=by cases x; rfl
theorem Raw.eta (x:Raw):(⟨x.kind,x.aB,x.exp,x.text,x.items⟩:Raw)=x:=by cases x; rfl

theorem getD_at {α:Type} {l:List α} {i:Nat} (h:i<l.length) (d:α):l.getD i d=l[i]:=by simp[List.getD,h]
end Go.ay

set_option maxRecDepth 100000
namespace Go.Proofs.YtmlkkgfenfdndaaGreatDoor
open Go Go.ay Go.RowKit Go.Shelf

section
variable {w w':World} {h:az} {c:kA} {R:Type}

theorem below_drewN:∀(q:Nat) (a:World),Below w.heap.size w a→Below w.heap.size w (a.drewN q)
  | 0,_,ha=>ha
  | q+1,a,ha=>(below_drewN q a ha).drew

theorem Uh (a:World) (os:Array Obj) (ha:Below w.heap.size w a):Below w.heap.size w { a with heap:=a.heap++os } :=
  ⟨ha.os,ha.tape,ha.output,by simp; have:=ha.size; omega,fun k hk=>by
    have:=ha.size
    rw[←ha.block k hk]
    exact Array.getElem?_append_left (by omega)⟩

theorem Sb (e:TypeId) (t:ByteArray):Below w.heap.size w (Go.Lib.bytesWorld w e t):=by
  unfold Go.Lib.bytesWorld World.freeze
  have hb:Below w.heap.size w (w.drew.alloc (.cells (Go.Lib.bytesCells w e t) e)):=yA w _
  split
  · exact hb
  · refine ⟨hb.os,hb.tape,hb.output,?_,fun k hk => ?_⟩
    · have:=hb.size; simpa using this
    · rw[←hb.block k hk]
      simp only[Array.getElem?_modify]
      rw[if_neg (by show ¬w.heap.size=k; omega)]

theorem ZL (s cs:aj):(bD s cs).length≤s.length:=xa _ s
theorem ZM (s cs:aj):(cY s cs).length≤s.length:=by
  unfold cY
  rw[List.length_reverse]
  exact Nat.le_trans (xa _ _) (by simp)
theorem W3 (s:aj):bD s []=s:=by
  unfold bD
  cases s with
  | nil=>rfl
  | cons b s=>simp
theorem W4 (s:aj):cY s []=s:=by
  unfold cY
  have:(s.reverse.dropWhile fun x=>List.contains [] x)=s.reverse:=by
    cases s.reverse with
    | nil=>rfl
    | cons b s=>simp
  rw[this,List.reverse_reverse]
theorem W5 (s:aj) (b:UInt8):bD s [b]=Go.Lib.trimLeftB s b:=by
  unfold bD Go.Lib.trimLeftB
  congr 1
  funext x
  rw[List.contains_cons]
  show (x==b||false)=_
  rw[Bool.or_false]
theorem W6 (s:aj) (b:UInt8):cY s [b]=Go.Lib.trimRightB s b:=by
  unfold cY Go.Lib.trimRightB
  congr 2
  funext x
  rw[List.contains_cons]
  show (x==b||false)=_
  rw[Bool.or_false]

theorem ZN:ay.Spec.Ok Tryz.prog 72 (QC R):=by
  refine pE Tryz.func72 rfl rfl fun vs hp k r hk w c args wf ra => ?_
  unfold QC at hk
  split at hk <;> try (first|cases hk)
  rename_i s
  obtain ⟨a,rfl,r1⟩:=Pk ra
  obtain ⟨t,rfl,rfl,hl⟩:=r1.kX
  refine ⟨_,hk,na (Any.utf8_ValidString Tryz.Zy t w hl wf.lay.1.1) ?_⟩
  rintro e w' ⟨he,hb⟩
  exact ⟨_,he,hb, .bool _⟩

theorem dec_ok:ay.Spec.Ok Tryz.prog 130 (ZH R):=by
  refine pE Tryz.func130 rfl rfl fun vs hp k r hk w c args wf ra => ?_
  unfold ZH at hk
  split at hk <;> try (first|cases hk)
  rename_i s
  obtain ⟨a,rfl,r1⟩:=Pk ra
  obtain ⟨t,rfl,rfl,hl⟩:=r1.kX
  have hd:Go.Lib.decodeGo t=oD t.data.toList:=by
    unfold Go.Lib.decodeGo oD
    by_cases h0:t.size=0
    · have:t.data.toList = []:=List.eq_nil_of_length_eq_zero (by rw[size_data]; exact h0)
      simp[h0,this]
    · have:t.data.toList ≠ []:=fun e=>h0 (by rw[←size_data,e]; rfl)
      have hm:(⟨t.data.toList.toArray⟩:ByteArray)=t:=s8 rfl
      simp[h0,hm]
      exact fun e=>absurd (show t.data.size=0 by rw[e]; rfl) h0
  have lp:(oD t.data.toList).1<2097152∧(oD t.data.toList).2≤4:=by
    unfold oD
    split
    · exact ⟨by omega,by omega⟩
    · exact ⟨(JS _ _).1,(JS _ _).2.2⟩
  refine ⟨_,hk,na (Any.utf8_DecodeRuneInString Tryz.lay197 t w wf.lay.1.1) ?_⟩
  rintro e w' ⟨he,hb⟩
  rw[hd]at he
  refine ⟨_,he,hb, .tuple rfl fun j v d hv hd => ?_⟩
  match j,hv,hd with
  | 0,hv,hd=>simp at hv hd; subst hv; subst hd; exact .int (RM _ lp.1)
  | 1,hv,hd=>simp at hv hd; subst hv; subst hd; exact .int (D9 _ (by unfold mx; omega))
  | j+2,hv,_=>simp at hv

theorem itoa_ok:ay.Spec.Ok Tryz.prog 66 (Uc R):=by
  refine pE Tryz.func66 rfl rfl fun vs hp k r hk w c args wf ra => ?_
  unfold Uc at hk
  split at hk <;> try (first|cases hk)
  rename_i n
  obtain ⟨a,rfl,r1⟩:=Pk ra
  obtain ⟨rfl,hn⟩:=r1.jb
  have Q1 : -9223372036854775808≤n∧n≤9223372036854775807:=by simpa [IntKind.has,IntKind.min,IntKind.max,IntKind.signed,IntKind.bits]using hn
  refine ⟨_,hk,na (Any.strconv_Itoa Tryz.lay171 n Q1.1 Q1.2 w wf.lay.1.2.1) ?_⟩
  rintro e w' ⟨he,q,os,rfl⟩
  refine ⟨_,he,Uh _ os (below_drewN q w (Below.refl _ _)),QF _ ?_⟩
  have:=Go.Lib.itoa_length_le n Q1.1 Q1.2
  unfold cy mx
  omega

theorem x72:Builder.X72 Tryz.prog Tryz.En := { sizeBuilder:=by kernel_rfl,liesBuilder:=by kernel_rfl }
theorem ZO:Builder.Extra Tryz.prog Tryz.En := { x72 with t5:=Tryz.underlying5,a5:=Tryz.isAgg5,z5:=Tryz.sizeOf5,v5:=Tryz.zeroValue5,infoByte:=by kernel_rfl,cellsByte:=by kernel_rfl,sizeByte:=by kernel_rfl,neB5:=by decide }

theorem rep_ok:ay.Spec.Ok Tryz.prog 67 (ZI R):=by
  refine pE Tryz.func67 rfl rfl fun vs hp k r hk w c args wf ra => ?_
  unfold ZI at hk
  split at hk <;> try (first|cases hk)
  rename_i s n
  obtain ⟨hc,hk⟩:=cB hk
  simp only[Bool.and_eq_true,decide_eq_true_eq]at hc
  obtain ⟨h0,hlen⟩:=hc
  obtain ⟨a,b,rfl,r1,r2⟩:=R8 ra
  obtain ⟨t,rfl,rfl,hl⟩:=r1.kX
  obtain ⟨rfl,hn⟩:=r2.jb
  obtain ⟨m,rfl⟩:=Int.eq_ofNat_of_zero_le h0
  have Q1:(m:Int)≤9223372036854775807:=by
    have:IntKind.i64.has (m:Int):=hn
    simp[IntKind.has,IntKind.min,IntKind.max,IntKind.signed,IntKind.bits]at this
    omega
  rw[size_data]at hlen
  have hlen':t.size*m≤140737488355328:=by omega
  have hrl:(Go.Lib.repeatL t.data.toList m).length≤140737488355328:=by
    rw[Go.Lib.repeatL_length,size_data,Nat.mul_comm]; exact hlen'
  refine ⟨_,hk,na (Any.strings_Repeat Tryz.Zz ZO t m w (by omega) hlen') ?_⟩
  rintro e w' ⟨he,hb⟩
  refine ⟨_,he,hb,?_⟩
  have e2:lX t.data.toList (m:Int)=Go.Lib.repeatL t.data.toList m:=by unfold lX; simp
  rw[e2]
  exact QF _ (by unfold mx; omega)

theorem MW:ay.Spec.Ok Tryz.prog 68 (IQ R):=by
  refine pE Tryz.func68 rfl rfl fun vs hp k r hk w c args wf ra => ?_
  unfold IQ at hk
  split at hk <;> try (first|cases hk)
  rename_i s cs
  obtain ⟨hc,hk⟩:=cB hk
  simp only[Bool.and_eq_true,decide_eq_true_eq]at hc
  obtain ⟨ha,Fz⟩:=hc
  obtain ⟨a,b,rfl,r1,r2⟩:=R8 ra
  obtain ⟨t,rfl,rfl,hl⟩:=r1.kX
  obtain ⟨u,rfl,rfl,Q2⟩:=r2.kX
  rw[size_data]at Fz
  have Ui:=LI ha
  have hle:=ZL t.data.toList u.data.toList
  rw[size_data]at hle
  have fin:∀(l:aj),l=bD t.data.toList u.data.toList→∀w':World,dK w' hp c (.str (bD t.data.toList u.data.toList)) (.string ⟨l.toArray⟩):=fun l e w'=>by
    rw[e]; exact QF _ (by omega)
  by_cases h0:t.size=0∨u.size=0
  · refine ⟨_,hk,na (Any.strings_TrimLeft_empty Tryz.T4 t u w h0) ?_⟩
    rintro e w' ⟨he,rfl⟩
    have e2:(⟨t.data.toList.toArray⟩:ByteArray)=t:=s8 rfl
    rw[←e2]at he
    refine ⟨_,he,Below.refl _ _,fin _ ?_ _⟩
    rcases h0 with h0|h0
    · have:t.data.toList = []:=List.eq_nil_of_length_eq_zero (by rw[size_data]; exact h0)
      rw[this]; unfold bD; simp
    · have:u.data.toList = []:=List.eq_nil_of_length_eq_zero (by rw[size_data]; exact h0)
      rw[this,W3]
  · have hu1:u.size=1∨2≤u.size:=by omega
    rcases hu1 with hu1|UU
    · obtain ⟨b,hb⟩:∃b,u.data.toList = [b]:=by
        have hul:u.data.toList.length=1:=by rw[size_data]; exact hu1
        match hq:u.data.toList,hul with
        | [b],_=>exact ⟨b,rfl⟩
      have eu:u=⟨#[b]⟩:=s8 (by rw[hb])
      subst eu
      refine ⟨_,hk,na (Any.strings_TrimLeft_one Tryz.T4 t b (Ui 0 b rfl) w) ?_⟩
      rintro e w' ⟨he,rfl⟩
      exact ⟨_,he,Below.refl _ _,fin _ (W5 _ _).symm _⟩
    · refine ⟨_,hk,na (Any.strings_TrimLeft_set Tryz.T4 Tryz.zeroValue135 (by kernel_rfl) t u w UU (by omega) (by omega) Ui) ?_⟩
      rintro e w' ⟨he,rfl⟩
      refine ⟨_,he,?_,fin _ rfl _⟩
      exact ((Below.refl _ _).alloc (Nat.le_refl _) _).alloc (by simp) _

theorem ZP:ay.Spec.Ok Tryz.prog 104 (QD R):=by
  refine pE Tryz.func104 rfl rfl fun vs hp k r hk w c args wf ra => ?_
  unfold QD at hk
  split at hk <;> try (first|cases hk)
  rename_i s cs
  obtain ⟨hc,hk⟩:=cB hk
  simp only[Bool.and_eq_true,decide_eq_true_eq]at hc
  obtain ⟨ha,Fz⟩:=hc
  obtain ⟨a,b,rfl,r1,r2⟩:=R8 ra
  obtain ⟨t,rfl,rfl,hl⟩:=r1.kX
  obtain ⟨u,rfl,rfl,Q2⟩:=r2.kX
  rw[size_data]at Fz
  have Ui:=LI ha
  have hle:=ZM t.data.toList u.data.toList
  rw[size_data]at hle
  have fin:∀(l:aj),l=cY t.data.toList u.data.toList→∀w':World,dK w' hp c (.str (cY t.data.toList u.data.toList)) (.string ⟨l.toArray⟩):=fun l e w'=>by
    rw[e]; exact QF _ (by omega)
  by_cases h0:t.size=0∨u.size=0
  · refine ⟨_,hk,na (Any.strings_TrimRight_empty Tryz.T6 t u w h0) ?_⟩
    rintro e w' ⟨he,rfl⟩
    have e2:(⟨t.data.toList.toArray⟩:ByteArray)=t:=s8 rfl
    rw[←e2]at he
    refine ⟨_,he,Below.refl _ _,fin _ ?_ _⟩
    rcases h0 with h0|h0
    · have:t.data.toList = []:=List.eq_nil_of_length_eq_zero (by rw[size_data]; exact h0)
      rw[this]; unfold cY; simp
    · have:u.data.toList = []:=List.eq_nil_of_length_eq_zero (by rw[size_data]; exact h0)
      rw[this,W4]
  · have hu1:u.size=1∨2≤u.size:=by omega
    rcases hu1 with hu1|UU
    · obtain ⟨b,hb⟩:∃b,u.data.toList = [b]:=by
        have hul:u.data.toList.length=1:=by rw[size_data]; exact hu1
        match hq:u.data.toList,hul with
        | [b],_=>exact ⟨b,rfl⟩
      have eu:u=⟨#[b]⟩:=s8 (by rw[hb])
      subst eu
      refine ⟨_,hk,na (Any.strings_TrimRight_one Tryz.T6 t b (Ui 0 b rfl) w hl) ?_⟩
      rintro e w' ⟨he,rfl⟩
      exact ⟨_,he,Below.refl _ _,fin _ (W6 _ _).symm _⟩
    · refine ⟨_,hk,na (Any.strings_TrimRight_set Tryz.T6 Tryz.zeroValue135 (by kernel_rfl) t u w UU (by omega) hl (by omega) Ui) ?_⟩
      rintro e w' ⟨he,rfl⟩
      refine ⟨_,he,?_,fin _ rfl _⟩
      exact ((Below.refl _ _).alloc (Nat.le_refl _) _).alloc (by simp) _

theorem Vp:ay.Spec.Ok Tryz.prog 105 (QE R):=by
  refine pE Tryz.func105 rfl rfl fun vs hp k r hk w c args wf ra => ?_
  unfold QE at hk
  split at hk <;> try (first|cases hk)
  rename_i s
  obtain ⟨hc,hk⟩:=cB hk
  simp only[decide_eq_true_eq]at hc
  obtain ⟨a,rfl,r1⟩:=Pk ra
  obtain ⟨t,rfl,rfl,hl⟩:=r1.kX
  rw[size_data]at hc
  obtain ⟨_,_,⟨t1,x1,VU⟩,⟨t2,x2,WL⟩⟩:=wf.lay.1
  have Cu:IntKind.i64.has (eD t.data.toList):=by
    unfold eD
    split
    · rename_i v hv
      unfold Go.Lib.atoiAll at hv
      split at hv
      · cases hv
      · dsimp only at hv
        split at hv
        · cases hv
        · cases hv
        · rename_i u _
          split at hv
          · cases hv
          · split at hv
            · cases hv
            · cases hv
              split <;> simp[IntKind.has,IntKind.min,IntKind.max,IntKind.signed,IntKind.bits] <;> omega
    · unfold Go.Lib.atoiSat
      split <;> simp[IntKind.has,IntKind.min,IntKind.max,IntKind.signed,IntKind.bits]
    · simp[IntKind.has,IntKind.min,IntKind.max,IntKind.signed,IntKind.bits]
  have two:∀(z:Int) (u:V) (w':World) (x:Value),eD t.data.toList=z→dK w' hp c u x→dK w' hp c (.tuple [.int .i64 (eD t.data.toList),u]) (.tuple #[.int .i64 z,x]):=fun z u w' x hz hx=>by
    subst hz
    refine .tuple rfl fun j v d hv hd => ?_
    match j,hv,hd with
    | 0,hv,hd=>simp at hv hd; subst hv; subst hd; exact .int Cu
    | 1,hv,hd=>simp at hv hd; subst hv; subst hd; exact hx
    | j+2,hv,_=>simp at hv
  rcases hA:Go.Lib.atoiAll t.data.toList with v|_|_
  ·
    have e1:tf t.data.toList=true:=by unfold tf; rw[hA]
    have e2:eD t.data.toList=v:=by unfold eD; rw[hA]
    rw[e1]at hk
    refine ⟨_,hk,na (Any.strconv_Atoi_ok Tryz.T8 t (by omega) v hA w) ?_⟩
    rintro e w' ⟨he,hb⟩
    refine ⟨_,he,?_,two _ _ _ _ e2 .cX⟩
    rcases hb with rfl|⟨q,rfl⟩
    · exact Below.refl _ _
    · exact Sb _ _
  ·
    have e1:tf t.data.toList=false:=by unfold tf; rw[hA]
    have e2:eD t.data.toList=0:=by unfold eD; rw[hA]
    rw[e1]at hk
    refine ⟨_,hk,na (Any.strconv_Atoi_syntax Tryz.T8 t hc hA (.iface t1 x1) w VU (.inr ⟨_,_,rfl⟩)) ?_⟩
    rintro e w' ⟨q,he,_,_,hb⟩
    exact ⟨_,he,hb,two _ _ _ _ e2 (.iface _ _)⟩
  ·
    have e1:tf t.data.toList=false:=by unfold tf; rw[hA]
    have e2:eD t.data.toList=Go.Lib.atoiSat t.data.toList:=by unfold eD; rw[hA]
    rw[e1]at hk
    refine ⟨_,hk,na (Any.strconv_Atoi_range Tryz.T8 t hc hA (.iface t2 x2) w WL (.inr ⟨_,_,rfl⟩)) ?_⟩
    rintro e w' ⟨q,he,_,_,hb⟩
    exact ⟨_,he,hb,two _ _ _ _ e2 (.iface _ _)⟩

theorem toErr_ok:ay.Spec.Ok Tryz.prog 136 (toErr_S R 184):=by
  refine pE Tryz.func136 rfl rfl fun vs hp k r hk w c args wf ra => ?_
  unfold toErr_S at hk
  split at hk <;> try (first|cases hk)
  rename_i fn s b1 b2 t n
  obtain ⟨hc,WC⟩:=cB hk
  obtain ⟨KC,GN⟩:=cB WC
  simp only[Bool.and_eq_true,Bool.or_eq_true,beq_iff_eq,decide_eq_true_eq]at hc KC
  obtain ⟨ht,hn⟩:=hc
  have ht:=Nat.eq_of_beq_eq_true ht
  subst ht
  obtain ⟨l⟩:=args
  match l,ra with
  | [a1,a2,a3,a4,a5],ra =>
    obtain ⟨t1,rfl,rfl,_⟩:=ra.head.kX
    obtain ⟨t2,rfl,rfl,Q2⟩:=ra.tail.head.kX
    obtain ⟨rfl,_⟩:=ra.tail.tail.head.jb
    obtain ⟨rfl,_⟩:=ra.tail.tail.tail.head.jb
    obtain ⟨rfl,_⟩:=ra.tail.tail.tail.tail.head.P6
    rw[size_data]at KC
    obtain ⟨_,_,⟨p1,x1,VU⟩,⟨p2,x2,WL⟩⟩:=wf.lay.1
    rcases hn with rfl|rfl
    · refine ⟨_,GN,na (Any.strconv_toError_syntax Tryz.ZA t1 t2 b1 b2 (.iface p1 x1) w KC VU (.inr ⟨_,_,rfl⟩)) ?_⟩
      rintro e w' ⟨q,he,_,_,hb⟩
      exact ⟨_,he,hb, .iface _ _⟩
    · refine ⟨_,GN,na (Any.strconv_toError_range Tryz.ZA t1 t2 b1 b2 (.iface p2 x2) w KC WL (.inr ⟨_,_,rfl⟩)) ?_⟩
      rintro e w' ⟨q,he,_,_,hb⟩
      exact ⟨_,he,hb, .iface _ _⟩
  | [],ra=>have:=ra.1; simp at this
  | [_],ra=>have:=ra.1; simp at this
  | [_,_],ra=>have:=ra.1; simp at this
  | [_,_,_],ra=>have:=ra.1; simp at this
  | [_,_,_,_],ra=>have:=ra.1; simp at this
  | _::_::_::_::_::_::_,ra=>have:=ra.1; simp at this

theorem W7:ay.Spec.Ok Tryz.prog 173 (MV R):=by
  refine pE Tryz.func173 rfl rfl fun vs hp k r hk w c args wf ra => ?_
  unfold MV at hk
  split at hk <;> try (first|cases hk)
  rename_i s cs
  obtain ⟨hc,hk⟩:=cB hk
  simp only[Bool.and_eq_true,decide_eq_true_eq]at hc
  obtain ⟨⟨⟨ha,hb⟩,hsl⟩,Fz⟩:=hc
  obtain ⟨a,b,rfl,r1,r2⟩:=R8 ra
  obtain ⟨t,rfl,rfl,hl⟩:=r1.kX
  obtain ⟨u,rfl,rfl,Q2⟩:=r2.kX
  rw[size_data]at hsl Fz
  refine ⟨_,hk,na (Any.strings_ContainsAny_laid Tryz.lay150 (by kernel_rfl) t u w hsl Fz (LI ha) (LI hb)) ?_⟩
  rintro e w' ⟨he,hb⟩
  exact ⟨_,he,hb, .bool _⟩

theorem ZQ:ay.Spec.Ok Tryz.prog 71 (Vo R):=by
  refine pE Tryz.func71 rfl rfl fun vs hp k r hk w c args wf ra => ?_
  unfold Vo at hk
  split at hk <;> try (first|cases hk)
  rename_i s ch
  obtain ⟨a,b,rfl,r1,r2⟩:=R8 ra
  obtain ⟨t,rfl,rfl,hl⟩:=r1.kX
  obtain ⟨rfl,hn⟩:=r2.jb
  have hb:IntKind.i64.has (Go.Lib.indexByte t.data.toList ch.toNat.toUInt8):=by
    have h1:=Go.Lib.indexByte_ge t.data.toList ch.toNat.toUInt8
    have h2:Go.Lib.indexByte t.data.toList ch.toNat.toUInt8≤t.data.toList.length:=by
      generalize t.data.toList=l
      induction l with
      | nil=>simp[Go.Lib.indexByte]
      | cons x l ih =>
        have:=Go.Lib.indexByte_ge l ch.toNat.toUInt8
        unfold Go.Lib.indexByte
        split
        · simp; omega
        · split
          · simp; omega
          · simp; omega
    rw[size_data]at h2
    unfold mx at hl
    generalize Go.Lib.indexByte t.data.toList ch.toNat.toUInt8=z at h1 h2
    simp[IntKind.has,IntKind.min,IntKind.max,IntKind.signed,IntKind.bits]; omega
  refine ⟨_,hk,na (Any.strings_IndexByte Tryz.lay137 t ch w) ?_⟩
  rintro e w' ⟨he,rfl⟩
  exact ⟨_,he,Below.refl _ _, .int hb⟩

theorem bccL:Lays.n240 Tryz.prog Tryz.En := { Tryz.Zz with }
theorem MX:ay.Spec.Ok Tryz.prog 73 (KM R) :=
  bcc_ok Tryz.func73 rfl rfl (fun b w h0 hs hf=>Any.Builder_copyCheck_fresh bccL x72 b w h0 hs hf) (fun b w h0=>Any.Builder_copyCheck_used bccL x72 b w h0)

theorem Vq:Lays.n169 Tryz.prog Tryz.HP:=Tryz.lay169
theorem CW:Builder.Extra Tryz.prog Tryz.HP := { sizeBuilder:=by kernel_rfl,liesBuilder:=by kernel_rfl,t5:=Tryz.underlying5,a5:=Tryz.isAgg5,z5:=Tryz.sizeOf5,v5:=Tryz.zeroValue5,infoByte:=by kernel_rfl,cellsByte:=by kernel_rfl,sizeByte:=by kernel_rfl,neB5:=by decide }

set_option maxHeartbeats 1000000 in
theorem Sc (b q cap:Nat) (p:Value) (cur:Array Value) (fz:Nat × Nat) (l:List UInt8) (w:World) (h0:l ≠ []) (U0:w.heap[b]? = some (.cells #[p, .slice (some ⟨q,0,none⟩) l.length cap] oZ.kW (0,0)))
    (hq:w.heap[q]? = some (.cells cur oZ.u8 fz)) (hnc:l.length≤cap) (hcm:cap≤mx) (qL:l.length≤cur.size) (yr:∀(j:Nat) (x:UInt8),l[j]? = some x→w.cell? ⟨q,j,none⟩=some (.int .u8 x.toNat)) :
    Calls Tryz.prog 39 #[.pointer (some ⟨b,0,none⟩)] w fun e w'=>e = .returned (.string ⟨l.toArray⟩)∧w'=w.drew.freeze ⟨q,0,none⟩ l.length:=by
  have KC:l.length≠0:=by simpa using h0
  have L:=Vq
  have X:=CW
  have c1:w.drew.cell? ⟨b,1,none⟩=some (.slice (some ⟨q,0,none⟩) l.length cap):=by
    have h1:w.drew.heap[b]? = some (.cells #[p, .slice (some ⟨q,0,none⟩) l.length cap] oZ.kW (0,0)):=U0
    rw[Lib.cell_of_heap h1]; rfl
  have hSD:(Builtin.unsafeSliceData_ #[41] 106 #[.slice (some ⟨q,0,none⟩) l.length cap]).run Tryz.prog w.drew = .ok (.pointer (some ⟨q,0,none⟩)) w.drew :=
    Lib.run_unsafeSliceData_row _ _ _ _ _ _ (by omega)
  have hUS:(Builtin.unsafeString_ #[106,3] 9 #[.pointer (some ⟨q,0,none⟩), .int .i64 l.length]).run Tryz.prog w.drew = .ok (.string ⟨l.toArray⟩) (w.drew.freeze ⟨q,0,none⟩ l.length):=by
    refine Lib.run_unsafeString_row w.drew 106 3 9 5 L.t127 X.cellsByte q cur.size (by have hq':w.drew.heap[q]? = some (.cells cur 5 fz):=hq; simp[World.shape?,hq']) l h0 qL (by unfold mx at hcm; omega) ?_
    intro j x hx
    have:=yr j x hx
    rw[ay.tL,Nat.zero_add]
    exact this
  have mixed:=L.mixed
  have t72:=L.t72; have a72:=L.a72; have z72:=L.z72; have v72:=L.v72; have u72:=run_underlying L.t72
  have t70:=L.t70; have a70:=L.a70; have z70:=L.z70; have v70:=L.v70; have u70:=run_underlying L.t70
  have t37:=L.t37; have a37:=L.a37; have z37:=L.z37; have v37:=L.v37; have u37:=run_underlying L.t37
  have t127:=L.t127; have a127:=L.a127; have z127:=L.z127; have v127:=L.v127; have u127:=run_underlying L.t127
  have t3:=L.t3; have a3:=L.a3; have z3:=L.z3; have v3:=L.v3; have u3:=run_underlying L.t3
  have t9:=L.t9; have a9:=L.a9; have z9:=L.z9; have v9:=L.v9; have u9:=run_underlying L.t9
  have t5:=X.t5; have a5:=X.a5; have z5:=X.z5; have v5:=X.v5; have u5:=run_underlying X.t5
  go_enter Tryz.func39,Tryz.ntmps39
  go_wp2
  go_region_o
  all_goals (go_wp2; go_ret; exact ⟨rfl,rfl⟩)

set_option maxHeartbeats 2000000 in
theorem Oy (b q:Nat) (p:Value) (cur:Array Value) (fz:Nat × Nat) (w:World) (U0:w.heap[b]? = some (.cells #[p, .slice (some ⟨q,0,none⟩) 0 0] oZ.kW (0,0))) (hq:w.heap[q]? = some (.cells cur oZ.u8 fz)) :
    Calls Tryz.prog 39 #[.pointer (some ⟨b,0,none⟩)] w fun e w'=>e = .returned (.string ⟨#[]⟩)∧Below w.heap.size w w':=by
  have L:=Vq
  have X:=CW
  have hUS:∀(W:World) (q:Option Addr),(Builtin.unsafeString_ #[106,3] 9 #[.pointer q, .int .i64 0]).run Tryz.prog W = .ok (.string .empty) W:=fun W q=>Lib.run_unsafeString_none W _ _ _ q
  have lp:b<w.heap.size:=by
    rcases Nat.lt_or_ge b w.heap.size with h'|h'
    · exact h'
    · simp[Array.getElem?_eq_none h']at U0
  have c1:w.drew.cell? ⟨b,1,none⟩=some (.slice (some ⟨q,0,none⟩) 0 0):=by
    have:w.drew.heap[b]? = some (.cells #[p, .slice (some ⟨q,0,none⟩) 0 0] oZ.kW (0,0)):=U0
    rw[Lib.cell_of_heap this]; rfl
  have hSD:(Builtin.unsafeSliceData_ #[41] 106 #[.slice (some ⟨q,0,none⟩) 0 0]).run Tryz.prog w.drew = .ok (.pointer (some ⟨w.drew.heap.size,0,none⟩)) (w.drew.alloc (.view ⟨q,0,none⟩ 5)) :=
    Lib.run_unsafeSliceData_zero w.drew _ _ 5 L.t127 ⟨q,0,none⟩ 0 (5,cur.size) (by have hq':w.drew.heap[q]? = some (.cells cur 5 fz):=hq; simp[World.shape?,hq'])
  have c2:(w.drew.alloc (.view ⟨q,0,none⟩ 5)).cell? ⟨b,1,none⟩=some (.slice (some ⟨q,0,none⟩) 0 0):=by
    have:(w.drew.alloc (.view ⟨q,0,none⟩ 5)).heap[b]? = _:=(Lib.alloc_old w.drew _ b lp).trans U0
    rw[Lib.cell_of_heap this]; rfl
  have c3:(w.alloc (.view ⟨q,0,none⟩ 5)).drew.cell? ⟨b,1,none⟩=some (.slice (some ⟨q,0,none⟩) 0 0):=c2
  have c0:w.cell? ⟨b,1,none⟩=some (.slice (some ⟨q,0,none⟩) 0 0):=c1
  have mixed:=L.mixed
  have t72:=L.t72; have a72:=L.a72; have z72:=L.z72; have v72:=L.v72; have u72:=run_underlying L.t72
  have t70:=L.t70; have a70:=L.a70; have z70:=L.z70; have v70:=L.v70; have u70:=run_underlying L.t70
  have t37:=L.t37; have a37:=L.a37; have z37:=L.z37; have v37:=L.v37; have u37:=run_underlying L.t37
  have t127:=L.t127; have a127:=L.a127; have z127:=L.z127; have v127:=L.v127; have u127:=run_underlying L.t127
  have t3:=L.t3; have a3:=L.a3; have z3:=L.z3; have v3:=L.v3; have u3:=run_underlying L.t3
  have t9:=L.t9; have a9:=L.a9; have z9:=L.z9; have v9:=L.v9; have u9:=run_underlying L.t9
  have t5:=X.t5; have a5:=X.a5; have z5:=X.z5; have v5:=X.v5; have u5:=run_underlying X.t5
  go_enter Tryz.func39,Tryz.ntmps39
  go_wp2
  go_region_o
  all_goals (go_wp2; go_ret; exact ⟨rfl,(Below.drew (Below.refl _ w)).alloc (Nat.le_refl _) _⟩)

theorem Sd:MT Tryz.prog 39 where
  nil:=fun b p w U0=>Any.Builder_String_nil Vq CW w.heap.size b p w U0
  ZG:=Oy
  room:=fun b q cap p w hc U0=>Any.Builder_String_room Vq CW w.heap.size b q cap p w hc U0
  some:=Sc

theorem LJ:ay.Spec.Ok Tryz.prog 39 (Eo R):=bstr_ok Tryz.func39 rfl rfl Sd

end
end Go.Proofs.YtmlkkgfenfdndaaGreatDoor

/-
  Functions of the program as pure Lean functions, and the ties; printed by wip/tools/emit.py.
-/
set_option maxRecDepth 100000
namespace Go.Proofs.YtmlkkgfenfdndaaGreatDoor
open Go Go.ay

/-! ### humpyard/humpyardlaw04.pick -/
abbrev jW (R:Type):Type:=Int→Int→(Int→Option R)→Option R
abbrev xb:List bN := [.leaf (.int .i64), .leaf (.int .i64)]
abbrev xc:List aH := []
noncomputable def Dc {R:Type} (fn:jW R):bN.av xb→aH.av xc→(V→az→Option R)→Option R:=fun x y k=>fn x.1 x.2.1 (fun q0=>k (.int .i64 q0) [])
noncomputable def A4 (R:Type):Env R:=fun i=>match i with
  | _=>none
theorem MY (R:Type):p6 Tryz.prog (A4 R):=by
  intro i b sp h
  unfold A4 at h
  split at h
  · cases h

noncomputable def IT (R:Type):Nat→Option (Hint × cr R):=fun i=>match i with
  | _=>none

noncomputable def IU {R:Type} (x1:Int) (x2:Int) (k0:Int→Option R):Option R :=
  bif (decide (x1<(0:Int)))then (cU (!decide (x2=0)) (k0 (Int.tmod (IntKind.i64.wrap (0 - (IntKind.i64.wrap (x1+1)))) x2)))else (cU (!decide (x2=0)) (k0 (Int.tmod x1 x2)))
noncomputable def cz {R:Type}:jW R:=fun x1 x2 k0=>IU x1 x2 k0
theorem Oz {R:Type} (x1:Int) (x2:Int) (k:V→az→Option R):iP tt (A4 R) (IT R) false Tryz.f35 (aK Tryz.f35) [.int .i64 x1, .int .i64 x2] [] k =
    IU x1 x2 (fun q0=>k (.int .i64 q0) []):=by kernel_rfl
theorem J3 (R:Type):∀a∈aP (aK Tryz.f35),cR tt (A4 R) (IT R) 0 a:=by
  refine bG 0 (by kernel_rfl) fun i hi => ?_
  omega
theorem EX (R:Type) (other:ay.Spec R) (ho:ay.Spec.Ok Tryz.prog 35 other):ay.Spec.Ok Tryz.prog 35 (aA xb xc (Dc cz) other) :=
  bu ho (bj TT mixed (MY R) (keep:=false) rfl rfl rfl rfl 0 (J3 R)) fun (x:bN.av xb) (y:aH.av xc) k=>Oz x.1 x.2.1 k

/-! ### humpyard/humpyardlaw01.pick -/
abbrev sc (R:Type):Type:=Int→Int→(Int→Option R)→Option R
abbrev A5:List bN := [.leaf (.int .i64), .leaf (.int .i64)]
abbrev A6:List aH := []
noncomputable def Hg {R:Type} (fn:sc R):bN.av A5→aH.av A6→(V→az→Option R)→Option R:=fun x y k=>fn x.1 x.2.1 (fun q0=>k (.int .i64 q0) [])
noncomputable def A7 (R:Type):Env R:=fun i=>match i with
  | _=>none
theorem MZ (R:Type):p6 Tryz.prog (A7 R):=by
  intro i b sp h
  unfold A7 at h
  split at h
  · cases h

noncomputable def IV (R:Type):Nat→Option (Hint × cr R):=fun i=>match i with
  | _=>none

noncomputable def IW {R:Type} (x1:Int) (x2:Int) (k0:Int→Option R):Option R :=
  bif (decide (x1<(0:Int)))then (cU (!decide (x2=0)) (k0 (Int.tmod (IntKind.i64.wrap (0 - (IntKind.i64.wrap (x1+1)))) x2)))else (cU (!decide (x2=0)) (k0 (Int.tmod x1 x2)))
noncomputable def gv {R:Type}:sc R:=fun x1 x2 k0=>IW x1 x2 k0
theorem OA {R:Type} (x1:Int) (x2:Int) (k:V→az→Option R):iP tt (A7 R) (IV R) false Tryz.f54 (aK Tryz.f54) [.int .i64 x1, .int .i64 x2] [] k =
    IW x1 x2 (fun q0=>k (.int .i64 q0) []):=by kernel_rfl
theorem J4 (R:Type):∀a∈aP (aK Tryz.f54),cR tt (A7 R) (IV R) 0 a:=by
  refine bG 0 (by kernel_rfl) fun i hi => ?_
  omega
theorem K5 (R:Type) (other:ay.Spec R) (ho:ay.Spec.Ok Tryz.prog 54 other):ay.Spec.Ok Tryz.prog 54 (aA A5 A6 (Hg gv) other) :=
  bu ho (bj TT mixed (MZ R) (keep:=false) rfl rfl rfl rfl 0 (J4 R)) fun (x:bN.av A5) (y:aH.av A6) k=>OA x.1 x.2.1 k

/-! ### humpyard/humpyardlaw01.Fit -/
abbrev mE (R:Type):Type:=Int→Int→(iZ→Option R)→Option R
abbrev zR:List bN := [.leaf (.int .i64), .leaf (.int .i64)]
abbrev zS:List aH := []
noncomputable def Ep {R:Type} (fn:mE R):bN.av zR→aH.av zS→(V→az→Option R)→Option R:=fun x y k=>fn x.1 x.2.1 (fun q0=>k (.agg [.int .i64 q0.aB, .int .i64 q0.exp]) [])
abbrev og (R:Type):Type:=Nat→Int→Int→iZ→(Int→Int→iZ→Option R)→Option R
noncomputable def tg (R:Type) (gv:sc R):Env R:=fun i=>match i with
  | 54=>some (true,(aA A5 A6 (Hg gv) bg))
  | _=>none
theorem OB (R:Type):p6 Tryz.prog (tg R gv):=by
  intro i b sp h
  unfold tg at h
  split at h
  · cases h; exact ⟨(K5 R _ (aO _)),fun h=>nomatch h⟩
  · cases h

noncomputable def oT {R:Type} (fy:Int→Int→iZ→Option R) (x5:Int) (x6:Int) (x7:iZ) (e0:Int→Int→iZ→Option R):Option R :=
  bif (x5 != 0)then (bif ((Int.tmod x5 10)==0)then (fy (IntKind.i64.wrap (Int.tdiv x5 10)) x6 x7)else (e0 x5 x6 x7))else (e0 x5 x6 x7)
noncomputable def cx {R:Type}:og R
  | 0,_,_,_,_=>none
  | n+1,lY,lZ,mF,e0=>oT (fun lY lZ mF=>cx n lY lZ mF e0) lY lZ mF e0
noncomputable def vC:Hint := { live := [4,5,6],own := [],rows := [],cells := [],drop := [],out := [4,5,6] }
abbrev l0:Type:=Int × Int × iZ
noncomputable def sC:l0→St:=fun d=>⟨[.undef, .undef, .undef, .undef, .ptr 0 0, .int .i64 d.1, .int .i64 d.2.1, .undef, .undef, .undef, .undef, .undef, .undef, .undef, .undef, .undef, .undef, .undef, .undef, .undef, .undef, .undef, .undef, .undef, .undef, .undef, .undef], [.cells [.int .i64 d.2.2.aB, .int .i64 d.2.2.exp]]⟩
noncomputable def yH {R:Type} (K:Ex→St→Option R) (q0:Int) (q1:Int) (q2:iZ):Option R:=K (.exit 0) ⟨[.undef, .undef, .undef, .undef, .ptr 0 0, .int .i64 q0, .int .i64 q1, .undef, .undef, .undef, .undef, .undef, .undef, .undef, .undef, .undef, .undef, .undef, .undef, .undef, .undef, .undef, .undef, .undef, .undef, .undef, .undef], [.cells [.int .i64 q2.aB, .int .i64 q2.exp]]⟩
noncomputable def As {R:Type} (K:Ex→St→Option R) (rc:l0→Option R) (d:l0):Option R:=oT (fun z0 z1 z2=>rc (z0,z1,z2)) d.1 d.2.1 d.2.2 (yH K)
noncomputable def oU {R:Type} (K:Ex→St→Option R) (n:Nat) (d:l0):Option R:=cx n d.1 d.2.1 d.2.2 (yH K)
abbrev l7:List bN := [.leaf (.undef), .leaf (.undef), .leaf (.undef), .leaf (.undef), .leaf (.ptr 0 0), .leaf (.int .i64), .leaf (.int .i64), .leaf (.undef), .leaf (.undef), .leaf (.undef), .leaf (.undef), .leaf (.undef), .leaf (.undef), .leaf (.undef), .leaf (.undef), .leaf (.undef), .leaf (.undef), .leaf (.undef), .leaf (.undef), .leaf (.undef), .leaf (.undef), .leaf (.undef), .leaf (.undef), .leaf (.undef), .leaf (.undef), .leaf (.undef), .leaf (.undef)]
abbrev l8:List aH := [.cells [.int .i64, .int .i64]]
noncomputable def Au (x:bN.av l7) (y:aH.av l8):Nat:=(Int.natAbs x.2.2.2.2.2.1+Int.natAbs x.2.2.2.2.2.2.1+iZ.fu (⟨y.1.1,y.1.2.1⟩:iZ)+64)
noncomputable def Av (x:bN.av l7) (y:aH.av l8):l0:=(x.2.2.2.2.2.1,x.2.2.2.2.2.2.1,(⟨y.1.1,y.1.2.1⟩:iZ))
noncomputable def yI {R:Type} (L:og R):bN.av l7→aH.av l8→(Ex→St→Option R)→Option R:=fun x y K=>L (Au x y) x.2.2.2.2.2.1 x.2.2.2.2.2.2.1 (⟨y.1.1,y.1.2.1⟩:iZ) (yH K)
noncomputable def zT (R:Type) (cx:og R):Nat→Option (Hint × cr R):=fun i=>match i with
  | 3=>some (vC,(gu l7 l8 (yI cx) qv))
  | _=>none

theorem HQ {R:Type} (gv:sc R) (cx:og R) (K:Ex→St→Option R) (rc:St→Option R) (d:l0):roundOf tt (tg R gv) (zT R cx) 0 ((aP (aK Tryz.f28)).getD 0 .skip) vC (sC d) rc K=As K (fun d=>rc (sC d)) d:=by kernel_rfl
theorem FR {R:Type} (K:Ex→St→Option R) (n:Nat) (d:l0):oU K (n+1) d=As K (oU K n) d:=by kernel_rfl
theorem FT {R:Type} (K:Ex→St→Option R) (d:l0):oU K 0 d=none:=by kernel_rfl
theorem HR (x:bN.av l7) (y:aH.av l8):(⟨bN.cV l7 x,aH.cV l8 y⟩:St)=sC (Av x y):=by kernel_rfl
theorem HS {R:Type} (x:bN.av l7) (y:aH.av l8) (K:Ex→St→Option R):yI (cx) x y K=oU K (Au x y) (Av x y):=by kernel_rfl
theorem J5 {R:Type} (other:cr R) (ho:o3 tt (tg R gv) (zT R cx) 0 ((aP (aK Tryz.f28)).getD 0 .skip) vC other):o3 tt (tg R gv) (zT R cx) 0 ((aP (aK Tryz.f28)).getD 0 .skip) vC (gu l7 l8 (yI (cx)) other) :=
  gN (A:=oU) ho (kB sC (As) (oU) (FT) (HQ gv cx) (FR)) Au Av HR (HS)

noncomputable def zU {R:Type} (gv:sc R) (cx:og R) (x1:Int) (x2:Int) (k0:iZ→Option R):Option R :=
  gv x1 2000000000000001 (fun y3=>gv x2 19 (fun y4=>cx (Int.natAbs (IntKind.i64.wrap (y3 - 1000000000000000))+Int.natAbs (IntKind.i64.wrap (y4 - 9))+iZ.fu (⟨0,0⟩:iZ)+64) (IntKind.i64.wrap (y3 - 1000000000000000)) (IntKind.i64.wrap (y4 - 9)) (⟨0,0⟩:iZ) (fun y9 yJ wL=>bif (y9==0)then (k0 (⟨y9,0⟩:iZ))else (k0 (⟨y9,yJ⟩:iZ)))))
noncomputable def dp {R:Type}:mE R:=fun x1 x2 k0=>zU gv cx x1 x2 k0
theorem QG {R:Type} (gv:sc R) (cx:og R) (x1:Int) (x2:Int) (k:V→az→Option R):iP tt (tg R gv) (zT R cx) false Tryz.f28 (aK Tryz.f28) [.int .i64 x1, .int .i64 x2] [] k =
    zU gv cx x1 x2 (fun q0=>k (.agg [.int .i64 q0.aB, .int .i64 q0.exp]) []):=by kernel_rfl
theorem K6 (R:Type):∀a∈aP (aK Tryz.f28),cR tt (tg R gv) (zT R cx) 0 a:=by
  refine bG 1 (by kernel_rfl) fun i hi => ?_
  match i,hi with
  | 0,_=>exact fC (by kernel_rfl) (J5 _ jc)
  | n+1,hi=>omega
theorem FU (R:Type) (other:ay.Spec R) (ho:ay.Spec.Ok Tryz.prog 28 other):ay.Spec.Ok Tryz.prog 28 (aA zR zS (Ep dp) other) :=
  bu ho (bj TT mixed (OB R) (keep:=false) rfl rfl rfl rfl 0 (K6 R)) fun (x:bN.av zR) (y:aH.av zS) k=>QG gv cx x.1 x.2.1 k

/-! ### humpyard/humpyardlaw02.pick -/
abbrev pF (R:Type):Type:=Int→Int→(Int→Option R)→Option R
abbrev A8:List bN := [.leaf (.int .i64), .leaf (.int .i64)]
abbrev A9:List aH := []
noncomputable def Hh {R:Type} (fn:pF R):bN.av A8→aH.av A9→(V→az→Option R)→Option R:=fun x y k=>fn x.1 x.2.1 (fun q0=>k (.int .i64 q0) [])
noncomputable def Ba (R:Type):Env R:=fun i=>match i with
  | _=>none
theorem M0 (R:Type):p6 Tryz.prog (Ba R):=by
  intro i b sp h
  unfold Ba at h
  split at h
  · cases h

noncomputable def IX (R:Type):Nat→Option (Hint × cr R):=fun i=>match i with
  | _=>none

noncomputable def IY {R:Type} (x1:Int) (x2:Int) (k0:Int→Option R):Option R :=
  bif (decide (x1<(0:Int)))then (cU (!decide (x2=0)) (k0 (Int.tmod (IntKind.i64.wrap (0 - (IntKind.i64.wrap (x1+1)))) x2)))else (cU (!decide (x2=0)) (k0 (Int.tmod x1 x2)))
noncomputable def dP {R:Type}:pF R:=fun x1 x2 k0=>IY x1 x2 k0
theorem OC {R:Type} (x1:Int) (x2:Int) (k:V→az→Option R):iP tt (Ba R) (IX R) false Tryz.f60 (aK Tryz.f60) [.int .i64 x1, .int .i64 x2] [] k =
    IY x1 x2 (fun q0=>k (.int .i64 q0) []):=by kernel_rfl
theorem J6 (R:Type):∀a∈aP (aK Tryz.f60),cR tt (Ba R) (IX R) 0 a:=by
  refine bG 0 (by kernel_rfl) fun i hi => ?_
  omega
theorem K7 (R:Type) (other:ay.Spec R) (ho:ay.Spec.Ok Tryz.prog 60 other):ay.Spec.Ok Tryz.prog 60 (aA A8 A9 (Hh dP) other) :=
  bu ho (bj TT mixed (M0 R) (keep:=false) rfl rfl rfl rfl 0 (J6 R)) fun (x:bN.av A8) (y:aH.av A9) k=>OC x.1 x.2.1 k

/-! ### humpyard/humpyardlaw02.Text -/
abbrev ja (R:Type):Type:=(List Int)→(aj→Option R)→Option R
abbrev xd:List bN := [.leaf (.sl (.int .i64))]
abbrev xe:List aH := []
noncomputable def Dd {R:Type} (fn:ja R):bN.av xd→aH.av xe→(V→az→Option R)→Option R:=fun x y k=>fn x.1 (fun q0=>k (.str q0) [])
abbrev nr (R:Type):Type:=Nat→(List Int)→aj→Int→(aj→Option R)→Option R
noncomputable def qU (R:Type) (dP:pF R):Env R:=fun i=>match i with
  | 60=>some (true,(aA A8 A9 (Hh dP) bg))
  | _=>none
theorem M1 (R:Type):p6 Tryz.prog (qU R dP):=by
  intro i b sp h
  unfold qU at h
  split at h
  · cases h; exact ⟨(K7 R _ (aO _)),fun h=>nomatch h⟩
  · cases h

noncomputable def kC {R:Type} (dP:pF R) (fy:(List Int)→aj→Int→Option R) (x2:List Int) (x3:aj) (x4:Int) (e0:aj→Option R):Option R :=
  bif (decide (x4<(x2.length:Int)))then (bif (decide (x4<(200:Int)))then (cU (decide ((0:Int)≤x4)&&decide (x4<x2.length)) (let j16:=fun (Se:Int)=>bif (decide (Se≥(55296:Int)))then (bif (decide (Se≤(57343:Int)))then (cU (decide (x3.length+(oO ([120]:List Int)).length≤9223372036854775807)) (fy x2 (x3++(oO ([120]:List Int))) (IntKind.i64.wrap (x4+1))))else (cU (decide (x3.length+(oO ([(IntKind.i32.wrap Se)]:List Int)).length≤9223372036854775807)) (fy x2 (x3++(oO ([(IntKind.i32.wrap Se)]:List Int))) (IntKind.i64.wrap (x4+1)))))else (cU (decide (x3.length+(oO ([(IntKind.i32.wrap Se)]:List Int)).length≤9223372036854775807)) (fy x2 (x3++(oO ([(IntKind.i32.wrap Se)]:List Int))) (IntKind.i64.wrap (x4+1)))); dP (x2.getD x4.toNat (Ty.cn (.int .i64))) 5 (fun y6=>let j12:=fun (z7:Bool)=>bif z7 then (dP (IntKind.i64.wrap (Int.tdiv (x2.getD x4.toNat (Ty.cn (.int .i64))) 5)) 128 (fun y8=>j16 y8))else (bif (y6==2)then (dP (IntKind.i64.wrap (Int.tdiv (x2.getD x4.toNat (Ty.cn (.int .i64))) 5)) 2048 (fun y9=>j16 y9))else (bif (y6==3)then (dP (IntKind.i64.wrap (Int.tdiv (x2.getD x4.toNat (Ty.cn (.int .i64))) 5)) 65536 (fun yJ=>j16 yJ))else (dP (IntKind.i64.wrap (Int.tdiv (x2.getD x4.toNat (Ty.cn (.int .i64))) 5)) 1114112 (fun wL=>j16 wL)))); bif (y6==0)then (j12 (y6==0))else (j12 (y6==1)))))else (e0 x3))else (e0 x3)
noncomputable def cF {R:Type}:nr R
  | 0,_,_,_,_=>none
  | n+1,lY,lZ,mF,e0=>kC dP (fun lY lZ mF=>cF n lY lZ mF e0) lY lZ mF e0
noncomputable def tP:Hint := { live := [0,3,4],own := [],rows := [],cells := [],drop := [],out := [2,3] }
abbrev kD:Type:=(List Int) × aj × Int
noncomputable def qV:kD→St:=fun d=>⟨[.sl (.int .i64) d.1 .no, .undef, .undef, .str d.2.1, .int .i64 d.2.2, .undef, .undef, .undef, .undef, .undef, .undef, .undef, .undef, .undef, .undef, .undef, .undef, .undef, .undef, .undef, .undef, .undef, .undef, .undef, .undef, .undef, .undef, .undef, .undef, .undef, .undef, .undef, .undef, .undef, .undef, .undef, .undef, .undef, .undef, .undef, .undef, .undef, .undef, .undef, .undef, .undef, .undef, .undef, .undef, .undef, .undef, .undef, .undef, .undef, .undef], []⟩
noncomputable def xf {R:Type} (K:Ex→St→Option R) (q0:aj):Option R:=K (.exit 0) ⟨[.undef, .undef, .undef, .str q0, .undef, .undef, .undef, .undef, .undef, .undef, .undef, .undef, .undef, .undef, .undef, .undef, .undef, .undef, .undef, .undef, .undef, .undef, .undef, .undef, .undef, .undef, .undef, .undef, .undef, .undef, .undef, .undef, .undef, .undef, .undef, .undef, .undef, .undef, .undef, .undef, .undef, .undef, .undef, .undef, .undef, .undef, .undef, .undef, .undef, .undef, .undef, .undef, .undef, .undef, .undef], []⟩
noncomputable def yK {R:Type} (dP:pF R) (K:Ex→St→Option R) (rc:kD→Option R) (d:kD):Option R:=kC dP (fun z0 z1 z2=>rc (z0,z1,z2)) d.1 d.2.1 d.2.2 (xf K)
noncomputable def oh {R:Type} (K:Ex→St→Option R) (n:Nat) (d:kD):Option R:=cF n d.1 d.2.1 d.2.2 (xf K)
abbrev kE:List bN := [.leaf (.sl (.int .i64)), .leaf (.undef), .leaf (.undef), .leaf (.str), .leaf (.int .i64), .leaf (.undef), .leaf (.undef), .leaf (.undef), .leaf (.undef), .leaf (.undef), .leaf (.undef), .leaf (.undef), .leaf (.undef), .leaf (.undef), .leaf (.undef), .leaf (.undef), .leaf (.undef), .leaf (.undef), .leaf (.undef), .leaf (.undef), .leaf (.undef), .leaf (.undef), .leaf (.undef), .leaf (.undef), .leaf (.undef), .leaf (.undef), .leaf (.undef), .leaf (.undef), .leaf (.undef), .leaf (.undef), .leaf (.undef), .leaf (.undef), .leaf (.undef), .leaf (.undef), .leaf (.undef), .leaf (.undef), .leaf (.undef), .leaf (.undef), .leaf (.undef), .leaf (.undef), .leaf (.undef), .leaf (.undef), .leaf (.undef), .leaf (.undef), .leaf (.undef), .leaf (.undef), .leaf (.undef), .leaf (.undef), .leaf (.undef), .leaf (.undef), .leaf (.undef), .leaf (.undef), .leaf (.undef), .leaf (.undef), .leaf (.undef)]
abbrev kF:List aH := []
noncomputable def yL (x:bN.av kE) (y:aH.av kF):Nat:=(List.length x.1+List.length x.2.2.2.1+Int.natAbs x.2.2.2.2.1+64)
noncomputable def yM (x:bN.av kE) (y:aH.av kF):kD:=(x.1,x.2.2.2.1,x.2.2.2.2.1)
noncomputable def xg {R:Type} (L:nr R):bN.av kE→aH.av kF→(Ex→St→Option R)→Option R:=fun x y K=>L (yL x y) x.1 x.2.2.2.1 x.2.2.2.2.1 (xf K)
noncomputable def xh (R:Type) (cF:nr R):Nat→Option (Hint × cr R):=fun i=>match i with
  | 3=>some (tP,(gu kE kF (xg cF) qv))
  | _=>none

theorem GO {R:Type} (dP:pF R) (cF:nr R) (K:Ex→St→Option R) (rc:St→Option R) (d:kD):roundOf tt (qU R dP) (xh R cF) 0 ((aP (aK Tryz.f37)).getD 0 .skip) tP (qV d) rc K=yK dP K (fun d=>rc (qV d)) d:=by kernel_rfl
theorem E9 {R:Type} (K:Ex→St→Option R) (n:Nat) (d:kD):oh K (n+1) d=yK dP K (oh K n) d:=by kernel_rfl
theorem Fa {R:Type} (K:Ex→St→Option R) (d:kD):oh K 0 d=none:=by kernel_rfl
theorem GP (x:bN.av kE) (y:aH.av kF):(⟨bN.cV kE x,aH.cV kF y⟩:St)=qV (yM x y):=by kernel_rfl
theorem GQ {R:Type} (x:bN.av kE) (y:aH.av kF) (K:Ex→St→Option R):xg (cF) x y K=oh K (yL x y) (yM x y):=by kernel_rfl
theorem IZ {R:Type} (other:cr R) (ho:o3 tt (qU R dP) (xh R cF) 0 ((aP (aK Tryz.f37)).getD 0 .skip) tP other):o3 tt (qU R dP) (xh R cF) 0 ((aP (aK Tryz.f37)).getD 0 .skip) tP (gu kE kF (xg (cF)) other) :=
  gN (A:=oh) ho (kB qV (yK dP) (oh) (Fa) (GO dP cF) (E9)) yL yM GP (GQ)

noncomputable def I0 {R:Type} (cF:nr R) (x1:List Int) (k0:aj→Option R):Option R :=
  cF (List.length x1+List.length ([]:aj)+Int.natAbs 0+64) x1 ([]:aj) 0 (fun GA=>k0 GA)
noncomputable def cb {R:Type}:ja R:=fun x1 k0=>I0 cF x1 k0
theorem OD {R:Type} (dP:pF R) (cF:nr R) (x1:List Int) (k:V→az→Option R):iP tt (qU R dP) (xh R cF) false Tryz.f37 (aK Tryz.f37) [.sl (.int .i64) x1 .no] [] k =
    I0 cF x1 (fun q0=>k (.str q0) []):=by kernel_rfl
theorem J7 (R:Type):∀a∈aP (aK Tryz.f37),cR tt (qU R dP) (xh R cF) 0 a:=by
  refine bG 1 (by kernel_rfl) fun i hi => ?_
  match i,hi with
  | 0,_=>exact fC (by kernel_rfl) (IZ _ jc)
  | n+1,hi=>omega
theorem EY (R:Type) (other:ay.Spec R) (ho:ay.Spec.Ok Tryz.prog 37 other):ay.Spec.Ok Tryz.prog 37 (aA xd xe (Dd cb) other) :=
  bu ho (bj TT mixed (M1 R) (keep:=false) rfl rfl rfl rfl 0 (J7 R)) fun (x:bN.av xd) (y:aH.av xe) k=>OD dP cF x.1 k

end Go.Proofs.YtmlkkgfenfdndaaGreatDoor

set_option maxRecDepth 100000
namespace Go.Proofs.YtmlkkgfenfdndaaGreatDoor
open Go Go.ay

def D3 (n:Int):Prop := -9223372036854775808≤n∧n≤9223372036854775807
theorem I1 {n:Int}:IntKind.i64.has n↔D3 n:=by
  unfold IntKind.has D3
  simp only[IntKind.min,IntKind.max,IntKind.bits,IntKind.signed]
  simp

theorem M3 {R:Type} (c n:Int) (hc:D3 c) (h0:0<n) (hn:n≤9223372036854775807):∃r:Int,0≤r∧r<n∧∀k:Int→Option R,
    (bif (decide (c<(0:Int)))then (cU (!decide (n=0)) (k (Int.tmod (IntKind.i64.wrap (0 - (IntKind.i64.wrap (c+1)))) n)))else (cU (!decide (n=0)) (k (Int.tmod c n))))=k r:=by
  obtain ⟨h1,h2⟩:=hc
  have hz:(!decide (n=0))=true:=by simp; omega
  by_cases h:c<0
  · refine ⟨Int.tmod (0 - (c+1)) n,Int.tmod_nonneg _ (by omega),Int.tmod_lt_of_pos _ h0,fun k => ?_⟩
    have hd:decide (c<(0:Int))=true:=by simpa using h
    rw[hd,cond_true,aS hz,dB (n:=c+1) (by omega) (by omega),dB (by omega) (by omega)]
  · refine ⟨Int.tmod c n,Int.tmod_nonneg _ (by omega),Int.tmod_lt_of_pos _ h0,fun k => ?_⟩
    have hd:decide (c<(0:Int))=false:=by simpa using h
    rw[hd,cond_false,aS hz]

theorem M4 {R:Type} (c n:Int) (hc:D3 c) (h0:0<n) (hn:n≤9223372036854775807):∃r:Int,0≤r∧r<n∧∀k:Int→Option R,dP c n k=k r:=M3 c n hc h0 hn

theorem Pm {n:Int} (h1:0≤n) (h2:n<1114112):IntKind.i32.wrap n=n:=by
  simp only[IntKind.wrap,IntKind.bits,IntKind.signed,IntKind.min,IntKind.max]
  simp
  omega

theorem Uj {c:Nat} (hv:vr c):(Utf8.encode (c:Int)).data.toList=enc c:=by
  have lp:=Pl hv
  have Cu:Utf8.valid (c:Int)=true:=by
    unfold vr at hv
    simp only[Utf8.valid,Bool.or_eq_true,Bool.and_eq_true,decide_eq_true_eq]
    omega
  unfold Utf8.encode
  simp only[Cu,if_true,Int.toNat_natCast]
  by_cases h1:c<128
  · rw[if_pos h1,enc1 h1]
  by_cases h2:c<2048
  · rw[if_neg h1,if_pos h2,enc2 (by omega) h2]
  by_cases h3:c<65536
  · rw[if_neg h1,if_neg h2,if_pos h3,enc3 (by omega) h3 hv]
  · rw[if_neg h1,if_neg h2,if_neg h3,enc4 (by omega) lp]

theorem M5 {c:Nat} (hv:vr c):oO [(c:Int)]=enc c:=by
  unfold oO
  simp only[List.flatMap_cons,List.flatMap_nil,List.append_nil]
  exact Uj hv

theorem J8 (rs:List Nat) (c:Nat):cV (rs ++ [c])=cV rs++enc c:=by simp[cV]

theorem bq {p:Prop} [Decidable p] (h:p):decide p=true:=decide_eq_true h
theorem dd {p:Prop} [Decidable p] (h:¬p):decide p=false:=decide_eq_false h

def Er (z:Int):Nat:=if 55296≤z∧z≤57343 then 120 else z.toNat
theorem Pn {z:Int} (h0:0≤z) (h1:z<1114112):vr (Er z):=by unfold Er vr; split <;> omega

theorem ZR {R:Type} (raw:List Int) (s:aj) (i:Nat) (fy:List Int→aj→Int→Option R) {z:Int} (h0:0≤z) (h1:z<1114112) (hl:s.length≤4*i) (hi:i<200) :
    (bif (decide (z≥(55296:Int)))then (bif (decide (z≤(57343:Int)))then (cU (decide (s.length+(oO ([120]:List Int)).length≤9223372036854775807)) (fy raw (s++(oO ([120]:List Int))) (IntKind.i64.wrap ((i:Int)+1))))else (cU (decide (s.length+(oO ([(IntKind.i32.wrap z)]:List Int)).length≤9223372036854775807)) (fy raw (s++(oO ([(IntKind.i32.wrap z)]:List Int))) (IntKind.i64.wrap ((i:Int)+1)))))else (cU (decide (s.length+(oO ([(IntKind.i32.wrap z)]:List Int)).length≤9223372036854775807)) (fy raw (s++(oO ([(IntKind.i32.wrap z)]:List Int))) (IntKind.i64.wrap ((i:Int)+1))))) =
      fy raw (s++enc (Er z)) ((i+1:Nat):Int):=by
  have hw:IntKind.i64.wrap ((i:Int)+1)=((i+1:Nat):Int):=by rw[dB (by omega) (by omega)]; omega
  have hv:=Pn h0 h1
  have hle:=zx hv
  by_cases hb:55296≤z∧z≤57343
  · have e:oO [120]=enc (Er z):=by unfold Er at hv ⊢; rw[if_pos hb]at hv ⊢; exact M5 hv
    rw[bq (show z≥55296 from hb.1),cond_true,bq hb.2,cond_true,e,aS (bq (by omega)),hw]
  · have e:oO [IntKind.i32.wrap z]=enc (Er z):=by
      unfold Er at hv ⊢; rw[if_neg hb]at hv ⊢
      rw[←M5 hv,Pm h0 h1,Int.toNat_of_nonneg h0]
    by_cases hc:z≥55296
    · rw[bq hc,cond_true,dd (show ¬z≤57343 by omega),cond_false,e,aS (bq (by omega)),hw]
    · rw[dd hc,cond_false,e,aS (bq (by omega)),hw]

theorem ZS {n k:Int} (h:D3 n) (hk:1<k):D3 (Int.tdiv n k):=by
  have h1:(Int.tdiv n k).natAbs≤n.natAbs:=by rw[Int.natAbs_tdiv]; exact Nat.div_le_self _ _
  have h2:(Int.tdiv n k).natAbs=n.natAbs / k.natAbs:=Int.natAbs_tdiv _ _
  unfold D3 at h ⊢
  have h3:n.natAbs / k.natAbs≤n.natAbs / 2:=Nat.div_le_div_left (by omega) (by omega)
  omega

theorem W8 {R:Type} (raw:List Int) (hraw:∀x∈raw,D3 x):∀(n i:Nat) (rs:List Nat),i≤raw.length→raw.length - i<n→i≤200→(∀c∈rs,vr c)→(cV rs).length≤4*i →
    ∃W9:List Nat,(∀c∈W9,vr c)∧(cV W9).length≤800∧(rs.length≤i→W9.length≤raw.length)∧∀e0:aj→Option R,cF n raw (cV rs) (i:Int) e0=e0 (cV W9):=by
  intro n
  induction n with
  | zero=>intro i rs h1 h2; omega
  | succ n ih =>
    intro i rs h1 h2 h3 Yk hl
    by_cases hi:i<raw.length
    · by_cases hi2:i<200
      · have hx:D3 raw[i]:=hraw _ (List.getElem_mem hi)
        have C8:raw.getD (i:Int).toNat (Ty.cn (.int .i64))=raw[i]:=by simp[List.getD,hi]; rfl
        have key:∀z:Int,0≤z→z<1114112→∃W9:List Nat,(∀c∈W9,vr c)∧(cV W9).length≤800∧(rs.length≤i→W9.length≤raw.length)∧∀e0:aj→Option R,cF n raw (cV rs++enc (Er z)) ((i+1:Nat):Int) e0=e0 (cV W9):=by
          intro z z0 z1
          have hv:=Pn z0 z1
          have hle:=zx hv
          obtain ⟨W9,q1,q2,qn,q3⟩:=ih (i+1) (rs ++ [Er z]) (by omega) (by omega) (by omega) (by
            intro c hc
            rcases List.mem_append.1 hc with hc|hc
            · exact Yk c hc
            · simp at hc; subst hc; exact hv) (by rw[J8,List.length_append]; omega)
          exact ⟨W9,q1,q2,fun hn=>qn (by simp; omega),fun e0=>by rw[←q3 e0,J8]⟩
        -- what is picked
        obtain ⟨y6,Vr,y61,py⟩:=M4 (R:=R) raw[i] 5 hx (by omega) (by omega)
        have ht:D3 (IntKind.i64.wrap (Int.tdiv raw[i] 5)):=by
          have:=ZS (k:=5) hx (by omega)
          rw[dB this.1 this.2]; exact this
        obtain ⟨a,a0,a1,pa⟩:=M4 (R:=R) (IntKind.i64.wrap (Int.tdiv raw[i] 5)) 128 ht (by omega) (by omega)
        obtain ⟨b,b0,b1,pb⟩:=M4 (R:=R) (IntKind.i64.wrap (Int.tdiv raw[i] 5)) 2048 ht (by omega) (by omega)
        obtain ⟨d,d0,d1,pd⟩:=M4 (R:=R) (IntKind.i64.wrap (Int.tdiv raw[i] 5)) 65536 ht (by omega) (by omega)
        obtain ⟨f,f0,f1,pf⟩:=M4 (R:=R) (IntKind.i64.wrap (Int.tdiv raw[i] 5)) 1114112 ht (by omega) (by omega)
        obtain ⟨W9,q1,q2,qn,q3⟩:=key (if y6=0∨y6=1 then a else if y6=2 then b else if y6=3 then d else f) (by split; omega; split; omega; split <;> omega) (by split; omega; split; omega; split <;> omega)
        refine ⟨W9,q1,q2,qn,fun e0 => ?_⟩
        rw[←q3 e0]
        show kC dP _ raw (cV rs) (i:Int) e0=_
        unfold kC
        rw[bq (show (i:Int)<(raw.length:Int) by omega),cond_true,bq (show (i:Int)<200 by omega),cond_true,bq (show (0:Int)≤(i:Int) by omega)]
        rw[aS (by rfl)]
        simp only[C8,py,pa,pb,pd,pf]
        have add:=fun (z:Int) (z0:0≤z) (z1:z<1114112)=>ZR raw (cV rs) i (fun lY lZ mF=>cF (R:=R) n lY lZ mF e0) z0 z1 hl hi2
        by_cases c0:y6=0
        · rw[if_pos (.inl c0)]
          have e0':(y6==0)=true:=by simp[c0]
          rw[e0',cond_true,cond_true]
          exact add a a0 (by omega)
        · have e0':(y6==0)=false:=by simp[c0]
          rw[e0',cond_false]
          by_cases c1:y6=1
          · rw[if_pos (.inr c1)]
            have U9:(y6==1)=true:=by simp[c1]
            rw[U9,cond_true]
            exact add a a0 (by omega)
          · have U9:(y6==1)=false:=by simp[c1]
            rw[U9,cond_false,if_neg (by omega)]
            by_cases c2:y6=2
            · have e2':(y6==2)=true:=by simp[c2]
              rw[e2',cond_true,if_pos c2]
              exact add b b0 (by omega)
            · have e2':(y6==2)=false:=by simp[c2]
              rw[e2',cond_false,if_neg c2]
              by_cases c3:y6=3
              · have e3':(y6==3)=true:=by simp[c3]
                rw[e3',cond_true,if_pos c3]
                exact add d d0 (by omega)
              · have e3':(y6==3)=false:=by simp[c3]
                rw[e3',cond_false,if_neg c3]
                exact add f f0 (by omega)
      · refine ⟨rs,Yk,by omega,fun _=>by omega,fun e0 => ?_⟩
        show kC dP _ raw (cV rs) (i:Int) e0=_
        unfold kC
        rw[bq (show (i:Int)<(raw.length:Int) by omega),cond_true,dd (show ¬(i:Int)<200 by omega),cond_false]
    · refine ⟨rs,Yk,by omega,fun _=>by omega,fun e0 => ?_⟩
      show kC dP _ raw (cV rs) (i:Int) e0=_
      unfold kC
      rw[dd (show ¬(i:Int)<(raw.length:Int) by omega),cond_false]

theorem Sf {R:Type} (raw:List Int) (hraw:∀x∈raw,D3 x):∃rs:List Nat,(∀c∈rs,vr c)∧(cV rs).length≤800∧rs.length≤raw.length∧∀k:aj→Option R,cb raw k=k (cV rs):=by
  obtain ⟨rs,h1,h2,h4,h3⟩:=W8 (R:=R) raw hraw (List.length raw+List.length ([]:aj)+Int.natAbs 0+64) 0 [] (by omega) (by omega) (by omega) (by simp) (by simp[cV])
  exact ⟨rs,h1,h2,h4 (by simp),fun k=>h3 _⟩
end Go.Proofs.YtmlkkgfenfdndaaGreatDoor

/-
  Functions of the program as pure Lean functions, and the ties; printed by wip/tools/emit.py.
-/
set_option maxRecDepth 100000
namespace Go.Proofs.YtmlkkgfenfdndaaGreatDoor
open Go Go.ay

/-! ### humpyard/json.bare -/
abbrev xi (R:Type):Type:=Json→(Json→Option R)→Option R
abbrev CX:List bN := [.agg [.int .i64, .int .i64, .int .i64, .str, .sl .str, .sl .json]]
abbrev CY:List aH := []
noncomputable def I2 {R:Type} (fn:xi R):bN.av CX→aH.av CY→(V→az→Option R)→Option R:=fun x y k=>fn (⟨x.1.1,⟨x.1.2.1,x.1.2.2.1⟩,x.1.2.2.2.1,x.1.2.2.2.2.1,x.1.2.2.2.2.2.1⟩:Json) (fun q0=>k (.agg [.int .i64 q0.kind, .int .i64 q0.num.aB, .int .i64 q0.num.exp, .str q0.text, .sl .str q0.names .no, .sl .json q0.items .no]) [])
noncomputable def CZ (R:Type):Env R:=fun i=>match i with
  | _=>none
theorem OE (R:Type):p6 Tryz.prog (CZ R):=by
  intro i b sp h
  unfold CZ at h
  split at h
  · cases h

noncomputable def KQ (R:Type):Nat→Option (Hint × cr R):=fun i=>match i with
  | _=>none

noncomputable def C0 {R:Type} (x1:Json) (k0:Json→Option R):Option R :=
  bif (x1.kind==4)then (k0 (⟨x1.kind,⟨0,0⟩,x1.text,x1.names,x1.items⟩:Json))else (bif (x1.kind==5)then (k0 (⟨x1.kind,⟨x1.num.aB,x1.num.exp⟩,([]:aj),x1.names,x1.items⟩:Json))else (bif (x1.kind==7)then (k0 (⟨x1.kind,⟨x1.num.aB,x1.num.exp⟩,x1.text,([]:List aj),([]:List Json)⟩:Json))else (bif (x1.kind==6)then (k0 (⟨x1.kind,⟨x1.num.aB,x1.num.exp⟩,x1.text,x1.names,([]:List Json)⟩:Json))else (k0 (⟨x1.kind,⟨x1.num.aB,x1.num.exp⟩,x1.text,x1.names,x1.items⟩:Json)))))
noncomputable def nt {R:Type}:xi R:=fun x1 k0=>C0 x1 k0
theorem QH {R:Type} (x1:Json) (k:V→az→Option R):iP tt (CZ R) (KQ R) false Tryz.f77 (aK Tryz.f77) [.agg [.int .i64 x1.kind, .int .i64 x1.num.aB, .int .i64 x1.num.exp, .str x1.text, .sl .str x1.names .no, .sl .json x1.items .no]] [] k =
    C0 x1 (fun q0=>k (.agg [.int .i64 q0.kind, .int .i64 q0.num.aB, .int .i64 q0.num.exp, .str q0.text, .sl .str q0.names .no, .sl .json q0.items .no]) []):=by kernel_rfl
theorem K8 (R:Type):∀a∈aP (aK Tryz.f77),cR tt (CZ R) (KQ R) 0 a:=by
  refine bG 0 (by kernel_rfl) fun i hi => ?_
  omega
theorem M6 (R:Type) (other:ay.Spec R) (ho:ay.Spec.Ok Tryz.prog 77 other):ay.Spec.Ok Tryz.prog 77 (aA CX CY (I2 nt) other) :=
  bu ho (bj TT mixed (OE R) (keep:=false) rfl rfl rfl rfl 0 (K8 R)) fun (x:bN.av CX) (y:aH.av CY) k=>QH (⟨x.1.1,⟨x.1.2.1,x.1.2.2.1⟩,x.1.2.2.2.1,x.1.2.2.2.2.1,x.1.2.2.2.2.2.1⟩:Json) k

/-! ### humpyard/decimal.within[int] -/
abbrev fm (R:Type):Type:=Int→Int→Int→(Bool→Option R)→Option R
abbrev nc:List bN := [.leaf (.int .i64), .leaf (.int .i64), .leaf (.int .i64)]
abbrev nd:List aH := []
noncomputable def sk {R:Type} (fn:fm R):bN.av nc→aH.av nd→(V→az→Option R)→Option R:=fun x y k=>fn x.1 x.2.1 x.2.2.1 (fun q0=>k (.bool q0) [])
noncomputable def o4 (R:Type):Env R:=fun i=>match i with
  | _=>none
theorem Es (R:Type):p6 Tryz.prog (o4 R):=by
  intro i b sp h
  unfold o4 at h
  split at h
  · cases h

noncomputable def zV (R:Type):Nat→Option (Hint × cr R):=fun i=>match i with
  | _=>none

noncomputable def o5 {R:Type} (x1:Int) (x2:Int) (x3:Int) (k0:Bool→Option R):Option R :=
  bif (decide (x1≤x2))then (k0 (decide (x2≤x3)))else (k0 false)
noncomputable def aY {R:Type}:fm R:=fun x1 x2 x3 k0=>o5 x1 x2 x3 k0
theorem Fb {R:Type} (x1:Int) (x2:Int) (x3:Int) (k:V→az→Option R):iP tt (o4 R) (zV R) false Tryz.f91 (aK Tryz.f91) [.int .i64 x1, .int .i64 x2, .int .i64 x3] [] k =
    o5 x1 x2 x3 (fun q0=>k (.bool q0) []):=by kernel_rfl
theorem De (R:Type):∀a∈aP (aK Tryz.f91),cR tt (o4 R) (zV R) 0 a:=by
  refine bG 0 (by kernel_rfl) fun i hi => ?_
  omega
theorem wC (R:Type) (other:ay.Spec R) (ho:ay.Spec.Ok Tryz.prog 91 other):ay.Spec.Ok Tryz.prog 91 (aA nc nd (sk aY) other) :=
  bu ho (bj TT mixed (Es R) (keep:=false) rfl rfl rfl rfl 0 (De R)) fun (x:bN.av nc) (y:aH.av nd) k=>Fb x.1 x.2.1 x.2.2.1 k

/-! ### humpyard/decimal.Right -/
abbrev kG (R:Type):Type:=iZ→(Bool→Option R)→Option R
abbrev rQ:List bN := [.agg [.int .i64, .int .i64]]
abbrev rR:List aH := []
noncomputable def yN {R:Type} (fn:kG R):bN.av rQ→aH.av rR→(V→az→Option R)→Option R:=fun x y k=>fn (⟨x.1.1,x.1.2.1⟩:iZ) (fun q0=>k (.bool q0) [])
noncomputable def vD (R:Type) (aY:fm R):Env R:=fun i=>match i with
  | 91=>some (true,(aA nc nd (sk aY) bg))
  | _=>none
theorem I3 (R:Type):p6 Tryz.prog (vD R aY):=by
  intro i b sp h
  unfold vD at h
  split at h
  · cases h; exact ⟨(wC R _ (aO _)),fun h=>nomatch h⟩
  · cases h

noncomputable def EZ (R:Type):Nat→Option (Hint × cr R):=fun i=>match i with
  | _=>none

noncomputable def l9 {R:Type} (aY:fm R) (x1:iZ) (k0:Bool→Option R):Option R :=
  bif (x1.aB==0)then (k0 (x1.exp==0))else (bif ((Int.tmod x1.aB 10) != 0)then (aY (-1000000000000000) x1.aB 1000000000000000 (fun y2=>bif y2 then (aY (-9) x1.exp 9 (fun y3=>k0 y3))else (k0 false)))else (k0 false))
noncomputable def cg {R:Type}:kG R:=fun x1 k0=>l9 aY x1 k0
theorem J9 {R:Type} (aY:fm R) (x1:iZ) (k:V→az→Option R):iP tt (vD R aY) (EZ R) false Tryz.f65 (aK Tryz.f65) [.agg [.int .i64 x1.aB, .int .i64 x1.exp]] [] k =
    l9 aY x1 (fun q0=>k (.bool q0) []):=by kernel_rfl
theorem GR (R:Type):∀a∈aP (aK Tryz.f65),cR tt (vD R aY) (EZ R) 0 a:=by
  refine bG 0 (by kernel_rfl) fun i hi => ?_
  omega
theorem B4 (R:Type) (other:ay.Spec R) (ho:ay.Spec.Ok Tryz.prog 65 other):ay.Spec.Ok Tryz.prog 65 (aA rQ rR (yN cg) other) :=
  bu ho (bj TT mixed (I3 R) (keep:=false) rfl rfl rfl rfl 0 (GR R)) fun (x:bN.av rQ) (y:aH.av rR) k=>J9 aY (⟨x.1.1,x.1.2.1⟩:iZ) k

/-! ### humpyard/quote.Whole -/
abbrev fE (R:Type):Type:=aj→(Bool→Option R)→Option R
abbrev sd:List bN := [.leaf (.str)]
abbrev se:List aH := []
noncomputable def xj {R:Type} (fn:fE R):bN.av sd→aH.av se→(V→az→Option R)→Option R:=fun x y k=>fn x.1 (fun q0=>k (.bool q0) [])
noncomputable def zy (R:Type):Env R:=fun i=>match i with
  | 72=>some (true,(QC R))
  | _=>none
theorem K9 (R:Type):p6 Tryz.prog (zy R):=by
  intro i b sp h
  unfold zy at h
  split at h
  · cases h; exact ⟨(ZN),fun h=>nomatch h⟩
  · cases h

noncomputable def Hi (R:Type):Nat→Option (Hint × cr R):=fun i=>match i with
  | _=>none

noncomputable def Hj {R:Type} (x1:aj) (k0:Bool→Option R):Option R :=
  k0 (gO x1)
noncomputable def br {R:Type}:fE R:=fun x1 k0=>Hj x1 k0
theorem M7 {R:Type} (x1:aj) (k:V→az→Option R):iP tt (zy R) (Hi R) false Tryz.f49 (aK Tryz.f49) [.str x1] [] k =
    Hj x1 (fun q0=>k (.bool q0) []):=by kernel_rfl
theorem I4 (R:Type):∀a∈aP (aK Tryz.f49),cR tt (zy R) (Hi R) 0 a:=by
  refine bG 0 (by kernel_rfl) fun i hi => ?_
  omega
theorem yO (R:Type) (other:ay.Spec R) (ho:ay.Spec.Ok Tryz.prog 49 other):ay.Spec.Ok Tryz.prog 49 (aA sd se (xj br) other) :=
  bu ho (bj TT mixed (K9 R) (keep:=false) rfl rfl rfl rfl 0 (I4 R)) fun (x:bN.av sd) (y:aH.av se) k=>M7 x.1 k

/-! ### humpyard/json.unique -/
abbrev th (R:Type):Type:=(List aj)→(Bool→Option R)→Option R
abbrev zz:List bN := [.leaf (.sl .str)]
abbrev zA:List aH := []
noncomputable def FV {R:Type} (fn:th R):bN.av zz→aH.av zA→(V→az→Option R)→Option R:=fun x y k=>fn x.1 (fun q0=>k (.bool q0) [])
abbrev mw (R:Type):Type:=Nat→(List aj)→Int→Int→(List (aj × Bool))→(Option R)→(Bool→Option R)→Option R
noncomputable def pG (R:Type) (br:fE R):Env R:=fun i=>match i with
  | 49=>some (true,(aA sd se (xj br) bg))
  | _=>none
theorem La (R:Type):p6 Tryz.prog (pG R br):=by
  intro i b sp h
  unfold pG at h
  split at h
  · cases h; exact ⟨(yO R _ (aO _)),fun h=>nomatch h⟩
  · cases h

noncomputable def sD {R:Type} (br:fE R) (fy:(List aj)→Int→Int→(List (aj × Bool))→Option R) (x2:List aj) (x3:Int) (x4:Int) (x5:List (aj × Bool)) (e0:Option R) (e1:Bool→Option R):Option R :=
  bif (decide (x4<x3))then (cU (decide ((0:Int)≤x4)&&decide (x4<x2.length)) (bif (nJ .str .bool (x2.getD x4.toNat (Ty.cn .str)) x5)then (e1 false)else (br (x2.getD x4.toNat (Ty.cn .str)) (fun y6=>bif (!y6)then (e1 false)else (fy x2 x3 (IntKind.i64.wrap (x4+1)) (wW .str .bool (x2.getD x4.toNat (Ty.cn .str)) true x5))))))else (e0)
noncomputable def cC {R:Type}:mw R
  | 0,_,_,_,_,_,_=>none
  | n+1,lY,lZ,mF,tQ,e0,e1=>sD br (fun lY lZ mF tQ=>cC n lY lZ mF tQ e0 e1) lY lZ mF tQ e0 e1
noncomputable def sE:Hint := { live := [3,7,8,9],own := [],rows := [],cells := [],drop := [],out := [2] }
abbrev jM:Type:=(List aj) × Int × Int × (List (aj × Bool))
noncomputable def p7:jM→St:=fun d=>⟨[.undef, .undef, .undef, .map 0, .undef, .undef, .undef, .sl .str d.1 .no, .int .i64 d.2.1, .int .i64 d.2.2.1, .undef, .undef, .undef, .undef, .undef, .undef, .undef, .undef, .undef, .undef, .undef, .undef, .undef, .undef], [.vL .str .bool d.2.2.2]⟩
noncomputable def vO {R:Type} (K:Ex→St→Option R):Option R:=K (.exit 0) ⟨[.undef, .undef, .undef, .undef, .undef, .undef, .undef, .undef, .undef, .undef, .undef, .undef, .undef, .undef, .undef, .undef, .undef, .undef, .undef, .undef, .undef, .undef, .undef, .undef], []⟩
noncomputable def vP {R:Type} (K:Ex→St→Option R) (q0:Bool):Option R:=K (.ret) ⟨[.undef, .undef, .bool q0, .undef, .undef, .undef, .undef, .undef, .undef, .undef, .undef, .undef, .undef, .undef, .undef, .undef, .undef, .undef, .undef, .undef, .undef, .undef, .undef, .undef], []⟩
noncomputable def xk {R:Type} (br:fE R) (K:Ex→St→Option R) (rc:jM→Option R) (d:jM):Option R:=sD br (fun z0 z1 z2 z3=>rc (z0,z1,z2,z3)) d.1 d.2.1 d.2.2.1 d.2.2.2 (vO K) (vP K)
noncomputable def nu {R:Type} (K:Ex→St→Option R) (n:Nat) (d:jM):Option R:=cC n d.1 d.2.1 d.2.2.1 d.2.2.2 (vO K) (vP K)
abbrev jN:List bN := [.leaf (.undef), .leaf (.undef), .leaf (.undef), .leaf (.map 0), .leaf (.undef), .leaf (.undef), .leaf (.undef), .leaf (.sl .str), .leaf (.int .i64), .leaf (.int .i64), .leaf (.undef), .leaf (.undef), .leaf (.undef), .leaf (.undef), .leaf (.undef), .leaf (.undef), .leaf (.undef), .leaf (.undef), .leaf (.undef), .leaf (.undef), .leaf (.undef), .leaf (.undef), .leaf (.undef), .leaf (.undef)]
abbrev jO:List aH := [.vL .str .bool]
noncomputable def xl (x:bN.av jN) (y:aH.av jO):Nat:=(List.length x.2.2.2.2.2.2.2.1+Int.natAbs x.2.2.2.2.2.2.2.2.1+Int.natAbs x.2.2.2.2.2.2.2.2.2.1+List.length y.1+64)
noncomputable def xm (x:bN.av jN) (y:aH.av jO):jM:=(x.2.2.2.2.2.2.2.1,x.2.2.2.2.2.2.2.2.1,x.2.2.2.2.2.2.2.2.2.1,y.1)
noncomputable def vQ {R:Type} (L:mw R):bN.av jN→aH.av jO→(Ex→St→Option R)→Option R:=fun x y K=>L (xl x y) x.2.2.2.2.2.2.2.1 x.2.2.2.2.2.2.2.2.1 x.2.2.2.2.2.2.2.2.2.1 y.1 (vO K) (vP K)
noncomputable def uX (R:Type) (cC:mw R):Nat→Option (Hint × cr R):=fun i=>match i with
  | 3=>some (sE,(gu jN jO (vQ cC) qv))
  | _=>none

theorem FW {R:Type} (br:fE R) (cC:mw R) (K:Ex→St→Option R) (rc:St→Option R) (d:jM):roundOf tt (pG R br) (uX R cC) 0 ((aP (aK Tryz.f78)).getD 0 .skip) sE (p7 d) rc K=xk br K (fun d=>rc (p7 d)) d:=by kernel_rfl
theorem Et {R:Type} (K:Ex→St→Option R) (n:Nat) (d:jM):nu K (n+1) d=xk br K (nu K n) d:=by kernel_rfl
theorem Eu {R:Type} (K:Ex→St→Option R) (d:jM):nu K 0 d=none:=by kernel_rfl
theorem FX (x:bN.av jN) (y:aH.av jO):(⟨bN.cV jN x,aH.cV jO y⟩:St)=p7 (xm x y):=by kernel_rfl
theorem FY {R:Type} (x:bN.av jN) (y:aH.av jO) (K:Ex→St→Option R):vQ (cC) x y K=nu K (xl x y) (xm x y):=by kernel_rfl
theorem HT {R:Type} (other:cr R) (ho:o3 tt (pG R br) (uX R cC) 0 ((aP (aK Tryz.f78)).getD 0 .skip) sE other):o3 tt (pG R br) (uX R cC) 0 ((aP (aK Tryz.f78)).getD 0 .skip) sE (gu jN jO (vQ (cC)) other) :=
  gN (A:=nu) ho (kB p7 (xk br) (nu) (Eu) (FW br cC) (Et)) xl xm FX (FY)

noncomputable def Hk {R:Type} (cC:mw R) (x1:List aj) (k0:Bool→Option R):Option R :=
  cC (List.length x1+Int.natAbs (x1.length:Int)+Int.natAbs 0+List.length ([]:List (aj × Bool))+64) x1 (x1.length:Int) 0 ([]:List (aj × Bool)) (k0 true) (fun y8=>k0 y8)
noncomputable def iR {R:Type}:th R:=fun x1 k0=>Hk cC x1 k0
theorem M8 {R:Type} (br:fE R) (cC:mw R) (x1:List aj) (k:V→az→Option R):iP tt (pG R br) (uX R cC) false Tryz.f78 (aK Tryz.f78) [.sl .str x1 .no] [] k =
    Hk cC x1 (fun q0=>k (.bool q0) []):=by kernel_rfl
theorem I5 (R:Type):∀a∈aP (aK Tryz.f78),cR tt (pG R br) (uX R cC) 0 a:=by
  refine bG 1 (by kernel_rfl) fun i hi => ?_
  match i,hi with
  | 0,_=>exact fC (by kernel_rfl) (HT _ jc)
  | n+1,hi=>omega
theorem Ka (R:Type) (other:ay.Spec R) (ho:ay.Spec.Ok Tryz.prog 78 other):ay.Spec.Ok Tryz.prog 78 (aA zz zA (FV iR) other) :=
  bu ho (bj TT mixed (La R) (keep:=false) rfl rfl rfl rfl 0 (I5 R)) fun (x:bN.av zz) (y:aH.av zA) k=>M8 br cC x.1 k

end Go.Proofs.YtmlkkgfenfdndaaGreatDoor

namespace Go.Proofs.YtmlkkgfenfdndaaGreatDoor
open Go Go.ay

end Go.Proofs.YtmlkkgfenfdndaaGreatDoor

/-
  Functions of the program as pure Lean functions, and the ties; printed by wip/tools/emit.py.
-/
set_option maxRecDepth 100000
namespace Go.Proofs.YtmlkkgfenfdndaaGreatDoor
open Go Go.ay

/-! ### humpyard/json.right -/
abbrev bR (R:Type):Type:=Json→Int→(Bool→Option R)→Option R
abbrev gP:List bN := [.agg [.int .i64, .int .i64, .int .i64, .str, .sl .str, .sl .json], .leaf (.int .i64)]
abbrev gQ:List aH := []
noncomputable def fb {R:Type} (fn:bR R):bN.av gP→aH.av gQ→(V→az→Option R)→Option R:=fun x y k=>fn (⟨x.1.1,⟨x.1.2.1,x.1.2.2.1⟩,x.1.2.2.2.1,x.1.2.2.2.2.1,x.1.2.2.2.2.2.1⟩:Json) x.2.1 (fun q0=>k (.bool q0) [])
/-! ### humpyard/json.right$1 -/
abbrev iS (R:Type):Type:=Json→Int→(Bool→Int→Option R)→Option R
abbrev p8:List bN := [.agg [.int .i64, .int .i64, .int .i64, .str, .sl .str, .sl .json], .leaf (.ptr 0 0)]
abbrev p9:List aH := [.cells [.int .i64]]
noncomputable def zW {R:Type} (fn:iS R):bN.av p8→aH.av p9→(V→az→Option R)→Option R:=fun x y k=>fn (⟨x.1.1,⟨x.1.2.1,x.1.2.2.1⟩,x.1.2.2.2.1,x.1.2.2.2.2.1,x.1.2.2.2.2.2.1⟩:Json) y.1.1 (fun q0 q1=>k (.bool q0) [.cells [.int .i64 q1]])
noncomputable def qa (R:Type) (ao:bR R):Env R:=fun i=>match i with
  | 56=>some (true,(aA gP gQ (fb ao) bg))
  | _=>none
theorem Fc (R:Type) (ao:bR R) (fg:ay.Spec.Ok Tryz.prog 56 (aA gP gQ (fb ao) bg)):p6 Tryz.prog (qa R ao):=by
  intro i b sp h
  unfold qa at h
  split at h
  · cases h; exact ⟨fg,fun h=>nomatch h⟩
  · cases h

noncomputable def AQ (R:Type):Nat→Option (Hint × cr R):=fun i=>match i with
  | _=>none

noncomputable def qd {R:Type} (ao:bR R) (x1:Json) (x2:Int) (k0:Bool→Int→Option R):Option R :=
  ao (⟨x1.kind,⟨x1.num.aB,x1.num.exp⟩,x1.text,x1.names,x1.items⟩:Json) (IntKind.i64.wrap (x2+1)) (fun y3=>k0 (!y3) x2)
noncomputable def cj {R:Type} (ao:bR R):iS R:=fun x1 x2 k0=>qd ao x1 x2 k0
theorem FZ {R:Type} (ao:bR R) (x1:Json) (x2:Int) (k:V→az→Option R):iP tt (qa R ao) (AQ R) false Tryz.f80 (aK Tryz.f80) [.agg [.int .i64 x1.kind, .int .i64 x1.num.aB, .int .i64 x1.num.exp, .str x1.text, .sl .str x1.names .no, .sl .json x1.items .no], .ptr 0 0] [.cells [.int .i64 x2]] k =
    qd ao x1 x2 (fun q0 q1=>k (.bool q0) [.cells [.int .i64 q1]]):=by kernel_rfl
theorem DK (R:Type) (ao:bR R):∀a∈aP (aK Tryz.f80),cR tt (qa R ao) (AQ R) 1 a:=by
  refine bG 0 (by kernel_rfl) fun i hi => ?_
  omega
theorem Ev (R:Type) (ao:bR R) (fg:ay.Spec.Ok Tryz.prog 56 (aA gP gQ (fb ao) bg)) (other:ay.Spec R) (ho:ay.Spec.Ok Tryz.prog 80 other):ay.Spec.Ok Tryz.prog 80 (aA p8 p9 (zW (cj ao)) other) :=
  bu ho (bj TT mixed (Fc R ao fg) (keep:=false) rfl rfl rfl rfl 1 (DK R ao)) fun (x:bN.av p8) (y:aH.av p9) k=>FZ ao (⟨x.1.1,⟨x.1.2.1,x.1.2.2.1⟩,x.1.2.2.2.1,x.1.2.2.2.2.1,x.1.2.2.2.2.2.1⟩:Json) y.1.1 k

/-! ### slices.IndexFunc[[]humpyard/api.Json,humpyard/api.Json] -/
abbrev fq (R:Type):Type:=(List Json)→Int→(Int→Int→Option R)→Option R
abbrev hZ:List bN := [.leaf (.sl .json), .func 80 [] [.ptr 0 0]]
abbrev ia:List aH := [.cells [.int .i64]]
noncomputable def oK {R:Type} (fn:fq R):bN.av hZ→aH.av ia→(V→az→Option R)→Option R:=fun x y k=>fn x.1 y.1.1 (fun q0 q1=>k (.int .i64 q0) [.cells [.int .i64 q1]])
abbrev dL (R:Type):Type:=Nat→(List Json)→Int→Int→Int→(Int→Option R)→(Int→Int→Option R)→Option R
noncomputable def dQ (R:Type) (cj:iS R):Env R:=fun i=>match i with
  | 80=>some (false,(aA p8 p9 (zW cj) bg))
  | _=>none
theorem vR (R:Type) (ao:bR R) (fg:ay.Spec.Ok Tryz.prog 56 (aA gP gQ (fb ao) bg)):p6 Tryz.prog (dQ R (cj ao)):=by
  intro i b sp h
  unfold dQ at h
  split at h
  · cases h; exact ⟨(Ev R ao fg _ (aO _)),fun _ h=>nomatch h⟩
  · cases h

noncomputable def gn {R:Type} (cj:iS R) (fy:(List Json)→Int→Int→Int→Option R) (x3:List Json) (x4:Int) (x5:Int) (x6:Int) (e0:Int→Option R) (e1:Int→Int→Option R):Option R :=
  bif (decide (x5<x4))then (cU (decide ((0:Int)≤x5)&&decide (x5<x3.length)) (cj (⟨(x3.getD x5.toNat (Ty.cn .json)).kind,⟨(x3.getD x5.toNat (Ty.cn .json)).num.aB,(x3.getD x5.toNat (Ty.cn .json)).num.exp⟩,(x3.getD x5.toNat (Ty.cn .json)).text,(x3.getD x5.toNat (Ty.cn .json)).names,(x3.getD x5.toNat (Ty.cn .json)).items⟩:Json) x6 (fun y7 y8=>bif y7 then (e1 x5 y8)else (fy x3 x4 (IntKind.i64.wrap (x5+1)) y8))))else (e0 x6)
noncomputable def aM {R:Type} (ao:bR R):dL R
  | 0,_,_,_,_,_,_=>none
  | n+1,lY,lZ,mF,tQ,e0,e1=>gn (cj ao) (fun lY lZ mF tQ=>aM ao n lY lZ mF tQ e0 e1) lY lZ mF tQ e0 e1
noncomputable def gp:Hint := { live := [0,1,7,8],own := [],rows := [],cells := [],drop := [],out := [4] }
abbrev cL:Type:=(List Json) × Int × Int × Int
noncomputable def fF:cL→St:=fun d=>⟨[.sl .json d.1 .no, .func 80 [] [.ptr 0 0], .undef, .undef, .undef, .undef, .undef, .int .i64 d.2.1, .int .i64 d.2.2.1, .undef, .undef, .undef, .undef, .undef, .undef, .undef, .undef, .undef, .undef], [.cells [.int .i64 d.2.2.2]]⟩
noncomputable def jd {R:Type} (K:Ex→St→Option R) (q0:Int):Option R:=K (.exit 0) ⟨[.undef, .undef, .undef, .undef, .undef, .undef, .undef, .undef, .undef, .undef, .undef, .undef, .undef, .undef, .undef, .undef, .undef, .undef, .undef], [.cells [.int .i64 q0]]⟩
noncomputable def je {R:Type} (K:Ex→St→Option R) (q0:Int) (q1:Int):Option R:=K (.ret) ⟨[.undef, .undef, .undef, .undef, .int .i64 q0, .undef, .undef, .undef, .undef, .undef, .undef, .undef, .undef, .undef, .undef, .undef, .undef, .undef, .undef], [.cells [.int .i64 q1]]⟩
noncomputable def jG {R:Type} (cj:iS R) (K:Ex→St→Option R) (rc:cL→Option R) (d:cL):Option R:=gn cj (fun z0 z1 z2 z3=>rc (z0,z1,z2,z3)) d.1 d.2.1 d.2.2.1 d.2.2.2 (jd K) (je K)
noncomputable def dR {R:Type} (ao:bR R) (K:Ex→St→Option R) (n:Nat) (d:cL):Option R:=aM ao n d.1 d.2.1 d.2.2.1 d.2.2.2 (jd K) (je K)
abbrev cM:List bN := [.leaf (.sl .json), .func 80 [] [.ptr 0 0], .leaf (.undef), .leaf (.undef), .leaf (.undef), .leaf (.undef), .leaf (.undef), .leaf (.int .i64), .leaf (.int .i64), .leaf (.undef), .leaf (.undef), .leaf (.undef), .leaf (.undef), .leaf (.undef), .leaf (.undef), .leaf (.undef), .leaf (.undef), .leaf (.undef), .leaf (.undef)]
abbrev cN:List aH := [.cells [.int .i64]]
noncomputable def jH (x:bN.av cM) (y:aH.av cN):Nat:=(List.length x.1+Int.natAbs x.2.2.2.2.2.2.2.1+Int.natAbs x.2.2.2.2.2.2.2.2.1+Int.natAbs y.1.1+64)
noncomputable def jI (x:bN.av cM) (y:aH.av cN):cL:=(x.1,x.2.2.2.2.2.2.2.1,x.2.2.2.2.2.2.2.2.1,y.1.1)
noncomputable def jf {R:Type} (L:dL R):bN.av cM→aH.av cN→(Ex→St→Option R)→Option R:=fun x y K=>L (jH x y) x.1 x.2.2.2.2.2.2.2.1 x.2.2.2.2.2.2.2.2.1 y.1.1 (jd K) (je K)
noncomputable def fG (R:Type) (aM:dL R):Nat→Option (Hint × cr R):=fun i=>match i with
  | 2=>some (gp,(gu cM cN (jf aM) qv))
  | _=>none

theorem sS {R:Type} (cj:iS R) (aM:dL R) (K:Ex→St→Option R) (rc:St→Option R) (d:cL):roundOf tt (dQ R cj) (fG R aM) 1 ((aP (aK Tryz.f116)).getD 0 .skip) gp (fF d) rc K=jG cj K (fun d=>rc (fF d)) d:=by kernel_rfl
theorem rS {R:Type} (ao:bR R) (K:Ex→St→Option R) (n:Nat) (d:cL):dR ao K (n+1) d=jG (cj ao) K (dR ao K n) d:=by kernel_rfl
theorem rT {R:Type} (ao:bR R) (K:Ex→St→Option R) (d:cL):dR ao K 0 d=none:=by kernel_rfl
theorem sT (x:bN.av cM) (y:aH.av cN):(⟨bN.cV cM x,aH.cV cN y⟩:St)=fF (jI x y):=by kernel_rfl
theorem sU {R:Type} (ao:bR R) (x:bN.av cM) (y:aH.av cN) (K:Ex→St→Option R):jf (aM ao) x y K=dR ao K (jH x y) (jI x y):=by kernel_rfl
theorem tR {R:Type} (ao:bR R) (other:cr R) (ho:o3 tt (dQ R (cj ao)) (fG R (aM ao)) 1 ((aP (aK Tryz.f116)).getD 0 .skip) gp other):o3 tt (dQ R (cj ao)) (fG R (aM ao)) 1 ((aP (aK Tryz.f116)).getD 0 .skip) gp (gu cM cN (jf (aM ao)) other) :=
  gN (A:=dR ao) ho (kB fF (jG (cj ao)) (dR ao) (rT ao) (sS (cj ao) (aM ao)) (rS ao)) jH jI sT (sU ao)

noncomputable def o6 {R:Type} (aM:dL R) (x1:List Json) (x2:Int) (k0:Int→Int→Option R):Option R :=
  aM (List.length x1+Int.natAbs (x1.length:Int)+Int.natAbs 0+Int.natAbs x2+64) x1 (x1.length:Int) 0 x2 (fun y9=>k0 (-1) y9) (fun yJ wL=>k0 yJ wL)
noncomputable def cf {R:Type} (ao:bR R):fq R:=fun x1 x2 k0=>o6 (aM ao) x1 x2 k0
theorem wM {R:Type} (cj:iS R) (aM:dL R) (x1:List Json) (x2:Int) (k:V→az→Option R):iP tt (dQ R cj) (fG R aM) false Tryz.f116 (aK Tryz.f116) [.sl .json x1 .no, .func 80 [] [.ptr 0 0]] [.cells [.int .i64 x2]] k =
    o6 aM x1 x2 (fun q0 q1=>k (.int .i64 q0) [.cells [.int .i64 q1]]):=by kernel_rfl
theorem uw (R:Type) (ao:bR R):∀a∈aP (aK Tryz.f116),cR tt (dQ R (cj ao)) (fG R (aM ao)) 1 a:=by
  refine bG 1 (by kernel_rfl) fun i hi => ?_
  match i,hi with
  | 0,_=>exact fC (by kernel_rfl) (tR ao _ jc)
  | n+1,hi=>omega
theorem uY (R:Type) (ao:bR R) (fg:ay.Spec.Ok Tryz.prog 56 (aA gP gQ (fb ao) bg)) (other:ay.Spec R) (ho:ay.Spec.Ok Tryz.prog 116 other):ay.Spec.Ok Tryz.prog 116 (aA hZ ia (oK (cf ao)) other) :=
  bu ho (bj TT mixed (vR R ao fg) (keep:=false) rfl rfl rfl rfl 1 (uw R ao)) fun (x:bN.av hZ) (y:aH.av ia) k=>wM (cj ao) (aM ao) x.1 y.1.1 k

/-! ### slices.ContainsFunc[[]humpyard/api.Json,humpyard/api.Json] -/
abbrev eS (R:Type):Type:=(List Json)→Int→(Bool→Int→Option R)→Option R
abbrev gG:List bN := [.leaf (.sl .json), .func 80 [] [.ptr 0 0]]
abbrev gH:List aH := [.cells [.int .i64]]
noncomputable def nQ {R:Type} (fn:eS R):bN.av gG→aH.av gH→(V→az→Option R)→Option R:=fun x y k=>fn x.1 y.1.1 (fun q0 q1=>k (.bool q0) [.cells [.int .i64 q1]])
noncomputable def gI (R:Type) (cf:fq R):Env R:=fun i=>match i with
  | 116=>some (false,(aA hZ ia (oK cf) bg))
  | _=>none
theorem tS (R:Type) (ao:bR R) (fg:ay.Spec.Ok Tryz.prog 56 (aA gP gQ (fb ao) bg)):p6 Tryz.prog (gI R (cf ao)):=by
  intro i b sp h
  unfold gI at h
  split at h
  · cases h; exact ⟨(uY R ao fg _ (aO _)),fun _ h=>nomatch h⟩
  · cases h

noncomputable def n8 (R:Type):Nat→Option (Hint × cr R):=fun i=>match i with
  | _=>none

noncomputable def n9 {R:Type} (cf:fq R) (x1:List Json) (x2:Int) (k0:Bool→Int→Option R):Option R :=
  cf x1 x2 (fun y3 y4=>k0 (decide (y3≥(0:Int))) y4)
noncomputable def aQ {R:Type} (ao:bR R):eS R:=fun x1 x2 k0=>n9 (cf ao) x1 x2 k0
theorem ux {R:Type} (cf:fq R) (x1:List Json) (x2:Int) (k:V→az→Option R):iP tt (gI R cf) (n8 R) false Tryz.f79 (aK Tryz.f79) [.sl .json x1 .no, .func 80 [] [.ptr 0 0]] [.cells [.int .i64 x2]] k =
    n9 cf x1 x2 (fun q0 q1=>k (.bool q0) [.cells [.int .i64 q1]]):=by kernel_rfl
theorem sV (R:Type) (ao:bR R):∀a∈aP (aK Tryz.f79),cR tt (gI R (cf ao)) (n8 R) 1 a:=by
  refine bG 0 (by kernel_rfl) fun i hi => ?_
  omega
theorem ti (R:Type) (ao:bR R) (fg:ay.Spec.Ok Tryz.prog 56 (aA gP gQ (fb ao) bg)) (other:ay.Spec R) (ho:ay.Spec.Ok Tryz.prog 79 other):ay.Spec.Ok Tryz.prog 79 (aA gG gH (nQ (aQ ao)) other) :=
  bu ho (bj TT mixed (tS R ao fg) (keep:=false) rfl rfl rfl rfl 1 (sV R ao)) fun (x:bN.av gG) (y:aH.av gH) k=>ux (cf ao) x.1 y.1.1 k

noncomputable def Bb (R:Type) (br:fE R) (cg:kG R) (nt:xi R) (iR:th R) (aQ:eS R):Env R:=fun i=>match i with
  | 49=>some (true,(aA sd se (xj br) bg))
  | 65=>some (true,(aA rQ rR (yN cg) bg))
  | 77=>some (true,(aA CX CY (I2 nt) bg))
  | 78=>some (true,(aA zz zA (FV iR) bg))
  | 79=>some (false,(aA gG gH (nQ aQ) bg))
  | _=>none
theorem M9 (R:Type) (ao:bR R) (fg:ay.Spec.Ok Tryz.prog 56 (aA gP gQ (fb ao) bg)):p6 Tryz.prog (Bb R br cg nt iR (aQ ao)):=by
  intro i b sp h
  unfold Bb at h
  split at h
  · cases h; exact ⟨(yO R _ (aO _)),fun h=>nomatch h⟩
  · cases h; exact ⟨(B4 R _ (aO _)),fun h=>nomatch h⟩
  · cases h; exact ⟨(M6 R _ (aO _)),fun h=>nomatch h⟩
  · cases h; exact ⟨(Ka R _ (aO _)),fun h=>nomatch h⟩
  · cases h; exact ⟨(ti R ao fg _ (aO _)),fun _ h=>nomatch h⟩
  · cases h

noncomputable def I6 (R:Type):Nat→Option (Hint × cr R):=fun i=>match i with
  | _=>none

noncomputable def Bc {R:Type} (br:fE R) (cg:kG R) (nt:xi R) (iR:th R) (aQ:eS R) (x1:Json) (x2:Int) (k0:Bool→Option R):Option R :=
  nt (⟨x1.kind,⟨x1.num.aB,x1.num.exp⟩,x1.text,x1.names,x1.items⟩:Json) (fun y3=>bif (decide (x2>(16:Int)))then (k0 false)else (bif (decide (x1.kind<(1:Int)))then (k0 false)else (bif (decide (x1.kind>(7:Int)))then (k0 false)else (bif (!(y3.num.aB==0&&(y3.num.exp==0&&true)))then (k0 false)else (bif (!(y3.text==([]:aj)))then (k0 false)else (bif (decide ((IntKind.i64.wrap ((y3.names.length:Int)+(y3.items.length:Int)))>(0:Int)))then (k0 false)else (bif (x1.kind==4)then (cg x1.num (fun y5=>k0 y5))else (bif (x1.kind==5)then (br x1.text (fun y6=>k0 y6))else (bif (x1.kind==7)then (bif ((x1.names.length:Int) != (x1.items.length:Int))then (k0 false)else (iR x1.names (fun y7=>bif (!y7)then (k0 false)else (aQ x1.items x2 (fun wL Aw=>k0 (!wL))))))else (aQ x1.items x2 (fun E0 uT=>k0 (!E0))))))))))))
noncomputable def Ew {R:Type} (ao:bR R):bR R:=fun x1 x2 k0=>Bc br cg nt iR (aQ ao) x1 x2 k0
theorem OF {R:Type} (br:fE R) (cg:kG R) (nt:xi R) (iR:th R) (aQ:eS R) (x1:Json) (x2:Int) (k:V→az→Option R):iP tt (Bb R br cg nt iR aQ) (I6 R) false Tryz.f56 (aK Tryz.f56) [.agg [.int .i64 x1.kind, .int .i64 x1.num.aB, .int .i64 x1.num.exp, .str x1.text, .sl .str x1.names .no, .sl .json x1.items .no], .int .i64 x2] [] k =
    Bc br cg nt iR aQ x1 x2 (fun q0=>k (.bool q0) []):=by kernel_rfl
theorem Kb (R:Type) (ao:bR R):∀a∈aP (aK Tryz.f56),cR tt (Bb R br cg nt iR (aQ ao)) (I6 R) 0 a:=by
  refine bG 0 (by kernel_rfl) fun i hi => ?_
  omega
theorem Kc (R:Type) (ao:bR R) (fg:ay.Spec.Ok Tryz.prog 56 (aA gP gQ (fb ao) bg)) (other:ay.Spec R) (ho:ay.Spec.Ok Tryz.prog 56 other):ay.Spec.Ok Tryz.prog 56 (aA gP gQ (fb (Ew ao)) other) :=
  bu ho (bj TT mixed (M9 R ao fg) (keep:=false) rfl rfl rfl rfl 0 (Kb R ao)) fun (x:bN.av gP) (y:aH.av gQ) k=>OF br cg nt iR (aQ ao) (⟨x.1.1,⟨x.1.2.1,x.1.2.2.1⟩,x.1.2.2.2.1,x.1.2.2.2.2.1,x.1.2.2.2.2.2.1⟩:Json) x.2.1 k
noncomputable def eX {R:Type}:Nat→bR R
  | 0,_,_,_=>none
  | n+1,lY,lZ,k0'=>Ew (eX n) lY lZ k0'
theorem Vs {R:Type} (n:Nat):eX (R:=R) (n+1)=Ew (eX n):=by kernel_rfl
theorem Lb (R:Type):∀n,ay.Spec.Ok Tryz.prog 56 (aA gP gQ (fb (eX (R:=R) n)) bg) :=
  wB (run:=fun n=>fb (eX (R:=R) n)) (fun x y k=>by kernel_rfl) fun n hyp=>Kc R (eX n) hyp bg (aO _)
noncomputable def lz {R:Type}:bR R:=fun x1 x2 k0=>eX (Json.depth x1+2) x1 x2 k0
theorem Lc (R:Type):fb (R:=R) lz=fun x y k=>fb (eX (Json.depth (⟨x.1.1,⟨x.1.2.1,x.1.2.2.1⟩,x.1.2.2.2.1,x.1.2.2.2.2.1,x.1.2.2.2.2.2.1⟩:Json)+2)) x y k:=by kernel_rfl
theorem Ld (R:Type) (other:ay.Spec R) (ho:ay.Spec.Ok Tryz.prog 56 other):ay.Spec.Ok Tryz.prog 56 (aA gP gQ (fb lz) other) :=
  B3 (DI (run:=fun n=>fb (eX (R:=R) n)) (fun x y=>(Json.depth (⟨x.1.1,⟨x.1.2.1,x.1.2.2.1⟩,x.1.2.2.2.1,x.1.2.2.2.2.1,x.1.2.2.2.2.2.1⟩:Json)+2)) ho (Lb R)) (Lc R)

end Go.Proofs.YtmlkkgfenfdndaaGreatDoor

/-
  Functions of the program as pure Lean functions, and the ties; printed by wip/tools/emit.py.
-/
set_option maxRecDepth 100000
namespace Go.Proofs.YtmlkkgfenfdndaaGreatDoor
open Go Go.ay

/-! ### humpyard/json.Right -/
abbrev hM (R:Type):Type:=Json→(Bool→Option R)→Option R
abbrev tT:List bN := [.agg [.int .i64, .int .i64, .int .i64, .str, .sl .str, .sl .json]]
abbrev tU:List aH := []
noncomputable def zB {R:Type} (fn:hM R):bN.av tT→aH.av tU→(V→az→Option R)→Option R:=fun x y k=>fn (⟨x.1.1,⟨x.1.2.1,x.1.2.2.1⟩,x.1.2.2.2.1,x.1.2.2.2.2.1,x.1.2.2.2.2.2.1⟩:Json) (fun q0=>k (.bool q0) [])
noncomputable def Bd (R:Type) (lz:bR R):Env R:=fun i=>match i with
  | 56=>some (true,(aA gP gQ (fb lz) bg))
  | _=>none
theorem Na (R:Type):p6 Tryz.prog (Bd R lz):=by
  intro i b sp h
  unfold Bd at h
  split at h
  · cases h; exact ⟨(Ld R _ (aO _)),fun h=>nomatch h⟩
  · cases h

noncomputable def I7 (R:Type):Nat→Option (Hint × cr R):=fun i=>match i with
  | _=>none

noncomputable def Be {R:Type} (lz:bR R) (x1:Json) (k0:Bool→Option R):Option R :=
  lz (⟨x1.kind,⟨x1.num.aB,x1.num.exp⟩,x1.text,x1.names,x1.items⟩:Json) 1 (fun y2=>k0 y2)
noncomputable def bS {R:Type}:hM R:=fun x1 k0=>Be lz x1 k0
theorem OG {R:Type} (lz:bR R) (x1:Json) (k:V→az→Option R):iP tt (Bd R lz) (I7 R) false Tryz.f32 (aK Tryz.f32) [.agg [.int .i64 x1.kind, .int .i64 x1.num.aB, .int .i64 x1.num.exp, .str x1.text, .sl .str x1.names .no, .sl .json x1.items .no]] [] k =
    Be lz x1 (fun q0=>k (.bool q0) []):=by kernel_rfl
theorem Kd (R:Type):∀a∈aP (aK Tryz.f32),cR tt (Bd R lz) (I7 R) 0 a:=by
  refine bG 0 (by kernel_rfl) fun i hi => ?_
  omega
theorem Ax (R:Type) (other:ay.Spec R) (ho:ay.Spec.Ok Tryz.prog 32 other):ay.Spec.Ok Tryz.prog 32 (aA tT tU (zB bS) other) :=
  bu ho (bj TT mixed (Na R) (keep:=false) rfl rfl rfl rfl 0 (Kd R)) fun (x:bN.av tT) (y:aH.av tU) k=>OG lz (⟨x.1.1,⟨x.1.2.1,x.1.2.2.1⟩,x.1.2.2.2.1,x.1.2.2.2.2.1,x.1.2.2.2.2.2.1⟩:Json) k

/-! ### (*strings.Builder).WriteString -/
abbrev bE (R:Type):Type:=aj→(Int→(List Int)→Option R)→Option R
abbrev ei:List bN := [.leaf (.ptr 0 0), .leaf (.str)]
abbrev ej:List aH := [.kW (.cJ)]
noncomputable def gJ {R:Type} (fn:bE R):bN.av ei→aH.av ej→(V→az→Option R)→Option R:=fun x y k=>fn x.2.1 (fun q0 q1=>k (.tuple [.int .i64 q0, .cX]) [.kW (.sl (.int .u8) q1 (.own 1)), .tok])
noncomputable def gR (R:Type):Env R:=fun i=>match i with
  | 73=>some (false,(KM R))
  | _=>none
theorem uy (R:Type):p6 Tryz.prog (gR R):=by
  intro i b sp h
  unfold gR at h
  split at h
  · cases h; exact ⟨(MX),fun _ h=>nomatch h⟩
  · cases h

noncomputable def ot (R:Type):Nat→Option (Hint × cr R):=fun i=>match i with
  | _=>none

noncomputable def ou {R:Type} (x1:aj) (k0:Int→(List Int)→Option R):Option R :=
  cU (decide ((0+(oP x1).length)*1≤140737488355328)) (k0 (x1.length:Int) (oP x1))
noncomputable def ag {R:Type}:bE R:=fun x1 k0=>ou x1 k0
theorem uZ {R:Type} (x1:aj) (k:V→az→Option R):iP tt (gR R) (ot R) false Tryz.f52 (aK Tryz.f52) [.ptr 0 0, .str x1] [.kW (.cJ)] k =
    ou x1 (fun q0 q1=>k (.tuple [.int .i64 q0, .cX]) [.kW (.sl (.int .u8) q1 (.own 1)), .tok]):=by kernel_rfl
theorem tj (R:Type):∀a∈aP (aK Tryz.f52),cR tt (gR R) (ot R) 1 a:=by
  refine bG 0 (by kernel_rfl) fun i hi => ?_
  omega
theorem jg (R:Type) (other:ay.Spec R) (ho:ay.Spec.Ok Tryz.prog 52 other):ay.Spec.Ok Tryz.prog 52 (aA ei ej (gJ ag) other) :=
  bu ho (bj TT mixed (uy R) (keep:=false) rfl rfl rfl rfl 1 (tj R)) fun (x:bN.av ei) (y:aH.av ej) k=>uZ x.2.1 k

/-! ### (*strings.Builder).WriteByte -/
abbrev bC (R:Type):Type:=Int→((List Int)→Option R)→Option R
abbrev eE:List bN := [.leaf (.ptr 0 0), .leaf (.int .u8)]
abbrev eF:List aH := [.kW (.cJ)]
noncomputable def gY {R:Type} (fn:bC R):bN.av eE→aH.av eF→(V→az→Option R)→Option R:=fun x y k=>fn x.2.1 (fun q0=>k (.cX) [.kW (.sl (.int .u8) q0 (.own 1)), .tok])
noncomputable def ib (R:Type):Env R:=fun i=>match i with
  | 73=>some (false,(KM R))
  | _=>none
theorem vS (R:Type):p6 Tryz.prog (ib R):=by
  intro i b sp h
  unfold ib at h
  split at h
  · cases h; exact ⟨(MX),fun _ h=>nomatch h⟩
  · cases h

noncomputable def o7 (R:Type):Nat→Option (Hint × cr R):=fun i=>match i with
  | _=>none

noncomputable def o8 {R:Type} (x1:Int) (k0:(List Int)→Option R):Option R :=
  k0 ([x1]:List Int)
noncomputable def ah {R:Type}:bC R:=fun x1 k0=>o8 x1 k0
theorem wN {R:Type} (x1:Int) (k:V→az→Option R):iP tt (ib R) (o7 R) false Tryz.f50 (aK Tryz.f50) [.ptr 0 0, .int .u8 x1] [.kW (.cJ)] k =
    o8 x1 (fun q0=>k (.cX) [.kW (.sl (.int .u8) q0 (.own 1)), .tok]):=by kernel_rfl
theorem uz (R:Type):∀a∈aP (aK Tryz.f50),cR tt (ib R) (o7 R) 1 a:=by
  refine bG 0 (by kernel_rfl) fun i hi => ?_
  omega
theorem jX (R:Type) (other:ay.Spec R) (ho:ay.Spec.Ok Tryz.prog 50 other):ay.Spec.Ok Tryz.prog 50 (aA eE eF (gY ah) other) :=
  bu ho (bj TT mixed (vS R) (keep:=false) rfl rfl rfl rfl 1 (uz R)) fun (x:bN.av eE) (y:aH.av eF) k=>wN x.2.1 k

/-! ### (*strings.Builder).WriteString -/
abbrev bb (R:Type):Type:=aj→(List Int)→(Int→(List Int)→Option R)→Option R
abbrev dC:List bN := [.leaf (.ptr 0 0), .leaf (.str)]
abbrev dD:List aH := [.kW (.MP (.int .u8) 1), .tok]
noncomputable def fc {R:Type} (fn:bb R):bN.av dC→aH.av dD→(V→az→Option R)→Option R:=fun x y k=>fn x.2.1 y.1 (fun q0 q1=>k (.tuple [.int .i64 q0, .cX]) [.kW (.sl (.int .u8) q1 (.own 2)), .dead, .tok])
noncomputable def gS (R:Type):Env R:=fun i=>match i with
  | 73=>some (false,(KM R))
  | _=>none
theorem uA (R:Type):p6 Tryz.prog (gS R):=by
  intro i b sp h
  unfold gS at h
  split at h
  · cases h; exact ⟨(MX),fun _ h=>nomatch h⟩
  · cases h

noncomputable def ov (R:Type):Nat→Option (Hint × cr R):=fun i=>match i with
  | _=>none

noncomputable def ow {R:Type} (x1:aj) (x2:List Int) (k0:Int→(List Int)→Option R):Option R :=
  cU (decide ((x2.length+(oP x1).length)*1≤140737488355328)) (k0 (x1.length:Int) ((x2:List Int)++((oP x1):List Int)))
noncomputable def af {R:Type}:bb R:=fun x1 x2 k0=>ow x1 x2 k0
theorem u0 {R:Type} (x1:aj) (x2:List Int) (k:V→az→Option R):iP tt (gS R) (ov R) false Tryz.f52 (aK Tryz.f52) [.ptr 0 0, .str x1] [.kW (.sl (.int .u8) x2 (.own 1)), .tok] k =
    ow x1 x2 (fun q0 q1=>k (.tuple [.int .i64 q0, .cX]) [.kW (.sl (.int .u8) q1 (.own 2)), .dead, .tok]):=by kernel_rfl
theorem tm (R:Type):∀a∈aP (aK Tryz.f52),cR tt (gS R) (ov R) 2 a:=by
  refine bG 0 (by kernel_rfl) fun i hi => ?_
  omega
theorem fY (R:Type) (other:ay.Spec R) (ho:ay.Spec.Ok Tryz.prog 52 other):ay.Spec.Ok Tryz.prog 52 (aA dC dD (fc af) other) :=
  bu ho (bj TT mixed (uA R) (keep:=false) rfl rfl rfl rfl 2 (tm R)) fun (x:bN.av dC) (y:aH.av dD) k=>u0 x.2.1 y.1 k

/-! ### humpyard/decimal.Print -/
abbrev fe (R:Type):Type:=iZ→(aj→Option R)→Option R
abbrev oV:List bN := [.agg [.int .i64, .int .i64]]
abbrev oW:List aH := []
noncomputable def tV {R:Type} (fn:fe R):bN.av oV→aH.av oW→(V→az→Option R)→Option R:=fun x y k=>fn (⟨x.1.1,x.1.2.1⟩:iZ) (fun q0=>k (.str q0) [])
noncomputable def vE (R:Type) (cg:kG R) (ah:bC R) (af:bb R) (ag:bE R):Env R:=fun i=>match i with
  | 65=>some (true,(aA rQ rR (yN cg) bg))
  | 50=>some (false,(aA eE eF (gY ah) bg))
  | 52=>some (false,(aA ei ej (gJ ag) (aA dC dD (fc af) bg)))
  | 39=>some (false,(Eo R))
  | 66=>some (true,(Uc R))
  | 67=>some (true,(ZI R))
  | _=>none
theorem I8 (R:Type):p6 Tryz.prog (vE R cg ah af ag):=by
  intro i b sp h
  unfold vE at h
  split at h
  · cases h; exact ⟨(B4 R _ (aO _)),fun h=>nomatch h⟩
  · cases h; exact ⟨(jX R _ (aO _)),fun _ h=>nomatch h⟩
  · cases h; exact ⟨(jg R _ (fY R _ (aO _))),fun _ h=>nomatch h⟩
  · cases h; exact ⟨(LJ),fun _ _=>Gz⟩
  · cases h; exact ⟨(itoa_ok),fun h=>nomatch h⟩
  · cases h; exact ⟨(rep_ok),fun h=>nomatch h⟩
  · cases h

noncomputable def E1 (R:Type):Nat→Option (Hint × cr R):=fun i=>match i with
  | _=>none

noncomputable def oX {R:Type} (cg:kG R) (ah:bC R) (af:bb R) (ag:bE R) (x1:iZ) (k0:aj→Option R):Option R :=
  cg x1 (fun y2=>bif (!y2)then (k0 ([]:aj))else (bif (decide (x1.aB<(0:Int)))then (ah 45 (fun y3=>bif (decide (x1.exp≥(0:Int)))then (cU (decide (0≤x1.exp)&&decide ((([48]:aj).length:Int)*x1.exp≤140737488355328)) (cU (decide ((cy (max x1.aB (IntKind.i64.wrap (0 - x1.aB)))).length+(lX ([48]:aj) x1.exp).length≤9223372036854775807)) (af ((cy (max x1.aB (IntKind.i64.wrap (0 - x1.aB))))++(lX ([48]:aj) x1.exp)) y3 (fun y4 y5=>k0 (td y5)))))else (cU (decide (0≤(max 0 (IntKind.i64.wrap ((IntKind.i64.wrap (1 - x1.exp)) - ((cy (max x1.aB (IntKind.i64.wrap (0 - x1.aB)))).length:Int)))))&&decide ((([48]:aj).length:Int)*(max 0 (IntKind.i64.wrap ((IntKind.i64.wrap (1 - x1.exp)) - ((cy (max x1.aB (IntKind.i64.wrap (0 - x1.aB)))).length:Int))))≤140737488355328)) (cU (decide ((lX ([48]:aj) (max 0 (IntKind.i64.wrap ((IntKind.i64.wrap (1 - x1.exp)) - ((cy (max x1.aB (IntKind.i64.wrap (0 - x1.aB)))).length:Int))))).length+(cy (max x1.aB (IntKind.i64.wrap (0 - x1.aB)))).length≤9223372036854775807)) (cU (decide ((0:Int)≤(IntKind.i64.wrap ((((lX ([48]:aj) (max 0 (IntKind.i64.wrap ((IntKind.i64.wrap (1 - x1.exp)) - ((cy (max x1.aB (IntKind.i64.wrap (0 - x1.aB)))).length:Int)))))++(cy (max x1.aB (IntKind.i64.wrap (0 - x1.aB))))).length:Int)+x1.exp)))&&decide ((IntKind.i64.wrap ((((lX ([48]:aj) (max 0 (IntKind.i64.wrap ((IntKind.i64.wrap (1 - x1.exp)) - ((cy (max x1.aB (IntKind.i64.wrap (0 - x1.aB)))).length:Int)))))++(cy (max x1.aB (IntKind.i64.wrap (0 - x1.aB))))).length:Int)+x1.exp))≤((lX ([48]:aj) (max 0 (IntKind.i64.wrap ((IntKind.i64.wrap (1 - x1.exp)) - ((cy (max x1.aB (IntKind.i64.wrap (0 - x1.aB)))).length:Int)))))++(cy (max x1.aB (IntKind.i64.wrap (0 - x1.aB))))).length)) (cU (decide ((0:Int)≤(IntKind.i64.wrap ((((lX ([48]:aj) (max 0 (IntKind.i64.wrap ((IntKind.i64.wrap (1 - x1.exp)) - ((cy (max x1.aB (IntKind.i64.wrap (0 - x1.aB)))).length:Int)))))++(cy (max x1.aB (IntKind.i64.wrap (0 - x1.aB))))).length:Int)+x1.exp)))) (cU (decide (((((lX ([48]:aj) (max 0 (IntKind.i64.wrap ((IntKind.i64.wrap (1 - x1.exp)) - ((cy (max x1.aB (IntKind.i64.wrap (0 - x1.aB)))).length:Int)))))++(cy (max x1.aB (IntKind.i64.wrap (0 - x1.aB))))).drop 0).take ((IntKind.i64.wrap ((((lX ([48]:aj) (max 0 (IntKind.i64.wrap ((IntKind.i64.wrap (1 - x1.exp)) - ((cy (max x1.aB (IntKind.i64.wrap (0 - x1.aB)))).length:Int)))))++(cy (max x1.aB (IntKind.i64.wrap (0 - x1.aB))))).length:Int)+x1.exp)).toNat - 0)).length+1≤9223372036854775807)) (cU (decide ((0:Int)≤(((lX ([48]:aj) (max 0 (IntKind.i64.wrap ((IntKind.i64.wrap (1 - x1.exp)) - ((cy (max x1.aB (IntKind.i64.wrap (0 - x1.aB)))).length:Int)))))++(cy (max x1.aB (IntKind.i64.wrap (0 - x1.aB))))).length:Int))&&decide ((((lX ([48]:aj) (max 0 (IntKind.i64.wrap ((IntKind.i64.wrap (1 - x1.exp)) - ((cy (max x1.aB (IntKind.i64.wrap (0 - x1.aB)))).length:Int)))))++(cy (max x1.aB (IntKind.i64.wrap (0 - x1.aB))))).length:Int)≤((lX ([48]:aj) (max 0 (IntKind.i64.wrap ((IntKind.i64.wrap (1 - x1.exp)) - ((cy (max x1.aB (IntKind.i64.wrap (0 - x1.aB)))).length:Int)))))++(cy (max x1.aB (IntKind.i64.wrap (0 - x1.aB))))).length)) (cU (decide ((0:Int)≤(IntKind.i64.wrap ((((lX ([48]:aj) (max 0 (IntKind.i64.wrap ((IntKind.i64.wrap (1 - x1.exp)) - ((cy (max x1.aB (IntKind.i64.wrap (0 - x1.aB)))).length:Int)))))++(cy (max x1.aB (IntKind.i64.wrap (0 - x1.aB))))).length:Int)+x1.exp)))&&decide ((IntKind.i64.wrap ((((lX ([48]:aj) (max 0 (IntKind.i64.wrap ((IntKind.i64.wrap (1 - x1.exp)) - ((cy (max x1.aB (IntKind.i64.wrap (0 - x1.aB)))).length:Int)))))++(cy (max x1.aB (IntKind.i64.wrap (0 - x1.aB))))).length:Int)+x1.exp))≤(((lX ([48]:aj) (max 0 (IntKind.i64.wrap ((IntKind.i64.wrap (1 - x1.exp)) - ((cy (max x1.aB (IntKind.i64.wrap (0 - x1.aB)))).length:Int)))))++(cy (max x1.aB (IntKind.i64.wrap (0 - x1.aB))))).length:Int))) (cU (decide ((((((lX ([48]:aj) (max 0 (IntKind.i64.wrap ((IntKind.i64.wrap (1 - x1.exp)) - ((cy (max x1.aB (IntKind.i64.wrap (0 - x1.aB)))).length:Int)))))++(cy (max x1.aB (IntKind.i64.wrap (0 - x1.aB))))).drop 0).take ((IntKind.i64.wrap ((((lX ([48]:aj) (max 0 (IntKind.i64.wrap ((IntKind.i64.wrap (1 - x1.exp)) - ((cy (max x1.aB (IntKind.i64.wrap (0 - x1.aB)))).length:Int)))))++(cy (max x1.aB (IntKind.i64.wrap (0 - x1.aB))))).length:Int)+x1.exp)).toNat - 0))++([46]:aj)).length+((((lX ([48]:aj) (max 0 (IntKind.i64.wrap ((IntKind.i64.wrap (1 - x1.exp)) - ((cy (max x1.aB (IntKind.i64.wrap (0 - x1.aB)))).length:Int)))))++(cy (max x1.aB (IntKind.i64.wrap (0 - x1.aB))))).drop (IntKind.i64.wrap ((((lX ([48]:aj) (max 0 (IntKind.i64.wrap ((IntKind.i64.wrap (1 - x1.exp)) - ((cy (max x1.aB (IntKind.i64.wrap (0 - x1.aB)))).length:Int)))))++(cy (max x1.aB (IntKind.i64.wrap (0 - x1.aB))))).length:Int)+x1.exp)).toNat).take ((((lX ([48]:aj) (max 0 (IntKind.i64.wrap ((IntKind.i64.wrap (1 - x1.exp)) - ((cy (max x1.aB (IntKind.i64.wrap (0 - x1.aB)))).length:Int)))))++(cy (max x1.aB (IntKind.i64.wrap (0 - x1.aB))))).length:Int).toNat - (IntKind.i64.wrap ((((lX ([48]:aj) (max 0 (IntKind.i64.wrap ((IntKind.i64.wrap (1 - x1.exp)) - ((cy (max x1.aB (IntKind.i64.wrap (0 - x1.aB)))).length:Int)))))++(cy (max x1.aB (IntKind.i64.wrap (0 - x1.aB))))).length:Int)+x1.exp)).toNat)).length≤9223372036854775807)) (af ((((((lX ([48]:aj) (max 0 (IntKind.i64.wrap ((IntKind.i64.wrap (1 - x1.exp)) - ((cy (max x1.aB (IntKind.i64.wrap (0 - x1.aB)))).length:Int)))))++(cy (max x1.aB (IntKind.i64.wrap (0 - x1.aB))))).drop 0).take ((IntKind.i64.wrap ((((lX ([48]:aj) (max 0 (IntKind.i64.wrap ((IntKind.i64.wrap (1 - x1.exp)) - ((cy (max x1.aB (IntKind.i64.wrap (0 - x1.aB)))).length:Int)))))++(cy (max x1.aB (IntKind.i64.wrap (0 - x1.aB))))).length:Int)+x1.exp)).toNat - 0))++([46]:aj))++((((lX ([48]:aj) (max 0 (IntKind.i64.wrap ((IntKind.i64.wrap (1 - x1.exp)) - ((cy (max x1.aB (IntKind.i64.wrap (0 - x1.aB)))).length:Int)))))++(cy (max x1.aB (IntKind.i64.wrap (0 - x1.aB))))).drop (IntKind.i64.wrap ((((lX ([48]:aj) (max 0 (IntKind.i64.wrap ((IntKind.i64.wrap (1 - x1.exp)) - ((cy (max x1.aB (IntKind.i64.wrap (0 - x1.aB)))).length:Int)))))++(cy (max x1.aB (IntKind.i64.wrap (0 - x1.aB))))).length:Int)+x1.exp)).toNat).take ((((lX ([48]:aj) (max 0 (IntKind.i64.wrap ((IntKind.i64.wrap (1 - x1.exp)) - ((cy (max x1.aB (IntKind.i64.wrap (0 - x1.aB)))).length:Int)))))++(cy (max x1.aB (IntKind.i64.wrap (0 - x1.aB))))).length:Int).toNat - (IntKind.i64.wrap ((((lX ([48]:aj) (max 0 (IntKind.i64.wrap ((IntKind.i64.wrap (1 - x1.exp)) - ((cy (max x1.aB (IntKind.i64.wrap (0 - x1.aB)))).length:Int)))))++(cy (max x1.aB (IntKind.i64.wrap (0 - x1.aB))))).length:Int)+x1.exp)).toNat))) y3 (fun y6 y7=>k0 (td y7)))))))))))))else (bif (decide (x1.exp≥(0:Int)))then (cU (decide (0≤x1.exp)&&decide ((([48]:aj).length:Int)*x1.exp≤140737488355328)) (cU (decide ((cy (max x1.aB (IntKind.i64.wrap (0 - x1.aB)))).length+(lX ([48]:aj) x1.exp).length≤9223372036854775807)) (ag ((cy (max x1.aB (IntKind.i64.wrap (0 - x1.aB))))++(lX ([48]:aj) x1.exp)) (fun y8 y9=>k0 (td y9)))))else (cU (decide (0≤(max 0 (IntKind.i64.wrap ((IntKind.i64.wrap (1 - x1.exp)) - ((cy (max x1.aB (IntKind.i64.wrap (0 - x1.aB)))).length:Int)))))&&decide ((([48]:aj).length:Int)*(max 0 (IntKind.i64.wrap ((IntKind.i64.wrap (1 - x1.exp)) - ((cy (max x1.aB (IntKind.i64.wrap (0 - x1.aB)))).length:Int))))≤140737488355328)) (cU (decide ((lX ([48]:aj) (max 0 (IntKind.i64.wrap ((IntKind.i64.wrap (1 - x1.exp)) - ((cy (max x1.aB (IntKind.i64.wrap (0 - x1.aB)))).length:Int))))).length+(cy (max x1.aB (IntKind.i64.wrap (0 - x1.aB)))).length≤9223372036854775807)) (cU (decide ((0:Int)≤(IntKind.i64.wrap ((((lX ([48]:aj) (max 0 (IntKind.i64.wrap ((IntKind.i64.wrap (1 - x1.exp)) - ((cy (max x1.aB (IntKind.i64.wrap (0 - x1.aB)))).length:Int)))))++(cy (max x1.aB (IntKind.i64.wrap (0 - x1.aB))))).length:Int)+x1.exp)))&&decide ((IntKind.i64.wrap ((((lX ([48]:aj) (max 0 (IntKind.i64.wrap ((IntKind.i64.wrap (1 - x1.exp)) - ((cy (max x1.aB (IntKind.i64.wrap (0 - x1.aB)))).length:Int)))))++(cy (max x1.aB (IntKind.i64.wrap (0 - x1.aB))))).length:Int)+x1.exp))≤((lX ([48]:aj) (max 0 (IntKind.i64.wrap ((IntKind.i64.wrap (1 - x1.exp)) - ((cy (max x1.aB (IntKind.i64.wrap (0 - x1.aB)))).length:Int)))))++(cy (max x1.aB (IntKind.i64.wrap (0 - x1.aB))))).length)) (cU (decide ((0:Int)≤(IntKind.i64.wrap ((((lX ([48]:aj) (max 0 (IntKind.i64.wrap ((IntKind.i64.wrap (1 - x1.exp)) - ((cy (max x1.aB (IntKind.i64.wrap (0 - x1.aB)))).length:Int)))))++(cy (max x1.aB (IntKind.i64.wrap (0 - x1.aB))))).length:Int)+x1.exp)))) (cU (decide (((((lX ([48]:aj) (max 0 (IntKind.i64.wrap ((IntKind.i64.wrap (1 - x1.exp)) - ((cy (max x1.aB (IntKind.i64.wrap (0 - x1.aB)))).length:Int)))))++(cy (max x1.aB (IntKind.i64.wrap (0 - x1.aB))))).drop 0).take ((IntKind.i64.wrap ((((lX ([48]:aj) (max 0 (IntKind.i64.wrap ((IntKind.i64.wrap (1 - x1.exp)) - ((cy (max x1.aB (IntKind.i64.wrap (0 - x1.aB)))).length:Int)))))++(cy (max x1.aB (IntKind.i64.wrap (0 - x1.aB))))).length:Int)+x1.exp)).toNat - 0)).length+1≤9223372036854775807)) (cU (decide ((0:Int)≤(((lX ([48]:aj) (max 0 (IntKind.i64.wrap ((IntKind.i64.wrap (1 - x1.exp)) - ((cy (max x1.aB (IntKind.i64.wrap (0 - x1.aB)))).length:Int)))))++(cy (max x1.aB (IntKind.i64.wrap (0 - x1.aB))))).length:Int))&&decide ((((lX ([48]:aj) (max 0 (IntKind.i64.wrap ((IntKind.i64.wrap (1 - x1.exp)) - ((cy (max x1.aB (IntKind.i64.wrap (0 - x1.aB)))).length:Int)))))++(cy (max x1.aB (IntKind.i64.wrap (0 - x1.aB))))).length:Int)≤((lX ([48]:aj) (max 0 (IntKind.i64.wrap ((IntKind.i64.wrap (1 - x1.exp)) - ((cy (max x1.aB (IntKind.i64.wrap (0 - x1.aB)))).length:Int)))))++(cy (max x1.aB (IntKind.i64.wrap (0 - x1.aB))))).length)) (cU (decide ((0:Int)≤(IntKind.i64.wrap ((((lX ([48]:aj) (max 0 (IntKind.i64.wrap ((IntKind.i64.wrap (1 - x1.exp)) - ((cy (max x1.aB (IntKind.i64.wrap (0 - x1.aB)))).length:Int)))))++(cy (max x1.aB (IntKind.i64.wrap (0 - x1.aB))))).length:Int)+x1.exp)))&&decide ((IntKind.i64.wrap ((((lX ([48]:aj) (max 0 (IntKind.i64.wrap ((IntKind.i64.wrap (1 - x1.exp)) - ((cy (max x1.aB (IntKind.i64.wrap (0 - x1.aB)))).length:Int)))))++(cy (max x1.aB (IntKind.i64.wrap (0 - x1.aB))))).length:Int)+x1.exp))≤(((lX ([48]:aj) (max 0 (IntKind.i64.wrap ((IntKind.i64.wrap (1 - x1.exp)) - ((cy (max x1.aB (IntKind.i64.wrap (0 - x1.aB)))).length:Int)))))++(cy (max x1.aB (IntKind.i64.wrap (0 - x1.aB))))).length:Int))) (cU (decide ((((((lX ([48]:aj) (max 0 (IntKind.i64.wrap ((IntKind.i64.wrap (1 - x1.exp)) - ((cy (max x1.aB (IntKind.i64.wrap (0 - x1.aB)))).length:Int)))))++(cy (max x1.aB (IntKind.i64.wrap (0 - x1.aB))))).drop 0).take ((IntKind.i64.wrap ((((lX ([48]:aj) (max 0 (IntKind.i64.wrap ((IntKind.i64.wrap (1 - x1.exp)) - ((cy (max x1.aB (IntKind.i64.wrap (0 - x1.aB)))).length:Int)))))++(cy (max x1.aB (IntKind.i64.wrap (0 - x1.aB))))).length:Int)+x1.exp)).toNat - 0))++([46]:aj)).length+((((lX ([48]:aj) (max 0 (IntKind.i64.wrap ((IntKind.i64.wrap (1 - x1.exp)) - ((cy (max x1.aB (IntKind.i64.wrap (0 - x1.aB)))).length:Int)))))++(cy (max x1.aB (IntKind.i64.wrap (0 - x1.aB))))).drop (IntKind.i64.wrap ((((lX ([48]:aj) (max 0 (IntKind.i64.wrap ((IntKind.i64.wrap (1 - x1.exp)) - ((cy (max x1.aB (IntKind.i64.wrap (0 - x1.aB)))).length:Int)))))++(cy (max x1.aB (IntKind.i64.wrap (0 - x1.aB))))).length:Int)+x1.exp)).toNat).take ((((lX ([48]:aj) (max 0 (IntKind.i64.wrap ((IntKind.i64.wrap (1 - x1.exp)) - ((cy (max x1.aB (IntKind.i64.wrap (0 - x1.aB)))).length:Int)))))++(cy (max x1.aB (IntKind.i64.wrap (0 - x1.aB))))).length:Int).toNat - (IntKind.i64.wrap ((((lX ([48]:aj) (max 0 (IntKind.i64.wrap ((IntKind.i64.wrap (1 - x1.exp)) - ((cy (max x1.aB (IntKind.i64.wrap (0 - x1.aB)))).length:Int)))))++(cy (max x1.aB (IntKind.i64.wrap (0 - x1.aB))))).length:Int)+x1.exp)).toNat)).length≤9223372036854775807)) (ag ((((((lX ([48]:aj) (max 0 (IntKind.i64.wrap ((IntKind.i64.wrap (1 - x1.exp)) - ((cy (max x1.aB (IntKind.i64.wrap (0 - x1.aB)))).length:Int)))))++(cy (max x1.aB (IntKind.i64.wrap (0 - x1.aB))))).drop 0).take ((IntKind.i64.wrap ((((lX ([48]:aj) (max 0 (IntKind.i64.wrap ((IntKind.i64.wrap (1 - x1.exp)) - ((cy (max x1.aB (IntKind.i64.wrap (0 - x1.aB)))).length:Int)))))++(cy (max x1.aB (IntKind.i64.wrap (0 - x1.aB))))).length:Int)+x1.exp)).toNat - 0))++([46]:aj))++((((lX ([48]:aj) (max 0 (IntKind.i64.wrap ((IntKind.i64.wrap (1 - x1.exp)) - ((cy (max x1.aB (IntKind.i64.wrap (0 - x1.aB)))).length:Int)))))++(cy (max x1.aB (IntKind.i64.wrap (0 - x1.aB))))).drop (IntKind.i64.wrap ((((lX ([48]:aj) (max 0 (IntKind.i64.wrap ((IntKind.i64.wrap (1 - x1.exp)) - ((cy (max x1.aB (IntKind.i64.wrap (0 - x1.aB)))).length:Int)))))++(cy (max x1.aB (IntKind.i64.wrap (0 - x1.aB))))).length:Int)+x1.exp)).toNat).take ((((lX ([48]:aj) (max 0 (IntKind.i64.wrap ((IntKind.i64.wrap (1 - x1.exp)) - ((cy (max x1.aB (IntKind.i64.wrap (0 - x1.aB)))).length:Int)))))++(cy (max x1.aB (IntKind.i64.wrap (0 - x1.aB))))).length:Int).toNat - (IntKind.i64.wrap ((((lX ([48]:aj) (max 0 (IntKind.i64.wrap ((IntKind.i64.wrap (1 - x1.exp)) - ((cy (max x1.aB (IntKind.i64.wrap (0 - x1.aB)))).length:Int)))))++(cy (max x1.aB (IntKind.i64.wrap (0 - x1.aB))))).length:Int)+x1.exp)).toNat))) (fun yJ wL=>k0 (td wL))))))))))))))
noncomputable def bc {R:Type}:fe R:=fun x1 k0=>oX cg ah af ag x1 k0
theorem Ke {R:Type} (cg:kG R) (ah:bC R) (af:bb R) (ag:bE R) (x1:iZ) (k:V→az→Option R):iP tt (vE R cg ah af ag) (E1 R) false Tryz.f46 (aK Tryz.f46) [.agg [.int .i64 x1.aB, .int .i64 x1.exp]] [] k =
    oX cg ah af ag x1 (fun q0=>k (.str q0) []):=by kernel_rfl
theorem GS (R:Type):∀a∈aP (aK Tryz.f46),cR tt (vE R cg ah af ag) (E1 R) 0 a:=by
  refine bG 0 (by kernel_rfl) fun i hi => ?_
  omega
theorem vT (R:Type) (other:ay.Spec R) (ho:ay.Spec.Ok Tryz.prog 46 other):ay.Spec.Ok Tryz.prog 46 (aA oV oW (tV bc) other) :=
  bu ho (bj TT mixed (I8 R) (keep:=false) rfl rfl rfl rfl 0 (GS R)) fun (x:bN.av oV) (y:aH.av oW) k=>Ke cg ah af ag (⟨x.1.1,x.1.2.1⟩:iZ) k

/-! ### humpyard/quote.short -/
abbrev ox (R:Type):Type:=Int→(Int→Option R)→Option R
abbrev zC:List bN := [.leaf (.int .i32)]
abbrev zD:List aH := []
noncomputable def F0 {R:Type} (fn:ox R):bN.av zC→aH.av zD→(V→az→Option R)→Option R:=fun x y k=>fn x.1 (fun q0=>k (.int .u8 q0) [])
noncomputable def zE (R:Type):Env R:=fun i=>match i with
  | _=>none
theorem Le (R:Type):p6 Tryz.prog (zE R):=by
  intro i b sp h
  unfold zE at h
  split at h
  · cases h

noncomputable def Hl (R:Type):Nat→Option (Hint × cr R):=fun i=>match i with
  | _=>none

noncomputable def zF {R:Type} (x1:Int) (k0:Int→Option R):Option R :=
  bif (x1==34)then (bif (x1==34)then (k0 (IntKind.u8.wrap x1))else (bif (x1==8)then (k0 98)else (bif (x1==12)then (k0 102)else (bif (x1==10)then (k0 110)else (bif (x1==13)then (k0 114)else (bif (x1==9)then (k0 116)else (k0 0)))))))else (bif (x1==92)then (k0 (IntKind.u8.wrap x1))else (bif (x1==8)then (k0 98)else (bif (x1==12)then (k0 102)else (bif (x1==10)then (k0 110)else (bif (x1==13)then (k0 114)else (bif (x1==9)then (k0 116)else (k0 0)))))))
noncomputable def dT {R:Type}:ox R:=fun x1 k0=>zF x1 k0
theorem Nb {R:Type} (x1:Int) (k:V→az→Option R):iP tt (zE R) (Hl R) false Tryz.f51 (aK Tryz.f51) [.int .i32 x1] [] k =
    zF x1 (fun q0=>k (.int .u8 q0) []):=by kernel_rfl
theorem I9 (R:Type):∀a∈aP (aK Tryz.f51),cR tt (zE R) (Hl R) 0 a:=by
  refine bG 0 (by kernel_rfl) fun i hi => ?_
  omega
theorem Kf (R:Type) (other:ay.Spec R) (ho:ay.Spec.Ok Tryz.prog 51 other):ay.Spec.Ok Tryz.prog 51 (aA zC zD (F0 dT) other) :=
  bu ho (bj TT mixed (Le R) (keep:=false) rfl rfl rfl rfl 0 (I9 R)) fun (x:bN.av zC) (y:aH.av zD) k=>Nb x.1 k

/-! ### (*strings.Builder).WriteByte -/
abbrev aW (R:Type):Type:=Int→(List Int)→((List Int)→Option R)→Option R
abbrev eG:List bN := [.leaf (.ptr 0 0), .leaf (.int .u8)]
abbrev eH:List aH := [.kW (.MP (.int .u8) 1), .tok]
noncomputable def gZ {R:Type} (fn:aW R):bN.av eG→aH.av eH→(V→az→Option R)→Option R:=fun x y k=>fn x.2.1 y.1 (fun q0=>k (.cX) [.kW (.sl (.int .u8) q0 (.own 2)), .dead, .tok])
noncomputable def ic (R:Type):Env R:=fun i=>match i with
  | 73=>some (false,(KM R))
  | _=>none
theorem vU (R:Type):p6 Tryz.prog (ic R):=by
  intro i b sp h
  unfold ic at h
  split at h
  · cases h; exact ⟨(MX),fun _ h=>nomatch h⟩
  · cases h

noncomputable def o9 (R:Type):Nat→Option (Hint × cr R):=fun i=>match i with
  | _=>none

noncomputable def pc {R:Type} (x1:Int) (x2:List Int) (k0:(List Int)→Option R):Option R :=
  cU (decide ((x2.length+1)*1≤140737488355328)) (k0 ((x2:List Int)++(([x1]:List Int):List Int)))
noncomputable def ad {R:Type}:aW R:=fun x1 x2 k0=>pc x1 x2 k0
theorem wO {R:Type} (x1:Int) (x2:List Int) (k:V→az→Option R):iP tt (ic R) (o9 R) false Tryz.f50 (aK Tryz.f50) [.ptr 0 0, .int .u8 x1] [.kW (.sl (.int .u8) x2 (.own 1)), .tok] k =
    pc x1 x2 (fun q0=>k (.cX) [.kW (.sl (.int .u8) q0 (.own 2)), .dead, .tok]):=by kernel_rfl
theorem uB (R:Type):∀a∈aP (aK Tryz.f50),cR tt (ic R) (o9 R) 2 a:=by
  refine bG 0 (by kernel_rfl) fun i hi => ?_
  omega
theorem jY (R:Type) (other:ay.Spec R) (ho:ay.Spec.Ok Tryz.prog 50 other):ay.Spec.Ok Tryz.prog 50 (aA eG eH (gZ ad) other) :=
  bu ho (bj TT mixed (vU R) (keep:=false) rfl rfl rfl rfl 2 (uB R)) fun (x:bN.av eG) (y:aH.av eH) k=>wO x.2.1 y.1 k

end Go.Proofs.YtmlkkgfenfdndaaGreatDoor

/-
  Functions of the program as pure Lean functions, and the ties; printed by wip/tools/emit.py.
-/
set_option maxRecDepth 100000
namespace Go.Proofs.YtmlkkgfenfdndaaGreatDoor
open Go Go.ay

/-! ### unicode/utf8.appendRuneNonASCII -/
abbrev ez (R:Type):Type:=(List Int)→Int→((List Int)→Option R)→Option R
abbrev fH:List bN := [.leaf (.MP (.int .u8) 0), .leaf (.int .i32)]
abbrev fI:List aH := [.tok]
noncomputable def mC {R:Type} (fn:ez R):bN.av fH→aH.av fI→(V→az→Option R)→Option R:=fun x y k=>fn x.1 x.2.1 (fun q0=>k (.sl (.int .u8) q0 (.own 1)) [.dead, .tok])
noncomputable def fJ (R:Type):Env R:=fun i=>match i with
  | _=>none
theorem sn (R:Type):p6 Tryz.prog (fJ R):=by
  intro i b sp h
  unfold fJ at h
  split at h
  · cases h

noncomputable def nf (R:Type):Nat→Option (Hint × cr R):=fun i=>match i with
  | _=>none

noncomputable def fK {R:Type} (x1:List Int) (x2:Int) (k0:(List Int)→Option R):Option R :=
  bif (decide ((IntKind.u32.wrap x2)≤(2047:Int)))then (cU (decide ((x1.length+2)*1≤140737488355328)) (k0 ((x1:List Int)++(([(IntKind.u8.wrap ((BitVec.ofInt IntKind.u8.bits 192 ||| BitVec.ofInt IntKind.u8.bits (IntKind.u8.wrap (Int.fdiv x2 (2 ^ (min 6 IntKind.i32.bits))))).toNat:Int)),(IntKind.u8.wrap ((BitVec.ofInt IntKind.u8.bits 128 ||| BitVec.ofInt IntKind.u8.bits (IntKind.u8.wrap ((BitVec.ofInt IntKind.u8.bits (IntKind.u8.wrap x2) &&& BitVec.ofInt IntKind.u8.bits 63).toNat:Int))).toNat:Int))]:List Int):List Int))))else (let j6:=fun (z3:Bool)=>bif z3 then (cU (decide ((x1.length+3)*1≤140737488355328)) (k0 ((x1:List Int)++(([(IntKind.u8.wrap ((BitVec.ofInt IntKind.u8.bits 224 ||| BitVec.ofInt IntKind.u8.bits (IntKind.u8.wrap (Int.fdiv x2 (2 ^ (min 12 IntKind.i32.bits))))).toNat:Int)),(IntKind.u8.wrap ((BitVec.ofInt IntKind.u8.bits 128 ||| BitVec.ofInt IntKind.u8.bits (IntKind.u8.wrap ((BitVec.ofInt IntKind.u8.bits (IntKind.u8.wrap (Int.fdiv x2 (2 ^ (min 6 IntKind.i32.bits)))) &&& BitVec.ofInt IntKind.u8.bits 63).toNat:Int))).toNat:Int)),(IntKind.u8.wrap ((BitVec.ofInt IntKind.u8.bits 128 ||| BitVec.ofInt IntKind.u8.bits (IntKind.u8.wrap ((BitVec.ofInt IntKind.u8.bits (IntKind.u8.wrap x2) &&& BitVec.ofInt IntKind.u8.bits 63).toNat:Int))).toNat:Int))]:List Int):List Int))))else (let j5:=fun (z4:Bool)=>bif z4 then (cU (decide ((x1.length+4)*1≤140737488355328)) (k0 ((x1:List Int)++(([(IntKind.u8.wrap ((BitVec.ofInt IntKind.u8.bits 240 ||| BitVec.ofInt IntKind.u8.bits (IntKind.u8.wrap (Int.fdiv x2 (2 ^ (min 18 IntKind.i32.bits))))).toNat:Int)),(IntKind.u8.wrap ((BitVec.ofInt IntKind.u8.bits 128 ||| BitVec.ofInt IntKind.u8.bits (IntKind.u8.wrap ((BitVec.ofInt IntKind.u8.bits (IntKind.u8.wrap (Int.fdiv x2 (2 ^ (min 12 IntKind.i32.bits)))) &&& BitVec.ofInt IntKind.u8.bits 63).toNat:Int))).toNat:Int)),(IntKind.u8.wrap ((BitVec.ofInt IntKind.u8.bits 128 ||| BitVec.ofInt IntKind.u8.bits (IntKind.u8.wrap ((BitVec.ofInt IntKind.u8.bits (IntKind.u8.wrap (Int.fdiv x2 (2 ^ (min 6 IntKind.i32.bits)))) &&& BitVec.ofInt IntKind.u8.bits 63).toNat:Int))).toNat:Int)),(IntKind.u8.wrap ((BitVec.ofInt IntKind.u8.bits 128 ||| BitVec.ofInt IntKind.u8.bits (IntKind.u8.wrap ((BitVec.ofInt IntKind.u8.bits (IntKind.u8.wrap x2) &&& BitVec.ofInt IntKind.u8.bits 63).toNat:Int))).toNat:Int))]:List Int):List Int))))else (cU (decide ((x1.length+3)*1≤140737488355328)) (k0 ((x1:List Int)++(([239,191,189]:List Int):List Int)))); bif (decide ((IntKind.u32.wrap x2)>(65535:Int)))then (j5 (decide ((IntKind.u32.wrap x2)≤(1114111:Int))))else (j5 false)); bif (decide ((IntKind.u32.wrap x2)<(55296:Int)))then (j6 (decide ((IntKind.u32.wrap x2)<(55296:Int))))else (bif (decide ((57343:Int)<(IntKind.u32.wrap x2)))then (j6 (decide ((IntKind.u32.wrap x2)≤(65535:Int))))else (j6 false)))
noncomputable def bw {R:Type}:ez R:=fun x1 x2 k0=>fK x1 x2 k0
theorem sW {R:Type} (x1:List Int) (x2:Int) (k:V→az→Option R):iP tt (fJ R) (nf R) true Tryz.f113 (aK Tryz.f113) [.sl (.int .u8) x1 (.own 0), .int .i32 x2] [.tok] k =
    fK x1 x2 (fun q0=>k (.sl (.int .u8) q0 (.own 1)) [.dead, .tok]):=by kernel_rfl
theorem qW (R:Type):∀a∈aP (aK Tryz.f113),cR tt (fJ R) (nf R) 1 a:=by
  refine bG 0 (by kernel_rfl) fun i hi => ?_
  omega
theorem rU (R:Type) (other:ay.Spec R) (ho:ay.Spec.Ok Tryz.prog 113 other):ay.Spec.Ok Tryz.prog 113 (aA fH fI (mC bw) other) :=
  bu ho (bj TT mixed (sn R) (keep:=true) rfl rfl rfl rfl 1 (qW R)) fun (x:bN.av fH) (y:aH.av fI) k=>sW x.1 x.2.1 k

/-! ### unicode/utf8.AppendRune -/
abbrev ga (R:Type):Type:=(List Int)→Int→((List Int)→Option R)→Option R
abbrev jh:List bN := [.leaf (.MP (.int .u8) 0), .leaf (.int .i32)]
abbrev ji:List aH := [.tok]
noncomputable def pR {R:Type} (fn:ga R):bN.av jh→aH.av ji→(V→az→Option R)→Option R:=fun x y k=>fn x.1 x.2.1 (fun q0=>k (.sl (.int .u8) q0 (.own 1)) [.dead, .tok])
noncomputable def jj (R:Type) (bw:ez R):Env R:=fun i=>match i with
  | 113=>some (false,(aA fH fI (mC bw) bg))
  | _=>none
theorem xn (R:Type):p6 Tryz.prog (jj R bw):=by
  intro i b sp h
  unfold jj at h
  split at h
  · cases h; exact ⟨(rU R _ (aO _)),fun _ h=>nomatch h⟩
  · cases h

noncomputable def qw (R:Type):Nat→Option (Hint × cr R):=fun i=>match i with
  | _=>none

noncomputable def jk {R:Type} (bw:ez R) (x1:List Int) (x2:Int) (k0:(List Int)→Option R):Option R :=
  bif (decide ((IntKind.u32.wrap x2)≤(127:Int)))then (cU (decide ((x1.length+1)*1≤140737488355328)) (k0 ((x1:List Int)++(([(IntKind.u8.wrap x2)]:List Int):List Int))))else (bw x1 x2 (fun y3=>k0 y3))
noncomputable def bP {R:Type}:ga R:=fun x1 x2 k0=>jk bw x1 x2 k0
theorem yg {R:Type} (bw:ez R) (x1:List Int) (x2:Int) (k:V→az→Option R):iP tt (jj R bw) (qw R) true Tryz.f74 (aK Tryz.f74) [.sl (.int .u8) x1 (.own 0), .int .i32 x2] [.tok] k =
    jk bw x1 x2 (fun q0=>k (.sl (.int .u8) q0 (.own 1)) [.dead, .tok]):=by kernel_rfl
theorem vV (R:Type):∀a∈aP (aK Tryz.f74),cR tt (jj R bw) (qw R) 1 a:=by
  refine bG 0 (by kernel_rfl) fun i hi => ?_
  omega
theorem wP (R:Type) (other:ay.Spec R) (ho:ay.Spec.Ok Tryz.prog 74 other):ay.Spec.Ok Tryz.prog 74 (aA jh ji (pR bP) other) :=
  bu ho (bj TT mixed (xn R) (keep:=true) rfl rfl rfl rfl 1 (vV R)) fun (x:bN.av jh) (y:aH.av ji) k=>yg bw x.1 x.2.1 k

/-! ### (*strings.Builder).WriteRune -/
abbrev bL (R:Type):Type:=Int→(List Int)→(Int→(List Int)→Option R)→Option R
abbrev fL:List bN := [.leaf (.ptr 0 0), .leaf (.int .i32)]
abbrev fM:List aH := [.kW (.MP (.int .u8) 1), .tok]
noncomputable def lj {R:Type} (fn:bL R):bN.av fL→aH.av fM→(V→az→Option R)→Option R:=fun x y k=>fn x.2.1 y.1 (fun q0 q1=>k (.tuple [.int .i64 q0, .cX]) [.kW (.sl (.int .u8) q1 (.own 2)), .dead, .tok])
noncomputable def ie (R:Type) (bP:ga R):Env R:=fun i=>match i with
  | 73=>some (false,(KM R))
  | 74=>some (false,(aA jh ji (pR bP) bg))
  | _=>none
theorem vW (R:Type):p6 Tryz.prog (ie R bP):=by
  intro i b sp h
  unfold ie at h
  split at h
  · cases h; exact ⟨(MX),fun _ h=>nomatch h⟩
  · cases h; exact ⟨(wP R _ (aO _)),fun _ h=>nomatch h⟩
  · cases h

noncomputable def pe (R:Type):Nat→Option (Hint × cr R):=fun i=>match i with
  | _=>none

noncomputable def ig {R:Type} (bP:ga R) (x1:Int) (x2:List Int) (k0:Int→(List Int)→Option R):Option R :=
  bP x2 x1 (fun y3=>k0 (IntKind.i64.wrap ((y3.length:Int) - (x2.length:Int))) y3)
noncomputable def ai {R:Type}:bL R:=fun x1 x2 k0=>ig bP x1 x2 k0
theorem wQ {R:Type} (bP:ga R) (x1:Int) (x2:List Int) (k:V→az→Option R):iP tt (ie R bP) (pe R) false Tryz.f53 (aK Tryz.f53) [.ptr 0 0, .int .i32 x1] [.kW (.sl (.int .u8) x2 (.own 1)), .tok] k =
    ig bP x1 x2 (fun q0 q1=>k (.tuple [.int .i64 q0, .cX]) [.kW (.sl (.int .u8) q1 (.own 2)), .dead, .tok]):=by kernel_rfl
theorem uC (R:Type):∀a∈aP (aK Tryz.f53),cR tt (ie R bP) (pe R) 2 a:=by
  refine bG 0 (by kernel_rfl) fun i hi => ?_
  omega
theorem oa (R:Type) (other:ay.Spec R) (ho:ay.Spec.Ok Tryz.prog 53 other):ay.Spec.Ok Tryz.prog 53 (aA fL fM (lj ai) other) :=
  bu ho (bj TT mixed (vW R) (keep:=false) rfl rfl rfl rfl 2 (uC R)) fun (x:bN.av fL) (y:aH.av fM) k=>wQ bP x.2.1 y.1 k

/-! ### humpyard/quote.Quote -/
abbrev iT (R:Type):Type:=aj→(aj→Bool→Option R)→Option R
abbrev sf:List bN := [.leaf (.str)]
abbrev si:List aH := []
noncomputable def xo {R:Type} (fn:iT R):bN.av sf→aH.av si→(V→az→Option R)→Option R:=fun x y k=>fn x.1 (fun q0 q1=>k (.tuple [.str q0, .bool q1]) [])
abbrev my (R:Type):Type:=Nat→(List Int)→aj→Nat→((List Int)→Option R)→Option R
noncomputable def pH (R:Type) (br:fE R) (ah:bC R) (ad:aW R) (dT:ox R) (af:bb R) (ai:bL R):Env R:=fun i=>match i with
  | 49=>some (true,(aA sd se (xj br) bg))
  | 50=>some (false,(aA eG eH (gZ ad) (aA eE eF (gY ah) bg)))
  | 51=>some (true,(aA zC zD (F0 dT) bg))
  | 52=>some (false,(aA dC dD (fc af) bg))
  | 53=>some (false,(aA fL fM (lj ai) bg))
  | 39=>some (false,(Eo R))
  | _=>none
theorem Lf (R:Type):p6 Tryz.prog (pH R br ah ad dT af ai):=by
  intro i b sp h
  unfold pH at h
  split at h
  · cases h; exact ⟨(yO R _ (aO _)),fun h=>nomatch h⟩
  · cases h; exact ⟨(jY R _ (jX R _ (aO _))),fun _ h=>nomatch h⟩
  · cases h; exact ⟨(Kf R _ (aO _)),fun h=>nomatch h⟩
  · cases h; exact ⟨(fY R _ (aO _)),fun _ h=>nomatch h⟩
  · cases h; exact ⟨(oa R _ (aO _)),fun _ h=>nomatch h⟩
  · cases h; exact ⟨(LJ),fun _ _=>Gz⟩
  · cases h

noncomputable def lA {R:Type} (ad:aW R) (dT:ox R) (af:bb R) (ai:bL R) (fy:(List Int)→aj→Nat→Option R) (x4:List Int) (x5:aj) (x6:Nat) (e0:(List Int)→Option R):Option R :=
  bif decide (x6<x5.length)then (dT ((mW x5 x6).1:Int) (fun y7=>bif (y7 != 0)then (ad 92 x4 (fun y8=>ad y7 y8 (fun y9=>fy y9 x5 (x6+(mW x5 x6).2))))else (bif (decide (((mW x5 x6).1:Int)<(32:Int)))then (af ([92,117,48,48]:aj) x4 (fun yJ wL=>cU (decide ((0:Int)≤(Int.fdiv ((mW x5 x6).1:Int) (2 ^ (min 4 IntKind.i32.bits))))&&decide ((Int.fdiv ((mW x5 x6).1:Int) (2 ^ (min 4 IntKind.i32.bits)))<(16:Int))) (ad ((([48,49,50,51,52,53,54,55,56,57,97,98,99,100,101,102]:aj).getD ((Int.fdiv ((mW x5 x6).1:Int) (2 ^ (min 4 IntKind.i32.bits))).toNat) 0).toNat:Int) wL (fun Aw=>cU (decide ((0:Int)≤(IntKind.i32.wrap ((BitVec.ofInt IntKind.i32.bits ((mW x5 x6).1:Int) &&& BitVec.ofInt IntKind.i32.bits 15).toNat:Int)))&&decide ((IntKind.i32.wrap ((BitVec.ofInt IntKind.i32.bits ((mW x5 x6).1:Int) &&& BitVec.ofInt IntKind.i32.bits 15).toNat:Int))<(16:Int))) (ad ((([48,49,50,51,52,53,54,55,56,57,97,98,99,100,101,102]:aj).getD ((IntKind.i32.wrap ((BitVec.ofInt IntKind.i32.bits ((mW x5 x6).1:Int) &&& BitVec.ofInt IntKind.i32.bits 15).toNat:Int)).toNat) 0).toNat:Int) Aw (fun E0=>fy E0 x5 (x6+(mW x5 x6).2)))))))else (ai ((mW x5 x6).1:Int) x4 (fun uT F1=>fy F1 x5 (x6+(mW x5 x6).2))))))else (e0 x4)
noncomputable def ck {R:Type}:my R
  | 0,_,_,_,_=>none
  | n+1,lY,lZ,mF,e0=>lA ad dT af ai (fun lY lZ mF=>ck n lY lZ mF e0) lY lZ mF e0
noncomputable def sF:Hint := { live := [4,13],own := [],rows := [],cells := [],drop := [],out := [2,3,4] }
abbrev jP:Type:=(List Int) × aj × Nat
noncomputable def qe:jP→St:=fun d=>⟨[.undef, .undef, .undef, .undef, .ptr 0 0, .undef, .undef, .undef, .undef, .undef, .undef, .undef, .undef, .ptr 1 0, .undef, .undef, .undef, .undef, .undef, .undef, .undef, .undef, .undef, .undef, .undef, .undef, .undef, .undef, .undef, .undef, .undef, .undef, .undef, .undef, .undef, .undef, .undef, .undef, .undef, .undef, .undef], [.kW (.sl (.int .u8) d.1 (.own 2)), .iter d.2.1 d.2.2, .tok]⟩
noncomputable def vX {R:Type} (K:Ex→St→Option R) (q0:List Int):Option R:=K (.exit 0) ⟨[.undef, .undef, .undef, .undef, .ptr 0 0, .undef, .undef, .undef, .undef, .undef, .undef, .undef, .undef, .undef, .undef, .undef, .undef, .undef, .undef, .undef, .undef, .undef, .undef, .undef, .undef, .undef, .undef, .undef, .undef, .undef, .undef, .undef, .undef, .undef, .undef, .undef, .undef, .undef, .undef, .undef, .undef], [.kW (.sl (.int .u8) q0 (.own 1)), .tok]⟩
noncomputable def xp {R:Type} (ad:aW R) (dT:ox R) (af:bb R) (ai:bL R) (K:Ex→St→Option R) (rc:jP→Option R) (d:jP):Option R:=lA ad dT af ai (fun z0 z1 z2=>rc (z0,z1,z2)) d.1 d.2.1 d.2.2 (vX K)
noncomputable def nv {R:Type} (K:Ex→St→Option R) (n:Nat) (d:jP):Option R:=ck n d.1 d.2.1 d.2.2 (vX K)
abbrev jQ:List bN := [.leaf (.undef), .leaf (.undef), .leaf (.undef), .leaf (.undef), .leaf (.ptr 0 0), .leaf (.undef), .leaf (.undef), .leaf (.undef), .leaf (.undef), .leaf (.undef), .leaf (.undef), .leaf (.undef), .leaf (.undef), .leaf (.ptr 1 0), .leaf (.undef), .leaf (.undef), .leaf (.undef), .leaf (.undef), .leaf (.undef), .leaf (.undef), .leaf (.undef), .leaf (.undef), .leaf (.undef), .leaf (.undef), .leaf (.undef), .leaf (.undef), .leaf (.undef), .leaf (.undef), .leaf (.undef), .leaf (.undef), .leaf (.undef), .leaf (.undef), .leaf (.undef), .leaf (.undef), .leaf (.undef), .leaf (.undef), .leaf (.undef), .leaf (.undef), .leaf (.undef), .leaf (.undef), .leaf (.undef)]
abbrev jR:List aH := [.kW (.MP (.int .u8) 2), .iter, .tok]
noncomputable def xq (x:bN.av jQ) (y:aH.av jR):Nat:=(List.length y.1+List.length y.2.1.1+64)
noncomputable def xr (x:bN.av jQ) (y:aH.av jR):jP:=(y.1,y.2.1.1,y.2.1.2)
noncomputable def vY {R:Type} (L:my R):bN.av jQ→aH.av jR→(Ex→St→Option R)→Option R:=fun x y K=>L (xq x y) y.1 y.2.1.1 y.2.1.2 (vX K)
noncomputable def u4 (R:Type) (ck:my R):Nat→Option (Hint × cr R):=fun i=>match i with
  | 6=>some (sF,(gu jQ jR (vY ck) qv))
  | _=>none

theorem F2 {R:Type} (br:fE R) (ah:bC R) (ad:aW R) (dT:ox R) (af:bb R) (ai:bL R) (ck:my R) (K:Ex→St→Option R) (rc:St→Option R) (d:jP):roundOf tt (pH R br ah ad dT af ai) (u4 R ck) 0 ((aP (aK Tryz.f26)).getD 0 .skip) sF (qe d) rc K=xp ad dT af ai K (fun d=>rc (qe d)) d:=by kernel_rfl
theorem Ey {R:Type} (K:Ex→St→Option R) (n:Nat) (d:jP):nv K (n+1) d=xp ad dT af ai K (nv K n) d:=by kernel_rfl
theorem Ez {R:Type} (K:Ex→St→Option R) (d:jP):nv K 0 d=none:=by kernel_rfl
theorem F3 (x:bN.av jQ) (y:aH.av jR):(⟨bN.cV jQ x,aH.cV jR y⟩:St)=qe (xr x y):=by kernel_rfl
theorem F4 {R:Type} (x:bN.av jQ) (y:aH.av jR) (K:Ex→St→Option R):vY (ck) x y K=nv K (xq x y) (xr x y):=by kernel_rfl
theorem HU {R:Type} (other:cr R) (ho:o3 tt (pH R br ah ad dT af ai) (u4 R ck) 0 ((aP (aK Tryz.f26)).getD 0 .skip) sF other):o3 tt (pH R br ah ad dT af ai) (u4 R ck) 0 ((aP (aK Tryz.f26)).getD 0 .skip) sF (gu jQ jR (vY (ck)) other) :=
  gN (A:=nv) ho (kB qe (xp ad dT af ai) (nv) (Ez) (F2 br ah ad dT af ai ck) (Ey)) xq xr F3 (F4)

noncomputable def sj {R:Type} (br:fE R) (ah:bC R) (ad:aW R) (ck:my R) (x1:aj) (k0:aj→Bool→Option R):Option R :=
  br x1 (fun y2=>bif (!y2)then (k0 ([]:aj) false)else (ah 34 (fun y3=>ck (List.length y3+List.length x1+64) y3 x1 0 (fun GU=>ad 34 GU (fun JE=>k0 (td JE) true)))))
noncomputable def bU {R:Type}:iT R:=fun x1 k0=>sj br ah ad ck x1 k0
theorem Nc {R:Type} (br:fE R) (ah:bC R) (ad:aW R) (dT:ox R) (af:bb R) (ai:bL R) (ck:my R) (x1:aj) (k:V→az→Option R):iP tt (pH R br ah ad dT af ai) (u4 R ck) false Tryz.f26 (aK Tryz.f26) [.str x1] [] k =
    sj br ah ad ck x1 (fun q0 q1=>k (.tuple [.str q0, .bool q1]) []):=by kernel_rfl
theorem Ja (R:Type):∀a∈aP (aK Tryz.f26),cR tt (pH R br ah ad dT af ai) (u4 R ck) 0 a:=by
  refine bG 1 (by kernel_rfl) fun i hi => ?_
  match i,hi with
  | 0,_=>exact fC (by kernel_rfl) (HU _ jc)
  | n+1,hi=>omega
theorem yP (R:Type) (other:ay.Spec R) (ho:ay.Spec.Ok Tryz.prog 26 other):ay.Spec.Ok Tryz.prog 26 (aA sf si (xo bU) other) :=
  bu ho (bj TT mixed (Lf R) (keep:=false) rfl rfl rfl rfl 0 (Ja R)) fun (x:bN.av sf) (y:aH.av si) k=>Nc br ah ad dT af ai ck x.1 k

/-! ### humpyard/json.write$1 -/
abbrev kH (R:Type):Type:=aj→((List Int)→Option R)→Option R
abbrev qf:List bN := [.leaf (.str), .leaf (.ptr 0 0)]
abbrev qg:List aH := [.cells [.ptr 1 0], .kW (.cJ)]
noncomputable def zX {R:Type} (fn:kH R):bN.av qf→aH.av qg→(V→az→Option R)→Option R:=fun x y k=>fn x.1 (fun q0=>k (.tuple []) [.cells [.ptr 1 0], .kW (.sl (.int .u8) q0 (.own 2)), .tok])
noncomputable def qh (R:Type) (bU:iT R) (ag:bE R):Env R:=fun i=>match i with
  | 26=>some (true,(aA sf si (xo bU) bg))
  | 52=>some (false,(aA ei ej (gJ ag) bg))
  | _=>none
theorem Fe (R:Type):p6 Tryz.prog (qh R bU ag):=by
  intro i b sp h
  unfold qh at h
  split at h
  · cases h; exact ⟨(yP R _ (aO _)),fun h=>nomatch h⟩
  · cases h; exact ⟨(jg R _ (aO _)),fun _ h=>nomatch h⟩
  · cases h

noncomputable def AR (R:Type):Nat→Option (Hint × cr R):=fun i=>match i with
  | _=>none

noncomputable def AS {R:Type} (bU:iT R) (ag:bE R) (x1:aj) (k0:(List Int)→Option R):Option R :=
  bU x1 (fun y2 y3=>ag y2 (fun y4 y5=>k0 y5))
noncomputable def dh {R:Type}:kH R:=fun x1 k0=>AS bU ag x1 k0
theorem F5 {R:Type} (bU:iT R) (ag:bE R) (x1:aj) (k:V→az→Option R):iP tt (qh R bU ag) (AR R) false Tryz.f61 (aK Tryz.f61) [.str x1, .ptr 0 0] [.cells [.ptr 1 0], .kW (.cJ)] k =
    AS bU ag x1 (fun q0=>k (.tuple []) [.cells [.ptr 1 0], .kW (.sl (.int .u8) q0 (.own 2)), .tok]):=by kernel_rfl
theorem DL (R:Type):∀a∈aP (aK Tryz.f61),cR tt (qh R bU ag) (AR R) 2 a:=by
  refine bG 0 (by kernel_rfl) fun i hi => ?_
  omega
theorem EA (R:Type) (other:ay.Spec R) (ho:ay.Spec.Ok Tryz.prog 61 other):ay.Spec.Ok Tryz.prog 61 (aA qf qg (zX dh) other) :=
  bu ho (bj TT mixed (Fe R) (keep:=false) rfl rfl rfl rfl 2 (DL R)) fun (x:bN.av qf) (y:aH.av qg) k=>F5 bU ag x.1 k

/-! ### humpyard/json.write$1 -/
abbrev dH (R:Type):Type:=aj→(List Int)→((List Int)→Option R)→Option R
abbrev nR:List bN := [.leaf (.str), .leaf (.ptr 0 0)]
abbrev nS:List aH := [.cells [.ptr 1 0], .kW (.MP (.int .u8) 2), .tok]
noncomputable def tp {R:Type} (fn:dH R):bN.av nR→aH.av nS→(V→az→Option R)→Option R:=fun x y k=>fn x.1 y.2.1 (fun q0=>k (.tuple []) [.cells [.ptr 1 0], .kW (.sl (.int .u8) q0 (.own 3)), .dead, .tok])
noncomputable def qi (R:Type) (bU:iT R) (af:bb R):Env R:=fun i=>match i with
  | 26=>some (true,(aA sf si (xo bU) bg))
  | 52=>some (false,(aA dC dD (fc af) bg))
  | _=>none
theorem Ff (R:Type):p6 Tryz.prog (qi R bU af):=by
  intro i b sp h
  unfold qi at h
  split at h
  · cases h; exact ⟨(yP R _ (aO _)),fun h=>nomatch h⟩
  · cases h; exact ⟨(fY R _ (aO _)),fun _ h=>nomatch h⟩
  · cases h

noncomputable def AT (R:Type):Nat→Option (Hint × cr R):=fun i=>match i with
  | _=>none

noncomputable def AU {R:Type} (bU:iT R) (af:bb R) (x1:aj) (x2:List Int) (k0:(List Int)→Option R):Option R :=
  bU x1 (fun y3 y4=>af y3 x2 (fun y5 y6=>k0 y6))
noncomputable def aG {R:Type}:dH R:=fun x1 x2 k0=>AU bU af x1 x2 k0
theorem F6 {R:Type} (bU:iT R) (af:bb R) (x1:aj) (x2:List Int) (k:V→az→Option R):iP tt (qi R bU af) (AT R) false Tryz.f61 (aK Tryz.f61) [.str x1, .ptr 0 0] [.cells [.ptr 1 0], .kW (.sl (.int .u8) x2 (.own 2)), .tok] k =
    AU bU af x1 x2 (fun q0=>k (.tuple []) [.cells [.ptr 1 0], .kW (.sl (.int .u8) q0 (.own 3)), .dead, .tok]):=by kernel_rfl
theorem DM (R:Type):∀a∈aP (aK Tryz.f61),cR tt (qi R bU af) (AT R) 3 a:=by
  refine bG 0 (by kernel_rfl) fun i hi => ?_
  omega
theorem xu (R:Type) (other:ay.Spec R) (ho:ay.Spec.Ok Tryz.prog 61 other):ay.Spec.Ok Tryz.prog 61 (aA nR nS (tp aG) other) :=
  bu ho (bj TT mixed (Ff R) (keep:=false) rfl rfl rfl rfl 3 (DM R)) fun (x:bN.av nR) (y:aH.av nS) k=>F6 bU af x.1 y.2.1 k

end Go.Proofs.YtmlkkgfenfdndaaGreatDoor

/-
  Functions of the program as pure Lean functions, and the ties; printed by wip/tools/emit.py.
-/
set_option maxRecDepth 100000
namespace Go.Proofs.YtmlkkgfenfdndaaGreatDoor
open Go Go.ay

/-! ### humpyard/json.write -/
abbrev bJ (R:Type):Type:=Json→(List Int)→((List Int)→Option R)→Option R
abbrev ij:List bN := [.leaf (.ptr 0 0), .agg [.int .i64, .int .i64, .int .i64, .str, .sl .str, .sl .json]]
abbrev im:List aH := [.kW (.MP (.int .u8) 1), .tok]
noncomputable def fi {R:Type} (fn:bJ R):bN.av ij→aH.av im→(V→az→Option R)→Option R:=fun x y k=>fn (⟨x.2.1.1,⟨x.2.1.2.1,x.2.1.2.2.1⟩,x.2.1.2.2.2.1,x.2.1.2.2.2.2.1,x.2.1.2.2.2.2.2.1⟩:Json) y.1 (fun q0=>k (.tuple []) [.kW (.sl (.int .u8) q0 (.own 2)), .dead, .tok])
abbrev iG (R:Type):Type:=Nat→aj→(List Json)→Int→Int→(List Int)→Json→(aj→(List Int)→Option R)→Option R
noncomputable def lB (R:Type) (bc:fe R) (ad:aW R) (af:bb R) (au:bJ R) (aG:dH R):Env R:=fun i=>match i with
  | 46=>some (true,(aA oV oW (tV bc) bg))
  | 50=>some (false,(aA eG eH (gZ ad) bg))
  | 52=>some (false,(aA dC dD (fc af) bg))
  | 38=>some (false,(aA ij im (fi au) bg))
  | 61=>some (false,(aA nR nS (tp aG) bg))
  | _=>none
theorem GV (R:Type) (au:bJ R) (uD:ay.Spec.Ok Tryz.prog 38 (aA ij im (fi au) bg)):p6 Tryz.prog (lB R bc ad af au aG):=by
  intro i b sp h
  unfold lB at h
  split at h
  · cases h; exact ⟨(vT R _ (aO _)),fun h=>nomatch h⟩
  · cases h; exact ⟨(jY R _ (aO _)),fun _ h=>nomatch h⟩
  · cases h; exact ⟨(fY R _ (aO _)),fun _ h=>nomatch h⟩
  · cases h; exact ⟨uD,fun _ h=>nomatch h⟩
  · cases h; exact ⟨(xu R _ (aO _)),fun _ h=>nomatch h⟩
  · cases h

noncomputable def jl {R:Type} (ad:aW R) (au:bJ R) (aG:dH R) (fy:aj→(List Json)→Int→Int→(List Int)→Json→Option R) (pX:aj) (tG:List Json) (nj:Int) (tH:Int) (C1:List Int) (AV:Json) (e0:aj→(List Int)→Option R):Option R :=
  bif (decide (tH<nj))then (cU (decide ((0:Int)≤tH)&&decide (tH<tG.length)) (bif (decide (tH>(0:Int)))then (ad 44 C1 (fun Cp=>bif (AV.kind==7)then (cU (decide ((0:Int)≤tH)&&decide (tH<AV.names.length)) (aG (AV.names.getD tH.toNat (Ty.cn .str)) Cp (fun Sg=>ad 58 Sg (fun QI=>au (⟨(tG.getD tH.toNat (Ty.cn .json)).kind,⟨(tG.getD tH.toNat (Ty.cn .json)).num.aB,(tG.getD tH.toNat (Ty.cn .json)).num.exp⟩,(tG.getD tH.toNat (Ty.cn .json)).text,(tG.getD tH.toNat (Ty.cn .json)).names,(tG.getD tH.toNat (Ty.cn .json)).items⟩:Json) QI (fun y24=>fy pX tG nj (IntKind.i64.wrap (tH+1)) y24 (⟨AV.kind,⟨AV.num.aB,AV.num.exp⟩,AV.text,AV.names,AV.items⟩:Json))))))else (au (⟨(tG.getD tH.toNat (Ty.cn .json)).kind,⟨(tG.getD tH.toNat (Ty.cn .json)).num.aB,(tG.getD tH.toNat (Ty.cn .json)).num.exp⟩,(tG.getD tH.toNat (Ty.cn .json)).text,(tG.getD tH.toNat (Ty.cn .json)).names,(tG.getD tH.toNat (Ty.cn .json)).items⟩:Json) Cp (fun GB=>fy pX tG nj (IntKind.i64.wrap (tH+1)) GB (⟨AV.kind,⟨AV.num.aB,AV.num.exp⟩,AV.text,AV.names,AV.items⟩:Json)))))else (bif (AV.kind==7)then (cU (decide ((0:Int)≤tH)&&decide (tH<AV.names.length)) (aG (AV.names.getD tH.toNat (Ty.cn .str)) C1 (fun Jb=>ad 58 Jb (fun Jc=>au (⟨(tG.getD tH.toNat (Ty.cn .json)).kind,⟨(tG.getD tH.toNat (Ty.cn .json)).num.aB,(tG.getD tH.toNat (Ty.cn .json)).num.exp⟩,(tG.getD tH.toNat (Ty.cn .json)).text,(tG.getD tH.toNat (Ty.cn .json)).names,(tG.getD tH.toNat (Ty.cn .json)).items⟩:Json) Jc (fun JF=>fy pX tG nj (IntKind.i64.wrap (tH+1)) JF (⟨AV.kind,⟨AV.num.aB,AV.num.exp⟩,AV.text,AV.names,AV.items⟩:Json))))))else (au (⟨(tG.getD tH.toNat (Ty.cn .json)).kind,⟨(tG.getD tH.toNat (Ty.cn .json)).num.aB,(tG.getD tH.toNat (Ty.cn .json)).num.exp⟩,(tG.getD tH.toNat (Ty.cn .json)).text,(tG.getD tH.toNat (Ty.cn .json)).names,(tG.getD tH.toNat (Ty.cn .json)).items⟩:Json) C1 (fun OH=>fy pX tG nj (IntKind.i64.wrap (tH+1)) OH (⟨AV.kind,⟨AV.num.aB,AV.num.exp⟩,AV.text,AV.names,AV.items⟩:Json))))))else (e0 pX C1)
noncomputable def aU {R:Type} (au:bJ R):iG R
  | 0,_,_,_,_,_,_,_=>none
  | n+1,lY,lZ,mF,tQ,EB,EC,e0=>jl ad au aG (fun lY lZ mF tQ EB EC=>aU au n lY lZ mF tQ EB EC e0) lY lZ mF tQ EB EC e0
noncomputable def nW:Hint := { live := [2,3,4,5,43,44,45],own := [],rows := [],cells := [],drop := [],out := [2,5] }
abbrev fN:Type:=aj × (List Json) × Int × Int × (List Int) × Json
noncomputable def mG:fN→St:=fun d=>⟨[.undef, .undef, .ptr 2 0, .ptr 3 0, .func 61 [] [.ptr 2 0], .str d.1, .undef, .undef, .undef, .undef, .undef, .undef, .undef, .undef, .undef, .undef, .undef, .undef, .undef, .undef, .undef, .undef, .undef, .undef, .undef, .undef, .undef, .undef, .undef, .undef, .undef, .undef, .undef, .undef, .undef, .undef, .undef, .undef, .undef, .undef, .undef, .undef, .undef, .sl .json d.2.1 .no, .int .i64 d.2.2.1, .int .i64 d.2.2.2.1, .undef, .undef, .undef, .undef, .undef, .undef, .undef, .undef, .undef, .undef, .undef, .undef, .undef, .undef, .undef, .undef, .undef, .undef, .undef, .undef, .undef, .undef, .undef, .undef, .undef, .undef, .undef, .undef], [.kW (.sl (.int .u8) d.2.2.2.2.1 (.own 4)), .dead, .cells [.ptr 0 0], .cells [.int .i64 d.2.2.2.2.2.kind, .int .i64 d.2.2.2.2.2.num.aB, .int .i64 d.2.2.2.2.2.num.exp, .str d.2.2.2.2.2.text, .sl .str d.2.2.2.2.2.names .no, .sl .json d.2.2.2.2.2.items .no], .tok]⟩
noncomputable def qx {R:Type} (K:Ex→St→Option R) (q0:aj) (q1:List Int):Option R:=K (.exit 1) ⟨[.undef, .undef, .ptr 2 0, .undef, .undef, .str q0, .undef, .undef, .undef, .undef, .undef, .undef, .undef, .undef, .undef, .undef, .undef, .undef, .undef, .undef, .undef, .undef, .undef, .undef, .undef, .undef, .undef, .undef, .undef, .undef, .undef, .undef, .undef, .undef, .undef, .undef, .undef, .undef, .undef, .undef, .undef, .undef, .undef, .undef, .undef, .undef, .undef, .undef, .undef, .undef, .undef, .undef, .undef, .undef, .undef, .undef, .undef, .undef, .undef, .undef, .undef, .undef, .undef, .undef, .undef, .undef, .undef, .undef, .undef, .undef, .undef, .undef, .undef, .undef], [.kW (.sl (.int .u8) q1 (.own 3)), .dead, .cells [.ptr 0 0], .tok]⟩
noncomputable def qX {R:Type} (ad:aW R) (au:bJ R) (aG:dH R) (K:Ex→St→Option R) (rc:fN→Option R) (d:fN):Option R:=jl ad au aG (fun z0 z1 z2 z3 z4 z5=>rc (z0,z1,z2,z3,z4,z5)) d.1 d.2.1 d.2.2.1 d.2.2.2.1 d.2.2.2.2.1 d.2.2.2.2.2 (qx K)
noncomputable def jm {R:Type} (au:bJ R) (K:Ex→St→Option R) (n:Nat) (d:fN):Option R:=aU au n d.1 d.2.1 d.2.2.1 d.2.2.2.1 d.2.2.2.2.1 d.2.2.2.2.2 (qx K)
abbrev fO:List bN := [.leaf (.undef), .leaf (.undef), .leaf (.ptr 2 0), .leaf (.ptr 3 0), .func 61 [] [.ptr 2 0], .leaf (.str), .leaf (.undef), .leaf (.undef), .leaf (.undef), .leaf (.undef), .leaf (.undef), .leaf (.undef), .leaf (.undef), .leaf (.undef), .leaf (.undef), .leaf (.undef), .leaf (.undef), .leaf (.undef), .leaf (.undef), .leaf (.undef), .leaf (.undef), .leaf (.undef), .leaf (.undef), .leaf (.undef), .leaf (.undef), .leaf (.undef), .leaf (.undef), .leaf (.undef), .leaf (.undef), .leaf (.undef), .leaf (.undef), .leaf (.undef), .leaf (.undef), .leaf (.undef), .leaf (.undef), .leaf (.undef), .leaf (.undef), .leaf (.undef), .leaf (.undef), .leaf (.undef), .leaf (.undef), .leaf (.undef), .leaf (.undef), .leaf (.sl .json), .leaf (.int .i64), .leaf (.int .i64), .leaf (.undef), .leaf (.undef), .leaf (.undef), .leaf (.undef), .leaf (.undef), .leaf (.undef), .leaf (.undef), .leaf (.undef), .leaf (.undef), .leaf (.undef), .leaf (.undef), .leaf (.undef), .leaf (.undef), .leaf (.undef), .leaf (.undef), .leaf (.undef), .leaf (.undef), .leaf (.undef), .leaf (.undef), .leaf (.undef), .leaf (.undef), .leaf (.undef), .leaf (.undef), .leaf (.undef), .leaf (.undef), .leaf (.undef), .leaf (.undef), .leaf (.undef)]
abbrev fP:List aH := [.kW (.MP (.int .u8) 4), .dead, .cells [.ptr 0 0], .cells [.int .i64, .int .i64, .int .i64, .str, .sl .str, .sl .json], .tok]
noncomputable def qY (x:bN.av fO) (y:aH.av fP):Nat:=(List.length x.2.2.2.2.2.1+List.length x.2.2.2.2.2.2.2.2.2.2.2.2.2.2.2.2.2.2.2.2.2.2.2.2.2.2.2.2.2.2.2.2.2.2.2.2.2.2.2.2.2.2.2.1+Int.natAbs x.2.2.2.2.2.2.2.2.2.2.2.2.2.2.2.2.2.2.2.2.2.2.2.2.2.2.2.2.2.2.2.2.2.2.2.2.2.2.2.2.2.2.2.2.1+Int.natAbs x.2.2.2.2.2.2.2.2.2.2.2.2.2.2.2.2.2.2.2.2.2.2.2.2.2.2.2.2.2.2.2.2.2.2.2.2.2.2.2.2.2.2.2.2.2.1+List.length y.1+Json.fu (⟨y.2.2.2.1.1,⟨y.2.2.2.1.2.1,y.2.2.2.1.2.2.1⟩,y.2.2.2.1.2.2.2.1,y.2.2.2.1.2.2.2.2.1,y.2.2.2.1.2.2.2.2.2.1⟩:Json)+64)
noncomputable def qZ (x:bN.av fO) (y:aH.av fP):fN:=(x.2.2.2.2.2.1,x.2.2.2.2.2.2.2.2.2.2.2.2.2.2.2.2.2.2.2.2.2.2.2.2.2.2.2.2.2.2.2.2.2.2.2.2.2.2.2.2.2.2.2.1,x.2.2.2.2.2.2.2.2.2.2.2.2.2.2.2.2.2.2.2.2.2.2.2.2.2.2.2.2.2.2.2.2.2.2.2.2.2.2.2.2.2.2.2.2.1,x.2.2.2.2.2.2.2.2.2.2.2.2.2.2.2.2.2.2.2.2.2.2.2.2.2.2.2.2.2.2.2.2.2.2.2.2.2.2.2.2.2.2.2.2.2.1,y.1,(⟨y.2.2.2.1.1,⟨y.2.2.2.1.2.1,y.2.2.2.1.2.2.1⟩,y.2.2.2.1.2.2.2.1,y.2.2.2.1.2.2.2.2.1,y.2.2.2.1.2.2.2.2.2.1⟩:Json))
noncomputable def qy {R:Type} (L:iG R):bN.av fO→aH.av fP→(Ex→St→Option R)→Option R:=fun x y K=>L (qY x y) x.2.2.2.2.2.1 x.2.2.2.2.2.2.2.2.2.2.2.2.2.2.2.2.2.2.2.2.2.2.2.2.2.2.2.2.2.2.2.2.2.2.2.2.2.2.2.2.2.2.2.1 x.2.2.2.2.2.2.2.2.2.2.2.2.2.2.2.2.2.2.2.2.2.2.2.2.2.2.2.2.2.2.2.2.2.2.2.2.2.2.2.2.2.2.2.2.1 x.2.2.2.2.2.2.2.2.2.2.2.2.2.2.2.2.2.2.2.2.2.2.2.2.2.2.2.2.2.2.2.2.2.2.2.2.2.2.2.2.2.2.2.2.2.1 y.1 (⟨y.2.2.2.1.1,⟨y.2.2.2.1.2.1,y.2.2.2.1.2.2.1⟩,y.2.2.2.1.2.2.2.1,y.2.2.2.1.2.2.2.2.1,y.2.2.2.1.2.2.2.2.2.1⟩:Json) (qx K)
noncomputable def pg (R:Type) (aU:iG R):Nat→Option (Hint × cr R):=fun i=>match i with
  | 18=>some (nW,(gu fO fP (qy aU) qv))
  | _=>none

theorem Cv {R:Type} (bc:fe R) (ad:aW R) (af:bb R) (au:bJ R) (aG:dH R) (aU:iG R) (K:Ex→St→Option R) (rc:St→Option R) (d:fN):roundOf tt (lB R bc ad af au aG) (pg R aU) 2 ((aP (aK Tryz.f38)).getD 0 .skip) nW (mG d) rc K=qX ad au aG K (fun d=>rc (mG d)) d:=by kernel_rfl
theorem Bf {R:Type} (au:bJ R) (K:Ex→St→Option R) (n:Nat) (d:fN):jm au K (n+1) d=qX ad au aG K (jm au K n) d:=by kernel_rfl
theorem Bg {R:Type} (au:bJ R) (K:Ex→St→Option R) (d:fN):jm au K 0 d=none:=by kernel_rfl
theorem Cw (x:bN.av fO) (y:aH.av fP):(⟨bN.cV fO x,aH.cV fP y⟩:St)=mG (qZ x y):=by kernel_rfl
theorem Cx {R:Type} (au:bJ R) (x:bN.av fO) (y:aH.av fP) (K:Ex→St→Option R):qy (aU au) x y K=jm au K (qY x y) (qZ x y):=by kernel_rfl
theorem DN {R:Type} (au:bJ R) (other:cr R) (ho:o3 tt (lB R bc ad af au aG) (pg R (aU au)) 2 ((aP (aK Tryz.f38)).getD 0 .skip) nW other):o3 tt (lB R bc ad af au aG) (pg R (aU au)) 2 ((aP (aK Tryz.f38)).getD 0 .skip) nW (gu fO fP (qy (aU au)) other) :=
  gN (A:=jm au) ho (kB mG (qX ad au aG) (jm au) (Bg au) (Cv bc ad af au aG (aU au)) (Bf au)) qY qZ Cw (Cx au)

noncomputable def xw {R:Type} (bc:fe R) (ad:aW R) (af:bb R) (aG:dH R) (aU:iG R) (x1:Json) (x2:List Int) (k0:(List Int)→Option R):Option R :=
  let j33:=fun (Se:aj)=>cU (decide ((0:Int)<Se.length)) (ad ((Se.getD 0 0).toNat:Int) x2 (fun uT=>aU (List.length Se+List.length x1.items+Int.natAbs (x1.items.length:Int)+Int.natAbs 0+List.length uT+Json.fu (⟨x1.kind,⟨x1.num.aB,x1.num.exp⟩,x1.text,x1.names,x1.items⟩:Json)+64) Se x1.items (x1.items.length:Int) 0 uT (⟨x1.kind,⟨x1.num.aB,x1.num.exp⟩,x1.text,x1.names,x1.items⟩:Json) (fun Ob QJ=>cU (decide ((1:Int)<Ob.length)) (ad ((Ob.getD 1 0).toNat:Int) QJ (fun Oc=>k0 Oc))))); bif (x1.kind==1)then (af ([110,117,108,108]:aj) x2 (fun y3 y4=>k0 y4))else (bif (x1.kind==2)then (af ([102,97,108,115,101]:aj) x2 (fun y5 y6=>k0 y6))else (bif (x1.kind==3)then (af ([116,114,117,101]:aj) x2 (fun y7 y8=>k0 y8))else (bif (x1.kind==4)then (bc x1.num (fun y9=>af y9 x2 (fun yJ wL=>k0 wL)))else (bif (x1.kind==5)then (aG x1.text x2 (fun Aw=>k0 Aw))else (bif (x1.kind==7)then (j33 ([123,125]:aj))else (j33 ([91,93]:aj)))))))
noncomputable def xx {R:Type} (au:bJ R):bJ R:=fun x1 x2 k0=>xw bc ad af aG (aU au) x1 x2 k0
theorem HV {R:Type} (bc:fe R) (ad:aW R) (af:bb R) (au:bJ R) (aG:dH R) (aU:iG R) (x1:Json) (x2:List Int) (k:V→az→Option R):iP tt (lB R bc ad af au aG) (pg R aU) false Tryz.f38 (aK Tryz.f38) [.ptr 0 0, .agg [.int .i64 x1.kind, .int .i64 x1.num.aB, .int .i64 x1.num.exp, .str x1.text, .sl .str x1.names .no, .sl .json x1.items .no]] [.kW (.sl (.int .u8) x2 (.own 1)), .tok] k =
    xw bc ad af aG aU x1 x2 (fun q0=>k (.tuple []) [.kW (.sl (.int .u8) q0 (.own 2)), .dead, .tok]):=by kernel_rfl
theorem Fg (R:Type) (au:bJ R):∀a∈aP (aK Tryz.f38),cR tt (lB R bc ad af au aG) (pg R (aU au)) 2 a:=by
  refine bG 1 (by kernel_rfl) fun i hi => ?_
  match i,hi with
  | 0,_=>exact fC (by kernel_rfl) (DN au _ jc)
  | n+1,hi=>omega
theorem Fh (R:Type) (au:bJ R) (uD:ay.Spec.Ok Tryz.prog 38 (aA ij im (fi au) bg)) (other:ay.Spec R) (ho:ay.Spec.Ok Tryz.prog 38 other):ay.Spec.Ok Tryz.prog 38 (aA ij im (fi (xx au)) other) :=
  bu ho (bj TT mixed (GV R au uD) (keep:=false) rfl rfl rfl rfl 2 (Fg R au)) fun (x:bN.av ij) (y:aH.av im) k=>HV bc ad af au aG (aU au) (⟨x.2.1.1,⟨x.2.1.2.1,x.2.1.2.2.1⟩,x.2.1.2.2.2.1,x.2.1.2.2.2.2.1,x.2.1.2.2.2.2.2.1⟩:Json) y.1 k
noncomputable def dE {R:Type}:Nat→bJ R
  | 0,_,_,_=>none
  | n+1,lY,lZ,k0'=>xx (dE n) lY lZ k0'
theorem QK {R:Type} (n:Nat):dE (R:=R) (n+1)=xx (dE n):=by kernel_rfl
theorem F7 (R:Type):∀n,ay.Spec.Ok Tryz.prog 38 (aA ij im (fi (dE (R:=R) n)) bg) :=
  wB (run:=fun n=>fi (dE (R:=R) n)) (fun x y k=>by kernel_rfl) fun n hyp=>Fh R (dE n) hyp bg (aO _)
noncomputable def bF {R:Type}:bJ R:=fun x1 x2 k0=>dE (Json.depth x1+2) x1 x2 k0
theorem F8 (R:Type):fi (R:=R) bF=fun x y k=>fi (dE (Json.depth (⟨x.2.1.1,⟨x.2.1.2.1,x.2.1.2.2.1⟩,x.2.1.2.2.2.1,x.2.1.2.2.2.2.1,x.2.1.2.2.2.2.2.1⟩:Json)+2)) x y k:=by kernel_rfl
theorem F9 (R:Type) (other:ay.Spec R) (ho:ay.Spec.Ok Tryz.prog 38 other):ay.Spec.Ok Tryz.prog 38 (aA ij im (fi bF) other) :=
  B3 (DI (run:=fun n=>fi (dE (R:=R) n)) (fun x y=>(Json.depth (⟨x.2.1.1,⟨x.2.1.2.1,x.2.1.2.2.1⟩,x.2.1.2.2.2.1,x.2.1.2.2.2.2.1,x.2.1.2.2.2.2.2.1⟩:Json)+2)) ho (F7 R)) (F8 R)

end Go.Proofs.YtmlkkgfenfdndaaGreatDoor

/-
  Functions of the program as pure Lean functions, and the ties; printed by wip/tools/emit.py.
-/
set_option maxRecDepth 100000
namespace Go.Proofs.YtmlkkgfenfdndaaGreatDoor
open Go Go.ay

/-! ### humpyard/json.write -/
abbrev oy (R:Type):Type:=Json→((List Int)→Option R)→Option R
abbrev sG:List bN := [.leaf (.ptr 0 0), .agg [.int .i64, .int .i64, .int .i64, .str, .sl .str, .sl .json]]
abbrev sH:List aH := [.kW (.cJ)]
noncomputable def B5 {R:Type} (fn:oy R):bN.av sG→aH.av sH→(V→az→Option R)→Option R:=fun x y k=>fn (⟨x.2.1.1,⟨x.2.1.2.1,x.2.1.2.2.1⟩,x.2.1.2.2.2.1,x.2.1.2.2.2.2.1,x.2.1.2.2.2.2.2.1⟩:Json) (fun q0=>k (.tuple []) [.kW (.sl (.int .u8) q0 (.own 1)), .tok])
abbrev iH (R:Type):Type:=Nat→aj→(List Json)→Int→Int→(List Int)→Json→(aj→(List Int)→Option R)→Option R
noncomputable def lC (R:Type) (bc:fe R) (ah:bC R) (ad:aW R) (ag:bE R) (bF:bJ R) (dh:kH R) (aG:dH R):Env R:=fun i=>match i with
  | 46=>some (true,(aA oV oW (tV bc) bg))
  | 50=>some (false,(aA eG eH (gZ ad) (aA eE eF (gY ah) bg)))
  | 52=>some (false,(aA ei ej (gJ ag) bg))
  | 38=>some (false,(aA ij im (fi bF) bg))
  | 61=>some (false,(aA nR nS (tp aG) (aA qf qg (zX dh) bg)))
  | _=>none
theorem GW (R:Type):p6 Tryz.prog (lC R bc ah ad ag bF dh aG):=by
  intro i b sp h
  unfold lC at h
  split at h
  · cases h; exact ⟨(vT R _ (aO _)),fun h=>nomatch h⟩
  · cases h; exact ⟨(jY R _ (jX R _ (aO _))),fun _ h=>nomatch h⟩
  · cases h; exact ⟨(jg R _ (aO _)),fun _ h=>nomatch h⟩
  · cases h; exact ⟨(F9 R _ (aO _)),fun _ h=>nomatch h⟩
  · cases h; exact ⟨(xu R _ (EA R _ (aO _))),fun _ h=>nomatch h⟩
  · cases h

noncomputable def xy {R:Type} (ad:aW R) (bF:bJ R) (aG:dH R) (fy:aj→(List Json)→Int→Int→(List Int)→Json→Option R) (Vt:aj) (pX:List Json) (tG:Int) (nj:Int) (tH:List Int) (C1:Json) (e0:aj→(List Int)→Option R):Option R :=
  bif (decide (nj<tG))then (cU (decide ((0:Int)≤nj)&&decide (nj<pX.length)) (bif (decide (nj>(0:Int)))then (ad 44 tH (fun LK=>bif (C1.kind==7)then (cU (decide ((0:Int)≤nj)&&decide (nj<C1.names.length)) (aG (C1.names.getD nj.toNat (Ty.cn .str)) LK (fun Cp=>ad 58 Cp (fun Sg=>bF (⟨(pX.getD nj.toNat (Ty.cn .json)).kind,⟨(pX.getD nj.toNat (Ty.cn .json)).num.aB,(pX.getD nj.toNat (Ty.cn .json)).num.exp⟩,(pX.getD nj.toNat (Ty.cn .json)).text,(pX.getD nj.toNat (Ty.cn .json)).names,(pX.getD nj.toNat (Ty.cn .json)).items⟩:Json) Sg (fun QI=>fy Vt pX tG (IntKind.i64.wrap (nj+1)) QI (⟨C1.kind,⟨C1.num.aB,C1.num.exp⟩,C1.text,C1.names,C1.items⟩:Json))))))else (bF (⟨(pX.getD nj.toNat (Ty.cn .json)).kind,⟨(pX.getD nj.toNat (Ty.cn .json)).num.aB,(pX.getD nj.toNat (Ty.cn .json)).num.exp⟩,(pX.getD nj.toNat (Ty.cn .json)).text,(pX.getD nj.toNat (Ty.cn .json)).names,(pX.getD nj.toNat (Ty.cn .json)).items⟩:Json) LK (fun y24=>fy Vt pX tG (IntKind.i64.wrap (nj+1)) y24 (⟨C1.kind,⟨C1.num.aB,C1.num.exp⟩,C1.text,C1.names,C1.items⟩:Json)))))else (bif (C1.kind==7)then (cU (decide ((0:Int)≤nj)&&decide (nj<C1.names.length)) (aG (C1.names.getD nj.toNat (Ty.cn .str)) tH (fun GB=>ad 58 GB (fun Jb=>bF (⟨(pX.getD nj.toNat (Ty.cn .json)).kind,⟨(pX.getD nj.toNat (Ty.cn .json)).num.aB,(pX.getD nj.toNat (Ty.cn .json)).num.exp⟩,(pX.getD nj.toNat (Ty.cn .json)).text,(pX.getD nj.toNat (Ty.cn .json)).names,(pX.getD nj.toNat (Ty.cn .json)).items⟩:Json) Jb (fun Jc=>fy Vt pX tG (IntKind.i64.wrap (nj+1)) Jc (⟨C1.kind,⟨C1.num.aB,C1.num.exp⟩,C1.text,C1.names,C1.items⟩:Json))))))else (bF (⟨(pX.getD nj.toNat (Ty.cn .json)).kind,⟨(pX.getD nj.toNat (Ty.cn .json)).num.aB,(pX.getD nj.toNat (Ty.cn .json)).num.exp⟩,(pX.getD nj.toNat (Ty.cn .json)).text,(pX.getD nj.toNat (Ty.cn .json)).names,(pX.getD nj.toNat (Ty.cn .json)).items⟩:Json) tH (fun JF=>fy Vt pX tG (IntKind.i64.wrap (nj+1)) JF (⟨C1.kind,⟨C1.num.aB,C1.num.exp⟩,C1.text,C1.names,C1.items⟩:Json))))))else (e0 Vt tH)
noncomputable def bl {R:Type}:iH R
  | 0,_,_,_,_,_,_,_=>none
  | n+1,lY,lZ,mF,tQ,EB,EC,e0=>xy ad bF aG (fun lY lZ mF tQ EB EC=>bl n lY lZ mF tQ EB EC e0) lY lZ mF tQ EB EC e0
noncomputable def nX:Hint := { live := [2,3,4,5,43,44,45],own := [],rows := [],cells := [],drop := [],out := [2,5] }
abbrev fQ:Type:=aj × (List Json) × Int × Int × (List Int) × Json
noncomputable def mH:fQ→St:=fun d=>⟨[.undef, .undef, .ptr 1 0, .ptr 2 0, .func 61 [] [.ptr 1 0], .str d.1, .undef, .undef, .undef, .undef, .undef, .undef, .undef, .undef, .undef, .undef, .undef, .undef, .undef, .undef, .undef, .undef, .undef, .undef, .undef, .undef, .undef, .undef, .undef, .undef, .undef, .undef, .undef, .undef, .undef, .undef, .undef, .undef, .undef, .undef, .undef, .undef, .undef, .sl .json d.2.1 .no, .int .i64 d.2.2.1, .int .i64 d.2.2.2.1, .undef, .undef, .undef, .undef, .undef, .undef, .undef, .undef, .undef, .undef, .undef, .undef, .undef, .undef, .undef, .undef, .undef, .undef, .undef, .undef, .undef, .undef, .undef, .undef, .undef, .undef, .undef, .undef], [.kW (.sl (.int .u8) d.2.2.2.2.1 (.own 3)), .cells [.ptr 0 0], .cells [.int .i64 d.2.2.2.2.2.kind, .int .i64 d.2.2.2.2.2.num.aB, .int .i64 d.2.2.2.2.2.num.exp, .str d.2.2.2.2.2.text, .sl .str d.2.2.2.2.2.names .no, .sl .json d.2.2.2.2.2.items .no], .tok]⟩
noncomputable def qz {R:Type} (K:Ex→St→Option R) (q0:aj) (q1:List Int):Option R:=K (.exit 1) ⟨[.undef, .undef, .ptr 1 0, .undef, .undef, .str q0, .undef, .undef, .undef, .undef, .undef, .undef, .undef, .undef, .undef, .undef, .undef, .undef, .undef, .undef, .undef, .undef, .undef, .undef, .undef, .undef, .undef, .undef, .undef, .undef, .undef, .undef, .undef, .undef, .undef, .undef, .undef, .undef, .undef, .undef, .undef, .undef, .undef, .undef, .undef, .undef, .undef, .undef, .undef, .undef, .undef, .undef, .undef, .undef, .undef, .undef, .undef, .undef, .undef, .undef, .undef, .undef, .undef, .undef, .undef, .undef, .undef, .undef, .undef, .undef, .undef, .undef, .undef, .undef], [.kW (.sl (.int .u8) q1 (.own 2)), .cells [.ptr 0 0], .tok]⟩
noncomputable def rh {R:Type} (ad:aW R) (bF:bJ R) (aG:dH R) (K:Ex→St→Option R) (rc:fQ→Option R) (d:fQ):Option R:=xy ad bF aG (fun z0 z1 z2 z3 z4 z5=>rc (z0,z1,z2,z3,z4,z5)) d.1 d.2.1 d.2.2.1 d.2.2.2.1 d.2.2.2.2.1 d.2.2.2.2.2 (qz K)
noncomputable def jn {R:Type} (K:Ex→St→Option R) (n:Nat) (d:fQ):Option R:=bl n d.1 d.2.1 d.2.2.1 d.2.2.2.1 d.2.2.2.2.1 d.2.2.2.2.2 (qz K)
abbrev fR:List bN := [.leaf (.undef), .leaf (.undef), .leaf (.ptr 1 0), .leaf (.ptr 2 0), .func 61 [] [.ptr 1 0], .leaf (.str), .leaf (.undef), .leaf (.undef), .leaf (.undef), .leaf (.undef), .leaf (.undef), .leaf (.undef), .leaf (.undef), .leaf (.undef), .leaf (.undef), .leaf (.undef), .leaf (.undef), .leaf (.undef), .leaf (.undef), .leaf (.undef), .leaf (.undef), .leaf (.undef), .leaf (.undef), .leaf (.undef), .leaf (.undef), .leaf (.undef), .leaf (.undef), .leaf (.undef), .leaf (.undef), .leaf (.undef), .leaf (.undef), .leaf (.undef), .leaf (.undef), .leaf (.undef), .leaf (.undef), .leaf (.undef), .leaf (.undef), .leaf (.undef), .leaf (.undef), .leaf (.undef), .leaf (.undef), .leaf (.undef), .leaf (.undef), .leaf (.sl .json), .leaf (.int .i64), .leaf (.int .i64), .leaf (.undef), .leaf (.undef), .leaf (.undef), .leaf (.undef), .leaf (.undef), .leaf (.undef), .leaf (.undef), .leaf (.undef), .leaf (.undef), .leaf (.undef), .leaf (.undef), .leaf (.undef), .leaf (.undef), .leaf (.undef), .leaf (.undef), .leaf (.undef), .leaf (.undef), .leaf (.undef), .leaf (.undef), .leaf (.undef), .leaf (.undef), .leaf (.undef), .leaf (.undef), .leaf (.undef), .leaf (.undef), .leaf (.undef), .leaf (.undef), .leaf (.undef)]
abbrev fS:List aH := [.kW (.MP (.int .u8) 3), .cells [.ptr 0 0], .cells [.int .i64, .int .i64, .int .i64, .str, .sl .str, .sl .json], .tok]
noncomputable def rj (x:bN.av fR) (y:aH.av fS):Nat:=(List.length x.2.2.2.2.2.1+List.length x.2.2.2.2.2.2.2.2.2.2.2.2.2.2.2.2.2.2.2.2.2.2.2.2.2.2.2.2.2.2.2.2.2.2.2.2.2.2.2.2.2.2.2.1+Int.natAbs x.2.2.2.2.2.2.2.2.2.2.2.2.2.2.2.2.2.2.2.2.2.2.2.2.2.2.2.2.2.2.2.2.2.2.2.2.2.2.2.2.2.2.2.2.1+Int.natAbs x.2.2.2.2.2.2.2.2.2.2.2.2.2.2.2.2.2.2.2.2.2.2.2.2.2.2.2.2.2.2.2.2.2.2.2.2.2.2.2.2.2.2.2.2.2.1+List.length y.1+Json.fu (⟨y.2.2.1.1,⟨y.2.2.1.2.1,y.2.2.1.2.2.1⟩,y.2.2.1.2.2.2.1,y.2.2.1.2.2.2.2.1,y.2.2.1.2.2.2.2.2.1⟩:Json)+64)
noncomputable def rq (x:bN.av fR) (y:aH.av fS):fQ:=(x.2.2.2.2.2.1,x.2.2.2.2.2.2.2.2.2.2.2.2.2.2.2.2.2.2.2.2.2.2.2.2.2.2.2.2.2.2.2.2.2.2.2.2.2.2.2.2.2.2.2.1,x.2.2.2.2.2.2.2.2.2.2.2.2.2.2.2.2.2.2.2.2.2.2.2.2.2.2.2.2.2.2.2.2.2.2.2.2.2.2.2.2.2.2.2.2.1,x.2.2.2.2.2.2.2.2.2.2.2.2.2.2.2.2.2.2.2.2.2.2.2.2.2.2.2.2.2.2.2.2.2.2.2.2.2.2.2.2.2.2.2.2.2.1,y.1,(⟨y.2.2.1.1,⟨y.2.2.1.2.1,y.2.2.1.2.2.1⟩,y.2.2.1.2.2.2.1,y.2.2.1.2.2.2.2.1,y.2.2.1.2.2.2.2.2.1⟩:Json))
noncomputable def qA {R:Type} (L:iH R):bN.av fR→aH.av fS→(Ex→St→Option R)→Option R:=fun x y K=>L (rj x y) x.2.2.2.2.2.1 x.2.2.2.2.2.2.2.2.2.2.2.2.2.2.2.2.2.2.2.2.2.2.2.2.2.2.2.2.2.2.2.2.2.2.2.2.2.2.2.2.2.2.2.1 x.2.2.2.2.2.2.2.2.2.2.2.2.2.2.2.2.2.2.2.2.2.2.2.2.2.2.2.2.2.2.2.2.2.2.2.2.2.2.2.2.2.2.2.2.1 x.2.2.2.2.2.2.2.2.2.2.2.2.2.2.2.2.2.2.2.2.2.2.2.2.2.2.2.2.2.2.2.2.2.2.2.2.2.2.2.2.2.2.2.2.2.1 y.1 (⟨y.2.2.1.1,⟨y.2.2.1.2.1,y.2.2.1.2.2.1⟩,y.2.2.1.2.2.2.1,y.2.2.1.2.2.2.2.1,y.2.2.1.2.2.2.2.2.1⟩:Json) (qz K)
noncomputable def ph (R:Type) (bl:iH R):Nat→Option (Hint × cr R):=fun i=>match i with
  | 18=>some (nX,(gu fR fS (qA bl) qv))
  | _=>none

theorem Cy {R:Type} (bc:fe R) (ah:bC R) (ad:aW R) (ag:bE R) (bF:bJ R) (dh:kH R) (aG:dH R) (bl:iH R) (K:Ex→St→Option R) (rc:St→Option R) (d:fQ):roundOf tt (lC R bc ah ad ag bF dh aG) (ph R bl) 1 ((aP (aK Tryz.f38)).getD 0 .skip) nX (mH d) rc K=rh ad bF aG K (fun d=>rc (mH d)) d:=by kernel_rfl
theorem Bh {R:Type} (K:Ex→St→Option R) (n:Nat) (d:fQ):jn K (n+1) d=rh ad bF aG K (jn K n) d:=by kernel_rfl
theorem Bi {R:Type} (K:Ex→St→Option R) (d:fQ):jn K 0 d=none:=by kernel_rfl
theorem Cz (x:bN.av fR) (y:aH.av fS):(⟨bN.cV fR x,aH.cV fS y⟩:St)=mH (rq x y):=by kernel_rfl
theorem CA {R:Type} (x:bN.av fR) (y:aH.av fS) (K:Ex→St→Option R):qA (bl) x y K=jn K (rj x y) (rq x y):=by kernel_rfl
theorem DO {R:Type} (other:cr R) (ho:o3 tt (lC R bc ah ad ag bF dh aG) (ph R bl) 1 ((aP (aK Tryz.f38)).getD 0 .skip) nX other):o3 tt (lC R bc ah ad ag bF dh aG) (ph R bl) 1 ((aP (aK Tryz.f38)).getD 0 .skip) nX (gu fR fS (qA (bl)) other) :=
  gN (A:=jn) ho (kB mH (rh ad bF aG) (jn) (Bi) (Cy bc ah ad ag bF dh aG bl) (Bh)) rj rq Cz (CA)

noncomputable def xA {R:Type} (bc:fe R) (ah:bC R) (ad:aW R) (ag:bE R) (dh:kH R) (bl:iH R) (x1:Json) (k0:(List Int)→Option R):Option R :=
  let j32:=fun (z12:aj)=>cU (decide ((0:Int)<z12.length)) (ah ((z12.getD 0 0).toNat:Int) (fun E0=>bl (List.length z12+List.length x1.items+Int.natAbs (x1.items.length:Int)+Int.natAbs 0+List.length E0+Json.fu (⟨x1.kind,⟨x1.num.aB,x1.num.exp⟩,x1.text,x1.names,x1.items⟩:Json)+64) z12 x1.items (x1.items.length:Int) 0 E0 (⟨x1.kind,⟨x1.num.aB,x1.num.exp⟩,x1.text,x1.names,x1.items⟩:Json) (fun OH Ob=>cU (decide ((1:Int)<OH.length)) (ad ((OH.getD 1 0).toNat:Int) Ob (fun QJ=>k0 QJ))))); bif (x1.kind==1)then (ag ([110,117,108,108]:aj) (fun y2 y3=>k0 y3))else (bif (x1.kind==2)then (ag ([102,97,108,115,101]:aj) (fun y4 y5=>k0 y5))else (bif (x1.kind==3)then (ag ([116,114,117,101]:aj) (fun y6 y7=>k0 y7))else (bif (x1.kind==4)then (bc x1.num (fun y8=>ag y8 (fun y9 yJ=>k0 yJ)))else (bif (x1.kind==5)then (dh x1.text (fun wL=>k0 wL))else (bif (x1.kind==7)then (j32 ([123,125]:aj))else (j32 ([91,93]:aj)))))))
noncomputable def ff {R:Type}:oy R:=fun x1 k0=>xA bc ah ad ag dh bl x1 k0
theorem HW {R:Type} (bc:fe R) (ah:bC R) (ad:aW R) (ag:bE R) (bF:bJ R) (dh:kH R) (aG:dH R) (bl:iH R) (x1:Json) (k:V→az→Option R):iP tt (lC R bc ah ad ag bF dh aG) (ph R bl) false Tryz.f38 (aK Tryz.f38) [.ptr 0 0, .agg [.int .i64 x1.kind, .int .i64 x1.num.aB, .int .i64 x1.num.exp, .str x1.text, .sl .str x1.names .no, .sl .json x1.items .no]] [.kW (.cJ)] k =
    xA bc ah ad ag dh bl x1 (fun q0=>k (.tuple []) [.kW (.sl (.int .u8) q0 (.own 1)), .tok]):=by kernel_rfl
theorem Fi (R:Type):∀a∈aP (aK Tryz.f38),cR tt (lC R bc ah ad ag bF dh aG) (ph R bl) 1 a:=by
  refine bG 1 (by kernel_rfl) fun i hi => ?_
  match i,hi with
  | 0,_=>exact fC (by kernel_rfl) (DO _ jc)
  | n+1,hi=>omega
theorem Ga (R:Type) (other:ay.Spec R) (ho:ay.Spec.Ok Tryz.prog 38 other):ay.Spec.Ok Tryz.prog 38 (aA sG sH (B5 ff) other) :=
  bu ho (bj TT mixed (GW R) (keep:=false) rfl rfl rfl rfl 1 (Fi R)) fun (x:bN.av sG) (y:aH.av sH) k=>HW bc ah ad ag bF dh aG bl (⟨x.2.1.1,⟨x.2.1.2.1,x.2.1.2.2.1⟩,x.2.1.2.2.2.1,x.2.1.2.2.2.2.1,x.2.1.2.2.2.2.2.1⟩:Json) k

/-! ### humpyard/json.Print -/
abbrev jZ (R:Type):Type:=Json→(aj→Option R)→Option R
abbrev xB:List bN := [.agg [.int .i64, .int .i64, .int .i64, .str, .sl .str, .sl .json]]
abbrev xC:List aH := []
noncomputable def Df {R:Type} (fn:jZ R):bN.av xB→aH.av xC→(V→az→Option R)→Option R:=fun x y k=>fn (⟨x.1.1,⟨x.1.2.1,x.1.2.2.1⟩,x.1.2.2.2.1,x.1.2.2.2.2.1,x.1.2.2.2.2.2.1⟩:Json) (fun q0=>k (.str q0) [])
noncomputable def Bj (R:Type) (bS:hM R) (ff:oy R):Env R:=fun i=>match i with
  | 39=>some (false,(Eo R))
  | 32=>some (true,(aA tT tU (zB bS) bg))
  | 38=>some (false,(aA sG sH (B5 ff) bg))
  | _=>none
theorem Nd (R:Type):p6 Tryz.prog (Bj R bS ff):=by
  intro i b sp h
  unfold Bj at h
  split at h
  · cases h; exact ⟨(LJ),fun _ _=>Gz⟩
  · cases h; exact ⟨(Ax R _ (aO _)),fun h=>nomatch h⟩
  · cases h; exact ⟨(Ga R _ (aO _)),fun _ h=>nomatch h⟩
  · cases h

noncomputable def Jd (R:Type):Nat→Option (Hint × cr R):=fun i=>match i with
  | _=>none

noncomputable def Bk {R:Type} (bS:hM R) (ff:oy R) (x1:Json) (k0:aj→Option R):Option R :=
  bS (⟨x1.kind,⟨x1.num.aB,x1.num.exp⟩,x1.text,x1.names,x1.items⟩:Json) (fun y2=>bif (!y2)then (k0 ([]:aj))else (ff (⟨x1.kind,⟨x1.num.aB,x1.num.exp⟩,x1.text,x1.names,x1.items⟩:Json) (fun y3=>k0 (td y3))))
noncomputable def cD {R:Type}:jZ R:=fun x1 k0=>Bk bS ff x1 k0
theorem OI {R:Type} (bS:hM R) (ff:oy R) (x1:Json) (k:V→az→Option R):iP tt (Bj R bS ff) (Jd R) false Tryz.f17 (aK Tryz.f17) [.agg [.int .i64 x1.kind, .int .i64 x1.num.aB, .int .i64 x1.num.exp, .str x1.text, .sl .str x1.names .no, .sl .json x1.items .no]] [] k =
    Bk bS ff x1 (fun q0=>k (.str q0) []):=by kernel_rfl
theorem Kg (R:Type):∀a∈aP (aK Tryz.f17),cR tt (Bj R bS ff) (Jd R) 0 a:=by
  refine bG 0 (by kernel_rfl) fun i hi => ?_
  omega
theorem E2 (R:Type) (other:ay.Spec R) (ho:ay.Spec.Ok Tryz.prog 17 other):ay.Spec.Ok Tryz.prog 17 (aA xB xC (Df cD) other) :=
  bu ho (bj TT mixed (Nd R) (keep:=false) rfl rfl rfl rfl 0 (Kg R)) fun (x:bN.av xB) (y:aH.av xC) k=>OI bS ff (⟨x.1.1,⟨x.1.2.1,x.1.2.2.1⟩,x.1.2.2.2.1,x.1.2.2.2.2.1,x.1.2.2.2.2.2.1⟩:Json) k

/-! ### humpyard/lexer.while -/
abbrev j0 (R:Type):Type:=aj→aj→(aj→Option R)→Option R
abbrev u6:List bN := [.leaf (.str), .leaf (.str)]
abbrev u7:List aH := []
noncomputable def B6 {R:Type} (fn:j0 R):bN.av u6→aH.av u7→(V→az→Option R)→Option R:=fun x y k=>fn x.1 x.2.1 (fun q0=>k (.str q0) [])
noncomputable def zG (R:Type):Env R:=fun i=>match i with
  | 68=>some (true,(IQ R))
  | _=>none
theorem Lg (R:Type):p6 Tryz.prog (zG R):=by
  intro i b sp h
  unfold zG at h
  split at h
  · cases h; exact ⟨(MW),fun h=>nomatch h⟩
  · cases h

noncomputable def Hm (R:Type):Nat→Option (Hint × cr R):=fun i=>match i with
  | _=>none

noncomputable def zH {R:Type} (x1:aj) (x2:aj) (k0:aj→Option R):Option R :=
  cU (uf x2&&decide (x2.length<4294967281)) (cU (decide ((0:Int)≤(IntKind.i64.wrap ((x1.length:Int) - ((bD x1 x2).length:Int))))&&decide ((IntKind.i64.wrap ((x1.length:Int) - ((bD x1 x2).length:Int)))≤x1.length)) (cU (decide ((0:Int)≤(IntKind.i64.wrap ((x1.length:Int) - ((bD x1 x2).length:Int))))) (k0 ((x1.drop 0).take ((IntKind.i64.wrap ((x1.length:Int) - ((bD x1 x2).length:Int))).toNat - 0)))))
noncomputable def bZ {R:Type}:j0 R:=fun x1 x2 k0=>zH x1 x2 k0
theorem Nf {R:Type} (x1:aj) (x2:aj) (k:V→az→Option R):iP tt (zG R) (Hm R) false Tryz.f47 (aK Tryz.f47) [.str x1, .str x2] [] k =
    zH x1 x2 (fun q0=>k (.str q0) []):=by kernel_rfl
theorem Je (R:Type):∀a∈aP (aK Tryz.f47),cR tt (zG R) (Hm R) 0 a:=by
  refine bG 0 (by kernel_rfl) fun i hi => ?_
  omega
theorem DP (R:Type) (other:ay.Spec R) (ho:ay.Spec.Ok Tryz.prog 47 other):ay.Spec.Ok Tryz.prog 47 (aA u6 u7 (B6 bZ) other) :=
  bu ho (bj TT mixed (Lg R) (keep:=false) rfl rfl rfl rfl 0 (Je R)) fun (x:bN.av u6) (y:aH.av u7) k=>Nf x.1 x.2.1 k

/-! ### (*humpyard/decimal.reader).sign -/
abbrev dX (R:Type):Type:=aj→aj→(Int→aj→Option R)→Option R
abbrev iU:List bN := [.leaf (.ptr 0 0), .leaf (.str)]
abbrev iV:List aH := [.cells [.str]]
noncomputable def nY {R:Type} (fn:dX R):bN.av iU→aH.av iV→(V→az→Option R)→Option R:=fun x y k=>fn x.2.1 y.1.1 (fun q0 q1=>k (.int .u8 q0) [.cells [.str q1]])
noncomputable def lD (R:Type):Env R:=fun i=>match i with
  | 71=>some (true,(Vo R))
  | _=>none
theorem Ay (R:Type):p6 Tryz.prog (lD R):=by
  intro i b sp h
  unfold lD at h
  split at h
  · cases h; exact ⟨(ZQ),fun h=>nomatch h⟩
  · cases h

noncomputable def tq (R:Type):Nat→Option (Hint × cr R):=fun i=>match i with
  | _=>none

noncomputable def lE {R:Type} (x1:aj) (x2:aj) (k0:Int→aj→Option R):Option R :=
  bif (x2==([]:aj))then (k0 0 x2)else (cU (decide ((0:Int)<x2.length)) (bif (decide ((zw x1 ((x2.getD 0 0).toNat:Int))<(0:Int)))then (k0 0 x2)else (cU (decide ((0:Int)<x2.length)) (cU (decide ((0:Int)≤(x2.length:Int))&&decide ((x2.length:Int)≤x2.length)) (cU (decide ((1:Int)≤(x2.length:Int))) (k0 ((x2.getD 0 0).toNat:Int) ((x2.drop 1).take ((x2.length:Int).toNat - 1))))))))
noncomputable def aR {R:Type}:dX R:=fun x1 x2 k0=>lE x1 x2 k0
theorem Bl {R:Type} (x1:aj) (x2:aj) (k:V→az→Option R):iP tt (lD R) (tq R) false Tryz.f101 (aK Tryz.f101) [.ptr 0 0, .str x1] [.cells [.str x2]] k =
    lE x1 x2 (fun q0 q1=>k (.int .u8 q0) [.cells [.str q1]]):=by kernel_rfl
theorem yQ (R:Type):∀a∈aP (aK Tryz.f101),cR tt (lD R) (tq R) 1 a:=by
  refine bG 0 (by kernel_rfl) fun i hi => ?_
  omega
theorem qP (R:Type) (other:ay.Spec R) (ho:ay.Spec.Ok Tryz.prog 101 other):ay.Spec.Ok Tryz.prog 101 (aA iU iV (nY aR) other) :=
  bu ho (bj TT mixed (Ay R) (keep:=false) rfl rfl rfl rfl 1 (yQ R)) fun (x:bN.av iU) (y:aH.av iV) k=>Bl x.2.1 y.1.1 k

/-! ### (*humpyard/decimal.reader).digits -/
abbrev dN (R:Type):Type:=aj→(aj→aj→Option R)→Option R
abbrev gT:List bN := [.leaf (.ptr 0 0)]
abbrev gU:List aH := [.cells [.str]]
noncomputable def ng {R:Type} (fn:dN R):bN.av gT→aH.av gU→(V→az→Option R)→Option R:=fun x y k=>fn y.1.1 (fun q0 q1=>k (.str q0) [.cells [.str q1]])
noncomputable def kh (R:Type):Env R:=fun i=>match i with
  | 68=>some (true,(IQ R))
  | _=>none
theorem yR (R:Type):p6 Tryz.prog (kh R):=by
  intro i b sp h
  unfold kh at h
  split at h
  · cases h; exact ⟨(MW),fun h=>nomatch h⟩
  · cases h

noncomputable def rV (R:Type):Nat→Option (Hint × cr R):=fun i=>match i with
  | _=>none

noncomputable def ki {R:Type} (x1:aj) (k0:aj→aj→Option R):Option R :=
  cU (uf ([48,49,50,51,52,53,54,55,56,57]:aj)&&decide (([48,49,50,51,52,53,54,55,56,57]:aj).length<4294967281)) (cU (decide ((0:Int)≤(IntKind.i64.wrap ((x1.length:Int) - ((bD x1 ([48,49,50,51,52,53,54,55,56,57]:aj)).length:Int))))&&decide ((IntKind.i64.wrap ((x1.length:Int) - ((bD x1 ([48,49,50,51,52,53,54,55,56,57]:aj)).length:Int)))≤x1.length)) (cU (decide ((0:Int)≤(IntKind.i64.wrap ((x1.length:Int) - ((bD x1 ([48,49,50,51,52,53,54,55,56,57]:aj)).length:Int))))) (k0 ((x1.drop 0).take ((IntKind.i64.wrap ((x1.length:Int) - ((bD x1 ([48,49,50,51,52,53,54,55,56,57]:aj)).length:Int))).toNat - 0)) (bD x1 ([48,49,50,51,52,53,54,55,56,57]:aj)))))
noncomputable def aN {R:Type}:dN R:=fun x1 k0=>ki x1 k0
theorem zY {R:Type} (x1:aj) (k:V→az→Option R):iP tt (kh R) (rV R) false Tryz.f102 (aK Tryz.f102) [.ptr 0 0] [.cells [.str x1]] k =
    ki x1 (fun q0 q1=>k (.str q0) [.cells [.str q1]]):=by kernel_rfl
theorem xD (R:Type):∀a∈aP (aK Tryz.f102),cR tt (kh R) (rV R) 1 a:=by
  refine bG 0 (by kernel_rfl) fun i hi => ?_
  omega
theorem pS (R:Type) (other:ay.Spec R) (ho:ay.Spec.Ok Tryz.prog 102 other):ay.Spec.Ok Tryz.prog 102 (aA gT gU (ng aN) other) :=
  bu ho (bj TT mixed (yR R) (keep:=false) rfl rfl rfl rfl 1 (xD R)) fun (x:bN.av gT) (y:aH.av gU) k=>zY y.1.1 k

end Go.Proofs.YtmlkkgfenfdndaaGreatDoor

/-
  Functions of the program as pure Lean functions, and the ties; printed by wip/tools/emit.py.
-/
set_option maxRecDepth 100000
namespace Go.Proofs.YtmlkkgfenfdndaaGreatDoor
open Go Go.ay

/-! ### (*humpyard/decimal.reader).exponent -/
abbrev gb (R:Type):Type:=aj→(Int→Bool→aj→Option R)→Option R
abbrev jq:List bN := [.leaf (.ptr 0 0)]
abbrev jr:List aH := [.cells [.str]]
noncomputable def pT {R:Type} (fn:gb R):bN.av jq→aH.av jr→(V→az→Option R)→Option R:=fun x y k=>fn y.1.1 (fun q0 q1 q2=>k (.tuple [.int .i64 q0, .bool q1]) [.cells [.str q2]])
noncomputable def js (R:Type) (aR:dX R) (aN:dN R):Env R:=fun i=>match i with
  | 101=>some (false,(aA iU iV (nY aR) bg))
  | 102=>some (false,(aA gT gU (ng aN) bg))
  | 105=>some (true,(QE R))
  | _=>none
theorem xE (R:Type):p6 Tryz.prog (js R aR aN):=by
  intro i b sp h
  unfold js at h
  split at h
  · cases h; exact ⟨(qP R _ (aO _)),fun _ h=>nomatch h⟩
  · cases h; exact ⟨(pS R _ (aO _)),fun _ h=>nomatch h⟩
  · cases h; exact ⟨(Vp),fun h=>nomatch h⟩
  · cases h

noncomputable def qB (R:Type):Nat→Option (Hint × cr R):=fun i=>match i with
  | _=>none

noncomputable def jt {R:Type} (aR:dX R) (aN:dN R) (x1:aj) (k0:Int→Bool→aj→Option R):Option R :=
  aR ([43,45]:aj) x1 (fun y2 y3=>aN y3 (fun y4 y5=>cU (decide (y4.length≤281474976710656)) (bif tf y4 then (bif (decide ((eD y4)>(1000000:Int)))then (bif (y2==45)then (k0 (-1000000) (!(y4==([]:aj))) y5)else (k0 1000000 (!(y4==([]:aj))) y5))else (bif (y2==45)then (k0 (IntKind.i64.wrap (0 - (eD y4))) (!(y4==([]:aj))) y5)else (k0 (eD y4) (!(y4==([]:aj))) y5)))else (bif (!(y4==([]:aj)))then (bif (y2==45)then (k0 (-1000000) (!(y4==([]:aj))) y5)else (k0 1000000 (!(y4==([]:aj))) y5))else (bif (decide ((eD y4)>(1000000:Int)))then (bif (y2==45)then (k0 (-1000000) (!(y4==([]:aj))) y5)else (k0 1000000 (!(y4==([]:aj))) y5))else (bif (y2==45)then (k0 (IntKind.i64.wrap (0 - (eD y4))) (!(y4==([]:aj))) y5)else (k0 (eD y4) (!(y4==([]:aj))) y5)))))))
noncomputable def bm {R:Type}:gb R:=fun x1 k0=>jt aR aN x1 k0
theorem yh {R:Type} (aR:dX R) (aN:dN R) (x1:aj) (k:V→az→Option R):iP tt (js R aR aN) (qB R) false Tryz.f103 (aK Tryz.f103) [.ptr 0 0] [.cells [.str x1]] k =
    jt aR aN x1 (fun q0 q1 q2=>k (.tuple [.int .i64 q0, .bool q1]) [.cells [.str q2]]):=by kernel_rfl
theorem vZ (R:Type):∀a∈aP (aK Tryz.f103),cR tt (js R aR aN) (qB R) 1 a:=by
  refine bG 0 (by kernel_rfl) fun i hi => ?_
  omega
theorem wR (R:Type) (other:ay.Spec R) (ho:ay.Spec.Ok Tryz.prog 103 other):ay.Spec.Ok Tryz.prog 103 (aA jq jr (pT bm) other) :=
  bu ho (bj TT mixed (xE R) (keep:=false) rfl rfl rfl rfl 1 (vZ R)) fun (x:bN.av jq) (y:aH.av jr) k=>yh aR aN y.1.1 k

/-! ### humpyard/decimal.Make -/
abbrev rW (R:Type):Type:=Int→Int→(iZ→Bool→Option R)→Option R
abbrev xF:List bN := [.leaf (.int .i64), .leaf (.int .i64)]
abbrev xG:List aH := []
noncomputable def E3 {R:Type} (fn:rW R):bN.av xF→aH.av xG→(V→az→Option R)→Option R:=fun x y k=>fn x.1 x.2.1 (fun q0 q1=>k (.tuple [.agg [.int .i64 q0.aB, .int .i64 q0.exp], .bool q1]) [])
abbrev lV (R:Type):Type:=Nat→Int→Int→iZ→(Int→Int→iZ→Option R)→Option R
noncomputable def oz (R:Type) (aY:fm R):Env R:=fun i=>match i with
  | 91=>some (true,(aA nc nd (sk aY) bg))
  | _=>none
theorem Kh (R:Type):p6 Tryz.prog (oz R aY):=by
  intro i b sp h
  unfold oz at h
  split at h
  · cases h; exact ⟨(wC R _ (aO _)),fun h=>nomatch h⟩
  · cases h

noncomputable def mz {R:Type} (fy:Int→Int→iZ→Option R) (x3:Int) (x4:Int) (x5:iZ) (e0:Int→Int→iZ→Option R):Option R :=
  bif ((Int.tmod x3 10)==0)then (fy (IntKind.i64.wrap (Int.tdiv x3 10)) (IntKind.i64.wrap (x4+1)) x5)else (e0 x3 x4 x5)
noncomputable def bx {R:Type}:lV R
  | 0,_,_,_,_=>none
  | n+1,lY,lZ,mF,e0=>mz (fun lY lZ mF=>bx n lY lZ mF e0) lY lZ mF e0
noncomputable def rA:Hint := { live := [0,1,4],own := [],rows := [],cells := [],drop := [],out := [0,1,4,5] }
abbrev iW:Type:=Int × Int × iZ
noncomputable def pj:iW→St:=fun d=>⟨[.int .i64 d.1, .int .i64 d.2.1, .undef, .undef, .ptr 0 0, .undef, .undef, .undef, .undef, .undef, .undef, .undef, .undef, .undef, .undef, .undef, .undef, .undef, .undef, .undef, .undef, .undef, .undef, .undef, .undef, .undef, .undef, .undef, .undef, .undef], [.cells [.int .i64 d.2.2.aB, .int .i64 d.2.2.exp]]⟩
noncomputable def uE {R:Type} (K:Ex→St→Option R) (q0:Int) (q1:Int) (q2:iZ):Option R:=K (.exit 0) ⟨[.int .i64 q0, .int .i64 q1, .undef, .undef, .ptr 0 0, .undef, .undef, .undef, .undef, .undef, .undef, .undef, .undef, .undef, .undef, .undef, .undef, .undef, .undef, .undef, .undef, .undef, .undef, .undef, .undef, .undef, .undef, .undef, .undef, .undef], [.cells [.int .i64 q2.aB, .int .i64 q2.exp]]⟩
noncomputable def v7 {R:Type} (K:Ex→St→Option R) (rc:iW→Option R) (d:iW):Option R:=mz (fun z0 z1 z2=>rc (z0,z1,z2)) d.1 d.2.1 d.2.2 (uE K)
noncomputable def mA {R:Type} (K:Ex→St→Option R) (n:Nat) (d:iW):Option R:=bx n d.1 d.2.1 d.2.2 (uE K)
abbrev iX:List bN := [.leaf (.int .i64), .leaf (.int .i64), .leaf (.undef), .leaf (.undef), .leaf (.ptr 0 0), .leaf (.undef), .leaf (.undef), .leaf (.undef), .leaf (.undef), .leaf (.undef), .leaf (.undef), .leaf (.undef), .leaf (.undef), .leaf (.undef), .leaf (.undef), .leaf (.undef), .leaf (.undef), .leaf (.undef), .leaf (.undef), .leaf (.undef), .leaf (.undef), .leaf (.undef), .leaf (.undef), .leaf (.undef), .leaf (.undef), .leaf (.undef), .leaf (.undef), .leaf (.undef), .leaf (.undef), .leaf (.undef)]
abbrev iY:List aH := [.cells [.int .i64, .int .i64]]
noncomputable def v8 (x:bN.av iX) (y:aH.av iY):Nat:=(Int.natAbs x.1+Int.natAbs x.2.1+iZ.fu (⟨y.1.1,y.1.2.1⟩:iZ)+64)
noncomputable def wa (x:bN.av iX) (y:aH.av iY):iW:=(x.1,x.2.1,(⟨y.1.1,y.1.2.1⟩:iZ))
noncomputable def uF {R:Type} (L:lV R):bN.av iX→aH.av iY→(Ex→St→Option R)→Option R:=fun x y K=>L (v8 x y) x.1 x.2.1 (⟨y.1.1,y.1.2.1⟩:iZ) (uE K)
noncomputable def tu (R:Type) (bx:lV R):Nat→Option (Hint × cr R):=fun i=>match i with
  | 4=>some (rA,(gu iX iY (uF bx) qv))
  | _=>none

theorem Fj {R:Type} (aY:fm R) (bx:lV R) (K:Ex→St→Option R) (rc:St→Option R) (d:iW):roundOf tt (oz R aY) (tu R bx) 0 ((aP (aK Tryz.f106)).getD 0 .skip) rA (pj d) rc K=v7 K (fun d=>rc (pj d)) d:=by kernel_rfl
theorem DQ {R:Type} (K:Ex→St→Option R) (n:Nat) (d:iW):mA K (n+1) d=v7 K (mA K n) d:=by kernel_rfl
theorem DR {R:Type} (K:Ex→St→Option R) (d:iW):mA K 0 d=none:=by kernel_rfl
theorem Fk (x:bN.av iX) (y:aH.av iY):(⟨bN.cV iX x,aH.cV iY y⟩:St)=pj (wa x y):=by kernel_rfl
theorem Fl {R:Type} (x:bN.av iX) (y:aH.av iY) (K:Ex→St→Option R):uF (bx) x y K=mA K (v8 x y) (wa x y):=by kernel_rfl
theorem GX {R:Type} (other:cr R) (ho:o3 tt (oz R aY) (tu R bx) 0 ((aP (aK Tryz.f106)).getD 0 .skip) rA other):o3 tt (oz R aY) (tu R bx) 0 ((aP (aK Tryz.f106)).getD 0 .skip) rA (gu iX iY (uF (bx)) other) :=
  gN (A:=mA) ho (kB pj (v7) (mA) (DR) (Fj aY bx) (DQ)) v8 wa Fk (Fl)

noncomputable def oA {R:Type} (aY:fm R) (bx:lV R) (x1:Int) (x2:Int) (k0:iZ→Bool→Option R):Option R :=
  bif (x1==0)then (k0 (⟨0,0⟩:iZ) true)else (bx (Int.natAbs x1+Int.natAbs (min x2 1000000)+iZ.fu (⟨0,0⟩:iZ)+64) x1 (min x2 1000000) (⟨0,0⟩:iZ) (fun y6 y7 y8=>aY (-1000000000000000) y6 1000000000000000 (fun y9=>bif (!y9)then (k0 (⟨0,0⟩:iZ) false)else (aY (-9) y7 9 (fun yJ=>bif (!yJ)then (k0 (⟨0,0⟩:iZ) false)else (k0 (⟨y6,y7⟩:iZ) true))))))
noncomputable def bM {R:Type}:rW R:=fun x1 x2 k0=>oA aY bx x1 x2 k0
theorem Lh {R:Type} (aY:fm R) (bx:lV R) (x1:Int) (x2:Int) (k:V→az→Option R):iP tt (oz R aY) (tu R bx) false Tryz.f106 (aK Tryz.f106) [.int .i64 x1, .int .i64 x2] [] k =
    oA aY bx x1 x2 (fun q0 q1=>k (.tuple [.agg [.int .i64 q0.aB, .int .i64 q0.exp], .bool q1]) []):=by kernel_rfl
theorem HX (R:Type):∀a∈aP (aK Tryz.f106),cR tt (oz R aY) (tu R bx) 0 a:=by
  refine bG 1 (by kernel_rfl) fun i hi => ?_
  match i,hi with
  | 0,_=>exact fC (by kernel_rfl) (GX _ jc)
  | n+1,hi=>omega
theorem Jf (R:Type) (other:ay.Spec R) (ho:ay.Spec.Ok Tryz.prog 106 other):ay.Spec.Ok Tryz.prog 106 (aA xF xG (E3 bM) other) :=
  bu ho (bj TT mixed (Kh R) (keep:=false) rfl rfl rfl rfl 0 (HX R)) fun (x:bN.av xF) (y:aH.av xG) k=>Lh aY bx x.1 x.2.1 k

/-! ### humpyard/decimal.Parse -/
abbrev qC (R:Type):Type:=aj→(iZ→Bool→Option R)→Option R
abbrev vF:List bN := [.leaf (.str)]
abbrev vG:List aH := []
noncomputable def DS {R:Type} (fn:qC R):bN.av vF→aH.av vG→(V→az→Option R)→Option R:=fun x y k=>fn x.1 (fun q0 q1=>k (.tuple [.agg [.int .i64 q0.aB, .int .i64 q0.exp], .bool q1]) [])
noncomputable def vH (R:Type) (bM:rW R) (aR:dX R) (aN:dN R) (bm:gb R):Env R:=fun i=>match i with
  | 106=>some (true,(aA xF xG (E3 bM) bg))
  | 101=>some (false,(aA iU iV (nY aR) bg))
  | 102=>some (false,(aA gT gU (ng aN) bg))
  | 103=>some (false,(aA jq jr (pT bm) bg))
  | 68=>some (true,(IQ R))
  | 104=>some (true,(QD R))
  | 105=>some (true,(QE R))
  | _=>none
theorem Jg (R:Type):p6 Tryz.prog (vH R bM aR aN bm):=by
  intro i b sp h
  unfold vH at h
  split at h
  · cases h; exact ⟨(Jf R _ (aO _)),fun h=>nomatch h⟩
  · cases h; exact ⟨(qP R _ (aO _)),fun _ h=>nomatch h⟩
  · cases h; exact ⟨(pS R _ (aO _)),fun _ h=>nomatch h⟩
  · cases h; exact ⟨(wR R _ (aO _)),fun _ h=>nomatch h⟩
  · cases h; exact ⟨(MW),fun h=>nomatch h⟩
  · cases h; exact ⟨(ZP),fun h=>nomatch h⟩
  · cases h; exact ⟨(Vp),fun h=>nomatch h⟩
  · cases h

noncomputable def E4 (R:Type):Nat→Option (Hint × cr R):=fun i=>match i with
  | _=>none

noncomputable def oY {R:Type} (bM:rW R) (aR:dX R) (aN:dN R) (bm:gb R) (x1:aj) (k0:iZ→Bool→Option R):Option R :=
  aR ([45]:aj) x1 (fun y2 y3=>aN y3 (fun y4 y5=>let j32:=let j31:=fun (wc:aj) (z12:Int) (Se:aj)=>let j30:=fun (Q4:Int) (z20:aj)=>cU (uf ([48]:aj)&&decide (([48]:aj).length<4294967281)) (cU (uf ([48]:aj)&&decide (([48]:aj).length<4294967281)) (bif (!(z20==([]:aj)))then (k0 (⟨0,0⟩:iZ) false)else (bif (decide (((cY (bD wc ([48]:aj)) ([48]:aj)).length:Int)>(18:Int)))then (k0 (⟨0,0⟩:iZ) false)else (let j29:=bif (y2 != 0)then (bM (IntKind.i64.wrap (0 - (eD (([48]:aj)++(cY (bD wc ([48]:aj)) ([48]:aj)))))) (IntKind.i64.wrap (Q4+(IntKind.i64.wrap (((bD wc ([48]:aj)).length:Int) - ((cY (bD wc ([48]:aj)) ([48]:aj)).length:Int))))) (fun GB Jb=>k0 GB Jb))else (bM (eD (([48]:aj)++(cY (bD wc ([48]:aj)) ([48]:aj)))) (IntKind.i64.wrap (Q4+(IntKind.i64.wrap (((bD wc ([48]:aj)).length:Int) - ((cY (bD wc ([48]:aj)) ([48]:aj)).length:Int))))) (fun Jc JF=>k0 Jc JF)); cU (decide (1+(cY (bD wc ([48]:aj)) ([48]:aj)).length≤9223372036854775807)) (cU (decide ((([48]:aj)++(cY (bD wc ([48]:aj)) ([48]:aj))).length≤281474976710656)) (bif tf (([48]:aj)++(cY (bD wc ([48]:aj)) ([48]:aj)))then (j29)else (j29))))))); aR ([101,69]:aj) Se (fun uT F1=>bif (uT != 0)then (bm F1 (fun GU JE GA=>bif (!JE)then (k0 (⟨0,0⟩:iZ) false)else (j30 (IntKind.i64.wrap (z12+GU)) GA)))else (j30 z12 F1)); aR ([46]:aj) y5 (fun y7 y8=>bif (y7 != 0)then (aN y8 (fun y9 yJ=>bif (y9==([]:aj))then (k0 (⟨0,0⟩:iZ) false)else (cU (decide (y4.length+y9.length≤9223372036854775807)) (j31 (y4++y9) (IntKind.i64.wrap (0 - (y9.length:Int))) yJ))))else (j31 y4 0 y8)); bif (decide ((x1.length:Int)>(400:Int)))then (k0 (⟨0,0⟩:iZ) false)else (bif (y4==([]:aj))then (k0 (⟨0,0⟩:iZ) false)else (bif (decide ((y4.length:Int)>(1:Int)))then (cU (decide ((0:Int)<y4.length)) (bif (((y4.getD 0 0).toNat:Int)==48)then (k0 (⟨0,0⟩:iZ) false)else (j32)))else (j32)))))
noncomputable def dG {R:Type}:qC R:=fun x1 k0=>oY bM aR aN bm x1 k0
theorem Ki {R:Type} (bM:rW R) (aR:dX R) (aN:dN R) (bm:gb R) (x1:aj) (k:V→az→Option R):iP tt (vH R bM aR aN bm) (E4 R) false Tryz.f69 (aK Tryz.f69) [.str x1] [] k =
    oY bM aR aN bm x1 (fun q0 q1=>k (.tuple [.agg [.int .i64 q0.aB, .int .i64 q0.exp], .bool q1]) []):=by kernel_rfl
theorem GY (R:Type):∀a∈aP (aK Tryz.f69),cR tt (vH R bM aR aN bm) (E4 R) 0 a:=by
  refine bG 0 (by kernel_rfl) fun i hi => ?_
  omega
theorem HY (R:Type) (other:ay.Spec R) (ho:ay.Spec.Ok Tryz.prog 69 other):ay.Spec.Ok Tryz.prog 69 (aA vF vG (DS dG) other) :=
  bu ho (bj TT mixed (Jg R) (keep:=false) rfl rfl rfl rfl 0 (GY R)) fun (x:bN.av vF) (y:aH.av vG) k=>Ki bM aR aN bm x.1 k

/-! ### internal/stringslite.HasPrefix -/
abbrev ft (R:Type):Type:=aj→aj→(Bool→Option R)→Option R
abbrev iq:List bN := [.leaf (.str), .leaf (.str)]
abbrev ir:List aH := []
noncomputable def oL {R:Type} (fn:ft R):bN.av iq→aH.av ir→(V→az→Option R)→Option R:=fun x y k=>fn x.1 x.2.1 (fun q0=>k (.bool q0) [])
noncomputable def iu (R:Type):Env R:=fun i=>match i with
  | _=>none
theorem wg (R:Type):p6 Tryz.prog (iu R):=by
  intro i b sp h
  unfold iu at h
  split at h
  · cases h

noncomputable def pk (R:Type):Nat→Option (Hint × cr R):=fun i=>match i with
  | _=>none

noncomputable def iv {R:Type} (x1:aj) (x2:aj) (k0:Bool→Option R):Option R :=
  bif (decide ((x1.length:Int)≥(x2.length:Int)))then (cU (decide ((0:Int)≤(x2.length:Int))&&decide ((x2.length:Int)≤x1.length)) (cU (decide ((0:Int)≤(x2.length:Int))) (k0 (((x1.drop 0).take ((x2.length:Int).toNat - 0))==x2))))else (k0 false)
noncomputable def bH {R:Type}:ft R:=fun x1 x2 k0=>iv x1 x2 k0
theorem wS {R:Type} (x1:aj) (x2:aj) (k:V→az→Option R):iP tt (iu R) (pk R) false Tryz.f127 (aK Tryz.f127) [.str x1, .str x2] [] k =
    iv x1 x2 (fun q0=>k (.bool q0) []):=by kernel_rfl
theorem uG (R:Type):∀a∈aP (aK Tryz.f127),cR tt (iu R) (pk R) 0 a:=by
  refine bG 0 (by kernel_rfl) fun i hi => ?_
  omega
theorem va (R:Type) (other:ay.Spec R) (ho:ay.Spec.Ok Tryz.prog 127 other):ay.Spec.Ok Tryz.prog 127 (aA iq ir (oL bH) other) :=
  bu ho (bj TT mixed (wg R) (keep:=false) rfl rfl rfl rfl 0 (uG R)) fun (x:bN.av iq) (y:aH.av ir) k=>wS x.1 x.2.1 k

/-! ### internal/stringslite.CutPrefix -/
abbrev fv (R:Type):Type:=aj→aj→(aj→Bool→Option R)→Option R
abbrev iw:List bN := [.leaf (.str), .leaf (.str)]
abbrev iz:List aH := []
noncomputable def oM {R:Type} (fn:fv R):bN.av iw→aH.av iz→(V→az→Option R)→Option R:=fun x y k=>fn x.1 x.2.1 (fun q0 q1=>k (.tuple [.str q0, .bool q1]) [])
noncomputable def iA (R:Type) (bH:ft R):Env R:=fun i=>match i with
  | 127=>some (true,(aA iq ir (oL bH) bg))
  | _=>none
theorem wh (R:Type):p6 Tryz.prog (iA R bH):=by
  intro i b sp h
  unfold iA at h
  split at h
  · cases h; exact ⟨(va R _ (aO _)),fun h=>nomatch h⟩
  · cases h

noncomputable def pn (R:Type):Nat→Option (Hint × cr R):=fun i=>match i with
  | _=>none

noncomputable def iB {R:Type} (bH:ft R) (x1:aj) (x2:aj) (k0:aj→Bool→Option R):Option R :=
  bH x1 x2 (fun y3=>bif (!y3)then (k0 x1 false)else (cU (decide ((0:Int)≤(x1.length:Int))&&decide ((x1.length:Int)≤x1.length)) (cU (decide ((0:Int)≤(x2.length:Int))&&decide ((x2.length:Int)≤(x1.length:Int))) (k0 ((x1.drop (x2.length:Int).toNat).take ((x1.length:Int).toNat - (x2.length:Int).toNat)) true))))
noncomputable def bO {R:Type}:fv R:=fun x1 x2 k0=>iB bH x1 x2 k0
theorem wT {R:Type} (bH:ft R) (x1:aj) (x2:aj) (k:V→az→Option R):iP tt (iA R bH) (pn R) false Tryz.f156 (aK Tryz.f156) [.str x1, .str x2] [] k =
    iB bH x1 x2 (fun q0 q1=>k (.tuple [.str q0, .bool q1]) []):=by kernel_rfl
theorem uH (R:Type):∀a∈aP (aK Tryz.f156),cR tt (iA R bH) (pn R) 0 a:=by
  refine bG 0 (by kernel_rfl) fun i hi => ?_
  omega
theorem vb (R:Type) (other:ay.Spec R) (ho:ay.Spec.Ok Tryz.prog 156 other):ay.Spec.Ok Tryz.prog 156 (aA iw iz (oM bO) other) :=
  bu ho (bj TT mixed (wh R) (keep:=false) rfl rfl rfl rfl 0 (uH R)) fun (x:bN.av iw) (y:aH.av iz) k=>wT bH x.1 x.2.1 k

/-! ### strings.CutPrefix -/
abbrev nh (R:Type):Type:=aj→aj→(aj→Bool→Option R)→Option R
abbrev qj:List bN := [.leaf (.str), .leaf (.str)]
abbrev qk:List aH := []
noncomputable def zZ {R:Type} (fn:nh R):bN.av qj→aH.av qk→(V→az→Option R)→Option R:=fun x y k=>fn x.1 x.2.1 (fun q0 q1=>k (.tuple [.str q0, .bool q1]) [])
noncomputable def ql (R:Type) (bO:fv R):Env R:=fun i=>match i with
  | 156=>some (true,(aA iw iz (oM bO) bg))
  | _=>none
theorem Fo (R:Type):p6 Tryz.prog (ql R bO):=by
  intro i b sp h
  unfold ql at h
  split at h
  · cases h; exact ⟨(vb R _ (aO _)),fun h=>nomatch h⟩
  · cases h

noncomputable def AW (R:Type):Nat→Option (Hint × cr R):=fun i=>match i with
  | _=>none

noncomputable def AX {R:Type} (bO:fv R) (x1:aj) (x2:aj) (k0:aj→Bool→Option R):Option R :=
  bO x1 x2 (fun y3 y4=>k0 y3 y4)
noncomputable def dY {R:Type}:nh R:=fun x1 x2 k0=>AX bO x1 x2 k0
theorem Gb {R:Type} (bO:fv R) (x1:aj) (x2:aj) (k:V→az→Option R):iP tt (ql R bO) (AW R) false Tryz.f137 (aK Tryz.f137) [.str x1, .str x2] [] k =
    AX bO x1 x2 (fun q0 q1=>k (.tuple [.str q0, .bool q1]) []):=by kernel_rfl
theorem DT (R:Type):∀a∈aP (aK Tryz.f137),cR tt (ql R bO) (AW R) 0 a:=by
  refine bG 0 (by kernel_rfl) fun i hi => ?_
  omega
theorem ED (R:Type) (other:ay.Spec R) (ho:ay.Spec.Ok Tryz.prog 137 other):ay.Spec.Ok Tryz.prog 137 (aA qj qk (zZ dY) other) :=
  bu ho (bj TT mixed (Fo R) (keep:=false) rfl rfl rfl rfl 0 (DT R)) fun (x:bN.av qj) (y:aH.av qk) k=>Gb bO x.1 x.2.1 k

/-! ### (*humpyard/quote.reader).skip -/
abbrev dn (R:Type):Type:=aj→aj→(Bool→aj→Option R)→Option R
abbrev j4:List bN := [.leaf (.ptr 0 0), .leaf (.str)]
abbrev j7:List aH := [.cells [.str]]
noncomputable def oQ {R:Type} (fn:dn R):bN.av j4→aH.av j7→(V→az→Option R)→Option R:=fun x y k=>fn x.2.1 y.1.1 (fun q0 q1=>k (.bool q0) [.cells [.str q1]])
noncomputable def mI (R:Type) (dY:nh R):Env R:=fun i=>match i with
  | 137=>some (true,(aA qj qk (zZ dY) bg))
  | _=>none
theorem B7 (R:Type):p6 Tryz.prog (mI R dY):=by
  intro i b sp h
  unfold mI at h
  split at h
  · cases h; exact ⟨(ED R _ (aO _)),fun h=>nomatch h⟩
  · cases h

noncomputable def vd (R:Type):Nat→Option (Hint × cr R):=fun i=>match i with
  | _=>none

noncomputable def ve {R:Type} (dY:nh R) (x1:aj) (x2:aj) (k0:Bool→aj→Option R):Option R :=
  dY x2 x1 (fun y3 y4=>k0 y4 y3)
noncomputable def aD {R:Type}:dn R:=fun x1 x2 k0=>ve dY x1 x2 k0
theorem CB {R:Type} (dY:nh R) (x1:aj) (x2:aj) (k:V→az→Option R):iP tt (mI R dY) (vd R) false Tryz.f107 (aK Tryz.f107) [.ptr 0 0, .str x1] [.cells [.str x2]] k =
    ve dY x1 x2 (fun q0 q1=>k (.bool q0) [.cells [.str q1]]):=by kernel_rfl
theorem Az (R:Type):∀a∈aP (aK Tryz.f107),cR tt (mI R dY) (vd R) 1 a:=by
  refine bG 0 (by kernel_rfl) fun i hi => ?_
  omega
theorem sI (R:Type) (other:ay.Spec R) (ho:ay.Spec.Ok Tryz.prog 107 other):ay.Spec.Ok Tryz.prog 107 (aA j4 j7 (oQ aD) other) :=
  bu ho (bj TT mixed (B7 R) (keep:=false) rfl rfl rfl rfl 1 (Az R)) fun (x:bN.av j4) (y:aH.av j7) k=>CB dY x.2.1 y.1.1 k

/-! ### internal/strconv.lower -/
abbrev ct (R:Type):Type:=Int→(Int→Option R)→Option R
abbrev j8:List bN := [.leaf (.int .u8)]
abbrev j9:List aH := []
noncomputable def oR {R:Type} (fn:ct R):bN.av j8→aH.av j9→(V→az→Option R)→Option R:=fun x y k=>fn x.1 (fun q0=>k (.int .u8 q0) [])
noncomputable def mJ (R:Type):Env R:=fun i=>match i with
  | _=>none
theorem B8 (R:Type):p6 Tryz.prog (mJ R):=by
  intro i b sp h
  unfold mJ at h
  split at h
  · cases h

noncomputable def vf (R:Type):Nat→Option (Hint × cr R):=fun i=>match i with
  | _=>none

noncomputable def vg {R:Type} (x1:Int) (k0:Int→Option R):Option R :=
  k0 (IntKind.u8.wrap ((BitVec.ofInt IntKind.u8.bits x1 ||| BitVec.ofInt IntKind.u8.bits 32).toNat:Int))
noncomputable def internal_strconv_lower {R:Type}:ct R:=fun x1 k0=>vg x1 k0
theorem CC {R:Type} (x1:Int) (k:V→az→Option R):iP tt (mJ R) (vf R) false Tryz.f176 (aK Tryz.f176) [.int .u8 x1] [] k =
    vg x1 (fun q0=>k (.int .u8 q0) []):=by kernel_rfl
theorem AA (R:Type):∀a∈aP (aK Tryz.f176),cR tt (mJ R) (vf R) 0 a:=by
  refine bG 0 (by kernel_rfl) fun i hi => ?_
  omega
theorem sJ (R:Type) (other:ay.Spec R) (ho:ay.Spec.Ok Tryz.prog 176 other):ay.Spec.Ok Tryz.prog 176 (aA j8 j9 (oR internal_strconv_lower) other) :=
  bu ho (bj TT mixed (B8 R) (keep:=false) rfl rfl rfl rfl 0 (AA R)) fun (x:bN.av j8) (y:aH.av j9) k=>CC x.1 k

end Go.Proofs.YtmlkkgfenfdndaaGreatDoor

set_option maxRecDepth 100000
namespace Go.Proofs.YtmlkkgfenfdndaaGreatDoor
open Go Go.ay

theorem ZT {R:Type} (c n:Int) (hc:D3 c) (h0:0<n) (hn:n≤9223372036854775807):∃r:Int,0≤r∧r<n∧∀k:Int→Option R,gv c n k=k r:=M3 c n hc h0 hn

theorem Ng:∀(b:Nat) (m:Int),m≠0→m.natAbs<b→∃(j:Nat) (u:Int),m=u*10 ^ j∧Int.tmod u 10≠0
  | 0,m,_,h=>by omega
  | b+1,m,h0,hb=>by
    by_cases h:Int.tmod m 10=0
    · have hd:m=Int.tdiv m 10*10:=by have:=Int.tmod_add_mul_tdiv m 10; omega
      have hn:(Int.tdiv m 10).natAbs<m.natAbs:=by rw[Int.natAbs_tdiv]; show m.natAbs / 10<m.natAbs; omega
      obtain ⟨j,u,e,hu⟩:=Ng b (Int.tdiv m 10) (by omega) (by omega)
      refine ⟨j+1,u,?_,hu⟩
      rw[Int.pow_succ,←Int.mul_assoc,←e]
      exact hd
    · exact ⟨0,m,by simp,h⟩

theorem Po:∀(i j:Nat) (u v:Int),Int.tmod u 10≠0→Int.tmod v 10≠0→u*10 ^ i=v*10 ^ j→i=j∧u=v
  | 0,0,u,v,_,_,h=>⟨rfl,by simpa using h⟩
  | 0,j+1,u,v,hu,_,h=>by
    exfalso
    apply hu
    have:u=(v*10 ^ j)*10:=by rw[Int.pow_succ,←Int.mul_assoc]at h; simpa using h
    rw[this]
    exact Int.mul_tmod_left _ _
  | i+1,0,u,v,_,hv,h=>by
    exfalso
    apply hv
    have:v=(u*10 ^ i)*10:=by rw[Int.pow_succ,←Int.mul_assoc]at h; simpa using h.symm
    rw[this]
    exact Int.mul_tmod_left _ _
  | i+1,j+1,u,v,hu,hv,h=>by
    have h2:u*10 ^ i=v*10 ^ j:=by
      rw[Int.pow_succ,Int.pow_succ,←Int.mul_assoc,←Int.mul_assoc]at h
      omega
    obtain ⟨h3,h4⟩:=Po i j u v hu hv h2
    exact ⟨by omega,h4⟩

theorem Pp (j:Nat):(1:Int)≤10 ^ j:=by
  induction j with
  | zero=>simp
  | succ j ih=>rw[Int.pow_succ]; omega

theorem EE (u:Int) (j:Nat):u.natAbs≤(u*10 ^ j).natAbs:=by
  rw[Int.natAbs_mul]
  have h:=Pp j
  have:1≤((10:Int) ^ j).natAbs:=by omega
  exact Nat.le_mul_of_pos_right _ this

theorem Uk (u:Int) (hu:u≠0):∀j:Nat,j≤(u*10 ^ j).natAbs:=by
  intro j
  rw[Int.natAbs_mul]
  have h1:1≤u.natAbs:=by omega
  have h2:j≤((10:Int) ^ j).natAbs:=by
    induction j with
    | zero=>simp
    | succ j ih =>
      have:=Pp j
      rw[Int.pow_succ,Int.natAbs_mul]
      show j+1≤((10:Int) ^ j).natAbs*10
      omega
  calc j≤((10:Int) ^ j).natAbs:=h2
    _≤u.natAbs*((10:Int) ^ j).natAbs:=Nat.le_mul_of_pos_left _ h1

theorem Sh (u:Int) (hu:u≠0) (j:Nat):2 ^ j≤(u*10 ^ j).natAbs:=by
  rw[Int.natAbs_mul]
  have h2:∀j:Nat,2 ^ j≤((10:Int) ^ j).natAbs:=by
    intro j
    induction j with
    | zero=>simp
    | succ j ih =>
      rw[Int.pow_succ,Int.natAbs_mul,Nat.pow_succ]
      show 2 ^ j*2≤((10:Int) ^ j).natAbs*10
      omega
  exact Nat.le_trans (h2 j) (Nat.le_mul_of_pos_left _ (by omega))

theorem Nh {u:Int} (hu:u≠0) {j:Nat} (hb:D3 (u*10 ^ j)):j<64:=by
  have h:=Sh u hu j
  unfold D3 at hb
  rcases Nat.lt_or_ge j 64 with h1|h1
  · exact h1
  · have h2:(2:Nat) ^ 64≤2 ^ j:=Nat.pow_le_pow_right (by omega) h1
    have h3:(2:Nat) ^ 64=18446744073709551616:=rfl
    omega

theorem Xa {R:Type} (d:iZ) (e0:Int→Int→iZ→Option R):∀(j n:Nat) (u x:Int),j<n→Int.tmod u 10≠0→D3 (u*10 ^ j) → -9223372036854775808≤x→x+j≤4000000000000000000 →
    bx n (u*10 ^ j) x d e0=e0 u (x+j) d:=by
  intro j
  induction j with
  | zero =>
    intro n u x hn hu hb h1 h2
    obtain ⟨m,rfl⟩:∃m,n=m+1:=⟨n - 1,by omega⟩
    have e:bx (m+1) (u*10 ^ 0) x d e0=mz (fun lY lZ mF=>bx m lY lZ mF e0) (u*10 ^ 0) x d e0:=rfl
    rw[e]
    unfold mz
    have e1:u*10 ^ 0=u:=by simp
    have e2:(Int.tmod u 10==0)=false:=by rw[beq_eq_false_iff_ne]; exact hu
    rw[e1,e2,cond_false]
    simp
  | succ j ih =>
    intro n u x hn hu hb h1 h2
    obtain ⟨m,rfl⟩:∃m,n=m+1:=⟨n - 1,by omega⟩
    have e:bx (m+1) (u*10 ^ (j+1)) x d e0=mz (fun lY lZ mF=>bx m lY lZ mF e0) (u*10 ^ (j+1)) x d e0:=rfl
    rw[e]
    unfold mz
    have ep:u*10 ^ (j+1)=u*10 ^ j*10:=by rw[Int.pow_succ,Int.mul_assoc]
    unfold D3 at hb
    rw[ep]at hb ⊢
    have e1:(Int.tmod (u*10 ^ j*10) 10==0)=true:=by rw[Int.mul_tmod_left]; rfl
    have e2:Int.tdiv (u*10 ^ j*10) 10=u*10 ^ j:=Int.mul_tdiv_cancel _ (by omega)
    rw[e1,cond_true,e2,dB (n:=u*10 ^ j) (by omega) (by omega),dB (n:=x+1) (by omega) (by omega)]
    show bx m (u*10 ^ j) (x+1) d e0=_
    rw[ih m u (x+1) (by omega) hu (by unfold D3; omega) (by omega) (by omega)]
    have:x+1+(j:Int)=x+((j+1:Nat):Int):=by omega
    rw[this]

theorem DU {R:Type} (a b c:Int) (k:Bool→Option R):aY a b c k=k (decide (a≤b)&&decide (b≤c)):=by
  have e:aY a b c k=o5 a b c k:=rfl
  rw[e]
  unfold o5
  by_cases h1:a≤b
  · rw[bq h1]; first|rfl|simp
  · rw[dd h1]; first|rfl|simp

def S0 (u x:Int):iZ × Bool:=if -1000000000000000≤u∧u≤1000000000000000 ∧ -9≤x∧x≤9 then (⟨u,x⟩,true)else (⟨0,0⟩,false)

theorem Vu {R:Type} (u:Int) (j:Nat) (x:Int) (hu:Int.tmod u 10≠0) (hb:D3 (u*10 ^ j)) (h1 : -9223372036854775808≤x) (h2:x≤1000000) (k:iZ→Bool→Option R) :
    bM (u*10 ^ j) x k=k (S0 u (x+j)).1 (S0 u (x+j)).2:=by
  have e:bM (u*10 ^ j) x k=oA aY bx (u*10 ^ j) x k:=rfl
  rw[e]
  unfold oA
  have hu0:u≠0:=by rintro rfl; exact hu rfl
  have ha:=EE u j
  have hn:=Uk u hu0 j
  have h64:=Nh hu0 hb
  have h0:(u*10 ^ j==0)=false:=by rw[beq_eq_false_iff_ne]; omega
  have hm:min x 1000000=x:=Int.min_eq_left h2
  unfold D3 at hb
  rw[h0,cond_false,hm,Xa _ _ j _ u x (by omega) hu (by unfold D3; exact hb) h1 (by omega)]
  rw[DU]
  unfold S0
  by_cases c1 : -1000000000000000≤u∧u≤1000000000000000
  · rw[bq c1.1,bq c1.2]
    simp only[Bool.and_self,Bool.not_true,cond_false]
    rw[DU]
    by_cases c2 : -9≤x+(j:Int)∧x+(j:Int)≤9
    · rw[bq c2.1,bq c2.2,if_pos ⟨c1.1,c1.2,c2.1,c2.2⟩]
      rfl
    · rw[if_neg (fun h=>c2 h.2.2)]
      have:(decide (-9≤x+(j:Int))&&decide (x+(j:Int)≤9))=false:=by
        rw[Bool.and_eq_false_iff,decide_eq_false_iff_not,decide_eq_false_iff_not]; omega
      rw[this]
      rfl
  · rw[if_neg (fun h=>c1 ⟨h.1,h.2.1⟩)]
    have:(decide (-1000000000000000≤u)&&decide (u≤1000000000000000))=false:=by
      rw[Bool.and_eq_false_iff,decide_eq_false_iff_not,decide_eq_false_iff_not]; omega
    rw[this]
    rfl

theorem Pq {R:Type} (x:Int) (k:iZ→Bool→Option R):bM 0 x k=k ⟨0,0⟩ true:=by
  have e:bM 0 x k=oA aY bx 0 x k:=rfl
  rw[e]
  rfl

theorem ZU {R:Type} {u x:Int} (hu:Int.tmod u 10≠0) (h : -1000000000000000≤u∧u≤1000000000000000 ∧ -9≤x∧x≤9) (k:Bool→Option R):cg ⟨u,x⟩ k=k true:=by
  have e:cg ⟨u,x⟩ k=l9 aY ⟨u,x⟩ k:=rfl
  rw[e]
  unfold l9
  have hu0:u≠0:=by rintro rfl; exact hu rfl
  have e1:(u==0)=false:=by rw[beq_eq_false_iff_ne]; exact hu0
  have e2:(Int.tmod u 10 != 0)=true:=bne_iff_ne.2 hu
  simp only[e1,e2,cond_false,cond_true,DU]
  rw[bq h.1,bq h.2.1,bq h.2.2.1,bq h.2.2.2]
  rfl

end Go.Proofs.YtmlkkgfenfdndaaGreatDoor

set_option maxRecDepth 100000
namespace Go.Proofs.YtmlkkgfenfdndaaGreatDoor
open Go Go.ay Go.Lib

def Fm (d:iZ):Prop:=(d.aB=0∧d.exp=0)∨(Int.tmod d.aB 10≠0 ∧ -1000000000000000≤d.aB∧d.aB≤1000000000000000 ∧ -9≤d.exp∧d.exp≤9)

theorem Fm.bounds {d:iZ} (h:Fm d) : -1000000000000000≤d.aB∧d.aB≤1000000000000000 ∧ -9≤d.exp∧d.exp≤9:=by
  rcases h with h|h <;> omega
theorem Fm.nz {d:iZ} (h:Fm d) (h0:d.aB≠0):Int.tmod d.aB 10≠0:=by
  rcases h with h|h
  · exact (h0 h.1).elim
  · exact h.1
theorem Fm.zero {d:iZ} (h:Fm d) (h0:d.aB=0):d=⟨0,0⟩:=by
  rcases h with h|h
  · cases d; simp only at h; rw[h.1,h.2]
  · exact (h.1 (by rw[h0]; rfl)).elim
theorem Fm.mk0:Fm ⟨0,0⟩ := .inl ⟨rfl,rfl⟩
theorem tmod_neg {m:Int} (h:Int.tmod m 10≠0):Int.tmod (-m) 10≠0:=by rw[Int.neg_tmod]; omega
theorem Fm.neg {d:iZ} (h:Fm d):Fm ⟨-d.aB,d.exp⟩:=by
  rcases h with h|h
  · exact .inl ⟨by simp only; omega,h.2⟩
  · exact .inr ⟨tmod_neg h.1,by simp only; omega,by simp only; omega,h.2.2.2⟩

theorem ZV {R:Type} {d:iZ} (h:Fm d) (k:Bool→Option R):cg d k=k true:=by
  rcases h with h|h
  · have e:cg d k=l9 aY d k:=rfl
    rw[e]
    unfold l9
    rw[h.1,h.2]
    rfl
  · cases d; exact ZU h.1 h.2 k

theorem ZW {R:Type} (x:Int) (d:iZ) (e0:Int→Int→iZ→Option R):∀(j n:Nat) (u:Int),j<n→Int.tmod u 10≠0→D3 (u*10 ^ j) →
    cx n (u*10 ^ j) x d e0=e0 u x d:=by
  intro j
  induction j with
  | zero =>
    intro n u hn hu hb
    obtain ⟨m,rfl⟩:∃m,n=m+1:=⟨n - 1,by omega⟩
    have e:cx (m+1) (u*10 ^ 0) x d e0=oT (fun lY lZ mF=>cx m lY lZ mF e0) (u*10 ^ 0) x d e0:=rfl
    rw[e]
    unfold oT
    have e1:u*10 ^ 0=u:=by simp
    have e2:(Int.tmod u 10==0)=false:=by rw[beq_eq_false_iff_ne]; exact hu
    have e3:(u != 0)=true:=bne_iff_ne.2 (by rintro rfl; exact hu rfl)
    rw[e1,e3,cond_true,e2,cond_false]
  | succ j ih =>
    intro n u hn hu hb
    obtain ⟨m,rfl⟩:∃m,n=m+1:=⟨n - 1,by omega⟩
    have e:cx (m+1) (u*10 ^ (j+1)) x d e0=oT (fun lY lZ mF=>cx m lY lZ mF e0) (u*10 ^ (j+1)) x d e0:=rfl
    rw[e]
    unfold oT
    have ep:u*10 ^ (j+1)=u*10 ^ j*10:=by rw[Int.pow_succ,Int.mul_assoc]
    have hu0:u≠0:=by rintro rfl; exact hu rfl
    have hab:=EE u (j+1)
    have e3:(u*10 ^ (j+1) != 0)=true:=bne_iff_ne.2 (by omega)
    unfold D3 at hb
    rw[e3,cond_true]
    rw[ep]at hb ⊢
    have e1:(Int.tmod (u*10 ^ j*10) 10==0)=true:=by rw[Int.mul_tmod_left]; rfl
    have e2:Int.tdiv (u*10 ^ j*10) 10=u*10 ^ j:=Int.mul_tdiv_cancel _ (by omega)
    rw[e1,cond_true,e2,dB (n:=u*10 ^ j) (by omega) (by omega)]
    exact ih m u (by omega) hu (by unfold D3; omega)

theorem fit_ok {R:Type} (a b:Int) (ha:D3 a) (hb:D3 b):∃d:iZ,Fm d∧∀k:iZ→Option R,dp a b k=k d:=by
  obtain ⟨m,m0,m1,hm⟩:=ZT (R:=R) a 2000000000000001 ha (by omega) (by omega)
  obtain ⟨x,x0,x1,hx⟩:=ZT (R:=R) b 19 hb (by omega) (by omega)
  have e:∀k:iZ→Option R,dp a b k=zU gv cx a b k:=fun _=>rfl
  by_cases h0:m - 1000000000000000=0
  · refine ⟨⟨0,0⟩, .mk0,fun k => ?_⟩
    rw[e]
    unfold zU
    rw[hm,hx,dB (n:=m - 1000000000000000) (by omega) (by omega),h0]
    rfl
  · obtain ⟨j,u,hu,hd⟩:=Ng ((m - 1000000000000000).natAbs+1) _ h0 (by omega)
    have hab:=EE u j
    have hb64:D3 (u*10 ^ j):=by unfold D3; omega
    have h64:=Nh (by rintro rfl; exact hd rfl) hb64
    refine ⟨⟨u,x - 9⟩, .inr ⟨hd,by simp only; omega,by simp only; omega,by simp only; omega,by simp only; omega⟩,fun k => ?_⟩
    rw[e]
    unfold zU
    rw[hm,hx,dB (n:=m - 1000000000000000) (by omega) (by omega),dB (n:=x - 9) (by omega) (by omega)]
    have key:=fun (F:Nat) (hF:j<F)=>ZW (R:=R) (x - 9) ⟨0,0⟩ (fun y9 yJ wL=>bif (y9==0)then (k (⟨y9,0⟩:iZ))else (k (⟨y9,yJ⟩:iZ))) j F u hF hd hb64
    rw[←hu]at key
    rw[key _ (by omega)]
    have e0:(u==0)=false:=by rw[beq_eq_false_iff_ne]; rintro rfl; exact hd rfl
    rw[e0]
    rfl


def Made (m x:Int) (r:iZ × Bool):Prop:=(m=0∧r=(⟨0,0⟩,true))∨∃(u:Int) (j:Nat),m=u*10 ^ j∧Int.tmod u 10≠0∧r=S0 u (x+j)

theorem ZX {R:Type} (m x:Int) (hm:D3 m) (h1 : -4000000000000000000≤x) (h2:x≤1000000):∃r:iZ × Bool,Made m x r∧∀k:iZ→Bool→Option R,bM m x k=k r.1 r.2:=by
  by_cases h0:m=0
  · subst h0
    exact ⟨_, .inl ⟨rfl,rfl⟩,fun k=>Pq x k⟩
  · obtain ⟨j,u,hu,hd⟩:=Ng (m.natAbs+1) m h0 (by omega)
    exact ⟨_, .inr ⟨u,j,hu,hd,rfl⟩,fun k=>by subst hu; exact Vu u j x hd hm (by omega) h2 k⟩

def val (d:iZ):Int:=d.aB*10 ^ (d.exp+9).toNat

theorem Si (u:Nat) (h:0<u):10 ^ (nDigits u - 1)≤u:=by
  induction u using Nat.strongRecOn with
  | _ u ih =>
    by_cases h1:u<10
    · rw[nDigits_small h1]; exact h
    · rw[nDigits_big h1,Nat.add_sub_cancel]
      have h2:=ih (u / 10) (by omega) (by omega)
      have h3:=nDigits_pos (u / 10)
      have e:nDigits (u / 10)=(nDigits (u / 10) - 1)+1:=by omega
      rw[e,Nat.pow_succ]
      omega

theorem Ni {u:Nat} (h:u≤1000000000000000):nDigits u≤16:=by
  rcases Nat.eq_zero_or_pos u with rfl|h0
  · rw[nDigits_small (by omega)]; omega
  · have h1:=Si u h0
    rcases Nat.lt_or_ge (nDigits u) 17 with h2|h2
    · omega
    · have h3:(10:Nat) ^ 16≤10 ^ (nDigits u - 1):=Nat.pow_le_pow_right (by omega) (by omega)
      have e:(10:Nat) ^ 16=10000000000000000:=rfl
      omega

theorem ZY {u x:Int} (hu:Int.tmod u 10≠0) (h:(S0 u x).2=true):S0 u x=(⟨u,x⟩,true)∧Fm ⟨u,x⟩:=by
  unfold S0 at h ⊢
  split at h
  · rename_i hc
    rw[if_pos hc]
    exact ⟨rfl, .inr ⟨hu,hc⟩⟩
  · cases h
theorem Xb {d:iZ} (h:Fm d) (h0:d.aB≠0) {j:Nat} {x:Int} (hx:x+j=d.exp) {r:iZ × Bool} (hr:Made (d.aB*10 ^ j) x r):r=(d,true):=by
  have hz:=h.nz h0
  have hab:=EE d.aB j
  rcases hr with ⟨h1,_⟩|⟨u,i,e,hu,rfl⟩
  · omega
  · obtain ⟨rfl,rfl⟩:=Po i j u d.aB hu hz e.symm
    have b:=h.bounds
    unfold S0
    rw[if_pos (by omega),hx]

end Go.Proofs.YtmlkkgfenfdndaaGreatDoor

set_option maxRecDepth 100000
namespace Go.Proofs.YtmlkkgfenfdndaaGreatDoor
open Go Go.ay

abbrev zs (s:aj):List Int:=s.map fun b=>(b.toNat:Int)
theorem Ul (s t:aj):zs (s++t)=zs s++zs t:=List.map_append
theorem Kj (s:aj):oP s=zs s:=rfl
theorem HZ (s:aj):(zs s).length=s.length:=List.length_map _
theorem tW (s:aj):td (zs s)=s:=by
  unfold td zs
  rw[List.map_map]
  conv=>rhs; rw[←List.map_id s]
  exact List.map_congr_left fun b _=>by simp
theorem yS (n:Nat) (h:n<256):((UInt8.ofNat n).toNat:Int)=n:=by rw[hY n h]

def Jh (s:aj):Prop:=s.length≤100000000000

theorem wb {R:Type} (b:UInt8) (s:aj) (hl:Jh s) (k:List Int→Option R):ad (b.toNat:Int) (zs s) k=k (zs (s ++ [b])):=by
  show cU (decide (((zs s).length+1)*1≤140737488355328)) (k (zs s ++ [(b.toNat:Int)]))=_
  unfold Jh at hl
  rw[aS (bq (by rw[HZ]; omega)),Ul]
  rfl

theorem ws {R:Type} (x:aj) (s:aj) (hx:x.length≤100000000000) (hl:Jh s) (k:Int→List Int→Option R):af x (zs s) k=k (x.length:Int) (zs (s++x)):=by
  show cU (decide (((zs s).length+(oP x).length)*1≤140737488355328)) (k (x.length:Int) (zs s++oP x))=_
  unfold Jh at hl
  rw[Kj,aS (bq (by rw[HZ,HZ]; omega)),Ul]

theorem or128:∀x:Fin 64,IntKind.u8.wrap ((BitVec.ofInt IntKind.u8.bits 128 ||| BitVec.ofInt IntKind.u8.bits (x.val:Int)).toNat:Int)=((128+x.val:Nat):Int):=by decide +kernel
theorem or192:∀x:Fin 32,IntKind.u8.wrap ((BitVec.ofInt IntKind.u8.bits 192 ||| BitVec.ofInt IntKind.u8.bits (IntKind.u8.wrap (x.val:Int))).toNat:Int)=((192+x.val:Nat):Int):=by decide +kernel
theorem or224:∀x:Fin 16,IntKind.u8.wrap ((BitVec.ofInt IntKind.u8.bits 224 ||| BitVec.ofInt IntKind.u8.bits (IntKind.u8.wrap (x.val:Int))).toNat:Int)=((224+x.val:Nat):Int):=by decide +kernel
theorem or240:∀x:Fin 8,IntKind.u8.wrap ((BitVec.ofInt IntKind.u8.bits 240 ||| BitVec.ofInt IntKind.u8.bits (IntKind.u8.wrap (x.val:Int))).toNat:Int)=((240+x.val:Nat):Int):=by decide +kernel
theorem and63:∀x:Fin 256,IntKind.u8.wrap ((BitVec.ofInt IntKind.u8.bits (x.val:Int) &&& BitVec.ofInt IntKind.u8.bits 63).toNat:Int)=((x.val % 64:Nat):Int):=by decide +kernel

theorem ZZ (n:Nat):IntKind.u8.wrap (n:Int)=((n % 256:Nat):Int):=by
  simp only[IntKind.wrap,IntKind.bits,IntKind.signed]
  simp
theorem Vv {n:Nat} (h:n<1114112):IntKind.u32.wrap (n:Int)=(n:Int):=by
  simp only[IntKind.wrap,IntKind.bits,IntKind.signed]
  simp
  omega
theorem shr (c n:Nat) (h:n≤32):Int.fdiv (c:Int) (2 ^ (min n IntKind.i32.bits))=((c / 2 ^ n:Nat):Int):=by
  have e:min n IntKind.i32.bits=n:=Nat.min_eq_left h
  rw[e,Int.fdiv_eq_ediv_of_nonneg _ (by exact Int.le_of_lt (Int.pow_pos (by omega)))]
  rw[Int.natCast_ediv]
  congr 1

theorem cont (c:Nat):IntKind.u8.wrap ((BitVec.ofInt IntKind.u8.bits 128 ||| BitVec.ofInt IntKind.u8.bits (IntKind.u8.wrap ((BitVec.ofInt IntKind.u8.bits (IntKind.u8.wrap (c:Int)) &&& BitVec.ofInt IntKind.u8.bits 63).toNat:Int))).toNat:Int)=((128+c % 64:Nat):Int):=by
  have h1:=and63 ⟨c % 256,Nat.mod_lt _ (by omega)⟩
  simp only at h1
  rw[ZZ c,h1,show c % 256 % 64=c % 64 by omega]
  exact or128 ⟨c % 64,Nat.mod_lt _ (by omega)⟩

theorem zs_enc1 (n:Nat) (h:n<256):zs [UInt8.ofNat n] = [(n:Int)]:=by simp only[zs,List.map_cons,List.map_nil,yS n h]

theorem ar {R:Type} {c:Nat} (hv:vr c) (s:aj) (hl:Jh s) (k:List Int→Option R):bP (zs s) (c:Int) k=k (zs (s++enc c)):=by
  have lp:=Pl hv
  unfold Jh at hl
  show jk bw (zs s) (c:Int) k=_
  unfold jk
  rw[Vv lp,Ul]
  rcases DJ hv with ⟨h1,e⟩|⟨h0,h1,e⟩|⟨h0,h1,e⟩|⟨h0,e⟩
  · rw[bq (show (c:Int)≤127 by omega),cond_true,aS (bq (by rw[HZ]; omega)),e,zs_enc1 c (by omega),ZZ,Nat.mod_eq_of_lt (by omega)]
  all_goals
    rw[dd (show ¬(c:Int)≤127 by omega),cond_false]
    show fK (zs s) (c:Int) _=_
    unfold fK
    rw[Vv lp,e]
    simp only[cont,shr _ 6 (by omega),shr _ 12 (by omega),shr _ 18 (by omega),HZ]
  · rw[bq (show (c:Int)≤2047 by omega),cond_true,aS (bq (by omega))]
    have:=or192 ⟨c / 64,by omega⟩
    simp only at this
    rw[show c / 2 ^ 6=c / 64 from rfl,this]
    simp only[zs,List.map_cons,List.map_nil,yS (192+c / 64) (by omega),yS (128+c % 64) (by omega)]
  · rw[dd (show ¬(c:Int)≤2047 by omega),cond_false]
    unfold vr at hv
    by_cases h2:c<55296
    · rw[bq (show (c:Int)<55296 by omega),cond_true,cond_true,aS (bq (by omega))]
      have:=or224 ⟨c / 4096,by omega⟩
      simp only at this
      rw[show c / 2 ^ 12=c / 4096 from rfl,this]
      simp only[zs,List.map_cons,List.map_nil,yS (224+c / 4096) (by omega),yS (128+c % 64) (by omega),yS (128+c / 64 % 64) (by omega)]
    rw[dd (show ¬(c:Int)<55296 by omega),cond_false,bq (show (57343:Int)<(c:Int) by omega),cond_true,bq (show (c:Int)≤65535 by omega),cond_true,aS (bq (by omega))]
    have:=or224 ⟨c / 4096,by omega⟩
    simp only at this
    rw[show c / 2 ^ 12=c / 4096 from rfl,this]
    simp only[zs,List.map_cons,List.map_nil,yS (224+c / 4096) (by omega),yS (128+c % 64) (by omega),yS (128+c / 64 % 64) (by omega)]
  · rw[dd (show ¬(c:Int)≤2047 by omega),cond_false]
    rw[dd (show ¬(c:Int)<55296 by omega),cond_false,bq (show (57343:Int)<(c:Int) by omega),cond_true,dd (show ¬(c:Int)≤65535 by omega),cond_false,
      bq (show (c:Int)>65535 by omega),cond_true,bq (show (c:Int)≤1114111 by omega),cond_true,aS (bq (by omega))]
    have:=or240 ⟨c / 262144,by omega⟩
    simp only at this
    rw[show c / 2 ^ 18=c / 262144 from rfl,this]
    simp only[zs,List.map_cons,List.map_nil,yS (240+c / 262144) (by omega),yS (128+c % 64) (by omega),yS (128+c / 64 % 64) (by omega),yS (128+c / 4096 % 64) (by omega)]

theorem wr {R:Type} {c:Nat} (hv:vr c) (s:aj) (hl:Jh s) (k:Int→List Int→Option R):∃n:Int,ai (c:Int) (zs s) k=k n (zs (s++enc c)):=by
  refine ⟨IntKind.i64.wrap (((zs (s++enc c)).length:Int) - ((zs s).length:Int)),?_⟩
  show ig bP (c:Int) (zs s) k=_
  unfold ig
  rw[ar hv s hl]
end Go.Proofs.YtmlkkgfenfdndaaGreatDoor

set_option maxRecDepth 100000
namespace Go.Proofs.YtmlkkgfenfdndaaGreatDoor
open Go Go.ay Go.Lib

def ka (n:Nat):aj:=List.replicate n 48
theorem qD (n:Nat):(ka n).length=n:=List.length_replicate
theorem Hn:∀n:Nat,repeatL [48] n=ka n
  | 0=>rfl
  | n+1=>by
    have:=Hn n
    simp[repeatL,ka,List.replicate_succ]at this ⊢
    try exact this
theorem Um (z:Int):lX [48] z=ka z.toNat:=Hn _

def body (L:aj) (e:Int):aj :=
  if 0≤e then L++ka e.toNat
  else
    let t:=ka (max 0 (1 - e - (L.length:Int))).toNat++L
    t.take ((t.length:Int)+e).toNat ++ [46]++t.drop ((t.length:Int)+e).toNat
def Od (d:iZ):aj:=(if d.aB<0 then [45]else [])++body (decDigits d.aB.natAbs) d.exp

theorem wsn {R:Type} (x:aj) (hx:x.length≤100000000000) (k:Int→List Int→Option R):ag x k=k (x.length:Int) (zs x):=by
  show cU (decide ((0+(oP x).length)*1≤140737488355328)) (k (x.length:Int) (oP x))=_
  rw[Kj,aS (bq (by rw[HZ]; omega))]

theorem Z0 {R:Type} {d:iZ} (h:Fm d) (k:aj→Option R):bc d k=k (Od d):=by
  have b:=h.bounds
  have e:bc d k=oX cg ah af ag d k:=rfl
  rw[e]
  unfold oX
  rw[ZV h,Bool.not_true,cond_false]
  have hL:cy (max d.aB (IntKind.i64.wrap (0 - d.aB)))=decDigits d.aB.natAbs:=by
    rw[dB (n:=0 - d.aB) (by omega) (by omega)]
    have hm:max d.aB (0 - d.aB)=(d.aB.natAbs:Int):=by omega
    rw[hm]
    exact itoa_nonneg _
  have hlen:(decDigits d.aB.natAbs).length≤16:=by rw[decDigits_length]; exact Ni (by omega)
  simp only[hL,Um]
  unfold Od
  generalize decDigits d.aB.natAbs=L at *
  have w1:IntKind.i64.wrap (1 - d.exp)=1 - d.exp:=dB (by omega) (by omega)
  have w2:IntKind.i64.wrap (1 - d.exp - (L.length:Int))=1 - d.exp - (L.length:Int):=dB (by omega) (by omega)
  rw[w1,w2]
  have one:(([48]:aj).length:Int)=1:=rfl
  rw[one]
  have z0:0≤max 0 (1 - d.exp - (L.length:Int)):=by omega
  have zl:max 0 (1 - d.exp - (L.length:Int))≤10:=by omega
  have zL:1 - d.exp≤max 0 (1 - d.exp - (L.length:Int))+L.length:=by omega
  unfold body
  simp only
  generalize max 0 (1 - d.exp - (L.length:Int))=z at *
  have tl:(ka z.toNat++L).length=z.toNat+L.length:=by rw[List.length_append,qD]
  generalize ka z.toNat++L=t at *
  have Sj:∀a b:aj,(a++b).length=a.length+b.length:=fun a b=>List.length_append
  have lone:([46]:aj).length=1:=rfl
  have e45:([45]:List Int)=zs [45]:=rfl
  have q2:∀(x:Int) (f:List Int→Option R),ah x f=f [x]:=fun _ _=>rfl
  have lim45:Jh [45]:=by unfold Jh; simp
  by_cases he:0≤d.exp
  · rw[bq (show d.exp≥0 from he),if_pos he]
    by_cases hm:d.aB<0
    · rw[bq hm,if_pos hm]
      simp only[cond_true]
      rw[q2,aS (by rw[bq (show 1*d.exp≤140737488355328 by omega)]; rfl),aS (bq (by rw[qD]; omega)),e45,ws _ _ (by rw[Sj,qD]; omega) lim45,tW]
    · rw[dd hm,if_neg hm]
      simp only[cond_true,cond_false]
      rw[aS (by rw[bq (show 1*d.exp≤140737488355328 by omega)]; rfl),aS (bq (by rw[qD]; omega)),wsn _ (by rw[Sj,qD]; omega),tW]
      rfl
  · have wt:IntKind.i64.wrap ((t.length:Int)+d.exp)=(t.length:Int)+d.exp:=dB (by omega) (by omega)
    rw[dd (show ¬d.exp≥0 from he),if_neg he]
    simp only[wt,List.drop_zero,Nat.sub_zero,Int.toNat_natCast,cond_false]
    have l1:(t.take ((t.length:Int)+d.exp).toNat).length≤t.length:=by rw[List.length_take]; omega
    have l2:(t.drop ((t.length:Int)+d.exp).toNat).length≤t.length:=by rw[List.length_drop]; omega
    have c1:(decide ((0:Int)≤(t.length:Int)+d.exp)&&decide ((t.length:Int)+d.exp≤(t.length:Int)))=true:=by rw[bq (by omega),bq (by omega)]; rfl
    have c2:(decide ((0:Int)≤(t.length:Int))&&decide ((t.length:Int)≤(t.length:Int)))=true:=by rw[bq (by omega),bq (by omega)]; rfl
    have c3:(decide ((0:Int)≤z)&&decide (1*z≤140737488355328))=true:=by rw[bq z0,bq (by omega)]; rfl
    have et:(t.drop ((t.length:Int)+d.exp).toNat).take (t.length - ((t.length:Int)+d.exp).toNat)=t.drop ((t.length:Int)+d.exp).toNat:=List.take_of_length_le (by rw[List.length_drop]; exact Nat.le_refl _)
    rw[et]
    by_cases hm:d.aB<0
    · rw[bq hm,if_pos hm]
      simp only[cond_true]
      rw[q2,aS c3,aS (bq (by rw[qD]; omega)),aS c1,aS (bq (by omega)),aS (bq (by omega)),aS c2,aS c1,aS (bq (by rw[Sj,lone]; omega)),e45,ws _ _ (by rw[Sj,Sj,lone]; omega) lim45,tW]
    · rw[dd hm,if_neg hm]
      simp only[cond_false]
      rw[aS c3,aS (bq (by rw[qD]; omega)),aS c1,aS (bq (by omega)),aS (bq (by omega)),aS c2,aS c1,aS (bq (by rw[Sj,lone]; omega)),wsn _ (by rw[Sj,Sj,lone]; omega),tW]
      rfl
end Go.Proofs.YtmlkkgfenfdndaaGreatDoor

