/-
  JsonSpread: for every input whose bulk is at most 1048576 the law returns true, and each argument reads behind the call as it read before; part 6 of 8 of the proof: an interpreter of the model's code over typed data, proved sound; the functions that the law reaches, printed as Lean functions and tied; the plain law. Own texts laid one behind the other.
-/
import Derived.Test.YtmlkkgfenfdndaaGreatDoorCards
import Derived.Test.YtmlkkgfenfdndaaGreatDoorTie
import Derived.Lib.LaidU8T
import Derived.Stop.LaidErr
import Derived.Deep.DeepHandedRow
import Derived.Deep.DeepWitnessRowRef
import Derived.WalkKit
import Derived.ProofKit
import Derived.OpenShut
import Derived.KernelRfl
import Derived.Lib.ValidU
import Derived.Lib.ItoaLen
import Derived.Lib.Repeat
import Derived.Lib.AtoiAll
import Derived.Lib.IndexAny
import Derived.Lib.Bytealg
import Derived.Lib.SlTrimSet
import Derived.Lib.LastIndexByte
import Derived.Lib.ValidLaws
import Derived.Lib.MapLaws
import Derived.Lib.TrimUEq
import Derived.Lib.RuneBytes
import Derived.Sort.Grow
import Derived.Shelf.Strings.BuilderX
import Derived.Lib.ItoaMem
import Derived.Test.YtmlkkgfenfdndaaGreatDoorJsonSpreadB5
set_option linter.unusedSimpArgs false
set_option linter.unnecessarySimpa false
set_option linter.unusedVariables false
set_option linter.unusedSectionVars false
set_option maxRecDepth 100000
namespace Go.Proofs.YtmlkkgfenfdndaaGreatDoor.Door
open Go Go.Lib Go.RowKit Go.ChangeShapes Go.ay

theorem own:ownKnob Tryz.prog.godebug=none:=by kernel_rfl
theorem leaves:Iz Tryz.prog Go.Proofs.YtmlkkgfenfdndaaGreatDoor.tt:=Wp (by kernel_rfl)

theorem gSyn:Tryz.prog.globalNamed "strconv.ErrSyntax" = some 4:=by kernel_rfl
theorem gRng:Tryz.prog.globalNamed "strconv.ErrRange" = some 5:=by kernel_rfl
theorem tSyn:(Tryz.prog.globals[4]?).map (·.type)=some 94:=by kernel_rfl
theorem tRng:(Tryz.prog.globals[5]?).map (·.type)=some 94:=by kernel_rfl
theorem star : "*" ++ "errors.errorString" = "*errors.errorString" :=by decide
theorem Za (u:TypeId) (h:Tryz.prog.typeName? 3 u=some "*errors.errorString"):u=204 :=
  typeName_ptr_named (nm := "errors.errorString") (by rw[star]; kernel_rfl) (by kernel_rfl) (by decide) u (by rw[star]; exact h)

theorem Wv {n:String} {g:Nat} {W:World} {cs:Array Value} (hg:Tryz.prog.globalNamed n=some g) (h:W.var? Tryz.prog n=some cs):g<W.heap.size:=by
  unfold World.var? at h
  simp only[hg,Option.bind_some]at h
  rcases Nat.lt_or_ge g W.heap.size with h'|h'
  · exact h'
  · simp[Array.getElem?_eq_none h']at h

theorem lay_met {W:World} (h:laidMet Tryz.prog Rows.topTextsUptoRow.laid W):oY.Vl W∧∀b,oY.blocks b→b<W.heap.size:=by
  have r0:VarReads Tryz.prog W "unicode/utf8.first" firstData:=laidMet.reads h (.tail _ (.tail _ (.tail _ (.tail _ (.tail _ (.tail _ (.head _)))))))
  have r1:VarReads Tryz.prog W "unicode/utf8.acceptRanges" acceptData:=laidMet.reads h (.tail _ (.tail _ (.tail _ (.head _))))
  have ht:Utf8Tabs 1 2 W:=utf8Tabs_of_readsT (U8Types.of196 Tryz.Y7) ⟨by kernel_rfl,by kernel_rfl,by kernel_rfl,by kernel_rfl,by kernel_rfl,by kernel_rfl,by kernel_rfl⟩ r0 r1
  have h2:=laidMet.tail (laidMet.tail h)
  have hp:TabIs Tryz.prog W "internal/strconv.uint64pow10" .u64 pow10Tab:=tabIs_of_head (t:=192) (e:=165) (n:=20) Oy (by kernel_rfl) (by kernel_rfl) (by kernel_rfl) (by kernel_rfl) (by kernel_rfl) h2
  have h4:=laidMet.tail (laidMet.tail h2)
  obtain ⟨a3,s3,v3,_⟩:=laid_sentinel (ms := #[("Error",75)]) (f := { name := "s",type:=9,offset:=0,embedded:=false,tag := "",pkgPath := "errors",byteOffset:=0 }) (te:=206) (ts:=9) h4 gRng tRng (by kernel_rfl) Za (by kernel_rfl) (by kernel_rfl) rfl rfl (by kernel_rfl) (by kernel_rfl) (by kernel_rfl)
  obtain ⟨a2,s2,v2,_⟩:=laid_sentinel (ms := #[("Error",75)]) (f := { name := "s",type:=9,offset:=0,embedded:=false,tag := "",pkgPath := "errors",byteOffset:=0 }) (te:=206) (ts:=9) (laidMet.tail h4) gSyn tSyn (by kernel_rfl) Za (by kernel_rfl) (by kernel_rfl) rfl rfl (by kernel_rfl) (by kernel_rfl) (by kernel_rfl)
  refine ⟨⟨ht,hp,⟨_,_,World.var?_cell gSyn v2 0⟩,⟨_,_,World.var?_cell gRng v3 0⟩⟩,fun b hb => ?_⟩
  have hb:b<8:=hb
  obtain ⟨g,t,cs,fuel,p,hg,_,hv,_⟩:VarReads Tryz.prog W "math/bits.deBruijn64tab" Rows.laid_math_bits_deBruijn64tab:=laidMet.reads h (.tail _ (.head _))
  have e:(some 7:Option Nat)=some g:=(by kernel_rfl:Tryz.prog.globalNamed "math/bits.deBruijn64tab" = some 7).symm.trans hg
  cases e
  have l4:=Wv hg hv
  omega

abbrev synS:ByteArray := { data := #[105,110,118,97,108,105,100,32,115,121,110,116,97,120] }
abbrev rngS:ByteArray := { data := #[118,97,108,117,101,32,111,117,116,32,111,102,32,114,97,110,103,101] }
noncomputable def low:Nat:=(World.holding Tryz.prog default ⟨#[], #[], []⟩).heap.size
def lit1:DataW Unit→Value
  | .lit (.int k n) => .int k n
  | _ => .int .u8 0
def Zb:DataW Unit→List Value
  | .agg l=>l.map lit1
  | _ => []
noncomputable def JN (os:Os):World :=
  let w0:=World.holding Tryz.prog os ⟨#[.cells #[.string synS] 206, .cells #[.string rngS] 206], #[], []⟩
  let put (h:Array Obj) (g:Nat) (cs:Array Value):Array Obj:=h.modify g fun
    | .cells _ t frozen => .cells cs t frozen
    | o=>o
  let h0:=put w0.heap 1 (firstTab.map fun z=>Value.int .u8 z).toArray
  let h1:=put h0 2 ((List.range 16).flatMap fun i => [Value.int .u8 (accLo i),Value.int .u8 (accHi i)]).toArray
  let h2:=put h1 4 #[.iface 204 (.pointer (some ⟨low,0,none⟩))]
  let h3:=put h2 5 #[.iface 204 (.pointer (some ⟨low+1,0,none⟩))]
  let h4:=put h3 3 (pow10Tab.map fun z=>Value.int .u64 z).toArray
  let h6:=put h4 6 (Zb Rows.laid_math_bits_deBruijn32tab).toArray
  let h7:=put h6 7 (Zb Rows.laid_math_bits_deBruijn64tab).toArray
  { w0 with heap:=h7 }

theorem Zc (os:Os) (args:Array Value):laidMet Tryz.prog Rows.topTextsUptoRow.laid ((JN os).forCall (fun _ _=>0) ⟨#[],args, []⟩).memory :=
  laidMet_of_run' 8 (by kernel_rfl) (by kernel_rfl)
end Go.Proofs.YtmlkkgfenfdndaaGreatDoor.Door

set_option maxRecDepth 100000
namespace Go.Proofs.YtmlkkgfenfdndaaGreatDoor
open Go Go.ay
end Go.Proofs.YtmlkkgfenfdndaaGreatDoor

namespace Go.ay
open Go.RowKit

section
variable {P:Program} {tt:dM} {w w':World} {h h':az} {c c':ko} {R:Type}

theorem yx (hb:Below w.heap.size w w'):Ext w h c w' h c where
  os:=hb.os
  tape:=hb.tape
  output:=hb.output
  size:=hb.size
  used:=fun _ hi=>hi
  same:=fun i hi hd=>⟨Dt (Gj hi.2 hd) (fun _ _ _ => .inr trivial),rfl,rfl⟩
  cell:=fun b x hx _=>s5 (hb.block b hx)
  block:=fun b hx _=>hb.block b hx
  wD:=fun _ _ _ ho=>ho
  ext:=rfl
  arr:=fun b arr e fz hx=>⟨arr,fz,by rw[hb.block b (ze hx)]; exact hx,rfl⟩

theorem FI (wf:WF w h c) (hb:Below w.heap.size w w'):WF w' h c where
  ym:=wf.ym
  pS:=fun b x he=>Nat.lt_of_lt_of_le (wf.pS b x he) hb.size
  obj:=fun i hi=>by
    by_cases hl:(h.at i).live
    · exact (wf.obj i hi).keep (yx hb) (fun b pT=>hb.block b ((wf.obj i hi).lt hl pT)) rfl rfl
    · have h0:h.at i = .free∨h.at i = .dead:=by revert hl; cases h.at i <;> simp[bZ.live]
      rcases h0 with h0|h0 <;> rw[h0] <;> trivial
  inj:=wf.inj
  lay:=wf.sv (yx hb)

theorem s6 {g:Nat} {fn:Func} (hf:P.funcs[g]? = some fn) (hn:(fn.name == "runtime.NumGoroutine")=false) (hb:fn.body.isNone=false) {args:Array Value} {Q:Value→World→Prop}
    (h:Calls P g args w fun e w'=>∃d,e = .returned d∧Q d w'):wX P g args w Q:=by
  refine ⟨.enter g args,w,?_,h⟩
  have QF:fn.name ≠ "runtime.NumGoroutine" :=by simpa using hn
  have pT:fn.body≠none:=fun e=>by rw[e]at hb; cases hb
  simp[callFunc,hf,QF,pT]

theorem pB {g:Nat} {fn:Func} (hf:P.funcs[g]? = some fn) (hn:(fn.name == "runtime.NumGoroutine")=false) (hb:fn.body.isNone=false) {sp:Spec R}
    (hs:∀vs hp k r,sp vs hp k=some r→∀(w:World) (c:ko) (args:Array Value),WF w hp c→cH w hp c vs args.toList →
      ∃v,k v hp=some r∧Calls P g args w fun e w'=>∃d,e = .returned d∧Below w.heap.size w w'∧dH w' hp c v d):Spec.Ok P g sp:=by
  intro vs hp k r hk w c args wf ra
  obtain ⟨v,hv,hc⟩:=hs vs hp k r hk w c args wf ra
  refine s6 hf hn hb (Calls.mono hc ?_)
  rintro e w' ⟨d,he,OL,hr⟩
  exact ⟨d,he,v,hp,c,FI wf OL,yx OL,hr,hv⟩

theorem O0 {v:V} {args:Array Value} (ra:cH w h c [v] args.toList):∃d,args = #[d]∧dH w h c v d:=by
  obtain ⟨l⟩:=args
  match l,ra with
  | [d],ra=>exact ⟨d,rfl,ra.head⟩
  | [],ra=>have:=ra.1; simp at this
  | _::_::_,ra=>have:=ra.1; simp at this
theorem RM {u v:V} {args:Array Value} (ra:cH w h c [u,v] args.toList):∃d e,args = #[d,e]∧dH w h c u d∧dH w h c v e:=by
  obtain ⟨l⟩:=args
  match l,ra with
  | [d,e],ra=>exact ⟨d,e,rfl,ra.head,ra.tail.head⟩
  | [],ra=>have:=ra.1; simp at this
  | [_],ra=>have:=ra.1; simp at this
  | _::_::_::_,ra=>have:=ra.1; simp at this
end

section
variable {P:Program} {tt:dM} {w w':World} {h h':az} {c c':ko} {R:Type}

def KA (R:Type):Spec R:=fun vs h k =>
  match vs with
  | [.ptr i 0]=>(match h.at i with | .kR _=>k (.tuple []) h|_=>none)
  | _=>none

theorem JO {i:Nat} {v:V} {a':Value} (wf:WF w h c) (ra:dH w h c (.ptr i 0) a') (hv:h.at i = .kR v) :
    ∃b p d,a' = .pointer (some ⟨b,0,none⟩)∧c.sV i=some b∧w.heap[b]? = some (Obj.cells #[p,d] oY.kR (0,0))∧(p = .pointer none∨p = .pointer (some ⟨b,0,none⟩))∧dH w h c v d:=by
  have hi:=az.gK hv (by simp)
  have ho:=wf.obj i hi
  rw[hv]at ho
  obtain ⟨b,p,d,g1,g2,g3,g4⟩:=ho
  cases ra with
  | ptr hu hq =>
    obtain ⟨b',rfl,pT⟩:=hq
    have:=pT (by rw[hv]; simp)
    rw[g1]at this; cases this
    exact ⟨b,p,d,rfl,g1,g2,g3,g4⟩

theorem bcc_ok {g:Nat} {fn:Func} (hf:P.funcs[g]? = some fn) (hn:(fn.name == "runtime.NumGoroutine")=false) (hb:fn.body.isNone=false)
    (fresh:∀(b:Nat) (w:World),w.cell? ⟨b,0,none⟩=some (.pointer none)→w.shape? b=some (oY.kR,2)→w.frozen? ⟨b,0,none⟩=false →
      Calls P g #[.pointer (some ⟨b,0,none⟩)] w fun e w'=>e = .returned (.tuple #[])∧w'=w.setCell ⟨b,0,none⟩ (.pointer (some ⟨b,0,none⟩)))
    (used:∀(b:Nat) (w:World),w.cell? ⟨b,0,none⟩=some (.pointer (some ⟨b,0,none⟩))→Calls P g #[.pointer (some ⟨b,0,none⟩)] w fun e w'=>e = .returned (.tuple #[])∧w'=w):Spec.Ok P g (KA R):=by
  intro vs h k r hk w c args wf ra
  unfold KA at hk
  split at hk <;> try (first|cases hk)
  rename_i i
  split at hk <;> try (first|cases hk)
  rename_i v hv
  obtain ⟨a',rfl,r1⟩:=O0 ra
  obtain ⟨b,p,d,rfl,g1,g2,g3,g4⟩:=JO wf r1 hv
  have HZ:w.cell? ⟨b,0,none⟩=some p:=by rw[cell_of_row w b _ _ _ _ g2]; rfl
  have rt:∀w' h' c',dH w' h' c' (.tuple []) (.tuple #[]):=fun w' h' c' => .tuple rfl (fun j v d hv=>by simp at hv)
  rcases g3 with rfl|rfl
  · refine s6 hf hn hb (Calls.mono (fresh b w HZ (by simp[World.shape?,g2]) (wi g2 0)) ?_)
    rintro e w' ⟨he,rfl⟩
    have pT:(w.setCell ⟨b,0,none⟩ (.pointer (some ⟨b,0,none⟩))).heap[b]? = some (.cells #[.pointer (some ⟨b,0,none⟩),d] oY.kR (0,0)):=by
      simp[World.setCell,Array.getElem?_modify,g2]
    have hw:Md w (w.setCell ⟨b,0,none⟩ (.pointer (some ⟨b,0,none⟩))) b #[.pointer (some ⟨b,0,none⟩),d] oY.kR (0,0):=⟨rfl,rfl,rfl,by simp,fun k hk=>heap_setCell_other w _ k _ hk,pT⟩
    have sw:(h.at i).from_ (c.off i)=some 0:=by rw[hv]; rfl
    have uj:(h.at i).iR (.kR v):=by rw[hv]; trivial
    have Tc:h.set i (.kR v)=h:=by
      have hi:=az.gK hv (by simp)
      have e:h[i] = .kR v:=by
        have:=hv
        unfold az.at at this
        simpa [List.getD,List.getElem?_eq_getElem hi]using this
      rw[←e]
      exact List.set_getElem_self hi
    have x:=Ig g1 g2 hw rfl sw rfl uj
    have q:=PO wf g1 g2 hw rfl sw rfl uj ⟨b,_,d,g1,pT, .inr rfl,g4.mono x⟩
    rw[Tc]at x q
    exact ⟨_,he,_,h,c,q,x,rt _ _ _,hk⟩
  · refine s6 hf hn hb (Calls.mono (used b w HZ) ?_)
    rintro e w' ⟨he,rfl⟩
    exact ⟨_,he,_,h,c,wf, .refl _ _ _,rt _ _ _,hk⟩

def s7 (l:List Int):aj:=l.map fun n=>UInt8.ofNat n.toNat

theorem Zd (l:List Int):(s7 l).length=l.length:=List.length_map _
theorem Ze (l:List Int) (m:Nat) (x:UInt8) (h:(s7 l)[m]? = some x):∃n,l[m]? = some n∧x=UInt8.ofNat n.toNat:=by
  unfold s7 at h
  rw[List.getElem?_map]at h
  cases hm:l[m]? with
  | none=>rw[hm]at h; cases h
  | some n=>rw[hm]at h; simp at h; exact ⟨n,rfl,h.symm⟩

def Ee (R:Type):Spec R:=fun vs h k =>
  match vs with
  | [.ptr i 0] =>
    (match h.at i with
     | .kR .cG=>k (.str []) h
     | .kR (.sl (.int .u8) l (.own j))=>(match h.at j with | .tok=>k (.str (s7 l)) h|_=>none)
     | _=>none)
  | _=>none

theorem Gq:Iv (Ee R):=by
  intro vs h k k' he
  unfold Ee
  split <;> try rfl
  split <;> try (first|rfl|exact he _)
  split <;> first|rfl|exact he _

theorem Ww (wf:WF w h c) {j g:Nat} (hj:h.at j = .tok) (hg:c.sV j=some g) {cur:Array Value} {e:TypeId} {fz Gz:Nat × Nat} (h1:w.heap[g]? = some (.cells cur e fz))
    (hos:w'.os=w.os) (htape:w'.tape=w.tape) (Zf:w'.output=w.output) (Yi:w'.heap.size=w.heap.size) (JD:∀k,k≠g→w'.heap[k]? = w.heap[k]?) (h2:w'.heap[g]? = some (.cells cur e Gz))
    (Uu:(fz.1=fz.2∨fz.2≤c.off j)→(Gz.1=Gz.2∨Gz.2≤c.off j)) :
    WF w' h c∧Ext w h c w' h c:=by
  have hjl:=az.gK hj (by simp)
  have ng:ui h c g (c.off j):=⟨j,c.off j,hg,by rw[hj]; rfl,Nat.le_refl _⟩
  have yi:∀b x,w'.cell? ⟨b,x,none⟩=w.cell? ⟨b,x,none⟩:=fun b x=>by
    by_cases hb:b=g
    · subst hb; rw[cell_of_row w' b x cur e Gz h2,cell_of_row w b x cur e fz h1]
    · exact s5 (JD b hb)
  have x:Ext w h c w' h c := {
    os:=hos
    tape:=htape
    output:=Zf
    size:=by omega
    used:=(Ext.refl w h c).used
    same:=(Ext.refl w h c).same
    cell:=fun b x _ _=>yi b x
    block:=fun b _ ho=>JD b (by rintro rfl; exact ho _ ng)
    wD:=(Ext.refl w h c).wD
    ext:=rfl
    arr:=fun b arr el fz0 hb=>by
      by_cases hbg:b=g
      · subst hbg; rw[h1]at hb; cases hb; exact ⟨cur,Gz,h2,rfl⟩
      · exact ⟨arr,fz0,by rw[JD b hbg]; exact hb,rfl⟩ }
  refine ⟨?_,x⟩
  exact {
    lay:=wf.sv x
    ym:=wf.ym
    pS:=fun b y he=>by rw[Yi]; exact wf.pS b y he
    obj:=fun i hi=>by
      by_cases xW:i=j
      · subst xW
        have:=wf.obj i hi
        rw[hj]at this ⊢
        rcases this with h0|⟨b',Fy,e',fz0,p1,p2,p3,p4⟩
        · rw[hg]at h0; cases h0
        · rw[hg]at p1; cases p1
          rw[h1]at p2; cases p2
          exact .inr ⟨g,cur,e,Gz,hg,h2,p3,Uu p4⟩
      · by_cases hl:(h.at i).live
        · refine (wf.obj i hi).keep x (fun b hb=>JD b ?_) rfl rfl
          rintro rfl
          exact xW (wf.inj i j b hl (by rw[hj]; trivial) hb hg)
        · have h0:h.at i = .free∨h.at i = .dead:=by revert hl; cases h.at i <;> simp[bZ.live]
          rcases h0 with h0|h0 <;> rw[h0] <;> trivial
    inj:=wf.inj }

theorem Qe {q n:Nat} {cur:Array Value} {e:TypeId} {fz:Nat × Nat} (hn:n≠0) (hq:w.heap[q]? = some (.cells cur e fz)) :
    (w.drew.freeze ⟨q,0,none⟩ n).os=w.os∧(w.drew.freeze ⟨q,0,none⟩ n).tape=w.tape∧(w.drew.freeze ⟨q,0,none⟩ n).output=w.output∧(w.drew.freeze ⟨q,0,none⟩ n).heap.size=w.heap.size ∧
      (∀k,k≠q→(w.drew.freeze ⟨q,0,none⟩ n).heap[k]? = w.heap[k]?)∧∃Gz,(w.drew.freeze ⟨q,0,none⟩ n).heap[q]? = some (.cells cur e Gz)∧∀o,n≤o→(fz.1=fz.2∨fz.2≤o)→(Gz.1=Gz.2∨Gz.2≤o):=by
  obtain ⟨lo,hi⟩:=fz
  unfold World.freeze
  rw[if_neg hn]
  refine ⟨rfl,rfl,rfl,Array.size_modify,fun k hk => ?_,(if lo==hi then (0,0+n)else (min lo 0,max hi (0+n))),?_,fun o ho hf => ?_⟩
  · simp only[Array.getElem?_modify]
    rw[if_neg (Ne.symm hk)]
    rfl
  · simp only[Array.getElem?_modify,if_true]
    rw[show w.drew.heap[q]? = some (.cells cur e (lo,hi))from hq]
    rfl
  · simp only at hf
    split
    · exact .inr (by simp; omega)
    · rename_i kq
      have:lo≠hi:=by simpa using kq
      exact .inr (by simp; omega)

theorem u8_of {n:Int} (hn:IntKind.u8.has n):((UInt8.ofNat n.toNat).toNat:Int)=n:=by
  have:0≤n∧n≤255:=by simpa [IntKind.has,IntKind.min,IntKind.max,IntKind.signed,IntKind.bits]using hn
  simp only[UInt8.toNat_ofNat']
  omega

structure MH (P:Program) (g:Nat):Prop where
  nil:∀(b:Nat) (p:Value) (w:World),w.heap[b]? = some (.cells #[p, .slice none 0 0] oY.kR (0,0)) →
    Calls P g #[.pointer (some ⟨b,0,none⟩)] w fun e w'=>e = .returned (.string ⟨#[]⟩)∧Below w.heap.size w w'
  Zg:∀(b q:Nat) (p:Value) (cur:Array Value) (fz:Nat × Nat) (w:World),w.heap[b]? = some (.cells #[p, .slice (some ⟨q,0,none⟩) 0 0] oY.kR (0,0))→w.heap[q]? = some (.cells cur oY.u8 fz) →
    Calls P g #[.pointer (some ⟨b,0,none⟩)] w fun e w'=>e = .returned (.string ⟨#[]⟩)∧Below w.heap.size w w'
  room:∀(b q cap:Nat) (p:Value) (w:World),cap≠0→w.heap[b]? = some (.cells #[p, .slice (some ⟨q,0,none⟩) 0 cap] oY.kR (0,0)) →
    Calls P g #[.pointer (some ⟨b,0,none⟩)] w fun e w'=>e = .returned (.string ⟨#[]⟩)∧Below w.heap.size w w'
  some:∀(b q cap:Nat) (p:Value) (cur:Array Value) (fz:Nat × Nat) (l:List UInt8) (w:World),l ≠ []→w.heap[b]? = some (.cells #[p, .slice (some ⟨q,0,none⟩) l.length cap] oY.kR (0,0)) →
    w.heap[q]? = some (.cells cur oY.u8 fz)→l.length≤cap→cap≤mx→l.length≤cur.size→(∀(j:Nat) (x:UInt8),l[j]? = some x→w.cell? ⟨q,j,none⟩=some (.int .u8 x.toNat)) →
    Calls P g #[.pointer (some ⟨b,0,none⟩)] w fun e w'=>e = .returned (.string ⟨l.toArray⟩)∧w'=w.drew.freeze ⟨q,0,none⟩ l.length

theorem bstr_ok {g:Nat} {fn:Func} (hf:P.funcs[g]? = some fn) (hn:(fn.name == "runtime.NumGoroutine")=false) (hb:fn.body.isNone=false) (D:MH P g):Spec.Ok P g (Ee R):=by
  intro vs h k r hk w c args wf ra
  unfold Ee at hk
  split at hk <;> try (first|cases hk)
  rename_i i
  obtain ⟨a',rfl,r1⟩:=O0 ra
  have empty:∀ {w':World} {h':az} {c':ko},dH w' h' c' (.str []) (.string ⟨#[]⟩):=fun {w' h' c'}=>AU ⟨#[]⟩ rfl (Nat.zero_le _)
  split at hk <;> try (first|cases hk)
  · rename_i hv
    obtain ⟨b,p,d,rfl,g1,g2,g3,g4⟩:=JO wf r1 hv
    cases g4
    refine s6 hf hn hb (Calls.mono (D.nil b p w g2) ?_)
    rintro e w' ⟨he,OL⟩
    exact ⟨_,he,_,h,c,FI wf OL,yx OL,empty,hk⟩
  · rename_i l j hv
    split at hk <;> try (first|cases hk)
    rename_i hj
    obtain ⟨b,p,d,rfl,g1,g2,g3,g4⟩:=JO wf r1 hv
    have hi:=az.gK hv (by simp)
    have xW:j≠i:=by rintro rfl; rw[hj]at hv; cases hv
    have hu8:∀x∈(l:List Int),IntKind.u8.has x:=by
      intro x hx
      cases g4 with
      | sl f lY sY hc hr yl ng =>
        obtain ⟨m,hm⟩:=List.mem_iff_getElem?.1 hx
        exact (hr m 0 x (.int .u8 x) hm rfl).jb.2
    have hlen:(s7 l).length=List.length (α:=Int) l:=Zd l
    cases g4 with
    | @sl _ _ _ A cap f lY sY hc hr yl ng =>
      obtain ⟨_,ho⟩:=ng j rfl
      have hcap':List.length (α:=Int) l≤cap:=lY
      have H5:∀(w':World) (h':az) (c':ko),dH w' h' c' (.str (s7 l)) (.string ⟨(s7 l).toArray⟩):=fun w' h' c'=>AU _ rfl (by rw[hlen]; exact Nat.le_trans lY sY)
      rcases ho hj with ⟨e1,rfl,rfl⟩|⟨q,o,cur,e,fz,e1,rfl,e3,e4,e5,e6⟩
      · have Kq:l = []:=List.eq_nil_of_length_eq_zero (Nat.le_zero.1 lY)
        subst Kq
        refine s6 hf hn hb (Calls.mono (D.nil b p w g2) ?_)
        rintro e w' ⟨he,OL⟩
        exact ⟨_,he,_,h,c,FI wf OL,yx OL,H5 _ _ _,hk⟩
      · obtain ⟨rfl,rfl⟩:=e6 rfl
        by_cases Kq:l = []
        · subst Kq
          by_cases HZ:cap=0
          · subst HZ
            refine s6 hf hn hb (Calls.mono (D.Zg b q p cur fz w g2 e4) ?_)
            rintro e w' ⟨he,OL⟩
            exact ⟨_,he,_,h,c,FI wf OL,yx OL,H5 _ _ _,hk⟩
          · refine s6 hf hn hb (Calls.mono (D.room b q cap p w HZ g2) ?_)
            rintro e w' ⟨he,OL⟩
            exact ⟨_,he,_,h,c,FI wf OL,yx OL,H5 _ _ _,hk⟩
        · have OL:s7 l ≠ []:=fun e=>Kq (List.eq_nil_of_length_eq_zero (hlen.symm.trans (by rw[e]; rfl)))
          have e5':0+cap*1≤cur.size:=e5
          have CX:∀(m:Nat) (x:UInt8),(s7 l)[m]? = some x→w.cell? ⟨q,m,none⟩=some (.int .u8 x.toNat):=by
            intro m x hx
            obtain ⟨n,hm,rfl⟩:=Ze l m x hx
            have hml:m<List.length (α:=Int) l:=(List.getElem?_eq_some_iff.1 hm).1
            obtain ⟨b',o',hA,yi,_⟩:=hc m 0 hml (by simp[Ty.sz])
            cases hA
            have hrn:=hr m 0 n (.int .u8 n) hm rfl
            rw[hrn.jb.1]at yi
            rw[u8_of hrn.jb.2]
            simpa [Ty.sz]using yi
          have g2':w.heap[b]? = some (.cells #[p, .slice (some ⟨q,0,none⟩) (s7 l).length cap] oY.kR (0,0)):=by rw[hlen]; exact g2
          refine s6 hf hn hb (Calls.mono (D.some b q cap p cur fz (s7 l) w OL g2' e4 (by rw[hlen]; exact lY) sY (by rw[hlen]; omega) CX) ?_)
          rintro e w' ⟨he,rfl⟩
          have hne0:(s7 l).length≠0:=by simpa using OL
          obtain ⟨f1,f2,f3,f4,f5,Gz,f6,f7⟩:=Qe hne0 e4
          obtain ⟨q1,q2⟩:=Ww wf hj e1 e4 f1 f2 f3 f4 f5 f6 (f7 _ (by rw[e3,hlen]; simp[Ty.sz]; exact Nat.le_refl _))
          exact ⟨_,he,_,h,c,q1,q2,H5 _ _ _,hk⟩
end

def ua (s:aj):Bool:=s.all fun b=>decide (b.toNat<128)
def gM (s:aj):Bool:=Go.Lib.validD s
def oD (s:aj):Nat × Nat:=if s.isEmpty then (65533,0)else Utf8.decode ⟨s.toArray⟩ 0
def cw (n:Int):aj:=Go.Lib.itoa n
def lO (s:aj) (n:Int):aj:=Go.Lib.repeatL s n.toNat
def bG (s cs:aj):aj:=s.dropWhile (cs.contains ·)
def cV (s cs:aj):aj:=(s.reverse.dropWhile (cs.contains ·)).reverse
def s8 (s:aj):Bool:=match Go.Lib.atoiAll s with | .ok _=>true|_=>false
def eD (s:aj):Int:=match Go.Lib.atoiAll s with | .ok v=>v | .range=>Go.Lib.atoiSat s|_=>0
def MI (s cs:aj):Bool:=Go.Lib.containsAny s cs
def zg (s:aj) (c:Int):Int:=Go.Lib.indexByte s c.toNat.toUInt8

section
variable (R:Type)
def Qf:Spec R:=fun vs h k=>match vs with | [.str s]=>k (.bool (gM s)) h|_=>none
def Zh:Spec R:=fun vs h k=>match vs with | [.str s]=>k (.tuple [.int .i32 (oD s).1, .int .i64 (oD s).2]) h|_=>none
def TJ:Spec R:=fun vs h k=>match vs with | [.int .i64 n]=>k (.str (cw n)) h|_=>none
def Zi:Spec R:=fun vs h k=>match vs with | [.str s, .int .i64 n]=>cU (decide (0≤n)&&decide ((s.length:Int)*n≤140737488355328)) (k (.str (lO s n)) h)|_=>none
def IC:Spec R:=fun vs h k=>match vs with | [.str s, .str cs]=>cU (ua cs&&decide (cs.length<4294967281)) (k (.str (bG s cs)) h)|_=>none
def Qg:Spec R:=fun vs h k=>match vs with | [.str s, .str cs]=>cU (ua cs&&decide (cs.length<4294967281)) (k (.str (cV s cs)) h)|_=>none
def Qh:Spec R:=fun vs h k=>match vs with
  | [.str s]=>cU (decide (s.length≤281474976710656)) (bif s8 s then k (.tuple [.int .i64 (eD s), .cS]) h else k (.tuple [.int .i64 (eD s), .iface]) h)
  | _=>none
def toErr_S (T:Nat):Spec R:=fun vs h k=>match vs with
  | [.str _, .str s, .int .i64 _, .int .i64 _, .Ft t .i64 n]=>cU (Nat.beq t T&&(n==2||n==1)) (cU (decide (s.length≤281474976710656)) (k .iface h))
  | _=>none
def MJ:Spec R:=fun vs h k=>match vs with
  | [.str s, .str cs]=>cU (ua s&&ua cs&&decide (s.length<4294967281)&&decide (cs.length<4294967281)) (k (.bool (MI s cs)) h)
  | _=>none
def US:Spec R:=fun vs h k=>match vs with | [.str s, .int .u8 c]=>k (.int .i64 (zg s c)) h|_=>none
end

section
variable {P:Program} {w w':World} {h:az} {c:ko} {R:Type}
open Go.Lib

theorem Lx {s:aj} (hs:ua s=true):∀(j:Nat) (b:UInt8),s[j]? = some b→b.toNat<128:=by
  intro j b hb
  have:=List.all_eq_true.1 hs b (List.mem_of_getElem? hb)
  simpa using this

theorem zh (p:UInt8→Bool):∀s:aj,(s.dropWhile p).length≤s.length
  | []=>Nat.le_refl _
  | b::s=>by
    rw[List.dropWhile_cons]
    split
    · have:=zh p s; simp; omega
    · exact Nat.le_refl _

theorem Qi (l:aj) (h':l.length≤mx):dH w h c (.str l) (.string ⟨l.toArray⟩):=AU _ rfl h'

theorem mW {g:Nat} {args:Array Value} {Q:Ending→World→Prop} {v:V} (hc:Calls P g args w Q)
    (hq:∀e w',Q e w'→∃d,e = .returned d∧Below w.heap.size w w'∧dH w' h c v d):Calls P g args w fun e w'=>∃d,e = .returned d∧Below w.heap.size w w'∧dH w' h c v d:=Calls.mono hc fun e w' q=>hq e w' q

end
end Go.ay

set_option maxRecDepth 100000
namespace Go.ay
open Go.Lib

def vr (c:Nat):Prop:=c<55296∨(57344≤c∧c≤1114111)
instance (c:Nat):Decidable (vr c):=inferInstanceAs (Decidable (_∨_))

def enc (c:Nat):aj:=encodeRune (c:Int)

theorem enc1 {c:Nat} (h:c<128):enc c = [UInt8.ofNat c]:=by
  unfold enc encodeRune encodeRuneZ
  rw[if_pos (by omega)]
  rfl
theorem enc2 {c:Nat} (h0:128≤c) (h:c<2048):enc c = [UInt8.ofNat (192+c / 64),UInt8.ofNat (128+c % 64)]:=by
  unfold enc encodeRune encodeRuneZ
  rw[if_neg (by omega),if_pos (by omega)]
  have e1:(192+(c:Int) / 64).toNat=192+c / 64:=by omega
  have e2:(128+(c:Int) % 64).toNat=128+c % 64:=by omega
  simp only[List.map_cons,List.map_nil,e1,e2]
theorem enc3 {c:Nat} (h0:2048≤c) (h:c<65536) (hv:vr c):enc c = [UInt8.ofNat (224+c / 4096),UInt8.ofNat (128+c / 64 % 64),UInt8.ofNat (128+c % 64)]:=by
  unfold vr at hv
  unfold enc encodeRune encodeRuneZ
  rw[if_neg (by omega),if_neg (by omega),if_pos (by omega)]
  have e1:(224+(c:Int) / 4096).toNat=224+c / 4096:=by omega
  have e2:(128+(c:Int) / 64 % 64).toNat=128+c / 64 % 64:=by omega
  have e3:(128+(c:Int) % 64).toNat=128+c % 64:=by omega
  simp only[List.map_cons,List.map_nil,e1,e2,e3]
theorem enc4 {c:Nat} (h0:65536≤c) (h:c<1114112):enc c = [UInt8.ofNat (240+c / 262144),UInt8.ofNat (128+c / 4096 % 64),UInt8.ofNat (128+c / 64 % 64),UInt8.ofNat (128+c % 64)]:=by
  unfold enc encodeRune encodeRuneZ
  rw[if_neg (by omega),if_neg (by omega),if_neg (by omega),if_pos (by omega)]
  have e1:(240+(c:Int) / 262144).toNat=240+c / 262144:=by omega
  have e2:(128+(c:Int) / 4096 % 64).toNat=128+c / 4096 % 64:=by omega
  have e3:(128+(c:Int) / 64 % 64).toNat=128+c / 64 % 64:=by omega
  have e4:(128+(c:Int) % 64).toNat=128+c % 64:=by omega
  simp only[List.map_cons,List.map_nil,e1,e2,e3,e4]

theorem hY (n:Nat) (h:n<256):(UInt8.ofNat n).toNat=n:=by
  simp only[UInt8.toNat_ofNat']
  omega

theorem O1 {c:Nat} (h:vr c):c<1114112:=by unfold vr at h; omega
theorem Dy {c:Nat} (hv:vr c):(c<128∧enc c = [UInt8.ofNat c])∨(128≤c∧c<2048∧enc c = [UInt8.ofNat (192+c / 64),UInt8.ofNat (128+c % 64)]) ∨
    (2048≤c∧c<65536∧enc c = [UInt8.ofNat (224+c / 4096),UInt8.ofNat (128+c / 64 % 64),UInt8.ofNat (128+c % 64)]) ∨
    (65536≤c∧enc c = [UInt8.ofNat (240+c / 262144),UInt8.ofNat (128+c / 4096 % 64),UInt8.ofNat (128+c / 64 % 64),UInt8.ofNat (128+c % 64)]):=by
  have:=O1 hv
  by_cases h1:c<128
  · exact .inl ⟨h1,enc1 h1⟩
  by_cases h2:c<2048
  · exact .inr (.inl ⟨by omega,h2,enc2 (by omega) h2⟩)
  by_cases h3:c<65536
  · exact .inr (.inr (.inl ⟨by omega,h3,enc3 (by omega) h3 hv⟩))
  · exact .inr (.inr (.inr ⟨by omega,enc4 (by omega) this⟩))

theorem AY {c:Nat} (hv:vr c):1≤(enc c).length∧(enc c).length≤4:=by
  rcases Dy hv with ⟨_,e⟩|⟨_,_,e⟩|⟨_,_,e⟩|⟨_,e⟩ <;> rw[e] <;> simp

theorem ID {c:Nat} (hv:vr c) (t:aj):decodeL (enc c++t)=(c,(enc c).length):=by
  have lh:=O1 hv
  unfold vr at hv
  rw[decodeL_N]
  rcases Dy hv with ⟨h1,e⟩|⟨h0,h1,e⟩|⟨h0,h1,e⟩|⟨h0,e⟩ <;> rw[e]
  · simp only[List.cons_append,List.getD_cons_zero,hY c (by omega)]
    exact decodeN_ascii _ _ _ _ _ h1
  · simp only[List.cons_append,List.nil_append,List.getD_cons_zero,List.getD_cons_succ,hY (192+c / 64) (by omega),hY (128+c % 64) (by omega),List.length_cons]
    unfold decodeN
    rw[if_neg (by omega),if_pos ⟨by omega,by omega,by omega⟩,if_pos (by omega)]
    refine Prod.ext ?_ rfl
    show (192+c / 64) % 32*64+(128+c % 64) % 64=c
    omega
  · simp only[List.cons_append,List.nil_append,List.getD_cons_zero,List.getD_cons_succ,hY (224+c / 4096) (by omega),hY (128+c / 64 % 64) (by omega),hY (128+c % 64) (by omega),List.length_cons]
    unfold decodeN
    have k:(224+c / 4096) % 16*4096+(128+c / 64 % 64) % 64*64+(128+c % 64) % 64=c:=by omega
    rw[if_neg (by omega),if_neg (by omega),if_pos ⟨by omega,⟨by omega,by omega⟩,by omega,by omega⟩,k,if_pos (by omega)]
    simp only[List.length_nil]
  · simp only[List.cons_append,List.nil_append,List.getD_cons_zero,List.getD_cons_succ,hY (240+c / 262144) (by omega),hY (128+c / 4096 % 64) (by omega),hY (128+c / 64 % 64) (by omega),hY (128+c % 64) (by omega),List.length_cons]
    unfold decodeN
    have k:(240+c / 262144) % 8*262144+(128+c / 4096 % 64) % 64*4096+(128+c / 64 % 64) % 64*64+(128+c % 64) % 64=c:=by omega
    rw[if_neg (by omega),if_neg (by omega),if_neg (by omega),if_pos ⟨by omega,⟨by omega,by omega⟩,⟨by omega,by omega⟩,by omega,by omega⟩,k,if_pos (by omega)]
    simp only[List.length_nil]

def TK (l:aj):Prop:=¬((decodeL l).1=65533∧(decodeL l).2=1)
instance (l:aj):Decidable (TK l):=inferInstanceAs (Decidable (¬_))

theorem RN {c:Nat} (hv:vr c) (t:aj):TK (enc c++t):=by
  unfold TK
  rw[ID hv t]
  rintro ⟨h1,h2⟩
  simp only at h1 h2
  rw[h1]at h2
  rw[enc3 (by omega) (by omega) (by unfold vr; omega)]at h2
  cases h2

theorem TL (n b0 b1 b2 b3:Nat) (h0:b0<256):vr (decodeN n b0 b1 b2 b3).1:=by
  unfold vr decodeN
  repeat' split
  all_goals simp only
  all_goals omega

theorem TM (l:aj):vr (decodeL l).1:=by
  rw[decodeL_N]
  exact TL _ _ _ _ _ (UInt8.toNat_lt _)

theorem Zj {l:aj} (kq:l ≠ []) (h:TK l):l=enc (decodeL l).1++l.drop (decodeL l).2∧(enc (decodeL l).1).length=(decodeL l).2:=by
  have h1:=encode_decode l kq h
  have h2:=decodeL_le l kq
  refine ⟨?_,?_⟩
  · unfold enc
    rw[h1,List.take_append_drop]
  · unfold enc
    rw[h1,List.length_take]
    omega

theorem KB {l:aj} (kq:l ≠ []):gM l=if TK l then gM (l.drop (decodeL l).2)else false:=by
  unfold gM
  rw[validD_step l kq]
  by_cases h:TK l
  · rw[if_pos h,if_neg (show ¬((decodeL l).1=65533∧(decodeL l).2=1)from h)]
  · rw[if_neg h,if_pos (Decidable.not_not.1 h)]

theorem Zk {c:Nat} (hv:vr c) (t:aj):enc c++t ≠ []:=by
  have:=AY hv
  intro e
  have:=congrArg List.length e
  rw[List.length_append,List.length_nil]at this
  omega

theorem TN {c:Nat} (hv:vr c) (t:aj):gM (enc c++t)=gM t:=by
  rw[KB (Zk hv t),if_pos (RN hv t),ID hv t]
  simp

def cQ (rs:List Nat):aj:=rs.flatMap enc

theorem KC:∀(rs:List Nat),(∀c∈rs,vr c)→∀t,gM (cQ rs++t)=gM t
  | [],_,t=>rfl
  | c::rs,h,t=>by
    have:cQ (c::rs)++t=enc c++(cQ rs++t):=by simp[cQ]
    rw[this,TN (h c (by simp)),KC rs (fun x hx=>h x (by simp[hx]))]

theorem KD:∀(n:Nat) (l:aj),l.length≤n→gM l=true→∃rs:List Nat,(∀c∈rs,vr c)∧l=cQ rs
  | 0,l,hl,_=>⟨[],by simp,List.eq_nil_of_length_eq_zero (by omega)⟩
  | n+1,l,hl,h=>by
    by_cases kq:l = []
    · exact ⟨[],by simp,kq⟩
    rw[KB kq]at h
    split at h
    · rename_i hg
      obtain ⟨h1,h2⟩:=Zj kq hg
      have h3:=AY (TM l)
      obtain ⟨rs,hr,e⟩:=KD n (l.drop (decodeL l).2) (by rw[List.length_drop]; omega) h
      refine ⟨(decodeL l).1::rs,?_,?_⟩
      · intro c hc
        rcases List.mem_cons.1 hc with rfl|hc
        · exact TM l
        · exact hr c hc
      · exact h1.trans ((congrArg (enc (decodeL l).1 ++ ·) e).trans (by simp[cQ]))
    · cases h

theorem Dz {l:aj}:gM l=true↔∃rs:List Nat,(∀c∈rs,vr c)∧l=cQ rs:=by
  refine ⟨KD l.length l (Nat.le_refl _),?_⟩
  rintro ⟨rs,hr,rfl⟩
  have:=KC rs hr []
  rw[List.append_nil]at this
  rw[this]; rfl

theorem RO {s t:aj} {i:Nat} (h:i<s.length):(s++t).getD i 0=s.getD i 0:=by
  simp[List.getD,List.getElem?_append_left h]
end Go.ay

namespace Go.ay

theorem aS {R:Type} {b:Bool} {k:Option R} (h:b=true):cU b k=k:=by subst h; rfl

theorem dE {n:Int} (h1 : -9223372036854775808≤n) (h2:n≤9223372036854775807):IntKind.i64.wrap n=n:=by
  simp only[IntKind.wrap,IntKind.bits,IntKind.signed,IntKind.min,IntKind.max]
  simp
  omega

theorem Json.eta (x:Json):(⟨x.kind,⟨x.num.aB,x.num.exp⟩,x.text,x.names,x.items⟩:Json)=x:=by cases x; rfl
theorem Raw.eta (x:Raw):(⟨x.kind,x.aB,x.exp,x.text,x.items⟩:Raw)=x:=by cases x; rfl

theorem getD_at {α:Type} {l:List α} {i:Nat} (h:i<l.length) (d:α):l.getD i d=l[i]:=by simp[List.getD,h]
end Go.ay

set_option maxRecDepth 100000
namespace Go.Proofs.YtmlkkgfenfdndaaGreatDoor
open Go Go.ay Go.RowKit Go.Shelf

section
variable {w w':World} {h:az} {c:ko} {R:Type}

theorem below_drewN:∀(q:Nat) (a:World),Below w.heap.size w a→Below w.heap.size w (a.drewN q)
  | 0,_,ha=>ha
  | q+1,a,ha=>(below_drewN q a ha).drew

theorem TO (a:World) (os:Array Obj) (ha:Below w.heap.size w a):Below w.heap.size w { a with heap:=a.heap++os } :=
  ⟨ha.os,ha.tape,ha.output,by simp; have:=ha.size; omega,fun k hk=>by
    have:=ha.size
    rw[←ha.block k hk]
    exact Array.getElem?_append_left (by omega)⟩

theorem RP (e:TypeId) (t:ByteArray):Below w.heap.size w (Go.Lib.bytesWorld w e t):=by
  unfold Go.Lib.bytesWorld World.freeze
  have hb:Below w.heap.size w (w.drew.alloc (.cells (Go.Lib.bytesCells w e t) e)):=yq w _
  split
  · exact hb
  · refine ⟨hb.os,hb.tape,hb.output,?_,fun k hk => ?_⟩
    · have:=hb.size; simpa using this
    · rw[←hb.block k hk]
      simp only[Array.getElem?_modify]
      rw[if_neg (by show ¬w.heap.size=k; omega)]

theorem Zl (s cs:aj):(bG s cs).length≤s.length:=zh _ s
theorem Zm (s cs:aj):(cV s cs).length≤s.length:=by
  unfold cV
  rw[List.length_reverse]
  exact Nat.le_trans (zh _ _) (by simp)
theorem Wx (s:aj):bG s []=s:=by
  unfold bG
  cases s with
  | nil=>rfl
  | cons b s=>simp
theorem Wy (s:aj):cV s []=s:=by
  unfold cV
  have:(s.reverse.dropWhile fun x=>List.contains [] x)=s.reverse:=by
    cases s.reverse with
    | nil=>rfl
    | cons b s=>simp
  rw[this,List.reverse_reverse]
theorem Wz (s:aj) (b:UInt8):bG s [b]=Go.Lib.trimLeftB s b:=by
  unfold bG Go.Lib.trimLeftB
  congr 1
  funext x
  rw[List.contains_cons]
  show (x==b||false)=_
  rw[Bool.or_false]
theorem WA (s:aj) (b:UInt8):cV s [b]=Go.Lib.trimRightB s b:=by
  unfold cV Go.Lib.trimRightB
  congr 2
  funext x
  rw[List.contains_cons]
  show (x==b||false)=_
  rw[Bool.or_false]

theorem Zn:ay.Spec.Ok Tryz.prog 72 (Qf R):=by
  refine pB Tryz.func72 rfl rfl fun vs hp k r hk w c args wf ra => ?_
  unfold Qf at hk
  split at hk <;> try (first|cases hk)
  rename_i s
  obtain ⟨a,rfl,r1⟩:=O0 ra
  obtain ⟨t,rfl,rfl,hl⟩:=r1.kS
  refine ⟨_,hk,mW (Any.utf8_ValidString Tryz.Y7 t w hl wf.lay.1.1) ?_⟩
  rintro e w' ⟨he,hb⟩
  exact ⟨_,he,hb, .bool _⟩

theorem dec_ok:ay.Spec.Ok Tryz.prog 130 (Zh R):=by
  refine pB Tryz.func130 rfl rfl fun vs hp k r hk w c args wf ra => ?_
  unfold Zh at hk
  split at hk <;> try (first|cases hk)
  rename_i s
  obtain ⟨a,rfl,r1⟩:=O0 ra
  obtain ⟨t,rfl,rfl,hl⟩:=r1.kS
  have hd:Go.Lib.decodeGo t=oD t.data.toList:=by
    unfold Go.Lib.decodeGo oD
    by_cases h0:t.size=0
    · have:t.data.toList = []:=List.eq_nil_of_length_eq_zero (by rw[size_data]; exact h0)
      simp[h0,this]
    · have:t.data.toList ≠ []:=fun e=>h0 (by rw[←size_data,e]; rfl)
      have hm:(⟨t.data.toList.toArray⟩:ByteArray)=t:=s4 rfl
      simp[h0,hm]
      exact fun e=>absurd (show t.data.size=0 by rw[e]; rfl) h0
  have lh:(oD t.data.toList).1<2097152∧(oD t.data.toList).2≤4:=by
    unfold oD
    split
    · exact ⟨by omega,by omega⟩
    · exact ⟨(JE _ _).1,(JE _ _).2.2⟩
  refine ⟨_,hk,mW (Any.utf8_DecodeRuneInString Tryz.lay197 t w wf.lay.1.1) ?_⟩
  rintro e w' ⟨he,hb⟩
  rw[hd]at he
  refine ⟨_,he,hb, .tuple rfl fun j v d hv hd => ?_⟩
  match j,hv,hd with
  | 0,hv,hd=>simp at hv hd; subst hv; subst hd; exact .int (Rq _ lh.1)
  | 1,hv,hd=>simp at hv hd; subst hv; subst hd; exact .int (DZ _ (by unfold mx; omega))
  | j+2,hv,_=>simp at hv

theorem itoa_ok:ay.Spec.Ok Tryz.prog 66 (TJ R):=by
  refine pB Tryz.func66 rfl rfl fun vs hp k r hk w c args wf ra => ?_
  unfold TJ at hk
  split at hk <;> try (first|cases hk)
  rename_i n
  obtain ⟨a,rfl,r1⟩:=O0 ra
  obtain ⟨rfl,hn⟩:=r1.jb
  have QF : -9223372036854775808≤n∧n≤9223372036854775807:=by simpa [IntKind.has,IntKind.min,IntKind.max,IntKind.signed,IntKind.bits]using hn
  refine ⟨_,hk,mW (Any.strconv_Itoa Tryz.lay171 n QF.1 QF.2 w wf.lay.1.2.1) ?_⟩
  rintro e w' ⟨he,q,os,rfl⟩
  refine ⟨_,he,TO _ os (below_drewN q w (Below.refl _ _)),Qi _ ?_⟩
  have:=Go.Lib.itoa_length_le n QF.1 QF.2
  unfold cw mx
  omega

theorem x72:Builder.X72 Tryz.prog Tryz.Ed := { sizeBuilder:=by kernel_rfl,liesBuilder:=by kernel_rfl }
theorem Zo:Builder.Extra Tryz.prog Tryz.Ed := { x72 with t5:=Tryz.underlying5,a5:=Tryz.isAgg5,z5:=Tryz.sizeOf5,v5:=Tryz.zeroValue5,infoByte:=by kernel_rfl,cellsByte:=by kernel_rfl,sizeByte:=by kernel_rfl,neB5:=by decide }

theorem rep_ok:ay.Spec.Ok Tryz.prog 67 (Zi R):=by
  refine pB Tryz.func67 rfl rfl fun vs hp k r hk w c args wf ra => ?_
  unfold Zi at hk
  split at hk <;> try (first|cases hk)
  rename_i s n
  obtain ⟨hc,hk⟩:=cy hk
  simp only[Bool.and_eq_true,decide_eq_true_eq]at hc
  obtain ⟨h0,hlen⟩:=hc
  obtain ⟨a,b,rfl,r1,r2⟩:=RM ra
  obtain ⟨t,rfl,rfl,hl⟩:=r1.kS
  obtain ⟨rfl,hn⟩:=r2.jb
  obtain ⟨m,rfl⟩:=Int.eq_ofNat_of_zero_le h0
  have QF:(m:Int)≤9223372036854775807:=by
    have:IntKind.i64.has (m:Int):=hn
    simp[IntKind.has,IntKind.min,IntKind.max,IntKind.signed,IntKind.bits]at this
    omega
  rw[size_data]at hlen
  have hlen':t.size*m≤140737488355328:=by omega
  have hrl:(Go.Lib.repeatL t.data.toList m).length≤140737488355328:=by
    rw[Go.Lib.repeatL_length,size_data,Nat.mul_comm]; exact hlen'
  refine ⟨_,hk,mW (Any.strings_Repeat Tryz.Y8 Zo t m w (by omega) hlen') ?_⟩
  rintro e w' ⟨he,hb⟩
  refine ⟨_,he,hb,?_⟩
  have e2:lO t.data.toList (m:Int)=Go.Lib.repeatL t.data.toList m:=by unfold lO; simp
  rw[e2]
  exact Qi _ (by unfold mx; omega)

theorem MK:ay.Spec.Ok Tryz.prog 68 (IC R):=by
  refine pB Tryz.func68 rfl rfl fun vs hp k r hk w c args wf ra => ?_
  unfold IC at hk
  split at hk <;> try (first|cases hk)
  rename_i s cs
  obtain ⟨hc,hk⟩:=cy hk
  simp only[Bool.and_eq_true,decide_eq_true_eq]at hc
  obtain ⟨ha,Fs⟩:=hc
  obtain ⟨a,b,rfl,r1,r2⟩:=RM ra
  obtain ⟨t,rfl,rfl,hl⟩:=r1.kS
  obtain ⟨u,rfl,rfl,QG⟩:=r2.kS
  rw[size_data]at Fs
  have TP:=Lx ha
  have hle:=Zl t.data.toList u.data.toList
  rw[size_data]at hle
  have fin:∀(l:aj),l=bG t.data.toList u.data.toList→∀w':World,dH w' hp c (.str (bG t.data.toList u.data.toList)) (.string ⟨l.toArray⟩):=fun l e w'=>by
    rw[e]; exact Qi _ (by omega)
  by_cases h0:t.size=0∨u.size=0
  · refine ⟨_,hk,mW (Any.strings_TrimLeft_empty Tryz.Tz t u w h0) ?_⟩
    rintro e w' ⟨he,rfl⟩
    have e2:(⟨t.data.toList.toArray⟩:ByteArray)=t:=s4 rfl
    rw[←e2]at he
    refine ⟨_,he,Below.refl _ _,fin _ ?_ _⟩
    rcases h0 with h0|h0
    · have:t.data.toList = []:=List.eq_nil_of_length_eq_zero (by rw[size_data]; exact h0)
      rw[this]; unfold bG; simp
    · have:u.data.toList = []:=List.eq_nil_of_length_eq_zero (by rw[size_data]; exact h0)
      rw[this,Wx]
  · have hu1:u.size=1∨2≤u.size:=by omega
    rcases hu1 with hu1|Uq
    · obtain ⟨b,hb⟩:∃b,u.data.toList = [b]:=by
        have hul:u.data.toList.length=1:=by rw[size_data]; exact hu1
        match hq:u.data.toList,hul with
        | [b],_=>exact ⟨b,rfl⟩
      have eu:u=⟨#[b]⟩:=s4 (by rw[hb])
      subst eu
      refine ⟨_,hk,mW (Any.strings_TrimLeft_one Tryz.Tz t b (TP 0 b rfl) w) ?_⟩
      rintro e w' ⟨he,rfl⟩
      exact ⟨_,he,Below.refl _ _,fin _ (Wz _ _).symm _⟩
    · refine ⟨_,hk,mW (Any.strings_TrimLeft_set Tryz.Tz Tryz.zeroValue135 (by kernel_rfl) t u w Uq (by omega) (by omega) TP) ?_⟩
      rintro e w' ⟨he,rfl⟩
      refine ⟨_,he,?_,fin _ rfl _⟩
      exact ((Below.refl _ _).alloc (Nat.le_refl _) _).alloc (by simp) _

theorem Zp:ay.Spec.Ok Tryz.prog 104 (Qg R):=by
  refine pB Tryz.func104 rfl rfl fun vs hp k r hk w c args wf ra => ?_
  unfold Qg at hk
  split at hk <;> try (first|cases hk)
  rename_i s cs
  obtain ⟨hc,hk⟩:=cy hk
  simp only[Bool.and_eq_true,decide_eq_true_eq]at hc
  obtain ⟨ha,Fs⟩:=hc
  obtain ⟨a,b,rfl,r1,r2⟩:=RM ra
  obtain ⟨t,rfl,rfl,hl⟩:=r1.kS
  obtain ⟨u,rfl,rfl,QG⟩:=r2.kS
  rw[size_data]at Fs
  have TP:=Lx ha
  have hle:=Zm t.data.toList u.data.toList
  rw[size_data]at hle
  have fin:∀(l:aj),l=cV t.data.toList u.data.toList→∀w':World,dH w' hp c (.str (cV t.data.toList u.data.toList)) (.string ⟨l.toArray⟩):=fun l e w'=>by
    rw[e]; exact Qi _ (by omega)
  by_cases h0:t.size=0∨u.size=0
  · refine ⟨_,hk,mW (Any.strings_TrimRight_empty Tryz.TB t u w h0) ?_⟩
    rintro e w' ⟨he,rfl⟩
    have e2:(⟨t.data.toList.toArray⟩:ByteArray)=t:=s4 rfl
    rw[←e2]at he
    refine ⟨_,he,Below.refl _ _,fin _ ?_ _⟩
    rcases h0 with h0|h0
    · have:t.data.toList = []:=List.eq_nil_of_length_eq_zero (by rw[size_data]; exact h0)
      rw[this]; unfold cV; simp
    · have:u.data.toList = []:=List.eq_nil_of_length_eq_zero (by rw[size_data]; exact h0)
      rw[this,Wy]
  · have hu1:u.size=1∨2≤u.size:=by omega
    rcases hu1 with hu1|Uq
    · obtain ⟨b,hb⟩:∃b,u.data.toList = [b]:=by
        have hul:u.data.toList.length=1:=by rw[size_data]; exact hu1
        match hq:u.data.toList,hul with
        | [b],_=>exact ⟨b,rfl⟩
      have eu:u=⟨#[b]⟩:=s4 (by rw[hb])
      subst eu
      refine ⟨_,hk,mW (Any.strings_TrimRight_one Tryz.TB t b (TP 0 b rfl) w hl) ?_⟩
      rintro e w' ⟨he,rfl⟩
      exact ⟨_,he,Below.refl _ _,fin _ (WA _ _).symm _⟩
    · refine ⟨_,hk,mW (Any.strings_TrimRight_set Tryz.TB Tryz.zeroValue135 (by kernel_rfl) t u w Uq (by omega) hl (by omega) TP) ?_⟩
      rintro e w' ⟨he,rfl⟩
      refine ⟨_,he,?_,fin _ rfl _⟩
      exact ((Below.refl _ _).alloc (Nat.le_refl _) _).alloc (by simp) _

theorem UT:ay.Spec.Ok Tryz.prog 105 (Qh R):=by
  refine pB Tryz.func105 rfl rfl fun vs hp k r hk w c args wf ra => ?_
  unfold Qh at hk
  split at hk <;> try (first|cases hk)
  rename_i s
  obtain ⟨hc,hk⟩:=cy hk
  simp only[decide_eq_true_eq]at hc
  obtain ⟨a,rfl,r1⟩:=O0 ra
  obtain ⟨t,rfl,rfl,hl⟩:=r1.kS
  rw[size_data]at hc
  obtain ⟨_,_,⟨t1,x1,Vq⟩,⟨t2,x2,We⟩⟩:=wf.lay.1
  have HF:IntKind.i64.has (eD t.data.toList):=by
    unfold eD
    split
    · rename_i v hv
      unfold Go.Lib.atoiAll at hv
      split at hv
      · cases hv
      · dsimp only at hv
        split at hv
        · cases hv
        · cases hv
        · rename_i u _
          split at hv
          · cases hv
          · split at hv
            · cases hv
            · cases hv
              split <;> simp[IntKind.has,IntKind.min,IntKind.max,IntKind.signed,IntKind.bits] <;> omega
    · unfold Go.Lib.atoiSat
      split <;> simp[IntKind.has,IntKind.min,IntKind.max,IntKind.signed,IntKind.bits]
    · simp[IntKind.has,IntKind.min,IntKind.max,IntKind.signed,IntKind.bits]
  have two:∀(z:Int) (u:V) (w':World) (x:Value),eD t.data.toList=z→dH w' hp c u x→dH w' hp c (.tuple [.int .i64 (eD t.data.toList),u]) (.tuple #[.int .i64 z,x]):=fun z u w' x hz hx=>by
    subst hz
    refine .tuple rfl fun j v d hv hd => ?_
    match j,hv,hd with
    | 0,hv,hd=>simp at hv hd; subst hv; subst hd; exact .int HF
    | 1,hv,hd=>simp at hv hd; subst hv; subst hd; exact hx
    | j+2,hv,_=>simp at hv
  rcases hA:Go.Lib.atoiAll t.data.toList with v|_|_
  ·
    have e1:s8 t.data.toList=true:=by unfold s8; rw[hA]
    have e2:eD t.data.toList=v:=by unfold eD; rw[hA]
    rw[e1]at hk
    refine ⟨_,hk,mW (Any.strconv_Atoi_ok Tryz.TE t (by omega) v hA w) ?_⟩
    rintro e w' ⟨he,hb⟩
    refine ⟨_,he,?_,two _ _ _ _ e2 .cS⟩
    rcases hb with rfl|⟨q,rfl⟩
    · exact Below.refl _ _
    · exact RP _ _
  ·
    have e1:s8 t.data.toList=false:=by unfold s8; rw[hA]
    have e2:eD t.data.toList=0:=by unfold eD; rw[hA]
    rw[e1]at hk
    refine ⟨_,hk,mW (Any.strconv_Atoi_syntax Tryz.TE t hc hA (.iface t1 x1) w Vq (.inr ⟨_,_,rfl⟩)) ?_⟩
    rintro e w' ⟨q,he,_,_,hb⟩
    exact ⟨_,he,hb,two _ _ _ _ e2 (.iface _ _)⟩
  ·
    have e1:s8 t.data.toList=false:=by unfold s8; rw[hA]
    have e2:eD t.data.toList=Go.Lib.atoiSat t.data.toList:=by unfold eD; rw[hA]
    rw[e1]at hk
    refine ⟨_,hk,mW (Any.strconv_Atoi_range Tryz.TE t hc hA (.iface t2 x2) w We (.inr ⟨_,_,rfl⟩)) ?_⟩
    rintro e w' ⟨q,he,_,_,hb⟩
    exact ⟨_,he,hb,two _ _ _ _ e2 (.iface _ _)⟩

theorem toErr_ok:ay.Spec.Ok Tryz.prog 136 (toErr_S R 184):=by
  refine pB Tryz.func136 rfl rfl fun vs hp k r hk w c args wf ra => ?_
  unfold toErr_S at hk
  split at hk <;> try (first|cases hk)
  rename_i fn s b1 b2 t n
  obtain ⟨hc,V6⟩:=cy hk
  obtain ⟨Kq,Hq⟩:=cy V6
  simp only[Bool.and_eq_true,Bool.or_eq_true,beq_iff_eq,decide_eq_true_eq]at hc Kq
  obtain ⟨ht,hn⟩:=hc
  have ht:=Nat.eq_of_beq_eq_true ht
  subst ht
  obtain ⟨l⟩:=args
  match l,ra with
  | [a1,a2,a3,a4,a5],ra =>
    obtain ⟨t1,rfl,rfl,_⟩:=ra.head.kS
    obtain ⟨t2,rfl,rfl,QG⟩:=ra.tail.head.kS
    obtain ⟨rfl,_⟩:=ra.tail.tail.head.jb
    obtain ⟨rfl,_⟩:=ra.tail.tail.tail.head.jb
    obtain ⟨rfl,_⟩:=ra.tail.tail.tail.tail.head.PJ
    rw[size_data]at Kq
    obtain ⟨_,_,⟨p1,x1,Vq⟩,⟨p2,x2,We⟩⟩:=wf.lay.1
    rcases hn with rfl|rfl
    · refine ⟨_,Hq,mW (Any.strconv_toError_syntax Tryz.Y9 t1 t2 b1 b2 (.iface p1 x1) w Kq Vq (.inr ⟨_,_,rfl⟩)) ?_⟩
      rintro e w' ⟨q,he,_,_,hb⟩
      exact ⟨_,he,hb, .iface _ _⟩
    · refine ⟨_,Hq,mW (Any.strconv_toError_range Tryz.Y9 t1 t2 b1 b2 (.iface p2 x2) w Kq We (.inr ⟨_,_,rfl⟩)) ?_⟩
      rintro e w' ⟨q,he,_,_,hb⟩
      exact ⟨_,he,hb, .iface _ _⟩
  | [],ra=>have:=ra.1; simp at this
  | [_],ra=>have:=ra.1; simp at this
  | [_,_],ra=>have:=ra.1; simp at this
  | [_,_,_],ra=>have:=ra.1; simp at this
  | [_,_,_,_],ra=>have:=ra.1; simp at this
  | _::_::_::_::_::_::_,ra=>have:=ra.1; simp at this

theorem WB:ay.Spec.Ok Tryz.prog 173 (MJ R):=by
  refine pB Tryz.func173 rfl rfl fun vs hp k r hk w c args wf ra => ?_
  unfold MJ at hk
  split at hk <;> try (first|cases hk)
  rename_i s cs
  obtain ⟨hc,hk⟩:=cy hk
  simp only[Bool.and_eq_true,decide_eq_true_eq]at hc
  obtain ⟨⟨⟨ha,hb⟩,hsl⟩,Fs⟩:=hc
  obtain ⟨a,b,rfl,r1,r2⟩:=RM ra
  obtain ⟨t,rfl,rfl,hl⟩:=r1.kS
  obtain ⟨u,rfl,rfl,QG⟩:=r2.kS
  rw[size_data]at hsl Fs
  refine ⟨_,hk,mW (Any.strings_ContainsAny_laid Tryz.lay150 (by kernel_rfl) t u w hsl Fs (Lx ha) (Lx hb)) ?_⟩
  rintro e w' ⟨he,hb⟩
  exact ⟨_,he,hb, .bool _⟩

theorem Zq:ay.Spec.Ok Tryz.prog 71 (US R):=by
  refine pB Tryz.func71 rfl rfl fun vs hp k r hk w c args wf ra => ?_
  unfold US at hk
  split at hk <;> try (first|cases hk)
  rename_i s ch
  obtain ⟨a,b,rfl,r1,r2⟩:=RM ra
  obtain ⟨t,rfl,rfl,hl⟩:=r1.kS
  obtain ⟨rfl,hn⟩:=r2.jb
  have hb:IntKind.i64.has (Go.Lib.indexByte t.data.toList ch.toNat.toUInt8):=by
    have h1:=Go.Lib.indexByte_ge t.data.toList ch.toNat.toUInt8
    have h2:Go.Lib.indexByte t.data.toList ch.toNat.toUInt8≤t.data.toList.length:=by
      generalize t.data.toList=l
      induction l with
      | nil=>simp[Go.Lib.indexByte]
      | cons x l ih =>
        have:=Go.Lib.indexByte_ge l ch.toNat.toUInt8
        unfold Go.Lib.indexByte
        split
        · simp; omega
        · split
          · simp; omega
          · simp; omega
    rw[size_data]at h2
    unfold mx at hl
    generalize Go.Lib.indexByte t.data.toList ch.toNat.toUInt8=z at h1 h2
    simp[IntKind.has,IntKind.min,IntKind.max,IntKind.signed,IntKind.bits]; omega
  refine ⟨_,hk,mW (Any.strings_IndexByte Tryz.lay137 t ch w) ?_⟩
  rintro e w' ⟨he,rfl⟩
  exact ⟨_,he,Below.refl _ _, .int hb⟩

theorem bccL:Lays.n240 Tryz.prog Tryz.Ed := { Tryz.Y8 with }
theorem ML:ay.Spec.Ok Tryz.prog 73 (KA R) :=
  bcc_ok Tryz.func73 rfl rfl (fun b w h0 hs hf=>Any.Builder_copyCheck_fresh bccL x72 b w h0 hs hf) (fun b w h0=>Any.Builder_copyCheck_used bccL x72 b w h0)

theorem UU:Lays.n169 Tryz.prog Tryz.HE:=Tryz.lay169
theorem CN:Builder.Extra Tryz.prog Tryz.HE := { sizeBuilder:=by kernel_rfl,liesBuilder:=by kernel_rfl,t5:=Tryz.underlying5,a5:=Tryz.isAgg5,z5:=Tryz.sizeOf5,v5:=Tryz.zeroValue5,infoByte:=by kernel_rfl,cellsByte:=by kernel_rfl,sizeByte:=by kernel_rfl,neB5:=by decide }

set_option maxHeartbeats 1000000 in
theorem RQ (b q cap:Nat) (p:Value) (cur:Array Value) (fz:Nat × Nat) (l:List UInt8) (w:World) (h0:l ≠ []) (Uv:w.heap[b]? = some (.cells #[p, .slice (some ⟨q,0,none⟩) l.length cap] oY.kR (0,0)))
    (hq:w.heap[q]? = some (.cells cur oY.u8 fz)) (hnc:l.length≤cap) (hcm:cap≤mx) (qS:l.length≤cur.size) (yi:∀(j:Nat) (x:UInt8),l[j]? = some x→w.cell? ⟨q,j,none⟩=some (.int .u8 x.toNat)) :
    Calls Tryz.prog 39 #[.pointer (some ⟨b,0,none⟩)] w fun e w'=>e = .returned (.string ⟨l.toArray⟩)∧w'=w.drew.freeze ⟨q,0,none⟩ l.length:=by
  have Kq:l.length≠0:=by simpa using h0
  have L:=UU
  have X:=CN
  have c1:w.drew.cell? ⟨b,1,none⟩=some (.slice (some ⟨q,0,none⟩) l.length cap):=by
    have h1:w.drew.heap[b]? = some (.cells #[p, .slice (some ⟨q,0,none⟩) l.length cap] oY.kR (0,0)):=Uv
    rw[Lib.cell_of_heap h1]; rfl
  have hSD:(Builtin.unsafeSliceData_ #[41] 106 #[.slice (some ⟨q,0,none⟩) l.length cap]).run Tryz.prog w.drew = .ok (.pointer (some ⟨q,0,none⟩)) w.drew :=
    Lib.run_unsafeSliceData_row _ _ _ _ _ _ (by omega)
  have hUS:(Builtin.unsafeString_ #[106,3] 9 #[.pointer (some ⟨q,0,none⟩), .int .i64 l.length]).run Tryz.prog w.drew = .ok (.string ⟨l.toArray⟩) (w.drew.freeze ⟨q,0,none⟩ l.length):=by
    refine Lib.run_unsafeString_row w.drew 106 3 9 5 L.t127 X.cellsByte q cur.size (by have hq':w.drew.heap[q]? = some (.cells cur 5 fz):=hq; simp[World.shape?,hq']) l h0 qS (by unfold mx at hcm; omega) ?_
    intro j x hx
    have:=yi j x hx
    rw[ay.tJ,Nat.zero_add]
    exact this
  have mixed:=L.mixed
  have t72:=L.t72; have a72:=L.a72; have z72:=L.z72; have v72:=L.v72; have u72:=run_underlying L.t72
  have t70:=L.t70; have a70:=L.a70; have z70:=L.z70; have v70:=L.v70; have u70:=run_underlying L.t70
  have t37:=L.t37; have a37:=L.a37; have z37:=L.z37; have v37:=L.v37; have u37:=run_underlying L.t37
  have t127:=L.t127; have a127:=L.a127; have z127:=L.z127; have v127:=L.v127; have u127:=run_underlying L.t127
  have t3:=L.t3; have a3:=L.a3; have z3:=L.z3; have v3:=L.v3; have u3:=run_underlying L.t3
  have t9:=L.t9; have a9:=L.a9; have z9:=L.z9; have v9:=L.v9; have u9:=run_underlying L.t9
  have t5:=X.t5; have a5:=X.a5; have z5:=X.z5; have v5:=X.v5; have u5:=run_underlying X.t5
  go_enter Tryz.func39,Tryz.ntmps39
  go_wp2
  go_region_o
  all_goals (go_wp2; go_ret; exact ⟨rfl,rfl⟩)

set_option maxHeartbeats 2000000 in
theorem N9 (b q:Nat) (p:Value) (cur:Array Value) (fz:Nat × Nat) (w:World) (Uv:w.heap[b]? = some (.cells #[p, .slice (some ⟨q,0,none⟩) 0 0] oY.kR (0,0))) (hq:w.heap[q]? = some (.cells cur oY.u8 fz)) :
    Calls Tryz.prog 39 #[.pointer (some ⟨b,0,none⟩)] w fun e w'=>e = .returned (.string ⟨#[]⟩)∧Below w.heap.size w w':=by
  have L:=UU
  have X:=CN
  have hUS:∀(W:World) (q:Option Addr),(Builtin.unsafeString_ #[106,3] 9 #[.pointer q, .int .i64 0]).run Tryz.prog W = .ok (.string .empty) W:=fun W q=>Lib.run_unsafeString_none W _ _ _ q
  have lh:b<w.heap.size:=by
    rcases Nat.lt_or_ge b w.heap.size with h'|h'
    · exact h'
    · simp[Array.getElem?_eq_none h']at Uv
  have c1:w.drew.cell? ⟨b,1,none⟩=some (.slice (some ⟨q,0,none⟩) 0 0):=by
    have:w.drew.heap[b]? = some (.cells #[p, .slice (some ⟨q,0,none⟩) 0 0] oY.kR (0,0)):=Uv
    rw[Lib.cell_of_heap this]; rfl
  have hSD:(Builtin.unsafeSliceData_ #[41] 106 #[.slice (some ⟨q,0,none⟩) 0 0]).run Tryz.prog w.drew = .ok (.pointer (some ⟨w.drew.heap.size,0,none⟩)) (w.drew.alloc (.view ⟨q,0,none⟩ 5)) :=
    Lib.run_unsafeSliceData_zero w.drew _ _ 5 L.t127 ⟨q,0,none⟩ 0 (5,cur.size) (by have hq':w.drew.heap[q]? = some (.cells cur 5 fz):=hq; simp[World.shape?,hq'])
  have c2:(w.drew.alloc (.view ⟨q,0,none⟩ 5)).cell? ⟨b,1,none⟩=some (.slice (some ⟨q,0,none⟩) 0 0):=by
    have:(w.drew.alloc (.view ⟨q,0,none⟩ 5)).heap[b]? = _:=(Lib.alloc_old w.drew _ b lh).trans Uv
    rw[Lib.cell_of_heap this]; rfl
  have c3:(w.alloc (.view ⟨q,0,none⟩ 5)).drew.cell? ⟨b,1,none⟩=some (.slice (some ⟨q,0,none⟩) 0 0):=c2
  have c0:w.cell? ⟨b,1,none⟩=some (.slice (some ⟨q,0,none⟩) 0 0):=c1
  have mixed:=L.mixed
  have t72:=L.t72; have a72:=L.a72; have z72:=L.z72; have v72:=L.v72; have u72:=run_underlying L.t72
  have t70:=L.t70; have a70:=L.a70; have z70:=L.z70; have v70:=L.v70; have u70:=run_underlying L.t70
  have t37:=L.t37; have a37:=L.a37; have z37:=L.z37; have v37:=L.v37; have u37:=run_underlying L.t37
  have t127:=L.t127; have a127:=L.a127; have z127:=L.z127; have v127:=L.v127; have u127:=run_underlying L.t127
  have t3:=L.t3; have a3:=L.a3; have z3:=L.z3; have v3:=L.v3; have u3:=run_underlying L.t3
  have t9:=L.t9; have a9:=L.a9; have z9:=L.z9; have v9:=L.v9; have u9:=run_underlying L.t9
  have t5:=X.t5; have a5:=X.a5; have z5:=X.z5; have v5:=X.v5; have u5:=run_underlying X.t5
  go_enter Tryz.func39,Tryz.ntmps39
  go_wp2
  go_region_o
  all_goals (go_wp2; go_ret; exact ⟨rfl,(Below.drew (Below.refl _ w)).alloc (Nat.le_refl _) _⟩)

theorem RR:MH Tryz.prog 39 where
  nil:=fun b p w Uv=>Any.Builder_String_nil UU CN w.heap.size b p w Uv
  Zg:=N9
  room:=fun b q cap p w hc Uv=>Any.Builder_String_room UU CN w.heap.size b q cap p w hc Uv
  some:=RQ

theorem Ly:ay.Spec.Ok Tryz.prog 39 (Ee R):=bstr_ok Tryz.func39 rfl rfl RR

end
end Go.Proofs.YtmlkkgfenfdndaaGreatDoor

/-
  Functions of the program as pure Lean functions, and the ties; printed by wip/tools/emit.py.
-/
set_option maxRecDepth 100000
namespace Go.Proofs.YtmlkkgfenfdndaaGreatDoor
open Go Go.ay

/-! ### humpyard/humpyardlaw04.pick -/
abbrev pC (R:Type):Type:=Int→Int→(Int→Option R)→Option R
abbrev AZ:List bO := [.leaf (.int .i64), .leaf (.int .i64)]
abbrev A0:List aH := []
noncomputable def G3 {R:Type} (fn:pC R):bO.av AZ→aH.av A0→(V→az→Option R)→Option R:=fun x y k=>fn x.1 x.2.1 (fun q0=>k (.int .i64 q0) [])
noncomputable def A1 (R:Type):Env R:=fun i=>match i with
  | _=>none
theorem MN (R:Type):p8 Tryz.prog (A1 R):=by
  intro i b sp h
  unfold A1 at h
  split at h
  · cases h

noncomputable def IE (R:Type):Nat→Option (Hint × cq R):=fun i=>match i with
  | _=>none

noncomputable def IF {R:Type} (x1:Int) (x2:Int) (k0:Int→Option R):Option R :=
  bif (decide (x1<(0:Int)))then (cU (!decide (x2=0)) (k0 (Int.tmod (IntKind.i64.wrap (0 - (IntKind.i64.wrap (x1+1)))) x2)))else (cU (!decide (x2=0)) (k0 (Int.tmod x1 x2)))
noncomputable def eW {R:Type}:pC R:=fun x1 x2 k0=>IF x1 x2 k0
theorem Oa {R:Type} (x1:Int) (x2:Int) (k:V→az→Option R):iQ tt (A1 R) (IE R) false Tryz.f35 (aK Tryz.f35) [.int .i64 x1, .int .i64 x2] [] k =
    IF x1 x2 (fun q0=>k (.int .i64 q0) []):=by kernel_rfl
theorem JP (R:Type):∀a∈aP (aK Tryz.f35),cO tt (A1 R) (IE R) 0 a:=by
  refine bH 0 (by kernel_rfl) fun i hi => ?_
  omega
theorem KQ (R:Type) (other:ay.Spec R) (ho:ay.Spec.Ok Tryz.prog 35 other):ay.Spec.Ok Tryz.prog 35 (aA AZ A0 (G3 eW) other) :=
  bw ho (bk TT mixed (MN R) (keep:=false) rfl rfl rfl rfl 0 (JP R)) fun (x:bO.av AZ) (y:aH.av A0) k=>Oa x.1 x.2.1 k

/-! ### humpyard/humpyardlaw01.pick -/
abbrev si (R:Type):Type:=Int→Int→(Int→Option R)→Option R
abbrev A2:List bO := [.leaf (.int .i64), .leaf (.int .i64)]
abbrev A3:List aH := []
noncomputable def G4 {R:Type} (fn:si R):bO.av A2→aH.av A3→(V→az→Option R)→Option R:=fun x y k=>fn x.1 x.2.1 (fun q0=>k (.int .i64 q0) [])
noncomputable def A4 (R:Type):Env R:=fun i=>match i with
  | _=>none
theorem MO (R:Type):p8 Tryz.prog (A4 R):=by
  intro i b sp h
  unfold A4 at h
  split at h
  · cases h

noncomputable def IG (R:Type):Nat→Option (Hint × cq R):=fun i=>match i with
  | _=>none

noncomputable def IH {R:Type} (x1:Int) (x2:Int) (k0:Int→Option R):Option R :=
  bif (decide (x1<(0:Int)))then (cU (!decide (x2=0)) (k0 (Int.tmod (IntKind.i64.wrap (0 - (IntKind.i64.wrap (x1+1)))) x2)))else (cU (!decide (x2=0)) (k0 (Int.tmod x1 x2)))
noncomputable def gu {R:Type}:si R:=fun x1 x2 k0=>IH x1 x2 k0
theorem Ob {R:Type} (x1:Int) (x2:Int) (k:V→az→Option R):iQ tt (A4 R) (IG R) false Tryz.f54 (aK Tryz.f54) [.int .i64 x1, .int .i64 x2] [] k =
    IH x1 x2 (fun q0=>k (.int .i64 q0) []):=by kernel_rfl
theorem JQ (R:Type):∀a∈aP (aK Tryz.f54),cO tt (A4 R) (IG R) 0 a:=by
  refine bH 0 (by kernel_rfl) fun i hi => ?_
  omega
theorem KR (R:Type) (other:ay.Spec R) (ho:ay.Spec.Ok Tryz.prog 54 other):ay.Spec.Ok Tryz.prog 54 (aA A2 A3 (G4 gu) other) :=
  bw ho (bk TT mixed (MO R) (keep:=false) rfl rfl rfl rfl 0 (JQ R)) fun (x:bO.av A2) (y:aH.av A3) k=>Ob x.1 x.2.1 k

/-! ### humpyard/humpyardlaw01.Fit -/
abbrev mw (R:Type):Type:=Int→Int→(iZ→Option R)→Option R
abbrev zE:List bO := [.leaf (.int .i64), .leaf (.int .i64)]
abbrev zF:List aH := []
noncomputable def Ef {R:Type} (fn:mw R):bO.av zE→aH.av zF→(V→az→Option R)→Option R:=fun x y k=>fn x.1 x.2.1 (fun q0=>k (.agg [.int .i64 q0.aB, .int .i64 q0.exp]) [])
abbrev oa (R:Type):Type:=Nat→Int→Int→iZ→(Int→Int→iZ→Option R)→Option R
noncomputable def s9 (R:Type) (gu:si R):Env R:=fun i=>match i with
  | 54=>some (true,(aA A2 A3 (G4 gu) bg))
  | _=>none
theorem Oc (R:Type):p8 Tryz.prog (s9 R gu):=by
  intro i b sp h
  unfold s9 at h
  split at h
  · cases h; exact ⟨(KR R _ (aO _)),fun h=>nomatch h⟩
  · cases h

noncomputable def oS {R:Type} (fH:Int→Int→iZ→Option R) (x5:Int) (x6:Int) (x7:iZ) (e0:Int→Int→iZ→Option R):Option R :=
  bif (x5 != 0)then (bif ((Int.tmod x5 10)==0)then (fH (IntKind.i64.wrap (Int.tdiv x5 10)) x6 x7)else (e0 x5 x6 x7))else (e0 x5 x6 x7)
noncomputable def cv {R:Type}:oa R
  | 0,_,_,_,_=>none
  | n+1,lP,lQ,my,e0=>oS (fun lP lQ my=>cv n lP lQ my e0) lP lQ my e0
noncomputable def vp:Hint := { live := [4,5,6],own := [],rows := [],cells := [],drop := [],out := [4,5,6] }
abbrev lR:Type:=Int × Int × iZ
noncomputable def sA:lR→St:=fun d=>⟨[.undef, .undef, .undef, .undef, .ptr 0 0, .int .i64 d.1, .int .i64 d.2.1, .undef, .undef, .undef, .undef, .undef, .undef, .undef, .undef, .undef, .undef, .undef, .undef, .undef, .undef, .undef, .undef, .undef, .undef, .undef, .undef], [.cells [.int .i64 d.2.2.aB, .int .i64 d.2.2.exp]]⟩
noncomputable def yy {R:Type} (K:Ex→St→Option R) (q0:Int) (q1:Int) (q2:iZ):Option R:=K (.exit 0) ⟨[.undef, .undef, .undef, .undef, .ptr 0 0, .int .i64 q0, .int .i64 q1, .undef, .undef, .undef, .undef, .undef, .undef, .undef, .undef, .undef, .undef, .undef, .undef, .undef, .undef, .undef, .undef, .undef, .undef, .undef, .undef], [.cells [.int .i64 q2.aB, .int .i64 q2.exp]]⟩
noncomputable def Ah {R:Type} (K:Ex→St→Option R) (rc:lR→Option R) (d:lR):Option R:=oS (fun z0 z1 z2=>rc (z0,z1,z2)) d.1 d.2.1 d.2.2 (yy K)
noncomputable def oT {R:Type} (K:Ex→St→Option R) (n:Nat) (d:lR):Option R:=cv n d.1 d.2.1 d.2.2 (yy K)
abbrev lS:List bO := [.leaf (.undef), .leaf (.undef), .leaf (.undef), .leaf (.undef), .leaf (.ptr 0 0), .leaf (.int .i64), .leaf (.int .i64), .leaf (.undef), .leaf (.undef), .leaf (.undef), .leaf (.undef), .leaf (.undef), .leaf (.undef), .leaf (.undef), .leaf (.undef), .leaf (.undef), .leaf (.undef), .leaf (.undef), .leaf (.undef), .leaf (.undef), .leaf (.undef), .leaf (.undef), .leaf (.undef), .leaf (.undef), .leaf (.undef), .leaf (.undef), .leaf (.undef)]
abbrev lT:List aH := [.cells [.int .i64, .int .i64]]
noncomputable def Ai (x:bO.av lS) (y:aH.av lT):Nat:=(Int.natAbs x.2.2.2.2.2.1+Int.natAbs x.2.2.2.2.2.2.1+iZ.fu (⟨y.1.1,y.1.2.1⟩:iZ)+64)
noncomputable def Aj (x:bO.av lS) (y:aH.av lT):lR:=(x.2.2.2.2.2.1,x.2.2.2.2.2.2.1,(⟨y.1.1,y.1.2.1⟩:iZ))
noncomputable def yz {R:Type} (L:oa R):bO.av lS→aH.av lT→(Ex→St→Option R)→Option R:=fun x y K=>L (Ai x y) x.2.2.2.2.2.1 x.2.2.2.2.2.2.1 (⟨y.1.1,y.1.2.1⟩:iZ) (yy K)
noncomputable def zG (R:Type) (cv:oa R):Nat→Option (Hint × cq R):=fun i=>match i with
  | 3=>some (vp,(gq lS lT (yz cv) qx))
  | _=>none

theorem HG {R:Type} (gu:si R) (cv:oa R) (K:Ex→St→Option R) (rc:St→Option R) (d:lR):roundOf tt (s9 R gu) (zG R cv) 0 ((aP (aK Tryz.f28)).getD 0 .skip) vp (sA d) rc K=Ah K (fun d=>rc (sA d)) d:=by kernel_rfl
theorem FJ {R:Type} (K:Ex→St→Option R) (n:Nat) (d:lR):oT K (n+1) d=Ah K (oT K n) d:=by kernel_rfl
theorem FK {R:Type} (K:Ex→St→Option R) (d:lR):oT K 0 d=none:=by kernel_rfl
theorem HH (x:bO.av lS) (y:aH.av lT):(⟨bO.cQ lS x,aH.cQ lT y⟩:St)=sA (Aj x y):=by kernel_rfl
theorem HI {R:Type} (x:bO.av lS) (y:aH.av lT) (K:Ex→St→Option R):yz (cv) x y K=oT K (Ai x y) (Aj x y):=by kernel_rfl
theorem JR {R:Type} (other:cq R) (ho:o0 tt (s9 R gu) (zG R cv) 0 ((aP (aK Tryz.f28)).getD 0 .skip) vp other):o0 tt (s9 R gu) (zG R cv) 0 ((aP (aK Tryz.f28)).getD 0 .skip) vp (gq lS lT (yz (cv)) other) :=
  gL (A:=oT) ho (kr sA (Ah) (oT) (FK) (HG gu cv) (FJ)) Ai Aj HH (HI)

noncomputable def zH {R:Type} (gu:si R) (cv:oa R) (x1:Int) (x2:Int) (k0:iZ→Option R):Option R :=
  gu x1 2000000000000001 (fun y3=>gu x2 19 (fun y4=>cv (Int.natAbs (IntKind.i64.wrap (y3 - 1000000000000000))+Int.natAbs (IntKind.i64.wrap (y4 - 9))+iZ.fu (⟨0,0⟩:iZ)+64) (IntKind.i64.wrap (y3 - 1000000000000000)) (IntKind.i64.wrap (y4 - 9)) (⟨0,0⟩:iZ) (fun y9 yA wE=>bif (y9==0)then (k0 (⟨y9,0⟩:iZ))else (k0 (⟨y9,yA⟩:iZ)))))
noncomputable def di {R:Type}:mw R:=fun x1 x2 k0=>zH gu cv x1 x2 k0
theorem Qj {R:Type} (gu:si R) (cv:oa R) (x1:Int) (x2:Int) (k:V→az→Option R):iQ tt (s9 R gu) (zG R cv) false Tryz.f28 (aK Tryz.f28) [.int .i64 x1, .int .i64 x2] [] k =
    zH gu cv x1 x2 (fun q0=>k (.agg [.int .i64 q0.aB, .int .i64 q0.exp]) []):=by kernel_rfl
theorem KS (R:Type):∀a∈aP (aK Tryz.f28),cO tt (s9 R gu) (zG R cv) 0 a:=by
  refine bH 1 (by kernel_rfl) fun i hi => ?_
  match i,hi with
  | 0,_=>exact fG (by kernel_rfl) (JR _ jc)
  | n+1,hi=>omega
theorem FL (R:Type) (other:ay.Spec R) (ho:ay.Spec.Ok Tryz.prog 28 other):ay.Spec.Ok Tryz.prog 28 (aA zE zF (Ef di) other) :=
  bw ho (bk TT mixed (Oc R) (keep:=false) rfl rfl rfl rfl 0 (KS R)) fun (x:bO.av zE) (y:aH.av zF) k=>Qj gu cv x.1 x.2.1 k

/-! ### humpyard/humpyardlaw02.pick -/
abbrev pD (R:Type):Type:=Int→Int→(Int→Option R)→Option R
abbrev A5:List bO := [.leaf (.int .i64), .leaf (.int .i64)]
abbrev A6:List aH := []
noncomputable def G5 {R:Type} (fn:pD R):bO.av A5→aH.av A6→(V→az→Option R)→Option R:=fun x y k=>fn x.1 x.2.1 (fun q0=>k (.int .i64 q0) [])
noncomputable def A7 (R:Type):Env R:=fun i=>match i with
  | _=>none
theorem MP (R:Type):p8 Tryz.prog (A7 R):=by
  intro i b sp h
  unfold A7 at h
  split at h
  · cases h

noncomputable def II (R:Type):Nat→Option (Hint × cq R):=fun i=>match i with
  | _=>none

noncomputable def IJ {R:Type} (x1:Int) (x2:Int) (k0:Int→Option R):Option R :=
  bif (decide (x1<(0:Int)))then (cU (!decide (x2=0)) (k0 (Int.tmod (IntKind.i64.wrap (0 - (IntKind.i64.wrap (x1+1)))) x2)))else (cU (!decide (x2=0)) (k0 (Int.tmod x1 x2)))
noncomputable def dN {R:Type}:pD R:=fun x1 x2 k0=>IJ x1 x2 k0
theorem Od {R:Type} (x1:Int) (x2:Int) (k:V→az→Option R):iQ tt (A7 R) (II R) false Tryz.f60 (aK Tryz.f60) [.int .i64 x1, .int .i64 x2] [] k =
    IJ x1 x2 (fun q0=>k (.int .i64 q0) []):=by kernel_rfl
theorem JS (R:Type):∀a∈aP (aK Tryz.f60),cO tt (A7 R) (II R) 0 a:=by
  refine bH 0 (by kernel_rfl) fun i hi => ?_
  omega
theorem KT (R:Type) (other:ay.Spec R) (ho:ay.Spec.Ok Tryz.prog 60 other):ay.Spec.Ok Tryz.prog 60 (aA A5 A6 (G5 dN) other) :=
  bw ho (bk TT mixed (MP R) (keep:=false) rfl rfl rfl rfl 0 (JS R)) fun (x:bO.av A5) (y:aH.av A6) k=>Od x.1 x.2.1 k

/-! ### humpyard/humpyardlaw02.Text -/
abbrev ja (R:Type):Type:=(List Int)→(aj→Option R)→Option R
abbrev wY:List bO := [.leaf (.sl (.int .i64))]
abbrev wZ:List aH := []
noncomputable def C1 {R:Type} (fn:ja R):bO.av wY→aH.av wZ→(V→az→Option R)→Option R:=fun x y k=>fn x.1 (fun q0=>k (.str q0) [])
abbrev nj (R:Type):Type:=Nat→(List Int)→aj→Int→(aj→Option R)→Option R
noncomputable def rj (R:Type) (dN:pD R):Env R:=fun i=>match i with
  | 60=>some (true,(aA A5 A6 (G5 dN) bg))
  | _=>none
theorem MQ (R:Type):p8 Tryz.prog (rj R dN):=by
  intro i b sp h
  unfold rj at h
  split at h
  · cases h; exact ⟨(KT R _ (aO _)),fun h=>nomatch h⟩
  · cases h

noncomputable def ku {R:Type} (dN:pD R) (fH:(List Int)→aj→Int→Option R) (x2:List Int) (x3:aj) (x4:Int) (e0:aj→Option R):Option R :=
  bif (decide (x4<(x2.length:Int)))then (bif (decide (x4<(200:Int)))then (cU (decide ((0:Int)≤x4)&&decide (x4<x2.length)) (let j16:=fun (RS:Int)=>bif (decide (RS≥(55296:Int)))then (bif (decide (RS≤(57343:Int)))then (cU (decide (x3.length+(oM ([120]:List Int)).length≤9223372036854775807)) (fH x2 (x3++(oM ([120]:List Int))) (IntKind.i64.wrap (x4+1))))else (cU (decide (x3.length+(oM ([(IntKind.i32.wrap RS)]:List Int)).length≤9223372036854775807)) (fH x2 (x3++(oM ([(IntKind.i32.wrap RS)]:List Int))) (IntKind.i64.wrap (x4+1)))))else (cU (decide (x3.length+(oM ([(IntKind.i32.wrap RS)]:List Int)).length≤9223372036854775807)) (fH x2 (x3++(oM ([(IntKind.i32.wrap RS)]:List Int))) (IntKind.i64.wrap (x4+1)))); dN (x2.getD x4.toNat (Ty.ck (.int .i64))) 5 (fun y6=>let j12:=fun (z7:Bool)=>bif z7 then (dN (IntKind.i64.wrap (Int.tdiv (x2.getD x4.toNat (Ty.ck (.int .i64))) 5)) 128 (fun y8=>j16 y8))else (bif (y6==2)then (dN (IntKind.i64.wrap (Int.tdiv (x2.getD x4.toNat (Ty.ck (.int .i64))) 5)) 2048 (fun y9=>j16 y9))else (bif (y6==3)then (dN (IntKind.i64.wrap (Int.tdiv (x2.getD x4.toNat (Ty.ck (.int .i64))) 5)) 65536 (fun yA=>j16 yA))else (dN (IntKind.i64.wrap (Int.tdiv (x2.getD x4.toNat (Ty.ck (.int .i64))) 5)) 1114112 (fun wE=>j16 wE)))); bif (y6==0)then (j12 (y6==0))else (j12 (y6==1)))))else (e0 x3))else (e0 x3)
noncomputable def cC {R:Type}:nj R
  | 0,_,_,_,_=>none
  | n+1,lP,lQ,my,e0=>ku dN (fun lP lQ my=>cC n lP lQ my e0) lP lQ my e0
noncomputable def tN:Hint := { live := [0,3,4],own := [],rows := [],cells := [],drop := [],out := [2,3] }
abbrev kv:Type:=(List Int) × aj × Int
noncomputable def rq:kv→St:=fun d=>⟨[.sl (.int .i64) d.1 .no, .undef, .undef, .str d.2.1, .int .i64 d.2.2, .undef, .undef, .undef, .undef, .undef, .undef, .undef, .undef, .undef, .undef, .undef, .undef, .undef, .undef, .undef, .undef, .undef, .undef, .undef, .undef, .undef, .undef, .undef, .undef, .undef, .undef, .undef, .undef, .undef, .undef, .undef, .undef, .undef, .undef, .undef, .undef, .undef, .undef, .undef, .undef, .undef, .undef, .undef, .undef, .undef, .undef, .undef, .undef, .undef, .undef], []⟩
noncomputable def w3 {R:Type} (K:Ex→St→Option R) (q0:aj):Option R:=K (.exit 0) ⟨[.undef, .undef, .undef, .str q0, .undef, .undef, .undef, .undef, .undef, .undef, .undef, .undef, .undef, .undef, .undef, .undef, .undef, .undef, .undef, .undef, .undef, .undef, .undef, .undef, .undef, .undef, .undef, .undef, .undef, .undef, .undef, .undef, .undef, .undef, .undef, .undef, .undef, .undef, .undef, .undef, .undef, .undef, .undef, .undef, .undef, .undef, .undef, .undef, .undef, .undef, .undef, .undef, .undef, .undef, .undef], []⟩
noncomputable def yB {R:Type} (dN:pD R) (K:Ex→St→Option R) (rc:kv→Option R) (d:kv):Option R:=ku dN (fun z0 z1 z2=>rc (z0,z1,z2)) d.1 d.2.1 d.2.2 (w3 K)
noncomputable def oc {R:Type} (K:Ex→St→Option R) (n:Nat) (d:kv):Option R:=cC n d.1 d.2.1 d.2.2 (w3 K)
abbrev kz:List bO := [.leaf (.sl (.int .i64)), .leaf (.undef), .leaf (.undef), .leaf (.str), .leaf (.int .i64), .leaf (.undef), .leaf (.undef), .leaf (.undef), .leaf (.undef), .leaf (.undef), .leaf (.undef), .leaf (.undef), .leaf (.undef), .leaf (.undef), .leaf (.undef), .leaf (.undef), .leaf (.undef), .leaf (.undef), .leaf (.undef), .leaf (.undef), .leaf (.undef), .leaf (.undef), .leaf (.undef), .leaf (.undef), .leaf (.undef), .leaf (.undef), .leaf (.undef), .leaf (.undef), .leaf (.undef), .leaf (.undef), .leaf (.undef), .leaf (.undef), .leaf (.undef), .leaf (.undef), .leaf (.undef), .leaf (.undef), .leaf (.undef), .leaf (.undef), .leaf (.undef), .leaf (.undef), .leaf (.undef), .leaf (.undef), .leaf (.undef), .leaf (.undef), .leaf (.undef), .leaf (.undef), .leaf (.undef), .leaf (.undef), .leaf (.undef), .leaf (.undef), .leaf (.undef), .leaf (.undef), .leaf (.undef), .leaf (.undef), .leaf (.undef)]
abbrev kA:List aH := []
noncomputable def yC (x:bO.av kz) (y:aH.av kA):Nat:=(List.length x.1+List.length x.2.2.2.1+Int.natAbs x.2.2.2.2.1+64)
noncomputable def yD (x:bO.av kz) (y:aH.av kA):kv:=(x.1,x.2.2.2.1,x.2.2.2.2.1)
noncomputable def w6 {R:Type} (L:nj R):bO.av kz→aH.av kA→(Ex→St→Option R)→Option R:=fun x y K=>L (yC x y) x.1 x.2.2.2.1 x.2.2.2.2.1 (w3 K)
noncomputable def w7 (R:Type) (cC:nj R):Nat→Option (Hint × cq R):=fun i=>match i with
  | 3=>some (tN,(gq kz kA (w6 cC) qx))
  | _=>none

theorem GA {R:Type} (dN:pD R) (cC:nj R) (K:Ex→St→Option R) (rc:St→Option R) (d:kv):roundOf tt (rj R dN) (w7 R cC) 0 ((aP (aK Tryz.f37)).getD 0 .skip) tN (rq d) rc K=yB dN K (fun d=>rc (rq d)) d:=by kernel_rfl
theorem E0 {R:Type} (K:Ex→St→Option R) (n:Nat) (d:kv):oc K (n+1) d=yB dN K (oc K n) d:=by kernel_rfl
theorem E1 {R:Type} (K:Ex→St→Option R) (d:kv):oc K 0 d=none:=by kernel_rfl
theorem GB (x:bO.av kz) (y:aH.av kA):(⟨bO.cQ kz x,aH.cQ kA y⟩:St)=rq (yD x y):=by kernel_rfl
theorem GC {R:Type} (x:bO.av kz) (y:aH.av kA) (K:Ex→St→Option R):w6 (cC) x y K=oc K (yC x y) (yD x y):=by kernel_rfl
theorem IK {R:Type} (other:cq R) (ho:o0 tt (rj R dN) (w7 R cC) 0 ((aP (aK Tryz.f37)).getD 0 .skip) tN other):o0 tt (rj R dN) (w7 R cC) 0 ((aP (aK Tryz.f37)).getD 0 .skip) tN (gq kz kA (w6 (cC)) other) :=
  gL (A:=oc) ho (kr rq (yB dN) (oc) (E1) (GA dN cC) (E0)) yC yD GB (GC)

noncomputable def IL {R:Type} (cC:nj R) (x1:List Int) (k0:aj→Option R):Option R :=
  cC (List.length x1+List.length ([]:aj)+Int.natAbs 0+64) x1 ([]:aj) 0 (fun E2=>k0 E2)
noncomputable def ca {R:Type}:ja R:=fun x1 k0=>IL cC x1 k0
theorem Oe {R:Type} (dN:pD R) (cC:nj R) (x1:List Int) (k:V→az→Option R):iQ tt (rj R dN) (w7 R cC) false Tryz.f37 (aK Tryz.f37) [.sl (.int .i64) x1 .no] [] k =
    IL cC x1 (fun q0=>k (.str q0) []):=by kernel_rfl
theorem JT (R:Type):∀a∈aP (aK Tryz.f37),cO tt (rj R dN) (w7 R cC) 0 a:=by
  refine bH 1 (by kernel_rfl) fun i hi => ?_
  match i,hi with
  | 0,_=>exact fG (by kernel_rfl) (IK _ jc)
  | n+1,hi=>omega
theorem EM (R:Type) (other:ay.Spec R) (ho:ay.Spec.Ok Tryz.prog 37 other):ay.Spec.Ok Tryz.prog 37 (aA wY wZ (C1 ca) other) :=
  bw ho (bk TT mixed (MQ R) (keep:=false) rfl rfl rfl rfl 0 (JT R)) fun (x:bO.av wY) (y:aH.av wZ) k=>Oe dN cC x.1 k

end Go.Proofs.YtmlkkgfenfdndaaGreatDoor

set_option maxRecDepth 100000
namespace Go.Proofs.YtmlkkgfenfdndaaGreatDoor
open Go Go.ay

def Eg (n:Int):Prop := -9223372036854775808≤n∧n≤9223372036854775807
theorem Lz {n:Int}:IntKind.i64.has n↔Eg n:=by
  unfold IntKind.has Eg
  simp only[IntKind.min,IntKind.max,IntKind.bits,IntKind.signed]
  simp

theorem MR {R:Type} (c n:Int) (hc:Eg c) (h0:0<n) (hn:n≤9223372036854775807):∃r:Int,0≤r∧r<n∧∀k:Int→Option R,
    (bif (decide (c<(0:Int)))then (cU (!decide (n=0)) (k (Int.tmod (IntKind.i64.wrap (0 - (IntKind.i64.wrap (c+1)))) n)))else (cU (!decide (n=0)) (k (Int.tmod c n))))=k r:=by
  obtain ⟨h1,h2⟩:=hc
  have hz:(!decide (n=0))=true:=by simp; omega
  by_cases h:c<0
  · refine ⟨Int.tmod (0 - (c+1)) n,Int.tmod_nonneg _ (by omega),Int.tmod_lt_of_pos _ h0,fun k => ?_⟩
    have hd:decide (c<(0:Int))=true:=by simpa using h
    rw[hd,cond_true,aS hz,dE (n:=c+1) (by omega) (by omega),dE (by omega) (by omega)]
  · refine ⟨Int.tmod c n,Int.tmod_nonneg _ (by omega),Int.tmod_lt_of_pos _ h0,fun k => ?_⟩
    have hd:decide (c<(0:Int))=false:=by simpa using h
    rw[hd,cond_false,aS hz]

theorem MS {R:Type} (c n:Int) (hc:Eg c) (h0:0<n) (hn:n≤9223372036854775807):∃r:Int,0≤r∧r<n∧∀k:Int→Option R,dN c n k=k r:=MR c n hc h0 hn

theorem O2 {n:Int} (h1:0≤n) (h2:n<1114112):IntKind.i32.wrap n=n:=by
  simp only[IntKind.wrap,IntKind.bits,IntKind.signed,IntKind.min,IntKind.max]
  simp
  omega

theorem TQ {c:Nat} (hv:vr c):(Utf8.encode (c:Int)).data.toList=enc c:=by
  have lh:=O1 hv
  have HF:Utf8.valid (c:Int)=true:=by
    unfold vr at hv
    simp only[Utf8.valid,Bool.or_eq_true,Bool.and_eq_true,decide_eq_true_eq]
    omega
  unfold Utf8.encode
  simp only[HF,if_true,Int.toNat_natCast]
  by_cases h1:c<128
  · rw[if_pos h1,enc1 h1]
  by_cases h2:c<2048
  · rw[if_neg h1,if_pos h2,enc2 (by omega) h2]
  by_cases h3:c<65536
  · rw[if_neg h1,if_neg h2,if_pos h3,enc3 (by omega) h3 hv]
  · rw[if_neg h1,if_neg h2,if_neg h3,enc4 (by omega) lh]

theorem MT {c:Nat} (hv:vr c):oM [(c:Int)]=enc c:=by
  unfold oM
  simp only[List.flatMap_cons,List.flatMap_nil,List.append_nil]
  exact TQ hv

theorem JU (rs:List Nat) (c:Nat):cQ (rs ++ [c])=cQ rs++enc c:=by simp[cQ]

theorem br {p:Prop} [Decidable p] (h:p):decide p=true:=decide_eq_true h
theorem cY {p:Prop} [Decidable p] (h:¬p):decide p=false:=decide_eq_false h

def Eh (z:Int):Nat:=if 55296≤z∧z≤57343 then 120 else z.toNat
theorem O3 {z:Int} (h0:0≤z) (h1:z<1114112):vr (Eh z):=by unfold Eh vr; split <;> omega

theorem Zr {R:Type} (raw:List Int) (s:aj) (i:Nat) (fH:List Int→aj→Int→Option R) {z:Int} (h0:0≤z) (h1:z<1114112) (hl:s.length≤4*i) (hi:i<200) :
    (bif (decide (z≥(55296:Int)))then (bif (decide (z≤(57343:Int)))then (cU (decide (s.length+(oM ([120]:List Int)).length≤9223372036854775807)) (fH raw (s++(oM ([120]:List Int))) (IntKind.i64.wrap ((i:Int)+1))))else (cU (decide (s.length+(oM ([(IntKind.i32.wrap z)]:List Int)).length≤9223372036854775807)) (fH raw (s++(oM ([(IntKind.i32.wrap z)]:List Int))) (IntKind.i64.wrap ((i:Int)+1)))))else (cU (decide (s.length+(oM ([(IntKind.i32.wrap z)]:List Int)).length≤9223372036854775807)) (fH raw (s++(oM ([(IntKind.i32.wrap z)]:List Int))) (IntKind.i64.wrap ((i:Int)+1))))) =
      fH raw (s++enc (Eh z)) ((i+1:Nat):Int):=by
  have hw:IntKind.i64.wrap ((i:Int)+1)=((i+1:Nat):Int):=by rw[dE (by omega) (by omega)]; omega
  have hv:=O3 h0 h1
  have hle:=AY hv
  by_cases hb:55296≤z∧z≤57343
  · have e:oM [120]=enc (Eh z):=by unfold Eh at hv ⊢; rw[if_pos hb]at hv ⊢; exact MT hv
    rw[br (show z≥55296 from hb.1),cond_true,br hb.2,cond_true,e,aS (br (by omega)),hw]
  · have e:oM [IntKind.i32.wrap z]=enc (Eh z):=by
      unfold Eh at hv ⊢; rw[if_neg hb]at hv ⊢
      rw[←MT hv,O2 h0 h1,Int.toNat_of_nonneg h0]
    by_cases hc:z≥55296
    · rw[br hc,cond_true,cY (show ¬z≤57343 by omega),cond_false,e,aS (br (by omega)),hw]
    · rw[cY hc,cond_false,e,aS (br (by omega)),hw]

theorem Zs {n k:Int} (h:Eg n) (hk:1<k):Eg (Int.tdiv n k):=by
  have h1:(Int.tdiv n k).natAbs≤n.natAbs:=by rw[Int.natAbs_tdiv]; exact Nat.div_le_self _ _
  have h2:(Int.tdiv n k).natAbs=n.natAbs / k.natAbs:=Int.natAbs_tdiv _ _
  unfold Eg at h ⊢
  have h3:n.natAbs / k.natAbs≤n.natAbs / 2:=Nat.div_le_div_left (by omega) (by omega)
  omega

theorem WC {R:Type} (raw:List Int) (hraw:∀x∈raw,Eg x):∀(n i:Nat) (rs:List Nat),i≤raw.length→raw.length - i<n→i≤200→(∀c∈rs,vr c)→(cQ rs).length≤4*i →
    ∃WD:List Nat,(∀c∈WD,vr c)∧(cQ WD).length≤800∧(rs.length≤i→WD.length≤raw.length)∧∀e0:aj→Option R,cC n raw (cQ rs) (i:Int) e0=e0 (cQ WD):=by
  intro n
  induction n with
  | zero=>intro i rs h1 h2; omega
  | succ n ih =>
    intro i rs h1 h2 h3 XT hl
    by_cases hi:i<raw.length
    · by_cases hi2:i<200
      · have hx:Eg raw[i]:=hraw _ (List.getElem_mem hi)
        have CY:raw.getD (i:Int).toNat (Ty.ck (.int .i64))=raw[i]:=by simp[List.getD,hi]; rfl
        have key:∀z:Int,0≤z→z<1114112→∃WD:List Nat,(∀c∈WD,vr c)∧(cQ WD).length≤800∧(rs.length≤i→WD.length≤raw.length)∧∀e0:aj→Option R,cC n raw (cQ rs++enc (Eh z)) ((i+1:Nat):Int) e0=e0 (cQ WD):=by
          intro z z0 z1
          have hv:=O3 z0 z1
          have hle:=AY hv
          obtain ⟨WD,q1,q2,qn,q3⟩:=ih (i+1) (rs ++ [Eh z]) (by omega) (by omega) (by omega) (by
            intro c hc
            rcases List.mem_append.1 hc with hc|hc
            · exact XT c hc
            · simp at hc; subst hc; exact hv) (by rw[JU,List.length_append]; omega)
          exact ⟨WD,q1,q2,fun hn=>qn (by simp; omega),fun e0=>by rw[←q3 e0,JU]⟩
        -- what is picked
        obtain ⟨y6,UW,y61,py⟩:=MS (R:=R) raw[i] 5 hx (by omega) (by omega)
        have ht:Eg (IntKind.i64.wrap (Int.tdiv raw[i] 5)):=by
          have:=Zs (k:=5) hx (by omega)
          rw[dE this.1 this.2]; exact this
        obtain ⟨a,a0,a1,pa⟩:=MS (R:=R) (IntKind.i64.wrap (Int.tdiv raw[i] 5)) 128 ht (by omega) (by omega)
        obtain ⟨b,b0,b1,pb⟩:=MS (R:=R) (IntKind.i64.wrap (Int.tdiv raw[i] 5)) 2048 ht (by omega) (by omega)
        obtain ⟨d,d0,d1,pd⟩:=MS (R:=R) (IntKind.i64.wrap (Int.tdiv raw[i] 5)) 65536 ht (by omega) (by omega)
        obtain ⟨f,f0,f1,pf⟩:=MS (R:=R) (IntKind.i64.wrap (Int.tdiv raw[i] 5)) 1114112 ht (by omega) (by omega)
        obtain ⟨WD,q1,q2,qn,q3⟩:=key (if y6=0∨y6=1 then a else if y6=2 then b else if y6=3 then d else f) (by split; omega; split; omega; split <;> omega) (by split; omega; split; omega; split <;> omega)
        refine ⟨WD,q1,q2,qn,fun e0 => ?_⟩
        rw[←q3 e0]
        show ku dN _ raw (cQ rs) (i:Int) e0=_
        unfold ku
        rw[br (show (i:Int)<(raw.length:Int) by omega),cond_true,br (show (i:Int)<200 by omega),cond_true,br (show (0:Int)≤(i:Int) by omega)]
        rw[aS (by rfl)]
        simp only[CY,py,pa,pb,pd,pf]
        have add:=fun (z:Int) (z0:0≤z) (z1:z<1114112)=>Zr raw (cQ rs) i (fun lP lQ my=>cC (R:=R) n lP lQ my e0) z0 z1 hl hi2
        by_cases c0:y6=0
        · rw[if_pos (.inl c0)]
          have e0':(y6==0)=true:=by simp[c0]
          rw[e0',cond_true,cond_true]
          exact add a a0 (by omega)
        · have e0':(y6==0)=false:=by simp[c0]
          rw[e0',cond_false]
          by_cases c1:y6=1
          · rw[if_pos (.inr c1)]
            have UE:(y6==1)=true:=by simp[c1]
            rw[UE,cond_true]
            exact add a a0 (by omega)
          · have UE:(y6==1)=false:=by simp[c1]
            rw[UE,cond_false,if_neg (by omega)]
            by_cases c2:y6=2
            · have e2':(y6==2)=true:=by simp[c2]
              rw[e2',cond_true,if_pos c2]
              exact add b b0 (by omega)
            · have e2':(y6==2)=false:=by simp[c2]
              rw[e2',cond_false,if_neg c2]
              by_cases c3:y6=3
              · have e3':(y6==3)=true:=by simp[c3]
                rw[e3',cond_true,if_pos c3]
                exact add d d0 (by omega)
              · have e3':(y6==3)=false:=by simp[c3]
                rw[e3',cond_false,if_neg c3]
                exact add f f0 (by omega)
      · refine ⟨rs,XT,by omega,fun _=>by omega,fun e0 => ?_⟩
        show ku dN _ raw (cQ rs) (i:Int) e0=_
        unfold ku
        rw[br (show (i:Int)<(raw.length:Int) by omega),cond_true,cY (show ¬(i:Int)<200 by omega),cond_false]
    · refine ⟨rs,XT,by omega,fun _=>by omega,fun e0 => ?_⟩
      show ku dN _ raw (cQ rs) (i:Int) e0=_
      unfold ku
      rw[cY (show ¬(i:Int)<(raw.length:Int) by omega),cond_false]

theorem RT {R:Type} (raw:List Int) (hraw:∀x∈raw,Eg x):∃rs:List Nat,(∀c∈rs,vr c)∧(cQ rs).length≤800∧rs.length≤raw.length∧∀k:aj→Option R,ca raw k=k (cQ rs):=by
  obtain ⟨rs,h1,h2,h4,h3⟩:=WC (R:=R) raw hraw (List.length raw+List.length ([]:aj)+Int.natAbs 0+64) 0 [] (by omega) (by omega) (by omega) (by simp) (by simp[cQ])
  exact ⟨rs,h1,h2,h4 (by simp),fun k=>h3 _⟩
end Go.Proofs.YtmlkkgfenfdndaaGreatDoor

/-
  Functions of the program as pure Lean functions, and the ties; printed by wip/tools/emit.py.
-/
set_option maxRecDepth 100000
namespace Go.Proofs.YtmlkkgfenfdndaaGreatDoor
open Go Go.ay

/-! ### humpyard/json.bare -/
abbrev w8 (R:Type):Type:=Json→(Json→Option R)→Option R
abbrev CO:List bO := [.agg [.int .i64, .int .i64, .int .i64, .str, .sl .str, .sl .json]]
abbrev CP:List aH := []
noncomputable def IM {R:Type} (fn:w8 R):bO.av CO→aH.av CP→(V→az→Option R)→Option R:=fun x y k=>fn (⟨x.1.1,⟨x.1.2.1,x.1.2.2.1⟩,x.1.2.2.2.1,x.1.2.2.2.2.1,x.1.2.2.2.2.2.1⟩:Json) (fun q0=>k (.agg [.int .i64 q0.kind, .int .i64 q0.num.aB, .int .i64 q0.num.exp, .str q0.text, .sl .str q0.names .no, .sl .json q0.items .no]) [])
noncomputable def CQ (R:Type):Env R:=fun i=>match i with
  | _=>none
theorem Of (R:Type):p8 Tryz.prog (CQ R):=by
  intro i b sp h
  unfold CQ at h
  split at h
  · cases h

noncomputable def KE (R:Type):Nat→Option (Hint × cq R):=fun i=>match i with
  | _=>none

noncomputable def CR {R:Type} (x1:Json) (k0:Json→Option R):Option R :=
  bif (x1.kind==4)then (k0 (⟨x1.kind,⟨0,0⟩,x1.text,x1.names,x1.items⟩:Json))else (bif (x1.kind==5)then (k0 (⟨x1.kind,⟨x1.num.aB,x1.num.exp⟩,([]:aj),x1.names,x1.items⟩:Json))else (bif (x1.kind==7)then (k0 (⟨x1.kind,⟨x1.num.aB,x1.num.exp⟩,x1.text,([]:List aj),([]:List Json)⟩:Json))else (bif (x1.kind==6)then (k0 (⟨x1.kind,⟨x1.num.aB,x1.num.exp⟩,x1.text,x1.names,([]:List Json)⟩:Json))else (k0 (⟨x1.kind,⟨x1.num.aB,x1.num.exp⟩,x1.text,x1.names,x1.items⟩:Json)))))
noncomputable def nk {R:Type}:w8 R:=fun x1 k0=>CR x1 k0
theorem Qk {R:Type} (x1:Json) (k:V→az→Option R):iQ tt (CQ R) (KE R) false Tryz.f77 (aK Tryz.f77) [.agg [.int .i64 x1.kind, .int .i64 x1.num.aB, .int .i64 x1.num.exp, .str x1.text, .sl .str x1.names .no, .sl .json x1.items .no]] [] k =
    CR x1 (fun q0=>k (.agg [.int .i64 q0.kind, .int .i64 q0.num.aB, .int .i64 q0.num.exp, .str q0.text, .sl .str q0.names .no, .sl .json q0.items .no]) []):=by kernel_rfl
theorem KU (R:Type):∀a∈aP (aK Tryz.f77),cO tt (CQ R) (KE R) 0 a:=by
  refine bH 0 (by kernel_rfl) fun i hi => ?_
  omega
theorem MU (R:Type) (other:ay.Spec R) (ho:ay.Spec.Ok Tryz.prog 77 other):ay.Spec.Ok Tryz.prog 77 (aA CO CP (IM nk) other) :=
  bw ho (bk TT mixed (Of R) (keep:=false) rfl rfl rfl rfl 0 (KU R)) fun (x:bO.av CO) (y:aH.av CP) k=>Qk (⟨x.1.1,⟨x.1.2.1,x.1.2.2.1⟩,x.1.2.2.2.1,x.1.2.2.2.2.1,x.1.2.2.2.2.2.1⟩:Json) k

/-! ### humpyard/decimal.within[int] -/
abbrev fo (R:Type):Type:=Int→Int→Int→(Bool→Option R)→Option R
abbrev mX:List bO := [.leaf (.int .i64), .leaf (.int .i64), .leaf (.int .i64)]
abbrev mY:List aH := []
noncomputable def so {R:Type} (fn:fo R):bO.av mX→aH.av mY→(V→az→Option R)→Option R:=fun x y k=>fn x.1 x.2.1 x.2.2.1 (fun q0=>k (.bool q0) [])
noncomputable def o3 (R:Type):Env R:=fun i=>match i with
  | _=>none
theorem Ei (R:Type):p8 Tryz.prog (o3 R):=by
  intro i b sp h
  unfold o3 at h
  split at h
  · cases h

noncomputable def zI (R:Type):Nat→Option (Hint × cq R):=fun i=>match i with
  | _=>none

noncomputable def o4 {R:Type} (x1:Int) (x2:Int) (x3:Int) (k0:Bool→Option R):Option R :=
  bif (decide (x1≤x2))then (k0 (decide (x2≤x3)))else (k0 false)
noncomputable def aY {R:Type}:fo R:=fun x1 x2 x3 k0=>o4 x1 x2 x3 k0
theorem E3 {R:Type} (x1:Int) (x2:Int) (x3:Int) (k:V→az→Option R):iQ tt (o3 R) (zI R) false Tryz.f91 (aK Tryz.f91) [.int .i64 x1, .int .i64 x2, .int .i64 x3] [] k =
    o4 x1 x2 x3 (fun q0=>k (.bool q0) []):=by kernel_rfl
theorem C2 (R:Type):∀a∈aP (aK Tryz.f91),cO tt (o3 R) (zI R) 0 a:=by
  refine bH 0 (by kernel_rfl) fun i hi => ?_
  omega
theorem wm (R:Type) (other:ay.Spec R) (ho:ay.Spec.Ok Tryz.prog 91 other):ay.Spec.Ok Tryz.prog 91 (aA mX mY (so aY) other) :=
  bw ho (bk TT mixed (Ei R) (keep:=false) rfl rfl rfl rfl 0 (C2 R)) fun (x:bO.av mX) (y:aH.av mY) k=>E3 x.1 x.2.1 x.2.2.1 k

/-! ### humpyard/decimal.Right -/
abbrev kB (R:Type):Type:=iZ→(Bool→Option R)→Option R
abbrev rV:List bO := [.agg [.int .i64, .int .i64]]
abbrev rW:List aH := []
noncomputable def yE {R:Type} (fn:kB R):bO.av rV→aH.av rW→(V→az→Option R)→Option R:=fun x y k=>fn (⟨x.1.1,x.1.2.1⟩:iZ) (fun q0=>k (.bool q0) [])
noncomputable def vq (R:Type) (aY:fo R):Env R:=fun i=>match i with
  | 91=>some (true,(aA mX mY (so aY) bg))
  | _=>none
theorem IN (R:Type):p8 Tryz.prog (vq R aY):=by
  intro i b sp h
  unfold vq at h
  split at h
  · cases h; exact ⟨(wm R _ (aO _)),fun h=>nomatch h⟩
  · cases h

noncomputable def EN (R:Type):Nat→Option (Hint × cq R):=fun i=>match i with
  | _=>none

noncomputable def lU {R:Type} (aY:fo R) (x1:iZ) (k0:Bool→Option R):Option R :=
  bif (x1.aB==0)then (k0 (x1.exp==0))else (bif ((Int.tmod x1.aB 10) != 0)then (aY (-1000000000000000) x1.aB 1000000000000000 (fun y2=>bif y2 then (aY (-9) x1.exp 9 (fun y3=>k0 y3))else (k0 false)))else (k0 false))
noncomputable def cf {R:Type}:kB R:=fun x1 k0=>lU aY x1 k0
theorem JV {R:Type} (aY:fo R) (x1:iZ) (k:V→az→Option R):iQ tt (vq R aY) (EN R) false Tryz.f65 (aK Tryz.f65) [.agg [.int .i64 x1.aB, .int .i64 x1.exp]] [] k =
    lU aY x1 (fun q0=>k (.bool q0) []):=by kernel_rfl
theorem GD (R:Type):∀a∈aP (aK Tryz.f65),cO tt (vq R aY) (EN R) 0 a:=by
  refine bH 0 (by kernel_rfl) fun i hi => ?_
  omega
theorem BY (R:Type) (other:ay.Spec R) (ho:ay.Spec.Ok Tryz.prog 65 other):ay.Spec.Ok Tryz.prog 65 (aA rV rW (yE cf) other) :=
  bw ho (bk TT mixed (IN R) (keep:=false) rfl rfl rfl rfl 0 (GD R)) fun (x:bO.av rV) (y:aH.av rW) k=>JV aY (⟨x.1.1,x.1.2.1⟩:iZ) k

/-! ### humpyard/quote.Whole -/
abbrev fI (R:Type):Type:=aj→(Bool→Option R)→Option R
abbrev sj:List bO := [.leaf (.str)]
abbrev sk:List aH := []
noncomputable def w9 {R:Type} (fn:fI R):bO.av sj→aH.av sk→(V→az→Option R)→Option R:=fun x y k=>fn x.1 (fun q0=>k (.bool q0) [])
noncomputable def zi (R:Type):Env R:=fun i=>match i with
  | 72=>some (true,(Qf R))
  | _=>none
theorem KV (R:Type):p8 Tryz.prog (zi R):=by
  intro i b sp h
  unfold zi at h
  split at h
  · cases h; exact ⟨(Zn),fun h=>nomatch h⟩
  · cases h

noncomputable def G6 (R:Type):Nat→Option (Hint × cq R):=fun i=>match i with
  | _=>none

noncomputable def G7 {R:Type} (x1:aj) (k0:Bool→Option R):Option R :=
  k0 (gM x1)
noncomputable def bt {R:Type}:fI R:=fun x1 k0=>G7 x1 k0
theorem MV {R:Type} (x1:aj) (k:V→az→Option R):iQ tt (zi R) (G6 R) false Tryz.f49 (aK Tryz.f49) [.str x1] [] k =
    G7 x1 (fun q0=>k (.bool q0) []):=by kernel_rfl
theorem IP (R:Type):∀a∈aP (aK Tryz.f49),cO tt (zi R) (G6 R) 0 a:=by
  refine bH 0 (by kernel_rfl) fun i hi => ?_
  omega
theorem yF (R:Type) (other:ay.Spec R) (ho:ay.Spec.Ok Tryz.prog 49 other):ay.Spec.Ok Tryz.prog 49 (aA sj sk (w9 bt) other) :=
  bw ho (bk TT mixed (KV R) (keep:=false) rfl rfl rfl rfl 0 (IP R)) fun (x:bO.av sj) (y:aH.av sk) k=>MV x.1 k

/-! ### humpyard/json.unique -/
abbrev ta (R:Type):Type:=(List aj)→(Bool→Option R)→Option R
abbrev zj:List bO := [.leaf (.sl .str)]
abbrev zk:List aH := []
noncomputable def FM {R:Type} (fn:ta R):bO.av zj→aH.av zk→(V→az→Option R)→Option R:=fun x y k=>fn x.1 (fun q0=>k (.bool q0) [])
abbrev mj (R:Type):Type:=Nat→(List aj)→Int→Int→(List (aj × Bool))→(Option R)→(Bool→Option R)→Option R
noncomputable def pE (R:Type) (bt:fI R):Env R:=fun i=>match i with
  | 49=>some (true,(aA sj sk (w9 bt) bg))
  | _=>none
theorem KW (R:Type):p8 Tryz.prog (pE R bt):=by
  intro i b sp h
  unfold pE at h
  split at h
  · cases h; exact ⟨(yF R _ (aO _)),fun h=>nomatch h⟩
  · cases h

noncomputable def sB {R:Type} (bt:fI R) (fH:(List aj)→Int→Int→(List (aj × Bool))→Option R) (x2:List aj) (x3:Int) (x4:Int) (x5:List (aj × Bool)) (e0:Option R) (e1:Bool→Option R):Option R :=
  bif (decide (x4<x3))then (cU (decide ((0:Int)≤x4)&&decide (x4<x2.length)) (bif (nP .str .bool (x2.getD x4.toNat (Ty.ck .str)) x5)then (e1 false)else (bt (x2.getD x4.toNat (Ty.ck .str)) (fun y6=>bif (!y6)then (e1 false)else (fH x2 x3 (IntKind.i64.wrap (x4+1)) (wP .str .bool (x2.getD x4.toNat (Ty.ck .str)) true x5))))))else (e0)
noncomputable def cz {R:Type}:mj R
  | 0,_,_,_,_,_,_=>none
  | n+1,lP,lQ,my,tO,e0,e1=>sB bt (fun lP lQ my tO=>cz n lP lQ my tO e0 e1) lP lQ my tO e0 e1
noncomputable def sC:Hint := { live := [3,7,8,9],own := [],rows := [],cells := [],drop := [],out := [2] }
abbrev jL:Type:=(List aj) × Int × Int × (List (aj × Bool))
noncomputable def p9:jL→St:=fun d=>⟨[.undef, .undef, .undef, .map 0, .undef, .undef, .undef, .sl .str d.1 .no, .int .i64 d.2.1, .int .i64 d.2.2.1, .undef, .undef, .undef, .undef, .undef, .undef, .undef, .undef, .undef, .undef, .undef, .undef, .undef, .undef], [.vC .str .bool d.2.2.2]⟩
noncomputable def vF {R:Type} (K:Ex→St→Option R):Option R:=K (.exit 0) ⟨[.undef, .undef, .undef, .undef, .undef, .undef, .undef, .undef, .undef, .undef, .undef, .undef, .undef, .undef, .undef, .undef, .undef, .undef, .undef, .undef, .undef, .undef, .undef, .undef], []⟩
noncomputable def vG {R:Type} (K:Ex→St→Option R) (q0:Bool):Option R:=K (.ret) ⟨[.undef, .undef, .bool q0, .undef, .undef, .undef, .undef, .undef, .undef, .undef, .undef, .undef, .undef, .undef, .undef, .undef, .undef, .undef, .undef, .undef, .undef, .undef, .undef, .undef], []⟩
noncomputable def xa {R:Type} (bt:fI R) (K:Ex→St→Option R) (rc:jL→Option R) (d:jL):Option R:=sB bt (fun z0 z1 z2 z3=>rc (z0,z1,z2,z3)) d.1 d.2.1 d.2.2.1 d.2.2.2 (vF K) (vG K)
noncomputable def np {R:Type} (K:Ex→St→Option R) (n:Nat) (d:jL):Option R:=cz n d.1 d.2.1 d.2.2.1 d.2.2.2 (vF K) (vG K)
abbrev jM:List bO := [.leaf (.undef), .leaf (.undef), .leaf (.undef), .leaf (.map 0), .leaf (.undef), .leaf (.undef), .leaf (.undef), .leaf (.sl .str), .leaf (.int .i64), .leaf (.int .i64), .leaf (.undef), .leaf (.undef), .leaf (.undef), .leaf (.undef), .leaf (.undef), .leaf (.undef), .leaf (.undef), .leaf (.undef), .leaf (.undef), .leaf (.undef), .leaf (.undef), .leaf (.undef), .leaf (.undef), .leaf (.undef)]
abbrev jN:List aH := [.vC .str .bool]
noncomputable def xb (x:bO.av jM) (y:aH.av jN):Nat:=(List.length x.2.2.2.2.2.2.2.1+Int.natAbs x.2.2.2.2.2.2.2.2.1+Int.natAbs x.2.2.2.2.2.2.2.2.2.1+List.length y.1+64)
noncomputable def xc (x:bO.av jM) (y:aH.av jN):jL:=(x.2.2.2.2.2.2.2.1,x.2.2.2.2.2.2.2.2.1,x.2.2.2.2.2.2.2.2.2.1,y.1)
noncomputable def vH {R:Type} (L:mj R):bO.av jM→aH.av jN→(Ex→St→Option R)→Option R:=fun x y K=>L (xb x y) x.2.2.2.2.2.2.2.1 x.2.2.2.2.2.2.2.2.1 x.2.2.2.2.2.2.2.2.2.1 y.1 (vF K) (vG K)
noncomputable def uS (R:Type) (cz:mj R):Nat→Option (Hint × cq R):=fun i=>match i with
  | 3=>some (sC,(gq jM jN (vH cz) qx))
  | _=>none

theorem FN {R:Type} (bt:fI R) (cz:mj R) (K:Ex→St→Option R) (rc:St→Option R) (d:jL):roundOf tt (pE R bt) (uS R cz) 0 ((aP (aK Tryz.f78)).getD 0 .skip) sC (p9 d) rc K=xa bt K (fun d=>rc (p9 d)) d:=by kernel_rfl
theorem Ej {R:Type} (K:Ex→St→Option R) (n:Nat) (d:jL):np K (n+1) d=xa bt K (np K n) d:=by kernel_rfl
theorem Ek {R:Type} (K:Ex→St→Option R) (d:jL):np K 0 d=none:=by kernel_rfl
theorem FO (x:bO.av jM) (y:aH.av jN):(⟨bO.cQ jM x,aH.cQ jN y⟩:St)=p9 (xc x y):=by kernel_rfl
theorem FP {R:Type} (x:bO.av jM) (y:aH.av jN) (K:Ex→St→Option R):vH (cz) x y K=np K (xb x y) (xc x y):=by kernel_rfl
theorem HJ {R:Type} (other:cq R) (ho:o0 tt (pE R bt) (uS R cz) 0 ((aP (aK Tryz.f78)).getD 0 .skip) sC other):o0 tt (pE R bt) (uS R cz) 0 ((aP (aK Tryz.f78)).getD 0 .skip) sC (gq jM jN (vH (cz)) other) :=
  gL (A:=np) ho (kr p9 (xa bt) (np) (Ek) (FN bt cz) (Ej)) xb xc FO (FP)

noncomputable def G8 {R:Type} (cz:mj R) (x1:List aj) (k0:Bool→Option R):Option R :=
  cz (List.length x1+Int.natAbs (x1.length:Int)+Int.natAbs 0+List.length ([]:List (aj × Bool))+64) x1 (x1.length:Int) 0 ([]:List (aj × Bool)) (k0 true) (fun y8=>k0 y8)
noncomputable def iS {R:Type}:ta R:=fun x1 k0=>G8 cz x1 k0
theorem MW {R:Type} (bt:fI R) (cz:mj R) (x1:List aj) (k:V→az→Option R):iQ tt (pE R bt) (uS R cz) false Tryz.f78 (aK Tryz.f78) [.sl .str x1 .no] [] k =
    G8 cz x1 (fun q0=>k (.bool q0) []):=by kernel_rfl
theorem IQ (R:Type):∀a∈aP (aK Tryz.f78),cO tt (pE R bt) (uS R cz) 0 a:=by
  refine bH 1 (by kernel_rfl) fun i hi => ?_
  match i,hi with
  | 0,_=>exact fG (by kernel_rfl) (HJ _ jc)
  | n+1,hi=>omega
theorem JW (R:Type) (other:ay.Spec R) (ho:ay.Spec.Ok Tryz.prog 78 other):ay.Spec.Ok Tryz.prog 78 (aA zj zk (FM iS) other) :=
  bw ho (bk TT mixed (KW R) (keep:=false) rfl rfl rfl rfl 0 (IQ R)) fun (x:bO.av zj) (y:aH.av zk) k=>MW bt cz x.1 k

end Go.Proofs.YtmlkkgfenfdndaaGreatDoor

namespace Go.Proofs.YtmlkkgfenfdndaaGreatDoor
open Go Go.ay

end Go.Proofs.YtmlkkgfenfdndaaGreatDoor

/-
  Functions of the program as pure Lean functions, and the ties; printed by wip/tools/emit.py.
-/
set_option maxRecDepth 100000
namespace Go.Proofs.YtmlkkgfenfdndaaGreatDoor
open Go Go.ay

/-! ### humpyard/json.right -/
abbrev bS (R:Type):Type:=Json→Int→(Bool→Option R)→Option R
abbrev gN:List bO := [.agg [.int .i64, .int .i64, .int .i64, .str, .sl .str, .sl .json], .leaf (.int .i64)]
abbrev gO:List aH := []
noncomputable def fc {R:Type} (fn:bS R):bO.av gN→aH.av gO→(V→az→Option R)→Option R:=fun x y k=>fn (⟨x.1.1,⟨x.1.2.1,x.1.2.2.1⟩,x.1.2.2.2.1,x.1.2.2.2.2.1,x.1.2.2.2.2.2.1⟩:Json) x.2.1 (fun q0=>k (.bool q0) [])
/-! ### humpyard/json.right$1 -/
abbrev iT (R:Type):Type:=Json→Int→(Bool→Int→Option R)→Option R
abbrev qa:List bO := [.agg [.int .i64, .int .i64, .int .i64, .str, .sl .str, .sl .json], .leaf (.ptr 0 0)]
abbrev qd:List aH := [.cells [.int .i64]]
noncomputable def zJ {R:Type} (fn:iT R):bO.av qa→aH.av qd→(V→az→Option R)→Option R:=fun x y k=>fn (⟨x.1.1,⟨x.1.2.1,x.1.2.2.1⟩,x.1.2.2.2.1,x.1.2.2.2.2.1,x.1.2.2.2.2.2.1⟩:Json) y.1.1 (fun q0 q1=>k (.bool q0) [.cells [.int .i64 q1]])
noncomputable def qe (R:Type) (ao:bS R):Env R:=fun i=>match i with
  | 56=>some (true,(aA gN gO (fc ao) bg))
  | _=>none
theorem E4 (R:Type) (ao:bS R) (fi:ay.Spec.Ok Tryz.prog 56 (aA gN gO (fc ao) bg)):p8 Tryz.prog (qe R ao):=by
  intro i b sp h
  unfold qe at h
  split at h
  · cases h; exact ⟨fi,fun h=>nomatch h⟩
  · cases h

noncomputable def AH (R:Type):Nat→Option (Hint × cq R):=fun i=>match i with
  | _=>none

noncomputable def qf {R:Type} (ao:bS R) (x1:Json) (x2:Int) (k0:Bool→Int→Option R):Option R :=
  ao (⟨x1.kind,⟨x1.num.aB,x1.num.exp⟩,x1.text,x1.names,x1.items⟩:Json) (IntKind.i64.wrap (x2+1)) (fun y3=>k0 (!y3) x2)
noncomputable def cg {R:Type} (ao:bS R):iT R:=fun x1 x2 k0=>qf ao x1 x2 k0
theorem FQ {R:Type} (ao:bS R) (x1:Json) (x2:Int) (k:V→az→Option R):iQ tt (qe R ao) (AH R) false Tryz.f80 (aK Tryz.f80) [.agg [.int .i64 x1.kind, .int .i64 x1.num.aB, .int .i64 x1.num.exp, .str x1.text, .sl .str x1.names .no, .sl .json x1.items .no], .ptr 0 0] [.cells [.int .i64 x2]] k =
    qf ao x1 x2 (fun q0 q1=>k (.bool q0) [.cells [.int .i64 q1]]):=by kernel_rfl
theorem DA (R:Type) (ao:bS R):∀a∈aP (aK Tryz.f80),cO tt (qe R ao) (AH R) 1 a:=by
  refine bH 0 (by kernel_rfl) fun i hi => ?_
  omega
theorem El (R:Type) (ao:bS R) (fi:ay.Spec.Ok Tryz.prog 56 (aA gN gO (fc ao) bg)) (other:ay.Spec R) (ho:ay.Spec.Ok Tryz.prog 80 other):ay.Spec.Ok Tryz.prog 80 (aA qa qd (zJ (cg ao)) other) :=
  bw ho (bk TT mixed (E4 R ao fi) (keep:=false) rfl rfl rfl rfl 1 (DA R ao)) fun (x:bO.av qa) (y:aH.av qd) k=>FQ ao (⟨x.1.1,⟨x.1.2.1,x.1.2.2.1⟩,x.1.2.2.2.1,x.1.2.2.2.2.1,x.1.2.2.2.2.2.1⟩:Json) y.1.1 k

/-! ### slices.IndexFunc[[]humpyard/api.Json,humpyard/api.Json] -/
abbrev fx (R:Type):Type:=(List Json)→Int→(Int→Int→Option R)→Option R
abbrev hZ:List bO := [.leaf (.sl .json), .func 80 [] [.ptr 0 0]]
abbrev ia:List aH := [.cells [.int .i64]]
noncomputable def oI {R:Type} (fn:fx R):bO.av hZ→aH.av ia→(V→az→Option R)→Option R:=fun x y k=>fn x.1 y.1.1 (fun q0 q1=>k (.int .i64 q0) [.cells [.int .i64 q1]])
abbrev dJ (R:Type):Type:=Nat→(List Json)→Int→Int→Int→(Int→Option R)→(Int→Int→Option R)→Option R
noncomputable def dO (R:Type) (cg:iT R):Env R:=fun i=>match i with
  | 80=>some (false,(aA qa qd (zJ cg) bg))
  | _=>none
theorem vI (R:Type) (ao:bS R) (fi:ay.Spec.Ok Tryz.prog 56 (aA gN gO (fc ao) bg)):p8 Tryz.prog (dO R (cg ao)):=by
  intro i b sp h
  unfold dO at h
  split at h
  · cases h; exact ⟨(El R ao fi _ (aO _)),fun _ h=>nomatch h⟩
  · cases h

noncomputable def gm {R:Type} (cg:iT R) (fH:(List Json)→Int→Int→Int→Option R) (x3:List Json) (x4:Int) (x5:Int) (x6:Int) (e0:Int→Option R) (e1:Int→Int→Option R):Option R :=
  bif (decide (x5<x4))then (cU (decide ((0:Int)≤x5)&&decide (x5<x3.length)) (cg (⟨(x3.getD x5.toNat (Ty.ck .json)).kind,⟨(x3.getD x5.toNat (Ty.ck .json)).num.aB,(x3.getD x5.toNat (Ty.ck .json)).num.exp⟩,(x3.getD x5.toNat (Ty.ck .json)).text,(x3.getD x5.toNat (Ty.ck .json)).names,(x3.getD x5.toNat (Ty.ck .json)).items⟩:Json) x6 (fun y7 y8=>bif y7 then (e1 x5 y8)else (fH x3 x4 (IntKind.i64.wrap (x5+1)) y8))))else (e0 x6)
noncomputable def aM {R:Type} (ao:bS R):dJ R
  | 0,_,_,_,_,_,_=>none
  | n+1,lP,lQ,my,tO,e0,e1=>gm (cg ao) (fun lP lQ my tO=>aM ao n lP lQ my tO e0 e1) lP lQ my tO e0 e1
noncomputable def gn:Hint := { live := [0,1,7,8],own := [],rows := [],cells := [],drop := [],out := [4] }
abbrev cI:Type:=(List Json) × Int × Int × Int
noncomputable def fJ:cI→St:=fun d=>⟨[.sl .json d.1 .no, .func 80 [] [.ptr 0 0], .undef, .undef, .undef, .undef, .undef, .int .i64 d.2.1, .int .i64 d.2.2.1, .undef, .undef, .undef, .undef, .undef, .undef, .undef, .undef, .undef, .undef], [.cells [.int .i64 d.2.2.2]]⟩
noncomputable def jd {R:Type} (K:Ex→St→Option R) (q0:Int):Option R:=K (.exit 0) ⟨[.undef, .undef, .undef, .undef, .undef, .undef, .undef, .undef, .undef, .undef, .undef, .undef, .undef, .undef, .undef, .undef, .undef, .undef, .undef], [.cells [.int .i64 q0]]⟩
noncomputable def je {R:Type} (K:Ex→St→Option R) (q0:Int) (q1:Int):Option R:=K (.ret) ⟨[.undef, .undef, .undef, .undef, .int .i64 q0, .undef, .undef, .undef, .undef, .undef, .undef, .undef, .undef, .undef, .undef, .undef, .undef, .undef, .undef], [.cells [.int .i64 q1]]⟩
noncomputable def jF {R:Type} (cg:iT R) (K:Ex→St→Option R) (rc:cI→Option R) (d:cI):Option R:=gm cg (fun z0 z1 z2 z3=>rc (z0,z1,z2,z3)) d.1 d.2.1 d.2.2.1 d.2.2.2 (jd K) (je K)
noncomputable def dP {R:Type} (ao:bS R) (K:Ex→St→Option R) (n:Nat) (d:cI):Option R:=aM ao n d.1 d.2.1 d.2.2.1 d.2.2.2 (jd K) (je K)
abbrev cJ:List bO := [.leaf (.sl .json), .func 80 [] [.ptr 0 0], .leaf (.undef), .leaf (.undef), .leaf (.undef), .leaf (.undef), .leaf (.undef), .leaf (.int .i64), .leaf (.int .i64), .leaf (.undef), .leaf (.undef), .leaf (.undef), .leaf (.undef), .leaf (.undef), .leaf (.undef), .leaf (.undef), .leaf (.undef), .leaf (.undef), .leaf (.undef)]
abbrev cK:List aH := [.cells [.int .i64]]
noncomputable def jG (x:bO.av cJ) (y:aH.av cK):Nat:=(List.length x.1+Int.natAbs x.2.2.2.2.2.2.2.1+Int.natAbs x.2.2.2.2.2.2.2.2.1+Int.natAbs y.1.1+64)
noncomputable def jH (x:bO.av cJ) (y:aH.av cK):cI:=(x.1,x.2.2.2.2.2.2.2.1,x.2.2.2.2.2.2.2.2.1,y.1.1)
noncomputable def jf {R:Type} (L:dJ R):bO.av cJ→aH.av cK→(Ex→St→Option R)→Option R:=fun x y K=>L (jG x y) x.1 x.2.2.2.2.2.2.2.1 x.2.2.2.2.2.2.2.2.1 y.1.1 (jd K) (je K)
noncomputable def fK (R:Type) (aM:dJ R):Nat→Option (Hint × cq R):=fun i=>match i with
  | 2=>some (gn,(gq cJ cK (jf aM) qx))
  | _=>none

theorem sN {R:Type} (cg:iT R) (aM:dJ R) (K:Ex→St→Option R) (rc:St→Option R) (d:cI):roundOf tt (dO R cg) (fK R aM) 1 ((aP (aK Tryz.f116)).getD 0 .skip) gn (fJ d) rc K=jF cg K (fun d=>rc (fJ d)) d:=by kernel_rfl
theorem rX {R:Type} (ao:bS R) (K:Ex→St→Option R) (n:Nat) (d:cI):dP ao K (n+1) d=jF (cg ao) K (dP ao K n) d:=by kernel_rfl
theorem rY {R:Type} (ao:bS R) (K:Ex→St→Option R) (d:cI):dP ao K 0 d=none:=by kernel_rfl
theorem sO (x:bO.av cJ) (y:aH.av cK):(⟨bO.cQ cJ x,aH.cQ cK y⟩:St)=fJ (jH x y):=by kernel_rfl
theorem sP {R:Type} (ao:bS R) (x:bO.av cJ) (y:aH.av cK) (K:Ex→St→Option R):jf (aM ao) x y K=dP ao K (jG x y) (jH x y):=by kernel_rfl
theorem tP {R:Type} (ao:bS R) (other:cq R) (ho:o0 tt (dO R (cg ao)) (fK R (aM ao)) 1 ((aP (aK Tryz.f116)).getD 0 .skip) gn other):o0 tt (dO R (cg ao)) (fK R (aM ao)) 1 ((aP (aK Tryz.f116)).getD 0 .skip) gn (gq cJ cK (jf (aM ao)) other) :=
  gL (A:=dP ao) ho (kr fJ (jF (cg ao)) (dP ao) (rY ao) (sN (cg ao) (aM ao)) (rX ao)) jG jH sO (sP ao)

noncomputable def o5 {R:Type} (aM:dJ R) (x1:List Json) (x2:Int) (k0:Int→Int→Option R):Option R :=
  aM (List.length x1+Int.natAbs (x1.length:Int)+Int.natAbs 0+Int.natAbs x2+64) x1 (x1.length:Int) 0 x2 (fun y9=>k0 (-1) y9) (fun yA wE=>k0 yA wE)
noncomputable def cd {R:Type} (ao:bS R):fx R:=fun x1 x2 k0=>o5 (aM ao) x1 x2 k0
theorem wF {R:Type} (cg:iT R) (aM:dJ R) (x1:List Json) (x2:Int) (k:V→az→Option R):iQ tt (dO R cg) (fK R aM) false Tryz.f116 (aK Tryz.f116) [.sl .json x1 .no, .func 80 [] [.ptr 0 0]] [.cells [.int .i64 x2]] k =
    o5 aM x1 x2 (fun q0 q1=>k (.int .i64 q0) [.cells [.int .i64 q1]]):=by kernel_rfl
theorem uo (R:Type) (ao:bS R):∀a∈aP (aK Tryz.f116),cO tt (dO R (cg ao)) (fK R (aM ao)) 1 a:=by
  refine bH 1 (by kernel_rfl) fun i hi => ?_
  match i,hi with
  | 0,_=>exact fG (by kernel_rfl) (tP ao _ jc)
  | n+1,hi=>omega
theorem uT (R:Type) (ao:bS R) (fi:ay.Spec.Ok Tryz.prog 56 (aA gN gO (fc ao) bg)) (other:ay.Spec R) (ho:ay.Spec.Ok Tryz.prog 116 other):ay.Spec.Ok Tryz.prog 116 (aA hZ ia (oI (cd ao)) other) :=
  bw ho (bk TT mixed (vI R ao fi) (keep:=false) rfl rfl rfl rfl 1 (uo R ao)) fun (x:bO.av hZ) (y:aH.av ia) k=>wF (cg ao) (aM ao) x.1 y.1.1 k

/-! ### slices.ContainsFunc[[]humpyard/api.Json,humpyard/api.Json] -/
abbrev eS (R:Type):Type:=(List Json)→Int→(Bool→Int→Option R)→Option R
abbrev gE:List bO := [.leaf (.sl .json), .func 80 [] [.ptr 0 0]]
abbrev gF:List aH := [.cells [.int .i64]]
noncomputable def nL {R:Type} (fn:eS R):bO.av gE→aH.av gF→(V→az→Option R)→Option R:=fun x y k=>fn x.1 y.1.1 (fun q0 q1=>k (.bool q0) [.cells [.int .i64 q1]])
noncomputable def gG (R:Type) (cd:fx R):Env R:=fun i=>match i with
  | 116=>some (false,(aA hZ ia (oI cd) bg))
  | _=>none
theorem tQ (R:Type) (ao:bS R) (fi:ay.Spec.Ok Tryz.prog 56 (aA gN gO (fc ao) bg)):p8 Tryz.prog (gG R (cd ao)):=by
  intro i b sp h
  unfold gG at h
  split at h
  · cases h; exact ⟨(uT R ao fi _ (aO _)),fun _ h=>nomatch h⟩
  · cases h

noncomputable def nY (R:Type):Nat→Option (Hint × cq R):=fun i=>match i with
  | _=>none

noncomputable def nZ {R:Type} (cd:fx R) (x1:List Json) (x2:Int) (k0:Bool→Int→Option R):Option R :=
  cd x1 x2 (fun y3 y4=>k0 (decide (y3≥(0:Int))) y4)
noncomputable def aQ {R:Type} (ao:bS R):eS R:=fun x1 x2 k0=>nZ (cd ao) x1 x2 k0
theorem ur {R:Type} (cd:fx R) (x1:List Json) (x2:Int) (k:V→az→Option R):iQ tt (gG R cd) (nY R) false Tryz.f79 (aK Tryz.f79) [.sl .json x1 .no, .func 80 [] [.ptr 0 0]] [.cells [.int .i64 x2]] k =
    nZ cd x1 x2 (fun q0 q1=>k (.bool q0) [.cells [.int .i64 q1]]):=by kernel_rfl
theorem sQ (R:Type) (ao:bS R):∀a∈aP (aK Tryz.f79),cO tt (gG R (cd ao)) (nY R) 1 a:=by
  refine bH 0 (by kernel_rfl) fun i hi => ?_
  omega
theorem td (R:Type) (ao:bS R) (fi:ay.Spec.Ok Tryz.prog 56 (aA gN gO (fc ao) bg)) (other:ay.Spec R) (ho:ay.Spec.Ok Tryz.prog 79 other):ay.Spec.Ok Tryz.prog 79 (aA gE gF (nL (aQ ao)) other) :=
  bw ho (bk TT mixed (tQ R ao fi) (keep:=false) rfl rfl rfl rfl 1 (sQ R ao)) fun (x:bO.av gE) (y:aH.av gF) k=>ur (cd ao) x.1 y.1.1 k

noncomputable def A8 (R:Type) (bt:fI R) (cf:kB R) (nk:w8 R) (iS:ta R) (aQ:eS R):Env R:=fun i=>match i with
  | 49=>some (true,(aA sj sk (w9 bt) bg))
  | 65=>some (true,(aA rV rW (yE cf) bg))
  | 77=>some (true,(aA CO CP (IM nk) bg))
  | 78=>some (true,(aA zj zk (FM iS) bg))
  | 79=>some (false,(aA gE gF (nL aQ) bg))
  | _=>none
theorem MX (R:Type) (ao:bS R) (fi:ay.Spec.Ok Tryz.prog 56 (aA gN gO (fc ao) bg)):p8 Tryz.prog (A8 R bt cf nk iS (aQ ao)):=by
  intro i b sp h
  unfold A8 at h
  split at h
  · cases h; exact ⟨(yF R _ (aO _)),fun h=>nomatch h⟩
  · cases h; exact ⟨(BY R _ (aO _)),fun h=>nomatch h⟩
  · cases h; exact ⟨(MU R _ (aO _)),fun h=>nomatch h⟩
  · cases h; exact ⟨(JW R _ (aO _)),fun h=>nomatch h⟩
  · cases h; exact ⟨(td R ao fi _ (aO _)),fun _ h=>nomatch h⟩
  · cases h

noncomputable def IS (R:Type):Nat→Option (Hint × cq R):=fun i=>match i with
  | _=>none

noncomputable def A9 {R:Type} (bt:fI R) (cf:kB R) (nk:w8 R) (iS:ta R) (aQ:eS R) (x1:Json) (x2:Int) (k0:Bool→Option R):Option R :=
  nk (⟨x1.kind,⟨x1.num.aB,x1.num.exp⟩,x1.text,x1.names,x1.items⟩:Json) (fun y3=>bif (decide (x2>(16:Int)))then (k0 false)else (bif (decide (x1.kind<(1:Int)))then (k0 false)else (bif (decide (x1.kind>(7:Int)))then (k0 false)else (bif (!(y3.num.aB==0&&(y3.num.exp==0&&true)))then (k0 false)else (bif (!(y3.text==([]:aj)))then (k0 false)else (bif (decide ((IntKind.i64.wrap ((y3.names.length:Int)+(y3.items.length:Int)))>(0:Int)))then (k0 false)else (bif (x1.kind==4)then (cf x1.num (fun y5=>k0 y5))else (bif (x1.kind==5)then (bt x1.text (fun y6=>k0 y6))else (bif (x1.kind==7)then (bif ((x1.names.length:Int) != (x1.items.length:Int))then (k0 false)else (iS x1.names (fun y7=>bif (!y7)then (k0 false)else (aQ x1.items x2 (fun wE Ak=>k0 (!wE))))))else (aQ x1.items x2 (fun DB Dg=>k0 (!DB))))))))))))
noncomputable def Em {R:Type} (ao:bS R):bS R:=fun x1 x2 k0=>A9 bt cf nk iS (aQ ao) x1 x2 k0
theorem Og {R:Type} (bt:fI R) (cf:kB R) (nk:w8 R) (iS:ta R) (aQ:eS R) (x1:Json) (x2:Int) (k:V→az→Option R):iQ tt (A8 R bt cf nk iS aQ) (IS R) false Tryz.f56 (aK Tryz.f56) [.agg [.int .i64 x1.kind, .int .i64 x1.num.aB, .int .i64 x1.num.exp, .str x1.text, .sl .str x1.names .no, .sl .json x1.items .no], .int .i64 x2] [] k =
    A9 bt cf nk iS aQ x1 x2 (fun q0=>k (.bool q0) []):=by kernel_rfl
theorem JX (R:Type) (ao:bS R):∀a∈aP (aK Tryz.f56),cO tt (A8 R bt cf nk iS (aQ ao)) (IS R) 0 a:=by
  refine bH 0 (by kernel_rfl) fun i hi => ?_
  omega
theorem JY (R:Type) (ao:bS R) (fi:ay.Spec.Ok Tryz.prog 56 (aA gN gO (fc ao) bg)) (other:ay.Spec R) (ho:ay.Spec.Ok Tryz.prog 56 other):ay.Spec.Ok Tryz.prog 56 (aA gN gO (fc (Em ao)) other) :=
  bw ho (bk TT mixed (MX R ao fi) (keep:=false) rfl rfl rfl rfl 0 (JX R ao)) fun (x:bO.av gN) (y:aH.av gO) k=>Og bt cf nk iS (aQ ao) (⟨x.1.1,⟨x.1.2.1,x.1.2.2.1⟩,x.1.2.2.2.1,x.1.2.2.2.2.1,x.1.2.2.2.2.2.1⟩:Json) x.2.1 k
noncomputable def eX {R:Type}:Nat→bS R
  | 0,_,_,_=>none
  | n+1,lP,lQ,k0'=>Em (eX n) lP lQ k0'
theorem UX {R:Type} (n:Nat):eX (R:=R) (n+1)=Em (eX n):=by kernel_rfl
theorem KX (R:Type):∀n,ay.Spec.Ok Tryz.prog 56 (aA gN gO (fc (eX (R:=R) n)) bg) :=
  wk (run:=fun n=>fc (eX (R:=R) n)) (fun x y k=>by kernel_rfl) fun n hyp=>JY R (eX n) hyp bg (aO _)
noncomputable def lp {R:Type}:bS R:=fun x1 x2 k0=>eX (Json.depth x1+2) x1 x2 k0
theorem KY (R:Type):fc (R:=R) lp=fun x y k=>fc (eX (Json.depth (⟨x.1.1,⟨x.1.2.1,x.1.2.2.1⟩,x.1.2.2.2.1,x.1.2.2.2.2.1,x.1.2.2.2.2.2.1⟩:Json)+2)) x y k:=by kernel_rfl
theorem KZ (R:Type) (other:ay.Spec R) (ho:ay.Spec.Ok Tryz.prog 56 other):ay.Spec.Ok Tryz.prog 56 (aA gN gO (fc lp) other) :=
  BX (Dx (run:=fun n=>fc (eX (R:=R) n)) (fun x y=>(Json.depth (⟨x.1.1,⟨x.1.2.1,x.1.2.2.1⟩,x.1.2.2.2.1,x.1.2.2.2.2.1,x.1.2.2.2.2.2.1⟩:Json)+2)) ho (KX R)) (KY R)

end Go.Proofs.YtmlkkgfenfdndaaGreatDoor

/-
  Functions of the program as pure Lean functions, and the ties; printed by wip/tools/emit.py.
-/
set_option maxRecDepth 100000
namespace Go.Proofs.YtmlkkgfenfdndaaGreatDoor
open Go Go.ay

/-! ### humpyard/json.Right -/
abbrev n0 (R:Type):Type:=Json→(Bool→Option R)→Option R
abbrev xd:List bO := [.agg [.int .i64, .int .i64, .int .i64, .str, .sl .str, .sl .json]]
abbrev xe:List aH := []
noncomputable def C3 {R:Type} (fn:n0 R):bO.av xd→aH.av xe→(V→az→Option R)→Option R:=fun x y k=>fn (⟨x.1.1,⟨x.1.2.1,x.1.2.2.1⟩,x.1.2.2.2.1,x.1.2.2.2.2.1,x.1.2.2.2.2.2.1⟩:Json) (fun q0=>k (.bool q0) [])
noncomputable def Ba (R:Type) (lp:bS R):Env R:=fun i=>match i with
  | 56=>some (true,(aA gN gO (fc lp) bg))
  | _=>none
theorem MY (R:Type):p8 Tryz.prog (Ba R lp):=by
  intro i b sp h
  unfold Ba at h
  split at h
  · cases h; exact ⟨(KZ R _ (aO _)),fun h=>nomatch h⟩
  · cases h

noncomputable def IT (R:Type):Nat→Option (Hint × cq R):=fun i=>match i with
  | _=>none

noncomputable def Bb {R:Type} (lp:bS R) (x1:Json) (k0:Bool→Option R):Option R :=
  lp (⟨x1.kind,⟨x1.num.aB,x1.num.exp⟩,x1.text,x1.names,x1.items⟩:Json) 1 (fun y2=>k0 y2)
noncomputable def eB {R:Type}:n0 R:=fun x1 k0=>Bb lp x1 k0
theorem Oh {R:Type} (lp:bS R) (x1:Json) (k:V→az→Option R):iQ tt (Ba R lp) (IT R) false Tryz.f32 (aK Tryz.f32) [.agg [.int .i64 x1.kind, .int .i64 x1.num.aB, .int .i64 x1.num.exp, .str x1.text, .sl .str x1.names .no, .sl .json x1.items .no]] [] k =
    Bb lp x1 (fun q0=>k (.bool q0) []):=by kernel_rfl
theorem JZ (R:Type):∀a∈aP (aK Tryz.f32),cO tt (Ba R lp) (IT R) 0 a:=by
  refine bH 0 (by kernel_rfl) fun i hi => ?_
  omega
theorem EO (R:Type) (other:ay.Spec R) (ho:ay.Spec.Ok Tryz.prog 32 other):ay.Spec.Ok Tryz.prog 32 (aA xd xe (C3 eB) other) :=
  bw ho (bk TT mixed (MY R) (keep:=false) rfl rfl rfl rfl 0 (JZ R)) fun (x:bO.av xd) (y:aH.av xe) k=>Oh lp (⟨x.1.1,⟨x.1.2.1,x.1.2.2.1⟩,x.1.2.2.2.1,x.1.2.2.2.2.1,x.1.2.2.2.2.2.1⟩:Json) k

/-! ### (*strings.Builder).WriteString -/
abbrev bE (R:Type):Type:=aj→(Int→(List Int)→Option R)→Option R
abbrev eh:List bO := [.leaf (.ptr 0 0), .leaf (.str)]
abbrev ei:List aH := [.kR (.cG)]
noncomputable def gH {R:Type} (fn:bE R):bO.av eh→aH.av ei→(V→az→Option R)→Option R:=fun x y k=>fn x.2.1 (fun q0 q1=>k (.tuple [.int .i64 q0, .cS]) [.kR (.sl (.int .u8) q1 (.own 1)), .tok])
noncomputable def gP (R:Type):Env R:=fun i=>match i with
  | 73=>some (false,(KA R))
  | _=>none
theorem uu (R:Type):p8 Tryz.prog (gP R):=by
  intro i b sp h
  unfold gP at h
  split at h
  · cases h; exact ⟨(ML),fun _ h=>nomatch h⟩
  · cases h

noncomputable def om (R:Type):Nat→Option (Hint × cq R):=fun i=>match i with
  | _=>none

noncomputable def oo {R:Type} (x1:aj) (k0:Int→(List Int)→Option R):Option R :=
  cU (decide ((0+(oN x1).length)*1≤140737488355328)) (k0 (x1.length:Int) (oN x1))
noncomputable def ag {R:Type}:bE R:=fun x1 k0=>oo x1 k0
theorem uU {R:Type} (x1:aj) (k:V→az→Option R):iQ tt (gP R) (om R) false Tryz.f52 (aK Tryz.f52) [.ptr 0 0, .str x1] [.kR (.cG)] k =
    oo x1 (fun q0 q1=>k (.tuple [.int .i64 q0, .cS]) [.kR (.sl (.int .u8) q1 (.own 1)), .tok]):=by kernel_rfl
theorem tf (R:Type):∀a∈aP (aK Tryz.f52),cO tt (gP R) (om R) 1 a:=by
  refine bH 0 (by kernel_rfl) fun i hi => ?_
  omega
theorem jg (R:Type) (other:ay.Spec R) (ho:ay.Spec.Ok Tryz.prog 52 other):ay.Spec.Ok Tryz.prog 52 (aA eh ei (gH ag) other) :=
  bw ho (bk TT mixed (uu R) (keep:=false) rfl rfl rfl rfl 1 (tf R)) fun (x:bO.av eh) (y:aH.av ei) k=>uU x.2.1 k

/-! ### (*strings.Builder).WriteByte -/
abbrev bD (R:Type):Type:=Int→((List Int)→Option R)→Option R
abbrev eE:List bO := [.leaf (.ptr 0 0), .leaf (.int .u8)]
abbrev eF:List aH := [.kR (.cG)]
noncomputable def gY {R:Type} (fn:bD R):bO.av eE→aH.av eF→(V→az→Option R)→Option R:=fun x y k=>fn x.2.1 (fun q0=>k (.cS) [.kR (.sl (.int .u8) q0 (.own 1)), .tok])
noncomputable def ib (R:Type):Env R:=fun i=>match i with
  | 73=>some (false,(KA R))
  | _=>none
theorem vJ (R:Type):p8 Tryz.prog (ib R):=by
  intro i b sp h
  unfold ib at h
  split at h
  · cases h; exact ⟨(ML),fun _ h=>nomatch h⟩
  · cases h

noncomputable def o6 (R:Type):Nat→Option (Hint × cq R):=fun i=>match i with
  | _=>none

noncomputable def o7 {R:Type} (x1:Int) (k0:(List Int)→Option R):Option R :=
  k0 ([x1]:List Int)
noncomputable def ah {R:Type}:bD R:=fun x1 k0=>o7 x1 k0
theorem wG {R:Type} (x1:Int) (k:V→az→Option R):iQ tt (ib R) (o6 R) false Tryz.f50 (aK Tryz.f50) [.ptr 0 0, .int .u8 x1] [.kR (.cG)] k =
    o7 x1 (fun q0=>k (.cS) [.kR (.sl (.int .u8) q0 (.own 1)), .tok]):=by kernel_rfl
theorem uv (R:Type):∀a∈aP (aK Tryz.f50),cO tt (ib R) (o6 R) 1 a:=by
  refine bH 0 (by kernel_rfl) fun i hi => ?_
  omega
theorem jU (R:Type) (other:ay.Spec R) (ho:ay.Spec.Ok Tryz.prog 50 other):ay.Spec.Ok Tryz.prog 50 (aA eE eF (gY ah) other) :=
  bw ho (bk TT mixed (vJ R) (keep:=false) rfl rfl rfl rfl 1 (uv R)) fun (x:bO.av eE) (y:aH.av eF) k=>wG x.2.1 k

/-! ### (*strings.Builder).WriteString -/
abbrev bb (R:Type):Type:=aj→(List Int)→(Int→(List Int)→Option R)→Option R
abbrev dy:List bO := [.leaf (.ptr 0 0), .leaf (.str)]
abbrev dz:List aH := [.kR (.NQ (.int .u8) 1), .tok]
noncomputable def fe {R:Type} (fn:bb R):bO.av dy→aH.av dz→(V→az→Option R)→Option R:=fun x y k=>fn x.2.1 y.1 (fun q0 q1=>k (.tuple [.int .i64 q0, .cS]) [.kR (.sl (.int .u8) q1 (.own 2)), .dead, .tok])
noncomputable def gQ (R:Type):Env R:=fun i=>match i with
  | 73=>some (false,(KA R))
  | _=>none
theorem uw (R:Type):p8 Tryz.prog (gQ R):=by
  intro i b sp h
  unfold gQ at h
  split at h
  · cases h; exact ⟨(ML),fun _ h=>nomatch h⟩
  · cases h

noncomputable def oq (R:Type):Nat→Option (Hint × cq R):=fun i=>match i with
  | _=>none

noncomputable def ot {R:Type} (x1:aj) (x2:List Int) (k0:Int→(List Int)→Option R):Option R :=
  cU (decide ((x2.length+(oN x1).length)*1≤140737488355328)) (k0 (x1.length:Int) ((x2:List Int)++((oN x1):List Int)))
noncomputable def af {R:Type}:bb R:=fun x1 x2 k0=>ot x1 x2 k0
theorem uV {R:Type} (x1:aj) (x2:List Int) (k:V→az→Option R):iQ tt (gQ R) (oq R) false Tryz.f52 (aK Tryz.f52) [.ptr 0 0, .str x1] [.kR (.sl (.int .u8) x2 (.own 1)), .tok] k =
    ot x1 x2 (fun q0 q1=>k (.tuple [.int .i64 q0, .cS]) [.kR (.sl (.int .u8) q1 (.own 2)), .dead, .tok]):=by kernel_rfl
theorem tg (R:Type):∀a∈aP (aK Tryz.f52),cO tt (gQ R) (oq R) 2 a:=by
  refine bH 0 (by kernel_rfl) fun i hi => ?_
  omega
theorem ga (R:Type) (other:ay.Spec R) (ho:ay.Spec.Ok Tryz.prog 52 other):ay.Spec.Ok Tryz.prog 52 (aA dy dz (fe af) other) :=
  bw ho (bk TT mixed (uw R) (keep:=false) rfl rfl rfl rfl 2 (tg R)) fun (x:bO.av dy) (y:aH.av dz) k=>uV x.2.1 y.1 k

/-! ### humpyard/decimal.Print -/
abbrev ff (R:Type):Type:=iZ→(aj→Option R)→Option R
abbrev oU:List bO := [.agg [.int .i64, .int .i64]]
abbrev oV:List aH := []
noncomputable def tR {R:Type} (fn:ff R):bO.av oU→aH.av oV→(V→az→Option R)→Option R:=fun x y k=>fn (⟨x.1.1,x.1.2.1⟩:iZ) (fun q0=>k (.str q0) [])
noncomputable def vu (R:Type) (cf:kB R) (ah:bD R) (af:bb R) (ag:bE R):Env R:=fun i=>match i with
  | 65=>some (true,(aA rV rW (yE cf) bg))
  | 50=>some (false,(aA eE eF (gY ah) bg))
  | 52=>some (false,(aA eh ei (gH ag) (aA dy dz (fe af) bg)))
  | 39=>some (false,(Ee R))
  | 66=>some (true,(TJ R))
  | 67=>some (true,(Zi R))
  | _=>none
theorem IU (R:Type):p8 Tryz.prog (vu R cf ah af ag):=by
  intro i b sp h
  unfold vu at h
  split at h
  · cases h; exact ⟨(BY R _ (aO _)),fun h=>nomatch h⟩
  · cases h; exact ⟨(jU R _ (aO _)),fun _ h=>nomatch h⟩
  · cases h; exact ⟨(jg R _ (ga R _ (aO _))),fun _ h=>nomatch h⟩
  · cases h; exact ⟨(Ly),fun _ _=>Gq⟩
  · cases h; exact ⟨(itoa_ok),fun h=>nomatch h⟩
  · cases h; exact ⟨(rep_ok),fun h=>nomatch h⟩
  · cases h

noncomputable def EP (R:Type):Nat→Option (Hint × cq R):=fun i=>match i with
  | _=>none

noncomputable def oW {R:Type} (cf:kB R) (ah:bD R) (af:bb R) (ag:bE R) (x1:iZ) (k0:aj→Option R):Option R :=
  cf x1 (fun y2=>bif (!y2)then (k0 ([]:aj))else (bif (decide (x1.aB<(0:Int)))then (ah 45 (fun y3=>bif (decide (x1.exp≥(0:Int)))then (cU (decide (0≤x1.exp)&&decide ((([48]:aj).length:Int)*x1.exp≤140737488355328)) (cU (decide ((cw (max x1.aB (IntKind.i64.wrap (0 - x1.aB)))).length+(lO ([48]:aj) x1.exp).length≤9223372036854775807)) (af ((cw (max x1.aB (IntKind.i64.wrap (0 - x1.aB))))++(lO ([48]:aj) x1.exp)) y3 (fun y4 y5=>k0 (s7 y5)))))else (cU (decide (0≤(max 0 (IntKind.i64.wrap ((IntKind.i64.wrap (1 - x1.exp)) - ((cw (max x1.aB (IntKind.i64.wrap (0 - x1.aB)))).length:Int)))))&&decide ((([48]:aj).length:Int)*(max 0 (IntKind.i64.wrap ((IntKind.i64.wrap (1 - x1.exp)) - ((cw (max x1.aB (IntKind.i64.wrap (0 - x1.aB)))).length:Int))))≤140737488355328)) (cU (decide ((lO ([48]:aj) (max 0 (IntKind.i64.wrap ((IntKind.i64.wrap (1 - x1.exp)) - ((cw (max x1.aB (IntKind.i64.wrap (0 - x1.aB)))).length:Int))))).length+(cw (max x1.aB (IntKind.i64.wrap (0 - x1.aB)))).length≤9223372036854775807)) (cU (decide ((0:Int)≤(IntKind.i64.wrap ((((lO ([48]:aj) (max 0 (IntKind.i64.wrap ((IntKind.i64.wrap (1 - x1.exp)) - ((cw (max x1.aB (IntKind.i64.wrap (0 - x1.aB)))).length:Int)))))++(cw (max x1.aB (IntKind.i64.wrap (0 - x1.aB))))).length:Int)+x1.exp)))&&decide ((IntKind.i64.wrap ((((lO ([48]:aj) (max 0 (IntKind.i64.wrap ((IntKind.i64.wrap (1 - x1.exp)) - ((cw (max x1.aB (IntKind.i64.wrap (0 - x1.aB)))).length:Int)))))++(cw (max x1.aB (IntKind.i64.wrap (0 - x1.aB))))).length:Int)+x1.exp))≤((lO ([48]:aj) (max 0 (IntKind.i64.wrap ((IntKind.i64.wrap (1 - x1.exp)) - ((cw (max x1.aB (IntKind.i64.wrap (0 - x1.aB)))).length:Int)))))++(cw (max x1.aB (IntKind.i64.wrap (0 - x1.aB))))).length)) (cU (decide ((0:Int)≤(IntKind.i64.wrap ((((lO ([48]:aj) (max 0 (IntKind.i64.wrap ((IntKind.i64.wrap (1 - x1.exp)) - ((cw (max x1.aB (IntKind.i64.wrap (0 - x1.aB)))).length:Int)))))++(cw (max x1.aB (IntKind.i64.wrap (0 - x1.aB))))).length:Int)+x1.exp)))) (cU (decide (((((lO ([48]:aj) (max 0 (IntKind.i64.wrap ((IntKind.i64.wrap (1 - x1.exp)) - ((cw (max x1.aB (IntKind.i64.wrap (0 - x1.aB)))).length:Int)))))++(cw (max x1.aB (IntKind.i64.wrap (0 - x1.aB))))).drop 0).take ((IntKind.i64.wrap ((((lO ([48]:aj) (max 0 (IntKind.i64.wrap ((IntKind.i64.wrap (1 - x1.exp)) - ((cw (max x1.aB (IntKind.i64.wrap (0 - x1.aB)))).length:Int)))))++(cw (max x1.aB (IntKind.i64.wrap (0 - x1.aB))))).length:Int)+x1.exp)).toNat - 0)).length+1≤9223372036854775807)) (cU (decide ((0:Int)≤(((lO ([48]:aj) (max 0 (IntKind.i64.wrap ((IntKind.i64.wrap (1 - x1.exp)) - ((cw (max x1.aB (IntKind.i64.wrap (0 - x1.aB)))).length:Int)))))++(cw (max x1.aB (IntKind.i64.wrap (0 - x1.aB))))).length:Int))&&decide ((((lO ([48]:aj) (max 0 (IntKind.i64.wrap ((IntKind.i64.wrap (1 - x1.exp)) - ((cw (max x1.aB (IntKind.i64.wrap (0 - x1.aB)))).length:Int)))))++(cw (max x1.aB (IntKind.i64.wrap (0 - x1.aB))))).length:Int)≤((lO ([48]:aj) (max 0 (IntKind.i64.wrap ((IntKind.i64.wrap (1 - x1.exp)) - ((cw (max x1.aB (IntKind.i64.wrap (0 - x1.aB)))).length:Int)))))++(cw (max x1.aB (IntKind.i64.wrap (0 - x1.aB))))).length)) (cU (decide ((0:Int)≤(IntKind.i64.wrap ((((lO ([48]:aj) (max 0 (IntKind.i64.wrap ((IntKind.i64.wrap (1 - x1.exp)) - ((cw (max x1.aB (IntKind.i64.wrap (0 - x1.aB)))).length:Int)))))++(cw (max x1.aB (IntKind.i64.wrap (0 - x1.aB))))).length:Int)+x1.exp)))&&decide ((IntKind.i64.wrap ((((lO ([48]:aj) (max 0 (IntKind.i64.wrap ((IntKind.i64.wrap (1 - x1.exp)) - ((cw (max x1.aB (IntKind.i64.wrap (0 - x1.aB)))).length:Int)))))++(cw (max x1.aB (IntKind.i64.wrap (0 - x1.aB))))).length:Int)+x1.exp))≤(((lO ([48]:aj) (max 0 (IntKind.i64.wrap ((IntKind.i64.wrap (1 - x1.exp)) - ((cw (max x1.aB (IntKind.i64.wrap (0 - x1.aB)))).length:Int)))))++(cw (max x1.aB (IntKind.i64.wrap (0 - x1.aB))))).length:Int))) (cU (decide ((((((lO ([48]:aj) (max 0 (IntKind.i64.wrap ((IntKind.i64.wrap (1 - x1.exp)) - ((cw (max x1.aB (IntKind.i64.wrap (0 - x1.aB)))).length:Int)))))++(cw (max x1.aB (IntKind.i64.wrap (0 - x1.aB))))).drop 0).take ((IntKind.i64.wrap ((((lO ([48]:aj) (max 0 (IntKind.i64.wrap ((IntKind.i64.wrap (1 - x1.exp)) - ((cw (max x1.aB (IntKind.i64.wrap (0 - x1.aB)))).length:Int)))))++(cw (max x1.aB (IntKind.i64.wrap (0 - x1.aB))))).length:Int)+x1.exp)).toNat - 0))++([46]:aj)).length+((((lO ([48]:aj) (max 0 (IntKind.i64.wrap ((IntKind.i64.wrap (1 - x1.exp)) - ((cw (max x1.aB (IntKind.i64.wrap (0 - x1.aB)))).length:Int)))))++(cw (max x1.aB (IntKind.i64.wrap (0 - x1.aB))))).drop (IntKind.i64.wrap ((((lO ([48]:aj) (max 0 (IntKind.i64.wrap ((IntKind.i64.wrap (1 - x1.exp)) - ((cw (max x1.aB (IntKind.i64.wrap (0 - x1.aB)))).length:Int)))))++(cw (max x1.aB (IntKind.i64.wrap (0 - x1.aB))))).length:Int)+x1.exp)).toNat).take ((((lO ([48]:aj) (max 0 (IntKind.i64.wrap ((IntKind.i64.wrap (1 - x1.exp)) - ((cw (max x1.aB (IntKind.i64.wrap (0 - x1.aB)))).length:Int)))))++(cw (max x1.aB (IntKind.i64.wrap (0 - x1.aB))))).length:Int).toNat - (IntKind.i64.wrap ((((lO ([48]:aj) (max 0 (IntKind.i64.wrap ((IntKind.i64.wrap (1 - x1.exp)) - ((cw (max x1.aB (IntKind.i64.wrap (0 - x1.aB)))).length:Int)))))++(cw (max x1.aB (IntKind.i64.wrap (0 - x1.aB))))).length:Int)+x1.exp)).toNat)).length≤9223372036854775807)) (af ((((((lO ([48]:aj) (max 0 (IntKind.i64.wrap ((IntKind.i64.wrap (1 - x1.exp)) - ((cw (max x1.aB (IntKind.i64.wrap (0 - x1.aB)))).length:Int)))))++(cw (max x1.aB (IntKind.i64.wrap (0 - x1.aB))))).drop 0).take ((IntKind.i64.wrap ((((lO ([48]:aj) (max 0 (IntKind.i64.wrap ((IntKind.i64.wrap (1 - x1.exp)) - ((cw (max x1.aB (IntKind.i64.wrap (0 - x1.aB)))).length:Int)))))++(cw (max x1.aB (IntKind.i64.wrap (0 - x1.aB))))).length:Int)+x1.exp)).toNat - 0))++([46]:aj))++((((lO ([48]:aj) (max 0 (IntKind.i64.wrap ((IntKind.i64.wrap (1 - x1.exp)) - ((cw (max x1.aB (IntKind.i64.wrap (0 - x1.aB)))).length:Int)))))++(cw (max x1.aB (IntKind.i64.wrap (0 - x1.aB))))).drop (IntKind.i64.wrap ((((lO ([48]:aj) (max 0 (IntKind.i64.wrap ((IntKind.i64.wrap (1 - x1.exp)) - ((cw (max x1.aB (IntKind.i64.wrap (0 - x1.aB)))).length:Int)))))++(cw (max x1.aB (IntKind.i64.wrap (0 - x1.aB))))).length:Int)+x1.exp)).toNat).take ((((lO ([48]:aj) (max 0 (IntKind.i64.wrap ((IntKind.i64.wrap (1 - x1.exp)) - ((cw (max x1.aB (IntKind.i64.wrap (0 - x1.aB)))).length:Int)))))++(cw (max x1.aB (IntKind.i64.wrap (0 - x1.aB))))).length:Int).toNat - (IntKind.i64.wrap ((((lO ([48]:aj) (max 0 (IntKind.i64.wrap ((IntKind.i64.wrap (1 - x1.exp)) - ((cw (max x1.aB (IntKind.i64.wrap (0 - x1.aB)))).length:Int)))))++(cw (max x1.aB (IntKind.i64.wrap (0 - x1.aB))))).length:Int)+x1.exp)).toNat))) y3 (fun y6 y7=>k0 (s7 y7)))))))))))))else (bif (decide (x1.exp≥(0:Int)))then (cU (decide (0≤x1.exp)&&decide ((([48]:aj).length:Int)*x1.exp≤140737488355328)) (cU (decide ((cw (max x1.aB (IntKind.i64.wrap (0 - x1.aB)))).length+(lO ([48]:aj) x1.exp).length≤9223372036854775807)) (ag ((cw (max x1.aB (IntKind.i64.wrap (0 - x1.aB))))++(lO ([48]:aj) x1.exp)) (fun y8 y9=>k0 (s7 y9)))))else (cU (decide (0≤(max 0 (IntKind.i64.wrap ((IntKind.i64.wrap (1 - x1.exp)) - ((cw (max x1.aB (IntKind.i64.wrap (0 - x1.aB)))).length:Int)))))&&decide ((([48]:aj).length:Int)*(max 0 (IntKind.i64.wrap ((IntKind.i64.wrap (1 - x1.exp)) - ((cw (max x1.aB (IntKind.i64.wrap (0 - x1.aB)))).length:Int))))≤140737488355328)) (cU (decide ((lO ([48]:aj) (max 0 (IntKind.i64.wrap ((IntKind.i64.wrap (1 - x1.exp)) - ((cw (max x1.aB (IntKind.i64.wrap (0 - x1.aB)))).length:Int))))).length+(cw (max x1.aB (IntKind.i64.wrap (0 - x1.aB)))).length≤9223372036854775807)) (cU (decide ((0:Int)≤(IntKind.i64.wrap ((((lO ([48]:aj) (max 0 (IntKind.i64.wrap ((IntKind.i64.wrap (1 - x1.exp)) - ((cw (max x1.aB (IntKind.i64.wrap (0 - x1.aB)))).length:Int)))))++(cw (max x1.aB (IntKind.i64.wrap (0 - x1.aB))))).length:Int)+x1.exp)))&&decide ((IntKind.i64.wrap ((((lO ([48]:aj) (max 0 (IntKind.i64.wrap ((IntKind.i64.wrap (1 - x1.exp)) - ((cw (max x1.aB (IntKind.i64.wrap (0 - x1.aB)))).length:Int)))))++(cw (max x1.aB (IntKind.i64.wrap (0 - x1.aB))))).length:Int)+x1.exp))≤((lO ([48]:aj) (max 0 (IntKind.i64.wrap ((IntKind.i64.wrap (1 - x1.exp)) - ((cw (max x1.aB (IntKind.i64.wrap (0 - x1.aB)))).length:Int)))))++(cw (max x1.aB (IntKind.i64.wrap (0 - x1.aB))))).length)) (cU (decide ((0:Int)≤(IntKind.i64.wrap ((((lO ([48]:aj) (max 0 (IntKind.i64.wrap ((IntKind.i64.wrap (1 - x1.exp)) - ((cw (max x1.aB (IntKind.i64.wrap (0 - x1.aB)))).length:Int)))))++(cw (max x1.aB (IntKind.i64.wrap (0 - x1.aB))))).length:Int)+x1.exp)))) (cU (decide (((((lO ([48]:aj) (max 0 (IntKind.i64.wrap ((IntKind.i64.wrap (1 - x1.exp)) - ((cw (max x1.aB (IntKind.i64.wrap (0 - x1.aB)))).length:Int)))))++(cw (max x1.aB (IntKind.i64.wrap (0 - x1.aB))))).drop 0).take ((IntKind.i64.wrap ((((lO ([48]:aj) (max 0 (IntKind.i64.wrap ((IntKind.i64.wrap (1 - x1.exp)) - ((cw (max x1.aB (IntKind.i64.wrap (0 - x1.aB)))).length:Int)))))++(cw (max x1.aB (IntKind.i64.wrap (0 - x1.aB))))).length:Int)+x1.exp)).toNat - 0)).length+1≤9223372036854775807)) (cU (decide ((0:Int)≤(((lO ([48]:aj) (max 0 (IntKind.i64.wrap ((IntKind.i64.wrap (1 - x1.exp)) - ((cw (max x1.aB (IntKind.i64.wrap (0 - x1.aB)))).length:Int)))))++(cw (max x1.aB (IntKind.i64.wrap (0 - x1.aB))))).length:Int))&&decide ((((lO ([48]:aj) (max 0 (IntKind.i64.wrap ((IntKind.i64.wrap (1 - x1.exp)) - ((cw (max x1.aB (IntKind.i64.wrap (0 - x1.aB)))).length:Int)))))++(cw (max x1.aB (IntKind.i64.wrap (0 - x1.aB))))).length:Int)≤((lO ([48]:aj) (max 0 (IntKind.i64.wrap ((IntKind.i64.wrap (1 - x1.exp)) - ((cw (max x1.aB (IntKind.i64.wrap (0 - x1.aB)))).length:Int)))))++(cw (max x1.aB (IntKind.i64.wrap (0 - x1.aB))))).length)) (cU (decide ((0:Int)≤(IntKind.i64.wrap ((((lO ([48]:aj) (max 0 (IntKind.i64.wrap ((IntKind.i64.wrap (1 - x1.exp)) - ((cw (max x1.aB (IntKind.i64.wrap (0 - x1.aB)))).length:Int)))))++(cw (max x1.aB (IntKind.i64.wrap (0 - x1.aB))))).length:Int)+x1.exp)))&&decide ((IntKind.i64.wrap ((((lO ([48]:aj) (max 0 (IntKind.i64.wrap ((IntKind.i64.wrap (1 - x1.exp)) - ((cw (max x1.aB (IntKind.i64.wrap (0 - x1.aB)))).length:Int)))))++(cw (max x1.aB (IntKind.i64.wrap (0 - x1.aB))))).length:Int)+x1.exp))≤(((lO ([48]:aj) (max 0 (IntKind.i64.wrap ((IntKind.i64.wrap (1 - x1.exp)) - ((cw (max x1.aB (IntKind.i64.wrap (0 - x1.aB)))).length:Int)))))++(cw (max x1.aB (IntKind.i64.wrap (0 - x1.aB))))).length:Int))) (cU (decide ((((((lO ([48]:aj) (max 0 (IntKind.i64.wrap ((IntKind.i64.wrap (1 - x1.exp)) - ((cw (max x1.aB (IntKind.i64.wrap (0 - x1.aB)))).length:Int)))))++(cw (max x1.aB (IntKind.i64.wrap (0 - x1.aB))))).drop 0).take ((IntKind.i64.wrap ((((lO ([48]:aj) (max 0 (IntKind.i64.wrap ((IntKind.i64.wrap (1 - x1.exp)) - ((cw (max x1.aB (IntKind.i64.wrap (0 - x1.aB)))).length:Int)))))++(cw (max x1.aB (IntKind.i64.wrap (0 - x1.aB))))).length:Int)+x1.exp)).toNat - 0))++([46]:aj)).length+((((lO ([48]:aj) (max 0 (IntKind.i64.wrap ((IntKind.i64.wrap (1 - x1.exp)) - ((cw (max x1.aB (IntKind.i64.wrap (0 - x1.aB)))).length:Int)))))++(cw (max x1.aB (IntKind.i64.wrap (0 - x1.aB))))).drop (IntKind.i64.wrap ((((lO ([48]:aj) (max 0 (IntKind.i64.wrap ((IntKind.i64.wrap (1 - x1.exp)) - ((cw (max x1.aB (IntKind.i64.wrap (0 - x1.aB)))).length:Int)))))++(cw (max x1.aB (IntKind.i64.wrap (0 - x1.aB))))).length:Int)+x1.exp)).toNat).take ((((lO ([48]:aj) (max 0 (IntKind.i64.wrap ((IntKind.i64.wrap (1 - x1.exp)) - ((cw (max x1.aB (IntKind.i64.wrap (0 - x1.aB)))).length:Int)))))++(cw (max x1.aB (IntKind.i64.wrap (0 - x1.aB))))).length:Int).toNat - (IntKind.i64.wrap ((((lO ([48]:aj) (max 0 (IntKind.i64.wrap ((IntKind.i64.wrap (1 - x1.exp)) - ((cw (max x1.aB (IntKind.i64.wrap (0 - x1.aB)))).length:Int)))))++(cw (max x1.aB (IntKind.i64.wrap (0 - x1.aB))))).length:Int)+x1.exp)).toNat)).length≤9223372036854775807)) (ag ((((((lO ([48]:aj) (max 0 (IntKind.i64.wrap ((IntKind.i64.wrap (1 - x1.exp)) - ((cw (max x1.aB (IntKind.i64.wrap (0 - x1.aB)))).length:Int)))))++(cw (max x1.aB (IntKind.i64.wrap (0 - x1.aB))))).drop 0).take ((IntKind.i64.wrap ((((lO ([48]:aj) (max 0 (IntKind.i64.wrap ((IntKind.i64.wrap (1 - x1.exp)) - ((cw (max x1.aB (IntKind.i64.wrap (0 - x1.aB)))).length:Int)))))++(cw (max x1.aB (IntKind.i64.wrap (0 - x1.aB))))).length:Int)+x1.exp)).toNat - 0))++([46]:aj))++((((lO ([48]:aj) (max 0 (IntKind.i64.wrap ((IntKind.i64.wrap (1 - x1.exp)) - ((cw (max x1.aB (IntKind.i64.wrap (0 - x1.aB)))).length:Int)))))++(cw (max x1.aB (IntKind.i64.wrap (0 - x1.aB))))).drop (IntKind.i64.wrap ((((lO ([48]:aj) (max 0 (IntKind.i64.wrap ((IntKind.i64.wrap (1 - x1.exp)) - ((cw (max x1.aB (IntKind.i64.wrap (0 - x1.aB)))).length:Int)))))++(cw (max x1.aB (IntKind.i64.wrap (0 - x1.aB))))).length:Int)+x1.exp)).toNat).take ((((lO ([48]:aj) (max 0 (IntKind.i64.wrap ((IntKind.i64.wrap (1 - x1.exp)) - ((cw (max x1.aB (IntKind.i64.wrap (0 - x1.aB)))).length:Int)))))++(cw (max x1.aB (IntKind.i64.wrap (0 - x1.aB))))).length:Int).toNat - (IntKind.i64.wrap ((((lO ([48]:aj) (max 0 (IntKind.i64.wrap ((IntKind.i64.wrap (1 - x1.exp)) - ((cw (max x1.aB (IntKind.i64.wrap (0 - x1.aB)))).length:Int)))))++(cw (max x1.aB (IntKind.i64.wrap (0 - x1.aB))))).length:Int)+x1.exp)).toNat))) (fun yA wE=>k0 (s7 wE))))))))))))))
noncomputable def bc {R:Type}:ff R:=fun x1 k0=>oW cf ah af ag x1 k0
theorem J0 {R:Type} (cf:kB R) (ah:bD R) (af:bb R) (ag:bE R) (x1:iZ) (k:V→az→Option R):iQ tt (vu R cf ah af ag) (EP R) false Tryz.f46 (aK Tryz.f46) [.agg [.int .i64 x1.aB, .int .i64 x1.exp]] [] k =
    oW cf ah af ag x1 (fun q0=>k (.str q0) []):=by kernel_rfl
theorem GF (R:Type):∀a∈aP (aK Tryz.f46),cO tt (vu R cf ah af ag) (EP R) 0 a:=by
  refine bH 0 (by kernel_rfl) fun i hi => ?_
  omega
theorem vK (R:Type) (other:ay.Spec R) (ho:ay.Spec.Ok Tryz.prog 46 other):ay.Spec.Ok Tryz.prog 46 (aA oU oV (tR bc) other) :=
  bw ho (bk TT mixed (IU R) (keep:=false) rfl rfl rfl rfl 0 (GF R)) fun (x:bO.av oU) (y:aH.av oV) k=>J0 cf ah af ag (⟨x.1.1,x.1.2.1⟩:iZ) k

/-! ### humpyard/quote.short -/
abbrev ou (R:Type):Type:=Int→(Int→Option R)→Option R
abbrev zm:List bO := [.leaf (.int .i32)]
abbrev zn:List aH := []
noncomputable def FR {R:Type} (fn:ou R):bO.av zm→aH.av zn→(V→az→Option R)→Option R:=fun x y k=>fn x.1 (fun q0=>k (.int .u8 q0) [])
noncomputable def zo (R:Type):Env R:=fun i=>match i with
  | _=>none
theorem K2 (R:Type):p8 Tryz.prog (zo R):=by
  intro i b sp h
  unfold zo at h
  split at h
  · cases h

noncomputable def G9 (R:Type):Nat→Option (Hint × cq R):=fun i=>match i with
  | _=>none

noncomputable def zp {R:Type} (x1:Int) (k0:Int→Option R):Option R :=
  bif (x1==34)then (bif (x1==34)then (k0 (IntKind.u8.wrap x1))else (bif (x1==8)then (k0 98)else (bif (x1==12)then (k0 102)else (bif (x1==10)then (k0 110)else (bif (x1==13)then (k0 114)else (bif (x1==9)then (k0 116)else (k0 0)))))))else (bif (x1==92)then (k0 (IntKind.u8.wrap x1))else (bif (x1==8)then (k0 98)else (bif (x1==12)then (k0 102)else (bif (x1==10)then (k0 110)else (bif (x1==13)then (k0 114)else (bif (x1==9)then (k0 116)else (k0 0)))))))
noncomputable def dS {R:Type}:ou R:=fun x1 k0=>zp x1 k0
theorem MZ {R:Type} (x1:Int) (k:V→az→Option R):iQ tt (zo R) (G9 R) false Tryz.f51 (aK Tryz.f51) [.int .i32 x1] [] k =
    zp x1 (fun q0=>k (.int .u8 q0) []):=by kernel_rfl
theorem IV (R:Type):∀a∈aP (aK Tryz.f51),cO tt (zo R) (G9 R) 0 a:=by
  refine bH 0 (by kernel_rfl) fun i hi => ?_
  omega
theorem J1 (R:Type) (other:ay.Spec R) (ho:ay.Spec.Ok Tryz.prog 51 other):ay.Spec.Ok Tryz.prog 51 (aA zm zn (FR dS) other) :=
  bw ho (bk TT mixed (K2 R) (keep:=false) rfl rfl rfl rfl 0 (IV R)) fun (x:bO.av zm) (y:aH.av zn) k=>MZ x.1 k

/-! ### (*strings.Builder).WriteByte -/
abbrev aW (R:Type):Type:=Int→(List Int)→((List Int)→Option R)→Option R
abbrev eG:List bO := [.leaf (.ptr 0 0), .leaf (.int .u8)]
abbrev eH:List aH := [.kR (.NQ (.int .u8) 1), .tok]
noncomputable def gZ {R:Type} (fn:aW R):bO.av eG→aH.av eH→(V→az→Option R)→Option R:=fun x y k=>fn x.2.1 y.1 (fun q0=>k (.cS) [.kR (.sl (.int .u8) q0 (.own 2)), .dead, .tok])
noncomputable def ic (R:Type):Env R:=fun i=>match i with
  | 73=>some (false,(KA R))
  | _=>none
theorem vL (R:Type):p8 Tryz.prog (ic R):=by
  intro i b sp h
  unfold ic at h
  split at h
  · cases h; exact ⟨(ML),fun _ h=>nomatch h⟩
  · cases h

noncomputable def o8 (R:Type):Nat→Option (Hint × cq R):=fun i=>match i with
  | _=>none

noncomputable def o9 {R:Type} (x1:Int) (x2:List Int) (k0:(List Int)→Option R):Option R :=
  cU (decide ((x2.length+1)*1≤140737488355328)) (k0 ((x2:List Int)++(([x1]:List Int):List Int)))
noncomputable def ad {R:Type}:aW R:=fun x1 x2 k0=>o9 x1 x2 k0
theorem wH {R:Type} (x1:Int) (x2:List Int) (k:V→az→Option R):iQ tt (ic R) (o8 R) false Tryz.f50 (aK Tryz.f50) [.ptr 0 0, .int .u8 x1] [.kR (.sl (.int .u8) x2 (.own 1)), .tok] k =
    o9 x1 x2 (fun q0=>k (.cS) [.kR (.sl (.int .u8) q0 (.own 2)), .dead, .tok]):=by kernel_rfl
theorem ux (R:Type):∀a∈aP (aK Tryz.f50),cO tt (ic R) (o8 R) 2 a:=by
  refine bH 0 (by kernel_rfl) fun i hi => ?_
  omega
theorem jV (R:Type) (other:ay.Spec R) (ho:ay.Spec.Ok Tryz.prog 50 other):ay.Spec.Ok Tryz.prog 50 (aA eG eH (gZ ad) other) :=
  bw ho (bk TT mixed (vL R) (keep:=false) rfl rfl rfl rfl 2 (ux R)) fun (x:bO.av eG) (y:aH.av eH) k=>wH x.2.1 y.1 k

end Go.Proofs.YtmlkkgfenfdndaaGreatDoor

/-
  Functions of the program as pure Lean functions, and the ties; printed by wip/tools/emit.py.
-/
set_option maxRecDepth 100000
namespace Go.Proofs.YtmlkkgfenfdndaaGreatDoor
open Go Go.ay

/-! ### unicode/utf8.appendRuneNonASCII -/
abbrev ew (R:Type):Type:=(List Int)→Int→((List Int)→Option R)→Option R
abbrev fL:List bO := [.leaf (.NQ (.int .u8) 0), .leaf (.int .i32)]
abbrev fM:List aH := [.tok]
noncomputable def mr {R:Type} (fn:ew R):bO.av fL→aH.av fM→(V→az→Option R)→Option R:=fun x y k=>fn x.1 x.2.1 (fun q0=>k (.sl (.int .u8) q0 (.own 1)) [.dead, .tok])
noncomputable def fN (R:Type):Env R:=fun i=>match i with
  | _=>none
theorem sq (R:Type):p8 Tryz.prog (fN R):=by
  intro i b sp h
  unfold fN at h
  split at h
  · cases h

noncomputable def mZ (R:Type):Nat→Option (Hint × cq R):=fun i=>match i with
  | _=>none

noncomputable def fO {R:Type} (x1:List Int) (x2:Int) (k0:(List Int)→Option R):Option R :=
  bif (decide ((IntKind.u32.wrap x2)≤(2047:Int)))then (cU (decide ((x1.length+2)*1≤140737488355328)) (k0 ((x1:List Int)++(([(IntKind.u8.wrap ((BitVec.ofInt IntKind.u8.bits 192 ||| BitVec.ofInt IntKind.u8.bits (IntKind.u8.wrap (Int.fdiv x2 (2 ^ (min 6 IntKind.i32.bits))))).toNat:Int)),(IntKind.u8.wrap ((BitVec.ofInt IntKind.u8.bits 128 ||| BitVec.ofInt IntKind.u8.bits (IntKind.u8.wrap ((BitVec.ofInt IntKind.u8.bits (IntKind.u8.wrap x2) &&& BitVec.ofInt IntKind.u8.bits 63).toNat:Int))).toNat:Int))]:List Int):List Int))))else (let j6:=fun (z3:Bool)=>bif z3 then (cU (decide ((x1.length+3)*1≤140737488355328)) (k0 ((x1:List Int)++(([(IntKind.u8.wrap ((BitVec.ofInt IntKind.u8.bits 224 ||| BitVec.ofInt IntKind.u8.bits (IntKind.u8.wrap (Int.fdiv x2 (2 ^ (min 12 IntKind.i32.bits))))).toNat:Int)),(IntKind.u8.wrap ((BitVec.ofInt IntKind.u8.bits 128 ||| BitVec.ofInt IntKind.u8.bits (IntKind.u8.wrap ((BitVec.ofInt IntKind.u8.bits (IntKind.u8.wrap (Int.fdiv x2 (2 ^ (min 6 IntKind.i32.bits)))) &&& BitVec.ofInt IntKind.u8.bits 63).toNat:Int))).toNat:Int)),(IntKind.u8.wrap ((BitVec.ofInt IntKind.u8.bits 128 ||| BitVec.ofInt IntKind.u8.bits (IntKind.u8.wrap ((BitVec.ofInt IntKind.u8.bits (IntKind.u8.wrap x2) &&& BitVec.ofInt IntKind.u8.bits 63).toNat:Int))).toNat:Int))]:List Int):List Int))))else (let j5:=fun (z4:Bool)=>bif z4 then (cU (decide ((x1.length+4)*1≤140737488355328)) (k0 ((x1:List Int)++(([(IntKind.u8.wrap ((BitVec.ofInt IntKind.u8.bits 240 ||| BitVec.ofInt IntKind.u8.bits (IntKind.u8.wrap (Int.fdiv x2 (2 ^ (min 18 IntKind.i32.bits))))).toNat:Int)),(IntKind.u8.wrap ((BitVec.ofInt IntKind.u8.bits 128 ||| BitVec.ofInt IntKind.u8.bits (IntKind.u8.wrap ((BitVec.ofInt IntKind.u8.bits (IntKind.u8.wrap (Int.fdiv x2 (2 ^ (min 12 IntKind.i32.bits)))) &&& BitVec.ofInt IntKind.u8.bits 63).toNat:Int))).toNat:Int)),(IntKind.u8.wrap ((BitVec.ofInt IntKind.u8.bits 128 ||| BitVec.ofInt IntKind.u8.bits (IntKind.u8.wrap ((BitVec.ofInt IntKind.u8.bits (IntKind.u8.wrap (Int.fdiv x2 (2 ^ (min 6 IntKind.i32.bits)))) &&& BitVec.ofInt IntKind.u8.bits 63).toNat:Int))).toNat:Int)),(IntKind.u8.wrap ((BitVec.ofInt IntKind.u8.bits 128 ||| BitVec.ofInt IntKind.u8.bits (IntKind.u8.wrap ((BitVec.ofInt IntKind.u8.bits (IntKind.u8.wrap x2) &&& BitVec.ofInt IntKind.u8.bits 63).toNat:Int))).toNat:Int))]:List Int):List Int))))else (cU (decide ((x1.length+3)*1≤140737488355328)) (k0 ((x1:List Int)++(([239,191,189]:List Int):List Int)))); bif (decide ((IntKind.u32.wrap x2)>(65535:Int)))then (j5 (decide ((IntKind.u32.wrap x2)≤(1114111:Int))))else (j5 false)); bif (decide ((IntKind.u32.wrap x2)<(55296:Int)))then (j6 (decide ((IntKind.u32.wrap x2)<(55296:Int))))else (bif (decide ((57343:Int)<(IntKind.u32.wrap x2)))then (j6 (decide ((IntKind.u32.wrap x2)≤(65535:Int))))else (j6 false)))
noncomputable def bz {R:Type}:ew R:=fun x1 x2 k0=>fO x1 x2 k0
theorem sR {R:Type} (x1:List Int) (x2:Int) (k:V→az→Option R):iQ tt (fN R) (mZ R) true Tryz.f113 (aK Tryz.f113) [.sl (.int .u8) x1 (.own 0), .int .i32 x2] [.tok] k =
    fO x1 x2 (fun q0=>k (.sl (.int .u8) q0 (.own 1)) [.dead, .tok]):=by kernel_rfl
theorem rA (R:Type):∀a∈aP (aK Tryz.f113),cO tt (fN R) (mZ R) 1 a:=by
  refine bH 0 (by kernel_rfl) fun i hi => ?_
  omega
theorem rZ (R:Type) (other:ay.Spec R) (ho:ay.Spec.Ok Tryz.prog 113 other):ay.Spec.Ok Tryz.prog 113 (aA fL fM (mr bz) other) :=
  bw ho (bk TT mixed (sq R) (keep:=true) rfl rfl rfl rfl 1 (rA R)) fun (x:bO.av fL) (y:aH.av fM) k=>sR x.1 x.2.1 k

/-! ### unicode/utf8.AppendRune -/
abbrev gd (R:Type):Type:=(List Int)→Int→((List Int)→Option R)→Option R
abbrev jh:List bO := [.leaf (.NQ (.int .u8) 0), .leaf (.int .i32)]
abbrev ji:List aH := [.tok]
noncomputable def pU {R:Type} (fn:gd R):bO.av jh→aH.av ji→(V→az→Option R)→Option R:=fun x y k=>fn x.1 x.2.1 (fun q0=>k (.sl (.int .u8) q0 (.own 1)) [.dead, .tok])
noncomputable def jj (R:Type) (bz:ew R):Env R:=fun i=>match i with
  | 113=>some (false,(aA fL fM (mr bz) bg))
  | _=>none
theorem xf (R:Type):p8 Tryz.prog (jj R bz):=by
  intro i b sp h
  unfold jj at h
  split at h
  · cases h; exact ⟨(rZ R _ (aO _)),fun _ h=>nomatch h⟩
  · cases h

noncomputable def qy (R:Type):Nat→Option (Hint × cq R):=fun i=>match i with
  | _=>none

noncomputable def jk {R:Type} (bz:ew R) (x1:List Int) (x2:Int) (k0:(List Int)→Option R):Option R :=
  bif (decide ((IntKind.u32.wrap x2)≤(127:Int)))then (cU (decide ((x1.length+1)*1≤140737488355328)) (k0 ((x1:List Int)++(([(IntKind.u8.wrap x2)]:List Int):List Int))))else (bz x1 x2 (fun y3=>k0 y3))
noncomputable def bQ {R:Type}:gd R:=fun x1 x2 k0=>jk bz x1 x2 k0
theorem xX {R:Type} (bz:ew R) (x1:List Int) (x2:Int) (k:V→az→Option R):iQ tt (jj R bz) (qy R) true Tryz.f74 (aK Tryz.f74) [.sl (.int .u8) x1 (.own 0), .int .i32 x2] [.tok] k =
    jk bz x1 x2 (fun q0=>k (.sl (.int .u8) q0 (.own 1)) [.dead, .tok]):=by kernel_rfl
theorem vM (R:Type):∀a∈aP (aK Tryz.f74),cO tt (jj R bz) (qy R) 1 a:=by
  refine bH 0 (by kernel_rfl) fun i hi => ?_
  omega
theorem wI (R:Type) (other:ay.Spec R) (ho:ay.Spec.Ok Tryz.prog 74 other):ay.Spec.Ok Tryz.prog 74 (aA jh ji (pU bQ) other) :=
  bw ho (bk TT mixed (xf R) (keep:=true) rfl rfl rfl rfl 1 (vM R)) fun (x:bO.av jh) (y:aH.av ji) k=>xX bz x.1 x.2.1 k

/-! ### (*strings.Builder).WriteRune -/
abbrev bM (R:Type):Type:=Int→(List Int)→(Int→(List Int)→Option R)→Option R
abbrev fP:List bO := [.leaf (.ptr 0 0), .leaf (.int .i32)]
abbrev fQ:List aH := [.kR (.NQ (.int .u8) 1), .tok]
noncomputable def k9 {R:Type} (fn:bM R):bO.av fP→aH.av fQ→(V→az→Option R)→Option R:=fun x y k=>fn x.2.1 y.1 (fun q0 q1=>k (.tuple [.int .i64 q0, .cS]) [.kR (.sl (.int .u8) q1 (.own 2)), .dead, .tok])
noncomputable def ie (R:Type) (bQ:gd R):Env R:=fun i=>match i with
  | 73=>some (false,(KA R))
  | 74=>some (false,(aA jh ji (pU bQ) bg))
  | _=>none
theorem vN (R:Type):p8 Tryz.prog (ie R bQ):=by
  intro i b sp h
  unfold ie at h
  split at h
  · cases h; exact ⟨(ML),fun _ h=>nomatch h⟩
  · cases h; exact ⟨(wI R _ (aO _)),fun _ h=>nomatch h⟩
  · cases h

noncomputable def pc (R:Type):Nat→Option (Hint × cq R):=fun i=>match i with
  | _=>none

noncomputable def ig {R:Type} (bQ:gd R) (x1:Int) (x2:List Int) (k0:Int→(List Int)→Option R):Option R :=
  bQ x2 x1 (fun y3=>k0 (IntKind.i64.wrap ((y3.length:Int) - (x2.length:Int))) y3)
noncomputable def ai {R:Type}:bM R:=fun x1 x2 k0=>ig bQ x1 x2 k0
theorem wJ {R:Type} (bQ:gd R) (x1:Int) (x2:List Int) (k:V→az→Option R):iQ tt (ie R bQ) (pc R) false Tryz.f53 (aK Tryz.f53) [.ptr 0 0, .int .i32 x1] [.kR (.sl (.int .u8) x2 (.own 1)), .tok] k =
    ig bQ x1 x2 (fun q0 q1=>k (.tuple [.int .i64 q0, .cS]) [.kR (.sl (.int .u8) q1 (.own 2)), .dead, .tok]):=by kernel_rfl
theorem uy (R:Type):∀a∈aP (aK Tryz.f53),cO tt (ie R bQ) (pc R) 2 a:=by
  refine bH 0 (by kernel_rfl) fun i hi => ?_
  omega
theorem n5 (R:Type) (other:ay.Spec R) (ho:ay.Spec.Ok Tryz.prog 53 other):ay.Spec.Ok Tryz.prog 53 (aA fP fQ (k9 ai) other) :=
  bw ho (bk TT mixed (vN R) (keep:=false) rfl rfl rfl rfl 2 (uy R)) fun (x:bO.av fP) (y:aH.av fQ) k=>wJ bQ x.2.1 y.1 k

/-! ### humpyard/quote.Quote -/
abbrev eT (R:Type):Type:=aj→(aj→Bool→Option R)→Option R
abbrev pF:List bO := [.leaf (.str)]
abbrev pG:List aH := []
noncomputable def th {R:Type} (fn:eT R):bO.av pF→aH.av pG→(V→az→Option R)→Option R:=fun x y k=>fn x.1 (fun q0 q1=>k (.tuple [.str q0, .bool q1]) [])
abbrev ml (R:Type):Type:=Nat→(List Int)→aj→Nat→((List Int)→Option R)→Option R
noncomputable def pH (R:Type) (bt:fI R) (ah:bD R) (ad:aW R) (dS:ou R) (af:bb R) (ai:bM R):Env R:=fun i=>match i with
  | 49=>some (true,(aA sj sk (w9 bt) bg))
  | 50=>some (false,(aA eG eH (gZ ad) (aA eE eF (gY ah) bg)))
  | 51=>some (true,(aA zm zn (FR dS) bg))
  | 52=>some (false,(aA dy dz (fe af) bg))
  | 53=>some (false,(aA fP fQ (k9 ai) bg))
  | 39=>some (false,(Ee R))
  | _=>none
theorem K3 (R:Type):p8 Tryz.prog (pH R bt ah ad dS af ai):=by
  intro i b sp h
  unfold pH at h
  split at h
  · cases h; exact ⟨(yF R _ (aO _)),fun h=>nomatch h⟩
  · cases h; exact ⟨(jV R _ (jU R _ (aO _))),fun _ h=>nomatch h⟩
  · cases h; exact ⟨(J1 R _ (aO _)),fun h=>nomatch h⟩
  · cases h; exact ⟨(ga R _ (aO _)),fun _ h=>nomatch h⟩
  · cases h; exact ⟨(n5 R _ (aO _)),fun _ h=>nomatch h⟩
  · cases h; exact ⟨(Ly),fun _ _=>Gq⟩
  · cases h

noncomputable def lq {R:Type} (ad:aW R) (dS:ou R) (af:bb R) (ai:bM R) (fH:(List Int)→aj→Nat→Option R) (x4:List Int) (x5:aj) (x6:Nat) (e0:(List Int)→Option R):Option R :=
  bif decide (x6<x5.length)then (dS ((mS x5 x6).1:Int) (fun y7=>bif (y7 != 0)then (ad 92 x4 (fun y8=>ad y7 y8 (fun y9=>fH y9 x5 (x6+(mS x5 x6).2))))else (bif (decide (((mS x5 x6).1:Int)<(32:Int)))then (af ([92,117,48,48]:aj) x4 (fun yA wE=>cU (decide ((0:Int)≤(Int.fdiv ((mS x5 x6).1:Int) (2 ^ (min 4 IntKind.i32.bits))))&&decide ((Int.fdiv ((mS x5 x6).1:Int) (2 ^ (min 4 IntKind.i32.bits)))<(16:Int))) (ad ((([48,49,50,51,52,53,54,55,56,57,97,98,99,100,101,102]:aj).getD ((Int.fdiv ((mS x5 x6).1:Int) (2 ^ (min 4 IntKind.i32.bits))).toNat) 0).toNat:Int) wE (fun Ak=>cU (decide ((0:Int)≤(IntKind.i32.wrap ((BitVec.ofInt IntKind.i32.bits ((mS x5 x6).1:Int) &&& BitVec.ofInt IntKind.i32.bits 15).toNat:Int)))&&decide ((IntKind.i32.wrap ((BitVec.ofInt IntKind.i32.bits ((mS x5 x6).1:Int) &&& BitVec.ofInt IntKind.i32.bits 15).toNat:Int))<(16:Int))) (ad ((([48,49,50,51,52,53,54,55,56,57,97,98,99,100,101,102]:aj).getD ((IntKind.i32.wrap ((BitVec.ofInt IntKind.i32.bits ((mS x5 x6).1:Int) &&& BitVec.ofInt IntKind.i32.bits 15).toNat:Int)).toNat) 0).toNat:Int) Ak (fun DB=>fH DB x5 (x6+(mS x5 x6).2)))))))else (ai ((mS x5 x6).1:Int) x4 (fun Dg GG=>fH GG x5 (x6+(mS x5 x6).2))))))else (e0 x4)
noncomputable def cj {R:Type}:ml R
  | 0,_,_,_,_=>none
  | n+1,lP,lQ,my,e0=>lq ad dS af ai (fun lP lQ my=>cj n lP lQ my e0) lP lQ my e0
noncomputable def sD:Hint := { live := [4,13],own := [],rows := [],cells := [],drop := [],out := [2,3,4] }
abbrev jO:Type:=(List Int) × aj × Nat
noncomputable def qg:jO→St:=fun d=>⟨[.undef, .undef, .undef, .undef, .ptr 0 0, .undef, .undef, .undef, .undef, .undef, .undef, .undef, .undef, .ptr 1 0, .undef, .undef, .undef, .undef, .undef, .undef, .undef, .undef, .undef, .undef, .undef, .undef, .undef, .undef, .undef, .undef, .undef, .undef, .undef, .undef, .undef, .undef, .undef, .undef, .undef, .undef, .undef], [.kR (.sl (.int .u8) d.1 (.own 2)), .iter d.2.1 d.2.2, .tok]⟩
noncomputable def vO {R:Type} (K:Ex→St→Option R) (q0:List Int):Option R:=K (.exit 0) ⟨[.undef, .undef, .undef, .undef, .ptr 0 0, .undef, .undef, .undef, .undef, .undef, .undef, .undef, .undef, .undef, .undef, .undef, .undef, .undef, .undef, .undef, .undef, .undef, .undef, .undef, .undef, .undef, .undef, .undef, .undef, .undef, .undef, .undef, .undef, .undef, .undef, .undef, .undef, .undef, .undef, .undef, .undef], [.kR (.sl (.int .u8) q0 (.own 1)), .tok]⟩
noncomputable def xg {R:Type} (ad:aW R) (dS:ou R) (af:bb R) (ai:bM R) (K:Ex→St→Option R) (rc:jO→Option R) (d:jO):Option R:=lq ad dS af ai (fun z0 z1 z2=>rc (z0,z1,z2)) d.1 d.2.1 d.2.2 (vO K)
noncomputable def nq {R:Type} (K:Ex→St→Option R) (n:Nat) (d:jO):Option R:=cj n d.1 d.2.1 d.2.2 (vO K)
abbrev jP:List bO := [.leaf (.undef), .leaf (.undef), .leaf (.undef), .leaf (.undef), .leaf (.ptr 0 0), .leaf (.undef), .leaf (.undef), .leaf (.undef), .leaf (.undef), .leaf (.undef), .leaf (.undef), .leaf (.undef), .leaf (.undef), .leaf (.ptr 1 0), .leaf (.undef), .leaf (.undef), .leaf (.undef), .leaf (.undef), .leaf (.undef), .leaf (.undef), .leaf (.undef), .leaf (.undef), .leaf (.undef), .leaf (.undef), .leaf (.undef), .leaf (.undef), .leaf (.undef), .leaf (.undef), .leaf (.undef), .leaf (.undef), .leaf (.undef), .leaf (.undef), .leaf (.undef), .leaf (.undef), .leaf (.undef), .leaf (.undef), .leaf (.undef), .leaf (.undef), .leaf (.undef), .leaf (.undef), .leaf (.undef)]
abbrev jQ:List aH := [.kR (.NQ (.int .u8) 2), .iter, .tok]
noncomputable def xh (x:bO.av jP) (y:aH.av jQ):Nat:=(List.length y.1+List.length y.2.1.1+64)
noncomputable def xi (x:bO.av jP) (y:aH.av jQ):jO:=(y.1,y.2.1.1,y.2.1.2)
noncomputable def vP {R:Type} (L:ml R):bO.av jP→aH.av jQ→(Ex→St→Option R)→Option R:=fun x y K=>L (xh x y) y.1 y.2.1.1 y.2.1.2 (vO K)
noncomputable def uW (R:Type) (cj:ml R):Nat→Option (Hint × cq R):=fun i=>match i with
  | 6=>some (sD,(gq jP jQ (vP cj) qx))
  | _=>none

theorem FT {R:Type} (bt:fI R) (ah:bD R) (ad:aW R) (dS:ou R) (af:bb R) (ai:bM R) (cj:ml R) (K:Ex→St→Option R) (rc:St→Option R) (d:jO):roundOf tt (pH R bt ah ad dS af ai) (uW R cj) 0 ((aP (aK Tryz.f26)).getD 0 .skip) sD (qg d) rc K=xg ad dS af ai K (fun d=>rc (qg d)) d:=by kernel_rfl
theorem En {R:Type} (K:Ex→St→Option R) (n:Nat) (d:jO):nq K (n+1) d=xg ad dS af ai K (nq K n) d:=by kernel_rfl
theorem Eo {R:Type} (K:Ex→St→Option R) (d:jO):nq K 0 d=none:=by kernel_rfl
theorem FU (x:bO.av jP) (y:aH.av jQ):(⟨bO.cQ jP x,aH.cQ jQ y⟩:St)=qg (xi x y):=by kernel_rfl
theorem FV {R:Type} (x:bO.av jP) (y:aH.av jQ) (K:Ex→St→Option R):vP (cj) x y K=nq K (xh x y) (xi x y):=by kernel_rfl
theorem HK {R:Type} (other:cq R) (ho:o0 tt (pH R bt ah ad dS af ai) (uW R cj) 0 ((aP (aK Tryz.f26)).getD 0 .skip) sD other):o0 tt (pH R bt ah ad dS af ai) (uW R cj) 0 ((aP (aK Tryz.f26)).getD 0 .skip) sD (gq jP jQ (vP (cj)) other) :=
  gL (A:=nq) ho (kr qg (xg ad dS af ai) (nq) (Eo) (FT bt ah ad dS af ai cj) (En)) xh xi FU (FV)

noncomputable def sn {R:Type} (bt:fI R) (ah:bD R) (ad:aW R) (cj:ml R) (x1:aj) (k0:aj→Bool→Option R):Option R :=
  bt x1 (fun y2=>bif (!y2)then (k0 ([]:aj) false)else (ah 34 (fun y3=>cj (List.length y3+List.length x1+64) y3 x1 0 (fun Ha=>ad 34 Ha (fun Jn=>k0 (s7 Jn) true)))))
noncomputable def bj {R:Type}:eT R:=fun x1 k0=>sn bt ah ad cj x1 k0
theorem M0 {R:Type} (bt:fI R) (ah:bD R) (ad:aW R) (dS:ou R) (af:bb R) (ai:bM R) (cj:ml R) (x1:aj) (k:V→az→Option R):iQ tt (pH R bt ah ad dS af ai) (uW R cj) false Tryz.f26 (aK Tryz.f26) [.str x1] [] k =
    sn bt ah ad cj x1 (fun q0 q1=>k (.tuple [.str q0, .bool q1]) []):=by kernel_rfl
theorem IW (R:Type):∀a∈aP (aK Tryz.f26),cO tt (pH R bt ah ad dS af ai) (uW R cj) 0 a:=by
  refine bH 1 (by kernel_rfl) fun i hi => ?_
  match i,hi with
  | 0,_=>exact fG (by kernel_rfl) (HK _ jc)
  | n+1,hi=>omega
theorem tS (R:Type) (other:ay.Spec R) (ho:ay.Spec.Ok Tryz.prog 26 other):ay.Spec.Ok Tryz.prog 26 (aA pF pG (th bj) other) :=
  bw ho (bk TT mixed (K3 R) (keep:=false) rfl rfl rfl rfl 0 (IW R)) fun (x:bO.av pF) (y:aH.av pG) k=>M0 bt ah ad dS af ai cj x.1 k

/-! ### humpyard/json.write$1 -/
abbrev kC (R:Type):Type:=aj→((List Int)→Option R)→Option R
abbrev qh:List bO := [.leaf (.str), .leaf (.ptr 0 0)]
abbrev qi:List aH := [.cells [.ptr 1 0], .kR (.cG)]
noncomputable def zK {R:Type} (fn:kC R):bO.av qh→aH.av qi→(V→az→Option R)→Option R:=fun x y k=>fn x.1 (fun q0=>k (.tuple []) [.cells [.ptr 1 0], .kR (.sl (.int .u8) q0 (.own 2)), .tok])
noncomputable def qj (R:Type) (bj:eT R) (ag:bE R):Env R:=fun i=>match i with
  | 26=>some (true,(aA pF pG (th bj) bg))
  | 52=>some (false,(aA eh ei (gH ag) bg))
  | _=>none
theorem E5 (R:Type):p8 Tryz.prog (qj R bj ag):=by
  intro i b sp h
  unfold qj at h
  split at h
  · cases h; exact ⟨(tS R _ (aO _)),fun h=>nomatch h⟩
  · cases h; exact ⟨(jg R _ (aO _)),fun _ h=>nomatch h⟩
  · cases h

noncomputable def AI (R:Type):Nat→Option (Hint × cq R):=fun i=>match i with
  | _=>none

noncomputable def AJ {R:Type} (bj:eT R) (ag:bE R) (x1:aj) (k0:(List Int)→Option R):Option R :=
  bj x1 (fun y2 y3=>ag y2 (fun y4 y5=>k0 y5))
noncomputable def da {R:Type}:kC R:=fun x1 k0=>AJ bj ag x1 k0
theorem FW {R:Type} (bj:eT R) (ag:bE R) (x1:aj) (k:V→az→Option R):iQ tt (qj R bj ag) (AI R) false Tryz.f61 (aK Tryz.f61) [.str x1, .ptr 0 0] [.cells [.ptr 1 0], .kR (.cG)] k =
    AJ bj ag x1 (fun q0=>k (.tuple []) [.cells [.ptr 1 0], .kR (.sl (.int .u8) q0 (.own 2)), .tok]):=by kernel_rfl
theorem DC (R:Type):∀a∈aP (aK Tryz.f61),cO tt (qj R bj ag) (AI R) 2 a:=by
  refine bH 0 (by kernel_rfl) fun i hi => ?_
  omega
theorem Ep (R:Type) (other:ay.Spec R) (ho:ay.Spec.Ok Tryz.prog 61 other):ay.Spec.Ok Tryz.prog 61 (aA qh qi (zK da) other) :=
  bw ho (bk TT mixed (E5 R) (keep:=false) rfl rfl rfl rfl 2 (DC R)) fun (x:bO.av qh) (y:aH.av qi) k=>FW bj ag x.1 k

/-! ### humpyard/json.write$1 -/
abbrev dD (R:Type):Type:=aj→(List Int)→((List Int)→Option R)→Option R
abbrev nM:List bO := [.leaf (.str), .leaf (.ptr 0 0)]
abbrev nN:List aH := [.cells [.ptr 1 0], .kR (.NQ (.int .u8) 2), .tok]
noncomputable def ti {R:Type} (fn:dD R):bO.av nM→aH.av nN→(V→az→Option R)→Option R:=fun x y k=>fn x.1 y.2.1 (fun q0=>k (.tuple []) [.cells [.ptr 1 0], .kR (.sl (.int .u8) q0 (.own 3)), .dead, .tok])
noncomputable def qk (R:Type) (bj:eT R) (af:bb R):Env R:=fun i=>match i with
  | 26=>some (true,(aA pF pG (th bj) bg))
  | 52=>some (false,(aA dy dz (fe af) bg))
  | _=>none
theorem E6 (R:Type):p8 Tryz.prog (qk R bj af):=by
  intro i b sp h
  unfold qk at h
  split at h
  · cases h; exact ⟨(tS R _ (aO _)),fun h=>nomatch h⟩
  · cases h; exact ⟨(ga R _ (aO _)),fun _ h=>nomatch h⟩
  · cases h

noncomputable def AK (R:Type):Nat→Option (Hint × cq R):=fun i=>match i with
  | _=>none

noncomputable def AL {R:Type} (bj:eT R) (af:bb R) (x1:aj) (x2:List Int) (k0:(List Int)→Option R):Option R :=
  bj x1 (fun y3 y4=>af y3 x2 (fun y5 y6=>k0 y6))
noncomputable def aG {R:Type}:dD R:=fun x1 x2 k0=>AL bj af x1 x2 k0
theorem FX {R:Type} (bj:eT R) (af:bb R) (x1:aj) (x2:List Int) (k:V→az→Option R):iQ tt (qk R bj af) (AK R) false Tryz.f61 (aK Tryz.f61) [.str x1, .ptr 0 0] [.cells [.ptr 1 0], .kR (.sl (.int .u8) x2 (.own 2)), .tok] k =
    AL bj af x1 x2 (fun q0=>k (.tuple []) [.cells [.ptr 1 0], .kR (.sl (.int .u8) q0 (.own 3)), .dead, .tok]):=by kernel_rfl
theorem DE (R:Type):∀a∈aP (aK Tryz.f61),cO tt (qk R bj af) (AK R) 3 a:=by
  refine bH 0 (by kernel_rfl) fun i hi => ?_
  omega
theorem xj (R:Type) (other:ay.Spec R) (ho:ay.Spec.Ok Tryz.prog 61 other):ay.Spec.Ok Tryz.prog 61 (aA nM nN (ti aG) other) :=
  bw ho (bk TT mixed (E6 R) (keep:=false) rfl rfl rfl rfl 3 (DE R)) fun (x:bO.av nM) (y:aH.av nN) k=>FX bj af x.1 y.2.1 k

end Go.Proofs.YtmlkkgfenfdndaaGreatDoor

/-
  Functions of the program as pure Lean functions, and the ties; printed by wip/tools/emit.py.
-/
set_option maxRecDepth 100000
namespace Go.Proofs.YtmlkkgfenfdndaaGreatDoor
open Go Go.ay

/-! ### humpyard/json.write -/
abbrev bK (R:Type):Type:=Json→(List Int)→((List Int)→Option R)→Option R
abbrev ij:List bO := [.leaf (.ptr 0 0), .agg [.int .i64, .int .i64, .int .i64, .str, .sl .str, .sl .json]]
abbrev im:List aH := [.kR (.NQ (.int .u8) 1), .tok]
noncomputable def fj {R:Type} (fn:bK R):bO.av ij→aH.av im→(V→az→Option R)→Option R:=fun x y k=>fn (⟨x.2.1.1,⟨x.2.1.2.1,x.2.1.2.2.1⟩,x.2.1.2.2.2.1,x.2.1.2.2.2.2.1,x.2.1.2.2.2.2.2.1⟩:Json) y.1 (fun q0=>k (.tuple []) [.kR (.sl (.int .u8) q0 (.own 2)), .dead, .tok])
abbrev iG (R:Type):Type:=Nat→aj→(List Json)→Int→Int→(List Int)→Json→(aj→(List Int)→Option R)→Option R
noncomputable def lr (R:Type) (bc:ff R) (ad:aW R) (af:bb R) (au:bK R) (aG:dD R):Env R:=fun i=>match i with
  | 46=>some (true,(aA oU oV (tR bc) bg))
  | 50=>some (false,(aA eG eH (gZ ad) bg))
  | 52=>some (false,(aA dy dz (fe af) bg))
  | 38=>some (false,(aA ij im (fj au) bg))
  | 61=>some (false,(aA nM nN (ti aG) bg))
  | _=>none
theorem GH (R:Type) (au:bK R) (uz:ay.Spec.Ok Tryz.prog 38 (aA ij im (fj au) bg)):p8 Tryz.prog (lr R bc ad af au aG):=by
  intro i b sp h
  unfold lr at h
  split at h
  · cases h; exact ⟨(vK R _ (aO _)),fun h=>nomatch h⟩
  · cases h; exact ⟨(jV R _ (aO _)),fun _ h=>nomatch h⟩
  · cases h; exact ⟨(ga R _ (aO _)),fun _ h=>nomatch h⟩
  · cases h; exact ⟨uz,fun _ h=>nomatch h⟩
  · cases h; exact ⟨(xj R _ (aO _)),fun _ h=>nomatch h⟩
  · cases h

noncomputable def jl {R:Type} (ad:aW R) (au:bK R) (aG:dD R) (fH:aj→(List Json)→Int→Int→(List Int)→Json→Option R) (pZ:aj) (tE:List Json) (nf:Int) (tF:Int) (CS:List Int) (AM:Json) (e0:aj→(List Int)→Option R):Option R :=
  bif (decide (tF<nf))then (cU (decide ((0:Int)≤tF)&&decide (tF<tE.length)) (bif (decide (tF>(0:Int)))then (ad 44 CS (fun BZ=>bif (AM.kind==7)then (cU (decide ((0:Int)≤tF)&&decide (tF<AM.names.length)) (aG (AM.names.getD tF.toNat (Ty.ck .str)) BZ (fun Ql=>ad 58 Ql (fun RU=>au (⟨(tE.getD tF.toNat (Ty.ck .json)).kind,⟨(tE.getD tF.toNat (Ty.ck .json)).num.aB,(tE.getD tF.toNat (Ty.ck .json)).num.exp⟩,(tE.getD tF.toNat (Ty.ck .json)).text,(tE.getD tF.toNat (Ty.ck .json)).names,(tE.getD tF.toNat (Ty.ck .json)).items⟩:Json) RU (fun y24=>fH pZ tE nf (IntKind.i64.wrap (tF+1)) y24 (⟨AM.kind,⟨AM.num.aB,AM.num.exp⟩,AM.text,AM.names,AM.items⟩:Json))))))else (au (⟨(tE.getD tF.toNat (Ty.ck .json)).kind,⟨(tE.getD tF.toNat (Ty.ck .json)).num.aB,(tE.getD tF.toNat (Ty.ck .json)).num.exp⟩,(tE.getD tF.toNat (Ty.ck .json)).text,(tE.getD tF.toNat (Ty.ck .json)).names,(tE.getD tF.toNat (Ty.ck .json)).items⟩:Json) BZ (fun Jo=>fH pZ tE nf (IntKind.i64.wrap (tF+1)) Jo (⟨AM.kind,⟨AM.num.aB,AM.num.exp⟩,AM.text,AM.names,AM.items⟩:Json)))))else (bif (AM.kind==7)then (cU (decide ((0:Int)≤tF)&&decide (tF<AM.names.length)) (aG (AM.names.getD tF.toNat (Ty.ck .str)) CS (fun J2=>ad 58 J2 (fun Jp=>au (⟨(tE.getD tF.toNat (Ty.ck .json)).kind,⟨(tE.getD tF.toNat (Ty.ck .json)).num.aB,(tE.getD tF.toNat (Ty.ck .json)).num.exp⟩,(tE.getD tF.toNat (Ty.ck .json)).text,(tE.getD tF.toNat (Ty.ck .json)).names,(tE.getD tF.toNat (Ty.ck .json)).items⟩:Json) Jp (fun Jq=>fH pZ tE nf (IntKind.i64.wrap (tF+1)) Jq (⟨AM.kind,⟨AM.num.aB,AM.num.exp⟩,AM.text,AM.names,AM.items⟩:Json))))))else (au (⟨(tE.getD tF.toNat (Ty.ck .json)).kind,⟨(tE.getD tF.toNat (Ty.ck .json)).num.aB,(tE.getD tF.toNat (Ty.ck .json)).num.exp⟩,(tE.getD tF.toNat (Ty.ck .json)).text,(tE.getD tF.toNat (Ty.ck .json)).names,(tE.getD tF.toNat (Ty.ck .json)).items⟩:Json) CS (fun Oi=>fH pZ tE nf (IntKind.i64.wrap (tF+1)) Oi (⟨AM.kind,⟨AM.num.aB,AM.num.exp⟩,AM.text,AM.names,AM.items⟩:Json))))))else (e0 pZ CS)
noncomputable def aU {R:Type} (au:bK R):iG R
  | 0,_,_,_,_,_,_,_=>none
  | n+1,lP,lQ,my,tO,Er,Es,e0=>jl ad au aG (fun lP lQ my tO Er Es=>aU au n lP lQ my tO Er Es e0) lP lQ my tO Er Es e0
noncomputable def nR:Hint := { live := [2,3,4,5,43,44,45],own := [],rows := [],cells := [],drop := [],out := [2,5] }
abbrev fR:Type:=aj × (List Json) × Int × Int × (List Int) × Json
noncomputable def mz:fR→St:=fun d=>⟨[.undef, .undef, .ptr 2 0, .ptr 3 0, .func 61 [] [.ptr 2 0], .str d.1, .undef, .undef, .undef, .undef, .undef, .undef, .undef, .undef, .undef, .undef, .undef, .undef, .undef, .undef, .undef, .undef, .undef, .undef, .undef, .undef, .undef, .undef, .undef, .undef, .undef, .undef, .undef, .undef, .undef, .undef, .undef, .undef, .undef, .undef, .undef, .undef, .undef, .sl .json d.2.1 .no, .int .i64 d.2.2.1, .int .i64 d.2.2.2.1, .undef, .undef, .undef, .undef, .undef, .undef, .undef, .undef, .undef, .undef, .undef, .undef, .undef, .undef, .undef, .undef, .undef, .undef, .undef, .undef, .undef, .undef, .undef, .undef, .undef, .undef, .undef, .undef], [.kR (.sl (.int .u8) d.2.2.2.2.1 (.own 4)), .dead, .cells [.ptr 0 0], .cells [.int .i64 d.2.2.2.2.2.kind, .int .i64 d.2.2.2.2.2.num.aB, .int .i64 d.2.2.2.2.2.num.exp, .str d.2.2.2.2.2.text, .sl .str d.2.2.2.2.2.names .no, .sl .json d.2.2.2.2.2.items .no], .tok]⟩
noncomputable def qz {R:Type} (K:Ex→St→Option R) (q0:aj) (q1:List Int):Option R:=K (.exit 1) ⟨[.undef, .undef, .ptr 2 0, .undef, .undef, .str q0, .undef, .undef, .undef, .undef, .undef, .undef, .undef, .undef, .undef, .undef, .undef, .undef, .undef, .undef, .undef, .undef, .undef, .undef, .undef, .undef, .undef, .undef, .undef, .undef, .undef, .undef, .undef, .undef, .undef, .undef, .undef, .undef, .undef, .undef, .undef, .undef, .undef, .undef, .undef, .undef, .undef, .undef, .undef, .undef, .undef, .undef, .undef, .undef, .undef, .undef, .undef, .undef, .undef, .undef, .undef, .undef, .undef, .undef, .undef, .undef, .undef, .undef, .undef, .undef, .undef, .undef, .undef, .undef], [.kR (.sl (.int .u8) q1 (.own 3)), .dead, .cells [.ptr 0 0], .tok]⟩
noncomputable def rB {R:Type} (ad:aW R) (au:bK R) (aG:dD R) (K:Ex→St→Option R) (rc:fR→Option R) (d:fR):Option R:=jl ad au aG (fun z0 z1 z2 z3 z4 z5=>rc (z0,z1,z2,z3,z4,z5)) d.1 d.2.1 d.2.2.1 d.2.2.2.1 d.2.2.2.2.1 d.2.2.2.2.2 (qz K)
noncomputable def jm {R:Type} (au:bK R) (K:Ex→St→Option R) (n:Nat) (d:fR):Option R:=aU au n d.1 d.2.1 d.2.2.1 d.2.2.2.1 d.2.2.2.2.1 d.2.2.2.2.2 (qz K)
abbrev fS:List bO := [.leaf (.undef), .leaf (.undef), .leaf (.ptr 2 0), .leaf (.ptr 3 0), .func 61 [] [.ptr 2 0], .leaf (.str), .leaf (.undef), .leaf (.undef), .leaf (.undef), .leaf (.undef), .leaf (.undef), .leaf (.undef), .leaf (.undef), .leaf (.undef), .leaf (.undef), .leaf (.undef), .leaf (.undef), .leaf (.undef), .leaf (.undef), .leaf (.undef), .leaf (.undef), .leaf (.undef), .leaf (.undef), .leaf (.undef), .leaf (.undef), .leaf (.undef), .leaf (.undef), .leaf (.undef), .leaf (.undef), .leaf (.undef), .leaf (.undef), .leaf (.undef), .leaf (.undef), .leaf (.undef), .leaf (.undef), .leaf (.undef), .leaf (.undef), .leaf (.undef), .leaf (.undef), .leaf (.undef), .leaf (.undef), .leaf (.undef), .leaf (.undef), .leaf (.sl .json), .leaf (.int .i64), .leaf (.int .i64), .leaf (.undef), .leaf (.undef), .leaf (.undef), .leaf (.undef), .leaf (.undef), .leaf (.undef), .leaf (.undef), .leaf (.undef), .leaf (.undef), .leaf (.undef), .leaf (.undef), .leaf (.undef), .leaf (.undef), .leaf (.undef), .leaf (.undef), .leaf (.undef), .leaf (.undef), .leaf (.undef), .leaf (.undef), .leaf (.undef), .leaf (.undef), .leaf (.undef), .leaf (.undef), .leaf (.undef), .leaf (.undef), .leaf (.undef), .leaf (.undef), .leaf (.undef)]
abbrev fT:List aH := [.kR (.NQ (.int .u8) 4), .dead, .cells [.ptr 0 0], .cells [.int .i64, .int .i64, .int .i64, .str, .sl .str, .sl .json], .tok]
noncomputable def rC (x:bO.av fS) (y:aH.av fT):Nat:=(List.length x.2.2.2.2.2.1+List.length x.2.2.2.2.2.2.2.2.2.2.2.2.2.2.2.2.2.2.2.2.2.2.2.2.2.2.2.2.2.2.2.2.2.2.2.2.2.2.2.2.2.2.2.1+Int.natAbs x.2.2.2.2.2.2.2.2.2.2.2.2.2.2.2.2.2.2.2.2.2.2.2.2.2.2.2.2.2.2.2.2.2.2.2.2.2.2.2.2.2.2.2.2.1+Int.natAbs x.2.2.2.2.2.2.2.2.2.2.2.2.2.2.2.2.2.2.2.2.2.2.2.2.2.2.2.2.2.2.2.2.2.2.2.2.2.2.2.2.2.2.2.2.2.1+List.length y.1+Json.fu (⟨y.2.2.2.1.1,⟨y.2.2.2.1.2.1,y.2.2.2.1.2.2.1⟩,y.2.2.2.1.2.2.2.1,y.2.2.2.1.2.2.2.2.1,y.2.2.2.1.2.2.2.2.2.1⟩:Json)+64)
noncomputable def rD (x:bO.av fS) (y:aH.av fT):fR:=(x.2.2.2.2.2.1,x.2.2.2.2.2.2.2.2.2.2.2.2.2.2.2.2.2.2.2.2.2.2.2.2.2.2.2.2.2.2.2.2.2.2.2.2.2.2.2.2.2.2.2.1,x.2.2.2.2.2.2.2.2.2.2.2.2.2.2.2.2.2.2.2.2.2.2.2.2.2.2.2.2.2.2.2.2.2.2.2.2.2.2.2.2.2.2.2.2.1,x.2.2.2.2.2.2.2.2.2.2.2.2.2.2.2.2.2.2.2.2.2.2.2.2.2.2.2.2.2.2.2.2.2.2.2.2.2.2.2.2.2.2.2.2.2.1,y.1,(⟨y.2.2.2.1.1,⟨y.2.2.2.1.2.1,y.2.2.2.1.2.2.1⟩,y.2.2.2.1.2.2.2.1,y.2.2.2.1.2.2.2.2.1,y.2.2.2.1.2.2.2.2.2.1⟩:Json))
noncomputable def qA {R:Type} (L:iG R):bO.av fS→aH.av fT→(Ex→St→Option R)→Option R:=fun x y K=>L (rC x y) x.2.2.2.2.2.1 x.2.2.2.2.2.2.2.2.2.2.2.2.2.2.2.2.2.2.2.2.2.2.2.2.2.2.2.2.2.2.2.2.2.2.2.2.2.2.2.2.2.2.2.1 x.2.2.2.2.2.2.2.2.2.2.2.2.2.2.2.2.2.2.2.2.2.2.2.2.2.2.2.2.2.2.2.2.2.2.2.2.2.2.2.2.2.2.2.2.1 x.2.2.2.2.2.2.2.2.2.2.2.2.2.2.2.2.2.2.2.2.2.2.2.2.2.2.2.2.2.2.2.2.2.2.2.2.2.2.2.2.2.2.2.2.2.1 y.1 (⟨y.2.2.2.1.1,⟨y.2.2.2.1.2.1,y.2.2.2.1.2.2.1⟩,y.2.2.2.1.2.2.2.1,y.2.2.2.1.2.2.2.2.1,y.2.2.2.1.2.2.2.2.2.1⟩:Json) (qz K)
noncomputable def pe (R:Type) (aU:iG R):Nat→Option (Hint × cq R):=fun i=>match i with
  | 18=>some (nR,(gq fS fT (qA aU) qx))
  | _=>none

theorem Cm {R:Type} (bc:ff R) (ad:aW R) (af:bb R) (au:bK R) (aG:dD R) (aU:iG R) (K:Ex→St→Option R) (rc:St→Option R) (d:fR):roundOf tt (lr R bc ad af au aG) (pe R aU) 2 ((aP (aK Tryz.f38)).getD 0 .skip) nR (mz d) rc K=rB ad au aG K (fun d=>rc (mz d)) d:=by kernel_rfl
theorem Bc {R:Type} (au:bK R) (K:Ex→St→Option R) (n:Nat) (d:fR):jm au K (n+1) d=rB ad au aG K (jm au K n) d:=by kernel_rfl
theorem Bd {R:Type} (au:bK R) (K:Ex→St→Option R) (d:fR):jm au K 0 d=none:=by kernel_rfl
theorem Cn (x:bO.av fS) (y:aH.av fT):(⟨bO.cQ fS x,aH.cQ fT y⟩:St)=mz (rD x y):=by kernel_rfl
theorem Co {R:Type} (au:bK R) (x:bO.av fS) (y:aH.av fT) (K:Ex→St→Option R):qA (aU au) x y K=jm au K (rC x y) (rD x y):=by kernel_rfl
theorem DF {R:Type} (au:bK R) (other:cq R) (ho:o0 tt (lr R bc ad af au aG) (pe R (aU au)) 2 ((aP (aK Tryz.f38)).getD 0 .skip) nR other):o0 tt (lr R bc ad af au aG) (pe R (aU au)) 2 ((aP (aK Tryz.f38)).getD 0 .skip) nR (gq fS fT (qA (aU au)) other) :=
  gL (A:=jm au) ho (kr mz (rB ad au aG) (jm au) (Bd au) (Cm bc ad af au aG (aU au)) (Bc au)) rC rD Cn (Co au)

noncomputable def xk {R:Type} (bc:ff R) (ad:aW R) (af:bb R) (aG:dD R) (aU:iG R) (x1:Json) (x2:List Int) (k0:(List Int)→Option R):Option R :=
  let j33:=fun (RS:aj)=>cU (decide ((0:Int)<RS.length)) (ad ((RS.getD 0 0).toNat:Int) x2 (fun Dg=>aU (List.length RS+List.length x1.items+Int.natAbs (x1.items.length:Int)+Int.natAbs 0+List.length Dg+Json.fu (⟨x1.kind,⟨x1.num.aB,x1.num.exp⟩,x1.text,x1.names,x1.items⟩:Json)+64) RS x1.items (x1.items.length:Int) 0 Dg (⟨x1.kind,⟨x1.num.aB,x1.num.exp⟩,x1.text,x1.names,x1.items⟩:Json) (fun NR Qm=>cU (decide ((1:Int)<NR.length)) (ad ((NR.getD 1 0).toNat:Int) Qm (fun NS=>k0 NS))))); bif (x1.kind==1)then (af ([110,117,108,108]:aj) x2 (fun y3 y4=>k0 y4))else (bif (x1.kind==2)then (af ([102,97,108,115,101]:aj) x2 (fun y5 y6=>k0 y6))else (bif (x1.kind==3)then (af ([116,114,117,101]:aj) x2 (fun y7 y8=>k0 y8))else (bif (x1.kind==4)then (bc x1.num (fun y9=>af y9 x2 (fun yA wE=>k0 wE)))else (bif (x1.kind==5)then (aG x1.text x2 (fun Ak=>k0 Ak))else (bif (x1.kind==7)then (j33 ([123,125]:aj))else (j33 ([91,93]:aj)))))))
noncomputable def xl {R:Type} (au:bK R):bK R:=fun x1 x2 k0=>xk bc ad af aG (aU au) x1 x2 k0
theorem HL {R:Type} (bc:ff R) (ad:aW R) (af:bb R) (au:bK R) (aG:dD R) (aU:iG R) (x1:Json) (x2:List Int) (k:V→az→Option R):iQ tt (lr R bc ad af au aG) (pe R aU) false Tryz.f38 (aK Tryz.f38) [.ptr 0 0, .agg [.int .i64 x1.kind, .int .i64 x1.num.aB, .int .i64 x1.num.exp, .str x1.text, .sl .str x1.names .no, .sl .json x1.items .no]] [.kR (.sl (.int .u8) x2 (.own 1)), .tok] k =
    xk bc ad af aG aU x1 x2 (fun q0=>k (.tuple []) [.kR (.sl (.int .u8) q0 (.own 2)), .dead, .tok]):=by kernel_rfl
theorem E7 (R:Type) (au:bK R):∀a∈aP (aK Tryz.f38),cO tt (lr R bc ad af au aG) (pe R (aU au)) 2 a:=by
  refine bH 1 (by kernel_rfl) fun i hi => ?_
  match i,hi with
  | 0,_=>exact fG (by kernel_rfl) (DF au _ jc)
  | n+1,hi=>omega
theorem E8 (R:Type) (au:bK R) (uz:ay.Spec.Ok Tryz.prog 38 (aA ij im (fj au) bg)) (other:ay.Spec R) (ho:ay.Spec.Ok Tryz.prog 38 other):ay.Spec.Ok Tryz.prog 38 (aA ij im (fj (xl au)) other) :=
  bw ho (bk TT mixed (GH R au uz) (keep:=false) rfl rfl rfl rfl 2 (E7 R au)) fun (x:bO.av ij) (y:aH.av im) k=>HL bc ad af au aG (aU au) (⟨x.2.1.1,⟨x.2.1.2.1,x.2.1.2.2.1⟩,x.2.1.2.2.2.1,x.2.1.2.2.2.2.1,x.2.1.2.2.2.2.2.1⟩:Json) y.1 k
noncomputable def dB {R:Type}:Nat→bK R
  | 0,_,_,_=>none
  | n+1,lP,lQ,k0'=>xl (dB n) lP lQ k0'
theorem Qn {R:Type} (n:Nat):dB (R:=R) (n+1)=xl (dB n):=by kernel_rfl
theorem FY (R:Type):∀n,ay.Spec.Ok Tryz.prog 38 (aA ij im (fj (dB (R:=R) n)) bg) :=
  wk (run:=fun n=>fj (dB (R:=R) n)) (fun x y k=>by kernel_rfl) fun n hyp=>E8 R (dB n) hyp bg (aO _)
noncomputable def bF {R:Type}:bK R:=fun x1 x2 k0=>dB (Json.depth x1+2) x1 x2 k0
theorem FZ (R:Type):fj (R:=R) bF=fun x y k=>fj (dB (Json.depth (⟨x.2.1.1,⟨x.2.1.2.1,x.2.1.2.2.1⟩,x.2.1.2.2.2.1,x.2.1.2.2.2.2.1,x.2.1.2.2.2.2.2.1⟩:Json)+2)) x y k:=by kernel_rfl
theorem F0 (R:Type) (other:ay.Spec R) (ho:ay.Spec.Ok Tryz.prog 38 other):ay.Spec.Ok Tryz.prog 38 (aA ij im (fj bF) other) :=
  BX (Dx (run:=fun n=>fj (dB (R:=R) n)) (fun x y=>(Json.depth (⟨x.2.1.1,⟨x.2.1.2.1,x.2.1.2.2.1⟩,x.2.1.2.2.2.1,x.2.1.2.2.2.2.1,x.2.1.2.2.2.2.2.1⟩:Json)+2)) ho (FY R)) (FZ R)

end Go.Proofs.YtmlkkgfenfdndaaGreatDoor

/-
  Functions of the program as pure Lean functions, and the ties; printed by wip/tools/emit.py.
-/
set_option maxRecDepth 100000
namespace Go.Proofs.YtmlkkgfenfdndaaGreatDoor
open Go Go.ay

/-! ### humpyard/json.write -/
abbrev ov (R:Type):Type:=Json→((List Int)→Option R)→Option R
abbrev sE:List bO := [.leaf (.ptr 0 0), .agg [.int .i64, .int .i64, .int .i64, .str, .sl .str, .sl .json]]
abbrev sF:List aH := [.kR (.cG)]
noncomputable def B0 {R:Type} (fn:ov R):bO.av sE→aH.av sF→(V→az→Option R)→Option R:=fun x y k=>fn (⟨x.2.1.1,⟨x.2.1.2.1,x.2.1.2.2.1⟩,x.2.1.2.2.2.1,x.2.1.2.2.2.2.1,x.2.1.2.2.2.2.2.1⟩:Json) (fun q0=>k (.tuple []) [.kR (.sl (.int .u8) q0 (.own 1)), .tok])
abbrev iH (R:Type):Type:=Nat→aj→(List Json)→Int→Int→(List Int)→Json→(aj→(List Int)→Option R)→Option R
noncomputable def lu (R:Type) (bc:ff R) (ah:bD R) (ad:aW R) (ag:bE R) (bF:bK R) (da:kC R) (aG:dD R):Env R:=fun i=>match i with
  | 46=>some (true,(aA oU oV (tR bc) bg))
  | 50=>some (false,(aA eG eH (gZ ad) (aA eE eF (gY ah) bg)))
  | 52=>some (false,(aA eh ei (gH ag) bg))
  | 38=>some (false,(aA ij im (fj bF) bg))
  | 61=>some (false,(aA nM nN (ti aG) (aA qh qi (zK da) bg)))
  | _=>none
theorem GI (R:Type):p8 Tryz.prog (lu R bc ah ad ag bF da aG):=by
  intro i b sp h
  unfold lu at h
  split at h
  · cases h; exact ⟨(vK R _ (aO _)),fun h=>nomatch h⟩
  · cases h; exact ⟨(jV R _ (jU R _ (aO _))),fun _ h=>nomatch h⟩
  · cases h; exact ⟨(jg R _ (aO _)),fun _ h=>nomatch h⟩
  · cases h; exact ⟨(F0 R _ (aO _)),fun _ h=>nomatch h⟩
  · cases h; exact ⟨(xj R _ (Ep R _ (aO _))),fun _ h=>nomatch h⟩
  · cases h

noncomputable def xm {R:Type} (ad:aW R) (bF:bK R) (aG:dD R) (fH:aj→(List Json)→Int→Int→(List Int)→Json→Option R) (UY:aj) (pZ:List Json) (tE:Int) (nf:Int) (tF:List Int) (CS:Json) (e0:aj→(List Int)→Option R):Option R :=
  bif (decide (nf<tE))then (cU (decide ((0:Int)≤nf)&&decide (nf<pZ.length)) (bif (decide (nf>(0:Int)))then (ad 44 tF (fun LA=>bif (CS.kind==7)then (cU (decide ((0:Int)≤nf)&&decide (nf<CS.names.length)) (aG (CS.names.getD nf.toNat (Ty.ck .str)) LA (fun BZ=>ad 58 BZ (fun Ql=>bF (⟨(pZ.getD nf.toNat (Ty.ck .json)).kind,⟨(pZ.getD nf.toNat (Ty.ck .json)).num.aB,(pZ.getD nf.toNat (Ty.ck .json)).num.exp⟩,(pZ.getD nf.toNat (Ty.ck .json)).text,(pZ.getD nf.toNat (Ty.ck .json)).names,(pZ.getD nf.toNat (Ty.ck .json)).items⟩:Json) Ql (fun RU=>fH UY pZ tE (IntKind.i64.wrap (nf+1)) RU (⟨CS.kind,⟨CS.num.aB,CS.num.exp⟩,CS.text,CS.names,CS.items⟩:Json))))))else (bF (⟨(pZ.getD nf.toNat (Ty.ck .json)).kind,⟨(pZ.getD nf.toNat (Ty.ck .json)).num.aB,(pZ.getD nf.toNat (Ty.ck .json)).num.exp⟩,(pZ.getD nf.toNat (Ty.ck .json)).text,(pZ.getD nf.toNat (Ty.ck .json)).names,(pZ.getD nf.toNat (Ty.ck .json)).items⟩:Json) LA (fun y24=>fH UY pZ tE (IntKind.i64.wrap (nf+1)) y24 (⟨CS.kind,⟨CS.num.aB,CS.num.exp⟩,CS.text,CS.names,CS.items⟩:Json)))))else (bif (CS.kind==7)then (cU (decide ((0:Int)≤nf)&&decide (nf<CS.names.length)) (aG (CS.names.getD nf.toNat (Ty.ck .str)) tF (fun Jo=>ad 58 Jo (fun J2=>bF (⟨(pZ.getD nf.toNat (Ty.ck .json)).kind,⟨(pZ.getD nf.toNat (Ty.ck .json)).num.aB,(pZ.getD nf.toNat (Ty.ck .json)).num.exp⟩,(pZ.getD nf.toNat (Ty.ck .json)).text,(pZ.getD nf.toNat (Ty.ck .json)).names,(pZ.getD nf.toNat (Ty.ck .json)).items⟩:Json) J2 (fun Jp=>fH UY pZ tE (IntKind.i64.wrap (nf+1)) Jp (⟨CS.kind,⟨CS.num.aB,CS.num.exp⟩,CS.text,CS.names,CS.items⟩:Json))))))else (bF (⟨(pZ.getD nf.toNat (Ty.ck .json)).kind,⟨(pZ.getD nf.toNat (Ty.ck .json)).num.aB,(pZ.getD nf.toNat (Ty.ck .json)).num.exp⟩,(pZ.getD nf.toNat (Ty.ck .json)).text,(pZ.getD nf.toNat (Ty.ck .json)).names,(pZ.getD nf.toNat (Ty.ck .json)).items⟩:Json) tF (fun Jq=>fH UY pZ tE (IntKind.i64.wrap (nf+1)) Jq (⟨CS.kind,⟨CS.num.aB,CS.num.exp⟩,CS.text,CS.names,CS.items⟩:Json))))))else (e0 UY tF)
noncomputable def bm {R:Type}:iH R
  | 0,_,_,_,_,_,_,_=>none
  | n+1,lP,lQ,my,tO,Er,Es,e0=>xm ad bF aG (fun lP lQ my tO Er Es=>bm n lP lQ my tO Er Es e0) lP lQ my tO Er Es e0
noncomputable def nS:Hint := { live := [2,3,4,5,43,44,45],own := [],rows := [],cells := [],drop := [],out := [2,5] }
abbrev fU:Type:=aj × (List Json) × Int × Int × (List Int) × Json
noncomputable def mA:fU→St:=fun d=>⟨[.undef, .undef, .ptr 1 0, .ptr 2 0, .func 61 [] [.ptr 1 0], .str d.1, .undef, .undef, .undef, .undef, .undef, .undef, .undef, .undef, .undef, .undef, .undef, .undef, .undef, .undef, .undef, .undef, .undef, .undef, .undef, .undef, .undef, .undef, .undef, .undef, .undef, .undef, .undef, .undef, .undef, .undef, .undef, .undef, .undef, .undef, .undef, .undef, .undef, .sl .json d.2.1 .no, .int .i64 d.2.2.1, .int .i64 d.2.2.2.1, .undef, .undef, .undef, .undef, .undef, .undef, .undef, .undef, .undef, .undef, .undef, .undef, .undef, .undef, .undef, .undef, .undef, .undef, .undef, .undef, .undef, .undef, .undef, .undef, .undef, .undef, .undef, .undef], [.kR (.sl (.int .u8) d.2.2.2.2.1 (.own 3)), .cells [.ptr 0 0], .cells [.int .i64 d.2.2.2.2.2.kind, .int .i64 d.2.2.2.2.2.num.aB, .int .i64 d.2.2.2.2.2.num.exp, .str d.2.2.2.2.2.text, .sl .str d.2.2.2.2.2.names .no, .sl .json d.2.2.2.2.2.items .no], .tok]⟩
noncomputable def qB {R:Type} (K:Ex→St→Option R) (q0:aj) (q1:List Int):Option R:=K (.exit 1) ⟨[.undef, .undef, .ptr 1 0, .undef, .undef, .str q0, .undef, .undef, .undef, .undef, .undef, .undef, .undef, .undef, .undef, .undef, .undef, .undef, .undef, .undef, .undef, .undef, .undef, .undef, .undef, .undef, .undef, .undef, .undef, .undef, .undef, .undef, .undef, .undef, .undef, .undef, .undef, .undef, .undef, .undef, .undef, .undef, .undef, .undef, .undef, .undef, .undef, .undef, .undef, .undef, .undef, .undef, .undef, .undef, .undef, .undef, .undef, .undef, .undef, .undef, .undef, .undef, .undef, .undef, .undef, .undef, .undef, .undef, .undef, .undef, .undef, .undef, .undef, .undef], [.kR (.sl (.int .u8) q1 (.own 2)), .cells [.ptr 0 0], .tok]⟩
noncomputable def rE {R:Type} (ad:aW R) (bF:bK R) (aG:dD R) (K:Ex→St→Option R) (rc:fU→Option R) (d:fU):Option R:=xm ad bF aG (fun z0 z1 z2 z3 z4 z5=>rc (z0,z1,z2,z3,z4,z5)) d.1 d.2.1 d.2.2.1 d.2.2.2.1 d.2.2.2.2.1 d.2.2.2.2.2 (qB K)
noncomputable def jn {R:Type} (K:Ex→St→Option R) (n:Nat) (d:fU):Option R:=bm n d.1 d.2.1 d.2.2.1 d.2.2.2.1 d.2.2.2.2.1 d.2.2.2.2.2 (qB K)
abbrev fV:List bO := [.leaf (.undef), .leaf (.undef), .leaf (.ptr 1 0), .leaf (.ptr 2 0), .func 61 [] [.ptr 1 0], .leaf (.str), .leaf (.undef), .leaf (.undef), .leaf (.undef), .leaf (.undef), .leaf (.undef), .leaf (.undef), .leaf (.undef), .leaf (.undef), .leaf (.undef), .leaf (.undef), .leaf (.undef), .leaf (.undef), .leaf (.undef), .leaf (.undef), .leaf (.undef), .leaf (.undef), .leaf (.undef), .leaf (.undef), .leaf (.undef), .leaf (.undef), .leaf (.undef), .leaf (.undef), .leaf (.undef), .leaf (.undef), .leaf (.undef), .leaf (.undef), .leaf (.undef), .leaf (.undef), .leaf (.undef), .leaf (.undef), .leaf (.undef), .leaf (.undef), .leaf (.undef), .leaf (.undef), .leaf (.undef), .leaf (.undef), .leaf (.undef), .leaf (.sl .json), .leaf (.int .i64), .leaf (.int .i64), .leaf (.undef), .leaf (.undef), .leaf (.undef), .leaf (.undef), .leaf (.undef), .leaf (.undef), .leaf (.undef), .leaf (.undef), .leaf (.undef), .leaf (.undef), .leaf (.undef), .leaf (.undef), .leaf (.undef), .leaf (.undef), .leaf (.undef), .leaf (.undef), .leaf (.undef), .leaf (.undef), .leaf (.undef), .leaf (.undef), .leaf (.undef), .leaf (.undef), .leaf (.undef), .leaf (.undef), .leaf (.undef), .leaf (.undef), .leaf (.undef), .leaf (.undef)]
abbrev fW:List aH := [.kR (.NQ (.int .u8) 3), .cells [.ptr 0 0], .cells [.int .i64, .int .i64, .int .i64, .str, .sl .str, .sl .json], .tok]
noncomputable def rF (x:bO.av fV) (y:aH.av fW):Nat:=(List.length x.2.2.2.2.2.1+List.length x.2.2.2.2.2.2.2.2.2.2.2.2.2.2.2.2.2.2.2.2.2.2.2.2.2.2.2.2.2.2.2.2.2.2.2.2.2.2.2.2.2.2.2.1+Int.natAbs x.2.2.2.2.2.2.2.2.2.2.2.2.2.2.2.2.2.2.2.2.2.2.2.2.2.2.2.2.2.2.2.2.2.2.2.2.2.2.2.2.2.2.2.2.1+Int.natAbs x.2.2.2.2.2.2.2.2.2.2.2.2.2.2.2.2.2.2.2.2.2.2.2.2.2.2.2.2.2.2.2.2.2.2.2.2.2.2.2.2.2.2.2.2.2.1+List.length y.1+Json.fu (⟨y.2.2.1.1,⟨y.2.2.1.2.1,y.2.2.1.2.2.1⟩,y.2.2.1.2.2.2.1,y.2.2.1.2.2.2.2.1,y.2.2.1.2.2.2.2.2.1⟩:Json)+64)
noncomputable def rG (x:bO.av fV) (y:aH.av fW):fU:=(x.2.2.2.2.2.1,x.2.2.2.2.2.2.2.2.2.2.2.2.2.2.2.2.2.2.2.2.2.2.2.2.2.2.2.2.2.2.2.2.2.2.2.2.2.2.2.2.2.2.2.1,x.2.2.2.2.2.2.2.2.2.2.2.2.2.2.2.2.2.2.2.2.2.2.2.2.2.2.2.2.2.2.2.2.2.2.2.2.2.2.2.2.2.2.2.2.1,x.2.2.2.2.2.2.2.2.2.2.2.2.2.2.2.2.2.2.2.2.2.2.2.2.2.2.2.2.2.2.2.2.2.2.2.2.2.2.2.2.2.2.2.2.2.1,y.1,(⟨y.2.2.1.1,⟨y.2.2.1.2.1,y.2.2.1.2.2.1⟩,y.2.2.1.2.2.2.1,y.2.2.1.2.2.2.2.1,y.2.2.1.2.2.2.2.2.1⟩:Json))
noncomputable def qC {R:Type} (L:iH R):bO.av fV→aH.av fW→(Ex→St→Option R)→Option R:=fun x y K=>L (rF x y) x.2.2.2.2.2.1 x.2.2.2.2.2.2.2.2.2.2.2.2.2.2.2.2.2.2.2.2.2.2.2.2.2.2.2.2.2.2.2.2.2.2.2.2.2.2.2.2.2.2.2.1 x.2.2.2.2.2.2.2.2.2.2.2.2.2.2.2.2.2.2.2.2.2.2.2.2.2.2.2.2.2.2.2.2.2.2.2.2.2.2.2.2.2.2.2.2.1 x.2.2.2.2.2.2.2.2.2.2.2.2.2.2.2.2.2.2.2.2.2.2.2.2.2.2.2.2.2.2.2.2.2.2.2.2.2.2.2.2.2.2.2.2.2.1 y.1 (⟨y.2.2.1.1,⟨y.2.2.1.2.1,y.2.2.1.2.2.1⟩,y.2.2.1.2.2.2.1,y.2.2.1.2.2.2.2.1,y.2.2.1.2.2.2.2.2.1⟩:Json) (qB K)
noncomputable def pg (R:Type) (bm:iH R):Nat→Option (Hint × cq R):=fun i=>match i with
  | 18=>some (nS,(gq fV fW (qC bm) qx))
  | _=>none

theorem Cp {R:Type} (bc:ff R) (ah:bD R) (ad:aW R) (ag:bE R) (bF:bK R) (da:kC R) (aG:dD R) (bm:iH R) (K:Ex→St→Option R) (rc:St→Option R) (d:fU):roundOf tt (lu R bc ah ad ag bF da aG) (pg R bm) 1 ((aP (aK Tryz.f38)).getD 0 .skip) nS (mA d) rc K=rE ad bF aG K (fun d=>rc (mA d)) d:=by kernel_rfl
theorem Be {R:Type} (K:Ex→St→Option R) (n:Nat) (d:fU):jn K (n+1) d=rE ad bF aG K (jn K n) d:=by kernel_rfl
theorem Bf {R:Type} (K:Ex→St→Option R) (d:fU):jn K 0 d=none:=by kernel_rfl
theorem Cq (x:bO.av fV) (y:aH.av fW):(⟨bO.cQ fV x,aH.cQ fW y⟩:St)=mA (rG x y):=by kernel_rfl
theorem Cr {R:Type} (x:bO.av fV) (y:aH.av fW) (K:Ex→St→Option R):qC (bm) x y K=jn K (rF x y) (rG x y):=by kernel_rfl
theorem DG {R:Type} (other:cq R) (ho:o0 tt (lu R bc ah ad ag bF da aG) (pg R bm) 1 ((aP (aK Tryz.f38)).getD 0 .skip) nS other):o0 tt (lu R bc ah ad ag bF da aG) (pg R bm) 1 ((aP (aK Tryz.f38)).getD 0 .skip) nS (gq fV fW (qC (bm)) other) :=
  gL (A:=jn) ho (kr mA (rE ad bF aG) (jn) (Bf) (Cp bc ah ad ag bF da aG bm) (Be)) rF rG Cq (Cr)

noncomputable def xn {R:Type} (bc:ff R) (ah:bD R) (ad:aW R) (ag:bE R) (da:kC R) (bm:iH R) (x1:Json) (k0:(List Int)→Option R):Option R :=
  let j32:=fun (z12:aj)=>cU (decide ((0:Int)<z12.length)) (ah ((z12.getD 0 0).toNat:Int) (fun DB=>bm (List.length z12+List.length x1.items+Int.natAbs (x1.items.length:Int)+Int.natAbs 0+List.length DB+Json.fu (⟨x1.kind,⟨x1.num.aB,x1.num.exp⟩,x1.text,x1.names,x1.items⟩:Json)+64) z12 x1.items (x1.items.length:Int) 0 DB (⟨x1.kind,⟨x1.num.aB,x1.num.exp⟩,x1.text,x1.names,x1.items⟩:Json) (fun Oi NR=>cU (decide ((1:Int)<Oi.length)) (ad ((Oi.getD 1 0).toNat:Int) NR (fun Qm=>k0 Qm))))); bif (x1.kind==1)then (ag ([110,117,108,108]:aj) (fun y2 y3=>k0 y3))else (bif (x1.kind==2)then (ag ([102,97,108,115,101]:aj) (fun y4 y5=>k0 y5))else (bif (x1.kind==3)then (ag ([116,114,117,101]:aj) (fun y6 y7=>k0 y7))else (bif (x1.kind==4)then (bc x1.num (fun y8=>ag y8 (fun y9 yA=>k0 yA)))else (bif (x1.kind==5)then (da x1.text (fun wE=>k0 wE))else (bif (x1.kind==7)then (j32 ([123,125]:aj))else (j32 ([91,93]:aj)))))))
noncomputable def fg {R:Type}:ov R:=fun x1 k0=>xn bc ah ad ag da bm x1 k0
theorem HM {R:Type} (bc:ff R) (ah:bD R) (ad:aW R) (ag:bE R) (bF:bK R) (da:kC R) (aG:dD R) (bm:iH R) (x1:Json) (k:V→az→Option R):iQ tt (lu R bc ah ad ag bF da aG) (pg R bm) false Tryz.f38 (aK Tryz.f38) [.ptr 0 0, .agg [.int .i64 x1.kind, .int .i64 x1.num.aB, .int .i64 x1.num.exp, .str x1.text, .sl .str x1.names .no, .sl .json x1.items .no]] [.kR (.cG)] k =
    xn bc ah ad ag da bm x1 (fun q0=>k (.tuple []) [.kR (.sl (.int .u8) q0 (.own 1)), .tok]):=by kernel_rfl
theorem E9 (R:Type):∀a∈aP (aK Tryz.f38),cO tt (lu R bc ah ad ag bF da aG) (pg R bm) 1 a:=by
  refine bH 1 (by kernel_rfl) fun i hi => ?_
  match i,hi with
  | 0,_=>exact fG (by kernel_rfl) (DG _ jc)
  | n+1,hi=>omega
theorem F1 (R:Type) (other:ay.Spec R) (ho:ay.Spec.Ok Tryz.prog 38 other):ay.Spec.Ok Tryz.prog 38 (aA sE sF (B0 fg) other) :=
  bw ho (bk TT mixed (GI R) (keep:=false) rfl rfl rfl rfl 1 (E9 R)) fun (x:bO.av sE) (y:aH.av sF) k=>HM bc ah ad ag bF da aG bm (⟨x.2.1.1,⟨x.2.1.2.1,x.2.1.2.2.1⟩,x.2.1.2.2.2.1,x.2.1.2.2.2.2.1,x.2.1.2.2.2.2.2.1⟩:Json) k

/-! ### humpyard/json.Print -/
abbrev mB (R:Type):Type:=Json→(aj→Option R)→Option R
abbrev xo:List bO := [.agg [.int .i64, .int .i64, .int .i64, .str, .sl .str, .sl .json]]
abbrev xp:List aH := []
noncomputable def C4 {R:Type} (fn:mB R):bO.av xo→aH.av xp→(V→az→Option R)→Option R:=fun x y k=>fn (⟨x.1.1,⟨x.1.2.1,x.1.2.2.1⟩,x.1.2.2.2.1,x.1.2.2.2.2.1,x.1.2.2.2.2.2.1⟩:Json) (fun q0=>k (.str q0) [])
noncomputable def Bg (R:Type) (eB:n0 R) (fg:ov R):Env R:=fun i=>match i with
  | 39=>some (false,(Ee R))
  | 32=>some (true,(aA xd xe (C3 eB) bg))
  | 38=>some (false,(aA sE sF (B0 fg) bg))
  | _=>none
theorem M1 (R:Type):p8 Tryz.prog (Bg R eB fg):=by
  intro i b sp h
  unfold Bg at h
  split at h
  · cases h; exact ⟨(Ly),fun _ _=>Gq⟩
  · cases h; exact ⟨(EO R _ (aO _)),fun h=>nomatch h⟩
  · cases h; exact ⟨(F1 R _ (aO _)),fun _ h=>nomatch h⟩
  · cases h

noncomputable def IX (R:Type):Nat→Option (Hint × cq R):=fun i=>match i with
  | _=>none

noncomputable def Bh {R:Type} (eB:n0 R) (fg:ov R) (x1:Json) (k0:aj→Option R):Option R :=
  eB (⟨x1.kind,⟨x1.num.aB,x1.num.exp⟩,x1.text,x1.names,x1.items⟩:Json) (fun y2=>bif (!y2)then (k0 ([]:aj))else (fg (⟨x1.kind,⟨x1.num.aB,x1.num.exp⟩,x1.text,x1.names,x1.items⟩:Json) (fun y3=>k0 (s7 y3))))
noncomputable def dA {R:Type}:mB R:=fun x1 k0=>Bh eB fg x1 k0
theorem Oj {R:Type} (eB:n0 R) (fg:ov R) (x1:Json) (k:V→az→Option R):iQ tt (Bg R eB fg) (IX R) false Tryz.f17 (aK Tryz.f17) [.agg [.int .i64 x1.kind, .int .i64 x1.num.aB, .int .i64 x1.num.exp, .str x1.text, .sl .str x1.names .no, .sl .json x1.items .no]] [] k =
    Bh eB fg x1 (fun q0=>k (.str q0) []):=by kernel_rfl
theorem J3 (R:Type):∀a∈aP (aK Tryz.f17),cO tt (Bg R eB fg) (IX R) 0 a:=by
  refine bH 0 (by kernel_rfl) fun i hi => ?_
  omega
theorem ER (R:Type) (other:ay.Spec R) (ho:ay.Spec.Ok Tryz.prog 17 other):ay.Spec.Ok Tryz.prog 17 (aA xo xp (C4 dA) other) :=
  bw ho (bk TT mixed (M1 R) (keep:=false) rfl rfl rfl rfl 0 (J3 R)) fun (x:bO.av xo) (y:aH.av xp) k=>Oj eB fg (⟨x.1.1,⟨x.1.2.1,x.1.2.2.1⟩,x.1.2.2.2.1,x.1.2.2.2.2.1,x.1.2.2.2.2.2.1⟩:Json) k

/-! ### humpyard/lexer.while -/
abbrev jW (R:Type):Type:=aj→aj→(aj→Option R)→Option R
abbrev uX:List bO := [.leaf (.str), .leaf (.str)]
abbrev uY:List aH := []
noncomputable def B1 {R:Type} (fn:jW R):bO.av uX→aH.av uY→(V→az→Option R)→Option R:=fun x y k=>fn x.1 x.2.1 (fun q0=>k (.str q0) [])
noncomputable def zq (R:Type):Env R:=fun i=>match i with
  | 68=>some (true,(IC R))
  | _=>none
theorem K4 (R:Type):p8 Tryz.prog (zq R):=by
  intro i b sp h
  unfold zq at h
  split at h
  · cases h; exact ⟨(MK),fun h=>nomatch h⟩
  · cases h

noncomputable def Hb (R:Type):Nat→Option (Hint × cq R):=fun i=>match i with
  | _=>none

noncomputable def zt {R:Type} (x1:aj) (x2:aj) (k0:aj→Option R):Option R :=
  cU (ua x2&&decide (x2.length<4294967281)) (cU (decide ((0:Int)≤(IntKind.i64.wrap ((x1.length:Int) - ((bG x1 x2).length:Int))))&&decide ((IntKind.i64.wrap ((x1.length:Int) - ((bG x1 x2).length:Int)))≤x1.length)) (cU (decide ((0:Int)≤(IntKind.i64.wrap ((x1.length:Int) - ((bG x1 x2).length:Int))))) (k0 ((x1.drop 0).take ((IntKind.i64.wrap ((x1.length:Int) - ((bG x1 x2).length:Int))).toNat - 0)))))
noncomputable def bY {R:Type}:jW R:=fun x1 x2 k0=>zt x1 x2 k0
theorem M3 {R:Type} (x1:aj) (x2:aj) (k:V→az→Option R):iQ tt (zq R) (Hb R) false Tryz.f47 (aK Tryz.f47) [.str x1, .str x2] [] k =
    zt x1 x2 (fun q0=>k (.str q0) []):=by kernel_rfl
theorem IY (R:Type):∀a∈aP (aK Tryz.f47),cO tt (zq R) (Hb R) 0 a:=by
  refine bH 0 (by kernel_rfl) fun i hi => ?_
  omega
theorem DH (R:Type) (other:ay.Spec R) (ho:ay.Spec.Ok Tryz.prog 47 other):ay.Spec.Ok Tryz.prog 47 (aA uX uY (B1 bY) other) :=
  bw ho (bk TT mixed (K4 R) (keep:=false) rfl rfl rfl rfl 0 (IY R)) fun (x:bO.av uX) (y:aH.av uY) k=>M3 x.1 x.2.1 k

/-! ### (*humpyard/decimal.reader).sign -/
abbrev dW (R:Type):Type:=aj→aj→(Int→aj→Option R)→Option R
abbrev iU:List bO := [.leaf (.ptr 0 0), .leaf (.str)]
abbrev iV:List aH := [.cells [.str]]
noncomputable def nT {R:Type} (fn:dW R):bO.av iU→aH.av iV→(V→az→Option R)→Option R:=fun x y k=>fn x.2.1 y.1.1 (fun q0 q1=>k (.int .u8 q0) [.cells [.str q1]])
noncomputable def lv (R:Type):Env R:=fun i=>match i with
  | 71=>some (true,(US R))
  | _=>none
theorem Al (R:Type):p8 Tryz.prog (lv R):=by
  intro i b sp h
  unfold lv at h
  split at h
  · cases h; exact ⟨(Zq),fun h=>nomatch h⟩
  · cases h

noncomputable def tj (R:Type):Nat→Option (Hint × cq R):=fun i=>match i with
  | _=>none

noncomputable def lx {R:Type} (x1:aj) (x2:aj) (k0:Int→aj→Option R):Option R :=
  bif (x2==([]:aj))then (k0 0 x2)else (cU (decide ((0:Int)<x2.length)) (bif (decide ((zg x1 ((x2.getD 0 0).toNat:Int))<(0:Int)))then (k0 0 x2)else (cU (decide ((0:Int)<x2.length)) (cU (decide ((0:Int)≤(x2.length:Int))&&decide ((x2.length:Int)≤x2.length)) (cU (decide ((1:Int)≤(x2.length:Int))) (k0 ((x2.getD 0 0).toNat:Int) ((x2.drop 1).take ((x2.length:Int).toNat - 1))))))))
noncomputable def aR {R:Type}:dW R:=fun x1 x2 k0=>lx x1 x2 k0
theorem Bi {R:Type} (x1:aj) (x2:aj) (k:V→az→Option R):iQ tt (lv R) (tj R) false Tryz.f101 (aK Tryz.f101) [.ptr 0 0, .str x1] [.cells [.str x2]] k =
    lx x1 x2 (fun q0 q1=>k (.int .u8 q0) [.cells [.str q1]]):=by kernel_rfl
theorem yG (R:Type):∀a∈aP (aK Tryz.f101),cO tt (lv R) (tj R) 1 a:=by
  refine bH 0 (by kernel_rfl) fun i hi => ?_
  omega
theorem qW (R:Type) (other:ay.Spec R) (ho:ay.Spec.Ok Tryz.prog 101 other):ay.Spec.Ok Tryz.prog 101 (aA iU iV (nT aR) other) :=
  bw ho (bk TT mixed (Al R) (keep:=false) rfl rfl rfl rfl 1 (yG R)) fun (x:bO.av iU) (y:aH.av iV) k=>Bi x.2.1 y.1.1 k

/-! ### (*humpyard/decimal.reader).digits -/
abbrev dL (R:Type):Type:=aj→(aj→aj→Option R)→Option R
abbrev gS:List bO := [.leaf (.ptr 0 0)]
abbrev gT:List aH := [.cells [.str]]
noncomputable def na {R:Type} (fn:dL R):bO.av gS→aH.av gT→(V→az→Option R)→Option R:=fun x y k=>fn y.1.1 (fun q0 q1=>k (.str q0) [.cells [.str q1]])
noncomputable def ka (R:Type):Env R:=fun i=>match i with
  | 68=>some (true,(IC R))
  | _=>none
theorem yH (R:Type):p8 Tryz.prog (ka R):=by
  intro i b sp h
  unfold ka at h
  split at h
  · cases h; exact ⟨(MK),fun h=>nomatch h⟩
  · cases h

noncomputable def r6 (R:Type):Nat→Option (Hint × cq R):=fun i=>match i with
  | _=>none

noncomputable def kb {R:Type} (x1:aj) (k0:aj→aj→Option R):Option R :=
  cU (ua ([48,49,50,51,52,53,54,55,56,57]:aj)&&decide (([48,49,50,51,52,53,54,55,56,57]:aj).length<4294967281)) (cU (decide ((0:Int)≤(IntKind.i64.wrap ((x1.length:Int) - ((bG x1 ([48,49,50,51,52,53,54,55,56,57]:aj)).length:Int))))&&decide ((IntKind.i64.wrap ((x1.length:Int) - ((bG x1 ([48,49,50,51,52,53,54,55,56,57]:aj)).length:Int)))≤x1.length)) (cU (decide ((0:Int)≤(IntKind.i64.wrap ((x1.length:Int) - ((bG x1 ([48,49,50,51,52,53,54,55,56,57]:aj)).length:Int))))) (k0 ((x1.drop 0).take ((IntKind.i64.wrap ((x1.length:Int) - ((bG x1 ([48,49,50,51,52,53,54,55,56,57]:aj)).length:Int))).toNat - 0)) (bG x1 ([48,49,50,51,52,53,54,55,56,57]:aj)))))
noncomputable def aN {R:Type}:dL R:=fun x1 k0=>kb x1 k0
theorem zM {R:Type} (x1:aj) (k:V→az→Option R):iQ tt (ka R) (r6 R) false Tryz.f102 (aK Tryz.f102) [.ptr 0 0] [.cells [.str x1]] k =
    kb x1 (fun q0 q1=>k (.str q0) [.cells [.str q1]]):=by kernel_rfl
theorem xq (R:Type):∀a∈aP (aK Tryz.f102),cO tt (ka R) (r6 R) 1 a:=by
  refine bH 0 (by kernel_rfl) fun i hi => ?_
  omega
theorem pV (R:Type) (other:ay.Spec R) (ho:ay.Spec.Ok Tryz.prog 102 other):ay.Spec.Ok Tryz.prog 102 (aA gS gT (na aN) other) :=
  bw ho (bk TT mixed (yH R) (keep:=false) rfl rfl rfl rfl 1 (xq R)) fun (x:bO.av gS) (y:aH.av gT) k=>zM y.1.1 k

end Go.Proofs.YtmlkkgfenfdndaaGreatDoor

/-
  Functions of the program as pure Lean functions, and the ties; printed by wip/tools/emit.py.
-/
set_option maxRecDepth 100000
namespace Go.Proofs.YtmlkkgfenfdndaaGreatDoor
open Go Go.ay

/-! ### (*humpyard/decimal.reader).exponent -/
abbrev gf (R:Type):Type:=aj→(Int→Bool→aj→Option R)→Option R
abbrev jq:List bO := [.leaf (.ptr 0 0)]
abbrev jr:List aH := [.cells [.str]]
noncomputable def pW {R:Type} (fn:gf R):bO.av jq→aH.av jr→(V→az→Option R)→Option R:=fun x y k=>fn y.1.1 (fun q0 q1 q2=>k (.tuple [.int .i64 q0, .bool q1]) [.cells [.str q2]])
noncomputable def js (R:Type) (aR:dW R) (aN:dL R):Env R:=fun i=>match i with
  | 101=>some (false,(aA iU iV (nT aR) bg))
  | 102=>some (false,(aA gS gT (na aN) bg))
  | 105=>some (true,(Qh R))
  | _=>none
theorem xr (R:Type):p8 Tryz.prog (js R aR aN):=by
  intro i b sp h
  unfold js at h
  split at h
  · cases h; exact ⟨(qW R _ (aO _)),fun _ h=>nomatch h⟩
  · cases h; exact ⟨(pV R _ (aO _)),fun _ h=>nomatch h⟩
  · cases h; exact ⟨(UT),fun h=>nomatch h⟩
  · cases h

noncomputable def qD (R:Type):Nat→Option (Hint × cq R):=fun i=>match i with
  | _=>none

noncomputable def jt {R:Type} (aR:dW R) (aN:dL R) (x1:aj) (k0:Int→Bool→aj→Option R):Option R :=
  aR ([43,45]:aj) x1 (fun y2 y3=>aN y3 (fun y4 y5=>cU (decide (y4.length≤281474976710656)) (bif s8 y4 then (bif (decide ((eD y4)>(1000000:Int)))then (bif (y2==45)then (k0 (-1000000) (!(y4==([]:aj))) y5)else (k0 1000000 (!(y4==([]:aj))) y5))else (bif (y2==45)then (k0 (IntKind.i64.wrap (0 - (eD y4))) (!(y4==([]:aj))) y5)else (k0 (eD y4) (!(y4==([]:aj))) y5)))else (bif (!(y4==([]:aj)))then (bif (y2==45)then (k0 (-1000000) (!(y4==([]:aj))) y5)else (k0 1000000 (!(y4==([]:aj))) y5))else (bif (decide ((eD y4)>(1000000:Int)))then (bif (y2==45)then (k0 (-1000000) (!(y4==([]:aj))) y5)else (k0 1000000 (!(y4==([]:aj))) y5))else (bif (y2==45)then (k0 (IntKind.i64.wrap (0 - (eD y4))) (!(y4==([]:aj))) y5)else (k0 (eD y4) (!(y4==([]:aj))) y5)))))))
noncomputable def bn {R:Type}:gf R:=fun x1 k0=>jt aR aN x1 k0
theorem xY {R:Type} (aR:dW R) (aN:dL R) (x1:aj) (k:V→az→Option R):iQ tt (js R aR aN) (qD R) false Tryz.f103 (aK Tryz.f103) [.ptr 0 0] [.cells [.str x1]] k =
    jt aR aN x1 (fun q0 q1 q2=>k (.tuple [.int .i64 q0, .bool q1]) [.cells [.str q2]]):=by kernel_rfl
theorem vQ (R:Type):∀a∈aP (aK Tryz.f103),cO tt (js R aR aN) (qD R) 1 a:=by
  refine bH 0 (by kernel_rfl) fun i hi => ?_
  omega
theorem wK (R:Type) (other:ay.Spec R) (ho:ay.Spec.Ok Tryz.prog 103 other):ay.Spec.Ok Tryz.prog 103 (aA jq jr (pW bn) other) :=
  bw ho (bk TT mixed (xr R) (keep:=false) rfl rfl rfl rfl 1 (vQ R)) fun (x:bO.av jq) (y:aH.av jr) k=>xY aR aN y.1.1 k

/-! ### humpyard/decimal.Make -/
abbrev r7 (R:Type):Type:=Int→Int→(iZ→Bool→Option R)→Option R
abbrev xu:List bO := [.leaf (.int .i64), .leaf (.int .i64)]
abbrev xw:List aH := []
noncomputable def ES {R:Type} (fn:r7 R):bO.av xu→aH.av xw→(V→az→Option R)→Option R:=fun x y k=>fn x.1 x.2.1 (fun q0 q1=>k (.tuple [.agg [.int .i64 q0.aB, .int .i64 q0.exp], .bool q1]) [])
abbrev lM (R:Type):Type:=Nat→Int→Int→iZ→(Int→Int→iZ→Option R)→Option R
noncomputable def ow (R:Type) (aY:fo R):Env R:=fun i=>match i with
  | 91=>some (true,(aA mX mY (so aY) bg))
  | _=>none
theorem J4 (R:Type):p8 Tryz.prog (ow R aY):=by
  intro i b sp h
  unfold ow at h
  split at h
  · cases h; exact ⟨(wm R _ (aO _)),fun h=>nomatch h⟩
  · cases h

noncomputable def mn {R:Type} (fH:Int→Int→iZ→Option R) (x3:Int) (x4:Int) (x5:iZ) (e0:Int→Int→iZ→Option R):Option R :=
  bif ((Int.tmod x3 10)==0)then (fH (IntKind.i64.wrap (Int.tdiv x3 10)) (IntKind.i64.wrap (x4+1)) x5)else (e0 x3 x4 x5)
noncomputable def bA {R:Type}:lM R
  | 0,_,_,_,_=>none
  | n+1,lP,lQ,my,e0=>mn (fun lP lQ my=>bA n lP lQ my e0) lP lQ my e0
noncomputable def rH:Hint := { live := [0,1,4],own := [],rows := [],cells := [],drop := [],out := [0,1,4,5] }
abbrev iW:Type:=Int × Int × iZ
noncomputable def ph:iW→St:=fun d=>⟨[.int .i64 d.1, .int .i64 d.2.1, .undef, .undef, .ptr 0 0, .undef, .undef, .undef, .undef, .undef, .undef, .undef, .undef, .undef, .undef, .undef, .undef, .undef, .undef, .undef, .undef, .undef, .undef, .undef, .undef, .undef, .undef, .undef, .undef, .undef], [.cells [.int .i64 d.2.2.aB, .int .i64 d.2.2.exp]]⟩
noncomputable def uA {R:Type} (K:Ex→St→Option R) (q0:Int) (q1:Int) (q2:iZ):Option R:=K (.exit 0) ⟨[.int .i64 q0, .int .i64 q1, .undef, .undef, .ptr 0 0, .undef, .undef, .undef, .undef, .undef, .undef, .undef, .undef, .undef, .undef, .undef, .undef, .undef, .undef, .undef, .undef, .undef, .undef, .undef, .undef, .undef, .undef, .undef, .undef, .undef], [.cells [.int .i64 q2.aB, .int .i64 q2.exp]]⟩
noncomputable def vR {R:Type} (K:Ex→St→Option R) (rc:iW→Option R) (d:iW):Option R:=mn (fun z0 z1 z2=>rc (z0,z1,z2)) d.1 d.2.1 d.2.2 (uA K)
noncomputable def mo {R:Type} (K:Ex→St→Option R) (n:Nat) (d:iW):Option R:=bA n d.1 d.2.1 d.2.2 (uA K)
abbrev iX:List bO := [.leaf (.int .i64), .leaf (.int .i64), .leaf (.undef), .leaf (.undef), .leaf (.ptr 0 0), .leaf (.undef), .leaf (.undef), .leaf (.undef), .leaf (.undef), .leaf (.undef), .leaf (.undef), .leaf (.undef), .leaf (.undef), .leaf (.undef), .leaf (.undef), .leaf (.undef), .leaf (.undef), .leaf (.undef), .leaf (.undef), .leaf (.undef), .leaf (.undef), .leaf (.undef), .leaf (.undef), .leaf (.undef), .leaf (.undef), .leaf (.undef), .leaf (.undef), .leaf (.undef), .leaf (.undef), .leaf (.undef)]
abbrev iY:List aH := [.cells [.int .i64, .int .i64]]
noncomputable def vS (x:bO.av iX) (y:aH.av iY):Nat:=(Int.natAbs x.1+Int.natAbs x.2.1+iZ.fu (⟨y.1.1,y.1.2.1⟩:iZ)+64)
noncomputable def vT (x:bO.av iX) (y:aH.av iY):iW:=(x.1,x.2.1,(⟨y.1.1,y.1.2.1⟩:iZ))
noncomputable def uB {R:Type} (L:lM R):bO.av iX→aH.av iY→(Ex→St→Option R)→Option R:=fun x y K=>L (vS x y) x.1 x.2.1 (⟨y.1.1,y.1.2.1⟩:iZ) (uA K)
noncomputable def tm (R:Type) (bA:lM R):Nat→Option (Hint × cq R):=fun i=>match i with
  | 4=>some (rH,(gq iX iY (uB bA) qx))
  | _=>none

theorem Fa {R:Type} (aY:fo R) (bA:lM R) (K:Ex→St→Option R) (rc:St→Option R) (d:iW):roundOf tt (ow R aY) (tm R bA) 0 ((aP (aK Tryz.f106)).getD 0 .skip) rH (ph d) rc K=vR K (fun d=>rc (ph d)) d:=by kernel_rfl
theorem DI {R:Type} (K:Ex→St→Option R) (n:Nat) (d:iW):mo K (n+1) d=vR K (mo K n) d:=by kernel_rfl
theorem DJ {R:Type} (K:Ex→St→Option R) (d:iW):mo K 0 d=none:=by kernel_rfl
theorem Fb (x:bO.av iX) (y:aH.av iY):(⟨bO.cQ iX x,aH.cQ iY y⟩:St)=ph (vT x y):=by kernel_rfl
theorem Fc {R:Type} (x:bO.av iX) (y:aH.av iY) (K:Ex→St→Option R):uB (bA) x y K=mo K (vS x y) (vT x y):=by kernel_rfl
theorem GJ {R:Type} (other:cq R) (ho:o0 tt (ow R aY) (tm R bA) 0 ((aP (aK Tryz.f106)).getD 0 .skip) rH other):o0 tt (ow R aY) (tm R bA) 0 ((aP (aK Tryz.f106)).getD 0 .skip) rH (gq iX iY (uB (bA)) other) :=
  gL (A:=mo) ho (kr ph (vR) (mo) (DJ) (Fa aY bA) (DI)) vS vT Fb (Fc)

noncomputable def ox {R:Type} (aY:fo R) (bA:lM R) (x1:Int) (x2:Int) (k0:iZ→Bool→Option R):Option R :=
  bif (x1==0)then (k0 (⟨0,0⟩:iZ) true)else (bA (Int.natAbs x1+Int.natAbs (min x2 1000000)+iZ.fu (⟨0,0⟩:iZ)+64) x1 (min x2 1000000) (⟨0,0⟩:iZ) (fun y6 y7 y8=>aY (-1000000000000000) y6 1000000000000000 (fun y9=>bif (!y9)then (k0 (⟨0,0⟩:iZ) false)else (aY (-9) y7 9 (fun yA=>bif (!yA)then (k0 (⟨0,0⟩:iZ) false)else (k0 (⟨y6,y7⟩:iZ) true))))))
noncomputable def bN {R:Type}:r7 R:=fun x1 x2 k0=>ox aY bA x1 x2 k0
theorem K5 {R:Type} (aY:fo R) (bA:lM R) (x1:Int) (x2:Int) (k:V→az→Option R):iQ tt (ow R aY) (tm R bA) false Tryz.f106 (aK Tryz.f106) [.int .i64 x1, .int .i64 x2] [] k =
    ox aY bA x1 x2 (fun q0 q1=>k (.tuple [.agg [.int .i64 q0.aB, .int .i64 q0.exp], .bool q1]) []):=by kernel_rfl
theorem HN (R:Type):∀a∈aP (aK Tryz.f106),cO tt (ow R aY) (tm R bA) 0 a:=by
  refine bH 1 (by kernel_rfl) fun i hi => ?_
  match i,hi with
  | 0,_=>exact fG (by kernel_rfl) (GJ _ jc)
  | n+1,hi=>omega
theorem IZ (R:Type) (other:ay.Spec R) (ho:ay.Spec.Ok Tryz.prog 106 other):ay.Spec.Ok Tryz.prog 106 (aA xu xw (ES bN) other) :=
  bw ho (bk TT mixed (J4 R) (keep:=false) rfl rfl rfl rfl 0 (HN R)) fun (x:bO.av xu) (y:aH.av xw) k=>K5 aY bA x.1 x.2.1 k

/-! ### humpyard/decimal.Parse -/
abbrev qE (R:Type):Type:=aj→(iZ→Bool→Option R)→Option R
abbrev vv:List bO := [.leaf (.str)]
abbrev vw:List aH := []
noncomputable def DK {R:Type} (fn:qE R):bO.av vv→aH.av vw→(V→az→Option R)→Option R:=fun x y k=>fn x.1 (fun q0 q1=>k (.tuple [.agg [.int .i64 q0.aB, .int .i64 q0.exp], .bool q1]) [])
noncomputable def vy (R:Type) (bN:r7 R) (aR:dW R) (aN:dL R) (bn:gf R):Env R:=fun i=>match i with
  | 106=>some (true,(aA xu xw (ES bN) bg))
  | 101=>some (false,(aA iU iV (nT aR) bg))
  | 102=>some (false,(aA gS gT (na aN) bg))
  | 103=>some (false,(aA jq jr (pW bn) bg))
  | 68=>some (true,(IC R))
  | 104=>some (true,(Qg R))
  | 105=>some (true,(Qh R))
  | _=>none
theorem I0 (R:Type):p8 Tryz.prog (vy R bN aR aN bn):=by
  intro i b sp h
  unfold vy at h
  split at h
  · cases h; exact ⟨(IZ R _ (aO _)),fun h=>nomatch h⟩
  · cases h; exact ⟨(qW R _ (aO _)),fun _ h=>nomatch h⟩
  · cases h; exact ⟨(pV R _ (aO _)),fun _ h=>nomatch h⟩
  · cases h; exact ⟨(wK R _ (aO _)),fun _ h=>nomatch h⟩
  · cases h; exact ⟨(MK),fun h=>nomatch h⟩
  · cases h; exact ⟨(Zp),fun h=>nomatch h⟩
  · cases h; exact ⟨(UT),fun h=>nomatch h⟩
  · cases h

noncomputable def ET (R:Type):Nat→Option (Hint × cq R):=fun i=>match i with
  | _=>none

noncomputable def oX {R:Type} (bN:r7 R) (aR:dW R) (aN:dL R) (bn:gf R) (x1:aj) (k0:iZ→Bool→Option R):Option R :=
  aR ([45]:aj) x1 (fun y2 y3=>aN y3 (fun y4 y5=>let j32:=let j31:=fun (vU:aj) (z12:Int) (RS:aj)=>let j30:=fun (QI:Int) (z20:aj)=>cU (ua ([48]:aj)&&decide (([48]:aj).length<4294967281)) (cU (ua ([48]:aj)&&decide (([48]:aj).length<4294967281)) (bif (!(z20==([]:aj)))then (k0 (⟨0,0⟩:iZ) false)else (bif (decide (((cV (bG vU ([48]:aj)) ([48]:aj)).length:Int)>(18:Int)))then (k0 (⟨0,0⟩:iZ) false)else (let j29:=bif (y2 != 0)then (bN (IntKind.i64.wrap (0 - (eD (([48]:aj)++(cV (bG vU ([48]:aj)) ([48]:aj)))))) (IntKind.i64.wrap (QI+(IntKind.i64.wrap (((bG vU ([48]:aj)).length:Int) - ((cV (bG vU ([48]:aj)) ([48]:aj)).length:Int))))) (fun Jo J2=>k0 Jo J2))else (bN (eD (([48]:aj)++(cV (bG vU ([48]:aj)) ([48]:aj)))) (IntKind.i64.wrap (QI+(IntKind.i64.wrap (((bG vU ([48]:aj)).length:Int) - ((cV (bG vU ([48]:aj)) ([48]:aj)).length:Int))))) (fun Jp Jq=>k0 Jp Jq)); cU (decide (1+(cV (bG vU ([48]:aj)) ([48]:aj)).length≤9223372036854775807)) (cU (decide ((([48]:aj)++(cV (bG vU ([48]:aj)) ([48]:aj))).length≤281474976710656)) (bif s8 (([48]:aj)++(cV (bG vU ([48]:aj)) ([48]:aj)))then (j29)else (j29))))))); aR ([101,69]:aj) RS (fun Dg GG=>bif (Dg != 0)then (bn GG (fun Ha Jn E2=>bif (!Jn)then (k0 (⟨0,0⟩:iZ) false)else (j30 (IntKind.i64.wrap (z12+Ha)) E2)))else (j30 z12 GG)); aR ([46]:aj) y5 (fun y7 y8=>bif (y7 != 0)then (aN y8 (fun y9 yA=>bif (y9==([]:aj))then (k0 (⟨0,0⟩:iZ) false)else (cU (decide (y4.length+y9.length≤9223372036854775807)) (j31 (y4++y9) (IntKind.i64.wrap (0 - (y9.length:Int))) yA))))else (j31 y4 0 y8)); bif (decide ((x1.length:Int)>(400:Int)))then (k0 (⟨0,0⟩:iZ) false)else (bif (y4==([]:aj))then (k0 (⟨0,0⟩:iZ) false)else (bif (decide ((y4.length:Int)>(1:Int)))then (cU (decide ((0:Int)<y4.length)) (bif (((y4.getD 0 0).toNat:Int)==48)then (k0 (⟨0,0⟩:iZ) false)else (j32)))else (j32)))))
noncomputable def dC {R:Type}:qE R:=fun x1 k0=>oX bN aR aN bn x1 k0
theorem J5 {R:Type} (bN:r7 R) (aR:dW R) (aN:dL R) (bn:gf R) (x1:aj) (k:V→az→Option R):iQ tt (vy R bN aR aN bn) (ET R) false Tryz.f69 (aK Tryz.f69) [.str x1] [] k =
    oX bN aR aN bn x1 (fun q0 q1=>k (.tuple [.agg [.int .i64 q0.aB, .int .i64 q0.exp], .bool q1]) []):=by kernel_rfl
theorem GK (R:Type):∀a∈aP (aK Tryz.f69),cO tt (vy R bN aR aN bn) (ET R) 0 a:=by
  refine bH 0 (by kernel_rfl) fun i hi => ?_
  omega
theorem HO (R:Type) (other:ay.Spec R) (ho:ay.Spec.Ok Tryz.prog 69 other):ay.Spec.Ok Tryz.prog 69 (aA vv vw (DK dC) other) :=
  bw ho (bk TT mixed (I0 R) (keep:=false) rfl rfl rfl rfl 0 (GK R)) fun (x:bO.av vv) (y:aH.av vw) k=>J5 bN aR aN bn x.1 k

/-! ### internal/stringslite.HasPrefix -/
abbrev fy (R:Type):Type:=aj→aj→(Bool→Option R)→Option R
abbrev iq:List bO := [.leaf (.str), .leaf (.str)]
abbrev ir:List aH := []
noncomputable def oJ {R:Type} (fn:fy R):bO.av iq→aH.av ir→(V→az→Option R)→Option R:=fun x y k=>fn x.1 x.2.1 (fun q0=>k (.bool q0) [])
noncomputable def iu (R:Type):Env R:=fun i=>match i with
  | _=>none
theorem vV (R:Type):p8 Tryz.prog (iu R):=by
  intro i b sp h
  unfold iu at h
  split at h
  · cases h

noncomputable def pj (R:Type):Nat→Option (Hint × cq R):=fun i=>match i with
  | _=>none

noncomputable def iv {R:Type} (x1:aj) (x2:aj) (k0:Bool→Option R):Option R :=
  bif (decide ((x1.length:Int)≥(x2.length:Int)))then (cU (decide ((0:Int)≤(x2.length:Int))&&decide ((x2.length:Int)≤x1.length)) (cU (decide ((0:Int)≤(x2.length:Int))) (k0 (((x1.drop 0).take ((x2.length:Int).toNat - 0))==x2))))else (k0 false)
noncomputable def bI {R:Type}:fy R:=fun x1 x2 k0=>iv x1 x2 k0
theorem wL {R:Type} (x1:aj) (x2:aj) (k:V→az→Option R):iQ tt (iu R) (pj R) false Tryz.f127 (aK Tryz.f127) [.str x1, .str x2] [] k =
    iv x1 x2 (fun q0=>k (.bool q0) []):=by kernel_rfl
theorem uC (R:Type):∀a∈aP (aK Tryz.f127),cO tt (iu R) (pj R) 0 a:=by
  refine bH 0 (by kernel_rfl) fun i hi => ?_
  omega
theorem uZ (R:Type) (other:ay.Spec R) (ho:ay.Spec.Ok Tryz.prog 127 other):ay.Spec.Ok Tryz.prog 127 (aA iq ir (oJ bI) other) :=
  bw ho (bk TT mixed (vV R) (keep:=false) rfl rfl rfl rfl 0 (uC R)) fun (x:bO.av iq) (y:aH.av ir) k=>wL x.1 x.2.1 k

/-! ### internal/stringslite.CutPrefix -/
abbrev fA (R:Type):Type:=aj→aj→(aj→Bool→Option R)→Option R
abbrev iw:List bO := [.leaf (.str), .leaf (.str)]
abbrev iz:List aH := []
noncomputable def oK {R:Type} (fn:fA R):bO.av iw→aH.av iz→(V→az→Option R)→Option R:=fun x y k=>fn x.1 x.2.1 (fun q0 q1=>k (.tuple [.str q0, .bool q1]) [])
noncomputable def iA (R:Type) (bI:fy R):Env R:=fun i=>match i with
  | 127=>some (true,(aA iq ir (oJ bI) bg))
  | _=>none
theorem vW (R:Type):p8 Tryz.prog (iA R bI):=by
  intro i b sp h
  unfold iA at h
  split at h
  · cases h; exact ⟨(uZ R _ (aO _)),fun h=>nomatch h⟩
  · cases h

noncomputable def pk (R:Type):Nat→Option (Hint × cq R):=fun i=>match i with
  | _=>none

noncomputable def iB {R:Type} (bI:fy R) (x1:aj) (x2:aj) (k0:aj→Bool→Option R):Option R :=
  bI x1 x2 (fun y3=>bif (!y3)then (k0 x1 false)else (cU (decide ((0:Int)≤(x1.length:Int))&&decide ((x1.length:Int)≤x1.length)) (cU (decide ((0:Int)≤(x2.length:Int))&&decide ((x2.length:Int)≤(x1.length:Int))) (k0 ((x1.drop (x2.length:Int).toNat).take ((x1.length:Int).toNat - (x2.length:Int).toNat)) true))))
noncomputable def bP {R:Type}:fA R:=fun x1 x2 k0=>iB bI x1 x2 k0
theorem wM {R:Type} (bI:fy R) (x1:aj) (x2:aj) (k:V→az→Option R):iQ tt (iA R bI) (pk R) false Tryz.f156 (aK Tryz.f156) [.str x1, .str x2] [] k =
    iB bI x1 x2 (fun q0 q1=>k (.tuple [.str q0, .bool q1]) []):=by kernel_rfl
theorem uD (R:Type):∀a∈aP (aK Tryz.f156),cO tt (iA R bI) (pk R) 0 a:=by
  refine bH 0 (by kernel_rfl) fun i hi => ?_
  omega
theorem u0 (R:Type) (other:ay.Spec R) (ho:ay.Spec.Ok Tryz.prog 156 other):ay.Spec.Ok Tryz.prog 156 (aA iw iz (oK bP) other) :=
  bw ho (bk TT mixed (vW R) (keep:=false) rfl rfl rfl rfl 0 (uD R)) fun (x:bO.av iw) (y:aH.av iz) k=>wM bI x.1 x.2.1 k

/-! ### strings.CutPrefix -/
abbrev nc (R:Type):Type:=aj→aj→(aj→Bool→Option R)→Option R
abbrev ql:List bO := [.leaf (.str), .leaf (.str)]
abbrev qm:List aH := []
noncomputable def zN {R:Type} (fn:nc R):bO.av ql→aH.av qm→(V→az→Option R)→Option R:=fun x y k=>fn x.1 x.2.1 (fun q0 q1=>k (.tuple [.str q0, .bool q1]) [])
noncomputable def qo (R:Type) (bP:fA R):Env R:=fun i=>match i with
  | 156=>some (true,(aA iw iz (oK bP) bg))
  | _=>none
theorem Fe (R:Type):p8 Tryz.prog (qo R bP):=by
  intro i b sp h
  unfold qo at h
  split at h
  · cases h; exact ⟨(u0 R _ (aO _)),fun h=>nomatch h⟩
  · cases h

noncomputable def AN (R:Type):Nat→Option (Hint × cq R):=fun i=>match i with
  | _=>none

noncomputable def AO {R:Type} (bP:fA R) (x1:aj) (x2:aj) (k0:aj→Bool→Option R):Option R :=
  bP x1 x2 (fun y3 y4=>k0 y3 y4)
noncomputable def dX {R:Type}:nc R:=fun x1 x2 k0=>AO bP x1 x2 k0
theorem F2 {R:Type} (bP:fA R) (x1:aj) (x2:aj) (k:V→az→Option R):iQ tt (qo R bP) (AN R) false Tryz.f137 (aK Tryz.f137) [.str x1, .str x2] [] k =
    AO bP x1 x2 (fun q0 q1=>k (.tuple [.str q0, .bool q1]) []):=by kernel_rfl
theorem DL (R:Type):∀a∈aP (aK Tryz.f137),cO tt (qo R bP) (AN R) 0 a:=by
  refine bH 0 (by kernel_rfl) fun i hi => ?_
  omega
theorem Et (R:Type) (other:ay.Spec R) (ho:ay.Spec.Ok Tryz.prog 137 other):ay.Spec.Ok Tryz.prog 137 (aA ql qm (zN dX) other) :=
  bw ho (bk TT mixed (Fe R) (keep:=false) rfl rfl rfl rfl 0 (DL R)) fun (x:bO.av ql) (y:aH.av qm) k=>F2 bP x.1 x.2.1 k

/-! ### (*humpyard/quote.reader).skip -/
abbrev dh (R:Type):Type:=aj→aj→(Bool→aj→Option R)→Option R
abbrev jX:List bO := [.leaf (.ptr 0 0), .leaf (.str)]
abbrev jY:List aH := [.cells [.str]]
noncomputable def oO {R:Type} (fn:dh R):bO.av jX→aH.av jY→(V→az→Option R)→Option R:=fun x y k=>fn x.2.1 y.1.1 (fun q0 q1=>k (.bool q0) [.cells [.str q1]])
noncomputable def mC (R:Type) (dX:nc R):Env R:=fun i=>match i with
  | 137=>some (true,(aA ql qm (zN dX) bg))
  | _=>none
theorem B2 (R:Type):p8 Tryz.prog (mC R dX):=by
  intro i b sp h
  unfold mC at h
  split at h
  · cases h; exact ⟨(Et R _ (aO _)),fun h=>nomatch h⟩
  · cases h

noncomputable def u4 (R:Type):Nat→Option (Hint × cq R):=fun i=>match i with
  | _=>none

noncomputable def u6 {R:Type} (dX:nc R) (x1:aj) (x2:aj) (k0:Bool→aj→Option R):Option R :=
  dX x2 x1 (fun y3 y4=>k0 y4 y3)
noncomputable def aD {R:Type}:dh R:=fun x1 x2 k0=>u6 dX x1 x2 k0
theorem Cs {R:Type} (dX:nc R) (x1:aj) (x2:aj) (k:V→az→Option R):iQ tt (mC R dX) (u4 R) false Tryz.f107 (aK Tryz.f107) [.ptr 0 0, .str x1] [.cells [.str x2]] k =
    u6 dX x1 x2 (fun q0 q1=>k (.bool q0) [.cells [.str q1]]):=by kernel_rfl
theorem Am (R:Type):∀a∈aP (aK Tryz.f107),cO tt (mC R dX) (u4 R) 1 a:=by
  refine bH 0 (by kernel_rfl) fun i hi => ?_
  omega
theorem sG (R:Type) (other:ay.Spec R) (ho:ay.Spec.Ok Tryz.prog 107 other):ay.Spec.Ok Tryz.prog 107 (aA jX jY (oO aD) other) :=
  bw ho (bk TT mixed (B2 R) (keep:=false) rfl rfl rfl rfl 1 (Am R)) fun (x:bO.av jX) (y:aH.av jY) k=>Cs dX x.2.1 y.1.1 k

/-! ### internal/strconv.lower -/
abbrev cr (R:Type):Type:=Int→(Int→Option R)→Option R
abbrev jZ:List bO := [.leaf (.int .u8)]
abbrev j0:List aH := []
noncomputable def oP {R:Type} (fn:cr R):bO.av jZ→aH.av j0→(V→az→Option R)→Option R:=fun x y k=>fn x.1 (fun q0=>k (.int .u8 q0) [])
noncomputable def mD (R:Type):Env R:=fun i=>match i with
  | _=>none
theorem B3 (R:Type):p8 Tryz.prog (mD R):=by
  intro i b sp h
  unfold mD at h
  split at h
  · cases h

noncomputable def u7 (R:Type):Nat→Option (Hint × cq R):=fun i=>match i with
  | _=>none

noncomputable def va {R:Type} (x1:Int) (k0:Int→Option R):Option R :=
  k0 (IntKind.u8.wrap ((BitVec.ofInt IntKind.u8.bits x1 ||| BitVec.ofInt IntKind.u8.bits 32).toNat:Int))
noncomputable def internal_strconv_lower {R:Type}:cr R:=fun x1 k0=>va x1 k0
theorem Ct {R:Type} (x1:Int) (k:V→az→Option R):iQ tt (mD R) (u7 R) false Tryz.f176 (aK Tryz.f176) [.int .u8 x1] [] k =
    va x1 (fun q0=>k (.int .u8 q0) []):=by kernel_rfl
theorem An (R:Type):∀a∈aP (aK Tryz.f176),cO tt (mD R) (u7 R) 0 a:=by
  refine bH 0 (by kernel_rfl) fun i hi => ?_
  omega
theorem sH (R:Type) (other:ay.Spec R) (ho:ay.Spec.Ok Tryz.prog 176 other):ay.Spec.Ok Tryz.prog 176 (aA jZ j0 (oP internal_strconv_lower) other) :=
  bw ho (bk TT mixed (B3 R) (keep:=false) rfl rfl rfl rfl 0 (An R)) fun (x:bO.av jZ) (y:aH.av j0) k=>Ct x.1 k

end Go.Proofs.YtmlkkgfenfdndaaGreatDoor

set_option maxRecDepth 100000
namespace Go.Proofs.YtmlkkgfenfdndaaGreatDoor
open Go Go.ay

theorem Zt {R:Type} (c n:Int) (hc:Eg c) (h0:0<n) (hn:n≤9223372036854775807):∃r:Int,0≤r∧r<n∧∀k:Int→Option R,gu c n k=k r:=MR c n hc h0 hn

theorem M4:∀(b:Nat) (m:Int),m≠0→m.natAbs<b→∃(j:Nat) (u:Int),m=u*10 ^ j∧Int.tmod u 10≠0
  | 0,m,_,h=>by omega
  | b+1,m,h0,hb=>by
    by_cases h:Int.tmod m 10=0
    · have hd:m=Int.tdiv m 10*10:=by have:=Int.tmod_add_mul_tdiv m 10; omega
      have hn:(Int.tdiv m 10).natAbs<m.natAbs:=by rw[Int.natAbs_tdiv]; show m.natAbs / 10<m.natAbs; omega
      obtain ⟨j,u,e,hu⟩:=M4 b (Int.tdiv m 10) (by omega) (by omega)
      refine ⟨j+1,u,?_,hu⟩
      rw[Int.pow_succ,←Int.mul_assoc,←e]
      exact hd
    · exact ⟨0,m,by simp,h⟩

theorem O4:∀(i j:Nat) (u v:Int),Int.tmod u 10≠0→Int.tmod v 10≠0→u*10 ^ i=v*10 ^ j→i=j∧u=v
  | 0,0,u,v,_,_,h=>⟨rfl,by simpa using h⟩
  | 0,j+1,u,v,hu,_,h=>by
    exfalso
    apply hu
    have:u=(v*10 ^ j)*10:=by rw[Int.pow_succ,←Int.mul_assoc]at h; simpa using h
    rw[this]
    exact Int.mul_tmod_left _ _
  | i+1,0,u,v,_,hv,h=>by
    exfalso
    apply hv
    have:v=(u*10 ^ i)*10:=by rw[Int.pow_succ,←Int.mul_assoc]at h; simpa using h.symm
    rw[this]
    exact Int.mul_tmod_left _ _
  | i+1,j+1,u,v,hu,hv,h=>by
    have h2:u*10 ^ i=v*10 ^ j:=by
      rw[Int.pow_succ,Int.pow_succ,←Int.mul_assoc,←Int.mul_assoc]at h
      omega
    obtain ⟨h3,h4⟩:=O4 i j u v hu hv h2
    exact ⟨by omega,h4⟩

theorem O5 (j:Nat):(1:Int)≤10 ^ j:=by
  induction j with
  | zero=>simp
  | succ j ih=>rw[Int.pow_succ]; omega

theorem Eu (u:Int) (j:Nat):u.natAbs≤(u*10 ^ j).natAbs:=by
  rw[Int.natAbs_mul]
  have h:=O5 j
  have:1≤((10:Int) ^ j).natAbs:=by omega
  exact Nat.le_mul_of_pos_right _ this

theorem TR (u:Int) (hu:u≠0):∀j:Nat,j≤(u*10 ^ j).natAbs:=by
  intro j
  rw[Int.natAbs_mul]
  have h1:1≤u.natAbs:=by omega
  have h2:j≤((10:Int) ^ j).natAbs:=by
    induction j with
    | zero=>simp
    | succ j ih =>
      have:=O5 j
      rw[Int.pow_succ,Int.natAbs_mul]
      show j+1≤((10:Int) ^ j).natAbs*10
      omega
  calc j≤((10:Int) ^ j).natAbs:=h2
    _≤u.natAbs*((10:Int) ^ j).natAbs:=Nat.le_mul_of_pos_left _ h1

theorem RV (u:Int) (hu:u≠0) (j:Nat):2 ^ j≤(u*10 ^ j).natAbs:=by
  rw[Int.natAbs_mul]
  have h2:∀j:Nat,2 ^ j≤((10:Int) ^ j).natAbs:=by
    intro j
    induction j with
    | zero=>simp
    | succ j ih =>
      rw[Int.pow_succ,Int.natAbs_mul,Nat.pow_succ]
      show 2 ^ j*2≤((10:Int) ^ j).natAbs*10
      omega
  exact Nat.le_trans (h2 j) (Nat.le_mul_of_pos_left _ (by omega))

theorem M5 {u:Int} (hu:u≠0) {j:Nat} (hb:Eg (u*10 ^ j)):j<64:=by
  have h:=RV u hu j
  unfold Eg at hb
  rcases Nat.lt_or_ge j 64 with h1|h1
  · exact h1
  · have h2:(2:Nat) ^ 64≤2 ^ j:=Nat.pow_le_pow_right (by omega) h1
    have h3:(2:Nat) ^ 64=18446744073709551616:=rfl
    omega

theorem WE {R:Type} (d:iZ) (e0:Int→Int→iZ→Option R):∀(j n:Nat) (u x:Int),j<n→Int.tmod u 10≠0→Eg (u*10 ^ j) → -9223372036854775808≤x→x+j≤4000000000000000000 →
    bA n (u*10 ^ j) x d e0=e0 u (x+j) d:=by
  intro j
  induction j with
  | zero =>
    intro n u x hn hu hb h1 h2
    obtain ⟨m,rfl⟩:∃m,n=m+1:=⟨n - 1,by omega⟩
    have e:bA (m+1) (u*10 ^ 0) x d e0=mn (fun lP lQ my=>bA m lP lQ my e0) (u*10 ^ 0) x d e0:=rfl
    rw[e]
    unfold mn
    have e1:u*10 ^ 0=u:=by simp
    have e2:(Int.tmod u 10==0)=false:=by rw[beq_eq_false_iff_ne]; exact hu
    rw[e1,e2,cond_false]
    simp
  | succ j ih =>
    intro n u x hn hu hb h1 h2
    obtain ⟨m,rfl⟩:∃m,n=m+1:=⟨n - 1,by omega⟩
    have e:bA (m+1) (u*10 ^ (j+1)) x d e0=mn (fun lP lQ my=>bA m lP lQ my e0) (u*10 ^ (j+1)) x d e0:=rfl
    rw[e]
    unfold mn
    have ep:u*10 ^ (j+1)=u*10 ^ j*10:=by rw[Int.pow_succ,Int.mul_assoc]
    unfold Eg at hb
    rw[ep]at hb ⊢
    have e1:(Int.tmod (u*10 ^ j*10) 10==0)=true:=by rw[Int.mul_tmod_left]; rfl
    have e2:Int.tdiv (u*10 ^ j*10) 10=u*10 ^ j:=Int.mul_tdiv_cancel _ (by omega)
    rw[e1,cond_true,e2,dE (n:=u*10 ^ j) (by omega) (by omega),dE (n:=x+1) (by omega) (by omega)]
    show bA m (u*10 ^ j) (x+1) d e0=_
    rw[ih m u (x+1) (by omega) hu (by unfold Eg; omega) (by omega) (by omega)]
    have:x+1+(j:Int)=x+((j+1:Nat):Int):=by omega
    rw[this]

theorem DM {R:Type} (a b c:Int) (k:Bool→Option R):aY a b c k=k (decide (a≤b)&&decide (b≤c)):=by
  have e:aY a b c k=o4 a b c k:=rfl
  rw[e]
  unfold o4
  by_cases h1:a≤b
  · rw[br h1]; first|rfl|simp
  · rw[cY h1]; first|rfl|simp

def WG (u x:Int):iZ × Bool:=if -1000000000000000≤u∧u≤1000000000000000 ∧ -9≤x∧x≤9 then (⟨u,x⟩,true)else (⟨0,0⟩,false)

theorem UZ {R:Type} (u:Int) (j:Nat) (x:Int) (hu:Int.tmod u 10≠0) (hb:Eg (u*10 ^ j)) (h1 : -9223372036854775808≤x) (h2:x≤1000000) (k:iZ→Bool→Option R) :
    bN (u*10 ^ j) x k=k (WG u (x+j)).1 (WG u (x+j)).2:=by
  have e:bN (u*10 ^ j) x k=ox aY bA (u*10 ^ j) x k:=rfl
  rw[e]
  unfold ox
  have hu0:u≠0:=by rintro rfl; exact hu rfl
  have ha:=Eu u j
  have hn:=TR u hu0 j
  have h64:=M5 hu0 hb
  have h0:(u*10 ^ j==0)=false:=by rw[beq_eq_false_iff_ne]; omega
  have hm:min x 1000000=x:=Int.min_eq_left h2
  unfold Eg at hb
  rw[h0,cond_false,hm,WE _ _ j _ u x (by omega) hu (by unfold Eg; exact hb) h1 (by omega)]
  rw[DM]
  unfold WG
  by_cases c1 : -1000000000000000≤u∧u≤1000000000000000
  · rw[br c1.1,br c1.2]
    simp only[Bool.and_self,Bool.not_true,cond_false]
    rw[DM]
    by_cases c2 : -9≤x+(j:Int)∧x+(j:Int)≤9
    · rw[br c2.1,br c2.2,if_pos ⟨c1.1,c1.2,c2.1,c2.2⟩]
      rfl
    · rw[if_neg (fun h=>c2 h.2.2)]
      have:(decide (-9≤x+(j:Int))&&decide (x+(j:Int)≤9))=false:=by
        rw[Bool.and_eq_false_iff,decide_eq_false_iff_not,decide_eq_false_iff_not]; omega
      rw[this]
      rfl
  · rw[if_neg (fun h=>c1 ⟨h.1,h.2.1⟩)]
    have:(decide (-1000000000000000≤u)&&decide (u≤1000000000000000))=false:=by
      rw[Bool.and_eq_false_iff,decide_eq_false_iff_not,decide_eq_false_iff_not]; omega
    rw[this]
    rfl

theorem O6 {R:Type} (x:Int) (k:iZ→Bool→Option R):bN 0 x k=k ⟨0,0⟩ true:=by
  have e:bN 0 x k=ox aY bA 0 x k:=rfl
  rw[e]
  rfl

theorem Zu {R:Type} {u x:Int} (hu:Int.tmod u 10≠0) (h : -1000000000000000≤u∧u≤1000000000000000 ∧ -9≤x∧x≤9) (k:Bool→Option R):cf ⟨u,x⟩ k=k true:=by
  have e:cf ⟨u,x⟩ k=lU aY ⟨u,x⟩ k:=rfl
  rw[e]
  unfold lU
  have hu0:u≠0:=by rintro rfl; exact hu rfl
  have e1:(u==0)=false:=by rw[beq_eq_false_iff_ne]; exact hu0
  have e2:(Int.tmod u 10 != 0)=true:=bne_iff_ne.2 hu
  simp only[e1,e2,cond_false,cond_true,DM]
  rw[br h.1,br h.2.1,br h.2.2.1,br h.2.2.2]
  rfl

end Go.Proofs.YtmlkkgfenfdndaaGreatDoor

set_option maxRecDepth 100000
namespace Go.Proofs.YtmlkkgfenfdndaaGreatDoor
open Go Go.ay Go.Lib

def Fm (d:iZ):Prop:=(d.aB=0∧d.exp=0)∨(Int.tmod d.aB 10≠0 ∧ -1000000000000000≤d.aB∧d.aB≤1000000000000000 ∧ -9≤d.exp∧d.exp≤9)

theorem Fm.bounds {d:iZ} (h:Fm d) : -1000000000000000≤d.aB∧d.aB≤1000000000000000 ∧ -9≤d.exp∧d.exp≤9:=by
  rcases h with h|h <;> omega
theorem Fm.nz {d:iZ} (h:Fm d) (h0:d.aB≠0):Int.tmod d.aB 10≠0:=by
  rcases h with h|h
  · exact (h0 h.1).elim
  · exact h.1
theorem Fm.zero {d:iZ} (h:Fm d) (h0:d.aB=0):d=⟨0,0⟩:=by
  rcases h with h|h
  · cases d; simp only at h; rw[h.1,h.2]
  · exact (h.1 (by rw[h0]; rfl)).elim
theorem Fm.mk0:Fm ⟨0,0⟩ := .inl ⟨rfl,rfl⟩
theorem tmod_neg {m:Int} (h:Int.tmod m 10≠0):Int.tmod (-m) 10≠0:=by rw[Int.neg_tmod]; omega
theorem Fm.neg {d:iZ} (h:Fm d):Fm ⟨-d.aB,d.exp⟩:=by
  rcases h with h|h
  · exact .inl ⟨by simp only; omega,h.2⟩
  · exact .inr ⟨tmod_neg h.1,by simp only; omega,by simp only; omega,h.2.2.2⟩

theorem Zv {R:Type} {d:iZ} (h:Fm d) (k:Bool→Option R):cf d k=k true:=by
  rcases h with h|h
  · have e:cf d k=lU aY d k:=rfl
    rw[e]
    unfold lU
    rw[h.1,h.2]
    rfl
  · cases d; exact Zu h.1 h.2 k

theorem Zw {R:Type} (x:Int) (d:iZ) (e0:Int→Int→iZ→Option R):∀(j n:Nat) (u:Int),j<n→Int.tmod u 10≠0→Eg (u*10 ^ j) →
    cv n (u*10 ^ j) x d e0=e0 u x d:=by
  intro j
  induction j with
  | zero =>
    intro n u hn hu hb
    obtain ⟨m,rfl⟩:∃m,n=m+1:=⟨n - 1,by omega⟩
    have e:cv (m+1) (u*10 ^ 0) x d e0=oS (fun lP lQ my=>cv m lP lQ my e0) (u*10 ^ 0) x d e0:=rfl
    rw[e]
    unfold oS
    have e1:u*10 ^ 0=u:=by simp
    have e2:(Int.tmod u 10==0)=false:=by rw[beq_eq_false_iff_ne]; exact hu
    have e3:(u != 0)=true:=bne_iff_ne.2 (by rintro rfl; exact hu rfl)
    rw[e1,e3,cond_true,e2,cond_false]
  | succ j ih =>
    intro n u hn hu hb
    obtain ⟨m,rfl⟩:∃m,n=m+1:=⟨n - 1,by omega⟩
    have e:cv (m+1) (u*10 ^ (j+1)) x d e0=oS (fun lP lQ my=>cv m lP lQ my e0) (u*10 ^ (j+1)) x d e0:=rfl
    rw[e]
    unfold oS
    have ep:u*10 ^ (j+1)=u*10 ^ j*10:=by rw[Int.pow_succ,Int.mul_assoc]
    have hu0:u≠0:=by rintro rfl; exact hu rfl
    have hab:=Eu u (j+1)
    have e3:(u*10 ^ (j+1) != 0)=true:=bne_iff_ne.2 (by omega)
    unfold Eg at hb
    rw[e3,cond_true]
    rw[ep]at hb ⊢
    have e1:(Int.tmod (u*10 ^ j*10) 10==0)=true:=by rw[Int.mul_tmod_left]; rfl
    have e2:Int.tdiv (u*10 ^ j*10) 10=u*10 ^ j:=Int.mul_tdiv_cancel _ (by omega)
    rw[e1,cond_true,e2,dE (n:=u*10 ^ j) (by omega) (by omega)]
    exact ih m u (by omega) hu (by unfold Eg; omega)

theorem fit_ok {R:Type} (a b:Int) (ha:Eg a) (hb:Eg b):∃d:iZ,Fm d∧∀k:iZ→Option R,di a b k=k d:=by
  obtain ⟨m,m0,m1,hm⟩:=Zt (R:=R) a 2000000000000001 ha (by omega) (by omega)
  obtain ⟨x,x0,x1,hx⟩:=Zt (R:=R) b 19 hb (by omega) (by omega)
  have e:∀k:iZ→Option R,di a b k=zH gu cv a b k:=fun _=>rfl
  by_cases h0:m - 1000000000000000=0
  · refine ⟨⟨0,0⟩, .mk0,fun k => ?_⟩
    rw[e]
    unfold zH
    rw[hm,hx,dE (n:=m - 1000000000000000) (by omega) (by omega),h0]
    rfl
  · obtain ⟨j,u,hu,hd⟩:=M4 ((m - 1000000000000000).natAbs+1) _ h0 (by omega)
    have hab:=Eu u j
    have hb64:Eg (u*10 ^ j):=by unfold Eg; omega
    have h64:=M5 (by rintro rfl; exact hd rfl) hb64
    refine ⟨⟨u,x - 9⟩, .inr ⟨hd,by simp only; omega,by simp only; omega,by simp only; omega,by simp only; omega⟩,fun k => ?_⟩
    rw[e]
    unfold zH
    rw[hm,hx,dE (n:=m - 1000000000000000) (by omega) (by omega),dE (n:=x - 9) (by omega) (by omega)]
    have key:=fun (F:Nat) (hF:j<F)=>Zw (R:=R) (x - 9) ⟨0,0⟩ (fun y9 yA wE=>bif (y9==0)then (k (⟨y9,0⟩:iZ))else (k (⟨y9,yA⟩:iZ))) j F u hF hd hb64
    rw[←hu]at key
    rw[key _ (by omega)]
    have e0:(u==0)=false:=by rw[beq_eq_false_iff_ne]; rintro rfl; exact hd rfl
    rw[e0]
    rfl


def Made (m x:Int) (r:iZ × Bool):Prop:=(m=0∧r=(⟨0,0⟩,true))∨∃(u:Int) (j:Nat),m=u*10 ^ j∧Int.tmod u 10≠0∧r=WG u (x+j)

theorem Zx {R:Type} (m x:Int) (hm:Eg m) (h1 : -4000000000000000000≤x) (h2:x≤1000000):∃r:iZ × Bool,Made m x r∧∀k:iZ→Bool→Option R,bN m x k=k r.1 r.2:=by
  by_cases h0:m=0
  · subst h0
    exact ⟨_, .inl ⟨rfl,rfl⟩,fun k=>O6 x k⟩
  · obtain ⟨j,u,hu,hd⟩:=M4 (m.natAbs+1) m h0 (by omega)
    exact ⟨_, .inr ⟨u,j,hu,hd,rfl⟩,fun k=>by subst hu; exact UZ u j x hd hm (by omega) h2 k⟩

def val (d:iZ):Int:=d.aB*10 ^ (d.exp+9).toNat

theorem RW (u:Nat) (h:0<u):10 ^ (nDigits u - 1)≤u:=by
  induction u using Nat.strongRecOn with
  | _ u ih =>
    by_cases h1:u<10
    · rw[nDigits_small h1]; exact h
    · rw[nDigits_big h1,Nat.add_sub_cancel]
      have h2:=ih (u / 10) (by omega) (by omega)
      have h3:=nDigits_pos (u / 10)
      have e:nDigits (u / 10)=(nDigits (u / 10) - 1)+1:=by omega
      rw[e,Nat.pow_succ]
      omega

theorem M6 {u:Nat} (h:u≤1000000000000000):nDigits u≤16:=by
  rcases Nat.eq_zero_or_pos u with rfl|h0
  · rw[nDigits_small (by omega)]; omega
  · have h1:=RW u h0
    rcases Nat.lt_or_ge (nDigits u) 17 with h2|h2
    · omega
    · have h3:(10:Nat) ^ 16≤10 ^ (nDigits u - 1):=Nat.pow_le_pow_right (by omega) (by omega)
      have e:(10:Nat) ^ 16=10000000000000000:=rfl
      omega

theorem WH {d:iZ} (h:Fm d) (h0:d.aB≠0) {j:Nat} {x:Int} (hx:x+j=d.exp) {r:iZ × Bool} (hr:Made (d.aB*10 ^ j) x r):r=(d,true):=by
  have hz:=h.nz h0
  have hab:=Eu d.aB j
  rcases hr with ⟨h1,_⟩|⟨u,i,e,hu,rfl⟩
  · omega
  · obtain ⟨rfl,rfl⟩:=O4 i j u d.aB hu hz e.symm
    have b:=h.bounds
    unfold WG
    rw[if_pos (by omega),hx]

end Go.Proofs.YtmlkkgfenfdndaaGreatDoor

set_option maxRecDepth 100000
namespace Go.Proofs.YtmlkkgfenfdndaaGreatDoor
open Go Go.ay

abbrev zs (s:aj):List Int:=s.map fun b=>(b.toNat:Int)
theorem TS (s t:aj):zs (s++t)=zs s++zs t:=List.map_append
theorem J6 (s:aj):oN s=zs s:=rfl
theorem HP (s:aj):(zs s).length=s.length:=List.length_map _
theorem tT (s:aj):s7 (zs s)=s:=by
  unfold s7 zs
  rw[List.map_map]
  conv=>rhs; rw[←List.map_id s]
  exact List.map_congr_left fun b _=>by simp
theorem yI (n:Nat) (h:n<256):((UInt8.ofNat n).toNat:Int)=n:=by rw[hY n h]

def I1 (s:aj):Prop:=s.length≤100000000000

theorem wb {R:Type} (b:UInt8) (s:aj) (hl:I1 s) (k:List Int→Option R):ad (b.toNat:Int) (zs s) k=k (zs (s ++ [b])):=by
  show cU (decide (((zs s).length+1)*1≤140737488355328)) (k (zs s ++ [(b.toNat:Int)]))=_
  unfold I1 at hl
  rw[aS (br (by rw[HP]; omega)),TS]
  rfl

theorem ws {R:Type} (x:aj) (s:aj) (hx:x.length≤100000000000) (hl:I1 s) (k:Int→List Int→Option R):af x (zs s) k=k (x.length:Int) (zs (s++x)):=by
  show cU (decide (((zs s).length+(oN x).length)*1≤140737488355328)) (k (x.length:Int) (zs s++oN x))=_
  unfold I1 at hl
  rw[J6,aS (br (by rw[HP,HP]; omega)),TS]

theorem or128:∀x:Fin 64,IntKind.u8.wrap ((BitVec.ofInt IntKind.u8.bits 128 ||| BitVec.ofInt IntKind.u8.bits (x.val:Int)).toNat:Int)=((128+x.val:Nat):Int):=by decide +kernel
theorem or192:∀x:Fin 32,IntKind.u8.wrap ((BitVec.ofInt IntKind.u8.bits 192 ||| BitVec.ofInt IntKind.u8.bits (IntKind.u8.wrap (x.val:Int))).toNat:Int)=((192+x.val:Nat):Int):=by decide +kernel
theorem or224:∀x:Fin 16,IntKind.u8.wrap ((BitVec.ofInt IntKind.u8.bits 224 ||| BitVec.ofInt IntKind.u8.bits (IntKind.u8.wrap (x.val:Int))).toNat:Int)=((224+x.val:Nat):Int):=by decide +kernel
theorem or240:∀x:Fin 8,IntKind.u8.wrap ((BitVec.ofInt IntKind.u8.bits 240 ||| BitVec.ofInt IntKind.u8.bits (IntKind.u8.wrap (x.val:Int))).toNat:Int)=((240+x.val:Nat):Int):=by decide +kernel
theorem and63:∀x:Fin 256,IntKind.u8.wrap ((BitVec.ofInt IntKind.u8.bits (x.val:Int) &&& BitVec.ofInt IntKind.u8.bits 63).toNat:Int)=((x.val % 64:Nat):Int):=by decide +kernel

theorem Zy (n:Nat):IntKind.u8.wrap (n:Int)=((n % 256:Nat):Int):=by
  simp only[IntKind.wrap,IntKind.bits,IntKind.signed]
  simp
theorem U0 {n:Nat} (h:n<1114112):IntKind.u32.wrap (n:Int)=(n:Int):=by
  simp only[IntKind.wrap,IntKind.bits,IntKind.signed]
  simp
  omega
theorem shr (c n:Nat) (h:n≤32):Int.fdiv (c:Int) (2 ^ (min n IntKind.i32.bits))=((c / 2 ^ n:Nat):Int):=by
  have e:min n IntKind.i32.bits=n:=Nat.min_eq_left h
  rw[e,Int.fdiv_eq_ediv_of_nonneg _ (by exact Int.le_of_lt (Int.pow_pos (by omega)))]
  rw[Int.natCast_ediv]
  congr 1

theorem cont (c:Nat):IntKind.u8.wrap ((BitVec.ofInt IntKind.u8.bits 128 ||| BitVec.ofInt IntKind.u8.bits (IntKind.u8.wrap ((BitVec.ofInt IntKind.u8.bits (IntKind.u8.wrap (c:Int)) &&& BitVec.ofInt IntKind.u8.bits 63).toNat:Int))).toNat:Int)=((128+c % 64:Nat):Int):=by
  have h1:=and63 ⟨c % 256,Nat.mod_lt _ (by omega)⟩
  simp only at h1
  rw[Zy c,h1,show c % 256 % 64=c % 64 by omega]
  exact or128 ⟨c % 64,Nat.mod_lt _ (by omega)⟩

theorem zs_enc1 (n:Nat) (h:n<256):zs [UInt8.ofNat n] = [(n:Int)]:=by simp only[zs,List.map_cons,List.map_nil,yI n h]

theorem ar {R:Type} {c:Nat} (hv:vr c) (s:aj) (hl:I1 s) (k:List Int→Option R):bQ (zs s) (c:Int) k=k (zs (s++enc c)):=by
  have lh:=O1 hv
  unfold I1 at hl
  show jk bz (zs s) (c:Int) k=_
  unfold jk
  rw[U0 lh,TS]
  rcases Dy hv with ⟨h1,e⟩|⟨h0,h1,e⟩|⟨h0,h1,e⟩|⟨h0,e⟩
  · rw[br (show (c:Int)≤127 by omega),cond_true,aS (br (by rw[HP]; omega)),e,zs_enc1 c (by omega),Zy,Nat.mod_eq_of_lt (by omega)]
  all_goals
    rw[cY (show ¬(c:Int)≤127 by omega),cond_false]
    show fO (zs s) (c:Int) _=_
    unfold fO
    rw[U0 lh,e]
    simp only[cont,shr _ 6 (by omega),shr _ 12 (by omega),shr _ 18 (by omega),HP]
  · rw[br (show (c:Int)≤2047 by omega),cond_true,aS (br (by omega))]
    have:=or192 ⟨c / 64,by omega⟩
    simp only at this
    rw[show c / 2 ^ 6=c / 64 from rfl,this]
    simp only[zs,List.map_cons,List.map_nil,yI (192+c / 64) (by omega),yI (128+c % 64) (by omega)]
  · rw[cY (show ¬(c:Int)≤2047 by omega),cond_false]
    unfold vr at hv
    by_cases h2:c<55296
    · rw[br (show (c:Int)<55296 by omega),cond_true,cond_true,aS (br (by omega))]
      have:=or224 ⟨c / 4096,by omega⟩
      simp only at this
      rw[show c / 2 ^ 12=c / 4096 from rfl,this]
      simp only[zs,List.map_cons,List.map_nil,yI (224+c / 4096) (by omega),yI (128+c % 64) (by omega),yI (128+c / 64 % 64) (by omega)]
    rw[cY (show ¬(c:Int)<55296 by omega),cond_false,br (show (57343:Int)<(c:Int) by omega),cond_true,br (show (c:Int)≤65535 by omega),cond_true,aS (br (by omega))]
    have:=or224 ⟨c / 4096,by omega⟩
    simp only at this
    rw[show c / 2 ^ 12=c / 4096 from rfl,this]
    simp only[zs,List.map_cons,List.map_nil,yI (224+c / 4096) (by omega),yI (128+c % 64) (by omega),yI (128+c / 64 % 64) (by omega)]
  · rw[cY (show ¬(c:Int)≤2047 by omega),cond_false]
    rw[cY (show ¬(c:Int)<55296 by omega),cond_false,br (show (57343:Int)<(c:Int) by omega),cond_true,cY (show ¬(c:Int)≤65535 by omega),cond_false,
      br (show (c:Int)>65535 by omega),cond_true,br (show (c:Int)≤1114111 by omega),cond_true,aS (br (by omega))]
    have:=or240 ⟨c / 262144,by omega⟩
    simp only at this
    rw[show c / 2 ^ 18=c / 262144 from rfl,this]
    simp only[zs,List.map_cons,List.map_nil,yI (240+c / 262144) (by omega),yI (128+c % 64) (by omega),yI (128+c / 64 % 64) (by omega),yI (128+c / 4096 % 64) (by omega)]

theorem wr {R:Type} {c:Nat} (hv:vr c) (s:aj) (hl:I1 s) (k:Int→List Int→Option R):∃n:Int,ai (c:Int) (zs s) k=k n (zs (s++enc c)):=by
  refine ⟨IntKind.i64.wrap (((zs (s++enc c)).length:Int) - ((zs s).length:Int)),?_⟩
  show ig bQ (c:Int) (zs s) k=_
  unfold ig
  rw[ar hv s hl]
end Go.Proofs.YtmlkkgfenfdndaaGreatDoor

set_option maxRecDepth 100000
namespace Go.Proofs.YtmlkkgfenfdndaaGreatDoor
open Go Go.ay Go.Lib

def j1 (n:Nat):aj:=List.replicate n 48
theorem qF (n:Nat):(j1 n).length=n:=List.length_replicate
theorem Hc:∀n:Nat,repeatL [48] n=j1 n
  | 0=>rfl
  | n+1=>by
    have:=Hc n
    simp[repeatL,j1,List.replicate_succ]at this ⊢
    try exact this
theorem TU (z:Int):lO [48] z=j1 z.toNat:=Hc _

def body (L:aj) (e:Int):aj :=
  if 0≤e then L++j1 e.toNat
  else
    let t:=j1 (max 0 (1 - e - (L.length:Int))).toNat++L
    t.take ((t.length:Int)+e).toNat ++ [46]++t.drop ((t.length:Int)+e).toNat
def NT (d:iZ):aj:=(if d.aB<0 then [45]else [])++body (decDigits d.aB.natAbs) d.exp

theorem wsn {R:Type} (x:aj) (hx:x.length≤100000000000) (k:Int→List Int→Option R):ag x k=k (x.length:Int) (zs x):=by
  show cU (decide ((0+(oN x).length)*1≤140737488355328)) (k (x.length:Int) (oN x))=_
  rw[J6,aS (br (by rw[HP]; omega))]

theorem Zz {R:Type} {d:iZ} (h:Fm d) (k:aj→Option R):bc d k=k (NT d):=by
  have b:=h.bounds
  have e:bc d k=oW cf ah af ag d k:=rfl
  rw[e]
  unfold oW
  rw[Zv h,Bool.not_true,cond_false]
  have hL:cw (max d.aB (IntKind.i64.wrap (0 - d.aB)))=decDigits d.aB.natAbs:=by
    rw[dE (n:=0 - d.aB) (by omega) (by omega)]
    have hm:max d.aB (0 - d.aB)=(d.aB.natAbs:Int):=by omega
    rw[hm]
    exact itoa_nonneg _
  have hlen:(decDigits d.aB.natAbs).length≤16:=by rw[decDigits_length]; exact M6 (by omega)
  simp only[hL,TU]
  unfold NT
  generalize decDigits d.aB.natAbs=L at *
  have w1:IntKind.i64.wrap (1 - d.exp)=1 - d.exp:=dE (by omega) (by omega)
  have w2:IntKind.i64.wrap (1 - d.exp - (L.length:Int))=1 - d.exp - (L.length:Int):=dE (by omega) (by omega)
  rw[w1,w2]
  have one:(([48]:aj).length:Int)=1:=rfl
  rw[one]
  have z0:0≤max 0 (1 - d.exp - (L.length:Int)):=by omega
  have zl:max 0 (1 - d.exp - (L.length:Int))≤10:=by omega
  have zL:1 - d.exp≤max 0 (1 - d.exp - (L.length:Int))+L.length:=by omega
  unfold body
  simp only
  generalize max 0 (1 - d.exp - (L.length:Int))=z at *
  have tl:(j1 z.toNat++L).length=z.toNat+L.length:=by rw[List.length_append,qF]
  generalize j1 z.toNat++L=t at *
  have RX:∀a b:aj,(a++b).length=a.length+b.length:=fun a b=>List.length_append
  have lone:([46]:aj).length=1:=rfl
  have e45:([45]:List Int)=zs [45]:=rfl
  have q2:∀(x:Int) (f:List Int→Option R),ah x f=f [x]:=fun _ _=>rfl
  have lim45:I1 [45]:=by unfold I1; simp
  by_cases he:0≤d.exp
  · rw[br (show d.exp≥0 from he),if_pos he]
    by_cases hm:d.aB<0
    · rw[br hm,if_pos hm]
      simp only[cond_true]
      rw[q2,aS (by rw[br (show 1*d.exp≤140737488355328 by omega)]; rfl),aS (br (by rw[qF]; omega)),e45,ws _ _ (by rw[RX,qF]; omega) lim45,tT]
    · rw[cY hm,if_neg hm]
      simp only[cond_true,cond_false]
      rw[aS (by rw[br (show 1*d.exp≤140737488355328 by omega)]; rfl),aS (br (by rw[qF]; omega)),wsn _ (by rw[RX,qF]; omega),tT]
      rfl
  · have wt:IntKind.i64.wrap ((t.length:Int)+d.exp)=(t.length:Int)+d.exp:=dE (by omega) (by omega)
    rw[cY (show ¬d.exp≥0 from he),if_neg he]
    simp only[wt,List.drop_zero,Nat.sub_zero,Int.toNat_natCast,cond_false]
    have l1:(t.take ((t.length:Int)+d.exp).toNat).length≤t.length:=by rw[List.length_take]; omega
    have l2:(t.drop ((t.length:Int)+d.exp).toNat).length≤t.length:=by rw[List.length_drop]; omega
    have c1:(decide ((0:Int)≤(t.length:Int)+d.exp)&&decide ((t.length:Int)+d.exp≤(t.length:Int)))=true:=by rw[br (by omega),br (by omega)]; rfl
    have c2:(decide ((0:Int)≤(t.length:Int))&&decide ((t.length:Int)≤(t.length:Int)))=true:=by rw[br (by omega),br (by omega)]; rfl
    have c3:(decide ((0:Int)≤z)&&decide (1*z≤140737488355328))=true:=by rw[br z0,br (by omega)]; rfl
    have et:(t.drop ((t.length:Int)+d.exp).toNat).take (t.length - ((t.length:Int)+d.exp).toNat)=t.drop ((t.length:Int)+d.exp).toNat:=List.take_of_length_le (by rw[List.length_drop]; exact Nat.le_refl _)
    rw[et]
    by_cases hm:d.aB<0
    · rw[br hm,if_pos hm]
      simp only[cond_true]
      rw[q2,aS c3,aS (br (by rw[qF]; omega)),aS c1,aS (br (by omega)),aS (br (by omega)),aS c2,aS c1,aS (br (by rw[RX,lone]; omega)),e45,ws _ _ (by rw[RX,RX,lone]; omega) lim45,tT]
    · rw[cY hm,if_neg hm]
      simp only[cond_false]
      rw[aS c3,aS (br (by rw[qF]; omega)),aS c1,aS (br (by omega)),aS (br (by omega)),aS c2,aS c1,aS (br (by rw[RX,lone]; omega)),wsn _ (by rw[RX,RX,lone]; omega),tT]
      rfl
end Go.Proofs.YtmlkkgfenfdndaaGreatDoor

