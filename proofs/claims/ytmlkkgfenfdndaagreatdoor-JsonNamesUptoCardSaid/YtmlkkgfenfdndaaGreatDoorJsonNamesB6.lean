/-
  JsonNames: for every input whose bulk is at most 1048576 the law returns true, and each argument reads behind the call as it read before; part 6 of 8 of the proof: an interpreter of the model's code over typed data, proved sound; the functions that the law reaches, printed as Lean functions and tied; the plain law. Own texts laid one behind the other.
-/
import Derived.Test.YtmlkkgfenfdndaaGreatDoorCards
import Derived.Test.YtmlkkgfenfdndaaGreatDoorTie
import Derived.Lib.LaidU8T
import Derived.Stop.LaidErr
import Derived.Deep.DeepHandedRow
import Derived.Deep.DeepWitnessRowRef
import Derived.WalkKit
import Derived.ProofKit
import Derived.OpenShut
import Derived.KernelRfl
import Derived.Lib.ValidU
import Derived.Lib.ItoaLen
import Derived.Lib.Repeat
import Derived.Lib.AtoiAll
import Derived.Lib.IndexAny
import Derived.Lib.Bytealg
import Derived.Lib.SlTrimSet
import Derived.Lib.LastIndexByte
import Derived.Lib.ValidLaws
import Derived.Lib.MapLaws
import Derived.Lib.TrimUEq
import Derived.Lib.RuneBytes
import Derived.Sort.Grow
import Derived.Shelf.Strings.BuilderX
import Derived.Lib.ItoaMem
import Derived.Test.YtmlkkgfenfdndaaGreatDoorJsonNamesB5
set_option linter.unusedSimpArgs false
set_option linter.unnecessarySimpa false
set_option linter.unusedVariables false
set_option linter.unusedSectionVars false
set_option maxRecDepth 100000
namespace Go.Proofs.YtmlkkgfenfdndaaGreatDoor.Door
open Go Go.Lib Go.RowKit Go.ChangeShapes Go.ax

theorem own:ownKnob Tryz.prog.godebug=none:=by kernel_rfl
theorem leaves:ED Tryz.prog Go.Proofs.YtmlkkgfenfdndaaGreatDoor.tt:=Uy (by kernel_rfl)

theorem gSyn:Tryz.prog.globalNamed "strconv.ErrSyntax" = some 4:=by kernel_rfl
theorem gRng:Tryz.prog.globalNamed "strconv.ErrRange" = some 5:=by kernel_rfl
theorem tSyn:(Tryz.prog.globals[4]?).map (·.type)=some 94:=by kernel_rfl
theorem tRng:(Tryz.prog.globals[5]?).map (·.type)=some 94:=by kernel_rfl
theorem star : "*" ++ "errors.errorString" = "*errors.errorString" :=by decide
theorem Xa (u:TypeId) (h:Tryz.prog.typeName? 3 u=some "*errors.errorString"):u=204 :=
  typeName_ptr_named (nm := "errors.errorString") (by rw[star]; kernel_rfl) (by kernel_rfl) (by decide) u (by rw[star]; exact h)

theorem UD {n:String} {g:Nat} {W:World} {cs:Array Value} (hg:Tryz.prog.globalNamed n=some g) (h:W.var? Tryz.prog n=some cs):g<W.heap.size:=by
  unfold World.var? at h
  simp only[hg,Option.bind_some]at h
  rcases Nat.lt_or_ge g W.heap.size with h'|h'
  · exact h'
  · simp[Array.getElem?_eq_none h']at h

theorem Zl {W:World} (h:laidMet Tryz.prog Rows.topTextsUptoRow.laid W):oq.Ts W∧∀b,oq.blocks b→b<W.heap.size:=by
  have r0:VarReads Tryz.prog W "unicode/utf8.first" firstData:=laidMet.reads h (.tail _ (.tail _ (.tail _ (.tail _ (.tail _ (.tail _ (.head _)))))))
  have r1:VarReads Tryz.prog W "unicode/utf8.acceptRanges" acceptData:=laidMet.reads h (.tail _ (.tail _ (.tail _ (.head _))))
  have ht:Utf8Tabs 1 2 W:=utf8Tabs_of_readsT (U8Types.of196 Tryz.W7) ⟨by kernel_rfl,by kernel_rfl,by kernel_rfl,by kernel_rfl,by kernel_rfl,by kernel_rfl,by kernel_rfl⟩ r0 r1
  have h2:=laidMet.tail (laidMet.tail h)
  have hp:TabIs Tryz.prog W "internal/strconv.uint64pow10" .u64 pow10Tab:=tabIs_of_head (t:=192) (e:=165) (n:=20) M7 (by kernel_rfl) (by kernel_rfl) (by kernel_rfl) (by kernel_rfl) (by kernel_rfl) h2
  have h4:=laidMet.tail (laidMet.tail h2)
  obtain ⟨a3,s3,v3,_⟩:=laid_sentinel (ms := #[("Error",75)]) (f := { name := "s",type:=9,offset:=0,embedded:=false,tag := "",pkgPath := "errors",byteOffset:=0 }) (te:=206) (ts:=9) h4 gRng tRng (by kernel_rfl) Xa (by kernel_rfl) (by kernel_rfl) rfl rfl (by kernel_rfl) (by kernel_rfl) (by kernel_rfl)
  obtain ⟨a2,s2,v2,_⟩:=laid_sentinel (ms := #[("Error",75)]) (f := { name := "s",type:=9,offset:=0,embedded:=false,tag := "",pkgPath := "errors",byteOffset:=0 }) (te:=206) (ts:=9) (laidMet.tail h4) gSyn tSyn (by kernel_rfl) Xa (by kernel_rfl) (by kernel_rfl) rfl rfl (by kernel_rfl) (by kernel_rfl) (by kernel_rfl)
  refine ⟨⟨ht,hp,⟨_,_,World.var?_cell gSyn v2 0⟩,⟨_,_,World.var?_cell gRng v3 0⟩⟩,fun b hb => ?_⟩
  have hb:b<8:=hb
  obtain ⟨g,t,cs,fuel,p,hg,_,hv,_⟩:VarReads Tryz.prog W "math/bits.deBruijn64tab" Rows.laid_math_bits_deBruijn64tab:=laidMet.reads h (.tail _ (.head _))
  have e:(some 7:Option Nat)=some g:=(by kernel_rfl:Tryz.prog.globalNamed "math/bits.deBruijn64tab" = some 7).symm.trans hg
  cases e
  have l4:=UD hg hv
  omega

abbrev synS:ByteArray := { data := #[105,110,118,97,108,105,100,32,115,121,110,116,97,120] }
abbrev rngS:ByteArray := { data := #[118,97,108,117,101,32,111,117,116,32,111,102,32,114,97,110,103,101] }
noncomputable def low:Nat:=(World.holding Tryz.prog default ⟨#[], #[], []⟩).heap.size
def lit1:DataW Unit→Value
  | .lit (.int k n) => .int k n
  | _ => .int .u8 0
def Xb:DataW Unit→List Value
  | .agg l=>l.map lit1
  | _ => []
noncomputable def IM (os:Os):World :=
  let w0:=World.holding Tryz.prog os ⟨#[.cells #[.string synS] 206, .cells #[.string rngS] 206], #[], []⟩
  let put (h:Array Obj) (g:Nat) (cs:Array Value):Array Obj:=h.modify g fun
    | .cells _ t frozen => .cells cs t frozen
    | o=>o
  let h0:=put w0.heap 1 (firstTab.map fun z=>Value.int .u8 z).toArray
  let h1:=put h0 2 ((List.range 16).flatMap fun i => [Value.int .u8 (accLo i),Value.int .u8 (accHi i)]).toArray
  let h2:=put h1 4 #[.iface 204 (.pointer (some ⟨low,0,none⟩))]
  let h3:=put h2 5 #[.iface 204 (.pointer (some ⟨low+1,0,none⟩))]
  let h4:=put h3 3 (pow10Tab.map fun z=>Value.int .u64 z).toArray
  let h6:=put h4 6 (Xb Rows.laid_math_bits_deBruijn32tab).toArray
  let h7:=put h6 7 (Xb Rows.laid_math_bits_deBruijn64tab).toArray
  { w0 with heap:=h7 }

theorem Xc (os:Os) (args:Array Value):laidMet Tryz.prog Rows.topTextsUptoRow.laid ((IM os).forCall (fun _ _=>0) ⟨#[],args, []⟩).memory :=
  laidMet_of_run' 8 (by kernel_rfl) (by kernel_rfl)
end Go.Proofs.YtmlkkgfenfdndaaGreatDoor.Door

set_option maxRecDepth 100000
namespace Go.Proofs.YtmlkkgfenfdndaaGreatDoor
open Go Go.ax
end Go.Proofs.YtmlkkgfenfdndaaGreatDoor

namespace Go.ax
open Go.RowKit

section
variable {P:Program} {tt:dB} {w w':World} {h h':ay} {c c':jZ} {R:Type}

theorem xQ (hb:Below w.heap.size w w'):Ext w h c w' h c where
  os:=hb.os
  tape:=hb.tape
  output:=hb.output
  size:=hb.size
  used:=fun _ hi=>hi
  same:=fun i hi hd=>⟨CE (Ff hi.2 hd) (fun _ _ _ => .inr trivial),rfl,rfl⟩
  cell:=fun b x hx _=>sf (hb.block b hx)
  block:=fun b hx _=>hb.block b hx
  vQ:=fun _ _ _ ho=>ho
  ext:=rfl
  arr:=fun b arr e fz hx=>⟨arr,fz,by rw[hb.block b (yx hx)]; exact hx,rfl⟩

theorem EE (wf:WF w h c) (hb:Below w.heap.size w w'):WF w' h c where
  xG:=wf.xG
  o5:=fun b x he=>Nat.lt_of_lt_of_le (wf.o5 b x he) hb.size
  obj:=fun i hi=>by
    by_cases hl:(h.at i).live
    · exact (wf.obj i hi).keep (xQ hb) (fun b o6=>hb.block b ((wf.obj i hi).lt hl o6)) rfl rfl
    · have h0:h.at i = .free∨h.at i = .dead:=by revert hl; cases h.at i <;> simp[bR.live]
      rcases h0 with h0|h0 <;> rw[h0] <;> trivial
  inj:=wf.inj
  lay:=wf.rC (xQ hb)

theorem si {g:Nat} {fn:Func} (hf:P.funcs[g]? = some fn) (hn:(fn.name == "runtime.NumGoroutine")=false) (hb:fn.body.isNone=false) {args:Array Value} {Q:Value→World→Prop}
    (h:Calls P g args w fun e w'=>∃d,e = .returned d∧Q d w'):wo P g args w Q:=by
  refine ⟨.enter g args,w,?_,h⟩
  have Pe:fn.name ≠ "runtime.NumGoroutine" :=by simpa using hn
  have o6:fn.body≠none:=fun e=>by rw[e]at hb; cases hb
  simp[callFunc,hf,Pe,o6]

theorem oQ {g:Nat} {fn:Func} (hf:P.funcs[g]? = some fn) (hn:(fn.name == "runtime.NumGoroutine")=false) (hb:fn.body.isNone=false) {sp:Spec R}
    (hs:∀vs hp k r,sp vs hp k=some r→∀(w:World) (c:jZ) (args:Array Value),WF w hp c→cz w hp c vs args.toList →
      ∃v,k v hp=some r∧Calls P g args w fun e w'=>∃d,e = .returned d∧Below w.heap.size w w'∧dw w' hp c v d):Spec.Ok P g sp:=by
  intro vs hp k r hk w c args wf ra
  obtain ⟨v,hv,hc⟩:=hs vs hp k r hk w c args wf ra
  refine si hf hn hb (Calls.mono hc ?_)
  rintro e w' ⟨d,he,Ou,hr⟩
  exact ⟨d,he,v,hp,c,EE wf Ou,xQ Ou,hr,hv⟩

theorem NC {v:V} {args:Array Value} (ra:cz w h c [v] args.toList):∃d,args = #[d]∧dw w h c v d:=by
  obtain ⟨l⟩:=args
  match l,ra with
  | [d],ra=>exact ⟨d,rfl,ra.head⟩
  | [],ra=>have:=ra.1; simp at this
  | _::_::_,ra=>have:=ra.1; simp at this
theorem Qj {u v:V} {args:Array Value} (ra:cz w h c [u,v] args.toList):∃d e,args = #[d,e]∧dw w h c u d∧dw w h c v e:=by
  obtain ⟨l⟩:=args
  match l,ra with
  | [d,e],ra=>exact ⟨d,e,rfl,ra.head,ra.tail.head⟩
  | [],ra=>have:=ra.1; simp at this
  | [_],ra=>have:=ra.1; simp at this
  | _::_::_::_,ra=>have:=ra.1; simp at this
end

section
variable {P:Program} {tt:dB} {w w':World} {h h':ay} {c c':jZ} {R:Type}

def JB (R:Type):Spec R:=fun vs h k =>
  match vs with
  | [.ptr i 0]=>(match h.at i with | .kq _=>k (.tuple []) h|_=>none)
  | _=>none

theorem IN {i:Nat} {v:V} {a':Value} (wf:WF w h c) (ra:dw w h c (.ptr i 0) a') (hv:h.at i = .kq v) :
    ∃b p d,a' = .pointer (some ⟨b,0,none⟩)∧c.sb i=some b∧w.heap[b]? = some (Obj.cells #[p,d] oq.kq (0,0))∧(p = .pointer none∨p = .pointer (some ⟨b,0,none⟩))∧dw w h c v d:=by
  have hi:=ay.gp hv (by simp)
  have ho:=wf.obj i hi
  rw[hv]at ho
  obtain ⟨b,p,d,g1,g2,g3,g4⟩:=ho
  cases ra with
  | ptr hu hq =>
    obtain ⟨b',rfl,o6⟩:=hq
    have:=o6 (by rw[hv]; simp)
    rw[g1]at this; cases this
    exact ⟨b,p,d,rfl,g1,g2,g3,g4⟩

theorem bcc_ok {g:Nat} {fn:Func} (hf:P.funcs[g]? = some fn) (hn:(fn.name == "runtime.NumGoroutine")=false) (hb:fn.body.isNone=false)
    (fresh:∀(b:Nat) (w:World),w.cell? ⟨b,0,none⟩=some (.pointer none)→w.shape? b=some (oq.kq,2)→w.frozen? ⟨b,0,none⟩=false →
      Calls P g #[.pointer (some ⟨b,0,none⟩)] w fun e w'=>e = .returned (.tuple #[])∧w'=w.setCell ⟨b,0,none⟩ (.pointer (some ⟨b,0,none⟩)))
    (used:∀(b:Nat) (w:World),w.cell? ⟨b,0,none⟩=some (.pointer (some ⟨b,0,none⟩))→Calls P g #[.pointer (some ⟨b,0,none⟩)] w fun e w'=>e = .returned (.tuple #[])∧w'=w):Spec.Ok P g (JB R):=by
  intro vs h k r hk w c args wf ra
  unfold JB at hk
  split at hk <;> try (first|cases hk)
  rename_i i
  split at hk <;> try (first|cases hk)
  rename_i v hv
  obtain ⟨a',rfl,r1⟩:=NC ra
  obtain ⟨b,p,d,rfl,g1,g2,g3,g4⟩:=IN wf r1 hv
  have G2:w.cell? ⟨b,0,none⟩=some p:=by rw[cell_of_row w b _ _ _ _ g2]; rfl
  have rt:∀w' h' c',dw w' h' c' (.tuple []) (.tuple #[]):=fun w' h' c' => .tuple rfl (fun j v d hv=>by simp at hv)
  rcases g3 with rfl|rfl
  · refine si hf hn hb (Calls.mono (fresh b w G2 (by simp[World.shape?,g2]) (vD g2 0)) ?_)
    rintro e w' ⟨he,rfl⟩
    have o6:(w.setCell ⟨b,0,none⟩ (.pointer (some ⟨b,0,none⟩))).heap[b]? = some (.cells #[.pointer (some ⟨b,0,none⟩),d] oq.kq (0,0)):=by
      simp[World.setCell,Array.getElem?_modify,g2]
    have hw:K2 w (w.setCell ⟨b,0,none⟩ (.pointer (some ⟨b,0,none⟩))) b #[.pointer (some ⟨b,0,none⟩),d] oq.kq (0,0):=⟨rfl,rfl,rfl,by simp,fun k hk=>heap_setCell_other w _ k _ hk,o6⟩
    have rD:(h.at i).from_ (c.off i)=some 0:=by rw[hv]; rfl
    have tw:(h.at i).ir (.kq v):=by rw[hv]; trivial
    have RF:h.set i (.kq v)=h:=by
      have hi:=ay.gp hv (by simp)
      have e:h[i] = .kq v:=by
        have:=hv
        unfold ay.at at this
        simpa [List.getD,List.getElem?_eq_getElem hi]using this
      rw[←e]
      exact List.set_getElem_self hi
    have x:=He g1 g2 hw rfl rD rfl tw
    have q:=Oi wf g1 g2 hw rfl rD rfl tw ⟨b,_,d,g1,o6, .inr rfl,g4.mono x⟩
    rw[RF]at x q
    exact ⟨_,he,_,h,c,q,x,rt _ _ _,hk⟩
  · refine si hf hn hb (Calls.mono (used b w G2) ?_)
    rintro e w' ⟨he,rfl⟩
    exact ⟨_,he,_,h,c,wf, .refl _ _ _,rt _ _ _,hk⟩

def sU (l:List Int):ak:=l.map fun n=>UInt8.ofNat n.toNat

theorem Xd (l:List Int):(sU l).length=l.length:=List.length_map _
theorem Xe (l:List Int) (m:Nat) (x:UInt8) (h:(sU l)[m]? = some x):∃n,l[m]? = some n∧x=UInt8.ofNat n.toNat:=by
  unfold sU at h
  rw[List.getElem?_map]at h
  cases hm:l[m]? with
  | none=>rw[hm]at h; cases h
  | some n=>rw[hm]at h; simp at h; exact ⟨n,rfl,h.symm⟩

def Dp (R:Type):Spec R:=fun vs h k =>
  match vs with
  | [.ptr i 0] =>
    (match h.at i with
     | .kq .cw=>k (.str []) h
     | .kq (.sl (.int .u8) l (.own j))=>(match h.at j with | .tok=>k (.str (sU l)) h|_=>none)
     | _=>none)
  | _=>none

theorem Fl:Hq (Dp R):=by
  intro vs h k k' he
  unfold Dp
  split <;> try rfl
  split <;> try (first|rfl|exact he _)
  split <;> first|rfl|exact he _

theorem UE (wf:WF w h c) {j g:Nat} (hj:h.at j = .tok) (hg:c.sb j=some g) {cur:Array Value} {e:TypeId} {fz Fx:Nat × Nat} (h1:w.heap[g]? = some (.cells cur e fz))
    (hos:w'.os=w.os) (htape:w'.tape=w.tape) (hout:w'.output=w.output) (We:w'.heap.size=w.heap.size) (IC:∀k,k≠g→w'.heap[k]? = w.heap[k]?) (h2:w'.heap[g]? = some (.cells cur e Fx))
    (SI:(fz.1=fz.2∨fz.2≤c.off j)→(Fx.1=Fx.2∨Fx.2≤c.off j)) :
    WF w' h c∧Ext w h c w' h c:=by
  have hjl:=ay.gp hj (by simp)
  have mA:tu h c g (c.off j):=⟨j,c.off j,hg,by rw[hj]; rfl,Nat.le_refl _⟩
  have xA:∀b x,w'.cell? ⟨b,x,none⟩=w.cell? ⟨b,x,none⟩:=fun b x=>by
    by_cases hb:b=g
    · subst hb; rw[cell_of_row w' b x cur e Fx h2,cell_of_row w b x cur e fz h1]
    · exact sf (IC b hb)
  have x:Ext w h c w' h c := {
    os:=hos
    tape:=htape
    output:=hout
    size:=by omega
    used:=(Ext.refl w h c).used
    same:=(Ext.refl w h c).same
    cell:=fun b x _ _=>xA b x
    block:=fun b _ ho=>IC b (by rintro rfl; exact ho _ mA)
    vQ:=(Ext.refl w h c).vQ
    ext:=rfl
    arr:=fun b arr el fz0 hb=>by
      by_cases hbg:b=g
      · subst hbg; rw[h1]at hb; cases hb; exact ⟨cur,Fx,h2,rfl⟩
      · exact ⟨arr,fz0,by rw[IC b hbg]; exact hb,rfl⟩ }
  refine ⟨?_,x⟩
  exact {
    lay:=wf.rC x
    xG:=wf.xG
    o5:=fun b y he=>by rw[We]; exact wf.o5 b y he
    obj:=fun i hi=>by
      by_cases xk:i=j
      · subst xk
        have:=wf.obj i hi
        rw[hj]at this ⊢
        rcases this with h0|⟨b',Es,e',fz0,p1,p2,p3,p4⟩
        · rw[hg]at h0; cases h0
        · rw[hg]at p1; cases p1
          rw[h1]at p2; cases p2
          exact .inr ⟨g,cur,e,Fx,hg,h2,p3,SI p4⟩
      · by_cases hl:(h.at i).live
        · refine (wf.obj i hi).keep x (fun b hb=>IC b ?_) rfl rfl
          rintro rfl
          exact xk (wf.inj i j b hl (by rw[hj]; trivial) hb hg)
        · have h0:h.at i = .free∨h.at i = .dead:=by revert hl; cases h.at i <;> simp[bR.live]
          rcases h0 with h0|h0 <;> rw[h0] <;> trivial
    inj:=wf.inj }

theorem OL {q n:Nat} {cur:Array Value} {e:TypeId} {fz:Nat × Nat} (hn:n≠0) (hq:w.heap[q]? = some (.cells cur e fz)) :
    (w.drew.freeze ⟨q,0,none⟩ n).os=w.os∧(w.drew.freeze ⟨q,0,none⟩ n).tape=w.tape∧(w.drew.freeze ⟨q,0,none⟩ n).output=w.output∧(w.drew.freeze ⟨q,0,none⟩ n).heap.size=w.heap.size ∧
      (∀k,k≠q→(w.drew.freeze ⟨q,0,none⟩ n).heap[k]? = w.heap[k]?)∧∃Fx,(w.drew.freeze ⟨q,0,none⟩ n).heap[q]? = some (.cells cur e Fx)∧∀o,n≤o→(fz.1=fz.2∨fz.2≤o)→(Fx.1=Fx.2∨Fx.2≤o):=by
  obtain ⟨lo,hi⟩:=fz
  unfold World.freeze
  rw[if_neg hn]
  refine ⟨rfl,rfl,rfl,Array.size_modify,fun k hk => ?_,(if lo==hi then (0,0+n)else (min lo 0,max hi (0+n))),?_,fun o ho hf => ?_⟩
  · simp only[Array.getElem?_modify]
    rw[if_neg (Ne.symm hk)]
    rfl
  · simp only[Array.getElem?_modify,if_true]
    rw[show w.drew.heap[q]? = some (.cells cur e (lo,hi))from hq]
    rfl
  · simp only at hf
    split
    · exact .inr (by simp; omega)
    · rename_i lp
      have:lo≠hi:=by simpa using lp
      exact .inr (by simp; omega)

theorem u8_of {n:Int} (hn:IntKind.u8.has n):((UInt8.ofNat n.toNat).toNat:Int)=n:=by
  have:0≤n∧n≤255:=by simpa [IntKind.has,IntKind.min,IntKind.max,IntKind.signed,IntKind.bits]using hn
  simp only[UInt8.toNat_ofNat']
  omega

structure Lv (P:Program) (g:Nat):Prop where
  nil:∀(b:Nat) (p:Value) (w:World),w.heap[b]? = some (.cells #[p, .slice none 0 0] oq.kq (0,0)) →
    Calls P g #[.pointer (some ⟨b,0,none⟩)] w fun e w'=>e = .returned (.string ⟨#[]⟩)∧Below w.heap.size w w'
  Xf:∀(b q:Nat) (p:Value) (cur:Array Value) (fz:Nat × Nat) (w:World),w.heap[b]? = some (.cells #[p, .slice (some ⟨q,0,none⟩) 0 0] oq.kq (0,0))→w.heap[q]? = some (.cells cur oq.u8 fz) →
    Calls P g #[.pointer (some ⟨b,0,none⟩)] w fun e w'=>e = .returned (.string ⟨#[]⟩)∧Below w.heap.size w w'
  room:∀(b q cap:Nat) (p:Value) (w:World),cap≠0→w.heap[b]? = some (.cells #[p, .slice (some ⟨q,0,none⟩) 0 cap] oq.kq (0,0)) →
    Calls P g #[.pointer (some ⟨b,0,none⟩)] w fun e w'=>e = .returned (.string ⟨#[]⟩)∧Below w.heap.size w w'
  some:∀(b q cap:Nat) (p:Value) (cur:Array Value) (fz:Nat × Nat) (l:List UInt8) (w:World),l ≠ []→w.heap[b]? = some (.cells #[p, .slice (some ⟨q,0,none⟩) l.length cap] oq.kq (0,0)) →
    w.heap[q]? = some (.cells cur oq.u8 fz)→l.length≤cap→cap≤mx→l.length≤cur.size→(∀(j:Nat) (x:UInt8),l[j]? = some x→w.cell? ⟨q,j,none⟩=some (.int .u8 x.toNat)) →
    Calls P g #[.pointer (some ⟨b,0,none⟩)] w fun e w'=>e = .returned (.string ⟨l.toArray⟩)∧w'=w.drew.freeze ⟨q,0,none⟩ l.length

theorem Zm {g:Nat} {fn:Func} (hf:P.funcs[g]? = some fn) (hn:(fn.name == "runtime.NumGoroutine")=false) (hb:fn.body.isNone=false) (D:Lv P g):Spec.Ok P g (Dp R):=by
  intro vs h k r hk w c args wf ra
  unfold Dp at hk
  split at hk <;> try (first|cases hk)
  rename_i i
  obtain ⟨a',rfl,r1⟩:=NC ra
  have empty:∀ {w':World} {h':ay} {c':jZ},dw w' h' c' (.str []) (.string ⟨#[]⟩):=fun {w' h' c'}=>Aa ⟨#[]⟩ rfl (Nat.zero_le _)
  split at hk <;> try (first|cases hk)
  · rename_i hv
    obtain ⟨b,p,d,rfl,g1,g2,g3,g4⟩:=IN wf r1 hv
    cases g4
    refine si hf hn hb (Calls.mono (D.nil b p w g2) ?_)
    rintro e w' ⟨he,Ou⟩
    exact ⟨_,he,_,h,c,EE wf Ou,xQ Ou,empty,hk⟩
  · rename_i l j hv
    split at hk <;> try (first|cases hk)
    rename_i hj
    obtain ⟨b,p,d,rfl,g1,g2,g3,g4⟩:=IN wf r1 hv
    have hi:=ay.gp hv (by simp)
    have xk:j≠i:=by rintro rfl; rw[hj]at hv; cases hv
    have hu8:∀x∈(l:List Int),IntKind.u8.has x:=by
      intro x hx
      cases g4 with
      | sl f lB sd hc hr xF mA =>
        obtain ⟨m,hm⟩:=List.mem_iff_getElem?.1 hx
        exact (hr m 0 x (.int .u8 x) hm rfl).iI.2
    have hlen:(sU l).length=List.length (α:=Int) l:=Xd l
    cases g4 with
    | @sl _ _ _ A cap f lB sd hc hr xF mA =>
      obtain ⟨_,ho⟩:=mA j rfl
      have hcap':List.length (α:=Int) l≤cap:=lB
      have G6:∀(w':World) (h':ay) (c':jZ),dw w' h' c' (.str (sU l)) (.string ⟨(sU l).toArray⟩):=fun w' h' c'=>Aa _ rfl (by rw[hlen]; exact Nat.le_trans lB sd)
      rcases ho hj with ⟨e1,rfl,rfl⟩|⟨q,o,cur,e,fz,e1,rfl,e3,e4,e5,e6⟩
      · have Jq:l = []:=List.eq_nil_of_length_eq_zero (Nat.le_zero.1 lB)
        subst Jq
        refine si hf hn hb (Calls.mono (D.nil b p w g2) ?_)
        rintro e w' ⟨he,Ou⟩
        exact ⟨_,he,_,h,c,EE wf Ou,xQ Ou,G6 _ _ _,hk⟩
      · obtain ⟨rfl,rfl⟩:=e6 rfl
        by_cases Jq:l = []
        · subst Jq
          by_cases G2:cap=0
          · subst G2
            refine si hf hn hb (Calls.mono (D.Xf b q p cur fz w g2 e4) ?_)
            rintro e w' ⟨he,Ou⟩
            exact ⟨_,he,_,h,c,EE wf Ou,xQ Ou,G6 _ _ _,hk⟩
          · refine si hf hn hb (Calls.mono (D.room b q cap p w G2 g2) ?_)
            rintro e w' ⟨he,Ou⟩
            exact ⟨_,he,_,h,c,EE wf Ou,xQ Ou,G6 _ _ _,hk⟩
        · have Ou:sU l ≠ []:=fun e=>Jq (List.eq_nil_of_length_eq_zero (hlen.symm.trans (by rw[e]; rfl)))
          have e5':0+cap*1≤cur.size:=e5
          have Ch:∀(m:Nat) (x:UInt8),(sU l)[m]? = some x→w.cell? ⟨q,m,none⟩=some (.int .u8 x.toNat):=by
            intro m x hx
            obtain ⟨n,hm,rfl⟩:=Xe l m x hx
            have ZZ:m<List.length (α:=Int) l:=(List.getElem?_eq_some_iff.1 hm).1
            obtain ⟨b',o',hA,xA,_⟩:=hc m 0 ZZ (by simp[Ty.sz])
            cases hA
            have hrn:=hr m 0 n (.int .u8 n) hm rfl
            rw[hrn.iI.1]at xA
            rw[u8_of hrn.iI.2]
            simpa [Ty.sz]using xA
          have g2':w.heap[b]? = some (.cells #[p, .slice (some ⟨q,0,none⟩) (sU l).length cap] oq.kq (0,0)):=by rw[hlen]; exact g2
          refine si hf hn hb (Calls.mono (D.some b q cap p cur fz (sU l) w Ou g2' e4 (by rw[hlen]; exact lB) sd (by rw[hlen]; omega) Ch) ?_)
          rintro e w' ⟨he,rfl⟩
          have hne0:(sU l).length≠0:=by simpa using Ou
          obtain ⟨f1,f2,f3,f4,f5,Fx,f6,f7⟩:=OL hne0 e4
          obtain ⟨q1,q2⟩:=UE wf hj e1 e4 f1 f2 f3 f4 f5 f6 (f7 _ (by rw[e3,hlen]; simp[Ty.sz]; exact Nat.le_refl _))
          exact ⟨_,he,_,h,c,q1,q2,G6 _ _ _,hk⟩
end

def wu (s:ak):Bool:=s.all fun b=>decide (b.toNat<128)
def iu (s:ak):Bool:=Go.Lib.validD s
def pq (s:ak):Nat × Nat:=if s.isEmpty then (65533,0)else Utf8.decode ⟨s.toArray⟩ 0
def cn (n:Int):ak:=Go.Lib.itoa n
def lq (s:ak) (n:Int):ak:=Go.Lib.repeatL s n.toNat
def bC (s cs:ak):ak:=s.dropWhile (cs.contains ·)
def cM (s cs:ak):ak:=(s.reverse.dropWhile (cs.contains ·)).reverse
def sj (s:ak):Bool:=match Go.Lib.atoiAll s with | .ok _=>true|_=>false
def dZ (s:ak):Int:=match Go.Lib.atoiAll s with | .ok v=>v | .range=>Go.Lib.atoiSat s|_=>0
def Xg (s cs:ak):Bool:=Go.Lib.containsAny s cs
def Fo (s:ak) (c:Int):Int:=Go.Lib.indexByte s c.toNat.toUInt8

section
variable (R:Type)
def OM:Spec R:=fun vs h k=>match vs with | [.str s]=>k (.bool (iu s)) h|_=>none
def Xh:Spec R:=fun vs h k=>match vs with | [.str s]=>k (.tuple [.int .i32 (pq s).1, .int .i64 (pq s).2]) h|_=>none
def Sa:Spec R:=fun vs h k=>match vs with | [.int .i64 n]=>k (.str (cn n)) h|_=>none
def Xi:Spec R:=fun vs h k=>match vs with | [.str s, .int .i64 n]=>cR (decide (0≤n)&&decide ((s.length:Int)*n≤140737488355328)) (k (.str (lq s n)) h)|_=>none
def Hw:Spec R:=fun vs h k=>match vs with | [.str s, .str cs]=>cR (wu cs&&decide (cs.length<4294967281)) (k (.str (bC s cs)) h)|_=>none
def ON:Spec R:=fun vs h k=>match vs with | [.str s, .str cs]=>cR (wu cs&&decide (cs.length<4294967281)) (k (.str (cM s cs)) h)|_=>none
def OO:Spec R:=fun vs h k=>match vs with
  | [.str s]=>cR (decide (s.length≤281474976710656)) (bif sj s then k (.tuple [.int .i64 (dZ s), .cJ]) h else k (.tuple [.int .i64 (dZ s), .iface]) h)
  | _=>none
def toErr_S (T:Nat):Spec R:=fun vs h k=>match vs with
  | [.str _, .str s, .int .i64 _, .int .i64 _, .Em t .i64 n]=>cR (Nat.beq t T&&(n==2||n==1)) (cR (decide (s.length≤281474976710656)) (k .iface h))
  | _=>none
def Lw:Spec R:=fun vs h k=>match vs with
  | [.str s, .str cs]=>cR (wu s&&wu cs&&decide (s.length<4294967281)&&decide (cs.length<4294967281)) (k (.bool (Xg s cs)) h)
  | _=>none
def S7:Spec R:=fun vs h k=>match vs with | [.str s, .int .u8 c]=>k (.int .i64 (Fo s c)) h|_=>none
end

section
variable {P:Program} {w w':World} {h:ay} {c:jZ} {R:Type}
open Go.Lib

theorem Ks {s:ak} (hs:wu s=true):∀(j:Nat) (b:UInt8),s[j]? = some b→b.toNat<128:=by
  intro j b hb
  have:=List.all_eq_true.1 hs b (List.mem_of_getElem? hb)
  simpa using this

theorem Fp (p:UInt8→Bool):∀s:ak,(s.dropWhile p).length≤s.length
  | []=>Nat.le_refl _
  | b::s=>by
    rw[List.dropWhile_cons]
    split
    · have:=Fp p s; simp; omega
    · exact Nat.le_refl _

theorem OP (l:ak) (h':l.length≤mx):dw w h c (.str l) (.string ⟨l.toArray⟩):=Aa _ rfl h'

theorem mo {g:Nat} {args:Array Value} {Q:Ending→World→Prop} {v:V} (hc:Calls P g args w Q)
    (hq:∀e w',Q e w'→∃d,e = .returned d∧Below w.heap.size w w'∧dw w' h c v d):Calls P g args w fun e w'=>∃d,e = .returned d∧Below w.heap.size w w'∧dw w' h c v d:=Calls.mono hc fun e w' q=>hq e w' q

end
end Go.ax

set_option maxRecDepth 100000
namespace Go.ax
open Go.Lib

def vr (c:Nat):Prop:=c<55296∨(57344≤c∧c≤1114111)
instance (c:Nat):Decidable (vr c):=inferInstanceAs (Decidable (_∨_))

def enc (c:Nat):ak:=encodeRune (c:Int)

theorem enc1 {c:Nat} (h:c<128):enc c = [UInt8.ofNat c]:=by
  unfold enc encodeRune encodeRuneZ
  rw[if_pos (by omega)]
  rfl
theorem enc2 {c:Nat} (h0:128≤c) (h:c<2048):enc c = [UInt8.ofNat (192+c / 64),UInt8.ofNat (128+c % 64)]:=by
  unfold enc encodeRune encodeRuneZ
  rw[if_neg (by omega),if_pos (by omega)]
  have e1:(192+(c:Int) / 64).toNat=192+c / 64:=by omega
  have e2:(128+(c:Int) % 64).toNat=128+c % 64:=by omega
  simp only[List.map_cons,List.map_nil,e1,e2]
theorem enc3 {c:Nat} (h0:2048≤c) (h:c<65536) (hv:vr c):enc c = [UInt8.ofNat (224+c / 4096),UInt8.ofNat (128+c / 64 % 64),UInt8.ofNat (128+c % 64)]:=by
  unfold vr at hv
  unfold enc encodeRune encodeRuneZ
  rw[if_neg (by omega),if_neg (by omega),if_pos (by omega)]
  have e1:(224+(c:Int) / 4096).toNat=224+c / 4096:=by omega
  have e2:(128+(c:Int) / 64 % 64).toNat=128+c / 64 % 64:=by omega
  have e3:(128+(c:Int) % 64).toNat=128+c % 64:=by omega
  simp only[List.map_cons,List.map_nil,e1,e2,e3]
theorem enc4 {c:Nat} (h0:65536≤c) (h:c<1114112):enc c = [UInt8.ofNat (240+c / 262144),UInt8.ofNat (128+c / 4096 % 64),UInt8.ofNat (128+c / 64 % 64),UInt8.ofNat (128+c % 64)]:=by
  unfold enc encodeRune encodeRuneZ
  rw[if_neg (by omega),if_neg (by omega),if_neg (by omega),if_pos (by omega)]
  have e1:(240+(c:Int) / 262144).toNat=240+c / 262144:=by omega
  have e2:(128+(c:Int) / 4096 % 64).toNat=128+c / 4096 % 64:=by omega
  have e3:(128+(c:Int) / 64 % 64).toNat=128+c / 64 % 64:=by omega
  have e4:(128+(c:Int) % 64).toNat=128+c % 64:=by omega
  simp only[List.map_cons,List.map_nil,e1,e2,e3,e4]

theorem gR (n:Nat) (h:n<256):(UInt8.ofNat n).toNat=n:=by
  simp only[UInt8.toNat_ofNat']
  omega

theorem ND {c:Nat} (h:vr c):c<1114112:=by unfold vr at h; omega
theorem CJ {c:Nat} (hv:vr c):(c<128∧enc c = [UInt8.ofNat c])∨(128≤c∧c<2048∧enc c = [UInt8.ofNat (192+c / 64),UInt8.ofNat (128+c % 64)]) ∨
    (2048≤c∧c<65536∧enc c = [UInt8.ofNat (224+c / 4096),UInt8.ofNat (128+c / 64 % 64),UInt8.ofNat (128+c % 64)]) ∨
    (65536≤c∧enc c = [UInt8.ofNat (240+c / 262144),UInt8.ofNat (128+c / 4096 % 64),UInt8.ofNat (128+c / 64 % 64),UInt8.ofNat (128+c % 64)]):=by
  have:=ND hv
  by_cases h1:c<128
  · exact .inl ⟨h1,enc1 h1⟩
  by_cases h2:c<2048
  · exact .inr (.inl ⟨by omega,h2,enc2 (by omega) h2⟩)
  by_cases h3:c<65536
  · exact .inr (.inr (.inl ⟨by omega,h3,enc3 (by omega) h3 hv⟩))
  · exact .inr (.inr (.inr ⟨by omega,enc4 (by omega) this⟩))

theorem B3 {c:Nat} (hv:vr c):1≤(enc c).length∧(enc c).length≤4:=by
  rcases CJ hv with ⟨_,e⟩|⟨_,_,e⟩|⟨_,_,e⟩|⟨_,e⟩ <;> rw[e] <;> simp

theorem Hx {c:Nat} (hv:vr c) (t:ak):decodeL (enc c++t)=(c,(enc c).length):=by
  have ln:=ND hv
  unfold vr at hv
  rw[decodeL_N]
  rcases CJ hv with ⟨h1,e⟩|⟨h0,h1,e⟩|⟨h0,h1,e⟩|⟨h0,e⟩ <;> rw[e]
  · simp only[List.cons_append,List.getD_cons_zero,gR c (by omega)]
    exact decodeN_ascii _ _ _ _ _ h1
  · simp only[List.cons_append,List.nil_append,List.getD_cons_zero,List.getD_cons_succ,gR (192+c / 64) (by omega),gR (128+c % 64) (by omega),List.length_cons]
    unfold decodeN
    rw[if_neg (by omega),if_pos ⟨by omega,by omega,by omega⟩,if_pos (by omega)]
    refine Prod.ext ?_ rfl
    show (192+c / 64) % 32*64+(128+c % 64) % 64=c
    omega
  · simp only[List.cons_append,List.nil_append,List.getD_cons_zero,List.getD_cons_succ,gR (224+c / 4096) (by omega),gR (128+c / 64 % 64) (by omega),gR (128+c % 64) (by omega),List.length_cons]
    unfold decodeN
    have k:(224+c / 4096) % 16*4096+(128+c / 64 % 64) % 64*64+(128+c % 64) % 64=c:=by omega
    rw[if_neg (by omega),if_neg (by omega),if_pos ⟨by omega,⟨by omega,by omega⟩,by omega,by omega⟩,k,if_pos (by omega)]
    simp only[List.length_nil]
  · simp only[List.cons_append,List.nil_append,List.getD_cons_zero,List.getD_cons_succ,gR (240+c / 262144) (by omega),gR (128+c / 4096 % 64) (by omega),gR (128+c / 64 % 64) (by omega),gR (128+c % 64) (by omega),List.length_cons]
    unfold decodeN
    have k:(240+c / 262144) % 8*262144+(128+c / 4096 % 64) % 64*4096+(128+c / 64 % 64) % 64*64+(128+c % 64) % 64=c:=by omega
    rw[if_neg (by omega),if_neg (by omega),if_neg (by omega),if_pos ⟨by omega,⟨by omega,by omega⟩,⟨by omega,by omega⟩,by omega,by omega⟩,k,if_pos (by omega)]
    simp only[List.length_nil]

def Sb (l:ak):Prop:=¬((decodeL l).1=65533∧(decodeL l).2=1)
instance (l:ak):Decidable (Sb l):=inferInstanceAs (Decidable (¬_))

theorem Qk {c:Nat} (hv:vr c) (t:ak):Sb (enc c++t):=by
  unfold Sb
  rw[Hx hv t]
  rintro ⟨h1,h2⟩
  simp only at h1 h2
  rw[h1]at h2
  rw[enc3 (by omega) (by omega) (by unfold vr; omega)]at h2
  cases h2

theorem Sc (n b0 b1 b2 b3:Nat) (h0:b0<256):vr (decodeN n b0 b1 b2 b3).1:=by
  unfold vr decodeN
  repeat' split
  all_goals simp only
  all_goals omega

theorem Xj (l:ak):vr (decodeL l).1:=by
  rw[decodeL_N]
  exact Sc _ _ _ _ _ (UInt8.toNat_lt _)

theorem Xk {l:ak} (lp:l ≠ []) (h:Sb l):l=enc (decodeL l).1++l.drop (decodeL l).2∧(enc (decodeL l).1).length=(decodeL l).2:=by
  have h1:=encode_decode l lp h
  have h2:=decodeL_le l lp
  refine ⟨?_,?_⟩
  · unfold enc
    rw[h1,List.take_append_drop]
  · unfold enc
    rw[h1,List.length_take]
    omega

theorem JC {l:ak} (lp:l ≠ []):iu l=if Sb l then iu (l.drop (decodeL l).2)else false:=by
  unfold iu
  rw[validD_step l lp]
  by_cases h:Sb l
  · rw[if_pos h,if_neg (show ¬((decodeL l).1=65533∧(decodeL l).2=1)from h)]
  · rw[if_neg h,if_pos (Decidable.not_not.1 h)]

theorem Xl {c:Nat} (hv:vr c) (t:ak):enc c++t ≠ []:=by
  have:=B3 hv
  intro e
  have:=congrArg List.length e
  rw[List.length_append,List.length_nil]at this
  omega

theorem Sd {c:Nat} (hv:vr c) (t:ak):iu (enc c++t)=iu t:=by
  rw[JC (Xl hv t),if_pos (Qk hv t),Hx hv t]
  simp

def cL (rs:List Nat):ak:=rs.flatMap enc

theorem JD:∀(rs:List Nat),(∀c∈rs,vr c)→∀t,iu (cL rs++t)=iu t
  | [],_,t=>rfl
  | c::rs,h,t=>by
    have:cL (c::rs)++t=enc c++(cL rs++t):=by simp[cL]
    rw[this,Sd (h c (by simp)),JD rs (fun x hx=>h x (by simp[hx]))]

theorem JE:∀(n:Nat) (l:ak),l.length≤n→iu l=true→∃rs:List Nat,(∀c∈rs,vr c)∧l=cL rs
  | 0,l,hl,_=>⟨[],by simp,List.eq_nil_of_length_eq_zero (by omega)⟩
  | n+1,l,hl,h=>by
    by_cases lp:l = []
    · exact ⟨[],by simp,lp⟩
    rw[JC lp]at h
    split at h
    · rename_i hg
      obtain ⟨h1,h2⟩:=Xk lp hg
      have h3:=B3 (Xj l)
      obtain ⟨rs,hr,e⟩:=JE n (l.drop (decodeL l).2) (by rw[List.length_drop]; omega) h
      refine ⟨(decodeL l).1::rs,?_,?_⟩
      · intro c hc
        rcases List.mem_cons.1 hc with rfl|hc
        · exact Xj l
        · exact hr c hc
      · exact h1.trans ((congrArg (enc (decodeL l).1 ++ ·) e).trans (by simp[cL]))
    · cases h

theorem xR {l:ak}:iu l=true↔∃rs:List Nat,(∀c∈rs,vr c)∧l=cL rs:=by
  refine ⟨JE l.length l (Nat.le_refl _),?_⟩
  rintro ⟨rs,hr,rfl⟩
  have:=JD rs hr []
  rw[List.append_nil]at this
  rw[this]; rfl

theorem Ql {s t:ak} {i:Nat} (h:i<s.length):(s++t).getD i 0=s.getD i 0:=by
  simp[List.getD,List.getElem?_append_left h]
end Go.ax

namespace Go.ax

theorem bH {R:Type} {b:Bool} {k:Option R} (h:b=true):cR b k=k:=by subst h; rfl

theorem ef {n:Int} (h1 : -9223372036854775808≤n) (h2:n≤9223372036854775807):IntKind.i64.wrap n=n:=by
  simp only[IntKind.wrap,IntKind.bits,IntKind.signed,IntKind.min,IntKind.max]
  simp
  omega

theorem Json.eta (x:Json):(⟨x.kind,⟨x.num.aw,x.num.exp⟩,x.text,x.names,x.items⟩:Json)=x:=by cases x; rfl
theorem Raw.eta (x:Raw):(⟨x.kind,x.aw,x.exp,x.text,x.items⟩:Raw)=x:=by cases x; rfl

theorem getD_at {α:Type} {l:List α} {i:Nat} (h:i<l.length) (d:α):l.getD i d=l[i]:=by simp[List.getD,h]
end Go.ax

set_option maxRecDepth 100000
namespace Go.Proofs.YtmlkkgfenfdndaaGreatDoor
open Go Go.ax Go.RowKit Go.Shelf

section
variable {w w':World} {h:ay} {c:jZ} {R:Type}

theorem below_drewN:∀(q:Nat) (a:World),Below w.heap.size w a→Below w.heap.size w (a.drewN q)
  | 0,_,ha=>ha
  | q+1,a,ha=>(below_drewN q a ha).drew

theorem Se (a:World) (os:Array Obj) (ha:Below w.heap.size w a):Below w.heap.size w { a with heap:=a.heap++os } :=
  ⟨ha.os,ha.tape,ha.output,by simp; have:=ha.size; omega,fun k hk=>by
    have:=ha.size
    rw[←ha.block k hk]
    exact Array.getElem?_append_left (by omega)⟩

theorem Qm (e:TypeId) (t:ByteArray):Below w.heap.size w (Go.Lib.bytesWorld w e t):=by
  unfold Go.Lib.bytesWorld World.freeze
  have hb:Below w.heap.size w (w.drew.alloc (.cells (Go.Lib.bytesCells w e t) e)):=xK w _
  split
  · exact hb
  · refine ⟨hb.os,hb.tape,hb.output,?_,fun k hk => ?_⟩
    · have:=hb.size; simpa using this
    · rw[←hb.block k hk]
      simp only[Array.getElem?_modify]
      rw[if_neg (by show ¬w.heap.size=k; omega)]

theorem Xm (s cs:ak):(bC s cs).length≤s.length:=Fp _ s
theorem Xn (s cs:ak):(cM s cs).length≤s.length:=by
  unfold cM
  rw[List.length_reverse]
  exact Nat.le_trans (Fp _ _) (by simp)
theorem UF (s:ak):bC s []=s:=by
  unfold bC
  cases s with
  | nil=>rfl
  | cons b s=>simp
theorem UG (s:ak):cM s []=s:=by
  unfold cM
  have:(s.reverse.dropWhile fun x=>List.contains [] x)=s.reverse:=by
    cases s.reverse with
    | nil=>rfl
    | cons b s=>simp
  rw[this,List.reverse_reverse]
theorem UH (s:ak) (b:UInt8):bC s [b]=Go.Lib.trimLeftB s b:=by
  unfold bC Go.Lib.trimLeftB
  congr 1
  funext x
  rw[List.contains_cons]
  show (x==b||false)=_
  rw[Bool.or_false]
theorem UI (s:ak) (b:UInt8):cM s [b]=Go.Lib.trimRightB s b:=by
  unfold cM Go.Lib.trimRightB
  congr 2
  funext x
  rw[List.contains_cons]
  show (x==b||false)=_
  rw[Bool.or_false]

theorem Xo:ax.Spec.Ok Tryz.prog 72 (OM R):=by
  refine oQ Tryz.func72 rfl rfl fun vs hp k r hk w c args wf ra => ?_
  unfold OM at hk
  split at hk <;> try (first|cases hk)
  rename_i s
  obtain ⟨a,rfl,r1⟩:=NC ra
  obtain ⟨t,rfl,rfl,hl⟩:=r1.kr
  refine ⟨_,hk,mo (Any.utf8_ValidString Tryz.W7 t w hl wf.lay.1.1) ?_⟩
  rintro e w' ⟨he,hb⟩
  exact ⟨_,he,hb, .bool _⟩

theorem dec_ok:ax.Spec.Ok Tryz.prog 130 (Xh R):=by
  refine oQ Tryz.func130 rfl rfl fun vs hp k r hk w c args wf ra => ?_
  unfold Xh at hk
  split at hk <;> try (first|cases hk)
  rename_i s
  obtain ⟨a,rfl,r1⟩:=NC ra
  obtain ⟨t,rfl,rfl,hl⟩:=r1.kr
  have hd:Go.Lib.decodeGo t=pq t.data.toList:=by
    unfold Go.Lib.decodeGo pq
    by_cases h0:t.size=0
    · have:t.data.toList = []:=List.eq_nil_of_length_eq_zero (by rw[size_data]; exact h0)
      simp[h0,this]
    · have:t.data.toList ≠ []:=fun e=>h0 (by rw[←size_data,e]; rfl)
      have hm:(⟨t.data.toList.toArray⟩:ByteArray)=t:=se rfl
      simp[h0,hm]
      exact fun e=>absurd (show t.data.size=0 by rw[e]; rfl) h0
  have ln:(pq t.data.toList).1<2097152∧(pq t.data.toList).2≤4:=by
    unfold pq
    split
    · exact ⟨by omega,by omega⟩
    · exact ⟨(ID _ _).1,(ID _ _).2.2⟩
  refine ⟨_,hk,mo (Any.utf8_DecodeRuneInString Tryz.lay197 t w wf.lay.1.1) ?_⟩
  rintro e w' ⟨he,hb⟩
  rw[hd]at he
  refine ⟨_,he,hb, .tuple rfl fun j v d hv hd => ?_⟩
  match j,hv,hd with
  | 0,hv,hd=>simp at hv hd; subst hv; subst hd; exact .int (PZ _ ln.1)
  | 1,hv,hd=>simp at hv hd; subst hv; subst hd; exact .int (C8 _ (by unfold mx; omega))
  | j+2,hv,_=>simp at hv

theorem Zn:ax.Spec.Ok Tryz.prog 66 (Sa R):=by
  refine oQ Tryz.func66 rfl rfl fun vs hp k r hk w c args wf ra => ?_
  unfold Sa at hk
  split at hk <;> try (first|cases hk)
  rename_i n
  obtain ⟨a,rfl,r1⟩:=NC ra
  obtain ⟨rfl,hn⟩:=r1.iI
  have Pe : -9223372036854775808≤n∧n≤9223372036854775807:=by simpa [IntKind.has,IntKind.min,IntKind.max,IntKind.signed,IntKind.bits]using hn
  refine ⟨_,hk,mo (Any.strconv_Itoa Tryz.lay171 n Pe.1 Pe.2 w wf.lay.1.2.1) ?_⟩
  rintro e w' ⟨he,q,os,rfl⟩
  refine ⟨_,he,Se _ os (below_drewN q w (Below.refl _ _)),OP _ ?_⟩
  have:=Go.Lib.itoa_length_le n Pe.1 Pe.2
  unfold cn mx
  omega

theorem x72:Builder.X72 Tryz.prog Tryz.Dn := { sizeBuilder:=by kernel_rfl,liesBuilder:=by kernel_rfl }
theorem Xp:Builder.Extra Tryz.prog Tryz.Dn := { x72 with t5:=Tryz.underlying5,a5:=Tryz.isAgg5,z5:=Tryz.sizeOf5,v5:=Tryz.zeroValue5,infoByte:=by kernel_rfl,cellsByte:=by kernel_rfl,sizeByte:=by kernel_rfl,neB5:=by decide }

theorem rep_ok:ax.Spec.Ok Tryz.prog 67 (Xi R):=by
  refine oQ Tryz.func67 rfl rfl fun vs hp k r hk w c args wf ra => ?_
  unfold Xi at hk
  split at hk <;> try (first|cases hk)
  rename_i s n
  obtain ⟨hc,hk⟩:=cq hk
  simp only[Bool.and_eq_true,decide_eq_true_eq]at hc
  obtain ⟨h0,hlen⟩:=hc
  obtain ⟨a,b,rfl,r1,r2⟩:=Qj ra
  obtain ⟨t,rfl,rfl,hl⟩:=r1.kr
  obtain ⟨rfl,hn⟩:=r2.iI
  obtain ⟨m,rfl⟩:=Int.eq_ofNat_of_zero_le h0
  have Pe:(m:Int)≤9223372036854775807:=by
    have:IntKind.i64.has (m:Int):=hn
    simp[IntKind.has,IntKind.min,IntKind.max,IntKind.signed,IntKind.bits]at this
    omega
  rw[size_data]at hlen
  have aaf:t.size*m≤140737488355328:=by omega
  have hrl:(Go.Lib.repeatL t.data.toList m).length≤140737488355328:=by
    rw[Go.Lib.repeatL_length,size_data,Nat.mul_comm]; exact aaf
  refine ⟨_,hk,mo (Any.strings_Repeat Tryz.W8 Xp t m w (by omega) aaf) ?_⟩
  rintro e w' ⟨he,hb⟩
  refine ⟨_,he,hb,?_⟩
  have e2:lq t.data.toList (m:Int)=Go.Lib.repeatL t.data.toList m:=by unfold lq; simp
  rw[e2]
  exact OP _ (by unfold mx; omega)

theorem Lx:ax.Spec.Ok Tryz.prog 68 (Hw R):=by
  refine oQ Tryz.func68 rfl rfl fun vs hp k r hk w c args wf ra => ?_
  unfold Hw at hk
  split at hk <;> try (first|cases hk)
  rename_i s cs
  obtain ⟨hc,hk⟩:=cq hk
  simp only[Bool.and_eq_true,decide_eq_true_eq]at hc
  obtain ⟨ha,El⟩:=hc
  obtain ⟨a,b,rfl,r1,r2⟩:=Qj ra
  obtain ⟨t,rfl,rfl,hl⟩:=r1.kr
  obtain ⟨u,rfl,rfl,SD⟩:=r2.kr
  rw[size_data]at El
  have Xq:=Ks ha
  have hle:=Xm t.data.toList u.data.toList
  rw[size_data]at hle
  have fin:∀(l:ak),l=bC t.data.toList u.data.toList→∀w':World,dw w' hp c (.str (bC t.data.toList u.data.toList)) (.string ⟨l.toArray⟩):=fun l e w'=>by
    rw[e]; exact OP _ (by omega)
  by_cases h0:t.size=0∨u.size=0
  · refine ⟨_,hk,mo (Any.strings_TrimLeft_empty Tryz.R2 t u w h0) ?_⟩
    rintro e w' ⟨he,rfl⟩
    have e2:(⟨t.data.toList.toArray⟩:ByteArray)=t:=se rfl
    rw[←e2]at he
    refine ⟨_,he,Below.refl _ _,fin _ ?_ _⟩
    rcases h0 with h0|h0
    · have:t.data.toList = []:=List.eq_nil_of_length_eq_zero (by rw[size_data]; exact h0)
      rw[this]; unfold bC; simp
    · have:u.data.toList = []:=List.eq_nil_of_length_eq_zero (by rw[size_data]; exact h0)
      rw[this,UF]
  · have hu1:u.size=1∨2≤u.size:=by omega
    rcases hu1 with hu1|ZX
    · obtain ⟨b,hb⟩:∃b,u.data.toList = [b]:=by
        have hul:u.data.toList.length=1:=by rw[size_data]; exact hu1
        match hq:u.data.toList,hul with
        | [b],_=>exact ⟨b,rfl⟩
      have eu:u=⟨#[b]⟩:=se (by rw[hb])
      subst eu
      refine ⟨_,hk,mo (Any.strings_TrimLeft_one Tryz.R2 t b (Xq 0 b rfl) w) ?_⟩
      rintro e w' ⟨he,rfl⟩
      exact ⟨_,he,Below.refl _ _,fin _ (UH _ _).symm _⟩
    · refine ⟨_,hk,mo (Any.strings_TrimLeft_set Tryz.R2 Tryz.zeroValue135 (by kernel_rfl) t u w ZX (by omega) (by omega) Xq) ?_⟩
      rintro e w' ⟨he,rfl⟩
      refine ⟨_,he,?_,fin _ rfl _⟩
      exact ((Below.refl _ _).alloc (Nat.le_refl _) _).alloc (by simp) _

theorem Xr:ax.Spec.Ok Tryz.prog 104 (ON R):=by
  refine oQ Tryz.func104 rfl rfl fun vs hp k r hk w c args wf ra => ?_
  unfold ON at hk
  split at hk <;> try (first|cases hk)
  rename_i s cs
  obtain ⟨hc,hk⟩:=cq hk
  simp only[Bool.and_eq_true,decide_eq_true_eq]at hc
  obtain ⟨ha,El⟩:=hc
  obtain ⟨a,b,rfl,r1,r2⟩:=Qj ra
  obtain ⟨t,rfl,rfl,hl⟩:=r1.kr
  obtain ⟨u,rfl,rfl,SD⟩:=r2.kr
  rw[size_data]at El
  have Xq:=Ks ha
  have hle:=Xn t.data.toList u.data.toList
  rw[size_data]at hle
  have fin:∀(l:ak),l=cM t.data.toList u.data.toList→∀w':World,dw w' hp c (.str (cM t.data.toList u.data.toList)) (.string ⟨l.toArray⟩):=fun l e w'=>by
    rw[e]; exact OP _ (by omega)
  by_cases h0:t.size=0∨u.size=0
  · refine ⟨_,hk,mo (Any.strings_TrimRight_empty Tryz.R4 t u w h0) ?_⟩
    rintro e w' ⟨he,rfl⟩
    have e2:(⟨t.data.toList.toArray⟩:ByteArray)=t:=se rfl
    rw[←e2]at he
    refine ⟨_,he,Below.refl _ _,fin _ ?_ _⟩
    rcases h0 with h0|h0
    · have:t.data.toList = []:=List.eq_nil_of_length_eq_zero (by rw[size_data]; exact h0)
      rw[this]; unfold cM; simp
    · have:u.data.toList = []:=List.eq_nil_of_length_eq_zero (by rw[size_data]; exact h0)
      rw[this,UG]
  · have hu1:u.size=1∨2≤u.size:=by omega
    rcases hu1 with hu1|ZX
    · obtain ⟨b,hb⟩:∃b,u.data.toList = [b]:=by
        have hul:u.data.toList.length=1:=by rw[size_data]; exact hu1
        match hq:u.data.toList,hul with
        | [b],_=>exact ⟨b,rfl⟩
      have eu:u=⟨#[b]⟩:=se (by rw[hb])
      subst eu
      refine ⟨_,hk,mo (Any.strings_TrimRight_one Tryz.R4 t b (Xq 0 b rfl) w hl) ?_⟩
      rintro e w' ⟨he,rfl⟩
      exact ⟨_,he,Below.refl _ _,fin _ (UI _ _).symm _⟩
    · refine ⟨_,hk,mo (Any.strings_TrimRight_set Tryz.R4 Tryz.zeroValue135 (by kernel_rfl) t u w ZX (by omega) hl (by omega) Xq) ?_⟩
      rintro e w' ⟨he,rfl⟩
      refine ⟨_,he,?_,fin _ rfl _⟩
      exact ((Below.refl _ _).alloc (Nat.le_refl _) _).alloc (by simp) _

theorem S8:ax.Spec.Ok Tryz.prog 105 (OO R):=by
  refine oQ Tryz.func105 rfl rfl fun vs hp k r hk w c args wf ra => ?_
  unfold OO at hk
  split at hk <;> try (first|cases hk)
  rename_i s
  obtain ⟨hc,hk⟩:=cq hk
  simp only[decide_eq_true_eq]at hc
  obtain ⟨a,rfl,r1⟩:=NC ra
  obtain ⟨t,rfl,rfl,hl⟩:=r1.kr
  rw[size_data]at hc
  obtain ⟨_,_,⟨t1,x1,Tx⟩,⟨t2,x2,hv2⟩⟩:=wf.lay.1
  have BA:IntKind.i64.has (dZ t.data.toList):=by
    unfold dZ
    split
    · rename_i v hv
      unfold Go.Lib.atoiAll at hv
      split at hv
      · cases hv
      · dsimp only at hv
        split at hv
        · cases hv
        · cases hv
        · rename_i u _
          split at hv
          · cases hv
          · split at hv
            · cases hv
            · cases hv
              split <;> simp[IntKind.has,IntKind.min,IntKind.max,IntKind.signed,IntKind.bits] <;> omega
    · unfold Go.Lib.atoiSat
      split <;> simp[IntKind.has,IntKind.min,IntKind.max,IntKind.signed,IntKind.bits]
    · simp[IntKind.has,IntKind.min,IntKind.max,IntKind.signed,IntKind.bits]
  have two:∀(z:Int) (u:V) (w':World) (x:Value),dZ t.data.toList=z→dw w' hp c u x→dw w' hp c (.tuple [.int .i64 (dZ t.data.toList),u]) (.tuple #[.int .i64 z,x]):=fun z u w' x hz hx=>by
    subst hz
    refine .tuple rfl fun j v d hv hd => ?_
    match j,hv,hd with
    | 0,hv,hd=>simp at hv hd; subst hv; subst hd; exact .int BA
    | 1,hv,hd=>simp at hv hd; subst hv; subst hd; exact hx
    | j+2,hv,_=>simp at hv
  rcases hA:Go.Lib.atoiAll t.data.toList with v|_|_
  ·
    have e1:sj t.data.toList=true:=by unfold sj; rw[hA]
    have e2:dZ t.data.toList=v:=by unfold dZ; rw[hA]
    rw[e1]at hk
    refine ⟨_,hk,mo (Any.strconv_Atoi_ok Tryz.R6 t (by omega) v hA w) ?_⟩
    rintro e w' ⟨he,hb⟩
    refine ⟨_,he,?_,two _ _ _ _ e2 .cJ⟩
    rcases hb with rfl|⟨q,rfl⟩
    · exact Below.refl _ _
    · exact Qm _ _
  ·
    have e1:sj t.data.toList=false:=by unfold sj; rw[hA]
    have e2:dZ t.data.toList=0:=by unfold dZ; rw[hA]
    rw[e1]at hk
    refine ⟨_,hk,mo (Any.strconv_Atoi_syntax Tryz.R6 t hc hA (.iface t1 x1) w Tx (.inr ⟨_,_,rfl⟩)) ?_⟩
    rintro e w' ⟨q,he,_,_,hb⟩
    exact ⟨_,he,hb,two _ _ _ _ e2 (.iface _ _)⟩
  ·
    have e1:sj t.data.toList=false:=by unfold sj; rw[hA]
    have e2:dZ t.data.toList=Go.Lib.atoiSat t.data.toList:=by unfold dZ; rw[hA]
    rw[e1]at hk
    refine ⟨_,hk,mo (Any.strconv_Atoi_range Tryz.R6 t hc hA (.iface t2 x2) w hv2 (.inr ⟨_,_,rfl⟩)) ?_⟩
    rintro e w' ⟨q,he,_,_,hb⟩
    exact ⟨_,he,hb,two _ _ _ _ e2 (.iface _ _)⟩

theorem toErr_ok:ax.Spec.Ok Tryz.prog 136 (toErr_S R 184):=by
  refine oQ Tryz.func136 rfl rfl fun vs hp k r hk w c args wf ra => ?_
  unfold toErr_S at hk
  split at hk <;> try (first|cases hk)
  rename_i fn s b1 b2 t n
  obtain ⟨hc,Uh⟩:=cq hk
  obtain ⟨Jq,Gq⟩:=cq Uh
  simp only[Bool.and_eq_true,Bool.or_eq_true,beq_iff_eq,decide_eq_true_eq]at hc Jq
  obtain ⟨ht,hn⟩:=hc
  have ht:=Nat.eq_of_beq_eq_true ht
  subst ht
  obtain ⟨l⟩:=args
  match l,ra with
  | [a1,a2,a3,a4,a5],ra =>
    obtain ⟨t1,rfl,rfl,_⟩:=ra.head.kr
    obtain ⟨t2,rfl,rfl,SD⟩:=ra.tail.head.kr
    obtain ⟨rfl,_⟩:=ra.tail.tail.head.iI
    obtain ⟨rfl,_⟩:=ra.tail.tail.tail.head.iI
    obtain ⟨rfl,_⟩:=ra.tail.tail.tail.tail.head.Oe
    rw[size_data]at Jq
    obtain ⟨_,_,⟨p1,x1,Tx⟩,⟨p2,x2,hv2⟩⟩:=wf.lay.1
    rcases hn with rfl|rfl
    · refine ⟨_,Gq,mo (Any.strconv_toError_syntax Tryz.W9 t1 t2 b1 b2 (.iface p1 x1) w Jq Tx (.inr ⟨_,_,rfl⟩)) ?_⟩
      rintro e w' ⟨q,he,_,_,hb⟩
      exact ⟨_,he,hb, .iface _ _⟩
    · refine ⟨_,Gq,mo (Any.strconv_toError_range Tryz.W9 t1 t2 b1 b2 (.iface p2 x2) w Jq hv2 (.inr ⟨_,_,rfl⟩)) ?_⟩
      rintro e w' ⟨q,he,_,_,hb⟩
      exact ⟨_,he,hb, .iface _ _⟩
  | [],ra=>have:=ra.1; simp at this
  | [_],ra=>have:=ra.1; simp at this
  | [_,_],ra=>have:=ra.1; simp at this
  | [_,_,_],ra=>have:=ra.1; simp at this
  | [_,_,_,_],ra=>have:=ra.1; simp at this
  | _::_::_::_::_::_::_,ra=>have:=ra.1; simp at this

theorem UJ:ax.Spec.Ok Tryz.prog 173 (Lw R):=by
  refine oQ Tryz.func173 rfl rfl fun vs hp k r hk w c args wf ra => ?_
  unfold Lw at hk
  split at hk <;> try (first|cases hk)
  rename_i s cs
  obtain ⟨hc,hk⟩:=cq hk
  simp only[Bool.and_eq_true,decide_eq_true_eq]at hc
  obtain ⟨⟨⟨ha,hb⟩,Zd⟩,El⟩:=hc
  obtain ⟨a,b,rfl,r1,r2⟩:=Qj ra
  obtain ⟨t,rfl,rfl,hl⟩:=r1.kr
  obtain ⟨u,rfl,rfl,SD⟩:=r2.kr
  rw[size_data]at Zd El
  refine ⟨_,hk,mo (Any.strings_ContainsAny_laid Tryz.lay150 (by kernel_rfl) t u w Zd El (Ks ha) (Ks hb)) ?_⟩
  rintro e w' ⟨he,hb⟩
  exact ⟨_,he,hb, .bool _⟩

theorem Xs:ax.Spec.Ok Tryz.prog 71 (S7 R):=by
  refine oQ Tryz.func71 rfl rfl fun vs hp k r hk w c args wf ra => ?_
  unfold S7 at hk
  split at hk <;> try (first|cases hk)
  rename_i s ch
  obtain ⟨a,b,rfl,r1,r2⟩:=Qj ra
  obtain ⟨t,rfl,rfl,hl⟩:=r1.kr
  obtain ⟨rfl,hn⟩:=r2.iI
  have hb:IntKind.i64.has (Go.Lib.indexByte t.data.toList ch.toNat.toUInt8):=by
    have h1:=Go.Lib.indexByte_ge t.data.toList ch.toNat.toUInt8
    have h2:Go.Lib.indexByte t.data.toList ch.toNat.toUInt8≤t.data.toList.length:=by
      generalize t.data.toList=l
      induction l with
      | nil=>simp[Go.Lib.indexByte]
      | cons x l ih =>
        have:=Go.Lib.indexByte_ge l ch.toNat.toUInt8
        unfold Go.Lib.indexByte
        split
        · simp; omega
        · split
          · simp; omega
          · simp; omega
    rw[size_data]at h2
    unfold mx at hl
    generalize Go.Lib.indexByte t.data.toList ch.toNat.toUInt8=z at h1 h2
    simp[IntKind.has,IntKind.min,IntKind.max,IntKind.signed,IntKind.bits]; omega
  refine ⟨_,hk,mo (Any.strings_IndexByte Tryz.lay137 t ch w) ?_⟩
  rintro e w' ⟨he,rfl⟩
  exact ⟨_,he,Below.refl _ _, .int hb⟩

theorem bccL:Lays.n240 Tryz.prog Tryz.Dn := { Tryz.W8 with }
theorem Ly:ax.Spec.Ok Tryz.prog 73 (JB R) :=
  bcc_ok Tryz.func73 rfl rfl (fun b w h0 hs hf=>Any.Builder_copyCheck_fresh bccL x72 b w h0 hs hf) (fun b w h0=>Any.Builder_copyCheck_used bccL x72 b w h0)

theorem S9:Lays.n169 Tryz.prog Tryz.GF:=Tryz.lay169
theorem B4:Builder.Extra Tryz.prog Tryz.GF := { sizeBuilder:=by kernel_rfl,liesBuilder:=by kernel_rfl,t5:=Tryz.underlying5,a5:=Tryz.isAgg5,z5:=Tryz.sizeOf5,v5:=Tryz.zeroValue5,infoByte:=by kernel_rfl,cellsByte:=by kernel_rfl,sizeByte:=by kernel_rfl,neB5:=by decide }

set_option maxHeartbeats 1000000 in
theorem Qn (b q cap:Nat) (p:Value) (cur:Array Value) (fz:Nat × Nat) (l:List UInt8) (w:World) (h0:l ≠ []) (SJ:w.heap[b]? = some (.cells #[p, .slice (some ⟨q,0,none⟩) l.length cap] oq.kq (0,0)))
    (hq:w.heap[q]? = some (.cells cur oq.u8 fz)) (hnc:l.length≤cap) (hcm:cap≤mx) (p6:l.length≤cur.size) (xA:∀(j:Nat) (x:UInt8),l[j]? = some x→w.cell? ⟨q,j,none⟩=some (.int .u8 x.toNat)) :
    Calls Tryz.prog 39 #[.pointer (some ⟨b,0,none⟩)] w fun e w'=>e = .returned (.string ⟨l.toArray⟩)∧w'=w.drew.freeze ⟨q,0,none⟩ l.length:=by
  have Jq:l.length≠0:=by simpa using h0
  have L:=S9
  have X:=B4
  have c1:w.drew.cell? ⟨b,1,none⟩=some (.slice (some ⟨q,0,none⟩) l.length cap):=by
    have h1:w.drew.heap[b]? = some (.cells #[p, .slice (some ⟨q,0,none⟩) l.length cap] oq.kq (0,0)):=SJ
    rw[Lib.cell_of_heap h1]; rfl
  have hSD:(Builtin.unsafeSliceData_ #[41] 106 #[.slice (some ⟨q,0,none⟩) l.length cap]).run Tryz.prog w.drew = .ok (.pointer (some ⟨q,0,none⟩)) w.drew :=
    Lib.run_unsafeSliceData_row _ _ _ _ _ _ (by omega)
  have hUS:(Builtin.unsafeString_ #[106,3] 9 #[.pointer (some ⟨q,0,none⟩), .int .i64 l.length]).run Tryz.prog w.drew = .ok (.string ⟨l.toArray⟩) (w.drew.freeze ⟨q,0,none⟩ l.length):=by
    refine Lib.run_unsafeString_row w.drew 106 3 9 5 L.t127 X.cellsByte q cur.size (by have hq':w.drew.heap[q]? = some (.cells cur 5 fz):=hq; simp[World.shape?,hq']) l h0 p6 (by unfold mx at hcm; omega) ?_
    intro j x hx
    have:=xA j x hx
    rw[ax.sQ,Nat.zero_add]
    exact this
  have mixed:=L.mixed
  have t72:=L.t72; have a72:=L.a72; have z72:=L.z72; have v72:=L.v72; have u72:=run_underlying L.t72
  have t70:=L.t70; have a70:=L.a70; have z70:=L.z70; have v70:=L.v70; have u70:=run_underlying L.t70
  have t37:=L.t37; have a37:=L.a37; have z37:=L.z37; have v37:=L.v37; have u37:=run_underlying L.t37
  have t127:=L.t127; have a127:=L.a127; have z127:=L.z127; have v127:=L.v127; have u127:=run_underlying L.t127
  have t3:=L.t3; have a3:=L.a3; have z3:=L.z3; have v3:=L.v3; have u3:=run_underlying L.t3
  have t9:=L.t9; have a9:=L.a9; have z9:=L.z9; have v9:=L.v9; have u9:=run_underlying L.t9
  have t5:=X.t5; have a5:=X.a5; have z5:=X.z5; have v5:=X.v5; have u5:=run_underlying X.t5
  go_enter Tryz.func39,Tryz.ntmps39
  go_wp2
  go_region_o
  all_goals (go_wp2; go_ret; exact ⟨rfl,rfl⟩)

set_option maxHeartbeats 2000000 in
theorem MH (b q:Nat) (p:Value) (cur:Array Value) (fz:Nat × Nat) (w:World) (SJ:w.heap[b]? = some (.cells #[p, .slice (some ⟨q,0,none⟩) 0 0] oq.kq (0,0))) (hq:w.heap[q]? = some (.cells cur oq.u8 fz)) :
    Calls Tryz.prog 39 #[.pointer (some ⟨b,0,none⟩)] w fun e w'=>e = .returned (.string ⟨#[]⟩)∧Below w.heap.size w w':=by
  have L:=S9
  have X:=B4
  have hUS:∀(W:World) (q:Option Addr),(Builtin.unsafeString_ #[106,3] 9 #[.pointer q, .int .i64 0]).run Tryz.prog W = .ok (.string .empty) W:=fun W q=>Lib.run_unsafeString_none W _ _ _ q
  have ln:b<w.heap.size:=by
    rcases Nat.lt_or_ge b w.heap.size with h'|h'
    · exact h'
    · simp[Array.getElem?_eq_none h']at SJ
  have c1:w.drew.cell? ⟨b,1,none⟩=some (.slice (some ⟨q,0,none⟩) 0 0):=by
    have:w.drew.heap[b]? = some (.cells #[p, .slice (some ⟨q,0,none⟩) 0 0] oq.kq (0,0)):=SJ
    rw[Lib.cell_of_heap this]; rfl
  have hSD:(Builtin.unsafeSliceData_ #[41] 106 #[.slice (some ⟨q,0,none⟩) 0 0]).run Tryz.prog w.drew = .ok (.pointer (some ⟨w.drew.heap.size,0,none⟩)) (w.drew.alloc (.view ⟨q,0,none⟩ 5)) :=
    Lib.run_unsafeSliceData_zero w.drew _ _ 5 L.t127 ⟨q,0,none⟩ 0 (5,cur.size) (by have hq':w.drew.heap[q]? = some (.cells cur 5 fz):=hq; simp[World.shape?,hq'])
  have c2:(w.drew.alloc (.view ⟨q,0,none⟩ 5)).cell? ⟨b,1,none⟩=some (.slice (some ⟨q,0,none⟩) 0 0):=by
    have:(w.drew.alloc (.view ⟨q,0,none⟩ 5)).heap[b]? = _:=(Lib.alloc_old w.drew _ b ln).trans SJ
    rw[Lib.cell_of_heap this]; rfl
  have c3:(w.alloc (.view ⟨q,0,none⟩ 5)).drew.cell? ⟨b,1,none⟩=some (.slice (some ⟨q,0,none⟩) 0 0):=c2
  have c0:w.cell? ⟨b,1,none⟩=some (.slice (some ⟨q,0,none⟩) 0 0):=c1
  have mixed:=L.mixed
  have t72:=L.t72; have a72:=L.a72; have z72:=L.z72; have v72:=L.v72; have u72:=run_underlying L.t72
  have t70:=L.t70; have a70:=L.a70; have z70:=L.z70; have v70:=L.v70; have u70:=run_underlying L.t70
  have t37:=L.t37; have a37:=L.a37; have z37:=L.z37; have v37:=L.v37; have u37:=run_underlying L.t37
  have t127:=L.t127; have a127:=L.a127; have z127:=L.z127; have v127:=L.v127; have u127:=run_underlying L.t127
  have t3:=L.t3; have a3:=L.a3; have z3:=L.z3; have v3:=L.v3; have u3:=run_underlying L.t3
  have t9:=L.t9; have a9:=L.a9; have z9:=L.z9; have v9:=L.v9; have u9:=run_underlying L.t9
  have t5:=X.t5; have a5:=X.a5; have z5:=X.z5; have v5:=X.v5; have u5:=run_underlying X.t5
  go_enter Tryz.func39,Tryz.ntmps39
  go_wp2
  go_region_o
  all_goals (go_wp2; go_ret; exact ⟨rfl,(Below.drew (Below.refl _ w)).alloc (Nat.le_refl _) _⟩)

theorem Qo:Lv Tryz.prog 39 where
  nil:=fun b p w SJ=>Any.Builder_String_nil S9 B4 w.heap.size b p w SJ
  Xf:=MH
  room:=fun b q cap p w hc SJ=>Any.Builder_String_room S9 B4 w.heap.size b q cap p w hc SJ
  some:=Qn

theorem Kt:ax.Spec.Ok Tryz.prog 39 (Dp R):=Zm Tryz.func39 rfl rfl Qo

end
end Go.Proofs.YtmlkkgfenfdndaaGreatDoor

/-
  Functions of the program as pure Lean functions, and the ties; printed by wip/tools/emit.py.
-/
set_option maxRecDepth 100000
namespace Go.Proofs.YtmlkkgfenfdndaaGreatDoor
open Go Go.ax

/-! ### humpyard/humpyardlaw04.pick -/
abbrev oR (R:Type):Type:=Int→Int→(Int→Option R)→Option R
abbrev Ae:List bJ := [.leaf (.int .i64), .leaf (.int .i64)]
abbrev Af:List aF := []
noncomputable def F2 {R:Type} (fn:oR R):bJ.au Ae→aF.au Af→(V→ay→Option R)→Option R:=fun x y k=>fn x.1 x.2.1 (fun q0=>k (.int .i64 q0) [])
noncomputable def Ag (R:Type):Env R:=fun i=>match i with
  | _=>none
theorem Lz (R:Type):po Tryz.prog (Ag R):=by
  intro i b sp h
  unfold Ag at h
  split at h
  · cases h

noncomputable def Hy (R:Type):Nat→Option (Hint × cd R):=fun i=>match i with
  | _=>none

noncomputable def Hz {R:Type} (x1:Int) (x2:Int) (k0:Int→Option R):Option R :=
  bif (decide (x1<(0:Int)))then (cR (!decide (x2=0)) (k0 (Int.tmod (IntKind.i64.wrap (0 - (IntKind.i64.wrap (x1+1)))) x2)))else (cR (!decide (x2=0)) (k0 (Int.tmod x1 x2)))
noncomputable def eI {R:Type}:oR R:=fun x1 x2 k0=>Hz x1 x2 k0
theorem MI {R:Type} (x1:Int) (x2:Int) (k:V→ay→Option R):iq tt (Ag R) (Hy R) false Tryz.f35 (aI Tryz.f35) [.int .i64 x1, .int .i64 x2] [] k =
    Hz x1 x2 (fun q0=>k (.int .i64 q0) []):=by kernel_rfl
theorem IP (R:Type):∀a∈aO (aI Tryz.f35),cG tt (Ag R) (Hy R) 0 a:=by
  refine bB 0 (by kernel_rfl) fun i hi => ?_
  omega
theorem JU (R:Type) (other:ax.Spec R) (ho:ax.Spec.Ok Tryz.prog 35 other):ax.Spec.Ok Tryz.prog 35 (az Ae Af (F2 eI) other) :=
  bm ho (bc TT mixed (Lz R) (keep:=false) rfl rfl rfl rfl 0 (IP R)) fun (x:bJ.au Ae) (y:aF.au Af) k=>MI x.1 x.2.1 k

/-! ### humpyard/humpyardlaw01.pick -/
abbrev qT (R:Type):Type:=Int→Int→(Int→Option R)→Option R
abbrev Ah:List bJ := [.leaf (.int .i64), .leaf (.int .i64)]
abbrev Ai:List aF := []
noncomputable def F3 {R:Type} (fn:qT R):bJ.au Ah→aF.au Ai→(V→ay→Option R)→Option R:=fun x y k=>fn x.1 x.2.1 (fun q0=>k (.int .i64 q0) [])
noncomputable def Aj (R:Type):Env R:=fun i=>match i with
  | _=>none
theorem LA (R:Type):po Tryz.prog (Aj R):=by
  intro i b sp h
  unfold Aj at h
  split at h
  · cases h

noncomputable def HA (R:Type):Nat→Option (Hint × cd R):=fun i=>match i with
  | _=>none

noncomputable def HB {R:Type} (x1:Int) (x2:Int) (k0:Int→Option R):Option R :=
  bif (decide (x1<(0:Int)))then (cR (!decide (x2=0)) (k0 (Int.tmod (IntKind.i64.wrap (0 - (IntKind.i64.wrap (x1+1)))) x2)))else (cR (!decide (x2=0)) (k0 (Int.tmod x1 x2)))
noncomputable def fX {R:Type}:qT R:=fun x1 x2 k0=>HB x1 x2 k0
theorem MJ {R:Type} (x1:Int) (x2:Int) (k:V→ay→Option R):iq tt (Aj R) (HA R) false Tryz.f54 (aI Tryz.f54) [.int .i64 x1, .int .i64 x2] [] k =
    HB x1 x2 (fun q0=>k (.int .i64 q0) []):=by kernel_rfl
theorem IQ (R:Type):∀a∈aO (aI Tryz.f54),cG tt (Aj R) (HA R) 0 a:=by
  refine bB 0 (by kernel_rfl) fun i hi => ?_
  omega
theorem JV (R:Type) (other:ax.Spec R) (ho:ax.Spec.Ok Tryz.prog 54 other):ax.Spec.Ok Tryz.prog 54 (az Ah Ai (F3 fX) other) :=
  bm ho (bc TT mixed (LA R) (keep:=false) rfl rfl rfl rfl 0 (IQ R)) fun (x:bJ.au Ah) (y:aF.au Ai) k=>MJ x.1 x.2.1 k

/-! ### humpyard/humpyardlaw01.Fit -/
abbrev lU (R:Type):Type:=Int→Int→(iH→Option R)→Option R
abbrev yQ:List bJ := [.leaf (.int .i64), .leaf (.int .i64)]
abbrev yR:List aF := []
noncomputable def Dq {R:Type} (fn:lU R):bJ.au yQ→aF.au yR→(V→ay→Option R)→Option R:=fun x y k=>fn x.1 x.2.1 (fun q0=>k (.agg [.int .i64 q0.aw, .int .i64 q0.exp]) [])
abbrev nA (R:Type):Type:=Nat→Int→Int→iH→(Int→Int→iH→Option R)→Option R
noncomputable def sk (R:Type) (fX:qT R):Env R:=fun i=>match i with
  | 54=>some (true,(az Ah Ai (F3 fX) aZ))
  | _=>none
theorem MK (R:Type):po Tryz.prog (sk R fX):=by
  intro i b sp h
  unfold sk at h
  split at h
  · cases h; exact ⟨(JV R _ (aM _)),fun h=>nomatch h⟩
  · cases h

noncomputable def og {R:Type} (gm:Int→Int→iH→Option R) (x5:Int) (x6:Int) (x7:iH) (e0:Int→Int→iH→Option R):Option R :=
  bif (x5 != 0)then (bif ((Int.tmod x5 10)==0)then (gm (IntKind.i64.wrap (Int.tdiv x5 10)) x6 x7)else (e0 x5 x6 x7))else (e0 x5 x6 x7)
noncomputable def ck {R:Type}:nA R
  | 0,_,_,_,_=>none
  | n+1,mQ,mR,nI,e0=>og (fun mQ mR nI=>ck n mQ mR nI e0) mQ mR nI e0
noncomputable def uN:Hint := { live := [4,5,6],own := [],rows := [],cells := [],drop := [],out := [4,5,6] }
abbrev lr:Type:=Int × Int × iH
noncomputable def rE:lr→St:=fun d=>⟨[.undef, .undef, .undef, .undef, .ptr 0 0, .int .i64 d.1, .int .i64 d.2.1, .undef, .undef, .undef, .undef, .undef, .undef, .undef, .undef, .undef, .undef, .undef, .undef, .undef, .undef, .undef, .undef, .undef, .undef, .undef, .undef], [.cells [.int .i64 d.2.2.aw, .int .i64 d.2.2.exp]]⟩
noncomputable def xS {R:Type} (K:Ex→St→Option R) (q0:Int) (q1:Int) (q2:iH):Option R:=K (.exit 0) ⟨[.undef, .undef, .undef, .undef, .ptr 0 0, .int .i64 q0, .int .i64 q1, .undef, .undef, .undef, .undef, .undef, .undef, .undef, .undef, .undef, .undef, .undef, .undef, .undef, .undef, .undef, .undef, .undef, .undef, .undef, .undef], [.cells [.int .i64 q2.aw, .int .i64 q2.exp]]⟩
noncomputable def zq {R:Type} (K:Ex→St→Option R) (rc:lr→Option R) (d:lr):Option R:=og (fun z0 z1 z2=>rc (z0,z1,z2)) d.1 d.2.1 d.2.2 (xS K)
noncomputable def oh {R:Type} (K:Ex→St→Option R) (n:Nat) (d:lr):Option R:=ck n d.1 d.2.1 d.2.2 (xS K)
abbrev lu:List bJ := [.leaf (.undef), .leaf (.undef), .leaf (.undef), .leaf (.undef), .leaf (.ptr 0 0), .leaf (.int .i64), .leaf (.int .i64), .leaf (.undef), .leaf (.undef), .leaf (.undef), .leaf (.undef), .leaf (.undef), .leaf (.undef), .leaf (.undef), .leaf (.undef), .leaf (.undef), .leaf (.undef), .leaf (.undef), .leaf (.undef), .leaf (.undef), .leaf (.undef), .leaf (.undef), .leaf (.undef), .leaf (.undef), .leaf (.undef), .leaf (.undef), .leaf (.undef)]
abbrev lv:List aF := [.cells [.int .i64, .int .i64]]
noncomputable def zt (x:bJ.au lu) (y:aF.au lv):Nat:=(Int.natAbs x.2.2.2.2.2.1+Int.natAbs x.2.2.2.2.2.2.1+iH.fu (⟨y.1.1,y.1.2.1⟩:iH)+64)
noncomputable def zu (x:bJ.au lu) (y:aF.au lv):lr:=(x.2.2.2.2.2.1,x.2.2.2.2.2.2.1,(⟨y.1.1,y.1.2.1⟩:iH))
noncomputable def xT {R:Type} (L:nA R):bJ.au lu→aF.au lv→(Ex→St→Option R)→Option R:=fun x y K=>L (zt x y) x.2.2.2.2.2.1 x.2.2.2.2.2.2.1 (⟨y.1.1,y.1.2.1⟩:iH) (xS K)
noncomputable def yS (R:Type) (ck:nA R):Nat→Option (Hint × cd R):=fun i=>match i with
  | 3=>some (uN,(gq lu lv (xT ck) qg))
  | _=>none

theorem GG {R:Type} (fX:qT R) (ck:nA R) (K:Ex→St→Option R) (rc:St→Option R) (d:lr):roundOf tt (sk R fX) (yS R ck) 0 ((aO (aI Tryz.f28)).getD 0 .skip) uN (rE d) rc K=zq K (fun d=>rc (rE d)) d:=by kernel_rfl
theorem EF {R:Type} (K:Ex→St→Option R) (n:Nat) (d:lr):oh K (n+1) d=zq K (oh K n) d:=by kernel_rfl
theorem EG {R:Type} (K:Ex→St→Option R) (d:lr):oh K 0 d=none:=by kernel_rfl
theorem GH (x:bJ.au lu) (y:aF.au lv):(⟨bJ.cL lu x,aF.cL lv y⟩:St)=rE (zu x y):=by kernel_rfl
theorem GI {R:Type} (x:bJ.au lu) (y:aF.au lv) (K:Ex→St→Option R):xT (ck) x y K=oh K (zt x y) (zu x y):=by kernel_rfl
theorem IS {R:Type} (other:cd R) (ho:ph tt (sk R fX) (yS R ck) 0 ((aO (aI Tryz.f28)).getD 0 .skip) uN other):ph tt (sk R fX) (yS R ck) 0 ((aO (aI Tryz.f28)).getD 0 .skip) uN (gq lu lv (xT (ck)) other) :=
  gQ (A:=oh) ho (kO rE (zq) (oh) (EG) (GG fX ck) (EF)) zt zu GH (GI)

noncomputable def yT {R:Type} (fX:qT R) (ck:nA R) (x1:Int) (x2:Int) (k0:iH→Option R):Option R :=
  fX x1 2000000000000001 (fun y3=>fX x2 19 (fun y4=>ck (Int.natAbs (IntKind.i64.wrap (y3 - 1000000000000000))+Int.natAbs (IntKind.i64.wrap (y4 - 9))+iH.fu (⟨0,0⟩:iH)+64) (IntKind.i64.wrap (y3 - 1000000000000000)) (IntKind.i64.wrap (y4 - 9)) (⟨0,0⟩:iH) (fun y9 B5 B6=>bif (y9==0)then (k0 (⟨y9,0⟩:iH))else (k0 (⟨y9,B5⟩:iH)))))
noncomputable def cZ {R:Type}:lU R:=fun x1 x2 k0=>yT fX ck x1 x2 k0
theorem OQ {R:Type} (fX:qT R) (ck:nA R) (x1:Int) (x2:Int) (k:V→ay→Option R):iq tt (sk R fX) (yS R ck) false Tryz.f28 (aI Tryz.f28) [.int .i64 x1, .int .i64 x2] [] k =
    yT fX ck x1 x2 (fun q0=>k (.agg [.int .i64 q0.aw, .int .i64 q0.exp]) []):=by kernel_rfl
theorem JW (R:Type):∀a∈aO (aI Tryz.f28),cG tt (sk R fX) (yS R ck) 0 a:=by
  refine bB 1 (by kernel_rfl) fun i hi => ?_
  match i,hi with
  | 0,_=>exact fT (by kernel_rfl) (IS _ jA)
  | n+1,hi=>omega
theorem EH (R:Type) (other:ax.Spec R) (ho:ax.Spec.Ok Tryz.prog 28 other):ax.Spec.Ok Tryz.prog 28 (az yQ yR (Dq cZ) other) :=
  bm ho (bc TT mixed (MK R) (keep:=false) rfl rfl rfl rfl 0 (JW R)) fun (x:bJ.au yQ) (y:aF.au yR) k=>OQ fX ck x.1 x.2.1 k

/-! ### humpyard/humpyardlaw02.pick -/
abbrev oS (R:Type):Type:=Int→Int→(Int→Option R)→Option R
abbrev Ak:List bJ := [.leaf (.int .i64), .leaf (.int .i64)]
abbrev Al:List aF := []
noncomputable def F4 {R:Type} (fn:oS R):bJ.au Ak→aF.au Al→(V→ay→Option R)→Option R:=fun x y k=>fn x.1 x.2.1 (fun q0=>k (.int .i64 q0) [])
noncomputable def Am (R:Type):Env R:=fun i=>match i with
  | _=>none
theorem LB (R:Type):po Tryz.prog (Am R):=by
  intro i b sp h
  unfold Am at h
  split at h
  · cases h

noncomputable def HC (R:Type):Nat→Option (Hint × cd R):=fun i=>match i with
  | _=>none

noncomputable def HD {R:Type} (x1:Int) (x2:Int) (k0:Int→Option R):Option R :=
  bif (decide (x1<(0:Int)))then (cR (!decide (x2=0)) (k0 (Int.tmod (IntKind.i64.wrap (0 - (IntKind.i64.wrap (x1+1)))) x2)))else (cR (!decide (x2=0)) (k0 (Int.tmod x1 x2)))
noncomputable def dC {R:Type}:oS R:=fun x1 x2 k0=>HD x1 x2 k0
theorem ML {R:Type} (x1:Int) (x2:Int) (k:V→ay→Option R):iq tt (Am R) (HC R) false Tryz.f60 (aI Tryz.f60) [.int .i64 x1, .int .i64 x2] [] k =
    HD x1 x2 (fun q0=>k (.int .i64 q0) []):=by kernel_rfl
theorem IT (R:Type):∀a∈aO (aI Tryz.f60),cG tt (Am R) (HC R) 0 a:=by
  refine bB 0 (by kernel_rfl) fun i hi => ?_
  omega
theorem JX (R:Type) (other:ax.Spec R) (ho:ax.Spec.Ok Tryz.prog 60 other):ax.Spec.Ok Tryz.prog 60 (az Ak Al (F4 dC) other) :=
  bm ho (bc TT mixed (LB R) (keep:=false) rfl rfl rfl rfl 0 (IT R)) fun (x:bJ.au Ak) (y:aF.au Al) k=>ML x.1 x.2.1 k

/-! ### humpyard/humpyardlaw02.Text -/
abbrev fI (R:Type):Type:=(List Int)→(ak→Option R)→Option R
abbrev sV:List bJ := [.leaf (.sl (.int .i64))]
abbrev sW:List aF := []
noncomputable def yz {R:Type} (fn:fI R):bJ.au sV→aF.au sW→(V→ay→Option R)→Option R:=fun x y k=>fn x.1 (fun q0=>k (.str q0) [])
abbrev mD (R:Type):Type:=Nat→(List Int)→ak→Int→(ak→Option R)→Option R
noncomputable def qh (R:Type) (dC:oS R):Env R:=fun i=>match i with
  | 60=>some (true,(az Ak Al (F4 dC) aZ))
  | _=>none
theorem LC (R:Type):po Tryz.prog (qh R dC):=by
  intro i b sp h
  unfold qh at h
  split at h
  · cases h; exact ⟨(JX R _ (aM _)),fun h=>nomatch h⟩
  · cases h

noncomputable def j0 {R:Type} (dC:oS R) (gm:(List Int)→ak→Int→Option R) (x2:List Int) (x3:ak) (x4:Int) (e0:ak→Option R):Option R :=
  bif (decide (x4<(x2.length:Int)))then (bif (decide (x4<(200:Int)))then (cR (decide ((0:Int)≤x4)&&decide (x4<x2.length)) (let j16:=fun (Qp:Int)=>bif (decide (Qp≥(55296:Int)))then (bif (decide (Qp≤(57343:Int)))then (cR (decide (x3.length+(n9 ([120]:List Int)).length≤9223372036854775807)) (gm x2 (x3++(n9 ([120]:List Int))) (IntKind.i64.wrap (x4+1))))else (cR (decide (x3.length+(n9 ([(IntKind.i32.wrap Qp)]:List Int)).length≤9223372036854775807)) (gm x2 (x3++(n9 ([(IntKind.i32.wrap Qp)]:List Int))) (IntKind.i64.wrap (x4+1)))))else (cR (decide (x3.length+(n9 ([(IntKind.i32.wrap Qp)]:List Int)).length≤9223372036854775807)) (gm x2 (x3++(n9 ([(IntKind.i32.wrap Qp)]:List Int))) (IntKind.i64.wrap (x4+1)))); dC (x2.getD x4.toNat (Ty.cg (.int .i64))) 5 (fun y6=>let j12:=fun (z7:Bool)=>bif z7 then (dC (IntKind.i64.wrap (Int.tdiv (x2.getD x4.toNat (Ty.cg (.int .i64))) 5)) 128 (fun y8=>j16 y8))else (bif (y6==2)then (dC (IntKind.i64.wrap (Int.tdiv (x2.getD x4.toNat (Ty.cg (.int .i64))) 5)) 2048 (fun y9=>j16 y9))else (bif (y6==3)then (dC (IntKind.i64.wrap (Int.tdiv (x2.getD x4.toNat (Ty.cg (.int .i64))) 5)) 65536 (fun B5=>j16 B5))else (dC (IntKind.i64.wrap (Int.tdiv (x2.getD x4.toNat (Ty.cg (.int .i64))) 5)) 1114112 (fun B6=>j16 B6)))); bif (y6==0)then (j12 (y6==0))else (j12 (y6==1)))))else (e0 x3))else (e0 x3)
noncomputable def ct {R:Type}:mD R
  | 0,_,_,_,_=>none
  | n+1,mQ,mR,nI,e0=>j0 dC (fun mQ mR nI=>ct n mQ mR nI e0) mQ mR nI e0
noncomputable def sY:Hint := { live := [0,3,4],own := [],rows := [],cells := [],drop := [],out := [2,3] }
abbrev j1:Type:=(List Int) × ak × Int
noncomputable def qi:j1→St:=fun d=>⟨[.sl (.int .i64) d.1 .no, .undef, .undef, .str d.2.1, .int .i64 d.2.2, .undef, .undef, .undef, .undef, .undef, .undef, .undef, .undef, .undef, .undef, .undef, .undef, .undef, .undef, .undef, .undef, .undef, .undef, .undef, .undef, .undef, .undef, .undef, .undef, .undef, .undef, .undef, .undef, .undef, .undef, .undef, .undef, .undef, .undef, .undef, .undef, .undef, .undef, .undef, .undef, .undef, .undef, .undef, .undef, .undef, .undef, .undef, .undef, .undef, .undef], []⟩
noncomputable def wv {R:Type} (K:Ex→St→Option R) (q0:ak):Option R:=K (.exit 0) ⟨[.undef, .undef, .undef, .str q0, .undef, .undef, .undef, .undef, .undef, .undef, .undef, .undef, .undef, .undef, .undef, .undef, .undef, .undef, .undef, .undef, .undef, .undef, .undef, .undef, .undef, .undef, .undef, .undef, .undef, .undef, .undef, .undef, .undef, .undef, .undef, .undef, .undef, .undef, .undef, .undef, .undef, .undef, .undef, .undef, .undef, .undef, .undef, .undef, .undef, .undef, .undef, .undef, .undef, .undef, .undef], []⟩
noncomputable def xU {R:Type} (dC:oS R) (K:Ex→St→Option R) (rc:j1→Option R) (d:j1):Option R:=j0 dC (fun z0 z1 z2=>rc (z0,z1,z2)) d.1 d.2.1 d.2.2 (wv K)
noncomputable def nB {R:Type} (K:Ex→St→Option R) (n:Nat) (d:j1):Option R:=ct n d.1 d.2.1 d.2.2 (wv K)
abbrev j2:List bJ := [.leaf (.sl (.int .i64)), .leaf (.undef), .leaf (.undef), .leaf (.str), .leaf (.int .i64), .leaf (.undef), .leaf (.undef), .leaf (.undef), .leaf (.undef), .leaf (.undef), .leaf (.undef), .leaf (.undef), .leaf (.undef), .leaf (.undef), .leaf (.undef), .leaf (.undef), .leaf (.undef), .leaf (.undef), .leaf (.undef), .leaf (.undef), .leaf (.undef), .leaf (.undef), .leaf (.undef), .leaf (.undef), .leaf (.undef), .leaf (.undef), .leaf (.undef), .leaf (.undef), .leaf (.undef), .leaf (.undef), .leaf (.undef), .leaf (.undef), .leaf (.undef), .leaf (.undef), .leaf (.undef), .leaf (.undef), .leaf (.undef), .leaf (.undef), .leaf (.undef), .leaf (.undef), .leaf (.undef), .leaf (.undef), .leaf (.undef), .leaf (.undef), .leaf (.undef), .leaf (.undef), .leaf (.undef), .leaf (.undef), .leaf (.undef), .leaf (.undef), .leaf (.undef), .leaf (.undef), .leaf (.undef), .leaf (.undef), .leaf (.undef)]
abbrev j4:List aF := []
noncomputable def xV (x:bJ.au j2) (y:aF.au j4):Nat:=(List.length x.1+List.length x.2.2.2.1+Int.natAbs x.2.2.2.2.1+64)
noncomputable def xW (x:bJ.au j2) (y:aF.au j4):j1:=(x.1,x.2.2.2.1,x.2.2.2.2.1)
noncomputable def wx {R:Type} (L:mD R):bJ.au j2→aF.au j4→(Ex→St→Option R)→Option R:=fun x y K=>L (xV x y) x.1 x.2.2.2.1 x.2.2.2.2.1 (wv K)
noncomputable def wy (R:Type) (ct:mD R):Nat→Option (Hint × cd R):=fun i=>match i with
  | 3=>some (sY,(gq j2 j4 (wx ct) qg))
  | _=>none

theorem Fy {R:Type} (dC:oS R) (ct:mD R) (K:Ex→St→Option R) (rc:St→Option R) (d:j1):roundOf tt (qh R dC) (wy R ct) 0 ((aO (aI Tryz.f37)).getD 0 .skip) sY (qi d) rc K=xU dC K (fun d=>rc (qi d)) d:=by kernel_rfl
theorem DZ {R:Type} (K:Ex→St→Option R) (n:Nat) (d:j1):nB K (n+1) d=xU dC K (nB K n) d:=by kernel_rfl
theorem D0 {R:Type} (K:Ex→St→Option R) (d:j1):nB K 0 d=none:=by kernel_rfl
theorem Fz (x:bJ.au j2) (y:aF.au j4):(⟨bJ.cL j2 x,aF.cL j4 y⟩:St)=qi (xW x y):=by kernel_rfl
theorem FA {R:Type} (x:bJ.au j2) (y:aF.au j4) (K:Ex→St→Option R):wx (ct) x y K=nB K (xV x y) (xW x y):=by kernel_rfl
theorem HE {R:Type} (other:cd R) (ho:ph tt (qh R dC) (wy R ct) 0 ((aO (aI Tryz.f37)).getD 0 .skip) sY other):ph tt (qh R dC) (wy R ct) 0 ((aO (aI Tryz.f37)).getD 0 .skip) sY (gq j2 j4 (wx (ct)) other) :=
  gQ (A:=nB) ho (kO qi (xU dC) (nB) (D0) (Fy dC ct) (DZ)) xV xW Fz (FA)

noncomputable def HF {R:Type} (ct:mD R) (x1:List Int) (k0:ak→Option R):Option R :=
  ct (List.length x1+List.length ([]:ak)+Int.natAbs 0+64) x1 ([]:ak) 0 (fun Mq=>k0 Mq)
noncomputable def br {R:Type}:fI R:=fun x1 k0=>HF ct x1 k0
theorem MN {R:Type} (dC:oS R) (ct:mD R) (x1:List Int) (k:V→ay→Option R):iq tt (qh R dC) (wy R ct) false Tryz.f37 (aI Tryz.f37) [.sl (.int .i64) x1 .no] [] k =
    HF ct x1 (fun q0=>k (.str q0) []):=by kernel_rfl
theorem IU (R:Type):∀a∈aO (aI Tryz.f37),cG tt (qh R dC) (wy R ct) 0 a:=by
  refine bB 1 (by kernel_rfl) fun i hi => ?_
  match i,hi with
  | 0,_=>exact fT (by kernel_rfl) (HE _ jA)
  | n+1,hi=>omega
theorem zw (R:Type) (other:ax.Spec R) (ho:ax.Spec.Ok Tryz.prog 37 other):ax.Spec.Ok Tryz.prog 37 (az sV sW (yz br) other) :=
  bm ho (bc TT mixed (LC R) (keep:=false) rfl rfl rfl rfl 0 (IU R)) fun (x:bJ.au sV) (y:aF.au sW) k=>MN dC ct x.1 k

end Go.Proofs.YtmlkkgfenfdndaaGreatDoor

set_option maxRecDepth 100000
namespace Go.Proofs.YtmlkkgfenfdndaaGreatDoor
open Go Go.ax

def CK (n:Int):Prop := -9223372036854775808≤n∧n≤9223372036854775807
theorem Ku {n:Int}:IntKind.i64.has n↔CK n:=by
  unfold IntKind.has CK
  simp only[IntKind.min,IntKind.max,IntKind.bits,IntKind.signed]
  simp

theorem LD {R:Type} (c n:Int) (hc:CK c) (h0:0<n) (hn:n≤9223372036854775807):∃r:Int,0≤r∧r<n∧∀k:Int→Option R,
    (bif (decide (c<(0:Int)))then (cR (!decide (n=0)) (k (Int.tmod (IntKind.i64.wrap (0 - (IntKind.i64.wrap (c+1)))) n)))else (cR (!decide (n=0)) (k (Int.tmod c n))))=k r:=by
  obtain ⟨h1,h2⟩:=hc
  have hz:(!decide (n=0))=true:=by simp; omega
  by_cases h:c<0
  · refine ⟨Int.tmod (0 - (c+1)) n,Int.tmod_nonneg _ (by omega),Int.tmod_lt_of_pos _ h0,fun k => ?_⟩
    have hd:decide (c<(0:Int))=true:=by simpa using h
    rw[hd,cond_true,bH hz,ef (n:=c+1) (by omega) (by omega),ef (by omega) (by omega)]
  · refine ⟨Int.tmod c n,Int.tmod_nonneg _ (by omega),Int.tmod_lt_of_pos _ h0,fun k => ?_⟩
    have hd:decide (c<(0:Int))=false:=by simpa using h
    rw[hd,cond_false,bH hz]

theorem LF {R:Type} (c n:Int) (hc:CK c) (h0:0<n) (hn:n≤9223372036854775807):∃r:Int,0≤r∧r<n∧∀k:Int→Option R,dC c n k=k r:=LD c n hc h0 hn

theorem UK {n:Int} (h1:0≤n) (h2:n<1114112):IntKind.i32.wrap n=n:=by
  simp only[IntKind.wrap,IntKind.bits,IntKind.signed,IntKind.min,IntKind.max]
  simp
  omega

theorem Sf {c:Nat} (hv:vr c):(Utf8.encode (c:Int)).data.toList=enc c:=by
  have ln:=ND hv
  have BA:Utf8.valid (c:Int)=true:=by
    unfold vr at hv
    simp only[Utf8.valid,Bool.or_eq_true,Bool.and_eq_true,decide_eq_true_eq]
    omega
  unfold Utf8.encode
  simp only[BA,if_true,Int.toNat_natCast]
  by_cases h1:c<128
  · rw[if_pos h1,enc1 h1]
  by_cases h2:c<2048
  · rw[if_neg h1,if_pos h2,enc2 (by omega) h2]
  by_cases h3:c<65536
  · rw[if_neg h1,if_neg h2,if_pos h3,enc3 (by omega) h3 hv]
  · rw[if_neg h1,if_neg h2,if_neg h3,enc4 (by omega) ln]

theorem LG {c:Nat} (hv:vr c):n9 [(c:Int)]=enc c:=by
  unfold n9
  simp only[List.flatMap_cons,List.flatMap_nil,List.append_nil]
  exact Sf hv

theorem IV (rs:List Nat) (c:Nat):cL (rs ++ [c])=cL rs++enc c:=by simp[cL]

theorem cu {p:Prop} [Decidable p] (h:p):decide p=true:=decide_eq_true h
theorem jB {p:Prop} [Decidable p] (h:¬p):decide p=false:=decide_eq_false h

def Dr (z:Int):Nat:=if 55296≤z∧z≤57343 then 120 else z.toNat
theorem NF {z:Int} (h0:0≤z) (h1:z<1114112):vr (Dr z):=by unfold Dr vr; split <;> omega

theorem Xt {R:Type} (raw:List Int) (s:ak) (i:Nat) (gm:List Int→ak→Int→Option R) {z:Int} (h0:0≤z) (h1:z<1114112) (hl:s.length≤4*i) (hi:i<200) :
    (bif (decide (z≥(55296:Int)))then (bif (decide (z≤(57343:Int)))then (cR (decide (s.length+(n9 ([120]:List Int)).length≤9223372036854775807)) (gm raw (s++(n9 ([120]:List Int))) (IntKind.i64.wrap ((i:Int)+1))))else (cR (decide (s.length+(n9 ([(IntKind.i32.wrap z)]:List Int)).length≤9223372036854775807)) (gm raw (s++(n9 ([(IntKind.i32.wrap z)]:List Int))) (IntKind.i64.wrap ((i:Int)+1)))))else (cR (decide (s.length+(n9 ([(IntKind.i32.wrap z)]:List Int)).length≤9223372036854775807)) (gm raw (s++(n9 ([(IntKind.i32.wrap z)]:List Int))) (IntKind.i64.wrap ((i:Int)+1))))) =
      gm raw (s++enc (Dr z)) ((i+1:Nat):Int):=by
  have hw:IntKind.i64.wrap ((i:Int)+1)=((i+1:Nat):Int):=by rw[ef (by omega) (by omega)]; omega
  have hv:=NF h0 h1
  have hle:=B3 hv
  by_cases hb:55296≤z∧z≤57343
  · have e:n9 [120]=enc (Dr z):=by unfold Dr at hv ⊢; rw[if_pos hb]at hv ⊢; exact LG hv
    rw[cu (show z≥55296 from hb.1),cond_true,cu hb.2,cond_true,e,bH (cu (by omega)),hw]
  · have e:n9 [IntKind.i32.wrap z]=enc (Dr z):=by
      unfold Dr at hv ⊢; rw[if_neg hb]at hv ⊢
      rw[←LG hv,UK h0 h1,Int.toNat_of_nonneg h0]
    by_cases hc:z≥55296
    · rw[cu hc,cond_true,jB (show ¬z≤57343 by omega),cond_false,e,bH (cu (by omega)),hw]
    · rw[jB hc,cond_false,e,bH (cu (by omega)),hw]

theorem Xu {n k:Int} (h:CK n) (hk:1<k):CK (Int.tdiv n k):=by
  have h1:(Int.tdiv n k).natAbs≤n.natAbs:=by rw[Int.natAbs_tdiv]; exact Nat.div_le_self _ _
  have h2:(Int.tdiv n k).natAbs=n.natAbs / k.natAbs:=Int.natAbs_tdiv _ _
  unfold CK at h ⊢
  have h3:n.natAbs / k.natAbs≤n.natAbs / 2:=Nat.div_le_div_left (by omega) (by omega)
  omega

theorem UL {R:Type} (raw:List Int) (hraw:∀x∈raw,CK x):∀(n i:Nat) (rs:List Nat),i≤raw.length→raw.length - i<n→i≤200→(∀c∈rs,vr c)→(cL rs).length≤4*i →
    ∃UM:List Nat,(∀c∈UM,vr c)∧(cL UM).length≤800∧(rs.length≤i→UM.length≤raw.length)∧∀e0:ak→Option R,ct n raw (cL rs) (i:Int) e0=e0 (cL UM):=by
  intro n
  induction n with
  | zero=>intro i rs h1 h2; omega
  | succ n ih =>
    intro i rs h1 h2 h3 VM hl
    by_cases hi:i<raw.length
    · by_cases hi2:i<200
      · have hx:CK raw[i]:=hraw _ (List.getElem_mem hi)
        have Dc:raw.getD (i:Int).toNat (Ty.cg (.int .i64))=raw[i]:=by simp[List.getD,hi]; rfl
        have key:∀z:Int,0≤z→z<1114112→∃UM:List Nat,(∀c∈UM,vr c)∧(cL UM).length≤800∧(rs.length≤i→UM.length≤raw.length)∧∀e0:ak→Option R,ct n raw (cL rs++enc (Dr z)) ((i+1:Nat):Int) e0=e0 (cL UM):=by
          intro z z0 z1
          have hv:=NF z0 z1
          have hle:=B3 hv
          obtain ⟨UM,q1,q2,qn,q3⟩:=ih (i+1) (rs ++ [Dr z]) (by omega) (by omega) (by omega) (by
            intro c hc
            rcases List.mem_append.1 hc with hc|hc
            · exact VM c hc
            · simp at hc; subst hc; exact hv) (by rw[IV,List.length_append]; omega)
          exact ⟨UM,q1,q2,fun hn=>qn (by simp; omega),fun e0=>by rw[←q3 e0,IV]⟩
        -- what is picked
        obtain ⟨y6,Ta,y61,py⟩:=LF (R:=R) raw[i] 5 hx (by omega) (by omega)
        have ht:CK (IntKind.i64.wrap (Int.tdiv raw[i] 5)):=by
          have:=Xu (k:=5) hx (by omega)
          rw[ef this.1 this.2]; exact this
        obtain ⟨a,a0,a1,pa⟩:=LF (R:=R) (IntKind.i64.wrap (Int.tdiv raw[i] 5)) 128 ht (by omega) (by omega)
        obtain ⟨b,b0,b1,pb⟩:=LF (R:=R) (IntKind.i64.wrap (Int.tdiv raw[i] 5)) 2048 ht (by omega) (by omega)
        obtain ⟨d,d0,d1,pd⟩:=LF (R:=R) (IntKind.i64.wrap (Int.tdiv raw[i] 5)) 65536 ht (by omega) (by omega)
        obtain ⟨f,f0,f1,pf⟩:=LF (R:=R) (IntKind.i64.wrap (Int.tdiv raw[i] 5)) 1114112 ht (by omega) (by omega)
        obtain ⟨UM,q1,q2,qn,q3⟩:=key (if y6=0∨y6=1 then a else if y6=2 then b else if y6=3 then d else f) (by split; omega; split; omega; split <;> omega) (by split; omega; split; omega; split <;> omega)
        refine ⟨UM,q1,q2,qn,fun e0 => ?_⟩
        rw[←q3 e0]
        show j0 dC _ raw (cL rs) (i:Int) e0=_
        unfold j0
        rw[cu (show (i:Int)<(raw.length:Int) by omega),cond_true,cu (show (i:Int)<200 by omega),cond_true,cu (show (0:Int)≤(i:Int) by omega)]
        rw[bH (by rfl)]
        simp only[Dc,py,pa,pb,pd,pf]
        have add:=fun (z:Int) (z0:0≤z) (z1:z<1114112)=>Xt raw (cL rs) i (fun mQ mR nI=>ct (R:=R) n mQ mR nI e0) z0 z1 hl hi2
        by_cases c0:y6=0
        · rw[if_pos (.inl c0)]
          have e0':(y6==0)=true:=by simp[c0]
          rw[e0',cond_true,cond_true]
          exact add a a0 (by omega)
        · have e0':(y6==0)=false:=by simp[c0]
          rw[e0',cond_false]
          by_cases c1:y6=1
          · rw[if_pos (.inr c1)]
            have Z2:(y6==1)=true:=by simp[c1]
            rw[Z2,cond_true]
            exact add a a0 (by omega)
          · have Z2:(y6==1)=false:=by simp[c1]
            rw[Z2,cond_false,if_neg (by omega)]
            by_cases c2:y6=2
            · have e2':(y6==2)=true:=by simp[c2]
              rw[e2',cond_true,if_pos c2]
              exact add b b0 (by omega)
            · have e2':(y6==2)=false:=by simp[c2]
              rw[e2',cond_false,if_neg c2]
              by_cases c3:y6=3
              · have e3':(y6==3)=true:=by simp[c3]
                rw[e3',cond_true,if_pos c3]
                exact add d d0 (by omega)
              · have e3':(y6==3)=false:=by simp[c3]
                rw[e3',cond_false,if_neg c3]
                exact add f f0 (by omega)
      · refine ⟨rs,VM,by omega,fun _=>by omega,fun e0 => ?_⟩
        show j0 dC _ raw (cL rs) (i:Int) e0=_
        unfold j0
        rw[cu (show (i:Int)<(raw.length:Int) by omega),cond_true,jB (show ¬(i:Int)<200 by omega),cond_false]
    · refine ⟨rs,VM,by omega,fun _=>by omega,fun e0 => ?_⟩
      show j0 dC _ raw (cL rs) (i:Int) e0=_
      unfold j0
      rw[jB (show ¬(i:Int)<(raw.length:Int) by omega),cond_false]

theorem HG {R:Type} (raw:List Int) (hraw:∀x∈raw,CK x):∃rs:List Nat,(∀c∈rs,vr c)∧(cL rs).length≤800∧rs.length≤raw.length∧∀k:ak→Option R,br raw k=k (cL rs):=by
  obtain ⟨rs,h1,h2,h4,h3⟩:=UL (R:=R) raw hraw (List.length raw+List.length ([]:ak)+Int.natAbs 0+64) 0 [] (by omega) (by omega) (by omega) (by simp) (by simp[cL])
  exact ⟨rs,h1,h2,h4 (by simp),fun k=>h3 _⟩
end Go.Proofs.YtmlkkgfenfdndaaGreatDoor

/-
  Functions of the program as pure Lean functions, and the ties; printed by wip/tools/emit.py.
-/
set_option maxRecDepth 100000
namespace Go.Proofs.YtmlkkgfenfdndaaGreatDoor
open Go Go.ax

/-! ### humpyard/json.bare -/
abbrev wz (R:Type):Type:=Json→(Json→Option R)→Option R
abbrev B7:List bJ := [.agg [.int .i64, .int .i64, .int .i64, .str, .sl .str, .sl .json]]
abbrev B8:List aF := []
noncomputable def HH {R:Type} (fn:wz R):bJ.au B7→aF.au B8→(V→ay→Option R)→Option R:=fun x y k=>fn (⟨x.1.1,⟨x.1.2.1,x.1.2.2.1⟩,x.1.2.2.2.1,x.1.2.2.2.2.1,x.1.2.2.2.2.2.1⟩:Json) (fun q0=>k (.agg [.int .i64 q0.kind, .int .i64 q0.num.aw, .int .i64 q0.num.exp, .str q0.text, .sl .str q0.names .no, .sl .json q0.items .no]) [])
noncomputable def B9 (R:Type):Env R:=fun i=>match i with
  | _=>none
theorem MO (R:Type):po Tryz.prog (B9 R):=by
  intro i b sp h
  unfold B9 at h
  split at h
  · cases h

noncomputable def JF (R:Type):Nat→Option (Hint × cd R):=fun i=>match i with
  | _=>none

noncomputable def Ca {R:Type} (x1:Json) (k0:Json→Option R):Option R :=
  bif (x1.kind==4)then (k0 (⟨x1.kind,⟨0,0⟩,x1.text,x1.names,x1.items⟩:Json))else (bif (x1.kind==5)then (k0 (⟨x1.kind,⟨x1.num.aw,x1.num.exp⟩,([]:ak),x1.names,x1.items⟩:Json))else (bif (x1.kind==7)then (k0 (⟨x1.kind,⟨x1.num.aw,x1.num.exp⟩,x1.text,([]:List ak),([]:List Json)⟩:Json))else (bif (x1.kind==6)then (k0 (⟨x1.kind,⟨x1.num.aw,x1.num.exp⟩,x1.text,x1.names,([]:List Json)⟩:Json))else (k0 (⟨x1.kind,⟨x1.num.aw,x1.num.exp⟩,x1.text,x1.names,x1.items⟩:Json)))))
noncomputable def mE {R:Type}:wz R:=fun x1 k0=>Ca x1 k0
theorem OR {R:Type} (x1:Json) (k:V→ay→Option R):iq tt (B9 R) (JF R) false Tryz.f77 (aI Tryz.f77) [.agg [.int .i64 x1.kind, .int .i64 x1.num.aw, .int .i64 x1.num.exp, .str x1.text, .sl .str x1.names .no, .sl .json x1.items .no]] [] k =
    Ca x1 (fun q0=>k (.agg [.int .i64 q0.kind, .int .i64 q0.num.aw, .int .i64 q0.num.exp, .str q0.text, .sl .str q0.names .no, .sl .json q0.items .no]) []):=by kernel_rfl
theorem JY (R:Type):∀a∈aO (aI Tryz.f77),cG tt (B9 R) (JF R) 0 a:=by
  refine bB 0 (by kernel_rfl) fun i hi => ?_
  omega
theorem LH (R:Type) (other:ax.Spec R) (ho:ax.Spec.Ok Tryz.prog 77 other):ax.Spec.Ok Tryz.prog 77 (az B7 B8 (HH mE) other) :=
  bm ho (bc TT mixed (MO R) (keep:=false) rfl rfl rfl rfl 0 (JY R)) fun (x:bJ.au B7) (y:aF.au B8) k=>OR (⟨x.1.1,⟨x.1.2.1,x.1.2.2.1⟩,x.1.2.2.2.1,x.1.2.2.2.2.1,x.1.2.2.2.2.2.1⟩:Json) k

/-! ### humpyard/decimal.within[int] -/
abbrev eX (R:Type):Type:=Int→Int→Int→(Bool→Option R)→Option R
abbrev mq:List bJ := [.leaf (.int .i64), .leaf (.int .i64), .leaf (.int .i64)]
abbrev mr:List aF := []
noncomputable def qZ {R:Type} (fn:eX R):bJ.au mq→aF.au mr→(V→ay→Option R)→Option R:=fun x y k=>fn x.1 x.2.1 x.2.2.1 (fun q0=>k (.bool q0) [])
noncomputable def ou (R:Type):Env R:=fun i=>match i with
  | _=>none
theorem Ds (R:Type):po Tryz.prog (ou R):=by
  intro i b sp h
  unfold ou at h
  split at h
  · cases h

noncomputable def yU (R:Type):Nat→Option (Hint × cd R):=fun i=>match i with
  | _=>none

noncomputable def ov {R:Type} (x1:Int) (x2:Int) (x3:Int) (k0:Bool→Option R):Option R :=
  bif (decide (x1≤x2))then (k0 (decide (x2≤x3)))else (k0 false)
noncomputable def aU {R:Type}:eX R:=fun x1 x2 x3 k0=>ov x1 x2 x3 k0
theorem D1 {R:Type} (x1:Int) (x2:Int) (x3:Int) (k:V→ay→Option R):iq tt (ou R) (yU R) false Tryz.f91 (aI Tryz.f91) [.int .i64 x1, .int .i64 x2, .int .i64 x3] [] k =
    ov x1 x2 x3 (fun q0=>k (.bool q0) []):=by kernel_rfl
theorem Ck (R:Type):∀a∈aO (aI Tryz.f91),cG tt (ou R) (yU R) 0 a:=by
  refine bB 0 (by kernel_rfl) fun i hi => ?_
  omega
theorem vG (R:Type) (other:ax.Spec R) (ho:ax.Spec.Ok Tryz.prog 91 other):ax.Spec.Ok Tryz.prog 91 (az mq mr (qZ aU) other) :=
  bm ho (bc TT mixed (Ds R) (keep:=false) rfl rfl rfl rfl 0 (Ck R)) fun (x:bJ.au mq) (y:aF.au mr) k=>D1 x.1 x.2.1 x.2.2.1 k

/-! ### humpyard/decimal.Right -/
abbrev j7 (R:Type):Type:=iH→(Bool→Option R)→Option R
abbrev qC:List bJ := [.agg [.int .i64, .int .i64]]
abbrev qD:List aF := []
noncomputable def xX {R:Type} (fn:j7 R):bJ.au qC→aF.au qD→(V→ay→Option R)→Option R:=fun x y k=>fn (⟨x.1.1,x.1.2.1⟩:iH) (fun q0=>k (.bool q0) [])
noncomputable def uO (R:Type) (aU:eX R):Env R:=fun i=>match i with
  | 91=>some (true,(az mq mr (qZ aU) aZ))
  | _=>none
theorem HI (R:Type):po Tryz.prog (uO R aU):=by
  intro i b sp h
  unfold uO at h
  split at h
  · cases h; exact ⟨(vG R _ (aM _)),fun h=>nomatch h⟩
  · cases h

noncomputable def DQ (R:Type):Nat→Option (Hint × cd R):=fun i=>match i with
  | _=>none

noncomputable def lx {R:Type} (aU:eX R) (x1:iH) (k0:Bool→Option R):Option R :=
  bif (x1.aw==0)then (k0 (x1.exp==0))else (bif ((Int.tmod x1.aw 10) != 0)then (aU (-1000000000000000) x1.aw 1000000000000000 (fun y2=>bif y2 then (aU (-9) x1.exp 9 (fun y3=>k0 y3))else (k0 false)))else (k0 false))
noncomputable def bW {R:Type}:j7 R:=fun x1 k0=>lx aU x1 k0
theorem IW {R:Type} (aU:eX R) (x1:iH) (k:V→ay→Option R):iq tt (uO R aU) (DQ R) false Tryz.f65 (aI Tryz.f65) [.agg [.int .i64 x1.aw, .int .i64 x1.exp]] [] k =
    lx aU x1 (fun q0=>k (.bool q0) []):=by kernel_rfl
theorem FB (R:Type):∀a∈aO (aI Tryz.f65),cG tt (uO R aU) (DQ R) 0 a:=by
  refine bB 0 (by kernel_rfl) fun i hi => ?_
  omega
theorem Bf (R:Type) (other:ax.Spec R) (ho:ax.Spec.Ok Tryz.prog 65 other):ax.Spec.Ok Tryz.prog 65 (az qC qD (xX bW) other) :=
  bm ho (bc TT mixed (HI R) (keep:=false) rfl rfl rfl rfl 0 (FB R)) fun (x:bJ.au qC) (y:aF.au qD) k=>IW aU (⟨x.1.1,x.1.2.1⟩:iH) k

/-! ### humpyard/quote.Whole -/
abbrev fk (R:Type):Type:=ak→(Bool→Option R)→Option R
abbrev qU:List bJ := [.leaf (.str)]
abbrev qV:List aF := []
noncomputable def wA {R:Type} (fn:fk R):bJ.au qU→aF.au qV→(V→ay→Option R)→Option R:=fun x y k=>fn x.1 (fun q0=>k (.bool q0) [])
noncomputable def yA (R:Type):Env R:=fun i=>match i with
  | 72=>some (true,(OM R))
  | _=>none
theorem JZ (R:Type):po Tryz.prog (yA R):=by
  intro i b sp h
  unfold yA at h
  split at h
  · cases h; exact ⟨(Xo),fun h=>nomatch h⟩
  · cases h

noncomputable def F5 (R:Type):Nat→Option (Hint × cd R):=fun i=>match i with
  | _=>none

noncomputable def F6 {R:Type} (x1:ak) (k0:Bool→Option R):Option R :=
  k0 (iu x1)
noncomputable def bk {R:Type}:fk R:=fun x1 k0=>F6 x1 k0
theorem LI {R:Type} (x1:ak) (k:V→ay→Option R):iq tt (yA R) (F5 R) false Tryz.f49 (aI Tryz.f49) [.str x1] [] k =
    F6 x1 (fun q0=>k (.bool q0) []):=by kernel_rfl
theorem HJ (R:Type):∀a∈aO (aI Tryz.f49),cG tt (yA R) (F5 R) 0 a:=by
  refine bB 0 (by kernel_rfl) fun i hi => ?_
  omega
theorem xY (R:Type) (other:ax.Spec R) (ho:ax.Spec.Ok Tryz.prog 49 other):ax.Spec.Ok Tryz.prog 49 (az qU qV (wA bk) other) :=
  bm ho (bc TT mixed (JZ R) (keep:=false) rfl rfl rfl rfl 0 (HJ R)) fun (x:bJ.au qU) (y:aF.au qV) k=>LI x.1 k

/-! ### humpyard/json.unique -/
abbrev sn (R:Type):Type:=(List ak)→(Bool→Option R)→Option R
abbrev yB:List bJ := [.leaf (.sl .str)]
abbrev yC:List aF := []
noncomputable def EI {R:Type} (fn:sn R):bJ.au yB→aF.au yC→(V→ay→Option R)→Option R:=fun x y k=>fn x.1 (fun q0=>k (.bool q0) [])
abbrev lM (R:Type):Type:=Nat→(List ak)→Int→Int→(List (ak × Bool))→(Option R)→(Bool→Option R)→Option R
noncomputable def oT (R:Type) (bk:fk R):Env R:=fun i=>match i with
  | 49=>some (true,(az qU qV (wA bk) aZ))
  | _=>none
theorem J0 (R:Type):po Tryz.prog (oT R bk):=by
  intro i b sp h
  unfold oT at h
  split at h
  · cases h; exact ⟨(xY R _ (aM _)),fun h=>nomatch h⟩
  · cases h

noncomputable def rF {R:Type} (bk:fk R) (gm:(List ak)→Int→Int→(List (ak × Bool))→Option R) (x2:List ak) (x3:Int) (x4:Int) (x5:List (ak × Bool)) (e0:Option R) (e1:Bool→Option R):Option R :=
  bif (decide (x4<x3))then (cR (decide ((0:Int)≤x4)&&decide (x4<x2.length)) (bif (nF .str .bool (x2.getD x4.toNat (Ty.cg .str)) x5)then (e1 false)else (bk (x2.getD x4.toNat (Ty.cg .str)) (fun y6=>bif (!y6)then (e1 false)else (gm x2 x3 (IntKind.i64.wrap (x4+1)) (wa .str .bool (x2.getD x4.toNat (Ty.cg .str)) true x5))))))else (e0)
noncomputable def cr {R:Type}:lM R
  | 0,_,_,_,_,_,_=>none
  | n+1,mQ,mR,nI,xl,e0,e1=>rF bk (fun mQ mR nI xl=>cr n mQ mR nI xl e0 e1) mQ mR nI xl e0 e1
noncomputable def rG:Hint := { live := [3,7,8,9],own := [],rows := [],cells := [],drop := [],out := [2] }
abbrev jn:Type:=(List ak) × Int × Int × (List (ak × Bool))
noncomputable def pr:jn→St:=fun d=>⟨[.undef, .undef, .undef, .map 0, .undef, .undef, .undef, .sl .str d.1 .no, .int .i64 d.2.1, .int .i64 d.2.2.1, .undef, .undef, .undef, .undef, .undef, .undef, .undef, .undef, .undef, .undef, .undef, .undef, .undef, .undef], [.uW .str .bool d.2.2.2]⟩
noncomputable def uZ {R:Type} (K:Ex→St→Option R):Option R:=K (.exit 0) ⟨[.undef, .undef, .undef, .undef, .undef, .undef, .undef, .undef, .undef, .undef, .undef, .undef, .undef, .undef, .undef, .undef, .undef, .undef, .undef, .undef, .undef, .undef, .undef, .undef], []⟩
noncomputable def u0 {R:Type} (K:Ex→St→Option R) (q0:Bool):Option R:=K (.ret) ⟨[.undef, .undef, .bool q0, .undef, .undef, .undef, .undef, .undef, .undef, .undef, .undef, .undef, .undef, .undef, .undef, .undef, .undef, .undef, .undef, .undef, .undef, .undef, .undef, .undef], []⟩
noncomputable def wB {R:Type} (bk:fk R) (K:Ex→St→Option R) (rc:jn→Option R) (d:jn):Option R:=rF bk (fun z0 z1 z2 z3=>rc (z0,z1,z2,z3)) d.1 d.2.1 d.2.2.1 d.2.2.2 (uZ K) (u0 K)
noncomputable def mF {R:Type} (K:Ex→St→Option R) (n:Nat) (d:jn):Option R:=cr n d.1 d.2.1 d.2.2.1 d.2.2.2 (uZ K) (u0 K)
abbrev jq:List bJ := [.leaf (.undef), .leaf (.undef), .leaf (.undef), .leaf (.map 0), .leaf (.undef), .leaf (.undef), .leaf (.undef), .leaf (.sl .str), .leaf (.int .i64), .leaf (.int .i64), .leaf (.undef), .leaf (.undef), .leaf (.undef), .leaf (.undef), .leaf (.undef), .leaf (.undef), .leaf (.undef), .leaf (.undef), .leaf (.undef), .leaf (.undef), .leaf (.undef), .leaf (.undef), .leaf (.undef), .leaf (.undef)]
abbrev jr:List aF := [.uW .str .bool]
noncomputable def wC (x:bJ.au jq) (y:aF.au jr):Nat:=(List.length x.2.2.2.2.2.2.2.1+Int.natAbs x.2.2.2.2.2.2.2.2.1+Int.natAbs x.2.2.2.2.2.2.2.2.2.1+List.length y.1+64)
noncomputable def wD (x:bJ.au jq) (y:aF.au jr):jn:=(x.2.2.2.2.2.2.2.1,x.2.2.2.2.2.2.2.2.1,x.2.2.2.2.2.2.2.2.2.1,y.1)
noncomputable def u4 {R:Type} (L:lM R):bJ.au jq→aF.au jr→(Ex→St→Option R)→Option R:=fun x y K=>L (wC x y) x.2.2.2.2.2.2.2.1 x.2.2.2.2.2.2.2.2.1 x.2.2.2.2.2.2.2.2.2.1 y.1 (uZ K) (u0 K)
noncomputable def ua (R:Type) (cr:lM R):Nat→Option (Hint × cd R):=fun i=>match i with
  | 3=>some (rG,(gq jq jr (u4 cr) qg))
  | _=>none

theorem EJ {R:Type} (bk:fk R) (cr:lM R) (K:Ex→St→Option R) (rc:St→Option R) (d:jn):roundOf tt (oT R bk) (ua R cr) 0 ((aO (aI Tryz.f78)).getD 0 .skip) rG (pr d) rc K=wB bk K (fun d=>rc (pr d)) d:=by kernel_rfl
theorem Dt {R:Type} (K:Ex→St→Option R) (n:Nat) (d:jn):mF K (n+1) d=wB bk K (mF K n) d:=by kernel_rfl
theorem Du {R:Type} (K:Ex→St→Option R) (d:jn):mF K 0 d=none:=by kernel_rfl
theorem EK (x:bJ.au jq) (y:aF.au jr):(⟨bJ.cL jq x,aF.cL jr y⟩:St)=pr (wD x y):=by kernel_rfl
theorem EL {R:Type} (x:bJ.au jq) (y:aF.au jr) (K:Ex→St→Option R):u4 (cr) x y K=mF K (wC x y) (wD x y):=by kernel_rfl
theorem GJ {R:Type} (other:cd R) (ho:ph tt (oT R bk) (ua R cr) 0 ((aO (aI Tryz.f78)).getD 0 .skip) rG other):ph tt (oT R bk) (ua R cr) 0 ((aO (aI Tryz.f78)).getD 0 .skip) rG (gq jq jr (u4 (cr)) other) :=
  gQ (A:=mF) ho (kO pr (wB bk) (mF) (Du) (EJ bk cr) (Dt)) wC wD EK (EL)

noncomputable def F7 {R:Type} (cr:lM R) (x1:List ak) (k0:Bool→Option R):Option R :=
  cr (List.length x1+Int.natAbs (x1.length:Int)+Int.natAbs 0+List.length ([]:List (ak × Bool))+64) x1 (x1.length:Int) 0 ([]:List (ak × Bool)) (k0 true) (fun y8=>k0 y8)
noncomputable def iv {R:Type}:sn R:=fun x1 k0=>F7 cr x1 k0
theorem LJ {R:Type} (bk:fk R) (cr:lM R) (x1:List ak) (k:V→ay→Option R):iq tt (oT R bk) (ua R cr) false Tryz.f78 (aI Tryz.f78) [.sl .str x1 .no] [] k =
    F7 cr x1 (fun q0=>k (.bool q0) []):=by kernel_rfl
theorem HK (R:Type):∀a∈aO (aI Tryz.f78),cG tt (oT R bk) (ua R cr) 0 a:=by
  refine bB 1 (by kernel_rfl) fun i hi => ?_
  match i,hi with
  | 0,_=>exact fT (by kernel_rfl) (GJ _ jA)
  | n+1,hi=>omega
theorem IX (R:Type) (other:ax.Spec R) (ho:ax.Spec.Ok Tryz.prog 78 other):ax.Spec.Ok Tryz.prog 78 (az yB yC (EI iv) other) :=
  bm ho (bc TT mixed (J0 R) (keep:=false) rfl rfl rfl rfl 0 (HK R)) fun (x:bJ.au yB) (y:aF.au yC) k=>LJ bk cr x.1 k

end Go.Proofs.YtmlkkgfenfdndaaGreatDoor

namespace Go.Proofs.YtmlkkgfenfdndaaGreatDoor
open Go Go.ax

end Go.Proofs.YtmlkkgfenfdndaaGreatDoor

/-
  Functions of the program as pure Lean functions, and the ties; printed by wip/tools/emit.py.
-/
set_option maxRecDepth 100000
namespace Go.Proofs.YtmlkkgfenfdndaaGreatDoor
open Go Go.ax

/-! ### humpyard/json.right -/
abbrev bK (R:Type):Type:=Json→Int→(Bool→Option R)→Option R
abbrev gu:List bJ := [.agg [.int .i64, .int .i64, .int .i64, .str, .sl .str, .sl .json], .leaf (.int .i64)]
abbrev gv:List aF := []
noncomputable def eO {R:Type} (fn:bK R):bJ.au gu→aF.au gv→(V→ay→Option R)→Option R:=fun x y k=>fn (⟨x.1.1,⟨x.1.2.1,x.1.2.2.1⟩,x.1.2.2.2.1,x.1.2.2.2.2.1,x.1.2.2.2.2.2.1⟩:Json) x.2.1 (fun q0=>k (.bool q0) [])
/-! ### humpyard/json.right$1 -/
abbrev iw (R:Type):Type:=Json→Int→(Bool→Int→Option R)→Option R
abbrev pv:List bJ := [.agg [.int .i64, .int .i64, .int .i64, .str, .sl .str, .sl .json], .leaf (.ptr 0 0)]
abbrev pw:List aF := [.cells [.int .i64]]
noncomputable def yV {R:Type} (fn:iw R):bJ.au pv→aF.au pw→(V→ay→Option R)→Option R:=fun x y k=>fn (⟨x.1.1,⟨x.1.2.1,x.1.2.2.1⟩,x.1.2.2.2.1,x.1.2.2.2.2.1,x.1.2.2.2.2.2.1⟩:Json) y.1.1 (fun q0 q1=>k (.bool q0) [.cells [.int .i64 q1]])
noncomputable def px (R:Type) (aj:bK R):Env R:=fun i=>match i with
  | 56=>some (true,(az gu gv (eO aj) aZ))
  | _=>none
theorem D2 (R:Type) (aj:bK R) (eU:ax.Spec.Ok Tryz.prog 56 (az gu gv (eO aj) aZ)):po Tryz.prog (px R aj):=by
  intro i b sp h
  unfold px at h
  split at h
  · cases h; exact ⟨eU,fun h=>nomatch h⟩
  · cases h

noncomputable def zO (R:Type):Nat→Option (Hint × cd R):=fun i=>match i with
  | _=>none

noncomputable def pz {R:Type} (aj:bK R) (x1:Json) (x2:Int) (k0:Bool→Int→Option R):Option R :=
  aj (⟨x1.kind,⟨x1.num.aw,x1.num.exp⟩,x1.text,x1.names,x1.items⟩:Json) (IntKind.i64.wrap (x2+1)) (fun y3=>k0 (!y3) x2)
noncomputable def bX {R:Type} (aj:bK R):iw R:=fun x1 x2 k0=>pz aj x1 x2 k0
theorem EM {R:Type} (aj:bK R) (x1:Json) (x2:Int) (k:V→ay→Option R):iq tt (px R aj) (zO R) false Tryz.f80 (aI Tryz.f80) [.agg [.int .i64 x1.kind, .int .i64 x1.num.aw, .int .i64 x1.num.exp, .str x1.text, .sl .str x1.names .no, .sl .json x1.items .no], .ptr 0 0] [.cells [.int .i64 x2]] k =
    pz aj x1 x2 (fun q0 q1=>k (.bool q0) [.cells [.int .i64 q1]]):=by kernel_rfl
theorem CL (R:Type) (aj:bK R):∀a∈aO (aI Tryz.f80),cG tt (px R aj) (zO R) 1 a:=by
  refine bB 0 (by kernel_rfl) fun i hi => ?_
  omega
theorem Dv (R:Type) (aj:bK R) (eU:ax.Spec.Ok Tryz.prog 56 (az gu gv (eO aj) aZ)) (other:ax.Spec R) (ho:ax.Spec.Ok Tryz.prog 80 other):ax.Spec.Ok Tryz.prog 80 (az pv pw (yV (bX aj)) other) :=
  bm ho (bc TT mixed (D2 R aj eU) (keep:=false) rfl rfl rfl rfl 1 (CL R aj)) fun (x:bJ.au pv) (y:aF.au pw) k=>EM aj (⟨x.1.1,⟨x.1.2.1,x.1.2.2.1⟩,x.1.2.2.2.1,x.1.2.2.2.2.1,x.1.2.2.2.2.2.1⟩:Json) y.1.1 k

/-! ### slices.IndexFunc[[]humpyard/api.Json,humpyard/api.Json] -/
abbrev fa (R:Type):Type:=(List Json)→Int→(Int→Int→Option R)→Option R
abbrev gS:List bJ := [.leaf (.sl .json), .func 80 [] [.ptr 0 0]]
abbrev gT:List aF := [.cells [.int .i64]]
noncomputable def nZ {R:Type} (fn:fa R):bJ.au gS→aF.au gT→(V→ay→Option R)→Option R:=fun x y k=>fn x.1 y.1.1 (fun q0 q1=>k (.int .i64 q0) [.cells [.int .i64 q1]])
abbrev dy (R:Type):Type:=Nat→(List Json)→Int→Int→Int→(Int→Option R)→(Int→Int→Option R)→Option R
noncomputable def dD (R:Type) (bX:iw R):Env R:=fun i=>match i with
  | 80=>some (false,(az pv pw (yV bX) aZ))
  | _=>none
theorem u6 (R:Type) (aj:bK R) (eU:ax.Spec.Ok Tryz.prog 56 (az gu gv (eO aj) aZ)):po Tryz.prog (dD R (bX aj)):=by
  intro i b sp h
  unfold dD at h
  split at h
  · cases h; exact ⟨(Dv R aj eU _ (aM _)),fun _ h=>nomatch h⟩
  · cases h

noncomputable def fU {R:Type} (bX:iw R) (gm:(List Json)→Int→Int→Int→Option R) (x3:List Json) (x4:Int) (x5:Int) (x6:Int) (e0:Int→Option R) (e1:Int→Int→Option R):Option R :=
  bif (decide (x5<x4))then (cR (decide ((0:Int)≤x5)&&decide (x5<x3.length)) (bX (⟨(x3.getD x5.toNat (Ty.cg .json)).kind,⟨(x3.getD x5.toNat (Ty.cg .json)).num.aw,(x3.getD x5.toNat (Ty.cg .json)).num.exp⟩,(x3.getD x5.toNat (Ty.cg .json)).text,(x3.getD x5.toNat (Ty.cg .json)).names,(x3.getD x5.toNat (Ty.cg .json)).items⟩:Json) x6 (fun y7 y8=>bif y7 then (e1 x5 y8)else (gm x3 x4 (IntKind.i64.wrap (x5+1)) y8))))else (e0 x6)
noncomputable def aK {R:Type} (aj:bK R):dy R
  | 0,_,_,_,_,_,_=>none
  | n+1,mQ,mR,nI,xl,e0,e1=>fU (bX aj) (fun mQ mR nI xl=>aK aj n mQ mR nI xl e0 e1) mQ mR nI xl e0 e1
noncomputable def fV:Hint := { live := [0,1,7,8],own := [],rows := [],cells := [],drop := [],out := [4] }
abbrev cA:Type:=(List Json) × Int × Int × Int
noncomputable def fm:cA→St:=fun d=>⟨[.sl .json d.1 .no, .func 80 [] [.ptr 0 0], .undef, .undef, .undef, .undef, .undef, .int .i64 d.2.1, .int .i64 d.2.2.1, .undef, .undef, .undef, .undef, .undef, .undef, .undef, .undef, .undef, .undef], [.cells [.int .i64 d.2.2.2]]⟩
noncomputable def iJ {R:Type} (K:Ex→St→Option R) (q0:Int):Option R:=K (.exit 0) ⟨[.undef, .undef, .undef, .undef, .undef, .undef, .undef, .undef, .undef, .undef, .undef, .undef, .undef, .undef, .undef, .undef, .undef, .undef, .undef], [.cells [.int .i64 q0]]⟩
noncomputable def iK {R:Type} (K:Ex→St→Option R) (q0:Int) (q1:Int):Option R:=K (.ret) ⟨[.undef, .undef, .undef, .undef, .int .i64 q0, .undef, .undef, .undef, .undef, .undef, .undef, .undef, .undef, .undef, .undef, .undef, .undef, .undef, .undef], [.cells [.int .i64 q1]]⟩
noncomputable def jh {R:Type} (bX:iw R) (K:Ex→St→Option R) (rc:cA→Option R) (d:cA):Option R:=fU bX (fun z0 z1 z2 z3=>rc (z0,z1,z2,z3)) d.1 d.2.1 d.2.2.1 d.2.2.2 (iJ K) (iK K)
noncomputable def dE {R:Type} (aj:bK R) (K:Ex→St→Option R) (n:Nat) (d:cA):Option R:=aK aj n d.1 d.2.1 d.2.2.1 d.2.2.2 (iJ K) (iK K)
abbrev cB:List bJ := [.leaf (.sl .json), .func 80 [] [.ptr 0 0], .leaf (.undef), .leaf (.undef), .leaf (.undef), .leaf (.undef), .leaf (.undef), .leaf (.int .i64), .leaf (.int .i64), .leaf (.undef), .leaf (.undef), .leaf (.undef), .leaf (.undef), .leaf (.undef), .leaf (.undef), .leaf (.undef), .leaf (.undef), .leaf (.undef), .leaf (.undef)]
abbrev cC:List aF := [.cells [.int .i64]]
noncomputable def ji (x:bJ.au cB) (y:aF.au cC):Nat:=(List.length x.1+Int.natAbs x.2.2.2.2.2.2.2.1+Int.natAbs x.2.2.2.2.2.2.2.2.1+Int.natAbs y.1.1+64)
noncomputable def jj (x:bJ.au cB) (y:aF.au cC):cA:=(x.1,x.2.2.2.2.2.2.2.1,x.2.2.2.2.2.2.2.2.1,y.1.1)
noncomputable def iL {R:Type} (L:dy R):bJ.au cB→aF.au cC→(Ex→St→Option R)→Option R:=fun x y K=>L (ji x y) x.1 x.2.2.2.2.2.2.2.1 x.2.2.2.2.2.2.2.2.1 y.1.1 (iJ K) (iK K)
noncomputable def fo (R:Type) (aK:dy R):Nat→Option (Hint × cd R):=fun i=>match i with
  | 2=>some (fV,(gq cB cC (iL aK) qg))
  | _=>none

theorem rY {R:Type} (bX:iw R) (aK:dy R) (K:Ex→St→Option R) (rc:St→Option R) (d:cA):roundOf tt (dD R bX) (fo R aK) 1 ((aO (aI Tryz.f116)).getD 0 .skip) fV (fm d) rc K=jh bX K (fun d=>rc (fm d)) d:=by kernel_rfl
theorem qE {R:Type} (aj:bK R) (K:Ex→St→Option R) (n:Nat) (d:cA):dE aj K (n+1) d=jh (bX aj) K (dE aj K n) d:=by kernel_rfl
theorem qF {R:Type} (aj:bK R) (K:Ex→St→Option R) (d:cA):dE aj K 0 d=none:=by kernel_rfl
theorem rZ (x:bJ.au cB) (y:aF.au cC):(⟨bJ.cL cB x,aF.cL cC y⟩:St)=fm (jj x y):=by kernel_rfl
theorem r5 {R:Type} (aj:bK R) (x:bJ.au cB) (y:aF.au cC) (K:Ex→St→Option R):iL (aK aj) x y K=dE aj K (ji x y) (jj x y):=by kernel_rfl
theorem sZ {R:Type} (aj:bK R) (other:cd R) (ho:ph tt (dD R (bX aj)) (fo R (aK aj)) 1 ((aO (aI Tryz.f116)).getD 0 .skip) fV other):ph tt (dD R (bX aj)) (fo R (aK aj)) 1 ((aO (aI Tryz.f116)).getD 0 .skip) fV (gq cB cC (iL (aK aj)) other) :=
  gQ (A:=dE aj) ho (kO fm (jh (bX aj)) (dE aj) (qF aj) (rY (bX aj) (aK aj)) (qE aj)) ji jj rZ (r5 aj)

noncomputable def ow {R:Type} (aK:dy R) (x1:List Json) (x2:Int) (k0:Int→Int→Option R):Option R :=
  aK (List.length x1+Int.natAbs (x1.length:Int)+Int.natAbs 0+Int.natAbs x2+64) x1 (x1.length:Int) 0 x2 (fun y9=>k0 (-1) y9) (fun B5 B6=>k0 B5 B6)
noncomputable def bT {R:Type} (aj:bK R):fa R:=fun x1 x2 k0=>ow (aK aj) x1 x2 k0
theorem vR {R:Type} (bX:iw R) (aK:dy R) (x1:List Json) (x2:Int) (k:V→ay→Option R):iq tt (dD R bX) (fo R aK) false Tryz.f116 (aI Tryz.f116) [.sl .json x1 .no, .func 80 [] [.ptr 0 0]] [.cells [.int .i64 x2]] k =
    ow aK x1 x2 (fun q0 q1=>k (.int .i64 q0) [.cells [.int .i64 q1]]):=by kernel_rfl
theorem tB (R:Type) (aj:bK R):∀a∈aO (aI Tryz.f116),cG tt (dD R (bX aj)) (fo R (aK aj)) 1 a:=by
  refine bB 1 (by kernel_rfl) fun i hi => ?_
  match i,hi with
  | 0,_=>exact fT (by kernel_rfl) (sZ aj _ jA)
  | n+1,hi=>omega
theorem ub (R:Type) (aj:bK R) (eU:ax.Spec.Ok Tryz.prog 56 (az gu gv (eO aj) aZ)) (other:ax.Spec R) (ho:ax.Spec.Ok Tryz.prog 116 other):ax.Spec.Ok Tryz.prog 116 (az gS gT (nZ (bT aj)) other) :=
  bm ho (bc TT mixed (u6 R aj eU) (keep:=false) rfl rfl rfl rfl 1 (tB R aj)) fun (x:bJ.au gS) (y:aF.au gT) k=>vR (bX aj) (aK aj) x.1 y.1.1 k

/-! ### slices.ContainsFunc[[]humpyard/api.Json,humpyard/api.Json] -/
abbrev eE (R:Type):Type:=(List Json)→Int→(Bool→Int→Option R)→Option R
abbrev gg:List bJ := [.leaf (.sl .json), .func 80 [] [.ptr 0 0]]
abbrev gh:List aF := [.cells [.int .i64]]
noncomputable def mX {R:Type} (fn:eE R):bJ.au gg→aF.au gh→(V→ay→Option R)→Option R:=fun x y k=>fn x.1 y.1.1 (fun q0 q1=>k (.bool q0) [.cells [.int .i64 q1]])
noncomputable def gi (R:Type) (bT:fa R):Env R:=fun i=>match i with
  | 116=>some (false,(az gS gT (nZ bT) aZ))
  | _=>none
theorem s4 (R:Type) (aj:bK R) (eU:ax.Spec.Ok Tryz.prog 56 (az gu gv (eO aj) aZ)):po Tryz.prog (gi R (bT aj)):=by
  intro i b sp h
  unfold gi at h
  split at h
  · cases h; exact ⟨(ub R aj eU _ (aM _)),fun _ h=>nomatch h⟩
  · cases h

noncomputable def nk (R:Type):Nat→Option (Hint × cd R):=fun i=>match i with
  | _=>none

noncomputable def np {R:Type} (bT:fa R) (x1:List Json) (x2:Int) (k0:Bool→Int→Option R):Option R :=
  bT x1 x2 (fun y3 y4=>k0 (decide (y3≥(0:Int))) y4)
noncomputable def aN {R:Type} (aj:bK R):eE R:=fun x1 x2 k0=>np (bT aj) x1 x2 k0
theorem tC {R:Type} (bT:fa R) (x1:List Json) (x2:Int) (k:V→ay→Option R):iq tt (gi R bT) (nk R) false Tryz.f79 (aI Tryz.f79) [.sl .json x1 .no, .func 80 [] [.ptr 0 0]] [.cells [.int .i64 x2]] k =
    np bT x1 x2 (fun q0 q1=>k (.bool q0) [.cells [.int .i64 q1]]):=by kernel_rfl
theorem r6 (R:Type) (aj:bK R):∀a∈aO (aI Tryz.f79),cG tt (gi R (bT aj)) (nk R) 1 a:=by
  refine bB 0 (by kernel_rfl) fun i hi => ?_
  omega
theorem so (R:Type) (aj:bK R) (eU:ax.Spec.Ok Tryz.prog 56 (az gu gv (eO aj) aZ)) (other:ax.Spec R) (ho:ax.Spec.Ok Tryz.prog 79 other):ax.Spec.Ok Tryz.prog 79 (az gg gh (mX (aN aj)) other) :=
  bm ho (bc TT mixed (s4 R aj eU) (keep:=false) rfl rfl rfl rfl 1 (r6 R aj)) fun (x:bJ.au gg) (y:aF.au gh) k=>tC (bT aj) x.1 y.1.1 k

noncomputable def An (R:Type) (bk:fk R) (bW:j7 R) (mE:wz R) (iv:sn R) (aN:eE R):Env R:=fun i=>match i with
  | 49=>some (true,(az qU qV (wA bk) aZ))
  | 65=>some (true,(az qC qD (xX bW) aZ))
  | 77=>some (true,(az B7 B8 (HH mE) aZ))
  | 78=>some (true,(az yB yC (EI iv) aZ))
  | 79=>some (false,(az gg gh (mX aN) aZ))
  | _=>none
theorem LK (R:Type) (aj:bK R) (eU:ax.Spec.Ok Tryz.prog 56 (az gu gv (eO aj) aZ)):po Tryz.prog (An R bk bW mE iv (aN aj)):=by
  intro i b sp h
  unfold An at h
  split at h
  · cases h; exact ⟨(xY R _ (aM _)),fun h=>nomatch h⟩
  · cases h; exact ⟨(Bf R _ (aM _)),fun h=>nomatch h⟩
  · cases h; exact ⟨(LH R _ (aM _)),fun h=>nomatch h⟩
  · cases h; exact ⟨(IX R _ (aM _)),fun h=>nomatch h⟩
  · cases h; exact ⟨(so R aj eU _ (aM _)),fun _ h=>nomatch h⟩
  · cases h

noncomputable def HL (R:Type):Nat→Option (Hint × cd R):=fun i=>match i with
  | _=>none

noncomputable def Ao {R:Type} (bk:fk R) (bW:j7 R) (mE:wz R) (iv:sn R) (aN:eE R) (x1:Json) (x2:Int) (k0:Bool→Option R):Option R :=
  mE (⟨x1.kind,⟨x1.num.aw,x1.num.exp⟩,x1.text,x1.names,x1.items⟩:Json) (fun y3=>bif (decide (x2>(16:Int)))then (k0 false)else (bif (decide (x1.kind<(1:Int)))then (k0 false)else (bif (decide (x1.kind>(7:Int)))then (k0 false)else (bif (!(y3.num.aw==0&&(y3.num.exp==0&&true)))then (k0 false)else (bif (!(y3.text==([]:ak)))then (k0 false)else (bif (decide ((IntKind.i64.wrap ((y3.names.length:Int)+(y3.items.length:Int)))>(0:Int)))then (k0 false)else (bif (x1.kind==4)then (bW x1.num (fun y5=>k0 y5))else (bif (x1.kind==5)then (bk x1.text (fun y6=>k0 y6))else (bif (x1.kind==7)then (bif ((x1.names.length:Int) != (x1.items.length:Int))then (k0 false)else (iv x1.names (fun y7=>bif (!y7)then (k0 false)else (aN x1.items x2 (fun B6 HM=>k0 (!B6))))))else (aN x1.items x2 (fun Il GK=>k0 (!Il))))))))))))
noncomputable def Dw {R:Type} (aj:bK R):bK R:=fun x1 x2 k0=>Ao bk bW mE iv (aN aj) x1 x2 k0
theorem MP {R:Type} (bk:fk R) (bW:j7 R) (mE:wz R) (iv:sn R) (aN:eE R) (x1:Json) (x2:Int) (k:V→ay→Option R):iq tt (An R bk bW mE iv aN) (HL R) false Tryz.f56 (aI Tryz.f56) [.agg [.int .i64 x1.kind, .int .i64 x1.num.aw, .int .i64 x1.num.exp, .str x1.text, .sl .str x1.names .no, .sl .json x1.items .no], .int .i64 x2] [] k =
    Ao bk bW mE iv aN x1 x2 (fun q0=>k (.bool q0) []):=by kernel_rfl
theorem IY (R:Type) (aj:bK R):∀a∈aO (aI Tryz.f56),cG tt (An R bk bW mE iv (aN aj)) (HL R) 0 a:=by
  refine bB 0 (by kernel_rfl) fun i hi => ?_
  omega
theorem IZ (R:Type) (aj:bK R) (eU:ax.Spec.Ok Tryz.prog 56 (az gu gv (eO aj) aZ)) (other:ax.Spec R) (ho:ax.Spec.Ok Tryz.prog 56 other):ax.Spec.Ok Tryz.prog 56 (az gu gv (eO (Dw aj)) other) :=
  bm ho (bc TT mixed (LK R aj eU) (keep:=false) rfl rfl rfl rfl 0 (IY R aj)) fun (x:bJ.au gu) (y:aF.au gv) k=>MP bk bW mE iv (aN aj) (⟨x.1.1,⟨x.1.2.1,x.1.2.2.1⟩,x.1.2.2.2.1,x.1.2.2.2.2.1,x.1.2.2.2.2.2.1⟩:Json) x.2.1 k
noncomputable def eJ {R:Type}:Nat→bK R
  | 0,_,_,_=>none
  | n+1,mQ,mR,Zo=>Dw (eJ n) mQ mR Zo
theorem Tb {R:Type} (n:Nat):eJ (R:=R) (n+1)=Dw (eJ n):=by kernel_rfl
theorem J1 (R:Type):∀n,ax.Spec.Ok Tryz.prog 56 (az gu gv (eO (eJ (R:=R) n)) aZ) :=
  vF (run:=fun n=>eO (eJ (R:=R) n)) (fun x y k=>by kernel_rfl) fun n hyp=>IZ R (eJ n) hyp aZ (aM _)
noncomputable def kP {R:Type}:bK R:=fun x1 x2 k0=>eJ (Json.depth x1+2) x1 x2 k0
theorem J2 (R:Type):eO (R:=R) kP=fun x y k=>eO (eJ (Json.depth (⟨x.1.1,⟨x.1.2.1,x.1.2.2.1⟩,x.1.2.2.2.1,x.1.2.2.2.2.1,x.1.2.2.2.2.2.1⟩:Json)+2)) x y k:=by kernel_rfl
theorem J3 (R:Type) (other:ax.Spec R) (ho:ax.Spec.Ok Tryz.prog 56 other):ax.Spec.Ok Tryz.prog 56 (az gu gv (eO kP) other) :=
  Bd (CI (run:=fun n=>eO (eJ (R:=R) n)) (fun x y=>(Json.depth (⟨x.1.1,⟨x.1.2.1,x.1.2.2.1⟩,x.1.2.2.2.1,x.1.2.2.2.2.1,x.1.2.2.2.2.2.1⟩:Json)+2)) ho (J1 R)) (J2 R)

end Go.Proofs.YtmlkkgfenfdndaaGreatDoor

/-
  Functions of the program as pure Lean functions, and the ties; printed by wip/tools/emit.py.
-/
set_option maxRecDepth 100000
namespace Go.Proofs.YtmlkkgfenfdndaaGreatDoor
open Go Go.ax

/-! ### humpyard/json.Right -/
abbrev jC (R:Type):Type:=Json→(Bool→Option R)→Option R
abbrev s5:List bJ := [.agg [.int .i64, .int .i64, .int .i64, .str, .sl .str, .sl .json]]
abbrev s6:List aF := []
noncomputable def yD {R:Type} (fn:jC R):bJ.au s5→aF.au s6→(V→ay→Option R)→Option R:=fun x y k=>fn (⟨x.1.1,⟨x.1.2.1,x.1.2.2.1⟩,x.1.2.2.2.1,x.1.2.2.2.2.1,x.1.2.2.2.2.2.1⟩:Json) (fun q0=>k (.bool q0) [])
noncomputable def Ap (R:Type) (kP:bK R):Env R:=fun i=>match i with
  | 56=>some (true,(az gu gv (eO kP) aZ))
  | _=>none
theorem LL (R:Type):po Tryz.prog (Ap R kP):=by
  intro i b sp h
  unfold Ap at h
  split at h
  · cases h; exact ⟨(J3 R _ (aM _)),fun h=>nomatch h⟩
  · cases h

noncomputable def HN (R:Type):Nat→Option (Hint × cd R):=fun i=>match i with
  | _=>none

noncomputable def Aq {R:Type} (kP:bK R) (x1:Json) (k0:Bool→Option R):Option R :=
  kP (⟨x1.kind,⟨x1.num.aw,x1.num.exp⟩,x1.text,x1.names,x1.items⟩:Json) 1 (fun y2=>k0 y2)
noncomputable def cp {R:Type}:jC R:=fun x1 k0=>Aq kP x1 k0
theorem MQ {R:Type} (kP:bK R) (x1:Json) (k:V→ay→Option R):iq tt (Ap R kP) (HN R) false Tryz.f32 (aI Tryz.f32) [.agg [.int .i64 x1.kind, .int .i64 x1.num.aw, .int .i64 x1.num.exp, .str x1.text, .sl .str x1.names .no, .sl .json x1.items .no]] [] k =
    Aq kP x1 (fun q0=>k (.bool q0) []):=by kernel_rfl
theorem I0 (R:Type):∀a∈aO (aI Tryz.f32),cG tt (Ap R kP) (HN R) 0 a:=by
  refine bB 0 (by kernel_rfl) fun i hi => ?_
  omega
theorem zx (R:Type) (other:ax.Spec R) (ho:ax.Spec.Ok Tryz.prog 32 other):ax.Spec.Ok Tryz.prog 32 (az s5 s6 (yD cp) other) :=
  bm ho (bc TT mixed (LL R) (keep:=false) rfl rfl rfl rfl 0 (I0 R)) fun (x:bJ.au s5) (y:aF.au s6) k=>MQ kP (⟨x.1.1,⟨x.1.2.1,x.1.2.2.1⟩,x.1.2.2.2.1,x.1.2.2.2.2.1,x.1.2.2.2.2.2.1⟩:Json) k

/-! ### (*strings.Builder).WriteString -/
abbrev bz (R:Type):Type:=ak→(Int→(List Int)→Option R)→Option R
abbrev dR:List bJ := [.leaf (.ptr 0 0), .leaf (.str)]
abbrev dS:List aF := [.kq (.cw)]
noncomputable def gk {R:Type} (fn:bz R):bJ.au dR→aF.au dS→(V→ay→Option R)→Option R:=fun x y k=>fn x.2.1 (fun q0 q1=>k (.tuple [.int .i64 q0, .cJ]) [.kq (.sl (.int .u8) q1 (.own 1)), .tok])
noncomputable def gw (R:Type):Env R:=fun i=>match i with
  | 73=>some (false,(JB R))
  | _=>none
theorem tD (R:Type):po Tryz.prog (gw R):=by
  intro i b sp h
  unfold gw at h
  split at h
  · cases h; exact ⟨(Ly),fun _ h=>nomatch h⟩
  · cases h

noncomputable def nJ (R:Type):Nat→Option (Hint × cd R):=fun i=>match i with
  | _=>none

noncomputable def nK {R:Type} (x1:ak) (k0:Int→(List Int)→Option R):Option R :=
  cR (decide ((0+(Be x1).length)*1≤140737488355328)) (k0 (x1.length:Int) (Be x1))
noncomputable def ag {R:Type}:bz R:=fun x1 k0=>nK x1 k0
theorem uc {R:Type} (x1:ak) (k:V→ay→Option R):iq tt (gw R) (nJ R) false Tryz.f52 (aI Tryz.f52) [.ptr 0 0, .str x1] [.kq (.cw)] k =
    nK x1 (fun q0 q1=>k (.tuple [.int .i64 q0, .cJ]) [.kq (.sl (.int .u8) q1 (.own 1)), .tok]):=by kernel_rfl
theorem sq (R:Type):∀a∈aO (aI Tryz.f52),cG tt (gw R) (nJ R) 1 a:=by
  refine bB 0 (by kernel_rfl) fun i hi => ?_
  omega
theorem iM (R:Type) (other:ax.Spec R) (ho:ax.Spec.Ok Tryz.prog 52 other):ax.Spec.Ok Tryz.prog 52 (az dR dS (gk ag) other) :=
  bm ho (bc TT mixed (tD R) (keep:=false) rfl rfl rfl rfl 1 (sq R)) fun (x:bJ.au dR) (y:aF.au dS) k=>uc x.2.1 k

/-! ### (*strings.Builder).WriteByte -/
abbrev bx (R:Type):Type:=Int→((List Int)→Option R)→Option R
abbrev eg:List bJ := [.leaf (.ptr 0 0), .leaf (.int .u8)]
abbrev eh:List aF := [.kq (.cw)]
noncomputable def gH {R:Type} (fn:bx R):bJ.au eg→aF.au eh→(V→ay→Option R)→Option R:=fun x y k=>fn x.2.1 (fun q0=>k (.cJ) [.kq (.sl (.int .u8) q0 (.own 1)), .tok])
noncomputable def gU (R:Type):Env R:=fun i=>match i with
  | 73=>some (false,(JB R))
  | _=>none
theorem u7 (R:Type):po Tryz.prog (gU R):=by
  intro i b sp h
  unfold gU at h
  split at h
  · cases h; exact ⟨(Ly),fun _ h=>nomatch h⟩
  · cases h

noncomputable def ox (R:Type):Nat→Option (Hint × cd R):=fun i=>match i with
  | _=>none

noncomputable def oy {R:Type} (x1:Int) (k0:(List Int)→Option R):Option R :=
  k0 ([x1]:List Int)
noncomputable def ah {R:Type}:bx R:=fun x1 k0=>oy x1 k0
theorem vS {R:Type} (x1:Int) (k:V→ay→Option R):iq tt (gU R) (ox R) false Tryz.f50 (aI Tryz.f50) [.ptr 0 0, .int .u8 x1] [.kq (.cw)] k =
    oy x1 (fun q0=>k (.cJ) [.kq (.sl (.int .u8) q0 (.own 1)), .tok]):=by kernel_rfl
theorem tE (R:Type):∀a∈aO (aI Tryz.f50),cG tt (gU R) (ox R) 1 a:=by
  refine bB 0 (by kernel_rfl) fun i hi => ?_
  omega
theorem jD (R:Type) (other:ax.Spec R) (ho:ax.Spec.Ok Tryz.prog 50 other):ax.Spec.Ok Tryz.prog 50 (az eg eh (gH ah) other) :=
  bm ho (bc TT mixed (u7 R) (keep:=false) rfl rfl rfl rfl 1 (tE R)) fun (x:bJ.au eg) (y:aF.au eh) k=>vS x.2.1 k

/-! ### (*strings.Builder).WriteString -/
abbrev aW (R:Type):Type:=ak→(List Int)→(Int→(List Int)→Option R)→Option R
abbrev dp:List bJ := [.leaf (.ptr 0 0), .leaf (.str)]
abbrev dq:List aF := [.kq (.Mp (.int .u8) 1), .tok]
noncomputable def eP {R:Type} (fn:aW R):bJ.au dp→aF.au dq→(V→ay→Option R)→Option R:=fun x y k=>fn x.2.1 y.1 (fun q0 q1=>k (.tuple [.int .i64 q0, .cJ]) [.kq (.sl (.int .u8) q1 (.own 2)), .dead, .tok])
noncomputable def gA (R:Type):Env R:=fun i=>match i with
  | 73=>some (false,(JB R))
  | _=>none
theorem tF (R:Type):po Tryz.prog (gA R):=by
  intro i b sp h
  unfold gA at h
  split at h
  · cases h; exact ⟨(Ly),fun _ h=>nomatch h⟩
  · cases h

noncomputable def nL (R:Type):Nat→Option (Hint × cd R):=fun i=>match i with
  | _=>none

noncomputable def nM {R:Type} (x1:ak) (x2:List Int) (k0:Int→(List Int)→Option R):Option R :=
  cR (decide ((x2.length+(Be x1).length)*1≤140737488355328)) (k0 (x1.length:Int) ((x2:List Int)++((Be x1):List Int)))
noncomputable def af {R:Type}:aW R:=fun x1 x2 k0=>nM x1 x2 k0
theorem uf {R:Type} (x1:ak) (x2:List Int) (k:V→ay→Option R):iq tt (gA R) (nL R) false Tryz.f52 (aI Tryz.f52) [.ptr 0 0, .str x1] [.kq (.sl (.int .u8) x2 (.own 1)), .tok] k =
    nM x1 x2 (fun q0 q1=>k (.tuple [.int .i64 q0, .cJ]) [.kq (.sl (.int .u8) q1 (.own 2)), .dead, .tok]):=by kernel_rfl
theorem sr (R:Type):∀a∈aO (aI Tryz.f52),cG tt (gA R) (nL R) 2 a:=by
  refine bB 0 (by kernel_rfl) fun i hi => ?_
  omega
theorem fK (R:Type) (other:ax.Spec R) (ho:ax.Spec.Ok Tryz.prog 52 other):ax.Spec.Ok Tryz.prog 52 (az dp dq (eP af) other) :=
  bm ho (bc TT mixed (tF R) (keep:=false) rfl rfl rfl rfl 2 (sr R)) fun (x:bJ.au dp) (y:aF.au dq) k=>uf x.2.1 y.1 k

/-! ### humpyard/decimal.Print -/
abbrev eQ (R:Type):Type:=iH→(ak→Option R)→Option R
abbrev oi:List bJ := [.agg [.int .i64, .int .i64]]
abbrev oj:List aF := []
noncomputable def s7 {R:Type} (fn:eQ R):bJ.au oi→aF.au oj→(V→ay→Option R)→Option R:=fun x y k=>fn (⟨x.1.1,x.1.2.1⟩:iH) (fun q0=>k (.str q0) [])
noncomputable def uP (R:Type) (bW:j7 R) (ah:bx R) (af:aW R) (ag:bz R):Env R:=fun i=>match i with
  | 65=>some (true,(az qC qD (xX bW) aZ))
  | 50=>some (false,(az eg eh (gH ah) aZ))
  | 52=>some (false,(az dR dS (gk ag) (az dp dq (eP af) aZ)))
  | 39=>some (false,(Dp R))
  | 66=>some (true,(Sa R))
  | 67=>some (true,(Xi R))
  | _=>none
theorem HO (R:Type):po Tryz.prog (uP R bW ah af ag):=by
  intro i b sp h
  unfold uP at h
  split at h
  · cases h; exact ⟨(Bf R _ (aM _)),fun h=>nomatch h⟩
  · cases h; exact ⟨(jD R _ (aM _)),fun _ h=>nomatch h⟩
  · cases h; exact ⟨(iM R _ (fK R _ (aM _))),fun _ h=>nomatch h⟩
  · cases h; exact ⟨(Kt),fun _ _=>Fl⟩
  · cases h; exact ⟨(Zn),fun h=>nomatch h⟩
  · cases h; exact ⟨(rep_ok),fun h=>nomatch h⟩
  · cases h

noncomputable def DR (R:Type):Nat→Option (Hint × cd R):=fun i=>match i with
  | _=>none

noncomputable def om {R:Type} (bW:j7 R) (ah:bx R) (af:aW R) (ag:bz R) (x1:iH) (k0:ak→Option R):Option R :=
  bW x1 (fun y2=>bif (!y2)then (k0 ([]:ak))else (bif (decide (x1.aw<(0:Int)))then (ah 45 (fun y3=>bif (decide (x1.exp≥(0:Int)))then (cR (decide (0≤x1.exp)&&decide ((([48]:ak).length:Int)*x1.exp≤140737488355328)) (cR (decide ((cn (max x1.aw (IntKind.i64.wrap (0 - x1.aw)))).length+(lq ([48]:ak) x1.exp).length≤9223372036854775807)) (af ((cn (max x1.aw (IntKind.i64.wrap (0 - x1.aw))))++(lq ([48]:ak) x1.exp)) y3 (fun y4 y5=>k0 (sU y5)))))else (cR (decide (0≤(max 0 (IntKind.i64.wrap ((IntKind.i64.wrap (1 - x1.exp)) - ((cn (max x1.aw (IntKind.i64.wrap (0 - x1.aw)))).length:Int)))))&&decide ((([48]:ak).length:Int)*(max 0 (IntKind.i64.wrap ((IntKind.i64.wrap (1 - x1.exp)) - ((cn (max x1.aw (IntKind.i64.wrap (0 - x1.aw)))).length:Int))))≤140737488355328)) (cR (decide ((lq ([48]:ak) (max 0 (IntKind.i64.wrap ((IntKind.i64.wrap (1 - x1.exp)) - ((cn (max x1.aw (IntKind.i64.wrap (0 - x1.aw)))).length:Int))))).length+(cn (max x1.aw (IntKind.i64.wrap (0 - x1.aw)))).length≤9223372036854775807)) (cR (decide ((0:Int)≤(IntKind.i64.wrap ((((lq ([48]:ak) (max 0 (IntKind.i64.wrap ((IntKind.i64.wrap (1 - x1.exp)) - ((cn (max x1.aw (IntKind.i64.wrap (0 - x1.aw)))).length:Int)))))++(cn (max x1.aw (IntKind.i64.wrap (0 - x1.aw))))).length:Int)+x1.exp)))&&decide ((IntKind.i64.wrap ((((lq ([48]:ak) (max 0 (IntKind.i64.wrap ((IntKind.i64.wrap (1 - x1.exp)) - ((cn (max x1.aw (IntKind.i64.wrap (0 - x1.aw)))).length:Int)))))++(cn (max x1.aw (IntKind.i64.wrap (0 - x1.aw))))).length:Int)+x1.exp))≤((lq ([48]:ak) (max 0 (IntKind.i64.wrap ((IntKind.i64.wrap (1 - x1.exp)) - ((cn (max x1.aw (IntKind.i64.wrap (0 - x1.aw)))).length:Int)))))++(cn (max x1.aw (IntKind.i64.wrap (0 - x1.aw))))).length)) (cR (decide ((0:Int)≤(IntKind.i64.wrap ((((lq ([48]:ak) (max 0 (IntKind.i64.wrap ((IntKind.i64.wrap (1 - x1.exp)) - ((cn (max x1.aw (IntKind.i64.wrap (0 - x1.aw)))).length:Int)))))++(cn (max x1.aw (IntKind.i64.wrap (0 - x1.aw))))).length:Int)+x1.exp)))) (cR (decide (((((lq ([48]:ak) (max 0 (IntKind.i64.wrap ((IntKind.i64.wrap (1 - x1.exp)) - ((cn (max x1.aw (IntKind.i64.wrap (0 - x1.aw)))).length:Int)))))++(cn (max x1.aw (IntKind.i64.wrap (0 - x1.aw))))).drop 0).take ((IntKind.i64.wrap ((((lq ([48]:ak) (max 0 (IntKind.i64.wrap ((IntKind.i64.wrap (1 - x1.exp)) - ((cn (max x1.aw (IntKind.i64.wrap (0 - x1.aw)))).length:Int)))))++(cn (max x1.aw (IntKind.i64.wrap (0 - x1.aw))))).length:Int)+x1.exp)).toNat - 0)).length+1≤9223372036854775807)) (cR (decide ((0:Int)≤(((lq ([48]:ak) (max 0 (IntKind.i64.wrap ((IntKind.i64.wrap (1 - x1.exp)) - ((cn (max x1.aw (IntKind.i64.wrap (0 - x1.aw)))).length:Int)))))++(cn (max x1.aw (IntKind.i64.wrap (0 - x1.aw))))).length:Int))&&decide ((((lq ([48]:ak) (max 0 (IntKind.i64.wrap ((IntKind.i64.wrap (1 - x1.exp)) - ((cn (max x1.aw (IntKind.i64.wrap (0 - x1.aw)))).length:Int)))))++(cn (max x1.aw (IntKind.i64.wrap (0 - x1.aw))))).length:Int)≤((lq ([48]:ak) (max 0 (IntKind.i64.wrap ((IntKind.i64.wrap (1 - x1.exp)) - ((cn (max x1.aw (IntKind.i64.wrap (0 - x1.aw)))).length:Int)))))++(cn (max x1.aw (IntKind.i64.wrap (0 - x1.aw))))).length)) (cR (decide ((0:Int)≤(IntKind.i64.wrap ((((lq ([48]:ak) (max 0 (IntKind.i64.wrap ((IntKind.i64.wrap (1 - x1.exp)) - ((cn (max x1.aw (IntKind.i64.wrap (0 - x1.aw)))).length:Int)))))++(cn (max x1.aw (IntKind.i64.wrap (0 - x1.aw))))).length:Int)+x1.exp)))&&decide ((IntKind.i64.wrap ((((lq ([48]:ak) (max 0 (IntKind.i64.wrap ((IntKind.i64.wrap (1 - x1.exp)) - ((cn (max x1.aw (IntKind.i64.wrap (0 - x1.aw)))).length:Int)))))++(cn (max x1.aw (IntKind.i64.wrap (0 - x1.aw))))).length:Int)+x1.exp))≤(((lq ([48]:ak) (max 0 (IntKind.i64.wrap ((IntKind.i64.wrap (1 - x1.exp)) - ((cn (max x1.aw (IntKind.i64.wrap (0 - x1.aw)))).length:Int)))))++(cn (max x1.aw (IntKind.i64.wrap (0 - x1.aw))))).length:Int))) (cR (decide ((((((lq ([48]:ak) (max 0 (IntKind.i64.wrap ((IntKind.i64.wrap (1 - x1.exp)) - ((cn (max x1.aw (IntKind.i64.wrap (0 - x1.aw)))).length:Int)))))++(cn (max x1.aw (IntKind.i64.wrap (0 - x1.aw))))).drop 0).take ((IntKind.i64.wrap ((((lq ([48]:ak) (max 0 (IntKind.i64.wrap ((IntKind.i64.wrap (1 - x1.exp)) - ((cn (max x1.aw (IntKind.i64.wrap (0 - x1.aw)))).length:Int)))))++(cn (max x1.aw (IntKind.i64.wrap (0 - x1.aw))))).length:Int)+x1.exp)).toNat - 0))++([46]:ak)).length+((((lq ([48]:ak) (max 0 (IntKind.i64.wrap ((IntKind.i64.wrap (1 - x1.exp)) - ((cn (max x1.aw (IntKind.i64.wrap (0 - x1.aw)))).length:Int)))))++(cn (max x1.aw (IntKind.i64.wrap (0 - x1.aw))))).drop (IntKind.i64.wrap ((((lq ([48]:ak) (max 0 (IntKind.i64.wrap ((IntKind.i64.wrap (1 - x1.exp)) - ((cn (max x1.aw (IntKind.i64.wrap (0 - x1.aw)))).length:Int)))))++(cn (max x1.aw (IntKind.i64.wrap (0 - x1.aw))))).length:Int)+x1.exp)).toNat).take ((((lq ([48]:ak) (max 0 (IntKind.i64.wrap ((IntKind.i64.wrap (1 - x1.exp)) - ((cn (max x1.aw (IntKind.i64.wrap (0 - x1.aw)))).length:Int)))))++(cn (max x1.aw (IntKind.i64.wrap (0 - x1.aw))))).length:Int).toNat - (IntKind.i64.wrap ((((lq ([48]:ak) (max 0 (IntKind.i64.wrap ((IntKind.i64.wrap (1 - x1.exp)) - ((cn (max x1.aw (IntKind.i64.wrap (0 - x1.aw)))).length:Int)))))++(cn (max x1.aw (IntKind.i64.wrap (0 - x1.aw))))).length:Int)+x1.exp)).toNat)).length≤9223372036854775807)) (af ((((((lq ([48]:ak) (max 0 (IntKind.i64.wrap ((IntKind.i64.wrap (1 - x1.exp)) - ((cn (max x1.aw (IntKind.i64.wrap (0 - x1.aw)))).length:Int)))))++(cn (max x1.aw (IntKind.i64.wrap (0 - x1.aw))))).drop 0).take ((IntKind.i64.wrap ((((lq ([48]:ak) (max 0 (IntKind.i64.wrap ((IntKind.i64.wrap (1 - x1.exp)) - ((cn (max x1.aw (IntKind.i64.wrap (0 - x1.aw)))).length:Int)))))++(cn (max x1.aw (IntKind.i64.wrap (0 - x1.aw))))).length:Int)+x1.exp)).toNat - 0))++([46]:ak))++((((lq ([48]:ak) (max 0 (IntKind.i64.wrap ((IntKind.i64.wrap (1 - x1.exp)) - ((cn (max x1.aw (IntKind.i64.wrap (0 - x1.aw)))).length:Int)))))++(cn (max x1.aw (IntKind.i64.wrap (0 - x1.aw))))).drop (IntKind.i64.wrap ((((lq ([48]:ak) (max 0 (IntKind.i64.wrap ((IntKind.i64.wrap (1 - x1.exp)) - ((cn (max x1.aw (IntKind.i64.wrap (0 - x1.aw)))).length:Int)))))++(cn (max x1.aw (IntKind.i64.wrap (0 - x1.aw))))).length:Int)+x1.exp)).toNat).take ((((lq ([48]:ak) (max 0 (IntKind.i64.wrap ((IntKind.i64.wrap (1 - x1.exp)) - ((cn (max x1.aw (IntKind.i64.wrap (0 - x1.aw)))).length:Int)))))++(cn (max x1.aw (IntKind.i64.wrap (0 - x1.aw))))).length:Int).toNat - (IntKind.i64.wrap ((((lq ([48]:ak) (max 0 (IntKind.i64.wrap ((IntKind.i64.wrap (1 - x1.exp)) - ((cn (max x1.aw (IntKind.i64.wrap (0 - x1.aw)))).length:Int)))))++(cn (max x1.aw (IntKind.i64.wrap (0 - x1.aw))))).length:Int)+x1.exp)).toNat))) y3 (fun y6 y7=>k0 (sU y7)))))))))))))else (bif (decide (x1.exp≥(0:Int)))then (cR (decide (0≤x1.exp)&&decide ((([48]:ak).length:Int)*x1.exp≤140737488355328)) (cR (decide ((cn (max x1.aw (IntKind.i64.wrap (0 - x1.aw)))).length+(lq ([48]:ak) x1.exp).length≤9223372036854775807)) (ag ((cn (max x1.aw (IntKind.i64.wrap (0 - x1.aw))))++(lq ([48]:ak) x1.exp)) (fun y8 y9=>k0 (sU y9)))))else (cR (decide (0≤(max 0 (IntKind.i64.wrap ((IntKind.i64.wrap (1 - x1.exp)) - ((cn (max x1.aw (IntKind.i64.wrap (0 - x1.aw)))).length:Int)))))&&decide ((([48]:ak).length:Int)*(max 0 (IntKind.i64.wrap ((IntKind.i64.wrap (1 - x1.exp)) - ((cn (max x1.aw (IntKind.i64.wrap (0 - x1.aw)))).length:Int))))≤140737488355328)) (cR (decide ((lq ([48]:ak) (max 0 (IntKind.i64.wrap ((IntKind.i64.wrap (1 - x1.exp)) - ((cn (max x1.aw (IntKind.i64.wrap (0 - x1.aw)))).length:Int))))).length+(cn (max x1.aw (IntKind.i64.wrap (0 - x1.aw)))).length≤9223372036854775807)) (cR (decide ((0:Int)≤(IntKind.i64.wrap ((((lq ([48]:ak) (max 0 (IntKind.i64.wrap ((IntKind.i64.wrap (1 - x1.exp)) - ((cn (max x1.aw (IntKind.i64.wrap (0 - x1.aw)))).length:Int)))))++(cn (max x1.aw (IntKind.i64.wrap (0 - x1.aw))))).length:Int)+x1.exp)))&&decide ((IntKind.i64.wrap ((((lq ([48]:ak) (max 0 (IntKind.i64.wrap ((IntKind.i64.wrap (1 - x1.exp)) - ((cn (max x1.aw (IntKind.i64.wrap (0 - x1.aw)))).length:Int)))))++(cn (max x1.aw (IntKind.i64.wrap (0 - x1.aw))))).length:Int)+x1.exp))≤((lq ([48]:ak) (max 0 (IntKind.i64.wrap ((IntKind.i64.wrap (1 - x1.exp)) - ((cn (max x1.aw (IntKind.i64.wrap (0 - x1.aw)))).length:Int)))))++(cn (max x1.aw (IntKind.i64.wrap (0 - x1.aw))))).length)) (cR (decide ((0:Int)≤(IntKind.i64.wrap ((((lq ([48]:ak) (max 0 (IntKind.i64.wrap ((IntKind.i64.wrap (1 - x1.exp)) - ((cn (max x1.aw (IntKind.i64.wrap (0 - x1.aw)))).length:Int)))))++(cn (max x1.aw (IntKind.i64.wrap (0 - x1.aw))))).length:Int)+x1.exp)))) (cR (decide (((((lq ([48]:ak) (max 0 (IntKind.i64.wrap ((IntKind.i64.wrap (1 - x1.exp)) - ((cn (max x1.aw (IntKind.i64.wrap (0 - x1.aw)))).length:Int)))))++(cn (max x1.aw (IntKind.i64.wrap (0 - x1.aw))))).drop 0).take ((IntKind.i64.wrap ((((lq ([48]:ak) (max 0 (IntKind.i64.wrap ((IntKind.i64.wrap (1 - x1.exp)) - ((cn (max x1.aw (IntKind.i64.wrap (0 - x1.aw)))).length:Int)))))++(cn (max x1.aw (IntKind.i64.wrap (0 - x1.aw))))).length:Int)+x1.exp)).toNat - 0)).length+1≤9223372036854775807)) (cR (decide ((0:Int)≤(((lq ([48]:ak) (max 0 (IntKind.i64.wrap ((IntKind.i64.wrap (1 - x1.exp)) - ((cn (max x1.aw (IntKind.i64.wrap (0 - x1.aw)))).length:Int)))))++(cn (max x1.aw (IntKind.i64.wrap (0 - x1.aw))))).length:Int))&&decide ((((lq ([48]:ak) (max 0 (IntKind.i64.wrap ((IntKind.i64.wrap (1 - x1.exp)) - ((cn (max x1.aw (IntKind.i64.wrap (0 - x1.aw)))).length:Int)))))++(cn (max x1.aw (IntKind.i64.wrap (0 - x1.aw))))).length:Int)≤((lq ([48]:ak) (max 0 (IntKind.i64.wrap ((IntKind.i64.wrap (1 - x1.exp)) - ((cn (max x1.aw (IntKind.i64.wrap (0 - x1.aw)))).length:Int)))))++(cn (max x1.aw (IntKind.i64.wrap (0 - x1.aw))))).length)) (cR (decide ((0:Int)≤(IntKind.i64.wrap ((((lq ([48]:ak) (max 0 (IntKind.i64.wrap ((IntKind.i64.wrap (1 - x1.exp)) - ((cn (max x1.aw (IntKind.i64.wrap (0 - x1.aw)))).length:Int)))))++(cn (max x1.aw (IntKind.i64.wrap (0 - x1.aw))))).length:Int)+x1.exp)))&&decide ((IntKind.i64.wrap ((((lq ([48]:ak) (max 0 (IntKind.i64.wrap ((IntKind.i64.wrap (1 - x1.exp)) - ((cn (max x1.aw (IntKind.i64.wrap (0 - x1.aw)))).length:Int)))))++(cn (max x1.aw (IntKind.i64.wrap (0 - x1.aw))))).length:Int)+x1.exp))≤(((lq ([48]:ak) (max 0 (IntKind.i64.wrap ((IntKind.i64.wrap (1 - x1.exp)) - ((cn (max x1.aw (IntKind.i64.wrap (0 - x1.aw)))).length:Int)))))++(cn (max x1.aw (IntKind.i64.wrap (0 - x1.aw))))).length:Int))) (cR (decide ((((((lq ([48]:ak) (max 0 (IntKind.i64.wrap ((IntKind.i64.wrap (1 - x1.exp)) - ((cn (max x1.aw (IntKind.i64.wrap (0 - x1.aw)))).length:Int)))))++(cn (max x1.aw (IntKind.i64.wrap (0 - x1.aw))))).drop 0).take ((IntKind.i64.wrap ((((lq ([48]:ak) (max 0 (IntKind.i64.wrap ((IntKind.i64.wrap (1 - x1.exp)) - ((cn (max x1.aw (IntKind.i64.wrap (0 - x1.aw)))).length:Int)))))++(cn (max x1.aw (IntKind.i64.wrap (0 - x1.aw))))).length:Int)+x1.exp)).toNat - 0))++([46]:ak)).length+((((lq ([48]:ak) (max 0 (IntKind.i64.wrap ((IntKind.i64.wrap (1 - x1.exp)) - ((cn (max x1.aw (IntKind.i64.wrap (0 - x1.aw)))).length:Int)))))++(cn (max x1.aw (IntKind.i64.wrap (0 - x1.aw))))).drop (IntKind.i64.wrap ((((lq ([48]:ak) (max 0 (IntKind.i64.wrap ((IntKind.i64.wrap (1 - x1.exp)) - ((cn (max x1.aw (IntKind.i64.wrap (0 - x1.aw)))).length:Int)))))++(cn (max x1.aw (IntKind.i64.wrap (0 - x1.aw))))).length:Int)+x1.exp)).toNat).take ((((lq ([48]:ak) (max 0 (IntKind.i64.wrap ((IntKind.i64.wrap (1 - x1.exp)) - ((cn (max x1.aw (IntKind.i64.wrap (0 - x1.aw)))).length:Int)))))++(cn (max x1.aw (IntKind.i64.wrap (0 - x1.aw))))).length:Int).toNat - (IntKind.i64.wrap ((((lq ([48]:ak) (max 0 (IntKind.i64.wrap ((IntKind.i64.wrap (1 - x1.exp)) - ((cn (max x1.aw (IntKind.i64.wrap (0 - x1.aw)))).length:Int)))))++(cn (max x1.aw (IntKind.i64.wrap (0 - x1.aw))))).length:Int)+x1.exp)).toNat)).length≤9223372036854775807)) (ag ((((((lq ([48]:ak) (max 0 (IntKind.i64.wrap ((IntKind.i64.wrap (1 - x1.exp)) - ((cn (max x1.aw (IntKind.i64.wrap (0 - x1.aw)))).length:Int)))))++(cn (max x1.aw (IntKind.i64.wrap (0 - x1.aw))))).drop 0).take ((IntKind.i64.wrap ((((lq ([48]:ak) (max 0 (IntKind.i64.wrap ((IntKind.i64.wrap (1 - x1.exp)) - ((cn (max x1.aw (IntKind.i64.wrap (0 - x1.aw)))).length:Int)))))++(cn (max x1.aw (IntKind.i64.wrap (0 - x1.aw))))).length:Int)+x1.exp)).toNat - 0))++([46]:ak))++((((lq ([48]:ak) (max 0 (IntKind.i64.wrap ((IntKind.i64.wrap (1 - x1.exp)) - ((cn (max x1.aw (IntKind.i64.wrap (0 - x1.aw)))).length:Int)))))++(cn (max x1.aw (IntKind.i64.wrap (0 - x1.aw))))).drop (IntKind.i64.wrap ((((lq ([48]:ak) (max 0 (IntKind.i64.wrap ((IntKind.i64.wrap (1 - x1.exp)) - ((cn (max x1.aw (IntKind.i64.wrap (0 - x1.aw)))).length:Int)))))++(cn (max x1.aw (IntKind.i64.wrap (0 - x1.aw))))).length:Int)+x1.exp)).toNat).take ((((lq ([48]:ak) (max 0 (IntKind.i64.wrap ((IntKind.i64.wrap (1 - x1.exp)) - ((cn (max x1.aw (IntKind.i64.wrap (0 - x1.aw)))).length:Int)))))++(cn (max x1.aw (IntKind.i64.wrap (0 - x1.aw))))).length:Int).toNat - (IntKind.i64.wrap ((((lq ([48]:ak) (max 0 (IntKind.i64.wrap ((IntKind.i64.wrap (1 - x1.exp)) - ((cn (max x1.aw (IntKind.i64.wrap (0 - x1.aw)))).length:Int)))))++(cn (max x1.aw (IntKind.i64.wrap (0 - x1.aw))))).length:Int)+x1.exp)).toNat))) (fun B5 B6=>k0 (sU B6))))))))))))))
noncomputable def aX {R:Type}:eQ R:=fun x1 k0=>om bW ah af ag x1 k0
theorem I1 {R:Type} (bW:j7 R) (ah:bx R) (af:aW R) (ag:bz R) (x1:iH) (k:V→ay→Option R):iq tt (uP R bW ah af ag) (DR R) false Tryz.f46 (aI Tryz.f46) [.agg [.int .i64 x1.aw, .int .i64 x1.exp]] [] k =
    om bW ah af ag x1 (fun q0=>k (.str q0) []):=by kernel_rfl
theorem FC (R:Type):∀a∈aO (aI Tryz.f46),cG tt (uP R bW ah af ag) (DR R) 0 a:=by
  refine bB 0 (by kernel_rfl) fun i hi => ?_
  omega
theorem vd (R:Type) (other:ax.Spec R) (ho:ax.Spec.Ok Tryz.prog 46 other):ax.Spec.Ok Tryz.prog 46 (az oi oj (s7 aX) other) :=
  bm ho (bc TT mixed (HO R) (keep:=false) rfl rfl rfl rfl 0 (FC R)) fun (x:bJ.au oi) (y:aF.au oj) k=>I1 bW ah af ag (⟨x.1.1,x.1.2.1⟩:iH) k

/-! ### humpyard/quote.short -/
abbrev nN (R:Type):Type:=Int→(Int→Option R)→Option R
abbrev yE:List bJ := [.leaf (.int .i32)]
abbrev yF:List aF := []
noncomputable def EN {R:Type} (fn:nN R):bJ.au yE→aF.au yF→(V→ay→Option R)→Option R:=fun x y k=>fn x.1 (fun q0=>k (.int .u8 q0) [])
noncomputable def yG (R:Type):Env R:=fun i=>match i with
  | _=>none
theorem J4 (R:Type):po Tryz.prog (yG R):=by
  intro i b sp h
  unfold yG at h
  split at h
  · cases h

noncomputable def F8 (R:Type):Nat→Option (Hint × cd R):=fun i=>match i with
  | _=>none

noncomputable def yH {R:Type} (x1:Int) (k0:Int→Option R):Option R :=
  bif (x1==34)then (bif (x1==34)then (k0 (IntKind.u8.wrap x1))else (bif (x1==8)then (k0 98)else (bif (x1==12)then (k0 102)else (bif (x1==10)then (k0 110)else (bif (x1==13)then (k0 114)else (bif (x1==9)then (k0 116)else (k0 0)))))))else (bif (x1==92)then (k0 (IntKind.u8.wrap x1))else (bif (x1==8)then (k0 98)else (bif (x1==12)then (k0 102)else (bif (x1==10)then (k0 110)else (bif (x1==13)then (k0 114)else (bif (x1==9)then (k0 116)else (k0 0)))))))
noncomputable def dH {R:Type}:nN R:=fun x1 k0=>yH x1 k0
theorem LM {R:Type} (x1:Int) (k:V→ay→Option R):iq tt (yG R) (F8 R) false Tryz.f51 (aI Tryz.f51) [.int .i32 x1] [] k =
    yH x1 (fun q0=>k (.int .u8 q0) []):=by kernel_rfl
theorem HP (R:Type):∀a∈aO (aI Tryz.f51),cG tt (yG R) (F8 R) 0 a:=by
  refine bB 0 (by kernel_rfl) fun i hi => ?_
  omega
theorem I2 (R:Type) (other:ax.Spec R) (ho:ax.Spec.Ok Tryz.prog 51 other):ax.Spec.Ok Tryz.prog 51 (az yE yF (EN dH) other) :=
  bm ho (bc TT mixed (J4 R) (keep:=false) rfl rfl rfl rfl 0 (HP R)) fun (x:bJ.au yE) (y:aF.au yF) k=>LM x.1 k

/-! ### (*strings.Builder).WriteByte -/
abbrev aT (R:Type):Type:=Int→(List Int)→((List Int)→Option R)→Option R
abbrev ei:List bJ := [.leaf (.ptr 0 0), .leaf (.int .u8)]
abbrev ej:List aF := [.kq (.Mp (.int .u8) 1), .tok]
noncomputable def gI {R:Type} (fn:aT R):bJ.au ei→aF.au ej→(V→ay→Option R)→Option R:=fun x y k=>fn x.2.1 y.1 (fun q0=>k (.cJ) [.kq (.sl (.int .u8) q0 (.own 2)), .dead, .tok])
noncomputable def gV (R:Type):Env R:=fun i=>match i with
  | 73=>some (false,(JB R))
  | _=>none
theorem ve (R:Type):po Tryz.prog (gV R):=by
  intro i b sp h
  unfold gV at h
  split at h
  · cases h; exact ⟨(Ly),fun _ h=>nomatch h⟩
  · cases h

noncomputable def oz (R:Type):Nat→Option (Hint × cd R):=fun i=>match i with
  | _=>none

noncomputable def oA {R:Type} (x1:Int) (x2:List Int) (k0:(List Int)→Option R):Option R :=
  cR (decide ((x2.length+1)*1≤140737488355328)) (k0 ((x2:List Int)++(([x1]:List Int):List Int)))
noncomputable def ad {R:Type}:aT R:=fun x1 x2 k0=>oA x1 x2 k0
theorem vT {R:Type} (x1:Int) (x2:List Int) (k:V→ay→Option R):iq tt (gV R) (oz R) false Tryz.f50 (aI Tryz.f50) [.ptr 0 0, .int .u8 x1] [.kq (.sl (.int .u8) x2 (.own 1)), .tok] k =
    oA x1 x2 (fun q0=>k (.cJ) [.kq (.sl (.int .u8) q0 (.own 2)), .dead, .tok]):=by kernel_rfl
theorem tG (R:Type):∀a∈aO (aI Tryz.f50),cG tt (gV R) (oz R) 2 a:=by
  refine bB 0 (by kernel_rfl) fun i hi => ?_
  omega
theorem jE (R:Type) (other:ax.Spec R) (ho:ax.Spec.Ok Tryz.prog 50 other):ax.Spec.Ok Tryz.prog 50 (az ei ej (gI ad) other) :=
  bm ho (bc TT mixed (ve R) (keep:=false) rfl rfl rfl rfl 2 (tG R)) fun (x:bJ.au ei) (y:aF.au ej) k=>vT x.2.1 y.1 k

end Go.Proofs.YtmlkkgfenfdndaaGreatDoor

/-
  Functions of the program as pure Lean functions, and the ties; printed by wip/tools/emit.py.
-/
set_option maxRecDepth 100000
namespace Go.Proofs.YtmlkkgfenfdndaaGreatDoor
open Go Go.ax

/-! ### unicode/utf8.appendRuneNonASCII -/
abbrev dV (R:Type):Type:=(List Int)→Int→((List Int)→Option R)→Option R
abbrev fp:List bJ := [.leaf (.Mp (.int .u8) 0), .leaf (.int .i32)]
abbrev fq:List aF := [.tok]
noncomputable def lS {R:Type} (fn:dV R):bJ.au fp→aF.au fq→(V→ay→Option R)→Option R:=fun x y k=>fn x.1 x.2.1 (fun q0=>k (.sl (.int .u8) q0 (.own 1)) [.dead, .tok])
noncomputable def ft (R:Type):Env R:=fun i=>match i with
  | _=>none
theorem rh (R:Type):po Tryz.prog (ft R):=by
  intro i b sp h
  unfold ft at h
  split at h
  · cases h

noncomputable def mu (R:Type):Nat→Option (Hint × cd R):=fun i=>match i with
  | _=>none

noncomputable def fv {R:Type} (x1:List Int) (x2:Int) (k0:(List Int)→Option R):Option R :=
  bif (decide ((IntKind.u32.wrap x2)≤(2047:Int)))then (cR (decide ((x1.length+2)*1≤140737488355328)) (k0 ((x1:List Int)++(([(IntKind.u8.wrap ((BitVec.ofInt IntKind.u8.bits 192 ||| BitVec.ofInt IntKind.u8.bits (IntKind.u8.wrap (Int.fdiv x2 (2 ^ (min 6 IntKind.i32.bits))))).toNat:Int)),(IntKind.u8.wrap ((BitVec.ofInt IntKind.u8.bits 128 ||| BitVec.ofInt IntKind.u8.bits (IntKind.u8.wrap ((BitVec.ofInt IntKind.u8.bits (IntKind.u8.wrap x2) &&& BitVec.ofInt IntKind.u8.bits 63).toNat:Int))).toNat:Int))]:List Int):List Int))))else (let j6:=fun (z3:Bool)=>bif z3 then (cR (decide ((x1.length+3)*1≤140737488355328)) (k0 ((x1:List Int)++(([(IntKind.u8.wrap ((BitVec.ofInt IntKind.u8.bits 224 ||| BitVec.ofInt IntKind.u8.bits (IntKind.u8.wrap (Int.fdiv x2 (2 ^ (min 12 IntKind.i32.bits))))).toNat:Int)),(IntKind.u8.wrap ((BitVec.ofInt IntKind.u8.bits 128 ||| BitVec.ofInt IntKind.u8.bits (IntKind.u8.wrap ((BitVec.ofInt IntKind.u8.bits (IntKind.u8.wrap (Int.fdiv x2 (2 ^ (min 6 IntKind.i32.bits)))) &&& BitVec.ofInt IntKind.u8.bits 63).toNat:Int))).toNat:Int)),(IntKind.u8.wrap ((BitVec.ofInt IntKind.u8.bits 128 ||| BitVec.ofInt IntKind.u8.bits (IntKind.u8.wrap ((BitVec.ofInt IntKind.u8.bits (IntKind.u8.wrap x2) &&& BitVec.ofInt IntKind.u8.bits 63).toNat:Int))).toNat:Int))]:List Int):List Int))))else (let j5:=fun (z4:Bool)=>bif z4 then (cR (decide ((x1.length+4)*1≤140737488355328)) (k0 ((x1:List Int)++(([(IntKind.u8.wrap ((BitVec.ofInt IntKind.u8.bits 240 ||| BitVec.ofInt IntKind.u8.bits (IntKind.u8.wrap (Int.fdiv x2 (2 ^ (min 18 IntKind.i32.bits))))).toNat:Int)),(IntKind.u8.wrap ((BitVec.ofInt IntKind.u8.bits 128 ||| BitVec.ofInt IntKind.u8.bits (IntKind.u8.wrap ((BitVec.ofInt IntKind.u8.bits (IntKind.u8.wrap (Int.fdiv x2 (2 ^ (min 12 IntKind.i32.bits)))) &&& BitVec.ofInt IntKind.u8.bits 63).toNat:Int))).toNat:Int)),(IntKind.u8.wrap ((BitVec.ofInt IntKind.u8.bits 128 ||| BitVec.ofInt IntKind.u8.bits (IntKind.u8.wrap ((BitVec.ofInt IntKind.u8.bits (IntKind.u8.wrap (Int.fdiv x2 (2 ^ (min 6 IntKind.i32.bits)))) &&& BitVec.ofInt IntKind.u8.bits 63).toNat:Int))).toNat:Int)),(IntKind.u8.wrap ((BitVec.ofInt IntKind.u8.bits 128 ||| BitVec.ofInt IntKind.u8.bits (IntKind.u8.wrap ((BitVec.ofInt IntKind.u8.bits (IntKind.u8.wrap x2) &&& BitVec.ofInt IntKind.u8.bits 63).toNat:Int))).toNat:Int))]:List Int):List Int))))else (cR (decide ((x1.length+3)*1≤140737488355328)) (k0 ((x1:List Int)++(([239,191,189]:List Int):List Int)))); bif (decide ((IntKind.u32.wrap x2)>(65535:Int)))then (j5 (decide ((IntKind.u32.wrap x2)≤(1114111:Int))))else (j5 false)); bif (decide ((IntKind.u32.wrap x2)<(55296:Int)))then (j6 (decide ((IntKind.u32.wrap x2)<(55296:Int))))else (bif (decide ((57343:Int)<(IntKind.u32.wrap x2)))then (j6 (decide ((IntKind.u32.wrap x2)≤(65535:Int))))else (j6 false)))
noncomputable def bq {R:Type}:dV R:=fun x1 x2 k0=>fv x1 x2 k0
theorem r7 {R:Type} (x1:List Int) (x2:Int) (k:V→ay→Option R):iq tt (ft R) (mu R) true Tryz.f113 (aI Tryz.f113) [.sl (.int .u8) x1 (.own 0), .int .i32 x2] [.tok] k =
    fv x1 x2 (fun q0=>k (.sl (.int .u8) q0 (.own 1)) [.dead, .tok]):=by kernel_rfl
theorem qj (R:Type):∀a∈aO (aI Tryz.f113),cG tt (ft R) (mu R) 1 a:=by
  refine bB 0 (by kernel_rfl) fun i hi => ?_
  omega
theorem qG (R:Type) (other:ax.Spec R) (ho:ax.Spec.Ok Tryz.prog 113 other):ax.Spec.Ok Tryz.prog 113 (az fp fq (lS bq) other) :=
  bm ho (bc TT mixed (rh R) (keep:=true) rfl rfl rfl rfl 1 (qj R)) fun (x:bJ.au fp) (y:aF.au fq) k=>r7 x.1 x.2.1 k

/-! ### unicode/utf8.AppendRune -/
abbrev fM (R:Type):Type:=(List Int)→Int→((List Int)→Option R)→Option R
abbrev iN:List bJ := [.leaf (.Mp (.int .u8) 0), .leaf (.int .i32)]
abbrev iO:List aF := [.tok]
noncomputable def o7 {R:Type} (fn:fM R):bJ.au iN→aF.au iO→(V→ay→Option R)→Option R:=fun x y k=>fn x.1 x.2.1 (fun q0=>k (.sl (.int .u8) q0 (.own 1)) [.dead, .tok])
noncomputable def iP (R:Type) (bq:dV R):Env R:=fun i=>match i with
  | 113=>some (false,(az fp fq (lS bq) aZ))
  | _=>none
theorem wE (R:Type):po Tryz.prog (iP R bq):=by
  intro i b sp h
  unfold iP at h
  split at h
  · cases h; exact ⟨(qG R _ (aM _)),fun _ h=>nomatch h⟩
  · cases h

noncomputable def pM (R:Type):Nat→Option (Hint × cd R):=fun i=>match i with
  | _=>none

noncomputable def iQ {R:Type} (bq:dV R) (x1:List Int) (x2:Int) (k0:(List Int)→Option R):Option R :=
  bif (decide ((IntKind.u32.wrap x2)≤(127:Int)))then (cR (decide ((x1.length+1)*1≤140737488355328)) (k0 ((x1:List Int)++(([(IntKind.u8.wrap x2)]:List Int):List Int))))else (bq x1 x2 (fun y3=>k0 y3))
noncomputable def bI {R:Type}:fM R:=fun x1 x2 k0=>iQ bq x1 x2 k0
theorem xm {R:Type} (bq:dV R) (x1:List Int) (x2:Int) (k:V→ay→Option R):iq tt (iP R bq) (pM R) true Tryz.f74 (aI Tryz.f74) [.sl (.int .u8) x1 (.own 0), .int .i32 x2] [.tok] k =
    iQ bq x1 x2 (fun q0=>k (.sl (.int .u8) q0 (.own 1)) [.dead, .tok]):=by kernel_rfl
theorem vf (R:Type):∀a∈aO (aI Tryz.f74),cG tt (iP R bq) (pM R) 1 a:=by
  refine bB 0 (by kernel_rfl) fun i hi => ?_
  omega
theorem vU (R:Type) (other:ax.Spec R) (ho:ax.Spec.Ok Tryz.prog 74 other):ax.Spec.Ok Tryz.prog 74 (az iN iO (o7 bI) other) :=
  bm ho (bc TT mixed (wE R) (keep:=true) rfl rfl rfl rfl 1 (vf R)) fun (x:bJ.au iN) (y:aF.au iO) k=>xm bq x.1 x.2.1 k

/-! ### (*strings.Builder).WriteRune -/
abbrev bF (R:Type):Type:=Int→(List Int)→(Int→(List Int)→Option R)→Option R
abbrev fw:List bJ := [.leaf (.ptr 0 0), .leaf (.int .i32)]
abbrev fx:List aF := [.kq (.Mp (.int .u8) 1), .tok]
noncomputable def kG {R:Type} (fn:bF R):bJ.au fw→aF.au fx→(V→ay→Option R)→Option R:=fun x y k=>fn x.2.1 y.1 (fun q0 q1=>k (.tuple [.int .i64 q0, .cJ]) [.kq (.sl (.int .u8) q1 (.own 2)), .dead, .tok])
noncomputable def gW (R:Type) (bI:fM R):Env R:=fun i=>match i with
  | 73=>some (false,(JB R))
  | 74=>some (false,(az iN iO (o7 bI) aZ))
  | _=>none
theorem vg (R:Type):po Tryz.prog (gW R bI):=by
  intro i b sp h
  unfold gW at h
  split at h
  · cases h; exact ⟨(Ly),fun _ h=>nomatch h⟩
  · cases h; exact ⟨(vU R _ (aM _)),fun _ h=>nomatch h⟩
  · cases h

noncomputable def oB (R:Type):Nat→Option (Hint × cd R):=fun i=>match i with
  | _=>none

noncomputable def gX {R:Type} (bI:fM R) (x1:Int) (x2:List Int) (k0:Int→(List Int)→Option R):Option R :=
  bI x2 x1 (fun y3=>k0 (IntKind.i64.wrap ((y3.length:Int) - (x2.length:Int))) y3)
noncomputable def ai {R:Type}:bF R:=fun x1 x2 k0=>gX bI x1 x2 k0
theorem vV {R:Type} (bI:fM R) (x1:Int) (x2:List Int) (k:V→ay→Option R):iq tt (gW R bI) (oB R) false Tryz.f53 (aI Tryz.f53) [.ptr 0 0, .int .i32 x1] [.kq (.sl (.int .u8) x2 (.own 1)), .tok] k =
    gX bI x1 x2 (fun q0 q1=>k (.tuple [.int .i64 q0, .cJ]) [.kq (.sl (.int .u8) q1 (.own 2)), .dead, .tok]):=by kernel_rfl
theorem tH (R:Type):∀a∈aO (aI Tryz.f53),cG tt (gW R bI) (oB R) 2 a:=by
  refine bB 0 (by kernel_rfl) fun i hi => ?_
  omega
theorem nq (R:Type) (other:ax.Spec R) (ho:ax.Spec.Ok Tryz.prog 53 other):ax.Spec.Ok Tryz.prog 53 (az fw fx (kG ai) other) :=
  bm ho (bc TT mixed (vg R) (keep:=false) rfl rfl rfl rfl 2 (tH R)) fun (x:bJ.au fw) (y:aF.au fx) k=>vV bI x.2.1 y.1 k

/-! ### humpyard/quote.Quote -/
abbrev iz (R:Type):Type:=ak→(ak→Bool→Option R)→Option R
abbrev qW:List bJ := [.leaf (.str)]
abbrev qX:List aF := []
noncomputable def wF {R:Type} (fn:iz R):bJ.au qW→aF.au qX→(V→ay→Option R)→Option R:=fun x y k=>fn x.1 (fun q0 q1=>k (.tuple [.str q0, .bool q1]) [])
abbrev lN (R:Type):Type:=Nat→(List Int)→ak→Nat→((List Int)→Option R)→Option R
noncomputable def oU (R:Type) (bk:fk R) (ah:bx R) (ad:aT R) (dH:nN R) (af:aW R) (ai:bF R):Env R:=fun i=>match i with
  | 49=>some (true,(az qU qV (wA bk) aZ))
  | 50=>some (false,(az ei ej (gI ad) (az eg eh (gH ah) aZ)))
  | 51=>some (true,(az yE yF (EN dH) aZ))
  | 52=>some (false,(az dp dq (eP af) aZ))
  | 53=>some (false,(az fw fx (kG ai) aZ))
  | 39=>some (false,(Dp R))
  | _=>none
theorem J5 (R:Type):po Tryz.prog (oU R bk ah ad dH af ai):=by
  intro i b sp h
  unfold oU at h
  split at h
  · cases h; exact ⟨(xY R _ (aM _)),fun h=>nomatch h⟩
  · cases h; exact ⟨(jE R _ (jD R _ (aM _))),fun _ h=>nomatch h⟩
  · cases h; exact ⟨(I2 R _ (aM _)),fun h=>nomatch h⟩
  · cases h; exact ⟨(fK R _ (aM _)),fun _ h=>nomatch h⟩
  · cases h; exact ⟨(nq R _ (aM _)),fun _ h=>nomatch h⟩
  · cases h; exact ⟨(Kt),fun _ _=>Fl⟩
  · cases h

noncomputable def kQ {R:Type} (ad:aT R) (dH:nN R) (af:aW R) (ai:bF R) (gm:(List Int)→ak→Nat→Option R) (x4:List Int) (x5:ak) (x6:Nat) (e0:(List Int)→Option R):Option R :=
  bif decide (x6<x5.length)then (dH ((mi x5 x6).1:Int) (fun y7=>bif (y7 != 0)then (ad 92 x4 (fun y8=>ad y7 y8 (fun y9=>gm y9 x5 (x6+(mi x5 x6).2))))else (bif (decide (((mi x5 x6).1:Int)<(32:Int)))then (af ([92,117,48,48]:ak) x4 (fun B5 B6=>cR (decide ((0:Int)≤(Int.fdiv ((mi x5 x6).1:Int) (2 ^ (min 4 IntKind.i32.bits))))&&decide ((Int.fdiv ((mi x5 x6).1:Int) (2 ^ (min 4 IntKind.i32.bits)))<(16:Int))) (ad ((([48,49,50,51,52,53,54,55,56,57,97,98,99,100,101,102]:ak).getD ((Int.fdiv ((mi x5 x6).1:Int) (2 ^ (min 4 IntKind.i32.bits))).toNat) 0).toNat:Int) B6 (fun HM=>cR (decide ((0:Int)≤(IntKind.i32.wrap ((BitVec.ofInt IntKind.i32.bits ((mi x5 x6).1:Int) &&& BitVec.ofInt IntKind.i32.bits 15).toNat:Int)))&&decide ((IntKind.i32.wrap ((BitVec.ofInt IntKind.i32.bits ((mi x5 x6).1:Int) &&& BitVec.ofInt IntKind.i32.bits 15).toNat:Int))<(16:Int))) (ad ((([48,49,50,51,52,53,54,55,56,57,97,98,99,100,101,102]:ak).getD ((IntKind.i32.wrap ((BitVec.ofInt IntKind.i32.bits ((mi x5 x6).1:Int) &&& BitVec.ofInt IntKind.i32.bits 15).toNat:Int)).toNat) 0).toNat:Int) HM (fun Il=>gm Il x5 (x6+(mi x5 x6).2)))))))else (ai ((mi x5 x6).1:Int) x4 (fun GK JG=>gm JG x5 (x6+(mi x5 x6).2))))))else (e0 x4)
noncomputable def bY {R:Type}:lN R
  | 0,_,_,_,_=>none
  | n+1,mQ,mR,nI,e0=>kQ ad dH af ai (fun mQ mR nI=>bY n mQ mR nI e0) mQ mR nI e0
noncomputable def rH:Hint := { live := [4,13],own := [],rows := [],cells := [],drop := [],out := [2,3,4] }
abbrev js:Type:=(List Int) × ak × Nat
noncomputable def pA:js→St:=fun d=>⟨[.undef, .undef, .undef, .undef, .ptr 0 0, .undef, .undef, .undef, .undef, .undef, .undef, .undef, .undef, .ptr 1 0, .undef, .undef, .undef, .undef, .undef, .undef, .undef, .undef, .undef, .undef, .undef, .undef, .undef, .undef, .undef, .undef, .undef, .undef, .undef, .undef, .undef, .undef, .undef, .undef, .undef, .undef, .undef], [.kq (.sl (.int .u8) d.1 (.own 2)), .iter d.2.1 d.2.2, .tok]⟩
noncomputable def vh {R:Type} (K:Ex→St→Option R) (q0:List Int):Option R:=K (.exit 0) ⟨[.undef, .undef, .undef, .undef, .ptr 0 0, .undef, .undef, .undef, .undef, .undef, .undef, .undef, .undef, .undef, .undef, .undef, .undef, .undef, .undef, .undef, .undef, .undef, .undef, .undef, .undef, .undef, .undef, .undef, .undef, .undef, .undef, .undef, .undef, .undef, .undef, .undef, .undef, .undef, .undef, .undef, .undef], [.kq (.sl (.int .u8) q0 (.own 1)), .tok]⟩
noncomputable def wG {R:Type} (ad:aT R) (dH:nN R) (af:aW R) (ai:bF R) (K:Ex→St→Option R) (rc:js→Option R) (d:js):Option R:=kQ ad dH af ai (fun z0 z1 z2=>rc (z0,z1,z2)) d.1 d.2.1 d.2.2 (vh K)
noncomputable def mG {R:Type} (K:Ex→St→Option R) (n:Nat) (d:js):Option R:=bY n d.1 d.2.1 d.2.2 (vh K)
abbrev jt:List bJ := [.leaf (.undef), .leaf (.undef), .leaf (.undef), .leaf (.undef), .leaf (.ptr 0 0), .leaf (.undef), .leaf (.undef), .leaf (.undef), .leaf (.undef), .leaf (.undef), .leaf (.undef), .leaf (.undef), .leaf (.undef), .leaf (.ptr 1 0), .leaf (.undef), .leaf (.undef), .leaf (.undef), .leaf (.undef), .leaf (.undef), .leaf (.undef), .leaf (.undef), .leaf (.undef), .leaf (.undef), .leaf (.undef), .leaf (.undef), .leaf (.undef), .leaf (.undef), .leaf (.undef), .leaf (.undef), .leaf (.undef), .leaf (.undef), .leaf (.undef), .leaf (.undef), .leaf (.undef), .leaf (.undef), .leaf (.undef), .leaf (.undef), .leaf (.undef), .leaf (.undef), .leaf (.undef), .leaf (.undef)]
abbrev ju:List aF := [.kq (.Mp (.int .u8) 2), .iter, .tok]
noncomputable def wH (x:bJ.au jt) (y:aF.au ju):Nat:=(List.length y.1+List.length y.2.1.1+64)
noncomputable def wI (x:bJ.au jt) (y:aF.au ju):js:=(y.1,y.2.1.1,y.2.1.2)
noncomputable def vi {R:Type} (L:lN R):bJ.au jt→aF.au ju→(Ex→St→Option R)→Option R:=fun x y K=>L (wH x y) y.1 y.2.1.1 y.2.1.2 (vh K)
noncomputable def ug (R:Type) (bY:lN R):Nat→Option (Hint × cd R):=fun i=>match i with
  | 6=>some (rH,(gq jt ju (vi bY) qg))
  | _=>none

theorem EO {R:Type} (bk:fk R) (ah:bx R) (ad:aT R) (dH:nN R) (af:aW R) (ai:bF R) (bY:lN R) (K:Ex→St→Option R) (rc:St→Option R) (d:js):roundOf tt (oU R bk ah ad dH af ai) (ug R bY) 0 ((aO (aI Tryz.f26)).getD 0 .skip) rH (pA d) rc K=wG ad dH af ai K (fun d=>rc (pA d)) d:=by kernel_rfl
theorem Dx {R:Type} (K:Ex→St→Option R) (n:Nat) (d:js):mG K (n+1) d=wG ad dH af ai K (mG K n) d:=by kernel_rfl
theorem Dy {R:Type} (K:Ex→St→Option R) (d:js):mG K 0 d=none:=by kernel_rfl
theorem EP (x:bJ.au jt) (y:aF.au ju):(⟨bJ.cL jt x,aF.cL ju y⟩:St)=pA (wI x y):=by kernel_rfl
theorem ER {R:Type} (x:bJ.au jt) (y:aF.au ju) (K:Ex→St→Option R):vi (bY) x y K=mG K (wH x y) (wI x y):=by kernel_rfl
theorem GL {R:Type} (other:cd R) (ho:ph tt (oU R bk ah ad dH af ai) (ug R bY) 0 ((aO (aI Tryz.f26)).getD 0 .skip) rH other):ph tt (oU R bk ah ad dH af ai) (ug R bY) 0 ((aO (aI Tryz.f26)).getD 0 .skip) rH (gq jt ju (vi (bY)) other) :=
  gQ (A:=mG) ho (kO pA (wG ad dH af ai) (mG) (Dy) (EO bk ah ad dH af ai bY) (Dx)) wH wI EP (ER)

noncomputable def qY {R:Type} (bk:fk R) (ah:bx R) (ad:aT R) (bY:lN R) (x1:ak) (k0:ak→Bool→Option R):Option R :=
  bk x1 (fun y2=>bif (!y2)then (k0 ([]:ak) false)else (ah 34 (fun y3=>bY (List.length y3+List.length x1+64) y3 x1 0 (fun MR=>ad 34 MR (fun QY=>k0 (sU QY) true)))))
noncomputable def bM {R:Type}:iz R:=fun x1 k0=>qY bk ah ad bY x1 k0
theorem LN {R:Type} (bk:fk R) (ah:bx R) (ad:aT R) (dH:nN R) (af:aW R) (ai:bF R) (bY:lN R) (x1:ak) (k:V→ay→Option R):iq tt (oU R bk ah ad dH af ai) (ug R bY) false Tryz.f26 (aI Tryz.f26) [.str x1] [] k =
    qY bk ah ad bY x1 (fun q0 q1=>k (.tuple [.str q0, .bool q1]) []):=by kernel_rfl
theorem HQ (R:Type):∀a∈aO (aI Tryz.f26),cG tt (oU R bk ah ad dH af ai) (ug R bY) 0 a:=by
  refine bB 1 (by kernel_rfl) fun i hi => ?_
  match i,hi with
  | 0,_=>exact fT (by kernel_rfl) (GL _ jA)
  | n+1,hi=>omega
theorem xZ (R:Type) (other:ax.Spec R) (ho:ax.Spec.Ok Tryz.prog 26 other):ax.Spec.Ok Tryz.prog 26 (az qW qX (wF bM) other) :=
  bm ho (bc TT mixed (J5 R) (keep:=false) rfl rfl rfl rfl 0 (HQ R)) fun (x:bJ.au qW) (y:aF.au qX) k=>LN bk ah ad dH af ai bY x.1 k

/-! ### humpyard/json.write$1 -/
abbrev j8 (R:Type):Type:=ak→((List Int)→Option R)→Option R
abbrev pB:List bJ := [.leaf (.str), .leaf (.ptr 0 0)]
abbrev pC:List aF := [.cells [.ptr 1 0], .kq (.cw)]
noncomputable def yW {R:Type} (fn:j8 R):bJ.au pB→aF.au pC→(V→ay→Option R)→Option R:=fun x y k=>fn x.1 (fun q0=>k (.tuple []) [.cells [.ptr 1 0], .kq (.sl (.int .u8) q0 (.own 2)), .tok])
noncomputable def pD (R:Type) (bM:iz R) (ag:bz R):Env R:=fun i=>match i with
  | 26=>some (true,(az qW qX (wF bM) aZ))
  | 52=>some (false,(az dR dS (gk ag) aZ))
  | _=>none
theorem D3 (R:Type):po Tryz.prog (pD R bM ag):=by
  intro i b sp h
  unfold pD at h
  split at h
  · cases h; exact ⟨(xZ R _ (aM _)),fun h=>nomatch h⟩
  · cases h; exact ⟨(iM R _ (aM _)),fun _ h=>nomatch h⟩
  · cases h

noncomputable def zP (R:Type):Nat→Option (Hint × cd R):=fun i=>match i with
  | _=>none

noncomputable def zQ {R:Type} (bM:iz R) (ag:bz R) (x1:ak) (k0:(List Int)→Option R):Option R :=
  bM x1 (fun y2 y3=>ag y2 (fun y4 y5=>k0 y5))
noncomputable def cQ {R:Type}:j8 R:=fun x1 k0=>zQ bM ag x1 k0
theorem ES {R:Type} (bM:iz R) (ag:bz R) (x1:ak) (k:V→ay→Option R):iq tt (pD R bM ag) (zP R) false Tryz.f61 (aI Tryz.f61) [.str x1, .ptr 0 0] [.cells [.ptr 1 0], .kq (.cw)] k =
    zQ bM ag x1 (fun q0=>k (.tuple []) [.cells [.ptr 1 0], .kq (.sl (.int .u8) q0 (.own 2)), .tok]):=by kernel_rfl
theorem CM (R:Type):∀a∈aO (aI Tryz.f61),cG tt (pD R bM ag) (zP R) 2 a:=by
  refine bB 0 (by kernel_rfl) fun i hi => ?_
  omega
theorem Dz (R:Type) (other:ax.Spec R) (ho:ax.Spec.Ok Tryz.prog 61 other):ax.Spec.Ok Tryz.prog 61 (az pB pC (yW cQ) other) :=
  bm ho (bc TT mixed (D3 R) (keep:=false) rfl rfl rfl rfl 2 (CM R)) fun (x:bJ.au pB) (y:aF.au pC) k=>ES bM ag x.1 k

/-! ### humpyard/json.write$1 -/
abbrev dv (R:Type):Type:=ak→(List Int)→((List Int)→Option R)→Option R
abbrev mY:List bJ := [.leaf (.str), .leaf (.ptr 0 0)]
abbrev mZ:List aF := [.cells [.ptr 1 0], .kq (.Mp (.int .u8) 2), .tok]
noncomputable def ss {R:Type} (fn:dv R):bJ.au mY→aF.au mZ→(V→ay→Option R)→Option R:=fun x y k=>fn x.1 y.2.1 (fun q0=>k (.tuple []) [.cells [.ptr 1 0], .kq (.sl (.int .u8) q0 (.own 3)), .dead, .tok])
noncomputable def pE (R:Type) (bM:iz R) (af:aW R):Env R:=fun i=>match i with
  | 26=>some (true,(az qW qX (wF bM) aZ))
  | 52=>some (false,(az dp dq (eP af) aZ))
  | _=>none
theorem D4 (R:Type):po Tryz.prog (pE R bM af):=by
  intro i b sp h
  unfold pE at h
  split at h
  · cases h; exact ⟨(xZ R _ (aM _)),fun h=>nomatch h⟩
  · cases h; exact ⟨(fK R _ (aM _)),fun _ h=>nomatch h⟩
  · cases h

noncomputable def zR (R:Type):Nat→Option (Hint × cd R):=fun i=>match i with
  | _=>none

noncomputable def zS {R:Type} (bM:iz R) (af:aW R) (x1:ak) (x2:List Int) (k0:(List Int)→Option R):Option R :=
  bM x1 (fun y3 y4=>af y3 x2 (fun y5 y6=>k0 y6))
noncomputable def aE {R:Type}:dv R:=fun x1 x2 k0=>zS bM af x1 x2 k0
theorem ET {R:Type} (bM:iz R) (af:aW R) (x1:ak) (x2:List Int) (k:V→ay→Option R):iq tt (pE R bM af) (zR R) false Tryz.f61 (aI Tryz.f61) [.str x1, .ptr 0 0] [.cells [.ptr 1 0], .kq (.sl (.int .u8) x2 (.own 2)), .tok] k =
    zS bM af x1 x2 (fun q0=>k (.tuple []) [.cells [.ptr 1 0], .kq (.sl (.int .u8) q0 (.own 3)), .dead, .tok]):=by kernel_rfl
theorem CN (R:Type):∀a∈aO (aI Tryz.f61),cG tt (pE R bM af) (zR R) 3 a:=by
  refine bB 0 (by kernel_rfl) fun i hi => ?_
  omega
theorem wJ (R:Type) (other:ax.Spec R) (ho:ax.Spec.Ok Tryz.prog 61 other):ax.Spec.Ok Tryz.prog 61 (az mY mZ (ss aE) other) :=
  bm ho (bc TT mixed (D4 R) (keep:=false) rfl rfl rfl rfl 3 (CN R)) fun (x:bJ.au mY) (y:aF.au mZ) k=>ET bM af x.1 y.2.1 k

end Go.Proofs.YtmlkkgfenfdndaaGreatDoor

/-
  Functions of the program as pure Lean functions, and the ties; printed by wip/tools/emit.py.
-/
set_option maxRecDepth 100000
namespace Go.Proofs.YtmlkkgfenfdndaaGreatDoor
open Go Go.ax

/-! ### humpyard/json.write -/
abbrev bD (R:Type):Type:=Json→(List Int)→((List Int)→Option R)→Option R
abbrev gY:List bJ := [.leaf (.ptr 0 0), .agg [.int .i64, .int .i64, .int .i64, .str, .sl .str, .sl .json]]
abbrev gZ:List aF := [.kq (.Mp (.int .u8) 1), .tok]
noncomputable def eV {R:Type} (fn:bD R):bJ.au gY→aF.au gZ→(V→ay→Option R)→Option R:=fun x y k=>fn (⟨x.2.1.1,⟨x.2.1.2.1,x.2.1.2.2.1⟩,x.2.1.2.2.2.1,x.2.1.2.2.2.2.1,x.2.1.2.2.2.2.2.1⟩:Json) y.1 (fun q0=>k (.tuple []) [.kq (.sl (.int .u8) q0 (.own 2)), .dead, .tok])
abbrev ia (R:Type):Type:=Nat→ak→(List Json)→Int→Int→(List Int)→Json→(ak→(List Int)→Option R)→Option R
noncomputable def kR (R:Type) (aX:eQ R) (ad:aT R) (af:aW R) (aq:bD R) (aE:dv R):Env R:=fun i=>match i with
  | 46=>some (true,(az oi oj (s7 aX) aZ))
  | 50=>some (false,(az ei ej (gI ad) aZ))
  | 52=>some (false,(az dp dq (eP af) aZ))
  | 38=>some (false,(az gY gZ (eV aq) aZ))
  | 61=>some (false,(az mY mZ (ss aE) aZ))
  | _=>none
theorem FD (R:Type) (aq:bD R) (tI:ax.Spec.Ok Tryz.prog 38 (az gY gZ (eV aq) aZ)):po Tryz.prog (kR R aX ad af aq aE):=by
  intro i b sp h
  unfold kR at h
  split at h
  · cases h; exact ⟨(vd R _ (aM _)),fun h=>nomatch h⟩
  · cases h; exact ⟨(jE R _ (aM _)),fun _ h=>nomatch h⟩
  · cases h; exact ⟨(fK R _ (aM _)),fun _ h=>nomatch h⟩
  · cases h; exact ⟨tI,fun _ h=>nomatch h⟩
  · cases h; exact ⟨(wJ R _ (aM _)),fun _ h=>nomatch h⟩
  · cases h

noncomputable def iR {R:Type} (ad:aT R) (aq:bD R) (aE:dv R) (gm:ak→(List Json)→Int→Int→(List Int)→Json→Option R) (pj:ak) (sK:List Json) (mz:Int) (sL:Int) (Cb:List Int) (zT:Json) (e0:ak→(List Int)→Option R):Option R :=
  bif (decide (sL<mz))then (cR (decide ((0:Int)≤sL)&&decide (sL<sK.length)) (bif (decide (sL>(0:Int)))then (ad 44 Cb (fun MS=>bif (zT.kind==7)then (cR (decide ((0:Int)≤sL)&&decide (sL<zT.names.length)) (aE (zT.names.getD sL.toNat (Ty.cg .str)) MS (fun Vo=>ad 58 Vo (fun Zp=>aq (⟨(sK.getD sL.toNat (Ty.cg .json)).kind,⟨(sK.getD sL.toNat (Ty.cg .json)).num.aw,(sK.getD sL.toNat (Ty.cg .json)).num.exp⟩,(sK.getD sL.toNat (Ty.cg .json)).text,(sK.getD sL.toNat (Ty.cg .json)).names,(sK.getD sL.toNat (Ty.cg .json)).items⟩:Json) Zp (fun Zq=>gm pj sK mz (IntKind.i64.wrap (sL+1)) Zq (⟨zT.kind,⟨zT.num.aw,zT.num.exp⟩,zT.text,zT.names,zT.items⟩:Json))))))else (aq (⟨(sK.getD sL.toNat (Ty.cg .json)).kind,⟨(sK.getD sL.toNat (Ty.cg .json)).num.aw,(sK.getD sL.toNat (Ty.cg .json)).num.exp⟩,(sK.getD sL.toNat (Ty.cg .json)).text,(sK.getD sL.toNat (Ty.cg .json)).names,(sK.getD sL.toNat (Ty.cg .json)).items⟩:Json) MS (fun JH=>gm pj sK mz (IntKind.i64.wrap (sL+1)) JH (⟨zT.kind,⟨zT.num.aw,zT.num.exp⟩,zT.text,zT.names,zT.items⟩:Json)))))else (bif (zT.kind==7)then (cR (decide ((0:Int)≤sL)&&decide (sL<zT.names.length)) (aE (zT.names.getD sL.toNat (Ty.cg .str)) Cb (fun JI=>ad 58 JI (fun I3=>aq (⟨(sK.getD sL.toNat (Ty.cg .json)).kind,⟨(sK.getD sL.toNat (Ty.cg .json)).num.aw,(sK.getD sL.toNat (Ty.cg .json)).num.exp⟩,(sK.getD sL.toNat (Ty.cg .json)).text,(sK.getD sL.toNat (Ty.cg .json)).names,(sK.getD sL.toNat (Ty.cg .json)).items⟩:Json) I3 (fun Im=>gm pj sK mz (IntKind.i64.wrap (sL+1)) Im (⟨zT.kind,⟨zT.num.aw,zT.num.exp⟩,zT.text,zT.names,zT.items⟩:Json))))))else (aq (⟨(sK.getD sL.toNat (Ty.cg .json)).kind,⟨(sK.getD sL.toNat (Ty.cg .json)).num.aw,(sK.getD sL.toNat (Ty.cg .json)).num.exp⟩,(sK.getD sL.toNat (Ty.cg .json)).text,(sK.getD sL.toNat (Ty.cg .json)).names,(sK.getD sL.toNat (Ty.cg .json)).items⟩:Json) Cb (fun MT=>gm pj sK mz (IntKind.i64.wrap (sL+1)) MT (⟨zT.kind,⟨zT.num.aw,zT.num.exp⟩,zT.text,zT.names,zT.items⟩:Json))))))else (e0 pj Cb)
noncomputable def aR {R:Type} (aq:bD R):ia R
  | 0,_,_,_,_,_,_,_=>none
  | n+1,mQ,mR,nI,xl,FE,FF,e0=>iR ad aq aE (fun mQ mR nI xl FE FF=>aR aq n mQ mR nI xl FE FF e0) mQ mR nI xl FE FF e0
noncomputable def nd:Hint := { live := [2,3,4,5,43,44,45],own := [],rows := [],cells := [],drop := [],out := [2,5] }
abbrev fy:Type:=ak × (List Json) × Int × Int × (List Int) × Json
noncomputable def lV:fy→St:=fun d=>⟨[.undef, .undef, .ptr 2 0, .ptr 3 0, .func 61 [] [.ptr 2 0], .str d.1, .undef, .undef, .undef, .undef, .undef, .undef, .undef, .undef, .undef, .undef, .undef, .undef, .undef, .undef, .undef, .undef, .undef, .undef, .undef, .undef, .undef, .undef, .undef, .undef, .undef, .undef, .undef, .undef, .undef, .undef, .undef, .undef, .undef, .undef, .undef, .undef, .undef, .sl .json d.2.1 .no, .int .i64 d.2.2.1, .int .i64 d.2.2.2.1, .undef, .undef, .undef, .undef, .undef, .undef, .undef, .undef, .undef, .undef, .undef, .undef, .undef, .undef, .undef, .undef, .undef, .undef, .undef, .undef, .undef, .undef, .undef, .undef, .undef, .undef, .undef, .undef], [.kq (.sl (.int .u8) d.2.2.2.2.1 (.own 4)), .dead, .cells [.ptr 0 0], .cells [.int .i64 d.2.2.2.2.2.kind, .int .i64 d.2.2.2.2.2.num.aw, .int .i64 d.2.2.2.2.2.num.exp, .str d.2.2.2.2.2.text, .sl .str d.2.2.2.2.2.names .no, .sl .json d.2.2.2.2.2.items .no], .tok]⟩
noncomputable def pN {R:Type} (K:Ex→St→Option R) (q0:ak) (q1:List Int):Option R:=K (.exit 1) ⟨[.undef, .undef, .ptr 2 0, .undef, .undef, .str q0, .undef, .undef, .undef, .undef, .undef, .undef, .undef, .undef, .undef, .undef, .undef, .undef, .undef, .undef, .undef, .undef, .undef, .undef, .undef, .undef, .undef, .undef, .undef, .undef, .undef, .undef, .undef, .undef, .undef, .undef, .undef, .undef, .undef, .undef, .undef, .undef, .undef, .undef, .undef, .undef, .undef, .undef, .undef, .undef, .undef, .undef, .undef, .undef, .undef, .undef, .undef, .undef, .undef, .undef, .undef, .undef, .undef, .undef, .undef, .undef, .undef, .undef, .undef, .undef, .undef, .undef, .undef, .undef], [.kq (.sl (.int .u8) q1 (.own 3)), .dead, .cells [.ptr 0 0], .tok]⟩
noncomputable def qk {R:Type} (ad:aT R) (aq:bD R) (aE:dv R) (K:Ex→St→Option R) (rc:fy→Option R) (d:fy):Option R:=iR ad aq aE (fun z0 z1 z2 z3 z4 z5=>rc (z0,z1,z2,z3,z4,z5)) d.1 d.2.1 d.2.2.1 d.2.2.2.1 d.2.2.2.2.1 d.2.2.2.2.2 (pN K)
noncomputable def iS {R:Type} (aq:bD R) (K:Ex→St→Option R) (n:Nat) (d:fy):Option R:=aR aq n d.1 d.2.1 d.2.2.1 d.2.2.2.1 d.2.2.2.2.1 d.2.2.2.2.2 (pN K)
abbrev fA:List bJ := [.leaf (.undef), .leaf (.undef), .leaf (.ptr 2 0), .leaf (.ptr 3 0), .func 61 [] [.ptr 2 0], .leaf (.str), .leaf (.undef), .leaf (.undef), .leaf (.undef), .leaf (.undef), .leaf (.undef), .leaf (.undef), .leaf (.undef), .leaf (.undef), .leaf (.undef), .leaf (.undef), .leaf (.undef), .leaf (.undef), .leaf (.undef), .leaf (.undef), .leaf (.undef), .leaf (.undef), .leaf (.undef), .leaf (.undef), .leaf (.undef), .leaf (.undef), .leaf (.undef), .leaf (.undef), .leaf (.undef), .leaf (.undef), .leaf (.undef), .leaf (.undef), .leaf (.undef), .leaf (.undef), .leaf (.undef), .leaf (.undef), .leaf (.undef), .leaf (.undef), .leaf (.undef), .leaf (.undef), .leaf (.undef), .leaf (.undef), .leaf (.undef), .leaf (.sl .json), .leaf (.int .i64), .leaf (.int .i64), .leaf (.undef), .leaf (.undef), .leaf (.undef), .leaf (.undef), .leaf (.undef), .leaf (.undef), .leaf (.undef), .leaf (.undef), .leaf (.undef), .leaf (.undef), .leaf (.undef), .leaf (.undef), .leaf (.undef), .leaf (.undef), .leaf (.undef), .leaf (.undef), .leaf (.undef), .leaf (.undef), .leaf (.undef), .leaf (.undef), .leaf (.undef), .leaf (.undef), .leaf (.undef), .leaf (.undef), .leaf (.undef), .leaf (.undef), .leaf (.undef), .leaf (.undef)]
abbrev fB:List aF := [.kq (.Mp (.int .u8) 4), .dead, .cells [.ptr 0 0], .cells [.int .i64, .int .i64, .int .i64, .str, .sl .str, .sl .json], .tok]
noncomputable def ql (x:bJ.au fA) (y:aF.au fB):Nat:=(List.length x.2.2.2.2.2.1+List.length x.2.2.2.2.2.2.2.2.2.2.2.2.2.2.2.2.2.2.2.2.2.2.2.2.2.2.2.2.2.2.2.2.2.2.2.2.2.2.2.2.2.2.2.1+Int.natAbs x.2.2.2.2.2.2.2.2.2.2.2.2.2.2.2.2.2.2.2.2.2.2.2.2.2.2.2.2.2.2.2.2.2.2.2.2.2.2.2.2.2.2.2.2.1+Int.natAbs x.2.2.2.2.2.2.2.2.2.2.2.2.2.2.2.2.2.2.2.2.2.2.2.2.2.2.2.2.2.2.2.2.2.2.2.2.2.2.2.2.2.2.2.2.2.1+List.length y.1+Json.fu (⟨y.2.2.2.1.1,⟨y.2.2.2.1.2.1,y.2.2.2.1.2.2.1⟩,y.2.2.2.1.2.2.2.1,y.2.2.2.1.2.2.2.2.1,y.2.2.2.1.2.2.2.2.2.1⟩:Json)+64)
noncomputable def qm (x:bJ.au fA) (y:aF.au fB):fy:=(x.2.2.2.2.2.1,x.2.2.2.2.2.2.2.2.2.2.2.2.2.2.2.2.2.2.2.2.2.2.2.2.2.2.2.2.2.2.2.2.2.2.2.2.2.2.2.2.2.2.2.1,x.2.2.2.2.2.2.2.2.2.2.2.2.2.2.2.2.2.2.2.2.2.2.2.2.2.2.2.2.2.2.2.2.2.2.2.2.2.2.2.2.2.2.2.2.1,x.2.2.2.2.2.2.2.2.2.2.2.2.2.2.2.2.2.2.2.2.2.2.2.2.2.2.2.2.2.2.2.2.2.2.2.2.2.2.2.2.2.2.2.2.2.1,y.1,(⟨y.2.2.2.1.1,⟨y.2.2.2.1.2.1,y.2.2.2.1.2.2.1⟩,y.2.2.2.1.2.2.2.1,y.2.2.2.1.2.2.2.2.1,y.2.2.2.1.2.2.2.2.2.1⟩:Json))
noncomputable def pO {R:Type} (L:ia R):bJ.au fA→aF.au fB→(Ex→St→Option R)→Option R:=fun x y K=>L (ql x y) x.2.2.2.2.2.1 x.2.2.2.2.2.2.2.2.2.2.2.2.2.2.2.2.2.2.2.2.2.2.2.2.2.2.2.2.2.2.2.2.2.2.2.2.2.2.2.2.2.2.2.1 x.2.2.2.2.2.2.2.2.2.2.2.2.2.2.2.2.2.2.2.2.2.2.2.2.2.2.2.2.2.2.2.2.2.2.2.2.2.2.2.2.2.2.2.2.1 x.2.2.2.2.2.2.2.2.2.2.2.2.2.2.2.2.2.2.2.2.2.2.2.2.2.2.2.2.2.2.2.2.2.2.2.2.2.2.2.2.2.2.2.2.2.1 y.1 (⟨y.2.2.2.1.1,⟨y.2.2.2.1.2.1,y.2.2.2.1.2.2.1⟩,y.2.2.2.1.2.2.2.1,y.2.2.2.1.2.2.2.2.1,y.2.2.2.1.2.2.2.2.2.1⟩:Json) (pN K)
noncomputable def oC (R:Type) (aR:ia R):Nat→Option (Hint × cd R):=fun i=>match i with
  | 18=>some (nd,(gq fA fB (pO aR) qg))
  | _=>none

theorem BB {R:Type} (aX:eQ R) (ad:aT R) (af:aW R) (aq:bD R) (aE:dv R) (aR:ia R) (K:Ex→St→Option R) (rc:St→Option R) (d:fy):roundOf tt (kR R aX ad af aq aE) (oC R aR) 2 ((aO (aI Tryz.f38)).getD 0 .skip) nd (lV d) rc K=qk ad aq aE K (fun d=>rc (lV d)) d:=by kernel_rfl
theorem Ar {R:Type} (aq:bD R) (K:Ex→St→Option R) (n:Nat) (d:fy):iS aq K (n+1) d=qk ad aq aE K (iS aq K n) d:=by kernel_rfl
theorem As {R:Type} (aq:bD R) (K:Ex→St→Option R) (d:fy):iS aq K 0 d=none:=by kernel_rfl
theorem BC (x:bJ.au fA) (y:aF.au fB):(⟨bJ.cL fA x,aF.cL fB y⟩:St)=lV (qm x y):=by kernel_rfl
theorem BD {R:Type} (aq:bD R) (x:bJ.au fA) (y:aF.au fB) (K:Ex→St→Option R):pO (aR aq) x y K=iS aq K (ql x y) (qm x y):=by kernel_rfl
theorem CO {R:Type} (aq:bD R) (other:cd R) (ho:ph tt (kR R aX ad af aq aE) (oC R (aR aq)) 2 ((aO (aI Tryz.f38)).getD 0 .skip) nd other):ph tt (kR R aX ad af aq aE) (oC R (aR aq)) 2 ((aO (aI Tryz.f38)).getD 0 .skip) nd (gq fA fB (pO (aR aq)) other) :=
  gQ (A:=iS aq) ho (kO lV (qk ad aq aE) (iS aq) (As aq) (BB aX ad af aq aE (aR aq)) (Ar aq)) ql qm BC (BD aq)

noncomputable def wK {R:Type} (aX:eQ R) (ad:aT R) (af:aW R) (aE:dv R) (aR:ia R) (x1:Json) (x2:List Int) (k0:(List Int)→Option R):Option R :=
  let j33:=fun (Qp:ak)=>cR (decide ((0:Int)<Qp.length)) (ad ((Qp.getD 0 0).toNat:Int) x2 (fun GK=>aR (List.length Qp+List.length x1.items+Int.natAbs (x1.items.length:Int)+Int.natAbs 0+List.length GK+Json.fu (⟨x1.kind,⟨x1.num.aw,x1.num.exp⟩,x1.text,x1.names,x1.items⟩:Json)+64) Qp x1.items (x1.items.length:Int) 0 GK (⟨x1.kind,⟨x1.num.aw,x1.num.exp⟩,x1.text,x1.names,x1.items⟩:Json) (fun Mr OS=>cR (decide ((1:Int)<Mr.length)) (ad ((Mr.getD 1 0).toNat:Int) OS (fun Ms=>k0 Ms))))); bif (x1.kind==1)then (af ([110,117,108,108]:ak) x2 (fun y3 y4=>k0 y4))else (bif (x1.kind==2)then (af ([102,97,108,115,101]:ak) x2 (fun y5 y6=>k0 y6))else (bif (x1.kind==3)then (af ([116,114,117,101]:ak) x2 (fun y7 y8=>k0 y8))else (bif (x1.kind==4)then (aX x1.num (fun y9=>af y9 x2 (fun B5 B6=>k0 B6)))else (bif (x1.kind==5)then (aE x1.text x2 (fun HM=>k0 HM))else (bif (x1.kind==7)then (j33 ([123,125]:ak))else (j33 ([91,93]:ak)))))))
noncomputable def wL {R:Type} (aq:bD R):bD R:=fun x1 x2 k0=>wK aX ad af aE (aR aq) x1 x2 k0
theorem GM {R:Type} (aX:eQ R) (ad:aT R) (af:aW R) (aq:bD R) (aE:dv R) (aR:ia R) (x1:Json) (x2:List Int) (k:V→ay→Option R):iq tt (kR R aX ad af aq aE) (oC R aR) false Tryz.f38 (aI Tryz.f38) [.ptr 0 0, .agg [.int .i64 x1.kind, .int .i64 x1.num.aw, .int .i64 x1.num.exp, .str x1.text, .sl .str x1.names .no, .sl .json x1.items .no]] [.kq (.sl (.int .u8) x2 (.own 1)), .tok] k =
    wK aX ad af aE aR x1 x2 (fun q0=>k (.tuple []) [.kq (.sl (.int .u8) q0 (.own 2)), .dead, .tok]):=by kernel_rfl
theorem D5 (R:Type) (aq:bD R):∀a∈aO (aI Tryz.f38),cG tt (kR R aX ad af aq aE) (oC R (aR aq)) 2 a:=by
  refine bB 1 (by kernel_rfl) fun i hi => ?_
  match i,hi with
  | 0,_=>exact fT (by kernel_rfl) (CO aq _ jA)
  | n+1,hi=>omega
theorem D6 (R:Type) (aq:bD R) (tI:ax.Spec.Ok Tryz.prog 38 (az gY gZ (eV aq) aZ)) (other:ax.Spec R) (ho:ax.Spec.Ok Tryz.prog 38 other):ax.Spec.Ok Tryz.prog 38 (az gY gZ (eV (wL aq)) other) :=
  bm ho (bc TT mixed (FD R aq tI) (keep:=false) rfl rfl rfl rfl 2 (D5 R aq)) fun (x:bJ.au gY) (y:aF.au gZ) k=>GM aX ad af aq aE (aR aq) (⟨x.2.1.1,⟨x.2.1.2.1,x.2.1.2.2.1⟩,x.2.1.2.2.2.1,x.2.1.2.2.2.2.1,x.2.1.2.2.2.2.2.1⟩:Json) y.1 k
noncomputable def du {R:Type}:Nat→bD R
  | 0,_,_,_=>none
  | n+1,mQ,mR,Zo=>wL (du n) mQ mR Zo
theorem OT {R:Type} (n:Nat):du (R:=R) (n+1)=wL (du n):=by kernel_rfl
theorem EU (R:Type):∀n,ax.Spec.Ok Tryz.prog 38 (az gY gZ (eV (du (R:=R) n)) aZ) :=
  vF (run:=fun n=>eV (du (R:=R) n)) (fun x y k=>by kernel_rfl) fun n hyp=>D6 R (du n) hyp aZ (aM _)
noncomputable def bA {R:Type}:bD R:=fun x1 x2 k0=>du (Json.depth x1+2) x1 x2 k0
theorem EV (R:Type):eV (R:=R) bA=fun x y k=>eV (du (Json.depth (⟨x.2.1.1,⟨x.2.1.2.1,x.2.1.2.2.1⟩,x.2.1.2.2.2.1,x.2.1.2.2.2.2.1,x.2.1.2.2.2.2.2.1⟩:Json)+2)) x y k:=by kernel_rfl
theorem EW (R:Type) (other:ax.Spec R) (ho:ax.Spec.Ok Tryz.prog 38 other):ax.Spec.Ok Tryz.prog 38 (az gY gZ (eV bA) other) :=
  Bd (CI (run:=fun n=>eV (du (R:=R) n)) (fun x y=>(Json.depth (⟨x.2.1.1,⟨x.2.1.2.1,x.2.1.2.2.1⟩,x.2.1.2.2.2.1,x.2.1.2.2.2.2.1,x.2.1.2.2.2.2.2.1⟩:Json)+2)) ho (EU R)) (EV R)

end Go.Proofs.YtmlkkgfenfdndaaGreatDoor

/-
  Functions of the program as pure Lean functions, and the ties; printed by wip/tools/emit.py.
-/
set_option maxRecDepth 100000
namespace Go.Proofs.YtmlkkgfenfdndaaGreatDoor
open Go Go.ax

/-! ### humpyard/json.write -/
abbrev nO (R:Type):Type:=Json→((List Int)→Option R)→Option R
abbrev rI:List bJ := [.leaf (.ptr 0 0), .agg [.int .i64, .int .i64, .int .i64, .str, .sl .str, .sl .json]]
abbrev rJ:List aF := [.kq (.cw)]
noncomputable def Bg {R:Type} (fn:nO R):bJ.au rI→aF.au rJ→(V→ay→Option R)→Option R:=fun x y k=>fn (⟨x.2.1.1,⟨x.2.1.2.1,x.2.1.2.2.1⟩,x.2.1.2.2.2.1,x.2.1.2.2.2.2.1,x.2.1.2.2.2.2.2.1⟩:Json) (fun q0=>k (.tuple []) [.kq (.sl (.int .u8) q0 (.own 1)), .tok])
abbrev ib (R:Type):Type:=Nat→ak→(List Json)→Int→Int→(List Int)→Json→(ak→(List Int)→Option R)→Option R
noncomputable def kS (R:Type) (aX:eQ R) (ah:bx R) (ad:aT R) (ag:bz R) (bA:bD R) (cQ:j8 R) (aE:dv R):Env R:=fun i=>match i with
  | 46=>some (true,(az oi oj (s7 aX) aZ))
  | 50=>some (false,(az ei ej (gI ad) (az eg eh (gH ah) aZ)))
  | 52=>some (false,(az dR dS (gk ag) aZ))
  | 38=>some (false,(az gY gZ (eV bA) aZ))
  | 61=>some (false,(az mY mZ (ss aE) (az pB pC (yW cQ) aZ)))
  | _=>none
theorem FG (R:Type):po Tryz.prog (kS R aX ah ad ag bA cQ aE):=by
  intro i b sp h
  unfold kS at h
  split at h
  · cases h; exact ⟨(vd R _ (aM _)),fun h=>nomatch h⟩
  · cases h; exact ⟨(jE R _ (jD R _ (aM _))),fun _ h=>nomatch h⟩
  · cases h; exact ⟨(iM R _ (aM _)),fun _ h=>nomatch h⟩
  · cases h; exact ⟨(EW R _ (aM _)),fun _ h=>nomatch h⟩
  · cases h; exact ⟨(wJ R _ (Dz R _ (aM _))),fun _ h=>nomatch h⟩
  · cases h

noncomputable def wM {R:Type} (ad:aT R) (bA:bD R) (aE:dv R) (gm:ak→(List Json)→Int→Int→(List Int)→Json→Option R) (Tc:ak) (pj:List Json) (sK:Int) (mz:Int) (sL:List Int) (Cb:Json) (e0:ak→(List Int)→Option R):Option R :=
  bif (decide (mz<sK))then (cR (decide ((0:Int)≤mz)&&decide (mz<pj.length)) (bif (decide (mz>(0:Int)))then (ad 44 sL (fun Td=>bif (Cb.kind==7)then (cR (decide ((0:Int)≤mz)&&decide (mz<Cb.names.length)) (aE (Cb.names.getD mz.toNat (Ty.cg .str)) Td (fun MS=>ad 58 MS (fun Vo=>bA (⟨(pj.getD mz.toNat (Ty.cg .json)).kind,⟨(pj.getD mz.toNat (Ty.cg .json)).num.aw,(pj.getD mz.toNat (Ty.cg .json)).num.exp⟩,(pj.getD mz.toNat (Ty.cg .json)).text,(pj.getD mz.toNat (Ty.cg .json)).names,(pj.getD mz.toNat (Ty.cg .json)).items⟩:Json) Vo (fun Zp=>gm Tc pj sK (IntKind.i64.wrap (mz+1)) Zp (⟨Cb.kind,⟨Cb.num.aw,Cb.num.exp⟩,Cb.text,Cb.names,Cb.items⟩:Json))))))else (bA (⟨(pj.getD mz.toNat (Ty.cg .json)).kind,⟨(pj.getD mz.toNat (Ty.cg .json)).num.aw,(pj.getD mz.toNat (Ty.cg .json)).num.exp⟩,(pj.getD mz.toNat (Ty.cg .json)).text,(pj.getD mz.toNat (Ty.cg .json)).names,(pj.getD mz.toNat (Ty.cg .json)).items⟩:Json) Td (fun Zq=>gm Tc pj sK (IntKind.i64.wrap (mz+1)) Zq (⟨Cb.kind,⟨Cb.num.aw,Cb.num.exp⟩,Cb.text,Cb.names,Cb.items⟩:Json)))))else (bif (Cb.kind==7)then (cR (decide ((0:Int)≤mz)&&decide (mz<Cb.names.length)) (aE (Cb.names.getD mz.toNat (Ty.cg .str)) sL (fun JH=>ad 58 JH (fun JI=>bA (⟨(pj.getD mz.toNat (Ty.cg .json)).kind,⟨(pj.getD mz.toNat (Ty.cg .json)).num.aw,(pj.getD mz.toNat (Ty.cg .json)).num.exp⟩,(pj.getD mz.toNat (Ty.cg .json)).text,(pj.getD mz.toNat (Ty.cg .json)).names,(pj.getD mz.toNat (Ty.cg .json)).items⟩:Json) JI (fun I3=>gm Tc pj sK (IntKind.i64.wrap (mz+1)) I3 (⟨Cb.kind,⟨Cb.num.aw,Cb.num.exp⟩,Cb.text,Cb.names,Cb.items⟩:Json))))))else (bA (⟨(pj.getD mz.toNat (Ty.cg .json)).kind,⟨(pj.getD mz.toNat (Ty.cg .json)).num.aw,(pj.getD mz.toNat (Ty.cg .json)).num.exp⟩,(pj.getD mz.toNat (Ty.cg .json)).text,(pj.getD mz.toNat (Ty.cg .json)).names,(pj.getD mz.toNat (Ty.cg .json)).items⟩:Json) sL (fun Im=>gm Tc pj sK (IntKind.i64.wrap (mz+1)) Im (⟨Cb.kind,⟨Cb.num.aw,Cb.num.exp⟩,Cb.text,Cb.names,Cb.items⟩:Json))))))else (e0 Tc sL)
noncomputable def bf {R:Type}:ib R
  | 0,_,_,_,_,_,_,_=>none
  | n+1,mQ,mR,nI,xl,FE,FF,e0=>wM ad bA aE (fun mQ mR nI xl FE FF=>bf n mQ mR nI xl FE FF e0) mQ mR nI xl FE FF e0
noncomputable def nf:Hint := { live := [2,3,4,5,43,44,45],own := [],rows := [],cells := [],drop := [],out := [2,5] }
abbrev fC:Type:=ak × (List Json) × Int × Int × (List Int) × Json
noncomputable def lW:fC→St:=fun d=>⟨[.undef, .undef, .ptr 1 0, .ptr 2 0, .func 61 [] [.ptr 1 0], .str d.1, .undef, .undef, .undef, .undef, .undef, .undef, .undef, .undef, .undef, .undef, .undef, .undef, .undef, .undef, .undef, .undef, .undef, .undef, .undef, .undef, .undef, .undef, .undef, .undef, .undef, .undef, .undef, .undef, .undef, .undef, .undef, .undef, .undef, .undef, .undef, .undef, .undef, .sl .json d.2.1 .no, .int .i64 d.2.2.1, .int .i64 d.2.2.2.1, .undef, .undef, .undef, .undef, .undef, .undef, .undef, .undef, .undef, .undef, .undef, .undef, .undef, .undef, .undef, .undef, .undef, .undef, .undef, .undef, .undef, .undef, .undef, .undef, .undef, .undef, .undef, .undef], [.kq (.sl (.int .u8) d.2.2.2.2.1 (.own 3)), .cells [.ptr 0 0], .cells [.int .i64 d.2.2.2.2.2.kind, .int .i64 d.2.2.2.2.2.num.aw, .int .i64 d.2.2.2.2.2.num.exp, .str d.2.2.2.2.2.text, .sl .str d.2.2.2.2.2.names .no, .sl .json d.2.2.2.2.2.items .no], .tok]⟩
noncomputable def pP {R:Type} (K:Ex→St→Option R) (q0:ak) (q1:List Int):Option R:=K (.exit 1) ⟨[.undef, .undef, .ptr 1 0, .undef, .undef, .str q0, .undef, .undef, .undef, .undef, .undef, .undef, .undef, .undef, .undef, .undef, .undef, .undef, .undef, .undef, .undef, .undef, .undef, .undef, .undef, .undef, .undef, .undef, .undef, .undef, .undef, .undef, .undef, .undef, .undef, .undef, .undef, .undef, .undef, .undef, .undef, .undef, .undef, .undef, .undef, .undef, .undef, .undef, .undef, .undef, .undef, .undef, .undef, .undef, .undef, .undef, .undef, .undef, .undef, .undef, .undef, .undef, .undef, .undef, .undef, .undef, .undef, .undef, .undef, .undef, .undef, .undef, .undef, .undef], [.kq (.sl (.int .u8) q1 (.own 2)), .cells [.ptr 0 0], .tok]⟩
noncomputable def qo {R:Type} (ad:aT R) (bA:bD R) (aE:dv R) (K:Ex→St→Option R) (rc:fC→Option R) (d:fC):Option R:=wM ad bA aE (fun z0 z1 z2 z3 z4 z5=>rc (z0,z1,z2,z3,z4,z5)) d.1 d.2.1 d.2.2.1 d.2.2.2.1 d.2.2.2.2.1 d.2.2.2.2.2 (pP K)
noncomputable def iT {R:Type} (K:Ex→St→Option R) (n:Nat) (d:fC):Option R:=bf n d.1 d.2.1 d.2.2.1 d.2.2.2.1 d.2.2.2.2.1 d.2.2.2.2.2 (pP K)
abbrev fE:List bJ := [.leaf (.undef), .leaf (.undef), .leaf (.ptr 1 0), .leaf (.ptr 2 0), .func 61 [] [.ptr 1 0], .leaf (.str), .leaf (.undef), .leaf (.undef), .leaf (.undef), .leaf (.undef), .leaf (.undef), .leaf (.undef), .leaf (.undef), .leaf (.undef), .leaf (.undef), .leaf (.undef), .leaf (.undef), .leaf (.undef), .leaf (.undef), .leaf (.undef), .leaf (.undef), .leaf (.undef), .leaf (.undef), .leaf (.undef), .leaf (.undef), .leaf (.undef), .leaf (.undef), .leaf (.undef), .leaf (.undef), .leaf (.undef), .leaf (.undef), .leaf (.undef), .leaf (.undef), .leaf (.undef), .leaf (.undef), .leaf (.undef), .leaf (.undef), .leaf (.undef), .leaf (.undef), .leaf (.undef), .leaf (.undef), .leaf (.undef), .leaf (.undef), .leaf (.sl .json), .leaf (.int .i64), .leaf (.int .i64), .leaf (.undef), .leaf (.undef), .leaf (.undef), .leaf (.undef), .leaf (.undef), .leaf (.undef), .leaf (.undef), .leaf (.undef), .leaf (.undef), .leaf (.undef), .leaf (.undef), .leaf (.undef), .leaf (.undef), .leaf (.undef), .leaf (.undef), .leaf (.undef), .leaf (.undef), .leaf (.undef), .leaf (.undef), .leaf (.undef), .leaf (.undef), .leaf (.undef), .leaf (.undef), .leaf (.undef), .leaf (.undef), .leaf (.undef), .leaf (.undef), .leaf (.undef)]
abbrev fF:List aF := [.kq (.Mp (.int .u8) 3), .cells [.ptr 0 0], .cells [.int .i64, .int .i64, .int .i64, .str, .sl .str, .sl .json], .tok]
noncomputable def qp (x:bJ.au fE) (y:aF.au fF):Nat:=(List.length x.2.2.2.2.2.1+List.length x.2.2.2.2.2.2.2.2.2.2.2.2.2.2.2.2.2.2.2.2.2.2.2.2.2.2.2.2.2.2.2.2.2.2.2.2.2.2.2.2.2.2.2.1+Int.natAbs x.2.2.2.2.2.2.2.2.2.2.2.2.2.2.2.2.2.2.2.2.2.2.2.2.2.2.2.2.2.2.2.2.2.2.2.2.2.2.2.2.2.2.2.2.1+Int.natAbs x.2.2.2.2.2.2.2.2.2.2.2.2.2.2.2.2.2.2.2.2.2.2.2.2.2.2.2.2.2.2.2.2.2.2.2.2.2.2.2.2.2.2.2.2.2.1+List.length y.1+Json.fu (⟨y.2.2.1.1,⟨y.2.2.1.2.1,y.2.2.1.2.2.1⟩,y.2.2.1.2.2.2.1,y.2.2.1.2.2.2.2.1,y.2.2.1.2.2.2.2.2.1⟩:Json)+64)
noncomputable def qq (x:bJ.au fE) (y:aF.au fF):fC:=(x.2.2.2.2.2.1,x.2.2.2.2.2.2.2.2.2.2.2.2.2.2.2.2.2.2.2.2.2.2.2.2.2.2.2.2.2.2.2.2.2.2.2.2.2.2.2.2.2.2.2.1,x.2.2.2.2.2.2.2.2.2.2.2.2.2.2.2.2.2.2.2.2.2.2.2.2.2.2.2.2.2.2.2.2.2.2.2.2.2.2.2.2.2.2.2.2.1,x.2.2.2.2.2.2.2.2.2.2.2.2.2.2.2.2.2.2.2.2.2.2.2.2.2.2.2.2.2.2.2.2.2.2.2.2.2.2.2.2.2.2.2.2.2.1,y.1,(⟨y.2.2.1.1,⟨y.2.2.1.2.1,y.2.2.1.2.2.1⟩,y.2.2.1.2.2.2.1,y.2.2.1.2.2.2.2.1,y.2.2.1.2.2.2.2.2.1⟩:Json))
noncomputable def pQ {R:Type} (L:ib R):bJ.au fE→aF.au fF→(Ex→St→Option R)→Option R:=fun x y K=>L (qp x y) x.2.2.2.2.2.1 x.2.2.2.2.2.2.2.2.2.2.2.2.2.2.2.2.2.2.2.2.2.2.2.2.2.2.2.2.2.2.2.2.2.2.2.2.2.2.2.2.2.2.2.1 x.2.2.2.2.2.2.2.2.2.2.2.2.2.2.2.2.2.2.2.2.2.2.2.2.2.2.2.2.2.2.2.2.2.2.2.2.2.2.2.2.2.2.2.2.1 x.2.2.2.2.2.2.2.2.2.2.2.2.2.2.2.2.2.2.2.2.2.2.2.2.2.2.2.2.2.2.2.2.2.2.2.2.2.2.2.2.2.2.2.2.2.1 y.1 (⟨y.2.2.1.1,⟨y.2.2.1.2.1,y.2.2.1.2.2.1⟩,y.2.2.1.2.2.2.1,y.2.2.1.2.2.2.2.1,y.2.2.1.2.2.2.2.2.1⟩:Json) (pP K)
noncomputable def oD (R:Type) (bf:ib R):Nat→Option (Hint × cd R):=fun i=>match i with
  | 18=>some (nf,(gq fE fF (pQ bf) qg))
  | _=>none

theorem BE {R:Type} (aX:eQ R) (ah:bx R) (ad:aT R) (ag:bz R) (bA:bD R) (cQ:j8 R) (aE:dv R) (bf:ib R) (K:Ex→St→Option R) (rc:St→Option R) (d:fC):roundOf tt (kS R aX ah ad ag bA cQ aE) (oD R bf) 1 ((aO (aI Tryz.f38)).getD 0 .skip) nf (lW d) rc K=qo ad bA aE K (fun d=>rc (lW d)) d:=by kernel_rfl
theorem Au {R:Type} (K:Ex→St→Option R) (n:Nat) (d:fC):iT K (n+1) d=qo ad bA aE K (iT K n) d:=by kernel_rfl
theorem Av {R:Type} (K:Ex→St→Option R) (d:fC):iT K 0 d=none:=by kernel_rfl
theorem BF (x:bJ.au fE) (y:aF.au fF):(⟨bJ.cL fE x,aF.cL fF y⟩:St)=lW (qq x y):=by kernel_rfl
theorem BG {R:Type} (x:bJ.au fE) (y:aF.au fF) (K:Ex→St→Option R):pQ (bf) x y K=iT K (qp x y) (qq x y):=by kernel_rfl
theorem CP {R:Type} (other:cd R) (ho:ph tt (kS R aX ah ad ag bA cQ aE) (oD R bf) 1 ((aO (aI Tryz.f38)).getD 0 .skip) nf other):ph tt (kS R aX ah ad ag bA cQ aE) (oD R bf) 1 ((aO (aI Tryz.f38)).getD 0 .skip) nf (gq fE fF (pQ (bf)) other) :=
  gQ (A:=iT) ho (kO lW (qo ad bA aE) (iT) (Av) (BE aX ah ad ag bA cQ aE bf) (Au)) qp qq BF (BG)

noncomputable def wN {R:Type} (aX:eQ R) (ah:bx R) (ad:aT R) (ag:bz R) (cQ:j8 R) (bf:ib R) (x1:Json) (k0:(List Int)→Option R):Option R :=
  let j32:=fun (z12:ak)=>cR (decide ((0:Int)<z12.length)) (ah ((z12.getD 0 0).toNat:Int) (fun Il=>bf (List.length z12+List.length x1.items+Int.natAbs (x1.items.length:Int)+Int.natAbs 0+List.length Il+Json.fu (⟨x1.kind,⟨x1.num.aw,x1.num.exp⟩,x1.text,x1.names,x1.items⟩:Json)+64) z12 x1.items (x1.items.length:Int) 0 Il (⟨x1.kind,⟨x1.num.aw,x1.num.exp⟩,x1.text,x1.names,x1.items⟩:Json) (fun MT Mr=>cR (decide ((1:Int)<MT.length)) (ad ((MT.getD 1 0).toNat:Int) Mr (fun OS=>k0 OS))))); bif (x1.kind==1)then (ag ([110,117,108,108]:ak) (fun y2 y3=>k0 y3))else (bif (x1.kind==2)then (ag ([102,97,108,115,101]:ak) (fun y4 y5=>k0 y5))else (bif (x1.kind==3)then (ag ([116,114,117,101]:ak) (fun y6 y7=>k0 y7))else (bif (x1.kind==4)then (aX x1.num (fun y8=>ag y8 (fun y9 B5=>k0 B5)))else (bif (x1.kind==5)then (cQ x1.text (fun B6=>k0 B6))else (bif (x1.kind==7)then (j32 ([123,125]:ak))else (j32 ([91,93]:ak)))))))
noncomputable def eR {R:Type}:nO R:=fun x1 k0=>wN aX ah ad ag cQ bf x1 k0
theorem GN {R:Type} (aX:eQ R) (ah:bx R) (ad:aT R) (ag:bz R) (bA:bD R) (cQ:j8 R) (aE:dv R) (bf:ib R) (x1:Json) (k:V→ay→Option R):iq tt (kS R aX ah ad ag bA cQ aE) (oD R bf) false Tryz.f38 (aI Tryz.f38) [.ptr 0 0, .agg [.int .i64 x1.kind, .int .i64 x1.num.aw, .int .i64 x1.num.exp, .str x1.text, .sl .str x1.names .no, .sl .json x1.items .no]] [.kq (.cw)] k =
    wN aX ah ad ag cQ bf x1 (fun q0=>k (.tuple []) [.kq (.sl (.int .u8) q0 (.own 1)), .tok]):=by kernel_rfl
theorem D7 (R:Type):∀a∈aO (aI Tryz.f38),cG tt (kS R aX ah ad ag bA cQ aE) (oD R bf) 1 a:=by
  refine bB 1 (by kernel_rfl) fun i hi => ?_
  match i,hi with
  | 0,_=>exact fT (by kernel_rfl) (CP _ jA)
  | n+1,hi=>omega
theorem EX (R:Type) (other:ax.Spec R) (ho:ax.Spec.Ok Tryz.prog 38 other):ax.Spec.Ok Tryz.prog 38 (az rI rJ (Bg eR) other) :=
  bm ho (bc TT mixed (FG R) (keep:=false) rfl rfl rfl rfl 1 (D7 R)) fun (x:bJ.au rI) (y:aF.au rJ) k=>GN aX ah ad ag bA cQ aE bf (⟨x.2.1.1,⟨x.2.1.2.1,x.2.1.2.2.1⟩,x.2.1.2.2.2.1,x.2.1.2.2.2.2.1,x.2.1.2.2.2.2.2.1⟩:Json) k

/-! ### humpyard/json.Print -/
abbrev nr (R:Type):Type:=Json→(ak→Option R)→Option R
abbrev wO:List bJ := [.agg [.int .i64, .int .i64, .int .i64, .str, .sl .str, .sl .json]]
abbrev wP:List aF := []
noncomputable def Cl {R:Type} (fn:nr R):bJ.au wO→aF.au wP→(V→ay→Option R)→Option R:=fun x y k=>fn (⟨x.1.1,⟨x.1.2.1,x.1.2.2.1⟩,x.1.2.2.2.1,x.1.2.2.2.2.1,x.1.2.2.2.2.2.1⟩:Json) (fun q0=>k (.str q0) [])
noncomputable def Aw (R:Type) (cp:jC R) (eR:nO R):Env R:=fun i=>match i with
  | 39=>some (false,(Dp R))
  | 32=>some (true,(az s5 s6 (yD cp) aZ))
  | 38=>some (false,(az rI rJ (Bg eR) aZ))
  | _=>none
theorem LO (R:Type):po Tryz.prog (Aw R cp eR):=by
  intro i b sp h
  unfold Aw at h
  split at h
  · cases h; exact ⟨(Kt),fun _ _=>Fl⟩
  · cases h; exact ⟨(zx R _ (aM _)),fun h=>nomatch h⟩
  · cases h; exact ⟨(EX R _ (aM _)),fun _ h=>nomatch h⟩
  · cases h

noncomputable def HR (R:Type):Nat→Option (Hint × cd R):=fun i=>match i with
  | _=>none

noncomputable def Ax {R:Type} (cp:jC R) (eR:nO R) (x1:Json) (k0:ak→Option R):Option R :=
  cp (⟨x1.kind,⟨x1.num.aw,x1.num.exp⟩,x1.text,x1.names,x1.items⟩:Json) (fun y2=>bif (!y2)then (k0 ([]:ak))else (eR (⟨x1.kind,⟨x1.num.aw,x1.num.exp⟩,x1.text,x1.names,x1.items⟩:Json) (fun y3=>k0 (sU y3))))
noncomputable def dt {R:Type}:nr R:=fun x1 k0=>Ax cp eR x1 k0
theorem MU {R:Type} (cp:jC R) (eR:nO R) (x1:Json) (k:V→ay→Option R):iq tt (Aw R cp eR) (HR R) false Tryz.f17 (aI Tryz.f17) [.agg [.int .i64 x1.kind, .int .i64 x1.num.aw, .int .i64 x1.num.exp, .str x1.text, .sl .str x1.names .no, .sl .json x1.items .no]] [] k =
    Ax cp eR x1 (fun q0=>k (.str q0) []):=by kernel_rfl
theorem I4 (R:Type):∀a∈aO (aI Tryz.f17),cG tt (Aw R cp eR) (HR R) 0 a:=by
  refine bB 0 (by kernel_rfl) fun i hi => ?_
  omega
theorem DS (R:Type) (other:ax.Spec R) (ho:ax.Spec.Ok Tryz.prog 17 other):ax.Spec.Ok Tryz.prog 17 (az wO wP (Cl dt) other) :=
  bm ho (bc TT mixed (LO R) (keep:=false) rfl rfl rfl rfl 0 (I4 R)) fun (x:bJ.au wO) (y:aF.au wP) k=>MU cp eR (⟨x.1.1,⟨x.1.2.1,x.1.2.2.1⟩,x.1.2.2.2.1,x.1.2.2.2.2.1,x.1.2.2.2.2.2.1⟩:Json) k

/-! ### humpyard/lexer.while -/
abbrev jF (R:Type):Type:=ak→ak→(ak→Option R)→Option R
abbrev uh:List bJ := [.leaf (.str), .leaf (.str)]
abbrev ui:List aF := []
noncomputable def Bh {R:Type} (fn:jF R):bJ.au uh→aF.au ui→(V→ay→Option R)→Option R:=fun x y k=>fn x.1 x.2.1 (fun q0=>k (.str q0) [])
noncomputable def yI (R:Type):Env R:=fun i=>match i with
  | 68=>some (true,(Hw R))
  | _=>none
theorem J6 (R:Type):po Tryz.prog (yI R):=by
  intro i b sp h
  unfold yI at h
  split at h
  · cases h; exact ⟨(Lx),fun h=>nomatch h⟩
  · cases h

noncomputable def F9 (R:Type):Nat→Option (Hint × cd R):=fun i=>match i with
  | _=>none

noncomputable def Ga {R:Type} (x1:ak) (x2:ak) (k0:ak→Option R):Option R :=
  cR (wu x2&&decide (x2.length<4294967281)) (cR (decide ((0:Int)≤(IntKind.i64.wrap ((x1.length:Int) - ((bC x1 x2).length:Int))))&&decide ((IntKind.i64.wrap ((x1.length:Int) - ((bC x1 x2).length:Int)))≤x1.length)) (cR (decide ((0:Int)≤(IntKind.i64.wrap ((x1.length:Int) - ((bC x1 x2).length:Int))))) (k0 ((x1.drop 0).take ((IntKind.i64.wrap ((x1.length:Int) - ((bC x1 x2).length:Int))).toNat - 0)))))
noncomputable def cx {R:Type}:jF R:=fun x1 x2 k0=>Ga x1 x2 k0
theorem LP {R:Type} (x1:ak) (x2:ak) (k:V→ay→Option R):iq tt (yI R) (F9 R) false Tryz.f47 (aI Tryz.f47) [.str x1, .str x2] [] k =
    Ga x1 x2 (fun q0=>k (.str q0) []):=by kernel_rfl
theorem HS (R:Type):∀a∈aO (aI Tryz.f47),cG tt (yI R) (F9 R) 0 a:=by
  refine bB 0 (by kernel_rfl) fun i hi => ?_
  omega
theorem CQ (R:Type) (other:ax.Spec R) (ho:ax.Spec.Ok Tryz.prog 47 other):ax.Spec.Ok Tryz.prog 47 (az uh ui (Bh cx) other) :=
  bm ho (bc TT mixed (J6 R) (keep:=false) rfl rfl rfl rfl 0 (HS R)) fun (x:bJ.au uh) (y:aF.au ui) k=>LP x.1 x.2.1 k

/-! ### (*humpyard/decimal.reader).sign -/
abbrev dN (R:Type):Type:=ak→ak→(Int→ak→Option R)→Option R
abbrev iA:List bJ := [.leaf (.ptr 0 0), .leaf (.str)]
abbrev iB:List aF := [.cells [.str]]
noncomputable def ng {R:Type} (fn:dN R):bJ.au iA→aF.au iB→(V→ay→Option R)→Option R:=fun x y k=>fn x.2.1 y.1.1 (fun q0 q1=>k (.int .u8 q0) [.cells [.str q1]])
noncomputable def kT (R:Type):Env R:=fun i=>match i with
  | 71=>some (true,(S7 R))
  | _=>none
theorem zy (R:Type):po Tryz.prog (kT R):=by
  intro i b sp h
  unfold kT at h
  split at h
  · cases h; exact ⟨(Xs),fun h=>nomatch h⟩
  · cases h

noncomputable def su (R:Type):Nat→Option (Hint × cd R):=fun i=>match i with
  | _=>none

noncomputable def kU {R:Type} (x1:ak) (x2:ak) (k0:Int→ak→Option R):Option R :=
  bif (x2==([]:ak))then (k0 0 x2)else (cR (decide ((0:Int)<x2.length)) (bif (decide ((Fo x1 ((x2.getD 0 0).toNat:Int))<(0:Int)))then (k0 0 x2)else (cR (decide ((0:Int)<x2.length)) (cR (decide ((0:Int)≤(x2.length:Int))&&decide ((x2.length:Int)≤x2.length)) (cR (decide ((1:Int)≤(x2.length:Int))) (k0 ((x2.getD 0 0).toNat:Int) ((x2.drop 1).take ((x2.length:Int).toNat - 1))))))))
noncomputable def aP {R:Type}:dN R:=fun x1 x2 k0=>kU x1 x2 k0
theorem Ay {R:Type} (x1:ak) (x2:ak) (k:V→ay→Option R):iq tt (kT R) (su R) false Tryz.f101 (aI Tryz.f101) [.ptr 0 0, .str x1] [.cells [.str x2]] k =
    kU x1 x2 (fun q0 q1=>k (.int .u8 q0) [.cells [.str q1]]):=by kernel_rfl
theorem ya (R:Type):∀a∈aO (aI Tryz.f101),cG tt (kT R) (su R) 1 a:=by
  refine bB 0 (by kernel_rfl) fun i hi => ?_
  omega
theorem p9 (R:Type) (other:ax.Spec R) (ho:ax.Spec.Ok Tryz.prog 101 other):ax.Spec.Ok Tryz.prog 101 (az iA iB (ng aP) other) :=
  bm ho (bc TT mixed (zy R) (keep:=false) rfl rfl rfl rfl 1 (ya R)) fun (x:bJ.au iA) (y:aF.au iB) k=>Ay x.2.1 y.1.1 k

/-! ### (*humpyard/decimal.reader).digits -/
abbrev dA (R:Type):Type:=ak→(ak→ak→Option R)→Option R
abbrev gC:List bJ := [.leaf (.ptr 0 0)]
abbrev gD:List aF := [.cells [.str]]
noncomputable def mv {R:Type} (fn:dA R):bJ.au gC→aF.au gD→(V→ay→Option R)→Option R:=fun x y k=>fn y.1.1 (fun q0 q1=>k (.str q0) [.cells [.str q1]])
noncomputable def jP (R:Type):Env R:=fun i=>match i with
  | 68=>some (true,(Hw R))
  | _=>none
theorem yb (R:Type):po Tryz.prog (jP R):=by
  intro i b sp h
  unfold jP at h
  split at h
  · cases h; exact ⟨(Lx),fun h=>nomatch h⟩
  · cases h

noncomputable def qH (R:Type):Nat→Option (Hint × cd R):=fun i=>match i with
  | _=>none

noncomputable def jQ {R:Type} (x1:ak) (k0:ak→ak→Option R):Option R :=
  cR (wu ([48,49,50,51,52,53,54,55,56,57]:ak)&&decide (([48,49,50,51,52,53,54,55,56,57]:ak).length<4294967281)) (cR (decide ((0:Int)≤(IntKind.i64.wrap ((x1.length:Int) - ((bC x1 ([48,49,50,51,52,53,54,55,56,57]:ak)).length:Int))))&&decide ((IntKind.i64.wrap ((x1.length:Int) - ((bC x1 ([48,49,50,51,52,53,54,55,56,57]:ak)).length:Int)))≤x1.length)) (cR (decide ((0:Int)≤(IntKind.i64.wrap ((x1.length:Int) - ((bC x1 ([48,49,50,51,52,53,54,55,56,57]:ak)).length:Int))))) (k0 ((x1.drop 0).take ((IntKind.i64.wrap ((x1.length:Int) - ((bC x1 ([48,49,50,51,52,53,54,55,56,57]:ak)).length:Int))).toNat - 0)) (bC x1 ([48,49,50,51,52,53,54,55,56,57]:ak)))))
noncomputable def aL {R:Type}:dA R:=fun x1 k0=>jQ x1 k0
theorem yX {R:Type} (x1:ak) (k:V→ay→Option R):iq tt (jP R) (qH R) false Tryz.f102 (aI Tryz.f102) [.ptr 0 0] [.cells [.str x1]] k =
    jQ x1 (fun q0 q1=>k (.str q0) [.cells [.str q1]]):=by kernel_rfl
theorem wQ (R:Type):∀a∈aO (aI Tryz.f102),cG tt (jP R) (qH R) 1 a:=by
  refine bB 0 (by kernel_rfl) fun i hi => ?_
  omega
theorem o8 (R:Type) (other:ax.Spec R) (ho:ax.Spec.Ok Tryz.prog 102 other):ax.Spec.Ok Tryz.prog 102 (az gC gD (mv aL) other) :=
  bm ho (bc TT mixed (yb R) (keep:=false) rfl rfl rfl rfl 1 (wQ R)) fun (x:bJ.au gC) (y:aF.au gD) k=>yX y.1.1 k

end Go.Proofs.YtmlkkgfenfdndaaGreatDoor

/-
  Functions of the program as pure Lean functions, and the ties; printed by wip/tools/emit.py.
-/
set_option maxRecDepth 100000
namespace Go.Proofs.YtmlkkgfenfdndaaGreatDoor
open Go Go.ax

/-! ### (*humpyard/decimal.reader).exponent -/
abbrev fN (R:Type):Type:=ak→(Int→Bool→ak→Option R)→Option R
abbrev iU:List bJ := [.leaf (.ptr 0 0)]
abbrev iV:List aF := [.cells [.str]]
noncomputable def o9 {R:Type} (fn:fN R):bJ.au iU→aF.au iV→(V→ay→Option R)→Option R:=fun x y k=>fn y.1.1 (fun q0 q1 q2=>k (.tuple [.int .i64 q0, .bool q1]) [.cells [.str q2]])
noncomputable def iW (R:Type) (aP:dN R) (aL:dA R):Env R:=fun i=>match i with
  | 101=>some (false,(az iA iB (ng aP) aZ))
  | 102=>some (false,(az gC gD (mv aL) aZ))
  | 105=>some (true,(OO R))
  | _=>none
theorem wR (R:Type):po Tryz.prog (iW R aP aL):=by
  intro i b sp h
  unfold iW at h
  split at h
  · cases h; exact ⟨(p9 R _ (aM _)),fun _ h=>nomatch h⟩
  · cases h; exact ⟨(o8 R _ (aM _)),fun _ h=>nomatch h⟩
  · cases h; exact ⟨(S8),fun h=>nomatch h⟩
  · cases h

noncomputable def pR (R:Type):Nat→Option (Hint × cd R):=fun i=>match i with
  | _=>none

noncomputable def iX {R:Type} (aP:dN R) (aL:dA R) (x1:ak) (k0:Int→Bool→ak→Option R):Option R :=
  aP ([43,45]:ak) x1 (fun y2 y3=>aL y3 (fun y4 y5=>cR (decide (y4.length≤281474976710656)) (bif sj y4 then (bif (decide ((dZ y4)>(1000000:Int)))then (bif (y2==45)then (k0 (-1000000) (!(y4==([]:ak))) y5)else (k0 1000000 (!(y4==([]:ak))) y5))else (bif (y2==45)then (k0 (IntKind.i64.wrap (0 - (dZ y4))) (!(y4==([]:ak))) y5)else (k0 (dZ y4) (!(y4==([]:ak))) y5)))else (bif (!(y4==([]:ak)))then (bif (y2==45)then (k0 (-1000000) (!(y4==([]:ak))) y5)else (k0 1000000 (!(y4==([]:ak))) y5))else (bif (decide ((dZ y4)>(1000000:Int)))then (bif (y2==45)then (k0 (-1000000) (!(y4==([]:ak))) y5)else (k0 1000000 (!(y4==([]:ak))) y5))else (bif (y2==45)then (k0 (IntKind.i64.wrap (0 - (dZ y4))) (!(y4==([]:ak))) y5)else (k0 (dZ y4) (!(y4==([]:ak))) y5)))))))
noncomputable def bg {R:Type}:fN R:=fun x1 k0=>iX aP aL x1 k0
theorem xn {R:Type} (aP:dN R) (aL:dA R) (x1:ak) (k:V→ay→Option R):iq tt (iW R aP aL) (pR R) false Tryz.f103 (aI Tryz.f103) [.ptr 0 0] [.cells [.str x1]] k =
    iX aP aL x1 (fun q0 q1 q2=>k (.tuple [.int .i64 q0, .bool q1]) [.cells [.str q2]]):=by kernel_rfl
theorem vj (R:Type):∀a∈aO (aI Tryz.f103),cG tt (iW R aP aL) (pR R) 1 a:=by
  refine bB 0 (by kernel_rfl) fun i hi => ?_
  omega
theorem vW (R:Type) (other:ax.Spec R) (ho:ax.Spec.Ok Tryz.prog 103 other):ax.Spec.Ok Tryz.prog 103 (az iU iV (o9 bg) other) :=
  bm ho (bc TT mixed (wR R) (keep:=false) rfl rfl rfl rfl 1 (vj R)) fun (x:bJ.au iU) (y:aF.au iV) k=>xn aP aL y.1.1 k

/-! ### humpyard/decimal.Make -/
abbrev qI (R:Type):Type:=Int→Int→(iH→Bool→Option R)→Option R
abbrev wS:List bJ := [.leaf (.int .i64), .leaf (.int .i64)]
abbrev wT:List aF := []
noncomputable def DT {R:Type} (fn:qI R):bJ.au wS→aF.au wT→(V→ay→Option R)→Option R:=fun x y k=>fn x.1 x.2.1 (fun q0 q1=>k (.tuple [.agg [.int .i64 q0.aw, .int .i64 q0.exp], .bool q1]) [])
abbrev lj (R:Type):Type:=Nat→Int→Int→iH→(Int→Int→iH→Option R)→Option R
noncomputable def nP (R:Type) (aU:eX R):Env R:=fun i=>match i with
  | 91=>some (true,(az mq mr (qZ aU) aZ))
  | _=>none
theorem I5 (R:Type):po Tryz.prog (nP R aU):=by
  intro i b sp h
  unfold nP at h
  split at h
  · cases h; exact ⟨(vG R _ (aM _)),fun h=>nomatch h⟩
  · cases h

noncomputable def lO {R:Type} (gm:Int→Int→iH→Option R) (x3:Int) (x4:Int) (x5:iH) (e0:Int→Int→iH→Option R):Option R :=
  bif ((Int.tmod x3 10)==0)then (gm (IntKind.i64.wrap (Int.tdiv x3 10)) (IntKind.i64.wrap (x4+1)) x5)else (e0 x3 x4 x5)
noncomputable def bt {R:Type}:lj R
  | 0,_,_,_,_=>none
  | n+1,mQ,mR,nI,e0=>lO (fun mQ mR nI=>bt n mQ mR nI e0) mQ mR nI e0
noncomputable def qs:Hint := { live := [0,1,4],own := [],rows := [],cells := [],drop := [],out := [0,1,4,5] }
abbrev iC:Type:=Int × Int × iH
noncomputable def oE:iC→St:=fun d=>⟨[.int .i64 d.1, .int .i64 d.2.1, .undef, .undef, .ptr 0 0, .undef, .undef, .undef, .undef, .undef, .undef, .undef, .undef, .undef, .undef, .undef, .undef, .undef, .undef, .undef, .undef, .undef, .undef, .undef, .undef, .undef, .undef, .undef, .undef, .undef], [.cells [.int .i64 d.2.2.aw, .int .i64 d.2.2.exp]]⟩
noncomputable def tJ {R:Type} (K:Ex→St→Option R) (q0:Int) (q1:Int) (q2:iH):Option R:=K (.exit 0) ⟨[.int .i64 q0, .int .i64 q1, .undef, .undef, .ptr 0 0, .undef, .undef, .undef, .undef, .undef, .undef, .undef, .undef, .undef, .undef, .undef, .undef, .undef, .undef, .undef, .undef, .undef, .undef, .undef, .undef, .undef, .undef, .undef, .undef, .undef], [.cells [.int .i64 q2.aw, .int .i64 q2.exp]]⟩
noncomputable def vk {R:Type} (K:Ex→St→Option R) (rc:iC→Option R) (d:iC):Option R:=lO (fun z0 z1 z2=>rc (z0,z1,z2)) d.1 d.2.1 d.2.2 (tJ K)
noncomputable def lP {R:Type} (K:Ex→St→Option R) (n:Nat) (d:iC):Option R:=bt n d.1 d.2.1 d.2.2 (tJ K)
abbrev iE:List bJ := [.leaf (.int .i64), .leaf (.int .i64), .leaf (.undef), .leaf (.undef), .leaf (.ptr 0 0), .leaf (.undef), .leaf (.undef), .leaf (.undef), .leaf (.undef), .leaf (.undef), .leaf (.undef), .leaf (.undef), .leaf (.undef), .leaf (.undef), .leaf (.undef), .leaf (.undef), .leaf (.undef), .leaf (.undef), .leaf (.undef), .leaf (.undef), .leaf (.undef), .leaf (.undef), .leaf (.undef), .leaf (.undef), .leaf (.undef), .leaf (.undef), .leaf (.undef), .leaf (.undef), .leaf (.undef), .leaf (.undef)]
abbrev iF:List aF := [.cells [.int .i64, .int .i64]]
noncomputable def vl (x:bJ.au iE) (y:aF.au iF):Nat:=(Int.natAbs x.1+Int.natAbs x.2.1+iH.fu (⟨y.1.1,y.1.2.1⟩:iH)+64)
noncomputable def vm (x:bJ.au iE) (y:aF.au iF):iC:=(x.1,x.2.1,(⟨y.1.1,y.1.2.1⟩:iH))
noncomputable def tK {R:Type} (L:lj R):bJ.au iE→aF.au iF→(Ex→St→Option R)→Option R:=fun x y K=>L (vl x y) x.1 x.2.1 (⟨y.1.1,y.1.2.1⟩:iH) (tJ K)
noncomputable def sv (R:Type) (bt:lj R):Nat→Option (Hint × cd R):=fun i=>match i with
  | 4=>some (qs,(gq iE iF (tK bt) qg))
  | _=>none

theorem D8 {R:Type} (aU:eX R) (bt:lj R) (K:Ex→St→Option R) (rc:St→Option R) (d:iC):roundOf tt (nP R aU) (sv R bt) 0 ((aO (aI Tryz.f106)).getD 0 .skip) qs (oE d) rc K=vk K (fun d=>rc (oE d)) d:=by kernel_rfl
theorem CR {R:Type} (K:Ex→St→Option R) (n:Nat) (d:iC):lP K (n+1) d=vk K (lP K n) d:=by kernel_rfl
theorem CS {R:Type} (K:Ex→St→Option R) (d:iC):lP K 0 d=none:=by kernel_rfl
theorem D9 (x:bJ.au iE) (y:aF.au iF):(⟨bJ.cL iE x,aF.cL iF y⟩:St)=oE (vm x y):=by kernel_rfl
theorem Ea {R:Type} (x:bJ.au iE) (y:aF.au iF) (K:Ex→St→Option R):tK (bt) x y K=lP K (vl x y) (vm x y):=by kernel_rfl
theorem FH {R:Type} (other:cd R) (ho:ph tt (nP R aU) (sv R bt) 0 ((aO (aI Tryz.f106)).getD 0 .skip) qs other):ph tt (nP R aU) (sv R bt) 0 ((aO (aI Tryz.f106)).getD 0 .skip) qs (gq iE iF (tK (bt)) other) :=
  gQ (A:=lP) ho (kO oE (vk) (lP) (CS) (D8 aU bt) (CR)) vl vm D9 (Ea)

noncomputable def nQ {R:Type} (aU:eX R) (bt:lj R) (x1:Int) (x2:Int) (k0:iH→Bool→Option R):Option R :=
  bif (x1==0)then (k0 (⟨0,0⟩:iH) true)else (bt (Int.natAbs x1+Int.natAbs (min x2 1000000)+iH.fu (⟨0,0⟩:iH)+64) x1 (min x2 1000000) (⟨0,0⟩:iH) (fun y6 y7 y8=>aU (-1000000000000000) y6 1000000000000000 (fun y9=>bif (!y9)then (k0 (⟨0,0⟩:iH) false)else (aU (-9) y7 9 (fun B5=>bif (!B5)then (k0 (⟨0,0⟩:iH) false)else (k0 (⟨y6,y7⟩:iH) true))))))
noncomputable def bG {R:Type}:qI R:=fun x1 x2 k0=>nQ aU bt x1 x2 k0
theorem J7 {R:Type} (aU:eX R) (bt:lj R) (x1:Int) (x2:Int) (k:V→ay→Option R):iq tt (nP R aU) (sv R bt) false Tryz.f106 (aI Tryz.f106) [.int .i64 x1, .int .i64 x2] [] k =
    nQ aU bt x1 x2 (fun q0 q1=>k (.tuple [.agg [.int .i64 q0.aw, .int .i64 q0.exp], .bool q1]) []):=by kernel_rfl
theorem GO (R:Type):∀a∈aO (aI Tryz.f106),cG tt (nP R aU) (sv R bt) 0 a:=by
  refine bB 1 (by kernel_rfl) fun i hi => ?_
  match i,hi with
  | 0,_=>exact fT (by kernel_rfl) (FH _ jA)
  | n+1,hi=>omega
theorem HT (R:Type) (other:ax.Spec R) (ho:ax.Spec.Ok Tryz.prog 106 other):ax.Spec.Ok Tryz.prog 106 (az wS wT (DT bG) other) :=
  bm ho (bc TT mixed (I5 R) (keep:=false) rfl rfl rfl rfl 0 (GO R)) fun (x:bJ.au wS) (y:aF.au wT) k=>J7 aU bt x.1 x.2.1 k

/-! ### humpyard/decimal.Parse -/
abbrev pS (R:Type):Type:=ak→(iH→Bool→Option R)→Option R
abbrev uQ:List bJ := [.leaf (.str)]
abbrev uR:List aF := []
noncomputable def CT {R:Type} (fn:pS R):bJ.au uQ→aF.au uR→(V→ay→Option R)→Option R:=fun x y k=>fn x.1 (fun q0 q1=>k (.tuple [.agg [.int .i64 q0.aw, .int .i64 q0.exp], .bool q1]) [])
noncomputable def uS (R:Type) (bG:qI R) (aP:dN R) (aL:dA R) (bg:fN R):Env R:=fun i=>match i with
  | 106=>some (true,(az wS wT (DT bG) aZ))
  | 101=>some (false,(az iA iB (ng aP) aZ))
  | 102=>some (false,(az gC gD (mv aL) aZ))
  | 103=>some (false,(az iU iV (o9 bg) aZ))
  | 68=>some (true,(Hw R))
  | 104=>some (true,(ON R))
  | 105=>some (true,(OO R))
  | _=>none
theorem HU (R:Type):po Tryz.prog (uS R bG aP aL bg):=by
  intro i b sp h
  unfold uS at h
  split at h
  · cases h; exact ⟨(HT R _ (aM _)),fun h=>nomatch h⟩
  · cases h; exact ⟨(p9 R _ (aM _)),fun _ h=>nomatch h⟩
  · cases h; exact ⟨(o8 R _ (aM _)),fun _ h=>nomatch h⟩
  · cases h; exact ⟨(vW R _ (aM _)),fun _ h=>nomatch h⟩
  · cases h; exact ⟨(Lx),fun h=>nomatch h⟩
  · cases h; exact ⟨(Xr),fun h=>nomatch h⟩
  · cases h; exact ⟨(S8),fun h=>nomatch h⟩
  · cases h

noncomputable def DU (R:Type):Nat→Option (Hint × cd R):=fun i=>match i with
  | _=>none

noncomputable def oo {R:Type} (bG:qI R) (aP:dN R) (aL:dA R) (bg:fN R) (x1:ak) (k0:iH→Bool→Option R):Option R :=
  aP ([45]:ak) x1 (fun y2 y3=>aL y3 (fun y4 y5=>let j32:=let j31:=fun (vn:ak) (z12:Int) (Qp:ak)=>let j30:=fun (Pg:Int) (z20:ak)=>cR (wu ([48]:ak)&&decide (([48]:ak).length<4294967281)) (cR (wu ([48]:ak)&&decide (([48]:ak).length<4294967281)) (bif (!(z20==([]:ak)))then (k0 (⟨0,0⟩:iH) false)else (bif (decide (((cM (bC vn ([48]:ak)) ([48]:ak)).length:Int)>(18:Int)))then (k0 (⟨0,0⟩:iH) false)else (let j29:=bif (y2 != 0)then (bG (IntKind.i64.wrap (0 - (dZ (([48]:ak)++(cM (bC vn ([48]:ak)) ([48]:ak)))))) (IntKind.i64.wrap (Pg+(IntKind.i64.wrap (((bC vn ([48]:ak)).length:Int) - ((cM (bC vn ([48]:ak)) ([48]:ak)).length:Int))))) (fun JH JI=>k0 JH JI))else (bG (dZ (([48]:ak)++(cM (bC vn ([48]:ak)) ([48]:ak)))) (IntKind.i64.wrap (Pg+(IntKind.i64.wrap (((bC vn ([48]:ak)).length:Int) - ((cM (bC vn ([48]:ak)) ([48]:ak)).length:Int))))) (fun I3 Im=>k0 I3 Im)); cR (decide (1+(cM (bC vn ([48]:ak)) ([48]:ak)).length≤9223372036854775807)) (cR (decide ((([48]:ak)++(cM (bC vn ([48]:ak)) ([48]:ak))).length≤281474976710656)) (bif sj (([48]:ak)++(cM (bC vn ([48]:ak)) ([48]:ak)))then (j29)else (j29))))))); aP ([101,69]:ak) Qp (fun GK JG=>bif (GK != 0)then (bg JG (fun MR QY Mq=>bif (!QY)then (k0 (⟨0,0⟩:iH) false)else (j30 (IntKind.i64.wrap (z12+MR)) Mq)))else (j30 z12 JG)); aP ([46]:ak) y5 (fun y7 y8=>bif (y7 != 0)then (aL y8 (fun y9 B5=>bif (y9==([]:ak))then (k0 (⟨0,0⟩:iH) false)else (cR (decide (y4.length+y9.length≤9223372036854775807)) (j31 (y4++y9) (IntKind.i64.wrap (0 - (y9.length:Int))) B5))))else (j31 y4 0 y8)); bif (decide ((x1.length:Int)>(400:Int)))then (k0 (⟨0,0⟩:iH) false)else (bif (y4==([]:ak))then (k0 (⟨0,0⟩:iH) false)else (bif (decide ((y4.length:Int)>(1:Int)))then (cR (decide ((0:Int)<y4.length)) (bif (((y4.getD 0 0).toNat:Int)==48)then (k0 (⟨0,0⟩:iH) false)else (j32)))else (j32)))))
noncomputable def dL {R:Type}:pS R:=fun x1 k0=>oo bG aP aL bg x1 k0
theorem I6 {R:Type} (bG:qI R) (aP:dN R) (aL:dA R) (bg:fN R) (x1:ak) (k:V→ay→Option R):iq tt (uS R bG aP aL bg) (DU R) false Tryz.f69 (aI Tryz.f69) [.str x1] [] k =
    oo bG aP aL bg x1 (fun q0 q1=>k (.tuple [.agg [.int .i64 q0.aw, .int .i64 q0.exp], .bool q1]) []):=by kernel_rfl
theorem FI (R:Type):∀a∈aO (aI Tryz.f69),cG tt (uS R bG aP aL bg) (DU R) 0 a:=by
  refine bB 0 (by kernel_rfl) fun i hi => ?_
  omega
theorem GP (R:Type) (other:ax.Spec R) (ho:ax.Spec.Ok Tryz.prog 69 other):ax.Spec.Ok Tryz.prog 69 (az uQ uR (CT dL) other) :=
  bm ho (bc TT mixed (HU R) (keep:=false) rfl rfl rfl rfl 0 (FI R)) fun (x:bJ.au uQ) (y:aF.au uR) k=>I6 bG aP aL bg x.1 k

/-! ### internal/stringslite.HasPrefix -/
abbrev fb (R:Type):Type:=ak→ak→(Bool→Option R)→Option R
abbrev hG:List bJ := [.leaf (.str), .leaf (.str)]
abbrev hH:List aF := []
noncomputable def n0 {R:Type} (fn:fb R):bJ.au hG→aF.au hH→(V→ay→Option R)→Option R:=fun x y k=>fn x.1 x.2.1 (fun q0=>k (.bool q0) [])
noncomputable def hJ (R:Type):Env R:=fun i=>match i with
  | _=>none
theorem vo (R:Type):po Tryz.prog (hJ R):=by
  intro i b sp h
  unfold hJ at h
  split at h
  · cases h

noncomputable def oF (R:Type):Nat→Option (Hint × cd R):=fun i=>match i with
  | _=>none

noncomputable def oG {R:Type} (x1:ak) (x2:ak) (k0:Bool→Option R):Option R :=
  bif (decide ((x1.length:Int)≥(x2.length:Int)))then (cR (decide ((0:Int)≤(x2.length:Int))&&decide ((x2.length:Int)≤x1.length)) (cR (decide ((0:Int)≤(x2.length:Int))) (k0 (((x1.drop 0).take ((x2.length:Int).toNat - 0))==x2))))else (k0 false)
noncomputable def bU {R:Type}:fb R:=fun x1 x2 k0=>oG x1 x2 k0
theorem vX {R:Type} (x1:ak) (x2:ak) (k:V→ay→Option R):iq tt (hJ R) (oF R) false Tryz.f127 (aI Tryz.f127) [.str x1, .str x2] [] k =
    oG x1 x2 (fun q0=>k (.bool q0) []):=by kernel_rfl
theorem tL (R:Type):∀a∈aO (aI Tryz.f127),cG tt (hJ R) (oF R) 0 a:=by
  refine bB 0 (by kernel_rfl) fun i hi => ?_
  omega
theorem uj (R:Type) (other:ax.Spec R) (ho:ax.Spec.Ok Tryz.prog 127 other):ax.Spec.Ok Tryz.prog 127 (az hG hH (n0 bU) other) :=
  bm ho (bc TT mixed (vo R) (keep:=false) rfl rfl rfl rfl 0 (tL R)) fun (x:bJ.au hG) (y:aF.au hH) k=>vX x.1 x.2.1 k

/-! ### internal/stringslite.CutPrefix -/
abbrev fc (R:Type):Type:=ak→ak→(ak→Bool→Option R)→Option R
abbrev hM:List bJ := [.leaf (.str), .leaf (.str)]
abbrev hP:List aF := []
noncomputable def n5 {R:Type} (fn:fc R):bJ.au hM→aF.au hP→(V→ay→Option R)→Option R:=fun x y k=>fn x.1 x.2.1 (fun q0 q1=>k (.tuple [.str q0, .bool q1]) [])
noncomputable def hQ (R:Type) (bU:fb R):Env R:=fun i=>match i with
  | 127=>some (true,(az hG hH (n0 bU) aZ))
  | _=>none
theorem vp (R:Type):po Tryz.prog (hQ R bU):=by
  intro i b sp h
  unfold hQ at h
  split at h
  · cases h; exact ⟨(uj R _ (aM _)),fun h=>nomatch h⟩
  · cases h

noncomputable def oH (R:Type):Nat→Option (Hint × cd R):=fun i=>match i with
  | _=>none

noncomputable def oI {R:Type} (bU:fb R) (x1:ak) (x2:ak) (k0:ak→Bool→Option R):Option R :=
  bU x1 x2 (fun y3=>bif (!y3)then (k0 x1 false)else (cR (decide ((0:Int)≤(x1.length:Int))&&decide ((x1.length:Int)≤x1.length)) (cR (decide ((0:Int)≤(x2.length:Int))&&decide ((x2.length:Int)≤(x1.length:Int))) (k0 ((x1.drop (x2.length:Int).toNat).take ((x1.length:Int).toNat - (x2.length:Int).toNat)) true))))
noncomputable def bV {R:Type}:fc R:=fun x1 x2 k0=>oI bU x1 x2 k0
theorem vY {R:Type} (bU:fb R) (x1:ak) (x2:ak) (k:V→ay→Option R):iq tt (hQ R bU) (oH R) false Tryz.f156 (aI Tryz.f156) [.str x1, .str x2] [] k =
    oI bU x1 x2 (fun q0 q1=>k (.tuple [.str q0, .bool q1]) []):=by kernel_rfl
theorem tM (R:Type):∀a∈aO (aI Tryz.f156),cG tt (hQ R bU) (oH R) 0 a:=by
  refine bB 0 (by kernel_rfl) fun i hi => ?_
  omega
theorem uk (R:Type) (other:ax.Spec R) (ho:ax.Spec.Ok Tryz.prog 156 other):ax.Spec.Ok Tryz.prog 156 (az hM hP (n5 bV) other) :=
  bm ho (bc TT mixed (vp R) (keep:=false) rfl rfl rfl rfl 0 (tM R)) fun (x:bJ.au hM) (y:aF.au hP) k=>vY bU x.1 x.2.1 k

/-! ### strings.CutPrefix -/
abbrev mw (R:Type):Type:=ak→ak→(ak→Bool→Option R)→Option R
abbrev pF:List bJ := [.leaf (.str), .leaf (.str)]
abbrev pG:List aF := []
noncomputable def yY {R:Type} (fn:mw R):bJ.au pF→aF.au pG→(V→ay→Option R)→Option R:=fun x y k=>fn x.1 x.2.1 (fun q0 q1=>k (.tuple [.str q0, .bool q1]) [])
noncomputable def pH (R:Type) (bV:fc R):Env R:=fun i=>match i with
  | 156=>some (true,(az hM hP (n5 bV) aZ))
  | _=>none
theorem Eb (R:Type):po Tryz.prog (pH R bV):=by
  intro i b sp h
  unfold pH at h
  split at h
  · cases h; exact ⟨(uk R _ (aM _)),fun h=>nomatch h⟩
  · cases h

noncomputable def zU (R:Type):Nat→Option (Hint × cd R):=fun i=>match i with
  | _=>none

noncomputable def zV {R:Type} (bV:fc R) (x1:ak) (x2:ak) (k0:ak→Bool→Option R):Option R :=
  bV x1 x2 (fun y3 y4=>k0 y3 y4)
noncomputable def eS {R:Type}:mw R:=fun x1 x2 k0=>zV bV x1 x2 k0
theorem EY {R:Type} (bV:fc R) (x1:ak) (x2:ak) (k:V→ay→Option R):iq tt (pH R bV) (zU R) false Tryz.f137 (aI Tryz.f137) [.str x1, .str x2] [] k =
    zV bV x1 x2 (fun q0 q1=>k (.tuple [.str q0, .bool q1]) []):=by kernel_rfl
theorem CU (R:Type):∀a∈aO (aI Tryz.f137),cG tt (pH R bV) (zU R) 0 a:=by
  refine bB 0 (by kernel_rfl) fun i hi => ?_
  omega
theorem DA (R:Type) (other:ax.Spec R) (ho:ax.Spec.Ok Tryz.prog 137 other):ax.Spec.Ok Tryz.prog 137 (az pF pG (yY eS) other) :=
  bm ho (bc TT mixed (Eb R) (keep:=false) rfl rfl rfl rfl 0 (CU R)) fun (x:bJ.au pF) (y:aF.au pG) k=>EY bV x.1 x.2.1 k

/-! ### (*humpyard/quote.reader).skip -/
abbrev cY (R:Type):Type:=ak→ak→(Bool→ak→Option R)→Option R
abbrev jG:List bJ := [.leaf (.ptr 0 0), .leaf (.str)]
abbrev jH:List aF := [.cells [.str]]
noncomputable def oa {R:Type} (fn:cY R):bJ.au jG→aF.au jH→(V→ay→Option R)→Option R:=fun x y k=>fn x.2.1 y.1.1 (fun q0 q1=>k (.bool q0) [.cells [.str q1]])
noncomputable def lX (R:Type) (eS:mw R):Env R:=fun i=>match i with
  | 137=>some (true,(az pF pG (yY eS) aZ))
  | _=>none
theorem Bi (R:Type):po Tryz.prog (lX R eS):=by
  intro i b sp h
  unfold lX at h
  split at h
  · cases h; exact ⟨(DA R _ (aM _)),fun h=>nomatch h⟩
  · cases h

noncomputable def um (R:Type):Nat→Option (Hint × cd R):=fun i=>match i with
  | _=>none

noncomputable def uo {R:Type} (eS:mw R) (x1:ak) (x2:ak) (k0:Bool→ak→Option R):Option R :=
  eS x2 x1 (fun y3 y4=>k0 y4 y3)
noncomputable def aJ {R:Type}:cY R:=fun x1 x2 k0=>uo eS x1 x2 k0
theorem BH {R:Type} (eS:mw R) (x1:ak) (x2:ak) (k:V→ay→Option R):iq tt (lX R eS) (um R) false Tryz.f107 (aI Tryz.f107) [.ptr 0 0, .str x1] [.cells [.str x2]] k =
    uo eS x1 x2 (fun q0 q1=>k (.bool q0) [.cells [.str q1]]):=by kernel_rfl
theorem zz (R:Type):∀a∈aO (aI Tryz.f107),cG tt (lX R eS) (um R) 1 a:=by
  refine bB 0 (by kernel_rfl) fun i hi => ?_
  omega
theorem rK (R:Type) (other:ax.Spec R) (ho:ax.Spec.Ok Tryz.prog 107 other):ax.Spec.Ok Tryz.prog 107 (az jG jH (oa aJ) other) :=
  bm ho (bc TT mixed (Bi R) (keep:=false) rfl rfl rfl rfl 1 (zz R)) fun (x:bJ.au jG) (y:aF.au jH) k=>BH eS x.2.1 y.1.1 k

/-! ### internal/strconv.lower -/
abbrev cf (R:Type):Type:=Int→(Int→Option R)→Option R
abbrev jI:List bJ := [.leaf (.int .u8)]
abbrev jJ:List aF := []
noncomputable def oc {R:Type} (fn:cf R):bJ.au jI→aF.au jJ→(V→ay→Option R)→Option R:=fun x y k=>fn x.1 (fun q0=>k (.int .u8 q0) [])
noncomputable def lY (R:Type):Env R:=fun i=>match i with
  | _=>none
theorem Bj (R:Type):po Tryz.prog (lY R):=by
  intro i b sp h
  unfold lY at h
  split at h
  · cases h

noncomputable def ur (R:Type):Nat→Option (Hint × cd R):=fun i=>match i with
  | _=>none

noncomputable def uu {R:Type} (x1:Int) (k0:Int→Option R):Option R :=
  k0 (IntKind.u8.wrap ((BitVec.ofInt IntKind.u8.bits x1 ||| BitVec.ofInt IntKind.u8.bits 32).toNat:Int))
noncomputable def internal_strconv_lower {R:Type}:cf R:=fun x1 k0=>uu x1 k0
theorem BI {R:Type} (x1:Int) (k:V→ay→Option R):iq tt (lY R) (ur R) false Tryz.f176 (aI Tryz.f176) [.int .u8 x1] [] k =
    uu x1 (fun q0=>k (.int .u8 q0) []):=by kernel_rfl
theorem zA (R:Type):∀a∈aO (aI Tryz.f176),cG tt (lY R) (ur R) 0 a:=by
  refine bB 0 (by kernel_rfl) fun i hi => ?_
  omega
theorem rM (R:Type) (other:ax.Spec R) (ho:ax.Spec.Ok Tryz.prog 176 other):ax.Spec.Ok Tryz.prog 176 (az jI jJ (oc internal_strconv_lower) other) :=
  bm ho (bc TT mixed (Bj R) (keep:=false) rfl rfl rfl rfl 0 (zA R)) fun (x:bJ.au jI) (y:aF.au jJ) k=>BI x.1 k

end Go.Proofs.YtmlkkgfenfdndaaGreatDoor

set_option maxRecDepth 100000
namespace Go.Proofs.YtmlkkgfenfdndaaGreatDoor
open Go Go.ax

theorem Xv {R:Type} (c n:Int) (hc:CK c) (h0:0<n) (hn:n≤9223372036854775807):∃r:Int,0≤r∧r<n∧∀k:Int→Option R,fX c n k=k r:=LD c n hc h0 hn

theorem LQ:∀(b:Nat) (m:Int),m≠0→m.natAbs<b→∃(j:Nat) (u:Int),m=u*10 ^ j∧Int.tmod u 10≠0
  | 0,m,_,h=>by omega
  | b+1,m,h0,hb=>by
    by_cases h:Int.tmod m 10=0
    · have hd:m=Int.tdiv m 10*10:=by have:=Int.tmod_add_mul_tdiv m 10; omega
      have hn:(Int.tdiv m 10).natAbs<m.natAbs:=by rw[Int.natAbs_tdiv]; show m.natAbs / 10<m.natAbs; omega
      obtain ⟨j,u,e,hu⟩:=LQ b (Int.tdiv m 10) (by omega) (by omega)
      refine ⟨j+1,u,?_,hu⟩
      rw[Int.pow_succ,←Int.mul_assoc,←e]
      exact hd
    · exact ⟨0,m,by simp,h⟩

theorem NG:∀(i j:Nat) (u v:Int),Int.tmod u 10≠0→Int.tmod v 10≠0→u*10 ^ i=v*10 ^ j→i=j∧u=v
  | 0,0,u,v,_,_,h=>⟨rfl,by simpa using h⟩
  | 0,j+1,u,v,hu,_,h=>by
    exfalso
    apply hu
    have:u=(v*10 ^ j)*10:=by rw[Int.pow_succ,←Int.mul_assoc]at h; simpa using h
    rw[this]
    exact Int.mul_tmod_left _ _
  | i+1,0,u,v,_,hv,h=>by
    exfalso
    apply hv
    have:v=(u*10 ^ i)*10:=by rw[Int.pow_succ,←Int.mul_assoc]at h; simpa using h.symm
    rw[this]
    exact Int.mul_tmod_left _ _
  | i+1,j+1,u,v,hu,hv,h=>by
    have h2:u*10 ^ i=v*10 ^ j:=by
      rw[Int.pow_succ,Int.pow_succ,←Int.mul_assoc,←Int.mul_assoc]at h
      omega
    obtain ⟨h3,h4⟩:=NG i j u v hu hv h2
    exact ⟨by omega,h4⟩

theorem NH (j:Nat):(1:Int)≤10 ^ j:=by
  induction j with
  | zero=>simp
  | succ j ih=>rw[Int.pow_succ]; omega

theorem DB (u:Int) (j:Nat):u.natAbs≤(u*10 ^ j).natAbs:=by
  rw[Int.natAbs_mul]
  have h:=NH j
  have:1≤((10:Int) ^ j).natAbs:=by omega
  exact Nat.le_mul_of_pos_right _ this

theorem Sg (u:Int) (hu:u≠0):∀j:Nat,j≤(u*10 ^ j).natAbs:=by
  intro j
  rw[Int.natAbs_mul]
  have h1:1≤u.natAbs:=by omega
  have h2:j≤((10:Int) ^ j).natAbs:=by
    induction j with
    | zero=>simp
    | succ j ih =>
      have:=NH j
      rw[Int.pow_succ,Int.natAbs_mul]
      show j+1≤((10:Int) ^ j).natAbs*10
      omega
  calc j≤((10:Int) ^ j).natAbs:=h2
    _≤u.natAbs*((10:Int) ^ j).natAbs:=Nat.le_mul_of_pos_left _ h1

theorem Qq (u:Int) (hu:u≠0) (j:Nat):2 ^ j≤(u*10 ^ j).natAbs:=by
  rw[Int.natAbs_mul]
  have h2:∀j:Nat,2 ^ j≤((10:Int) ^ j).natAbs:=by
    intro j
    induction j with
    | zero=>simp
    | succ j ih =>
      rw[Int.pow_succ,Int.natAbs_mul,Nat.pow_succ]
      show 2 ^ j*2≤((10:Int) ^ j).natAbs*10
      omega
  exact Nat.le_trans (h2 j) (Nat.le_mul_of_pos_left _ (by omega))

theorem LR {u:Int} (hu:u≠0) {j:Nat} (hb:CK (u*10 ^ j)):j<64:=by
  have h:=Qq u hu j
  unfold CK at hb
  rcases Nat.lt_or_ge j 64 with h1|h1
  · exact h1
  · have h2:(2:Nat) ^ 64≤2 ^ j:=Nat.pow_le_pow_right (by omega) h1
    have h3:(2:Nat) ^ 64=18446744073709551616:=rfl
    omega

theorem UN {R:Type} (d:iH) (e0:Int→Int→iH→Option R):∀(j n:Nat) (u x:Int),j<n→Int.tmod u 10≠0→CK (u*10 ^ j) → -9223372036854775808≤x→x+j≤4000000000000000000 →
    bt n (u*10 ^ j) x d e0=e0 u (x+j) d:=by
  intro j
  induction j with
  | zero =>
    intro n u x hn hu hb h1 h2
    obtain ⟨m,rfl⟩:∃m,n=m+1:=⟨n - 1,by omega⟩
    have e:bt (m+1) (u*10 ^ 0) x d e0=lO (fun mQ mR nI=>bt m mQ mR nI e0) (u*10 ^ 0) x d e0:=rfl
    rw[e]
    unfold lO
    have e1:u*10 ^ 0=u:=by simp
    have e2:(Int.tmod u 10==0)=false:=by rw[beq_eq_false_iff_ne]; exact hu
    rw[e1,e2,cond_false]
    simp
  | succ j ih =>
    intro n u x hn hu hb h1 h2
    obtain ⟨m,rfl⟩:∃m,n=m+1:=⟨n - 1,by omega⟩
    have e:bt (m+1) (u*10 ^ (j+1)) x d e0=lO (fun mQ mR nI=>bt m mQ mR nI e0) (u*10 ^ (j+1)) x d e0:=rfl
    rw[e]
    unfold lO
    have ep:u*10 ^ (j+1)=u*10 ^ j*10:=by rw[Int.pow_succ,Int.mul_assoc]
    unfold CK at hb
    rw[ep]at hb ⊢
    have e1:(Int.tmod (u*10 ^ j*10) 10==0)=true:=by rw[Int.mul_tmod_left]; rfl
    have e2:Int.tdiv (u*10 ^ j*10) 10=u*10 ^ j:=Int.mul_tdiv_cancel _ (by omega)
    rw[e1,cond_true,e2,ef (n:=u*10 ^ j) (by omega) (by omega),ef (n:=x+1) (by omega) (by omega)]
    show bt m (u*10 ^ j) (x+1) d e0=_
    rw[ih m u (x+1) (by omega) hu (by unfold CK; omega) (by omega) (by omega)]
    have:x+1+(j:Int)=x+((j+1:Nat):Int):=by omega
    rw[this]

theorem CV {R:Type} (a b c:Int) (k:Bool→Option R):aU a b c k=k (decide (a≤b)&&decide (b≤c)):=by
  have e:aU a b c k=ov a b c k:=rfl
  rw[e]
  unfold ov
  by_cases h1:a≤b
  · rw[cu h1]; first|rfl|simp
  · rw[jB h1]; first|rfl|simp

def UO (u x:Int):iH × Bool:=if -1000000000000000≤u∧u≤1000000000000000 ∧ -9≤x∧x≤9 then (⟨u,x⟩,true)else (⟨0,0⟩,false)

theorem Te {R:Type} (u:Int) (j:Nat) (x:Int) (hu:Int.tmod u 10≠0) (hb:CK (u*10 ^ j)) (h1 : -9223372036854775808≤x) (h2:x≤1000000) (k:iH→Bool→Option R) :
    bG (u*10 ^ j) x k=k (UO u (x+j)).1 (UO u (x+j)).2:=by
  have e:bG (u*10 ^ j) x k=nQ aU bt (u*10 ^ j) x k:=rfl
  rw[e]
  unfold nQ
  have hu0:u≠0:=by rintro rfl; exact hu rfl
  have ha:=DB u j
  have hn:=Sg u hu0 j
  have h64:=LR hu0 hb
  have h0:(u*10 ^ j==0)=false:=by rw[beq_eq_false_iff_ne]; omega
  have hm:min x 1000000=x:=Int.min_eq_left h2
  unfold CK at hb
  rw[h0,cond_false,hm,UN _ _ j _ u x (by omega) hu (by unfold CK; exact hb) h1 (by omega)]
  rw[CV]
  unfold UO
  by_cases c1 : -1000000000000000≤u∧u≤1000000000000000
  · rw[cu c1.1,cu c1.2]
    simp only[Bool.and_self,Bool.not_true,cond_false]
    rw[CV]
    by_cases c2 : -9≤x+(j:Int)∧x+(j:Int)≤9
    · rw[cu c2.1,cu c2.2,if_pos ⟨c1.1,c1.2,c2.1,c2.2⟩]
      rfl
    · rw[if_neg (fun h=>c2 h.2.2)]
      have:(decide (-9≤x+(j:Int))&&decide (x+(j:Int)≤9))=false:=by
        rw[Bool.and_eq_false_iff,decide_eq_false_iff_not,decide_eq_false_iff_not]; omega
      rw[this]
      rfl
  · rw[if_neg (fun h=>c1 ⟨h.1,h.2.1⟩)]
    have:(decide (-1000000000000000≤u)&&decide (u≤1000000000000000))=false:=by
      rw[Bool.and_eq_false_iff,decide_eq_false_iff_not,decide_eq_false_iff_not]; omega
    rw[this]
    rfl

theorem NI {R:Type} (x:Int) (k:iH→Bool→Option R):bG 0 x k=k ⟨0,0⟩ true:=by
  have e:bG 0 x k=nQ aU bt 0 x k:=rfl
  rw[e]
  rfl

theorem Xw {R:Type} {u x:Int} (hu:Int.tmod u 10≠0) (h : -1000000000000000≤u∧u≤1000000000000000 ∧ -9≤x∧x≤9) (k:Bool→Option R):bW ⟨u,x⟩ k=k true:=by
  have e:bW ⟨u,x⟩ k=lx aU ⟨u,x⟩ k:=rfl
  rw[e]
  unfold lx
  have hu0:u≠0:=by rintro rfl; exact hu rfl
  have e1:(u==0)=false:=by rw[beq_eq_false_iff_ne]; exact hu0
  have e2:(Int.tmod u 10 != 0)=true:=bne_iff_ne.2 hu
  simp only[e1,e2,cond_false,cond_true,CV]
  rw[cu h.1,cu h.2.1,cu h.2.2.1,cu h.2.2.2]
  rfl

end Go.Proofs.YtmlkkgfenfdndaaGreatDoor

set_option maxRecDepth 100000
namespace Go.Proofs.YtmlkkgfenfdndaaGreatDoor
open Go Go.ax Go.Lib

def Fm (d:iH):Prop:=(d.aw=0∧d.exp=0)∨(Int.tmod d.aw 10≠0 ∧ -1000000000000000≤d.aw∧d.aw≤1000000000000000 ∧ -9≤d.exp∧d.exp≤9)

theorem Fm.bounds {d:iH} (h:Fm d) : -1000000000000000≤d.aw∧d.aw≤1000000000000000 ∧ -9≤d.exp∧d.exp≤9:=by
  rcases h with h|h <;> omega
theorem Fm.nz {d:iH} (h:Fm d) (h0:d.aw≠0):Int.tmod d.aw 10≠0:=by
  rcases h with h|h
  · exact (h0 h.1).elim
  · exact h.1
theorem Fm.zero {d:iH} (h:Fm d) (h0:d.aw=0):d=⟨0,0⟩:=by
  rcases h with h|h
  · cases d; simp only at h; rw[h.1,h.2]
  · exact (h.1 (by rw[h0]; rfl)).elim
theorem Fm.mk0:Fm ⟨0,0⟩ := .inl ⟨rfl,rfl⟩
theorem tmod_neg {m:Int} (h:Int.tmod m 10≠0):Int.tmod (-m) 10≠0:=by rw[Int.neg_tmod]; omega
theorem Fm.neg {d:iH} (h:Fm d):Fm ⟨-d.aw,d.exp⟩:=by
  rcases h with h|h
  · exact .inl ⟨by simp only; omega,h.2⟩
  · exact .inr ⟨tmod_neg h.1,by simp only; omega,by simp only; omega,h.2.2.2⟩

theorem Xx {R:Type} {d:iH} (h:Fm d) (k:Bool→Option R):bW d k=k true:=by
  rcases h with h|h
  · have e:bW d k=lx aU d k:=rfl
    rw[e]
    unfold lx
    rw[h.1,h.2]
    rfl
  · cases d; exact Xw h.1 h.2 k

theorem Xy {R:Type} (x:Int) (d:iH) (e0:Int→Int→iH→Option R):∀(j n:Nat) (u:Int),j<n→Int.tmod u 10≠0→CK (u*10 ^ j) →
    ck n (u*10 ^ j) x d e0=e0 u x d:=by
  intro j
  induction j with
  | zero =>
    intro n u hn hu hb
    obtain ⟨m,rfl⟩:∃m,n=m+1:=⟨n - 1,by omega⟩
    have e:ck (m+1) (u*10 ^ 0) x d e0=og (fun mQ mR nI=>ck m mQ mR nI e0) (u*10 ^ 0) x d e0:=rfl
    rw[e]
    unfold og
    have e1:u*10 ^ 0=u:=by simp
    have e2:(Int.tmod u 10==0)=false:=by rw[beq_eq_false_iff_ne]; exact hu
    have e3:(u != 0)=true:=bne_iff_ne.2 (by rintro rfl; exact hu rfl)
    rw[e1,e3,cond_true,e2,cond_false]
  | succ j ih =>
    intro n u hn hu hb
    obtain ⟨m,rfl⟩:∃m,n=m+1:=⟨n - 1,by omega⟩
    have e:ck (m+1) (u*10 ^ (j+1)) x d e0=og (fun mQ mR nI=>ck m mQ mR nI e0) (u*10 ^ (j+1)) x d e0:=rfl
    rw[e]
    unfold og
    have ep:u*10 ^ (j+1)=u*10 ^ j*10:=by rw[Int.pow_succ,Int.mul_assoc]
    have hu0:u≠0:=by rintro rfl; exact hu rfl
    have hab:=DB u (j+1)
    have e3:(u*10 ^ (j+1) != 0)=true:=bne_iff_ne.2 (by omega)
    unfold CK at hb
    rw[e3,cond_true]
    rw[ep]at hb ⊢
    have e1:(Int.tmod (u*10 ^ j*10) 10==0)=true:=by rw[Int.mul_tmod_left]; rfl
    have e2:Int.tdiv (u*10 ^ j*10) 10=u*10 ^ j:=Int.mul_tdiv_cancel _ (by omega)
    rw[e1,cond_true,e2,ef (n:=u*10 ^ j) (by omega) (by omega)]
    exact ih m u (by omega) hu (by unfold CK; omega)

theorem fit_ok {R:Type} (a b:Int) (ha:CK a) (hb:CK b):∃d:iH,Fm d∧∀k:iH→Option R,cZ a b k=k d:=by
  obtain ⟨m,m0,m1,hm⟩:=Xv (R:=R) a 2000000000000001 ha (by omega) (by omega)
  obtain ⟨x,x0,x1,hx⟩:=Xv (R:=R) b 19 hb (by omega) (by omega)
  have e:∀k:iH→Option R,cZ a b k=yT fX ck a b k:=fun _=>rfl
  by_cases h0:m - 1000000000000000=0
  · refine ⟨⟨0,0⟩, .mk0,fun k => ?_⟩
    rw[e]
    unfold yT
    rw[hm,hx,ef (n:=m - 1000000000000000) (by omega) (by omega),h0]
    rfl
  · obtain ⟨j,u,hu,hd⟩:=LQ ((m - 1000000000000000).natAbs+1) _ h0 (by omega)
    have hab:=DB u j
    have hb64:CK (u*10 ^ j):=by unfold CK; omega
    have h64:=LR (by rintro rfl; exact hd rfl) hb64
    refine ⟨⟨u,x - 9⟩, .inr ⟨hd,by simp only; omega,by simp only; omega,by simp only; omega,by simp only; omega⟩,fun k => ?_⟩
    rw[e]
    unfold yT
    rw[hm,hx,ef (n:=m - 1000000000000000) (by omega) (by omega),ef (n:=x - 9) (by omega) (by omega)]
    have key:=fun (F:Nat) (hF:j<F)=>Xy (R:=R) (x - 9) ⟨0,0⟩ (fun y9 B5 B6=>bif (y9==0)then (k (⟨y9,0⟩:iH))else (k (⟨y9,B5⟩:iH))) j F u hF hd hb64
    rw[←hu]at key
    rw[key _ (by omega)]
    have e0:(u==0)=false:=by rw[beq_eq_false_iff_ne]; rintro rfl; exact hd rfl
    rw[e0]
    rfl


def Made (m x:Int) (r:iH × Bool):Prop:=(m=0∧r=(⟨0,0⟩,true))∨∃(u:Int) (j:Nat),m=u*10 ^ j∧Int.tmod u 10≠0∧r=UO u (x+j)

theorem Xz {R:Type} (m x:Int) (hm:CK m) (h1 : -4000000000000000000≤x) (h2:x≤1000000):∃r:iH × Bool,Made m x r∧∀k:iH→Bool→Option R,bG m x k=k r.1 r.2:=by
  by_cases h0:m=0
  · subst h0
    exact ⟨_, .inl ⟨rfl,rfl⟩,fun k=>NI x k⟩
  · obtain ⟨j,u,hu,hd⟩:=LQ (m.natAbs+1) m h0 (by omega)
    exact ⟨_, .inr ⟨u,j,hu,hd,rfl⟩,fun k=>by subst hu; exact Te u j x hd hm (by omega) h2 k⟩

def val (d:iH):Int:=d.aw*10 ^ (d.exp+9).toNat

theorem Qr (u:Nat) (h:0<u):10 ^ (nDigits u - 1)≤u:=by
  induction u using Nat.strongRecOn with
  | _ u ih =>
    by_cases h1:u<10
    · rw[nDigits_small h1]; exact h
    · rw[nDigits_big h1,Nat.add_sub_cancel]
      have h2:=ih (u / 10) (by omega) (by omega)
      have h3:=nDigits_pos (u / 10)
      have e:nDigits (u / 10)=(nDigits (u / 10) - 1)+1:=by omega
      rw[e,Nat.pow_succ]
      omega

theorem LS {u:Nat} (h:u≤1000000000000000):nDigits u≤16:=by
  rcases Nat.eq_zero_or_pos u with rfl|h0
  · rw[nDigits_small (by omega)]; omega
  · have h1:=Qr u h0
    rcases Nat.lt_or_ge (nDigits u) 17 with h2|h2
    · omega
    · have h3:(10:Nat) ^ 16≤10 ^ (nDigits u - 1):=Nat.pow_le_pow_right (by omega) (by omega)
      have e:(10:Nat) ^ 16=10000000000000000:=rfl
      omega

theorem UP {d:iH} (h:Fm d) (h0:d.aw≠0) {j:Nat} {x:Int} (hx:x+j=d.exp) {r:iH × Bool} (hr:Made (d.aw*10 ^ j) x r):r=(d,true):=by
  have hz:=h.nz h0
  have hab:=DB d.aw j
  rcases hr with ⟨h1,_⟩|⟨u,i,e,hu,rfl⟩
  · omega
  · obtain ⟨rfl,rfl⟩:=NG i j u d.aw hu hz e.symm
    have b:=h.bounds
    unfold UO
    rw[if_pos (by omega),hx]

end Go.Proofs.YtmlkkgfenfdndaaGreatDoor

set_option maxRecDepth 100000
namespace Go.Proofs.YtmlkkgfenfdndaaGreatDoor
open Go Go.ax

abbrev zs (s:ak):List Int:=s.map fun b=>(b.toNat:Int)
theorem Sh (s t:ak):zs (s++t)=zs s++zs t:=List.map_append
theorem NJ (s:ak):Be s=zs s:=rfl
theorem I7 (s:ak):(zs s).length=s.length:=List.length_map _
theorem uT (s:ak):sU (zs s)=s:=by
  unfold sU zs
  rw[List.map_map]
  conv=>rhs; rw[←List.map_id s]
  exact List.map_congr_left fun b _=>by simp
theorem yc (n:Nat) (h:n<256):((UInt8.ofNat n).toNat:Int)=n:=by rw[gR n h]

def I8 (s:ak):Prop:=s.length≤100000000000

theorem wb {R:Type} (b:UInt8) (s:ak) (hl:I8 s) (k:List Int→Option R):ad (b.toNat:Int) (zs s) k=k (zs (s ++ [b])):=by
  show cR (decide (((zs s).length+1)*1≤140737488355328)) (k (zs s ++ [(b.toNat:Int)]))=_
  unfold I8 at hl
  rw[bH (cu (by rw[I7]; omega)),Sh]
  rfl

theorem ws {R:Type} (x:ak) (s:ak) (hx:x.length≤100000000000) (hl:I8 s) (k:Int→List Int→Option R):af x (zs s) k=k (x.length:Int) (zs (s++x)):=by
  show cR (decide (((zs s).length+(Be x).length)*1≤140737488355328)) (k (x.length:Int) (zs s++Be x))=_
  unfold I8 at hl
  rw[NJ,bH (cu (by rw[I7,I7]; omega)),Sh]

theorem or128:∀x:Fin 64,IntKind.u8.wrap ((BitVec.ofInt IntKind.u8.bits 128 ||| BitVec.ofInt IntKind.u8.bits (x.val:Int)).toNat:Int)=((128+x.val:Nat):Int):=by decide +kernel
theorem or192:∀x:Fin 32,IntKind.u8.wrap ((BitVec.ofInt IntKind.u8.bits 192 ||| BitVec.ofInt IntKind.u8.bits (IntKind.u8.wrap (x.val:Int))).toNat:Int)=((192+x.val:Nat):Int):=by decide +kernel
theorem or224:∀x:Fin 16,IntKind.u8.wrap ((BitVec.ofInt IntKind.u8.bits 224 ||| BitVec.ofInt IntKind.u8.bits (IntKind.u8.wrap (x.val:Int))).toNat:Int)=((224+x.val:Nat):Int):=by decide +kernel
theorem or240:∀x:Fin 8,IntKind.u8.wrap ((BitVec.ofInt IntKind.u8.bits 240 ||| BitVec.ofInt IntKind.u8.bits (IntKind.u8.wrap (x.val:Int))).toNat:Int)=((240+x.val:Nat):Int):=by decide +kernel
theorem and63:∀x:Fin 256,IntKind.u8.wrap ((BitVec.ofInt IntKind.u8.bits (x.val:Int) &&& BitVec.ofInt IntKind.u8.bits 63).toNat:Int)=((x.val % 64:Nat):Int):=by decide +kernel

theorem XA (n:Nat):IntKind.u8.wrap (n:Int)=((n % 256:Nat):Int):=by
  simp only[IntKind.wrap,IntKind.bits,IntKind.signed]
  simp
theorem Tf {n:Nat} (h:n<1114112):IntKind.u32.wrap (n:Int)=(n:Int):=by
  simp only[IntKind.wrap,IntKind.bits,IntKind.signed]
  simp
  omega
theorem shr (c n:Nat) (h:n≤32):Int.fdiv (c:Int) (2 ^ (min n IntKind.i32.bits))=((c / 2 ^ n:Nat):Int):=by
  have e:min n IntKind.i32.bits=n:=Nat.min_eq_left h
  rw[e,Int.fdiv_eq_ediv_of_nonneg _ (by exact Int.le_of_lt (Int.pow_pos (by omega)))]
  rw[Int.natCast_ediv]
  congr 1

theorem cont (c:Nat):IntKind.u8.wrap ((BitVec.ofInt IntKind.u8.bits 128 ||| BitVec.ofInt IntKind.u8.bits (IntKind.u8.wrap ((BitVec.ofInt IntKind.u8.bits (IntKind.u8.wrap (c:Int)) &&& BitVec.ofInt IntKind.u8.bits 63).toNat:Int))).toNat:Int)=((128+c % 64:Nat):Int):=by
  have h1:=and63 ⟨c % 256,Nat.mod_lt _ (by omega)⟩
  simp only at h1
  rw[XA c,h1,show c % 256 % 64=c % 64 by omega]
  exact or128 ⟨c % 64,Nat.mod_lt _ (by omega)⟩

theorem Zr (n:Nat) (h:n<256):zs [UInt8.ofNat n] = [(n:Int)]:=by simp only[zs,List.map_cons,List.map_nil,yc n h]

theorem ar {R:Type} {c:Nat} (hv:vr c) (s:ak) (hl:I8 s) (k:List Int→Option R):bI (zs s) (c:Int) k=k (zs (s++enc c)):=by
  have ln:=ND hv
  unfold I8 at hl
  show iQ bq (zs s) (c:Int) k=_
  unfold iQ
  rw[Tf ln,Sh]
  rcases CJ hv with ⟨h1,e⟩|⟨h0,h1,e⟩|⟨h0,h1,e⟩|⟨h0,e⟩
  · rw[cu (show (c:Int)≤127 by omega),cond_true,bH (cu (by rw[I7]; omega)),e,Zr c (by omega),XA,Nat.mod_eq_of_lt (by omega)]
  all_goals
    rw[jB (show ¬(c:Int)≤127 by omega),cond_false]
    show fv (zs s) (c:Int) _=_
    unfold fv
    rw[Tf ln,e]
    simp only[cont,shr _ 6 (by omega),shr _ 12 (by omega),shr _ 18 (by omega),I7]
  · rw[cu (show (c:Int)≤2047 by omega),cond_true,bH (cu (by omega))]
    have:=or192 ⟨c / 64,by omega⟩
    simp only at this
    rw[show c / 2 ^ 6=c / 64 from rfl,this]
    simp only[zs,List.map_cons,List.map_nil,yc (192+c / 64) (by omega),yc (128+c % 64) (by omega)]
  · rw[jB (show ¬(c:Int)≤2047 by omega),cond_false]
    unfold vr at hv
    by_cases h2:c<55296
    · rw[cu (show (c:Int)<55296 by omega),cond_true,cond_true,bH (cu (by omega))]
      have:=or224 ⟨c / 4096,by omega⟩
      simp only at this
      rw[show c / 2 ^ 12=c / 4096 from rfl,this]
      simp only[zs,List.map_cons,List.map_nil,yc (224+c / 4096) (by omega),yc (128+c % 64) (by omega),yc (128+c / 64 % 64) (by omega)]
    rw[jB (show ¬(c:Int)<55296 by omega),cond_false,cu (show (57343:Int)<(c:Int) by omega),cond_true,cu (show (c:Int)≤65535 by omega),cond_true,bH (cu (by omega))]
    have:=or224 ⟨c / 4096,by omega⟩
    simp only at this
    rw[show c / 2 ^ 12=c / 4096 from rfl,this]
    simp only[zs,List.map_cons,List.map_nil,yc (224+c / 4096) (by omega),yc (128+c % 64) (by omega),yc (128+c / 64 % 64) (by omega)]
  · rw[jB (show ¬(c:Int)≤2047 by omega),cond_false]
    rw[jB (show ¬(c:Int)<55296 by omega),cond_false,cu (show (57343:Int)<(c:Int) by omega),cond_true,jB (show ¬(c:Int)≤65535 by omega),cond_false,
      cu (show (c:Int)>65535 by omega),cond_true,cu (show (c:Int)≤1114111 by omega),cond_true,bH (cu (by omega))]
    have:=or240 ⟨c / 262144,by omega⟩
    simp only at this
    rw[show c / 2 ^ 18=c / 262144 from rfl,this]
    simp only[zs,List.map_cons,List.map_nil,yc (240+c / 262144) (by omega),yc (128+c % 64) (by omega),yc (128+c / 64 % 64) (by omega),yc (128+c / 4096 % 64) (by omega)]

theorem wr {R:Type} {c:Nat} (hv:vr c) (s:ak) (hl:I8 s) (k:Int→List Int→Option R):∃n:Int,ai (c:Int) (zs s) k=k n (zs (s++enc c)):=by
  refine ⟨IntKind.i64.wrap (((zs (s++enc c)).length:Int) - ((zs s).length:Int)),?_⟩
  show gX bI (c:Int) (zs s) k=_
  unfold gX
  rw[ar hv s hl]
end Go.Proofs.YtmlkkgfenfdndaaGreatDoor

set_option maxRecDepth 100000
namespace Go.Proofs.YtmlkkgfenfdndaaGreatDoor
open Go Go.ax Go.Lib

def jK (n:Nat):ak:=List.replicate n 48
theorem pT (n:Nat):(jK n).length=n:=List.length_replicate
theorem Gb:∀n:Nat,repeatL [48] n=jK n
  | 0=>rfl
  | n+1=>by
    have:=Gb n
    simp[repeatL,jK,List.replicate_succ]at this ⊢
    try exact this
theorem Si (z:Int):lq [48] z=jK z.toNat:=Gb _

def body (L:ak) (e:Int):ak :=
  if 0≤e then L++jK e.toNat
  else
    let t:=jK (max 0 (1 - e - (L.length:Int))).toNat++L
    t.take ((t.length:Int)+e).toNat ++ [46]++t.drop ((t.length:Int)+e).toNat
def MV (d:iH):ak:=(if d.aw<0 then [45]else [])++body (decDigits d.aw.natAbs) d.exp

theorem wsn {R:Type} (x:ak) (hx:x.length≤100000000000) (k:Int→List Int→Option R):ag x k=k (x.length:Int) (zs x):=by
  show cR (decide ((0+(Be x).length)*1≤140737488355328)) (k (x.length:Int) (Be x))=_
  rw[NJ,bH (cu (by rw[I7]; omega))]

theorem XB {R:Type} {d:iH} (h:Fm d) (k:ak→Option R):aX d k=k (MV d):=by
  have b:=h.bounds
  have e:aX d k=om bW ah af ag d k:=rfl
  rw[e]
  unfold om
  rw[Xx h,Bool.not_true,cond_false]
  have hL:cn (max d.aw (IntKind.i64.wrap (0 - d.aw)))=decDigits d.aw.natAbs:=by
    rw[ef (n:=0 - d.aw) (by omega) (by omega)]
    have hm:max d.aw (0 - d.aw)=(d.aw.natAbs:Int):=by omega
    rw[hm]
    exact itoa_nonneg _
  have hlen:(decDigits d.aw.natAbs).length≤16:=by rw[decDigits_length]; exact LS (by omega)
  simp only[hL,Si]
  unfold MV
  generalize decDigits d.aw.natAbs=L at *
  have w1:IntKind.i64.wrap (1 - d.exp)=1 - d.exp:=ef (by omega) (by omega)
  have w2:IntKind.i64.wrap (1 - d.exp - (L.length:Int))=1 - d.exp - (L.length:Int):=ef (by omega) (by omega)
  rw[w1,w2]
  have one:(([48]:ak).length:Int)=1:=rfl
  rw[one]
  have z0:0≤max 0 (1 - d.exp - (L.length:Int)):=by omega
  have zl:max 0 (1 - d.exp - (L.length:Int))≤10:=by omega
  have zL:1 - d.exp≤max 0 (1 - d.exp - (L.length:Int))+L.length:=by omega
  unfold body
  simp only
  generalize max 0 (1 - d.exp - (L.length:Int))=z at *
  have tl:(jK z.toNat++L).length=z.toNat+L.length:=by rw[List.length_append,pT]
  generalize jK z.toNat++L=t at *
  have Qs:∀a b:ak,(a++b).length=a.length+b.length:=fun a b=>List.length_append
  have lone:([46]:ak).length=1:=rfl
  have e45:([45]:List Int)=zs [45]:=rfl
  have q2:∀(x:Int) (f:List Int→Option R),ah x f=f [x]:=fun _ _=>rfl
  have lim45:I8 [45]:=by unfold I8; simp
  by_cases he:0≤d.exp
  · rw[cu (show d.exp≥0 from he),if_pos he]
    by_cases hm:d.aw<0
    · rw[cu hm,if_pos hm]
      simp only[cond_true]
      rw[q2,bH (by rw[cu (show 1*d.exp≤140737488355328 by omega)]; rfl),bH (cu (by rw[pT]; omega)),e45,ws _ _ (by rw[Qs,pT]; omega) lim45,uT]
    · rw[jB hm,if_neg hm]
      simp only[cond_true,cond_false]
      rw[bH (by rw[cu (show 1*d.exp≤140737488355328 by omega)]; rfl),bH (cu (by rw[pT]; omega)),wsn _ (by rw[Qs,pT]; omega),uT]
      rfl
  · have wt:IntKind.i64.wrap ((t.length:Int)+d.exp)=(t.length:Int)+d.exp:=ef (by omega) (by omega)
    rw[jB (show ¬d.exp≥0 from he),if_neg he]
    simp only[wt,List.drop_zero,Nat.sub_zero,Int.toNat_natCast,cond_false]
    have l1:(t.take ((t.length:Int)+d.exp).toNat).length≤t.length:=by rw[List.length_take]; omega
    have l2:(t.drop ((t.length:Int)+d.exp).toNat).length≤t.length:=by rw[List.length_drop]; omega
    have c1:(decide ((0:Int)≤(t.length:Int)+d.exp)&&decide ((t.length:Int)+d.exp≤(t.length:Int)))=true:=by rw[cu (by omega),cu (by omega)]; rfl
    have c2:(decide ((0:Int)≤(t.length:Int))&&decide ((t.length:Int)≤(t.length:Int)))=true:=by rw[cu (by omega),cu (by omega)]; rfl
    have c3:(decide ((0:Int)≤z)&&decide (1*z≤140737488355328))=true:=by rw[cu z0,cu (by omega)]; rfl
    have et:(t.drop ((t.length:Int)+d.exp).toNat).take (t.length - ((t.length:Int)+d.exp).toNat)=t.drop ((t.length:Int)+d.exp).toNat:=List.take_of_length_le (by rw[List.length_drop]; exact Nat.le_refl _)
    rw[et]
    by_cases hm:d.aw<0
    · rw[cu hm,if_pos hm]
      simp only[cond_true]
      rw[q2,bH c3,bH (cu (by rw[pT]; omega)),bH c1,bH (cu (by omega)),bH (cu (by omega)),bH c2,bH c1,bH (cu (by rw[Qs,lone]; omega)),e45,ws _ _ (by rw[Qs,Qs,lone]; omega) lim45,uT]
    · rw[jB hm,if_neg hm]
      simp only[cond_false]
      rw[bH c3,bH (cu (by rw[pT]; omega)),bH c1,bH (cu (by omega)),bH (cu (by omega)),bH c2,bH c1,bH (cu (by rw[Qs,lone]; omega)),wsn _ (by rw[Qs,Qs,lone]; omega),uT]
      rfl
end Go.Proofs.YtmlkkgfenfdndaaGreatDoor

