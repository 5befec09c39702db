/-
  JsonWords, part 6 of 9.
-/
import Derived.Test.YtmlkkgfenfdndaaGreatDoorCards
import Derived.Test.YtmlkkgfenfdndaaGreatDoorTie
import Derived.Lib.LaidU8T
import Derived.Stop.LaidErr
import Derived.Deep.DeepHandedRow
import Derived.Deep.DeepWitnessRowRef
import Derived.WalkKit
import Derived.ProofKit
import Derived.OpenShut
import Derived.KernelRfl
import Derived.Lib.ValidU
import Derived.Lib.ItoaLen
import Derived.Lib.Repeat
import Derived.Lib.AtoiAll
import Derived.Lib.IndexAny
import Derived.Lib.Bytealg
import Derived.Lib.SlTrimSet
import Derived.Lib.LastIndexByte
import Derived.Lib.ValidLaws
import Derived.Lib.MapLaws
import Derived.Lib.TrimUEq
import Derived.Lib.RuneBytes
import Derived.Sort.Grow
import Derived.Shelf.Strings.BuilderX
import Derived.Lib.ItoaMem
import Derived.Test.YtmlkkgfenfdndaaGreatDoorJsonWordsB5
set_option linter.unusedSimpArgs false
set_option linter.unnecessarySimpa false
set_option linter.unusedVariables false
set_option linter.unusedSectionVars false
noncomputable section
set_option maxRecDepth 100000
namespace Go.Proofs.YtmlkkgfenfdndaaGreatDoor.Door
open Go Go.Lib Go.RowKit Go.ChangeShapes Go.aG
theorem own:ownKnob Tryz.prog.godebug=none:=by kernel_rfl
theorem leaves:Pa Tryz.prog Go.Proofs.YtmlkkgfenfdndaaGreatDoor.tt:=leaves_ok (by kernel_rfl)
theorem gSyn:Tryz.prog.globalNamed "strconv.ErrSyntax" = some 4:=by kernel_rfl
theorem gRng:Tryz.prog.globalNamed "strconv.ErrRange" = some 5:=by kernel_rfl
theorem tSyn:(Tryz.prog.globals[4]?).map (·.type)=some 94:=by kernel_rfl
theorem tRng:(Tryz.prog.globals[5]?).map (·.type)=some 94:=by kernel_rfl
theorem star : "*" ++ "errors.errorString" = "*errors.errorString" :=by decide
theorem rowErr (u:TypeId) (h:Tryz.prog.typeName? 3 u=some "*errors.errorString"):u=204 :=
 typeName_ptr_named (nm := "errors.errorString") (by rw[star]; kernel_rfl) (by kernel_rfl) (by decide) u (by rw[star]; exact h)
theorem lt_of_var {n:String} {g:Nat} {W:World} {cs:Array Value} (hg:Tryz.prog.globalNamed n=some g) (h:W.var? Tryz.prog n=some cs):g<W.heap.size:=by
 unfold World.var? at h
 simp only[hg,Option.bind_some]at h
 rcases Nat.lt_or_ge g W.heap.size with h'|h'
 ·exact h'
 ·simp[Array.getElem?_eq_none h']at h
theorem lay_met {W:World} (h:laidMet Tryz.prog Rows.topTextsUptoRow.laid W):qT.says W∧∀b,qT.blocks b→b<W.heap.size:=by
 have r0:VarReads Tryz.prog W "unicode/utf8.first" firstData:=laidMet.reads h (.tail _ (.tail _ (.tail _ (.tail _ (.tail _ (.tail _ (.head _)))))))
 have r1:VarReads Tryz.prog W "unicode/utf8.acceptRanges" acceptData:=laidMet.reads h (.tail _ (.tail _ (.tail _ (.head _))))
 have ht:Utf8Tabs 1 2 W:=utf8Tabs_of_readsT (U8Types.of196 Tryz.lay196) ⟨by kernel_rfl,by kernel_rfl,by kernel_rfl,by kernel_rfl,by kernel_rfl,by kernel_rfl,by kernel_rfl⟩ r0 r1
 have h2:=laidMet.tail (laidMet.tail h)
 have hp:TabIs Tryz.prog W "internal/strconv.uint64pow10" .u64 pow10Tab:=tabIs_of_head (t:=192) (e:=165) (n:=20) Wc (by kernel_rfl) (by kernel_rfl) (by kernel_rfl) (by kernel_rfl) (by kernel_rfl) h2
 have h4:=laidMet.tail (laidMet.tail h2)
 obtain ⟨a3,s3,v3,_⟩:=laid_sentinel (ms := #[("Error",75)]) (f := { name := "s",type:=9,offset:=0,embedded:=false,tag := "",pkgPath := "errors",byteOffset:=0 }) (te:=206) (ts:=9) h4 gRng tRng (by kernel_rfl) rowErr (by kernel_rfl) (by kernel_rfl) rfl rfl (by kernel_rfl) (by kernel_rfl) (by kernel_rfl)
 obtain ⟨a2,s2,v2,_⟩:=laid_sentinel (ms := #[("Error",75)]) (f := { name := "s",type:=9,offset:=0,embedded:=false,tag := "",pkgPath := "errors",byteOffset:=0 }) (te:=206) (ts:=9) (laidMet.tail h4) gSyn tSyn (by kernel_rfl) rowErr (by kernel_rfl) (by kernel_rfl) rfl rfl (by kernel_rfl) (by kernel_rfl) (by kernel_rfl)
 refine ⟨⟨ht,hp,⟨_,_,World.var?_cell gSyn v2 0⟩,⟨_,_,World.var?_cell gRng v3 0⟩⟩,fun b hb => ?_⟩
 have hb:b<8:=hb
 obtain ⟨g,t,cs,fuel,p,hg,_,hv,_⟩:VarReads Tryz.prog W "math/bits.deBruijn64tab" Rows.laid_math_bits_deBruijn64tab:=laidMet.reads h (.tail _ (.head _))
 have e:(some 7:Option Nat)=some g:=(by kernel_rfl:Tryz.prog.globalNamed "math/bits.deBruijn64tab" = some 7).symm.trans hg
 cases e
 have l4:=lt_of_var hg hv
 omega
abbrev synS:ByteArray := { data := #[105,110,118,97,108,105,100,32,115,121,110,116,97,120] }
abbrev rngS:ByteArray := { data := #[118,97,108,117,101,32,111,117,116,32,111,102,32,114,97,110,103,101] }
def low:Nat:=(World.holding Tryz.prog default ⟨#[], #[], []⟩).heap.size
def lit1:DataW Unit→Value
 | .lit (.int k n) => .int k n
 | _ => .int .u8 0
def litsOf:DataW Unit→List Value
 | .agg l=>l.map lit1
 | _ => []
def QI (os:Os):World :=
 let w0:=World.holding Tryz.prog os ⟨#[.cells #[.string synS] 206, .cells #[.string rngS] 206], #[], []⟩
 let put (h:Array Obj) (g:Nat) (cs:Array Value):Array Obj:=h.modify g fun
  | .cells _ t frozen => .cells cs t frozen
  | o=>o
 let h0:=put w0.heap 1 (firstTab.map fun z=>Value.int .u8 z).toArray
 let h1:=put h0 2 ((List.range 16).flatMap fun i => [Value.int .u8 (accLo i),Value.int .u8 (accHi i)]).toArray
 let h2:=put h1 4 #[.iface 204 (.pointer (some ⟨low,0,none⟩))]
 let h3:=put h2 5 #[.iface 204 (.pointer (some ⟨low+1,0,none⟩))]
 let h4:=put h3 3 (pow10Tab.map fun z=>Value.int .u64 z).toArray
 let h6:=put h4 6 (litsOf Rows.laid_math_bits_deBruijn32tab).toArray
 let h7:=put h6 7 (litsOf Rows.laid_math_bits_deBruijn64tab).toArray
 { w0 with heap:=h7 }
theorem laid_met (os:Os) (args:Array Value):laidMet Tryz.prog Rows.topTextsUptoRow.laid ((QI os).forCall (fun _ _=>0) ⟨#[],args, []⟩).memory :=
 laidMet_of_run' 8 (by kernel_rfl) (by kernel_rfl)
end Go.Proofs.YtmlkkgfenfdndaaGreatDoor.Door
set_option maxRecDepth 100000
namespace Go.Proofs.YtmlkkgfenfdndaaGreatDoor
open Go Go.aG
end Go.Proofs.YtmlkkgfenfdndaaGreatDoor
namespace Go.aG
open Go.RowKit
section
variable {P:Program} {tt:eF} {w w':World} {h h':aO} {c c':lj} {R:Type}
theorem CC (hb:Below w.heap.size w w'):Ext w h c w' h c where
 os:=hb.os
 tape:=hb.tape
 output:=hb.output
 size:=hb.size
 used:=fun _ hi=>hi
 same:=fun i hi hd=>⟨HS (Me hi.2 hd) (fun _ _ _ => .inr trivial),rfl,rfl⟩
 cell:=fun b x hx _=>wq (hb.block b hx)
 block:=fun b hx _=>hb.block b hx
 AP:=fun _ _ _ ho=>ho
 ext:=rfl
 arr:=fun b arr e fz hx=>⟨arr,fz,by rw[hb.block b (Dq hx)]; exact hx,rfl⟩
theorem Lh (wf:WF w h c) (hb:Below w.heap.size w w'):WF w' h c where
 Cc:=wf.Cc
 sL:=fun b x he=>Nat.lt_of_lt_of_le (wf.sL b x he) hb.size
 obj:=fun i hi=>by
  by_cases hl:(h.at i).live
  ·exact (wf.obj i hi).zC (CC hb) (fun b uR=>hb.block b ((wf.obj i hi).lt hl uR)) rfl rfl
  ·have h0:h.at i = .free∨h.at i = .dead:=by revert hl; cases h.at i <;> simp[cj.live]
   rcases h0 with h0|h0 <;> rw[h0] <;> trivial
 inj:=wf.inj
 lay:=wf.vF (CC hb)
theorem wx {g:Nat} {fn:Func} (hf:P.funcs[g]? = some fn) (hn:(fn.name == "runtime.NumGoroutine")=false) (hb:fn.body.isNone=false) {args:Array Value} {Q:Value→World→Prop}
  (h:Calls P g args w fun e w'=>∃d,e = .returned d∧Q d w'):Bd P g args w Q:=by
 refine ⟨.enter g args,w,?_,h⟩
 have YH:fn.name ≠ "runtime.NumGoroutine" :=by simpa using hn
 have uR:fn.body≠none:=fun e=>by rw[e]at hb; cases hb
 simp[callFunc,hf,YH,uR]
theorem sj {g:Nat} {fn:Func} (hf:P.funcs[g]? = some fn) (hn:(fn.name == "runtime.NumGoroutine")=false) (hb:fn.body.isNone=false) {sp:Spec R}
  (hs:∀vs hp k r,sp vs hp k=some r→∀(w:World) (c:lj) (args:Array Value),WF w hp c→cT w hp c vs args.toList →
   ∃v,k v hp=some r∧Calls P g args w fun e w'=>∃d,e = .returned d∧Below w.heap.size w w'∧eG w' hp c v d):Spec.Ok P g sp:=by
 intro vs hp k r hk w c args wf ra
 obtain ⟨v,hv,hc⟩:=hs vs hp k r hk w c args wf ra
 refine wx hf hn hb (Calls.mono hc ?_)
 rintro e w' ⟨d,he,XF,hr⟩
 exact ⟨d,he,v,hp,c,Lh wf XF,CC XF,hr,hv⟩
theorem WJ {v:V} {args:Array Value} (ra:cT w h c [v] args.toList):∃d,args = #[d]∧eG w h c v d:=by
 obtain ⟨l⟩:=args
 match l,ra with
 | [d],ra=>exact ⟨d,rfl,ra.head⟩
 | [],ra=>have:=ra.1; simp at this
 | _::_::_,ra=>have:=ra.1; simp at this
theorem ZP {u v:V} {args:Array Value} (ra:cT w h c [u,v] args.toList):∃d e,args = #[d,e]∧eG w h c u d∧eG w h c v e:=by
 obtain ⟨l⟩:=args
 match l,ra with
 | [d,e],ra=>exact ⟨d,e,rfl,ra.head,ra.tail.head⟩
 | [],ra=>have:=ra.1; simp at this
 | [_],ra=>have:=ra.1; simp at this
 | _::_::_::_,ra=>have:=ra.1; simp at this
end
section
variable {P:Program} {tt:eF} {w w':World} {h h':aO} {c c':lj} {R:Type}
def RE (R:Type):Spec R:=fun vs h k =>
  match vs with
  | [.ptr i 0]=>(match h.at i with | .oG _=>k (.tuple []) h|_=>none)
  | _=>none
theorem QJ {i:Nat} {v:V} {a':Value} (wf:WF w h c) (ra:eG w h c (.ptr i 0) a') (hv:h.at i = .oG v) :
    ∃b p d,a' = .pointer (some ⟨b,0,none⟩)∧c.wi i=some b∧w.heap[b]? = some (Obj.cells #[p,d] qT.oG (0,0))∧(p = .pointer none∨p = .pointer (some ⟨b,0,none⟩))∧eG w h c v d:=by
  have hi:=aO.ig hv (by simp)
  have ho:=wf.obj i hi
  rw[hv]at ho
  obtain ⟨b,p,d,g1,g2,g3,g4⟩:=ho
  cases ra with
  | ptr hu hq =>
    obtain ⟨b',rfl,uR⟩:=hq
    have:=uR (by rw[hv]; simp)
    rw[g1]at this; cases this
    exact ⟨b,p,d,rfl,g1,g2,g3,g4⟩
theorem bcc_ok {g:Nat} {fn:Func} (hf:P.funcs[g]? = some fn) (hn:(fn.name == "runtime.NumGoroutine")=false) (hb:fn.body.isNone=false)
    (fresh:∀(b:Nat) (w:World),w.cell? ⟨b,0,none⟩=some (.pointer none)→w.shape? b=some (qT.oG,2)→w.frozen? ⟨b,0,none⟩=false →
      Calls P g #[.pointer (some ⟨b,0,none⟩)] w fun e w'=>e = .returned (.tuple #[])∧w'=w.setCell ⟨b,0,none⟩ (.pointer (some ⟨b,0,none⟩)))
    (used:∀(b:Nat) (w:World),w.cell? ⟨b,0,none⟩=some (.pointer (some ⟨b,0,none⟩))→Calls P g #[.pointer (some ⟨b,0,none⟩)] w fun e w'=>e = .returned (.tuple #[])∧w'=w):Spec.Ok P g (RE R):=by
  intro vs h k r hk w c args wf ra
  unfold RE at hk
  split at hk <;> try (first|cases hk)
  rename_i i
  split at hk <;> try (first|cases hk)
  rename_i v hv
  obtain ⟨a',rfl,r1⟩:=WJ ra
  obtain ⟨b,p,d,rfl,g1,g2,g3,g4⟩:=QJ wf r1 hv
  have OI:w.cell? ⟨b,0,none⟩=some p:=by rw[cell_of_row w b _ _ _ _ g2]; rfl
  have rt:∀w' h' c',eG w' h' c' (.tuple []) (.tuple #[]):=fun w' h' c' => .tuple rfl (fun j v d hv=>by simp at hv)
  rcases g3 with rfl|rfl
  · refine wx hf hn hb (Calls.mono (fresh b w OI (by simp[World.shape?,g2]) (AB g2 0)) ?_)
    rintro e w' ⟨he,rfl⟩
    have uR:(w.setCell ⟨b,0,none⟩ (.pointer (some ⟨b,0,none⟩))).heap[b]? = some (.cells #[.pointer (some ⟨b,0,none⟩),d] qT.oG (0,0)):=by
      simp[World.setCell,Array.getElem?_modify,g2]
    have hw:TM w (w.setCell ⟨b,0,none⟩ (.pointer (some ⟨b,0,none⟩))) b #[.pointer (some ⟨b,0,none⟩),d] qT.oG (0,0):=⟨rfl,rfl,rfl,by simp,fun k hk=>heap_setCell_other w _ k _ hk,uR⟩
    have vG:(h.at i).from_ (c.off i)=some 0:=by rw[hv]; rfl
    have xN:(h.at i).jz (.oG v):=by rw[hv]; trivial
    have hset:h.set i (.oG v)=h:=by
      have hi:=aO.ig hv (by simp)
      have e:h[i] = .oG v:=by
        have:=hv
        unfold aO.at at this
        simpa [List.getD,List.getElem?_eq_getElem hi]using this
      rw[←e]
      exact List.set_getElem_self hi
    have x:=OV g1 g2 hw rfl vG rfl xN
    have q:=Xz wf g1 g2 hw rfl vG rfl xN ⟨b,_,d,g1,uR, .inr rfl,g4.mono x⟩
    rw[hset]at x q
    exact ⟨_,he,_,h,c,q,x,rt _ _ _,hk⟩
  · refine wx hf hn hb (Calls.mono (used b w OI) ?_)
    rintro e w' ⟨he,rfl⟩
    exact ⟨_,he,_,h,c,wf, .refl _ _ _,rt _ _ _,hk⟩
def Gk (l:List Int):ah:=l.map fun n=>UInt8.ofNat n.toNat
theorem bstr_len (l:List Int):(Gk l).length=l.length:=List.length_map _
theorem bstr_get (l:List Int) (m:Nat) (x:UInt8) (h:(Gk l)[m]? = some x):∃n,l[m]? = some n∧x=UInt8.ofNat n.toNat:=by
  unfold Gk at h
  rw[List.getElem?_map]at h
  cases hm:l[m]? with
  | none=>rw[hm]at h; cases h
  | some n=>rw[hm]at h; simp at h; exact ⟨n,rfl,h.symm⟩
def IS (R:Type):Spec R:=fun vs h k =>
  match vs with
  | [.ptr i 0] =>
    (match h.at i with
     | .oG .cV=>k (.str []) h
     | .oG (.sl (.int .u8) l (.own j))=>(match h.at j with | .tok=>k (.str (Gk l)) h|_=>none)
     | _=>none)
  | _=>none
theorem Mk:La (IS R):=by
  intro vs h k k' he
  unfold IS
  split <;> try rfl
  split <;> try (first|rfl|exact he _)
  split <;> first|rfl|exact he _
theorem freeze_wf (wf:WF w h c) {j g:Nat} (hj:h.at j = .tok) (hg:c.wi j=some g) {cur:Array Value} {e:TypeId} {fz Mu:Nat × Nat} (h1:w.heap[g]? = some (.cells cur e fz))
    (hos:w'.os=w.os) (htape:w'.tape=w.tape) (hout:w'.output=w.output) (hsize:w'.heap.size=w.heap.size) (Qy:∀k,k≠g→w'.heap[k]? = w.heap[k]?) (h2:w'.heap[g]? = some (.cells cur e Mu))
    (hfz:(fz.1=fz.2∨fz.2≤c.off j)→(Mu.1=Mu.2∨Mu.2≤c.off j)) :
    WF w' h c∧Ext w h c w' h c:=by
  have hjl:=aO.ig hj (by simp)
  have oj:wX h c g (c.off j):=⟨j,c.off j,hg,by rw[hj]; rfl,Nat.le_refl _⟩
  have Cn:∀b x,w'.cell? ⟨b,x,none⟩=w.cell? ⟨b,x,none⟩:=fun b x=>by
    by_cases hb:b=g
    · subst hb; rw[cell_of_row w' b x cur e Mu h2,cell_of_row w b x cur e fz h1]
    · exact wq (Qy b hb)
  have x:Ext w h c w' h c := {
    os:=hos
    tape:=htape
    output:=hout
    size:=by omega
    used:=(Ext.refl w h c).used
    same:=(Ext.refl w h c).same
    cell:=fun b x _ _=>Cn b x
    block:=fun b _ ho=>Qy b (by rintro rfl; exact ho _ oj)
    AP:=(Ext.refl w h c).AP
    ext:=rfl
    arr:=fun b arr el fz0 hb=>by
      by_cases hbg:b=g
      · subst hbg; rw[h1]at hb; cases hb; exact ⟨cur,Mu,h2,rfl⟩
      · exact ⟨arr,fz0,by rw[Qy b hbg]; exact hb,rfl⟩ }
  refine ⟨?_,x⟩
  exact {
    lay:=wf.vF x
    Cc:=wf.Cc
    sL:=fun b y he=>by rw[hsize]; exact wf.sL b y he
    obj:=fun i hi=>by
      by_cases Ba:i=j
      · subst Ba
        have:=wf.obj i hi
        rw[hj]at this ⊢
        rcases this with h0|⟨b',K6,e',fz0,p1,p2,p3,p4⟩
        · rw[hg]at h0; cases h0
        · rw[hg]at p1; cases p1
          rw[h1]at p2; cases p2
          exact .inr ⟨g,cur,e,Mu,hg,h2,p3,hfz p4⟩
      · by_cases hl:(h.at i).live
        · refine (wf.obj i hi).zC x (fun b hb=>Qy b ?_) rfl rfl
          rintro rfl
          exact Ba (wf.inj i j b hl (by rw[hj]; trivial) hb hg)
        · have h0:h.at i = .free∨h.at i = .dead:=by revert hl; cases h.at i <;> simp[cj.live]
          rcases h0 with h0|h0 <;> rw[h0] <;> trivial
    inj:=wf.inj }
theorem XZ {q n:Nat} {cur:Array Value} {e:TypeId} {fz:Nat × Nat} (hn:n≠0) (hq:w.heap[q]? = some (.cells cur e fz)) :
    (w.drew.freeze ⟨q,0,none⟩ n).os=w.os∧(w.drew.freeze ⟨q,0,none⟩ n).tape=w.tape∧(w.drew.freeze ⟨q,0,none⟩ n).output=w.output∧(w.drew.freeze ⟨q,0,none⟩ n).heap.size=w.heap.size ∧
      (∀k,k≠q→(w.drew.freeze ⟨q,0,none⟩ n).heap[k]? = w.heap[k]?)∧∃Mu,(w.drew.freeze ⟨q,0,none⟩ n).heap[q]? = some (.cells cur e Mu)∧∀o,n≤o→(fz.1=fz.2∨fz.2≤o)→(Mu.1=Mu.2∨Mu.2≤o):=by
  obtain ⟨lo,hi⟩:=fz
  unfold World.freeze
  rw[if_neg hn]
  refine ⟨rfl,rfl,rfl,Array.size_modify,fun k hk => ?_,(if lo==hi then (0,0+n)else (min lo 0,max hi (0+n))),?_,fun o ho hf => ?_⟩
  · simp only[Array.getElem?_modify]
    rw[if_neg (Ne.symm hk)]
    rfl
  · simp only[Array.getElem?_modify,if_true]
    rw[show w.drew.heap[q]? = some (.cells cur e (lo,hi))from hq]
    rfl
  · simp only at hf
    split
    · exact .inr (by simp; omega)
    · rename_i ju
      have:lo≠hi:=by simpa using ju
      exact .inr (by simp; omega)
theorem u8_of {n:Int} (hn:IntKind.u8.has n):((UInt8.ofNat n.toNat).toNat:Int)=n:=by
  have:0≤n∧n≤255:=by simpa [IntKind.has,IntKind.min,IntKind.max,IntKind.signed,IntKind.bits]using hn
  simp only[UInt8.toNat_ofNat']
  omega
structure Uj (P:Program) (g:Nat):Prop where
  nil:∀(b:Nat) (p:Value) (w:World),w.heap[b]? = some (.cells #[p, .slice none 0 0] qT.oG (0,0)) →
    Calls P g #[.pointer (some ⟨b,0,none⟩)] w fun e w'=>e = .returned (.string ⟨#[]⟩)∧Below w.heap.size w w'
  noroom:∀(b q:Nat) (p:Value) (cur:Array Value) (fz:Nat × Nat) (w:World),w.heap[b]? = some (.cells #[p, .slice (some ⟨q,0,none⟩) 0 0] qT.oG (0,0))→w.heap[q]? = some (.cells cur qT.u8 fz) →
    Calls P g #[.pointer (some ⟨b,0,none⟩)] w fun e w'=>e = .returned (.string ⟨#[]⟩)∧Below w.heap.size w w'
  room:∀(b q cap:Nat) (p:Value) (w:World),cap≠0→w.heap[b]? = some (.cells #[p, .slice (some ⟨q,0,none⟩) 0 cap] qT.oG (0,0)) →
    Calls P g #[.pointer (some ⟨b,0,none⟩)] w fun e w'=>e = .returned (.string ⟨#[]⟩)∧Below w.heap.size w w'
  some:∀(b q cap:Nat) (p:Value) (cur:Array Value) (fz:Nat × Nat) (l:List UInt8) (w:World),l ≠ []→w.heap[b]? = some (.cells #[p, .slice (some ⟨q,0,none⟩) l.length cap] qT.oG (0,0)) →
    w.heap[q]? = some (.cells cur qT.u8 fz)→l.length≤cap→cap≤mx→l.length≤cur.size→(∀(j:Nat) (x:UInt8),l[j]? = some x→w.cell? ⟨q,j,none⟩=some (.int .u8 x.toNat)) →
    Calls P g #[.pointer (some ⟨b,0,none⟩)] w fun e w'=>e = .returned (.string ⟨l.toArray⟩)∧w'=w.drew.freeze ⟨q,0,none⟩ l.length
theorem bstr_ok {g:Nat} {fn:Func} (hf:P.funcs[g]? = some fn) (hn:(fn.name == "runtime.NumGoroutine")=false) (hb:fn.body.isNone=false) (D:Uj P g):Spec.Ok P g (IS R):=by
  intro vs h k r hk w c args wf ra
  unfold IS at hk
  split at hk <;> try (first|cases hk)
  rename_i i
  obtain ⟨a',rfl,r1⟩:=WJ ra
  have empty:∀ {w':World} {h':aO} {c':lj},eG w' h' c' (.str []) (.string ⟨#[]⟩):=fun {w' h' c'}=>EY ⟨#[]⟩ rfl (Nat.zero_le _)
  split at hk <;> try (first|cases hk)
  · rename_i hv
    obtain ⟨b,p,d,rfl,g1,g2,g3,g4⟩:=QJ wf r1 hv
    cases g4
    refine wx hf hn hb (Calls.mono (D.nil b p w g2) ?_)
    rintro e w' ⟨he,XF⟩
    exact ⟨_,he,_,h,c,Lh wf XF,CC XF,empty,hk⟩
  · rename_i l j hv
    split at hk <;> try (first|cases hk)
    rename_i hj
    obtain ⟨b,p,d,rfl,g1,g2,g3,g4⟩:=QJ wf r1 hv
    have hi:=aO.ig hv (by simp)
    have Ba:j≠i:=by rintro rfl; rw[hj]at hv; cases hv
    have hu8:∀x∈(l:List Int),IntKind.u8.has x:=by
      intro x hx
      cases g4 with
      | sl f ni wj hc hr DE oj =>
        obtain ⟨m,hm⟩:=List.mem_iff_getElem?.1 hx
        exact (hr m 0 x (.int .u8 x) hm rfl).j4.2
    have hlen:(Gk l).length=List.length (α:=Int) l:=bstr_len l
    cases g4 with
    | @sl _ _ _ A cap f ni wj hc hr DE oj =>
      obtain ⟨_,ho⟩:=oj j rfl
      have hcap':List.length (α:=Int) l≤cap:=ni
      have ON:∀(w':World) (h':aO) (c':lj),eG w' h' c' (.str (Gk l)) (.string ⟨(Gk l).toArray⟩):=fun w' h' c'=>EY _ rfl (by rw[hlen]; exact Nat.le_trans ni wj)
      rcases ho hj with ⟨e1,rfl,rfl⟩|⟨q,o,cur,e,fz,e1,rfl,e3,e4,e5,e6⟩
      · have Ru:l = []:=List.eq_nil_of_length_eq_zero (Nat.le_zero.1 ni)
        subst Ru
        refine wx hf hn hb (Calls.mono (D.nil b p w g2) ?_)
        rintro e w' ⟨he,XF⟩
        exact ⟨_,he,_,h,c,Lh wf XF,CC XF,ON _ _ _,hk⟩
      · obtain ⟨rfl,rfl⟩:=e6 rfl
        by_cases Ru:l = []
        · subst Ru
          by_cases OI:cap=0
          · subst OI
            refine wx hf hn hb (Calls.mono (D.noroom b q p cur fz w g2 e4) ?_)
            rintro e w' ⟨he,XF⟩
            exact ⟨_,he,_,h,c,Lh wf XF,CC XF,ON _ _ _,hk⟩
          · refine wx hf hn hb (Calls.mono (D.room b q cap p w OI g2) ?_)
            rintro e w' ⟨he,XF⟩
            exact ⟨_,he,_,h,c,Lh wf XF,CC XF,ON _ _ _,hk⟩
        · have XF:Gk l ≠ []:=fun e=>Ru (List.eq_nil_of_length_eq_zero (hlen.symm.trans (by rw[e]; rfl)))
          have e5':0+cap*1≤cur.size:=e5
          have G0:∀(m:Nat) (x:UInt8),(Gk l)[m]? = some x→w.cell? ⟨q,m,none⟩=some (.int .u8 x.toNat):=by
            intro m x hx
            obtain ⟨n,hm,rfl⟩:=bstr_get l m x hx
            have hml:m<List.length (α:=Int) l:=(List.getElem?_eq_some_iff.1 hm).1
            obtain ⟨b',o',hA,Cn,_⟩:=hc m 0 hml (by simp[Ty.sz])
            cases hA
            have hrn:=hr m 0 n (.int .u8 n) hm rfl
            rw[hrn.j4.1]at Cn
            rw[u8_of hrn.j4.2]
            simpa [Ty.sz]using Cn
          have g2':w.heap[b]? = some (.cells #[p, .slice (some ⟨q,0,none⟩) (Gk l).length cap] qT.oG (0,0)):=by rw[hlen]; exact g2
          refine wx hf hn hb (Calls.mono (D.some b q cap p cur fz (Gk l) w XF g2' e4 (by rw[hlen]; exact ni) wj (by rw[hlen]; omega) G0) ?_)
          rintro e w' ⟨he,rfl⟩
          have hne0:(Gk l).length≠0:=by simpa using XF
          obtain ⟨f1,f2,f3,f4,f5,Mu,f6,f7⟩:=XZ hne0 e4
          obtain ⟨q1,q2⟩:=freeze_wf wf hj e1 e4 f1 f2 f3 f4 f5 f6 (f7 _ (by rw[e3,hlen]; simp[Ty.sz]; exact Nat.le_refl _))
          exact ⟨_,he,_,h,c,q1,q2,ON _ _ _,hk⟩
end
def xC (s:ah):Bool:=s.all fun b=>decide (b.toNat<128)
def pd (s:ah):Bool:=Go.Lib.validD s
def qF (s:ah):Nat × Nat:=if s.isEmpty then (65533,0)else Utf8.decode ⟨s.toArray⟩ 0
def cK (n:Int):ah:=Go.Lib.itoa n
def nj (s:ah) (n:Int):ah:=Go.Lib.repeatL s n.toNat
def bB (s cs:ah):ah:=s.dropWhile (cs.contains ·)
def cS (s cs:ah):ah:=(s.reverse.dropWhile (cs.contains ·)).reverse
def wy (s:ah):Bool:=match Go.Lib.atoiAll s with | .ok _=>true|_=>false
def ft (s:ah):Int:=match Go.Lib.atoiAll s with | .ok v=>v | .range=>Go.Lib.atoiSat s|_=>0
def Uk (s cs:ah):Bool:=Go.Lib.containsAny s cs
def Dt (s:ah) (c:Int):Int:=Go.Lib.indexByte s c.toNat.toUInt8
section
variable (R:Type)
def X0:Spec R:=fun vs h k=>match vs with | [.str s]=>k (.bool (pd s)) h|_=>none
def dec_S:Spec R:=fun vs h k=>match vs with | [.str s]=>k (.tuple [.int .i32 (qF s).1, .int .i64 (qF s).2]) h|_=>none
def itoa_S:Spec R:=fun vs h k=>match vs with | [.int .i64 n]=>k (.str (cK n)) h|_=>none
def rep_S:Spec R:=fun vs h k=>match vs with | [.str s, .int .i64 n]=>cu (decide (0≤n)&&decide ((s.length:Int)*n≤140737488355328)) (k (.str (nj s n)) h)|_=>none
def Pd:Spec R:=fun vs h k=>match vs with | [.str s, .str cs]=>cu (xC cs&&decide (cs.length<4294967281)) (k (.str (bB s cs)) h)|_=>none
def X1:Spec R:=fun vs h k=>match vs with | [.str s, .str cs]=>cu (xC cs&&decide (cs.length<4294967281)) (k (.str (cS s cs)) h)|_=>none
def X2:Spec R:=fun vs h k=>match vs with
 | [.str s]=>cu (decide (s.length≤281474976710656)) (bif wy s then k (.tuple [.int .i64 (ft s), .eg]) h else k (.tuple [.int .i64 (ft s), .iface]) h)
 | _=>none
def toErr_S (T:Nat):Spec R:=fun vs h k=>match vs with
 | [.str _, .str s, .int .i64 _, .int .i64 _, .NU t .i64 n]=>cu (Nat.beq t T&&(n==2||n==1)) (cu (decide (s.length≤281474976710656)) (k .iface h))
 | _=>none
def Ul:Spec R:=fun vs h k=>match vs with
 | [.str s, .str cs]=>cu (xC s&&xC cs&&decide (s.length<4294967281)&&decide (cs.length<4294967281)) (k (.bool (Uk s cs)) h)
 | _=>none
def idx_S:Spec R:=fun vs h k=>match vs with | [.str s, .int .u8 c]=>k (.int .i64 (Dt s c)) h|_=>none
end
section
variable {P:Program} {w w':World} {h:aO} {c:lj} {R:Type}
open Go.Lib
theorem S6 {s:ah} (hs:xC s=true):∀(j:Nat) (b:UInt8),s[j]? = some b→b.toNat<128:=by
 intro j b hb
 have:=List.all_eq_true.1 hs b (List.mem_of_getElem? hb)
 simpa using this
theorem vH (p:UInt8→Bool):∀s:ah,(s.dropWhile p).length≤s.length
 | []=>Nat.le_refl _
 | b::s=>by
  rw[List.dropWhile_cons]
  split
  ·have:=vH p s; simp; omega
  ·exact Nat.le_refl _
theorem X3 (l:ah) (h':l.length≤mx):eG w h c (.str l) (.string ⟨l.toArray⟩):=EY _ rfl h'
theorem oz {g:Nat} {args:Array Value} {Q:Ending→World→Prop} {v:V} (hc:Calls P g args w Q)
  (hq:∀e w',Q e w'→∃d,e = .returned d∧Below w.heap.size w w'∧eG w' h c v d):Calls P g args w fun e w'=>∃d,e = .returned d∧Below w.heap.size w w'∧eG w' h c v d:=Calls.mono hc fun e w' q=>hq e w' q
end
end Go.aG
set_option maxRecDepth 100000
namespace Go.aG
open Go.Lib
def vr (c:Nat):Prop:=c<55296∨(57344≤c∧c≤1114111)
instance (c:Nat):Decidable (vr c):=inferInstanceAs (Decidable (_∨_))
def enc (c:Nat):ah:=encodeRune (c:Int)
theorem enc1 {c:Nat} (h:c<128):enc c = [UInt8.ofNat c]:=by
 unfold enc encodeRune encodeRuneZ
 rw[if_pos (by omega)]
 rfl
theorem enc2 {c:Nat} (h0:128≤c) (h:c<2048):enc c = [UInt8.ofNat (192+c / 64),UInt8.ofNat (128+c % 64)]:=by
 unfold enc encodeRune encodeRuneZ
 rw[if_neg (by omega),if_pos (by omega)]
 have e1:(192+(c:Int) / 64).toNat=192+c / 64:=by omega
 have e2:(128+(c:Int) % 64).toNat=128+c % 64:=by omega
 simp only[List.map_cons,List.map_nil,e1,e2]
theorem enc3 {c:Nat} (h0:2048≤c) (h:c<65536) (hv:vr c):enc c = [UInt8.ofNat (224+c / 4096),UInt8.ofNat (128+c / 64 % 64),UInt8.ofNat (128+c % 64)]:=by
 unfold vr at hv
 unfold enc encodeRune encodeRuneZ
 rw[if_neg (by omega),if_neg (by omega),if_pos (by omega)]
 have e1:(224+(c:Int) / 4096).toNat=224+c / 4096:=by omega
 have e2:(128+(c:Int) / 64 % 64).toNat=128+c / 64 % 64:=by omega
 have e3:(128+(c:Int) % 64).toNat=128+c % 64:=by omega
 simp only[List.map_cons,List.map_nil,e1,e2,e3]
theorem enc4 {c:Nat} (h0:65536≤c) (h:c<1114112):enc c = [UInt8.ofNat (240+c / 262144),UInt8.ofNat (128+c / 4096 % 64),UInt8.ofNat (128+c / 64 % 64),UInt8.ofNat (128+c % 64)]:=by
 unfold enc encodeRune encodeRuneZ
 rw[if_neg (by omega),if_neg (by omega),if_neg (by omega),if_pos (by omega)]
 have e1:(240+(c:Int) / 262144).toNat=240+c / 262144:=by omega
 have e2:(128+(c:Int) / 4096 % 64).toNat=128+c / 4096 % 64:=by omega
 have e3:(128+(c:Int) / 64 % 64).toNat=128+c / 64 % 64:=by omega
 have e4:(128+(c:Int) % 64).toNat=128+c % 64:=by omega
 simp only[List.map_cons,List.map_nil,e1,e2,e3,e4]
theorem iV (n:Nat) (h:n<256):(UInt8.ofNat n).toNat=n:=by
 simp only[UInt8.toNat_ofNat']
 omega
theorem WK {c:Nat} (h:vr c):c<1114112:=by unfold vr at h; omega
theorem FD {c:Nat} (hv:vr c):(c<128∧enc c = [UInt8.ofNat c])∨(128≤c∧c<2048∧enc c = [UInt8.ofNat (192+c / 64),UInt8.ofNat (128+c % 64)]) ∨
  (2048≤c∧c<65536∧enc c = [UInt8.ofNat (224+c / 4096),UInt8.ofNat (128+c / 64 % 64),UInt8.ofNat (128+c % 64)]) ∨
  (65536≤c∧enc c = [UInt8.ofNat (240+c / 262144),UInt8.ofNat (128+c / 4096 % 64),UInt8.ofNat (128+c / 64 % 64),UInt8.ofNat (128+c % 64)]):=by
 have:=WK hv
 by_cases h1:c<128
 ·exact .inl ⟨h1,enc1 h1⟩
 by_cases h2:c<2048
 ·exact .inr (.inl ⟨by omega,h2,enc2 (by omega) h2⟩)
 by_cases h3:c<65536
 ·exact .inr (.inr (.inl ⟨by omega,h3,enc3 (by omega) h3 hv⟩))
 ·exact .inr (.inr (.inr ⟨by omega,enc4 (by omega) this⟩))
theorem GM {c:Nat} (hv:vr c):1≤(enc c).length∧(enc c).length≤4:=by
 rcases FD hv with ⟨_,e⟩|⟨_,_,e⟩|⟨_,_,e⟩|⟨_,e⟩ <;> rw[e] <;> simp
theorem S7 {c:Nat} (hv:vr c) (t:ah):decodeL (enc c++t)=(c,(enc c).length):=by
 have kY:=WK hv
 unfold vr at hv
 rw[decodeL_N]
 rcases FD hv with ⟨h1,e⟩|⟨h0,h1,e⟩|⟨h0,h1,e⟩|⟨h0,e⟩ <;> rw[e]
 ·simp only[List.cons_append,List.getD_cons_zero,iV c (by omega)]
  exact decodeN_ascii _ _ _ _ _ h1
 ·simp only[List.cons_append,List.nil_append,List.getD_cons_zero,List.getD_cons_succ,iV (192+c / 64) (by omega),iV (128+c % 64) (by omega),List.length_cons]
  unfold decodeN
  rw[if_neg (by omega),if_pos ⟨by omega,by omega,by omega⟩,if_pos (by omega)]
  refine Prod.ext ?_ rfl
  show (192+c / 64) % 32*64+(128+c % 64) % 64=c
  omega
 ·simp only[List.cons_append,List.nil_append,List.getD_cons_zero,List.getD_cons_succ,iV (224+c / 4096) (by omega),iV (128+c / 64 % 64) (by omega),iV (128+c % 64) (by omega),List.length_cons]
  unfold decodeN
  have k:(224+c / 4096) % 16*4096+(128+c / 64 % 64) % 64*64+(128+c % 64) % 64=c:=by omega
  rw[if_neg (by omega),if_neg (by omega),if_pos ⟨by omega,⟨by omega,by omega⟩,by omega,by omega⟩,k,if_pos (by omega)]
  simp only[List.length_nil]
 ·simp only[List.cons_append,List.nil_append,List.getD_cons_zero,List.getD_cons_succ,iV (240+c / 262144) (by omega),iV (128+c / 4096 % 64) (by omega),iV (128+c / 64 % 64) (by omega),iV (128+c % 64) (by omega),List.length_cons]
  unfold decodeN
  have k:(240+c / 262144) % 8*262144+(128+c / 4096 % 64) % 64*4096+(128+c / 64 % 64) % 64*64+(128+c % 64) % 64=c:=by omega
  rw[if_neg (by omega),if_neg (by omega),if_neg (by omega),if_pos ⟨by omega,⟨by omega,by omega⟩,⟨by omega,by omega⟩,by omega,by omega⟩,k,if_pos (by omega)]
  simp only[List.length_nil]
def Pe (l:ah):Prop:=¬((decodeL l).1=65533∧(decodeL l).2=1)
instance (l:ah):Decidable (Pe l):=inferInstanceAs (Decidable (¬_))
theorem ZQ {c:Nat} (hv:vr c) (t:ah):Pe (enc c++t):=by
 unfold Pe
 rw[S7 hv t]
 rintro ⟨h1,h2⟩
 simp only at h1 h2
 rw[h1]at h2
 rw[enc3 (by omega) (by omega) (by unfold vr; omega)]at h2
 cases h2
theorem decodeN_vr (n b0 b1 b2 b3:Nat) (h0:b0<256):vr (decodeN n b0 b1 b2 b3).1:=by
 unfold vr decodeN
 repeat' split
 all_goals simp only
 all_goals omega
theorem dec_vr (l:ah):vr (decodeL l).1:=by
 rw[decodeL_N]
 exact decodeN_vr _ _ _ _ _ (UInt8.toNat_lt _)
theorem Um {l:ah} (ju:l ≠ []) (h:Pe l):l=enc (decodeL l).1++l.drop (decodeL l).2∧(enc (decodeL l).1).length=(decodeL l).2:=by
 have h1:=encode_decode l ju h
 have h2:=decodeL_le l ju
 refine ⟨?_,?_⟩
 ·unfold enc
  rw[h1,List.take_append_drop]
 ·unfold enc
  rw[h1,List.length_take]
  omega
theorem RF {l:ah} (ju:l ≠ []):pd l=if Pe l then pd (l.drop (decodeL l).2)else false:=by
 unfold pd
 rw[validD_step l ju]
 by_cases h:Pe l
 ·rw[if_pos h,if_neg (show ¬((decodeL l).1=65533∧(decodeL l).2=1)from h)]
 ·rw[if_neg h,if_pos (Decidable.not_not.1 h)]
theorem enc_ne {c:Nat} (hv:vr c) (t:ah):enc c++t ≠ []:=by
 have:=GM hv
 intro e
 have:=congrArg List.length e
 rw[List.length_append,List.length_nil]at this
 omega
theorem validS_enc {c:Nat} (hv:vr c) (t:ah):pd (enc c++t)=pd t:=by
 rw[RF (enc_ne hv t),if_pos (ZQ hv t),S7 hv t]
 simp
def eD (rs:List Nat):ah:=rs.flatMap enc
theorem RG:∀(rs:List Nat),(∀c∈rs,vr c)→∀t,pd (eD rs++t)=pd t
 | [],_,t=>rfl
 | c::rs,h,t=>by
  have:eD (c::rs)++t=enc c++(eD rs++t):=by simp[eD]
  rw[this,validS_enc (h c (by simp)),RG rs (fun x hx=>h x (by simp[hx]))]
theorem RH:∀(n:Nat) (l:ah),l.length≤n→pd l=true→∃rs:List Nat,(∀c∈rs,vr c)∧l=eD rs
 | 0,l,hl,_=>⟨[],by simp,List.eq_nil_of_length_eq_zero (by omega)⟩
 | n+1,l,hl,h=>by
  by_cases ju:l = []
  ·exact ⟨[],by simp,ju⟩
  rw[RF ju]at h
  split at h
  ·rename_i hg
   obtain ⟨h1,h2⟩:=Um ju hg
   have h3:=GM (dec_vr l)
   obtain ⟨rs,hr,e⟩:=RH n (l.drop (decodeL l).2) (by rw[List.length_drop]; omega) h
   refine ⟨(decodeL l).1::rs,?_,?_⟩
   ·intro c hc
    rcases List.mem_cons.1 hc with rfl|hc
    ·exact dec_vr l
    ·exact hr c hc
   ·exact h1.trans ((congrArg (enc (decodeL l).1 ++ ·) e).trans (by simp[eD]))
  ·cases h
theorem WL {l:ah}:pd l=true↔∃rs:List Nat,(∀c∈rs,vr c)∧l=eD rs:=by
 refine ⟨RH l.length l (Nat.le_refl _),?_⟩
 rintro ⟨rs,hr,rfl⟩
 have:=RG rs hr []
 rw[List.append_nil]at this
 rw[this]; rfl
theorem GN {s t:ah} {i:Nat} (h:i<s.length):(s++t).getD i 0=s.getD i 0:=by
 simp[List.getD,List.getElem?_append_left h]
theorem ZR {s t:ah} {x:UInt8}:(s++x::t).getD s.length 0=x:=by
 simp[List.getD]
end Go.aG
namespace Go.aG
theorem aS {R:Type} {b:Bool} {k:Option R} (h:b=true):cu b k=k:=by subst h; rfl
theorem bw {n:Int} (h1 : -9223372036854775808≤n) (h2:n≤9223372036854775807):IntKind.i64.wrap n=n:=by
 simp only[IntKind.wrap,IntKind.bits,IntKind.signed,IntKind.min,IntKind.max]
 simp
 omega
theorem Json.eta (x:Json):(⟨x.kind,⟨x.num.aF,x.num.exp⟩,x.text,x.names,x.items⟩:Json)=x:=by cases x; rfl
theorem Raw.eta (x:Raw):(⟨x.kind,x.aF,x.exp,x.text,x.items⟩:Raw)=x:=by cases x; rfl
theorem getD_at {α:Type} {l:List α} {i:Nat} (h:i<l.length) (d:α):l.getD i d=l[i]:=by simp[List.getD,h]
end Go.aG
set_option maxRecDepth 100000
namespace Go.Proofs.YtmlkkgfenfdndaaGreatDoor
open Go Go.aG Go.RowKit Go.Shelf
section
variable {w w':World} {h:aO} {c:lj} {R:Type}
theorem below_drewN:∀(q:Nat) (a:World),Below w.heap.size w a→Below w.heap.size w (a.drewN q)
 | 0,_,ha=>ha
 | q+1,a,ha=>(below_drewN q a ha).drew
theorem below_push (a:World) (os:Array Obj) (ha:Below w.heap.size w a):Below w.heap.size w { a with heap:=a.heap++os } :=
 ⟨ha.os,ha.tape,ha.output,by simp; have:=ha.size; omega,fun k hk=>by
  have:=ha.size
  rw[←ha.block k hk]
  exact Array.getElem?_append_left (by omega)⟩
theorem ZS (e:TypeId) (t:ByteArray):Below w.heap.size w (Go.Lib.bytesWorld w e t):=by
 unfold Go.Lib.bytesWorld World.freeze
 have hb:Below w.heap.size w (w.drew.alloc (.cells (Go.Lib.bytesCells w e t) e)):=Cv w _
 split
 ·exact hb
 ·refine ⟨hb.os,hb.tape,hb.output,?_,fun k hk => ?_⟩
  ·have:=hb.size; simpa using this
  ·rw[←hb.block k hk]
   simp only[Array.getElem?_modify]
   rw[if_neg (by show ¬w.heap.size=k; omega)]
theorem trimL_le (s cs:ah):(bB s cs).length≤s.length:=vH _ s
theorem trimR_le (s cs:ah):(cS s cs).length≤s.length:=by
 unfold cS
 rw[List.length_reverse]
 exact Nat.le_trans (vH _ _) (by simp)
theorem trimL_nil (s:ah):bB s []=s:=by
 unfold bB
 cases s with
 | nil=>rfl
 | cons b s=>simp
theorem trimR_nil (s:ah):cS s []=s:=by
 unfold cS
 have:(s.reverse.dropWhile fun x=>List.contains [] x)=s.reverse:=by
  cases s.reverse with
  | nil=>rfl
  | cons b s=>simp
 rw[this,List.reverse_reverse]
theorem trimL_one (s:ah) (b:UInt8):bB s [b]=Go.Lib.trimLeftB s b:=by
 unfold bB Go.Lib.trimLeftB
 congr 1
 funext x
 rw[List.contains_cons]
 show (x==b||false)=_
 rw[Bool.or_false]
theorem trimR_one (s:ah) (b:UInt8):cS s [b]=Go.Lib.trimRightB s b:=by
 unfold cS Go.Lib.trimRightB
 congr 2
 funext x
 rw[List.contains_cons]
 show (x==b||false)=_
 rw[Bool.or_false]
theorem valid_ok:aG.Spec.Ok Tryz.prog 72 (X0 R):=by
 refine sj Tryz.func72 rfl rfl fun vs hp k r hk w c args wf ra => ?_
 unfold X0 at hk
 split at hk <;> try (first|cases hk)
 rename_i s
 obtain ⟨a,rfl,r1⟩:=WJ ra
 obtain ⟨t,rfl,rfl,hl⟩:=r1.lZ
 refine ⟨_,hk,oz (Any.utf8_ValidString Tryz.lay196 t w hl wf.lay.1.1) ?_⟩
 rintro e w' ⟨he,hb⟩
 exact ⟨_,he,hb, .bool _⟩
theorem dec_ok:aG.Spec.Ok Tryz.prog 130 (dec_S R):=by
 refine sj Tryz.func130 rfl rfl fun vs hp k r hk w c args wf ra => ?_
 unfold dec_S at hk
 split at hk <;> try (first|cases hk)
 rename_i s
 obtain ⟨a,rfl,r1⟩:=WJ ra
 obtain ⟨t,rfl,rfl,hl⟩:=r1.lZ
 have hd:Go.Lib.decodeGo t=qF t.data.toList:=by
  unfold Go.Lib.decodeGo qF
  by_cases h0:t.size=0
  ·have:t.data.toList = []:=List.eq_nil_of_length_eq_zero (by rw[size_data]; exact h0)
   simp[h0,this]
  ·have:t.data.toList ≠ []:=fun e=>h0 (by rw[←size_data,e]; rfl)
   have hm:(⟨t.data.toList.toArray⟩:ByteArray)=t:=wo rfl
   simp[h0,hm]
   exact fun e=>absurd (show t.data.size=0 by rw[e]; rfl) h0
 have kY:(qF t.data.toList).1<2097152∧(qF t.data.toList).2≤4:=by
  unfold qF
  split
  ·exact ⟨by omega,by omega⟩
  ·exact ⟨(Qz _ _).1,(Qz _ _).2.2⟩
 refine ⟨_,hk,oz (Any.utf8_DecodeRuneInString Tryz.lay197 t w wf.lay.1.1) ?_⟩
 rintro e w' ⟨he,hb⟩
 rw[hd]at he
 refine ⟨_,he,hb, .tuple rfl fun j v d hv hd => ?_⟩
 match j,hv,hd with
 | 0,hv,hd=>simp at hv hd; subst hv; subst hd; exact .int (Zv _ kY.1)
 | 1,hv,hd=>simp at hv hd; subst hv; subst hd; exact .int (IB _ (by unfold mx; omega))
 | j+2,hv,_=>simp at hv
theorem itoa_ok:aG.Spec.Ok Tryz.prog 66 (itoa_S R):=by
 refine sj Tryz.func66 rfl rfl fun vs hp k r hk w c args wf ra => ?_
 unfold itoa_S at hk
 split at hk <;> try (first|cases hk)
 rename_i n
 obtain ⟨a,rfl,r1⟩:=WJ ra
 obtain ⟨rfl,hn⟩:=r1.j4
 have YH : -9223372036854775808≤n∧n≤9223372036854775807:=by simpa [IntKind.has,IntKind.min,IntKind.max,IntKind.signed,IntKind.bits]using hn
 refine ⟨_,hk,oz (Any.strconv_Itoa Tryz.lay171 n YH.1 YH.2 w wf.lay.1.2.1) ?_⟩
 rintro e w' ⟨he,q,os,rfl⟩
 refine ⟨_,he,below_push _ os (below_drewN q w (Below.refl _ _)),X3 _ ?_⟩
 have:=Go.Lib.itoa_length_le n YH.1 YH.2
 unfold cK mx
 omega
theorem x72:Builder.X72 Tryz.prog Tryz.IQ := { sizeBuilder:=by kernel_rfl,liesBuilder:=by kernel_rfl }
theorem xBuilder:Builder.Extra Tryz.prog Tryz.IQ := { x72 with t5:=Tryz.underlying5,a5:=Tryz.isAgg5,z5:=Tryz.sizeOf5,v5:=Tryz.zeroValue5,infoByte:=by kernel_rfl,cellsByte:=by kernel_rfl,sizeByte:=by kernel_rfl,neB5:=by decide }
theorem rep_ok:aG.Spec.Ok Tryz.prog 67 (rep_S R):=by
 refine sj Tryz.func67 rfl rfl fun vs hp k r hk w c args wf ra => ?_
 unfold rep_S at hk
 split at hk <;> try (first|cases hk)
 rename_i s n
 obtain ⟨hc,hk⟩:=cD hk
 simp only[Bool.and_eq_true,decide_eq_true_eq]at hc
 obtain ⟨h0,hlen⟩:=hc
 obtain ⟨a,b,rfl,r1,r2⟩:=ZP ra
 obtain ⟨t,rfl,rfl,hl⟩:=r1.lZ
 obtain ⟨rfl,hn⟩:=r2.j4
 obtain ⟨m,rfl⟩:=Int.eq_ofNat_of_zero_le h0
 have YH:(m:Int)≤9223372036854775807:=by
  have:IntKind.i64.has (m:Int):=hn
  simp[IntKind.has,IntKind.min,IntKind.max,IntKind.signed,IntKind.bits]at this
  omega
 rw[size_data]at hlen
 have hlen':t.size*m≤140737488355328:=by omega
 have hrl:(Go.Lib.repeatL t.data.toList m).length≤140737488355328:=by
  rw[Go.Lib.repeatL_length,size_data,Nat.mul_comm]; exact hlen'
 refine ⟨_,hk,oz (Any.strings_Repeat Tryz.lay105 xBuilder t m w (by omega) hlen') ?_⟩
 rintro e w' ⟨he,hb⟩
 refine ⟨_,he,hb,?_⟩
 have e2:nj t.data.toList (m:Int)=Go.Lib.repeatL t.data.toList m:=by unfold nj; simp
 rw[e2]
 exact X3 _ (by unfold mx; omega)
theorem Un:aG.Spec.Ok Tryz.prog 68 (Pd R):=by
 refine sj Tryz.func68 rfl rfl fun vs hp k r hk w c args wf ra => ?_
 unfold Pd at hk
 split at hk <;> try (first|cases hk)
 rename_i s cs
 obtain ⟨hc,hk⟩:=cD hk
 simp only[Bool.and_eq_true,decide_eq_true_eq]at hc
 obtain ⟨ha,KY⟩:=hc
 obtain ⟨a,b,rfl,r1,r2⟩:=ZP ra
 obtain ⟨t,rfl,rfl,hl⟩:=r1.lZ
 obtain ⟨u,rfl,rfl,VE⟩:=r2.lZ
 rw[size_data]at KY
 have hasc:=S6 ha
 have hle:=trimL_le t.data.toList u.data.toList
 rw[size_data]at hle
 have fin:∀(l:ah),l=bB t.data.toList u.data.toList→∀w':World,eG w' hp c (.str (bB t.data.toList u.data.toList)) (.string ⟨l.toArray⟩):=fun l e w'=>by
  rw[e]; exact X3 _ (by omega)
 by_cases h0:t.size=0∨u.size=0
 ·refine ⟨_,hk,oz (Any.strings_TrimLeft_empty Tryz.lay161 t u w h0) ?_⟩
  rintro e w' ⟨he,rfl⟩
  have e2:(⟨t.data.toList.toArray⟩:ByteArray)=t:=wo rfl
  rw[←e2]at he
  refine ⟨_,he,Below.refl _ _,fin _ ?_ _⟩
  rcases h0 with h0|h0
  ·have:t.data.toList = []:=List.eq_nil_of_length_eq_zero (by rw[size_data]; exact h0)
   rw[this]; unfold bB; simp
  ·have:u.data.toList = []:=List.eq_nil_of_length_eq_zero (by rw[size_data]; exact h0)
   rw[this,trimL_nil]
 ·have hu1:u.size=1∨2≤u.size:=by omega
  rcases hu1 with hu1|hu2
  ·obtain ⟨b,hb⟩:∃b,u.data.toList = [b]:=by
    have hul:u.data.toList.length=1:=by rw[size_data]; exact hu1
    match hq:u.data.toList,hul with
    | [b],_=>exact ⟨b,rfl⟩
   have eu:u=⟨#[b]⟩:=wo (by rw[hb])
   subst eu
   refine ⟨_,hk,oz (Any.strings_TrimLeft_one Tryz.lay161 t b (hasc 0 b rfl) w) ?_⟩
   rintro e w' ⟨he,rfl⟩
   exact ⟨_,he,Below.refl _ _,fin _ (trimL_one _ _).symm _⟩
  ·refine ⟨_,hk,oz (Any.strings_TrimLeft_set Tryz.lay161 Tryz.zeroValue135 (by kernel_rfl) t u w hu2 (by omega) (by omega) hasc) ?_⟩
   rintro e w' ⟨he,rfl⟩
   refine ⟨_,he,?_,fin _ rfl _⟩
   exact ((Below.refl _ _).alloc (Nat.le_refl _) _).alloc (by simp) _
theorem trimR_ok:aG.Spec.Ok Tryz.prog 104 (X1 R):=by
 refine sj Tryz.func104 rfl rfl fun vs hp k r hk w c args wf ra => ?_
 unfold X1 at hk
 split at hk <;> try (first|cases hk)
 rename_i s cs
 obtain ⟨hc,hk⟩:=cD hk
 simp only[Bool.and_eq_true,decide_eq_true_eq]at hc
 obtain ⟨ha,KY⟩:=hc
 obtain ⟨a,b,rfl,r1,r2⟩:=ZP ra
 obtain ⟨t,rfl,rfl,hl⟩:=r1.lZ
 obtain ⟨u,rfl,rfl,VE⟩:=r2.lZ
 rw[size_data]at KY
 have hasc:=S6 ha
 have hle:=trimR_le t.data.toList u.data.toList
 rw[size_data]at hle
 have fin:∀(l:ah),l=cS t.data.toList u.data.toList→∀w':World,eG w' hp c (.str (cS t.data.toList u.data.toList)) (.string ⟨l.toArray⟩):=fun l e w'=>by
  rw[e]; exact X3 _ (by omega)
 by_cases h0:t.size=0∨u.size=0
 ·refine ⟨_,hk,oz (Any.strings_TrimRight_empty Tryz.lay162 t u w h0) ?_⟩
  rintro e w' ⟨he,rfl⟩
  have e2:(⟨t.data.toList.toArray⟩:ByteArray)=t:=wo rfl
  rw[←e2]at he
  refine ⟨_,he,Below.refl _ _,fin _ ?_ _⟩
  rcases h0 with h0|h0
  ·have:t.data.toList = []:=List.eq_nil_of_length_eq_zero (by rw[size_data]; exact h0)
   rw[this]; unfold cS; simp
  ·have:u.data.toList = []:=List.eq_nil_of_length_eq_zero (by rw[size_data]; exact h0)
   rw[this,trimR_nil]
 ·have hu1:u.size=1∨2≤u.size:=by omega
  rcases hu1 with hu1|hu2
  ·obtain ⟨b,hb⟩:∃b,u.data.toList = [b]:=by
    have hul:u.data.toList.length=1:=by rw[size_data]; exact hu1
    match hq:u.data.toList,hul with
    | [b],_=>exact ⟨b,rfl⟩
   have eu:u=⟨#[b]⟩:=wo (by rw[hb])
   subst eu
   refine ⟨_,hk,oz (Any.strings_TrimRight_one Tryz.lay162 t b (hasc 0 b rfl) w hl) ?_⟩
   rintro e w' ⟨he,rfl⟩
   exact ⟨_,he,Below.refl _ _,fin _ (trimR_one _ _).symm _⟩
  ·refine ⟨_,hk,oz (Any.strings_TrimRight_set Tryz.lay162 Tryz.zeroValue135 (by kernel_rfl) t u w hu2 (by omega) hl (by omega) hasc) ?_⟩
   rintro e w' ⟨he,rfl⟩
   refine ⟨_,he,?_,fin _ rfl _⟩
   exact ((Below.refl _ _).alloc (Nat.le_refl _) _).alloc (by simp) _
theorem atoi_ok:aG.Spec.Ok Tryz.prog 105 (X2 R):=by
 refine sj Tryz.func105 rfl rfl fun vs hp k r hk w c args wf ra => ?_
 unfold X2 at hk
 split at hk <;> try (first|cases hk)
 rename_i s
 obtain ⟨hc,hk⟩:=cD hk
 simp only[decide_eq_true_eq]at hc
 obtain ⟨a,rfl,r1⟩:=WJ ra
 obtain ⟨t,rfl,rfl,hl⟩:=r1.lZ
 rw[size_data]at hc
 obtain ⟨_,_,⟨t1,x1,hv1⟩,⟨t2,x2,hv2⟩⟩:=wf.lay.1
 have Uo:IntKind.i64.has (ft t.data.toList):=by
  unfold ft
  split
  ·rename_i v hv
   unfold Go.Lib.atoiAll at hv
   split at hv
   ·cases hv
   ·dsimp only at hv
    split at hv
    ·cases hv
    ·cases hv
    ·rename_i u _
     split at hv
     ·cases hv
     ·split at hv
      ·cases hv
      ·cases hv
       split <;> simp[IntKind.has,IntKind.min,IntKind.max,IntKind.signed,IntKind.bits] <;> omega
  ·unfold Go.Lib.atoiSat
   split <;> simp[IntKind.has,IntKind.min,IntKind.max,IntKind.signed,IntKind.bits]
  ·simp[IntKind.has,IntKind.min,IntKind.max,IntKind.signed,IntKind.bits]
 have two:∀(z:Int) (u:V) (w':World) (x:Value),ft t.data.toList=z→eG w' hp c u x→eG w' hp c (.tuple [.int .i64 (ft t.data.toList),u]) (.tuple #[.int .i64 z,x]):=fun z u w' x hz hx=>by
  subst hz
  refine .tuple rfl fun j v d hv hd => ?_
  match j,hv,hd with
  | 0,hv,hd=>simp at hv hd; subst hv; subst hd; exact .int Uo
  | 1,hv,hd=>simp at hv hd; subst hv; subst hd; exact hx
  | j+2,hv,_=>simp at hv
 rcases hA:Go.Lib.atoiAll t.data.toList with v|_|_
 ·
  have e1:wy t.data.toList=true:=by unfold wy; rw[hA]
  have e2:ft t.data.toList=v:=by unfold ft; rw[hA]
  rw[e1]at hk
  refine ⟨_,hk,oz (Any.strconv_Atoi_ok Tryz.lay172 t (by omega) v hA w) ?_⟩
  rintro e w' ⟨he,hb⟩
  refine ⟨_,he,?_,two _ _ _ _ e2 .eg⟩
  rcases hb with rfl|⟨q,rfl⟩
  ·exact Below.refl _ _
  ·exact ZS _ _
 ·
  have e1:wy t.data.toList=false:=by unfold wy; rw[hA]
  have e2:ft t.data.toList=0:=by unfold ft; rw[hA]
  rw[e1]at hk
  refine ⟨_,hk,oz (Any.strconv_Atoi_syntax Tryz.lay172 t hc hA (.iface t1 x1) w hv1 (.inr ⟨_,_,rfl⟩)) ?_⟩
  rintro e w' ⟨q,he,_,_,hb⟩
  exact ⟨_,he,hb,two _ _ _ _ e2 (.iface _ _)⟩
 ·
  have e1:wy t.data.toList=false:=by unfold wy; rw[hA]
  have e2:ft t.data.toList=Go.Lib.atoiSat t.data.toList:=by unfold ft; rw[hA]
  rw[e1]at hk
  refine ⟨_,hk,oz (Any.strconv_Atoi_range Tryz.lay172 t hc hA (.iface t2 x2) w hv2 (.inr ⟨_,_,rfl⟩)) ?_⟩
  rintro e w' ⟨q,he,_,_,hb⟩
  exact ⟨_,he,hb,two _ _ _ _ e2 (.iface _ _)⟩
theorem toErr_ok:aG.Spec.Ok Tryz.prog 136 (toErr_S R 184):=by
 refine sj Tryz.func136 rfl rfl fun vs hp k r hk w c args wf ra => ?_
 unfold toErr_S at hk
 split at hk <;> try (first|cases hk)
 rename_i fn s b1 b2 t n
 obtain ⟨hc,hk1⟩:=cD hk
 obtain ⟨Ru,KX⟩:=cD hk1
 simp only[Bool.and_eq_true,Bool.or_eq_true,beq_iff_eq,decide_eq_true_eq]at hc Ru
 obtain ⟨ht,hn⟩:=hc
 have ht:=Nat.eq_of_beq_eq_true ht
 subst ht
 obtain ⟨l⟩:=args
 match l,ra with
 | [a1,a2,a3,a4,a5],ra =>
  obtain ⟨t1,rfl,rfl,_⟩:=ra.head.lZ
  obtain ⟨t2,rfl,rfl,VE⟩:=ra.tail.head.lZ
  obtain ⟨rfl,_⟩:=ra.tail.tail.head.j4
  obtain ⟨rfl,_⟩:=ra.tail.tail.tail.head.j4
  obtain ⟨rfl,_⟩:=ra.tail.tail.tail.tail.head.Xv
  rw[size_data]at Ru
  obtain ⟨_,_,⟨p1,x1,hv1⟩,⟨p2,x2,hv2⟩⟩:=wf.lay.1
  rcases hn with rfl|rfl
  ·refine ⟨_,KX,oz (Any.strconv_toError_syntax Tryz.lay245 t1 t2 b1 b2 (.iface p1 x1) w Ru hv1 (.inr ⟨_,_,rfl⟩)) ?_⟩
   rintro e w' ⟨q,he,_,_,hb⟩
   exact ⟨_,he,hb, .iface _ _⟩
  ·refine ⟨_,KX,oz (Any.strconv_toError_range Tryz.lay245 t1 t2 b1 b2 (.iface p2 x2) w Ru hv2 (.inr ⟨_,_,rfl⟩)) ?_⟩
   rintro e w' ⟨q,he,_,_,hb⟩
   exact ⟨_,he,hb, .iface _ _⟩
 | [],ra=>have:=ra.1; simp at this
 | [_],ra=>have:=ra.1; simp at this
 | [_,_],ra=>have:=ra.1; simp at this
 | [_,_,_],ra=>have:=ra.1; simp at this
 | [_,_,_,_],ra=>have:=ra.1; simp at this
 | _::_::_::_::_::_::_,ra=>have:=ra.1; simp at this
theorem hasAny_ok:aG.Spec.Ok Tryz.prog 173 (Ul R):=by
 refine sj Tryz.func173 rfl rfl fun vs hp k r hk w c args wf ra => ?_
 unfold Ul at hk
 split at hk <;> try (first|cases hk)
 rename_i s cs
 obtain ⟨hc,hk⟩:=cD hk
 simp only[Bool.and_eq_true,decide_eq_true_eq]at hc
 obtain ⟨⟨⟨ha,hb⟩,hsl⟩,KY⟩:=hc
 obtain ⟨a,b,rfl,r1,r2⟩:=ZP ra
 obtain ⟨t,rfl,rfl,hl⟩:=r1.lZ
 obtain ⟨u,rfl,rfl,VE⟩:=r2.lZ
 rw[size_data]at hsl KY
 refine ⟨_,hk,oz (Any.strings_ContainsAny_laid Tryz.lay150 (by kernel_rfl) t u w hsl KY (S6 ha) (S6 hb)) ?_⟩
 rintro e w' ⟨he,hb⟩
 exact ⟨_,he,hb, .bool _⟩
theorem idx_ok:aG.Spec.Ok Tryz.prog 71 (idx_S R):=by
 refine sj Tryz.func71 rfl rfl fun vs hp k r hk w c args wf ra => ?_
 unfold idx_S at hk
 split at hk <;> try (first|cases hk)
 rename_i s ch
 obtain ⟨a,b,rfl,r1,r2⟩:=ZP ra
 obtain ⟨t,rfl,rfl,hl⟩:=r1.lZ
 obtain ⟨rfl,hn⟩:=r2.j4
 have hb:IntKind.i64.has (Go.Lib.indexByte t.data.toList ch.toNat.toUInt8):=by
  have h1:=Go.Lib.indexByte_ge t.data.toList ch.toNat.toUInt8
  have h2:Go.Lib.indexByte t.data.toList ch.toNat.toUInt8≤t.data.toList.length:=by
   generalize t.data.toList=l
   induction l with
   | nil=>simp[Go.Lib.indexByte]
   | cons x l ih =>
    have:=Go.Lib.indexByte_ge l ch.toNat.toUInt8
    unfold Go.Lib.indexByte
    split
    ·simp; omega
    ·split
     ·simp; omega
     ·simp; omega
  rw[size_data]at h2
  unfold mx at hl
  generalize Go.Lib.indexByte t.data.toList ch.toNat.toUInt8=z at h1 h2
  simp[IntKind.has,IntKind.min,IntKind.max,IntKind.signed,IntKind.bits]; omega
 refine ⟨_,hk,oz (Any.strings_IndexByte Tryz.lay137 t ch w) ?_⟩
 rintro e w' ⟨he,rfl⟩
 exact ⟨_,he,Below.refl _ _, .int hb⟩
theorem bccL:Lays.n240 Tryz.prog Tryz.IQ := { Tryz.lay105 with }
theorem Up:aG.Spec.Ok Tryz.prog 73 (RE R) :=
 bcc_ok Tryz.func73 rfl rfl (fun b w h0 hs hf=>Any.Builder_copyCheck_fresh bccL x72 b w h0 hs hf) (fun b w h0=>Any.Builder_copyCheck_used bccL x72 b w h0)
theorem bstrL:Lays.n169 Tryz.prog Tryz.Oe:=Tryz.lay169
theorem GO:Builder.Extra Tryz.prog Tryz.Oe := { sizeBuilder:=by kernel_rfl,liesBuilder:=by kernel_rfl,t5:=Tryz.underlying5,a5:=Tryz.isAgg5,z5:=Tryz.sizeOf5,v5:=Tryz.zeroValue5,infoByte:=by kernel_rfl,cellsByte:=by kernel_rfl,sizeByte:=by kernel_rfl,neB5:=by decide }
set_option maxHeartbeats 1000000 in
theorem ZT (b q cap:Nat) (p:Value) (cur:Array Value) (fz:Nat × Nat) (l:List UInt8) (w:World) (h0:l ≠ []) (hbk:w.heap[b]? = some (.cells #[p, .slice (some ⟨q,0,none⟩) l.length cap] qT.oG (0,0)))
  (hq:w.heap[q]? = some (.cells cur qT.u8 fz)) (hnc:l.length≤cap) (hcm:cap≤mx) (tT:l.length≤cur.size) (Cn:∀(j:Nat) (x:UInt8),l[j]? = some x→w.cell? ⟨q,j,none⟩=some (.int .u8 x.toNat)) :
  Calls Tryz.prog 39 #[.pointer (some ⟨b,0,none⟩)] w fun e w'=>e = .returned (.string ⟨l.toArray⟩)∧w'=w.drew.freeze ⟨q,0,none⟩ l.length:=by
 have Ru:l.length≠0:=by simpa using h0
 have L:=bstrL
 have X:=GO
 have c1:w.drew.cell? ⟨b,1,none⟩=some (.slice (some ⟨q,0,none⟩) l.length cap):=by
  have h1:w.drew.heap[b]? = some (.cells #[p, .slice (some ⟨q,0,none⟩) l.length cap] qT.oG (0,0)):=hbk
  rw[Lib.cell_of_heap h1]; rfl
 have hSD:(Builtin.unsafeSliceData_ #[41] 106 #[.slice (some ⟨q,0,none⟩) l.length cap]).run Tryz.prog w.drew = .ok (.pointer (some ⟨q,0,none⟩)) w.drew :=
  Lib.run_unsafeSliceData_row _ _ _ _ _ _ (by omega)
 have hUS:(Builtin.unsafeString_ #[106,3] 9 #[.pointer (some ⟨q,0,none⟩), .int .i64 l.length]).run Tryz.prog w.drew = .ok (.string ⟨l.toArray⟩) (w.drew.freeze ⟨q,0,none⟩ l.length):=by
  refine Lib.run_unsafeString_row w.drew 106 3 9 5 L.t127 X.cellsByte q cur.size (by have hq':w.drew.heap[q]? = some (.cells cur 5 fz):=hq; simp[World.shape?,hq']) l h0 tT (by unfold mx at hcm; omega) ?_
  intro j x hx
  have:=Cn j x hx
  rw[aG.tZ,Nat.zero_add]
  exact this
 have mixed:=L.mixed
 have t72:=L.t72; have a72:=L.a72; have z72:=L.z72; have v72:=L.v72; have u72:=run_underlying L.t72
 have t70:=L.t70; have a70:=L.a70; have z70:=L.z70; have v70:=L.v70; have u70:=run_underlying L.t70
 have t37:=L.t37; have a37:=L.a37; have z37:=L.z37; have v37:=L.v37; have u37:=run_underlying L.t37
 have t127:=L.t127; have a127:=L.a127; have z127:=L.z127; have v127:=L.v127; have u127:=run_underlying L.t127
 have t3:=L.t3; have a3:=L.a3; have z3:=L.z3; have v3:=L.v3; have u3:=run_underlying L.t3
 have t9:=L.t9; have a9:=L.a9; have z9:=L.z9; have v9:=L.v9; have u9:=run_underlying L.t9
 have t5:=X.t5; have a5:=X.a5; have z5:=X.z5; have v5:=X.v5; have u5:=run_underlying X.t5
 go_enter Tryz.func39,Tryz.ntmps39
 go_wp2
 go_region_o
 all_goals (go_wp2; go_ret; exact ⟨rfl,rfl⟩)
set_option maxHeartbeats 2000000 in
theorem VK (b q:Nat) (p:Value) (cur:Array Value) (fz:Nat × Nat) (w:World) (hbk:w.heap[b]? = some (.cells #[p, .slice (some ⟨q,0,none⟩) 0 0] qT.oG (0,0))) (hq:w.heap[q]? = some (.cells cur qT.u8 fz)) :
  Calls Tryz.prog 39 #[.pointer (some ⟨b,0,none⟩)] w fun e w'=>e = .returned (.string ⟨#[]⟩)∧Below w.heap.size w w':=by
 have L:=bstrL
 have X:=GO
 have hUS:∀(W:World) (q:Option Addr),(Builtin.unsafeString_ #[106,3] 9 #[.pointer q, .int .i64 0]).run Tryz.prog W = .ok (.string .empty) W:=fun W q=>Lib.run_unsafeString_none W _ _ _ q
 have kY:b<w.heap.size:=by
  rcases Nat.lt_or_ge b w.heap.size with h'|h'
  ·exact h'
  ·simp[Array.getElem?_eq_none h']at hbk
 have c1:w.drew.cell? ⟨b,1,none⟩=some (.slice (some ⟨q,0,none⟩) 0 0):=by
  have:w.drew.heap[b]? = some (.cells #[p, .slice (some ⟨q,0,none⟩) 0 0] qT.oG (0,0)):=hbk
  rw[Lib.cell_of_heap this]; rfl
 have hSD:(Builtin.unsafeSliceData_ #[41] 106 #[.slice (some ⟨q,0,none⟩) 0 0]).run Tryz.prog w.drew = .ok (.pointer (some ⟨w.drew.heap.size,0,none⟩)) (w.drew.alloc (.view ⟨q,0,none⟩ 5)) :=
  Lib.run_unsafeSliceData_zero w.drew _ _ 5 L.t127 ⟨q,0,none⟩ 0 (5,cur.size) (by have hq':w.drew.heap[q]? = some (.cells cur 5 fz):=hq; simp[World.shape?,hq'])
 have c2:(w.drew.alloc (.view ⟨q,0,none⟩ 5)).cell? ⟨b,1,none⟩=some (.slice (some ⟨q,0,none⟩) 0 0):=by
  have:(w.drew.alloc (.view ⟨q,0,none⟩ 5)).heap[b]? = _:=(Lib.alloc_old w.drew _ b kY).trans hbk
  rw[Lib.cell_of_heap this]; rfl
 have c3:(w.alloc (.view ⟨q,0,none⟩ 5)).drew.cell? ⟨b,1,none⟩=some (.slice (some ⟨q,0,none⟩) 0 0):=c2
 have c0:w.cell? ⟨b,1,none⟩=some (.slice (some ⟨q,0,none⟩) 0 0):=c1
 have mixed:=L.mixed
 have t72:=L.t72; have a72:=L.a72; have z72:=L.z72; have v72:=L.v72; have u72:=run_underlying L.t72
 have t70:=L.t70; have a70:=L.a70; have z70:=L.z70; have v70:=L.v70; have u70:=run_underlying L.t70
 have t37:=L.t37; have a37:=L.a37; have z37:=L.z37; have v37:=L.v37; have u37:=run_underlying L.t37
 have t127:=L.t127; have a127:=L.a127; have z127:=L.z127; have v127:=L.v127; have u127:=run_underlying L.t127
 have t3:=L.t3; have a3:=L.a3; have z3:=L.z3; have v3:=L.v3; have u3:=run_underlying L.t3
 have t9:=L.t9; have a9:=L.a9; have z9:=L.z9; have v9:=L.v9; have u9:=run_underlying L.t9
 have t5:=X.t5; have a5:=X.a5; have z5:=X.z5; have v5:=X.v5; have u5:=run_underlying X.t5
 go_enter Tryz.func39,Tryz.ntmps39
 go_wp2
 go_region_o
 all_goals (go_wp2; go_ret; exact ⟨rfl,(Below.drew (Below.refl _ w)).alloc (Nat.le_refl _) _⟩)
theorem ZU:Uj Tryz.prog 39 where
 nil:=fun b p w hbk=>Any.Builder_String_nil bstrL GO w.heap.size b p w hbk
 noroom:=VK
 room:=fun b q cap p w hc hbk=>Any.Builder_String_room bstrL GO w.heap.size b q cap p w hc hbk
 some:=ZT
theorem S8:aG.Spec.Ok Tryz.prog 39 (IS R):=bstr_ok Tryz.func39 rfl rfl ZU
end
end Go.Proofs.YtmlkkgfenfdndaaGreatDoor
/-
 Functions of the program as pure Lean functions, and the ties; printed by wip/tools/emit.py.
-/
set_option maxRecDepth 100000
namespace Go.Proofs.YtmlkkgfenfdndaaGreatDoor
open Go Go.aG
/-! ### humpyard/humpyardlaw04.pick -/
abbrev pF (R:Type):Type:=Int→Int→(Int→Option R)→Option R
abbrev IT:List bE := [.leaf (.int .i64), .leaf (.int .i64)]
abbrev IU:List aA := []
def Nh {R:Type} (fn:pF R):bE.au IT→aA.au IU→(V→aO→Option R)→Option R:=fun x y k=>fn x.1 x.2.1 (fun q0=>k (.int .i64 q0) [])
def Pf {R:Type} (fn:pF R):aG.Spec R→aG.Spec R:=bm IT IU (Nh fn)
def Pg {R:Type} (x1:Int) (x2:Int) (k0:Int→Option R):Option R :=
 bif (decide (x1<(0:Int)))then (cu (!decide (x2=0)) (k0 (Int.tmod (IntKind.i64.wrap (0 - (IntKind.i64.wrap (x1+1)))) x2)))else (cu (!decide (x2=0)) (k0 (Int.tmod x1 x2)))
def fY {R:Type}:pF R:=fun x1 x2 k0=>Pg x1 x2 k0
theorem VL {R:Type}:gS (R:=R) tt [] Ca false Tryz.f35 (aI Tryz.f35) IT IU (Nh Pg):=fun x y k=>by kernel_rfl
theorem R5 (R:Type):sM Tryz.prog 35 (Pf (fY (R:=R))):=cC TT mixed .n rfl rfl rfl rfl eS (VL)
/-! ### humpyard/humpyardlaw01.pick -/
abbrev sk (R:Type):Type:=Int→Int→(Int→Option R)→Option R
abbrev IV:List bE := [.leaf (.int .i64), .leaf (.int .i64)]
abbrev IW:List aA := []
def Ni {R:Type} (fn:sk R):bE.au IV→aA.au IW→(V→aO→Option R)→Option R:=fun x y k=>fn x.1 x.2.1 (fun q0=>k (.int .i64 q0) [])
def Ph {R:Type} (fn:sk R):aG.Spec R→aG.Spec R:=bm IV IW (Ni fn)
def Pj {R:Type} (x1:Int) (x2:Int) (k0:Int→Option R):Option R :=
 bif (decide (x1<(0:Int)))then (cu (!decide (x2=0)) (k0 (Int.tmod (IntKind.i64.wrap (0 - (IntKind.i64.wrap (x1+1)))) x2)))else (cu (!decide (x2=0)) (k0 (Int.tmod x1 x2)))
def iW {R:Type}:sk R:=fun x1 x2 k0=>Pj x1 x2 k0
theorem VM {R:Type}:gS (R:=R) tt [] Ca false Tryz.f54 (aI Tryz.f54) IV IW (Ni Pj):=fun x y k=>by kernel_rfl
theorem R6 (R:Type):sM Tryz.prog 54 (Ph (iW (R:=R))):=cC TT mixed .n rfl rfl rfl rfl eS (VM)
/-! ### humpyard/humpyardlaw01.Fit -/
abbrev w9 (R:Type):Type:=Int→Int→(dH→Option R)→Option R
abbrev Li:List bE := [.leaf (.int .i64), .leaf (.int .i64)]
abbrev Lj:List aA := []
def Pk {R:Type} (fn:w9 R):bE.au Li→aA.au Lj→(V→aO→Option R)→Option R:=fun x y k=>fn x.1 x.2.1 (fun q0=>k (.agg [.int .i64 q0.aF, .int .i64 q0.exp]) [])
def RI {R:Type} (fn:w9 R):aG.Spec R→aG.Spec R:=bm Li Lj (Pk fn)
abbrev pP (R:Type):Type:=Nat→Int→Int→dH→(Int→Int→dH→Option R)→Option R
def AE {R:Type} (iW:sk R):List (wv R) := [(54,true,(Ph iW bb))]
theorem VN {R:Type}:ff (R:=R) Tryz.prog (AE iW) := .p (R6 R _ (aM _)) <| .n
def JU {R:Type} (dq:Int→Int→dH→Option R) (x5:Int) (x6:Int) (x7:dH) (e0:Int→Int→dH→Option R):Option R :=
 bif (x5 != 0)then (bif ((Int.tmod x5 10)==0)then (dq (IntKind.i64.wrap (Int.tdiv x5 10)) x6 x7)else (e0 x5 x6 x7))else (e0 x5 x6 x7)
def dY {R:Type}:pP R
 | 0,_,_,_,_=>none
 | n+1,hY,hZ,iB,e0=>JU (fun hY hZ iB=>dY n hY hZ iB e0) hY hZ iB e0
def zu:Hint := { live := [4,5,6],own := [],rows := [],cells := [],drop := [],out := [4,5,6] }
abbrev mY:Type:=Int × Int × dH
def vI:mY→St:=fun d=>⟨U 4 (.ptr 0 0 :: .int .i64 d.1 :: .int .i64 d.2.1::U 20 ([])), [.cells [.int .i64 d.2.2.aF, .int .i64 d.2.2.exp]]⟩
def CD {R:Type} (K:Ex→St→Option R) (q0:Int) (q1:Int) (q2:dH):Option R:=K (.exit 0) ⟨U 4 (.ptr 0 0 :: .int .i64 q0 :: .int .i64 q1::U 20 ([])), [.cells [.int .i64 q2.aF, .int .i64 q2.exp]]⟩
def Eb {R:Type} (K:Ex→St→Option R) (rc:mY→Option R) (d:mY):Option R:=JU (fun z0 z1 z2=>rc (z0,z1,z2)) d.1 d.2.1 d.2.2 (CD K)
def rj {R:Type} (K:Ex→St→Option R) (n:Nat) (d:mY):Option R:=dY n d.1 d.2.1 d.2.2 (CD K)
abbrev mZ:List bE:=PU 4 (.leaf (.ptr 0 0) :: .leaf (.int .i64) :: .leaf (.int .i64)::PU 20 ([]))
abbrev na:List aA := [.cells [.int .i64, .int .i64]]
def Ec (x:bE.au mZ) (y:aA.au na):Nat:=(Int.natAbs x.2.2.2.2.2.1+Int.natAbs x.2.2.2.2.2.2.1+dH.fu (⟨y.1.1,y.1.2.1⟩:dH)+64)
def Ed (x:bE.au mZ) (y:aA.au na):mY:=(x.2.2.2.2.2.1,x.2.2.2.2.2.2.1,(⟨y.1.1,y.1.2.1⟩:dH))
def CE {R:Type} (L:pP R):bE.au mZ→aA.au na→(Ex→St→Option R)→Option R:=fun x y K=>L (Ec x y) x.2.2.2.2.2.1 x.2.2.2.2.2.2.1 (⟨y.1.1,y.1.2.1⟩:dH) (CD K)
def DJ (R:Type) (dY:pP R):Nat→Option (Hint × dC R):=fun i=>match i with
 | 3=>some (zu,(dx mZ na (CE dY) j7))
 | _=>none
theorem Of {R:Type} (iW:sk R) (dY:pP R) (K:Ex→St→Option R) (rc:St→Option R) (d:mY):roundOf tt (dM (AE iW)) (DJ R dY) 0 ((aT (aI Tryz.f28)).getD 0 .skip) zu (vI d) rc K=Eb K (fun d=>rc (vI d)) d:=by kernel_rfl
theorem Lk {R:Type} (K:Ex→St→Option R) (n:Nat) (d:mY):rj K (n+1) d=Eb K (rj K n) d:=by kernel_rfl
theorem Ll {R:Type} (K:Ex→St→Option R) (d:mY):rj K 0 d=none:=by kernel_rfl
theorem Og (x:bE.au mZ) (y:aA.au na):(⟨bE.eD mZ x,aA.eD na y⟩:St)=vI (Ed x y):=by kernel_rfl
theorem Oh {R:Type} (x:bE.au mZ) (y:aA.au na) (K:Ex→St→Option R):CE (dY) x y K=rj K (Ec x y) (Ed x y):=by kernel_rfl
theorem QK {R:Type} (other:dC R) (ho:jt tt (dM (AE iW)) (DJ R dY) 0 ((aT (aI Tryz.f28)).getD 0 .skip) zu other):jt tt (dM (AE iW)) (DJ R dY) 0 ((aT (aI Tryz.f28)).getD 0 .skip) zu (dx mZ na (CE (dY)) other) :=
 dL (A:=rj) ho (fw vI (Eb) (rj) (Ll) (Of iW dY) (Lk)) Ec Ed Og (Oh)
def RJ {R:Type} (iW:sk R) (dY:pP R) (x1:Int) (x2:Int) (k0:dH→Option R):Option R :=
 iW x1 2000000000000001 (fun y3=>iW x2 19 (fun y4=>dY (Int.natAbs (IntKind.i64.wrap (y3 - 1000000000000000))+Int.natAbs (IntKind.i64.wrap (y4 - 9))+dH.fu (⟨0,0⟩:dH)+64) (IntKind.i64.wrap (y3 - 1000000000000000)) (IntKind.i64.wrap (y4 - 9)) (⟨0,0⟩:dH) (fun y9 rI rq=>bif (y9==0)then (k0 (⟨y9,0⟩:dH))else (k0 (⟨y9,rI⟩:dH)))))
def rA {R:Type}:w9 R:=fun x1 x2 k0=>RJ iW dY x1 x2 k0
theorem X4 {R:Type} (iW:sk R) (dY:pP R):gS (R:=R) tt (AE iW) (DJ R dY) false Tryz.f28 (aI Tryz.f28) Li Lj (Pk (RJ iW dY)):=fun x y k=>by kernel_rfl
theorem R7 (R:Type):∀a∈aT (aI Tryz.f28),jn tt (dM (AE iW)) (DJ R dY) 0 a:=by
 refine gR 1 (by kernel_rfl) fun i hi => ?_
 match i,hi with
 | 0,_=>exact cW (by kernel_rfl) (QK _ eN)
 | n+1,hi=>omega
theorem Uq (R:Type):sM Tryz.prog 28 (RI (rA (R:=R))):=cC TT mixed (VN (R:=R)) rfl rfl rfl rfl (R7 R) (X4 iW dY)
/-! ### humpyard/humpyardlaw02.pick -/
abbrev pG (R:Type):Type:=Int→Int→(Int→Option R)→Option R
abbrev IX:List bE := [.leaf (.int .i64), .leaf (.int .i64)]
abbrev IY:List aA := []
def Nj {R:Type} (fn:pG R):bE.au IX→aA.au IY→(V→aO→Option R)→Option R:=fun x y k=>fn x.1 x.2.1 (fun q0=>k (.int .i64 q0) [])
def Pl {R:Type} (fn:pG R):aG.Spec R→aG.Spec R:=bm IX IY (Nj fn)
def Pm {R:Type} (x1:Int) (x2:Int) (k0:Int→Option R):Option R :=
 bif (decide (x1<(0:Int)))then (cu (!decide (x2=0)) (k0 (Int.tmod (IntKind.i64.wrap (0 - (IntKind.i64.wrap (x1+1)))) x2)))else (cu (!decide (x2=0)) (k0 (Int.tmod x1 x2)))
def fJ {R:Type}:pG R:=fun x1 x2 k0=>Pm x1 x2 k0
theorem VO {R:Type}:gS (R:=R) tt [] Ca false Tryz.f60 (aI Tryz.f60) IX IY (Nj Pm):=fun x y k=>by kernel_rfl
theorem R8 (R:Type):sM Tryz.prog 60 (Pl (fJ (R:=R))):=cC TT mixed .n rfl rfl rfl rfl eS (VO)
/-! ### humpyard/humpyardlaw02.Text -/
abbrev vk (R:Type):Type:=(List Int)→(ah→Option R)→Option R
abbrev IZ:List bE := [.leaf (.sl (.int .i64))]
abbrev I0:List aA := []
def Nk {R:Type} (fn:vk R):bE.au IZ→aA.au I0→(V→aO→Option R)→Option R:=fun x y k=>fn x.1 (fun q0=>k (.str q0) [])
def Pn {R:Type} (fn:vk R):aG.Spec R→aG.Spec R:=bm IZ I0 (Nk fn)
abbrev oJ (R:Type):Type:=Nat→(List Int)→ah→Int→(ah→Option R)→Option R
def xa {R:Type} (fJ:pG R):List (wv R) := [(60,true,(Pl fJ bb))]
theorem Ur {R:Type}:ff (R:=R) Tryz.prog (xa fJ) := .p (R8 R _ (aM _)) <| .n
def HW {R:Type} (fJ:pG R) (dq:(List Int)→ah→Int→Option R) (x2:List Int) (x3:ah) (x4:Int) (e0:ah→Option R):Option R :=
 bif (decide (x4<(x2.length:Int)))then (bif (decide (x4<(200:Int)))then (cu (decide ((0:Int)≤x4)&&decide (x4<x2.length)) (let j16:=fun (VP:Int)=>bif (decide (VP≥(55296:Int)))then (bif (decide (VP≤(57343:Int)))then (cu (decide (x3.length+(D7 ([120]:List Int)).length≤9223372036854775807)) (dq x2 (x3++(D7 ([120]:List Int))) (IntKind.i64.wrap (x4+1))))else (cu (decide (x3.length+(D7 ([(IntKind.i32.wrap VP)]:List Int)).length≤9223372036854775807)) (dq x2 (x3++(D7 ([(IntKind.i32.wrap VP)]:List Int))) (IntKind.i64.wrap (x4+1)))))else (cu (decide (x3.length+(D7 ([(IntKind.i32.wrap VP)]:List Int)).length≤9223372036854775807)) (dq x2 (x3++(D7 ([(IntKind.i32.wrap VP)]:List Int))) (IntKind.i64.wrap (x4+1)))); fJ (x2.getD x4.toNat (Ty.bU (.int .i64))) 5 (fun y6=>let j12:=fun (z7:Bool)=>bif z7 then (fJ (IntKind.i64.wrap (Int.tdiv (x2.getD x4.toNat (Ty.bU (.int .i64))) 5)) 128 (fun y8=>j16 y8))else (bif (y6==2)then (fJ (IntKind.i64.wrap (Int.tdiv (x2.getD x4.toNat (Ty.bU (.int .i64))) 5)) 2048 (fun y9=>j16 y9))else (bif (y6==3)then (fJ (IntKind.i64.wrap (Int.tdiv (x2.getD x4.toNat (Ty.bU (.int .i64))) 5)) 65536 (fun rI=>j16 rI))else (fJ (IntKind.i64.wrap (Int.tdiv (x2.getD x4.toNat (Ty.bU (.int .i64))) 5)) 1114112 (fun rq=>j16 rq)))); bif (y6==0)then (j12 (y6==0))else (j12 (y6==1)))))else (e0 x3))else (e0 x3)
def dy {R:Type}:oJ R
 | 0,_,_,_,_=>none
 | n+1,hY,hZ,iB,e0=>HW fJ (fun hY hZ iB=>dy n hY hZ iB e0) hY hZ iB e0
def xb:Hint := { live := [0,3,4],own := [],rows := [],cells := [],drop := [],out := [2,3] }
abbrev lk:Type:=(List Int) × ah × Int
def uc:lk→St:=fun d=>⟨.sl (.int .i64) d.1 .no::U 2 (.str d.2.1 :: .int .i64 d.2.2::U 50 ([])), []⟩
def Be {R:Type} (K:Ex→St→Option R) (q0:ah):Option R:=K (.exit 0) ⟨U 3 (.str q0::U 51 ([])), []⟩
def CF {R:Type} (fJ:pG R) (K:Ex→St→Option R) (rc:lk→Option R) (d:lk):Option R:=HW fJ (fun z0 z1 z2=>rc (z0,z1,z2)) d.1 d.2.1 d.2.2 (Be K)
def pQ {R:Type} (K:Ex→St→Option R) (n:Nat) (d:lk):Option R:=dy n d.1 d.2.1 d.2.2 (Be K)
abbrev ll:List bE := .leaf (.sl (.int .i64))::PU 2 (.leaf (.str) :: .leaf (.int .i64)::PU 50 ([]))
abbrev ln:List aA := []
def CG (x:bE.au ll) (y:aA.au ln):Nat:=(List.length x.1+List.length x.2.2.2.1+Int.natAbs x.2.2.2.2.1+64)
def CH (x:bE.au ll) (y:aA.au ln):lk:=(x.1,x.2.2.2.1,x.2.2.2.2.1)
def Bf {R:Type} (L:oJ R):bE.au ll→aA.au ln→(Ex→St→Option R)→Option R:=fun x y K=>L (CG x y) x.1 x.2.2.2.1 x.2.2.2.2.1 (Be K)
def Bg (R:Type) (dy:oJ R):Nat→Option (Hint × dC R):=fun i=>match i with
 | 3=>some (xb,(dx ll ln (Bf dy) j7))
 | _=>none
theorem Mv {R:Type} (fJ:pG R) (dy:oJ R) (K:Ex→St→Option R) (rc:St→Option R) (d:lk):roundOf tt (dM (xa fJ)) (Bg R dy) 0 ((aT (aI Tryz.f37)).getD 0 .skip) xb (uc d) rc K=CF fJ K (fun d=>rc (uc d)) d:=by kernel_rfl
theorem Kb {R:Type} (K:Ex→St→Option R) (n:Nat) (d:lk):pQ K (n+1) d=CF fJ K (pQ K n) d:=by kernel_rfl
theorem Kc {R:Type} (K:Ex→St→Option R) (d:lk):pQ K 0 d=none:=by kernel_rfl
theorem Mw (x:bE.au ll) (y:aA.au ln):(⟨bE.eD ll x,aA.eD ln y⟩:St)=uc (CH x y):=by kernel_rfl
theorem Mx {R:Type} (x:bE.au ll) (y:aA.au ln) (K:Ex→St→Option R):Bf (dy) x y K=pQ K (CG x y) (CH x y):=by kernel_rfl
theorem Po {R:Type} (other:dC R) (ho:jt tt (dM (xa fJ)) (Bg R dy) 0 ((aT (aI Tryz.f37)).getD 0 .skip) xb other):jt tt (dM (xa fJ)) (Bg R dy) 0 ((aT (aI Tryz.f37)).getD 0 .skip) xb (dx ll ln (Bf (dy)) other) :=
 dL (A:=pQ) ho (fw uc (CF fJ) (pQ) (Kc) (Mv fJ dy) (Kb)) CG CH Mw (Mx)
def Pp {R:Type} (dy:oJ R) (x1:List Int) (k0:ah→Option R):Option R :=
 dy (List.length x1+List.length ([]:ah)+Int.natAbs 0+64) x1 ([]:ah) 0 (fun Iu=>k0 Iu)
def qk {R:Type}:vk R:=fun x1 k0=>Pp dy x1 k0
theorem VQ {R:Type} (fJ:pG R) (dy:oJ R):gS (R:=R) tt (xa fJ) (Bg R dy) false Tryz.f37 (aI Tryz.f37) IZ I0 (Nk (Pp dy)):=fun x y k=>by kernel_rfl
theorem QL (R:Type):∀a∈aT (aI Tryz.f37),jn tt (dM (xa fJ)) (Bg R dy) 0 a:=by
 refine gR 1 (by kernel_rfl) fun i hi => ?_
 match i,hi with
 | 0,_=>exact cW (by kernel_rfl) (Po _ eN)
 | n+1,hi=>omega
theorem R9 (R:Type):sM Tryz.prog 37 (Pn (qk (R:=R))):=cC TT mixed (Ur (R:=R)) rfl rfl rfl rfl (QL R) (VQ fJ dy)
end Go.Proofs.YtmlkkgfenfdndaaGreatDoor
set_option maxRecDepth 100000
namespace Go.Proofs.YtmlkkgfenfdndaaGreatDoor
open Go Go.aG
def G3 (n:Int):Prop := -9223372036854775808≤n∧n≤9223372036854775807
theorem Ml {n:Int}:IntKind.i64.has n↔G3 n:=by
 unfold IntKind.has G3
 simp only[IntKind.min,IntKind.max,IntKind.bits,IntKind.signed]
 simp
theorem pick_raw {R:Type} (c n:Int) (hc:G3 c) (h0:0<n) (hn:n≤9223372036854775807):∃r:Int,0≤r∧r<n∧∀k:Int→Option R,
  (bif (decide (c<(0:Int)))then (cu (!decide (n=0)) (k (Int.tmod (IntKind.i64.wrap (0 - (IntKind.i64.wrap (c+1)))) n)))else (cu (!decide (n=0)) (k (Int.tmod c n))))=k r:=by
 obtain ⟨h1,h2⟩:=hc
 have hz:(!decide (n=0))=true:=by simp; omega
 by_cases h:c<0
 ·refine ⟨Int.tmod (0 - (c+1)) n,Int.tmod_nonneg _ (by omega),Int.tmod_lt_of_pos _ h0,fun k => ?_⟩
  have hd:decide (c<(0:Int))=true:=by simpa using h
  rw[hd,cond_true,aS hz,bw (n:=c+1) (by omega) (by omega),bw (by omega) (by omega)]
 ·refine ⟨Int.tmod c n,Int.tmod_nonneg _ (by omega),Int.tmod_lt_of_pos _ h0,fun k => ?_⟩
  have hd:decide (c<(0:Int))=false:=by simpa using h
  rw[hd,cond_false,aS hz]
theorem wrap32_id {n:Int} (h1:0≤n) (h2:n<1114112):IntKind.i32.wrap n=n:=by
 simp only[IntKind.wrap,IntKind.bits,IntKind.signed,IntKind.min,IntKind.max]
 simp
 omega
theorem aB {p:Prop} [Decidable p] (h:p):decide p=true:=decide_eq_true h
theorem aV {p:Prop} [Decidable p] (h:¬p):decide p=false:=decide_eq_false h
end Go.Proofs.YtmlkkgfenfdndaaGreatDoor
/-
 Functions of the program as pure Lean functions, and the ties; printed by wip/tools/emit.py.
-/
set_option maxRecDepth 100000
namespace Go.Proofs.YtmlkkgfenfdndaaGreatDoor
open Go Go.aG
/-! ### humpyard/json.bare -/
abbrev xc (R:Type):Type:=Json→(Json→Option R)→Option R
abbrev Lm:List bE := [.agg [.int .i64, .int .i64, .int .i64, .str, .sl .str, .sl .json]]
abbrev Ln:List aA := []
def Pq {R:Type} (fn:xc R):bE.au Lm→aA.au Ln→(V→aO→Option R)→Option R:=fun x y k=>fn (⟨x.1.1,⟨x.1.2.1,x.1.2.2.1⟩,x.1.2.2.2.1,x.1.2.2.2.2.1,x.1.2.2.2.2.2.1⟩:Json) (fun q0=>k (.agg [.int .i64 q0.kind, .int .i64 q0.num.aF, .int .i64 q0.num.exp, .str q0.text, .sl .str q0.names .no, .sl .json q0.items .no]) [])
def RL {R:Type} (fn:xc R):aG.Spec R→aG.Spec R:=bm Lm Ln (Pq fn)
def RM {R:Type} (x1:Json) (k0:Json→Option R):Option R :=
 bif (x1.kind==4)then (k0 (⟨x1.kind,⟨0,0⟩,x1.text,x1.names,x1.items⟩:Json))else (bif (x1.kind==5)then (k0 (⟨x1.kind,⟨x1.num.aF,x1.num.exp⟩,([]:ah),x1.names,x1.items⟩:Json))else (bif (x1.kind==7)then (k0 (⟨x1.kind,⟨x1.num.aF,x1.num.exp⟩,x1.text,([]:List ah),([]:List Json)⟩:Json))else (bif (x1.kind==6)then (k0 (⟨x1.kind,⟨x1.num.aF,x1.num.exp⟩,x1.text,x1.names,([]:List Json)⟩:Json))else (k0 (⟨x1.kind,⟨x1.num.aF,x1.num.exp⟩,x1.text,x1.names,x1.items⟩:Json)))))
def ta {R:Type}:xc R:=fun x1 k0=>RM x1 k0
theorem X5 {R:Type}:gS (R:=R) tt [] Ca false Tryz.f77 (aI Tryz.f77) Lm Ln (Pq RM):=fun x y k=>by kernel_rfl
theorem Us (R:Type):sM Tryz.prog 77 (RL (ta (R:=R))):=cC TT mixed .n rfl rfl rfl rfl eS (X5)
/-! ### humpyard/decimal.within[int] -/
abbrev fH (R:Type):Type:=Int→Int→Int→(Bool→Option R)→Option R
abbrev wz:List bE := [.leaf (.int .i64), .leaf (.int .i64), .leaf (.int .i64)]
abbrev wA:List aA := []
def Co {R:Type} (fn:fH R):bE.au wz→aA.au wA→(V→aO→Option R)→Option R:=fun x y k=>fn x.1 x.2.1 x.2.2.1 (fun q0=>k (.bool q0) [])
def wB {R:Type} (fn:fH R):aG.Spec R→aG.Spec R:=bm wz wA (Co fn)
def rJ {R:Type} (x1:Int) (x2:Int) (x3:Int) (k0:Bool→Option R):Option R :=
 bif (decide (x1≤x2))then (k0 (decide (x2≤x3)))else (k0 false)
def bt {R:Type}:fH R:=fun x1 x2 x3 k0=>rJ x1 x2 x3 k0
theorem Kd {R:Type}:gS (R:=R) tt [] Ca false Tryz.f91 (aI Tryz.f91) wz wA (Co rJ):=fun x y k=>by kernel_rfl
theorem AF (R:Type):sM Tryz.prog 91 (wB (bt (R:=R))):=cC TT mixed .n rfl rfl rfl rfl eS (Kd)
/-! ### humpyard/decimal.Right -/
abbrev ka (R:Type):Type:=dH→(Bool→Option R)→Option R
abbrev Ee:List bE := [.agg [.int .i64, .int .i64]]
abbrev Ef:List aA := []
def HX {R:Type} (fn:ka R):bE.au Ee→aA.au Ef→(V→aO→Option R)→Option R:=fun x y k=>fn (⟨x.1.1,x.1.2.1⟩:dH) (fun q0=>k (.bool q0) [])
def Eg {R:Type} (fn:ka R):aG.Spec R→aG.Spec R:=bm Ee Ef (HX fn)
def JV {R:Type} (bt:fH R):List (wv R) := [(91,true,(wB bt bb))]
theorem Pr {R:Type}:ff (R:=R) Tryz.prog (JV bt) := .p (AF R _ (aM _)) <| .n
def JW {R:Type} (bt:fH R) (x1:dH) (k0:Bool→Option R):Option R :=
 bif (x1.aF==0)then (k0 (x1.exp==0))else (bif ((Int.tmod x1.aF 10) != 0)then (bt (-1000000000000000) x1.aF 1000000000000000 (fun y2=>bif y2 then (bt (-9) x1.exp 9 (fun y3=>k0 y3))else (k0 false)))else (k0 false))
def eK {R:Type}:ka R:=fun x1 k0=>JW bt x1 k0
theorem QM {R:Type} (bt:fH R):gS (R:=R) tt (JV bt) Ca false Tryz.f65 (aI Tryz.f65) Ee Ef (HX (JW bt)):=fun x y k=>by kernel_rfl
theorem FT (R:Type):sM Tryz.prog 65 (Eg (eK (R:=R))):=cC TT mixed (Pr (R:=R)) rfl rfl rfl rfl eS (QM bt)
/-! ### humpyard/quote.Whole -/
abbrev fZ (R:Type):Type:=ah→(Bool→Option R)→Option R
abbrev G4:List bE := [.leaf (.str)]
abbrev G5:List aA := []
def Lo {R:Type} (fn:fZ R):bE.au G4→aA.au G5→(V→aO→Option R)→Option R:=fun x y k=>fn x.1 (fun q0=>k (.bool q0) [])
def Du {R:Type} (fn:fZ R):aG.Spec R→aG.Spec R:=bm G4 G5 (Lo fn)
def Nl {R:Type}:List (wv R) := [(72,true,(X0 R))]
theorem Sa {R:Type}:ff (R:=R) Tryz.prog (Nl (R:=R)) := .p (valid_ok) <| .n
def Nn {R:Type} (x1:ah) (k0:Bool→Option R):Option R :=
 k0 (pd x1)
def bO {R:Type}:fZ R:=fun x1 k0=>Nn x1 k0
theorem Ut {R:Type}:gS (R:=R) tt (Nl (R:=R)) Ca false Tryz.f49 (aI Tryz.f49) G4 G5 (Lo Nn):=fun x y k=>by kernel_rfl
theorem CI (R:Type):sM Tryz.prog 49 (Du (bO (R:=R))):=cC TT mixed (Sa (R:=R)) rfl rfl rfl rfl eS (Ut)
/-! ### humpyard/json.unique -/
abbrev td (R:Type):Type:=(List ah)→(Bool→Option R)→Option R
abbrev G6:List bE := [.leaf (.sl .str)]
abbrev G7:List aA := []
def Lp {R:Type} (fn:td R):bE.au G6→aA.au G7→(V→aO→Option R)→Option R:=fun x y k=>fn x.1 (fun q0=>k (.bool q0) [])
def Np {R:Type} (fn:td R):aG.Spec R→aG.Spec R:=bm G6 G7 (Lp fn)
abbrev nK (R:Type):Type:=Nat→(List ah)→Int→Int→(List (ah × Bool))→(Option R)→(Bool→Option R)→Option R
def vl {R:Type} (bO:fZ R):List (wv R) := [(49,true,(Du bO bb))]
theorem Sb {R:Type}:ff (R:=R) Tryz.prog (vl bO) := .p (CI R _ (aM _)) <| .n
def GP {R:Type} (bO:fZ R) (dq:(List ah)→Int→Int→(List (ah × Bool))→Option R) (x2:List ah) (x3:Int) (x4:Int) (x5:List (ah × Bool)) (e0:Option R) (e1:Bool→Option R):Option R :=
 bif (decide (x4<x3))then (cu (decide ((0:Int)≤x4)&&decide (x4<x2.length)) (bif (sf .str .bool (x2.getD x4.toNat (Ty.bU .str)) x5)then (e1 false)else (bO (x2.getD x4.toNat (Ty.bU .str)) (fun y6=>bif (!y6)then (e1 false)else (dq x2 x3 (IntKind.i64.wrap (x4+1)) (FG .str .bool (x2.getD x4.toNat (Ty.bU .str)) true x5))))))else (e0)
def dh {R:Type}:nK R
 | 0,_,_,_,_,_,_=>none
 | n+1,hY,hZ,iB,ql,e0,e1=>GP bO (fun hY hZ iB ql=>dh n hY hZ iB ql e0 e1) hY hZ iB ql e0 e1
def vJ:Hint := { live := [3,7,8,9],own := [],rows := [],cells := [],drop := [],out := [2] }
abbrev kI:Type:=(List ah) × Int × Int × (List (ah × Bool))
def sW:kI→St:=fun d=>⟨U 3 (.map 0::U 3 (.sl .str d.1 .no :: .int .i64 d.2.1 :: .int .i64 d.2.2.1::U 14 ([]))), [.zE .str .bool d.2.2.2]⟩
def zI {R:Type} (K:Ex→St→Option R):Option R:=K (.exit 0) ⟨U 24 ([]), []⟩
def zJ {R:Type} (K:Ex→St→Option R) (q0:Bool):Option R:=K (.ret) ⟨U 2 (.bool q0::U 21 ([])), []⟩
def Bh {R:Type} (bO:fZ R) (K:Ex→St→Option R) (rc:kI→Option R) (d:kI):Option R:=GP bO (fun z0 z1 z2 z3=>rc (z0,z1,z2,z3)) d.1 d.2.1 d.2.2.1 d.2.2.2 (zI K) (zJ K)
def oK {R:Type} (K:Ex→St→Option R) (n:Nat) (d:kI):Option R:=dh n d.1 d.2.1 d.2.2.1 d.2.2.2 (zI K) (zJ K)
abbrev kJ:List bE:=PU 3 (.leaf (.map 0)::PU 3 (.leaf (.sl .str) :: .leaf (.int .i64) :: .leaf (.int .i64)::PU 14 ([])))
abbrev kK:List aA := [.zE .str .bool]
def Bi (x:bE.au kJ) (y:aA.au kK):Nat:=(List.length x.2.2.2.2.2.2.2.1+Int.natAbs x.2.2.2.2.2.2.2.2.1+Int.natAbs x.2.2.2.2.2.2.2.2.2.1+List.length y.1+64)
def Bj (x:bE.au kJ) (y:aA.au kK):kI:=(x.2.2.2.2.2.2.2.1,x.2.2.2.2.2.2.2.2.1,x.2.2.2.2.2.2.2.2.2.1,y.1)
def zK {R:Type} (L:nK R):bE.au kJ→aA.au kK→(Ex→St→Option R)→Option R:=fun x y K=>L (Bi x y) x.2.2.2.2.2.2.2.1 x.2.2.2.2.2.2.2.2.1 x.2.2.2.2.2.2.2.2.2.1 y.1 (zI K) (zJ K)
def yJ (R:Type) (dh:nK R):Nat→Option (Hint × dC R):=fun i=>match i with
 | 3=>some (vJ,(dx kJ kK (zK dh) j7))
 | _=>none
theorem Lq {R:Type} (bO:fZ R) (dh:nK R) (K:Ex→St→Option R) (rc:St→Option R) (d:kI):roundOf tt (dM (vl bO)) (yJ R dh) 0 ((aT (aI Tryz.f78)).getD 0 .skip) vJ (sW d) rc K=Bh bO K (fun d=>rc (sW d)) d:=by kernel_rfl
theorem I1 {R:Type} (K:Ex→St→Option R) (n:Nat) (d:kI):oK K (n+1) d=Bh bO K (oK K n) d:=by kernel_rfl
theorem I2 {R:Type} (K:Ex→St→Option R) (d:kI):oK K 0 d=none:=by kernel_rfl
theorem Lr (x:bE.au kJ) (y:aA.au kK):(⟨bE.eD kJ x,aA.eD kK y⟩:St)=sW (Bj x y):=by kernel_rfl
theorem Ls {R:Type} (x:bE.au kJ) (y:aA.au kK) (K:Ex→St→Option R):zK (dh) x y K=oK K (Bi x y) (Bj x y):=by kernel_rfl
theorem Oi {R:Type} (other:dC R) (ho:jt tt (dM (vl bO)) (yJ R dh) 0 ((aT (aI Tryz.f78)).getD 0 .skip) vJ other):jt tt (dM (vl bO)) (yJ R dh) 0 ((aT (aI Tryz.f78)).getD 0 .skip) vJ (dx kJ kK (zK (dh)) other) :=
 dL (A:=oK) ho (fw sW (Bh bO) (oK) (I2) (Lq bO dh) (I1)) Bi Bj Lr (Ls)
def Nq {R:Type} (dh:nK R) (x1:List ah) (k0:Bool→Option R):Option R :=
 dh (List.length x1+Int.natAbs (x1.length:Int)+Int.natAbs 0+List.length ([]:List (ah × Bool))+64) x1 (x1.length:Int) 0 ([]:List (ah × Bool)) (k0 true) (fun y8=>k0 y8)
def oA {R:Type}:td R:=fun x1 k0=>Nq dh x1 k0
theorem Uu {R:Type} (bO:fZ R) (dh:nK R):gS (R:=R) tt (vl bO) (yJ R dh) false Tryz.f78 (aI Tryz.f78) G6 G7 (Lp (Nq dh)):=fun x y k=>by kernel_rfl
theorem Ps (R:Type):∀a∈aT (aI Tryz.f78),jn tt (dM (vl bO)) (yJ R dh) 0 a:=by
 refine gR 1 (by kernel_rfl) fun i hi => ?_
 match i,hi with
 | 0,_=>exact cW (by kernel_rfl) (Oi _ eN)
 | n+1,hi=>omega
theorem QN (R:Type):sM Tryz.prog 78 (Np (oA (R:=R))):=cC TT mixed (Sb (R:=R)) rfl rfl rfl rfl (Ps R) (Uu bO dh)
/-! ### humpyard/json.right -/
abbrev cE (R:Type):Type:=Json→Int→(Bool→Option R)→Option R
abbrev iC:List bE := [.agg [.int .i64, .int .i64, .int .i64, .str, .sl .str, .sl .json], .leaf (.int .i64)]
abbrev iE:List aA := []
def fI {R:Type} (fn:cE R):bE.au iC→aA.au iE→(V→aO→Option R)→Option R:=fun x y k=>fn (⟨x.1.1,⟨x.1.2.1,x.1.2.2.1⟩,x.1.2.2.2.1,x.1.2.2.2.2.1,x.1.2.2.2.2.2.1⟩:Json) x.2.1 (fun q0=>k (.bool q0) [])
def Pt {R:Type} (fn:cE R):aG.Spec R→aG.Spec R:=bm iC iE (fI fn)
/-! ### humpyard/json.right$1 -/
abbrev iu (R:Type):Type:=Json→Int→(Bool→Int→Option R)→Option R
abbrev xQ:List bE := [.agg [.int .i64, .int .i64, .int .i64, .str, .sl .str, .sl .json], .leaf (.ptr 0 0)]
abbrev xR:List aA := [.cells [.int .i64]]
def DK {R:Type} (fn:iu R):bE.au xQ→aA.au xR→(V→aO→Option R)→Option R:=fun x y k=>fn (⟨x.1.1,⟨x.1.2.1,x.1.2.2.1⟩,x.1.2.2.2.1,x.1.2.2.2.2.1,x.1.2.2.2.2.2.1⟩:Json) y.1.1 (fun q0 q1=>k (.bool q0) [.cells [.int .i64 q1]])
def EG {R:Type} (fn:iu R):aG.Spec R→aG.Spec R:=bm xQ xR (DK fn)
def EH {R:Type} (av:cE R):List (wv R) := [(56,true,(bm iC iE (fI av) bb))]
theorem Ke {R:Type} (av:cE R) (fm:aG.Spec.Ok Tryz.prog 56 (bm iC iE (fI av) bb)):ff (R:=R) Tryz.prog (EH av) := .p fm <| .n
def EI {R:Type} (av:cE R) (x1:Json) (x2:Int) (k0:Bool→Int→Option R):Option R :=
 av (⟨x1.kind,⟨x1.num.aF,x1.num.exp⟩,x1.text,x1.names,x1.items⟩:Json) (IntKind.i64.wrap (x2+1)) (fun y3=>k0 (!y3) x2)
def cL {R:Type} (av:cE R):iu R:=fun x1 x2 k0=>EI av x1 x2 k0
theorem Lt {R:Type} (av:cE R):gS (R:=R) tt (EH av) Ca false Tryz.f80 (aI Tryz.f80) xQ xR (DK (EI av)):=fun x y k=>by kernel_rfl
theorem I3 (R:Type) (av:cE R) (fm:aG.Spec.Ok Tryz.prog 56 (bm iC iE (fI av) bb)):sM Tryz.prog 80 (EG (cL av)):=cC TT mixed (Ke av fm) rfl rfl rfl rfl eS (Lt av)
/-! ### slices.IndexFunc[[]humpyard/api.Json,humpyard/api.Json] -/
abbrev fg (R:Type):Type:=(List Json)→Int→(Int→Int→Option R)→Option R
abbrev mo:List bE := [.leaf (.sl .json), .func 80 [] [.ptr 0 0]]
abbrev mq:List aA := [.cells [.int .i64]]
def qN {R:Type} (fn:fg R):bE.au mo→aA.au mq→(V→aO→Option R)→Option R:=fun x y k=>fn x.1 y.1.1 (fun q0 q1=>k (.int .i64 q0) [.cells [.int .i64 q1]])
def rK {R:Type} (fn:fg R):aG.Spec R→aG.Spec R:=bm mo mq (qN fn)
abbrev eI (R:Type):Type:=Nat→(List Json)→Int→Int→Int→(Int→Option R)→(Int→Int→Option R)→Option R
def fx {R:Type} (cL:iu R):List (wv R) := [(80,false,(EG cL bb))]
theorem zL {R:Type} (av:cE R) (fm:aG.Spec.Ok Tryz.prog 56 (bm iC iE (fI av) bb)):ff (R:=R) Tryz.prog (fx (cL av)) := .f (I3 R av fm _ (aM _)) rfl <| .n
def o8 {R:Type} (cL:iu R) (dq:(List Json)→Int→Int→Int→Option R) (x3:List Json) (x4:Int) (x5:Int) (x6:Int) (e0:Int→Option R) (e1:Int→Int→Option R):Option R :=
 bif (decide (x5<x4))then (cu (decide ((0:Int)≤x5)&&decide (x5<x3.length)) (cL (⟨(x3.getD x5.toNat (Ty.bU .json)).kind,⟨(x3.getD x5.toNat (Ty.bU .json)).num.aF,(x3.getD x5.toNat (Ty.bU .json)).num.exp⟩,(x3.getD x5.toNat (Ty.bU .json)).text,(x3.getD x5.toNat (Ty.bU .json)).names,(x3.getD x5.toNat (Ty.bU .json)).items⟩:Json) x6 (fun y7 y8=>bif y7 then (e1 x5 y8)else (dq x3 x4 (IntKind.i64.wrap (x5+1)) y8))))else (e0 x6)
def aZ {R:Type} (av:cE R):eI R
 | 0,_,_,_,_,_,_=>none
 | n+1,hY,hZ,iB,ql,e0,e1=>o8 (cL av) (fun hY hZ iB ql=>aZ av n hY hZ iB ql e0 e1) hY hZ iB ql e0 e1
def hH:Hint := { live := [0,1,7,8],own := [],rows := [],cells := [],drop := [],out := [4] }
abbrev cX:Type:=(List Json) × Int × Int × Int
def gw:cX→St:=fun d=>⟨.sl .json d.1 .no :: .func 80 [] [.ptr 0 0]::U 5 (.int .i64 d.2.1 :: .int .i64 d.2.2.1::U 10 ([])), [.cells [.int .i64 d.2.2.2]]⟩
def kb {R:Type} (K:Ex→St→Option R) (q0:Int):Option R:=K (.exit 0) ⟨U 19 ([]), [.cells [.int .i64 q0]]⟩
def ke {R:Type} (K:Ex→St→Option R) (q0:Int) (q1:Int):Option R:=K (.ret) ⟨U 4 (.int .i64 q0::U 14 ([])), [.cells [.int .i64 q1]]⟩
def kB {R:Type} (cL:iu R) (K:Ex→St→Option R) (rc:cX→Option R) (d:cX):Option R:=o8 cL (fun z0 z1 z2 z3=>rc (z0,z1,z2,z3)) d.1 d.2.1 d.2.2.1 d.2.2.2 (kb K) (ke K)
def eO {R:Type} (av:cE R) (K:Ex→St→Option R) (n:Nat) (d:cX):Option R:=aZ av n d.1 d.2.1 d.2.2.1 d.2.2.2 (kb K) (ke K)
abbrev cY:List bE := .leaf (.sl .json) :: .func 80 [] [.ptr 0 0]::PU 5 (.leaf (.int .i64) :: .leaf (.int .i64)::PU 10 ([]))
abbrev cZ:List aA := [.cells [.int .i64]]
def kC (x:bE.au cY) (y:aA.au cZ):Nat:=(List.length x.1+Int.natAbs x.2.2.2.2.2.2.2.1+Int.natAbs x.2.2.2.2.2.2.2.2.1+Int.natAbs y.1.1+64)
def kD (x:bE.au cY) (y:aA.au cZ):cX:=(x.1,x.2.2.2.2.2.2.2.1,x.2.2.2.2.2.2.2.2.1,y.1.1)
def kg {R:Type} (L:eI R):bE.au cY→aA.au cZ→(Ex→St→Option R)→Option R:=fun x y K=>L (kC x y) x.1 x.2.2.2.2.2.2.2.1 x.2.2.2.2.2.2.2.2.1 y.1.1 (kb K) (ke K)
def gA (R:Type) (aZ:eI R):Nat→Option (Hint × dC R):=fun i=>match i with
 | 2=>some (hH,(dx cY cZ (kg aZ) j7))
 | _=>none
theorem vZ {R:Type} (cL:iu R) (aZ:eI R) (K:Ex→St→Option R) (rc:St→Option R) (d:cX):roundOf tt (dM (fx cL)) (gA R aZ) 1 ((aT (aI Tryz.f116)).getD 0 .skip) hH (gw d) rc K=kB cL K (fun d=>rc (gw d)) d:=by kernel_rfl
theorem uU {R:Type} (av:cE R) (K:Ex→St→Option R) (n:Nat) (d:cX):eO av K (n+1) d=kB (cL av) K (eO av K n) d:=by kernel_rfl
theorem uV {R:Type} (av:cE R) (K:Ex→St→Option R) (d:cX):eO av K 0 d=none:=by kernel_rfl
theorem v7 (x:bE.au cY) (y:aA.au cZ):(⟨bE.eD cY x,aA.eD cZ y⟩:St)=gw (kD x y):=by kernel_rfl
theorem v8 {R:Type} (av:cE R) (x:bE.au cY) (y:aA.au cZ) (K:Ex→St→Option R):kg (aZ av) x y K=eO av K (kC x y) (kD x y):=by kernel_rfl
theorem xd {R:Type} (av:cE R) (other:dC R) (ho:jt tt (dM (fx (cL av))) (gA R (aZ av)) 1 ((aT (aI Tryz.f116)).getD 0 .skip) hH other):jt tt (dM (fx (cL av))) (gA R (aZ av)) 1 ((aT (aI Tryz.f116)).getD 0 .skip) hH (dx cY cZ (kg (aZ av)) other) :=
 dL (A:=eO av) ho (fw gw (kB (cL av)) (eO av) (uV av) (vZ (cL av) (aZ av)) (uU av)) kC kD v7 (v8 av)
def rL {R:Type} (aZ:eI R) (x1:List Json) (x2:Int) (k0:Int→Int→Option R):Option R :=
 aZ (List.length x1+Int.natAbs (x1.length:Int)+Int.natAbs 0+Int.natAbs x2+64) x1 (x1.length:Int) 0 x2 (fun y9=>k0 (-1) y9) (fun rI rq=>k0 rI rq)
def cG {R:Type} (av:cE R):fg R:=fun x1 x2 k0=>rL (aZ av) x1 x2 k0
theorem AQ {R:Type} (cL:iu R) (aZ:eI R):gS (R:=R) tt (fx cL) (gA R aZ) false Tryz.f116 (aI Tryz.f116) mo mq (qN (rL aZ)):=fun x y k=>by kernel_rfl
theorem xS (R:Type) (av:cE R) (fm:aG.Spec.Ok Tryz.prog 56 (bm iC iE (fI av) bb)):∀a∈aT (aI Tryz.f116),jn tt (dM (fx (cL av))) (gA R (aZ av)) 1 a:=by
 refine gR 1 (by kernel_rfl) fun i hi => ?_
 match i,hi with
 | 0,_=>exact cW (by kernel_rfl) (xd av _ eN)
 | n+1,hi=>omega
theorem yK (R:Type) (av:cE R) (fm:aG.Spec.Ok Tryz.prog 56 (bm iC iE (fI av) bb)):sM Tryz.prog 116 (rK (cG av)):=cC TT mixed (zL av fm) rfl rfl rfl rfl (xS R av fm) (AQ (cL av) (aZ av))
/-! ### slices.ContainsFunc[[]humpyard/api.Json,humpyard/api.Json] -/
abbrev eP (R:Type):Type:=(List Json)→Int→(Bool→Int→Option R)→Option R
abbrev kR:List bE := [.leaf (.sl .json), .func 80 [] [.ptr 0 0]]
abbrev kS:List aA := [.cells [.int .i64]]
def o9 {R:Type} (fn:eP R):bE.au kR→aA.au kS→(V→aO→Option R)→Option R:=fun x y k=>fn x.1 y.1.1 (fun q0 q1=>k (.bool q0) [.cells [.int .i64 q1]])
def pH {R:Type} (fn:eP R):aG.Spec R→aG.Spec R:=bm kR kS (o9 fn)
def pI {R:Type} (cG:fg R):List (wv R) := [(116,false,(rK cG bb))]
theorem xe {R:Type} (av:cE R) (fm:aG.Spec.Ok Tryz.prog 56 (bm iC iE (fI av) bb)):ff (R:=R) Tryz.prog (pI (cG av)) := .f (yK R av fm _ (aM _)) rfl <| .n
def pJ {R:Type} (cG:fg R) (x1:List Json) (x2:Int) (k0:Bool→Int→Option R):Option R :=
 cG x1 x2 (fun y3 y4=>k0 (decide (y3≥(0:Int))) y4)
def bV {R:Type} (av:cE R):eP R:=fun x1 x2 k0=>pJ (cG av) x1 x2 k0
theorem xT {R:Type} (cG:fg R):gS (R:=R) tt (pI cG) Ca false Tryz.f79 (aI Tryz.f79) kR kS (o9 (pJ cG)):=fun x y k=>by kernel_rfl
theorem wC (R:Type) (av:cE R) (fm:aG.Spec.Ok Tryz.prog 56 (bm iC iE (fI av) bb)):sM Tryz.prog 79 (pH (bV av)):=cC TT mixed (xe av fm) rfl rfl rfl rfl eS (xT (cG av))
def Pu {R:Type} (bO:fZ R) (eK:ka R) (ta:xc R) (oA:td R) (bV:eP R):List (wv R) := [(49,true,(Du bO bb)),(65,true,(Eg eK bb)),(77,true,(RL ta bb)),(78,true,(Np oA bb)),(79,false,(pH bV bb))]
theorem Uv {R:Type} (av:cE R) (fm:aG.Spec.Ok Tryz.prog 56 (bm iC iE (fI av) bb)):ff (R:=R) Tryz.prog (Pu bO eK ta oA (bV av)) := .p (CI R _ (aM _)) <| .p (FT R _ (aM _)) <| .p (Us R _ (aM _)) <| .p (QN R _ (aM _)) <| .f (wC R av fm _ (aM _)) rfl <| .n
def Pv {R:Type} (bO:fZ R) (eK:ka R) (ta:xc R) (oA:td R) (bV:eP R) (x1:Json) (x2:Int) (k0:Bool→Option R):Option R :=
 ta (⟨x1.kind,⟨x1.num.aF,x1.num.exp⟩,x1.text,x1.names,x1.items⟩:Json) (fun y3=>bif (decide (x2>(16:Int)))then (k0 false)else (bif (decide (x1.kind<(1:Int)))then (k0 false)else (bif (decide (x1.kind>(7:Int)))then (k0 false)else (bif (!(y3.num.aF==0&&(y3.num.exp==0&&true)))then (k0 false)else (bif (!(y3.text==([]:ah)))then (k0 false)else (bif (decide ((IntKind.i64.wrap ((y3.names.length:Int)+(y3.items.length:Int)))>(0:Int)))then (k0 false)else (bif (x1.kind==4)then (eK x1.num (fun y5=>k0 y5))else (bif (x1.kind==5)then (bO x1.text (fun y6=>k0 y6))else (bif (x1.kind==7)then (bif ((x1.names.length:Int) != (x1.items.length:Int))then (k0 false)else (oA x1.names (fun y7=>bif (!y7)then (k0 false)else (bV x1.items x2 (fun rq qV=>k0 (!rq))))))else (bV x1.items x2 (fun G8 KZ=>k0 (!G8))))))))))))
def I4 {R:Type} (av:cE R):cE R:=fun x1 x2 k0=>Pv bO eK ta oA (bV av) x1 x2 k0
theorem VR {R:Type} (bO:fZ R) (eK:ka R) (ta:xc R) (oA:td R) (bV:eP R):gS (R:=R) tt (Pu bO eK ta oA bV) Ca false Tryz.f56 (aI Tryz.f56) iC iE (fI (Pv bO eK ta oA bV)):=fun x y k=>by kernel_rfl
theorem QO (R:Type) (av:cE R) (fm:aG.Spec.Ok Tryz.prog 56 (bm iC iE (fI av) bb)):sM Tryz.prog 56 (Pt (I4 av)):=cC TT mixed (Uv av fm) rfl rfl rfl rfl eS (VR bO eK ta oA (bV av))
def pe {R:Type}:Nat→cE R
 | 0,_,_,_=>none
 | n+1,hY,hZ,k0'=>I4 (pe n) hY hZ k0'
theorem json_right_N_succ {R:Type} (n:Nat):pe (R:=R) (n+1)=I4 (pe n):=by kernel_rfl
theorem Sc (R:Type):∀n,aG.Spec.Ok Tryz.prog 56 (bm iC iE (fI (pe (R:=R) n)) bb) :=
 wu (run:=fun n=>fI (pe (R:=R) n)) (fun x y k=>by kernel_rfl) fun n hyp=>QO R (pe n) hyp bb (aM _)
def oW {R:Type}:cE R:=fun x1 x2 k0=>pe (Json.depth x1+2) x1 x2 k0
theorem Sd (R:Type):fI (R:=R) oW=fun x y k=>fI (pe (Json.depth (⟨x.1.1,⟨x.1.2.1,x.1.2.2.1⟩,x.1.2.2.2.1,x.1.2.2.2.2.1,x.1.2.2.2.2.2.1⟩:Json)+2)) x y k:=by kernel_rfl
theorem Se (R:Type) (other:aG.Spec R) (ho:aG.Spec.Ok Tryz.prog 56 other):aG.Spec.Ok Tryz.prog 56 (bm iC iE (fI oW) other) :=
 CA (FC (run:=fun n=>fI (pe (R:=R) n)) (fun x y=>(Json.depth (⟨x.1.1,⟨x.1.2.1,x.1.2.2.1⟩,x.1.2.2.2.1,x.1.2.2.2.2.1,x.1.2.2.2.2.2.1⟩:Json)+2)) ho (Sc R)) (Sd R)
/-! ### humpyard/json.Right -/
abbrev om (R:Type):Type:=Json→(Bool→Option R)→Option R
abbrev I5:List bE := [.agg [.int .i64, .int .i64, .int .i64, .str, .sl .str, .sl .json]]
abbrev I6:List aA := []
def Nr {R:Type} (fn:om R):bE.au I5→aA.au I6→(V→aO→Option R)→Option R:=fun x y k=>fn (⟨x.1.1,⟨x.1.2.1,x.1.2.2.1⟩,x.1.2.2.2.1,x.1.2.2.2.2.1,x.1.2.2.2.2.2.1⟩:Json) (fun q0=>k (.bool q0) [])
def I7 {R:Type} (fn:om R):aG.Spec R→aG.Spec R:=bm I5 I6 (Nr fn)
def Pw {R:Type} (oW:cE R):List (wv R) := [(56,true,(Pt oW bb))]
theorem Uw {R:Type}:ff (R:=R) Tryz.prog (Pw oW) := .p (Se R _ (aM _)) <| .n
def Px {R:Type} (oW:cE R) (x1:Json) (k0:Bool→Option R):Option R :=
 oW (⟨x1.kind,⟨x1.num.aF,x1.num.exp⟩,x1.text,x1.names,x1.items⟩:Json) 1 (fun y2=>k0 y2)
def gL {R:Type}:om R:=fun x1 k0=>Px oW x1 k0
theorem VS {R:Type} (oW:cE R):gS (R:=R) tt (Pw oW) Ca false Tryz.f32 (aI Tryz.f32) I5 I6 (Nr (Px oW)):=fun x y k=>by kernel_rfl
theorem JX (R:Type):sM Tryz.prog 32 (I7 (gL (R:=R))):=cC TT mixed (Uw (R:=R)) rfl rfl rfl rfl eS (VS oW)
end Go.Proofs.YtmlkkgfenfdndaaGreatDoor
namespace Go.Proofs.YtmlkkgfenfdndaaGreatDoor
open Go Go.aG
end Go.Proofs.YtmlkkgfenfdndaaGreatDoor
/-
 Functions of the program as pure Lean functions, and the ties; printed by wip/tools/emit.py.
-/
set_option maxRecDepth 100000
namespace Go.Proofs.YtmlkkgfenfdndaaGreatDoor
open Go Go.aG
/-! ### humpyard/lexer.while -/
abbrev jA (R:Type):Type:=ah→ah→(ah→Option R)→Option R
abbrev G9:List bE := [.leaf (.str), .leaf (.str)]
abbrev Ha:List aA := []
def Lu {R:Type} (fn:jA R):bE.au G9→aA.au Ha→(V→aO→Option R)→Option R:=fun x y k=>fn x.1 x.2.1 (fun q0=>k (.str q0) [])
def Hb {R:Type} (fn:jA R):aG.Spec R→aG.Spec R:=bm G9 Ha (Lu fn)
def Ns {R:Type}:List (wv R) := [(68,true,(Pd R))]
theorem Sf {R:Type}:ff (R:=R) Tryz.prog (Ns (R:=R)) := .p (Un) <| .n
def Dv {R:Type} (x1:ah) (x2:ah) (k0:ah→Option R):Option R :=
 cu (xC x2&&decide (x2.length<4294967281)) (cu (decide ((0:Int)≤(IntKind.i64.wrap ((x1.length:Int) - ((bB x1 x2).length:Int))))&&decide ((IntKind.i64.wrap ((x1.length:Int) - ((bB x1 x2).length:Int)))≤x1.length)) (cu (decide ((0:Int)≤(IntKind.i64.wrap ((x1.length:Int) - ((bB x1 x2).length:Int))))) (k0 ((x1.drop 0).take ((IntKind.i64.wrap ((x1.length:Int) - ((bB x1 x2).length:Int))).toNat - 0)))))
def cv {R:Type}:jA R:=fun x1 x2 k0=>Dv x1 x2 k0
theorem Ux {R:Type}:gS (R:=R) tt (Ns (R:=R)) Ca false Tryz.f47 (aI Tryz.f47) G9 Ha (Lu Dv):=fun x y k=>by kernel_rfl
theorem HY (R:Type):sM Tryz.prog 47 (Hb (cv (R:=R))):=cC TT mixed (Sf (R:=R)) rfl rfl rfl rfl eS (Ux)
/-! ### (*humpyard/decimal.reader).sign -/
abbrev eE (R:Type):Type:=ah→ah→(Int→ah→Option R)→Option R
abbrev qm:List bE := [.leaf (.ptr 0 0), .leaf (.str)]
abbrev qo:List aA := [.cells [.str]]
def vK {R:Type} (fn:eE R):bE.au qm→aA.au qo→(V→aO→Option R)→Option R:=fun x y k=>fn x.2.1 y.1.1 (fun q0 q1=>k (.int .u8 q0) [.cells [.str q1]])
def qp {R:Type} (fn:eE R):aG.Spec R→aG.Spec R:=bm qm qo (vK fn)
def wD {R:Type}:List (wv R) := [(71,true,(idx_S R))]
theorem Eh {R:Type}:ff (R:=R) Tryz.prog (wD (R:=R)) := .p (idx_ok) <| .n
def mr {R:Type} (x1:ah) (x2:ah) (k0:Int→ah→Option R):Option R :=
 bif (x2==([]:ah))then (k0 0 x2)else (cu (decide ((0:Int)<x2.length)) (bif (decide ((Dt x1 ((x2.getD 0 0).toNat:Int))<(0:Int)))then (k0 0 x2)else (cu (decide ((0:Int)<x2.length)) (cu (decide ((0:Int)≤(x2.length:Int))&&decide ((x2.length:Int)≤x2.length)) (cu (decide ((1:Int)≤(x2.length:Int))) (k0 ((x2.getD 0 0).toNat:Int) ((x2.drop 1).take ((x2.length:Int).toNat - 1))))))))
def bc {R:Type}:eE R:=fun x1 x2 k0=>mr x1 x2 k0
theorem E2 {R:Type}:gS (R:=R) tt (wD (R:=R)) Ca false Tryz.f101 (aI Tryz.f101) qm qo (vK mr):=fun x y k=>by kernel_rfl
theorem tW (R:Type):sM Tryz.prog 101 (qp (bc (R:=R))):=cC TT mixed (Eh (R:=R)) rfl rfl rfl rfl eS (E2)
/-! ### (*humpyard/decimal.reader).digits -/
abbrev dN (R:Type):Type:=ah→(ah→ah→Option R)→Option R
abbrev oX:List bE := [.leaf (.ptr 0 0)]
abbrev oY:List aA := [.cells [.str]]
def tX {R:Type} (fn:dN R):bE.au oX→aA.au oY→(V→aO→Option R)→Option R:=fun x y k=>fn y.1.1 (fun q0 q1=>k (.str q0) [.cells [.str q1]])
def oZ {R:Type} (fn:dN R):aG.Spec R→aG.Spec R:=bm oX oY (tX fn)
def uW {R:Type}:List (wv R) := [(68,true,(Pd R))]
theorem CJ {R:Type}:ff (R:=R) Tryz.prog (uW (R:=R)) := .p (Un) <| .n
def kW {R:Type} (x1:ah) (k0:ah→ah→Option R):Option R :=
 cu (xC ([48,49,50,51,52,53,54,55,56,57]:ah)&&decide (([48,49,50,51,52,53,54,55,56,57]:ah).length<4294967281)) (cu (decide ((0:Int)≤(IntKind.i64.wrap ((x1.length:Int) - ((bB x1 ([48,49,50,51,52,53,54,55,56,57]:ah)).length:Int))))&&decide ((IntKind.i64.wrap ((x1.length:Int) - ((bB x1 ([48,49,50,51,52,53,54,55,56,57]:ah)).length:Int)))≤x1.length)) (cu (decide ((0:Int)≤(IntKind.i64.wrap ((x1.length:Int) - ((bB x1 ([48,49,50,51,52,53,54,55,56,57]:ah)).length:Int))))) (k0 ((x1.drop 0).take ((IntKind.i64.wrap ((x1.length:Int) - ((bB x1 ([48,49,50,51,52,53,54,55,56,57]:ah)).length:Int))).toNat - 0)) (bB x1 ([48,49,50,51,52,53,54,55,56,57]:ah)))))
def aW {R:Type}:dN R:=fun x1 k0=>kW x1 k0
theorem DL {R:Type}:gS (R:=R) tt (uW (R:=R)) Ca false Tryz.f102 (aI Tryz.f102) oX oY (tX kW):=fun x y k=>by kernel_rfl
theorem sN (R:Type):sM Tryz.prog 102 (oZ (aW (R:=R))):=cC TT mixed (CJ (R:=R)) rfl rfl rfl rfl eS (DL)
/-! ### (*humpyard/decimal.reader).exponent -/
abbrev fN (R:Type):Type:=ah→(Int→Bool→ah→Option R)→Option R
abbrev nL:List bE := [.leaf (.ptr 0 0)]
abbrev nM:List aA := [.cells [.str]]
def sO {R:Type} (fn:fN R):bE.au nL→aA.au nM→(V→aO→Option R)→Option R:=fun x y k=>fn y.1.1 (fun q0 q1 q2=>k (.tuple [.int .i64 q0, .bool q1]) [.cells [.str q2]])
def tf {R:Type} (fn:fN R):aG.Spec R→aG.Spec R:=bm nL nM (sO fn)
def tg {R:Type} (bc:eE R) (aW:dN R):List (wv R) := [(101,false,(qp bc bb)),(102,false,(oZ aW bb)),(105,true,(X2 R))]
theorem Bk {R:Type}:ff (R:=R) Tryz.prog (tg bc aW) := .f (tW R _ (aM _)) rfl <| .f (sN R _ (aM _)) rfl <| .p (atoi_ok) <| .n
def kh {R:Type} (bc:eE R) (aW:dN R) (x1:ah) (k0:Int→Bool→ah→Option R):Option R :=
 bc ([43,45]:ah) x1 (fun y2 y3=>aW y3 (fun y4 y5=>cu (decide (y4.length≤281474976710656)) (bif wy y4 then (bif (decide ((ft y4)>(1000000:Int)))then (bif (y2==45)then (k0 (-1000000) (!(y4==([]:ah))) y5)else (k0 1000000 (!(y4==([]:ah))) y5))else (bif (y2==45)then (k0 (IntKind.i64.wrap (0 - (ft y4))) (!(y4==([]:ah))) y5)else (k0 (ft y4) (!(y4==([]:ah))) y5)))else (bif (!(y4==([]:ah)))then (bif (y2==45)then (k0 (-1000000) (!(y4==([]:ah))) y5)else (k0 1000000 (!(y4==([]:ah))) y5))else (bif (decide ((ft y4)>(1000000:Int)))then (bif (y2==45)then (k0 (-1000000) (!(y4==([]:ah))) y5)else (k0 1000000 (!(y4==([]:ah))) y5))else (bif (y2==45)then (k0 (IntKind.i64.wrap (0 - (ft y4))) (!(y4==([]:ah))) y5)else (k0 (ft y4) (!(y4==([]:ah))) y5)))))))
def bA {R:Type}:fN R:=fun x1 k0=>kh bc aW x1 k0
theorem Cd {R:Type} (bc:eE R) (aW:dN R):gS (R:=R) tt (tg bc aW) Ca false Tryz.f103 (aI Tryz.f103) nL nM (sO (kh bc aW)):=fun x y k=>by kernel_rfl
theorem AR (R:Type):sM Tryz.prog 103 (tf (bA (R:=R))):=cC TT mixed (Bk (R:=R)) rfl rfl rfl rfl eS (Cd bc aW)
/-! ### humpyard/decimal.Make -/
abbrev rB (R:Type):Type:=Int→Int→(dH→Bool→Option R)→Option R
abbrev FU:List bE := [.leaf (.int .i64), .leaf (.int .i64)]
abbrev FV:List aA := []
def JY {R:Type} (fn:rB R):bE.au FU→aA.au FV→(V→aO→Option R)→Option R:=fun x y k=>fn x.1 x.2.1 (fun q0 q1=>k (.tuple [.agg [.int .i64 q0.aF, .int .i64 q0.exp], .bool q1]) [])
def Lv {R:Type} (fn:rB R):aG.Spec R→aG.Spec R:=bm FU FV (JY fn)
abbrev mU (R:Type):Type:=Nat→Int→Int→dH→(Int→Int→dH→Option R)→Option R
def th {R:Type} (bt:fH R):List (wv R) := [(91,true,(wB bt bb))]
theorem QP {R:Type}:ff (R:=R) Tryz.prog (th bt) := .p (AF R _ (aM _)) <| .n
def nN {R:Type} (dq:Int→Int→dH→Option R) (x3:Int) (x4:Int) (x5:dH) (e0:Int→Int→dH→Option R):Option R :=
 bif ((Int.tmod x3 10)==0)then (dq (IntKind.i64.wrap (Int.tdiv x3 10)) (IntKind.i64.wrap (x4+1)) x5)else (e0 x3 x4 x5)
def bF {R:Type}:mU R
 | 0,_,_,_,_=>none
 | n+1,hY,hZ,iB,e0=>nN (fun hY hZ iB=>bF n hY hZ iB e0) hY hZ iB e0
def uf:Hint := { live := [0,1,4],own := [],rows := [],cells := [],drop := [],out := [0,1,4,5] }
abbrev jB:Type:=Int × Int × dH
def rM:jB→St:=fun d=>⟨.int .i64 d.1 :: .int .i64 d.2.1::U 2 (.ptr 0 0::U 25 ([])), [.cells [.int .i64 d.2.2.aF, .int .i64 d.2.2.exp]]⟩
def xU {R:Type} (K:Ex→St→Option R) (q0:Int) (q1:Int) (q2:dH):Option R:=K (.exit 0) ⟨.int .i64 q0 :: .int .i64 q1::U 2 (.ptr 0 0::U 25 ([])), [.cells [.int .i64 q2.aF, .int .i64 q2.exp]]⟩
def zM {R:Type} (K:Ex→St→Option R) (rc:jB→Option R) (d:jB):Option R:=nN (fun z0 z1 z2=>rc (z0,z1,z2)) d.1 d.2.1 d.2.2 (xU K)
def nO {R:Type} (K:Ex→St→Option R) (n:Nat) (d:jB):Option R:=bF n d.1 d.2.1 d.2.2 (xU K)
abbrev jC:List bE := .leaf (.int .i64) :: .leaf (.int .i64)::PU 2 (.leaf (.ptr 0 0)::PU 25 ([]))
abbrev jD:List aA := [.cells [.int .i64, .int .i64]]
def zN (x:bE.au jC) (y:aA.au jD):Nat:=(Int.natAbs x.1+Int.natAbs x.2.1+dH.fu (⟨y.1.1,y.1.2.1⟩:dH)+64)
def zO (x:bE.au jC) (y:aA.au jD):jB:=(x.1,x.2.1,(⟨y.1.1,y.1.2.1⟩:dH))
def xV {R:Type} (L:mU R):bE.au jC→aA.au jD→(Ex→St→Option R)→Option R:=fun x y K=>L (zN x y) x.1 x.2.1 (⟨y.1.1,y.1.2.1⟩:dH) (xU K)
def wE (R:Type) (bF:mU R):Nat→Option (Hint × dC R):=fun i=>match i with
 | 4=>some (uf,(dx jC jD (xV bF) j7))
 | _=>none
theorem Kf {R:Type} (bt:fH R) (bF:mU R) (K:Ex→St→Option R) (rc:St→Option R) (d:jB):roundOf tt (dM (th bt)) (wE R bF) 0 ((aT (aI Tryz.f106)).getD 0 .skip) uf (rM d) rc K=zM K (fun d=>rc (rM d)) d:=by kernel_rfl
theorem HZ {R:Type} (K:Ex→St→Option R) (n:Nat) (d:jB):nO K (n+1) d=zM K (nO K n) d:=by kernel_rfl
theorem H0 {R:Type} (K:Ex→St→Option R) (d:jB):nO K 0 d=none:=by kernel_rfl
theorem Kg (x:bE.au jC) (y:aA.au jD):(⟨bE.eD jC x,aA.eD jD y⟩:St)=rM (zO x y):=by kernel_rfl
theorem Kh {R:Type} (x:bE.au jC) (y:aA.au jD) (K:Ex→St→Option R):xV (bF) x y K=nO K (zN x y) (zO x y):=by kernel_rfl
theorem My {R:Type} (other:dC R) (ho:jt tt (dM (th bt)) (wE R bF) 0 ((aT (aI Tryz.f106)).getD 0 .skip) uf other):jt tt (dM (th bt)) (wE R bF) 0 ((aT (aI Tryz.f106)).getD 0 .skip) uf (dx jC jD (xV (bF)) other) :=
 dL (A:=nO) ho (fw rM (zM) (nO) (H0) (Kf bt bF) (HZ)) zN zO Kg (Kh)
def qq {R:Type} (bt:fH R) (bF:mU R) (x1:Int) (x2:Int) (k0:dH→Bool→Option R):Option R :=
 bif (x1==0)then (k0 (⟨0,0⟩:dH) true)else (bF (Int.natAbs x1+Int.natAbs (min x2 1000000)+dH.fu (⟨0,0⟩:dH)+64) x1 (min x2 1000000) (⟨0,0⟩:dH) (fun y6 y7 y8=>bt (-1000000000000000) y6 1000000000000000 (fun y9=>bif (!y9)then (k0 (⟨0,0⟩:dH) false)else (bt (-9) y7 9 (fun rI=>bif (!rI)then (k0 (⟨0,0⟩:dH) false)else (k0 (⟨y6,y7⟩:dH) true))))))
def ca {R:Type}:rB R:=fun x1 x2 k0=>qq bt bF x1 x2 k0
theorem Sg {R:Type} (bt:fH R) (bF:mU R):gS (R:=R) tt (th bt) (wE R bF) false Tryz.f106 (aI Tryz.f106) FU FV (JY (qq bt bF)):=fun x y k=>by kernel_rfl
theorem Oj (R:Type):∀a∈aT (aI Tryz.f106),jn tt (dM (th bt)) (wE R bF) 0 a:=by
 refine gR 1 (by kernel_rfl) fun i hi => ?_
 match i,hi with
 | 0,_=>exact cW (by kernel_rfl) (My _ eN)
 | n+1,hi=>omega
theorem Py (R:Type):sM Tryz.prog 106 (Lv (ca (R:=R))):=cC TT mixed (QP (R:=R)) rfl rfl rfl rfl (Oj R) (Sg bt bF)
/-! ### humpyard/decimal.Parse -/
abbrev pR (R:Type):Type:=ah→(dH→Bool→Option R)→Option R
abbrev Ei:List bE := [.leaf (.str)]
abbrev Ej:List aA := []
def H2 {R:Type} (fn:pR R):bE.au Ei→aA.au Ej→(V→aO→Option R)→Option R:=fun x y k=>fn x.1 (fun q0 q1=>k (.tuple [.agg [.int .i64 q0.aF, .int .i64 q0.exp], .bool q1]) [])
def JZ {R:Type} (fn:pR R):aG.Spec R→aG.Spec R:=bm Ei Ej (H2 fn)
def J0 {R:Type} (ca:rB R) (bc:eE R) (aW:dN R) (bA:fN R):List (wv R) := [(106,true,(Lv ca bb)),(101,false,(qp bc bb)),(102,false,(oZ aW bb)),(103,false,(tf bA bb)),(68,true,(Pd R)),(104,true,(X1 R)),(105,true,(X2 R))]
theorem Pz {R:Type}:ff (R:=R) Tryz.prog (J0 ca bc aW bA) := .p (Py R _ (aM _)) <| .f (tW R _ (aM _)) rfl <| .f (sN R _ (aM _)) rfl <| .f (AR R _ (aM _)) rfl <| .p (Un) <| .p (trimR_ok) <| .p (atoi_ok) <| .n
def rC {R:Type} (ca:rB R) (bc:eE R) (aW:dN R) (bA:fN R) (x1:ah) (k0:dH→Bool→Option R):Option R :=
 bc ([45]:ah) x1 (fun y2 y3=>aW y3 (fun y4 y5=>let j32:=let j31:=fun (sn:ah) (z12:Int) (VP:ah)=>let j30:=fun (YJ:Int) (z20:ah)=>cu (xC ([48]:ah)&&decide (([48]:ah).length<4294967281)) (cu (xC ([48]:ah)&&decide (([48]:ah).length<4294967281)) (bif (!(z20==([]:ah)))then (k0 (⟨0,0⟩:dH) false)else (bif (decide (((cS (bB sn ([48]:ah)) ([48]:ah)).length:Int)>(18:Int)))then (k0 (⟨0,0⟩:dH) false)else (let j29:=bif (y2 != 0)then (ca (IntKind.i64.wrap (0 - (ft (([48]:ah)++(cS (bB sn ([48]:ah)) ([48]:ah)))))) (IntKind.i64.wrap (YJ+(IntKind.i64.wrap (((bB sn ([48]:ah)).length:Int) - ((cS (bB sn ([48]:ah)) ([48]:ah)).length:Int))))) (fun Qk Sh=>k0 Qk Sh))else (ca (ft (([48]:ah)++(cS (bB sn ([48]:ah)) ([48]:ah)))) (IntKind.i64.wrap (YJ+(IntKind.i64.wrap (((bB sn ([48]:ah)).length:Int) - ((cS (bB sn ([48]:ah)) ([48]:ah)).length:Int))))) (fun D5 I8=>k0 D5 I8)); cu (decide (1+(cS (bB sn ([48]:ah)) ([48]:ah)).length≤9223372036854775807)) (cu (decide ((([48]:ah)++(cS (bB sn ([48]:ah)) ([48]:ah))).length≤281474976710656)) (bif wy (([48]:ah)++(cS (bB sn ([48]:ah)) ([48]:ah)))then (j29)else (j29))))))); bc ([101,69]:ah) VP (fun KZ DM=>bif (KZ != 0)then (bA DM (fun HF Iv Iu=>bif (!Iv)then (k0 (⟨0,0⟩:dH) false)else (j30 (IntKind.i64.wrap (z12+HF)) Iu)))else (j30 z12 DM)); bc ([46]:ah) y5 (fun y7 y8=>bif (y7 != 0)then (aW y8 (fun y9 rI=>bif (y9==([]:ah))then (k0 (⟨0,0⟩:dH) false)else (cu (decide (y4.length+y9.length≤9223372036854775807)) (j31 (y4++y9) (IntKind.i64.wrap (0 - (y9.length:Int))) rI))))else (j31 y4 0 y8)); bif (decide ((x1.length:Int)>(400:Int)))then (k0 (⟨0,0⟩:dH) false)else (bif (y4==([]:ah))then (k0 (⟨0,0⟩:dH) false)else (bif (decide ((y4.length:Int)>(1:Int)))then (cu (decide ((0:Int)<y4.length)) (bif (((y4.getD 0 0).toNat:Int)==48)then (k0 (⟨0,0⟩:dH) false)else (j32)))else (j32)))))
def eL {R:Type}:pR R:=fun x1 k0=>rC ca bc aW bA x1 k0
theorem QQ {R:Type} (ca:rB R) (bc:eE R) (aW:dN R) (bA:fN R):gS (R:=R) tt (J0 ca bc aW bA) Ca false Tryz.f69 (aI Tryz.f69) Ei Ej (H2 (rC ca bc aW bA)):=fun x y k=>by kernel_rfl
theorem Ol (R:Type):sM Tryz.prog 69 (JZ (eL (R:=R))):=cC TT mixed (Pz (R:=R)) rfl rfl rfl rfl eS (QQ ca bc aW bA)
/-! ### internal/stringslite.HasPrefix -/
abbrev fi (R:Type):Type:=ah→ah→(Bool→Option R)→Option R
abbrev mu:List bE := [.leaf (.str), .leaf (.str)]
abbrev mv:List aA := []
def qO {R:Type} (fn:fi R):bE.au mu→aA.au mv→(V→aO→Option R)→Option R:=fun x y k=>fn x.1 x.2.1 (fun q0=>k (.bool q0) [])
def rN {R:Type} (fn:fi R):aG.Spec R→aG.Spec R:=bm mu mv (qO fn)
def iZ {R:Type} (x1:ah) (x2:ah) (k0:Bool→Option R):Option R :=
 bif (decide ((x1.length:Int)≥(x2.length:Int)))then (cu (decide ((0:Int)≤(x2.length:Int))&&decide ((x2.length:Int)≤x1.length)) (cu (decide ((0:Int)≤(x2.length:Int))) (k0 (((x1.drop 0).take ((x2.length:Int).toNat - 0))==x2))))else (k0 false)
def b8 {R:Type}:fi R:=fun x1 x2 k0=>iZ x1 x2 k0
theorem AS {R:Type}:gS (R:=R) tt [] Ca false Tryz.f127 (aI Tryz.f127) mu mv (qO iZ):=fun x y k=>by kernel_rfl
theorem yL (R:Type):sM Tryz.prog 127 (rN (b8 (R:=R))):=cC TT mixed .n rfl rfl rfl rfl eS (AS)
/-! ### internal/stringslite.CutPrefix -/
abbrev fj (R:Type):Type:=ah→ah→(ah→Bool→Option R)→Option R
abbrev mw:List bE := [.leaf (.str), .leaf (.str)]
abbrev my:List aA := []
def qP {R:Type} (fn:fj R):bE.au mw→aA.au my→(V→aO→Option R)→Option R:=fun x y k=>fn x.1 x.2.1 (fun q0 q1=>k (.tuple [.str q0, .bool q1]) [])
def rO {R:Type} (fn:fj R):aG.Spec R→aG.Spec R:=bm mw my (qP fn)
def rP {R:Type} (b8:fi R):List (wv R) := [(127,true,(rN b8 bb))]
theorem zP {R:Type}:ff (R:=R) Tryz.prog (rP b8) := .p (yL R _ (aM _)) <| .n
def ja {R:Type} (b8:fi R) (x1:ah) (x2:ah) (k0:ah→Bool→Option R):Option R :=
 b8 x1 x2 (fun y3=>bif (!y3)then (k0 x1 false)else (cu (decide ((0:Int)≤(x1.length:Int))&&decide ((x1.length:Int)≤x1.length)) (cu (decide ((0:Int)≤(x2.length:Int))&&decide ((x2.length:Int)≤(x1.length:Int))) (k0 ((x1.drop (x2.length:Int).toNat).take ((x1.length:Int).toNat - (x2.length:Int).toNat)) true))))
def cq {R:Type}:fj R:=fun x1 x2 k0=>ja b8 x1 x2 k0
theorem AT {R:Type} (b8:fi R):gS (R:=R) tt (rP b8) Ca false Tryz.f156 (aI Tryz.f156) mw my (qP (ja b8)):=fun x y k=>by kernel_rfl
theorem yM (R:Type):sM Tryz.prog 156 (rO (cq (R:=R))):=cC TT mixed (zP (R:=R)) rfl rfl rfl rfl eS (AT b8)
/-! ### strings.CutPrefix -/
abbrev lp (R:Type):Type:=ah→ah→(ah→Bool→Option R)→Option R
abbrev xW:List bE := [.leaf (.str), .leaf (.str)]
abbrev xX:List aA := []
def DN {R:Type} (fn:lp R):bE.au xW→aA.au xX→(V→aO→Option R)→Option R:=fun x y k=>fn x.1 x.2.1 (fun q0 q1=>k (.tuple [.str q0, .bool q1]) [])
def EJ {R:Type} (fn:lp R):aG.Spec R→aG.Spec R:=bm xW xX (DN fn)
def EK {R:Type} (cq:fj R):List (wv R) := [(156,true,(rO cq bb))]
theorem Ki {R:Type}:ff (R:=R) Tryz.prog (EK cq) := .p (yM R _ (aM _)) <| .n
def EL {R:Type} (cq:fj R) (x1:ah) (x2:ah) (k0:ah→Bool→Option R):Option R :=
 cq x1 x2 (fun y3 y4=>k0 y3 y4)
def fy {R:Type}:lp R:=fun x1 x2 k0=>EL cq x1 x2 k0
theorem Lw {R:Type} (cq:fj R):gS (R:=R) tt (EK cq) Ca false Tryz.f137 (aI Tryz.f137) xW xX (DN (EL cq)):=fun x y k=>by kernel_rfl
theorem I9 (R:Type):sM Tryz.prog 137 (EJ (fy (R:=R))):=cC TT mixed (Ki (R:=R)) rfl rfl rfl rfl eS (Lw cq)
/-! ### (*humpyard/quote.reader).skip -/
abbrev dm (R:Type):Type:=ah→ah→(Bool→ah→Option R)→Option R
abbrev so:List bE := [.leaf (.ptr 0 0), .leaf (.str)]
abbrev sq:List aA := [.cells [.str]]
def xD {R:Type} (fn:dm R):bE.au so→aA.au sq→(V→aO→Option R)→Option R:=fun x y k=>fn x.2.1 y.1.1 (fun q0 q1=>k (.bool q0) [.cells [.str q1]])
def sr {R:Type} (fn:dm R):aG.Spec R→aG.Spec R:=bm so sq (xD fn)
def yN {R:Type} (fy:lp R):List (wv R) := [(137,true,(EJ fy bb))]
theorem FW {R:Type}:ff (R:=R) Tryz.prog (yN fy) := .p (I9 R _ (aM _)) <| .n
def yO {R:Type} (fy:lp R) (x1:ah) (x2:ah) (k0:Bool→ah→Option R):Option R :=
 fy x2 x1 (fun y3 y4=>k0 y4 y3)
def aN {R:Type}:dm R:=fun x1 x2 k0=>yO fy x1 x2 k0
theorem Gl {R:Type} (fy:lp R):gS (R:=R) tt (yN fy) Ca false Tryz.f107 (aI Tryz.f107) so sq (xD (yO fy)):=fun x y k=>by kernel_rfl
theorem vL (R:Type):sM Tryz.prog 107 (sr (aN (R:=R))):=cC TT mixed (FW (R:=R)) rfl rfl rfl rfl eS (Gl fy)
/-! ### internal/strconv.lower -/
abbrev cm (R:Type):Type:=Int→(Int→Option R)→Option R
abbrev ss:List bE := [.leaf (.int .u8)]
abbrev su:List aA := []
def xE {R:Type} (fn:cm R):bE.au ss→aA.au su→(V→aO→Option R)→Option R:=fun x y k=>fn x.1 (fun q0=>k (.int .u8 q0) [])
def sv {R:Type} (fn:cm R):aG.Spec R→aG.Spec R:=bm ss su (xE fn)
def yP {R:Type} (x1:Int) (k0:Int→Option R):Option R :=
 k0 (IntKind.u8.wrap ((BitVec.ofInt IntKind.u8.bits x1 ||| BitVec.ofInt IntKind.u8.bits 32).toNat:Int))
def internal_strconv_lower {R:Type}:cm R:=fun x1 k0=>yP x1 k0
theorem Gm {R:Type}:gS (R:=R) tt [] Ca false Tryz.f176 (aI Tryz.f176) ss su (xE yP):=fun x y k=>by kernel_rfl
theorem vM (R:Type):sM Tryz.prog 176 (sv (internal_strconv_lower (R:=R))):=cC TT mixed .n rfl rfl rfl rfl eS (Gm)
end Go.Proofs.YtmlkkgfenfdndaaGreatDoor
set_option maxRecDepth 100000
namespace Go.Proofs.YtmlkkgfenfdndaaGreatDoor
open Go Go.aG
theorem ZV:∀(b:Nat) (m:Int),m≠0→m.natAbs<b→∃(j:Nat) (u:Int),m=u*10 ^ j∧Int.tmod u 10≠0
 | 0,m,_,h=>by omega
 | b+1,m,h0,hb=>by
  by_cases h:Int.tmod m 10=0
  ·have hd:m=Int.tdiv m 10*10:=by have:=Int.tmod_add_mul_tdiv m 10; omega
   have hn:(Int.tdiv m 10).natAbs<m.natAbs:=by rw[Int.natAbs_tdiv]; show m.natAbs / 10<m.natAbs; omega
   obtain ⟨j,u,e,hu⟩:=ZV b (Int.tdiv m 10) (by omega) (by omega)
   refine ⟨j+1,u,?_,hu⟩
   rw[Int.pow_succ,←Int.mul_assoc,←e]
   exact hd
  ·exact ⟨0,m,by simp,h⟩
theorem WM:∀(i j:Nat) (u v:Int),Int.tmod u 10≠0→Int.tmod v 10≠0→u*10 ^ i=v*10 ^ j→i=j∧u=v
 | 0,0,u,v,_,_,h=>⟨rfl,by simpa using h⟩
 | 0,j+1,u,v,hu,_,h=>by
  exfalso
  apply hu
  have:u=(v*10 ^ j)*10:=by rw[Int.pow_succ,←Int.mul_assoc]at h; simpa using h
  rw[this]
  exact Int.mul_tmod_left _ _
 | i+1,0,u,v,_,hv,h=>by
  exfalso
  apply hv
  have:v=(u*10 ^ i)*10:=by rw[Int.pow_succ,←Int.mul_assoc]at h; simpa using h.symm
  rw[this]
  exact Int.mul_tmod_left _ _
 | i+1,j+1,u,v,hu,hv,h=>by
  have h2:u*10 ^ i=v*10 ^ j:=by
   rw[Int.pow_succ,Int.pow_succ,←Int.mul_assoc,←Int.mul_assoc]at h
   omega
  obtain ⟨h3,h4⟩:=WM i j u v hu hv h2
  exact ⟨by omega,h4⟩
theorem WN (j:Nat):(1:Int)≤10 ^ j:=by
 induction j with
 | zero=>simp
 | succ j ih=>rw[Int.pow_succ]; omega
theorem Om (u:Int) (j:Nat):u.natAbs≤(u*10 ^ j).natAbs:=by
 rw[Int.natAbs_mul]
 have h:=WN j
 have:1≤((10:Int) ^ j).natAbs:=by omega
 exact Nat.le_mul_of_pos_right _ this
theorem noughts_le (u:Int) (hu:u≠0):∀j:Nat,j≤(u*10 ^ j).natAbs:=by
 intro j
 rw[Int.natAbs_mul]
 have h1:1≤u.natAbs:=by omega
 have h2:j≤((10:Int) ^ j).natAbs:=by
  induction j with
  | zero=>simp
  | succ j ih =>
   have:=WN j
   rw[Int.pow_succ,Int.natAbs_mul]
   show j+1≤((10:Int) ^ j).natAbs*10
   omega
 calc j≤((10:Int) ^ j).natAbs:=h2
  _≤u.natAbs*((10:Int) ^ j).natAbs:=Nat.le_mul_of_pos_left _ h1
theorem ZW (u:Int) (hu:u≠0) (j:Nat):2 ^ j≤(u*10 ^ j).natAbs:=by
 rw[Int.natAbs_mul]
 have h2:∀j:Nat,2 ^ j≤((10:Int) ^ j).natAbs:=by
  intro j
  induction j with
  | zero=>simp
  | succ j ih =>
   rw[Int.pow_succ,Int.natAbs_mul,Nat.pow_succ]
   show 2 ^ j*2≤((10:Int) ^ j).natAbs*10
   omega
 exact Nat.le_trans (h2 j) (Nat.le_mul_of_pos_left _ (by omega))
theorem Uy {u:Int} (hu:u≠0) {j:Nat} (hb:G3 (u*10 ^ j)):j<64:=by
 have h:=ZW u hu j
 unfold G3 at hb
 rcases Nat.lt_or_ge j 64 with h1|h1
 ·exact h1
 ·have h2:(2:Nat) ^ 64≤2 ^ j:=Nat.pow_le_pow_right (by omega) h1
  have h3:(2:Nat) ^ 64=18446744073709551616:=rfl
  omega
theorem make_loop {R:Type} (d:dH) (e0:Int→Int→dH→Option R):∀(j n:Nat) (u x:Int),j<n→Int.tmod u 10≠0→G3 (u*10 ^ j) → -9223372036854775808≤x→x+j≤4000000000000000000 →
  bF n (u*10 ^ j) x d e0=e0 u (x+j) d:=by
 intro j
 induction j with
 | zero =>
  intro n u x hn hu hb h1 h2
  obtain ⟨m,rfl⟩:∃m,n=m+1:=⟨n - 1,by omega⟩
  have e:bF (m+1) (u*10 ^ 0) x d e0=nN (fun hY hZ iB=>bF m hY hZ iB e0) (u*10 ^ 0) x d e0:=rfl
  rw[e]
  unfold nN
  have e1:u*10 ^ 0=u:=by simp
  have e2:(Int.tmod u 10==0)=false:=by rw[beq_eq_false_iff_ne]; exact hu
  rw[e1,e2,cond_false]
  simp
 | succ j ih =>
  intro n u x hn hu hb h1 h2
  obtain ⟨m,rfl⟩:∃m,n=m+1:=⟨n - 1,by omega⟩
  have e:bF (m+1) (u*10 ^ (j+1)) x d e0=nN (fun hY hZ iB=>bF m hY hZ iB e0) (u*10 ^ (j+1)) x d e0:=rfl
  rw[e]
  unfold nN
  have ep:u*10 ^ (j+1)=u*10 ^ j*10:=by rw[Int.pow_succ,Int.mul_assoc]
  unfold G3 at hb
  rw[ep]at hb ⊢
  have e1:(Int.tmod (u*10 ^ j*10) 10==0)=true:=by rw[Int.mul_tmod_left]; rfl
  have e2:Int.tdiv (u*10 ^ j*10) 10=u*10 ^ j:=Int.mul_tdiv_cancel _ (by omega)
  rw[e1,cond_true,e2,bw (n:=u*10 ^ j) (by omega) (by omega),bw (n:=x+1) (by omega) (by omega)]
  show bF m (u*10 ^ j) (x+1) d e0=_
  rw[ih m u (x+1) (by omega) hu (by unfold G3; omega) (by omega) (by omega)]
  have:x+1+(j:Int)=x+((j+1:Nat):Int):=by omega
  rw[this]
theorem WO {R:Type} (a b c:Int) (k:Bool→Option R):bt a b c k=k (decide (a≤b)&&decide (b≤c)):=by
 have e:bt a b c k=rJ a b c k:=rfl
 rw[e]
 unfold rJ
 by_cases h1:a≤b
 ·rw[aB h1]; first|rfl|simp
 ·rw[aV h1]; first|rfl|simp
def Ql (u x:Int):dH × Bool:=if -1000000000000000≤u∧u≤1000000000000000 ∧ -9≤x∧x≤9 then (⟨u,x⟩,true)else (⟨0,0⟩,false)
theorem make_ok {R:Type} (u:Int) (j:Nat) (x:Int) (hu:Int.tmod u 10≠0) (hb:G3 (u*10 ^ j)) (h1 : -9223372036854775808≤x) (h2:x≤1000000) (k:dH→Bool→Option R) :
  ca (u*10 ^ j) x k=k (Ql u (x+j)).1 (Ql u (x+j)).2:=by
 have e:ca (u*10 ^ j) x k=qq bt bF (u*10 ^ j) x k:=rfl
 rw[e]
 unfold qq
 have hu0:u≠0:=by rintro rfl; exact hu rfl
 have ha:=Om u j
 have hn:=noughts_le u hu0 j
 have h64:=Uy hu0 hb
 have h0:(u*10 ^ j==0)=false:=by rw[beq_eq_false_iff_ne]; omega
 have hm:min x 1000000=x:=Int.min_eq_left h2
 unfold G3 at hb
 rw[h0,cond_false,hm,make_loop _ _ j _ u x (by omega) hu (by unfold G3; exact hb) h1 (by omega)]
 rw[WO]
 unfold Ql
 by_cases c1 : -1000000000000000≤u∧u≤1000000000000000
 ·rw[aB c1.1,aB c1.2]
  simp only[Bool.and_self,Bool.not_true,cond_false]
  rw[WO]
  by_cases c2 : -9≤x+(j:Int)∧x+(j:Int)≤9
  ·rw[aB c2.1,aB c2.2,if_pos ⟨c1.1,c1.2,c2.1,c2.2⟩]
   rfl
  ·rw[if_neg (fun h=>c2 h.2.2)]
   have:(decide (-9≤x+(j:Int))&&decide (x+(j:Int)≤9))=false:=by
    rw[Bool.and_eq_false_iff,decide_eq_false_iff_not,decide_eq_false_iff_not]; omega
   rw[this]
   rfl
 ·rw[if_neg (fun h=>c1 ⟨h.1,h.2.1⟩)]
  have:(decide (-1000000000000000≤u)&&decide (u≤1000000000000000))=false:=by
   rw[Bool.and_eq_false_iff,decide_eq_false_iff_not,decide_eq_false_iff_not]; omega
  rw[this]
  rfl
theorem WQ {R:Type} (x:Int) (k:dH→Bool→Option R):ca 0 x k=k ⟨0,0⟩ true:=by
 have e:ca 0 x k=qq bt bF 0 x k:=rfl
 rw[e]
 rfl
end Go.Proofs.YtmlkkgfenfdndaaGreatDoor
set_option maxRecDepth 100000
namespace Go.Proofs.YtmlkkgfenfdndaaGreatDoor
open Go Go.aG Go.Lib
def Fm (d:dH):Prop:=(d.aF=0∧d.exp=0)∨(Int.tmod d.aF 10≠0 ∧ -1000000000000000≤d.aF∧d.aF≤1000000000000000 ∧ -9≤d.exp∧d.exp≤9)
theorem Fm.bounds {d:dH} (h:Fm d) : -1000000000000000≤d.aF∧d.aF≤1000000000000000 ∧ -9≤d.exp∧d.exp≤9:=by
 rcases h with h|h <;> omega
theorem Fm.nz {d:dH} (h:Fm d) (h0:d.aF≠0):Int.tmod d.aF 10≠0:=by
 rcases h with h|h
 ·exact (h0 h.1).elim
 ·exact h.1
theorem Fm.zero {d:dH} (h:Fm d) (h0:d.aF=0):d=⟨0,0⟩:=by
 rcases h with h|h
 ·cases d; simp only at h; rw[h.1,h.2]
 ·exact (h.1 (by rw[h0]; rfl)).elim
theorem Fm.mk0:Fm ⟨0,0⟩ := .inl ⟨rfl,rfl⟩
theorem tmod_neg {m:Int} (h:Int.tmod m 10≠0):Int.tmod (-m) 10≠0:=by rw[Int.neg_tmod]; omega
theorem Fm.neg {d:dH} (h:Fm d):Fm ⟨-d.aF,d.exp⟩:=by
 rcases h with h|h
 ·exact .inl ⟨by simp only; omega,h.2⟩
 ·exact .inr ⟨tmod_neg h.1,by simp only; omega,by simp only; omega,h.2.2.2⟩
def Made (m x:Int) (r:dH × Bool):Prop:=(m=0∧r=(⟨0,0⟩,true))∨∃(u:Int) (j:Nat),m=u*10 ^ j∧Int.tmod u 10≠0∧r=Ql u (x+j)
theorem make_any {R:Type} (m x:Int) (hm:G3 m) (h1 : -4000000000000000000≤x) (h2:x≤1000000):∃r:dH × Bool,Made m x r∧∀k:dH→Bool→Option R,ca m x k=k r.1 r.2:=by
 by_cases h0:m=0
 ·subst h0
  exact ⟨_, .inl ⟨rfl,rfl⟩,fun k=>WQ x k⟩
 ·obtain ⟨j,u,hu,hd⟩:=ZV (m.natAbs+1) m h0 (by omega)
  exact ⟨_, .inr ⟨u,j,hu,hd,rfl⟩,fun k=>by subst hu; exact make_ok u j x hd hm (by omega) h2 k⟩
def val (d:dH):Int:=d.aF*10 ^ (d.exp+9).toNat
theorem ZX (u:Nat) (h:0<u):10 ^ (nDigits u - 1)≤u:=by
 induction u using Nat.strongRecOn with
 | _ u ih =>
  by_cases h1:u<10
  ·rw[nDigits_small h1]; exact h
  ·rw[nDigits_big h1,Nat.add_sub_cancel]
   have h2:=ih (u / 10) (by omega) (by omega)
   have h3:=nDigits_pos (u / 10)
   have e:nDigits (u / 10)=(nDigits (u / 10) - 1)+1:=by omega
   rw[e,Nat.pow_succ]
   omega
theorem ZY {u:Nat} (h:u≤1000000000000000):nDigits u≤16:=by
 rcases Nat.eq_zero_or_pos u with rfl|h0
 ·rw[nDigits_small (by omega)]; omega
 ·have h1:=ZX u h0
  rcases Nat.lt_or_ge (nDigits u) 17 with h2|h2
  ·omega
  ·have h3:(10:Nat) ^ 16≤10 ^ (nDigits u - 1):=Nat.pow_le_pow_right (by omega) (by omega)
   have e:(10:Nat) ^ 16=10000000000000000:=rfl
   omega
theorem mkD_fm {u x:Int} (hu:Int.tmod u 10≠0) (h:(Ql u x).2=true):Ql u x=(⟨u,x⟩,true)∧Fm ⟨u,x⟩:=by
 unfold Ql at h ⊢
 split at h
 ·rename_i hc
  rw[if_pos hc]
  exact ⟨rfl, .inr ⟨hu,hc⟩⟩
 ·cases h
theorem made_same {d:dH} (h:Fm d) (h0:d.aF≠0) {j:Nat} {x:Int} (hx:x+j=d.exp) {r:dH × Bool} (hr:Made (d.aF*10 ^ j) x r):r=(d,true):=by
 have hz:=h.nz h0
 have hab:=Om d.aF j
 rcases hr with ⟨h1,_⟩|⟨u,i,e,hu,rfl⟩
 ·omega
 ·obtain ⟨rfl,rfl⟩:=WM i j u d.aF hu hz e.symm
  have b:=h.bounds
  unfold Ql
  rw[if_pos (by omega),hx]
end Go.Proofs.YtmlkkgfenfdndaaGreatDoor
/-
 Functions of the program as pure Lean functions, and the ties; printed by wip/tools/emit.py.
-/
set_option maxRecDepth 100000
namespace Go.Proofs.YtmlkkgfenfdndaaGreatDoor
open Go Go.aG
/-! ### (*strings.Builder).WriteString -/
abbrev bG (R:Type):Type:=ah→(Int→(List Int)→Option R)→Option R
abbrev kZ:List bE := [.leaf (.ptr 0 0), .leaf (.str)]
abbrev k6:List aA := [.oG (.cV)]
def pK {R:Type} (fn:bG R):bE.au kZ→aA.au k6→(V→aO→Option R)→Option R:=fun x y k=>fn x.2.1 (fun q0 q1=>k (.tuple [.int .i64 q0, .eg]) [.oG (.sl (.int .u8) q1 (.own 1)), .tok])
def iF {R:Type} (fn:bG R):aG.Spec R→aG.Spec R:=bm kZ k6 (pK fn)
def qs {R:Type}:List (wv R) := [(73,false,(RE R))]
theorem xY {R:Type}:ff (R:=R) Tryz.prog (qs (R:=R)) := .f (Up) rfl <| .n
def qu {R:Type} (x1:ah) (k0:Int→(List Int)→Option R):Option R :=
 cu (decide ((0+(s9 x1).length)*1≤140737488355328)) (k0 (x1.length:Int) (s9 x1))
def aj {R:Type}:bG R:=fun x1 k0=>qu x1 k0
theorem yQ {R:Type}:gS (R:=R) tt (qs (R:=R)) Ca false Tryz.f52 (aI Tryz.f52) kZ k6 (pK qu):=fun x y k=>by kernel_rfl
theorem ki (R:Type):sM Tryz.prog 52 (iF (aj (R:=R))):=cC TT mixed (xY (R:=R)) rfl rfl rfl rfl eS (yQ)
/-! ### (*strings.Builder).WriteByte -/
abbrev bD (R:Type):Type:=Int→((List Int)→Option R)→Option R
abbrev mz:List bE := [.leaf (.ptr 0 0), .leaf (.int .u8)]
abbrev mA:List aA := [.oG (.cV)]
def qQ {R:Type} (fn:bD R):bE.au mz→aA.au mA→(V→aO→Option R)→Option R:=fun x y k=>fn x.2.1 (fun q0=>k (.eg) [.oG (.sl (.int .u8) q0 (.own 1)), .tok])
def jb {R:Type} (fn:bD R):aG.Spec R→aG.Spec R:=bm mz mA (qQ fn)
def rQ {R:Type}:List (wv R) := [(73,false,(RE R))]
theorem zQ {R:Type}:ff (R:=R) Tryz.prog (rQ (R:=R)) := .f (Up) rfl <| .n
def rR {R:Type} (x1:Int) (k0:(List Int)→Option R):Option R :=
 k0 ([x1]:List Int)
def ak {R:Type}:bD R:=fun x1 k0=>rR x1 k0
theorem AU {R:Type}:gS (R:=R) tt (rQ (R:=R)) Ca false Tryz.f50 (aI Tryz.f50) mz mA (qQ rR):=fun x y k=>by kernel_rfl
theorem kT (R:Type):sM Tryz.prog 50 (jb (ak (R:=R))):=cC TT mixed (zQ (R:=R)) rfl rfl rfl rfl eS (AU)
/-! ### (*strings.Builder).WriteString -/
abbrev bl (R:Type):Type:=ah→(List Int)→(Int→(List Int)→Option R)→Option R
abbrev k7:List bE := [.leaf (.ptr 0 0), .leaf (.str)]
abbrev k8:List aA := [.oG (.Vt (.int .u8) 1), .tok]
def pL {R:Type} (fn:bl R):bE.au k7→aA.au k8→(V→aO→Option R)→Option R:=fun x y k=>fn x.2.1 y.1 (fun q0 q1=>k (.tuple [.int .i64 q0, .eg]) [.oG (.sl (.int .u8) q1 (.own 2)), .dead, .tok])
def ga {R:Type} (fn:bl R):aG.Spec R→aG.Spec R:=bm k7 k8 (pL fn)
def qv {R:Type}:List (wv R) := [(73,false,(RE R))]
theorem xZ {R:Type}:ff (R:=R) Tryz.prog (qv (R:=R)) := .f (Up) rfl <| .n
def qw {R:Type} (x1:ah) (x2:List Int) (k0:Int→(List Int)→Option R):Option R :=
 cu (decide ((x2.length+(s9 x1).length)*1≤140737488355328)) (k0 (x1.length:Int) ((x2:List Int)++((s9 x1):List Int)))
def ag {R:Type}:bl R:=fun x1 x2 k0=>qw x1 x2 k0
theorem yR {R:Type}:gS (R:=R) tt (qv (R:=R)) Ca false Tryz.f52 (aI Tryz.f52) k7 k8 (pL qw):=fun x y k=>by kernel_rfl
theorem gO (R:Type):sM Tryz.prog 52 (ga (ag (R:=R))):=cC TT mixed (xZ (R:=R)) rfl rfl rfl rfl eS (yR)
/-! ### humpyard/decimal.Print -/
abbrev fA (R:Type):Type:=dH→(ah→Option R)→Option R
abbrev Ek:List bE := [.agg [.int .i64, .int .i64]]
abbrev El:List aA := []
def H3 {R:Type} (fn:fA R):bE.au Ek→aA.au El→(V→aO→Option R)→Option R:=fun x y k=>fn (⟨x.1.1,x.1.2.1⟩:dH) (fun q0=>k (.str q0) [])
def zw {R:Type} (fn:fA R):aG.Spec R→aG.Spec R:=bm Ek El (H3 fn)
def J1 {R:Type} (eK:ka R) (ak:bD R) (ag:bl R) (aj:bG R):List (wv R) := [(65,true,(Eg eK bb)),(50,false,(jb ak bb)),(52,false,(iF aj (ga ag bb))),(39,false,(IS R)),(66,true,(itoa_S R)),(67,true,(rep_S R))]
theorem PA {R:Type}:ff (R:=R) Tryz.prog (J1 eK ak ag aj) := .p (FT R _ (aM _)) <| .f (kT R _ (aM _)) rfl <| .f (ki R _ (gO R _ (aM _))) rfl <| .s (S8) Mk <| .p (itoa_ok) <| .p (rep_ok) <| .n
def J2 {R:Type} (eK:ka R) (ak:bD R) (ag:bl R) (aj:bG R) (x1:dH) (k0:ah→Option R):Option R :=
 eK x1 (fun y2=>bif (!y2)then (k0 ([]:ah))else (bif (decide (x1.aF<(0:Int)))then (ak 45 (fun y3=>bif (decide (x1.exp≥(0:Int)))then (cu (decide (0≤x1.exp)&&decide ((([48]:ah).length:Int)*x1.exp≤140737488355328)) (cu (decide ((cK (max x1.aF (IntKind.i64.wrap (0 - x1.aF)))).length+(nj ([48]:ah) x1.exp).length≤9223372036854775807)) (ag ((cK (max x1.aF (IntKind.i64.wrap (0 - x1.aF))))++(nj ([48]:ah) x1.exp)) y3 (fun y4 y5=>k0 (Gk y5)))))else (cu (decide (0≤(max 0 (IntKind.i64.wrap ((IntKind.i64.wrap (1 - x1.exp)) - ((cK (max x1.aF (IntKind.i64.wrap (0 - x1.aF)))).length:Int)))))&&decide ((([48]:ah).length:Int)*(max 0 (IntKind.i64.wrap ((IntKind.i64.wrap (1 - x1.exp)) - ((cK (max x1.aF (IntKind.i64.wrap (0 - x1.aF)))).length:Int))))≤140737488355328)) (cu (decide ((nj ([48]:ah) (max 0 (IntKind.i64.wrap ((IntKind.i64.wrap (1 - x1.exp)) - ((cK (max x1.aF (IntKind.i64.wrap (0 - x1.aF)))).length:Int))))).length+(cK (max x1.aF (IntKind.i64.wrap (0 - x1.aF)))).length≤9223372036854775807)) (cu (decide ((0:Int)≤(IntKind.i64.wrap ((((nj ([48]:ah) (max 0 (IntKind.i64.wrap ((IntKind.i64.wrap (1 - x1.exp)) - ((cK (max x1.aF (IntKind.i64.wrap (0 - x1.aF)))).length:Int)))))++(cK (max x1.aF (IntKind.i64.wrap (0 - x1.aF))))).length:Int)+x1.exp)))&&decide ((IntKind.i64.wrap ((((nj ([48]:ah) (max 0 (IntKind.i64.wrap ((IntKind.i64.wrap (1 - x1.exp)) - ((cK (max x1.aF (IntKind.i64.wrap (0 - x1.aF)))).length:Int)))))++(cK (max x1.aF (IntKind.i64.wrap (0 - x1.aF))))).length:Int)+x1.exp))≤((nj ([48]:ah) (max 0 (IntKind.i64.wrap ((IntKind.i64.wrap (1 - x1.exp)) - ((cK (max x1.aF (IntKind.i64.wrap (0 - x1.aF)))).length:Int)))))++(cK (max x1.aF (IntKind.i64.wrap (0 - x1.aF))))).length)) (cu (decide ((0:Int)≤(IntKind.i64.wrap ((((nj ([48]:ah) (max 0 (IntKind.i64.wrap ((IntKind.i64.wrap (1 - x1.exp)) - ((cK (max x1.aF (IntKind.i64.wrap (0 - x1.aF)))).length:Int)))))++(cK (max x1.aF (IntKind.i64.wrap (0 - x1.aF))))).length:Int)+x1.exp)))) (cu (decide (((((nj ([48]:ah) (max 0 (IntKind.i64.wrap ((IntKind.i64.wrap (1 - x1.exp)) - ((cK (max x1.aF (IntKind.i64.wrap (0 - x1.aF)))).length:Int)))))++(cK (max x1.aF (IntKind.i64.wrap (0 - x1.aF))))).drop 0).take ((IntKind.i64.wrap ((((nj ([48]:ah) (max 0 (IntKind.i64.wrap ((IntKind.i64.wrap (1 - x1.exp)) - ((cK (max x1.aF (IntKind.i64.wrap (0 - x1.aF)))).length:Int)))))++(cK (max x1.aF (IntKind.i64.wrap (0 - x1.aF))))).length:Int)+x1.exp)).toNat - 0)).length+1≤9223372036854775807)) (cu (decide ((0:Int)≤(((nj ([48]:ah) (max 0 (IntKind.i64.wrap ((IntKind.i64.wrap (1 - x1.exp)) - ((cK (max x1.aF (IntKind.i64.wrap (0 - x1.aF)))).length:Int)))))++(cK (max x1.aF (IntKind.i64.wrap (0 - x1.aF))))).length:Int))&&decide ((((nj ([48]:ah) (max 0 (IntKind.i64.wrap ((IntKind.i64.wrap (1 - x1.exp)) - ((cK (max x1.aF (IntKind.i64.wrap (0 - x1.aF)))).length:Int)))))++(cK (max x1.aF (IntKind.i64.wrap (0 - x1.aF))))).length:Int)≤((nj ([48]:ah) (max 0 (IntKind.i64.wrap ((IntKind.i64.wrap (1 - x1.exp)) - ((cK (max x1.aF (IntKind.i64.wrap (0 - x1.aF)))).length:Int)))))++(cK (max x1.aF (IntKind.i64.wrap (0 - x1.aF))))).length)) (cu (decide ((0:Int)≤(IntKind.i64.wrap ((((nj ([48]:ah) (max 0 (IntKind.i64.wrap ((IntKind.i64.wrap (1 - x1.exp)) - ((cK (max x1.aF (IntKind.i64.wrap (0 - x1.aF)))).length:Int)))))++(cK (max x1.aF (IntKind.i64.wrap (0 - x1.aF))))).length:Int)+x1.exp)))&&decide ((IntKind.i64.wrap ((((nj ([48]:ah) (max 0 (IntKind.i64.wrap ((IntKind.i64.wrap (1 - x1.exp)) - ((cK (max x1.aF (IntKind.i64.wrap (0 - x1.aF)))).length:Int)))))++(cK (max x1.aF (IntKind.i64.wrap (0 - x1.aF))))).length:Int)+x1.exp))≤(((nj ([48]:ah) (max 0 (IntKind.i64.wrap ((IntKind.i64.wrap (1 - x1.exp)) - ((cK (max x1.aF (IntKind.i64.wrap (0 - x1.aF)))).length:Int)))))++(cK (max x1.aF (IntKind.i64.wrap (0 - x1.aF))))).length:Int))) (cu (decide ((((((nj ([48]:ah) (max 0 (IntKind.i64.wrap ((IntKind.i64.wrap (1 - x1.exp)) - ((cK (max x1.aF (IntKind.i64.wrap (0 - x1.aF)))).length:Int)))))++(cK (max x1.aF (IntKind.i64.wrap (0 - x1.aF))))).drop 0).take ((IntKind.i64.wrap ((((nj ([48]:ah) (max 0 (IntKind.i64.wrap ((IntKind.i64.wrap (1 - x1.exp)) - ((cK (max x1.aF (IntKind.i64.wrap (0 - x1.aF)))).length:Int)))))++(cK (max x1.aF (IntKind.i64.wrap (0 - x1.aF))))).length:Int)+x1.exp)).toNat - 0))++([46]:ah)).length+((((nj ([48]:ah) (max 0 (IntKind.i64.wrap ((IntKind.i64.wrap (1 - x1.exp)) - ((cK (max x1.aF (IntKind.i64.wrap (0 - x1.aF)))).length:Int)))))++(cK (max x1.aF (IntKind.i64.wrap (0 - x1.aF))))).drop (IntKind.i64.wrap ((((nj ([48]:ah) (max 0 (IntKind.i64.wrap ((IntKind.i64.wrap (1 - x1.exp)) - ((cK (max x1.aF (IntKind.i64.wrap (0 - x1.aF)))).length:Int)))))++(cK (max x1.aF (IntKind.i64.wrap (0 - x1.aF))))).length:Int)+x1.exp)).toNat).take ((((nj ([48]:ah) (max 0 (IntKind.i64.wrap ((IntKind.i64.wrap (1 - x1.exp)) - ((cK (max x1.aF (IntKind.i64.wrap (0 - x1.aF)))).length:Int)))))++(cK (max x1.aF (IntKind.i64.wrap (0 - x1.aF))))).length:Int).toNat - (IntKind.i64.wrap ((((nj ([48]:ah) (max 0 (IntKind.i64.wrap ((IntKind.i64.wrap (1 - x1.exp)) - ((cK (max x1.aF (IntKind.i64.wrap (0 - x1.aF)))).length:Int)))))++(cK (max x1.aF (IntKind.i64.wrap (0 - x1.aF))))).length:Int)+x1.exp)).toNat)).length≤9223372036854775807)) (ag ((((((nj ([48]:ah) (max 0 (IntKind.i64.wrap ((IntKind.i64.wrap (1 - x1.exp)) - ((cK (max x1.aF (IntKind.i64.wrap (0 - x1.aF)))).length:Int)))))++(cK (max x1.aF (IntKind.i64.wrap (0 - x1.aF))))).drop 0).take ((IntKind.i64.wrap ((((nj ([48]:ah) (max 0 (IntKind.i64.wrap ((IntKind.i64.wrap (1 - x1.exp)) - ((cK (max x1.aF (IntKind.i64.wrap (0 - x1.aF)))).length:Int)))))++(cK (max x1.aF (IntKind.i64.wrap (0 - x1.aF))))).length:Int)+x1.exp)).toNat - 0))++([46]:ah))++((((nj ([48]:ah) (max 0 (IntKind.i64.wrap ((IntKind.i64.wrap (1 - x1.exp)) - ((cK (max x1.aF (IntKind.i64.wrap (0 - x1.aF)))).length:Int)))))++(cK (max x1.aF (IntKind.i64.wrap (0 - x1.aF))))).drop (IntKind.i64.wrap ((((nj ([48]:ah) (max 0 (IntKind.i64.wrap ((IntKind.i64.wrap (1 - x1.exp)) - ((cK (max x1.aF (IntKind.i64.wrap (0 - x1.aF)))).length:Int)))))++(cK (max x1.aF (IntKind.i64.wrap (0 - x1.aF))))).length:Int)+x1.exp)).toNat).take ((((nj ([48]:ah) (max 0 (IntKind.i64.wrap ((IntKind.i64.wrap (1 - x1.exp)) - ((cK (max x1.aF (IntKind.i64.wrap (0 - x1.aF)))).length:Int)))))++(cK (max x1.aF (IntKind.i64.wrap (0 - x1.aF))))).length:Int).toNat - (IntKind.i64.wrap ((((nj ([48]:ah) (max 0 (IntKind.i64.wrap ((IntKind.i64.wrap (1 - x1.exp)) - ((cK (max x1.aF (IntKind.i64.wrap (0 - x1.aF)))).length:Int)))))++(cK (max x1.aF (IntKind.i64.wrap (0 - x1.aF))))).length:Int)+x1.exp)).toNat))) y3 (fun y6 y7=>k0 (Gk y7)))))))))))))else (bif (decide (x1.exp≥(0:Int)))then (cu (decide (0≤x1.exp)&&decide ((([48]:ah).length:Int)*x1.exp≤140737488355328)) (cu (decide ((cK (max x1.aF (IntKind.i64.wrap (0 - x1.aF)))).length+(nj ([48]:ah) x1.exp).length≤9223372036854775807)) (aj ((cK (max x1.aF (IntKind.i64.wrap (0 - x1.aF))))++(nj ([48]:ah) x1.exp)) (fun y8 y9=>k0 (Gk y9)))))else (cu (decide (0≤(max 0 (IntKind.i64.wrap ((IntKind.i64.wrap (1 - x1.exp)) - ((cK (max x1.aF (IntKind.i64.wrap (0 - x1.aF)))).length:Int)))))&&decide ((([48]:ah).length:Int)*(max 0 (IntKind.i64.wrap ((IntKind.i64.wrap (1 - x1.exp)) - ((cK (max x1.aF (IntKind.i64.wrap (0 - x1.aF)))).length:Int))))≤140737488355328)) (cu (decide ((nj ([48]:ah) (max 0 (IntKind.i64.wrap ((IntKind.i64.wrap (1 - x1.exp)) - ((cK (max x1.aF (IntKind.i64.wrap (0 - x1.aF)))).length:Int))))).length+(cK (max x1.aF (IntKind.i64.wrap (0 - x1.aF)))).length≤9223372036854775807)) (cu (decide ((0:Int)≤(IntKind.i64.wrap ((((nj ([48]:ah) (max 0 (IntKind.i64.wrap ((IntKind.i64.wrap (1 - x1.exp)) - ((cK (max x1.aF (IntKind.i64.wrap (0 - x1.aF)))).length:Int)))))++(cK (max x1.aF (IntKind.i64.wrap (0 - x1.aF))))).length:Int)+x1.exp)))&&decide ((IntKind.i64.wrap ((((nj ([48]:ah) (max 0 (IntKind.i64.wrap ((IntKind.i64.wrap (1 - x1.exp)) - ((cK (max x1.aF (IntKind.i64.wrap (0 - x1.aF)))).length:Int)))))++(cK (max x1.aF (IntKind.i64.wrap (0 - x1.aF))))).length:Int)+x1.exp))≤((nj ([48]:ah) (max 0 (IntKind.i64.wrap ((IntKind.i64.wrap (1 - x1.exp)) - ((cK (max x1.aF (IntKind.i64.wrap (0 - x1.aF)))).length:Int)))))++(cK (max x1.aF (IntKind.i64.wrap (0 - x1.aF))))).length)) (cu (decide ((0:Int)≤(IntKind.i64.wrap ((((nj ([48]:ah) (max 0 (IntKind.i64.wrap ((IntKind.i64.wrap (1 - x1.exp)) - ((cK (max x1.aF (IntKind.i64.wrap (0 - x1.aF)))).length:Int)))))++(cK (max x1.aF (IntKind.i64.wrap (0 - x1.aF))))).length:Int)+x1.exp)))) (cu (decide (((((nj ([48]:ah) (max 0 (IntKind.i64.wrap ((IntKind.i64.wrap (1 - x1.exp)) - ((cK (max x1.aF (IntKind.i64.wrap (0 - x1.aF)))).length:Int)))))++(cK (max x1.aF (IntKind.i64.wrap (0 - x1.aF))))).drop 0).take ((IntKind.i64.wrap ((((nj ([48]:ah) (max 0 (IntKind.i64.wrap ((IntKind.i64.wrap (1 - x1.exp)) - ((cK (max x1.aF (IntKind.i64.wrap (0 - x1.aF)))).length:Int)))))++(cK (max x1.aF (IntKind.i64.wrap (0 - x1.aF))))).length:Int)+x1.exp)).toNat - 0)).length+1≤9223372036854775807)) (cu (decide ((0:Int)≤(((nj ([48]:ah) (max 0 (IntKind.i64.wrap ((IntKind.i64.wrap (1 - x1.exp)) - ((cK (max x1.aF (IntKind.i64.wrap (0 - x1.aF)))).length:Int)))))++(cK (max x1.aF (IntKind.i64.wrap (0 - x1.aF))))).length:Int))&&decide ((((nj ([48]:ah) (max 0 (IntKind.i64.wrap ((IntKind.i64.wrap (1 - x1.exp)) - ((cK (max x1.aF (IntKind.i64.wrap (0 - x1.aF)))).length:Int)))))++(cK (max x1.aF (IntKind.i64.wrap (0 - x1.aF))))).length:Int)≤((nj ([48]:ah) (max 0 (IntKind.i64.wrap ((IntKind.i64.wrap (1 - x1.exp)) - ((cK (max x1.aF (IntKind.i64.wrap (0 - x1.aF)))).length:Int)))))++(cK (max x1.aF (IntKind.i64.wrap (0 - x1.aF))))).length)) (cu (decide ((0:Int)≤(IntKind.i64.wrap ((((nj ([48]:ah) (max 0 (IntKind.i64.wrap ((IntKind.i64.wrap (1 - x1.exp)) - ((cK (max x1.aF (IntKind.i64.wrap (0 - x1.aF)))).length:Int)))))++(cK (max x1.aF (IntKind.i64.wrap (0 - x1.aF))))).length:Int)+x1.exp)))&&decide ((IntKind.i64.wrap ((((nj ([48]:ah) (max 0 (IntKind.i64.wrap ((IntKind.i64.wrap (1 - x1.exp)) - ((cK (max x1.aF (IntKind.i64.wrap (0 - x1.aF)))).length:Int)))))++(cK (max x1.aF (IntKind.i64.wrap (0 - x1.aF))))).length:Int)+x1.exp))≤(((nj ([48]:ah) (max 0 (IntKind.i64.wrap ((IntKind.i64.wrap (1 - x1.exp)) - ((cK (max x1.aF (IntKind.i64.wrap (0 - x1.aF)))).length:Int)))))++(cK (max x1.aF (IntKind.i64.wrap (0 - x1.aF))))).length:Int))) (cu (decide ((((((nj ([48]:ah) (max 0 (IntKind.i64.wrap ((IntKind.i64.wrap (1 - x1.exp)) - ((cK (max x1.aF (IntKind.i64.wrap (0 - x1.aF)))).length:Int)))))++(cK (max x1.aF (IntKind.i64.wrap (0 - x1.aF))))).drop 0).take ((IntKind.i64.wrap ((((nj ([48]:ah) (max 0 (IntKind.i64.wrap ((IntKind.i64.wrap (1 - x1.exp)) - ((cK (max x1.aF (IntKind.i64.wrap (0 - x1.aF)))).length:Int)))))++(cK (max x1.aF (IntKind.i64.wrap (0 - x1.aF))))).length:Int)+x1.exp)).toNat - 0))++([46]:ah)).length+((((nj ([48]:ah) (max 0 (IntKind.i64.wrap ((IntKind.i64.wrap (1 - x1.exp)) - ((cK (max x1.aF (IntKind.i64.wrap (0 - x1.aF)))).length:Int)))))++(cK (max x1.aF (IntKind.i64.wrap (0 - x1.aF))))).drop (IntKind.i64.wrap ((((nj ([48]:ah) (max 0 (IntKind.i64.wrap ((IntKind.i64.wrap (1 - x1.exp)) - ((cK (max x1.aF (IntKind.i64.wrap (0 - x1.aF)))).length:Int)))))++(cK (max x1.aF (IntKind.i64.wrap (0 - x1.aF))))).length:Int)+x1.exp)).toNat).take ((((nj ([48]:ah) (max 0 (IntKind.i64.wrap ((IntKind.i64.wrap (1 - x1.exp)) - ((cK (max x1.aF (IntKind.i64.wrap (0 - x1.aF)))).length:Int)))))++(cK (max x1.aF (IntKind.i64.wrap (0 - x1.aF))))).length:Int).toNat - (IntKind.i64.wrap ((((nj ([48]:ah) (max 0 (IntKind.i64.wrap ((IntKind.i64.wrap (1 - x1.exp)) - ((cK (max x1.aF (IntKind.i64.wrap (0 - x1.aF)))).length:Int)))))++(cK (max x1.aF (IntKind.i64.wrap (0 - x1.aF))))).length:Int)+x1.exp)).toNat)).length≤9223372036854775807)) (aj ((((((nj ([48]:ah) (max 0 (IntKind.i64.wrap ((IntKind.i64.wrap (1 - x1.exp)) - ((cK (max x1.aF (IntKind.i64.wrap (0 - x1.aF)))).length:Int)))))++(cK (max x1.aF (IntKind.i64.wrap (0 - x1.aF))))).drop 0).take ((IntKind.i64.wrap ((((nj ([48]:ah) (max 0 (IntKind.i64.wrap ((IntKind.i64.wrap (1 - x1.exp)) - ((cK (max x1.aF (IntKind.i64.wrap (0 - x1.aF)))).length:Int)))))++(cK (max x1.aF (IntKind.i64.wrap (0 - x1.aF))))).length:Int)+x1.exp)).toNat - 0))++([46]:ah))++((((nj ([48]:ah) (max 0 (IntKind.i64.wrap ((IntKind.i64.wrap (1 - x1.exp)) - ((cK (max x1.aF (IntKind.i64.wrap (0 - x1.aF)))).length:Int)))))++(cK (max x1.aF (IntKind.i64.wrap (0 - x1.aF))))).drop (IntKind.i64.wrap ((((nj ([48]:ah) (max 0 (IntKind.i64.wrap ((IntKind.i64.wrap (1 - x1.exp)) - ((cK (max x1.aF (IntKind.i64.wrap (0 - x1.aF)))).length:Int)))))++(cK (max x1.aF (IntKind.i64.wrap (0 - x1.aF))))).length:Int)+x1.exp)).toNat).take ((((nj ([48]:ah) (max 0 (IntKind.i64.wrap ((IntKind.i64.wrap (1 - x1.exp)) - ((cK (max x1.aF (IntKind.i64.wrap (0 - x1.aF)))).length:Int)))))++(cK (max x1.aF (IntKind.i64.wrap (0 - x1.aF))))).length:Int).toNat - (IntKind.i64.wrap ((((nj ([48]:ah) (max 0 (IntKind.i64.wrap ((IntKind.i64.wrap (1 - x1.exp)) - ((cK (max x1.aF (IntKind.i64.wrap (0 - x1.aF)))).length:Int)))))++(cK (max x1.aF (IntKind.i64.wrap (0 - x1.aF))))).length:Int)+x1.exp)).toNat))) (fun rI rq=>k0 (Gk rq))))))))))))))
def bC {R:Type}:fA R:=fun x1 k0=>J2 eK ak ag aj x1 k0
theorem QR {R:Type} (eK:ka R) (ak:bD R) (ag:bl R) (aj:bG R):gS (R:=R) tt (J1 eK ak ag aj) Ca false Tryz.f46 (aI Tryz.f46) Ek El (H3 (J2 eK ak ag aj)):=fun x y k=>by kernel_rfl
theorem zR (R:Type):sM Tryz.prog 46 (zw (bC (R:=R))):=cC TT mixed (PA (R:=R)) rfl rfl rfl rfl eS (QR eK ak ag aj)
/-! ### humpyard/quote.short -/
abbrev oB (R:Type):Type:=Int→(Int→Option R)→Option R
abbrev Hc:List bE := [.leaf (.int .i32)]
abbrev Hd:List aA := []
def Lx {R:Type} (fn:oB R):bE.au Hc→aA.au Hd→(V→aO→Option R)→Option R:=fun x y k=>fn x.1 (fun q0=>k (.int .u8 q0) [])
def Nt {R:Type} (fn:oB R):aG.Spec R→aG.Spec R:=bm Hc Hd (Lx fn)
def Nu {R:Type} (x1:Int) (k0:Int→Option R):Option R :=
 bif (x1==34)then (bif (x1==34)then (k0 (IntKind.u8.wrap x1))else (bif (x1==8)then (k0 98)else (bif (x1==12)then (k0 102)else (bif (x1==10)then (k0 110)else (bif (x1==13)then (k0 114)else (bif (x1==9)then (k0 116)else (k0 0)))))))else (bif (x1==92)then (k0 (IntKind.u8.wrap x1))else (bif (x1==8)then (k0 98)else (bif (x1==12)then (k0 102)else (bif (x1==10)then (k0 110)else (bif (x1==13)then (k0 114)else (bif (x1==9)then (k0 116)else (k0 0)))))))
def fU {R:Type}:oB R:=fun x1 k0=>Nu x1 k0
theorem Uz {R:Type}:gS (R:=R) tt [] Ca false Tryz.f51 (aI Tryz.f51) Hc Hd (Lx Nu):=fun x y k=>by kernel_rfl
theorem QS (R:Type):sM Tryz.prog 51 (Nt (fU (R:=R))):=cC TT mixed .n rfl rfl rfl rfl eS (Uz)
/-! ### (*strings.Builder).WriteByte -/
abbrev aY (R:Type):Type:=Int→(List Int)→((List Int)→Option R)→Option R
abbrev mB:List bE := [.leaf (.ptr 0 0), .leaf (.int .u8)]
abbrev mC:List aA := [.oG (.Vt (.int .u8) 1), .tok]
def qR {R:Type} (fn:aY R):bE.au mB→aA.au mC→(V→aO→Option R)→Option R:=fun x y k=>fn x.2.1 y.1 (fun q0=>k (.eg) [.oG (.sl (.int .u8) q0 (.own 2)), .dead, .tok])
def jc {R:Type} (fn:aY R):aG.Spec R→aG.Spec R:=bm mB mC (qR fn)
def rS {R:Type}:List (wv R) := [(73,false,(RE R))]
theorem zS {R:Type}:ff (R:=R) Tryz.prog (rS (R:=R)) := .f (Up) rfl <| .n
def rT {R:Type} (x1:Int) (x2:List Int) (k0:(List Int)→Option R):Option R :=
 cu (decide ((x2.length+1)*1≤140737488355328)) (k0 ((x2:List Int)++(([x1]:List Int):List Int)))
def ae {R:Type}:aY R:=fun x1 x2 k0=>rT x1 x2 k0
theorem AV {R:Type}:gS (R:=R) tt (rS (R:=R)) Ca false Tryz.f50 (aI Tryz.f50) mB mC (qR rT):=fun x y k=>by kernel_rfl
theorem kU (R:Type):sM Tryz.prog 50 (jc (ae (R:=R))):=cC TT mixed (zS (R:=R)) rfl rfl rfl rfl eS (AV)
/-! ### unicode/utf8.appendRuneNonASCII -/
abbrev ef (R:Type):Type:=(List Int)→Int→((List Int)→Option R)→Option R
abbrev jE:List bE := [.leaf (.Vt (.int .u8) 0), .leaf (.int .i32)]
abbrev jF:List aA := [.tok]
def oh {R:Type} (fn:ef R):bE.au jE→aA.au jF→(V→aO→Option R)→Option R:=fun x y k=>fn x.1 x.2.1 (fun q0=>k (.sl (.int .u8) q0 (.own 1)) [.dead, .tok])
def oC {R:Type} (fn:ef R):aG.Spec R→aG.Spec R:=bm jE jF (oh fn)
def gB {R:Type} (x1:List Int) (x2:Int) (k0:(List Int)→Option R):Option R :=
 bif (decide ((IntKind.u32.wrap x2)≤(2047:Int)))then (cu (decide ((x1.length+2)*1≤140737488355328)) (k0 ((x1:List Int)++(([(IntKind.u8.wrap ((BitVec.ofInt IntKind.u8.bits 192 ||| BitVec.ofInt IntKind.u8.bits (IntKind.u8.wrap (Int.fdiv x2 (2 ^ (min 6 IntKind.i32.bits))))).toNat:Int)),(IntKind.u8.wrap ((BitVec.ofInt IntKind.u8.bits 128 ||| BitVec.ofInt IntKind.u8.bits (IntKind.u8.wrap ((BitVec.ofInt IntKind.u8.bits (IntKind.u8.wrap x2) &&& BitVec.ofInt IntKind.u8.bits 63).toNat:Int))).toNat:Int))]:List Int):List Int))))else (let j6:=fun (z3:Bool)=>bif z3 then (cu (decide ((x1.length+3)*1≤140737488355328)) (k0 ((x1:List Int)++(([(IntKind.u8.wrap ((BitVec.ofInt IntKind.u8.bits 224 ||| BitVec.ofInt IntKind.u8.bits (IntKind.u8.wrap (Int.fdiv x2 (2 ^ (min 12 IntKind.i32.bits))))).toNat:Int)),(IntKind.u8.wrap ((BitVec.ofInt IntKind.u8.bits 128 ||| BitVec.ofInt IntKind.u8.bits (IntKind.u8.wrap ((BitVec.ofInt IntKind.u8.bits (IntKind.u8.wrap (Int.fdiv x2 (2 ^ (min 6 IntKind.i32.bits)))) &&& BitVec.ofInt IntKind.u8.bits 63).toNat:Int))).toNat:Int)),(IntKind.u8.wrap ((BitVec.ofInt IntKind.u8.bits 128 ||| BitVec.ofInt IntKind.u8.bits (IntKind.u8.wrap ((BitVec.ofInt IntKind.u8.bits (IntKind.u8.wrap x2) &&& BitVec.ofInt IntKind.u8.bits 63).toNat:Int))).toNat:Int))]:List Int):List Int))))else (let j5:=fun (z4:Bool)=>bif z4 then (cu (decide ((x1.length+4)*1≤140737488355328)) (k0 ((x1:List Int)++(([(IntKind.u8.wrap ((BitVec.ofInt IntKind.u8.bits 240 ||| BitVec.ofInt IntKind.u8.bits (IntKind.u8.wrap (Int.fdiv x2 (2 ^ (min 18 IntKind.i32.bits))))).toNat:Int)),(IntKind.u8.wrap ((BitVec.ofInt IntKind.u8.bits 128 ||| BitVec.ofInt IntKind.u8.bits (IntKind.u8.wrap ((BitVec.ofInt IntKind.u8.bits (IntKind.u8.wrap (Int.fdiv x2 (2 ^ (min 12 IntKind.i32.bits)))) &&& BitVec.ofInt IntKind.u8.bits 63).toNat:Int))).toNat:Int)),(IntKind.u8.wrap ((BitVec.ofInt IntKind.u8.bits 128 ||| BitVec.ofInt IntKind.u8.bits (IntKind.u8.wrap ((BitVec.ofInt IntKind.u8.bits (IntKind.u8.wrap (Int.fdiv x2 (2 ^ (min 6 IntKind.i32.bits)))) &&& BitVec.ofInt IntKind.u8.bits 63).toNat:Int))).toNat:Int)),(IntKind.u8.wrap ((BitVec.ofInt IntKind.u8.bits 128 ||| BitVec.ofInt IntKind.u8.bits (IntKind.u8.wrap ((BitVec.ofInt IntKind.u8.bits (IntKind.u8.wrap x2) &&& BitVec.ofInt IntKind.u8.bits 63).toNat:Int))).toNat:Int))]:List Int):List Int))))else (cu (decide ((x1.length+3)*1≤140737488355328)) (k0 ((x1:List Int)++(([239,191,189]:List Int):List Int)))); bif (decide ((IntKind.u32.wrap x2)>(65535:Int)))then (j5 (decide ((IntKind.u32.wrap x2)≤(1114111:Int))))else (j5 false)); bif (decide ((IntKind.u32.wrap x2)<(55296:Int)))then (j6 (decide ((IntKind.u32.wrap x2)<(55296:Int))))else (bif (decide ((57343:Int)<(IntKind.u32.wrap x2)))then (j6 (decide ((IntKind.u32.wrap x2)≤(65535:Int))))else (j6 false)))
def bL {R:Type}:ef R:=fun x1 x2 k0=>gB x1 x2 k0
theorem wa {R:Type}:gS (R:=R) tt [] Ca true Tryz.f113 (aI Tryz.f113) jE jF (oh gB):=fun x y k=>by kernel_rfl
theorem uX (R:Type):sM Tryz.prog 113 (oC (bL (R:=R))):=cC TT mixed .n rfl rfl rfl rfl eS (wa)
/-! ### unicode/utf8.AppendRune -/
abbrev fO (R:Type):Type:=(List Int)→Int→((List Int)→Option R)→Option R
abbrev nP:List bE := [.leaf (.Vt (.int .u8) 0), .leaf (.int .i32)]
abbrev nQ:List aA := [.tok]
def sP {R:Type} (fn:fO R):bE.au nP→aA.au nQ→(V→aO→Option R)→Option R:=fun x y k=>fn x.1 x.2.1 (fun q0=>k (.sl (.int .u8) q0 (.own 1)) [.dead, .tok])
def ti {R:Type} (fn:fO R):aG.Spec R→aG.Spec R:=bm nP nQ (sP fn)
def tj {R:Type} (bL:ef R):List (wv R) := [(113,false,(oC bL bb))]
theorem Bl {R:Type}:ff (R:=R) Tryz.prog (tj bL) := .f (uX R _ (aM _)) rfl <| .n
def kj {R:Type} (bL:ef R) (x1:List Int) (x2:Int) (k0:(List Int)→Option R):Option R :=
 bif (decide ((IntKind.u32.wrap x2)≤(127:Int)))then (cu (decide ((x1.length+1)*1≤140737488355328)) (k0 ((x1:List Int)++(([(IntKind.u8.wrap x2)]:List Int):List Int))))else (bL x1 x2 (fun y3=>k0 y3))
def cr {R:Type}:fO R:=fun x1 x2 k0=>kj bL x1 x2 k0
theorem Ce {R:Type} (bL:ef R):gS (R:=R) tt (tj bL) Ca true Tryz.f74 (aI Tryz.f74) nP nQ (sP (kj bL)):=fun x y k=>by kernel_rfl
theorem AW (R:Type):sM Tryz.prog 74 (ti (cr (R:=R))):=cC TT mixed (Bl (R:=R)) rfl rfl rfl rfl eS (Ce bL)
/-! ### (*strings.Builder).WriteRune -/
abbrev bN (R:Type):Type:=Int→(List Int)→(Int→(List Int)→Option R)→Option R
abbrev mD:List bE := [.leaf (.ptr 0 0), .leaf (.int .i32)]
abbrev mE:List aA := [.oG (.Vt (.int .u8) 1), .tok]
def qS {R:Type} (fn:bN R):bE.au mD→aA.au mE→(V→aO→Option R)→Option R:=fun x y k=>fn x.2.1 y.1 (fun q0 q1=>k (.tuple [.int .i64 q0, .eg]) [.oG (.sl (.int .u8) q1 (.own 2)), .dead, .tok])
def mF {R:Type} (fn:bN R):aG.Spec R→aG.Spec R:=bm mD mE (qS fn)
def rU {R:Type} (cr:fO R):List (wv R) := [(73,false,(RE R)),(74,false,(ti cr bb))]
theorem zT {R:Type}:ff (R:=R) Tryz.prog (rU cr) := .f (Up) rfl <| .f (AW R _ (aM _)) rfl <| .n
def jd {R:Type} (cr:fO R) (x1:Int) (x2:List Int) (k0:Int→(List Int)→Option R):Option R :=
 cr x2 x1 (fun y3=>k0 (IntKind.i64.wrap ((y3.length:Int) - (x2.length:Int))) y3)
def ai {R:Type}:bN R:=fun x1 x2 k0=>jd cr x1 x2 k0
theorem AX {R:Type} (cr:fO R):gS (R:=R) tt (rU cr) Ca false Tryz.f53 (aI Tryz.f53) mD mE (qS (jd cr)):=fun x y k=>by kernel_rfl
theorem pM (R:Type):sM Tryz.prog 53 (mF (ai (R:=R))):=cC TT mixed (zT (R:=R)) rfl rfl rfl rfl eS (AX cr)
end Go.Proofs.YtmlkkgfenfdndaaGreatDoor
set_option maxRecDepth 100000
namespace Go.Proofs.YtmlkkgfenfdndaaGreatDoor
open Go Go.aG
abbrev zs (s:ah):List Int:=s.map fun b=>(b.toNat:Int)
theorem zs_app (s t:ah):zs (s++t)=zs s++zs t:=List.map_append
theorem QT (s:ah):s9 s=zs s:=rfl
theorem On (s:ah):(zs s).length=s.length:=List.length_map _
theorem bstr_zs (s:ah):Gk (zs s)=s:=by
 unfold Gk zs
 rw[List.map_map]
 conv=>rhs; rw[←List.map_id s]
 exact List.map_congr_left fun b _=>by simp
theorem qx (n:Nat) (h:n<256):((UInt8.ofNat n).toNat:Int)=n:=by rw[iV n h]
def Lim (s:ah):Prop:=s.length≤100000000000
theorem or128:∀x:Fin 64,IntKind.u8.wrap ((BitVec.ofInt IntKind.u8.bits 128 ||| BitVec.ofInt IntKind.u8.bits (x.val:Int)).toNat:Int)=((128+x.val:Nat):Int):=by decide +kernel
theorem or192:∀x:Fin 32,IntKind.u8.wrap ((BitVec.ofInt IntKind.u8.bits 192 ||| BitVec.ofInt IntKind.u8.bits (IntKind.u8.wrap (x.val:Int))).toNat:Int)=((192+x.val:Nat):Int):=by decide +kernel
theorem or224:∀x:Fin 16,IntKind.u8.wrap ((BitVec.ofInt IntKind.u8.bits 224 ||| BitVec.ofInt IntKind.u8.bits (IntKind.u8.wrap (x.val:Int))).toNat:Int)=((224+x.val:Nat):Int):=by decide +kernel
theorem or240:∀x:Fin 8,IntKind.u8.wrap ((BitVec.ofInt IntKind.u8.bits 240 ||| BitVec.ofInt IntKind.u8.bits (IntKind.u8.wrap (x.val:Int))).toNat:Int)=((240+x.val:Nat):Int):=by decide +kernel
theorem and63:∀x:Fin 256,IntKind.u8.wrap ((BitVec.ofInt IntKind.u8.bits (x.val:Int) &&& BitVec.ofInt IntKind.u8.bits 63).toNat:Int)=((x.val % 64:Nat):Int):=by decide +kernel
theorem wrap8 (n:Nat):IntKind.u8.wrap (n:Int)=((n % 256:Nat):Int):=by
 simp only[IntKind.wrap,IntKind.bits,IntKind.signed]
 simp
theorem wrap32u {n:Nat} (h:n<1114112):IntKind.u32.wrap (n:Int)=(n:Int):=by
 simp only[IntKind.wrap,IntKind.bits,IntKind.signed]
 simp
 omega
theorem shr (c n:Nat) (h:n≤32):Int.fdiv (c:Int) (2 ^ (min n IntKind.i32.bits))=((c / 2 ^ n:Nat):Int):=by
 have e:min n IntKind.i32.bits=n:=Nat.min_eq_left h
 rw[e,Int.fdiv_eq_ediv_of_nonneg _ (by exact Int.le_of_lt (Int.pow_pos (by omega)))]
 rw[Int.natCast_ediv]
 congr 1
theorem cont (c:Nat):IntKind.u8.wrap ((BitVec.ofInt IntKind.u8.bits 128 ||| BitVec.ofInt IntKind.u8.bits (IntKind.u8.wrap ((BitVec.ofInt IntKind.u8.bits (IntKind.u8.wrap (c:Int)) &&& BitVec.ofInt IntKind.u8.bits 63).toNat:Int))).toNat:Int)=((128+c % 64:Nat):Int):=by
 have h1:=and63 ⟨c % 256,Nat.mod_lt _ (by omega)⟩
 simp only at h1
 rw[wrap8 c,h1,show c % 256 % 64=c % 64 by omega]
 exact or128 ⟨c % 64,Nat.mod_lt _ (by omega)⟩
theorem zs_enc1 (n:Nat) (h:n<256):zs [UInt8.ofNat n] = [(n:Int)]:=by simp only[zs,List.map_cons,List.map_nil,qx n h]
theorem ar {R:Type} {c:Nat} (hv:vr c) (s:ah) (hl:Lim s) (k:List Int→Option R):cr (zs s) (c:Int) k=k (zs (s++enc c)):=by
 have kY:=WK hv
 unfold Lim at hl
 show kj bL (zs s) (c:Int) k=_
 unfold kj
 rw[wrap32u kY,zs_app]
 rcases FD hv with ⟨h1,e⟩|⟨h0,h1,e⟩|⟨h0,h1,e⟩|⟨h0,e⟩
 ·rw[aB (show (c:Int)≤127 by omega),cond_true,aS (aB (by rw[On]; omega)),e,zs_enc1 c (by omega),wrap8,Nat.mod_eq_of_lt (by omega)]
 all_goals
  rw[aV (show ¬(c:Int)≤127 by omega),cond_false]
  show gB (zs s) (c:Int) _=_
  unfold gB
  rw[wrap32u kY,e]
  simp only[cont,shr _ 6 (by omega),shr _ 12 (by omega),shr _ 18 (by omega),On]
 ·rw[aB (show (c:Int)≤2047 by omega),cond_true,aS (aB (by omega))]
  have:=or192 ⟨c / 64,by omega⟩
  simp only at this
  rw[show c / 2 ^ 6=c / 64 from rfl,this]
  simp only[zs,List.map_cons,List.map_nil,qx (192+c / 64) (by omega),qx (128+c % 64) (by omega)]
 ·rw[aV (show ¬(c:Int)≤2047 by omega),cond_false]
  unfold vr at hv
  by_cases h2:c<55296
  ·rw[aB (show (c:Int)<55296 by omega),cond_true,cond_true,aS (aB (by omega))]
   have:=or224 ⟨c / 4096,by omega⟩
   simp only at this
   rw[show c / 2 ^ 12=c / 4096 from rfl,this]
   simp only[zs,List.map_cons,List.map_nil,qx (224+c / 4096) (by omega),qx (128+c % 64) (by omega),qx (128+c / 64 % 64) (by omega)]
  rw[aV (show ¬(c:Int)<55296 by omega),cond_false,aB (show (57343:Int)<(c:Int) by omega),cond_true,aB (show (c:Int)≤65535 by omega),cond_true,aS (aB (by omega))]
  have:=or224 ⟨c / 4096,by omega⟩
  simp only at this
  rw[show c / 2 ^ 12=c / 4096 from rfl,this]
  simp only[zs,List.map_cons,List.map_nil,qx (224+c / 4096) (by omega),qx (128+c % 64) (by omega),qx (128+c / 64 % 64) (by omega)]
 ·rw[aV (show ¬(c:Int)≤2047 by omega),cond_false]
  rw[aV (show ¬(c:Int)<55296 by omega),cond_false,aB (show (57343:Int)<(c:Int) by omega),cond_true,aV (show ¬(c:Int)≤65535 by omega),cond_false,
   aB (show (c:Int)>65535 by omega),cond_true,aB (show (c:Int)≤1114111 by omega),cond_true,aS (aB (by omega))]
  have:=or240 ⟨c / 262144,by omega⟩
  simp only at this
  rw[show c / 2 ^ 18=c / 262144 from rfl,this]
  simp only[zs,List.map_cons,List.map_nil,qx (240+c / 262144) (by omega),qx (128+c % 64) (by omega),qx (128+c / 64 % 64) (by omega),qx (128+c / 4096 % 64) (by omega)]
theorem wr {R:Type} {c:Nat} (hv:vr c) (s:ah) (hl:Lim s) (k:Int→List Int→Option R):∃n:Int,ai (c:Int) (zs s) k=k n (zs (s++enc c)):=by
 refine ⟨IntKind.i64.wrap (((zs (s++enc c)).length:Int) - ((zs s).length:Int)),?_⟩
 show jd cr (c:Int) (zs s) k=_
 unfold jd
 rw[ar hv s hl]
end Go.Proofs.YtmlkkgfenfdndaaGreatDoor
set_option maxRecDepth 100000
namespace Go.Proofs.YtmlkkgfenfdndaaGreatDoor
open Go Go.aG Go.Lib
def ij (n:Nat):ah:=List.replicate n 48
theorem xf (n:Nat):(ij n).length=n:=List.length_replicate
def body (L:ah) (e:Int):ah :=
 if 0≤e then L++ij e.toNat
 else
  let t:=ij (max 0 (1 - e - (L.length:Int))).toNat++L
  t.take ((t.length:Int)+e).toNat ++ [46]++t.drop ((t.length:Int)+e).toNat
def WR (d:dH):ah:=(if d.aF<0 then [45]else [])++body (decDigits d.aF.natAbs) d.exp
end Go.Proofs.YtmlkkgfenfdndaaGreatDoor
/-
 Functions of the program as pure Lean functions, and the ties; printed by wip/tools/emit.py.
-/
set_option maxRecDepth 100000
namespace Go.Proofs.YtmlkkgfenfdndaaGreatDoor
open Go Go.aG
/-! ### internal/strconv.underscoreOK -/
abbrev eM (R:Type):Type:=ah→(Bool→Option R)→Option R
abbrev nk:List bE := [.leaf (.str)]
abbrev np:List aA := []
def rV {R:Type} (fn:eM R):bE.au nk→aA.au np→(V→aO→Option R)→Option R:=fun x y k=>fn x.1 (fun q0=>k (.bool q0) [])
def sQ {R:Type} (fn:eM R):aG.Spec R→aG.Spec R:=bm nk np (rV fn)
abbrev eJ (R:Type):Type:=Nat→ah→Int→Int→Bool→(Int→Option R)→(Bool→Int→Option R)→Option R
def fP {R:Type} (internal_strconv_lower:cm R):List (wv R) := [(176,true,(sv internal_strconv_lower bb))]
theorem AY {R:Type}:ff (R:=R) Tryz.prog (fP internal_strconv_lower) := .p (vM R _ (aM _)) <| .n
def pa {R:Type} (internal_strconv_lower:cm R) (dq:ah→Int→Int→Bool→Option R) (rW:ah) (wk:Int) (nG:Int) (wb:Bool) (e0:Int→Option R) (e1:Bool→Int→Option R):Option R :=
 bif (decide (nG<(rW.length:Int)))then (cu (decide ((0:Int)≤nG)&&decide (nG<rW.length)) (bif (decide ((48:Int)≤((rW.getD nG.toNat 0).toNat:Int)))then (cu (decide ((0:Int)≤nG)&&decide (nG<rW.length)) (bif (decide (((rW.getD nG.toNat 0).toNat:Int)≤(57:Int)))then (dq rW 48 (IntKind.i64.wrap (nG+1)) wb)else (bif wb then (cu (decide ((0:Int)≤nG)&&decide (nG<rW.length)) (internal_strconv_lower ((rW.getD nG.toNat 0).toNat:Int) (fun UA=>bif (decide ((97:Int)≤UA))then (cu (decide ((0:Int)≤nG)&&decide (nG<rW.length)) (internal_strconv_lower ((rW.getD nG.toNat 0).toNat:Int) (fun Nv=>bif (decide (Nv≤(102:Int)))then (dq rW 48 (IntKind.i64.wrap (nG+1)) wb)else (cu (decide ((0:Int)≤nG)&&decide (nG<rW.length)) (bif (((rW.getD nG.toNat 0).toNat:Int)==95)then (bif (wk != 48)then (e1 false wk)else (dq rW 95 (IntKind.i64.wrap (nG+1)) wb))else (bif (wk==95)then (e1 false wk)else (dq rW 33 (IntKind.i64.wrap (nG+1)) wb)))))))else (cu (decide ((0:Int)≤nG)&&decide (nG<rW.length)) (bif (((rW.getD nG.toNat 0).toNat:Int)==95)then (bif (wk != 48)then (e1 false wk)else (dq rW 95 (IntKind.i64.wrap (nG+1)) wb))else (bif (wk==95)then (e1 false wk)else (dq rW 33 (IntKind.i64.wrap (nG+1)) wb)))))))else (cu (decide ((0:Int)≤nG)&&decide (nG<rW.length)) (bif (((rW.getD nG.toNat 0).toNat:Int)==95)then (bif (wk != 48)then (e1 false wk)else (dq rW 95 (IntKind.i64.wrap (nG+1)) wb))else (bif (wk==95)then (e1 false wk)else (dq rW 33 (IntKind.i64.wrap (nG+1)) wb)))))))else (bif wb then (cu (decide ((0:Int)≤nG)&&decide (nG<rW.length)) (internal_strconv_lower ((rW.getD nG.toNat 0).toNat:Int) (fun CK=>bif (decide ((97:Int)≤CK))then (cu (decide ((0:Int)≤nG)&&decide (nG<rW.length)) (internal_strconv_lower ((rW.getD nG.toNat 0).toNat:Int) (fun y22=>bif (decide (y22≤(102:Int)))then (dq rW 48 (IntKind.i64.wrap (nG+1)) wb)else (cu (decide ((0:Int)≤nG)&&decide (nG<rW.length)) (bif (((rW.getD nG.toNat 0).toNat:Int)==95)then (bif (wk != 48)then (e1 false wk)else (dq rW 95 (IntKind.i64.wrap (nG+1)) wb))else (bif (wk==95)then (e1 false wk)else (dq rW 33 (IntKind.i64.wrap (nG+1)) wb)))))))else (cu (decide ((0:Int)≤nG)&&decide (nG<rW.length)) (bif (((rW.getD nG.toNat 0).toNat:Int)==95)then (bif (wk != 48)then (e1 false wk)else (dq rW 95 (IntKind.i64.wrap (nG+1)) wb))else (bif (wk==95)then (e1 false wk)else (dq rW 33 (IntKind.i64.wrap (nG+1)) wb)))))))else (cu (decide ((0:Int)≤nG)&&decide (nG<rW.length)) (bif (((rW.getD nG.toNat 0).toNat:Int)==95)then (bif (wk != 48)then (e1 false wk)else (dq rW 95 (IntKind.i64.wrap (nG+1)) wb))else (bif (wk==95)then (e1 false wk)else (dq rW 33 (IntKind.i64.wrap (nG+1)) wb)))))))else (e0 wk)
def aJ {R:Type}:eJ R
 | 0,_,_,_,_,_,_=>none
 | n+1,hY,hZ,iB,ql,e0,e1=>pa internal_strconv_lower (fun hY hZ iB ql=>aJ n hY hZ iB ql e0 e1) hY hZ iB ql e0 e1
def hJ:Hint := { live := [0,3,4,5],own := [],rows := [],cells := [],drop := [],out := [2,3] }
abbrev da:Type:=ah × Int × Int × Bool
def gC:da→St:=fun d=>⟨.str d.1::U 2 (.int .i32 d.2.1 :: .int .i64 d.2.2.1 :: .bool d.2.2.2::U 88 ([])), []⟩
def kk {R:Type} (K:Ex→St→Option R) (q0:Int):Option R:=K (.exit 0) ⟨U 3 (.int .i32 q0::U 90 ([])), []⟩
def kl {R:Type} (K:Ex→St→Option R) (q0:Bool) (q1:Int):Option R:=K (.ret) ⟨U 2 (.bool q0 :: .int .i32 q1::U 90 ([])), []⟩
def kE {R:Type} (internal_strconv_lower:cm R) (K:Ex→St→Option R) (rc:da→Option R) (d:da):Option R:=pa internal_strconv_lower (fun z0 z1 z2 z3=>rc (z0,z1,z2,z3)) d.1 d.2.1 d.2.2.1 d.2.2.2 (kk K) (kl K)
def eQ {R:Type} (K:Ex→St→Option R) (n:Nat) (d:da):Option R:=aJ n d.1 d.2.1 d.2.2.1 d.2.2.2 (kk K) (kl K)
abbrev db:List bE := .leaf (.str)::PU 2 (.leaf (.int .i32) :: .leaf (.int .i64) :: .leaf (.bool)::PU 88 ([]))
abbrev dc:List aA := []
def kF (x:bE.au db) (y:aA.au dc):Nat:=(List.length x.1+Int.natAbs x.2.2.2.1+Int.natAbs x.2.2.2.2.1+64)
def kG (x:bE.au db) (y:aA.au dc):da:=(x.1,x.2.2.2.1,x.2.2.2.2.1,x.2.2.2.2.2.1)
def km {R:Type} (L:eJ R):bE.au db→aA.au dc→(Ex→St→Option R)→Option R:=fun x y K=>L (kF x y) x.1 x.2.2.2.1 x.2.2.2.2.1 x.2.2.2.2.2.1 (kk K) (kl K)
def gT (R:Type) (aJ:eJ R):Nat→Option (Hint × dC R):=fun i=>match i with
 | 10=>some (hJ,(dx db dc (km aJ) j7))
 | _=>none
theorem wc {R:Type} (internal_strconv_lower:cm R) (aJ:eJ R) (K:Ex→St→Option R) (rc:St→Option R) (d:da):roundOf tt (dM (fP internal_strconv_lower)) (gT R aJ) 0 ((aT (aI Tryz.f177)).getD 0 .skip) hJ (gC d) rc K=kE internal_strconv_lower K (fun d=>rc (gC d)) d:=by kernel_rfl
theorem uY {R:Type} (K:Ex→St→Option R) (n:Nat) (d:da):eQ K (n+1) d=kE internal_strconv_lower K (eQ K n) d:=by kernel_rfl
theorem uZ {R:Type} (K:Ex→St→Option R) (d:da):eQ K 0 d=none:=by kernel_rfl
theorem wg (x:bE.au db) (y:aA.au dc):(⟨bE.eD db x,aA.eD dc y⟩:St)=gC (kG x y):=by kernel_rfl
theorem wh {R:Type} (x:bE.au db) (y:aA.au dc) (K:Ex→St→Option R):km (aJ) x y K=eQ K (kF x y) (kG x y):=by kernel_rfl
theorem xg {R:Type} (other:dC R) (ho:jt tt (dM (fP internal_strconv_lower)) (gT R aJ) 0 ((aT (aI Tryz.f177)).getD 0 .skip) hJ other):jt tt (dM (fP internal_strconv_lower)) (gT R aJ) 0 ((aT (aI Tryz.f177)).getD 0 .skip) hJ (dx db dc (km (aJ)) other) :=
 dL (A:=eQ) ho (fw gC (kE internal_strconv_lower) (eQ) (uZ) (wc internal_strconv_lower aJ) (uY)) kF kG wg (wh)
def sR {R:Type} (internal_strconv_lower:cm R) (aJ:eJ R) (x1:ah) (k0:Bool→Option R):Option R :=
 let j46:=fun (z3:ah)=>bif (decide ((z3.length:Int)≥(2:Int)))then (cu (decide ((0:Int)<z3.length)) (bif (((z3.getD 0 0).toNat:Int)==48)then (cu (decide ((1:Int)<z3.length)) (internal_strconv_lower ((z3.getD 1 0).toNat:Int) (fun y4=>bif (y4==98)then (cu (decide ((1:Int)<z3.length)) (internal_strconv_lower ((z3.getD 1 0).toNat:Int) (fun y9=>aJ (List.length z3+Int.natAbs 48+Int.natAbs 2+64) z3 48 2 (y9==120) (fun I8=>k0 (I8 != 95)) (fun RN Si=>k0 RN))))else (cu (decide ((1:Int)<z3.length)) (internal_strconv_lower ((z3.getD 1 0).toNat:Int) (fun y5=>bif (y5==111)then (cu (decide ((1:Int)<z3.length)) (internal_strconv_lower ((z3.getD 1 0).toNat:Int) (fun rI=>aJ (List.length z3+Int.natAbs 48+Int.natAbs 2+64) z3 48 2 (rI==120) (fun S9=>k0 (S9 != 95)) (fun Sj Vu=>k0 Sj))))else (cu (decide ((1:Int)<z3.length)) (internal_strconv_lower ((z3.getD 1 0).toNat:Int) (fun y6=>bif (y6==120)then (cu (decide ((1:Int)<z3.length)) (internal_strconv_lower ((z3.getD 1 0).toNat:Int) (fun rq=>aJ (List.length z3+Int.natAbs 48+Int.natAbs 2+64) z3 48 2 (rq==120) (fun WS=>k0 (WS != 95)) (fun VT Sk=>k0 VT))))else (aJ (List.length z3+Int.natAbs 94+Int.natAbs 0+64) z3 94 0 false (fun X6=>k0 (X6 != 95)) (fun X7 YK=>k0 X7)))))))))))else (aJ (List.length z3+Int.natAbs 94+Int.natAbs 0+64) z3 94 0 false (fun YL=>k0 (YL != 95)) (fun y41 y42=>k0 y41))))else (aJ (List.length z3+Int.natAbs 94+Int.natAbs 0+64) z3 94 0 false (fun y43=>k0 (y43 != 95)) (fun y44 y45=>k0 y44)); bif (decide ((x1.length:Int)≥(1:Int)))then (cu (decide ((0:Int)<x1.length)) (bif (((x1.getD 0 0).toNat:Int)==45)then (cu (decide ((0:Int)≤(x1.length:Int))&&decide ((x1.length:Int)≤x1.length)) (cu (decide ((1:Int)≤(x1.length:Int))) (j46 ((x1.drop 1).take ((x1.length:Int).toNat - 1)))))else (cu (decide ((0:Int)<x1.length)) (bif (((x1.getD 0 0).toNat:Int)==43)then (cu (decide ((0:Int)≤(x1.length:Int))&&decide ((x1.length:Int)≤x1.length)) (cu (decide ((1:Int)≤(x1.length:Int))) (j46 ((x1.drop 1).take ((x1.length:Int).toNat - 1)))))else (j46 x1)))))else (j46 x1)
def bx {R:Type}:eM R:=fun x1 k0=>sR internal_strconv_lower aJ x1 k0
theorem Bm {R:Type} (internal_strconv_lower:cm R) (aJ:eJ R):gS (R:=R) tt (fP internal_strconv_lower) (gT R aJ) false Tryz.f177 (aI Tryz.f177) nk np (rV (sR internal_strconv_lower aJ)):=fun x y k=>by kernel_rfl
theorem yS (R:Type):∀a∈aT (aI Tryz.f177),jn tt (dM (fP internal_strconv_lower)) (gT R aJ) 0 a:=by
 refine gR 1 (by kernel_rfl) fun i hi => ?_
 match i,hi with
 | 0,_=>exact cW (by kernel_rfl) (xg _ eN)
 | n+1,hi=>omega
theorem zU (R:Type):sM Tryz.prog 177 (sQ (bx (R:=R))):=cC TT mixed (AY (R:=R)) rfl rfl rfl rfl (yS R) (Bm internal_strconv_lower aJ)
/-! ### internal/strconv.ParseUint -/
abbrev gf (R:Type):Type:=ah→Int→Int→(Int→Option R)→(Int→Option R)→(Int→Option R)→(Int→Option R)→(Int→Option R)→Option R
abbrev o0:List bE := [.leaf (.str), .leaf (.int .i64), .leaf (.int .i64)]
abbrev o3:List aA := []
def tY {R:Type} (fn:gf R):bE.au o0→aA.au o3→(V→aO→Option R)→Option R:=fun x y k=>fn x.1 x.2.1 x.2.2.1 (fun q0=>k (.tuple [.int .u64 q0, .NU 184 .i64 2]) []) (fun q0=>k (.tuple [.int .u64 q0, .NU 184 .i64 3]) []) (fun q0=>k (.tuple [.int .u64 q0, .NU 184 .i64 4]) []) (fun q0=>k (.tuple [.int .u64 q0, .NU 184 .i64 1]) []) (fun q0=>k (.tuple [.int .u64 q0, .eg]) [])
def u0 {R:Type} (fn:gf R):aG.Spec R→aG.Spec R:=bm o0 o3 (tY fn)
abbrev fb (R:Type):Type:=Nat→Int→Bool→ah→Int→Int→Bool→Int→Nat→Int→Int→(List Int)→(ah→Bool→Int→Option R)→(Int→ah→Bool→Int→Option R)→(Int→ah→Bool→Int→Option R)→(Int→ah→Bool→Option R)→Option R
def gn {R:Type} (internal_strconv_lower:cm R) (bx:eM R):List (wv R) := [(176,true,(sv internal_strconv_lower bb)),(177,true,(sQ bx bb))]
theorem CL {R:Type}:ff (R:=R) Tryz.prog (gn internal_strconv_lower bx) := .p (vM R _ (aM _)) <| .p (zU R _ (aM _)) <| .n
def eH {R:Type} (internal_strconv_lower:cm R) (dq:Int→Bool→ah→Int→Int→Bool→Int→Nat→Int→Int→(List Int)→Option R) (EM:Int) (x21:Bool) (x22:ah) (x23:Int) (x24:Int) (X8:Bool) (X9:Int) (x27:Nat) (x28:Int) (x29:Int) (x30:List Int) (e0:ah→Bool→Int→Option R) (e1:Int→ah→Bool→Int→Option R) (e2:Int→ah→Bool→Int→Option R) (e3:Int→ah→Bool→Option R):Option R :=
 bif (decide (x29<x28))then (cu (decide ((0:Int)≤x29)&&decide (x29<x27)) (cu (decide (x29.toNat<x30.length)) (let j42:=fun (z40:Int)=>bif (decide (z40≥(IntKind.u8.wrap EM)))then (e1 0 x22 X8 X9)else (bif (decide (X9≥x23))then (e2 x24 x22 X8 X9)else (bif (decide ((IntKind.u64.wrap ((IntKind.u64.wrap (X9*(IntKind.u64.wrap EM)))+(IntKind.u64.wrap z40)))<(IntKind.u64.wrap (X9*(IntKind.u64.wrap EM)))))then (e2 x24 x22 X8 (IntKind.u64.wrap (X9*(IntKind.u64.wrap EM))))else (bif (decide ((IntKind.u64.wrap ((IntKind.u64.wrap (X9*(IntKind.u64.wrap EM)))+(IntKind.u64.wrap z40)))>x24))then (e2 x24 x22 X8 (IntKind.u64.wrap (X9*(IntKind.u64.wrap EM))))else (dq EM x21 x22 x23 x24 X8 (IntKind.u64.wrap ((IntKind.u64.wrap (X9*(IntKind.u64.wrap EM)))+(IntKind.u64.wrap z40))) x27 x28 (IntKind.i64.wrap (x29+1)) x30)))); let j39:=fun (z31:Bool)=>bif z31 then (dq EM x21 x22 x23 x24 true X9 x27 x28 (IntKind.i64.wrap (x29+1)) x30)else (let j38:=fun (z32:Bool)=>bif z32 then (j42 (IntKind.u8.wrap ((x30.getD x29.toNat (Ty.bU (.int .u8))) - 48)))else (internal_strconv_lower (x30.getD x29.toNat (Ty.bU (.int .u8))) (fun Vu=>bif (decide ((97:Int)≤Vu))then (internal_strconv_lower (x30.getD x29.toNat (Ty.bU (.int .u8))) (fun WS=>bif (decide (WS≤(122:Int)))then (internal_strconv_lower (x30.getD x29.toNat (Ty.bU (.int .u8))) (fun X6=>j42 (IntKind.u8.wrap ((IntKind.u8.wrap (X6 - 97))+10))))else (e1 0 x22 X8 X9)))else (e1 0 x22 X8 X9))); bif (decide ((48:Int)≤(x30.getD x29.toNat (Ty.bU (.int .u8)))))then (j38 (decide ((x30.getD x29.toNat (Ty.bU (.int .u8)))≤(57:Int))))else (j38 false)); bif ((x30.getD x29.toNat (Ty.bU (.int .u8)))==95)then (j39 x21)else (j39 false))))else (e0 x22 X8 X9)
def aP {R:Type}:fb R
 | 0,_,_,_,_,_,_,_,_,_,_,_,_,_,_,_=>none
 | n+1,hY,hZ,iB,ql,E3,He,Sl,Sm,Sn,So,Hf,e0,e1,e2,e3=>eH internal_strconv_lower (fun hY hZ iB ql E3 He Sl Sm Sn So Hf=>aP n hY hZ iB ql E3 He Sl Sm Sn So Hf e0 e1 e2 e3) hY hZ iB ql E3 He Sl Sm Sn So Hf e0 e1 e2 e3
def iJ:Hint := { live := [1,8,9,10,11,12,13,99,100,101],own := [],rows := [],cells := [],drop := [],out := [6,7,9,12,13] }
abbrev dz:Type:=Int × Bool × ah × Int × Int × Bool × Int × Nat × Int × Int × (List Int)
def im:dz→St:=fun d=>⟨.undef :: .int .i64 d.1::U 6 (.bool d.2.1 :: .str d.2.2.1 :: .int .u64 d.2.2.2.1 :: .int .u64 d.2.2.2.2.1 :: .bool d.2.2.2.2.2.1 :: .int .u64 d.2.2.2.2.2.2.1::U 85 (.row 0 d.2.2.2.2.2.2.2.1 :: .int .i64 d.2.2.2.2.2.2.2.2.1 :: .int .i64 d.2.2.2.2.2.2.2.2.2.1::U 70 ([]))), [.row (.int .u8) d.2.2.2.2.2.2.2.2.2.2]⟩
def k9 {R:Type} (K:Ex→St→Option R) (q0:ah) (q1:Bool) (q2:Int):Option R:=K (.exit 3) ⟨U 9 (.str q0::U 2 (.bool q1 :: .int .u64 q2::U 158 ([]))), []⟩
def la {R:Type} (K:Ex→St→Option R) (q0:Int) (q1:ah) (q2:Bool) (q3:Int):Option R:=K (.ret) ⟨U 6 (.int .u64 q0 :: .NU 184 .i64 2 :: .undef :: .str q1::U 2 (.bool q2 :: .int .u64 q3::U 158 ([]))), []⟩
def lb {R:Type} (K:Ex→St→Option R) (q0:Int) (q1:ah) (q2:Bool) (q3:Int):Option R:=K (.ret) ⟨U 6 (.int .u64 q0 :: .NU 184 .i64 1 :: .undef :: .str q1::U 2 (.bool q2 :: .int .u64 q3::U 158 ([]))), []⟩
def lg {R:Type} (K:Ex→St→Option R) (q0:Int) (q1:ah) (q2:Bool):Option R:=K (.ret) ⟨U 6 (.int .u64 q0 :: .NU 184 .i64 1 :: .undef :: .str q1::U 2 (.bool q2::U 159 ([]))), []⟩
def l9 {R:Type} (internal_strconv_lower:cm R) (K:Ex→St→Option R) (rc:dz→Option R) (d:dz):Option R:=eH internal_strconv_lower (fun z0 z1 z2 z3 z4 z5 z6 z7 z8 z9 uO=>rc (z0,z1,z2,z3,z4,z5,z6,z7,z8,z9,uO)) d.1 d.2.1 d.2.2.1 d.2.2.2.1 d.2.2.2.2.1 d.2.2.2.2.2.1 d.2.2.2.2.2.2.1 d.2.2.2.2.2.2.2.1 d.2.2.2.2.2.2.2.2.1 d.2.2.2.2.2.2.2.2.2.1 d.2.2.2.2.2.2.2.2.2.2 (k9 K) (la K) (lb K) (lg K)
def fk {R:Type} (K:Ex→St→Option R) (n:Nat) (d:dz):Option R:=aP n d.1 d.2.1 d.2.2.1 d.2.2.2.1 d.2.2.2.2.1 d.2.2.2.2.2.1 d.2.2.2.2.2.2.1 d.2.2.2.2.2.2.2.1 d.2.2.2.2.2.2.2.2.1 d.2.2.2.2.2.2.2.2.2.1 d.2.2.2.2.2.2.2.2.2.2 (k9 K) (la K) (lb K) (lg K)
abbrev dA:List bE := .leaf (.undef) :: .leaf (.int .i64)::PU 6 (.leaf (.bool) :: .leaf (.str) :: .leaf (.int .u64) :: .leaf (.int .u64) :: .leaf (.bool) :: .leaf (.int .u64)::PU 85 (.leaf (.row 0) :: .leaf (.int .i64) :: .leaf (.int .i64)::PU 70 ([])))
abbrev dB:List aA := [.row (.int .u8)]
def ma (x:bE.au dA) (y:aA.au dB):Nat:=(Int.natAbs x.2.1+List.length x.2.2.2.2.2.2.2.2.2.1+Int.natAbs x.2.2.2.2.2.2.2.2.2.2.1+Int.natAbs x.2.2.2.2.2.2.2.2.2.2.2.1+Int.natAbs x.2.2.2.2.2.2.2.2.2.2.2.2.2.1+Int.natAbs x.2.2.2.2.2.2.2.2.2.2.2.2.2.2.2.2.2.2.2.2.2.2.2.2.2.2.2.2.2.2.2.2.2.2.2.2.2.2.2.2.2.2.2.2.2.2.2.2.2.2.2.2.2.2.2.2.2.2.2.2.2.2.2.2.2.2.2.2.2.2.2.2.2.2.2.2.2.2.2.2.2.2.2.2.2.2.2.2.2.2.2.2.2.2.2.2.2.2.2.2.1+Int.natAbs x.2.2.2.2.2.2.2.2.2.2.2.2.2.2.2.2.2.2.2.2.2.2.2.2.2.2.2.2.2.2.2.2.2.2.2.2.2.2.2.2.2.2.2.2.2.2.2.2.2.2.2.2.2.2.2.2.2.2.2.2.2.2.2.2.2.2.2.2.2.2.2.2.2.2.2.2.2.2.2.2.2.2.2.2.2.2.2.2.2.2.2.2.2.2.2.2.2.2.2.2.2.1+List.length y.1+64)
def mb (x:bE.au dA) (y:aA.au dB):dz:=(x.2.1,x.2.2.2.2.2.2.2.2.1,x.2.2.2.2.2.2.2.2.2.1,x.2.2.2.2.2.2.2.2.2.2.1,x.2.2.2.2.2.2.2.2.2.2.2.1,x.2.2.2.2.2.2.2.2.2.2.2.2.1,x.2.2.2.2.2.2.2.2.2.2.2.2.2.1,x.2.2.2.2.2.2.2.2.2.2.2.2.2.2.2.2.2.2.2.2.2.2.2.2.2.2.2.2.2.2.2.2.2.2.2.2.2.2.2.2.2.2.2.2.2.2.2.2.2.2.2.2.2.2.2.2.2.2.2.2.2.2.2.2.2.2.2.2.2.2.2.2.2.2.2.2.2.2.2.2.2.2.2.2.2.2.2.2.2.2.2.2.2.2.2.2.2.2.2.1,x.2.2.2.2.2.2.2.2.2.2.2.2.2.2.2.2.2.2.2.2.2.2.2.2.2.2.2.2.2.2.2.2.2.2.2.2.2.2.2.2.2.2.2.2.2.2.2.2.2.2.2.2.2.2.2.2.2.2.2.2.2.2.2.2.2.2.2.2.2.2.2.2.2.2.2.2.2.2.2.2.2.2.2.2.2.2.2.2.2.2.2.2.2.2.2.2.2.2.2.2.1,x.2.2.2.2.2.2.2.2.2.2.2.2.2.2.2.2.2.2.2.2.2.2.2.2.2.2.2.2.2.2.2.2.2.2.2.2.2.2.2.2.2.2.2.2.2.2.2.2.2.2.2.2.2.2.2.2.2.2.2.2.2.2.2.2.2.2.2.2.2.2.2.2.2.2.2.2.2.2.2.2.2.2.2.2.2.2.2.2.2.2.2.2.2.2.2.2.2.2.2.2.2.1,y.1)
def lh {R:Type} (L:fb R):bE.au dA→aA.au dB→(Ex→St→Option R)→Option R:=fun x y K=>L (ma x y) x.2.1 x.2.2.2.2.2.2.2.2.1 x.2.2.2.2.2.2.2.2.2.1 x.2.2.2.2.2.2.2.2.2.2.1 x.2.2.2.2.2.2.2.2.2.2.2.1 x.2.2.2.2.2.2.2.2.2.2.2.2.1 x.2.2.2.2.2.2.2.2.2.2.2.2.2.1 x.2.2.2.2.2.2.2.2.2.2.2.2.2.2.2.2.2.2.2.2.2.2.2.2.2.2.2.2.2.2.2.2.2.2.2.2.2.2.2.2.2.2.2.2.2.2.2.2.2.2.2.2.2.2.2.2.2.2.2.2.2.2.2.2.2.2.2.2.2.2.2.2.2.2.2.2.2.2.2.2.2.2.2.2.2.2.2.2.2.2.2.2.2.2.2.2.2.2.2.1 x.2.2.2.2.2.2.2.2.2.2.2.2.2.2.2.2.2.2.2.2.2.2.2.2.2.2.2.2.2.2.2.2.2.2.2.2.2.2.2.2.2.2.2.2.2.2.2.2.2.2.2.2.2.2.2.2.2.2.2.2.2.2.2.2.2.2.2.2.2.2.2.2.2.2.2.2.2.2.2.2.2.2.2.2.2.2.2.2.2.2.2.2.2.2.2.2.2.2.2.2.1 x.2.2.2.2.2.2.2.2.2.2.2.2.2.2.2.2.2.2.2.2.2.2.2.2.2.2.2.2.2.2.2.2.2.2.2.2.2.2.2.2.2.2.2.2.2.2.2.2.2.2.2.2.2.2.2.2.2.2.2.2.2.2.2.2.2.2.2.2.2.2.2.2.2.2.2.2.2.2.2.2.2.2.2.2.2.2.2.2.2.2.2.2.2.2.2.2.2.2.2.2.2.1 y.1 (k9 K) (la K) (lb K) (lg K)
def iG (R:Type) (aP:fb R):Nat→Option (Hint × dC R):=fun i=>match i with
 | 36=>some (iJ,(dx dA dB (lh aP) j7))
 | _=>none
theorem ya {R:Type} (internal_strconv_lower:cm R) (bx:eM R) (aP:fb R) (K:Ex→St→Option R) (rc:St→Option R) (d:dz):roundOf tt (dM (gn internal_strconv_lower bx)) (iG R aP) 0 ((aT (aI Tryz.f169)).getD 0 .skip) iJ (im d) rc K=l9 internal_strconv_lower K (fun d=>rc (im d)) d:=by kernel_rfl
theorem wF {R:Type} (K:Ex→St→Option R) (n:Nat) (d:dz):fk K (n+1) d=l9 internal_strconv_lower K (fk K n) d:=by kernel_rfl
theorem wG {R:Type} (K:Ex→St→Option R) (d:dz):fk K 0 d=none:=by kernel_rfl
theorem yb (x:bE.au dA) (y:aA.au dB):(⟨bE.eD dA x,aA.eD dB y⟩:St)=im (mb x y):=by kernel_rfl
theorem yc {R:Type} (x:bE.au dA) (y:aA.au dB) (K:Ex→St→Option R):lh (aP) x y K=fk K (ma x y) (mb x y):=by kernel_rfl
theorem zV {R:Type} (other:dC R) (ho:jt tt (dM (gn internal_strconv_lower bx)) (iG R aP) 0 ((aT (aI Tryz.f169)).getD 0 .skip) iJ other):jt tt (dM (gn internal_strconv_lower bx)) (iG R aP) 0 ((aT (aI Tryz.f169)).getD 0 .skip) iJ (dx dA dB (lh (aP)) other) :=
 dL (A:=fk) ho (fw im (l9 internal_strconv_lower) (fk) (wG) (ya internal_strconv_lower bx aP) (wF)) ma mb yb (yc)
def kX {R:Type} (internal_strconv_lower:cm R) (bx:eM R) (aP:fb R) (x1:ah) (x2:Int) (x3:Int) (k0:Int→Option R) (k1:Int→Option R) (k2:Int→Option R) (k3:Int→Option R) (k4:Int→Option R):Option R :=
 bif (x1==([]:ah))then (k0 0)else (let j63:=fun (VU:ah) (z16:Int)=>let j62:=fun (z18:Int)=>let j61:=fun (YJ:Int)=>cu (decide ((0:Int)≤(IntKind.u64.wrap z18))) (aP (Int.natAbs z16+List.length x1+Int.natAbs YJ+Int.natAbs (IntKind.u64.wrap ((IntKind.u64.wrap (1*2 ^ (min ((IntKind.u64.wrap z18).toNat) IntKind.u64.bits))) - 1))+Int.natAbs 0+Int.natAbs (VU.length:Int)+Int.natAbs 0+List.length (s9 VU)+64) z16 (x2==0) x1 YJ (IntKind.u64.wrap ((IntKind.u64.wrap (1*2 ^ (min ((IntKind.u64.wrap z18).toNat) IntKind.u64.bits))) - 1)) false 0 VU.length (VU.length:Int) 0 (s9 VU) (fun y45 y46 y47=>bif y46 then (bx y45 (fun y59=>bif (!y59)then (k0 0)else (k4 y47)))else (k4 y47)) (fun y48 y49 y50 ZZ=>k0 y48) (fun VV WT WU y55=>k3 VV) (fun y56 y57 y58=>k3 y56)); bif (z16==10)then (j61 1844674407370955162)else (bif (z16==16)then (j61 1152921504606846976)else (cu (!decide ((IntKind.u64.wrap z16)=0)) (j61 (IntKind.u64.wrap ((IntKind.u64.wrap (Int.tdiv 18446744073709551615 (IntKind.u64.wrap z16)))+1))))); bif (x3==0)then (j62 64)else (bif (decide (x3<(0:Int)))then (k2 0)else (bif (decide (x3>(64:Int)))then (k2 0)else (j62 x3))); let Z0:=fun (z4:Bool)=>bif z4 then (j63 x1 x2)else (bif (x2==0)then (cu (decide ((0:Int)<x1.length)) (bif (((x1.getD 0 0).toNat:Int)==48)then (let j13:=fun (z6:Bool)=>bif z6 then (cu (decide ((0:Int)≤(x1.length:Int))&&decide ((x1.length:Int)≤x1.length)) (cu (decide ((2:Int)≤(x1.length:Int))) (j63 ((x1.drop 2).take ((x1.length:Int).toNat - 2)) 2)))else (let j12:=fun (z8:Bool)=>bif z8 then (cu (decide ((0:Int)≤(x1.length:Int))&&decide ((x1.length:Int)≤x1.length)) (cu (decide ((2:Int)≤(x1.length:Int))) (j63 ((x1.drop 2).take ((x1.length:Int).toNat - 2)) 8)))else (let j11:=fun (uO:Bool)=>bif uO then (cu (decide ((0:Int)≤(x1.length:Int))&&decide ((x1.length:Int)≤x1.length)) (cu (decide ((2:Int)≤(x1.length:Int))) (j63 ((x1.drop 2).take ((x1.length:Int).toNat - 2)) 16)))else (cu (decide ((0:Int)≤(x1.length:Int))&&decide ((x1.length:Int)≤x1.length)) (cu (decide ((1:Int)≤(x1.length:Int))) (j63 ((x1.drop 1).take ((x1.length:Int).toNat - 1)) 8))); bif (decide ((x1.length:Int)≥(3:Int)))then (cu (decide ((1:Int)<x1.length)) (internal_strconv_lower ((x1.getD 1 0).toNat:Int) (fun y9=>j11 (y9==120))))else (j11 false)); bif (decide ((x1.length:Int)≥(3:Int)))then (cu (decide ((1:Int)<x1.length)) (internal_strconv_lower ((x1.getD 1 0).toNat:Int) (fun y7=>j12 (y7==111))))else (j12 false)); bif (decide ((x1.length:Int)≥(3:Int)))then (cu (decide ((1:Int)<x1.length)) (internal_strconv_lower ((x1.getD 1 0).toNat:Int) (fun y5=>j13 (y5==98))))else (j13 false))else (j63 x1 10)))else (k1 0)); bif (decide ((2:Int)≤x2))then (Z0 (decide (x2≤(36:Int))))else (Z0 false))
def cQ {R:Type}:gf R:=fun x1 x2 x3 k0 k1 k2 k3 k4=>kX internal_strconv_lower bx aP x1 x2 x3 k0 k1 k2 k3 k4
theorem DO {R:Type} (internal_strconv_lower:cm R) (bx:eM R) (aP:fb R):gS (R:=R) tt (gn internal_strconv_lower bx) (iG R aP) false Tryz.f169 (aI Tryz.f169) o0 o3 (tY (kX internal_strconv_lower bx aP)):=fun x y k=>by kernel_rfl
theorem Bn (R:Type):∀a∈aT (aI Tryz.f169),jn tt (dM (gn internal_strconv_lower bx)) (iG R aP) 0 a:=by
 refine gR 1 (by kernel_rfl) fun i hi => ?_
 match i,hi with
 | 0,_=>exact cW (by kernel_rfl) (zV _ eN)
 | n+1,hi=>omega
theorem Cf (R:Type):sM Tryz.prog 169 (u0 (cQ (R:=R))):=cC TT mixed (CL (R:=R)) rfl rfl rfl rfl (Bn R) (DO internal_strconv_lower bx aP)
/-! ### strconv.ParseUint -/
abbrev lq (R:Type):Type:=ah→Int→Int→(Int→Option R)→(Int→Option R)→Option R
abbrev yd:List bE := [.leaf (.str), .leaf (.int .i64), .leaf (.int .i64)]
abbrev ye:List aA := []
def DP {R:Type} (fn:lq R):bE.au yd→aA.au ye→(V→aO→Option R)→Option R:=fun x y k=>fn x.1 x.2.1 x.2.2.1 (fun q0=>k (.tuple [.int .u64 q0, .iface]) []) (fun q0=>k (.tuple [.int .u64 q0, .eg]) [])
def EN {R:Type} (fn:lq R):aG.Spec R→aG.Spec R:=bm yd ye (DP fn)
def EO {R:Type} (cQ:gf R):List (wv R) := [(136,true,(toErr_S R 184)),(169,true,(u0 cQ bb))]
theorem Kj {R:Type}:ff (R:=R) Tryz.prog (EO cQ) := .p (toErr_ok) <| .p (Cf R _ (aM _)) <| .n
def sY {R:Type} (cQ:gf R) (x1:ah) (x2:Int) (x3:Int) (k0:Int→Option R) (k1:Int→Option R):Option R :=
 cQ x1 x2 x3 (fun y4=>cu (Nat.beq 184 184&&(2==2||2==1)) (cu (decide (x1.length≤281474976710656)) (k0 y4))) (fun y5=>cu (Nat.beq 184 184&&(3==2||3==1)) (cu (decide (x1.length≤281474976710656)) (k0 y5))) (fun y6=>cu (Nat.beq 184 184&&(4==2||4==1)) (cu (decide (x1.length≤281474976710656)) (k0 y6))) (fun y7=>cu (Nat.beq 184 184&&(1==2||1==1)) (cu (decide (x1.length≤281474976710656)) (k0 y7))) (fun y8=>k1 y8)
def fB {R:Type}:lq R:=fun x1 x2 x3 k0 k1=>sY cQ x1 x2 x3 k0 k1
theorem Ly {R:Type} (cQ:gf R):gS (R:=R) tt (EO cQ) Ca false Tryz.f172 (aI Tryz.f172) yd ye (DP (sY cQ)):=fun x y k=>by kernel_rfl
theorem Ja (R:Type):sM Tryz.prog 172 (EN (fB (R:=R))):=cC TT mixed (Kj (R:=R)) rfl rfl rfl rfl eS (Ly cQ)
end Go.Proofs.YtmlkkgfenfdndaaGreatDoor
/-
 Functions of the program as pure Lean functions, and the ties; printed by wip/tools/emit.py.
-/
set_option maxRecDepth 100000
namespace Go.Proofs.YtmlkkgfenfdndaaGreatDoor
open Go Go.aG
/-! ### (*humpyard/quote.reader).unit -/
abbrev iw (R:Type):Type:=ah→(Int→ah→Option R)→Option R
abbrev sw:List bE := [.leaf (.ptr 0 0)]
abbrev sA:List aA := [.cells [.str]]
def xF {R:Type} (fn:iw R):bE.au sw→aA.au sA→(V→aO→Option R)→Option R:=fun x y k=>fn y.1.1 (fun q0 q1=>k (.int .i32 q0) [.cells [.str q1]])
def yT {R:Type} (fn:iw R):aG.Spec R→aG.Spec R:=bm sw sA (xF fn)
def yU {R:Type} (fB:lq R):List (wv R) := [(172,true,(EN fB bb)),(173,true,(Ul R))]
theorem FX {R:Type}:ff (R:=R) Tryz.prog (yU fB) := .p (Ja R _ (aM _)) <| .p (hasAny_ok) <| .n
def oo {R:Type} (fB:lq R) (x1:ah) (k0:Int→ah→Option R):Option R :=
 bif (decide ((x1.length:Int)<(4:Int)))then (k0 (-1) x1)else (cu (decide ((4:Int)≤x1.length)) (fB ((x1.drop 0).take (4 - 0)) 16 16 (fun y2=>k0 (-1) x1) (fun y3=>cu (xC ((x1.drop 0).take (4 - 0))&&xC ([43,45,95]:ah)&&decide (((x1.drop 0).take (4 - 0)).length<4294967281)&&decide (([43,45,95]:ah).length<4294967281)) (bif (Uk ((x1.drop 0).take (4 - 0)) ([43,45,95]:ah))then (k0 (-1) x1)else (cu (decide ((0:Int)≤(x1.length:Int))&&decide ((x1.length:Int)≤x1.length)) (cu (decide ((4:Int)≤(x1.length:Int))) (k0 (IntKind.i32.wrap y3) ((x1.drop 4).take ((x1.length:Int).toNat - 4)))))))))
def di {R:Type}:iw R:=fun x1 k0=>oo fB x1 k0
theorem Gn {R:Type} (fB:lq R):gS (R:=R) tt (yU fB) Ca false Tryz.f157 (aI Tryz.f157) sw sA (xF (oo fB)):=fun x y k=>by kernel_rfl
theorem E4 (R:Type):sM Tryz.prog 157 (yT (di (R:=R))):=cC TT mixed (FX (R:=R)) rfl rfl rfl rfl eS (Gn fB)
/-! ### (*humpyard/quote.reader).long -/
abbrev iz (R:Type):Type:=ah→(Int→ah→Option R)→Option R
abbrev sB:List bE := [.leaf (.ptr 0 0)]
abbrev sC:List aA := [.cells [.str]]
def xG {R:Type} (fn:iz R):bE.au sB→aA.au sC→(V→aO→Option R)→Option R:=fun x y k=>fn y.1.1 (fun q0 q1=>k (.int .i32 q0) [.cells [.str q1]])
def yV {R:Type} (fn:iz R):aG.Spec R→aG.Spec R:=bm sB sC (xG fn)
def yW {R:Type} (aN:dm R) (di:iw R):List (wv R) := [(107,false,(sr aN bb)),(157,false,(yT di bb))]
theorem FY {R:Type}:ff (R:=R) Tryz.prog (yW aN di) := .f (vL R _ (aM _)) rfl <| .f (E4 R _ (aM _)) rfl <| .n
def oq {R:Type} (aN:dm R) (di:iw R) (x1:ah) (k0:Int→ah→Option R):Option R :=
 di x1 (fun y2 y3=>bif (decide (y2<(55296:Int)))then (k0 y2 y3)else (bif (decide (y2≥(57344:Int)))then (k0 y2 y3)else (bif (decide (y2≥(56320:Int)))then (k0 (-1) y3)else (aN ([92,117]:ah) y3 (fun y5 y6=>bif (!y5)then (k0 (-1) y6)else (di y6 (fun y9 rI=>bif (decide (y9<(56320:Int)))then (k0 (-1) rI)else (bif (decide (y9≥(57344:Int)))then (k0 (-1) rI)else (k0 (IntKind.i32.wrap ((IntKind.i32.wrap ((IntKind.i32.wrap (65536+(IntKind.i32.wrap ((IntKind.i32.wrap (y2 - 55296))*2 ^ (min 10 IntKind.i32.bits)))))+y9)) - 56320)) rI)))))))))
def cN {R:Type}:iz R:=fun x1 k0=>oq aN di x1 k0
theorem Gp {R:Type} (aN:dm R) (di:iw R):gS (R:=R) tt (yW aN di) Ca false Tryz.f138 (aI Tryz.f138) sB sC (xG (oq aN di)):=fun x y k=>by kernel_rfl
theorem E5 (R:Type):sM Tryz.prog 138 (yV (cN (R:=R))):=cC TT mixed (FY (R:=R)) rfl rfl rfl rfl eS (Gp aN di)
/-! ### (*humpyard/quote.reader).escaped -/
abbrev eR (R:Type):Type:=ah→(Int→ah→Option R)→Option R
abbrev pf:List bE := [.leaf (.ptr 0 0)]
abbrev pg:List aA := [.cells [.str]]
def u4 {R:Type} (fn:eR R):bE.au pf→aA.au pg→(V→aO→Option R)→Option R:=fun x y k=>fn y.1.1 (fun q0 q1=>k (.int .i32 q0) [.cells [.str q1]])
def vN {R:Type} (fn:eR R):aG.Spec R→aG.Spec R:=bm pf pg (u4 fn)
def vO {R:Type} (cN:iz R):List (wv R) := [(138,false,(yV cN bb))]
theorem DQ {R:Type}:ff (R:=R) Tryz.prog (vO cN) := .f (E5 R _ (aM _)) rfl <| .n
def l0 {R:Type} (cN:iz R) (x1:ah) (k0:Int→ah→Option R):Option R :=
 bif (x1==([]:ah))then (k0 (-1) x1)else (cu (decide ((0:Int)<x1.length)) (cu (decide ((0:Int)≤(x1.length:Int))&&decide ((x1.length:Int)≤x1.length)) (cu (decide ((1:Int)≤(x1.length:Int))) (let j5:=fun (z2:Bool)=>bif z2 then (k0 (IntKind.i32.wrap ((x1.getD 0 0).toNat:Int)) ((x1.drop 1).take ((x1.length:Int).toNat - 1)))else (bif (((x1.getD 0 0).toNat:Int)==98)then (k0 8 ((x1.drop 1).take ((x1.length:Int).toNat - 1)))else (bif (((x1.getD 0 0).toNat:Int)==102)then (k0 12 ((x1.drop 1).take ((x1.length:Int).toNat - 1)))else (bif (((x1.getD 0 0).toNat:Int)==110)then (k0 10 ((x1.drop 1).take ((x1.length:Int).toNat - 1)))else (bif (((x1.getD 0 0).toNat:Int)==114)then (k0 13 ((x1.drop 1).take ((x1.length:Int).toNat - 1)))else (bif (((x1.getD 0 0).toNat:Int)==116)then (k0 9 ((x1.drop 1).take ((x1.length:Int).toNat - 1)))else (bif (((x1.getD 0 0).toNat:Int)==117)then (cN ((x1.drop 1).take ((x1.length:Int).toNat - 1)) (fun y3 y4=>k0 y3 y4))else (k0 (-1) ((x1.drop 1).take ((x1.length:Int).toNat - 1))))))))); bif (((x1.getD 0 0).toNat:Int)==34)then (j5 (((x1.getD 0 0).toNat:Int)==34))else (bif (((x1.getD 0 0).toNat:Int)==92)then (j5 (((x1.getD 0 0).toNat:Int)==92))else (j5 (((x1.getD 0 0).toNat:Int)==47)))))))
def bn {R:Type}:eR R:=fun x1 k0=>l0 cN x1 k0
theorem Em {R:Type} (cN:iz R):gS (R:=R) tt (vO cN) Ca false Tryz.f109 (aI Tryz.f109) pf pg (u4 (l0 cN)):=fun x y k=>by kernel_rfl
theorem CM (R:Type):sM Tryz.prog 109 (vN (bn (R:=R))):=cC TT mixed (DQ (R:=R)) rfl rfl rfl rfl eS (Em cN)
/-! ### (*humpyard/quote.reader).plain -/
abbrev fo (R:Type):Type:=ah→(Int→ah→Option R)→Option R
abbrev qW:List bE := [.leaf (.ptr 0 0)]
abbrev qX:List aA := [.cells [.str]]
def wH {R:Type} (fn:fo R):bE.au qW→aA.au qX→(V→aO→Option R)→Option R:=fun x y k=>fn y.1.1 (fun q0 q1=>k (.int .i32 q0) [.cells [.str q1]])
def xH {R:Type} (fn:fo R):aG.Spec R→aG.Spec R:=bm qW qX (wH fn)
def xI {R:Type}:List (wv R) := [(130,true,(dec_S R))]
theorem E6 {R:Type}:ff (R:=R) Tryz.prog (xI (R:=R)) := .p (dec_ok) <| .n
def nF {R:Type} (x1:ah) (k0:Int→ah→Option R):Option R :=
 let j3:=cu (decide ((0:Int)≤(x1.length:Int))&&decide ((x1.length:Int)≤x1.length)) (cu (decide ((0:Int)≤((qF x1).2:Int))&&decide (((qF x1).2:Int)≤(x1.length:Int))) (k0 ((qF x1).1:Int) ((x1.drop ((qF x1).2:Int).toNat).take ((x1.length:Int).toNat - ((qF x1).2:Int).toNat)))); bif (((qF x1).1:Int)==65533)then (bif (decide (((qF x1).2:Int)<(2:Int)))then (k0 (-1) x1)else (bif (decide (((qF x1).1:Int)<(32:Int)))then (k0 (-1) x1)else (j3)))else (bif (decide (((qF x1).1:Int)<(32:Int)))then (k0 (-1) x1)else (j3))
def bz {R:Type}:fo R:=fun x1 k0=>nF x1 k0
theorem FZ {R:Type}:gS (R:=R) tt (xI (R:=R)) Ca false Tryz.f108 (aI Tryz.f108) qW qX (wH nF):=fun x y k=>by kernel_rfl
theorem En (R:Type):sM Tryz.prog 108 (xH (bz (R:=R))):=cC TT mixed (E6 (R:=R)) rfl rfl rfl rfl eS (FZ)
/-! ### humpyard/quote.Unquote -/
abbrev pS (R:Type):Type:=ah→(ah→Int→Bool→Option R)→Option R
abbrev Eo:List bE := [.leaf (.str)]
abbrev Ep:List aA := []
def H4 {R:Type} (fn:pS R):bE.au Eo→aA.au Ep→(V→aO→Option R)→Option R:=fun x y k=>fn x.1 (fun q0 q1 q2=>k (.tuple [.str q0, .int .i64 q1, .bool q2]) [])
def J3 {R:Type} (fn:pS R):aG.Spec R→aG.Spec R:=bm Eo Ep (H4 fn)
abbrev lr (R:Type):Type:=Nat→ah→ah→(List Int)→(ah→ah→(List Int)→Option R)→(ah→ah→Int→Bool→ah→(List Int)→Option R)→Option R
def rD {R:Type} (ai:bN R) (aN:dm R) (bz:fo R) (bn:eR R):List (wv R) := [(53,false,(mF ai bb)),(39,false,(IS R)),(107,false,(sr aN bb)),(108,false,(xH bz bb)),(109,false,(vN bn bb))]
theorem PB {R:Type}:ff (R:=R) Tryz.prog (rD ai aN bz bn) := .f (pM R _ (aM _)) rfl <| .s (S8) Mk <| .f (vL R _ (aM _)) rfl <| .f (En R _ (aM _)) rfl <| .f (CM R _ (aM _)) rfl <| .n
def sZ {R:Type} (ai:bN R) (aN:dm R) (bz:fo R) (bn:eR R) (dq:ah→ah→(List Int)→Option R) (x4:ah) (x5:ah) (x6:List Int) (e0:ah→ah→(List Int)→Option R) (e1:ah→ah→Int→Bool→ah→(List Int)→Option R):Option R :=
 aN ([34]:ah) x5 (fun y7 y8=>bif (!y7)then (aN ([92]:ah) y8 (fun y9 rI=>bif y9 then (bn rI (fun rq qV=>bif (decide (rq<(0:Int)))then (e1 x4 ([]:ah) 0 false qV x6)else (ai rq x6 (fun G8 KZ=>dq x4 qV KZ))))else (bz rI (fun DM HF=>bif (decide (DM<(0:Int)))then (e1 x4 ([]:ah) 0 false HF x6)else (ai DM x6 (fun Iv Iu=>dq x4 HF Iu))))))else (e0 x4 y8 x6))
def bu {R:Type}:lr R
 | 0,_,_,_,_,_=>none
 | n+1,hY,hZ,iB,e0,e1=>sZ ai aN bz bn (fun hY hZ iB=>bu n hY hZ iB e0 e1) hY hZ iB e0 e1
def s4:Hint := { live := [0,5,6],own := [],rows := [],cells := [(1,1,(.int .u8),false)],drop := [],out := [0,2,3,4,5,6] }
abbrev iP:Type:=ah × ah × (List Int)
def qG:iP→St:=fun d=>⟨.str d.1::U 4 (.ptr 0 0 :: .ptr 1 0::U 32 ([])), [.cells [.str d.2.1], .oG (.sl (.int .u8) d.2.2 (.own 2)), .tok]⟩
def wI {R:Type} (K:Ex→St→Option R) (q0:ah) (q1:ah) (q2:List Int):Option R:=K (.exit 0) ⟨.str q0::U 4 (.ptr 0 0 :: .ptr 1 0::U 32 ([])), [.cells [.str q1], .oG (.sl (.int .u8) q2 (.own 2)), .tok]⟩
def wJ {R:Type} (K:Ex→St→Option R) (q0:ah) (q1:ah) (q2:Int) (q3:Bool) (q4:ah) (q5:List Int):Option R:=K (.ret) ⟨.str q0 :: .undef :: .str q1 :: .int .i64 q2 :: .bool q3 :: .ptr 0 0 :: .ptr 1 0::U 32 ([]), [.cells [.str q4], .oG (.sl (.int .u8) q5 (.own 2)), .tok]⟩
def yf {R:Type} (ai:bN R) (aN:dm R) (bz:fo R) (bn:eR R) (K:Ex→St→Option R) (rc:iP→Option R) (d:iP):Option R:=sZ ai aN bz bn (fun z0 z1 z2=>rc (z0,z1,z2)) d.1 d.2.1 d.2.2 (wI K) (wJ K)
def mV {R:Type} (K:Ex→St→Option R) (n:Nat) (d:iP):Option R:=bu n d.1 d.2.1 d.2.2 (wI K) (wJ K)
abbrev iQ:List bE := .leaf (.str)::PU 4 (.leaf (.ptr 0 0) :: .leaf (.ptr 1 0)::PU 32 ([]))
abbrev iR:List aA := [.cells [.str], .oG (.Vt (.int .u8) 2), .tok]
def yg (x:bE.au iQ) (y:aA.au iR):Nat:=(List.length x.1+List.length y.1.1+List.length y.2.1+64)
def yh (x:bE.au iQ) (y:aA.au iR):iP:=(x.1,y.1.1,y.2.1)
def wK {R:Type} (L:lr R):bE.au iQ→aA.au iR→(Ex→St→Option R)→Option R:=fun x y K=>L (yg x y) x.1 y.1.1 y.2.1 (wI K) (wJ K)
def u6 (R:Type) (bu:lr R):Nat→Option (Hint × dC R):=fun i=>match i with
 | 5=>some (s4,(dx iQ iR (wK bu) j7))
 | _=>none
theorem Jb {R:Type} (ai:bN R) (aN:dm R) (bz:fo R) (bn:eR R) (bu:lr R) (K:Ex→St→Option R) (rc:St→Option R) (d:iP):roundOf tt (dM (rD ai aN bz bn)) (u6 R bu) 0 ((aT (aI Tryz.f70)).getD 0 .skip) s4 (qG d) rc K=yf ai aN bz bn K (fun d=>rc (qG d)) d:=by kernel_rfl
theorem Hg {R:Type} (K:Ex→St→Option R) (n:Nat) (d:iP):mV K (n+1) d=yf ai aN bz bn K (mV K n) d:=by kernel_rfl
theorem Hh {R:Type} (K:Ex→St→Option R) (d:iP):mV K 0 d=none:=by kernel_rfl
theorem Jc (x:bE.au iQ) (y:aA.au iR):(⟨bE.eD iQ x,aA.eD iR y⟩:St)=qG (yh x y):=by kernel_rfl
theorem Jd {R:Type} (x:bE.au iQ) (y:aA.au iR) (K:Ex→St→Option R):wK (bu) x y K=mV K (yg x y) (yh x y):=by kernel_rfl
theorem Lz {R:Type} (other:dC R) (ho:jt tt (dM (rD ai aN bz bn)) (u6 R bu) 0 ((aT (aI Tryz.f70)).getD 0 .skip) s4 other):jt tt (dM (rD ai aN bz bn)) (u6 R bu) 0 ((aT (aI Tryz.f70)).getD 0 .skip) s4 (dx iQ iR (wK (bu)) other) :=
 dL (A:=mV) ho (fw qG (yf ai aN bz bn) (mV) (Hh) (Jb ai aN bz bn bu) (Hg)) yg yh Jc (Jd)
def zx {R:Type} (aN:dm R) (bu:lr R) (x1:ah) (k0:ah→Int→Bool→Option R):Option R :=
 aN ([34]:ah) x1 (fun y2 y3=>bif (!y2)then (k0 ([]:ah) 0 false)else (bu (List.length x1+List.length y3+List.length ([]:List Int)+64) x1 y3 ([]:List Int) (fun UA Nv CK=>k0 (Gk CK) (IntKind.i64.wrap ((UA.length:Int) - (Nv.length:Int))) true) (fun y22 Ya y24 Qk Sh D5=>k0 Ya y24 Qk)))
def fV {R:Type}:pS R:=fun x1 k0=>zx aN bu x1 k0
theorem QU {R:Type} (ai:bN R) (aN:dm R) (bz:fo R) (bn:eR R) (bu:lr R):gS (R:=R) tt (rD ai aN bz bn) (u6 R bu) false Tryz.f70 (aI Tryz.f70) Eo Ep (H4 (zx aN bu)):=fun x y k=>by kernel_rfl
theorem Mz (R:Type):∀a∈aT (aI Tryz.f70),jn tt (dM (rD ai aN bz bn)) (u6 R bu) 0 a:=by
 refine gR 1 (by kernel_rfl) fun i hi => ?_
 match i,hi with
 | 0,_=>exact cW (by kernel_rfl) (Lz _ eN)
 | n+1,hi=>omega
theorem Oo (R:Type):sM Tryz.prog 70 (J3 (fV (R:=R))):=cC TT mixed (PB (R:=R)) rfl rfl rfl rfl (Mz R) (QU ai aN bz bn bu)
/-! ### humpyard/lexer.next -/
abbrev pN (R:Type):Type:=ah→(Token→Int→Option R)→Option R
abbrev Je:List bE := [.leaf (.str)]
abbrev Jf:List aA := []
def Nw {R:Type} (fn:pN R):bE.au Je→aA.au Jf→(V→aO→Option R)→Option R:=fun x y k=>fn x.1 (fun q0 q1=>k (.tuple [.agg [.int .i64 q0.kind, .str q0.text, .int .i64 q0.num.aF, .int .i64 q0.num.exp, .int .i64 q0.at_], .int .i64 q1]) [])
def PC {R:Type} (fn:pN R):aG.Spec R→aG.Spec R:=bm Je Jf (Nw fn)
def PD {R:Type} (fV:pS R) (eL:pR R) (cv:jA R):List (wv R) := [(70,true,(J3 fV bb)),(69,true,(JZ eL bb)),(71,true,(idx_S R)),(47,true,(Hb cv bb))]
theorem UB {R:Type}:ff (R:=R) Tryz.prog (PD fV eL cv) := .p (Oo R _ (aM _)) <| .p (Ol R _ (aM _)) <| .p (idx_ok) <| .p (HY R _ (aM _)) <| .n
def E7 {R:Type} (fV:pS R) (eL:pR R) (cv:jA R) (x1:ah) (k0:Token→Int→Option R):Option R :=
 cu (decide ((0:Int)<x1.length)) (let j23:=cv x1 ([97,98,99,100,101,102,103,104,105,106,107,108,109,110,111,112,113,114,115,116,117,118,119,120,121,122]:ah) (fun CK=>bif (CK==([116,114,117,101]:ah))then (k0 (⟨4,CK,⟨0,0⟩,0⟩:Token) (CK.length:Int))else (bif (CK==([102,97,108,115,101]:ah))then (k0 (⟨4,CK,⟨0,0⟩,0⟩:Token) (CK.length:Int))else (bif (!(CK==([110,117,108,108]:ah)))then (k0 (⟨0,([]:ah),⟨0,0⟩,0⟩:Token) 0)else (k0 (⟨4,CK,⟨0,0⟩,0⟩:Token) (CK.length:Int))))); bif (((x1.getD 0 0).toNat:Int)==45)then (cv x1 ([48,49,50,51,52,53,54,55,56,57,43,45,46,101,69]:ah) (fun y6=>eL y6 (fun y7 y8=>bif (!y8)then (k0 (⟨0,([]:ah),⟨0,0⟩,0⟩:Token) 0)else (k0 (⟨3,y6,⟨y7.aF,y7.exp⟩,0⟩:Token) (y6.length:Int)))))else (bif (decide (((x1.getD 0 0).toNat:Int)≥(48:Int)))then (bif (decide (((x1.getD 0 0).toNat:Int)≤(57:Int)))then (cv x1 ([48,49,50,51,52,53,54,55,56,57,43,45,46,101,69]:ah) (fun y9=>eL y9 (fun rI rq=>bif (!rq)then (k0 (⟨0,([]:ah),⟨0,0⟩,0⟩:Token) 0)else (k0 (⟨3,y9,⟨rI.aF,rI.exp⟩,0⟩:Token) (y9.length:Int)))))else (bif (((x1.getD 0 0).toNat:Int)==34)then (fV x1 (fun DM HF Iv=>bif (!Iv)then (k0 (⟨0,([]:ah),⟨0,0⟩,0⟩:Token) 0)else (k0 (⟨2,DM,⟨0,0⟩,0⟩:Token) HF)))else (bif (decide ((Dt ([123,125,91,93,44,58]:ah) ((x1.getD 0 0).toNat:Int))≥(0:Int)))then (cu (decide ((1:Int)≤x1.length)) (k0 (⟨1,((x1.drop 0).take (1 - 0)),⟨0,0⟩,0⟩:Token) 1))else (j23))))else (bif (((x1.getD 0 0).toNat:Int)==34)then (fV x1 (fun Iu UA Nv=>bif (!Nv)then (k0 (⟨0,([]:ah),⟨0,0⟩,0⟩:Token) 0)else (k0 (⟨2,Iu,⟨0,0⟩,0⟩:Token) UA)))else (bif (decide ((Dt ([123,125,91,93,44,58]:ah) ((x1.getD 0 0).toNat:Int))≥(0:Int)))then (cu (decide ((1:Int)≤x1.length)) (k0 (⟨1,((x1.drop 0).take (1 - 0)),⟨0,0⟩,0⟩:Token) 1))else (j23)))))
def gb {R:Type}:pN R:=fun x1 k0=>E7 fV eL cv x1 k0
theorem VW {R:Type} (fV:pS R) (eL:pR R) (cv:jA R):gS (R:=R) tt (PD fV eL cv) Ca false Tryz.f48 (aI Tryz.f48) Je Jf (Nw (E7 fV eL cv)):=fun x y k=>by kernel_rfl
theorem Sp (R:Type):sM Tryz.prog 48 (PC (gb (R:=R))):=cC TT mixed (UB (R:=R)) rfl rfl rfl rfl eS (VW fV eL cv)
end Go.Proofs.YtmlkkgfenfdndaaGreatDoor
set_option maxRecDepth 100000
namespace Go.Proofs.YtmlkkgfenfdndaaGreatDoor
open Go Go.aG Go.Lib
theorem band2 {p q:Prop} [Decidable p] [Decidable q] (hp:p) (hq:q):(decide p&&decide q)=true:=by rw[aB hp,aB hq]; rfl
theorem UC:∀(p s:ah),(s.take p.length==p)=p.isPrefixOf s
  | [],s=>by simp
  | a::p, []=>by simp
  | a::p,b::s=>by
    have:=UC p s
    simp only[List.length_cons,List.take_succ_cons,List.isPrefixOf]
    rw[List.cons_beq_cons,this]
    congr 1
    exact Bool.beq_comm
theorem Ta {R:Type} (p s:ah) (hp:p.length≤1000) (hs:s.length≤9000000000000000000) (k:Bool→ah→Option R) :
    aN p s k=if p.isPrefixOf s then k true (s.drop p.length)else k false s:=by
  have e1:∀f:ah→Bool→Option R,fy s p f=cq s p f:=fun _=>rfl
  show fy s p (fun y3 y4=>k y4 y3)=_
  rw[e1]
  show ja b8 s p (fun y3 y4=>k y4 y3)=_
  unfold ja
  have e2:∀f:Bool→Option R,b8 s p f=f (p.isPrefixOf s):=by
    intro f
    show iZ s p f=_
    unfold iZ
    by_cases h:p.length≤s.length
    · rw[aB (show (s.length:Int)≥(p.length:Int) by omega),cond_true,aS (by rw[aB (show (0:Int)≤(p.length:Int) by omega)]; rfl),aS (aB (by omega))]
      rw[List.drop_zero,Int.toNat_natCast,Nat.sub_zero,UC]
    · rw[aV (show ¬(s.length:Int)≥(p.length:Int) by omega),cond_false]
      congr 1
      rw[←UC]
      symm
      rw[beq_eq_false_iff_ne]
      intro e
      have:=congrArg List.length e
      rw[List.length_take]at this
      omega
  rw[e2]
  cases hp2:p.isPrefixOf s with
  | false=>simp
  | true =>
    have hle:p.length≤s.length:=(List.IsPrefix.length_le (List.isPrefixOf_iff_prefix.1 hp2))
    rw[Bool.not_true,cond_false,aS (band2 (by omega) (by omega)),aS (band2 (by omega) (by omega))]
    simp only[Int.toNat_natCast,if_true]
    rw[List.take_of_length_le (by rw[List.length_drop]; exact Nat.le_refl _)]
theorem decRune_eq {s:ah} (h:s ≠ []):qF s=decodeL s:=by
  unfold qF
  have:s.isEmpty=false:=by cases s with|nil=>exact (h rfl).elim|cons _ _=>rfl
  rw[this]
  rfl
def yi (s:ah):Option (Nat × ah) :=
  if s = []then none else if (decodeL s).1=65533∧(decodeL s).2=1 then none else if (decodeL s).1<32 then none else some ((decodeL s).1,s.drop (decodeL s).2)
theorem plain_ok {R:Type} (s:ah) (hs:s.length≤9000000000000000000) (k:Int→ah→Option R) :
    bz s k=match yi s with|some (c,r)=>k (c:Int) r|none=>k (-1) s:=by
  show nF s k=_
  unfold nF
  by_cases h0:s = []
  · subst h0; rfl
  rw[decRune_eq h0]
  have hw:=decodeL_width s
  have hle:=decodeL_le s h0
  have hj:(cu (decide ((0:Int)≤(s.length:Int))&&decide ((s.length:Int)≤s.length)) (cu (decide ((0:Int)≤((decodeL s).2:Int))&&decide (((decodeL s).2:Int)≤(s.length:Int))) (k ((decodeL s).1:Int) ((s.drop ((decodeL s).2:Int).toNat).take ((s.length:Int).toNat - ((decodeL s).2:Int).toNat)))))=k ((decodeL s).1:Int) (s.drop (decodeL s).2):=by
    rw[aS (band2 (by omega) (by omega)),aS (band2 (by omega) (by omega)),Int.toNat_natCast,Int.toNat_natCast,List.take_of_length_le (by rw[List.length_drop]; exact Nat.le_refl _)]
  simp only[hj]
  unfold yi
  rw[if_neg h0]
  by_cases h1:(decodeL s).1=65533
  · have e1:(((decodeL s).1:Int)==65533)=true:=by rw[h1]; rfl
    rw[e1,cond_true]
    by_cases h2:(decodeL s).2=1
    · rw[aB (show ((decodeL s).2:Int)<2 by omega),cond_true,if_pos ⟨h1,h2⟩]
    · rw[aV (show ¬((decodeL s).2:Int)<2 by omega),cond_false,aV (show ¬((decodeL s).1:Int)<32 by omega),cond_false,if_neg (fun h=>h2 h.2),if_neg (by omega)]
  · have e1:(((decodeL s).1:Int)==65533)=false:=by rw[beq_eq_false_iff_ne]; omega
    rw[e1,cond_false,if_neg (fun h=>h1 h.1)]
    by_cases h3:(decodeL s).1<32
    · rw[aB (show ((decodeL s).1:Int)<32 by omega),cond_true,if_pos h3]
    · rw[aV (show ¬((decodeL s).1:Int)<32 by omega),cond_false,if_neg h3]
def Oq (b:UInt8):Option Nat :=
  let n:=b.toNat
  if 48≤n∧n≤57 then some (n - 48)else if 65≤n∧n≤70 then some (n - 55)else if 97≤n∧n≤102 then some (n - 87)else none
def Kk:ah→Nat→Option Nat
  | [],v=>some v
  | b::t,v=>match Oq b with|some d=>Kk t (16*v+d)|none=>none
def DR (b:Int):Int:=IntKind.u8.wrap ((BitVec.ofInt IntKind.u8.bits b ||| BitVec.ofInt IntKind.u8.bits 32).toNat:Int)
def hexB (b:Nat):Bool :=
  (!(decide (48≤b)&&decide (b≤57))||decide (IntKind.u8.wrap ((b:Int) - 48)=((b - 48:Nat):Int))) &&
  (!(decide ((97:Int)≤DR b)&&decide (DR b≤122))||(!(decide (48≤b)&&decide (b≤57))&&decide (b≠95)&&decide (IntKind.u8.wrap ((IntKind.u8.wrap (DR b - 97))+10)=DR b - 87) &&
    (!decide (DR b - 87<16)||((decide (65≤b)&&decide (b≤70)&&decide (DR b - 87=((b - 55:Nat):Int)))||(decide (97≤b)&&decide (b≤102)&&decide (DR b - 87=((b - 87:Nat):Int))))) &&
    (!decide (16≤DR b - 87)||(!(decide (65≤b)&&decide (b≤70)) && !(decide (97≤b)&&decide (b≤102)))))) &&
  ((decide ((97:Int)≤DR b)&&decide (DR b≤122))||(!(decide (65≤b)&&decide (b≤70)) && !(decide (97≤b)&&decide (b≤102))))
theorem hexB_all:∀b:Fin 256,hexB b.val=true:=by decide +kernel
theorem hex_fact (b:Nat) (hb:b<256) :
    ((48≤b∧b≤57)→IntKind.u8.wrap ((b:Int) - 48)=((b - 48:Nat):Int)) ∧
    ((97:Int)≤DR b→DR b≤122→¬(48≤b∧b≤57)∧b≠95∧IntKind.u8.wrap ((IntKind.u8.wrap (DR b - 97))+10)=DR b - 87 ∧
      (DR b - 87<16→((65≤b∧b≤70)∧DR b - 87=((b - 55:Nat):Int))∨((97≤b∧b≤102)∧DR b - 87=((b - 87:Nat):Int))) ∧
      (16≤DR b - 87→¬(65≤b∧b≤70)∧¬(97≤b∧b≤102))) ∧
    (¬((97:Int)≤DR b∧DR b≤122)→¬(65≤b∧b≤70)∧¬(97≤b∧b≤102)):=by
  have h:=hexB_all ⟨b,hb⟩
  unfold hexB at h
  generalize DR (b:Int)=l at *
  simp only[Bool.and_eq_true,Bool.or_eq_true,Bool.not_eq_true',Bool.and_eq_false_iff,decide_eq_true_eq,decide_eq_false_iff_not]at h
  obtain ⟨⟨h1,h2⟩,h3⟩:=h
  refine ⟨fun q => ?_,fun q1 q2 => ?_,fun q => ?_⟩
  · rcases h1 with h1|h1
    · omega
    · exact h1
  · rcases h2 with h2|⟨⟨⟨⟨g1,g2⟩,g3⟩,g4⟩,g5⟩
    · omega
    · refine ⟨by omega,g2,g3,fun q => ?_,fun q => ?_⟩
      · rcases g4 with g4|g4
        · omega
        · rcases g4 with ⟨⟨k1,k2⟩,k3⟩|⟨⟨k1,k2⟩,k3⟩
          · exact .inl ⟨⟨k1,k2⟩,k3⟩
          · exact .inr ⟨⟨k1,k2⟩,k3⟩
      · rcases g5 with g5|⟨k1,k2⟩
        · omega
        · exact ⟨by omega,by omega⟩
  · rcases h3 with h3|⟨k1,k2⟩
    · omega
    · exact ⟨by omega,by omega⟩
theorem Yb {b:UInt8} {d:Nat} (h:Oq b=some d):d<16:=by
  unfold Oq at h
  simp only at h
  split at h
  · cases h; omega
  · split at h
    · cases h; omega
    · split at h
      · cases h; omega
      · cases h
theorem u64w {n:Int} (h0:0≤n) (h:n≤18446744073709551615):IntKind.u64.wrap n=n:=by
  simp only[IntKind.wrap,IntKind.bits,IntKind.signed]
  simp
  omega
theorem uint_round {R:Type} {s x22:ah} {i v:Nat} (hi:i<s.length) (hs:s.length≤1000) (hv:v<4096) (dq:Int→Bool→ah→Int→Int→Bool→Int→Nat→Int→Int→(List Int)→Option R) (e0:ah→Bool→Int→Option R) (e1 e2:Int→ah→Bool→Int→Option R) (e3:Int→ah→Bool→Option R) :
    eH internal_strconv_lower dq 16 false x22 1152921504606846976 65535 false (v:Int) s.length (s.length:Int) (i:Int) (s9 s) e0 e1 e2 e3 =
      match Oq (s[i])with
      | some d=>dq 16 false x22 1152921504606846976 65535 false ((16*v+d:Nat):Int) s.length (s.length:Int) ((i+1:Nat):Int) (s9 s)
      | none=>e1 0 x22 false (v:Int):=by
  unfold eH
  have XL:∀(n:Int) (f:Int→Option R),internal_strconv_lower n f=f (DR n):=fun _ _=>rfl
  have IG:(s9 s).getD (i:Int).toNat (Ty.bU (.int .u8))=(s[i].toNat:Int):=by
    rw[Int.toNat_natCast]
    show (s.map fun b=>(b.toNat:Int)).getD i _=_
    simp[List.getD,hi]
    rfl
  rw[aB (show (i:Int)<(s.length:Int) by omega),cond_true,aS (by rw[aB (show (0:Int)≤(i:Int) by omega)]; rfl),
    aS (aB (by rw[Int.toNat_natCast,QT,On]; exact hi))]
  simp only[IG,XL]
  obtain ⟨f1,f2,f3⟩:=hex_fact s[i].toNat (UInt8.toNat_lt _)
  have hb:=UInt8.toNat_lt s[i]
  generalize hbn:s[i].toNat=b at *
  have hw16:IntKind.u8.wrap 16=16:=by decide
  have hw64:IntKind.u64.wrap 16=16:=by decide
  have hi1:IntKind.i64.wrap ((i:Int)+1)=((i+1:Nat):Int):=by rw[bw (by omega) (by omega)]; omega
  -- a digit's value, if it is below 16
  have fit:∀d:Nat,d<16→∀z:Int,z=(d:Int)→(bif (decide (z≥(IntKind.u8.wrap 16)))then (e1 0 x22 false (v:Int))else (bif (decide ((v:Int)≥1152921504606846976))then (e2 65535 x22 false (v:Int))else (bif (decide ((IntKind.u64.wrap ((IntKind.u64.wrap ((v:Int)*(IntKind.u64.wrap 16)))+(IntKind.u64.wrap z)))<(IntKind.u64.wrap ((v:Int)*(IntKind.u64.wrap 16)))))then (e2 65535 x22 false (IntKind.u64.wrap ((v:Int)*(IntKind.u64.wrap 16))))else (bif (decide ((IntKind.u64.wrap ((IntKind.u64.wrap ((v:Int)*(IntKind.u64.wrap 16)))+(IntKind.u64.wrap z)))>65535))then (e2 65535 x22 false (IntKind.u64.wrap ((v:Int)*(IntKind.u64.wrap 16))))else (dq 16 false x22 1152921504606846976 65535 false (IntKind.u64.wrap ((IntKind.u64.wrap ((v:Int)*(IntKind.u64.wrap 16)))+(IntKind.u64.wrap z))) s.length (s.length:Int) (IntKind.i64.wrap ((i:Int)+1)) (s9 s)))))) =
      dq 16 false x22 1152921504606846976 65535 false ((16*v+d:Nat):Int) s.length (s.length:Int) ((i+1:Nat):Int) (s9 s):=by
    intro d hd z hz
    subst hz
    have k1:IntKind.u64.wrap ((v:Int)*16)=(v:Int)*16:=u64w (by omega) (by omega)
    have k2:IntKind.u64.wrap (d:Int)=d:=u64w (by omega) (by omega)
    have k3:IntKind.u64.wrap ((v:Int)*16+(d:Int))=(v:Int)*16+(d:Int):=u64w (by omega) (by omega)
    rw[hw16,hw64,k1,k2,k3,hi1,aV (show ¬(d:Int)≥16 by omega),cond_false,aV (show ¬(v:Int)≥1152921504606846976 by omega),cond_false,aV (show ¬(v:Int)*16+(d:Int)<(v:Int)*16 by omega),cond_false,
      aV (show ¬(v:Int)*16+(d:Int)>65535 by omega),cond_false]
    have:(v:Int)*16+(d:Int)=((16*v+d:Nat):Int):=by omega
    rw[this]
  rw[cond_false,Bool.cond_self]
  unfold Oq
  simp only[hbn]
  by_cases h1:48≤b∧b≤57
  · rw[aB (show (48:Int)≤(b:Int) by omega),cond_true,aB (show (b:Int)≤57 by omega),cond_true,if_pos h1]
    exact fit (b - 48) (by omega) _ (f1 h1)
  · rw[if_neg h1]
    have Yc:∀x z:Option R,(bif (decide ((48:Int)≤(b:Int)))then (bif (decide ((b:Int)≤(57:Int)))then x else z)else z)=z:=by
      intro x z
      by_cases h:(48:Int)≤(b:Int)
      · rw[aB h,cond_true,aV (show ¬(b:Int)≤57 by omega),cond_false]
      · rw[aV h,cond_false]
    simp only[cond_false]
    rw[Yc]
    by_cases h2:(97:Int)≤DR b
    · rw[aB h2,cond_true]
      by_cases h3:DR b≤122
      · rw[aB h3,cond_true]
        obtain ⟨_,_,g1,g2,g3⟩:=f2 h2 h3
        rw[g1]
        by_cases h4:DR b - 87<16
        · rcases g2 h4 with ⟨q1,q2⟩|⟨q1,q2⟩
          · rw[if_pos q1]
            exact fit (b - 55) (by omega) _ q2
          · rw[if_neg (by omega),if_pos q1]
            exact fit (b - 87) (by omega) _ q2
        · obtain ⟨q1,q2⟩:=g3 (by omega)
          rw[hw16,aB (show DR b - 87≥16 by omega),cond_true,if_neg q1,if_neg q2]
      · rw[aV h3,cond_false]
        obtain ⟨q1,q2⟩:=f3 (by omega)
        rw[if_neg q1,if_neg q2]
    · rw[aV h2,cond_false]
      obtain ⟨q1,q2⟩:=f3 (by omega)
      rw[if_neg q1,if_neg q2]
theorem hexN_step (s:ah) (i v:Nat) (hi:i<s.length):Kk (s.drop i) v=match Oq s[i]with|some d=>Kk (s.drop (i+1)) (16*v+d)|none=>none:=by
  rw[List.drop_eq_getElem_cons hi]
  rfl
theorem uint_loop {R:Type} {s x22:ah} (hs:s.length≤4) (e0:ah→Bool→Int→Option R) (e1 e2:Int→ah→Bool→Int→Option R) (e3:Int→ah→Bool→Option R):∀(n i v:Nat),s.length - i<n→i≤s.length→v<16 ^ i →
    (match Kk (s.drop i) v with
     | some u=>aP n 16 false x22 1152921504606846976 65535 false (v:Int) s.length (s.length:Int) (i:Int) (s9 s) e0 e1 e2 e3=e0 x22 false (u:Int)
     | none=>∃w,aP n 16 false x22 1152921504606846976 65535 false (v:Int) s.length (s.length:Int) (i:Int) (s9 s) e0 e1 e2 e3=e1 0 x22 false w):=by
  intro n
  induction n with
  | zero=>intro i v h; omega
  | succ n ih =>
    intro i v h hi hv
    by_cases kY:i<s.length
    · have hv2:v<4096:=by
        have:16 ^ i≤16 ^ 3:=Nat.pow_le_pow_right (by omega) (by omega)
        have e:(16:Nat) ^ 3=4096:=rfl
        omega
      have hr:=uint_round (R:=R) (x22:=x22) kY (by omega) hv2 (fun hY hZ iB ql E3 He Sl Sm Sn So Hf=>aP n hY hZ iB ql E3 He Sl Sm Sn So Hf e0 e1 e2 e3) e0 e1 e2 e3
      have hL:aP (n+1) 16 false x22 1152921504606846976 65535 false (v:Int) s.length (s.length:Int) (i:Int) (s9 s) e0 e1 e2 e3 =
        eH internal_strconv_lower (fun hY hZ iB ql E3 He Sl Sm Sn So Hf=>aP n hY hZ iB ql E3 He Sl Sm Sn So Hf e0 e1 e2 e3) 16 false x22 1152921504606846976 65535 false (v:Int) s.length (s.length:Int) (i:Int) (s9 s) e0 e1 e2 e3:=rfl
      rw[hL,hr,hexN_step s i v kY]
      cases hx:Oq s[i]with
      | none=>exact ⟨_,rfl⟩
      | some d =>
        have hd:=Yb hx
        have:(16:Nat) ^ (i+1)=16 ^ i*16:=Nat.pow_succ ..
        exact ih (i+1) (16*v+d) (by omega) (by omega) (by omega)
    · have e:s.drop i = []:=List.drop_eq_nil_of_le (by omega)
      rw[e]
      simp only[Kk]
      show eH internal_strconv_lower _ 16 false x22 1152921504606846976 65535 false (v:Int) s.length (s.length:Int) (i:Int) (s9 s) e0 e1 e2 e3=_
      unfold eH
      rw[aV (show ¬(i:Int)<(s.length:Int) by omega),cond_false]
theorem parse4 {R:Type} {s:ah} (hs:s.length=4) (k0 k1:Int→Option R):fB s 16 16 k0 k1=match Kk s 0 with|some u=>k1 (u:Int)|none=>k0 0:=by
 show sY cQ s 16 16 k0 k1=_
 unfold sY
 show kX internal_strconv_lower bx aP s 16 16 _ _ _ _ _=_
 unfold kX
 have h1:(s==([]:ah))=false:=by rw[beq_eq_false_iff_ne]; rintro rfl; simp at hs
 rw[h1,cond_false]
 have c1:decide ((2:Int)≤16)=true:=by decide
 have c2:decide ((16:Int)≤36)=true:=by decide
 have c3:((16:Int)==0)=false:=by decide
 have c4:decide ((16:Int)<0)=false:=by decide
 have c5:decide ((16:Int)>64)=false:=by decide
 have c6:((16:Int)==10)=false:=by decide
 have c7:((16:Int)==16)=true:=by decide
 have c8:decide ((0:Int)≤IntKind.u64.wrap 16)=true:=by decide
 have c9:(IntKind.u64.wrap ((IntKind.u64.wrap (1*2 ^ (min ((IntKind.u64.wrap 16).toNat) IntKind.u64.bits))) - 1))=65535:=by decide +kernel
 dsimp only
 rw[c1,cond_true,c2,cond_true,c3,cond_false,c4,cond_false,c5,cond_false,c6,cond_false,c7,cond_true]
 rw[c8,aS rfl,c9]
 have hb:decide (s.length≤281474976710656)=true:=aB (by omega)
 have key:=fun (n:Nat) (hn:4<n) (e0:ah→Bool→Int→Option R) (e1 e2:Int→ah→Bool→Int→Option R) (e3:Int→ah→Bool→Option R)=>uint_loop (R:=R) (s:=s) (x22:=s) (by omega) e0 e1 e2 e3 n 0 0 (by omega) (by omega) (by omega)
 have z0:(((0:Nat):Int))=0:=rfl
 simp only[List.drop_zero,z0]at key
 cases hx:Kk s 0 with
 | some u =>
  simp only[hx]at key
  rw[key _ (by omega)]
  rfl
 | none =>
  simp only[hx]at key
  generalize hF:(Int.natAbs 16+List.length s+Int.natAbs 1152921504606846976+Int.natAbs 65535+Int.natAbs 0+Int.natAbs (s.length:Int)+Int.natAbs 0+List.length (s9 s)+64)=F at *
  obtain ⟨w,hw⟩:=key F (by rw[←hF]; omega) _ _ _ _
  rw[hw,aS (by rfl),hb,aS rfl]
theorem UD:∀(l:ah) (v u:Nat),Kk l v=some u→u<(v+1)*16 ^ l.length
 | [],v,u,h=>by cases h; simp
 | b::t,v,u,h=>by
  simp only[Kk]at h
  cases hx:Oq b with
  | none=>rw[hx]at h; cases h
  | some d =>
   rw[hx]at h
   have h1:=UD t _ _ h
   have hd:=Yb hx
   have h2:(16*v+d+1)*16 ^ t.length≤((v+1)*16)*16 ^ t.length:=Nat.mul_le_mul_right _ (by omega)
   rw[List.length_cons,Nat.pow_succ]
   have h3:(v+1)*16*16 ^ t.length=(v+1)*(16 ^ t.length*16):=by rw[Nat.mul_assoc,Nat.mul_comm 16]
   omega
theorem Z1:∀(l:ah) (v u:Nat),Kk l v=some u→∀b∈l,(Oq b).isSome=true
 | [],v,u,h=>by simp
 | b::t,v,u,h=>by
  simp only[Kk]at h
  cases hx:Oq b with
  | none=>rw[hx]at h; cases h
  | some d =>
   rw[hx]at h
   intro c hc
   rcases List.mem_cons.1 hc with rfl|hc
   ·rw[hx]; rfl
   ·exact Z1 t _ _ h c hc
theorem Z2 {b:UInt8} (h:(Oq b).isSome=true):b.toNat<128∧b.toNat≠43∧b.toNat≠45∧b.toNat≠95:=by
 unfold Oq at h
 simp only at h
 revert h
 (repeat' split) <;> intro h <;> first|omega|cases h
theorem Z3 (cs:ah):∀s:ah,(∀b∈s,cs.contains b=false)→Uk s cs=false:=by
 have key:∀s:ah,(∀b∈s,cs.contains b=false)→indexAny s cs = -1:=by
  intro s
  induction s with
  | nil=>intro _; rfl
  | cons b s ih =>
   intro h
   unfold indexAny
   rw[h b (by simp)]
   have:=ih fun x hx=>h x (by simp[hx])
   simp[this]
 intro s h
 unfold Uk containsAny
 rw[key s h]
 rfl
def EP (s:ah):Option (Nat × ah):=if s.length<4 then none else match Kk (s.take 4) 0 with|some v=>some (v,s.drop 4)|none=>none
theorem Bo {s r:ah} {v:Nat} (h:EP s=some (v,r)):v<65536∧4≤s.length∧r=s.drop 4:=by
 unfold EP at h
 split at h
 ·cases h
 ·rename_i hl
  split at h
  ·rename_i u hu
   cases h
   have:=UD _ _ _ hu
   rw[List.length_take,Nat.min_eq_left (by omega)]at this
   exact ⟨by omega,by omega,rfl⟩
  ·cases h
theorem Mm {n:Nat} (h:n<1114112):IntKind.i32.wrap (n:Int)=(n:Int):=wrap32_id (by omega) (by omega)
theorem unit_ok {R:Type} (s:ah) (hs:s.length≤9000000000000000000) (k:Int→ah→Option R) :
  di s k=match EP s with|some (v,r)=>k (v:Int) r|none=>k (-1) s:=by
 show oo fB s k=_
 unfold oo
 by_cases hl:s.length<4
 ·rw[aB (show (s.length:Int)<4 by omega),cond_true]
  unfold EP
  rw[if_pos hl]
 ·rw[aV (show ¬(s.length:Int)<4 by omega),cond_false,aS (aB (by omega))]
  have h4:(s.drop 0).take (4 - 0)=s.take 4:=rfl
  rw[h4,parse4 (by rw[List.length_take]; omega)]
  unfold EP
  rw[if_neg hl]
  cases hu:Kk (s.take 4) 0 with
  | none=>rfl
  | some v =>
   have DF:=Z1 _ _ _ hu
   have hasc:xC (s.take 4)=true:=List.all_eq_true.2 fun b hb=>aB (Z2 (DF b hb)).1
   have hno:Uk (s.take 4) [43,45,95]=false:=Z3 _ _ fun b hb=>by
    obtain ⟨_,g1,g2,g3⟩:=Z2 (DF b hb)
    have e:∀x:UInt8,b.toNat≠x.toNat→(b==x)=false:=fun x hx=>by
     rw[beq_eq_false_iff_ne]; rintro rfl; exact hx rfl
    simp only[List.contains_cons,List.contains_nil,e 43 g1,e 45 g2,e 95 g3]
    rfl
   have hv:=(Bo (s:=s) (r:=s.drop 4) (v:=v) (by unfold EP; rw[if_neg hl,hu])).1
   have hb2:xC ([43,45,95]:ah)=true:=by decide
   simp only
   rw[aS (by rw[hasc,hb2,aB (show (s.take 4).length<4294967281 by rw[List.length_take]; omega)]; rfl),hno,cond_false,aS (by rw[aB (show (0:Int)≤(s.length:Int) by omega),aB (show (s.length:Int)≤s.length by omega)]; rfl),aS (aB (by omega))]
   rw[Mm (by omega),Int.toNat_natCast,List.take_of_length_le (by rw[List.length_drop]; exact Nat.le_refl _)]
def LA (s:ah):Option (Nat × ah) :=
 match EP s with
 | none=>none
 | some (v,r) =>
  if v<55296∨57344≤v then some (v,r)else if 56320≤v then none
  else if ([92,117]:ah).isPrefixOf r then
   match EP (r.drop 2)with
   | none=>none
   | some (w,r2)=>if 56320≤w∧w<57344 then some (65536+(v - 55296)*1024+(w - 56320),r2)else none
  else none
theorem shl10 (n:Nat) (h:n<1024):IntKind.i32.wrap ((n:Int)*2 ^ (min 10 IntKind.i32.bits))=((n*1024:Nat):Int):=by
 have e:(n:Int)*2 ^ (min 10 IntKind.i32.bits)=((n*1024:Nat):Int):=by
  show (n:Int)*2 ^ 10=_
  omega
 rw[e,Mm (by omega)]
theorem long_ok {R:Type} (s:ah) (hs:s.length≤9000000000000000000) (k:Int→ah→Option R) :
  match LA s with|some (c,r)=>cN s k=k (c:Int) r|none=>∃r,cN s k=k (-1) r:=by
 have e0:cN s k=oq aN di s k:=rfl
 rw[e0]
 unfold oq
 rw[unit_ok s hs]
 unfold LA
 cases hu:EP s with
 | none =>
  simp only
  exact ⟨s,by rw[aB (show (-1:Int)<55296 by omega),cond_true]⟩
 | some p =>
  obtain ⟨v,r⟩:=p
  obtain ⟨hv,hl,hr⟩:=Bo hu
  have hrl:r.length≤9000000000000000000:=by rw[hr,List.length_drop]; omega
  simp only
  by_cases h1:v<55296
  ·rw[if_pos (.inl h1),aB (show (v:Int)<55296 by omega)]
   simp only[cond_true]
  rw[aV (show ¬(v:Int)<55296 by omega),cond_false]
  by_cases h2:57344≤v
  ·rw[if_pos (.inr h2),aB (show (v:Int)≥57344 by omega)]
   simp only[cond_true]
  rw[if_neg (by omega),aV (show ¬(v:Int)≥57344 by omega),cond_false]
  by_cases h3:56320≤v
  ·rw[if_pos h3]
   exact ⟨r,by rw[aB (show (v:Int)≥56320 by omega),cond_true]⟩
  rw[if_neg h3,aV (show ¬(v:Int)≥56320 by omega),cond_false,Ta _ _ (by simp) hrl]
  cases hp:([92,117]:ah).isPrefixOf r with
  | false =>
   simp only[Bool.false_eq_true,if_false]
   exact ⟨r,rfl⟩
  | true =>
   simp only[if_true]
   have hrl2:(r.drop 2).length≤9000000000000000000:=by rw[List.length_drop]; omega
   have e2:r.drop ([92,117]:ah).length=r.drop 2:=rfl
   rw[Bool.not_true,cond_false,e2,unit_ok _ hrl2]
   cases hu2:EP (r.drop 2)with
   | none =>
    simp only
    exact ⟨r.drop 2,by rw[aB (show (-1:Int)<56320 by omega),cond_true]⟩
   | some q =>
    obtain ⟨w,r2⟩:=q
    obtain ⟨hw,VE,hr2⟩:=Bo hu2
    simp only
    by_cases h4:56320≤w∧w<57344
    ·rw[if_pos h4]
     simp only
     rw[aV (show ¬(w:Int)<56320 by omega),cond_false,aV (show ¬(w:Int)≥57344 by omega),cond_false]
     have k1:IntKind.i32.wrap ((v:Int) - 55296)=((v - 55296:Nat):Int):=by
      have:(v:Int) - 55296=((v - 55296:Nat):Int):=by omega
      rw[this,Mm (by omega)]
     rw[k1,shl10 _ (by omega)]
     have k2:IntKind.i32.wrap (65536+(((v - 55296)*1024:Nat):Int))=((65536+(v - 55296)*1024:Nat):Int):=by
      have:65536+(((v - 55296)*1024:Nat):Int)=((65536+(v - 55296)*1024:Nat):Int):=by omega
      rw[this,Mm (by omega)]
     have k3:IntKind.i32.wrap (((65536+(v - 55296)*1024:Nat):Int)+(w:Int))=((65536+(v - 55296)*1024+w:Nat):Int):=by
      have:((65536+(v - 55296)*1024:Nat):Int)+(w:Int)=((65536+(v - 55296)*1024+w:Nat):Int):=by omega
      rw[this]
      simp only[IntKind.wrap,IntKind.bits,IntKind.signed]
      simp
      omega
     have k4:IntKind.i32.wrap (((65536+(v - 55296)*1024+w:Nat):Int) - 56320)=((65536+(v - 55296)*1024+(w - 56320):Nat):Int):=by
      have:((65536+(v - 55296)*1024+w:Nat):Int) - 56320=((65536+(v - 55296)*1024+(w - 56320):Nat):Int):=by omega
      rw[this,Mm (by omega)]
     rw[k2,k3,k4]
    ·rw[if_neg h4]
     refine ⟨r2,?_⟩
     by_cases h5:w<56320
     ·rw[aB (show (w:Int)<56320 by omega),cond_true]
     ·rw[aV (show ¬(w:Int)<56320 by omega),cond_false,aB (show (w:Int)≥57344 by omega),cond_true]
def UE:ah→Option (Nat × ah)
 | []=>none
 | b::t =>
  if b.toNat=34∨b.toNat=92∨b.toNat=47 then some (b.toNat,t)else if b.toNat=98 then some (8,t)else if b.toNat=102 then some (12,t)else if b.toNat=110 then some (10,t)
  else if b.toNat=114 then some (13,t)else if b.toNat=116 then some (9,t)else if b.toNat=117 then LA t else none
theorem esc_ok {R:Type} (s:ah) (hs:s.length≤9000000000000000000) (k:Int→ah→Option R) :
  match UE s with|some (c,r)=>bn s k=k (c:Int) r|none=>∃r,bn s k=k (-1) r:=by
 have e0:bn s k=l0 cN s k:=rfl
 rw[e0]
 unfold l0
 cases s with
 | nil=>exact ⟨[],rfl⟩
 | cons b t =>
  have ju:((b::t:ah)==([]:ah))=false:=rfl
  simp only[List.length_cons]at hs
  have ht:(((b::t:ah).drop 1).take (((b::t:ah).length:Int).toNat - 1))=t:=by
   rw[Int.toNat_natCast,List.drop_succ_cons,List.drop_zero,List.length_cons,Nat.add_sub_cancel,List.take_length]
  have hg:((b::t:ah).getD 0 0).toNat=b.toNat:=rfl
  rw[ju,cond_false,aS (aB (show (0:Int)<((b::t:ah).length:Int) by simp only[List.length_cons]; omega)),
   aS (by rw[aB (show (0:Int)≤((b::t:ah).length:Int) by omega),aB (show ((b::t:ah).length:Int)≤(b::t:ah).length by omega)]; rfl),
   aS (aB (show (1:Int)≤((b::t:ah).length:Int) by simp only[List.length_cons]; omega))]
  simp only[ht,hg]
  have hb:=UInt8.toNat_lt b
  simp only[UE]
  generalize b.toNat=n at *
  have q:∀m:Nat,((n:Int)==(m:Int))=decide (n=m):=fun m=>by
   by_cases h:n=m
   ·subst h; simp
   ·have:¬((n:Int)=(m:Int)):=by omega
    simp[h,this]
  have q34:((n:Int)==34)=decide (n=34):=q 34
  have q92:((n:Int)==92)=decide (n=92):=q 92
  have q47:((n:Int)==47)=decide (n=47):=q 47
  have q98:((n:Int)==98)=decide (n=98):=q 98
  have q102:((n:Int)==102)=decide (n=102):=q 102
  have q110:((n:Int)==110)=decide (n=110):=q 110
  have q114:((n:Int)==114)=decide (n=114):=q 114
  have q116:((n:Int)==116)=decide (n=116):=q 116
  have q117:((n:Int)==117)=decide (n=117):=q 117
  simp only[q34,q92,q47,q98,q102,q110,q114,q116,q117,Mm (show n<1114112 by omega)]
  by_cases J4:n=34
  ·subst J4; simp
  by_cases WV:n=92
  ·subst WV; simp
  by_cases h47:n=47
  ·subst h47; simp
  simp only[J4,WV,h47,decide_false,cond_false,or_self,if_false]
  by_cases h98:n=98
  ·subst h98; simp
  by_cases h102:n=102
  ·subst h102; simp
  by_cases h110:n=110
  ·subst h110; simp
  by_cases h114:n=114
  ·subst h114; simp
  by_cases h116:n=116
  ·subst h116; simp
  by_cases h117:n=117
  ·subst h117
   have:=long_ok (R:=R) t (by omega) k
   simp only[decide_true,decide_false,cond_true,cond_false,if_true,show ¬((117:Nat)=98) by decide,show ¬((117:Nat)=102) by decide,show ¬((117:Nat)=110) by decide,show ¬((117:Nat)=114) by decide,show ¬((117:Nat)=116) by decide,if_false]
   exact this
  simp only[h98,h102,h110,h114,h116,h117,decide_false,cond_false,if_false]
  exact ⟨t,rfl⟩
end Go.Proofs.YtmlkkgfenfdndaaGreatDoor
end
