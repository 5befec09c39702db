/-
  FleetTells: for every input whose bulk is at most 1048576 the law returns true, and each argument reads behind the call as it read before; part 6 of 9 of the proof: an interpreter of the model's code over typed data, proved sound; the functions that the law reaches, printed as Lean functions and tied; the plain law. Own texts laid one behind the other.
-/
import Derived.Test.YtolnaonmpohciaaDoorCards
import Derived.Test.YtolnaonmpohciaaDoorTie
import Derived.Lib.LaidU8T
import Derived.Deep.DeepHandedRow
import Derived.Deep.DeepWitnessRowRef
import Derived.WalkKit
import Derived.ProofKit
import Derived.OpenShut
import Derived.Lib.ValidU
import Derived.Lib.ItoaLen
import Derived.Lib.Repeat
import Derived.Lib.AtoiAll
import Derived.Lib.IndexAny
import Derived.Lib.Bytealg
import Derived.Lib.SlTrimSet
import Derived.Lib.LastIndexByte
import Derived.Lib.ValidLaws
import Derived.Lib.MapLaws
import Derived.Lib.TrimUEq
import Derived.Lib.RuneBytes
import Derived.KernelRfl
import Derived.Sort.Grow
import Derived.Lib.ConvBytes
import Derived.Shelf.Strings.BuilderX
import Derived.Lib.ItoaMem
import Derived.Test.YtolnaonmpohciaaDoorFleetTellsB5
set_option linter.unusedSimpArgs false
set_option linter.unnecessarySimpa false
set_option linter.unusedVariables false
set_option linter.unusedSectionVars false
noncomputable section
set_option maxRecDepth 100000
namespace Go.Proofs.YtolnaonmpohciaaDoor.Door
open Go Go.Lib Go.RowKit Go.ChangeShapes Go.ad

theorem own:ownKnob Tryd.prog.godebug=none:=by kernel_rfl
theorem leaves:D0 Tryd.prog Go.Proofs.YtolnaonmpohciaaDoor.tt:=VD (by kernel_rfl)

theorem gAcc:Tryd.prog.globalNamed "unicode/utf8.acceptRanges" = some 1:=by kernel_rfl

theorem VH {n:String} {g:Nat} {W:World} {cs:Array Value} (hg:Tryd.prog.globalNamed n=some g) (h:W.var? Tryd.prog n=some cs):g<W.heap.size:=by
 unfold World.var? at h
 simp only[hg,Option.bind_some]at h
 rcases Nat.lt_or_ge g W.heap.size with h'|h'
 ·exact h'
 ·simp[Array.getElem?_eq_none h']at h

theorem Z8 {W:World} (h:laidMet Tryd.prog Rows.fleetTellsUptoRow.laid W):mZ.UB W∧∀b,mZ.blocks b→b<W.heap.size:=by
 have r0:VarReads Tryd.prog W "unicode/utf8.first" firstData:=laidMet.reads h (.tail _ (.head _))
 have r1:VarReads Tryd.prog W "unicode/utf8.acceptRanges" acceptData:=laidMet.reads h (.head _)
 have ht:Utf8Tabs 0 1 W:=utf8Tabs_of_readsT ({ Tryd.lay197 with }:U8Types Tryd.prog Tryd.Mt) ⟨by kernel_rfl,by kernel_rfl,by kernel_rfl,by kernel_rfl,by kernel_rfl,by kernel_rfl,by kernel_rfl⟩ r0 r1
 refine ⟨⟨ht,trivial⟩,fun b hb => ?_⟩
 have hb:b<2:=hb
 obtain ⟨g,t,cs,fuel,p,hg,_,hv,_⟩:=r1
 have e:(some 1:Option Nat)=some g:=gAcc.symm.trans hg
 cases e
 have l4:=VH hg hv
 omega

def I9 (os:Os):World :=
 let w0:=World.holding Tryd.prog os ⟨#[], #[], []⟩
 let put (h:Array Obj) (g:Nat) (cs:Array Value):Array Obj:=h.modify g fun
  | .cells _ t frozen => .cells cs t frozen
  | o=>o
 let h0:=put w0.heap 0 (firstTab.map fun z=>Value.int .u8 z).toArray
 let h1:=put h0 1 ((List.range 16).flatMap fun i => [Value.int .u8 (accLo i),Value.int .u8 (accHi i)]).toArray
 { w0 with heap:=h1 }

theorem Ya (os:Os) (args:Array Value):laidMet Tryd.prog Rows.fleetTellsUptoRow.laid ((I9 os).forCall (fun _ _=>0) ⟨#[],args, []⟩).memory :=
 laidMet_of_run' 8 (by kernel_rfl) (by kernel_rfl)
end Go.Proofs.YtolnaonmpohciaaDoor.Door

namespace Go.ad

theorem aJ {R:Type} {b:Bool} {k:Option R} (h:b=true):cC b k=k:=by subst h; rfl

theorem eH {n:Int} (h1 : -9223372036854775808≤n) (h2:n≤9223372036854775807):IntKind.i64.wrap n=n:=by
 simp only[IntKind.wrap,IntKind.bits,IntKind.signed,IntKind.min,IntKind.max]
 simp
 omega

theorem getD_at {α:Type} {l:List α} {i:Nat} (h:i<l.length) (d:α):l.getD i d=l[i]:=by simp[List.getD,h]
end Go.ad

namespace Go.Proofs.YtolnaonmpohciaaDoor.Pu
open Go Go.ad

def Td (x:Json):Prop:=∀c∈Ty.cells .json x,Small 1099511627776 c

theorem Td.text {x:Json} (h:Td x):x.text.length≤1099511627776:=(h (.str x.text) (by simp[Ty.cells])).mG
theorem Td.names {x:Json} (h:Td x):x.names.length≤1099511627776:=(h (.sl .str x.names .no) (by simp[Ty.cells])).Bt.1
theorem Td.items {x:Json} (h:Td x):x.items.length≤1099511627776:=(h (.sl .json x.items .no) (by simp[Ty.cells])).Bt.1
theorem Ff {R:Type} {a b:Option R} (h:a=b):IU a b=b:=by subst h; unfold IU; rw[if_pos rfl]

end Go.Proofs.YtolnaonmpohciaaDoor.Pu

namespace Go.ad
open Go.RowKit

section
variable {P:Program} {tt:ca} {w w':World} {h h':ai} {c c':eT} {R:Type}

theorem Ja (hb:Below w.heap.size w w'):Ext w h c w' h c where
 os:=hb.os
 tape:=hb.tape
 output:=hb.output
 size:=hb.size
 used:=fun _ hi=>hi
 same:=fun i hi hd=>⟨Ac (E7 hi.2 hd) (fun _ _ _ => .inr trivial),rfl,rfl⟩
 cell:=fun b x hx _=>qy (hb.block b hx)
 block:=fun b hx _=>hb.block b hx
 tp:=fun _ _ _ ho=>ho
 ext:=rfl
 arr:=fun b arr e fz hx=>⟨arr,fz,by rw[hb.block b (uF hx)]; exact hx,rfl⟩

theorem Yb (wf:WF w h c) (hb:Below w.heap.size w w'):WF w' h c where
 uU:=wf.uU
 la:=fun b x he=>Nat.lt_of_lt_of_le (wf.la b x he) hb.size
 obj:=fun i hi=>by
  by_cases hl:(h.at i).live
  ·exact (wf.obj i hi).pP (Ja hb) (fun b k9=>hb.block b ((wf.obj i hi).lt hl k9)) rfl rfl
  ·have h0:h.at i = .free∨h.at i = .dead:=by revert hl; cases h.at i <;> simp[aP.live]
   rcases h0 with h0|h0 <;> rw[h0] <;> trivial
 inj:=wf.inj
 lay:=wf.nz (Ja hb)

theorem Te {g:Nat} {fn:Func} (hf:P.funcs[g]? = some fn) (hn:(fn.name == "runtime.NumGoroutine")=false) (hb:fn.body.isNone=false) {args:Array Value} {Q:Value→World→Prop}
  (h:Calls P g args w fun e w'=>∃d,e = .returned d∧Q d w'):rq P g args w Q:=by
 refine ⟨.enter g args,w,?_,h⟩
 have Wg:fn.name ≠ "runtime.NumGoroutine" :=by simpa using hn
 have k9:fn.body≠none:=fun e=>by rw[e]at hb; cases hb
 simp[callFunc,hf,Wg,k9]

theorem Tf {g:Nat} {fn:Func} (hf:P.funcs[g]? = some fn) (hn:(fn.name == "runtime.NumGoroutine")=false) (hb:fn.body.isNone=false) {sp:Spec R}
  (hs:∀vs hp k r,sp vs hp k=some r→∀(w:World) (c:eT) (args:Array Value),WF w hp c→bl w hp c vs args.toList →
   ∃v,k v hp=some r∧Calls P g args w fun e w'=>∃d,e = .returned d∧Below w.heap.size w w'∧cd w' hp c v d):Spec.Ok P g sp:=by
 intro vs hp k r hk w c args wf ra
 obtain ⟨v,hv,hc⟩:=hs vs hp k r hk w c args wf ra
 refine Te hf hn hb (Calls.mono hc ?_)
 rintro e w' ⟨d,he,hbl,hr⟩
 exact ⟨d,he,v,hp,c,Yb wf hbl,Ja hbl,hr,hv⟩

theorem repL2 {u v:V} {args:Array Value} (ra:bl w h c [u,v] args.toList):∃d e,args = #[d,e]∧cd w h c u d∧cd w h c v e:=by
 obtain ⟨l⟩:=args
 match l,ra with
 | [d,e],ra=>exact ⟨d,e,rfl,ra.head,ra.tail.head⟩
 | [],ra=>have:=ra.1; simp at this
 | [_],ra=>have:=ra.1; simp at this
 | _::_::_::_,ra=>have:=ra.1; simp at this
end

section
variable {P:Program} {tt:ca} {w w':World} {h h':ai} {c c':eT} {R:Type}

structure StringDoes (P:Program) (g:Nat):Prop where
 nil:∀(b:Nat) (p:Value) (w:World),w.heap[b]? = some (.cells #[p, .slice none 0 0] mZ.qV (0,0)) →
  Calls P g #[.pointer (some ⟨b,0,none⟩)] w fun e w'=>e = .returned (.string ⟨#[]⟩)∧Below w.heap.size w w'
 noroom:∀(b q:Nat) (p:Value) (cur:Array Value) (fz:Nat×Nat) (w:World),w.heap[b]? = some (.cells #[p, .slice (some ⟨q,0,none⟩) 0 0] mZ.qV (0,0))→w.heap[q]? = some (.cells cur mZ.u8 fz) →
  Calls P g #[.pointer (some ⟨b,0,none⟩)] w fun e w'=>e = .returned (.string ⟨#[]⟩)∧Below w.heap.size w w'
 room:∀(b q cap:Nat) (p:Value) (w:World),cap≠0→w.heap[b]? = some (.cells #[p, .slice (some ⟨q,0,none⟩) 0 cap] mZ.qV (0,0)) →
  Calls P g #[.pointer (some ⟨b,0,none⟩)] w fun e w'=>e = .returned (.string ⟨#[]⟩)∧Below w.heap.size w w'
 some:∀(b q cap:Nat) (p:Value) (cur:Array Value) (fz:Nat×Nat) (l:List UInt8) (w:World),l ≠ []→w.heap[b]? = some (.cells #[p, .slice (some ⟨q,0,none⟩) l.length cap] mZ.qV (0,0)) →
  w.heap[q]? = some (.cells cur mZ.u8 fz)→l.length≤cap→cap≤mx→l.length≤cur.size→(∀(j:Nat) (x:UInt8),l[j]? = some x→w.cell? ⟨q,j,none⟩=some (.int .u8 x.toNat)) →
  Calls P g #[.pointer (some ⟨b,0,none⟩)] w fun e w'=>e = .returned (.string ⟨l.toArray⟩)∧w'=w.drew.freeze ⟨q,0,none⟩ l.length

end

def Yc (s:aA):Bool:=s.all fun b=>decide (b.toNat<128)
def PV (s:aA):Bool:=Go.Lib.validD s
def og (s cs:aA):aA:=s.dropWhile (cs.contains ·)
def Ui (s cs:aA):aA:=(s.reverse.dropWhile (cs.contains ·)).reverse
section
variable (R:Type)
def PW:Spec R:=fun vs h k=>match vs with | [.str s, .str cs]=>cC (Yc cs&&decide (cs.length<4294967281)) (k (.str (og s cs)) h)|_=>none
end

section
variable {P:Program} {w w':World} {h:ai} {c:eT} {R:Type}
open Go.Lib

theorem Z9 {s:aA} (hs:Yc s=true):∀(j:Nat) (b:UInt8),s[j]? = some b→b.toNat<128:=by
 intro j b hb
 have:=List.all_eq_true.1 hs b (List.mem_of_getElem? hb)
 simpa using this

theorem Uj (p:UInt8→Bool):∀s:aA,(s.dropWhile p).length≤s.length
 | []=>Nat.le_refl _
 | b::s=>by
  rw[List.dropWhile_cons]
  split
  ·have:=Uj p s; simp; omega
  ·exact Nat.le_refl _

theorem str_of (l:aA) (h':l.length≤mx):cd w h c (.str l) (.string ⟨l.toArray⟩):=Br _ rfl h'

theorem Mu {g:Nat} {args:Array Value} {Q:Ending→World→Prop} {v:V} (hc:Calls P g args w Q)
  (hq:∀e w',Q e w'→∃d,e = .returned d∧Below w.heap.size w w'∧cd w' h c v d):Calls P g args w fun e w'=>∃d,e = .returned d∧Below w.heap.size w w'∧cd w' h c v d:=Calls.mono hc fun e w' q=>hq e w' q

end
end Go.ad

set_option maxRecDepth 100000
namespace Go.ad
open Go.Lib

def vr (c:Nat):Prop:=c<55296∨(57344≤c∧c≤1114111)
instance (c:Nat):Decidable (vr c):=inferInstanceAs (Decidable (_∨_))

def enc (c:Nat):aA:=encodeRune (c:Int)

theorem Tg (n:Nat) (h:n<256):(UInt8.ofNat n).toNat=n:=by
 simp only[UInt8.toNat_ofNat']
 omega

def good (l:aA):Prop:=¬((decodeL l).1=65533∧(decodeL l).2=1)
instance (l:aA):Decidable (good l):=inferInstanceAs (Decidable (¬_))

theorem Rr {s t:aA} {i:Nat} (h:i<s.length):(s++t).getD i 0=s.getD i 0:=by
 simp[List.getD,List.getElem?_append_left h]
end Go.ad

set_option maxRecDepth 100000
namespace Go.Proofs.YtolnaonmpohciaaDoor
open Go Go.ad

def D1 (n:Int):Prop := -9223372036854775808≤n∧n≤9223372036854775807
theorem rA {n:Int}:IntKind.i64.has n↔D1 n:=by
 unfold IntKind.has D1
 simp only[IntKind.min,IntKind.max,IntKind.bits,IntKind.signed]
 simp

theorem au {p:Prop} [Decidable p] (h:p):decide p=true:=decide_eq_true h
theorem az {p:Prop} [Decidable p] (h:¬p):decide p=false:=decide_eq_false h

end Go.Proofs.YtolnaonmpohciaaDoor

namespace Go.Proofs.YtolnaonmpohciaaDoor.Pu
open Go Go.ad

theorem jok_mk {k m e:Int} {t:aA} {ns:List aA} {xs:List Json} (hk:D1 k) (hm:D1 m) (he:D1 e) (ht:t.length≤1099511627776) (hn:ns.length≤1099511627776) (PO:∀s∈ns,s.length≤1099511627776) (hx:xs.length≤1099511627776) (hxs:∀y∈xs,Td y) :
  Td ⟨k,⟨m,e⟩,t,ns,xs⟩:=by
 intro c hc
 simp only[Ty.cells,List.mem_cons,List.not_mem_nil,or_false]at hc
 rcases hc with rfl|rfl|rfl|rfl|rfl|rfl
 ·exact .int (rA.2 hk)
 ·exact .int (rA.2 hm)
 ·exact .int (rA.2 he)
 ·exact .str ht
 ·exact .sl hn fun s hs v hv=>by
   simp only[Ty.cells,List.mem_singleton]at hv
   subst hv
   exact .str (PO s hs)
 ·exact .sl hx fun y hy v hv=>hxs y hy v hv

def mk:List aA→List Json→List aA→List Json→List aA×List Json
 | n::ns,x::xs,a,b=>if a.contains n then mk ns xs a b else mk ns xs (a ++ [n]) (b ++ [x])
 | [],_,a,b=>(a,b)
 | _::_, [],a,b=>(a,b)


theorem Td.iL {x:Json} (h:Td x):D1 x.num.iL:=rA.1 (h (.int .i64 x.num.iL) (by simp[Ty.cells])).gd
theorem Td.exp {x:Json} (h:Td x):D1 x.num.exp:=rA.1 (h (.int .i64 x.num.exp) (by simp[Ty.cells])).gd


end Go.Proofs.YtolnaonmpohciaaDoor.Pu

set_option maxRecDepth 100000
namespace Go.Proofs.YtolnaonmpohciaaDoor
open Go Go.ad
end Go.Proofs.YtolnaonmpohciaaDoor

namespace Go.Proofs.YtolnaonmpohciaaDoor
open Go Go.ad

end Go.Proofs.YtolnaonmpohciaaDoor

set_option maxRecDepth 100000
namespace Go.Proofs.YtolnaonmpohciaaDoor
open Go Go.ad

def mkD (u x:Int):Bi×Bool:=if -1000000000000000≤u∧u≤1000000000000000 ∧ -9≤x∧x≤9 then (⟨u,x⟩,true)else (⟨0,0⟩,false)

end Go.Proofs.YtolnaonmpohciaaDoor

set_option maxRecDepth 100000
namespace Go.Proofs.YtolnaonmpohciaaDoor
open Go Go.ad Go.RowKit Go.Shelf

section
variable {w w':World} {h:ai} {c:eT} {R:Type}

theorem Yd (s cs:aA):(og s cs).length≤s.length:=Uj _ s
theorem VI (s:aA):og s []=s:=by
 unfold og
 cases s with
 | nil=>rfl
 | cons b s=>simp
theorem VJ (s:aA) (b:UInt8):og s [b]=Go.Lib.trimLeftB s b:=by
 unfold og Go.Lib.trimLeftB
 congr 1
 funext x
 rw[List.contains_cons]
 show (x==b||false)=_
 rw[Bool.or_false]
theorem Ye:ad.Spec.Ok Tryd.prog 64 (PW R):=by
 refine Tf Tryd.func64 rfl rfl fun vs hp k r hk w c args wf ra => ?_
 unfold PW at hk
 split at hk <;> try (first|cases hk)
 rename_i s cs
 obtain ⟨hc,hk⟩:=aV hk
 simp only[Bool.and_eq_true,decide_eq_true_eq]at hc
 obtain ⟨ha,GD⟩:=hc
 obtain ⟨a,b,rfl,r1,r2⟩:=repL2 ra
 obtain ⟨t,rfl,rfl,hl⟩:=r1.mG
 obtain ⟨u,rfl,rfl,R2⟩:=r2.mG
 rw[size_data]at GD
 have hasc:=Z9 ha
 have hle:=Yd t.data.toList u.data.toList
 rw[size_data]at hle
 have fin:∀(l:aA),l=og t.data.toList u.data.toList→∀w':World,cd w' hp c (.str (og t.data.toList u.data.toList)) (.string ⟨l.toArray⟩):=fun l e w'=>by
  rw[e]; exact str_of _ (by omega)
 by_cases h0:t.size=0∨u.size=0
 ·refine ⟨_,hk,Mu (Any.strings_TrimLeft_empty Tryd.Tc t u w h0) ?_⟩
  rintro e w' ⟨he,rfl⟩
  have e2:(⟨t.data.toList.toArray⟩:ByteArray)=t:=wq rfl
  rw[←e2]at he
  refine ⟨_,he,Below.refl _ _,fin _ ?_ _⟩
  rcases h0 with h0|h0
  ·have:t.data.toList = []:=List.eq_nil_of_length_eq_zero (by rw[size_data]; exact h0)
   rw[this]; unfold og; simp
  ·have:u.data.toList = []:=List.eq_nil_of_length_eq_zero (by rw[size_data]; exact h0)
   rw[this,VI]
 ·have hu1:u.size=1∨2≤u.size:=by omega
  rcases hu1 with hu1|hu2
  ·obtain ⟨b,hb⟩:∃b,u.data.toList = [b]:=by
    have hul:u.data.toList.length=1:=by rw[size_data]; exact hu1
    match hq:u.data.toList,hul with
    | [b],_=>exact ⟨b,rfl⟩
   have eu:u=⟨#[b]⟩:=wq (by rw[hb])
   subst eu
   refine ⟨_,hk,Mu (Any.strings_TrimLeft_one Tryd.Tc t b (hasc 0 b rfl) w) ?_⟩
   rintro e w' ⟨he,rfl⟩
   exact ⟨_,he,Below.refl _ _,fin _ (VJ _ _).symm _⟩
  ·refine ⟨_,hk,Mu (Any.strings_TrimLeft_set Tryd.Tc Tryd.zeroValue97 (by kernel_rfl) t u w hu2 (by omega) (by omega) hasc) ?_⟩
   rintro e w' ⟨he,rfl⟩
   refine ⟨_,he,?_,fin _ rfl _⟩
   exact ((Below.refl _ _).alloc (Nat.le_refl _) _).alloc (by simp) _

end
end Go.Proofs.YtolnaonmpohciaaDoor

/-
 Functions of the program as pure Lean functions, and the ties; printed by wip/tools/emit.py.
-/
set_option maxRecDepth 100000
namespace Go.Proofs.YtolnaonmpohciaaDoor
open Go Go.ad
variable {R:Type}

/-! ### humpyard/fleet.Begin -/
abbrev m6 (R:Type):Type:=aA→Int→(ad.bN→Option R)→Option R
abbrev yB:List cu := [.leaf (.str), .leaf (.int .i64)]
abbrev yC:List aw := []
def D2 (fn:m6 R):mY R yB yC:=fun x y k=>fn x.1 x.2.1 (fun q0=>k (.agg [.str q0.ae, .int .i64 q0.header, .int .i64 q0.order, .int .i64 q0.update, .int .i64 q0.aX, .int .i64 q0.seen, .sl (.int .i64) q0.path .no, .int .i64 q0.seq, .bool q0.open_, .int .i64 q0.rel, .bool q0.wait, .int .i64 q0.pending.header, .str q0.pending.ae, .int .i64 q0.pending.order, .int .i64 q0.pending.update, .sl .stop q0.pending.nodes .no, .sl .dt q0.pending.af .no]) [])
def yD (fn:m6 R):=bx yB yC (D2 fn)
section
def yE (x1:aA) (x2:Int) (k0:ad.bN→Option R):Option R :=
 k0 (⟨x1,0,0,0,0,0,([x2]:List Int),0,false,0,false,⟨0,([]:aA),0,0,([]:List Stop),([]:List ad.Way)⟩⟩:ad.bN)
theorem Mv:dT (R:=R) tt [] xo false Tryd.f21 yB yC (D2 yE):=fun x y k=>by kernel_rfl
end
def bG:m6 R:=fun x1 x2 k0=>yE x1 x2 k0
theorem Ah (R:Type):mW Tryd.prog 21 (yD (bG (R:=R))):=bL TT mixed .n rfl rfl rfl rfl de (Mv)

/-! ### slices.Clone[[]int,int] -/
abbrev fq (R:Type):Type:=(List Int)→((List Int)→Option R)→Option R
abbrev lY:List cu := [.leaf (.sl (.int .i64))]
abbrev lZ:List aw := []
def rB (fn:fq R):mY R lY lZ:=fun x y k=>fn x.1 (fun q0=>k (.sl (.int .i64) q0 .no) [])
def l0 (fn:fq R):=bx lY lZ (rB fn)
section
def tB (x1:List Int) (k0:(List Int)→Option R):Option R :=
 bif x1.isEmpty then (IU (k0 ([]:List Int)) (cC (decide ((0+x1.length)*8≤140737488355328)) (k0 ((([]:List Int):List Int)++(x1:List Int)))))else (cC (decide ((0+x1.length)*8≤140737488355328)) (k0 ((([]:List Int):List Int)++(x1:List Int))))
theorem BH:dT (R:=R) tt [] xo false Tryd.f27 lY lZ (rB tB):=fun x y k=>by kernel_rfl
end
def bj:fq R:=fun x1 k0=>tB x1 k0
theorem pb (R:Type):mW Tryd.prog 27 (l0 (bj (R:=R))):=bL TT mixed .n rfl rfl rfl rfl de (BH)

/-! ### slices.Clone[[]humpyard/api.Stop,humpyard/api.Stop] -/
abbrev gf (R:Type):Type:=(List Stop)→((List Stop)→Option R)→Option R
abbrev kq:List cu := [.leaf (.sl .stop)]
abbrev kr:List aw := []
def pc (fn:gf R):mY R kq kr:=fun x y k=>fn x.1 (fun q0=>k (.sl .stop q0 .no) [])
def qB (fn:gf R):=bx kq kr (pc fn)
section
def qC (x1:List Stop) (k0:(List Stop)→Option R):Option R :=
 bif x1.isEmpty then (IU (k0 ([]:List Stop)) (cC (decide ((0+x1.length)*24≤140737488355328)) (k0 (([]:List Stop)++x1))))else (cC (decide ((0+x1.length)*24≤140737488355328)) (k0 (([]:List Stop)++x1)))
theorem yF:dT (R:=R) tt [] xo false Tryd.f50 kq kr (pc qC):=fun x y k=>by kernel_rfl
end
def cK:gf R:=fun x1 k0=>qC x1 k0
theorem wA (R:Type):mW Tryd.prog 50 (qB (cK (R:=R))):=bL TT mixed .n rfl rfl rfl rfl de (yF)

/-! ### slices.Clone[[]humpyard/api.Way,humpyard/api.Way] -/
abbrev gZ (R:Type):Type:=(List ad.Way)→((List ad.Way)→Option R)→Option R
abbrev l6:List cu := [.leaf (.sl .dt)]
abbrev l7:List aw := []
def rC (fn:gZ R):mY R l6 l7:=fun x y k=>fn x.1 (fun q0=>k (.sl .dt q0 .no) [])
def tC (fn:gZ R):=bx l6 l7 (rC fn)
section
def tD (x1:List ad.Way) (k0:(List ad.Way)→Option R):Option R :=
 bif x1.isEmpty then (IU (k0 ([]:List ad.Way)) (cC (decide ((0+x1.length)*24≤140737488355328)) (k0 (([]:List ad.Way)++x1))))else (cC (decide ((0+x1.length)*24≤140737488355328)) (k0 (([]:List ad.Way)++x1)))
theorem BI:dT (R:=R) tt [] xo false Tryd.f51 l6 l7 (rC tD):=fun x y k=>by kernel_rfl
end
def c7:gZ R:=fun x1 k0=>tD x1 k0
theorem yG (R:Type):mW Tryd.prog 51 (tC (c7 (R:=R))):=bL TT mixed .n rfl rfl rfl rfl de (BI)

/-! ### humpyard/fleet.fresh -/
abbrev m7 (R:Type):Type:=Order→(Order→Option R)→Option R
abbrev yH:List cu := [.agg [.int .i64, .str, .int .i64, .int .i64, .sl .stop, .sl .dt]]
abbrev yI:List aw := []
def D3 (fn:m7 R):mY R yH yI:=fun x y k=>fn (⟨x.1.1,x.1.2.1,x.1.2.2.1,x.1.2.2.2.1,x.1.2.2.2.2.1,x.1.2.2.2.2.2.1⟩:Order) (fun q0=>k (.agg [.int .i64 q0.header, .str q0.ae, .int .i64 q0.order, .int .i64 q0.update, .sl .stop q0.nodes .no, .sl .dt q0.af .no]) [])
def yJ (fn:m7 R):=bx yH yI (D3 fn)
section
variable (cK:gf R) (c7:gZ R)
def FN:List (xm R) := [(50,true,(qB cK aL)),(51,true,(tC c7 aL))]
def yK (x1:Order) (k0:Order→Option R):Option R :=
 cK x1.nodes (fun y2=>c7 x1.af (fun y3=>k0 (⟨x1.header,x1.ae,x1.order,x1.update,y2,y3⟩:Order)))
theorem Mw:dT (R:=R) tt (FN cK c7) xo false Tryd.f35 yH yI (D3 (yK cK c7)):=fun x y k=>by kernel_rfl
end
theorem Kz:dG (R:=R) Tryd.prog (FN (R:=R) cK c7) := .c (wA R) <| .c (yG R) <| .n
def cS:m7 R:=fun x1 k0=>yK cK c7 x1 k0
theorem Ai (R:Type):mW Tryd.prog 35 (yJ (cS (R:=R))):=bL TT mixed (Kz (R:=R)) rfl rfl rfl rfl de (Mw cK c7)

/-! ### humpyard/fleet.own -/
abbrev nE (R:Type):Type:=ad.bN→(ad.bN→Option R)→Option R
abbrev D4:List cu := [.agg [.str, .int .i64, .int .i64, .int .i64, .int .i64, .int .i64, .sl (.int .i64), .int .i64, .bool, .int .i64, .bool, .int .i64, .str, .int .i64, .int .i64, .sl .stop, .sl .dt]]
abbrev D5:List aw := []
def HC (fn:nE R):mY R D4 D5:=fun x y k=>fn (⟨x.1.1,x.1.2.1,x.1.2.2.1,x.1.2.2.2.1,x.1.2.2.2.2.1,x.1.2.2.2.2.2.1,x.1.2.2.2.2.2.2.1,x.1.2.2.2.2.2.2.2.1,(t8 x.1).1,(t8 x.1).2.1,(t8 x.1).2.2.1,⟨(t8 x.1).2.2.2.1,(t8 x.1).2.2.2.2.1,(t8 x.1).2.2.2.2.2.1,(t8 x.1).2.2.2.2.2.2.1,(t8 x.1).2.2.2.2.2.2.2.1,(t8 (t8 x.1)).1⟩⟩:ad.bN) (fun q0=>k (.ptr 0 0) [.cells [.str q0.ae, .int .i64 q0.header, .int .i64 q0.order, .int .i64 q0.update, .int .i64 q0.aX, .int .i64 q0.seen, .sl (.int .i64) q0.path .no, .int .i64 q0.seq, .bool q0.open_, .int .i64 q0.rel, .bool q0.wait, .int .i64 q0.pending.header, .str q0.pending.ae, .int .i64 q0.pending.order, .int .i64 q0.pending.update, .sl .stop q0.pending.nodes .no, .sl .dt q0.pending.af .no]])
def xP (fn:nE R):=bx D4 D5 (HC fn)
section
variable (cS:m7 R) (bj:fq R)
def J6:List (xm R) := [(35,true,(yJ cS aL)),(27,true,(l0 bj aL))]
def D6 (x1:ad.bN) (k0:ad.bN→Option R):Option R :=
 bj x1.path (fun y2=>cS x1.pending (fun y3=>k0 (⟨x1.ae,x1.header,x1.order,x1.update,x1.aX,x1.seen,y2,x1.seq,x1.open_,x1.rel,x1.wait,⟨y3.header,y3.ae,y3.order,y3.update,y3.nodes,y3.af⟩⟩:ad.bN)))
theorem PX:dT (R:=R) tt (J6 cS bj) xo false Tryd.f25 D4 D5 (HC (D6 cS bj)):=fun x y k=>by kernel_rfl
end
theorem NM:dG (R:=R) Tryd.prog (J6 (R:=R) cS bj) := .c (Ai R) <| .c (pb R) <| .n
def bP:nE R:=fun x1 k0=>D6 cS bj x1 k0
theorem wB (R:Type):mW Tryd.prog 25 (xP (bP (R:=R))):=bL TT mixed (NM (R:=R)) rfl rfl rfl rfl de (PX cS bj)

/-! ### humpyard/fleet.Idle -/
abbrev lT (R:Type):Type:=ad.bN→(Bool→Option R)→Option R
abbrev BJ:List cu := [.agg [.str, .int .i64, .int .i64, .int .i64, .int .i64, .int .i64, .sl (.int .i64), .int .i64, .bool, .int .i64, .bool, .int .i64, .str, .int .i64, .int .i64, .sl .stop, .sl .dt]]
abbrev BK:List aw := []
def FO (fn:lT R):mY R BJ BK:=fun x y k=>fn (⟨x.1.1,x.1.2.1,x.1.2.2.1,x.1.2.2.2.1,x.1.2.2.2.2.1,x.1.2.2.2.2.2.1,x.1.2.2.2.2.2.2.1,x.1.2.2.2.2.2.2.2.1,(t8 x.1).1,(t8 x.1).2.1,(t8 x.1).2.2.1,⟨(t8 x.1).2.2.2.1,(t8 x.1).2.2.2.2.1,(t8 x.1).2.2.2.2.2.1,(t8 x.1).2.2.2.2.2.2.1,(t8 x.1).2.2.2.2.2.2.2.1,(t8 (t8 x.1)).1⟩⟩:ad.bN) (fun q0=>k (.bool q0) [])
def vQ (fn:lT R):=bx BJ BK (FO fn)
section
def BL (x1:ad.bN) (k0:Bool→Option R):Option R :=
 bif ((x1.path.length:Int)==1)then (k0 (!x1.wait))else (k0 false)
theorem NN:dT (R:=R) tt [] xo false Tryd.f12 BJ BK (FO BL):=fun x y k=>by kernel_rfl
end
def aM:lT R:=fun x1 k0=>BL x1 k0
theorem vh (R:Type):mW Tryd.prog 12 (vQ (aM (R:=R))):=bL TT mixed .n rfl rfl rfl rfl de (NN)

/-! ### humpyard/fleet.isPath -/
abbrev lI (R:Type):Type:=(List Int)→(Bool→Option R)→Option R
abbrev wC:List cu := [.leaf (.sl (.int .i64))]
abbrev wD:List aw := []
def De (fn:lI R):mY R wC wD:=fun x y k=>fn x.1 (fun q0=>k (.bool q0) [])
def wE (fn:lI R):=bx wC wD (De fn)
abbrev oI (R:Type):Type:=Nat→(List Int)→(List Int)→Int→Int→((List Int)→Option R)→((List Int)→Bool→Option R)→Option R
def ll:Hint := { live := [0,5,6,7],own := [],rows := [],cells := [],drop := [],out := [0,2] }
abbrev fU:Type:=(List Int)×(List Int)×Int×Int
def m8:fU→St:=fun d=>⟨.sl (.int .i64) d.1 .no::U 4 (.sl (.int .i64) d.2.1 .no :: .int .i64 d.2.2.1 :: .int .i64 d.2.2.2::U 19 ([])), []⟩
def oJ (K:Ex→St→Option R) (q0:List Int):Option R:=K (.exit 0) ⟨.sl (.int .i64) q0 .no::U 26 ([]), []⟩
def oK (K:Ex→St→Option R) (q0:List Int) (q1:Bool):Option R:=K (.ret) ⟨.sl (.int .i64) q0 .no :: .undef :: .bool q1::U 24 ([]), []⟩
abbrev iP:List cu := .leaf (.sl (.int .i64))::PU 4 (.leaf (.sl (.int .i64)) :: .leaf (.int .i64) :: .leaf (.int .i64)::PU 19 ([]))
abbrev iQ:List aw := []
def wF (x:cu.aQ iP) (y:aw.aQ iQ):Nat:=(List.length x.1+List.length x.2.2.2.2.2.1+Int.natAbs x.2.2.2.2.2.2.1+Int.natAbs x.2.2.2.2.2.2.2.1+64)
def GQ (x:cu.aQ iP) (y:aw.aQ iQ):fU:=(x.1,x.2.2.2.2.2.1,x.2.2.2.2.2.2.1,x.2.2.2.2.2.2.2.1)
def vC (L:oI R):nD R iP iQ:=fun x y K=>L (wF x y) x.1 x.2.2.2.2.2.1 x.2.2.2.2.2.2.1 x.2.2.2.2.2.2.2.1 (oJ K) (oK K)
section
variable (bH:oI R)
def ln (bS:(List Int)→(List Int)→Int→Int→Option R) (x2:List Int) (x3:List Int) (x4:Int) (x5:Int) (e0:(List Int)→Option R) (e1:(List Int)→Bool→Option R):Option R :=
 bif (decide (x5<x4))then (cC (decide ((0:Int)≤x5)&&decide (x5<x3.length)) (bif (decide ((x3.getD x5.toNat (Ty.aC (.int .i64)))<(0:Int)))then (e1 x2 false)else (bif (!((decide ((x3.getD x5.toNat (Ty.aC (.int .i64)))≥(1000:Int)))==((Int.tmod x5 2)==1)))then (e1 x2 false)else (bS x2 x3 x4 (IntKind.i64.wrap (x5+1))))))else (e0 x2)
def wG (K:Ex→St→Option R) (rc:fU→Option R) (d:fU):Option R:=ln (fun z0 z1 z2 z3=>rc (z0,z1,z2,z3)) d.1 d.2.1 d.2.2.1 d.2.2.2 (oJ K) (oK K)
def m9:Nat→Option (Hint×bO R):=fun i=>match i with
 | 2=>some (ll,(bF iP iQ (vC bH) dZ))
 | _=>none
theorem DF (K:Ex→St→Option R) (rc:St→Option R) (d:fU):roundOf tt (bQ []) (m9 bH) 0 ((ah (ar Tryd.f26)).getD 0 .skip) ll (m8 d) rc K=wG K (fun d=>rc (m8 d)) d:=by kernel_rfl
def wH (x1:List Int) (k0:Bool→Option R):Option R :=
 bH (List.length x1+List.length x1+Int.natAbs (x1.length:Int)+Int.natAbs 0+64) x1 x1 (x1.length:Int) 0 (fun y7=>k0 ((Int.tmod (y7.length:Int) 2)==1)) (fun y8 y9=>k0 y9)
theorem KA:dT (R:=R) tt [] (m9 bH) false Tryd.f26 wC wD (De (wH bH)):=fun x y k=>by kernel_rfl
end
def bH:oI R
 | 0,_,_,_,_,_,_=>none
 | n+1,eE,eF,eR,jZ,e0,e1=>ln (fun eE eF eR jZ=>bH n eE eF eR jZ e0 e1) eE eF eR jZ e0 e1
def wI (K:Ex→St→Option R) (n:Nat) (d:fU):Option R:=bH n d.1 d.2.1 d.2.2.1 d.2.2.2 (oJ K) (oK K)
theorem Fj (other:bO R) (ho:dK tt (bQ []) (m9 (R:=R) bH) 0 ((ah (ar Tryd.f26)).getD 0 .skip) ll other):dK tt (bQ []) (m9 (R:=R) bH) 0 ((ah (ar Tryd.f26)).getD 0 .skip) ll (bF iP iQ (vC (bH)) other) :=
 bM (A:=wI) ho (cI m8 (wG) (wI) (fun _ _=>by kernel_rfl) (DF bH) (fun _ _ _=>by kernel_rfl)) wF GQ (fun _ _=>by kernel_rfl) (fun _ _ _=>by kernel_rfl)
def cR:lI R:=fun x1 k0=>wH bH x1 k0
theorem GR (R:Type):∀a∈ah (ar Tryd.f26),dY tt (bQ []) (m9 (R:=R) bH) 0 a:=by
 refine dx 1 (by kernel_rfl) fun i hi => ?_
 match i,hi with
 | 0,_=>exact bw (by kernel_rfl) (Fj _ cj)
 | n+1,hi=>omega
theorem xQ (R:Type):mW Tryd.prog 26 (wE (cR (R:=R))):=bL TT mixed .n rfl rfl rfl rfl (GR R) (KA bH)

/-! ### humpyard/fleet.Plan -/
abbrev pd (R:Type):Type:=ad.bN→(List Int)→(ad.bN→Bool→Option R)→Option R
abbrev BM:List cu := [.agg [.str, .int .i64, .int .i64, .int .i64, .int .i64, .int .i64, .sl (.int .i64), .int .i64, .bool, .int .i64, .bool, .int .i64, .str, .int .i64, .int .i64, .sl .stop, .sl .dt], .leaf (.sl (.int .i64))]
abbrev BN:List aw := []
def FP (fn:pd R):mY R BM BN:=fun x y k=>fn (⟨x.1.1,x.1.2.1,x.1.2.2.1,x.1.2.2.2.1,x.1.2.2.2.2.1,x.1.2.2.2.2.2.1,x.1.2.2.2.2.2.2.1,x.1.2.2.2.2.2.2.2.1,(t8 x.1).1,(t8 x.1).2.1,(t8 x.1).2.2.1,⟨(t8 x.1).2.2.2.1,(t8 x.1).2.2.2.2.1,(t8 x.1).2.2.2.2.2.1,(t8 x.1).2.2.2.2.2.2.1,(t8 x.1).2.2.2.2.2.2.2.1,(t8 (t8 x.1)).1⟩⟩:ad.bN) x.2.1 (fun q0 q1=>k (.tuple [.agg [.str q0.ae, .int .i64 q0.header, .int .i64 q0.order, .int .i64 q0.update, .int .i64 q0.aX, .int .i64 q0.seen, .sl (.int .i64) q0.path .no, .int .i64 q0.seq, .bool q0.open_, .int .i64 q0.rel, .bool q0.wait, .int .i64 q0.pending.header, .str q0.pending.ae, .int .i64 q0.pending.order, .int .i64 q0.pending.update, .sl .stop q0.pending.nodes .no, .sl .dt q0.pending.af .no], .bool q1]) [])
def BO (fn:pd R):=bx BM BN (FP fn)
section
variable (aM:lT R) (cR:lI R) (bP:nE R) (bj:fq R)
def HD:List (xm R) := [(12,true,(vQ aM aL)),(26,true,(wE cR aL)),(25,false,(xP bP aL)),(27,true,(l0 bj aL))]
def BP (x1:ad.bN) (x2:List Int) (k0:ad.bN→Bool→Option R):Option R :=
 bP x1 (fun y3=>aM x1 (fun y4=>bif (!y4)then (k0 y3 false)else (bif (decide ((x2.length:Int)<(3:Int)))then (k0 y3 false)else (cR x2 (fun y5=>bif (!y5)then (k0 y3 false)else (cC (decide ((0:Int)<x2.length)) (cC (decide ((0:Int)<x1.path.length)) (bif ((x2.getD 0 (Ty.aC (.int .i64))) != (x1.path.getD 0 (Ty.aC (.int .i64))))then (k0 y3 false)else (bj x2 (fun y7=>k0 (⟨y3.ae,y3.header,y3.order,y3.update,y3.aX,y3.seen,y7,y3.seq,false,0,y3.wait,⟨y3.pending.header,y3.pending.ae,y3.pending.order,y3.pending.update,y3.pending.nodes,y3.pending.af⟩⟩:ad.bN) true))))))))))
theorem NO:dT (R:=R) tt (HD aM cR bP bj) xo false Tryd.f9 BM BN (FP (BP aM cR bP bj)):=fun x y k=>by kernel_rfl
end
theorem Mx:dG (R:=R) Tryd.prog (HD (R:=R) aM cR bP bj) := .c (vh R) <| .c (xQ R) <| .d (wB R) rfl <| .c (pb R) <| .n
def bn:pd R:=fun x1 x2 k0=>BP aM cR bP bj x1 x2 k0
theorem Df (R:Type):mW Tryd.prog 9 (BO (bn (R:=R))):=bL TT mixed (Mx (R:=R)) rfl rfl rfl rfl de (NO aM cR bP bj)

/-! ### humpyard/fleet.right -/
abbrev na (R:Type):Type:=ad.bN→(Bool→Option R)→Option R
abbrev yL:List cu := [.agg [.str, .int .i64, .int .i64, .int .i64, .int .i64, .int .i64, .sl (.int .i64), .int .i64, .bool, .int .i64, .bool, .int .i64, .str, .int .i64, .int .i64, .sl .stop, .sl .dt]]
abbrev yM:List aw := []
def D7 (fn:na R):mY R yL yM:=fun x y k=>fn (⟨x.1.1,x.1.2.1,x.1.2.2.1,x.1.2.2.2.1,x.1.2.2.2.2.1,x.1.2.2.2.2.2.1,x.1.2.2.2.2.2.2.1,x.1.2.2.2.2.2.2.2.1,(t8 x.1).1,(t8 x.1).2.1,(t8 x.1).2.2.1,⟨(t8 x.1).2.2.2.1,(t8 x.1).2.2.2.2.1,(t8 x.1).2.2.2.2.2.1,(t8 x.1).2.2.2.2.2.2.1,(t8 x.1).2.2.2.2.2.2.2.1,(t8 (t8 x.1)).1⟩⟩:ad.bN) (fun q0=>k (.bool q0) [])
def yN (fn:na R):=bx yL yM (D7 fn)
section
variable (cR:lI R)
def FQ:List (xm R) := [(26,true,(wE cR aL))]
def yO (x1:ad.bN) (k0:Bool→Option R):Option R :=
 cR x1.path (fun y2=>bif y2 then (k0 (decide (x1.rel≥(0:Int))))else (k0 false))
theorem My:dT (R:=R) tt (FQ cR) xo false Tryd.f34 yL yM (D7 (yO cR)):=fun x y k=>by kernel_rfl
end
theorem KB:dG (R:=R) Tryd.prog (FQ (R:=R) cR) := .c (xQ R) <| .n
def dh:na R:=fun x1 k0=>yO cR x1 k0
theorem Aj (R:Type):mW Tryd.prog 34 (yN (dh (R:=R))):=bL TT mixed (KB (R:=R)) rfl rfl rfl rfl de (My cR)

/-! ### humpyard/walk.isPath -/
abbrev rD (R:Type):Type:=(List Int)→(Bool→Option R)→Option R
abbrev yP:List cu := [.leaf (.sl (.int .i64))]
abbrev yQ:List aw := []
def D8 (fn:rD R):mY R yP yQ:=fun x y k=>fn x.1 (fun q0=>k (.bool q0) [])
def FR (fn:rD R):=bx yP yQ (D8 fn)
abbrev pT (R:Type):Type:=Nat→(List Int)→(List Int)→Int→Int→((List Int)→Option R)→((List Int)→Bool→Option R)→Option R
def mJ:Hint := { live := [0,6,7,8],own := [],rows := [],cells := [],drop := [],out := [0,2] }
abbrev gv:Type:=(List Int)×(List Int)×Int×Int
def oL:gv→St:=fun d=>⟨.sl (.int .i64) d.1 .no::U 5 (.sl (.int .i64) d.2.1 .no :: .int .i64 d.2.2.1 :: .int .i64 d.2.2.2::U 20 ([])), []⟩
def pU (K:Ex→St→Option R) (q0:List Int):Option R:=K (.exit 0) ⟨.sl (.int .i64) q0 .no::U 28 ([]), []⟩
def pV (K:Ex→St→Option R) (q0:List Int) (q1:Bool):Option R:=K (.ret) ⟨.sl (.int .i64) q0 .no :: .undef :: .bool q1::U 26 ([]), []⟩
abbrev jK:List cu := .leaf (.sl (.int .i64))::PU 5 (.leaf (.sl (.int .i64)) :: .leaf (.int .i64) :: .leaf (.int .i64)::PU 20 ([]))
abbrev jL:List aw := []
def xR (x:cu.aQ jK) (y:aw.aQ jL):Nat:=(List.length x.1+List.length x.2.2.2.2.2.2.1+Int.natAbs x.2.2.2.2.2.2.2.1+Int.natAbs ((t8 x).1)+64)
def HE (x:cu.aQ jK) (y:aw.aQ jL):gv:=(x.1,x.2.2.2.2.2.2.1,x.2.2.2.2.2.2.2.1,(t8 x).1)
def wJ (L:pT R):nD R jK jL:=fun x y K=>L (xR x y) x.1 x.2.2.2.2.2.2.1 x.2.2.2.2.2.2.2.1 ((t8 x).1) (pU K) (pV K)
section
variable (bR:pT R)
def mK (bS:(List Int)→(List Int)→Int→Int→Option R) (x2:List Int) (x3:List Int) (x4:Int) (x5:Int) (e0:(List Int)→Option R) (e1:(List Int)→Bool→Option R):Option R :=
 bif (decide (x5<x4))then (cC (decide ((0:Int)≤x5)&&decide (x5<x3.length)) (bif (decide ((x3.getD x5.toNat (Ty.aC (.int .i64)))<(0:Int)))then (e1 x2 false)else (bif (!((decide ((x3.getD x5.toNat (Ty.aC (.int .i64)))≥(1000:Int)))==((Int.tmod x5 2)==1)))then (e1 x2 false)else (bS x2 x3 x4 (IntKind.i64.wrap (x5+1))))))else (e0 x2)
def xS (K:Ex→St→Option R) (rc:gv→Option R) (d:gv):Option R:=mK (fun z0 z1 z2 z3=>rc (z0,z1,z2,z3)) d.1 d.2.1 d.2.2.1 d.2.2.2 (pU K) (pV K)
def pf:Nat→Option (Hint×bO R):=fun i=>match i with
 | 2=>some (mJ,(bF jK jL (wJ bR) dZ))
 | _=>none
theorem D9 (K:Ex→St→Option R) (rc:St→Option R) (d:gv):roundOf tt (bQ []) (pf bR) 0 ((ah (ar Tryd.f67)).getD 0 .skip) mJ (oL d) rc K=xS K (fun d=>rc (oL d)) d:=by kernel_rfl
def yR (x1:List Int) (k0:Bool→Option R):Option R :=
 bR (List.length x1+List.length x1+Int.natAbs (x1.length:Int)+Int.natAbs 0+64) x1 x1 (x1.length:Int) 0 (fun y7=>k0 ((Int.tmod (y7.length:Int) 2)==1)) (fun y8 y9=>k0 y9)
theorem Mz:dT (R:=R) tt [] (pf bR) false Tryd.f67 yP yQ (D8 (yR bR)):=fun x y k=>by kernel_rfl
end
def bR:pT R
 | 0,_,_,_,_,_,_=>none
 | n+1,eE,eF,eR,jZ,e0,e1=>mK (fun eE eF eR jZ=>bR n eE eF eR jZ e0 e1) eE eF eR jZ e0 e1
def xT (K:Ex→St→Option R) (n:Nat) (d:gv):Option R:=bR n d.1 d.2.1 d.2.2.1 d.2.2.2 (pU K) (pV K)
theorem GS (other:bO R) (ho:dK tt (bQ []) (pf (R:=R) bR) 0 ((ah (ar Tryd.f67)).getD 0 .skip) mJ other):dK tt (bQ []) (pf (R:=R) bR) 0 ((ah (ar Tryd.f67)).getD 0 .skip) mJ (bF jK jL (wJ (bR)) other) :=
 bM (A:=xT) ho (cI oL (xS) (xT) (fun _ _=>by kernel_rfl) (D9 bR) (fun _ _ _=>by kernel_rfl)) xR HE (fun _ _=>by kernel_rfl) (fun _ _ _=>by kernel_rfl)
def dI:rD R:=fun x1 k0=>yR bR x1 k0
theorem HF (R:Type):∀a∈ah (ar Tryd.f67),dY tt (bQ []) (pf (R:=R) bR) 0 a:=by
 refine dx 1 (by kernel_rfl) fun i hi => ?_
 match i,hi with
 | 0,_=>exact bw (by kernel_rfl) (GS _ cj)
 | n+1,hi=>omega
theorem Jb (R:Type):mW Tryd.prog 67 (FR (dI (R:=R))):=bL TT mixed .n rfl rfl rfl rfl (HF R) (Mz bR)

/-! ### humpyard/topic.Name -/
abbrev topic_Name_ty (R:Type):Type:=aA→(Bool→Option R)→Option R
abbrev topic_Name_p:List cu := [.leaf (.str)]
abbrev topic_Name_q:List aw := []
def topic_Name_rr (fn:topic_Name_ty R):mY R topic_Name_p topic_Name_q:=fun x y k=>fn x.1 (fun q0=>k (.bool q0) [])
def topic_Name_s (fn:topic_Name_ty R):=bx topic_Name_p topic_Name_q (topic_Name_rr fn)
section
def topic_Name_E:List (xm R) := [(64,true,(PW R))]
def topic_Name_X (x1:aA) (k0:Bool→Option R):Option R :=
 cC (Yc ([97,98,99,100,101,102,103,104,105,106,107,108,109,110,111,112,113,114,115,116,117,118,119,120,121,122,65,66,67,68,69,70,71,72,73,74,75,76,77,78,79,80,81,82,83,84,85,86,87,88,89,90,48,49,50,51,52,53,54,55,56,57,95,46,58,45]:aA)&&decide (([97,98,99,100,101,102,103,104,105,106,107,108,109,110,111,112,113,114,115,116,117,118,119,120,121,122,65,66,67,68,69,70,71,72,73,74,75,76,77,78,79,80,81,82,83,84,85,86,87,88,89,90,48,49,50,51,52,53,54,55,56,57,95,46,58,45]:aA).length<4294967281)) (bif ((og x1 ([97,98,99,100,101,102,103,104,105,106,107,108,109,110,111,112,113,114,115,116,117,118,119,120,121,122,65,66,67,68,69,70,71,72,73,74,75,76,77,78,79,80,81,82,83,84,85,86,87,88,89,90,48,49,50,51,52,53,54,55,56,57,95,46,58,45]:aA))==([]:aA))then (bif (!(x1==([]:aA)))then (k0 (decide ((x1.length:Int)≤(16:Int))))else (k0 false))else (k0 false))
theorem topic_Name_ok:dT (R:=R) tt (topic_Name_E (R:=R)) xo false Tryd.f54 topic_Name_p topic_Name_q (topic_Name_rr topic_Name_X):=fun x y k=>by kernel_rfl
end
theorem topic_Name_EOk:dG (R:=R) Tryd.prog (topic_Name_E (R:=R)) := .p (Ye) <| .n
def topic_Name:topic_Name_ty R:=fun x1 k0=>topic_Name_X x1 k0
theorem topic_Name_S_ok (R:Type):mW Tryd.prog 54 (topic_Name_s (topic_Name (R:=R))):=bL TT mixed (topic_Name_EOk (R:=R)) rfl rfl rfl rfl de (topic_Name_ok)

/-! ### humpyard/order.num$1 -/
abbrev rE (R:Type):Type:=Int→(Bool→Option R)→Option R
abbrev yS:List cu := [.leaf (.int .i64)]
abbrev yT:List aw := []
def Ea (fn:rE R):mY R yS yT:=fun x y k=>fn x.1 (fun q0=>k (.bool q0) [])
def FT (fn:rE R):=bx yS yT (Ea fn)
section
def yU (x1:Int) (k0:Bool→Option R):Option R :=
 bif (decide (x1<(0:Int)))then (k0 true)else (k0 (decide (x1>(1000000000:Int))))
theorem MA:dT (R:=R) tt [] xo false Tryd.f78 yS yT (Ea yU):=fun x y k=>by kernel_rfl
end
def di:rE R:=fun x1 k0=>yU x1 k0
theorem Jc (R:Type):mW Tryd.prog 78 (FT (di (R:=R))):=bL TT mixed .n rfl rfl rfl rfl de (MA)

end Go.Proofs.YtolnaonmpohciaaDoor

/-
 Functions of the program as pure Lean functions, and the ties; printed by wip/tools/emit.py.
-/
set_option maxRecDepth 100000
namespace Go.Proofs.YtolnaonmpohciaaDoor
open Go Go.ad
variable {R:Type}

/-! ### slices.IndexFunc[[]int,int] -/
abbrev dS (R:Type):Type:=(List Int)→(Int→Option R)→Option R
abbrev fV:List cu := [.leaf (.sl (.int .i64)), .leaf (.fn 78)]
abbrev fW:List aw := []
def ki (fn:dS R):mY R fV fW:=fun x y k=>fn x.1 (fun q0=>k (.int .i64 q0) [])
def ku (fn:dS R):=bx fV fW (ki fn)
abbrev eK (R:Type):Type:=Nat→(List Int)→Int→Int→(Option R)→(Int→Option R)→Option R
def dD:Hint := { live := [0,1,7,8],own := [],rows := [],cells := [],drop := [],out := [4] }
abbrev cz:Type:=(List Int)×Int×Int
def eG:cz→St:=fun d=>⟨.sl (.int .i64) d.1 .no :: .func 78 [] []::U 5 (.int .i64 d.2.1 :: .int .i64 d.2.2::U 10 ([])), []⟩
def eL (K:Ex→St→Option R):Option R:=K (.exit 0) ⟨U 19 ([]), []⟩
def eM (K:Ex→St→Option R) (q0:Int):Option R:=K (.ret) ⟨U 4 (.int .i64 q0::U 14 ([])), []⟩
abbrev cW:List cu := .leaf (.sl (.int .i64)) :: .leaf (.fn 78)::PU 5 (.leaf (.int .i64) :: .leaf (.int .i64)::PU 10 ([]))
abbrev cX:List aw := []
def iR (x:cu.aQ cW) (y:aw.aQ cX):Nat:=(List.length x.1+Int.natAbs x.2.2.2.2.2.2.2.1+Int.natAbs ((t8 x).1)+64)
def pW (x:cu.aQ cW) (y:aw.aQ cX):cz:=(x.1,x.2.2.2.2.2.2.2.1,(t8 x).1)
def ij (L:eK R):nD R cW cX:=fun x y K=>L (iR x y) x.1 x.2.2.2.2.2.2.2.1 ((t8 x).1) (eL K) (eM K)
section
variable (di:rE R) (ao:eK R)
def cT:List (xm R) := [(78,true,(FT di aL))]
def dE (bS:(List Int)→Int→Int→Option R) (x2:List Int) (x3:Int) (x4:Int) (e0:Option R) (e1:Int→Option R):Option R :=
 bif (decide (x4<x3))then (cC (decide ((0:Int)≤x4)&&decide (x4<x2.length)) (di (x2.getD x4.toNat (Ty.aC (.int .i64))) (fun y5=>bif y5 then (e1 x4)else (bS x2 x3 (IntKind.i64.wrap (x4+1))))))else (e0)
def iS (K:Ex→St→Option R) (rc:cz→Option R) (d:cz):Option R:=dE di (fun z0 z1 z2=>rc (z0,z1,z2)) d.1 d.2.1 d.2.2 (eL K) (eM K)
def dv:Nat→Option (Hint×bO R):=fun i=>match i with
 | 2=>some (dD,(bF cW cX (ij ao) dZ))
 | _=>none
theorem nF (K:Ex→St→Option R) (rc:St→Option R) (d:cz):roundOf tt (bQ (cT di)) (dv ao) 0 ((ah (ar Tryd.f81)).getD 0 .skip) dD (eG d) rc K=iS di K (fun d=>rc (eG d)) d:=by kernel_rfl
def fX (x1:List Int) (k0:Int→Option R):Option R :=
 ao (List.length x1+Int.natAbs (x1.length:Int)+Int.natAbs 0+64) x1 (x1.length:Int) 0 (k0 (-1)) (fun y6=>k0 y6)
theorem tw:dT (R:=R) tt (cT di) (dv ao) false Tryd.f81 fV fW (ki (fX ao)):=fun x y k=>by kernel_rfl
end
theorem rF:dG (R:=R) Tryd.prog (cT (R:=R) di) := .c (Jc R) <| .n
def ao:eK R
 | 0,_,_,_,_,_=>none
 | n+1,eE,eF,eR,e0,e1=>dE di (fun eE eF eR=>ao n eE eF eR e0 e1) eE eF eR e0 e1
def iT (K:Ex→St→Option R) (n:Nat) (d:cz):Option R:=ao n d.1 d.2.1 d.2.2 (eL K) (eM K)
theorem pg (other:bO R) (ho:dK tt (bQ (cT (R:=R) di)) (dv (R:=R) ao) 0 ((ah (ar Tryd.f81)).getD 0 .skip) dD other):dK tt (bQ (cT (R:=R) di)) (dv (R:=R) ao) 0 ((ah (ar Tryd.f81)).getD 0 .skip) dD (bF cW cX (ij (ao)) other) :=
 bM (A:=iT) ho (cI eG (iS di) (iT) (fun _ _=>by kernel_rfl) (nF di ao) (fun _ _ _=>by kernel_rfl)) iR pW (fun _ _=>by kernel_rfl) (fun _ _ _=>by kernel_rfl)
def bJ:dS R:=fun x1 k0=>fX ao x1 k0
theorem pX (R:Type):∀a∈ah (ar Tryd.f81),dY tt (bQ (cT (R:=R) di)) (dv (R:=R) ao) 0 a:=by
 refine dx 1 (by kernel_rfl) fun i hi => ?_
 match i,hi with
 | 0,_=>exact bw (by kernel_rfl) (pg _ cj)
 | n+1,hi=>omega
theorem qU (R:Type):mW Tryd.prog 81 (ku (bJ (R:=R))):=bL TT mixed (rF (R:=R)) rfl rfl rfl rfl (pX R) (tw di ao)

/-! ### slices.ContainsFunc[[]int,int] -/
abbrev dF (R:Type):Type:=(List Int)→(Bool→Option R)→Option R
abbrev fg:List cu := [.leaf (.sl (.int .i64)), .leaf (.fn 78)]
abbrev fi:List aw := []
def iU (fn:dF R):mY R fg fi:=fun x y k=>fn x.1 (fun q0=>k (.bool q0) [])
def jv (fn:dF R):=bx fg fi (iU fn)
section
variable (bJ:dS R)
def jx:List (xm R) := [(81,true,(ku bJ aL))]
def fj (x1:List Int) (k0:Bool→Option R):Option R :=
 bJ x1 (fun y2=>k0 (decide (y2≥(0:Int))))
theorem pY:dT (R:=R) tt (jx bJ) xo false Tryd.f77 fg fi (iU (fj bJ)):=fun x y k=>by kernel_rfl
end
theorem pj:dG (R:=R) Tryd.prog (jx (R:=R) bJ) := .c (qU R) <| .n
def bk:dF R:=fun x1 k0=>fj bJ x1 k0
theorem oM (R:Type):mW Tryd.prog 77 (jv (bk (R:=R))):=bL TT mixed (pj (R:=R)) rfl rfl rfl rfl de (pY bJ)

/-! ### humpyard/order.num -/
abbrev vR (R:Type):Type:=(List Int)→(Bool→Option R)→Option R
abbrev Eb:List cu := [.leaf (.sl (.int .i64))]
abbrev Ec:List aw := []
def HG (fn:vR R):mY R Eb Ec:=fun x y k=>fn x.1 (fun q0=>k (.bool q0) [])
def J7 (fn:vR R):=bx Eb Ec (HG fn)
section
variable (bk:dF R)
def J8:List (xm R) := [(77,true,(jv bk aL))]
def Ed (x1:List Int) (k0:Bool→Option R):Option R :=
 bk x1 (fun y2=>k0 (!y2))
theorem PY:dT (R:=R) tt (J8 bk) xo false Tryd.f73 Eb Ec (HG (Ed bk)):=fun x y k=>by kernel_rfl
end
theorem NP:dG (R:=R) Tryd.prog (J8 (R:=R) bk) := .c (oM R) <| .n
def dw:vR R:=fun x1 k0=>Ed bk x1 k0
theorem MB (R:Type):mW Tryd.prog 73 (J7 (dw (R:=R))):=bL TT mixed (NP (R:=R)) rfl rfl rfl rfl de (PY bk)

/-! ### humpyard/order.Right -/
abbrev rG (R:Type):Type:=Order→(Bool→Option R)→Option R
abbrev yV:List cu := [.agg [.int .i64, .str, .int .i64, .int .i64, .sl .stop, .sl .dt]]
abbrev yW:List aw := []
def Ee (fn:rG R):mY R yV yW:=fun x y k=>fn (⟨x.1.1,x.1.2.1,x.1.2.2.1,x.1.2.2.2.1,x.1.2.2.2.2.1,x.1.2.2.2.2.2.1⟩:Order) (fun q0=>k (.bool q0) [])
def FU (fn:rG R):=bx yV yW (Ee fn)
abbrev pZ (R:Type):Type:=Nat→(List ad.Way)→Int→Int→Order→(Option R)→(Bool→Option R)→Option R
def mL:Hint := { live := [1,66,67,68],own := [],rows := [],cells := [],drop := [],out := [2] }
abbrev gw:Type:=(List ad.Way)×Int×Int×Order
def oN:gw→St:=fun d=>⟨.undef :: .ptr 0 0::U 64 (.sl .dt d.1 .no :: .int .i64 d.2.1 :: .int .i64 d.2.2.1::U 59 ([])), [.cells [.int .i64 d.2.2.2.header, .str d.2.2.2.ae, .int .i64 d.2.2.2.order, .int .i64 d.2.2.2.update, .sl .stop d.2.2.2.nodes .no, .sl .dt d.2.2.2.af .no]]⟩
def p8 (K:Ex→St→Option R):Option R:=K (.exit 0) ⟨U 128 ([]), []⟩
def p9 (K:Ex→St→Option R) (q0:Bool):Option R:=K (.ret) ⟨U 2 (.bool q0::U 125 ([])), []⟩
abbrev jM:List cu := .leaf (.undef) :: .leaf (.ptr 0 0)::PU 64 (.leaf (.sl .dt) :: .leaf (.int .i64) :: .leaf (.int .i64)::PU 59 ([]))
abbrev jN:List aw := [.cells [.int .i64, .str, .int .i64, .int .i64, .sl .stop, .sl .dt]]
def xU (x:cu.aQ jM) (y:aw.aQ jN):Nat:=(List.length ((t8 (t8 (t8 (t8 (t8 (t8 (t8 (t8 x)))))))).2.2.1)+Int.natAbs ((t8 (t8 (t8 (t8 (t8 (t8 (t8 (t8 x)))))))).2.2.2.1)+Int.natAbs ((t8 (t8 (t8 (t8 (t8 (t8 (t8 (t8 x)))))))).2.2.2.2.1)+Order.fu (⟨y.1.1,y.1.2.1,y.1.2.2.1,y.1.2.2.2.1,y.1.2.2.2.2.1,y.1.2.2.2.2.2.1⟩:Order)+64)
def HH (x:cu.aQ jM) (y:aw.aQ jN):gw:=((t8 (t8 (t8 (t8 (t8 (t8 (t8 (t8 x)))))))).2.2.1,(t8 (t8 (t8 (t8 (t8 (t8 (t8 (t8 x)))))))).2.2.2.1,(t8 (t8 (t8 (t8 (t8 (t8 (t8 (t8 x)))))))).2.2.2.2.1,(⟨y.1.1,y.1.2.1,y.1.2.2.1,y.1.2.2.2.1,y.1.2.2.2.2.1,y.1.2.2.2.2.2.1⟩:Order))
def wK (L:pZ R):nD R jM jN:=fun x y K=>L (xU x y) ((t8 (t8 (t8 (t8 (t8 (t8 (t8 (t8 x)))))))).2.2.1) ((t8 (t8 (t8 (t8 (t8 (t8 (t8 (t8 x)))))))).2.2.2.1) ((t8 (t8 (t8 (t8 (t8 (t8 (t8 (t8 x)))))))).2.2.2.2.1) (⟨y.1.1,y.1.2.1,y.1.2.2.1,y.1.2.2.2.1,y.1.2.2.2.2.1,y.1.2.2.2.2.2.1⟩:Order) (p8 K) (p9 K)
section
variable (dw:vR R) (topic_Name:topic_Name_ty R) (bK:pZ R)
def lU:List (xm R) := [(73,true,(J7 dw aL)),(54,true,(topic_Name_s topic_Name aL))]
def mM (bS:(List ad.Way)→Int→Int→Order→Option R) (x6:List ad.Way) (x7:Int) (x8:Int) (x9:Order) (e0:Option R) (e1:Bool→Option R):Option R :=
 bif (decide (x8<x7))then (cC (decide ((0:Int)≤x8)&&decide (x8<x6.length)) (cC (decide ((0:Int)≤x8)&&decide (x8<x9.nodes.length)) (cC (decide ((0:Int)≤(IntKind.i64.wrap (x8+1)))&&decide ((IntKind.i64.wrap (x8+1))<x9.nodes.length)) (dw ([(x6.getD x8.toNat (Ty.aC .dt)).fk,(x6.getD x8.toNat (Ty.aC .dt)).seq,(x9.nodes.getD (IntKind.i64.wrap (x8+1)).toNat (Ty.aC .stop)).node,(x9.nodes.getD (IntKind.i64.wrap (x8+1)).toNat (Ty.aC .stop)).seq]:List Int) (fun vD=>bif (!vD)then (e1 false)else (bif ((x6.getD x8.toNat (Ty.aC .dt)).seq != (IntKind.i64.wrap ((x9.nodes.getD x8.toNat (Ty.aC .stop)).seq+1)))then (e1 false)else (bif ((x9.nodes.getD (IntKind.i64.wrap (x8+1)).toNat (Ty.aC .stop)).seq != (IntKind.i64.wrap ((x6.getD x8.toNat (Ty.aC .dt)).seq+1)))then (e1 false)else (bif (!((x6.getD x8.toNat (Ty.aC .dt)).ax==(x9.nodes.getD (IntKind.i64.wrap (x8+1)).toNat (Ty.aC .stop)).ax))then (e1 false)else (bif (x9.nodes.getD (IntKind.i64.wrap (x8+1)).toNat (Ty.aC .stop)).ax then (bif (!(x9.nodes.getD x8.toNat (Ty.aC .stop)).ax)then (e1 false)else (bS x6 x7 (IntKind.i64.wrap (x8+1)) x9))else (bS x6 x7 (IntKind.i64.wrap (x8+1)) x9))))))))))else (e0)
def xV (K:Ex→St→Option R) (rc:gw→Option R) (d:gw):Option R:=mM dw (fun z0 z1 z2 z3=>rc (z0,z1,z2,z3)) d.1 d.2.1 d.2.2.1 d.2.2.2 (p8 K) (p9 K)
def pk:Nat→Option (Hint×bO R):=fun i=>match i with
 | 8=>some (mL,(bF jM jN (wK bK) dZ))
 | _=>none
theorem Ef (K:Ex→St→Option R) (rc:St→Option R) (d:gw):roundOf tt (bQ (lU dw topic_Name)) (pk bK) 0 ((ah (ar Tryd.f68)).getD 0 .skip) mL (oN d) rc K=xV dw K (fun d=>rc (oN d)) d:=by kernel_rfl
def yX (x1:Order) (k0:Bool→Option R):Option R :=
 topic_Name x1.ae (fun y2=>bif (!y2)then (k0 false)else (dw ([x1.header,x1.order,x1.update]:List Int) (fun y3=>bif (!y3)then (k0 false)else (bif (decide ((x1.nodes.length:Int)<(1:Int)))then (k0 false)else (bif (decide ((x1.nodes.length:Int)>(64:Int)))then (k0 false)else (bif ((x1.af.length:Int) != (IntKind.i64.wrap ((x1.nodes.length:Int) - 1)))then (k0 false)else (cC (decide ((0:Int)<x1.nodes.length)) (bif ((Int.tmod (x1.nodes.getD 0 (Ty.aC .stop)).seq 2) != 0)then (k0 false)else (bif (!(x1.nodes.getD 0 (Ty.aC .stop)).ax)then (k0 false)else (dw ([(x1.nodes.getD 0 (Ty.aC .stop)).node,(x1.nodes.getD 0 (Ty.aC .stop)).seq]:List Int) (fun y5=>bif (!y5)then (k0 false)else (bK (List.length x1.af+Int.natAbs (x1.af.length:Int)+Int.natAbs 0+Order.fu x1+64) x1.af (x1.af.length:Int) 0 x1 (k0 true) (fun pH=>k0 pH)))))))))))))
theorem MC:dT (R:=R) tt (lU dw topic_Name) (pk bK) false Tryd.f68 yV yW (Ee (yX dw topic_Name bK)):=fun x y k=>by kernel_rfl
end
theorem KC:dG (R:=R) Tryd.prog (lU (R:=R) dw topic_Name) := .c (MB R) <| .c (topic_Name_S_ok R) <| .n
def bK:pZ R
 | 0,_,_,_,_,_,_=>none
 | n+1,eE,eF,eR,jZ,e0,e1=>mM dw (fun eE eF eR jZ=>bK n eE eF eR jZ e0 e1) eE eF eR jZ e0 e1
def xW (K:Ex→St→Option R) (n:Nat) (d:gw):Option R:=bK n d.1 d.2.1 d.2.2.1 d.2.2.2 (p8 K) (p9 K)
theorem GU (other:bO R) (ho:dK tt (bQ (lU (R:=R) dw topic_Name)) (pk (R:=R) bK) 0 ((ah (ar Tryd.f68)).getD 0 .skip) mL other):dK tt (bQ (lU (R:=R) dw topic_Name)) (pk (R:=R) bK) 0 ((ah (ar Tryd.f68)).getD 0 .skip) mL (bF jM jN (wK (bK)) other) :=
 bM (A:=xW) ho (cI oN (xV dw) (xW) (fun _ _=>by kernel_rfl) (Ef dw topic_Name bK) (fun _ _ _=>by kernel_rfl)) xU HH (fun _ _=>by kernel_rfl) (fun _ _ _=>by kernel_rfl)
def dJ:rG R:=fun x1 k0=>yX dw topic_Name bK x1 k0
theorem HI (R:Type):∀a∈ah (ar Tryd.f68),dY tt (bQ (lU (R:=R) dw topic_Name)) (pk (R:=R) bK) 0 a:=by
 refine dx 1 (by kernel_rfl) fun i hi => ?_
 match i,hi with
 | 0,_=>exact bw (by kernel_rfl) (GU _ cj)
 | n+1,hi=>omega
theorem Jd (R:Type):mW Tryd.prog 68 (FU (dJ (R:=R))):=bL TT mixed (KC (R:=R)) rfl rfl rfl rfl (HI R) (MC dw topic_Name bK)

/-! ### humpyard/walk.Order -/
abbrev uH (R:Type):Type:=Order→(List Int)→Int→Int→(Order→Bool→Option R)→Option R
abbrev BQ:List cu := [.agg [.int .i64, .str, .int .i64, .int .i64, .sl .stop, .sl .dt], .leaf (.sl (.int .i64)), .leaf (.int .i64), .leaf (.int .i64)]
abbrev BR:List aw := []
def FV (fn:uH R):mY R BQ BR:=fun x y k=>fn (⟨x.1.1,x.1.2.1,x.1.2.2.1,x.1.2.2.2.1,x.1.2.2.2.2.1,x.1.2.2.2.2.2.1⟩:Order) x.2.1 x.2.2.1 x.2.2.2.1 (fun q0 q1=>k (.tuple [.agg [.int .i64 q0.header, .str q0.ae, .int .i64 q0.order, .int .i64 q0.update, .sl .stop q0.nodes .no, .sl .dt q0.af .no], .bool q1]) [])
def HJ (fn:uH R):=bx BQ BR (FV fn)
abbrev rH (R:Type):Type:=Nat→Int→Int→(List Int)→Int→Int→Int→aA→Int→Int→Int→aA→Int→Int→(List Stop)→(List ad.Way)→(Int→aA→Int→Int→Int→aA→Int→Int→(List Stop)→(List ad.Way)→Option R)→Option R
def nG:Hint := { live := [2,3,8,10,25,26,27],own := [],rows := [],cells := [(1,5, .dt,false),(1,4, .stop,false)],drop := [],out := [8,9,10] }
abbrev iw:Type:=Int×Int×(List Int)×Int×Int×Int×aA×Int×Int×Int×aA×Int×Int×(List Stop)×(List ad.Way)
def qa:iw→St:=fun d=>⟨U 2 (.int .i64 d.1 :: .int .i64 d.2.1::U 4 (.ptr 0 0 :: .undef :: .ptr 1 0::U 14 (.sl (.int .i64) d.2.2.1 .no :: .int .i64 d.2.2.2.1 :: .int .i64 d.2.2.2.2.1::U 44 ([])))), [.cells [.int .i64 d.2.2.2.2.2.1, .str d.2.2.2.2.2.2.1, .int .i64 d.2.2.2.2.2.2.2.1, .int .i64 d.2.2.2.2.2.2.2.2.1, .aI, .aI], .cells [.int .i64 d.2.2.2.2.2.2.2.2.2.1, .str d.2.2.2.2.2.2.2.2.2.2.1, .int .i64 d.2.2.2.2.2.2.2.2.2.2.2.1, .int .i64 d.2.2.2.2.2.2.2.2.2.2.2.2.1, .sl .stop d.2.2.2.2.2.2.2.2.2.2.2.2.2.1 (.own 2), .sl .dt d.2.2.2.2.2.2.2.2.2.2.2.2.2.2 (.own 3)], .tok, .tok]⟩
def rI (K:Ex→St→Option R) (q0:Int) (q1:aA) (q2:Int) (q3:Int) (q4:Int) (q5:aA) (q6:Int) (q7:Int) (q8:List Stop) (q9:List ad.Way):Option R:=K (.exit 0) ⟨U 8 (.ptr 0 0 :: .undef :: .ptr 1 0::U 61 ([])), [.cells [.int .i64 q0, .str q1, .int .i64 q2, .int .i64 q3, .aI, .aI], .cells [.int .i64 q4, .str q5, .int .i64 q6, .int .i64 q7, .sl .stop q8 (.own 2), .sl .dt q9 (.own 3)], .tok, .tok]⟩
abbrev kv:List cu:=PU 2 (.leaf (.int .i64) :: .leaf (.int .i64)::PU 4 (.leaf (.ptr 0 0) :: .leaf (.undef) :: .leaf (.ptr 1 0)::PU 14 (.leaf (.sl (.int .i64)) :: .leaf (.int .i64) :: .leaf (.int .i64)::PU 44 ([]))))
abbrev kz:List aw := [.cells [.int .i64, .str, .int .i64, .int .i64, .aI, .aI], .cells [.int .i64, .str, .int .i64, .int .i64, .Li .stop 2, .Li .dt 3], .tok, .tok]
def Ak (x:cu.aQ kv) (y:aw.aQ kz):Nat:=(Int.natAbs x.2.2.1+Int.natAbs x.2.2.2.1+List.length ((t8 (t8 (t8 x))).2.1)+Int.natAbs ((t8 (t8 (t8 x))).2.2.1)+Int.natAbs ((t8 (t8 (t8 x))).2.2.2.1)+Int.natAbs y.1.1+List.length y.1.2.1+Int.natAbs y.1.2.2.1+Int.natAbs y.1.2.2.2.1+Int.natAbs y.2.1.1+List.length y.2.1.2.1+Int.natAbs y.2.1.2.2.1+Int.natAbs y.2.1.2.2.2.1+List.length y.2.1.2.2.2.2.1+List.length y.2.1.2.2.2.2.2.1+64)
def Je (x:cu.aQ kv) (y:aw.aQ kz):iw:=(x.2.2.1,x.2.2.2.1,(t8 (t8 (t8 x))).2.1,(t8 (t8 (t8 x))).2.2.1,(t8 (t8 (t8 x))).2.2.2.1,y.1.1,y.1.2.1,y.1.2.2.1,y.1.2.2.2.1,y.2.1.1,y.2.1.2.1,y.2.1.2.2.1,y.2.1.2.2.2.1,y.2.1.2.2.2.2.1,y.2.1.2.2.2.2.2.1)
def xX (L:rH R):nD R kv kz:=fun x y K=>L (Ak x y) x.2.2.1 x.2.2.2.1 ((t8 (t8 (t8 x))).2.1) ((t8 (t8 (t8 x))).2.2.1) ((t8 (t8 (t8 x))).2.2.2.1) y.1.1 y.1.2.1 y.1.2.2.1 y.1.2.2.2.1 y.2.1.1 y.2.1.2.1 y.2.1.2.2.1 y.2.1.2.2.2.1 y.2.1.2.2.2.2.1 y.2.1.2.2.2.2.2.1 (rI K)
section
variable (dJ:rG R) (dI:rD R) (bU:rH R)
def nH:List (xm R) := [(68,true,(FU dJ aL)),(67,true,(FR dI aL))]
def nI (bS:Int→Int→(List Int)→Int→Int→Int→aA→Int→Int→Int→aA→Int→Int→(List Stop)→(List ad.Way)→Option R) (x6:Int) (x7:Int) (x8:List Int) (x9:Int) (Fk:Int) (Jf:Int) (Fg:aA) (xY:Int) (Bj:Int) (MD:Int) (Fl:aA) (DJ:Int) (Dg:Int) (uc:List Stop) (uf:List ad.Way) (e0:Int→aA→Int→Int→Int→aA→Int→Int→(List Stop)→(List ad.Way)→Option R):Option R :=
 bif (decide (Fk<x9))then (cC (decide ((0:Int)≤Fk)&&decide (Fk<x8.length)) (bif ((Int.tmod Fk 2)==1)then (cC (decide ((uf.length+1)*24≤140737488355328)) (bS x6 x7 x8 x9 (IntKind.i64.wrap (Fk+1)) Jf Fg xY Bj MD Fl DJ Dg uc (uf++([(⟨(IntKind.i64.wrap ((x8.getD Fk.toNat (Ty.aC (.int .i64))) - 1000)),(IntKind.i64.wrap (x6+Fk)),(decide ((IntKind.i64.wrap (Fk - (IntKind.i64.wrap (Int.tdiv Fk 2))))<x7))⟩:ad.Way)]:List ad.Way))))else (cC (decide ((uc.length+1)*24≤140737488355328)) (bS x6 x7 x8 x9 (IntKind.i64.wrap (Fk+1)) Jf Fg xY Bj MD Fl DJ Dg (uc++([(⟨(x8.getD Fk.toNat (Ty.aC (.int .i64))),(IntKind.i64.wrap (x6+Fk)),(decide ((IntKind.i64.wrap (Fk - (IntKind.i64.wrap (Int.tdiv Fk 2))))<x7))⟩:Stop)]:List Stop)) uf))))else (e0 Jf Fg xY Bj MD Fl DJ Dg uc uf)
def Al (K:Ex→St→Option R) (rc:iw→Option R) (d:iw):Option R:=nI (fun z0 z1 z2 z3 z4 z5 z6 z7 z8 z9 ME KD z12 NQ Th=>rc (z0,z1,z2,z3,z4,z5,z6,z7,z8,z9,ME,KD,z12,NQ,Th)) d.1 d.2.1 d.2.2.1 d.2.2.2.1 d.2.2.2.2.1 d.2.2.2.2.2.1 d.2.2.2.2.2.2.1 d.2.2.2.2.2.2.2.1 d.2.2.2.2.2.2.2.2.1 d.2.2.2.2.2.2.2.2.2.1 d.2.2.2.2.2.2.2.2.2.2.1 d.2.2.2.2.2.2.2.2.2.2.2.1 d.2.2.2.2.2.2.2.2.2.2.2.2.1 d.2.2.2.2.2.2.2.2.2.2.2.2.2.1 d.2.2.2.2.2.2.2.2.2.2.2.2.2.2 (rI K)
def rJ:Nat→Option (Hint×bO R):=fun i=>match i with
 | 6=>some (nG,(bF kv kz (xX bU) dZ))
 | _=>none
theorem Fo (K:Ex→St→Option R) (rc:St→Option R) (d:iw):roundOf tt (bQ (nH dJ dI)) (rJ bU) 0 ((ah (ar Tryd.f62)).getD 0 .skip) nG (qa d) rc K=Al K (fun d=>rc (qa d)) d:=by kernel_rfl
def BS (x1:Order) (x2:List Int) (x3:Int) (x4:Int) (k0:Order→Bool→Option R):Option R :=
 dI x2 (fun y5=>bif (!y5)then (k0 (⟨0,([]:aA),0,0,([]:List Stop),([]:List ad.Way)⟩:Order) false)else (cC (decide ((0:Int)≤(min (x2.length:Int) 127))&&decide ((min (x2.length:Int) 127)≤x2.length)) (cC (decide ((0:Int)≤(min (x2.length:Int) 127))) (bU (Int.natAbs x3+Int.natAbs x4+List.length ((x2.drop 0).take ((min (x2.length:Int) 127).toNat - 0))+Int.natAbs (((x2.drop 0).take ((min (x2.length:Int) 127).toNat - 0)).length:Int)+Int.natAbs 0+Int.natAbs 0+List.length ([]:aA)+Int.natAbs 0+Int.natAbs 0+Int.natAbs x1.header+List.length x1.ae+Int.natAbs x1.order+Int.natAbs x1.update+List.length ([]:List Stop)+List.length ([]:List ad.Way)+64) x3 x4 ((x2.drop 0).take ((min (x2.length:Int) 127).toNat - 0)) (((x2.drop 0).take ((min (x2.length:Int) 127).toNat - 0)).length:Int) 0 0 ([]:aA) 0 0 x1.header x1.ae x1.order x1.update ([]:List Stop) ([]:List ad.Way) (fun Lm J9 Ka Rs Jg Nw Fp Qn y29 Wm=>dJ (⟨Jg,Nw,Fp,Qn,y29,Wm⟩:Order) (fun Yf=>bif (!Yf)then (k0 (⟨0,([]:aA),0,0,([]:List Stop),([]:List ad.Way)⟩:Order) false)else (k0 (⟨Jg,Nw,Fp,Qn,y29,Wm⟩:Order) true)))))))
theorem NR:dT (R:=R) tt (nH dJ dI) (rJ bU) false Tryd.f62 BQ BR (FV (BS dJ dI bU)):=fun x y k=>by kernel_rfl
end
theorem MF:dG (R:=R) Tryd.prog (nH (R:=R) dJ dI) := .c (Jd R) <| .c (Jb R) <| .n
def bU:rH R
 | 0,_,_,_,_,_,_,_,_,_,_,_,_,_,_,_,_=>none
 | n+1,eE,eF,eR,jZ,ug,vi,yY,yZ,Eg,GV,uh,ui,uj,uk,GW,e0=>nI (fun eE eF eR jZ ug vi yY yZ Eg GV uh ui uj uk GW=>bU n eE eF eR jZ ug vi yY yZ Eg GV uh ui uj uk GW e0) eE eF eR jZ ug vi yY yZ Eg GV uh ui uj uk GW e0
def Am (K:Ex→St→Option R) (n:Nat) (d:iw):Option R:=bU n d.1 d.2.1 d.2.2.1 d.2.2.2.1 d.2.2.2.2.1 d.2.2.2.2.2.1 d.2.2.2.2.2.2.1 d.2.2.2.2.2.2.2.1 d.2.2.2.2.2.2.2.2.1 d.2.2.2.2.2.2.2.2.2.1 d.2.2.2.2.2.2.2.2.2.2.1 d.2.2.2.2.2.2.2.2.2.2.2.1 d.2.2.2.2.2.2.2.2.2.2.2.2.1 d.2.2.2.2.2.2.2.2.2.2.2.2.2.1 d.2.2.2.2.2.2.2.2.2.2.2.2.2.2 (rI K)
theorem HK (other:bO R) (ho:dK tt (bQ (nH (R:=R) dJ dI)) (rJ (R:=R) bU) 0 ((ah (ar Tryd.f62)).getD 0 .skip) nG other):dK tt (bQ (nH (R:=R) dJ dI)) (rJ (R:=R) bU) 0 ((ah (ar Tryd.f62)).getD 0 .skip) nG (bF kv kz (xX (bU)) other) :=
 bM (A:=Am) ho (cI qa (Al) (Am) (fun _ _=>by kernel_rfl) (Fo dJ dI bU) (fun _ _ _=>by kernel_rfl)) Ak Je (fun _ _=>by kernel_rfl) (fun _ _ _=>by kernel_rfl)
def iV:uH R:=fun x1 x2 x3 x4 k0=>BS dJ dI bU x1 x2 x3 x4 k0
theorem Jh (R:Type):∀a∈ah (ar Tryd.f62),dY tt (bQ (nH (R:=R) dJ dI)) (rJ (R:=R) bU) 0 a:=by
 refine dx 1 (by kernel_rfl) fun i hi => ?_
 match i,hi with
 | 0,_=>exact bw (by kernel_rfl) (HK _ cj)
 | n+1,hi=>omega
theorem KE (R:Type):mW Tryd.prog 62 (HJ (iV (R:=R))):=bL TT mixed (MF (R:=R)) rfl rfl rfl rfl (Jh R) (NR dJ dI bU)

/-! ### (*humpyard/fleet.ctl).over -/
abbrev ft (R:Type):Type:=Int→Int→ad.bN→(Order→Bool→ad.bN→Option R)→Option R
abbrev l8:List cu := [.leaf (.ptr 0 0), .leaf (.int .i64), .leaf (.int .i64)]
abbrev l9:List aw := [.cells [.str, .int .i64, .int .i64, .int .i64, .int .i64, .int .i64, .sl (.int .i64), .int .i64, .bool, .int .i64, .bool, .int .i64, .str, .int .i64, .int .i64, .sl .stop, .sl .dt]]
def rK (fn:ft R):mY R l8 l9:=fun x y k=>fn x.2.1 x.2.2.1 (⟨y.1.1,y.1.2.1,y.1.2.2.1,y.1.2.2.2.1,y.1.2.2.2.2.1,y.1.2.2.2.2.2.1,y.1.2.2.2.2.2.2.1,y.1.2.2.2.2.2.2.2.1,(t8 y.1).1,(t8 y.1).2.1,(t8 y.1).2.2.1,⟨(t8 y.1).2.2.2.1,(t8 y.1).2.2.2.2.1,(t8 y.1).2.2.2.2.2.1,(t8 y.1).2.2.2.2.2.2.1,(t8 y.1).2.2.2.2.2.2.2.1,(t8 (t8 y.1)).1⟩⟩:ad.bN) (fun q0 q1 q2=>k (.tuple [.agg [.int .i64 q0.header, .str q0.ae, .int .i64 q0.order, .int .i64 q0.update, .sl .stop q0.nodes .no, .sl .dt q0.af .no], .bool q1]) [.cells [.str q2.ae, .int .i64 q2.header, .int .i64 q2.order, .int .i64 q2.update, .int .i64 q2.aX, .int .i64 q2.seen, .sl (.int .i64) q2.path .no, .int .i64 q2.seq, .bool q2.open_, .int .i64 q2.rel, .bool q2.wait, .int .i64 q2.pending.header, .str q2.pending.ae, .int .i64 q2.pending.order, .int .i64 q2.pending.update, .sl .stop q2.pending.nodes .no, .sl .dt q2.pending.af .no]])
def ma (fn:ft R):=bx l8 l9 (rK fn)
section
variable (iV:uH R)
def tE:List (xm R) := [(62,true,(HJ iV aL))]
def ju (x1:Int) (x2:Int) (x3:ad.bN) (k0:Order→Bool→ad.bN→Option R):Option R :=
 cC (decide ((0:Int)≤(IntKind.i64.wrap (2*x1)))&&decide ((IntKind.i64.wrap (2*x1))≤x3.path.length)) (iV (⟨(IntKind.i64.wrap (x3.header+1)),x3.ae,x3.order,x3.update,([]:List Stop),([]:List ad.Way)⟩:Order) (x3.path.drop (IntKind.i64.wrap (2*x1)).toNat) (IntKind.i64.wrap (x3.seq+(IntKind.i64.wrap (2*x1)))) (IntKind.i64.wrap (x2+1)) (fun y4 y5=>k0 y4 y5 (⟨x3.ae,(IntKind.i64.wrap (x3.header+1)),x3.order,x3.update,x3.aX,x3.seen,x3.path,x3.seq,x3.open_,x3.rel,x3.wait,⟨x3.pending.header,x3.pending.ae,x3.pending.order,x3.pending.update,x3.pending.nodes,x3.pending.af⟩⟩:ad.bN)))
theorem BT:dT (R:=R) tt (tE iV) xo false Tryd.f52 l8 l9 (rK (ju iV)):=fun x y k=>by kernel_rfl
end
theorem An:dG (R:=R) Tryd.prog (tE (R:=R) iV) := .c (KE R) <| .n
def bb:ft R:=fun x1 x2 x3 k0=>ju iV x1 x2 x3 k0
theorem pq (R:Type):mW Tryd.prog 52 (ma (bb (R:=R))):=bL TT mixed (An (R:=R)) rfl rfl rfl rfl de (BT iV)

/-! ### (*humpyard/fleet.ctl).first -/
abbrev gA (R:Type):Type:=Int→ad.bN→(Order→Bool→ad.bN→Option R)→Option R
abbrev lp:List cu := [.leaf (.ptr 0 0), .leaf (.int .i64)]
abbrev lq:List aw := [.cells [.str, .int .i64, .int .i64, .int .i64, .int .i64, .int .i64, .sl (.int .i64), .int .i64, .bool, .int .i64, .bool, .int .i64, .str, .int .i64, .int .i64, .sl .stop, .sl .dt]]
def qD (fn:gA R):mY R lp lq:=fun x y k=>fn x.2.1 (⟨y.1.1,y.1.2.1,y.1.2.2.1,y.1.2.2.2.1,y.1.2.2.2.2.1,y.1.2.2.2.2.2.1,y.1.2.2.2.2.2.2.1,y.1.2.2.2.2.2.2.2.1,(t8 y.1).1,(t8 y.1).2.1,(t8 y.1).2.2.1,⟨(t8 y.1).2.2.2.1,(t8 y.1).2.2.2.2.1,(t8 y.1).2.2.2.2.2.1,(t8 y.1).2.2.2.2.2.2.1,(t8 y.1).2.2.2.2.2.2.2.1,(t8 (t8 y.1)).1⟩⟩:ad.bN) (fun q0 q1 q2=>k (.tuple [.agg [.int .i64 q0.header, .str q0.ae, .int .i64 q0.order, .int .i64 q0.update, .sl .stop q0.nodes .no, .sl .dt q0.af .no], .bool q1]) [.cells [.str q2.ae, .int .i64 q2.header, .int .i64 q2.order, .int .i64 q2.update, .int .i64 q2.aX, .int .i64 q2.seen, .sl (.int .i64) q2.path .no, .int .i64 q2.seq, .bool q2.open_, .int .i64 q2.rel, .bool q2.wait, .int .i64 q2.pending.header, .str q2.pending.ae, .int .i64 q2.pending.order, .int .i64 q2.pending.update, .sl .stop q2.pending.nodes .no, .sl .dt q2.pending.af .no]])
def rL (fn:gA R):=bx lp lq (qD fn)
section
variable (bb:ft R)
def rM:List (xm R) := [(52,false,(ma bb aL))]
def lr (x1:Int) (x2:ad.bN) (k0:Order→Bool→ad.bN→Option R):Option R :=
 bb 0 (min x1 63) (⟨x2.ae,x2.header,(IntKind.i64.wrap (x2.order+1)),0,x2.aX,x2.seen,x2.path,0,x2.open_,(min x1 63),x2.wait,⟨x2.pending.header,x2.pending.ae,x2.pending.order,x2.pending.update,x2.pending.nodes,x2.pending.af⟩⟩:ad.bN) (fun y3 y4 y5=>k0 y3 y4 y5)
theorem Ao:dT (R:=R) tt (rM bb) xo false Tryd.f36 lp lq (qD (lr bb)):=fun x y k=>by kernel_rfl
end
theorem za:dG (R:=R) Tryd.prog (rM (R:=R) bb) := .d (pq R) rfl <| .n
def ck:gA R:=fun x1 x2 k0=>lr bb x1 x2 k0
theorem xp (R:Type):mW Tryd.prog 36 (rL (ck (R:=R))):=bL TT mixed (za (R:=R)) rfl rfl rfl rfl de (Ao bb)

end Go.Proofs.YtolnaonmpohciaaDoor

/-
 Functions of the program as pure Lean functions, and the ties; printed by wip/tools/emit.py.
-/
set_option maxRecDepth 100000
namespace Go.Proofs.YtolnaonmpohciaaDoor
open Go Go.ad
variable {R:Type}

/-! ### (*humpyard/fleet.ctl).more -/
abbrev hD (R:Type):Type:=Int→ad.bN→(Order→Bool→ad.bN→Option R)→Option R
abbrev mb:List cu := [.leaf (.ptr 0 0), .leaf (.int .i64)]
abbrev mc:List aw := [.cells [.str, .int .i64, .int .i64, .int .i64, .int .i64, .int .i64, .sl (.int .i64), .int .i64, .bool, .int .i64, .bool, .int .i64, .str, .int .i64, .int .i64, .sl .stop, .sl .dt]]
def rN (fn:hD R):mY R mb mc:=fun x y k=>fn x.2.1 (⟨y.1.1,y.1.2.1,y.1.2.2.1,y.1.2.2.2.1,y.1.2.2.2.2.1,y.1.2.2.2.2.2.1,y.1.2.2.2.2.2.2.1,y.1.2.2.2.2.2.2.2.1,(t8 y.1).1,(t8 y.1).2.1,(t8 y.1).2.2.1,⟨(t8 y.1).2.2.2.1,(t8 y.1).2.2.2.2.1,(t8 y.1).2.2.2.2.2.1,(t8 y.1).2.2.2.2.2.2.1,(t8 y.1).2.2.2.2.2.2.2.1,(t8 (t8 y.1)).1⟩⟩:ad.bN) (fun q0 q1 q2=>k (.tuple [.agg [.int .i64 q0.header, .str q0.ae, .int .i64 q0.order, .int .i64 q0.update, .sl .stop q0.nodes .no, .sl .dt q0.af .no], .bool q1]) [.cells [.str q2.ae, .int .i64 q2.header, .int .i64 q2.order, .int .i64 q2.update, .int .i64 q2.aX, .int .i64 q2.seen, .sl (.int .i64) q2.path .no, .int .i64 q2.seq, .bool q2.open_, .int .i64 q2.rel, .bool q2.wait, .int .i64 q2.pending.header, .str q2.pending.ae, .int .i64 q2.pending.order, .int .i64 q2.pending.update, .sl .stop q2.pending.nodes .no, .sl .dt q2.pending.af .no]])
def tF (fn:hD R):=bx mb mc (rN fn)
section
variable (bb:ft R)
def tG:List (xm R) := [(52,false,(ma bb aL))]
def me (x1:Int) (x2:ad.bN) (k0:Order→Bool→ad.bN→Option R):Option R :=
 bb x2.rel (IntKind.i64.wrap ((min x1 (IntKind.i64.wrap (x2.rel+63))) - x2.rel)) (⟨x2.ae,x2.header,x2.order,(IntKind.i64.wrap (x2.update+1)),x2.aX,x2.seen,x2.path,x2.seq,x2.open_,(min x1 (IntKind.i64.wrap (x2.rel+63))),x2.wait,⟨x2.pending.header,x2.pending.ae,x2.pending.order,x2.pending.update,x2.pending.nodes,x2.pending.af⟩⟩:ad.bN) (fun y3 y4 y5=>k0 y3 y4 y5)
theorem BU:dT (R:=R) tt (tG bb) xo false Tryd.f37 mb mc (rN (me bb)):=fun x y k=>by kernel_rfl
end
theorem Ap:dG (R:=R) Tryd.prog (tG (R:=R) bb) := .d (pq R) rfl <| .n
def cE:hD R:=fun x1 x2 k0=>me bb x1 x2 k0
theorem zb (R:Type):mW Tryd.prog 37 (tF (cE (R:=R))):=bL TT mixed (Ap (R:=R)) rfl rfl rfl rfl de (BU bb)

/-! ### humpyard/fleet.Next -/
abbrev pr (R:Type):Type:=ad.bN→Int→(ad.bN→Order→Bool→Option R)→Option R
abbrev BV:List cu := [.agg [.str, .int .i64, .int .i64, .int .i64, .int .i64, .int .i64, .sl (.int .i64), .int .i64, .bool, .int .i64, .bool, .int .i64, .str, .int .i64, .int .i64, .sl .stop, .sl .dt], .leaf (.int .i64)]
abbrev BW:List aw := []
def FW (fn:pr R):mY R BV BW:=fun x y k=>fn (⟨x.1.1,x.1.2.1,x.1.2.2.1,x.1.2.2.2.1,x.1.2.2.2.2.1,x.1.2.2.2.2.2.1,x.1.2.2.2.2.2.2.1,x.1.2.2.2.2.2.2.2.1,(t8 x.1).1,(t8 x.1).2.1,(t8 x.1).2.2.1,⟨(t8 x.1).2.2.2.1,(t8 x.1).2.2.2.2.1,(t8 x.1).2.2.2.2.2.1,(t8 x.1).2.2.2.2.2.2.1,(t8 x.1).2.2.2.2.2.2.2.1,(t8 (t8 x.1)).1⟩⟩:ad.bN) x.2.1 (fun q0 q1 q2=>k (.tuple [.agg [.str q0.ae, .int .i64 q0.header, .int .i64 q0.order, .int .i64 q0.update, .int .i64 q0.aX, .int .i64 q0.seen, .sl (.int .i64) q0.path .no, .int .i64 q0.seq, .bool q0.open_, .int .i64 q0.rel, .bool q0.wait, .int .i64 q0.pending.header, .str q0.pending.ae, .int .i64 q0.pending.order, .int .i64 q0.pending.update, .sl .stop q0.pending.nodes .no, .sl .dt q0.pending.af .no], .agg [.int .i64 q1.header, .str q1.ae, .int .i64 q1.order, .int .i64 q1.update, .sl .stop q1.nodes .no, .sl .dt q1.af .no], .bool q2]) [])
def BX (fn:pr R):=bx BV BW (FW fn)
section
variable (ck:gA R) (cE:hD R) (cS:m7 R) (bP:nE R) (dh:na R)
def HL:List (xm R) := [(36,false,(rL ck aL)),(37,false,(tF cE aL)),(35,true,(yJ cS aL)),(25,false,(xP bP aL)),(34,true,(yN dh aL))]
def BY (x1:ad.bN) (x2:Int) (k0:ad.bN→Order→Bool→Option R):Option R :=
 bP x1 (fun y3=>dh x1 (fun y4=>bif (!y4)then (k0 y3 (⟨0,([]:aA),0,0,([]:List Stop),([]:List ad.Way)⟩:Order) false)else (bif x1.wait then (cS x1.pending (fun y5=>k0 y3 y5 true))else (let j30:=fun (z6:Int)=>let j29:=fun (z24:Bool) (NS:ad.bN) (Rt:Order)=>bif (!z24)then (bP x1 (fun Fp=>k0 Fp (⟨0,([]:aA),0,0,([]:List Stop),([]:List ad.Way)⟩:Order) false))else (cS Rt (fun Qn=>k0 (⟨NS.ae,NS.header,NS.order,NS.update,NS.aX,NS.seen,NS.path,NS.seq,true,NS.rel,true,⟨Rt.header,Rt.ae,Rt.order,Rt.update,Rt.nodes,Rt.af⟩⟩:ad.bN) Qn true)); bif (decide (x1.header≥(1000000000:Int)))then (bP x1 (fun VK=>k0 VK (⟨0,([]:aA),0,0,([]:List Stop),([]:List ad.Way)⟩:Order) false))else (let Zj:=fun (z7:Bool)=>bif z7 then (ck z6 y3 (fun y8 y9 vD=>j29 y9 vD y8))else (bif x1.open_ then (bif (decide (x1.rel<z6))then (bif (decide (x1.update<(1000000000:Int)))then (cE z6 y3 (fun Kb OS OT=>j29 OS OT Kb))else (bP x1 (fun Lm=>k0 Lm (⟨0,([]:aA),0,0,([]:List Stop),([]:List ad.Way)⟩:Order) false)))else (bP x1 (fun J9=>k0 J9 (⟨0,([]:aA),0,0,([]:List Stop),([]:List ad.Way)⟩:Order) false)))else (bP x1 (fun Ka=>k0 Ka (⟨0,([]:aA),0,0,([]:List Stop),([]:List ad.Way)⟩:Order) false))); bif (!x1.open_)then (bif (decide ((IntKind.i64.wrap (Int.tdiv (x1.path.length:Int) 2))>(0:Int)))then (Zj (decide (x1.order<(1000000000:Int))))else (Zj false))else (Zj false)); bif (decide (x2>(0:Int)))then (j30 (min x2 (IntKind.i64.wrap (Int.tdiv (x1.path.length:Int) 2))))else (j30 (IntKind.i64.wrap (Int.tdiv (x1.path.length:Int) 2)))))))
theorem NT:dT (R:=R) tt (HL ck cE cS bP dh) xo false Tryd.f15 BV BW (FW (BY ck cE cS bP dh)):=fun x y k=>by kernel_rfl
end
theorem MG:dG (R:=R) Tryd.prog (HL (R:=R) ck cE cS bP dh) := .d (xp R) rfl <| .d (zb R) rfl <| .c (Ai R) <| .d (wB R) rfl <| .c (Aj R) <| .n
def bB:pr R:=fun x1 x2 k0=>BY ck cE cS bP dh x1 x2 k0
theorem Dh (R:Type):mW Tryd.prog 15 (BX (bB (R:=R))):=bL TT mixed (MG (R:=R)) rfl rfl rfl rfl de (NT ck cE cS bP dh)

/-! ### slices.Min[[]int,int] -/
abbrev jO (R:Type):Type:=(List Int)→(Int→Option R)→Option R
abbrev oO:List cu := [.leaf (.sl (.int .i64))]
abbrev oP:List aw := []
def u0 (fn:jO R):mY R oO oP:=fun x y k=>fn x.1 (fun q0=>k (.int .i64 q0) [])
def vE (fn:jO R):=bx oO oP (u0 fn)
abbrev j0 (R:Type):Type:=Nat→(List Int)→Int→Int→(Int→Option R)→Option R
def gB:Hint := { live := [0,3,4],own := [],rows := [],cells := [],drop := [],out := [2,3] }
abbrev dN:Type:=(List Int)×Int×Int
def jz:dN→St:=fun d=>⟨.sl (.int .i64) d.1 .no::U 2 (.int .i64 d.2.1 :: .int .i64 d.2.2::U 20 ([])), []⟩
def j1 (K:Ex→St→Option R) (q0:Int):Option R:=K (.exit 0) ⟨U 3 (.int .i64 q0::U 21 ([])), []⟩
abbrev eU:List cu := .leaf (.sl (.int .i64))::PU 2 (.leaf (.int .i64) :: .leaf (.int .i64)::PU 20 ([]))
abbrev eV:List aw := []
def qE (x:cu.aQ eU) (y:aw.aQ eV):Nat:=(List.length x.1+Int.natAbs x.2.2.2.1+Int.natAbs x.2.2.2.2.1+64)
def Aq (x:cu.aQ eU) (y:aw.aQ eV):dN:=(x.1,x.2.2.2.1,x.2.2.2.2.1)
def pw (L:j0 R):nD R eU eV:=fun x y K=>L (qE x y) x.1 x.2.2.2.1 x.2.2.2.2.1 (j1 K)
section
variable (aN:j0 R)
def gC (bS:(List Int)→Int→Int→Option R) (x2:List Int) (x3:Int) (x4:Int) (e0:Int→Option R):Option R :=
 bif (decide (x4<(x2.length:Int)))then (cC (decide ((0:Int)≤x4)&&decide (x4<x2.length)) (bS x2 (min x3 (x2.getD x4.toNat (Ty.aC (.int .i64)))) (IntKind.i64.wrap (x4+1))))else (e0 x3)
def qF (K:Ex→St→Option R) (rc:dN→Option R) (d:dN):Option R:=gC (fun z0 z1 z2=>rc (z0,z1,z2)) d.1 d.2.1 d.2.2 (j1 K)
def gV:Nat→Option (Hint×bO R):=fun i=>match i with
 | 5=>some (gB,(bF eU eV (pw aN) dZ))
 | _=>none
theorem wL (K:Ex→St→Option R) (rc:St→Option R) (d:dN):roundOf tt (bQ []) (gV aN) 0 ((ah (ar Tryd.f55)).getD 0 .skip) gB (jz d) rc K=qF K (fun d=>rc (jz d)) d:=by kernel_rfl
def oQ (x1:List Int) (k0:Int→Option R):Option R :=
 bif (decide ((x1.length:Int)<(1:Int)))then (none)else (cC (decide ((0:Int)<x1.length)) (aN (List.length x1+Int.natAbs (x1.getD 0 (Ty.aC (.int .i64)))+Int.natAbs 1+64) x1 (x1.getD 0 (Ty.aC (.int .i64))) 1 (fun y5=>k0 y5)))
theorem Eh:dT (R:=R) tt [] (gV aN) false Tryd.f55 oO oP (u0 (oQ aN)):=fun x y k=>by kernel_rfl
end
def aN:j0 R
 | 0,_,_,_,_=>none
 | n+1,eE,eF,eR,e0=>gC (fun eE eF eR=>aN n eE eF eR e0) eE eF eR e0
def qG (K:Ex→St→Option R) (n:Nat) (d:dN):Option R:=aN n d.1 d.2.1 d.2.2 (j1 K)
theorem zc (other:bO R) (ho:dK tt (bQ []) (gV (R:=R) aN) 0 ((ah (ar Tryd.f55)).getD 0 .skip) gB other):dK tt (bQ []) (gV (R:=R) aN) 0 ((ah (ar Tryd.f55)).getD 0 .skip) gB (bF eU eV (pw (aN)) other) :=
 bM (A:=qG) ho (cI jz (qF) (qG) (fun _ _=>by kernel_rfl) (wL aN) (fun _ _ _=>by kernel_rfl)) qE Aq (fun _ _=>by kernel_rfl) (fun _ _ _=>by kernel_rfl)
def dj:jO R:=fun x1 k0=>oQ aN x1 k0
theorem Ar (R:Type):∀a∈ah (ar Tryd.f55),dY tt (bQ []) (gV (R:=R) aN) 0 a:=by
 refine dx 1 (by kernel_rfl) fun i hi => ?_
 match i,hi with
 | 0,_=>exact bw (by kernel_rfl) (zc _ cj)
 | n+1,hi=>omega
theorem BZ (R:Type):mW Tryd.prog 55 (vE (dj (R:=R))):=bL TT mixed .n rfl rfl rfl rfl (Ar R) (Eh aN)

/-! ### slices.Max[[]int,int] -/
abbrev jP (R:Type):Type:=(List Int)→(Int→Option R)→Option R
abbrev oR:List cu := [.leaf (.sl (.int .i64))]
abbrev oS:List aw := []
def u3 (fn:jP R):mY R oR oS:=fun x y k=>fn x.1 (fun q0=>k (.int .i64 q0) [])
def vF (fn:jP R):=bx oR oS (u3 fn)
abbrev j2 (R:Type):Type:=Nat→(List Int)→Int→Int→(Int→Option R)→Option R
def gD:Hint := { live := [0,3,4],own := [],rows := [],cells := [],drop := [],out := [2,3] }
abbrev dO:Type:=(List Int)×Int×Int
def jA:dO→St:=fun d=>⟨.sl (.int .i64) d.1 .no::U 2 (.int .i64 d.2.1 :: .int .i64 d.2.2::U 20 ([])), []⟩
def j3 (K:Ex→St→Option R) (q0:Int):Option R:=K (.exit 0) ⟨U 3 (.int .i64 q0::U 21 ([])), []⟩
abbrev eW:List cu := .leaf (.sl (.int .i64))::PU 2 (.leaf (.int .i64) :: .leaf (.int .i64)::PU 20 ([]))
abbrev eX:List aw := []
def qH (x:cu.aQ eW) (y:aw.aQ eX):Nat:=(List.length x.1+Int.natAbs x.2.2.2.1+Int.natAbs x.2.2.2.2.1+64)
def As (x:cu.aQ eW) (y:aw.aQ eX):dO:=(x.1,x.2.2.2.1,x.2.2.2.2.1)
def px (L:j2 R):nD R eW eX:=fun x y K=>L (qH x y) x.1 x.2.2.2.1 x.2.2.2.2.1 (j3 K)
section
variable (aO:j2 R)
def gE (bS:(List Int)→Int→Int→Option R) (x2:List Int) (x3:Int) (x4:Int) (e0:Int→Option R):Option R :=
 bif (decide (x4<(x2.length:Int)))then (cC (decide ((0:Int)≤x4)&&decide (x4<x2.length)) (bS x2 (max x3 (x2.getD x4.toNat (Ty.aC (.int .i64)))) (IntKind.i64.wrap (x4+1))))else (e0 x3)
def qI (K:Ex→St→Option R) (rc:dO→Option R) (d:dO):Option R:=gE (fun z0 z1 z2=>rc (z0,z1,z2)) d.1 d.2.1 d.2.2 (j3 K)
def gW:Nat→Option (Hint×bO R):=fun i=>match i with
 | 5=>some (gD,(bF eW eX (px aO) dZ))
 | _=>none
theorem wM (K:Ex→St→Option R) (rc:St→Option R) (d:dO):roundOf tt (bQ []) (gW aO) 0 ((ah (ar Tryd.f56)).getD 0 .skip) gD (jA d) rc K=qI K (fun d=>rc (jA d)) d:=by kernel_rfl
def oT (x1:List Int) (k0:Int→Option R):Option R :=
 bif (decide ((x1.length:Int)<(1:Int)))then (none)else (cC (decide ((0:Int)<x1.length)) (aO (List.length x1+Int.natAbs (x1.getD 0 (Ty.aC (.int .i64)))+Int.natAbs 1+64) x1 (x1.getD 0 (Ty.aC (.int .i64))) 1 (fun y5=>k0 y5)))
theorem Ei:dT (R:=R) tt [] (gW aO) false Tryd.f56 oR oS (u3 (oT aO)):=fun x y k=>by kernel_rfl
end
def aO:j2 R
 | 0,_,_,_,_=>none
 | n+1,eE,eF,eR,e0=>gE (fun eE eF eR=>aO n eE eF eR e0) eE eF eR e0
def qJ (K:Ex→St→Option R) (n:Nat) (d:dO):Option R:=aO n d.1 d.2.1 d.2.2 (j3 K)
theorem zd (other:bO R) (ho:dK tt (bQ []) (gW (R:=R) aO) 0 ((ah (ar Tryd.f56)).getD 0 .skip) gD other):dK tt (bQ []) (gW (R:=R) aO) 0 ((ah (ar Tryd.f56)).getD 0 .skip) gD (bF eW eX (px (aO)) other) :=
 bM (A:=qJ) ho (cI jA (qI) (qJ) (fun _ _=>by kernel_rfl) (wM aO) (fun _ _ _=>by kernel_rfl)) qH As (fun _ _=>by kernel_rfl) (fun _ _ _=>by kernel_rfl)
def dk:jP R:=fun x1 k0=>oT aO x1 k0
theorem Au (R:Type):∀a∈ah (ar Tryd.f56),dY tt (bQ []) (gW (R:=R) aO) 0 a:=by
 refine dx 1 (by kernel_rfl) fun i hi => ?_
 match i,hi with
 | 0,_=>exact bw (by kernel_rfl) (zd _ cj)
 | n+1,hi=>omega
theorem B0 (R:Type):mW Tryd.prog 56 (vF (dk (R:=R))):=bL TT mixed .n rfl rfl rfl rfl (Au R) (Ei aO)

/-! ### humpyard/state.Right -/
abbrev rO (R:Type):Type:=ad.State→(Bool→Option R)→Option R
abbrev ze:List cu := [.agg [.int .i64, .int .i64, .str, .int .i64, .int .i64, .bool, .int .i64, .int .i64, .bool, .int .i64]]
abbrev zf:List aw := []
def Ej (fn:rO R):mY R ze zf:=fun x y k=>fn (⟨x.1.1,x.1.2.1,x.1.2.2.1,x.1.2.2.2.1,x.1.2.2.2.2.1,x.1.2.2.2.2.2.1,x.1.2.2.2.2.2.2.1,x.1.2.2.2.2.2.2.2.1,(t8 x.1).1,(t8 x.1).2.1⟩:ad.State) (fun q0=>k (.bool q0) [])
def FX (fn:rO R):=bx ze zf (Ej fn)
section
variable (topic_Name:topic_Name_ty R) (dk:jP R) (dj:jO R)
def FY:List (xm R) := [(54,true,(topic_Name_s topic_Name aL)),(56,true,(vF dk aL)),(55,true,(vE dj aL))]
def zg (x1:ad.State) (k0:Bool→Option R):Option R :=
 topic_Name x1.ae (fun y2=>bif y2 then (dj ([x1.header,x1.aX,x1.order,x1.update,x1.node,x1.seq,x1.accepted]:List Int) (fun y3=>bif (decide (y3≥(0:Int)))then (dk ([x1.header,x1.aX,x1.order,x1.update,x1.node,x1.seq,x1.accepted]:List Int) (fun y4=>bif (decide (y4≤(1000000000:Int)))then (bif ((Int.tmod x1.seq 2)==0)then (bif x1.live then (k0 true)else (k0 (!x1.dW)))else (k0 false))else (k0 false)))else (k0 false)))else (k0 false))
theorem MH:dT (R:=R) tt (FY topic_Name dk dj) xo false Tryd.f39 ze zf (Ej (zg topic_Name dk dj)):=fun x y k=>by kernel_rfl
end
theorem KF:dG (R:=R) Tryd.prog (FY (R:=R) topic_Name dk dj) := .c (topic_Name_S_ok R) <| .c (B0 R) <| .c (BZ R) <| .n
def gn:rO R:=fun x1 k0=>zg topic_Name dk dj x1 k0
theorem Ji (R:Type):mW Tryd.prog 39 (FX (gn (R:=R))):=bL TT mixed (KF (R:=R)) rfl rfl rfl rfl de (MH topic_Name dk dj)

/-! ### cmp.isNaN[int] -/
abbrev nJ (R:Type):Type:=Int→(Bool→Option R)→Option R
abbrev vj:List cu := [.leaf (.int .i64)]
abbrev vk:List aw := []
def Av (fn:nJ R):mY R vj vk:=fun x y k=>fn x.1 (fun q0=>k (.bool q0) [])
def Di (fn:nJ R):=bx vj vk (Av fn)
section
def vl (x1:Int) (k0:Bool→Option R):Option R :=
 k0 (x1 != x1)
theorem Jj:dT (R:=R) tt [] xo false Tryd.f65 vj vk (Av vl):=fun x y k=>by kernel_rfl
end
def eN:nJ R:=fun x1 k0=>vl x1 k0
theorem GX (R:Type):mW Tryd.prog 65 (Di (eN (R:=R))):=bL TT mixed .n rfl rfl rfl rfl de (Jj)

/-! ### cmp.Compare[int] -/
abbrev lu (R:Type):Type:=Int→Int→(Int→Option R)→Option R
abbrev rP:List cu := [.leaf (.int .i64), .leaf (.int .i64)]
abbrev rQ:List aw := []
def wN (fn:lu R):mY R rP rQ:=fun x y k=>fn x.1 x.2.1 (fun q0=>k (.int .i64 q0) [])
def xZ (fn:lu R):=bx rP rQ (wN fn)
section
variable (eN:nJ R)
def ya:List (xm R) := [(65,true,(Di eN aL))]
def rR (x1:Int) (x2:Int) (k0:Int→Option R):Option R :=
 eN x1 (fun y3=>eN x2 (fun y4=>bif y3 then (bif y4 then (k0 0)else (k0 (-1)))else (bif y4 then (k0 1)else (bif (decide (x1<x2))then (k0 (-1))else (bif (decide (x1>x2))then (k0 1)else (k0 0))))))
theorem GY:dT (R:=R) tt (ya eN) xo false Tryd.f58 rP rQ (wN (rR eN)):=fun x y k=>by kernel_rfl
end
theorem Fq:dG (R:=R) Tryd.prog (ya (R:=R) eN) := .c (GX R) <| .n
def dq:lu R:=fun x1 x2 k0=>rR eN x1 x2 k0
theorem Ek (R:Type):mW Tryd.prog 58 (xZ (dq (R:=R))):=bL TT mixed (Fq (R:=R)) rfl rfl rfl rfl de (GY eN)

/-! ### cmp.Or[int] -/
abbrev uI (R:Type):Type:=(List Int)→(Int→Option R)→Option R
abbrev B1:List cu := [.leaf (.sl (.int .i64))]
abbrev B2:List aw := []
def FZ (fn:uI R):mY R B1 B2:=fun x y k=>fn x.1 (fun q0=>k (.int .i64 q0) [])
def HM (fn:uI R):=bx B1 B2 (FZ fn)
abbrev rS (R:Type):Type:=Nat→Int→(List Int)→Int→Int→(Int→Option R)→(Int→Int→Option R)→Option R
def nK:Hint := { live := [3,6,7,8],own := [],rows := [],cells := [],drop := [],out := [2,3] }
abbrev iz:Type:=Int×(List Int)×Int×Int
def qc:iz→St:=fun d=>⟨U 3 (.int .i64 d.1::U 2 (.sl (.int .i64) d.2.1 .no :: .int .i64 d.2.2.1 :: .int .i64 d.2.2.2::U 9 ([]))), []⟩
def rT (K:Ex→St→Option R) (q0:Int):Option R:=K (.exit 0) ⟨U 3 (.int .i64 q0::U 14 ([])), []⟩
def rU (K:Ex→St→Option R) (q0:Int) (q1:Int):Option R:=K (.ret) ⟨U 2 (.int .i64 q0 :: .int .i64 q1::U 14 ([])), []⟩
abbrev kA:List cu:=PU 3 (.leaf (.int .i64)::PU 2 (.leaf (.sl (.int .i64)) :: .leaf (.int .i64) :: .leaf (.int .i64)::PU 9 ([])))
abbrev kB:List aw := []
def Aw (x:cu.aQ kA) (y:aw.aQ kB):Nat:=(Int.natAbs x.2.2.2.1+List.length x.2.2.2.2.2.2.1+Int.natAbs x.2.2.2.2.2.2.2.1+Int.natAbs ((t8 x).1)+64)
def Jk (x:cu.aQ kA) (y:aw.aQ kB):iz:=(x.2.2.2.1,x.2.2.2.2.2.2.1,x.2.2.2.2.2.2.2.1,(t8 x).1)
def yb (L:rS R):nD R kA kB:=fun x y K=>L (Aw x y) x.2.2.2.1 x.2.2.2.2.2.2.1 x.2.2.2.2.2.2.2.1 ((t8 x).1) (rT K) (rU K)
section
variable (bV:rS R)
def nL (bS:Int→(List Int)→Int→Int→Option R) (x2:Int) (x3:List Int) (x4:Int) (x5:Int) (e0:Int→Option R) (e1:Int→Int→Option R):Option R :=
 bif (decide (x5<x4))then (cC (decide ((0:Int)≤x5)&&decide (x5<x3.length)) (bif ((x3.getD x5.toNat (Ty.aC (.int .i64))) != x2)then (e1 (x3.getD x5.toNat (Ty.aC (.int .i64))) x2)else (bS x2 x3 x4 (IntKind.i64.wrap (x5+1)))))else (e0 x2)
def Ax (K:Ex→St→Option R) (rc:iz→Option R) (d:iz):Option R:=nL (fun z0 z1 z2 z3=>rc (z0,z1,z2,z3)) d.1 d.2.1 d.2.2.1 d.2.2.2 (rT K) (rU K)
def rV:Nat→Option (Hint×bO R):=fun i=>match i with
 | 3=>some (nK,(bF kA kB (yb bV) dZ))
 | _=>none
theorem Fs (K:Ex→St→Option R) (rc:St→Option R) (d:iz):roundOf tt (bQ []) (rV bV) 0 ((ah (ar Tryd.f57)).getD 0 .skip) nK (qc d) rc K=Ax K (fun d=>rc (qc d)) d:=by kernel_rfl
def B3 (x1:List Int) (k0:Int→Option R):Option R :=
 bV (Int.natAbs 0+List.length x1+Int.natAbs (x1.length:Int)+Int.natAbs 0+64) 0 x1 (x1.length:Int) 0 (fun y6=>k0 y6) (fun y7 y8=>k0 y7)
theorem NU:dT (R:=R) tt [] (rV bV) false Tryd.f57 B1 B2 (FZ (B3 bV)):=fun x y k=>by kernel_rfl
end
def bV:rS R
 | 0,_,_,_,_,_,_=>none
 | n+1,eE,eF,eR,jZ,e0,e1=>nL (fun eE eF eR jZ=>bV n eE eF eR jZ e0 e1) eE eF eR jZ e0 e1
def Ay (K:Ex→St→Option R) (n:Nat) (d:iz):Option R:=bV n d.1 d.2.1 d.2.2.1 d.2.2.2 (rT K) (rU K)
theorem HN (other:bO R) (ho:dK tt (bQ []) (rV (R:=R) bV) 0 ((ah (ar Tryd.f57)).getD 0 .skip) nK other):dK tt (bQ []) (rV (R:=R) bV) 0 ((ah (ar Tryd.f57)).getD 0 .skip) nK (bF kA kB (yb (bV)) other) :=
 bM (A:=Ay) ho (cI qc (Ax) (Ay) (fun _ _=>by kernel_rfl) (Fs bV) (fun _ _ _=>by kernel_rfl)) Aw Jk (fun _ _=>by kernel_rfl) (fun _ _ _=>by kernel_rfl)
def iW:uI R:=fun x1 k0=>B3 bV x1 k0
theorem Jl (R:Type):∀a∈ah (ar Tryd.f57),dY tt (bQ []) (rV (R:=R) bV) 0 a:=by
 refine dx 1 (by kernel_rfl) fun i hi => ?_
 match i,hi with
 | 0,_=>exact bw (by kernel_rfl) (HN _ cj)
 | n+1,hi=>omega
theorem KG (R:Type):mW Tryd.prog 57 (HM (iW (R:=R))):=bL TT mixed .n rfl rfl rfl rfl (Jl R) (NU bV)

/-! ### humpyard/state.Newer -/
abbrev rW (R:Type):Type:=ad.State→ad.State→(Bool→Option R)→Option R
abbrev zh:List cu := [.agg [.int .i64, .int .i64, .str, .int .i64, .int .i64, .bool, .int .i64, .int .i64, .bool, .int .i64], .agg [.int .i64, .int .i64, .str, .int .i64, .int .i64, .bool, .int .i64, .int .i64, .bool, .int .i64]]
abbrev zi:List aw := []
def El (fn:rW R):mY R zh zi:=fun x y k=>fn (⟨x.1.1,x.1.2.1,x.1.2.2.1,x.1.2.2.2.1,x.1.2.2.2.2.1,x.1.2.2.2.2.2.1,x.1.2.2.2.2.2.2.1,x.1.2.2.2.2.2.2.2.1,(t8 x.1).1,(t8 x.1).2.1⟩:ad.State) (⟨x.2.1.1,x.2.1.2.1,x.2.1.2.2.1,x.2.1.2.2.2.1,x.2.1.2.2.2.2.1,x.2.1.2.2.2.2.2.1,x.2.1.2.2.2.2.2.2.1,x.2.1.2.2.2.2.2.2.2.1,(t8 x.2.1).1,(t8 x.2.1).2.1⟩:ad.State) (fun q0=>k (.bool q0) [])
def F0 (fn:rW R):=bx zh zi (El fn)
section
variable (dq:lu R) (iW:uI R)
def F1:List (xm R) := [(58,true,(xZ dq aL)),(57,true,(HM iW aL))]
def zj (x1:ad.State) (x2:ad.State) (k0:Bool→Option R):Option R :=
 dq x1.aX x2.aX (fun y3=>dq x1.header x2.header (fun y4=>iW ([y3,y4]:List Int) (fun y5=>k0 (decide (y5>(0:Int))))))
theorem MI:dT (R:=R) tt (F1 dq iW) xo false Tryd.f40 zh zi (El (zj dq iW)):=fun x y k=>by kernel_rfl
end
theorem KH:dG (R:=R) Tryd.prog (F1 (R:=R) dq iW) := .c (Ek R) <| .c (KG R) <| .n
def gp:rW R:=fun x1 x2 k0=>zj dq iW x1 x2 k0
theorem Jm (R:Type):mW Tryd.prog 40 (F0 (gp (R:=R))):=bL TT mixed (KH (R:=R)) rfl rfl rfl rfl de (MI dq iW)

/-! ### (*humpyard/fleet.ctl).done -/
abbrev hG (R:Type):Type:=ad.bN→(aA→Int→Int→Int→Int→Int→(List Int)→Int→Bool→Int→Bool→Int→aA→Int→Int→Option R)→Option R
abbrev mf:List cu := [.leaf (.ptr 0 0)]
abbrev mg:List aw := [.cells [.str, .int .i64, .int .i64, .int .i64, .int .i64, .int .i64, .sl (.int .i64), .int .i64, .bool, .int .i64, .bool, .int .i64, .str, .int .i64, .int .i64, .sl .stop, .sl .dt]]
def rX (fn:hG R):mY R mf mg:=fun x y k=>fn (⟨y.1.1,y.1.2.1,y.1.2.2.1,y.1.2.2.2.1,y.1.2.2.2.2.1,y.1.2.2.2.2.2.1,y.1.2.2.2.2.2.2.1,y.1.2.2.2.2.2.2.2.1,(t8 y.1).1,(t8 y.1).2.1,(t8 y.1).2.2.1,⟨(t8 y.1).2.2.2.1,(t8 y.1).2.2.2.2.1,(t8 y.1).2.2.2.2.2.1,(t8 y.1).2.2.2.2.2.2.1,(t8 y.1).2.2.2.2.2.2.2.1,(t8 (t8 y.1)).1⟩⟩:ad.bN) (fun q0 q1 q2 q3 q4 q5 q6 q7 q8 q9 vm HO Yg Yh Yi=>k (.tuple []) [.cells [.str q0, .int .i64 q1, .int .i64 q2, .int .i64 q3, .int .i64 q4, .int .i64 q5, .sl (.int .i64) q6 .no, .int .i64 q7, .bool q8, .int .i64 q9, .bool vm, .int .i64 HO, .str Yg, .int .i64 Yh, .int .i64 Yi, .aI, .aI]])
def tH (fn:hG R):=bx mf mg (rX fn)
section
def mh (x1:ad.bN) (k0:aA→Int→Int→Int→Int→Int→(List Int)→Int→Bool→Int→Bool→Int→aA→Int→Int→Option R):Option R :=
 k0 x1.ae x1.header x1.order x1.update x1.aX x1.seen x1.path x1.seq x1.open_ x1.rel false 0 ([]:aA) 0 0
theorem B4:dT (R:=R) tt [] xo false Tryd.f41 mf mg (rX mh):=fun x y k=>by kernel_rfl
end
def cF:hG R:=fun x1 k0=>mh x1 k0
theorem zk (R:Type):mW Tryd.prog 41 (tH (cF (R:=R))):=bL TT mixed .n rfl rfl rfl rfl de (B4)

end Go.Proofs.YtolnaonmpohciaaDoor

set_option maxRecDepth 100000
namespace Go.Proofs.YtolnaonmpohciaaDoor
open Go Go.ad Go.Lib

def Fm (d:Bi):Prop:=(d.iL=0∧d.exp=0)∨(Int.tmod d.iL 10≠0 ∧ -1000000000000000≤d.iL∧d.iL≤1000000000000000 ∧ -9≤d.exp∧d.exp≤9)

theorem Fm.bounds {d:Bi} (h:Fm d) : -1000000000000000≤d.iL∧d.iL≤1000000000000000 ∧ -9≤d.exp∧d.exp≤9:=by
 rcases h with h|h <;> omega
theorem Fm.zero {d:Bi} (h:Fm d) (h0:d.iL=0):d=⟨0,0⟩:=by
 rcases h with h|h
 ·cases d; simp only at h; rw[h.1,h.2]
 ·exact (h.1 (by rw[h0]; rfl)).elim
theorem tmod_neg {m:Int} (h:Int.tmod m 10≠0):Int.tmod (-m) 10≠0:=by rw[Int.neg_tmod]; omega
theorem Fm.neg {d:Bi} (h:Fm d):Fm ⟨-d.iL,d.exp⟩:=by
 rcases h with h|h
 ·exact .inl ⟨by simp only; omega,h.2⟩
 ·exact .inr ⟨tmod_neg h.1,by simp only; omega,by simp only; omega,h.2.2.2⟩


def val (d:Bi):Int:=d.iL*10 ^ (d.exp+9).toNat

theorem Ru (u:Nat) (h:0<u):10 ^ (nDigits u - 1)≤u:=by
 induction u using Nat.strongRecOn with
 | _ u ih =>
  by_cases h1:u<10
  ·rw[nDigits_small h1]; exact h
  ·rw[nDigits_big h1,Nat.add_sub_cancel]
   have h2:=ih (u / 10) (by omega) (by omega)
   have h3:=nDigits_pos (u / 10)
   have e:nDigits (u / 10)=(nDigits (u / 10) - 1)+1:=by omega
   rw[e,Nat.pow_succ]
   omega

theorem Yj {u:Nat} (h:u≤1000000000000000):nDigits u≤16:=by
 rcases Nat.eq_zero_or_pos u with rfl|h0
 ·rw[nDigits_small (by omega)]; omega
 ·have h1:=Ru u h0
  rcases Nat.lt_or_ge (nDigits u) 17 with h2|h2
  ·omega
  ·have h3:(10:Nat) ^ 16≤10 ^ (nDigits u - 1):=Nat.pow_le_pow_right (by omega) (by omega)
   have e:(10:Nat) ^ 16=10000000000000000:=rfl
   omega

end Go.Proofs.YtolnaonmpohciaaDoor

set_option maxRecDepth 100000
namespace Go.Proofs.YtolnaonmpohciaaDoor
open Go Go.ad

end Go.Proofs.YtolnaonmpohciaaDoor

set_option maxRecDepth 100000
namespace Go.Proofs.YtolnaonmpohciaaDoor
open Go Go.ad Go.Lib

def lJ (n:Nat):aA:=List.replicate n 48
theorem OU (n:Nat):(lJ n).length=n:=List.length_replicate
def body (L:aA) (e:Int):aA :=
 if 0≤e then L++lJ e.toNat
 else
  let t:=lJ (max 0 (1 - e - (L.length:Int))).toNat++L
  t.take ((t.length:Int)+e).toNat ++ [46]++t.drop ((t.length:Int)+e).toNat
def prt (d:Bi):aA:=(if d.iL<0 then [45]else [])++body (decDigits d.iL.natAbs) d.exp


def plainP (s:aA):Option (Nat×aA) :=
 if s = []then none else if (decodeL s).1=65533∧(decodeL s).2=1 then none else if (decodeL s).1<32 then none else some ((decodeL s).1,s.drop (decodeL s).2)

def hexv (b:UInt8):Option Nat :=
 let n:=b.toNat
 if 48≤n∧n≤57 then some (n - 48)else if 65≤n∧n≤70 then some (n - 55)else if 97≤n∧n≤102 then some (n - 87)else none
def hexN:aA→Nat→Option Nat
 | [],v=>some v
 | b::t,v=>match hexv b with|some d=>hexN t (16*v+d)|none=>none



def unitP (s:aA):Option (Nat×aA):=if s.length<4 then none else match hexN (s.take 4) 0 with|some v=>some (v,s.drop 4)|none=>none
def longP (s:aA):Option (Nat×aA) :=
 match unitP s with
 | none=>none
 | some (v,r) =>
  if v<55296∨57344≤v then some (v,r)else if 56320≤v then none
  else if ([92,117]:aA).isPrefixOf r then
   match unitP (r.drop 2)with
   | none=>none
   | some (w,r2)=>if 56320≤w∧w<57344 then some (65536+(v - 55296)*1024+(w - 56320),r2)else none
  else none

def escP:aA→Option (Nat×aA)
 | []=>none
 | b::t =>
  if b.toNat=34∨b.toNat=92∨b.toNat=47 then some (b.toNat,t)else if b.toNat=98 then some (8,t)else if b.toNat=102 then some (12,t)else if b.toNat=110 then some (10,t)
  else if b.toNat=114 then some (13,t)else if b.toNat=116 then some (9,t)else if b.toNat=117 then longP t else none


def hexS:aA := [48,49,50,51,52,53,54,55,56,57,97,98,99,100,101,102]

def stepU (s:aA):Option (Nat×aA):=if ([92]:aA).isPrefixOf s then escP (s.drop 1)else plainP s
def uq:Nat→aA→aA→Option (aA×aA)
 | 0,_,_=>none
 | n+1,s,o=>if ([34]:aA).isPrefixOf s then some (o,s.drop 1)else match stepU s with|none=>none|some (c,r)=>uq n r (o++enc c)

def uqS (s:aA):Option (aA×aA):=if ([34]:aA).isPrefixOf s then uq (s.length+1) (s.drop 1) []else none




def tail (low v n:Nat):Nat:=if v<low∨1114111<v∨(55296≤v∧v≤57343)then 0 else n


def qb (b:UInt8):aA :=
 if b.toNat=34∨b.toNat=92 then [92,b]else if b.toNat=8 then [92,98]else if b.toNat=9 then [92,116]else if b.toNat=10 then [92,110]else if b.toNat=12 then [92,102]else if b.toNat=13 then [92,114]
 else if b.toNat<32 then [92,117,48,48,hexS.getD (b.toNat / 16) 0,hexS.getD (b.toNat % 16) 0]else [b]

theorem qb_len (b:UInt8):(qb b).length≤6:=by unfold qb; (repeat' split) <;> simp




theorem dec_all (u:Nat):∀b∈decDigits u,48≤b.toNat∧b.toNat≤57:=by
 induction u using Nat.strongRecOn with
 | _ u ih =>
  intro b hb
  by_cases h:u<10
  ·rw[decDigits,dif_pos h]at hb
   simp only[List.mem_cons,List.not_mem_nil,or_false]at hb
   subst hb
   rw[Tg _ (by omega)]; omega
  ·rw[decDigits,dif_neg h]at hb
   rcases List.mem_append.1 hb with hb|hb
   ·exact ih (u / 10) (by omega) b hb
   ·simp only[List.mem_cons,List.not_mem_nil,or_false]at hb
    subst hb
    rw[Tg _ (by omega)]; omega
theorem VL (u:Nat) (hu:0<u):∃b t,decDigits u=b::t∧b.toNat≠48:=by
 induction u using Nat.strongRecOn with
 | _ u ih =>
  by_cases h:u<10
  ·exact ⟨_, [],by rw[decDigits,dif_pos h],by rw[Tg _ (by omega)]; omega⟩
  ·obtain ⟨b,t,e,hb⟩:=ih (u / 10) (by omega) (by omega)
   exact ⟨b,t ++ [UInt8.ofNat (48+u % 10)],by rw[decDigits,dif_neg h,e]; rfl,hb⟩

def Az (signs s:aA):Nat×aA:=match s with | []=>(0, [])|b::t=>if signs.contains b then (b.toNat,t)else (0,b::t)

def digS:aA := [48,49,50,51,52,53,54,55,56,57]
def MJ (b:UInt8):Prop:=48≤b.toNat∧b.toNat≤57
theorem VM (d:Bi) (hd:Fm d) (h0:d.iL≠0):∃(I F:aA) (pt:Bool) (a b:Nat),prt d=(if decide (d.iL<0)then [45]else [])++(I++(if pt then 46::F else [])) ∧
  I++F=lJ a++(decDigits d.iL.natAbs++lJ b)∧I ≠ []∧(1<I.length→(I.getD 0 0).toNat≠48)∧(pt=true→F ≠ [])∧(pt=false→F = [])∧(F.length:Int)=(b:Int) - d.exp∧I.length+F.length≤40∧(∀x∈I,MJ x)∧(∀x∈F,MJ x):=by
 have bd:=hd.bounds
 have vM:=dec_all d.iL.natAbs
 have hlen:(decDigits d.iL.natAbs).length≤16:=by rw[decDigits_length]; exact Yj (by omega)
 have Hf:1≤(decDigits d.iL.natAbs).length:=by rw[decDigits_length]; exact nDigits_pos _
 obtain ⟨x0,t0,Ti,hx0⟩:=VL d.iL.natAbs (by omega)
 have hsg:(if d.iL<0 then ([45]:aA)else [])=if decide (d.iL<0)then [45]else []:=by by_cases h:d.iL<0 <;> simp[h]
 unfold prt
 rw[hsg]
 generalize decDigits d.iL.natAbs=L at *
 by_cases he:0≤d.exp
 ·refine ⟨L++lJ d.exp.toNat, [],false,0,d.exp.toNat,?_,by simp[lJ],?_,fun _ => ?_,by simp,by simp,by simp; omega,?_,?_,by simp⟩
  ·unfold body; rw[if_pos he]; simp
  ·rw[Ti]; simp
  ·rw[Ti]; exact hx0
  ·rw[List.length_append,OU,List.length_nil]; omega
  ·intro x hx
   rcases List.mem_append.1 hx with hx|hx
   ·exact vM x hx
   ·have:=List.eq_of_mem_replicate hx
    subst this; unfold MJ; decide
 ·have hz:∃z:Nat,(max 0 (1 - d.exp - (L.length:Int))).toNat=z:=⟨_,rfl⟩
  obtain ⟨z,hz⟩:=hz
  have tl:(lJ z++L).length=z+L.length:=by rw[List.length_append,OU]
  have Qm:(((lJ z++L).length:Int)+d.exp).toNat=(lJ z++L).length - d.exp.natAbs:=by omega
  have h1:d.exp.natAbs+1≤(lJ z++L).length:=by omega
  have tdig:∀x∈lJ z++L,MJ x:=by
   intro x hx
   rcases List.mem_append.1 hx with hx|hx
   ·have:=List.eq_of_mem_replicate hx
    subst this; unfold MJ; decide
   ·exact vM x hx
  have tfirst:z=0→((lJ z++L).getD 0 0).toNat≠48:=by
   rintro rfl
   rw[Ti]
   exact hx0
  refine ⟨(lJ z++L).take ((lJ z++L).length - d.exp.natAbs),(lJ z++L).drop ((lJ z++L).length - d.exp.natAbs),true,z,0,?_,?_,?_,?_,fun _ => ?_,(fun h=>by cases h),?_,?_,?_,?_⟩
  ·unfold body
   rw[if_neg he]
   simp only[hz,Qm,if_true]
   simp
  ·rw[List.take_append_drop]; simp[lJ]
  ·intro e
   have:=congrArg List.length e
   rw[List.length_take,List.length_nil]at this
   omega
  ·intro hI
   rw[List.length_take]at hI
   have e:((lJ z++L).take ((lJ z++L).length - d.exp.natAbs)).getD 0 0=(lJ z++L).getD 0 0:=by
    have:=(Rr (s:=(lJ z++L).take ((lJ z++L).length - d.exp.natAbs)) (t:=(lJ z++L).drop ((lJ z++L).length - d.exp.natAbs)) (i:=0) (by rw[List.length_take]; omega)).symm
    rw[List.take_append_drop]at this
    exact this
   rw[e]
   exact tfirst (by omega)
  ·intro e
   have:=congrArg List.length e
   rw[List.length_drop,List.length_nil]at this
   omega
  ·rw[List.length_drop]; omega
  ·rw[List.length_take,List.length_drop]; omega
  ·intro x hx; exact tdig x (List.mem_of_mem_take hx)
  ·intro x hx; exact tdig x (List.mem_of_mem_drop hx)

theorem Yk:prt ⟨0,0⟩ = [48]:=by
 show []++body (decDigits 0) 0 = [48]
 rw[decDigits_one (by omega)]
 rfl



abbrev isD (b:UInt8):Bool:=digS.contains b
abbrev takeD (s:aA):aA:=s.takeWhile isD
abbrev Yl (s:aA):aA:=s.dropWhile isD

def valD:aA→Nat→Nat
 | [],v=>v
 | b::s,v=>valD s (10*v+(b.toNat - 48))
def expP (X:aA):Int×Bool×aA :=
 let q:=Az [43,45] X
 let v:Int:=min (valD (takeD q.2) 0:Int) 1000000
 (if q.1=45 then -v else v, !(takeD q.2 == []),Yl q.2)

def finD (neg:Bool) (all:aA) (x:Int):Bi×Bool :=
 if Ui (og all [48]) [48] = []then (⟨0,0⟩,true)
 else mkD (if neg then -(valD (Ui (og all [48]) [48]) 0:Int)else (valD (Ui (og all [48]) [48]) 0:Int)) (x+(((og all [48]).length:Int) - ((Ui (og all [48]) [48]).length:Int)))

def noD:Bi×Bool:=(⟨0,0⟩,false)
def tailD (neg:Bool) (all:aA) (x:Int) (X:aA):Bi×Bool :=
 if (Az [101,69] X).1=0 then (if (Az [101,69] X).2 = []then finD neg all x else noD)
 else if (expP (Az [101,69] X).2).2.1=false then noD
 else if (expP (Az [101,69] X).2).2.2 = []then finD neg all (x+(expP (Az [101,69] X).2).1)else noD

def Ym (s:aA):Bi×Bool :=
 let q:=Az [45] s
 let I:=takeD q.2
 let r:=Yl q.2
 if 400<s.length then noD else if I = []then noD else if 1<I.length∧(I.getD 0 0).toNat=48 then noD
 else if (Az [46] r).1=0 then tailD (q.1 != 0) I 0 (Az [46] r).2
 else if takeD (Az [46] r).2 = []then noD
 else tailD (q.1 != 0) (I++takeD (Az [46] r).2) (-((takeD (Az [46] r).2).length:Int)) (Yl (Az [46] r).2)


def numS:aA := [48,49,50,51,52,53,54,55,56,57,43,45,46,101,69]
def letS:aA := [97,98,99,100,101,102,103,104,105,106,107,108,109,110,111,112,113,114,115,116,117,118,119,120,121,122]
def blaS:aA := [32,9,10,13]
def sigS:aA := [123,125,91,93,44,58]
def Rv (b:UInt8):Bool:=numS.contains b
def VN (b:UInt8):Bool:=letS.contains b
def blaB (b:UInt8):Bool:=blaS.contains b
def sigB (b:UInt8):Bool:=sigS.contains b
def F2:aA := [116,114,117,101]
def zl:aA := [102,97,108,115,101]
def F3:aA := [110,117,108,108]

def tokS (s:aA):Option (Token×aA) :=
 match s with
 | []=>none
 | c::t =>
  if c.toNat=45∨(48≤c.toNat∧c.toNat≤57)then
   (if (Ym (s.takeWhile Rv)).2 then some (⟨3,s.takeWhile Rv,(Ym (s.takeWhile Rv)).1,0⟩,s.dropWhile Rv)else none)
  else if c.toNat=34 then (match uqS s with|some (o,r)=>some (⟨2,o,⟨0,0⟩,0⟩,r)|none=>none)
  else if sigB c then some (⟨1, [c],⟨0,0⟩,0⟩,t)
  else if s.takeWhile VN=F2∨s.takeWhile VN=zl∨s.takeWhile VN=F3 then some (⟨4,s.takeWhile VN,⟨0,0⟩,0⟩,s.dropWhile VN)
  else none

abbrev vG:=aA×aA×Token
def zm:List vG→aA→aA
 | [],z=>z
 | x::l,z=>x.1++(x.2.1++zm l z)
def stopR (r:aA):Prop:=r = []∨∃b u,r=b::u∧Rv b=false∧VN b=false
theorem VO {d:Bi} (hd:Fm d):(∀b∈prt d,Rv b=true)∧(∃c u,prt d=c::u∧(c.toNat=45∨(48≤c.toNat∧c.toNat≤57)))∧(prt d).length≤60:=by
 have dig:∀b:UInt8,MJ b→Rv b=true:=fun b hb=>by
  have all:∀n:Fin 256,(48≤n.val∧n.val≤57)→Rv (UInt8.ofNat n.val)=true:=by decide +kernel
  have:=all ⟨b.toNat,UInt8.toNat_lt b⟩ hb
  simpa using this
 by_cases h0:d.iL=0
 ·rw[hd.zero h0,Yk]
  exact ⟨by decide,⟨48, [],rfl,by decide⟩,by simp⟩
 ·obtain ⟨I,F,pt,a,b,e1,e2,i0,i1,f0,f1,fl,il,iD,fD⟩:=VM d hd h0
  rw[e1]
  refine ⟨fun x hx => ?_,?_,?_⟩
  ·rcases List.mem_append.1 hx with hx|hx
   ·split at hx
    ·simp at hx; subst hx; decide
    ·simp at hx
   ·rcases List.mem_append.1 hx with hx|hx
    ·exact dig x (iD x hx)
    ·split at hx
     ·rcases List.mem_cons.1 hx with rfl|hx
      ·decide
      ·exact dig x (fD x hx)
     ·simp at hx
  ·cases I with
   | nil=>exact (i0 rfl).elim
   | cons c I =>
    cases decide (d.iL<0)with
    | true=>exact ⟨45,_,rfl,by decide⟩
    | false=>exact ⟨c,_,rfl, .inr (iD c (by simp))⟩
  ·cases hdn:decide (d.iL<0) <;> cases pt <;> simp <;> omega

def sg (c:UInt8):vG:=([], [c],⟨1, [c],⟨0,0⟩,0⟩)
theorem wO:∀(a b:List vG) (z:aA),zm (a++b) z=zm a (zm b z)
 | [],_,_=>rfl
 | x::a,b,z=>by simp only[List.cons_append,zm,wO a b z]


section
variable {R:Type} (k:Bi→Bool→Option R) (s:aA) (hs:s.length≤4000000000) (sg:Int) (hsg:sg=1∨sg = -1) (all:aA) (x:Int) (ha:∀c∈all,MJ c) (h0:all ≠ []) (hl:all.length≤900) (hx : -1000≤x∧x≤0)
include hs hsg ha h0 hl hx

end


def fmB (d:Bi):Bool:=(d.iL==0&&d.exp==0)||(Int.tmod d.iL 10 != 0&&(decide (-1000000000000000≤d.iL)&&decide (d.iL≤1000000000000000)&&(decide (-9≤d.exp)&&decide (d.exp≤9))))
theorem Ln {d:Bi}:fmB d=true↔Fm d:=by
 unfold fmB Fm
 simp[and_assoc]


def NV (d:Bi):aA:=if fmB d then prt d else []

def MK:List aA→List aA→Bool
 | _, []=>true
 | seen,n::l => !seen.contains n&&PV n&&MK (n::seen) l

mutual
def rY:Json→Int→Bool
 | ⟨k,n,t,ns,is⟩,d=>decide (d≤16)&&(decide (1≤k)&&decide (k≤7))&&(k==4||(n.iL==0&&n.exp==0))&&(k==5||t.isEmpty)&&(k==7||ns.isEmpty)&&(k==6||k==7||is.isEmpty) &&
   (if k=4 then fmB n else if k=5 then PV t else if k=7 then decide (ns.length=is.length)&&MK [] ns&&qd is (d+1)else qd is (d+1))
def qd:List Json→Int→Bool
 | [],_=>true
 | x::l,d=>rY x d&&qd l d
end

inductive Jn:Json→Int→Prop where
 | name (k:Int) (d:Int) (hd:d≤16) (hk:k=1∨k=2∨k=3):Jn ⟨k,⟨0,0⟩, [], [], []⟩ d
 | num (n:Bi) (d:Int) (hd:d≤16) (hn:Fm n):Jn ⟨4,n, [], [], []⟩ d
 | text (t:aA) (d:Int) (hd:d≤16) (ht:PV t=true):Jn ⟨5,⟨0,0⟩,t, [], []⟩ d
 | arr (is:List Json) (d:Int) (hd:d≤16) (hi:qd is (d+1)=true):Jn ⟨6,⟨0,0⟩, [], [],is⟩ d
 | obj (ns:List aA) (is:List Json) (d:Int) (hd:d≤16) (hl:ns.length=is.length) (hu:MK [] ns=true) (hi:qd is (d+1)=true):Jn ⟨7,⟨0,0⟩, [],ns,is⟩ d

theorem wP {v:Json} {d:Int}:rY v d=true↔Jn v d:=by
 obtain ⟨k,⟨m,e⟩,t,ns,is⟩:=v
 constructor
 ·intro h
  simp only[rY,Bool.and_eq_true,Bool.or_eq_true,decide_eq_true_eq,beq_iff_eq,List.isEmpty_iff]at h
  obtain ⟨⟨⟨⟨⟨⟨hd,hk1,FK⟩,hn⟩,ht⟩,PO⟩,Zk⟩,hx⟩:=h
  have hk:k=1∨k=2∨k=3∨k=4∨k=5∨k=6∨k=7:=by omega
  rcases hk with rfl|rfl|rfl|rfl|rfl|rfl|rfl
  ·simp at hn ht PO Zk
   obtain ⟨rfl,rfl⟩:=hn
   subst ht PO Zk
   exact .name 1 d hd (by omega)
  ·simp at hn ht PO Zk
   obtain ⟨rfl,rfl⟩:=hn
   subst ht PO Zk
   exact .name 2 d hd (by omega)
  ·simp at hn ht PO Zk
   obtain ⟨rfl,rfl⟩:=hn
   subst ht PO Zk
   exact .name 3 d hd (by omega)
  ·simp at ht PO Zk hx
   subst ht PO Zk
   exact .num _ d hd (Ln.1 hx)
  ·simp at hn PO Zk hx
   obtain ⟨rfl,rfl⟩:=hn
   subst PO Zk
   exact .text t d hd hx
  ·simp at hn ht PO hx
   obtain ⟨rfl,rfl⟩:=hn
   subst ht PO
   exact .arr is d hd hx
  ·simp at hn ht hx
   obtain ⟨rfl,rfl⟩:=hn
   subst ht
   exact .obj ns is d hd hx.1.1 hx.1.2 hx.2
 ·intro h
  cases h with
  | name _ _ hd hk=>rcases hk with rfl|rfl|rfl <;> simp[rY,qd,hd]
  | num _ _ hd hn=>simp[rY,hd,Ln.2 hn]
  | text _ _ hd ht=>simp[rY,hd,ht]
  | arr _ _ hd hi=>simp[rY,hd,hi]
  | obj _ _ _ hd hl hu hi=>simp[rY,hd,hl,hu,hi]

def qtS (t:aA):aA:=34::(t.flatMap qb ++ [34])
mutual
def Em:Json→aA
 | ⟨k,n,t,ns,is⟩=>if k=1 then F3 else if k=2 then zl else if k=3 then F2 else if k=4 then NV n else if k=5 then qtS t else if k=7 then 123::(B5 ns is true ++ [125])else 91::(En is true ++ [93])
def En:List Json→Bool→aA
 | [],_ => []
 | x::l,first=>(if first then []else [44])++(Em x++En l false)
def B5:List aA→List Json→Bool→aA
 | _, [],_ => []
 | ns,x::l,first=>(if first then []else [44])++(qtS (ns.headD [])++(58::(Em x++B5 ns.tail l false)))
end

def txW (t:aA):vG:=([],qtS t,⟨2,t,⟨0,0⟩,0⟩)
mutual
def B6:Json→List vG
 | ⟨k,n,t,ns,is⟩=>if k=1 then [([],F3,⟨4,F3,⟨0,0⟩,0⟩)]else if k=2 then [([],zl,⟨4,zl,⟨0,0⟩,0⟩)]else if k=3 then [([],F2,⟨4,F2,⟨0,0⟩,0⟩)]
   else if k=4 then [([],NV n,⟨3,NV n,n,0⟩)]else if k=5 then [txW t]else if k=7 then sg 123::(rZ ns is true ++ [sg 125])else sg 91::(um is true ++ [sg 93])
def um:List Json→Bool→List vG
 | [],_ => []
 | x::l,first=>(if first then []else [sg 44])++(B6 x++um l false)
def rZ:List aA→List Json→Bool→List vG
 | _, [],_ => []
 | ns,x::l,first=>(if first then []else [sg 44])++(txW (ns.headD [])::sg 58::(B6 x++rZ ns.tail l false))
end

mutual
theorem OV:∀(v:Json) (z:aA),zm (B6 v) z=Em v++z
 | ⟨k,n,t,ns,is⟩,z=>by
  have hL:=ML is true
  have hO:=MN ns is true
  simp only[B6,Em]
  split
  ·simp[zm]
  split
  ·simp[zm]
  split
  ·simp[zm]
  split
  ·simp[zm]
  split
  ·simp[zm,txW]
  split
  ·simp only[zm,sg,wO,hO]; simp[zm,sg]
  ·simp only[zm,sg,wO,hL]; simp[zm,sg]
theorem ML:∀(l:List Json) (first:Bool) (z:aA),zm (um l first) z=En l first++z
 | [],_,z=>rfl
 | x::l,first,z=>by
  have h1:=OV x
  have h2:=ML l false
  simp only[um,En]
  rw[wO,wO,h1,h2]
  cases first <;> simp[zm,sg]
theorem MN:∀(ns:List aA) (l:List Json) (first:Bool) (z:aA),zm (rZ ns l first) z=B5 ns l first++z
 | ns, [],_,z=>by simp[rZ,B5,zm]
 | ns,x::l,first,z=>by
  have h1:=OV x
  have h2:=MN ns.tail l false
  simp only[rZ,B5]
  rw[wO]
  simp only[zm,txW,sg,wO,h1,h2]
  cases first <;> simp[zm,sg]
end


mutual
def VP:Json→Bool
 | ⟨_,_,t,ns,is⟩=>decide (ns.length≤1099511627776)&&decide (is.length≤1099511627776)&&Rw is&&(decide (t.length≤10000000000)&&ns.all fun n=>decide (n.length≤10000000000))
def Rw:List Json→Bool
 | []=>true
 | x::l=>VP x&&Rw l
end
theorem Rx {v:Json}:VP v=true↔v.names.length≤1099511627776∧v.items.length≤1099511627776∧Rw v.items=true∧v.text.length≤10000000000∧∀n∈v.names,n.length≤10000000000:=by
 obtain ⟨k,n,t,ns,is⟩:=v
 simp[VP,and_assoc]



abbrev Bad:=Int×List Token
def qK (x:aA):List Token→Option (List Token)
 | t::r=>if t.kind=1∧t.text=x then some r else none
 | []=>none
def Yn (ns:List aA):List Token→Except Bad (aA×List Token)
 | t::r =>
  if t.kind≠2 then .error (40,t::r)else if ns.contains t.text then .error (42,t::r)else
   match qK [58] r with
   | some r' => .ok (t.text,r')
   | none => .error (40,r)
 | [] => .error (0, [])
def Ry (f:List Token→Except Bad (Json×List Token)) (obj:Bool) (ns:List aA) (is:List Json) (ts:List Token):Except Bad ((List aA×List Json)×List Token) :=
 match obj with
 | true =>
  (match Yn ns ts with
   | .error b => .error b
   | .ok (nm,ts1)=>(match f ts1 with | .error b => .error b | .ok (v,ts2) => .ok ((ns ++ [nm],is ++ [v]),ts2)))
 | false=>(match f ts with | .error b => .error b | .ok (v,ts2) => .ok ((ns,is ++ [v]),ts2))
def OW (f:List Token→Except Bad (Json×List Token)) (cl:aA) (obj:Bool):Nat→List aA→List Json→List Token→Except Bad ((List aA×List Json)×List Token)
 | 0,_,_,ts => .error (0,ts)
 | m+1,ns,is,ts =>
  match Ry f obj ns is ts with
  | .error b => .error b
  | .ok (p,ts2) =>
   match qK cl ts2 with
   | some r => .ok (p,r)
   | none =>
    match qK [44] ts2 with
    | some r=>OW f cl obj m p.1 p.2 r
    | none => .error (40,ts2)
def Yo (t:aA):Bool:=t==F3||(t==zl||t==F2)
def Tj:List (aA×Int) := [(F3,1),(zl,2),(F2,3)]
def Rz (t:aA):Bool:=t == [91]||t == [123]
def uo (t:Token):Bool:=t.kind==2||(t.kind==3||(t.kind==4||(t.kind==1&&Rz t.text)))
def B7:Nat→Int→List Token→Except Bad (Json×List Token)
 | 0,_,ts => .error (0,ts)
 | _+1,_, [] => .error (0, [])
 | n+1,d,t::r =>
  if uo t=false then .error (40,t::r)else
  if d>16 then .error (41,t::r)else
  if t.kind=1∧Rz t.text=true then
   let obj:=t.text == [123]
   let k:Int:=if obj then 7 else 6
   let cl:aA:=if obj then [125]else [93]
   match qK cl r with
   | some r' => .ok (⟨k,⟨0,0⟩, [], [], []⟩,r')
   | none =>
    match OW (B7 n (d+1)) cl obj (r.length+1) [] [] r with
    | .error b => .error b
    | .ok (p,r') => .ok (⟨k,⟨0,0⟩, [],p.1,p.2⟩,r')
  else if t.kind=4∧Yo t.text=true then .ok (⟨pQ .str (.int .i64) t.text Tj,⟨0,0⟩, [], [], []⟩,r)
  else if t.kind=3 then .ok (⟨4,t.num, [], [], []⟩,r)
  else .ok (⟨5,⟨0,0⟩,t.text, [], []⟩,r)


def endT (ts:List Token):Prop:=∃e,ts.getLast? = some e∧e.kind=5
theorem endT.tail {t:Token} {r:List Token} (h:endT (t::r)) (ht:t.kind≠5):endT r:=by
 obtain ⟨e,h1,h2⟩:=h
 cases r with
 | nil =>
  simp at h1
  subst h1
  exact (ht h2).elim
 | cons u r=>exact ⟨e,by simpa [List.getLast?_cons_cons]using h1,h2⟩








def Tk (t:Token):Int×aA×Bi:=(t.kind,t.text,t.num)


def Uk (x:vG):Int×aA×Bi:=Tk x.2.2
theorem B8 {ts:List Token} {x:vG} {l:List vG} (h:ts.map Tk=(x::l).map Uk):∃t r,ts=t::r∧Tk t=Uk x∧r.map Tk=l.map Uk:=by
 cases ts with
 | nil=>cases h
 | cons t r =>
  simp only[List.map_cons,List.cons.injEq]at h
  exact ⟨t,r,rfl,h.1,h.2⟩
theorem PZ {ts:List Token} {a b:List vG} (h:ts.map Tk=(a++b).map Uk):∃u v,ts=u++v∧u.map Tk=a.map Uk∧v.map Tk=b.map Uk:=by
 rw[List.map_append]at h
 obtain ⟨u,v,e,h1,h2⟩:=List.map_eq_append_iff.1 h
 exact ⟨u,v,e,h1,h2⟩
theorem MO {ts:List Token} {x:vG} (h:ts.map Tk = [x].map Uk):∃t,ts = [t]∧Tk t=Uk x:=by
 obtain ⟨t,r,e,h1,h2⟩:=B8 h
 cases r with
 | nil=>exact ⟨t,e,h1⟩
 | cons u r=>cases h2
theorem r8 {t:Token} {x:vG} (h:Tk t=Uk x):t.kind=x.2.2.kind∧t.text=x.2.2.text∧t.num=x.2.2.num:=by
 unfold Uk Tk at h
 simp only[Prod.mk.injEq]at h
 exact h

theorem Yp {n:Nat} {d:Int} (hd:d≤16) {t:Token} {rest:List Token} {x:aA} (hx:x=F3∨x=zl∨x=F2) (hk:t.kind=4) (ht:t.text=x) :
  B7 (n+1) d (t::rest) = .ok (⟨pQ .str (.int .i64) x Tj,⟨0,0⟩, [], [], []⟩,rest):=by
 have h1:uo t=true:=by simp[uo,hk]
 have h2:Yo t.text=true:=by
  rw[ht]
  rcases hx with rfl|rfl|rfl <;> rfl
 simp only[B7]
 rw[if_neg (by rw[h1]; simp),if_neg (by omega),if_neg (by rw[hk]; simp),if_pos ⟨hk,h2⟩,ht]

theorem VQ {n:Nat} {d:Int} {ts:List Token} {p:Json×List Token} (h:B7 n d ts = .ok p):qK [93] ts=none∧qK [125] ts=none:=by
 cases n with
 | zero=>cases h
 | succ n =>
  cases ts with
  | nil=>cases h
  | cons t r =>
   simp only[B7]at h
   by_cases hs:uo t=false
   ·rw[if_pos hs]at h; cases h
   ·have gX:∀x:aA,x = [93]∨x = [125]→¬(t.kind=1∧t.text=x):=fun x hx ⟨h1,h2⟩=>by
     apply hs
     rcases hx with rfl|rfl <;> simp[uo,Rz,h1,h2]
    simp only[qK]
    rw[if_neg (gX _ (.inl rfl)),if_neg (gX _ (.inr rfl))]
    exact ⟨rfl,rfl⟩

mutual
theorem MP:∀(v:Json) (d:Int) (n:Nat) (ts rest:List Token),rY v d=true→17 - d<n→ts.map Tk=(B6 v).map Uk→B7 n d (ts++rest) = .ok (v,rest)
 | ⟨k,nm,t,ns,is⟩,d,0,ts,rest,h,hn,hw=>by
  have:d≤16:=by
   cases wP.1 h <;> assumption
  omega
 | ⟨k,nm,t,ns,is⟩,d,n+1,ts,rest,h,hn,hw=>by
  have hL:=RA is
  have hO:=RB ns is
  cases wP.1 h with
  | name _ _ hd hk =>
   have Hy:∀x:aA,(x=F3∨x=zl∨x=F2)→ts.map Tk = [(([],x,⟨4,x,⟨0,0⟩,0⟩):vG)].map Uk→B7 (n+1) d (ts++rest) = .ok (⟨pQ .str (.int .i64) x Tj,⟨0,0⟩, [], [], []⟩,rest):=fun x hx hw=>by
    obtain ⟨u,rfl,hu⟩:=MO hw
    obtain ⟨h1,h2,_⟩:=r8 hu
    exact Yp hd hx h1 h2
   rcases hk with rfl|rfl|rfl
   ·exact Hy F3 (.inl rfl) hw
   ·exact Hy zl (.inr (.inl rfl)) hw
   ·exact Hy F2 (.inr (.inr rfl)) hw
  | num _ _ hd hnm =>
   obtain ⟨u,rfl,hu⟩:=MO (x:=([],NV nm,⟨3,NV nm,nm,0⟩)) hw
   obtain ⟨h1,h2,h3⟩:=r8 hu
   simp only at h1 h2 h3
   have hs:uo u=true:=by simp[uo,h1]
   show B7 (n+1) d (u::rest)=_
   simp only[B7]
   rw[if_neg (by rw[hs]; simp),if_neg (by omega),if_neg (by rw[h1]; simp),if_neg (by rw[h1]; simp),if_pos h1,h3]
  | text _ _ hd ht =>
   obtain ⟨u,rfl,hu⟩:=MO (x:=txW t) hw
   obtain ⟨h1,h2,h3⟩:=r8 hu
   simp only[txW]at h1 h2 h3
   have hs:uo u=true:=by simp[uo,h1]
   show B7 (n+1) d (u::rest)=_
   simp only[B7]
   rw[if_neg (by rw[hs]; simp),if_neg (by omega),if_neg (by rw[h1]; simp),if_neg (by rw[h1]; simp),if_neg (by rw[h1]; simp),h2]
  | arr _ _ hd hi =>
   obtain ⟨u,ts2,rfl,hu,hw2⟩:=B8 (x:=sg 91) (l:=um is true ++ [sg 93]) hw
   obtain ⟨tl,tc,rfl,hl,La⟩:=PZ hw2
   obtain ⟨c,rfl,hc⟩:=MO La
   obtain ⟨h1,h2,_⟩:=r8 hu
   obtain ⟨c1,c2,_⟩:=r8 hc
   simp only[sg]at h1 h2 c1 c2
   have Bw:Rz u.text=true:=by rw[h2]; rfl
   have hs:uo u=true:=by simp[uo,h1,Bw]
   have ho7:(u.text==([123]:aA))=false:=by rw[h2]; rfl
   show B7 (n+1) d (u::(tl ++ [c]++rest))=_
   simp only[B7]
   rw[if_neg (by rw[hs]; simp),if_neg (by omega),if_pos ⟨h1,Bw⟩,ho7]
   simp only[Bool.false_eq_true,if_false]
   cases is with
   | nil =>
    obtain rfl:tl = []:=by simpa [um]using hl
    show (match qK [93] (c::rest)with|some r'=>_|none=>_)=_
    have:qK [93] (c::rest)=some rest:=by
     show (if c.kind=1∧c.text = [93]then some rest else none)=some rest
     rw[if_pos ⟨c1,c2⟩]
    rw[this]
   | cons x l =>
    obtain ⟨e1,e2⟩:=hL d n (tl ++ [c]++rest).length.succ [] [] tl c rest (by simp) hi (by omega) (by simp; omega) hl c1 c2
    rw[e1,e2]
    rfl
  | obj _ _ _ hd hlen hu7 hi =>
   obtain ⟨u,ts2,rfl,hu,hw2⟩:=B8 (x:=sg 123) (l:=rZ ns is true ++ [sg 125]) hw
   obtain ⟨tl,tc,rfl,hl,La⟩:=PZ hw2
   obtain ⟨c,rfl,hc⟩:=MO La
   obtain ⟨h1,h2,_⟩:=r8 hu
   obtain ⟨c1,c2,_⟩:=r8 hc
   simp only[sg]at h1 h2 c1 c2
   have Bw:Rz u.text=true:=by rw[h2]; rfl
   have hs:uo u=true:=by simp[uo,h1,Bw]
   have ho7:(u.text==([123]:aA))=true:=by rw[h2]; rfl
   show B7 (n+1) d (u::(tl ++ [c]++rest))=_
   simp only[B7]
   rw[if_neg (by rw[hs]; simp),if_neg (by omega),if_pos ⟨h1,Bw⟩,ho7]
   simp only[if_true]
   cases is with
   | nil =>
    obtain rfl:ns = []:=List.eq_nil_of_length_eq_zero hlen
    obtain rfl:tl = []:=by simpa [rZ]using hl
    show (match qK [125] (c::rest)with|some r'=>_|none=>_)=_
    have:qK [125] (c::rest)=some rest:=by
     show (if c.kind=1∧c.text = [125]then some rest else none)=some rest
     rw[if_pos ⟨c1,c2⟩]
    rw[this]
   | cons x l =>
    obtain ⟨e1,e2⟩:=hO d n (tl ++ [c]++rest).length.succ [] [] [] tl c rest (by simp) hlen hi hu7 (fun n=>rfl) (by omega) (by simp; omega) hl c1 c2
    rw[e1,e2]
    rfl
theorem RA:∀(is:List Json) (d:Int) (n m:Nat) (Qo:List aA) (R4:List Json) (tl:List Token) (c:Token) (rest:List Token),is ≠ []→qd is (d+1)=true→17 - (d+1)<n→tl.length<m →
  tl.map Tk=(um is true).map Uk→c.kind=1→c.text = [93]→qK [93] (tl ++ [c]++rest)=none∧OW (B7 n (d+1)) [93] false m Qo R4 (tl ++ [c]++rest) = .ok ((Qo,R4++is),rest)
 | [],_,_,_,_,_,_,_,_,h,_,_,_,_,_,_=>(h rfl).elim
 | x::l,d,n,0,Qo,R4,tl,c,rest,_,hr,hn,hm,hw,c1,c2=>by omega
 | x::l,d,n,m+1,Qo,R4,tl,c,rest,_,hr,hn,hm,hw,c1,c2=>by
  obtain ⟨tv,tr,rfl,hv,ht⟩:=PZ (a:=B6 x) (b:=um l false) hw
  simp only[qd,Bool.and_eq_true]at hr
  have hx:=MP x (d+1) n tv (tr ++ [c]++rest) hr.1 hn hv
  have hL:=RA l
  rw[show tv++tr ++ [c]++rest=tv++(tr ++ [c]++rest) by simp]
  refine ⟨(VQ hx).1,?_⟩
  have hp:Ry (B7 n (d+1)) false Qo R4 (tv++(tr ++ [c]++rest)) = .ok ((Qo,R4 ++ [x]),tr ++ [c]++rest):=by
   simp only[Ry,hx]
  simp only[OW,hp]
  cases l with
  | nil =>
   obtain rfl:tr = []:=by simpa [um]using ht
   have:qK [93] ([] ++ [c]++rest)=some rest:=by
    show (if c.kind=1∧c.text = [93]then some rest else none)=some rest
    rw[if_pos ⟨c1,c2⟩]
   rw[this]
  | cons y l' =>
   obtain ⟨u,VR,rfl,hu,ht'⟩:=B8 (x:=sg 44) (l:=um (y::l') true) ht
   obtain ⟨u1,u2,_⟩:=r8 hu
   simp only[sg]at u1 u2
   have s1:qK [93] (u::VR ++ [c]++rest)=none:=by
    show (if u.kind=1∧u.text = [93]then some (VR ++ [c]++rest)else none)=none
    rw[if_neg (by rw[u2]; rintro ⟨_,h⟩; cases h)]
   have s2:qK [44] (u::VR ++ [c]++rest)=some (VR ++ [c]++rest):=by
    show (if u.kind=1∧u.text = [44]then some (VR ++ [c]++rest)else none)=_
    rw[if_pos ⟨u1,u2⟩]
   rw[s1,s2]
   obtain ⟨_,e2⟩:=hL d n m Qo (R4 ++ [x]) VR c rest (by simp) hr.2 hn (by simp at hm; omega) ht' c1 c2
   simp only
   rw[e2]
   simp
theorem RB:∀(ns:List aA) (is:List Json) (d:Int) (n m:Nat) (Qo:List aA) (R4:List Json) (seen:List aA) (tl:List Token) (c:Token) (rest:List Token),is ≠ []→ns.length=is.length→qd is (d+1)=true→MK seen ns=true→(∀n,Qo.contains n=seen.contains n) →
  17 - (d+1)<n→tl.length<m →
  tl.map Tk=(rZ ns is true).map Uk→c.kind=1→c.text = [125]→qK [125] (tl ++ [c]++rest)=none∧OW (B7 n (d+1)) [125] true m Qo R4 (tl ++ [c]++rest) = .ok ((Qo++ns,R4++is),rest)
 | _, [],_,_,_,_,_,_,_,_,_,h,_,_,_,_,_,_,_,_,_=>(h rfl).elim
 | [],x::l,d,n,m,Qo,R4,seen,tl,c,rest,_,hlen,hr,hu,hsn,hn,hm,hw,c1,c2=>by cases hlen
 | nm::ns,x::l,d,n,0,Qo,R4,seen,tl,c,rest,_,hlen,hr,hu,hsn,hn,hm,hw,c1,c2=>by omega
 | nm::ns,x::l,d,n,m+1,Qo,R4,seen,tl,c,rest,_,hlen,hr,hu,hsn,hn,hm,hw,c1,c2=>by
  obtain ⟨tn,tl1,rfl,hn1,hw1⟩:=B8 (x:=txW nm) (l:=sg 58::(B6 x++rZ ns l false)) hw
  obtain ⟨tk,tl2,rfl,hk1,hw2⟩:=B8 hw1
  obtain ⟨tv,tr,rfl,hv,ht⟩:=PZ hw2
  obtain ⟨n1,n2,_⟩:=r8 hn1
  obtain ⟨k1,k2,_⟩:=r8 hk1
  simp only[txW]at n1 n2
  simp only[sg]at k1 k2
  simp only[qd,Bool.and_eq_true]at hr
  simp only[MK,Bool.and_eq_true,Bool.not_eq_true']at hu
  have hx:=MP x (d+1) n tv (tr ++ [c]++rest) hr.1 hn hv
  have hO:=RB ns l
  rw[show tn::tk::(tv++tr) ++ [c]++rest=tn::tk::(tv++(tr ++ [c]++rest)) by simp]
  refine ⟨?_,?_⟩
  ·show (if tn.kind=1∧tn.text = [125]then some _ else none)=none
   rw[if_neg (by rw[n1]; rintro ⟨h,_⟩; cases h)]
  have hnm:Yn Qo (tn::tk::(tv++(tr ++ [c]++rest))) = .ok (nm,tv++(tr ++ [c]++rest)):=by
   simp only[Yn]
   rw[if_neg (by rw[n1]; simp),if_neg (by rw[n2,hsn,hu.1.1]; simp)]
   have:qK [58] (tk::(tv++(tr ++ [c]++rest)))=some (tv++(tr ++ [c]++rest)):=by
    show (if tk.kind=1∧tk.text = [58]then some (tv++(tr ++ [c]++rest))else none)=_
    rw[if_pos ⟨k1,k2⟩]
   rw[this,n2]
  have hp:Ry (B7 n (d+1)) true Qo R4 (tn::tk::(tv++(tr ++ [c]++rest))) = .ok ((Qo ++ [nm],R4 ++ [x]),tr ++ [c]++rest):=by
   simp only[Ry,hnm,hx]
  simp only[OW,hp]
  cases l with
  | nil =>
   obtain rfl:ns = []:=List.eq_nil_of_length_eq_zero (by simpa using hlen)
   obtain rfl:tr = []:=by simpa [rZ]using ht
   have:qK [125] ([] ++ [c]++rest)=some rest:=by
    show (if c.kind=1∧c.text = [125]then some rest else none)=some rest
    rw[if_pos ⟨c1,c2⟩]
   rw[this]
  | cons y l' =>
   obtain ⟨u,VR,rfl,hu2,ht'⟩:=B8 (x:=sg 44) (l:=rZ ns (y::l') true) ht
   obtain ⟨u1,u2,_⟩:=r8 hu2
   simp only[sg]at u1 u2
   have s1:qK [125] (u::VR ++ [c]++rest)=none:=by
    show (if u.kind=1∧u.text = [125]then some (VR ++ [c]++rest)else none)=none
    rw[if_neg (by rw[u2]; rintro ⟨_,h⟩; cases h)]
   have s2:qK [44] (u::VR ++ [c]++rest)=some (VR ++ [c]++rest):=by
    show (if u.kind=1∧u.text = [44]then some (VR ++ [c]++rest)else none)=_
    rw[if_pos ⟨u1,u2⟩]
   rw[s1,s2]
   obtain ⟨_,e2⟩:=hO d n m (Qo ++ [nm]) (R4 ++ [x]) (nm::seen) VR c rest (by simp) (by simpa using hlen) hr.2 hu.2 (fun z=>by
    rw[List.contains_append,hsn,List.contains_cons,List.contains_cons,List.contains_nil,Bool.or_false,Bool.or_comm]) hn (by simp at hm; omega) ht' c1 c2
   simp only
   rw[e2]
   simp
end

def tight (l:List vG):Prop:=∀x∈l,x.1 = []
mutual
theorem Yq:∀v:Json,tight (B6 v)
 | ⟨k,n,t,ns,is⟩=>by
  have hL:=Yr is
  have hO:=Ys ns is
  intro x hx
  simp only[B6]at hx
  split at hx
  ·simp at hx; rw[hx]
  split at hx
  ·simp at hx; rw[hx]
  split at hx
  ·simp at hx; rw[hx]
  split at hx
  ·simp at hx; rw[hx]
  split at hx
  ·simp[txW]at hx; rw[hx]
  split at hx
  ·simp only[List.mem_cons,List.mem_append,List.not_mem_nil,or_false]at hx
   rcases hx with rfl|hx|rfl
   ·rfl
   ·exact hO true x hx
   ·rfl
  ·simp only[List.mem_cons,List.mem_append,List.not_mem_nil,or_false]at hx
   rcases hx with rfl|hx|rfl
   ·rfl
   ·exact hL true x hx
   ·rfl
theorem Yr:∀(l:List Json) (first:Bool),tight (um l first)
 | [],_=>by intro x hx; simp[um]at hx
 | y::l,first=>by
  have h1:=Yq y
  have h2:=Yr l false
  intro x hx
  simp only[um,List.mem_append]at hx
  rcases hx with hx|hx|hx
  ·cases first
   ·simp at hx; rw[hx]; rfl
   ·simp at hx
  ·exact h1 x hx
  ·exact h2 x hx
theorem Ys:∀(ns:List aA) (l:List Json) (first:Bool),tight (rZ ns l first)
 | _, [],_=>by intro x hx; simp[rZ]at hx
 | ns,y::l,first=>by
  have h1:=Yq y
  have h2:=Ys ns.tail l false
  intro x hx
  simp only[rZ,List.mem_append,List.mem_cons]at hx
  rcases hx with hx|rfl|rfl|hx|hx
  ·cases first
   ·simp at hx; rw[hx]; rfl
   ·simp at hx
  ·rfl
  ·rfl
  ·exact h1 x hx
  ·exact h2 x hx
end


end Go.Proofs.YtolnaonmpohciaaDoor

namespace Go.ad
open Go.RowKit Go.Proofs.YtolnaonmpohciaaDoor Go.ChangeShapes Go.WideShapes

mutual
inductive Wt:Nat→V→Prop where
 | int {n:Nat} {k:IntKind} {z:Int} (h1:1≤n) (h:k.has z):Wt n (.int k z)
 | bool {n:Nat} (h1:1≤n) (b:Bool):Wt n (.bool b)
 | str {n:Nat} {s:aA} (h:s.length+1≤n):Wt n (.str s)
 | sl {n m:Nat} {T:Ty} {l:List T.den} (h:m+1≤n) (he:MQ m (l.map T.cells)):Wt n (.sl T l .no)
inductive Tl:Nat→List V→Prop where
 | nil:Tl 0 []
 | cons {a b:Nat} {v:V} {vs:List V} (h:Wt a v) (t:Tl b vs):Tl (a+b) (v::vs)
inductive MQ:Nat→List (List V)→Prop where
 | nil:MQ 0 []
 | cons {a b:Nat} {v:List V} {vs:List (List V)} (h:Tl a v) (t:MQ b vs):MQ (a+b) (v::vs)
end

section
variable {H:Type} {enc:TypeId×Value→H} {P:Program} {tt:ca} {w:World} {spare:Nat→Bool} {held:Bool}

def Yt (w:World) (N:Nat) (ls:List cV) (cs:List Value):Prop:=∃vs n,xO ls vs∧bl w [] Mr vs cs∧Tl n vs∧n≤N
theorem Yt.nil {N:Nat}:Yt w N [] []:=⟨[],0, .nil, .nil, .nil,Nat.zero_le _⟩
end
end Go.ad

set_option maxRecDepth 100000
namespace Go.Proofs.YtolnaonmpohciaaDoor
open Go Go.ad Go.Lib

mutual
def Raw.tot:Raw→Nat
 | ⟨_,_,_,_,is⟩=>Raw.totL is+1
def Raw.totL:List Raw→Nat
 | []=>0
 | x::l=>Raw.tot x+Raw.totL l
end
mutual
def Raw.ok:Raw→Prop
 | ⟨k,m,e,t,is⟩=>(D1 k∧D1 m∧D1 e∧∀c∈t,D1 c)∧(t.length≤1048576∧is.length≤1048576)∧Raw.okL is
def Raw.okL:List Raw→Prop
 | []=>True
 | x::l=>Raw.ok x∧Raw.okL l
end
theorem MR {T:Ty}:∀(l:List T.den) (m:Nat),MQ m (l.map T.cells)→(∀(x:T.den) n,Tl n (T.cells x)→1≤n)→l.length≤m
 | [],_,_,_=>Nat.zero_le _
 | x::l,_, .cons h t,hh=>by
  have h1:=hh x _ h
  have h2:=MR l _ t hh
  simp only[List.length_cons]
  omega
theorem Yu {n:Nat} {v:V} (h:Wt n v):1≤n:=by
 cases h <;> omega
theorem Ul:∀(l:List (Ty.den (.int .i64))) (m:Nat),MQ m (l.map (Ty.cells (.int .i64)))→∀c∈(l:List Int),D1 c
 | [],_,_,c,hc=>by cases hc
 | x::l,_, .cons h t,c,hc=>by
  rcases List.mem_cons.1 hc with rfl|hc
  ·have h':Tl _ [V.int .i64 c]:=h
   cases h' with
   | cons a b=>cases a with|int _ hk=>exact rA.1 hk
  ·exact Ul l _ t c hc
mutual
theorem wt_raw:∀(x:Raw) (n:Nat),n≤1048576→Tl n (Ty.cells .raw x)→Raw.tot x≤n∧Raw.ok x
 | ⟨k,m,e,t,is⟩,n,hn,h=>by
  have hL:=Um is
  have h':Tl n [.int .i64 k, .int .i64 m, .int .i64 e, .sl (.int .i64) t .no, .sl .raw is .no]:=h
  cases h' with
  | cons a1 h'=>cases h' with
   | cons a2 h'=>cases h' with
    | cons a3 h'=>cases h' with
     | cons a4 h'=>cases h' with
      | cons a5 h' =>
       cases h'
       cases a1 with|int p1 k1 =>
       cases a2 with|int p2 k2 =>
       cases a3 with|int p3 k3 =>
       cases a4 with|sl p4 w4 =>
       cases a5 with|sl p5 w5 =>
       have hl4:=MR (T := .int .i64) t _ w4 (fun x n h=>by
        have h':Tl n [V.int .i64 x]:=h
        cases h' with|cons a b=>have:=Yu a; omega)
       have hl5:=MR (T := .raw) is _ w5 (fun x n h=>by
        have h':Tl n (.int .i64 x.kind::_):=h
        cases h' with|cons a b=>have:=Yu a; omega)
       obtain ⟨g1,g2⟩:=hL _ (by omega) w5
       refine ⟨by simp only[Raw.tot]; omega,⟨rA.1 k1,rA.1 k2,rA.1 k3,Ul t _ w4⟩,⟨Nat.le_trans hl4 (by omega),Nat.le_trans hl5 (by omega)⟩,g2⟩
theorem Um:∀(l:List Raw) (n:Nat),n≤1048576→MQ n (l.map (Ty.cells .raw))→Raw.totL l≤n∧Raw.okL l
 | [],_,_,_=>⟨Nat.zero_le _,trivial⟩
 | x::l,_,hn, .cons h t=>by
  obtain ⟨a1,a2⟩:=wt_raw x _ (by omega) h
  obtain ⟨b1,b2⟩:=Um l _ (by omega) t
  exact ⟨by simp only[Raw.totL]; omega,a2,b2⟩
end
theorem P0 (t:aA):(qtS t).length≤6*t.length+2:=by
 unfold qtS
 have:∀l:aA,(l.flatMap qb).length≤6*l.length:=by
  intro l
  induction l with
  | nil=>simp
  | cons b l ih =>
   have:=qb_len b
   simp only[List.flatMap_cons,List.length_append,List.length_cons]
   omega
 have:=this t
 simp only[List.length_cons,List.length_append,List.length_nil]
 omega

structure FitV (R:Type) (v:Json) (d:Int) (n:Nat):Prop where
 right:rY v d=true
 len:VP v=true
 size:(Em v).length+5000≤10000*n

structure Held (q:Int) (d:Int) (ns:List aA) (is:List Json) (n:Nat):Prop where
 right:qd is (d+1)=true
 len:Rw is=true
 count:is.length≤12
 names:(q=7∧ns.length=is.length∧MK [] ns=true∧(∀t∈ns,t.length≤1000)∧(B5 ns is true).length≤10000*n)∨(q=6∧ns = []∧(En is true).length≤10000*n)



theorem Yv {d:Bi} (h:Fm d):(NV d).length≤60:=by
 have e:NV d=prt d:=by unfold NV; rw[Ln.2 h]; rfl
 rw[e]
 exact (VO h).2.2




structure Lone (x:vG):Prop where
 head:∃c u,x.2.1=c::u∧blaB c=false
 met:∀r,stopR r→tokS (x.2.1++r)=some (x.2.2,r)
 quo:x.2.2.kind=2→PV x.2.2.text=true∧x.2.1=qtS x.2.2.text
 own:x.2.2.kind≠2→x.2.2.text=x.2.1






mutual
def i64J:Json→Prop
 | ⟨k,n,t,ns,is⟩=>D1 n.iL∧D1 n.exp∧i64L is
def i64L:List Json→Prop
 | []=>True
 | x::l=>i64J x∧i64L l
end



theorem Un:∀(l:List (Ty.den .str)) (m:Nat),MQ m (l.map (Ty.cells .str))→l.length≤m∧∀t∈(l:List aA),t.length≤m
 | [],_,_=>⟨Nat.zero_le _,fun t h=>by cases h⟩
 | x::l,_, .cons h t=>by
  obtain ⟨h1,h2⟩:=Un l _ t
  have h':Tl _ [V.str x]:=h
  cases h' with
  | cons a b =>
   cases a with
   | str hx =>
    have Z2:List.length (x:aA)+1≤_:=hx
    refine ⟨by simp only[List.length_cons]; omega,fun u hu => ?_⟩
    rcases List.mem_cons.1 hu with hu|hu
    ·have:List.length u=List.length (x:aA):=congrArg List.length hu
     omega
    ·have:=h2 u hu; omega
def VS:List aA→Nat
 | []=>0
 | t::l=>t.length+1+VS l
theorem Yw:∀(l:List (Ty.den .str)) (m:Nat),MQ m (l.map (Ty.cells .str))→VS l≤m
 | [],_,_=>Nat.zero_le _
 | x::l,_, .cons h t=>by
  have h1:=Yw l _ t
  have h':Tl _ [V.str x]:=h
  cases h' with
  | cons a b =>
   cases a with
   | str hx =>
    have Z2:List.length (x:aA)+1≤_:=hx
    show List.length (x:aA)+1+VS l≤_
    omega
theorem Yx (d:Bi):(NV d).length≤60:=by
 cases h:fmB d with
 | true=>exact Yv (Ln.1 h)
 | false=>unfold NV; rw[h]; simp
mutual
theorem Uo:∀(v:Json) (n:Nat),n≤1048576→Tl n (Ty.cells .json v)→VP v=true∧i64J v∧(Em v).length+50≤100*n
 | ⟨k,⟨m,e⟩,t,ns,is⟩,n,hn,h=>by
  have hL:=RC is
  have hO:=RD is ns
  have h':Tl n [.int .i64 k, .int .i64 m, .int .i64 e, .str t, .sl .str ns .no, .sl .json is .no]:=h
  cases h' with
  | cons a1 h'=>cases h' with
   | cons a2 h'=>cases h' with
    | cons a3 h'=>cases h' with
     | cons a4 h'=>cases h' with
      | cons a5 h'=>cases h' with
       | cons a6 h' =>
        cases h'
        cases a1 with|int p1 k1 =>
        cases a2 with|int p2 k2 =>
        cases a3 with|int p3 k3 =>
        cases a4 with|str p4 =>
        cases a5 with|sl p5 w5 =>
        cases a6 with|sl p6 w6 =>
        obtain ⟨s1,s2⟩:=Un ns _ w5
        have s3:=Yw ns _ w5
        have s1':List.length (α:=aA) ns≤_:=s1
        have s2':∀t∈ns,List.length t≤_:=s2
        obtain ⟨l1,l2,l3,l4⟩:=hL _ (by omega) w6
        have l5:=hO true _ (by omega) w6
        have l4':=l4 true
        refine ⟨Rx.2 ⟨by simp only; omega,by simp only; omega,l1,by simp only; omega,fun u hu=>by have:=s2' u hu; omega⟩,⟨rA.1 k2,rA.1 k3,l2⟩,?_⟩
        have hq:=P0 t
        have hp:=Yx ⟨m,e⟩
        have n1:F3.length=4:=rfl
        have n2:zl.length=5:=rfl
        have n3:F2.length=4:=rfl
        simp only[Em]
        split
        ·omega
        split
        ·omega
        split
        ·omega
        split
        ·omega
        split
        ·omega
        split
        ·simp only[List.length_cons,List.length_append,List.length_nil]; omega
        ·simp only[List.length_cons,List.length_append,List.length_nil]; omega
theorem RC:∀(l:List Json) (n:Nat),n≤1048576→MQ n (l.map (Ty.cells .json))→Rw l=true∧i64L l∧l.length≤n∧∀b:Bool,(En l b).length≤100*n
 | [],n,_,_=>⟨rfl,trivial,Nat.zero_le _,fun _=>by simp[En]⟩
 | x::l,_,hn, .cons h t=>by
  obtain ⟨a1,a2,a3⟩:=Uo x _ (by omega) h
  obtain ⟨b1,b2,b3,b4⟩:=RC l _ (by omega) t
  refine ⟨by simp only[Rw,a1,b1]; rfl,⟨a2,b2⟩,by simp only[List.length_cons]; omega,fun b => ?_⟩
  have b5:=b4 false
  simp only[En,List.length_append]
  have:(if b=true then ([]:aA)else [44]).length≤1:=by cases b <;> simp
  omega
theorem RD:∀(l:List Json) (ns:List aA) (b:Bool) (n:Nat),n≤1048576→MQ n (l.map (Ty.cells .json))→(B5 ns l b).length≤100*n+6*VS ns
 | [],ns,_,n,_,_=>by simp[B5]
 | x::l,ns,b,_,hn, .cons h t=>by
  obtain ⟨a1,a2,a3⟩:=Uo x _ (by omega) h
  have b5:=RD l ns.tail false _ (by omega) t
  simp only[B5,List.length_append,List.length_cons]
  have:(if b=true then ([]:aA)else [44]).length≤1:=by cases b <;> simp
  cases ns with
  | nil =>
   have hq:=P0 []
   simp only[List.headD_nil,List.tail_nil,VS,List.length_nil]at b5 hq ⊢
   omega
  | cons u ns =>
   have hq:=P0 u
   simp only[List.headD_cons,List.tail_cons,VS]at b5 ⊢
   omega
end
mutual
theorem OX:∀(v:Json) (d:Int),rY v d=true→i64J v
 | ⟨k,⟨m,e⟩,t,ns,is⟩,d,h=>by
  have hL:=MS is
  have z:D1 0:=by unfold D1; omega
  cases wP.1 h with
  | name _ _ hd hk=>exact ⟨z,z,trivial⟩
  | num _ _ hd hn =>
   have:=hn.bounds
   simp only at this
   exact ⟨by show D1 m; unfold D1; omega,by show D1 e; unfold D1; omega,trivial⟩
  | text _ _ hd ht=>exact ⟨z,z,trivial⟩
  | arr _ _ hd hi=>exact ⟨z,z,hL _ hi⟩
  | obj _ _ _ hd hl hu hi=>exact ⟨z,z,hL _ hi⟩
theorem MS:∀(l:List Json) (d:Int),qd l d=true→i64L l
 | [],_,_=>trivial
 | x::l,d,h=>by
  simp only[qd,Bool.and_eq_true]at h
  exact ⟨OX x d h.1,MS l d h.2⟩
end


def bA (n:Int):Bool:=decide (0≤n)&&decide (n≤1000000000)
theorem wj {n:Int}:bA n=true↔0≤n∧n≤1000000000:=by unfold bA; rw[Bool.and_eq_true,decide_eq_true_eq,decide_eq_true_eq]
end Go.Proofs.YtolnaonmpohciaaDoor

set_option maxRecDepth 100000
namespace Go.Proofs.YtolnaonmpohciaaDoor
open Go Go.ad

end Go.Proofs.YtolnaonmpohciaaDoor

set_option maxRecDepth 100000
namespace Go.Proofs.YtolnaonmpohciaaDoor
open Go Go.ad Go.Lib

def HP:aA := [97,98,99,100,101,102,103,104,105,106,107,108,109,110,111,112,113,114,115,116,117,118,119,120,121,122,65,66,67,68,69,70,71,72,73,74,75,76,77,78,79,80,81,82,83,84,85,86,87,88,89,90,48,49,50,51,52,53,54,55,56,57,95,46,58,45]
def nc (s:aA):Bool:=s.all (HP.contains ·)&&(!s.isEmpty&&decide (s.length≤16))
def nd:Stop→List ad.Way→List Stop→Bool
 | _, [], []=>true
 | f,e::es,t::ts=>(bA e.fk&&bA e.seq&&bA t.node&&bA t.seq)&&(decide (e.seq=f.seq+1)&&decide (t.seq=e.seq+1))&&((e.ax==t.ax)&&(!t.ax||f.ax))&&nd t es ts
 | _,_,_=>false
def wQ (o:Order):Bool :=
 nc o.ae&&(bA o.header&&bA o.order&&bA o.update)&&(match o.nodes with
  | []=>false
  | f::ns=>decide (ns.length<64)&&(decide (Int.tmod f.seq 2=0)&&f.ax)&&(bA f.node&&bA f.seq)&&nd f o.af ns)

def Yy (x:Stop):Prop:=bA x.node=true∧bA x.seq=true
def wayOk (x:ad.Way):Prop:=bA x.fk=true∧bA x.seq=true
theorem RE:∀(f:Stop) (es:List ad.Way) (ts:List Stop),nd f es ts=true→es.length=ts.length∧(∀x∈es,wayOk x)∧∀x∈ts,Yy x
 | _, [], [],_=>⟨rfl,by simp,by simp⟩
 | f,e::es,t::ts,h=>by
  simp only[nd,Bool.and_eq_true]at h
  obtain ⟨h1,h2,h3⟩:=RE t es ts h.2
  obtain ⟨⟨⟨⟨⟨⟨a1,a2⟩,a3⟩,a4⟩,_⟩,_⟩,_⟩:=h
  refine ⟨by simp[h1],fun x hx => ?_,fun x hx => ?_⟩
  ·rcases List.mem_cons.1 hx with rfl|hx
   ·exact ⟨a1,a2⟩
   ·exact h2 x hx
  ·rcases List.mem_cons.1 hx with rfl|hx
   ·exact ⟨a3,a4⟩
   ·exact h3 x hx
 | _, [],_::_,h=>by simp[nd]at h
 | _,_::_, [],h=>by simp[nd]at h
structure OkO (o:Order):Prop where
 name:nc o.ae=true
 header:bA o.header=true
 order:bA o.order=true
 update:bA o.update=true
 nodes:∀x∈o.nodes,Yy x
 af:∀x∈o.af,wayOk x
 many:1≤o.nodes.length∧o.nodes.length≤64∧o.af.length+1=o.nodes.length

theorem Tm {v:Json} {d:Int} (h:rY v d=true):D1 v.kind:=by
 cases wP.1 h <;> first|(unfold D1; simp only; omega)|(unfold D1; decide)
mutual
theorem VT:∀(v:Json) (d:Int),rY v d=true→VP v=true→Pu.Td v
 | ⟨k,⟨m,e⟩,t,ns,is⟩,d,h,hl=>by
  have hL:=MT is
  obtain ⟨l1,l2,l3,l4,l5⟩:=Rx.1 hl
  have hk:=Tm h
  have hi:=OX _ _ h
  have hI:∀y∈is,Pu.Td y:=by
   cases wP.1 h with
   | name _ _ hd hk=>simp
   | num _ _ hd hn=>simp
   | text _ _ hd ht=>simp
   | arr _ _ hd hi=>exact hL _ hi l3
   | obj _ _ _ hd hl hu hi=>exact hL _ hi l3
  exact Pu.jok_mk hk hi.1 hi.2.1 (by simp only at l4; omega) l1 (fun s hs=>by have:=l5 s hs; omega) l2 hI
theorem MT:∀(l:List Json) (d:Int),qd l d=true→Rw l=true→∀y∈l,Pu.Td y
 | [],_,_,_=>by simp
 | x::l,d,h,hl=>by
  simp only[qd,Rw,Bool.and_eq_true]at h hl
  intro y hy
  rcases List.mem_cons.1 hy with e|hy
  ·rw[e]
   exact VT x d h.1 hl.1
  ·exact MT l d h.2 hl.2 y hy
end

abbrev cv:=ad.State
def B9 (s:cv):Bool :=
 nc s.ae&&((bA s.header&&(bA s.aX&&(bA s.order&&(bA s.update&&(bA s.node&&(bA s.seq&&bA s.accepted))))))&&(decide (Int.tmod s.seq 2=0)&&(s.live || !s.dW)))
structure OkA (s:cv):Prop where
 name:nc s.ae=true
 header:bA s.header=true
 aX:bA s.aX=true
 order:bA s.order=true
 update:bA s.update=true
 node:bA s.node=true
 seq:bA s.seq=true
 accepted:bA s.accepted=true
def Eo (a b:cv):Bool:=decide (a.aX>b.aX)||(decide (a.aX=b.aX)&&decide (a.header>b.header))


theorem OY:∀s:aA,og s HP = []↔s.all (HP.contains ·)=true
 | []=>by simp[og]
 | b::s=>by
  have ih:=OY s
  unfold og at ih ⊢
  rw[List.dropWhile_cons,List.all_cons]
  by_cases h:HP.contains b=true
  ·rw[if_pos h,h,Bool.true_and]
   exact ih
  ·rw[if_neg h,Bool.eq_false_iff.2 h,Bool.false_and]
   simp
theorem VU (s:aA):((og s HP==([]:aA))&&(!(s==([]:aA))&&decide ((s.length:Int)≤16)))=nc s:=by
 have e1:(og s HP==([]:aA))=s.all (HP.contains ·):=by
  rw[Bool.eq_iff_iff,←OY]
  exact beq_iff_eq
 have e2:(s==([]:aA))=s.isEmpty:=by cases s <;> rfl
 have e3:decide ((s.length:Int)≤16)=decide (s.length≤16):=decide_eq_decide.2 (by omega)
 unfold nc
 rw[e1,e2,e3]
def RF (n:Int):Bool:=decide (97≤n∧n≤122)||decide (65≤n∧n≤90)||decide (48≤n∧n≤57)||decide (n=95)||decide (n=46)||decide (n=58)||decide (n=45)
theorem Yz (b:UInt8):RF (b.toNat:Int)=HP.contains b:=by
 have all:∀n:Fin 256,RF ((UInt8.ofNat n.val).toNat:Int)=HP.contains (UInt8.ofNat n.val):=by decide +kernel
 have:=all ⟨b.toNat,UInt8.toNat_lt b⟩
 simpa only[UInt8.ofNat_toNat]using this

def sumN:List aA→Nat
 | []=>0
 | n::l=>(qtS n).length+2+sumN l
def sumI:List Json→Nat
 | []=>0
 | x::l=>(Em x).length+sumI l
structure Fields (ns:List aA) (is:List Json):Prop where
 len:ns.length=is.length
 uniq:MK [] ns=true
 right:∀x∈is,rY x 2=true
 short:sumN ns+sumI is≤19000
variable {ns:List aA} {is:List Json}

structure StepsO (o:Order):Prop where
 first:Int.tmod (o.nodes.getD 0 Stop.z).seq 2=0∧(o.nodes.getD 0 Stop.z).ax=true
 next:∀i,i<o.af.length→(o.nodes.getD (i+1) Stop.z).seq=(o.af.getD i ad.Way.z).seq+1∧(o.af.getD i ad.Way.z).ax=(o.nodes.getD (i+1) Stop.z).ax

def ur:Int→Bool→List Stop→Bool
 | _,_, []=>true
 | s,p,x::l=>(bA x.node&&bA x.seq)&&(decide (x.seq=s)&&(!x.ax||p))&&ur (s+2) x.ax l
def qe:Stop→List ad.Way→List Stop→Bool
 | _, [], []=>true
 | f,e::es,t::ts=>(bA e.fk&&bA e.seq)&&(decide (e.seq=f.seq+1)&&(e.ax==t.ax))&&qe t es ts
 | _,_,_=>false
theorem OZ:∀(f:Stop) (es:List ad.Way) (ts:List Stop),nd f es ts=(ur (f.seq+2) f.ax ts&&qe f es ts)
 | _, [], []=>rfl
 | f,e::es,t::ts=>by
  have ih:=OZ t es ts
  simp only[nd,ur,qe,ih]
  by_cases h:t.seq=f.seq+2
  ·have e1:t.seq+2=f.seq+2+2:=by omega
   rw[e1,Bool.eq_iff_iff]
   simp only[Bool.and_eq_true,decide_eq_true_eq,beq_iff_eq]
   constructor
   ·rintro ⟨⟨⟨⟨⟨⟨a1,a2⟩,a3⟩,a4⟩,b1,b2⟩,c1,c2⟩,d1,d2⟩
    exact ⟨⟨⟨⟨a3,a4⟩,h,c2⟩,d1⟩,⟨⟨a1,a2⟩,b1,c1⟩,d2⟩
   ·rintro ⟨⟨⟨⟨a3,a4⟩,_,c2⟩,d1⟩,⟨⟨a1,a2⟩,b1,c1⟩,d2⟩
    exact ⟨⟨⟨⟨⟨⟨a1,a2⟩,a3⟩,a4⟩,b1,by omega⟩,c1,c2⟩,d1,d2⟩
  ·rw[Bool.eq_iff_iff]
   simp only[Bool.and_eq_true,decide_eq_true_eq,beq_iff_eq]
   constructor
   ·rintro ⟨⟨⟨_,b1,b2⟩,_⟩,_⟩
    omega
   ·rintro ⟨⟨⟨_,h2,_⟩,_⟩,_⟩
    exact (h h2).elim
 | _, [],_::_=>by simp[nd,qe]
 | _,_::_, []=>by simp[nd,qe,ur]
theorem MU:∀(f:Stop) (es:List ad.Way) (ts:List Stop),qe f es ts=true→es.length=ts.length
 | _, [], [],_=>rfl
 | f,e::es,t::ts,h=>by
  simp only[qe,Bool.and_eq_true]at h
  have:=MU t es ts h.2
  simp[this]
 | _, [],_::_,h=>by simp[qe]at h
 | _,_::_, [],h=>by simp[qe]at h
def P1 (o:Order):Bool :=
 nc o.ae&&(bA o.header&&(bA o.order&&bA o.update))&&(match o.nodes with
  | []=>false
  | f::ns=>(decide (ns.length<64)&&decide (o.af.length=ns.length))&&(decide (Int.tmod f.seq 2=0)&&f.ax)&&ur f.seq true (f::ns)&&qe f o.af ns)
theorem VV (o:Order):P1 o=wQ o:=by
 obtain ⟨hd,ve,od,up,ns,es⟩:=o
 cases ns with
 | nil=>simp[wQ,P1]
 | cons f ns =>
  simp only[wQ,P1,ur,OZ]
  rw[Bool.eq_iff_iff]
  simp only[Bool.and_eq_true,decide_eq_true_eq,Bool.or_true]
  constructor
  ·rintro ⟨⟨a1,a2,a3,a4⟩,⟨⟨⟨b1,b2⟩,b3,b4⟩,⟨⟨c1,c2⟩,_⟩,d1⟩,d2⟩
   exact ⟨⟨a1,⟨a2,a3⟩,a4⟩,⟨⟨b1,b3,b4⟩,c1,c2⟩,d1,d2⟩
  ·rintro ⟨⟨a1,⟨a2,a3⟩,a4⟩,⟨⟨b1,b3,b4⟩,c1,c2⟩,d1,d2⟩
   exact ⟨⟨a1,a2,a3,a4⟩,⟨⟨⟨b1,MU _ _ _ d2⟩,b3,b4⟩,⟨⟨c1,c2⟩,trivial,trivial⟩,d1⟩,d2⟩
end Go.Proofs.YtolnaonmpohciaaDoor

/-
 Functions of the program as pure Lean functions, and the ties; printed by wip/tools/emit.py.
-/
set_option maxRecDepth 100000
namespace Go.Proofs.YtolnaonmpohciaaDoor
open Go Go.ad
variable {R:Type}

/-! ### slices.Index[[]int,int] -/
abbrev hH (R:Type):Type:=(List Int)→Int→(Int→Option R)→Option R
abbrev mi:List cu := [.leaf (.sl (.int .i64)), .leaf (.int .i64)]
abbrev mj:List aw := []
def r9 (fn:hH R):mY R mi mj:=fun x y k=>fn x.1 x.2.1 (fun q0=>k (.int .i64 q0) [])
def tI (fn:hH R):=bx mi mj (r9 fn)
abbrev iX (R:Type):Type:=Nat→(List Int)→Int→Int→Int→(Option R)→(Int→Option R)→Option R
def fE:Hint := { live := [0,1,7,8],own := [],rows := [],cells := [],drop := [],out := [4] }
abbrev dy:Type:=(List Int)×Int×Int×Int
def hJ:dy→St:=fun d=>⟨.sl (.int .i64) d.1 .no :: .int .i64 d.2.1::U 5 (.int .i64 d.2.2.1 :: .int .i64 d.2.2.2::U 10 ([])), []⟩
def iY (K:Ex→St→Option R):Option R:=K (.exit 0) ⟨U 19 ([]), []⟩
def iZ (K:Ex→St→Option R) (q0:Int):Option R:=K (.ret) ⟨U 4 (.int .i64 q0::U 14 ([])), []⟩
abbrev ef:List cu := .leaf (.sl (.int .i64)) :: .leaf (.int .i64)::PU 5 (.leaf (.int .i64) :: .leaf (.int .i64)::PU 10 ([]))
abbrev eh:List aw := []
def oh (x:cu.aQ ef) (y:aw.aQ eh):Nat:=(List.length x.1+Int.natAbs x.2.1+Int.natAbs x.2.2.2.2.2.2.2.1+Int.natAbs ((t8 x).1)+64)
def xq (x:cu.aQ ef) (y:aw.aQ eh):dy:=(x.1,x.2.1,x.2.2.2.2.2.2.2.1,(t8 x).1)
def nf (L:iX R):nD R ef eh:=fun x y K=>L (oh x y) x.1 x.2.1 x.2.2.2.2.2.2.2.1 ((t8 x).1) (iY K) (iZ K)
section
variable (aD:iX R)
def fF (bS:(List Int)→Int→Int→Int→Option R) (x3:List Int) (x4:Int) (x5:Int) (x6:Int) (e0:Option R) (e1:Int→Option R):Option R :=
 bif (decide (x6<x5))then (cC (decide ((0:Int)≤x6)&&decide (x6<x3.length)) (bif (x4==(x3.getD x6.toNat (Ty.aC (.int .i64))))then (e1 x6)else (bS x3 x4 x5 (IntKind.i64.wrap (x6+1)))))else (e0)
def oi (K:Ex→St→Option R) (rc:dy→Option R) (d:dy):Option R:=fF (fun z0 z1 z2 z3=>rc (z0,z1,z2,z3)) d.1 d.2.1 d.2.2.1 d.2.2.2 (iY K) (iZ K)
def fO:Nat→Option (Hint×bO R):=fun i=>match i with
 | 2=>some (fE,(bF ef eh (nf aD) dZ))
 | _=>none
theorem vn (K:Ex→St→Option R) (rc:St→Option R) (d:dy):roundOf tt (bQ []) (fO aD) 0 ((ah (ar Tryd.f66)).getD 0 .skip) fE (hJ d) rc K=oi K (fun d=>rc (hJ d)) d:=by kernel_rfl
def ml (x1:List Int) (x2:Int) (k0:Int→Option R):Option R :=
 aD (List.length x1+Int.natAbs x2+Int.natAbs (x1.length:Int)+Int.natAbs 0+64) x1 x2 (x1.length:Int) 0 (k0 (-1)) (fun y7=>k0 y7)
theorem Ca:dT (R:=R) tt [] (fO aD) false Tryd.f66 mi mj (r9 (ml aD)):=fun x y k=>by kernel_rfl
end
def aD:iX R
 | 0,_,_,_,_,_,_=>none
 | n+1,eE,eF,eR,jZ,e0,e1=>fF (fun eE eF eR jZ=>aD n eE eF eR jZ e0 e1) eE eF eR jZ e0 e1
def oj (K:Ex→St→Option R) (n:Nat) (d:dy):Option R:=aD n d.1 d.2.1 d.2.2.1 d.2.2.2 (iY K) (iZ K)
theorem wR (other:bO R) (ho:dK tt (bQ []) (fO (R:=R) aD) 0 ((ah (ar Tryd.f66)).getD 0 .skip) fE other):dK tt (bQ []) (fO (R:=R) aD) 0 ((ah (ar Tryd.f66)).getD 0 .skip) fE (bF ef eh (nf (aD)) other) :=
 bM (A:=oj) ho (cI hJ (oi) (oj) (fun _ _=>by kernel_rfl) (vn aD) (fun _ _ _=>by kernel_rfl)) oh xq (fun _ _=>by kernel_rfl) (fun _ _ _=>by kernel_rfl)
def c8:hH R:=fun x1 x2 k0=>ml aD x1 x2 k0
theorem xr (R:Type):∀a∈ah (ar Tryd.f66),dY tt (bQ []) (fO (R:=R) aD) 0 a:=by
 refine dx 1 (by kernel_rfl) fun i hi => ?_
 match i,hi with
 | 0,_=>exact bw (by kernel_rfl) (wR _ cj)
 | n+1,hi=>omega
theorem zn (R:Type):mW Tryd.prog 66 (tI (c8 (R:=R))):=bL TT mixed .n rfl rfl rfl rfl (xr R) (Ca aD)

/-! ### slices.Contains[[]int,int] -/
abbrev ei (R:Type):Type:=(List Int)→Int→(Bool→Option R)→Option R
abbrev j4:List cu := [.leaf (.sl (.int .i64)), .leaf (.int .i64)]
abbrev j5:List aw := []
def om (fn:ei R):mY R j4 j5:=fun x y k=>fn x.1 x.2.1 (fun q0=>k (.bool q0) [])
def j6 (fn:ei R):=bx j4 j5 (om fn)
section
variable (c8:hH R)
def py:List (xm R) := [(66,true,(tI c8 aL))]
def j7 (x1:List Int) (x2:Int) (k0:Bool→Option R):Option R :=
 c8 x1 x2 (fun y3=>k0 (decide (y3≥(0:Int))))
theorem xu:dT (R:=R) tt (py c8) xo false Tryd.f59 j4 j5 (om (j7 c8)):=fun x y k=>by kernel_rfl
end
theorem wS:dG (R:=R) Tryd.prog (py (R:=R) c8) := .c (zn R) <| .n
def ag:ei R:=fun x1 x2 k0=>j7 c8 x1 x2 k0
theorem mN (R:Type):mW Tryd.prog 59 (j6 (ag (R:=R))):=bL TT mixed (wS (R:=R)) rfl rfl rfl rfl de (xu c8)

/-! ### (*humpyard/fleet.ctl).goes -/
abbrev hM (R:Type):Type:=Int→aA→Int→Int→Int→Int→Int→(List Int)→Int→Bool→Int→Bool→Int→aA→Int→Int→((List Int)→aA→Int→Int→Int→Int→Int→(List Int)→Int→Bool→Int→Bool→Int→aA→Int→Int→Option R)→Option R
abbrev mm:List cu := [.leaf (.ptr 0 0), .leaf (.int .i64)]
abbrev mn:List aw := [.cells [.str, .int .i64, .int .i64, .int .i64, .int .i64, .int .i64, .sl (.int .i64), .int .i64, .bool, .int .i64, .bool, .int .i64, .str, .int .i64, .int .i64, .aI, .aI]]
def sa (fn:hM R):mY R mm mn:=fun x y k=>fn x.2.1 y.1.1 y.1.2.1 y.1.2.2.1 y.1.2.2.2.1 y.1.2.2.2.2.1 y.1.2.2.2.2.2.1 y.1.2.2.2.2.2.2.1 y.1.2.2.2.2.2.2.2.1 ((t8 y.1).1) ((t8 y.1).2.1) ((t8 y.1).2.2.1) ((t8 y.1).2.2.2.1) ((t8 y.1).2.2.2.2.1) ((t8 y.1).2.2.2.2.2.1) ((t8 y.1).2.2.2.2.2.2.1) (fun q0 q1 q2 q3 q4 q5 q6 q7 q8 q9 vm HO Yg Yh Yi q15=>k (.sl (.int .i64) q0 .no) [.cells [.str q1, .int .i64 q2, .int .i64 q3, .int .i64 q4, .int .i64 q5, .int .i64 q6, .sl (.int .i64) q7 .no, .int .i64 q8, .bool q9, .int .i64 vm, .bool HO, .int .i64 Yg, .str Yh, .int .i64 Yi, .int .i64 q15, .aI, .aI]])
def tJ (fn:hM R):=bx mm mn (sa fn)
abbrev ja (R:Type):Type:=Nat→Int→(List Int)→(List Int)→Int→Int→aA→Int→Int→Int→Int→Int→(List Int)→Int→Bool→Int→Bool→Int→aA→Int→Int→(Int→(List Int)→aA→Int→Int→Int→Int→Int→(List Int)→Int→Bool→Int→Bool→Int→aA→Int→Int→Option R)→Option R
def fG:Hint := { live := [0,1,4,26,27,28],own := [(4,(.int .i64))],rows := [],cells := [],drop := [],out := [0,1,4] }
abbrev dz:Type:=Int×(List Int)×(List Int)×Int×Int×aA×Int×Int×Int×Int×Int×(List Int)×Int×Bool×Int×Bool×Int×aA×Int×Int
def hP:dz→St:=fun d=>⟨.ptr 0 0 :: .int .i64 d.1::U 2 (.sl (.int .i64) d.2.1 (.own 1)::U 21 (.sl (.int .i64) d.2.2.1 .no :: .int .i64 d.2.2.2.1 :: .int .i64 d.2.2.2.2.1::U 45 ([]))), [.cells [.str d.2.2.2.2.2.1, .int .i64 d.2.2.2.2.2.2.1, .int .i64 d.2.2.2.2.2.2.2.1, .int .i64 d.2.2.2.2.2.2.2.2.1, .int .i64 d.2.2.2.2.2.2.2.2.2.1, .int .i64 d.2.2.2.2.2.2.2.2.2.2.1, .sl (.int .i64) d.2.2.2.2.2.2.2.2.2.2.2.1 .no, .int .i64 d.2.2.2.2.2.2.2.2.2.2.2.2.1, .bool d.2.2.2.2.2.2.2.2.2.2.2.2.2.1, .int .i64 d.2.2.2.2.2.2.2.2.2.2.2.2.2.2.1, .bool d.2.2.2.2.2.2.2.2.2.2.2.2.2.2.2.1, .int .i64 d.2.2.2.2.2.2.2.2.2.2.2.2.2.2.2.2.1, .str d.2.2.2.2.2.2.2.2.2.2.2.2.2.2.2.2.2.1, .int .i64 d.2.2.2.2.2.2.2.2.2.2.2.2.2.2.2.2.2.2.1, .int .i64 d.2.2.2.2.2.2.2.2.2.2.2.2.2.2.2.2.2.2.2, .aI, .aI], .tok]⟩
def jb (K:Ex→St→Option R) (q0:Int) (q1:List Int) (q2:aA) (q3:Int) (q4:Int) (q5:Int) (q6:Int) (q7:Int) (q8:List Int) (q9:Int) (vm:Bool) (HO:Int) (Yg:Bool) (Yh:Int) (Yi:aA) (q15:Int) (q16:Int):Option R:=K (.exit 0) ⟨.ptr 0 0 :: .int .i64 q0::U 2 (.sl (.int .i64) q1 (.own 1)::U 69 ([])), [.cells [.str q2, .int .i64 q3, .int .i64 q4, .int .i64 q5, .int .i64 q6, .int .i64 q7, .sl (.int .i64) q8 .no, .int .i64 q9, .bool vm, .int .i64 HO, .bool Yg, .int .i64 Yh, .str Yi, .int .i64 q15, .int .i64 q16, .aI, .aI], .tok]⟩
abbrev ej:List cu := .leaf (.ptr 0 0) :: .leaf (.int .i64)::PU 2 (.leaf (.Li (.int .i64) 1)::PU 21 (.leaf (.sl (.int .i64)) :: .leaf (.int .i64) :: .leaf (.int .i64)::PU 45 ([])))
abbrev ek:List aw := [.cells [.str, .int .i64, .int .i64, .int .i64, .int .i64, .int .i64, .sl (.int .i64), .int .i64, .bool, .int .i64, .bool, .int .i64, .str, .int .i64, .int .i64, .aI, .aI], .tok]
def oo (x:cu.aQ ej) (y:aw.aQ ek):Nat:=(Int.natAbs x.2.1+List.length x.2.2.2.2.1+List.length ((t8 (t8 (t8 x))).2.2.1)+Int.natAbs ((t8 (t8 (t8 x))).2.2.2.1)+Int.natAbs ((t8 (t8 (t8 x))).2.2.2.2.1)+List.length y.1.1+Int.natAbs y.1.2.1+Int.natAbs y.1.2.2.1+Int.natAbs y.1.2.2.2.1+Int.natAbs y.1.2.2.2.2.1+Int.natAbs y.1.2.2.2.2.2.1+List.length y.1.2.2.2.2.2.2.1+Int.natAbs y.1.2.2.2.2.2.2.2.1+Int.natAbs ((t8 y.1).2.1)+Int.natAbs ((t8 y.1).2.2.2.1)+List.length ((t8 y.1).2.2.2.2.1)+Int.natAbs ((t8 y.1).2.2.2.2.2.1)+Int.natAbs ((t8 y.1).2.2.2.2.2.2.1)+64)
def xw (x:cu.aQ ej) (y:aw.aQ ek):dz:=(x.2.1,x.2.2.2.2.1,(t8 (t8 (t8 x))).2.2.1,(t8 (t8 (t8 x))).2.2.2.1,(t8 (t8 (t8 x))).2.2.2.2.1,y.1.1,y.1.2.1,y.1.2.2.1,y.1.2.2.2.1,y.1.2.2.2.2.1,y.1.2.2.2.2.2.1,y.1.2.2.2.2.2.2.1,y.1.2.2.2.2.2.2.2.1,(t8 y.1).1,(t8 y.1).2.1,(t8 y.1).2.2.1,(t8 y.1).2.2.2.1,(t8 y.1).2.2.2.2.1,(t8 y.1).2.2.2.2.2.1,(t8 y.1).2.2.2.2.2.2.1)
def ng (L:ja R):nD R ej ek:=fun x y K=>L (oo x y) x.2.1 x.2.2.2.2.1 ((t8 (t8 (t8 x))).2.2.1) ((t8 (t8 (t8 x))).2.2.2.1) ((t8 (t8 (t8 x))).2.2.2.2.1) y.1.1 y.1.2.1 y.1.2.2.1 y.1.2.2.2.1 y.1.2.2.2.2.1 y.1.2.2.2.2.2.1 y.1.2.2.2.2.2.2.1 y.1.2.2.2.2.2.2.2.1 ((t8 y.1).1) ((t8 y.1).2.1) ((t8 y.1).2.2.1) ((t8 y.1).2.2.2.1) ((t8 y.1).2.2.2.2.1) ((t8 y.1).2.2.2.2.2.1) ((t8 y.1).2.2.2.2.2.2.1) (jb K)
section
variable (ag:ei R) (aE:ja R)
def eI:List (xm R) := [(59,true,(j6 ag aL))]
def fH (bS:Int→(List Int)→(List Int)→Int→Int→aA→Int→Int→Int→Int→Int→(List Int)→Int→Bool→Int→Bool→Int→aA→Int→Int→Option R) (DJ:Int) (Dg:List Int) (uc:List Int) (uf:Int) (P2:Int) (Jo:aA) (Up:Int) (O0:Int) (Wn:Int) (x26:Int) (x27:Int) (Zl:List Int) (x29:Int) (x30:Bool) (x31:Int) (RG:Bool) (Uq:Int) (Ur:aA) (KI:Int) (Us:Int) (e0:Int→(List Int)→aA→Int→Int→Int→Int→Int→(List Int)→Int→Bool→Int→Bool→Int→aA→Int→Int→Option R):Option R :=
 bif (decide (P2<uf))then (cC (decide ((0:Int)≤P2)&&decide (P2<uc.length)) (ag Zl (uc.getD P2.toNat (Ty.aC (.int .i64))) (fun y37=>bif (!y37)then (ag Dg (uc.getD P2.toNat (Ty.aC (.int .i64))) (fun y38=>bif (!y38)then (cC (decide ((Dg.length+1)*8≤140737488355328)) (bS DJ ((Dg:List Int)++(([(uc.getD P2.toNat (Ty.aC (.int .i64)))]:List Int):List Int)) uc uf (IntKind.i64.wrap (P2+1)) Jo Up O0 Wn x26 x27 Zl x29 x30 x31 RG Uq Ur KI Us))else (bS DJ Dg uc uf (IntKind.i64.wrap (P2+1)) Jo Up O0 Wn x26 x27 Zl x29 x30 x31 RG Uq Ur KI Us)))else (bS DJ Dg uc uf (IntKind.i64.wrap (P2+1)) Jo Up O0 Wn x26 x27 Zl x29 x30 x31 RG Uq Ur KI Us))))else (e0 DJ Dg Jo Up O0 Wn x26 x27 Zl x29 x30 x31 RG Uq Ur KI Us)
def oq (K:Ex→St→Option R) (rc:dz→Option R) (d:dz):Option R:=fH ag (fun z0 z1 z2 z3 z4 z5 z6 z7 z8 z9 ME KD z12 NQ Th z15 z16 z17 z18 z19=>rc (z0,z1,z2,z3,z4,z5,z6,z7,z8,z9,ME,KD,z12,NQ,Th,z15,z16,z17,z18,z19)) d.1 d.2.1 d.2.2.1 d.2.2.2.1 d.2.2.2.2.1 d.2.2.2.2.2.1 d.2.2.2.2.2.2.1 d.2.2.2.2.2.2.2.1 d.2.2.2.2.2.2.2.2.1 d.2.2.2.2.2.2.2.2.2.1 d.2.2.2.2.2.2.2.2.2.2.1 d.2.2.2.2.2.2.2.2.2.2.2.1 d.2.2.2.2.2.2.2.2.2.2.2.2.1 d.2.2.2.2.2.2.2.2.2.2.2.2.2.1 d.2.2.2.2.2.2.2.2.2.2.2.2.2.2.1 d.2.2.2.2.2.2.2.2.2.2.2.2.2.2.2.1 d.2.2.2.2.2.2.2.2.2.2.2.2.2.2.2.2.1 d.2.2.2.2.2.2.2.2.2.2.2.2.2.2.2.2.2.1 d.2.2.2.2.2.2.2.2.2.2.2.2.2.2.2.2.2.2.1 d.2.2.2.2.2.2.2.2.2.2.2.2.2.2.2.2.2.2.2 (jb K)
def fP:Nat→Option (Hint×bO R):=fun i=>match i with
 | 4=>some (fG,(bF ej ek (ng aE) dZ))
 | _=>none
theorem vo (K:Ex→St→Option R) (rc:St→Option R) (d:dz):roundOf tt (bQ (eI ag)) (fP aE) 1 ((ah (ar Tryd.f42)).getD 0 .skip) fG (hP d) rc K=oq ag K (fun d=>rc (hP d)) d:=by kernel_rfl
def mo (x1:Int) (x2:aA) (x3:Int) (x4:Int) (x5:Int) (x6:Int) (x7:Int) (x8:List Int) (x9:Int) (Fk:Bool) (Jf:Int) (Fg:Bool) (xY:Int) (Bj:aA) (MD:Int) (Fl:Int) (k0:(List Int)→aA→Int→Int→Int→Int→Int→(List Int)→Int→Bool→Int→Bool→Int→aA→Int→Int→Option R):Option R :=
 cC (decide ((0:Int)≤x1)&&decide (x1≤x8.length)) (cC (decide ((0:Int)≤x1)) (cC (decide ((0:Int)≤x1)&&decide (x1≤x8.length)) (aE (Int.natAbs x1+List.length ([]:List Int)+List.length ((x8.drop 0).take (x1.toNat - 0))+Int.natAbs (((x8.drop 0).take (x1.toNat - 0)).length:Int)+Int.natAbs 0+List.length x2+Int.natAbs x3+Int.natAbs x4+Int.natAbs x5+Int.natAbs x6+Int.natAbs x7+List.length (x8.drop x1.toNat)+Int.natAbs x9+Int.natAbs Jf+Int.natAbs xY+List.length Bj+Int.natAbs MD+Int.natAbs Fl+64) x1 ([]:List Int) ((x8.drop 0).take (x1.toNat - 0)) (((x8.drop 0).take (x1.toNat - 0)).length:Int) 0 x2 x3 x4 x5 x6 x7 (x8.drop x1.toNat) x9 Fk Jf Fg xY Bj MD Fl (fun y40 y41 y42 y43 y44 y45 y46 y47 Zm y49 Zn Wo Wp Wq Wr Ws Wu=>k0 y41 y42 y43 y44 y45 y46 y47 Zm (IntKind.i64.wrap (y49+y40)) Zn (max (IntKind.i64.wrap (Wo - (IntKind.i64.wrap (Int.tdiv y40 2)))) 0) Wp Wq Wr Ws Wu))))
theorem Cb:dT (R:=R) tt (eI ag) (fP aE) false Tryd.f42 mm mn (sa (mo aE)):=fun x y k=>by kernel_rfl
end
theorem AA:dG (R:=R) Tryd.prog (eI (R:=R) ag) := .c (mN R) <| .n
def aE:ja R
 | 0,_,_,_,_,_,_,_,_,_,_,_,_,_,_,_,_,_,_,_,_,_=>none
 | n+1,eE,eF,eR,jZ,ug,vi,yY,yZ,Eg,GV,uh,ui,uj,uk,GW,MV,MW,MX,MY,MZ,e0=>fH ag (fun eE eF eR jZ ug vi yY yZ Eg GV uh ui uj uk GW MV MW MX MY MZ=>aE n eE eF eR jZ ug vi yY yZ Eg GV uh ui uj uk GW MV MW MX MY MZ e0) eE eF eR jZ ug vi yY yZ Eg GV uh ui uj uk GW MV MW MX MY MZ e0
def ot (K:Ex→St→Option R) (n:Nat) (d:dz):Option R:=aE n d.1 d.2.1 d.2.2.1 d.2.2.2.1 d.2.2.2.2.1 d.2.2.2.2.2.1 d.2.2.2.2.2.2.1 d.2.2.2.2.2.2.2.1 d.2.2.2.2.2.2.2.2.1 d.2.2.2.2.2.2.2.2.2.1 d.2.2.2.2.2.2.2.2.2.2.1 d.2.2.2.2.2.2.2.2.2.2.2.1 d.2.2.2.2.2.2.2.2.2.2.2.2.1 d.2.2.2.2.2.2.2.2.2.2.2.2.2.1 d.2.2.2.2.2.2.2.2.2.2.2.2.2.2.1 d.2.2.2.2.2.2.2.2.2.2.2.2.2.2.2.1 d.2.2.2.2.2.2.2.2.2.2.2.2.2.2.2.2.1 d.2.2.2.2.2.2.2.2.2.2.2.2.2.2.2.2.2.1 d.2.2.2.2.2.2.2.2.2.2.2.2.2.2.2.2.2.2.1 d.2.2.2.2.2.2.2.2.2.2.2.2.2.2.2.2.2.2.2 (jb K)
theorem wT (other:bO R) (ho:dK tt (bQ (eI (R:=R) ag)) (fP (R:=R) aE) 1 ((ah (ar Tryd.f42)).getD 0 .skip) fG other):dK tt (bQ (eI (R:=R) ag)) (fP (R:=R) aE) 1 ((ah (ar Tryd.f42)).getD 0 .skip) fG (bF ej ek (ng (aE)) other) :=
 bM (A:=ot) ho (cI hP (oq ag) (ot) (fun _ _=>by kernel_rfl) (vo ag aE) (fun _ _ _=>by kernel_rfl)) oo xw (fun _ _=>by kernel_rfl) (fun _ _ _=>by kernel_rfl)
def cM:hM R:=fun x1 x2 x3 x4 x5 x6 x7 x8 x9 Fk Jf Fg xY Bj MD Fl k0=>mo aE x1 x2 x3 x4 x5 x6 x7 x8 x9 Fk Jf Fg xY Bj MD Fl k0
theorem xx (R:Type):∀a∈ah (ar Tryd.f42),dY tt (bQ (eI (R:=R) ag)) (fP (R:=R) aE) 1 a:=by
 refine dx 1 (by kernel_rfl) fun i hi => ?_
 match i,hi with
 | 0,_=>exact bw (by kernel_rfl) (wT _ cj)
 | n+1,hi=>omega
theorem zo (R:Type):mW Tryd.prog 42 (tJ (cM (R:=R))):=bL TT mixed (AA (R:=R)) rfl rfl rfl rfl (xx R) (Cb ag aE)

/-! ### (*humpyard/fleet.ctl).done -/
abbrev hQ (R:Type):Type:=aA→Int→Int→Int→Int→Int→(List Int)→Int→Bool→Int→Bool→Int→aA→Int→Int→(aA→Int→Int→Int→Int→Int→(List Int)→Int→Bool→Int→Bool→Int→aA→Int→Int→Option R)→Option R
abbrev mq:List cu := [.leaf (.ptr 0 0)]
abbrev mr:List aw := [.cells [.str, .int .i64, .int .i64, .int .i64, .int .i64, .int .i64, .sl (.int .i64), .int .i64, .bool, .int .i64, .bool, .int .i64, .str, .int .i64, .int .i64, .aI, .aI]]
def sb (fn:hQ R):mY R mq mr:=fun x y k=>fn y.1.1 y.1.2.1 y.1.2.2.1 y.1.2.2.2.1 y.1.2.2.2.2.1 y.1.2.2.2.2.2.1 y.1.2.2.2.2.2.2.1 y.1.2.2.2.2.2.2.2.1 ((t8 y.1).1) ((t8 y.1).2.1) ((t8 y.1).2.2.1) ((t8 y.1).2.2.2.1) ((t8 y.1).2.2.2.2.1) ((t8 y.1).2.2.2.2.2.1) ((t8 y.1).2.2.2.2.2.2.1) (fun q0 q1 q2 q3 q4 q5 q6 q7 q8 q9 vm HO Yg Yh Yi=>k (.tuple []) [.cells [.str q0, .int .i64 q1, .int .i64 q2, .int .i64 q3, .int .i64 q4, .int .i64 q5, .sl (.int .i64) q6 .no, .int .i64 q7, .bool q8, .int .i64 q9, .bool vm, .int .i64 HO, .str Yg, .int .i64 Yh, .int .i64 Yi, .aI, .aI]])
def tK (fn:hQ R):=bx mq mr (sb fn)
section
def tL (x1:aA) (x2:Int) (x3:Int) (x4:Int) (x5:Int) (x6:Int) (x7:List Int) (x8:Int) (x9:Bool) (Fk:Int) (Jf:Bool) (Fg:Int) (xY:aA) (Bj:Int) (MD:Int) (k0:aA→Int→Int→Int→Int→Int→(List Int)→Int→Bool→Int→Bool→Int→aA→Int→Int→Option R):Option R :=
 k0 x1 x2 x3 x4 x5 x6 x7 x8 x9 Fk false 0 ([]:aA) 0 0
theorem Cc:dT (R:=R) tt [] xo false Tryd.f41 mq mr (sb tL):=fun x y k=>by kernel_rfl
end
def c9:hQ R:=fun x1 x2 x3 x4 x5 x6 x7 x8 x9 Fk Jf Fg xY Bj MD k0=>tL x1 x2 x3 x4 x5 x6 x7 x8 x9 Fk Jf Fg xY Bj MD k0
theorem zp (R:Type):mW Tryd.prog 41 (tK (c9 (R:=R))):=bL TT mixed .n rfl rfl rfl rfl de (Cc)

/-! ### (*humpyard/fleet.ctl).goes -/
abbrev hU (R:Type):Type:=Int→ad.bN→((List Int)→ad.bN→Option R)→Option R
abbrev mu:List cu := [.leaf (.ptr 0 0), .leaf (.int .i64)]
abbrev mv:List aw := [.cells [.str, .int .i64, .int .i64, .int .i64, .int .i64, .int .i64, .sl (.int .i64), .int .i64, .bool, .int .i64, .bool, .int .i64, .str, .int .i64, .int .i64, .sl .stop, .sl .dt]]
def sc (fn:hU R):mY R mu mv:=fun x y k=>fn x.2.1 (⟨y.1.1,y.1.2.1,y.1.2.2.1,y.1.2.2.2.1,y.1.2.2.2.2.1,y.1.2.2.2.2.2.1,y.1.2.2.2.2.2.2.1,y.1.2.2.2.2.2.2.2.1,(t8 y.1).1,(t8 y.1).2.1,(t8 y.1).2.2.1,⟨(t8 y.1).2.2.2.1,(t8 y.1).2.2.2.2.1,(t8 y.1).2.2.2.2.2.1,(t8 y.1).2.2.2.2.2.2.1,(t8 y.1).2.2.2.2.2.2.2.1,(t8 (t8 y.1)).1⟩⟩:ad.bN) (fun q0 q1=>k (.sl (.int .i64) q0 .no) [.cells [.str q1.ae, .int .i64 q1.header, .int .i64 q1.order, .int .i64 q1.update, .int .i64 q1.aX, .int .i64 q1.seen, .sl (.int .i64) q1.path .no, .int .i64 q1.seq, .bool q1.open_, .int .i64 q1.rel, .bool q1.wait, .int .i64 q1.pending.header, .str q1.pending.ae, .int .i64 q1.pending.order, .int .i64 q1.pending.update, .sl .stop q1.pending.nodes .no, .sl .dt q1.pending.af .no]])
def tM (fn:hU R):=bx mu mv (sc fn)
abbrev jc (R:Type):Type:=Nat→Int→(List Int)→(List Int)→Int→Int→ad.bN→(Int→(List Int)→ad.bN→Option R)→Option R
def fI:Hint := { live := [0,1,4,26,27,28],own := [(4,(.int .i64))],rows := [],cells := [],drop := [],out := [0,1,4] }
abbrev dA:Type:=Int×(List Int)×(List Int)×Int×Int×ad.bN
def hX:dA→St:=fun d=>⟨.ptr 0 0 :: .int .i64 d.1::U 2 (.sl (.int .i64) d.2.1 (.own 1)::U 21 (.sl (.int .i64) d.2.2.1 .no :: .int .i64 d.2.2.2.1 :: .int .i64 d.2.2.2.2.1::U 45 ([]))), [.cells [.str d.2.2.2.2.2.ae, .int .i64 d.2.2.2.2.2.header, .int .i64 d.2.2.2.2.2.order, .int .i64 d.2.2.2.2.2.update, .int .i64 d.2.2.2.2.2.aX, .int .i64 d.2.2.2.2.2.seen, .sl (.int .i64) d.2.2.2.2.2.path .no, .int .i64 d.2.2.2.2.2.seq, .bool d.2.2.2.2.2.open_, .int .i64 d.2.2.2.2.2.rel, .bool d.2.2.2.2.2.wait, .int .i64 d.2.2.2.2.2.pending.header, .str d.2.2.2.2.2.pending.ae, .int .i64 d.2.2.2.2.2.pending.order, .int .i64 d.2.2.2.2.2.pending.update, .sl .stop d.2.2.2.2.2.pending.nodes .no, .sl .dt d.2.2.2.2.2.pending.af .no], .tok]⟩
def jd (K:Ex→St→Option R) (q0:Int) (q1:List Int) (q2:ad.bN):Option R:=K (.exit 0) ⟨.ptr 0 0 :: .int .i64 q0::U 2 (.sl (.int .i64) q1 (.own 1)::U 69 ([])), [.cells [.str q2.ae, .int .i64 q2.header, .int .i64 q2.order, .int .i64 q2.update, .int .i64 q2.aX, .int .i64 q2.seen, .sl (.int .i64) q2.path .no, .int .i64 q2.seq, .bool q2.open_, .int .i64 q2.rel, .bool q2.wait, .int .i64 q2.pending.header, .str q2.pending.ae, .int .i64 q2.pending.order, .int .i64 q2.pending.update, .sl .stop q2.pending.nodes .no, .sl .dt q2.pending.af .no], .tok]⟩
abbrev ep:List cu := .leaf (.ptr 0 0) :: .leaf (.int .i64)::PU 2 (.leaf (.Li (.int .i64) 1)::PU 21 (.leaf (.sl (.int .i64)) :: .leaf (.int .i64) :: .leaf (.int .i64)::PU 45 ([])))
abbrev er:List aw := [.cells [.str, .int .i64, .int .i64, .int .i64, .int .i64, .int .i64, .sl (.int .i64), .int .i64, .bool, .int .i64, .bool, .int .i64, .str, .int .i64, .int .i64, .sl .stop, .sl .dt], .tok]
def ou (x:cu.aQ ep) (y:aw.aQ er):Nat:=(Int.natAbs x.2.1+List.length x.2.2.2.2.1+List.length ((t8 (t8 (t8 x))).2.2.1)+Int.natAbs ((t8 (t8 (t8 x))).2.2.2.1)+Int.natAbs ((t8 (t8 (t8 x))).2.2.2.2.1)+ad.bN.fu (⟨y.1.1,y.1.2.1,y.1.2.2.1,y.1.2.2.2.1,y.1.2.2.2.2.1,y.1.2.2.2.2.2.1,y.1.2.2.2.2.2.2.1,y.1.2.2.2.2.2.2.2.1,(t8 y.1).1,(t8 y.1).2.1,(t8 y.1).2.2.1,⟨(t8 y.1).2.2.2.1,(t8 y.1).2.2.2.2.1,(t8 y.1).2.2.2.2.2.1,(t8 y.1).2.2.2.2.2.2.1,(t8 y.1).2.2.2.2.2.2.2.1,(t8 (t8 y.1)).1⟩⟩:ad.bN)+64)
def xy (x:cu.aQ ep) (y:aw.aQ er):dA:=(x.2.1,x.2.2.2.2.1,(t8 (t8 (t8 x))).2.2.1,(t8 (t8 (t8 x))).2.2.2.1,(t8 (t8 (t8 x))).2.2.2.2.1,(⟨y.1.1,y.1.2.1,y.1.2.2.1,y.1.2.2.2.1,y.1.2.2.2.2.1,y.1.2.2.2.2.2.1,y.1.2.2.2.2.2.2.1,y.1.2.2.2.2.2.2.2.1,(t8 y.1).1,(t8 y.1).2.1,(t8 y.1).2.2.1,⟨(t8 y.1).2.2.2.1,(t8 y.1).2.2.2.2.1,(t8 y.1).2.2.2.2.2.1,(t8 y.1).2.2.2.2.2.2.1,(t8 y.1).2.2.2.2.2.2.2.1,(t8 (t8 y.1)).1⟩⟩:ad.bN))
def nh (L:jc R):nD R ep er:=fun x y K=>L (ou x y) x.2.1 x.2.2.2.2.1 ((t8 (t8 (t8 x))).2.2.1) ((t8 (t8 (t8 x))).2.2.2.1) ((t8 (t8 (t8 x))).2.2.2.2.1) (⟨y.1.1,y.1.2.1,y.1.2.2.1,y.1.2.2.2.1,y.1.2.2.2.2.1,y.1.2.2.2.2.2.1,y.1.2.2.2.2.2.2.1,y.1.2.2.2.2.2.2.2.1,(t8 y.1).1,(t8 y.1).2.1,(t8 y.1).2.2.1,⟨(t8 y.1).2.2.2.1,(t8 y.1).2.2.2.2.1,(t8 y.1).2.2.2.2.2.1,(t8 y.1).2.2.2.2.2.2.1,(t8 y.1).2.2.2.2.2.2.2.1,(t8 (t8 y.1)).1⟩⟩:ad.bN) (jd K)
section
variable (ag:ei R) (aF:jc R)
def eJ:List (xm R) := [(59,true,(j6 ag aL))]
def fJ (bS:Int→(List Int)→(List Int)→Int→Int→ad.bN→Option R) (x3:Int) (x4:List Int) (x5:List Int) (x6:Int) (x7:Int) (x8:ad.bN) (e0:Int→(List Int)→ad.bN→Option R):Option R :=
 bif (decide (x7<x6))then (cC (decide ((0:Int)≤x7)&&decide (x7<x5.length)) (ag x8.path (x5.getD x7.toNat (Ty.aC (.int .i64))) (fun y9=>bif (!y9)then (ag x4 (x5.getD x7.toNat (Ty.aC (.int .i64))) (fun vD=>bif (!vD)then (cC (decide ((x4.length+1)*8≤140737488355328)) (bS x3 ((x4:List Int)++(([(x5.getD x7.toNat (Ty.aC (.int .i64)))]:List Int):List Int)) x5 x6 (IntKind.i64.wrap (x7+1)) x8))else (bS x3 x4 x5 x6 (IntKind.i64.wrap (x7+1)) x8)))else (bS x3 x4 x5 x6 (IntKind.i64.wrap (x7+1)) x8))))else (e0 x3 x4 x8)
def ov (K:Ex→St→Option R) (rc:dA→Option R) (d:dA):Option R:=fJ ag (fun z0 z1 z2 z3 z4 z5=>rc (z0,z1,z2,z3,z4,z5)) d.1 d.2.1 d.2.2.1 d.2.2.2.1 d.2.2.2.2.1 d.2.2.2.2.2 (jd K)
def fQ:Nat→Option (Hint×bO R):=fun i=>match i with
 | 4=>some (fI,(bF ep er (nh aF) dZ))
 | _=>none
theorem vp (K:Ex→St→Option R) (rc:St→Option R) (d:dA):roundOf tt (bQ (eJ ag)) (fQ aF) 1 ((ah (ar Tryd.f42)).getD 0 .skip) fI (hX d) rc K=ov ag K (fun d=>rc (hX d)) d:=by kernel_rfl
def mw (x1:Int) (x2:ad.bN) (k0:(List Int)→ad.bN→Option R):Option R :=
 cC (decide ((0:Int)≤x1)&&decide (x1≤x2.path.length)) (cC (decide ((0:Int)≤x1)) (cC (decide ((0:Int)≤x1)&&decide (x1≤x2.path.length)) (aF (Int.natAbs x1+List.length ([]:List Int)+List.length ((x2.path.drop 0).take (x1.toNat - 0))+Int.natAbs (((x2.path.drop 0).take (x1.toNat - 0)).length:Int)+Int.natAbs 0+ad.bN.fu (⟨x2.ae,x2.header,x2.order,x2.update,x2.aX,x2.seen,(x2.path.drop x1.toNat),x2.seq,x2.open_,x2.rel,x2.wait,⟨x2.pending.header,x2.pending.ae,x2.pending.order,x2.pending.update,x2.pending.nodes,x2.pending.af⟩⟩:ad.bN)+64) x1 ([]:List Int) ((x2.path.drop 0).take (x1.toNat - 0)) (((x2.path.drop 0).take (x1.toNat - 0)).length:Int) 0 (⟨x2.ae,x2.header,x2.order,x2.update,x2.aX,x2.seen,(x2.path.drop x1.toNat),x2.seq,x2.open_,x2.rel,x2.wait,⟨x2.pending.header,x2.pending.ae,x2.pending.order,x2.pending.update,x2.pending.nodes,x2.pending.af⟩⟩:ad.bN) (fun pH IL Bk=>k0 IL (⟨Bk.ae,Bk.header,Bk.order,Bk.update,Bk.aX,Bk.seen,Bk.path,(IntKind.i64.wrap (Bk.seq+pH)),Bk.open_,(max (IntKind.i64.wrap (Bk.rel - (IntKind.i64.wrap (Int.tdiv pH 2)))) 0),Bk.wait,⟨Bk.pending.header,Bk.pending.ae,Bk.pending.order,Bk.pending.update,Bk.pending.nodes,Bk.pending.af⟩⟩:ad.bN)))))
theorem Cd:dT (R:=R) tt (eJ ag) (fQ aF) false Tryd.f42 mu mv (sc (mw aF)):=fun x y k=>by kernel_rfl
end
theorem AB:dG (R:=R) Tryd.prog (eJ (R:=R) ag) := .c (mN R) <| .n
def aF:jc R
 | 0,_,_,_,_,_,_,_=>none
 | n+1,eE,eF,eR,jZ,ug,vi,e0=>fJ ag (fun eE eF eR jZ ug vi=>aF n eE eF eR jZ ug vi e0) eE eF eR jZ ug vi e0
def ow (K:Ex→St→Option R) (n:Nat) (d:dA):Option R:=aF n d.1 d.2.1 d.2.2.1 d.2.2.2.1 d.2.2.2.2.1 d.2.2.2.2.2 (jd K)
theorem wU (other:bO R) (ho:dK tt (bQ (eJ (R:=R) ag)) (fQ (R:=R) aF) 1 ((ah (ar Tryd.f42)).getD 0 .skip) fI other):dK tt (bQ (eJ (R:=R) ag)) (fQ (R:=R) aF) 1 ((ah (ar Tryd.f42)).getD 0 .skip) fI (bF ep er (nh (aF)) other) :=
 bM (A:=ow) ho (cI hX (ov ag) (ow) (fun _ _=>by kernel_rfl) (vp ag aF) (fun _ _ _=>by kernel_rfl)) ou xy (fun _ _=>by kernel_rfl) (fun _ _ _=>by kernel_rfl)
def cN:hU R:=fun x1 x2 k0=>mw aF x1 x2 k0
theorem xA (R:Type):∀a∈ah (ar Tryd.f42),dY tt (bQ (eJ (R:=R) ag)) (fQ (R:=R) aF) 1 a:=by
 refine dx 1 (by kernel_rfl) fun i hi => ?_
 match i,hi with
 | 0,_=>exact bw (by kernel_rfl) (wU _ cj)
 | n+1,hi=>omega
theorem zq (R:Type):mW Tryd.prog 42 (tM (cN (R:=R))):=bL TT mixed (AB (R:=R)) rfl rfl rfl rfl (xA R) (Cd ag aF)

end Go.Proofs.YtolnaonmpohciaaDoor

/-
 Functions of the program as pure Lean functions, and the ties; printed by wip/tools/emit.py.
-/
set_option maxRecDepth 100000
namespace Go.Proofs.YtolnaonmpohciaaDoor
open Go Go.ad
variable {R:Type}

/-! ### humpyard/fleet.See -/
abbrev sd (R:Type):Type:=ad.bN→ad.State→(ad.bN→(List Int)→Bool→Option R)→Option R
abbrev Ep:List cu := [.agg [.str, .int .i64, .int .i64, .int .i64, .int .i64, .int .i64, .sl (.int .i64), .int .i64, .bool, .int .i64, .bool, .int .i64, .str, .int .i64, .int .i64, .sl .stop, .sl .dt], .agg [.int .i64, .int .i64, .str, .int .i64, .int .i64, .bool, .int .i64, .int .i64, .bool, .int .i64]]
abbrev Er:List aw := []
def HQ (fn:sd R):mY R Ep Er:=fun x y k=>fn (⟨x.1.1,x.1.2.1,x.1.2.2.1,x.1.2.2.2.1,x.1.2.2.2.2.1,x.1.2.2.2.2.2.1,x.1.2.2.2.2.2.2.1,x.1.2.2.2.2.2.2.2.1,(t8 x.1).1,(t8 x.1).2.1,(t8 x.1).2.2.1,⟨(t8 x.1).2.2.2.1,(t8 x.1).2.2.2.2.1,(t8 x.1).2.2.2.2.2.1,(t8 x.1).2.2.2.2.2.2.1,(t8 x.1).2.2.2.2.2.2.2.1,(t8 (t8 x.1)).1⟩⟩:ad.bN) (⟨x.2.1.1,x.2.1.2.1,x.2.1.2.2.1,x.2.1.2.2.2.1,x.2.1.2.2.2.2.1,x.2.1.2.2.2.2.2.1,x.2.1.2.2.2.2.2.2.1,x.2.1.2.2.2.2.2.2.2.1,(t8 x.2.1).1,(t8 x.2.1).2.1⟩:ad.State) (fun q0 q1 q2=>k (.tuple [.agg [.str q0.ae, .int .i64 q0.header, .int .i64 q0.order, .int .i64 q0.update, .int .i64 q0.aX, .int .i64 q0.seen, .sl (.int .i64) q0.path .no, .int .i64 q0.seq, .bool q0.open_, .int .i64 q0.rel, .bool q0.wait, .int .i64 q0.pending.header, .str q0.pending.ae, .int .i64 q0.pending.order, .int .i64 q0.pending.update, .sl .stop q0.pending.nodes .no, .sl .dt q0.pending.af .no], .sl (.int .i64) q1 .no, .bool q2]) [])
def Es (fn:sd R):=bx Ep Er (HQ fn)
section
variable (cF:hG R) (c9:hQ R) (cM:hM R) (cN:hU R) (bP:nE R) (dh:na R) (gp:rW R) (gn:rO R)
def Kc:List (xm R) := [(41,false,(tK c9 (tH cF aL))),(42,false,(tM cN (tJ cM aL))),(25,false,(xP bP aL)),(34,true,(yN dh aL)),(40,true,(F0 gp aL)),(39,true,(FX gn aL))]
def Et (x1:ad.bN) (x2:ad.State) (k0:ad.bN→(List Int)→Bool→Option R):Option R :=
 bP x1 (fun y3=>dh x1 (fun y4=>bif (!y4)then (k0 y3 ([]:List Int) false)else (gn x2 (fun y5=>bif (!y5)then (k0 y3 ([]:List Int) false)else (bif (!(x2.ae==x1.ae))then (k0 y3 ([]:List Int) false)else (gp x2 (⟨x1.seen,x1.aX,([]:aA),0,0,false,0,0,false,0⟩:ad.State) (fun y6=>bif (!y6)then (k0 y3 ([]:List Int) false)else (let j24:=fun (z8:Bool)=>bif z8 then (cF (⟨y3.ae,y3.header,y3.order,y3.update,x2.aX,x2.header,y3.path,y3.seq,y3.open_,y3.rel,y3.wait,⟨y3.pending.header,y3.pending.ae,y3.pending.order,y3.pending.update,y3.pending.nodes,y3.pending.af⟩⟩:ad.bN) (fun y9 vD uJ pH IL Bk Kb OS OT RH YA VK Lm J9 Ka=>bif (x2.order==0)then (k0 (⟨y9,vD,uJ,pH,IL,Bk,Kb,OS,OT,RH,YA,⟨VK,Lm,J9,Ka,([]:List Stop),([]:List ad.Way)⟩⟩:ad.bN) ([]:List Int) true)else (bif (x2.order != x1.order)then (k0 (⟨y9,vD,uJ,pH,IL,Bk,Kb,OS,OT,RH,YA,⟨VK,Lm,J9,Ka,([]:List Stop),([]:List ad.Way)⟩⟩:ad.bN) ([]:List Int) true)else (let j121:=bif x1.open_ then (bif (!x2.live)then (c9 y9 vD uJ pH IL Bk Kb OS OT RH YA VK Lm J9 Ka (fun YB YC y108 VW YD u4 Tn y113 y114 y115 y116 y117 y118 y119 y120=>k0 (⟨YB,YC,y108,VW,YD,u4,Tn,y113,false,0,y116,⟨y117,y118,y119,y120,([]:List Stop),([]:List ad.Way)⟩⟩:ad.bN) ([]:List Int) true))else (k0 (⟨y9,vD,uJ,pH,IL,Bk,Kb,OS,OT,RH,YA,⟨VK,Lm,J9,Ka,([]:List Stop),([]:List ad.Way)⟩⟩:ad.bN) ([]:List Int) true))else (k0 (⟨y9,vD,uJ,pH,IL,Bk,Kb,OS,OT,RH,YA,⟨VK,Lm,J9,Ka,([]:List Stop),([]:List ad.Way)⟩⟩:ad.bN) ([]:List Int) true); bif (decide ((IntKind.i64.wrap (x2.seq - x1.seq))>(0:Int)))then (bif ((Int.tmod (IntKind.i64.wrap (x2.seq - x1.seq)) 2)==0)then (bif (decide ((IntKind.i64.wrap (x2.seq - x1.seq))<(x1.path.length:Int)))then (cM (IntKind.i64.wrap (x2.seq - x1.seq)) y9 vD uJ pH IL Bk Kb OS OT RH YA VK Lm J9 Ka (fun y43 y44 y45 y46 y47 Zm y49 Zn Wo Wp Wq Wr Ws Wu y57 y58=>bif x1.open_ then (bif (!x2.live)then (c9 y44 y45 y46 y47 Zm y49 Zn Wo Wp Wq Wr Ws Wu y57 y58 (fun y75 y76 y77 y78 y79 y80 y81 y82 y83 y84 y85 y86 y87 y88 y89=>k0 (⟨y75,y76,y77,y78,y79,y80,y81,y82,false,0,y85,⟨y86,y87,y88,y89,([]:List Stop),([]:List ad.Way)⟩⟩:ad.bN) y43 true))else (k0 (⟨y44,y45,y46,y47,Zm,y49,Zn,Wo,Wp,Wq,Wr,⟨Ws,Wu,y57,y58,([]:List Stop),([]:List ad.Way)⟩⟩:ad.bN) y43 true))else (k0 (⟨y44,y45,y46,y47,Zm,y49,Zn,Wo,Wp,Wq,Wr,⟨Ws,Wu,y57,y58,([]:List Stop),([]:List ad.Way)⟩⟩:ad.bN) y43 true)))else (j121))else (j121))else (j121)))))else (let j123:=fun (z122:Bool)=>bif z122 then (k0 (⟨y3.ae,y3.header,y3.order,y3.update,x2.aX,x2.header,y3.path,y3.seq,y3.open_,y3.rel,y3.wait,⟨y3.pending.header,y3.pending.ae,y3.pending.order,y3.pending.update,y3.pending.nodes,y3.pending.af⟩⟩:ad.bN) ([]:List Int) true)else (let To:=fun (z124:Bool)=>bif z124 then (cN (IntKind.i64.wrap (x2.seq - x1.seq)) (⟨y3.ae,y3.header,y3.order,y3.update,x2.aX,x2.header,y3.path,y3.seq,y3.open_,y3.rel,y3.wait,⟨y3.pending.header,y3.pending.ae,y3.pending.order,y3.pending.update,y3.pending.nodes,y3.pending.af⟩⟩:ad.bN) (fun VX YE=>bif x1.open_ then (bif (!x2.live)then (cF YE (fun y144 y145 y146 y147 y148 y149 y150 y151 y152 y153 y154 y155 y156 y157 y158=>k0 (⟨y144,y145,y146,y147,y148,y149,y150,y151,false,0,y154,⟨y155,y156,y157,y158,([]:List Stop),([]:List ad.Way)⟩⟩:ad.bN) VX true))else (k0 YE VX true))else (k0 YE VX true)))else (let j175:=fun (z159:Bool)=>bif z159 then (cF (⟨y3.ae,y3.header,y3.order,y3.update,x2.aX,x2.header,y3.path,y3.seq,y3.open_,y3.rel,y3.wait,⟨y3.pending.header,y3.pending.ae,y3.pending.order,y3.pending.update,y3.pending.nodes,y3.pending.af⟩⟩:ad.bN) (fun y160 y161 y162 y163 y164 y165 y166 y167 y168 y169 y170 y171 y172 y173 y174=>k0 (⟨y160,y161,y162,y163,y164,y165,y166,y167,false,0,y170,⟨y171,y172,y173,y174,([]:List Stop),([]:List ad.Way)⟩⟩:ad.bN) ([]:List Int) true))else (k0 (⟨y3.ae,y3.header,y3.order,y3.update,x2.aX,x2.header,y3.path,y3.seq,y3.open_,y3.rel,y3.wait,⟨y3.pending.header,y3.pending.ae,y3.pending.order,y3.pending.update,y3.pending.nodes,y3.pending.af⟩⟩:ad.bN) ([]:List Int) true); bif x1.open_ then (j175 (!x2.live))else (j175 false)); bif (decide ((IntKind.i64.wrap (x2.seq - x1.seq))>(0:Int)))then (bif ((Int.tmod (IntKind.i64.wrap (x2.seq - x1.seq)) 2)==0)then (To (decide ((IntKind.i64.wrap (x2.seq - x1.seq))<(x1.path.length:Int))))else (To false))else (To false)); bif (x2.order==0)then (j123 true)else (j123 (x2.order != x1.order))); bif x1.wait then (j24 (decide (x2.accepted≥x1.pending.header)))else (j24 false)))))))))
theorem P3:dT (R:=R) tt (Kc cF c9 cM cN bP dh gp gn) xo false Tryd.f18 Ep Er (HQ (Et cF c9 cM cN bP dh gp gn)):=fun x y k=>by kernel_rfl
end
theorem NW:dG (R:=R) Tryd.prog (Kc (R:=R) cF c9 cM cN bP dh gp gn) := .f (zp R _ (zk R _ (Af _))) rfl <| .f (zq R _ (zo R _ (Af _))) rfl <| .d (wB R) rfl <| .c (Aj R) <| .c (Jm R) <| .c (Ji R) <| .n
def bT:sd R:=fun x1 x2 k0=>Et cF c9 cM cN bP dh gp gn x1 x2 k0
theorem Eu (R:Type):mW Tryd.prog 18 (Es (bT (R:=R))):=bL TT mixed (NW (R:=R)) rfl rfl rfl rfl de (P3 cF c9 cM cN bP dh gp gn)

/-! ### humpyard/humpyardref08.Same -/
abbrev lV (R:Type):Type:=Order→Order→(Bool→Option R)→Option R
abbrev Ce:List cu := [.agg [.int .i64, .str, .int .i64, .int .i64, .sl .stop, .sl .dt], .agg [.int .i64, .str, .int .i64, .int .i64, .sl .stop, .sl .dt]]
abbrev Cf:List aw := []
def F4 (fn:lV R):mY R Ce Cf:=fun x y k=>fn (⟨x.1.1,x.1.2.1,x.1.2.2.1,x.1.2.2.2.1,x.1.2.2.2.2.1,x.1.2.2.2.2.2.1⟩:Order) (⟨x.2.1.1,x.2.1.2.1,x.2.1.2.2.1,x.2.1.2.2.2.1,x.2.1.2.2.2.2.1,x.2.1.2.2.2.2.2.1⟩:Order) (fun q0=>k (.bool q0) [])
def vS (fn:lV R):=bx Ce Cf (F4 fn)
abbrev sf (R:Type):Type:=Nat→Int→Order→Order→(Order→Order→Option R)→(Bool→Order→Order→Option R)→Option R
abbrev sh (R:Type):Type:=Nat→Int→Order→Order→(Option R)→(Bool→Option R)→Option R
def nM:Hint := { live := [2,3,5],own := [],rows := [],cells := [],drop := [],out := [2,3,4] }
abbrev iA:Type:=Int×Order×Order
def qf:iA→St:=fun d=>⟨U 2 (.ptr 0 0 :: .ptr 1 0 :: .undef :: .int .i64 d.1::U 81 ([])), [.cells [.int .i64 d.2.1.header, .str d.2.1.ae, .int .i64 d.2.1.order, .int .i64 d.2.1.update, .sl .stop d.2.1.nodes .no, .sl .dt d.2.1.af .no], .cells [.int .i64 d.2.2.header, .str d.2.2.ae, .int .i64 d.2.2.order, .int .i64 d.2.2.update, .sl .stop d.2.2.nodes .no, .sl .dt d.2.2.af .no]]⟩
def si (K:Ex→St→Option R) (q0:Order) (q1:Order):Option R:=K (.exit 0) ⟨U 2 (.ptr 0 0 :: .ptr 1 0::U 83 ([])), [.cells [.int .i64 q0.header, .str q0.ae, .int .i64 q0.order, .int .i64 q0.update, .sl .stop q0.nodes .no, .sl .dt q0.af .no], .cells [.int .i64 q1.header, .str q1.ae, .int .i64 q1.order, .int .i64 q1.update, .sl .stop q1.nodes .no, .sl .dt q1.af .no]]⟩
def sj (K:Ex→St→Option R) (q0:Bool) (q1:Order) (q2:Order):Option R:=K (.ret) ⟨U 2 (.ptr 0 0 :: .ptr 1 0 :: .bool q0::U 82 ([])), [.cells [.int .i64 q1.header, .str q1.ae, .int .i64 q1.order, .int .i64 q1.update, .sl .stop q1.nodes .no, .sl .dt q1.af .no], .cells [.int .i64 q2.header, .str q2.ae, .int .i64 q2.order, .int .i64 q2.update, .sl .stop q2.nodes .no, .sl .dt q2.af .no]]⟩
abbrev kC:List cu:=PU 2 (.leaf (.ptr 0 0) :: .leaf (.ptr 1 0) :: .leaf (.undef) :: .leaf (.int .i64)::PU 81 ([]))
abbrev kD:List aw := [.cells [.int .i64, .str, .int .i64, .int .i64, .sl .stop, .sl .dt], .cells [.int .i64, .str, .int .i64, .int .i64, .sl .stop, .sl .dt]]
def AD (x:cu.aQ kC) (y:aw.aQ kD):Nat:=(Int.natAbs x.2.2.2.2.2.1+Order.fu (⟨y.1.1,y.1.2.1,y.1.2.2.1,y.1.2.2.2.1,y.1.2.2.2.2.1,y.1.2.2.2.2.2.1⟩:Order)+Order.fu (⟨y.2.1.1,y.2.1.2.1,y.2.1.2.2.1,y.2.1.2.2.2.1,y.2.1.2.2.2.2.1,y.2.1.2.2.2.2.2.1⟩:Order)+64)
def Jp (x:cu.aQ kC) (y:aw.aQ kD):iA:=(x.2.2.2.2.2.1,(⟨y.1.1,y.1.2.1,y.1.2.2.1,y.1.2.2.2.1,y.1.2.2.2.2.1,y.1.2.2.2.2.2.1⟩:Order),(⟨y.2.1.1,y.2.1.2.1,y.2.1.2.2.1,y.2.1.2.2.2.1,y.2.1.2.2.2.2.1,y.2.1.2.2.2.2.2.1⟩:Order))
def yc (L:sf R):nD R kC kD:=fun x y K=>L (AD x y) x.2.2.2.2.2.1 (⟨y.1.1,y.1.2.1,y.1.2.2.1,y.1.2.2.2.1,y.1.2.2.2.2.1,y.1.2.2.2.2.2.1⟩:Order) (⟨y.2.1.1,y.2.1.2.1,y.2.1.2.2.1,y.2.1.2.2.2.1,y.2.1.2.2.2.2.1,y.2.1.2.2.2.2.2.1⟩:Order) (si K) (sj K)
def nN:Hint := { live := [2,3,6],own := [],rows := [],cells := [],drop := [],out := [4] }
abbrev iB:Type:=Int×Order×Order
def qg:iB→St:=fun d=>⟨U 2 (.ptr 0 0 :: .ptr 1 0::U 2 (.int .i64 d.1::U 80 ([]))), [.cells [.int .i64 d.2.1.header, .str d.2.1.ae, .int .i64 d.2.1.order, .int .i64 d.2.1.update, .sl .stop d.2.1.nodes .no, .sl .dt d.2.1.af .no], .cells [.int .i64 d.2.2.header, .str d.2.2.ae, .int .i64 d.2.2.order, .int .i64 d.2.2.update, .sl .stop d.2.2.nodes .no, .sl .dt d.2.2.af .no]]⟩
def sk (K:Ex→St→Option R):Option R:=K (.exit 2) ⟨U 87 ([]), []⟩
def sn (K:Ex→St→Option R) (q0:Bool):Option R:=K (.ret) ⟨U 4 (.bool q0::U 82 ([])), []⟩
abbrev kE:List cu:=PU 2 (.leaf (.ptr 0 0) :: .leaf (.ptr 1 0)::PU 2 (.leaf (.int .i64)::PU 80 ([])))
abbrev kF:List aw := [.cells [.int .i64, .str, .int .i64, .int .i64, .sl .stop, .sl .dt], .cells [.int .i64, .str, .int .i64, .int .i64, .sl .stop, .sl .dt]]
def AE (x:cu.aQ kE) (y:aw.aQ kF):Nat:=(Int.natAbs x.2.2.2.2.2.2.1+Order.fu (⟨y.1.1,y.1.2.1,y.1.2.2.1,y.1.2.2.2.1,y.1.2.2.2.2.1,y.1.2.2.2.2.2.1⟩:Order)+Order.fu (⟨y.2.1.1,y.2.1.2.1,y.2.1.2.2.1,y.2.1.2.2.2.1,y.2.1.2.2.2.2.1,y.2.1.2.2.2.2.2.1⟩:Order)+64)
def Jq (x:cu.aQ kE) (y:aw.aQ kF):iB:=(x.2.2.2.2.2.2.1,(⟨y.1.1,y.1.2.1,y.1.2.2.1,y.1.2.2.2.1,y.1.2.2.2.2.1,y.1.2.2.2.2.2.1⟩:Order),(⟨y.2.1.1,y.2.1.2.1,y.2.1.2.2.1,y.2.1.2.2.2.1,y.2.1.2.2.2.2.1,y.2.1.2.2.2.2.2.1⟩:Order))
def yd (L:sh R):nD R kE kF:=fun x y K=>L (AE x y) x.2.2.2.2.2.2.1 (⟨y.1.1,y.1.2.1,y.1.2.2.1,y.1.2.2.2.1,y.1.2.2.2.2.1,y.1.2.2.2.2.2.1⟩:Order) (⟨y.2.1.1,y.2.1.2.1,y.2.1.2.2.1,y.2.1.2.2.2.1,y.2.1.2.2.2.2.1,y.2.1.2.2.2.2.2.1⟩:Order) (sk K) (sn K)
section
variable (bq:sf R) (br:sh R)
def nO (bS:Int→Order→Order→Option R) (x4:Int) (x5:Order) (x6:Order) (e0:Order→Order→Option R) (e1:Bool→Order→Order→Option R):Option R :=
 bif (decide (x4<(x5.nodes.length:Int)))then (cC (decide ((0:Int)≤x4)&&decide (x4<x5.nodes.length)) (cC (decide ((0:Int)≤x4)&&decide (x4<x6.nodes.length)) (bif (!((x5.nodes.getD x4.toNat (Ty.aC .stop)).node==(x6.nodes.getD x4.toNat (Ty.aC .stop)).node&&((x5.nodes.getD x4.toNat (Ty.aC .stop)).seq==(x6.nodes.getD x4.toNat (Ty.aC .stop)).seq&&((x5.nodes.getD x4.toNat (Ty.aC .stop)).ax==(x6.nodes.getD x4.toNat (Ty.aC .stop)).ax&&true))))then (e1 false x5 x6)else (bS (IntKind.i64.wrap (x4+1)) x5 x6))))else (e0 x5 x6)
def AF (K:Ex→St→Option R) (rc:iA→Option R) (d:iA):Option R:=nO (fun z0 z1 z2=>rc (z0,z1,z2)) d.1 d.2.1 d.2.2 (si K) (sj K)
def nP (bS:Int→Order→Order→Option R) (Fg:Int) (xY:Order) (Bj:Order) (e0:Option R) (e1:Bool→Option R):Option R :=
 bif (decide (Fg<(xY.af.length:Int)))then (cC (decide ((0:Int)≤Fg)&&decide (Fg<xY.af.length)) (cC (decide ((0:Int)≤Fg)&&decide (Fg<Bj.af.length)) (bif (!((xY.af.getD Fg.toNat (Ty.aC .dt)).fk==(Bj.af.getD Fg.toNat (Ty.aC .dt)).fk&&((xY.af.getD Fg.toNat (Ty.aC .dt)).seq==(Bj.af.getD Fg.toNat (Ty.aC .dt)).seq&&((xY.af.getD Fg.toNat (Ty.aC .dt)).ax==(Bj.af.getD Fg.toNat (Ty.aC .dt)).ax&&true))))then (e1 false)else (bS (IntKind.i64.wrap (Fg+1)) xY Bj))))else (e0)
def AG (K:Ex→St→Option R) (rc:iB→Option R) (d:iB):Option R:=nP (fun z0 z1 z2=>rc (z0,z1,z2)) d.1 d.2.1 d.2.2 (sk K) (sn K)
def jQ:Nat→Option (Hint×bO R):=fun i=>match i with
 | 4=>some (nM,(bF kC kD (yc bq) dZ))
 | 9=>some (nN,(bF kE kF (yd br) dZ))
 | _=>none
theorem Ft (K:Ex→St→Option R) (rc:St→Option R) (d:iA):roundOf tt (bQ []) (jQ bq br) 0 ((ah (ar Tryd.f17)).getD 0 .skip) nM (qf d) rc K=AF K (fun d=>rc (qf d)) d:=by kernel_rfl
theorem Fu (K:Ex→St→Option R) (rc:St→Option R) (d:iB):roundOf tt (bQ []) (jQ bq br) 0 ((ah (ar Tryd.f17)).getD 1 .skip) nN (qg d) rc K=AG K (fun d=>rc (qg d)) d:=by kernel_rfl
def Cg (x1:Order) (x2:Order) (k0:Bool→Option R):Option R :=
 bif (x1.header != x2.header)then (k0 false)else (bif (!(x1.ae==x2.ae))then (k0 false)else (bif (x1.order != x2.order)then (k0 false)else (bif (x1.update != x2.update)then (k0 false)else (bif ((x1.nodes.length:Int) != (x2.nodes.length:Int))then (k0 false)else (bif ((x1.af.length:Int) != (x2.af.length:Int))then (k0 false)else (bq (Int.natAbs 0+Order.fu x1+Order.fu x2+64) 0 x1 x2 (fun y7 y8=>br (Int.natAbs 0+Order.fu y7+Order.fu y8+64) 0 y7 y8 (k0 true) (fun Kb=>k0 Kb)) (fun y9 vD uJ=>k0 y9)))))))
theorem NX:dT (R:=R) tt [] (jQ bq br) false Tryd.f17 Ce Cf (F4 (Cg bq br)):=fun x y k=>by kernel_rfl
end
def bq:sf R
 | 0,_,_,_,_,_=>none
 | n+1,eE,eF,eR,e0,e1=>nO (fun eE eF eR=>bq n eE eF eR e0 e1) eE eF eR e0 e1
def AH (K:Ex→St→Option R) (n:Nat) (d:iA):Option R:=bq n d.1 d.2.1 d.2.2 (si K) (sj K)
def br:sh R
 | 0,_,_,_,_,_=>none
 | n+1,eE,eF,eR,e0,e1=>nP (fun eE eF eR=>br n eE eF eR e0 e1) eE eF eR e0 e1
def AI (K:Ex→St→Option R) (n:Nat) (d:iB):Option R:=br n d.1 d.2.1 d.2.2 (sk K) (sn K)
theorem HR (other:bO R) (ho:dK tt (bQ []) (jQ (R:=R) bq br) 0 ((ah (ar Tryd.f17)).getD 0 .skip) nM other):dK tt (bQ []) (jQ (R:=R) bq br) 0 ((ah (ar Tryd.f17)).getD 0 .skip) nM (bF kC kD (yc (bq)) other) :=
 bM (A:=AH) ho (cI qf (AF) (AH) (fun _ _=>by kernel_rfl) (Ft bq br) (fun _ _ _=>by kernel_rfl)) AD Jp (fun _ _=>by kernel_rfl) (fun _ _ _=>by kernel_rfl)
theorem HS (other:bO R) (ho:dK tt (bQ []) (jQ (R:=R) bq br) 0 ((ah (ar Tryd.f17)).getD 1 .skip) nN other):dK tt (bQ []) (jQ (R:=R) bq br) 0 ((ah (ar Tryd.f17)).getD 1 .skip) nN (bF kE kF (yd (br)) other) :=
 bM (A:=AI) ho (cI qg (AG) (AI) (fun _ _=>by kernel_rfl) (Fu bq br) (fun _ _ _=>by kernel_rfl)) AE Jq (fun _ _=>by kernel_rfl) (fun _ _ _=>by kernel_rfl)
def aT:lV R:=fun x1 x2 k0=>Cg bq br x1 x2 k0
theorem Jr (R:Type):∀a∈ah (ar Tryd.f17),dY tt (bQ []) (jQ (R:=R) bq br) 0 a:=by
 refine dx 2 (by kernel_rfl) fun i hi => ?_
 match i,hi with
 | 0,_=>exact bw (by kernel_rfl) (HR _ cj)
 | 1,_=>exact bw (by kernel_rfl) (HS _ cj)
 | n+2,hi=>omega
theorem vq (R:Type):mW Tryd.prog 17 (vS (aT (R:=R))):=bL TT mixed .n rfl rfl rfl rfl (Jr R) (NX bq br)

/-! ### humpyard/humpyardlaw11.Ints -/
abbrev pz (R:Type):Type:=(List Int)→(List Int)→(Bool→Option R)→Option R
abbrev Ch:List cu := [.leaf (.sl (.int .i64)), .leaf (.sl (.int .i64))]
abbrev Ci:List aw := []
def F5 (fn:pz R):mY R Ch Ci:=fun x y k=>fn x.1 x.2.1 (fun q0=>k (.bool q0) [])
def Cj (fn:pz R):=bx Ch Ci (F5 fn)
abbrev so (R:Type):Type:=Nat→(List Int)→(List Int)→Int→(Option R)→(Bool→Option R)→Option R
def nQ:Hint := { live := [0,1,5],own := [],rows := [],cells := [],drop := [],out := [4] }
abbrev iC:Type:=(List Int)×(List Int)×Int
def qh:iC→St:=fun d=>⟨.sl (.int .i64) d.1 .no :: .sl (.int .i64) d.2.1 .no::U 3 (.int .i64 d.2.2::U 20 ([])), []⟩
def sr (K:Ex→St→Option R):Option R:=K (.exit 0) ⟨U 26 ([]), []⟩
def su (K:Ex→St→Option R) (q0:Bool):Option R:=K (.ret) ⟨U 4 (.bool q0::U 21 ([])), []⟩
abbrev kG:List cu := .leaf (.sl (.int .i64)) :: .leaf (.sl (.int .i64))::PU 3 (.leaf (.int .i64)::PU 20 ([]))
abbrev kH:List aw := []
def AJ (x:cu.aQ kG) (y:aw.aQ kH):Nat:=(List.length x.1+List.length x.2.1+Int.natAbs x.2.2.2.2.2.1+64)
def Js (x:cu.aQ kG) (y:aw.aQ kH):iC:=(x.1,x.2.1,x.2.2.2.2.2.1)
def ye (L:so R):nD R kG kH:=fun x y K=>L (AJ x y) x.1 x.2.1 x.2.2.2.2.2.1 (sr K) (su K)
section
variable (bW:so R)
def nR (bS:(List Int)→(List Int)→Int→Option R) (x3:List Int) (x4:List Int) (x5:Int) (e0:Option R) (e1:Bool→Option R):Option R :=
 bif (decide (x5<(x3.length:Int)))then (cC (decide ((0:Int)≤x5)&&decide (x5<x3.length)) (cC (decide ((0:Int)≤x5)&&decide (x5<x4.length)) (bif ((x3.getD x5.toNat (Ty.aC (.int .i64))) != (x4.getD x5.toNat (Ty.aC (.int .i64))))then (e1 false)else (bS x3 x4 (IntKind.i64.wrap (x5+1))))))else (e0)
def AK (K:Ex→St→Option R) (rc:iC→Option R) (d:iC):Option R:=nR (fun z0 z1 z2=>rc (z0,z1,z2)) d.1 d.2.1 d.2.2 (sr K) (su K)
def sw:Nat→Option (Hint×bO R):=fun i=>match i with
 | 4=>some (nQ,(bF kG kH (ye bW) dZ))
 | _=>none
theorem Fv (K:Ex→St→Option R) (rc:St→Option R) (d:iC):roundOf tt (bQ []) (sw bW) 0 ((ah (ar Tryd.f20)).getD 0 .skip) nQ (qh d) rc K=AK K (fun d=>rc (qh d)) d:=by kernel_rfl
def Ck (x1:List Int) (x2:List Int) (k0:Bool→Option R):Option R :=
 bif ((x1.length:Int) != (x2.length:Int))then (k0 false)else (bW (List.length x1+List.length x2+Int.natAbs 0+64) x1 x2 0 (k0 true) (fun y6=>k0 y6))
theorem NY:dT (R:=R) tt [] (sw bW) false Tryd.f20 Ch Ci (F5 (Ck bW)):=fun x y k=>by kernel_rfl
end
def bW:so R
 | 0,_,_,_,_,_=>none
 | n+1,eE,eF,eR,e0,e1=>nR (fun eE eF eR=>bW n eE eF eR e0 e1) eE eF eR e0 e1
def AL (K:Ex→St→Option R) (n:Nat) (d:iC):Option R:=bW n d.1 d.2.1 d.2.2 (sr K) (su K)
theorem HT (other:bO R) (ho:dK tt (bQ []) (sw (R:=R) bW) 0 ((ah (ar Tryd.f20)).getD 0 .skip) nQ other):dK tt (bQ []) (sw (R:=R) bW) 0 ((ah (ar Tryd.f20)).getD 0 .skip) nQ (bF kG kH (ye (bW)) other) :=
 bM (A:=AL) ho (cI qh (AK) (AL) (fun _ _=>by kernel_rfl) (Fv bW) (fun _ _ _=>by kernel_rfl)) AJ Js (fun _ _=>by kernel_rfl) (fun _ _ _=>by kernel_rfl)
def bp:pz R:=fun x1 x2 k0=>Ck bW x1 x2 k0
theorem Jt (R:Type):∀a∈ah (ar Tryd.f20),dY tt (bQ []) (sw (R:=R) bW) 0 a:=by
 refine dx 1 (by kernel_rfl) fun i hi => ?_
 match i,hi with
 | 0,_=>exact bw (by kernel_rfl) (HT _ cj)
 | n+1,hi=>omega
theorem Dj (R:Type):mW Tryd.prog 20 (Cj (bp (R:=R))):=bL TT mixed .n rfl rfl rfl rfl (Jt R) (NY bW)

/-! ### humpyard/humpyardlaw18.awake -/
abbrev sA (R:Type):Type:=(Bool→Option R)→Option R
abbrev zt:List cu := []
abbrev zu:List aw := []
def Ev (fn:sA R):mY R zt zu:=fun x y k=>fn (fun q0=>k (.bool q0) [])
def F6 (fn:sA R):=bx zt zu (Ev fn)
section
variable (bG:m6 R) (aM:lT R) (bB:pr R) (bn:pd R) (bT:sd R) (bp:pz R) (aT:lV R)
def F7:List (xm R) := [(21,true,(yD bG aL)),(12,true,(vQ aM aL)),(15,true,(BX bB aL)),(9,true,(BO bn aL)),(18,true,(Es bT aL)),(20,true,(Cj bp aL)),(17,true,(vS aT aL))]
def F8 (k0:Bool→Option R):Option R :=
 bG ([118]:aA) 0 (fun y1=>bn y1 ([0,1000,1]:List Int) (fun y2 y3=>bB y2 0 (fun y4 y5 y6=>bT y4 (⟨1,0,([118]:aA),1,0,true,1,2,false,1⟩:ad.State) (fun y7 y8 y9=>aM y1 (fun vD=>bif vD then (bif y3 then (aM y2 (fun uJ=>bif (!uJ)then (bif y6 then (aT y5 (⟨1,([118]:aA),1,0,([(⟨0,0,true⟩:Stop),(⟨1,2,true⟩:Stop)]:List Stop),([(⟨0,1,true⟩:ad.Way)]:List ad.Way)⟩:Order) (fun pH=>bif pH then (bif y4.wait then (bif y9 then (bp y8 ([0,1000]:List Int) (fun IL=>bif IL then (aM y7 (fun Bk=>bif Bk then (bp y7.path ([1]:List Int) (fun Kb=>k0 Kb))else (k0 false)))else (k0 false)))else (k0 false))else (k0 false))else (k0 false)))else (k0 false))else (k0 false)))else (k0 false))else (k0 false))))))
theorem M0:dT (R:=R) tt (F7 bG aM bB bn bT bp aT) xo false Tryd.f5 zt zu (Ev (F8 bG aM bB bn bT bp aT)):=fun x y k=>by kernel_rfl
end
theorem KJ:dG (R:=R) Tryd.prog (F7 (R:=R) bG aM bB bn bT bp aT) := .c (Ah R) <| .c (vh R) <| .c (Dh R) <| .c (Df R) <| .c (Eu R) <| .c (Dj R) <| .c (vq R) <| .n
def cx:sA R:=fun  k0=>F8 bG aM bB bn bT bp aT  k0
theorem Ju (R:Type):mW Tryd.prog 5 (F6 (cx (R:=R))):=bL TT mixed (KJ (R:=R)) rfl rfl rfl rfl de (M0 bG aM bB bn bT bp aT)

/-! ### humpyard/humpyardlaw11.pick -/
abbrev uK (R:Type):Type:=Int→Int→(Int→Option R)→Option R
abbrev Cl:List cu := [.leaf (.int .i64), .leaf (.int .i64)]
abbrev Cm:List aw := []
def F9 (fn:uK R):mY R Cl Cm:=fun x y k=>fn x.1 x.2.1 (fun q0=>k (.int .i64 q0) [])
def HU (fn:uK R):=bx Cl Cm (F9 fn)
section
def HV (x1:Int) (x2:Int) (k0:Int→Option R):Option R :=
 bif (decide (x1<(0:Int)))then (cC (!decide (x2=0)) (k0 (Int.tmod (IntKind.i64.wrap (0 - (IntKind.i64.wrap (x1+1)))) x2)))else (cC (!decide (x2=0)) (k0 (Int.tmod x1 x2)))
theorem NZ:dT (R:=R) tt [] xo false Tryd.f23 Cl Cm (F9 HV):=fun x y k=>by kernel_rfl
end
def cn:uK R:=fun x1 x2 k0=>HV x1 x2 k0
theorem KK (R:Type):mW Tryd.prog 23 (HU (cn (R:=R))):=bL TT mixed .n rfl rfl rfl rfl de (NZ)

end Go.Proofs.YtolnaonmpohciaaDoor

/-
 Functions of the program as pure Lean functions, and the ties; printed by wip/tools/emit.py.
-/
set_option maxRecDepth 100000
namespace Go.Proofs.YtolnaonmpohciaaDoor
open Go Go.ad
variable {R:Type}

/-! ### humpyard/humpyardref18.copied -/
abbrev jE (R:Type):Type:=ad.bN→(ad.bN→Option R)→Option R
abbrev wV:List cu := [.agg [.str, .int .i64, .int .i64, .int .i64, .int .i64, .int .i64, .sl (.int .i64), .int .i64, .bool, .int .i64, .bool, .int .i64, .str, .int .i64, .int .i64, .sl .stop, .sl .dt]]
abbrev wW:List aw := []
def Dk (fn:jE R):mY R wV wW:=fun x y k=>fn (⟨x.1.1,x.1.2.1,x.1.2.2.1,x.1.2.2.2.1,x.1.2.2.2.2.1,x.1.2.2.2.2.2.1,x.1.2.2.2.2.2.2.1,x.1.2.2.2.2.2.2.2.1,(t8 x.1).1,(t8 x.1).2.1,(t8 x.1).2.2.1,⟨(t8 x.1).2.2.2.1,(t8 x.1).2.2.2.2.1,(t8 x.1).2.2.2.2.2.1,(t8 x.1).2.2.2.2.2.2.1,(t8 x.1).2.2.2.2.2.2.2.1,(t8 (t8 x.1)).1⟩⟩:ad.bN) (fun q0=>k (.agg [.str q0.ae, .int .i64 q0.header, .int .i64 q0.order, .int .i64 q0.update, .int .i64 q0.aX, .int .i64 q0.seen, .sl (.int .i64) q0.path .no, .int .i64 q0.seq, .bool q0.open_, .int .i64 q0.rel, .bool q0.wait, .int .i64 q0.pending.header, .str q0.pending.ae, .int .i64 q0.pending.order, .int .i64 q0.pending.update, .sl .stop q0.pending.nodes .no, .sl .dt q0.pending.af .no]) [])
def sB (fn:jE R):=bx wV wW (Dk fn)
section
def wX (x1:ad.bN) (k0:ad.bN→Option R):Option R :=
 cC (decide ((0+x1.path.length)*8≤140737488355328)) (cC (decide ((0+x1.pending.nodes.length)*24≤140737488355328)) (cC (decide ((0+x1.pending.af.length)*24≤140737488355328)) (k0 x1)))
theorem KL:dT (R:=R) tt [] xo false Tryd.f28 wV wW (Dk wX):=fun x y k=>by kernel_rfl
end
def aB:jE R:=fun x1 k0=>wX x1 k0
theorem sC (R:Type):mW Tryd.prog 28 (sB (aB (R:=R))):=bL TT mixed .n rfl rfl rfl rfl de (KL)

/-! ### humpyard/humpyardref18.Idle -/
abbrev pA (R:Type):Type:=ad.bN→(Bool→Option R)→Option R
abbrev Cn:List cu := [.agg [.str, .int .i64, .int .i64, .int .i64, .int .i64, .int .i64, .sl (.int .i64), .int .i64, .bool, .int .i64, .bool, .int .i64, .str, .int .i64, .int .i64, .sl .stop, .sl .dt]]
abbrev Co:List aw := []
def Ga (fn:pA R):mY R Cn Co:=fun x y k=>fn (⟨x.1.1,x.1.2.1,x.1.2.2.1,x.1.2.2.2.1,x.1.2.2.2.2.1,x.1.2.2.2.2.2.1,x.1.2.2.2.2.2.2.1,x.1.2.2.2.2.2.2.2.1,(t8 x.1).1,(t8 x.1).2.1,(t8 x.1).2.2.1,⟨(t8 x.1).2.2.2.1,(t8 x.1).2.2.2.2.1,(t8 x.1).2.2.2.2.2.1,(t8 x.1).2.2.2.2.2.2.1,(t8 x.1).2.2.2.2.2.2.2.1,(t8 (t8 x.1)).1⟩⟩:ad.bN) (fun q0=>k (.bool q0) [])
def Cp (fn:pA R):=bx Cn Co (Ga fn)
section
def Cq (x1:ad.bN) (k0:Bool→Option R):Option R :=
 bif ((x1.path.length:Int)==1)then (k0 (!x1.wait))else (k0 false)
theorem N0:dT (R:=R) tt [] xo false Tryd.f13 Cn Co (Ga Cq):=fun x y k=>by kernel_rfl
end
def bI:pA R:=fun x1 k0=>Cq x1 k0
theorem Dl (R:Type):mW Tryd.prog 13 (Cp (bI (R:=R))):=bL TT mixed .n rfl rfl rfl rfl de (N0)

/-! ### humpyard/humpyardref18.path -/
abbrev lW (R:Type):Type:=(List Int)→(Bool→Option R)→Option R
abbrev Cr:List cu := [.leaf (.sl (.int .i64))]
abbrev Cs:List aw := []
def Gb (fn:lW R):mY R Cr Cs:=fun x y k=>fn x.1 (fun q0=>k (.bool q0) [])
def vT (fn:lW R):=bx Cr Cs (Gb fn)
abbrev sD (R:Type):Type:=Nat→(List Int)→Int→((List Int)→Option R)→((List Int)→Bool→Option R)→Option R
def nS:Hint := { live := [0,3],own := [],rows := [],cells := [],drop := [],out := [0,2] }
abbrev iE:Type:=(List Int)×Int
def qi:iE→St:=fun d=>⟨.sl (.int .i64) d.1 .no::U 2 (.int .i64 d.2::U 39 ([])), []⟩
def sE (K:Ex→St→Option R) (q0:List Int):Option R:=K (.exit 0) ⟨.sl (.int .i64) q0 .no::U 42 ([]), []⟩
def sF (K:Ex→St→Option R) (q0:List Int) (q1:Bool):Option R:=K (.ret) ⟨.sl (.int .i64) q0 .no :: .undef :: .bool q1::U 40 ([]), []⟩
abbrev kI:List cu := .leaf (.sl (.int .i64))::PU 2 (.leaf (.int .i64)::PU 39 ([]))
abbrev kJ:List aw := []
def AM (x:cu.aQ kI) (y:aw.aQ kJ):Nat:=(List.length x.1+Int.natAbs x.2.2.2.1+64)
def Jv (x:cu.aQ kI) (y:aw.aQ kJ):iE:=(x.1,x.2.2.2.1)
def yf (L:sD R):nD R kI kJ:=fun x y K=>L (AM x y) x.1 x.2.2.2.1 (sE K) (sF K)
section
variable (bX:sD R)
def nT (bS:(List Int)→Int→Option R) (x2:List Int) (x3:Int) (e0:(List Int)→Option R) (e1:(List Int)→Bool→Option R):Option R :=
 bif (decide (x3<(x2.length:Int)))then (bif ((Int.tmod x3 2)==0)then (cC (decide ((0:Int)≤x3)&&decide (x3<x2.length)) (bif (decide ((x2.getD x3.toNat (Ty.aC (.int .i64)))<(0:Int)))then (e1 x2 false)else (cC (decide ((0:Int)≤x3)&&decide (x3<x2.length)) (bif (decide ((x2.getD x3.toNat (Ty.aC (.int .i64)))≥(1000:Int)))then (e1 x2 false)else (bif ((Int.tmod x3 2)==1)then (cC (decide ((0:Int)≤x3)&&decide (x3<x2.length)) (bif (decide ((x2.getD x3.toNat (Ty.aC (.int .i64)))<(1000:Int)))then (e1 x2 false)else (bS x2 (IntKind.i64.wrap (x3+1)))))else (bS x2 (IntKind.i64.wrap (x3+1))))))))else (bif ((Int.tmod x3 2)==1)then (cC (decide ((0:Int)≤x3)&&decide (x3<x2.length)) (bif (decide ((x2.getD x3.toNat (Ty.aC (.int .i64)))<(1000:Int)))then (e1 x2 false)else (bS x2 (IntKind.i64.wrap (x3+1)))))else (bS x2 (IntKind.i64.wrap (x3+1)))))else (e0 x2)
def AN (K:Ex→St→Option R) (rc:iE→Option R) (d:iE):Option R:=nT (fun z0 z1=>rc (z0,z1)) d.1 d.2 (sE K) (sF K)
def sG:Nat→Option (Hint×bO R):=fun i=>match i with
 | 2=>some (nS,(bF kI kJ (yf bX) dZ))
 | _=>none
theorem Fw (K:Ex→St→Option R) (rc:St→Option R) (d:iE):roundOf tt (bQ []) (sG bX) 0 ((ah (ar Tryd.f29)).getD 0 .skip) nS (qi d) rc K=AN K (fun d=>rc (qi d)) d:=by kernel_rfl
def Ct (x1:List Int) (k0:Bool→Option R):Option R :=
 bX (List.length x1+Int.natAbs 0+64) x1 0 (fun y5=>k0 ((Int.tmod (y5.length:Int) 2)==1)) (fun y6 y7=>k0 y7)
theorem N1:dT (R:=R) tt [] (sG bX) false Tryd.f29 Cr Cs (Gb (Ct bX)):=fun x y k=>by kernel_rfl
end
def bX:sD R
 | 0,_,_,_,_=>none
 | n+1,eE,eF,e0,e1=>nT (fun eE eF=>bX n eE eF e0 e1) eE eF e0 e1
def AO (K:Ex→St→Option R) (n:Nat) (d:iE):Option R:=bX n d.1 d.2 (sE K) (sF K)
theorem HW (other:bO R) (ho:dK tt (bQ []) (sG (R:=R) bX) 0 ((ah (ar Tryd.f29)).getD 0 .skip) nS other):dK tt (bQ []) (sG (R:=R) bX) 0 ((ah (ar Tryd.f29)).getD 0 .skip) nS (bF kI kJ (yf (bX)) other) :=
 bM (A:=AO) ho (cI qi (AN) (AO) (fun _ _=>by kernel_rfl) (Fw bX) (fun _ _ _=>by kernel_rfl)) AM Jv (fun _ _=>by kernel_rfl) (fun _ _ _=>by kernel_rfl)
def bC:lW R:=fun x1 k0=>Ct bX x1 k0
theorem Jw (R:Type):∀a∈ah (ar Tryd.f29),dY tt (bQ []) (sG (R:=R) bX) 0 a:=by
 refine dx 1 (by kernel_rfl) fun i hi => ?_
 match i,hi with
 | 0,_=>exact bw (by kernel_rfl) (HW _ cj)
 | n+1,hi=>omega
theorem vu (R:Type):mW Tryd.prog 29 (vT (bC (R:=R))):=bL TT mixed .n rfl rfl rfl rfl (Jw R) (N1 bX)

/-! ### humpyard/humpyardref18.Plan -/
abbrev uL (R:Type):Type:=ad.bN→(List Int)→(ad.bN→Bool→Option R)→Option R
abbrev Cu:List cu := [.agg [.str, .int .i64, .int .i64, .int .i64, .int .i64, .int .i64, .sl (.int .i64), .int .i64, .bool, .int .i64, .bool, .int .i64, .str, .int .i64, .int .i64, .sl .stop, .sl .dt], .leaf (.sl (.int .i64))]
abbrev Cv:List aw := []
def Gc (fn:uL R):mY R Cu Cv:=fun x y k=>fn (⟨x.1.1,x.1.2.1,x.1.2.2.1,x.1.2.2.2.1,x.1.2.2.2.2.1,x.1.2.2.2.2.2.1,x.1.2.2.2.2.2.2.1,x.1.2.2.2.2.2.2.2.1,(t8 x.1).1,(t8 x.1).2.1,(t8 x.1).2.2.1,⟨(t8 x.1).2.2.2.1,(t8 x.1).2.2.2.2.1,(t8 x.1).2.2.2.2.2.1,(t8 x.1).2.2.2.2.2.2.1,(t8 x.1).2.2.2.2.2.2.2.1,(t8 (t8 x.1)).1⟩⟩:ad.bN) x.2.1 (fun q0 q1=>k (.tuple [.agg [.str q0.ae, .int .i64 q0.header, .int .i64 q0.order, .int .i64 q0.update, .int .i64 q0.aX, .int .i64 q0.seen, .sl (.int .i64) q0.path .no, .int .i64 q0.seq, .bool q0.open_, .int .i64 q0.rel, .bool q0.wait, .int .i64 q0.pending.header, .str q0.pending.ae, .int .i64 q0.pending.order, .int .i64 q0.pending.update, .sl .stop q0.pending.nodes .no, .sl .dt q0.pending.af .no], .bool q1]) [])
def HX (fn:uL R):=bx Cu Cv (Gc fn)
section
variable (bI:pA R) (aB:jE R) (bC:lW R)
def HY:List (xm R) := [(13,true,(Cp bI aL)),(28,true,(sB aB aL)),(29,true,(vT bC aL))]
def Cw (x1:ad.bN) (x2:List Int) (k0:ad.bN→Bool→Option R):Option R :=
 aB x1 (fun y3=>bI y3 (fun y4=>bC x2 (fun y5=>bif (!y4)then (k0 y3 false)else (bif (!y5)then (k0 y3 false)else (bif (decide ((x2.length:Int)<(3:Int)))then (k0 y3 false)else (cC (decide ((0:Int)<x2.length)) (cC (decide ((0:Int)<y3.path.length)) (bif ((x2.getD 0 (Ty.aC (.int .i64))) != (y3.path.getD 0 (Ty.aC (.int .i64))))then (k0 y3 false)else (cC (decide ((0+x2.length)*8≤140737488355328)) (k0 (⟨y3.ae,y3.header,y3.order,y3.update,y3.aX,y3.seen,x2,y3.seq,false,0,y3.wait,⟨y3.pending.header,y3.pending.ae,y3.pending.order,y3.pending.update,y3.pending.nodes,y3.pending.af⟩⟩:ad.bN) true))))))))))
theorem N2:dT (R:=R) tt (HY bI aB bC) xo false Tryd.f10 Cu Cv (Gc (Cw bI aB bC)):=fun x y k=>by kernel_rfl
end
theorem M1:dG (R:=R) Tryd.prog (HY (R:=R) bI aB bC) := .c (Dl R) <| .c (sC R) <| .c (vu R) <| .n
def cg:uL R:=fun x1 x2 k0=>Cw bI aB bC x1 x2 k0
theorem KM (R:Type):mW Tryd.prog 10 (HX (cg (R:=R))):=bL TT mixed (M1 (R:=R)) rfl rfl rfl rfl de (N2 bI aB bC)

/-! ### humpyard/humpyardref18.same -/
abbrev uM (R:Type):Type:=(List Int)→(List Int)→(Bool→Option R)→Option R
abbrev Cx:List cu := [.leaf (.sl (.int .i64)), .leaf (.sl (.int .i64))]
abbrev Cy:List aw := []
def Gd (fn:uM R):mY R Cx Cy:=fun x y k=>fn x.1 x.2.1 (fun q0=>k (.bool q0) [])
def HZ (fn:uM R):=bx Cx Cy (Gd fn)
abbrev sH (R:Type):Type:=Nat→(List Int)→(List Int)→Int→(Option R)→(Bool→Option R)→Option R
def nU:Hint := { live := [0,1,5],own := [],rows := [],cells := [],drop := [],out := [4] }
abbrev iF:Type:=(List Int)×(List Int)×Int
def qj:iF→St:=fun d=>⟨.sl (.int .i64) d.1 .no :: .sl (.int .i64) d.2.1 .no::U 3 (.int .i64 d.2.2::U 20 ([])), []⟩
def sI (K:Ex→St→Option R):Option R:=K (.exit 0) ⟨U 26 ([]), []⟩
def sJ (K:Ex→St→Option R) (q0:Bool):Option R:=K (.ret) ⟨U 4 (.bool q0::U 21 ([])), []⟩
abbrev kK:List cu := .leaf (.sl (.int .i64)) :: .leaf (.sl (.int .i64))::PU 3 (.leaf (.int .i64)::PU 20 ([]))
abbrev kL:List aw := []
def AP (x:cu.aQ kK) (y:aw.aQ kL):Nat:=(List.length x.1+List.length x.2.1+Int.natAbs x.2.2.2.2.2.1+64)
def Jx (x:cu.aQ kK) (y:aw.aQ kL):iF:=(x.1,x.2.1,x.2.2.2.2.2.1)
def yg (L:sH R):nD R kK kL:=fun x y K=>L (AP x y) x.1 x.2.1 x.2.2.2.2.2.1 (sI K) (sJ K)
section
variable (bY:sH R)
def nV (bS:(List Int)→(List Int)→Int→Option R) (x3:List Int) (x4:List Int) (x5:Int) (e0:Option R) (e1:Bool→Option R):Option R :=
 bif (decide (x5<(x3.length:Int)))then (cC (decide ((0:Int)≤x5)&&decide (x5<x3.length)) (cC (decide ((0:Int)≤x5)&&decide (x5<x4.length)) (bif ((x3.getD x5.toNat (Ty.aC (.int .i64))) != (x4.getD x5.toNat (Ty.aC (.int .i64))))then (e1 false)else (bS x3 x4 (IntKind.i64.wrap (x5+1))))))else (e0)
def AQ (K:Ex→St→Option R) (rc:iF→Option R) (d:iF):Option R:=nV (fun z0 z1 z2=>rc (z0,z1,z2)) d.1 d.2.1 d.2.2 (sI K) (sJ K)
def sK:Nat→Option (Hint×bO R):=fun i=>match i with
 | 4=>some (nU,(bF kK kL (yg bY) dZ))
 | _=>none
theorem Fx (K:Ex→St→Option R) (rc:St→Option R) (d:iF):roundOf tt (bQ []) (sK bY) 0 ((ah (ar Tryd.f30)).getD 0 .skip) nU (qj d) rc K=AQ K (fun d=>rc (qj d)) d:=by kernel_rfl
def Cz (x1:List Int) (x2:List Int) (k0:Bool→Option R):Option R :=
 bif ((x1.length:Int) != (x2.length:Int))then (k0 false)else (bY (List.length x1+List.length x2+Int.natAbs 0+64) x1 x2 0 (k0 true) (fun y6=>k0 y6))
theorem N3:dT (R:=R) tt [] (sK bY) false Tryd.f30 Cx Cy (Gd (Cz bY)):=fun x y k=>by kernel_rfl
end
def bY:sH R
 | 0,_,_,_,_,_=>none
 | n+1,eE,eF,eR,e0,e1=>nV (fun eE eF eR=>bY n eE eF eR e0 e1) eE eF eR e0 e1
def AR (K:Ex→St→Option R) (n:Nat) (d:iF):Option R:=bY n d.1 d.2.1 d.2.2 (sI K) (sJ K)
theorem H0 (other:bO R) (ho:dK tt (bQ []) (sK (R:=R) bY) 0 ((ah (ar Tryd.f30)).getD 0 .skip) nU other):dK tt (bQ []) (sK (R:=R) bY) 0 ((ah (ar Tryd.f30)).getD 0 .skip) nU (bF kK kL (yg (bY)) other) :=
 bM (A:=AR) ho (cI qj (AQ) (AR) (fun _ _=>by kernel_rfl) (Fx bY) (fun _ _ _=>by kernel_rfl)) AP Jx (fun _ _=>by kernel_rfl) (fun _ _ _=>by kernel_rfl)
def je:uM R:=fun x1 x2 k0=>Cz bY x1 x2 k0
theorem Jy (R:Type):∀a∈ah (ar Tryd.f30),dY tt (bQ []) (sK (R:=R) bY) 0 a:=by
 refine dx 1 (by kernel_rfl) fun i hi => ?_
 match i,hi with
 | 0,_=>exact bw (by kernel_rfl) (H0 _ cj)
 | n+1,hi=>omega
theorem KN (R:Type):mW Tryd.prog 30 (HZ (je (R:=R))):=bL TT mixed .n rfl rfl rfl rfl (Jy R) (N3 bY)

/-! ### humpyard/humpyardref18.Same -/
abbrev uN (R:Type):Type:=ad.bN→ad.bN→(Bool→Option R)→Option R
abbrev CA:List cu := [.agg [.str, .int .i64, .int .i64, .int .i64, .int .i64, .int .i64, .sl (.int .i64), .int .i64, .bool, .int .i64, .bool, .int .i64, .str, .int .i64, .int .i64, .sl .stop, .sl .dt], .agg [.str, .int .i64, .int .i64, .int .i64, .int .i64, .int .i64, .sl (.int .i64), .int .i64, .bool, .int .i64, .bool, .int .i64, .str, .int .i64, .int .i64, .sl .stop, .sl .dt]]
abbrev CB:List aw := []
def Ge (fn:uN R):mY R CA CB:=fun x y k=>fn (⟨x.1.1,x.1.2.1,x.1.2.2.1,x.1.2.2.2.1,x.1.2.2.2.2.1,x.1.2.2.2.2.2.1,x.1.2.2.2.2.2.2.1,x.1.2.2.2.2.2.2.2.1,(t8 x.1).1,(t8 x.1).2.1,(t8 x.1).2.2.1,⟨(t8 x.1).2.2.2.1,(t8 x.1).2.2.2.2.1,(t8 x.1).2.2.2.2.2.1,(t8 x.1).2.2.2.2.2.2.1,(t8 x.1).2.2.2.2.2.2.2.1,(t8 (t8 x.1)).1⟩⟩:ad.bN) (⟨x.2.1.1,x.2.1.2.1,x.2.1.2.2.1,x.2.1.2.2.2.1,x.2.1.2.2.2.2.1,x.2.1.2.2.2.2.2.1,x.2.1.2.2.2.2.2.2.1,x.2.1.2.2.2.2.2.2.2.1,(t8 x.2.1).1,(t8 x.2.1).2.1,(t8 x.2.1).2.2.1,⟨(t8 x.2.1).2.2.2.1,(t8 x.2.1).2.2.2.2.1,(t8 x.2.1).2.2.2.2.2.1,(t8 x.2.1).2.2.2.2.2.2.1,(t8 x.2.1).2.2.2.2.2.2.2.1,(t8 (t8 x.2.1)).1⟩⟩:ad.bN) (fun q0=>k (.bool q0) [])
def H2 (fn:uN R):=bx CA CB (Ge fn)
section
variable (aT:lV R) (je:uM R)
def H3:List (xm R) := [(17,true,(vS aT aL)),(30,true,(HZ je aL))]
def CC (x1:ad.bN) (x2:ad.bN) (k0:Bool→Option R):Option R :=
 bif (x1.ae==x2.ae)then (bif (x1.header==x2.header)then (bif (x1.order==x2.order)then (bif (x1.update==x2.update)then (bif (x1.aX==x2.aX)then (bif (x1.seen==x2.seen)then (je x1.path x2.path (fun y3=>bif y3 then (bif (x1.seq==x2.seq)then (bif (x1.open_==x2.open_)then (bif (x1.rel==x2.rel)then (bif (x1.wait==x2.wait)then (aT x1.pending x2.pending (fun y4=>k0 y4))else (k0 false))else (k0 false))else (k0 false))else (k0 false))else (k0 false)))else (k0 false))else (k0 false))else (k0 false))else (k0 false))else (k0 false))else (k0 false)
theorem N4:dT (R:=R) tt (H3 aT je) xo false Tryd.f11 CA CB (Ge (CC aT je)):=fun x y k=>by kernel_rfl
end
theorem M3:dG (R:=R) Tryd.prog (H3 (R:=R) aT je) := .c (vq R) <| .c (KN R) <| .n
def aU:uN R:=fun x1 x2 k0=>CC aT je x1 x2 k0
theorem KO (R:Type):mW Tryd.prog 11 (H2 (aU (R:=R))):=bL TT mixed (M3 (R:=R)) rfl rfl rfl rfl de (N4 aT je)

/-! ### slices.Equal[[]int,int] -/
abbrev hY (R:Type):Type:=(List Int)→(List Int)→(Bool→Option R)→Option R
abbrev my:List cu := [.leaf (.sl (.int .i64)), .leaf (.sl (.int .i64))]
abbrev mz:List aw := []
def sL (fn:hY R):mY R my mz:=fun x y k=>fn x.1 x.2.1 (fun q0=>k (.bool q0) [])
def tN (fn:hY R):=bx my mz (sL fn)
abbrev jf (R:Type):Type:=Nat→(List Int)→(List Int)→Int→Int→(Option R)→(Bool→Option R)→Option R
def fK:Hint := { live := [0,1,12,13],own := [],rows := [],cells := [],drop := [],out := [4] }
abbrev dB:Type:=(List Int)×(List Int)×Int×Int
def hZ:dB→St:=fun d=>⟨.sl (.int .i64) d.1 .no :: .sl (.int .i64) d.2.1 .no::U 10 (.int .i64 d.2.2.1 :: .int .i64 d.2.2.2::U 12 ([])), []⟩
def jg (K:Ex→St→Option R):Option R:=K (.exit 0) ⟨U 26 ([]), []⟩
def jh (K:Ex→St→Option R) (q0:Bool):Option R:=K (.ret) ⟨U 4 (.bool q0::U 21 ([])), []⟩
abbrev ez:List cu := .leaf (.sl (.int .i64)) :: .leaf (.sl (.int .i64))::PU 10 (.leaf (.int .i64) :: .leaf (.int .i64)::PU 12 ([]))
abbrev eB:List aw := []
def ox (x:cu.aQ ez) (y:aw.aQ eB):Nat:=(List.length x.1+List.length x.2.1+Int.natAbs ((t8 x).2.2.2.2.1)+Int.natAbs ((t8 x).2.2.2.2.2.1)+64)
def xB (x:cu.aQ ez) (y:aw.aQ eB):dB:=(x.1,x.2.1,(t8 x).2.2.2.2.1,(t8 x).2.2.2.2.2.1)
def ni (L:jf R):nD R ez eB:=fun x y K=>L (ox x y) x.1 x.2.1 ((t8 x).2.2.2.2.1) ((t8 x).2.2.2.2.2.1) (jg K) (jh K)
section
variable (aG:jf R)
def fL (bS:(List Int)→(List Int)→Int→Int→Option R) (x3:List Int) (x4:List Int) (x5:Int) (x6:Int) (e0:Option R) (e1:Bool→Option R):Option R :=
 bif (decide (x6<x5))then (cC (decide ((0:Int)≤x6)&&decide (x6<x3.length)) (cC (decide ((0:Int)≤x6)&&decide (x6<x4.length)) (bif ((x3.getD x6.toNat (Ty.aC (.int .i64))) != (x4.getD x6.toNat (Ty.aC (.int .i64))))then (e1 false)else (bS x3 x4 x5 (IntKind.i64.wrap (x6+1))))))else (e0)
def oy (K:Ex→St→Option R) (rc:dB→Option R) (d:dB):Option R:=fL (fun z0 z1 z2 z3=>rc (z0,z1,z2,z3)) d.1 d.2.1 d.2.2.1 d.2.2.2 (jg K) (jh K)
def fR:Nat→Option (Hint×bO R):=fun i=>match i with
 | 4=>some (fK,(bF ez eB (ni aG) dZ))
 | _=>none
theorem vv (K:Ex→St→Option R) (rc:St→Option R) (d:dB):roundOf tt (bQ []) (fR aG) 0 ((ah (ar Tryd.f31)).getD 0 .skip) fK (hZ d) rc K=oy K (fun d=>rc (hZ d)) d:=by kernel_rfl
def mA (x1:List Int) (x2:List Int) (k0:Bool→Option R):Option R :=
 bif ((x1.length:Int) != (x2.length:Int))then (k0 false)else (aG (List.length x1+List.length x2+Int.natAbs (x1.length:Int)+Int.natAbs 0+64) x1 x2 (x1.length:Int) 0 (k0 true) (fun y7=>k0 y7))
theorem CD:dT (R:=R) tt [] (fR aG) false Tryd.f31 my mz (sL (mA aG)):=fun x y k=>by kernel_rfl
end
def aG:jf R
 | 0,_,_,_,_,_,_=>none
 | n+1,eE,eF,eR,jZ,e0,e1=>fL (fun eE eF eR jZ=>aG n eE eF eR jZ e0 e1) eE eF eR jZ e0 e1
def oz (K:Ex→St→Option R) (n:Nat) (d:dB):Option R:=aG n d.1 d.2.1 d.2.2.1 d.2.2.2 (jg K) (jh K)
theorem wY (other:bO R) (ho:dK tt (bQ []) (fR (R:=R) aG) 0 ((ah (ar Tryd.f31)).getD 0 .skip) fK other):dK tt (bQ []) (fR (R:=R) aG) 0 ((ah (ar Tryd.f31)).getD 0 .skip) fK (bF ez eB (ni (aG)) other) :=
 bM (A:=oz) ho (cI hZ (oy) (oz) (fun _ _=>by kernel_rfl) (vv aG) (fun _ _ _=>by kernel_rfl)) ox xB (fun _ _=>by kernel_rfl) (fun _ _ _=>by kernel_rfl)
def cO:hY R:=fun x1 x2 k0=>mA aG x1 x2 k0
theorem xC (R:Type):∀a∈ah (ar Tryd.f31),dY tt (bQ []) (fR (R:=R) aG) 0 a:=by
 refine dx 1 (by kernel_rfl) fun i hi => ?_
 match i,hi with
 | 0,_=>exact bw (by kernel_rfl) (wY _ cj)
 | n+1,hi=>omega
theorem zw (R:Type):mW Tryd.prog 31 (tN (cO (R:=R))):=bL TT mixed .n rfl rfl rfl rfl (xC R) (CD aG)

/-! ### slices.Equal[[]humpyard/api.Stop,humpyard/api.Stop] -/
abbrev gg (R:Type):Type:=(List Stop)→(List Stop)→(Bool→Option R)→Option R
abbrev kM:List cu := [.leaf (.sl .stop), .leaf (.sl .stop)]
abbrev kN:List aw := []
def pB (fn:gg R):mY R kM kN:=fun x y k=>fn x.1 x.2.1 (fun q0=>k (.bool q0) [])
def qL (fn:gg R):=bx kM kN (pB fn)
abbrev gO (R:Type):Type:=Nat→(List Stop)→(List Stop)→Int→Int→(Option R)→(Bool→Option R)→Option R
def fc:Hint := { live := [0,1,12,13],own := [],rows := [],cells := [],drop := [],out := [4] }
abbrev dp:Type:=(List Stop)×(List Stop)×Int×Int
def gq:dp→St:=fun d=>⟨.sl .stop d.1 .no :: .sl .stop d.2.1 .no::U 10 (.int .i64 d.2.2.1 :: .int .i64 d.2.2.2::U 12 ([])), []⟩
def gP (K:Ex→St→Option R):Option R:=K (.exit 0) ⟨U 26 ([]), []⟩
def gQ (K:Ex→St→Option R) (q0:Bool):Option R:=K (.ret) ⟨U 4 (.bool q0::U 21 ([])), []⟩
abbrev dL:List cu := .leaf (.sl .stop) :: .leaf (.sl .stop)::PU 10 (.leaf (.int .i64) :: .leaf (.int .i64)::PU 12 ([]))
abbrev dM:List aw := []
def mO (x:cu.aQ dL) (y:aw.aQ dM):Nat:=(List.length x.1+List.length x.2.1+Int.natAbs ((t8 x).2.2.2.2.1)+Int.natAbs ((t8 x).2.2.2.2.2.1)+64)
def vU (x:cu.aQ dL) (y:aw.aQ dM):dp:=(x.1,x.2.1,(t8 x).2.2.2.2.1,(t8 x).2.2.2.2.2.1)
def lK (L:gO R):nD R dL dM:=fun x y K=>L (mO x y) x.1 x.2.1 ((t8 x).2.2.2.2.1) ((t8 x).2.2.2.2.2.1) (gP K) (gQ K)
section
variable (ay:gO R)
def fe (bS:(List Stop)→(List Stop)→Int→Int→Option R) (x3:List Stop) (x4:List Stop) (x5:Int) (x6:Int) (e0:Option R) (e1:Bool→Option R):Option R :=
 bif (decide (x6<x5))then (cC (decide ((0:Int)≤x6)&&decide (x6<x3.length)) (cC (decide ((0:Int)≤x6)&&decide (x6<x4.length)) (bif (!((x3.getD x6.toNat (Ty.aC .stop)).node==(x4.getD x6.toNat (Ty.aC .stop)).node&&((x3.getD x6.toNat (Ty.aC .stop)).seq==(x4.getD x6.toNat (Ty.aC .stop)).seq&&((x3.getD x6.toNat (Ty.aC .stop)).ax==(x4.getD x6.toNat (Ty.aC .stop)).ax&&true))))then (e1 false)else (bS x3 x4 x5 (IntKind.i64.wrap (x6+1))))))else (e0)
def mP (K:Ex→St→Option R) (rc:dp→Option R) (d:dp):Option R:=fe (fun z0 z1 z2 z3=>rc (z0,z1,z2,z3)) d.1 d.2.1 d.2.2.1 d.2.2.2 (gP K) (gQ K)
def eY:Nat→Option (Hint×bO R):=fun i=>match i with
 | 4=>some (fc,(bF dL dM (lK ay) dZ))
 | _=>none
theorem uu (K:Ex→St→Option R) (rc:St→Option R) (d:dp):roundOf tt (bQ []) (eY ay) 0 ((ah (ar Tryd.f48)).getD 0 .skip) fc (gq d) rc K=mP K (fun d=>rc (gq d)) d:=by kernel_rfl
def kO (x1:List Stop) (x2:List Stop) (k0:Bool→Option R):Option R :=
 bif ((x1.length:Int) != (x2.length:Int))then (k0 false)else (ay (List.length x1+List.length x2+Int.natAbs (x1.length:Int)+Int.natAbs 0+64) x1 x2 (x1.length:Int) 0 (k0 true) (fun y7=>k0 y7))
theorem zx:dT (R:=R) tt [] (eY ay) false Tryd.f48 kM kN (pB (kO ay)):=fun x y k=>by kernel_rfl
end
def ay:gO R
 | 0,_,_,_,_,_,_=>none
 | n+1,eE,eF,eR,jZ,e0,e1=>fe (fun eE eF eR jZ=>ay n eE eF eR jZ e0 e1) eE eF eR jZ e0 e1
def mQ (K:Ex→St→Option R) (n:Nat) (d:dp):Option R:=ay n d.1 d.2.1 d.2.2.1 d.2.2.2 (gP K) (gQ K)
theorem vw (other:bO R) (ho:dK tt (bQ []) (eY (R:=R) ay) 0 ((ah (ar Tryd.f48)).getD 0 .skip) fc other):dK tt (bQ []) (eY (R:=R) ay) 0 ((ah (ar Tryd.f48)).getD 0 .skip) fc (bF dL dM (lK (ay)) other) :=
 bM (A:=mQ) ho (cI gq (mP) (mQ) (fun _ _=>by kernel_rfl) (uu ay) (fun _ _ _=>by kernel_rfl)) mO vU (fun _ _=>by kernel_rfl) (fun _ _ _=>by kernel_rfl)
def cw:gg R:=fun x1 x2 k0=>kO ay x1 x2 k0
theorem vV (R:Type):∀a∈ah (ar Tryd.f48),dY tt (bQ []) (eY (R:=R) ay) 0 a:=by
 refine dx 1 (by kernel_rfl) fun i hi => ?_
 match i,hi with
 | 0,_=>exact bw (by kernel_rfl) (vw _ cj)
 | n+1,hi=>omega
theorem wZ (R:Type):mW Tryd.prog 48 (qL (cw (R:=R))):=bL TT mixed .n rfl rfl rfl rfl (vV R) (zx ay)

end Go.Proofs.YtolnaonmpohciaaDoor
end
