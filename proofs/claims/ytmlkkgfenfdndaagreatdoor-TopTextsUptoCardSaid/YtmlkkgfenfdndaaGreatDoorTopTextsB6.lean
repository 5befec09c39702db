/-
  TopTexts: for every input whose bulk is at most 1048576 the law returns true, and each argument reads behind the call as it read before; part 6 of 8 of the proof: an interpreter of the model's code over typed data, proved sound; the functions that the law reaches, printed as Lean functions and tied; the plain law. Own texts laid one behind the other.
-/
import Derived.Test.YtmlkkgfenfdndaaGreatDoorCards
import Derived.Test.YtmlkkgfenfdndaaGreatDoorTie
import Derived.Lib.LaidU8T
import Derived.Stop.LaidErr
import Derived.Deep.DeepHandedRow
import Derived.Deep.DeepWitnessRowRef
import Derived.WalkKit
import Derived.ProofKit
import Derived.OpenShut
import Derived.Lib.ValidU
import Derived.Lib.ItoaLen
import Derived.Lib.Repeat
import Derived.Lib.AtoiAll
import Derived.Lib.IndexAny
import Derived.Lib.Bytealg
import Derived.Lib.SlTrimSet
import Derived.Lib.LastIndexByte
import Derived.Lib.ValidLaws
import Derived.Lib.MapLaws
import Derived.Lib.TrimUEq
import Derived.Lib.RuneBytes
import Derived.Sort.Grow
import Derived.Shelf.Strings.BuilderX
import Derived.KernelRfl
import Derived.Lib.ItoaMem
import Derived.Test.YtmlkkgfenfdndaaGreatDoorTopTextsB5
set_option linter.unusedSimpArgs false
set_option linter.unnecessarySimpa false
set_option linter.unusedVariables false
set_option linter.unusedSectionVars false
noncomputable section
set_option maxRecDepth 100000
namespace Go.Proofs.YtmlkkgfenfdndaaGreatDoor.Door
open Go Go.Lib Go.RowKit Go.ChangeShapes Go.aF

theorem own:ownKnob Tryz.prog.godebug=none:=by kernel_rfl
theorem leaves:EE Tryz.prog Go.Proofs.YtmlkkgfenfdndaaGreatDoor.tt:=V6 (by kernel_rfl)

theorem gSyn:Tryz.prog.globalNamed "strconv.ErrSyntax" = some 4:=by kernel_rfl
theorem gRng:Tryz.prog.globalNamed "strconv.ErrRange" = some 5:=by kernel_rfl
theorem tSyn:(Tryz.prog.globals[4]?).map (·.type)=some 94:=by kernel_rfl
theorem tRng:(Tryz.prog.globals[5]?).map (·.type)=some 94:=by kernel_rfl
theorem star : "*" ++ "errors.errorString" = "*errors.errorString" :=by decide
theorem YW (u:TypeId) (h:Tryz.prog.typeName? 3 u=some "*errors.errorString"):u=204 :=
 typeName_ptr_named (nm := "errors.errorString") (by rw[star]; kernel_rfl) (by kernel_rfl) (by decide) u (by rw[star]; exact h)

theorem Wb {n:String} {g:Nat} {W:World} {cs:Array Value} (hg:Tryz.prog.globalNamed n=some g) (h:W.var? Tryz.prog n=some cs):g<W.heap.size:=by
 unfold World.var? at h
 simp only[hg,Option.bind_some]at h
 rcases Nat.lt_or_ge g W.heap.size with h'|h'
 ·exact h'
 ·simp[Array.getElem?_eq_none h']at h

theorem lay_met {W:World} (h:laidMet Tryz.prog Rows.topTextsUptoRow.laid W):nR.U3 W∧∀b,nR.blocks b→b<W.heap.size:=by
 have r0:VarReads Tryz.prog W "unicode/utf8.first" firstData:=laidMet.reads h (.tail _ (.tail _ (.tail _ (.tail _ (.tail _ (.tail _ (.head _)))))))
 have r1:VarReads Tryz.prog W "unicode/utf8.acceptRanges" acceptData:=laidMet.reads h (.tail _ (.tail _ (.tail _ (.head _))))
 have ht:Utf8Tabs 1 2 W:=utf8Tabs_of_readsT (U8Types.of196 Tryz.YT) ⟨by kernel_rfl,by kernel_rfl,by kernel_rfl,by kernel_rfl,by kernel_rfl,by kernel_rfl,by kernel_rfl⟩ r0 r1
 have h2:=laidMet.tail (laidMet.tail h)
 have hp:TabIs Tryz.prog W "internal/strconv.uint64pow10" .u64 pow10Tab:=tabIs_of_head (t:=192) (e:=165) (n:=20) NQ (by kernel_rfl) (by kernel_rfl) (by kernel_rfl) (by kernel_rfl) (by kernel_rfl) h2
 have h4:=laidMet.tail (laidMet.tail h2)
 obtain ⟨a3,s3,v3,_⟩:=laid_sentinel (ms := #[("Error",75)]) (f := { name := "s",type:=9,offset:=0,embedded:=false,tag := "",pkgPath := "errors",byteOffset:=0 }) (te:=206) (ts:=9) h4 gRng tRng (by kernel_rfl) YW (by kernel_rfl) (by kernel_rfl) rfl rfl (by kernel_rfl) (by kernel_rfl) (by kernel_rfl)
 obtain ⟨a2,s2,v2,_⟩:=laid_sentinel (ms := #[("Error",75)]) (f := { name := "s",type:=9,offset:=0,embedded:=false,tag := "",pkgPath := "errors",byteOffset:=0 }) (te:=206) (ts:=9) (laidMet.tail h4) gSyn tSyn (by kernel_rfl) YW (by kernel_rfl) (by kernel_rfl) rfl rfl (by kernel_rfl) (by kernel_rfl) (by kernel_rfl)
 refine ⟨⟨ht,hp,⟨_,_,World.var?_cell gSyn v2 0⟩,⟨_,_,World.var?_cell gRng v3 0⟩⟩,fun b hb => ?_⟩
 have hb:b<8:=hb
 obtain ⟨g,t,cs,fuel,p,hg,_,hv,_⟩:VarReads Tryz.prog W "math/bits.deBruijn64tab" Rows.laid_math_bits_deBruijn64tab:=laidMet.reads h (.tail _ (.head _))
 have e:(some 7:Option Nat)=some g:=(by kernel_rfl:Tryz.prog.globalNamed "math/bits.deBruijn64tab" = some 7).symm.trans hg
 cases e
 have l4:=Wb hg hv
 omega

abbrev synS:ByteArray := { data := #[105,110,118,97,108,105,100,32,115,121,110,116,97,120] }
abbrev rngS:ByteArray := { data := #[118,97,108,117,101,32,111,117,116,32,111,102,32,114,97,110,103,101] }
def low:Nat:=(World.holding Tryz.prog default ⟨#[], #[], []⟩).heap.size
def lit1:DataW Unit→Value
 | .lit (.int k n) => .int k n
 | _ => .int .u8 0
def YX:DataW Unit→List Value
 | .agg l=>l.map lit1
 | _ => []
def Jg (os:Os):World :=
 let w0:=World.holding Tryz.prog os ⟨#[.cells #[.string synS] 206, .cells #[.string rngS] 206], #[], []⟩
 let put (h:Array Obj) (g:Nat) (cs:Array Value):Array Obj:=h.modify g fun
  | .cells _ t frozen => .cells cs t frozen
  | o=>o
 let h0:=put w0.heap 1 (firstTab.map fun z=>Value.int .u8 z).toArray
 let h1:=put h0 2 ((List.range 16).flatMap fun i => [Value.int .u8 (accLo i),Value.int .u8 (accHi i)]).toArray
 let h2:=put h1 4 #[.iface 204 (.pointer (some ⟨low,0,none⟩))]
 let h3:=put h2 5 #[.iface 204 (.pointer (some ⟨low+1,0,none⟩))]
 let h4:=put h3 3 (pow10Tab.map fun z=>Value.int .u64 z).toArray
 let h6:=put h4 6 (YX Rows.laid_math_bits_deBruijn32tab).toArray
 let h7:=put h6 7 (YX Rows.laid_math_bits_deBruijn64tab).toArray
 { w0 with heap:=h7 }

theorem YY (os:Os) (args:Array Value):laidMet Tryz.prog Rows.topTextsUptoRow.laid ((Jg os).forCall (fun _ _=>0) ⟨#[],args, []⟩).memory :=
 laidMet_of_run' 8 (by kernel_rfl) (by kernel_rfl)
end Go.Proofs.YtmlkkgfenfdndaaGreatDoor.Door

namespace Go.aF

theorem aL {R:Type} {b:Bool} {k:Option R} (h:b=true):cw b k=k:=by subst h; rfl

theorem dx {n:Int} (h1 : -9223372036854775808≤n) (h2:n≤9223372036854775807):IntKind.i64.wrap n=n:=by
 simp only[IntKind.wrap,IntKind.bits,IntKind.signed,IntKind.min,IntKind.max]
 simp
 omega

theorem Json.eta (x:Json):(⟨x.kind,⟨x.num.aB,x.num.exp⟩,x.text,x.names,x.items⟩:Json)=x:=by cases x; rfl
theorem Raw.eta (x:Raw):(⟨x.kind,x.aB,x.exp,x.text,x.items⟩:Raw)=x:=by cases x; rfl

theorem getD_at {α:Type} {l:List α} {i:Nat} (h:i<l.length) (d:α):l.getD i d=l[i]:=by simp[List.getD,h]
end Go.aF

set_option maxRecDepth 100000
namespace Go.Proofs.YtmlkkgfenfdndaaGreatDoor
open Go Go.aF

def v7 (h:Nat) (c:UInt8):Nat:=((h ^^^ c.toNat)*16777619) % 4294967296
theorem xx (h:Nat) (c:UInt8):v7 h c<4294967296:=by
 unfold v7
 exact Nat.mod_lt _ (by decide)
def FQ (s:aj) (h:Nat):Nat:=s.foldl v7 h
def Kc (s:aj):Nat:=FQ s 2166136261
theorem Cm (c:UInt8) (s:aj) (h:Nat):FQ (c::s) h=FQ s (v7 h c):=by
 unfold FQ
 rw[List.foldl_cons]
theorem Uv (a b:aj) (h:Nat):FQ (a++b) h=FQ b (FQ a h):=by
 unfold FQ
 rw[List.foldl_append]
theorem PD (s:aj):∀(h:Nat),h<4294967296→FQ s h<4294967296:=by
 induction s with
 | nil=>intro h hh; unfold FQ; rw[List.foldl_nil]; exact hh
 | cons c s ih=>intro h _; rw[Cm]; exact ih _ (xx h c)
theorem Uw (x:Nat) (hx:x<4294967296):(x*16777619 % 4294967296)*899433627 % 4294967296=x:=by omega
theorem Ux {a b:Nat} (ha:a<4294967296) (hb:b<4294967296) (h:a*16777619 % 4294967296=b*16777619 % 4294967296):a=b:=by
 have h1:=Uw a ha
 have h2:=Uw b hb
 rw[h]at h1
 exact h1.symm.trans h2
theorem L4 {h:Nat} (hh:h<4294967296) (c:UInt8):h ^^^ c.toNat<4294967296:=by
 have:=UInt8.toNat_lt c
 exact Nat.xor_lt_two_pow (n:=32) hh (by omega)
theorem Oh {a b c:Nat} (h:a ^^^ c=b ^^^ c):a=b:=by
 have:=congrArg (· ^^^ c) h
 simpa [Nat.xor_assoc]using this
theorem Wc {a b c:Nat} (h:c ^^^ a=c ^^^ b):a=b:=by
 rw[Nat.xor_comm c a,Nat.xor_comm c b]at h
 exact Oh h
theorem Tg {a b:Nat} (ha:a<4294967296) (hb:b<4294967296) (c:UInt8) (h:v7 a c=v7 b c):a=b:=by
 unfold v7 at h
 exact Oh (Ux (L4 ha c) (L4 hb c) h)
theorem Th {a:Nat} (ha:a<4294967296) (c d:UInt8) (h:v7 a c=v7 a d):c=d:=by
 unfold v7 at h
 exact UInt8.toNat_inj.1 (Wc (Ux (L4 ha c) (L4 ha d) h))
theorem fnv_inj (s:aj):∀(a b:Nat),a<4294967296→b<4294967296→FQ s a=FQ s b→a=b:=by
 induction s with
 | nil=>intro a b _ _ h; unfold FQ at h; rw[List.foldl_nil,List.foldl_nil]at h; exact h
 | cons c s ih =>
  intro a b ha hb h
  rw[Cm,Cm]at h
  exact Tg ha hb c (ih _ _ (xx a c) (xx b c) h)
theorem fnv_one (a b:aj) (x y:UInt8) (h:Kc (a++x::b)=Kc (a++y::b)):x=y:=by
 unfold Kc at h
 rw[Uv,Uv,Cm,Cm]at h
 have ha:=PD a 2166136261 (by decide)
 exact Th ha x y (fnv_inj b _ _ (xx _ x) (xx _ y) h)

def hxS:aj := [48,49,50,51,52,53,54,55,56,57,97,98,99,100,101,102]
def Xc (n:Nat):UInt8:=hxS.getD (n % 16) 0
def HO (h:Nat):aj := [Xc (h / 268435456),Xc (h / 16777216),Xc (h / 1048576),Xc (h / 65536),Xc (h / 4096),Xc (h / 256),Xc (h / 16),Xc h]
theorem hxB_inj:∀a b:Fin 16,hxS.getD a.val 0=hxS.getD b.val 0→a=b:=by decide +kernel
theorem EF {a b:Nat} (h:Xc a=Xc b):a % 16=b % 16:=by
 have:=hxB_inj ⟨a % 16,Nat.mod_lt _ (by decide)⟩ ⟨b % 16,Nat.mod_lt _ (by decide)⟩ h
 exact congrArg Fin.val this
theorem hxB_ne (a:Nat):Xc a≠35:=by
 have all:∀n:Fin 16,hxS.getD n.val 0≠35:=by decide +kernel
 exact all ⟨a % 16,Nat.mod_lt _ (by decide)⟩
theorem YZ {a b:Nat} (ha:a<4294967296) (hb:b<4294967296) (h:HO a=HO b):a=b:=by
 unfold HO at h
 simp only[List.cons.injEq,and_true]at h
 obtain ⟨h1,h2,h3,h4,h5,h6,h7,h8⟩:=h
 have:=EF h1; have:=EF h2; have:=EF h3; have:=EF h4; have:=EF h5; have:=EF h6; have:=EF h7; have:=EF h8
 omega
theorem hex8_ne (h:Nat):∀x∈HO h,x≠35:=by
 intro x hx
 unfold HO at hx
 simp only[List.mem_cons,List.not_mem_nil,or_false]at hx
 rcases hx with rfl|rfl|rfl|rfl|rfl|rfl|rfl|rfl <;> exact hxB_ne _

def iV (s:aj):aj:=s++35::HO (Kc s)
theorem xy (s:aj):(iV s).length=s.length+9:=by simp[iV,HO]
def DP (s:aj):Option aj:=if 9≤s.length∧iV (s.take (s.length - 9))=s then some (s.take (s.length - 9))else none
theorem Oi (s:aj):DP (iV s)=some s:=by
 have hl:=xy s
 have ht:(iV s).take ((iV s).length - 9)=s:=by rw[hl,Nat.add_sub_cancel]; unfold iV; simp
 unfold DP
 rw[ht,if_pos ⟨by omega,rfl⟩]
theorem Jh {s t:aj} (h:DP s=some t):s=iV t:=by
 unfold DP at h
 split at h
 ·rename_i hc
  cases h
  exact hc.2.symm
 ·cases h
theorem PE (t:aj) (k:Nat) (c:UInt8) (hk:k<(iV t).length) (hc:(iV t)[k]≠c):DP ((iV t).set k c)=none:=by
 cases ho:DP ((iV t).set k c)with
 | none=>rfl
 | some u =>
  exfalso
  have e:=Jh ho
  have hl:u.length=t.length:=by
   have:=congrArg List.length e
   rw[List.length_set,xy,xy]at this
   omega
  have M7:∀j,j≠k→(iV u)[j]? = (iV t)[j]? :=fun j hj=>by
   rw[←e,List.getElem?_set]
   rw[if_neg (fun h=>hj h.symm)]
  have hkk:(iV u)[k]? = some c:=by
   rw[←e,List.getElem?_set]
   simp[hk]
  have hu:∀j,j<t.length→(iV u)[j]? = u[j]? :=fun j hj=>by unfold iV; rw[List.getElem?_append_left (by omega)]
  have ht:∀j,j<t.length→(iV t)[j]? = t[j]? :=fun j hj=>by unfold iV; rw[List.getElem?_append_left (by omega)]
  have R3:∀j,(iV u)[t.length+j]? = (35::HO (Kc u))[j]? :=fun j=>by unfold iV; rw[List.getElem?_append_right (by omega)]; congr 1; omega
  have ht2:∀j,(iV t)[t.length+j]? = (35::HO (Kc t))[j]? :=fun j=>by unfold iV; rw[List.getElem?_append_right (by omega)]; congr 1; omega
  rcases Nat.lt_or_ge k t.length with jb|hge
  ·-- a byte of the text itself
   have hd:HO (Kc u)=HO (Kc t):=by
    apply List.ext_getElem?
    intro j
    have h1:=R3 (j+1)
    have h2:=ht2 (j+1)
    rw[List.getElem?_cons_succ]at h1 h2
    rw[←h1,←h2]
    exact M7 _ (by omega)
   have hf:=YZ (PD _ _ (by decide)) (PD _ _ (by decide)) hd
   have LD:u=t.set k c:=by
    apply List.ext_getElem?
    intro j
    by_cases hj:j<t.length
    ·rw[←hu j hj]
     by_cases hjk:j=k
     ·subst hjk
      rw[hkk,List.getElem?_set]
      simp[jb]
     ·rw[M7 j hjk,ht j hj,List.getElem?_set,if_neg (fun h=>hjk h.symm)]
    ·rw[List.getElem?_eq_none (by omega),List.getElem?_eq_none (by rw[List.length_set]; omega)]
   have e1:t=t.take k++t[k]::t.drop (k+1):=by rw[←List.drop_eq_getElem_cons jb,List.take_append_drop]
   have e2:t.set k c=t.take k++c::t.drop (k+1):=by rw[List.set_eq_take_append_cons_drop,if_pos jb]
   rw[LD,e2]at hf
   have:=fnv_one (t.take k) (t.drop (k+1)) c t[k] (by rw[←e1]; exact hf)
   apply hc
   have h3:=ht k jb
   rw[List.getElem?_eq_getElem hk,List.getElem?_eq_getElem jb]at h3
   rw[Option.some.inj h3,this]
  ·-- behind it: the text is the same, and so all is
   have LD:u=t:=by
    apply List.ext_getElem?
    intro j
    by_cases hj:j<t.length
    ·rw[←hu j hj,M7 j (by omega),ht j hj]
    ·rw[List.getElem?_eq_none (by omega),List.getElem?_eq_none (by omega)]
   rw[LD]at hkk
   rw[List.getElem?_eq_getElem hk]at hkk
   exact hc (Option.some.inj hkk)
end Go.Proofs.YtmlkkgfenfdndaaGreatDoor

namespace Go.aF
open Go.RowKit

section
variable {P:Program} {tt:dA} {w w':World} {h h':aG} {c c':js} {R:Type}

theorem xA (hb:Below w.heap.size w w'):Ext w h c w' h c where
 os:=hb.os
 tape:=hb.tape
 output:=hb.output
 size:=hb.size
 used:=fun _ hi=>hi
 same:=fun i hi hd=>⟨Ch (Fy hi.2 hd) (fun _ _ _ => .inr trivial),rfl,rfl⟩
 cell:=fun b x hx _=>r7 (hb.block b hx)
 block:=fun b hx _=>hb.block b hx
 vH:=fun _ _ _ ho=>ho
 ext:=rfl
 arr:=fun b arr e fz hx=>⟨arr,fz,by rw[hb.block b (yd hx)]; exact hx,rfl⟩

theorem EG (wf:WF w h c) (hb:Below w.heap.size w w'):WF w' h c where
 wX:=wf.wX
 o3:=fun b x he=>Nat.lt_of_lt_of_le (wf.o3 b x he) hb.size
 obj:=fun i hi=>by
  by_cases hl:(h.at i).live
  ·exact (wf.obj i hi).uM (xA hb) (fun b oH=>hb.block b ((wf.obj i hi).lt hl oH)) rfl rfl
  ·have h0:h.at i = .free∨h.at i = .dead:=by revert hl; cases h.at i <;> simp[bO.live]
   rcases h0 with h0|h0 <;> rw[h0] <;> trivial
 inj:=wf.inj
 lay:=wf.rq (xA hb)

theorem r8 {g:Nat} {fn:Func} (hf:P.funcs[g]? = some fn) (hn:(fn.name == "runtime.NumGoroutine")=false) (hb:fn.body.isNone=false) {args:Array Value} {Q:Value→World→Prop}
  (h:Calls P g args w fun e w'=>∃d,e = .returned d∧Q d w'):vZ P g args w Q:=by
 refine ⟨.enter g args,w,?_,h⟩
 have Qb:fn.name ≠ "runtime.NumGoroutine" :=by simpa using hn
 have oH:fn.body≠none:=fun e=>by rw[e]at hb; cases hb
 simp[callFunc,hf,Qb,oH]

theorem nj {g:Nat} {fn:Func} (hf:P.funcs[g]? = some fn) (hn:(fn.name == "runtime.NumGoroutine")=false) (hb:fn.body.isNone=false) {sp:Spec R}
  (hs:∀vs hp k r,sp vs hp k=some r→∀(w:World) (c:js) (args:Array Value),WF w hp c→cy w hp c vs args.toList →
   ∃v,k v hp=some r∧Calls P g args w fun e w'=>∃d,e = .returned d∧Below w.heap.size w w'∧dz w' hp c v d):Spec.Ok P g sp:=by
 intro vs hp k r hk w c args wf ra
 obtain ⟨v,hv,hc⟩:=hs vs hp k r hk w c args wf ra
 refine r8 hf hn hb (Calls.mono hc ?_)
 rintro e w' ⟨d,he,Pl,hr⟩
 exact ⟨d,he,v,hp,c,EG wf Pl,xA Pl,hr,hv⟩

theorem Oj {v:V} {args:Array Value} (ra:cy w h c [v] args.toList):∃d,args = #[d]∧dz w h c v d:=by
 obtain ⟨l⟩:=args
 match l,ra with
 | [d],ra=>exact ⟨d,rfl,ra.head⟩
 | [],ra=>have:=ra.1; simp at this
 | _::_::_,ra=>have:=ra.1; simp at this
theorem Ol {u v:V} {args:Array Value} (ra:cy w h c [u,v] args.toList):∃d e,args = #[d,e]∧dz w h c u d∧dz w h c v e:=by
 obtain ⟨l⟩:=args
 match l,ra with
 | [d,e],ra=>exact ⟨d,e,rfl,ra.head,ra.tail.head⟩
 | [],ra=>have:=ra.1; simp at this
 | [_],ra=>have:=ra.1; simp at this
 | _::_::_::_,ra=>have:=ra.1; simp at this
end

section
variable {P:Program} {tt:dA} {w w':World} {h h':aG} {c c':js} {R:Type}

def JQ (R:Type):Spec R:=fun vs h k =>
  match vs with
  | [.ptr i 0]=>(match h.at i with | .lW _=>k (.tuple []) h|_=>none)
  | _=>none

theorem Ji {i:Nat} {v:V} {a':Value} (wf:WF w h c) (ra:dz w h c (.ptr i 0) a') (hv:h.at i = .lW v) :
    ∃b p d,a' = .pointer (some ⟨b,0,none⟩)∧c.rZ i=some b∧w.heap[b]? = some (Obj.cells #[p,d] nR.lW (0,0))∧(p = .pointer none∨p = .pointer (some ⟨b,0,none⟩))∧dz w h c v d:=by
  have hi:=aG.fW hv (by simp)
  have ho:=wf.obj i hi
  rw[hv]at ho
  obtain ⟨b,p,d,g1,g2,g3,g4⟩:=ho
  cases ra with
  | ptr hu hq =>
    obtain ⟨b',rfl,oH⟩:=hq
    have:=oH (by rw[hv]; simp)
    rw[g1]at this; cases this
    exact ⟨b,p,d,rfl,g1,g2,g3,g4⟩

theorem bcc_ok {g:Nat} {fn:Func} (hf:P.funcs[g]? = some fn) (hn:(fn.name == "runtime.NumGoroutine")=false) (hb:fn.body.isNone=false)
    (fresh:∀(b:Nat) (w:World),w.cell? ⟨b,0,none⟩=some (.pointer none)→w.shape? b=some (nR.lW,2)→w.frozen? ⟨b,0,none⟩=false →
      Calls P g #[.pointer (some ⟨b,0,none⟩)] w fun e w'=>e = .returned (.tuple #[])∧w'=w.setCell ⟨b,0,none⟩ (.pointer (some ⟨b,0,none⟩)))
    (used:∀(b:Nat) (w:World),w.cell? ⟨b,0,none⟩=some (.pointer (some ⟨b,0,none⟩))→Calls P g #[.pointer (some ⟨b,0,none⟩)] w fun e w'=>e = .returned (.tuple #[])∧w'=w):Spec.Ok P g (JQ R):=by
  intro vs h k r hk w c args wf ra
  unfold JQ at hk
  split at hk <;> try (first|cases hk)
  rename_i i
  split at hk <;> try (first|cases hk)
  rename_i v hv
  obtain ⟨a',rfl,r1⟩:=Oj ra
  obtain ⟨b,p,d,rfl,g1,g2,g3,g4⟩:=Ji wf r1 hv
  have Hh:w.cell? ⟨b,0,none⟩=some p:=by rw[cell_of_row w b _ _ _ _ g2]; rfl
  have rt:∀w' h' c',dz w' h' c' (.tuple []) (.tuple #[]):=fun w' h' c' => .tuple rfl (fun j v d hv=>by simp at hv)
  rcases g3 with rfl|rfl
  · refine r8 hf hn hb (Calls.mono (fresh b w Hh (by simp[World.shape?,g2]) (vn g2 0)) ?_)
    rintro e w' ⟨he,rfl⟩
    have oH:(w.setCell ⟨b,0,none⟩ (.pointer (some ⟨b,0,none⟩))).heap[b]? = some (.cells #[.pointer (some ⟨b,0,none⟩),d] nR.lW (0,0)):=by
      simp[World.setCell,Array.getElem?_modify,g2]
    have hw:Lw w (w.setCell ⟨b,0,none⟩ (.pointer (some ⟨b,0,none⟩))) b #[.pointer (some ⟨b,0,none⟩),d] nR.lW (0,0):=⟨rfl,rfl,rfl,by simp,fun k hk=>heap_setCell_other w _ k _ hk,oH⟩
    have rA:(h.at i).from_ (c.off i)=some 0:=by rw[hv]; rfl
    have td:(h.at i).gZ (.lW v):=by rw[hv]; trivial
    have LD:h.set i (.lW v)=h:=by
      have hi:=aG.fW hv (by simp)
      have e:h[i] = .lW v:=by
        have:=hv
        unfold aG.at at this
        simpa [List.getD,List.getElem?_eq_getElem hi]using this
      rw[←e]
      exact List.set_getElem_self hi
    have x:=Hx g1 g2 hw rfl rA rfl td
    have q:=Pd wf g1 g2 hw rfl rA rfl td ⟨b,_,d,g1,oH, .inr rfl,g4.mono x⟩
    rw[LD]at x q
    exact ⟨_,he,_,h,c,q,x,rt _ _ _,hk⟩
  · refine r8 hf hn hb (Calls.mono (used b w Hh) ?_)
    rintro e w' ⟨he,rfl⟩
    exact ⟨_,he,_,h,c,wf, .refl _ _ _,rt _ _ _,hk⟩

def r9 (l:List Int):aj:=l.map fun n=>UInt8.ofNat n.toNat

theorem Y0 (l:List Int):(r9 l).length=l.length:=List.length_map _
theorem Y1 (l:List Int) (m:Nat) (x:UInt8) (h:(r9 l)[m]? = some x):∃n,l[m]? = some n∧x=UInt8.ofNat n.toNat:=by
  unfold r9 at h
  rw[List.getElem?_map]at h
  cases hm:l[m]? with
  | none=>rw[hm]at h; cases h
  | some n=>rw[hm]at h; simp at h; exact ⟨n,rfl,h.symm⟩

def CZ (R:Type):Spec R:=fun vs h k =>
  match vs with
  | [.ptr i 0] =>
    (match h.at i with
     | .lW .cM=>k (.str []) h
     | .lW (.sl (.int .u8) l (.own j))=>(match h.at j with | .tok=>k (.str (r9 l)) h|_=>none)
     | _=>none)
  | _=>none

theorem FE:Ey (CZ R):=by
  intro vs h k k' he
  unfold CZ
  split <;> try rfl
  split <;> try (first|rfl|exact he _)
  split <;> first|rfl|exact he _

theorem Wd (wf:WF w h c) {j g:Nat} (hj:h.at j = .tok) (hg:c.rZ j=some g) {cur:Array Value} {e:TypeId} {fz FP:Nat × Nat} (h1:w.heap[g]? = some (.cells cur e fz))
    (hos:w'.os=w.os) (htape:w'.tape=w.tape) (hout:w'.output=w.output) (X4:w'.heap.size=w.heap.size) (I6:∀k,k≠g→w'.heap[k]? = w.heap[k]?) (h2:w'.heap[g]? = some (.cells cur e FP))
    (T7:(fz.1=fz.2∨fz.2≤c.off j)→(FP.1=FP.2∨FP.2≤c.off j)) :
    WF w' h c∧Ext w h c w' h c:=by
  have hjl:=aG.fW hj (by simp)
  have lC:sF h c g (c.off j):=⟨j,c.off j,hg,by rw[hj]; rfl,Nat.le_refl _⟩
  have xf:∀b x,w'.cell? ⟨b,x,none⟩=w.cell? ⟨b,x,none⟩:=fun b x=>by
    by_cases hb:b=g
    · subst hb; rw[cell_of_row w' b x cur e FP h2,cell_of_row w b x cur e fz h1]
    · exact r7 (I6 b hb)
  have x:Ext w h c w' h c := {
    os:=hos
    tape:=htape
    output:=hout
    size:=by omega
    used:=(Ext.refl w h c).used
    same:=(Ext.refl w h c).same
    cell:=fun b x _ _=>xf b x
    block:=fun b _ ho=>I6 b (by rintro rfl; exact ho _ lC)
    vH:=(Ext.refl w h c).vH
    ext:=rfl
    arr:=fun b arr el fz0 hb=>by
      by_cases hbg:b=g
      · subst hbg; rw[h1]at hb; cases hb; exact ⟨cur,FP,h2,rfl⟩
      · exact ⟨arr,fz0,by rw[I6 b hbg]; exact hb,rfl⟩ }
  refine ⟨?_,x⟩
  exact {
    lay:=wf.rq x
    wX:=wf.wX
    o3:=fun b y he=>by rw[X4]; exact wf.o3 b y he
    obj:=fun i hi=>by
      by_cases vm:i=j
      · subst vm
        have:=wf.obj i hi
        rw[hj]at this ⊢
        rcases this with h0|⟨b',Et,e',fz0,p1,p2,p3,p4⟩
        · rw[hg]at h0; cases h0
        · rw[hg]at p1; cases p1
          rw[h1]at p2; cases p2
          exact .inr ⟨g,cur,e,FP,hg,h2,p3,T7 p4⟩
      · by_cases hl:(h.at i).live
        · refine (wf.obj i hi).uM x (fun b hb=>I6 b ?_) rfl rfl
          rintro rfl
          exact vm (wf.inj i j b hl (by rw[hj]; trivial) hb hg)
        · have h0:h.at i = .free∨h.at i = .dead:=by revert hl; cases h.at i <;> simp[bO.live]
          rcases h0 with h0|h0 <;> rw[h0] <;> trivial
    inj:=wf.inj }

theorem PF {q n:Nat} {cur:Array Value} {e:TypeId} {fz:Nat × Nat} (hn:n≠0) (hq:w.heap[q]? = some (.cells cur e fz)) :
    (w.drew.freeze ⟨q,0,none⟩ n).os=w.os∧(w.drew.freeze ⟨q,0,none⟩ n).tape=w.tape∧(w.drew.freeze ⟨q,0,none⟩ n).output=w.output∧(w.drew.freeze ⟨q,0,none⟩ n).heap.size=w.heap.size ∧
      (∀k,k≠q→(w.drew.freeze ⟨q,0,none⟩ n).heap[k]? = w.heap[k]?)∧∃FP,(w.drew.freeze ⟨q,0,none⟩ n).heap[q]? = some (.cells cur e FP)∧∀o,n≤o→(fz.1=fz.2∨fz.2≤o)→(FP.1=FP.2∨FP.2≤o):=by
  obtain ⟨lo,hi⟩:=fz
  unfold World.freeze
  rw[if_neg hn]
  refine ⟨rfl,rfl,rfl,Array.size_modify,fun k hk => ?_,(if lo==hi then (0,0+n)else (min lo 0,max hi (0+n))),?_,fun o ho hf => ?_⟩
  · simp only[Array.getElem?_modify]
    rw[if_neg (Ne.symm hk)]
    rfl
  · simp only[Array.getElem?_modify,if_true]
    rw[show w.drew.heap[q]? = some (.cells cur e (lo,hi))from hq]
    rfl
  · simp only at hf
    split
    · exact .inr (by simp; omega)
    · rename_i jc
      have:lo≠hi:=by simpa using jc
      exact .inr (by simp; omega)

theorem u8_of {n:Int} (hn:IntKind.u8.has n):((UInt8.ofNat n.toNat).toNat:Int)=n:=by
  have:0≤n∧n≤255:=by simpa [IntKind.has,IntKind.min,IntKind.max,IntKind.signed,IntKind.bits]using hn
  simp only[UInt8.toNat_ofNat']
  omega

structure L5 (P:Program) (g:Nat):Prop where
  nil:∀(b:Nat) (p:Value) (w:World),w.heap[b]? = some (.cells #[p, .slice none 0 0] nR.lW (0,0)) →
    Calls P g #[.pointer (some ⟨b,0,none⟩)] w fun e w'=>e = .returned (.string ⟨#[]⟩)∧Below w.heap.size w w'
  Y2:∀(b q:Nat) (p:Value) (cur:Array Value) (fz:Nat × Nat) (w:World),w.heap[b]? = some (.cells #[p, .slice (some ⟨q,0,none⟩) 0 0] nR.lW (0,0))→w.heap[q]? = some (.cells cur nR.u8 fz) →
    Calls P g #[.pointer (some ⟨b,0,none⟩)] w fun e w'=>e = .returned (.string ⟨#[]⟩)∧Below w.heap.size w w'
  room:∀(b q cap:Nat) (p:Value) (w:World),cap≠0→w.heap[b]? = some (.cells #[p, .slice (some ⟨q,0,none⟩) 0 cap] nR.lW (0,0)) →
    Calls P g #[.pointer (some ⟨b,0,none⟩)] w fun e w'=>e = .returned (.string ⟨#[]⟩)∧Below w.heap.size w w'
  some:∀(b q cap:Nat) (p:Value) (cur:Array Value) (fz:Nat × Nat) (l:List UInt8) (w:World),l ≠ []→w.heap[b]? = some (.cells #[p, .slice (some ⟨q,0,none⟩) l.length cap] nR.lW (0,0)) →
    w.heap[q]? = some (.cells cur nR.u8 fz)→l.length≤cap→cap≤mx→l.length≤cur.size→(∀(j:Nat) (x:UInt8),l[j]? = some x→w.cell? ⟨q,j,none⟩=some (.int .u8 x.toNat)) →
    Calls P g #[.pointer (some ⟨b,0,none⟩)] w fun e w'=>e = .returned (.string ⟨l.toArray⟩)∧w'=w.drew.freeze ⟨q,0,none⟩ l.length

theorem bstr_ok {g:Nat} {fn:Func} (hf:P.funcs[g]? = some fn) (hn:(fn.name == "runtime.NumGoroutine")=false) (hb:fn.body.isNone=false) (D:L5 P g):Spec.Ok P g (CZ R):=by
  intro vs h k r hk w c args wf ra
  unfold CZ at hk
  split at hk <;> try (first|cases hk)
  rename_i i
  obtain ⟨a',rfl,r1⟩:=Oj ra
  have empty:∀ {w':World} {h':aG} {c':js},dz w' h' c' (.str []) (.string ⟨#[]⟩):=fun {w' h' c'}=>zP ⟨#[]⟩ rfl (Nat.zero_le _)
  split at hk <;> try (first|cases hk)
  · rename_i hv
    obtain ⟨b,p,d,rfl,g1,g2,g3,g4⟩:=Ji wf r1 hv
    cases g4
    refine r8 hf hn hb (Calls.mono (D.nil b p w g2) ?_)
    rintro e w' ⟨he,Pl⟩
    exact ⟨_,he,_,h,c,EG wf Pl,xA Pl,empty,hk⟩
  · rename_i l j hv
    split at hk <;> try (first|cases hk)
    rename_i hj
    obtain ⟨b,p,d,rfl,g1,g2,g3,g4⟩:=Ji wf r1 hv
    have hi:=aG.fW hv (by simp)
    have vm:j≠i:=by rintro rfl; rw[hj]at hv; cases hv
    have hu8:∀x∈(l:List Int),IntKind.u8.has x:=by
      intro x hx
      cases g4 with
      | sl f kM r5 hc hr xj lC =>
        obtain ⟨m,hm⟩:=List.mem_iff_getElem?.1 hx
        exact (hr m 0 x (.int .u8 x) hm rfl).hZ.2
    have hlen:(r9 l).length=List.length (α:=Int) l:=Y0 l
    cases g4 with
    | @sl _ _ _ A cap f kM r5 hc hr xj lC =>
      obtain ⟨_,ho⟩:=lC j rfl
      have hcap':List.length (α:=Int) l≤cap:=kM
      have Ho:∀(w':World) (h':aG) (c':js),dz w' h' c' (.str (r9 l)) (.string ⟨(r9 l).toArray⟩):=fun w' h' c'=>zP _ rfl (by rw[hlen]; exact Nat.le_trans kM r5)
      rcases ho hj with ⟨e1,rfl,rfl⟩|⟨q,o,cur,e,fz,e1,rfl,e3,e4,e5,e6⟩
      · have JG:l = []:=List.eq_nil_of_length_eq_zero (Nat.le_zero.1 kM)
        subst JG
        refine r8 hf hn hb (Calls.mono (D.nil b p w g2) ?_)
        rintro e w' ⟨he,Pl⟩
        exact ⟨_,he,_,h,c,EG wf Pl,xA Pl,Ho _ _ _,hk⟩
      · obtain ⟨rfl,rfl⟩:=e6 rfl
        by_cases JG:l = []
        · subst JG
          by_cases Hh:cap=0
          · subst Hh
            refine r8 hf hn hb (Calls.mono (D.Y2 b q p cur fz w g2 e4) ?_)
            rintro e w' ⟨he,Pl⟩
            exact ⟨_,he,_,h,c,EG wf Pl,xA Pl,Ho _ _ _,hk⟩
          · refine r8 hf hn hb (Calls.mono (D.room b q cap p w Hh g2) ?_)
            rintro e w' ⟨he,Pl⟩
            exact ⟨_,he,_,h,c,EG wf Pl,xA Pl,Ho _ _ _,hk⟩
        · have Pl:r9 l ≠ []:=fun e=>JG (List.eq_nil_of_length_eq_zero (hlen.symm.trans (by rw[e]; rfl)))
          have e5':0+cap*1≤cur.size:=e5
          have BH:∀(m:Nat) (x:UInt8),(r9 l)[m]? = some x→w.cell? ⟨q,m,none⟩=some (.int .u8 x.toNat):=by
            intro m x hx
            obtain ⟨n,hm,rfl⟩:=Y1 l m x hx
            have hml:m<List.length (α:=Int) l:=(List.getElem?_eq_some_iff.1 hm).1
            obtain ⟨b',o',hA,xf,_⟩:=hc m 0 hml (by simp[Ty.sz])
            cases hA
            have hrn:=hr m 0 n (.int .u8 n) hm rfl
            rw[hrn.hZ.1]at xf
            rw[u8_of hrn.hZ.2]
            simpa [Ty.sz]using xf
          have g2':w.heap[b]? = some (.cells #[p, .slice (some ⟨q,0,none⟩) (r9 l).length cap] nR.lW (0,0)):=by rw[hlen]; exact g2
          refine r8 hf hn hb (Calls.mono (D.some b q cap p cur fz (r9 l) w Pl g2' e4 (by rw[hlen]; exact kM) r5 (by rw[hlen]; omega) BH) ?_)
          rintro e w' ⟨he,rfl⟩
          have hne0:(r9 l).length≠0:=by simpa using Pl
          obtain ⟨f1,f2,f3,f4,f5,FP,f6,f7⟩:=PF hne0 e4
          obtain ⟨q1,q2⟩:=Wd wf hj e1 e4 f1 f2 f3 f4 f5 f6 (f7 _ (by rw[e3,hlen]; simp[Ty.sz]; exact Nat.le_refl _))
          exact ⟨_,he,_,h,c,q1,q2,Ho _ _ _,hk⟩
end

def sY (s:aj):Bool:=s.all fun b=>decide (b.toNat<128)
def gE (s:aj):Bool:=Go.Lib.validD s
def nG (s:aj):Nat × Nat:=if s.isEmpty then (65533,0)else Utf8.decode ⟨s.toArray⟩ 0
def cn (n:Int):aj:=Go.Lib.itoa n
def kG (s:aj) (n:Int):aj:=Go.Lib.repeatL s n.toNat
def bG (s cs:aj):aj:=s.dropWhile (cs.contains ·)
def cN (s cs:aj):aj:=(s.reverse.dropWhile (cs.contains ·)).reverse
def sa (s:aj):Bool:=match Go.Lib.atoiAll s with | .ok _=>true|_=>false
def ej (s:aj):Int:=match Go.Lib.atoiAll s with | .ok v=>v | .range=>Go.Lib.atoiSat s|_=>0
def L6 (s cs:aj):Bool:=Go.Lib.containsAny s cs
def yt (s:aj) (c:UInt8):Int:=Go.Lib.lastIndexByte ⟨s.toArray⟩ (c.toNat:Int)
def yg (s:aj) (c:Int):Int:=Go.Lib.indexByte s c.toNat.toUInt8

section
variable (R:Type)
def PG:Spec R:=fun vs h k=>match vs with | [.str s]=>k (.bool (gE s)) h|_=>none
def Y3:Spec R:=fun vs h k=>match vs with | [.str s]=>k (.tuple [.int .i32 (nG s).1, .int .i64 (nG s).2]) h|_=>none
def Ti:Spec R:=fun vs h k=>match vs with | [.int .i64 n]=>k (.str (cn n)) h|_=>none
def Y4:Spec R:=fun vs h k=>match vs with | [.str s, .int .i64 n]=>cw (decide (0≤n)&&decide ((s.length:Int)*n≤140737488355328)) (k (.str (kG s n)) h)|_=>none
def HP:Spec R:=fun vs h k=>match vs with | [.str s, .str cs]=>cw (sY cs&&decide (cs.length<4294967281)) (k (.str (bG s cs)) h)|_=>none
def PH:Spec R:=fun vs h k=>match vs with | [.str s, .str cs]=>cw (sY cs&&decide (cs.length<4294967281)) (k (.str (cN s cs)) h)|_=>none
def PI:Spec R:=fun vs h k=>match vs with
 | [.str s]=>cw (decide (s.length≤281474976710656)) (bif sa s then k (.tuple [.int .i64 (ej s), .dv]) h else k (.tuple [.int .i64 (ej s), .iface]) h)
 | _=>none
def toErr_S (T:Nat):Spec R:=fun vs h k=>match vs with
 | [.str _, .str s, .int .i64 _, .int .i64 _, .GC t .i64 n]=>cw (Nat.beq t T&&(n==2||n==1)) (cw (decide (s.length≤281474976710656)) (k .iface h))
 | _=>none
def L7:Spec R:=fun vs h k=>match vs with
 | [.str s, .str cs]=>cw (sY s&&sY cs&&decide (s.length<4294967281)&&decide (cs.length<4294967281)) (k (.bool (L6 s cs)) h)
 | _=>none
def PJ:Spec R:=fun vs h k=>match vs with | [.str s, .str [c]]=>cw (decide (s.length≤281474976710656)) (k (.int .i64 (yt s c)) h)|_=>none
def Uy:Spec R:=fun vs h k=>match vs with | [.str s, .int .u8 c]=>k (.int .i64 (yg s c)) h|_=>none
end

section
variable {P:Program} {w w':World} {h:aG} {c:js} {R:Type}
open Go.Lib

theorem KR {s:aj} (hs:sY s=true):∀(j:Nat) (b:UInt8),s[j]? = some b→b.toNat<128:=by
 intro j b hb
 have:=List.all_eq_true.1 hs b (List.mem_of_getElem? hb)
 simpa using this

theorem yh (p:UInt8→Bool):∀s:aj,(s.dropWhile p).length≤s.length
 | []=>Nat.le_refl _
 | b::s=>by
  rw[List.dropWhile_cons]
  split
  ·have:=yh p s; simp; omega
  ·exact Nat.le_refl _

theorem PK (l:aj) (h':l.length≤mx):dz w h c (.str l) (.string ⟨l.toArray⟩):=zP _ rfl h'

theorem k6 {g:Nat} {args:Array Value} {Q:Ending→World→Prop} {v:V} (hc:Calls P g args w Q)
  (hq:∀e w',Q e w'→∃d,e = .returned d∧Below w.heap.size w w'∧dz w' h c v d):Calls P g args w fun e w'=>∃d,e = .returned d∧Below w.heap.size w w'∧dz w' h c v d:=Calls.mono hc fun e w' q=>hq e w' q

end
end Go.aF

set_option maxRecDepth 100000
namespace Go.aF
open Go.Lib

def vr (c:Nat):Prop:=c<55296∨(57344≤c∧c≤1114111)
instance (c:Nat):Decidable (vr c):=inferInstanceAs (Decidable (_∨_))

def enc (c:Nat):aj:=encodeRune (c:Int)

theorem enc1 {c:Nat} (h:c<128):enc c = [UInt8.ofNat c]:=by
 unfold enc encodeRune encodeRuneZ
 rw[if_pos (by omega)]
 rfl
theorem enc2 {c:Nat} (h0:128≤c) (h:c<2048):enc c = [UInt8.ofNat (192+c / 64),UInt8.ofNat (128+c % 64)]:=by
 unfold enc encodeRune encodeRuneZ
 rw[if_neg (by omega),if_pos (by omega)]
 have e1:(192+(c:Int) / 64).toNat=192+c / 64:=by omega
 have e2:(128+(c:Int) % 64).toNat=128+c % 64:=by omega
 simp only[List.map_cons,List.map_nil,e1,e2]
theorem enc3 {c:Nat} (h0:2048≤c) (h:c<65536) (hv:vr c):enc c = [UInt8.ofNat (224+c / 4096),UInt8.ofNat (128+c / 64 % 64),UInt8.ofNat (128+c % 64)]:=by
 unfold vr at hv
 unfold enc encodeRune encodeRuneZ
 rw[if_neg (by omega),if_neg (by omega),if_pos (by omega)]
 have e1:(224+(c:Int) / 4096).toNat=224+c / 4096:=by omega
 have e2:(128+(c:Int) / 64 % 64).toNat=128+c / 64 % 64:=by omega
 have e3:(128+(c:Int) % 64).toNat=128+c % 64:=by omega
 simp only[List.map_cons,List.map_nil,e1,e2,e3]
theorem enc4 {c:Nat} (h0:65536≤c) (h:c<1114112):enc c = [UInt8.ofNat (240+c / 262144),UInt8.ofNat (128+c / 4096 % 64),UInt8.ofNat (128+c / 64 % 64),UInt8.ofNat (128+c % 64)]:=by
 unfold enc encodeRune encodeRuneZ
 rw[if_neg (by omega),if_neg (by omega),if_neg (by omega),if_pos (by omega)]
 have e1:(240+(c:Int) / 262144).toNat=240+c / 262144:=by omega
 have e2:(128+(c:Int) / 4096 % 64).toNat=128+c / 4096 % 64:=by omega
 have e3:(128+(c:Int) / 64 % 64).toNat=128+c / 64 % 64:=by omega
 have e4:(128+(c:Int) % 64).toNat=128+c % 64:=by omega
 simp only[List.map_cons,List.map_nil,e1,e2,e3,e4]

theorem gf (n:Nat) (h:n<256):(UInt8.ofNat n).toNat=n:=by
 simp only[UInt8.toNat_ofNat']
 omega

theorem Om {c:Nat} (h:vr c):c<1114112:=by unfold vr at h; omega
theorem Cn {c:Nat} (hv:vr c):(c<128∧enc c = [UInt8.ofNat c])∨(128≤c∧c<2048∧enc c = [UInt8.ofNat (192+c / 64),UInt8.ofNat (128+c % 64)]) ∨
  (2048≤c∧c<65536∧enc c = [UInt8.ofNat (224+c / 4096),UInt8.ofNat (128+c / 64 % 64),UInt8.ofNat (128+c % 64)]) ∨
  (65536≤c∧enc c = [UInt8.ofNat (240+c / 262144),UInt8.ofNat (128+c / 4096 % 64),UInt8.ofNat (128+c / 64 % 64),UInt8.ofNat (128+c % 64)]):=by
 have:=Om hv
 by_cases h1:c<128
 ·exact .inl ⟨h1,enc1 h1⟩
 by_cases h2:c<2048
 ·exact .inr (.inl ⟨by omega,h2,enc2 (by omega) h2⟩)
 by_cases h3:c<65536
 ·exact .inr (.inr (.inl ⟨by omega,h3,enc3 (by omega) h3 hv⟩))
 ·exact .inr (.inr (.inr ⟨by omega,enc4 (by omega) this⟩))

theorem zT {c:Nat} (hv:vr c):1≤(enc c).length∧(enc c).length≤4:=by
 rcases Cn hv with ⟨_,e⟩|⟨_,_,e⟩|⟨_,_,e⟩|⟨_,e⟩ <;> rw[e] <;> simp

theorem HQ {c:Nat} (hv:vr c) (t:aj):decodeL (enc c++t)=(c,(enc c).length):=by
 have jb:=Om hv
 unfold vr at hv
 rw[decodeL_N]
 rcases Cn hv with ⟨h1,e⟩|⟨h0,h1,e⟩|⟨h0,h1,e⟩|⟨h0,e⟩ <;> rw[e]
 ·simp only[List.cons_append,List.getD_cons_zero,gf c (by omega)]
  exact decodeN_ascii _ _ _ _ _ h1
 ·simp only[List.cons_append,List.nil_append,List.getD_cons_zero,List.getD_cons_succ,gf (192+c / 64) (by omega),gf (128+c % 64) (by omega),List.length_cons]
  unfold decodeN
  rw[if_neg (by omega),if_pos ⟨by omega,by omega,by omega⟩,if_pos (by omega)]
  refine Prod.ext ?_ rfl
  show (192+c / 64) % 32*64+(128+c % 64) % 64=c
  omega
 ·simp only[List.cons_append,List.nil_append,List.getD_cons_zero,List.getD_cons_succ,gf (224+c / 4096) (by omega),gf (128+c / 64 % 64) (by omega),gf (128+c % 64) (by omega),List.length_cons]
  unfold decodeN
  have k:(224+c / 4096) % 16*4096+(128+c / 64 % 64) % 64*64+(128+c % 64) % 64=c:=by omega
  rw[if_neg (by omega),if_neg (by omega),if_pos ⟨by omega,⟨by omega,by omega⟩,by omega,by omega⟩,k,if_pos (by omega)]
  simp only[List.length_nil]
 ·simp only[List.cons_append,List.nil_append,List.getD_cons_zero,List.getD_cons_succ,gf (240+c / 262144) (by omega),gf (128+c / 4096 % 64) (by omega),gf (128+c / 64 % 64) (by omega),gf (128+c % 64) (by omega),List.length_cons]
  unfold decodeN
  have k:(240+c / 262144) % 8*262144+(128+c / 4096 % 64) % 64*4096+(128+c / 64 % 64) % 64*64+(128+c % 64) % 64=c:=by omega
  rw[if_neg (by omega),if_neg (by omega),if_neg (by omega),if_pos ⟨by omega,⟨by omega,by omega⟩,⟨by omega,by omega⟩,by omega,by omega⟩,k,if_pos (by omega)]
  simp only[List.length_nil]

def Tj (l:aj):Prop:=¬((decodeL l).1=65533∧(decodeL l).2=1)
instance (l:aj):Decidable (Tj l):=inferInstanceAs (Decidable (¬_))

theorem Rg {c:Nat} (hv:vr c) (t:aj):Tj (enc c++t):=by
 unfold Tj
 rw[HQ hv t]
 rintro ⟨h1,h2⟩
 simp only at h1 h2
 rw[h1]at h2
 rw[enc3 (by omega) (by omega) (by unfold vr; omega)]at h2
 cases h2

theorem Tk (n b0 b1 b2 b3:Nat) (h0:b0<256):vr (decodeN n b0 b1 b2 b3).1:=by
 unfold vr decodeN
 repeat' split
 all_goals simp only
 all_goals omega

theorem Tl (l:aj):vr (decodeL l).1:=by
 rw[decodeL_N]
 exact Tk _ _ _ _ _ (UInt8.toNat_lt _)

theorem Y5 {l:aj} (jc:l ≠ []) (h:Tj l):l=enc (decodeL l).1++l.drop (decodeL l).2∧(enc (decodeL l).1).length=(decodeL l).2:=by
 have h1:=encode_decode l jc h
 have h2:=decodeL_le l jc
 refine ⟨?_,?_⟩
 ·unfold enc
  rw[h1,List.take_append_drop]
 ·unfold enc
  rw[h1,List.length_take]
  omega

theorem JR {l:aj} (jc:l ≠ []):gE l=if Tj l then gE (l.drop (decodeL l).2)else false:=by
 unfold gE
 rw[validD_step l jc]
 by_cases h:Tj l
 ·rw[if_pos h,if_neg (show ¬((decodeL l).1=65533∧(decodeL l).2=1)from h)]
 ·rw[if_neg h,if_pos (Decidable.not_not.1 h)]

theorem Y6 {c:Nat} (hv:vr c) (t:aj):enc c++t ≠ []:=by
 have:=zT hv
 intro e
 have:=congrArg List.length e
 rw[List.length_append,List.length_nil]at this
 omega

theorem Tm {c:Nat} (hv:vr c) (t:aj):gE (enc c++t)=gE t:=by
 rw[JR (Y6 hv t),if_pos (Rg hv t),HQ hv t]
 simp

def cz (rs:List Nat):aj:=rs.flatMap enc

theorem JS:∀(rs:List Nat),(∀c∈rs,vr c)→∀t,gE (cz rs++t)=gE t
 | [],_,t=>rfl
 | c::rs,h,t=>by
  have:cz (c::rs)++t=enc c++(cz rs++t):=by simp[cz]
  rw[this,Tm (h c (by simp)),JS rs (fun x hx=>h x (by simp[hx]))]

theorem JT:∀(n:Nat) (l:aj),l.length≤n→gE l=true→∃rs:List Nat,(∀c∈rs,vr c)∧l=cz rs
 | 0,l,hl,_=>⟨[],by simp,List.eq_nil_of_length_eq_zero (by omega)⟩
 | n+1,l,hl,h=>by
  by_cases jc:l = []
  ·exact ⟨[],by simp,jc⟩
  rw[JR jc]at h
  split at h
  ·rename_i hg
   obtain ⟨h1,h2⟩:=Y5 jc hg
   have h3:=zT (Tl l)
   obtain ⟨rs,hr,e⟩:=JT n (l.drop (decodeL l).2) (by rw[List.length_drop]; omega) h
   refine ⟨(decodeL l).1::rs,?_,?_⟩
   ·intro c hc
    rcases List.mem_cons.1 hc with rfl|hc
    ·exact Tl l
    ·exact hr c hc
   ·exact h1.trans ((congrArg (enc (decodeL l).1 ++ ·) e).trans (by simp[cz]))
  ·cases h

theorem Co {l:aj}:gE l=true↔∃rs:List Nat,(∀c∈rs,vr c)∧l=cz rs:=by
 refine ⟨JT l.length l (Nat.le_refl _),?_⟩
 rintro ⟨rs,hr,rfl⟩
 have:=JS rs hr []
 rw[List.append_nil]at this
 rw[this]; rfl

theorem Rh {s t:aj} {i:Nat} (h:i<s.length):(s++t).getD i 0=s.getD i 0:=by
 simp[List.getD,List.getElem?_append_left h]
end Go.aF

set_option maxRecDepth 100000
namespace Go.Proofs.YtmlkkgfenfdndaaGreatDoor
open Go Go.aF Go.RowKit Go.Shelf

section
variable {w w':World} {h:aG} {c:js} {R:Type}

theorem below_drewN:∀(q:Nat) (a:World),Below w.heap.size w a→Below w.heap.size w (a.drewN q)
 | 0,_,ha=>ha
 | q+1,a,ha=>(below_drewN q a ha).drew

theorem Tn (a:World) (os:Array Obj) (ha:Below w.heap.size w a):Below w.heap.size w { a with heap:=a.heap++os } :=
 ⟨ha.os,ha.tape,ha.output,by simp; have:=ha.size; omega,fun k hk=>by
  have:=ha.size
  rw[←ha.block k hk]
  exact Array.getElem?_append_left (by omega)⟩

theorem Ri (e:TypeId) (t:ByteArray):Below w.heap.size w (Go.Lib.bytesWorld w e t):=by
 unfold Go.Lib.bytesWorld World.freeze
 have hb:Below w.heap.size w (w.drew.alloc (.cells (Go.Lib.bytesCells w e t) e)):=xn w _
 split
 ·exact hb
 ·refine ⟨hb.os,hb.tape,hb.output,?_,fun k hk => ?_⟩
  ·have:=hb.size; simpa using this
  ·rw[←hb.block k hk]
   simp only[Array.getElem?_modify]
   rw[if_neg (by show ¬w.heap.size=k; omega)]

theorem Y7 (s cs:aj):(bG s cs).length≤s.length:=yh _ s
theorem Y8 (s cs:aj):(cN s cs).length≤s.length:=by
 unfold cN
 rw[List.length_reverse]
 exact Nat.le_trans (yh _ _) (by simp)
theorem We (s:aj):bG s []=s:=by
 unfold bG
 cases s with
 | nil=>rfl
 | cons b s=>simp
theorem Wf (s:aj):cN s []=s:=by
 unfold cN
 have:(s.reverse.dropWhile fun x=>List.contains [] x)=s.reverse:=by
  cases s.reverse with
  | nil=>rfl
  | cons b s=>simp
 rw[this,List.reverse_reverse]
theorem Wg (s:aj) (b:UInt8):bG s [b]=Go.Lib.trimLeftB s b:=by
 unfold bG Go.Lib.trimLeftB
 congr 1
 funext x
 rw[List.contains_cons]
 show (x==b||false)=_
 rw[Bool.or_false]
theorem Wh (s:aj) (b:UInt8):cN s [b]=Go.Lib.trimRightB s b:=by
 unfold cN Go.Lib.trimRightB
 congr 2
 funext x
 rw[List.contains_cons]
 show (x==b||false)=_
 rw[Bool.or_false]

theorem Y9:aF.Spec.Ok Tryz.prog 72 (PG R):=by
 refine nj Tryz.func72 rfl rfl fun vs hp k r hk w c args wf ra => ?_
 unfold PG at hk
 split at hk <;> try (first|cases hk)
 rename_i s
 obtain ⟨a,rfl,r1⟩:=Oj ra
 obtain ⟨t,rfl,rfl,hl⟩:=r1.iK
 refine ⟨_,hk,k6 (Any.utf8_ValidString Tryz.YT t w hl wf.lay.1.1) ?_⟩
 rintro e w' ⟨he,hb⟩
 exact ⟨_,he,hb, .bool _⟩

theorem dec_ok:aF.Spec.Ok Tryz.prog 130 (Y3 R):=by
 refine nj Tryz.func130 rfl rfl fun vs hp k r hk w c args wf ra => ?_
 unfold Y3 at hk
 split at hk <;> try (first|cases hk)
 rename_i s
 obtain ⟨a,rfl,r1⟩:=Oj ra
 obtain ⟨t,rfl,rfl,hl⟩:=r1.iK
 have hd:Go.Lib.decodeGo t=nG t.data.toList:=by
  unfold Go.Lib.decodeGo nG
  by_cases h0:t.size=0
  ·have:t.data.toList = []:=List.eq_nil_of_length_eq_zero (by rw[size_data]; exact h0)
   simp[h0,this]
  ·have:t.data.toList ≠ []:=fun e=>h0 (by rw[←size_data,e]; rfl)
   have hm:(⟨t.data.toList.toArray⟩:ByteArray)=t:=qa rfl
   simp[h0,hm]
   exact fun e=>absurd (show t.data.size=0 by rw[e]; rfl) h0
 have jb:(nG t.data.toList).1<2097152∧(nG t.data.toList).2≤4:=by
  unfold nG
  split
  ·exact ⟨by omega,by omega⟩
  ·exact ⟨(I7 _ _).1,(I7 _ _).2.2⟩
 refine ⟨_,hk,k6 (Any.utf8_DecodeRuneInString Tryz.lay197 t w wf.lay.1.1) ?_⟩
 rintro e w' ⟨he,hb⟩
 rw[hd]at he
 refine ⟨_,he,hb, .tuple rfl fun j v d hv hd => ?_⟩
 match j,hv,hd with
 | 0,hv,hd=>simp at hv hd; subst hv; subst hd; exact .int (QV _ jb.1)
 | 1,hv,hd=>simp at hv hd; subst hv; subst hd; exact .int (CL _ (by unfold mx; omega))
 | j+2,hv,_=>simp at hv

theorem itoa_ok:aF.Spec.Ok Tryz.prog 66 (Ti R):=by
 refine nj Tryz.func66 rfl rfl fun vs hp k r hk w c args wf ra => ?_
 unfold Ti at hk
 split at hk <;> try (first|cases hk)
 rename_i n
 obtain ⟨a,rfl,r1⟩:=Oj ra
 obtain ⟨rfl,hn⟩:=r1.hZ
 have Qb : -9223372036854775808≤n∧n≤9223372036854775807:=by simpa [IntKind.has,IntKind.min,IntKind.max,IntKind.signed,IntKind.bits]using hn
 refine ⟨_,hk,k6 (Any.strconv_Itoa Tryz.lay171 n Qb.1 Qb.2 w wf.lay.1.2.1) ?_⟩
 rintro e w' ⟨he,q,os,rfl⟩
 refine ⟨_,he,Tn _ os (below_drewN q w (Below.refl _ _)),PK _ ?_⟩
 have:=Go.Lib.itoa_length_le n Qb.1 Qb.2
 unfold cn mx
 omega

theorem x72:Builder.X72 Tryz.prog Tryz.CY := { sizeBuilder:=by kernel_rfl,liesBuilder:=by kernel_rfl }
theorem Za:Builder.Extra Tryz.prog Tryz.CY := { x72 with t5:=Tryz.underlying5,a5:=Tryz.isAgg5,z5:=Tryz.sizeOf5,v5:=Tryz.zeroValue5,infoByte:=by kernel_rfl,cellsByte:=by kernel_rfl,sizeByte:=by kernel_rfl,neB5:=by decide }

theorem rep_ok:aF.Spec.Ok Tryz.prog 67 (Y4 R):=by
 refine nj Tryz.func67 rfl rfl fun vs hp k r hk w c args wf ra => ?_
 unfold Y4 at hk
 split at hk <;> try (first|cases hk)
 rename_i s n
 obtain ⟨hc,hk⟩:=cf hk
 simp only[Bool.and_eq_true,decide_eq_true_eq]at hc
 obtain ⟨h0,hlen⟩:=hc
 obtain ⟨a,b,rfl,r1,r2⟩:=Ol ra
 obtain ⟨t,rfl,rfl,hl⟩:=r1.iK
 obtain ⟨rfl,hn⟩:=r2.hZ
 obtain ⟨m,rfl⟩:=Int.eq_ofNat_of_zero_le h0
 have Qb:(m:Int)≤9223372036854775807:=by
  have:IntKind.i64.has (m:Int):=hn
  simp[IntKind.has,IntKind.min,IntKind.max,IntKind.signed,IntKind.bits]at this
  omega
 rw[size_data]at hlen
 have hlen':t.size*m≤140737488355328:=by omega
 have hrl:(Go.Lib.repeatL t.data.toList m).length≤140737488355328:=by
  rw[Go.Lib.repeatL_length,size_data,Nat.mul_comm]; exact hlen'
 refine ⟨_,hk,k6 (Any.strings_Repeat Tryz.YU Za t m w (by omega) hlen') ?_⟩
 rintro e w' ⟨he,hb⟩
 refine ⟨_,he,hb,?_⟩
 have e2:kG t.data.toList (m:Int)=Go.Lib.repeatL t.data.toList m:=by unfold kG; simp
 rw[e2]
 exact PK _ (by unfold mx; omega)

theorem L8:aF.Spec.Ok Tryz.prog 68 (HP R):=by
 refine nj Tryz.func68 rfl rfl fun vs hp k r hk w c args wf ra => ?_
 unfold HP at hk
 split at hk <;> try (first|cases hk)
 rename_i s cs
 obtain ⟨hc,hk⟩:=cf hk
 simp only[Bool.and_eq_true,decide_eq_true_eq]at hc
 obtain ⟨ha,En⟩:=hc
 obtain ⟨a,b,rfl,r1,r2⟩:=Ol ra
 obtain ⟨t,rfl,rfl,hl⟩:=r1.iK
 obtain ⟨u,rfl,rfl,O8⟩:=r2.iK
 rw[size_data]at En
 have To:=KR ha
 have hle:=Y7 t.data.toList u.data.toList
 rw[size_data]at hle
 have fin:∀(l:aj),l=bG t.data.toList u.data.toList→∀w':World,dz w' hp c (.str (bG t.data.toList u.data.toList)) (.string ⟨l.toArray⟩):=fun l e w'=>by
  rw[e]; exact PK _ (by omega)
 by_cases h0:t.size=0∨u.size=0
 ·refine ⟨_,hk,k6 (Any.strings_TrimLeft_empty Tryz.S7 t u w h0) ?_⟩
  rintro e w' ⟨he,rfl⟩
  have e2:(⟨t.data.toList.toArray⟩:ByteArray)=t:=qa rfl
  rw[←e2]at he
  refine ⟨_,he,Below.refl _ _,fin _ ?_ _⟩
  rcases h0 with h0|h0
  ·have:t.data.toList = []:=List.eq_nil_of_length_eq_zero (by rw[size_data]; exact h0)
   rw[this]; unfold bG; simp
  ·have:u.data.toList = []:=List.eq_nil_of_length_eq_zero (by rw[size_data]; exact h0)
   rw[this,We]
 ·have hu1:u.size=1∨2≤u.size:=by omega
  rcases hu1 with hu1|R3
  ·obtain ⟨b,hb⟩:∃b,u.data.toList = [b]:=by
    have hul:u.data.toList.length=1:=by rw[size_data]; exact hu1
    match hq:u.data.toList,hul with
    | [b],_=>exact ⟨b,rfl⟩
   have eu:u=⟨#[b]⟩:=qa (by rw[hb])
   subst eu
   refine ⟨_,hk,k6 (Any.strings_TrimLeft_one Tryz.S7 t b (To 0 b rfl) w) ?_⟩
   rintro e w' ⟨he,rfl⟩
   exact ⟨_,he,Below.refl _ _,fin _ (Wg _ _).symm _⟩
  ·refine ⟨_,hk,k6 (Any.strings_TrimLeft_set Tryz.S7 Tryz.zeroValue135 (by kernel_rfl) t u w R3 (by omega) (by omega) To) ?_⟩
   rintro e w' ⟨he,rfl⟩
   refine ⟨_,he,?_,fin _ rfl _⟩
   exact ((Below.refl _ _).alloc (Nat.le_refl _) _).alloc (by simp) _

theorem Zb:aF.Spec.Ok Tryz.prog 104 (PH R):=by
 refine nj Tryz.func104 rfl rfl fun vs hp k r hk w c args wf ra => ?_
 unfold PH at hk
 split at hk <;> try (first|cases hk)
 rename_i s cs
 obtain ⟨hc,hk⟩:=cf hk
 simp only[Bool.and_eq_true,decide_eq_true_eq]at hc
 obtain ⟨ha,En⟩:=hc
 obtain ⟨a,b,rfl,r1,r2⟩:=Ol ra
 obtain ⟨t,rfl,rfl,hl⟩:=r1.iK
 obtain ⟨u,rfl,rfl,O8⟩:=r2.iK
 rw[size_data]at En
 have To:=KR ha
 have hle:=Y8 t.data.toList u.data.toList
 rw[size_data]at hle
 have fin:∀(l:aj),l=cN t.data.toList u.data.toList→∀w':World,dz w' hp c (.str (cN t.data.toList u.data.toList)) (.string ⟨l.toArray⟩):=fun l e w'=>by
  rw[e]; exact PK _ (by omega)
 by_cases h0:t.size=0∨u.size=0
 ·refine ⟨_,hk,k6 (Any.strings_TrimRight_empty Tryz.S9 t u w h0) ?_⟩
  rintro e w' ⟨he,rfl⟩
  have e2:(⟨t.data.toList.toArray⟩:ByteArray)=t:=qa rfl
  rw[←e2]at he
  refine ⟨_,he,Below.refl _ _,fin _ ?_ _⟩
  rcases h0 with h0|h0
  ·have:t.data.toList = []:=List.eq_nil_of_length_eq_zero (by rw[size_data]; exact h0)
   rw[this]; unfold cN; simp
  ·have:u.data.toList = []:=List.eq_nil_of_length_eq_zero (by rw[size_data]; exact h0)
   rw[this,Wf]
 ·have hu1:u.size=1∨2≤u.size:=by omega
  rcases hu1 with hu1|R3
  ·obtain ⟨b,hb⟩:∃b,u.data.toList = [b]:=by
    have hul:u.data.toList.length=1:=by rw[size_data]; exact hu1
    match hq:u.data.toList,hul with
    | [b],_=>exact ⟨b,rfl⟩
   have eu:u=⟨#[b]⟩:=qa (by rw[hb])
   subst eu
   refine ⟨_,hk,k6 (Any.strings_TrimRight_one Tryz.S9 t b (To 0 b rfl) w hl) ?_⟩
   rintro e w' ⟨he,rfl⟩
   exact ⟨_,he,Below.refl _ _,fin _ (Wh _ _).symm _⟩
  ·refine ⟨_,hk,k6 (Any.strings_TrimRight_set Tryz.S9 Tryz.zeroValue135 (by kernel_rfl) t u w R3 (by omega) hl (by omega) To) ?_⟩
   rintro e w' ⟨he,rfl⟩
   refine ⟨_,he,?_,fin _ rfl _⟩
   exact ((Below.refl _ _).alloc (Nat.le_refl _) _).alloc (by simp) _

theorem Uz:aF.Spec.Ok Tryz.prog 105 (PI R):=by
 refine nj Tryz.func105 rfl rfl fun vs hp k r hk w c args wf ra => ?_
 unfold PI at hk
 split at hk <;> try (first|cases hk)
 rename_i s
 obtain ⟨hc,hk⟩:=cf hk
 simp only[decide_eq_true_eq]at hc
 obtain ⟨a,rfl,r1⟩:=Oj ra
 obtain ⟨t,rfl,rfl,hl⟩:=r1.iK
 rw[size_data]at hc
 obtain ⟨_,_,⟨t1,x1,U8⟩,⟨t2,x2,VV⟩⟩:=wf.lay.1
 have BK:IntKind.i64.has (ej t.data.toList):=by
  unfold ej
  split
  ·rename_i v hv
   unfold Go.Lib.atoiAll at hv
   split at hv
   ·cases hv
   ·dsimp only at hv
    split at hv
    ·cases hv
    ·cases hv
    ·rename_i u _
     split at hv
     ·cases hv
     ·split at hv
      ·cases hv
      ·cases hv
       split <;> simp[IntKind.has,IntKind.min,IntKind.max,IntKind.signed,IntKind.bits] <;> omega
  ·unfold Go.Lib.atoiSat
   split <;> simp[IntKind.has,IntKind.min,IntKind.max,IntKind.signed,IntKind.bits]
  ·simp[IntKind.has,IntKind.min,IntKind.max,IntKind.signed,IntKind.bits]
 have two:∀(z:Int) (u:V) (w':World) (x:Value),ej t.data.toList=z→dz w' hp c u x→dz w' hp c (.tuple [.int .i64 (ej t.data.toList),u]) (.tuple #[.int .i64 z,x]):=fun z u w' x hz hx=>by
  subst hz
  refine .tuple rfl fun j v d hv hd => ?_
  match j,hv,hd with
  | 0,hv,hd=>simp at hv hd; subst hv; subst hd; exact .int BK
  | 1,hv,hd=>simp at hv hd; subst hv; subst hd; exact hx
  | j+2,hv,_=>simp at hv
 rcases hA:Go.Lib.atoiAll t.data.toList with v|_|_
 ·
  have e1:sa t.data.toList=true:=by unfold sa; rw[hA]
  have e2:ej t.data.toList=v:=by unfold ej; rw[hA]
  rw[e1]at hk
  refine ⟨_,hk,k6 (Any.strconv_Atoi_ok Tryz.Tb t (by omega) v hA w) ?_⟩
  rintro e w' ⟨he,hb⟩
  refine ⟨_,he,?_,two _ _ _ _ e2 .dv⟩
  rcases hb with rfl|⟨q,rfl⟩
  ·exact Below.refl _ _
  ·exact Ri _ _
 ·
  have e1:sa t.data.toList=false:=by unfold sa; rw[hA]
  have e2:ej t.data.toList=0:=by unfold ej; rw[hA]
  rw[e1]at hk
  refine ⟨_,hk,k6 (Any.strconv_Atoi_syntax Tryz.Tb t hc hA (.iface t1 x1) w U8 (.inr ⟨_,_,rfl⟩)) ?_⟩
  rintro e w' ⟨q,he,_,_,hb⟩
  exact ⟨_,he,hb,two _ _ _ _ e2 (.iface _ _)⟩
 ·
  have e1:sa t.data.toList=false:=by unfold sa; rw[hA]
  have e2:ej t.data.toList=Go.Lib.atoiSat t.data.toList:=by unfold ej; rw[hA]
  rw[e1]at hk
  refine ⟨_,hk,k6 (Any.strconv_Atoi_range Tryz.Tb t hc hA (.iface t2 x2) w VV (.inr ⟨_,_,rfl⟩)) ?_⟩
  rintro e w' ⟨q,he,_,_,hb⟩
  exact ⟨_,he,hb,two _ _ _ _ e2 (.iface _ _)⟩

theorem toErr_ok:aF.Spec.Ok Tryz.prog 136 (toErr_S R 184):=by
 refine nj Tryz.func136 rfl rfl fun vs hp k r hk w c args wf ra => ?_
 unfold toErr_S at hk
 split at hk <;> try (first|cases hk)
 rename_i fn s b1 b2 t n
 obtain ⟨hc,VO⟩:=cf hk
 obtain ⟨JG,Fw⟩:=cf VO
 simp only[Bool.and_eq_true,Bool.or_eq_true,beq_iff_eq,decide_eq_true_eq]at hc JG
 obtain ⟨ht,hn⟩:=hc
 have ht:=Nat.eq_of_beq_eq_true ht
 subst ht
 obtain ⟨l⟩:=args
 match l,ra with
 | [a1,a2,a3,a4,a5],ra =>
  obtain ⟨t1,rfl,rfl,_⟩:=ra.head.iK
  obtain ⟨t2,rfl,rfl,O8⟩:=ra.tail.head.iK
  obtain ⟨rfl,_⟩:=ra.tail.tail.head.hZ
  obtain ⟨rfl,_⟩:=ra.tail.tail.tail.head.hZ
  obtain ⟨rfl,_⟩:=ra.tail.tail.tail.tail.head.O7
  rw[size_data]at JG
  obtain ⟨_,_,⟨p1,x1,U8⟩,⟨p2,x2,VV⟩⟩:=wf.lay.1
  rcases hn with rfl|rfl
  ·refine ⟨_,Fw,k6 (Any.strconv_toError_syntax Tryz.YV t1 t2 b1 b2 (.iface p1 x1) w JG U8 (.inr ⟨_,_,rfl⟩)) ?_⟩
   rintro e w' ⟨q,he,_,_,hb⟩
   exact ⟨_,he,hb, .iface _ _⟩
  ·refine ⟨_,Fw,k6 (Any.strconv_toError_range Tryz.YV t1 t2 b1 b2 (.iface p2 x2) w JG VV (.inr ⟨_,_,rfl⟩)) ?_⟩
   rintro e w' ⟨q,he,_,_,hb⟩
   exact ⟨_,he,hb, .iface _ _⟩
 | [],ra=>have:=ra.1; simp at this
 | [_],ra=>have:=ra.1; simp at this
 | [_,_],ra=>have:=ra.1; simp at this
 | [_,_,_],ra=>have:=ra.1; simp at this
 | [_,_,_,_],ra=>have:=ra.1; simp at this
 | _::_::_::_::_::_::_,ra=>have:=ra.1; simp at this

theorem Wi:aF.Spec.Ok Tryz.prog 173 (L7 R):=by
 refine nj Tryz.func173 rfl rfl fun vs hp k r hk w c args wf ra => ?_
 unfold L7 at hk
 split at hk <;> try (first|cases hk)
 rename_i s cs
 obtain ⟨hc,hk⟩:=cf hk
 simp only[Bool.and_eq_true,decide_eq_true_eq]at hc
 obtain ⟨⟨⟨ha,hb⟩,hsl⟩,En⟩:=hc
 obtain ⟨a,b,rfl,r1,r2⟩:=Ol ra
 obtain ⟨t,rfl,rfl,hl⟩:=r1.iK
 obtain ⟨u,rfl,rfl,O8⟩:=r2.iK
 rw[size_data]at hsl En
 refine ⟨_,hk,k6 (Any.strings_ContainsAny_laid Tryz.lay150 (by kernel_rfl) t u w hsl En (KR ha) (KR hb)) ?_⟩
 rintro e w' ⟨he,hb⟩
 exact ⟨_,he,hb, .bool _⟩

theorem Zc:aF.Spec.Ok Tryz.prog 71 (Uy R):=by
 refine nj Tryz.func71 rfl rfl fun vs hp k r hk w c args wf ra => ?_
 unfold Uy at hk
 split at hk <;> try (first|cases hk)
 rename_i s ch
 obtain ⟨a,b,rfl,r1,r2⟩:=Ol ra
 obtain ⟨t,rfl,rfl,hl⟩:=r1.iK
 obtain ⟨rfl,hn⟩:=r2.hZ
 have hb:IntKind.i64.has (Go.Lib.indexByte t.data.toList ch.toNat.toUInt8):=by
  have h1:=Go.Lib.indexByte_ge t.data.toList ch.toNat.toUInt8
  have h2:Go.Lib.indexByte t.data.toList ch.toNat.toUInt8≤t.data.toList.length:=by
   generalize t.data.toList=l
   induction l with
   | nil=>simp[Go.Lib.indexByte]
   | cons x l ih =>
    have:=Go.Lib.indexByte_ge l ch.toNat.toUInt8
    unfold Go.Lib.indexByte
    split
    ·simp; omega
    ·split
     ·simp; omega
     ·simp; omega
  rw[size_data]at h2
  unfold mx at hl
  generalize Go.Lib.indexByte t.data.toList ch.toNat.toUInt8=z at h1 h2
  simp[IntKind.has,IntKind.min,IntKind.max,IntKind.signed,IntKind.bits]; omega
 refine ⟨_,hk,k6 (Any.strings_IndexByte Tryz.lay137 t ch w) ?_⟩
 rintro e w' ⟨he,rfl⟩
 exact ⟨_,he,Below.refl _ _, .int hb⟩

theorem Zd:aF.Spec.Ok Tryz.prog 41 (PJ R):=by
 refine nj Tryz.func41 rfl rfl fun vs hp k r hk w c args wf ra => ?_
 unfold PJ at hk
 split at hk <;> try (first|cases hk)
 rename_i s ch
 obtain ⟨a,b,rfl,r1,r2⟩:=Ol ra
 obtain ⟨t,rfl,rfl,hl⟩:=r1.iK
 obtain ⟨u,rfl,hu,O8⟩:=r2.iK
 obtain ⟨hb,hk⟩:=cf hk
 rw[decide_eq_true_eq,size_data]at hb
 have h1:u.size=1:=by rw[←size_data,hu]; rfl
 have hu0:u[0]'(by omega)=ch:=by
  have e:u.data = #[ch]:=by
   have:=congrArg List.toArray hu
   simpa using this
  show u.data[0]'_=ch
  simp[e]
 refine ⟨_,hk,k6 (Any.strings_LastIndex_one Tryz.lay148 t u h1 (by omega) w) ?_⟩
 rintro e w' ⟨he,rfl⟩
 rw[hu0]at he
 have ht:(⟨t.data.toList.toArray⟩:ByteArray)=t:=qa rfl
 have hh:IntKind.i64.has (yt t.data.toList ch):=by
  unfold yt
  rw[ht]
  rcases Go.Lib.lastIndexByte_spec t (ch.toNat:Int)with ⟨e,_⟩|⟨i,hi,e,_⟩
  ·rw[e]; simp[IntKind.has,IntKind.min,IntKind.max,IntKind.signed,IntKind.bits]
  ·rw[e]; simp[IntKind.has,IntKind.min,IntKind.max,IntKind.signed,IntKind.bits]; omega
 have e2:yt t.data.toList ch=Go.Lib.lastIndexByte t (ch.toNat:Int):=by unfold yt; rw[ht]
 refine ⟨_,he,Below.refl _ _,?_⟩
 rw[←e2]
 exact .int hh

theorem bccL:Lays.n240 Tryz.prog Tryz.CY := { Tryz.YU with }
theorem L9:aF.Spec.Ok Tryz.prog 73 (JQ R) :=
 bcc_ok Tryz.func73 rfl rfl (fun b w h0 hs hf=>Any.Builder_copyCheck_fresh bccL x72 b w h0 hs hf) (fun b w h0=>Any.Builder_copyCheck_used bccL x72 b w h0)

theorem UA:Lays.n169 Tryz.prog Tryz.GX:=Tryz.lay169
theorem Bw:Builder.Extra Tryz.prog Tryz.GX := { sizeBuilder:=by kernel_rfl,liesBuilder:=by kernel_rfl,t5:=Tryz.underlying5,a5:=Tryz.isAgg5,z5:=Tryz.sizeOf5,v5:=Tryz.zeroValue5,infoByte:=by kernel_rfl,cellsByte:=by kernel_rfl,sizeByte:=by kernel_rfl,neB5:=by decide }

set_option maxHeartbeats 1000000 in
theorem Rj (b q cap:Nat) (p:Value) (cur:Array Value) (fz:Nat × Nat) (l:List UInt8) (w:World) (h0:l ≠ []) (T8:w.heap[b]? = some (.cells #[p, .slice (some ⟨q,0,none⟩) l.length cap] nR.lW (0,0)))
  (hq:w.heap[q]? = some (.cells cur nR.u8 fz)) (hnc:l.length≤cap) (hcm:cap≤mx) (oJ:l.length≤cur.size) (xf:∀(j:Nat) (x:UInt8),l[j]? = some x→w.cell? ⟨q,j,none⟩=some (.int .u8 x.toNat)) :
  Calls Tryz.prog 39 #[.pointer (some ⟨b,0,none⟩)] w fun e w'=>e = .returned (.string ⟨l.toArray⟩)∧w'=w.drew.freeze ⟨q,0,none⟩ l.length:=by
 have JG:l.length≠0:=by simpa using h0
 have L:=UA
 have X:=Bw
 have c1:w.drew.cell? ⟨b,1,none⟩=some (.slice (some ⟨q,0,none⟩) l.length cap):=by
  have h1:w.drew.heap[b]? = some (.cells #[p, .slice (some ⟨q,0,none⟩) l.length cap] nR.lW (0,0)):=T8
  rw[Lib.cell_of_heap h1]; rfl
 have hSD:(Builtin.unsafeSliceData_ #[41] 106 #[.slice (some ⟨q,0,none⟩) l.length cap]).run Tryz.prog w.drew = .ok (.pointer (some ⟨q,0,none⟩)) w.drew :=
  Lib.run_unsafeSliceData_row _ _ _ _ _ _ (by omega)
 have hUS:(Builtin.unsafeString_ #[106,3] 9 #[.pointer (some ⟨q,0,none⟩), .int .i64 l.length]).run Tryz.prog w.drew = .ok (.string ⟨l.toArray⟩) (w.drew.freeze ⟨q,0,none⟩ l.length):=by
  refine Lib.run_unsafeString_row w.drew 106 3 9 5 L.t127 X.cellsByte q cur.size (by have hq':w.drew.heap[q]? = some (.cells cur 5 fz):=hq; simp[World.shape?,hq']) l h0 oJ (by unfold mx at hcm; omega) ?_
  intro j x hx
  have:=xf j x hx
  rw[aF.qd,Nat.zero_add]
  exact this
 have mixed:=L.mixed
 have t72:=L.t72; have a72:=L.a72; have z72:=L.z72; have v72:=L.v72; have u72:=run_underlying L.t72
 have t70:=L.t70; have a70:=L.a70; have z70:=L.z70; have v70:=L.v70; have u70:=run_underlying L.t70
 have t37:=L.t37; have a37:=L.a37; have z37:=L.z37; have v37:=L.v37; have u37:=run_underlying L.t37
 have t127:=L.t127; have a127:=L.a127; have z127:=L.z127; have v127:=L.v127; have u127:=run_underlying L.t127
 have t3:=L.t3; have a3:=L.a3; have z3:=L.z3; have v3:=L.v3; have u3:=run_underlying L.t3
 have t9:=L.t9; have a9:=L.a9; have z9:=L.z9; have v9:=L.v9; have u9:=run_underlying L.t9
 have t5:=X.t5; have a5:=X.a5; have z5:=X.z5; have v5:=X.v5; have u5:=run_underlying X.t5
 go_enter Tryz.func39,Tryz.ntmps39
 go_wp2
 go_region_o
 all_goals (go_wp2; go_ret; exact ⟨rfl,rfl⟩)

set_option maxHeartbeats 2000000 in
theorem Nu (b q:Nat) (p:Value) (cur:Array Value) (fz:Nat × Nat) (w:World) (T8:w.heap[b]? = some (.cells #[p, .slice (some ⟨q,0,none⟩) 0 0] nR.lW (0,0))) (hq:w.heap[q]? = some (.cells cur nR.u8 fz)) :
  Calls Tryz.prog 39 #[.pointer (some ⟨b,0,none⟩)] w fun e w'=>e = .returned (.string ⟨#[]⟩)∧Below w.heap.size w w':=by
 have L:=UA
 have X:=Bw
 have hUS:∀(W:World) (q:Option Addr),(Builtin.unsafeString_ #[106,3] 9 #[.pointer q, .int .i64 0]).run Tryz.prog W = .ok (.string .empty) W:=fun W q=>Lib.run_unsafeString_none W _ _ _ q
 have jb:b<w.heap.size:=by
  rcases Nat.lt_or_ge b w.heap.size with h'|h'
  ·exact h'
  ·simp[Array.getElem?_eq_none h']at T8
 have c1:w.drew.cell? ⟨b,1,none⟩=some (.slice (some ⟨q,0,none⟩) 0 0):=by
  have:w.drew.heap[b]? = some (.cells #[p, .slice (some ⟨q,0,none⟩) 0 0] nR.lW (0,0)):=T8
  rw[Lib.cell_of_heap this]; rfl
 have hSD:(Builtin.unsafeSliceData_ #[41] 106 #[.slice (some ⟨q,0,none⟩) 0 0]).run Tryz.prog w.drew = .ok (.pointer (some ⟨w.drew.heap.size,0,none⟩)) (w.drew.alloc (.view ⟨q,0,none⟩ 5)) :=
  Lib.run_unsafeSliceData_zero w.drew _ _ 5 L.t127 ⟨q,0,none⟩ 0 (5,cur.size) (by have hq':w.drew.heap[q]? = some (.cells cur 5 fz):=hq; simp[World.shape?,hq'])
 have c2:(w.drew.alloc (.view ⟨q,0,none⟩ 5)).cell? ⟨b,1,none⟩=some (.slice (some ⟨q,0,none⟩) 0 0):=by
  have:(w.drew.alloc (.view ⟨q,0,none⟩ 5)).heap[b]? = _:=(Lib.alloc_old w.drew _ b jb).trans T8
  rw[Lib.cell_of_heap this]; rfl
 have c3:(w.alloc (.view ⟨q,0,none⟩ 5)).drew.cell? ⟨b,1,none⟩=some (.slice (some ⟨q,0,none⟩) 0 0):=c2
 have c0:w.cell? ⟨b,1,none⟩=some (.slice (some ⟨q,0,none⟩) 0 0):=c1
 have mixed:=L.mixed
 have t72:=L.t72; have a72:=L.a72; have z72:=L.z72; have v72:=L.v72; have u72:=run_underlying L.t72
 have t70:=L.t70; have a70:=L.a70; have z70:=L.z70; have v70:=L.v70; have u70:=run_underlying L.t70
 have t37:=L.t37; have a37:=L.a37; have z37:=L.z37; have v37:=L.v37; have u37:=run_underlying L.t37
 have t127:=L.t127; have a127:=L.a127; have z127:=L.z127; have v127:=L.v127; have u127:=run_underlying L.t127
 have t3:=L.t3; have a3:=L.a3; have z3:=L.z3; have v3:=L.v3; have u3:=run_underlying L.t3
 have t9:=L.t9; have a9:=L.a9; have z9:=L.z9; have v9:=L.v9; have u9:=run_underlying L.t9
 have t5:=X.t5; have a5:=X.a5; have z5:=X.z5; have v5:=X.v5; have u5:=run_underlying X.t5
 go_enter Tryz.func39,Tryz.ntmps39
 go_wp2
 go_region_o
 all_goals (go_wp2; go_ret; exact ⟨rfl,(Below.drew (Below.refl _ w)).alloc (Nat.le_refl _) _⟩)

theorem Rk:L5 Tryz.prog 39 where
 nil:=fun b p w T8=>Any.Builder_String_nil UA Bw w.heap.size b p w T8
 Y2:=Nu
 room:=fun b q cap p w hc T8=>Any.Builder_String_room UA Bw w.heap.size b q cap p w hc T8
 some:=Rj

theorem KS:aF.Spec.Ok Tryz.prog 39 (CZ R):=bstr_ok Tryz.func39 rfl rfl Rk

end
end Go.Proofs.YtmlkkgfenfdndaaGreatDoor

/-
 Functions of the program as pure Lean functions, and the ties; printed by wip/tools/emit.py.
-/
set_option maxRecDepth 100000
namespace Go.Proofs.YtmlkkgfenfdndaaGreatDoor
open Go Go.aF

/-! ### humpyard/humpyardlaw04.pick -/
abbrev mM (R:Type):Type:=Int→Int→(Int→Option R)→Option R
abbrev C0:List ck := [.leaf (.int .i64), .leaf (.int .i64)]
abbrev C1:List aN := []
def Gg {R:Type} (fn:mM R):ck.aH C0→aN.aH C1→(V→aG→Option R)→Option R:=fun x y k=>fn x.1 x.2.1 (fun q0=>k (.int .i64 q0) [])
def HR {R:Type} (fn:mM R):aF.Spec R→aF.Spec R:=bj C0 C1 (Gg fn)
def HS {R:Type} (x1:Int) (x2:Int) (k0:Int→Option R):Option R :=
 bif (decide (x1<(0:Int)))then (cw (!decide (x2=0)) (k0 (Int.tmod (IntKind.i64.wrap (0 - (IntKind.i64.wrap (x1+1)))) x2)))else (cw (!decide (x2=0)) (k0 (Int.tmod x1 x2)))
def eS {R:Type}:mM R:=fun x1 x2 k0=>HS x1 x2 k0
theorem Nv {R:Type}:gR (R:=R) tt [] xw false Tryz.f35 (bb Tryz.f35) C0 C1 (Gg HS):=fun x y k=>by kernel_rfl
theorem Kd (R:Type):rR Tryz.prog 35 (HR (eS (R:=R))):=cQ TT mixed .n rfl rfl rfl rfl dV (Nv)

/-! ### humpyard/humpyardlaw01.pick -/
abbrev oK (R:Type):Type:=Int→Int→(Int→Option R)→Option R
abbrev C2:List ck := [.leaf (.int .i64), .leaf (.int .i64)]
abbrev C3:List aN := []
def Gh {R:Type} (fn:oK R):ck.aH C2→aN.aH C3→(V→aG→Option R)→Option R:=fun x y k=>fn x.1 x.2.1 (fun q0=>k (.int .i64 q0) [])
def HT {R:Type} (fn:oK R):aF.Spec R→aF.Spec R:=bj C2 C3 (Gh fn)
def HU {R:Type} (x1:Int) (x2:Int) (k0:Int→Option R):Option R :=
 bif (decide (x1<(0:Int)))then (cw (!decide (x2=0)) (k0 (Int.tmod (IntKind.i64.wrap (0 - (IntKind.i64.wrap (x1+1)))) x2)))else (cw (!decide (x2=0)) (k0 (Int.tmod x1 x2)))
def fR {R:Type}:oK R:=fun x1 x2 k0=>HU x1 x2 k0
theorem Nw {R:Type}:gR (R:=R) tt [] xw false Tryz.f54 (bb Tryz.f54) C2 C3 (Gh HU):=fun x y k=>by kernel_rfl
theorem Ke (R:Type):rR Tryz.prog 54 (HT (fR (R:=R))):=cQ TT mixed .n rfl rfl rfl rfl dV (Nw)

/-! ### humpyard/humpyardlaw01.Fit -/
abbrev jY (R:Type):Type:=Int→Int→(iC→Option R)→Option R
abbrev EH:List ck := [.leaf (.int .i64), .leaf (.int .i64)]
abbrev EI:List aN := []
def HV {R:Type} (fn:jY R):ck.aH EH→aN.aH EI→(V→aG→Option R)→Option R:=fun x y k=>fn x.1 x.2.1 (fun q0=>k (.agg [.int .i64 q0.aB, .int .i64 q0.exp]) [])
def EJ {R:Type} (fn:jY R):aF.Spec R→aF.Spec R:=bj EH EI (HV fn)
abbrev mX (R:Type):Type:=Nat→Int→Int→iC→(Int→Int→iC→Option R)→Option R
def vq {R:Type} (fR:oK R):List (uI R) := [(54,true,(HT fR aZ))]
theorem Nx {R:Type}:eU (R:=R) Tryz.prog (vq fR) := .p (Ke R _ (aK _)) <| .n
def nX {R:Type} (fC:Int→Int→iC→Option R) (x5:Int) (x6:Int) (x7:iC) (e0:Int→Int→iC→Option R):Option R :=
 bif (x5 != 0)then (bif ((Int.tmod x5 10)==0)then (fC (IntKind.i64.wrap (Int.tdiv x5 10)) x6 x7)else (e0 x5 x6 x7))else (e0 x5 x6 x7)
def cm {R:Type}:mX R
 | 0,_,_,_,_=>none
 | n+1,kN,kO,lN,e0=>nX (fun kN kO lN=>cm n kN kO lN e0) kN kO lN e0
def uJ:Hint := { live := [4,5,6],own := [],rows := [],cells := [],drop := [],out := [4,5,6] }
abbrev kH:Type:=Int × Int × iC
def rB:kH→St:=fun d=>⟨U 4 (.ptr 0 0 :: .int .i64 d.1 :: .int .i64 d.2.1::U 20 ([])), [.cells [.int .i64 d.2.2.aB, .int .i64 d.2.2.exp]]⟩
def xB {R:Type} (K:Ex→St→Option R) (q0:Int) (q1:Int) (q2:iC):Option R:=K (.exit 0) ⟨U 4 (.ptr 0 0 :: .int .i64 q0 :: .int .i64 q1::U 20 ([])), [.cells [.int .i64 q2.aB, .int .i64 q2.exp]]⟩
def yT {R:Type} (K:Ex→St→Option R) (rc:kH→Option R) (d:kH):Option R:=nX (fun z0 z1 z2=>rc (z0,z1,z2)) d.1 d.2.1 d.2.2 (xB K)
def nY {R:Type} (K:Ex→St→Option R) (n:Nat) (d:kH):Option R:=cm n d.1 d.2.1 d.2.2 (xB K)
abbrev kI:List ck:=PU 4 (.leaf (.ptr 0 0) :: .leaf (.int .i64) :: .leaf (.int .i64)::PU 20 ([]))
abbrev kJ:List aN := [.cells [.int .i64, .int .i64]]
def yU (x:ck.aH kI) (y:aN.aH kJ):Nat:=(Int.natAbs x.2.2.2.2.2.1+Int.natAbs x.2.2.2.2.2.2.1+iC.fu (⟨y.1.1,y.1.2.1⟩:iC)+64)
def yV (x:ck.aH kI) (y:aN.aH kJ):kH:=(x.2.2.2.2.2.1,x.2.2.2.2.2.2.1,(⟨y.1.1,y.1.2.1⟩:iC))
def xC {R:Type} (L:mX R):ck.aH kI→aN.aH kJ→(Ex→St→Option R)→Option R:=fun x y K=>L (yU x y) x.2.2.2.2.2.1 x.2.2.2.2.2.2.1 (⟨y.1.1,y.1.2.1⟩:iC) (xB K)
def yu (R:Type) (cm:mX R):Nat→Option (Hint × eJ R):=fun i=>match i with
 | 3=>some (uJ,(fQ kI kJ (xC cm) pr))
 | _=>none

theorem GY {R:Type} (fR:oK R) (cm:mX R) (K:Ex→St→Option R) (rc:St→Option R) (d:kH):roundOf tt (fV (vq fR)) (yu R cm) 0 ((br (bb Tryz.f28)).getD 0 .skip) uJ (rB d) rc K=yT K (fun d=>rc (rB d)) d:=by kernel_rfl
theorem EK {R:Type} (K:Ex→St→Option R) (n:Nat) (d:kH):nY K (n+1) d=yT K (nY K n) d:=by kernel_rfl
theorem EL {R:Type} (K:Ex→St→Option R) (d:kH):nY K 0 d=none:=by kernel_rfl
theorem GZ (x:ck.aH kI) (y:aN.aH kJ):(⟨ck.cz kI x,aN.cz kJ y⟩:St)=rB (yV x y):=by kernel_rfl
theorem G0 {R:Type} (x:ck.aH kI) (y:aN.aH kJ) (K:Ex→St→Option R):xC (cm) x y K=nY K (yU x y) (yV x y):=by kernel_rfl
theorem Jj {R:Type} (other:eJ R) (ho:oa tt (fV (vq fR)) (yu R cm) 0 ((br (bb Tryz.f28)).getD 0 .skip) uJ other):oa tt (fV (vq fR)) (yu R cm) 0 ((br (bb Tryz.f28)).getD 0 .skip) uJ (fQ kI kJ (xC (cm)) other) :=
 gd (A:=nY) ho (jt rB (yT) (nY) (EL) (GY fR cm) (EK)) yU yV GZ (G0)

def yv {R:Type} (fR:oK R) (cm:mX R) (x1:Int) (x2:Int) (k0:iC→Option R):Option R :=
 fR x1 2000000000000001 (fun y3=>fR x2 19 (fun y4=>cm (Int.natAbs (IntKind.i64.wrap (y3 - 1000000000000000))+Int.natAbs (IntKind.i64.wrap (y4 - 9))+iC.fu (⟨0,0⟩:iC)+64) (IntKind.i64.wrap (y3 - 1000000000000000)) (IntKind.i64.wrap (y4 - 9)) (⟨0,0⟩:iC) (fun y9 xD vu=>bif (y9==0)then (k0 (⟨y9,0⟩:iC))else (k0 (⟨y9,xD⟩:iC)))))
def di {R:Type}:jY R:=fun x1 x2 k0=>yv fR cm x1 x2 k0
theorem PL {R:Type} (fR:oK R) (cm:mX R):gR (R:=R) tt (vq fR) (yu R cm) false Tryz.f28 (bb Tryz.f28) EH EI (HV (yv fR cm)):=fun x y k=>by kernel_rfl
theorem Kf (R:Type):∀a∈br (bb Tryz.f28),lM tt (fV (vq fR)) (yu R cm) 0 a:=by
 refine kZ 1 (by kernel_rfl) fun i hi => ?_
 match i,hi with
 | 0,_=>exact fm (by kernel_rfl) (Jj _ ia)
 | n+1,hi=>omega
theorem EM (R:Type):rR Tryz.prog 28 (EJ (di (R:=R))):=cQ TT mixed (Nx (R:=R)) rfl rfl rfl rfl (Kf R) (PL fR cm)

/-! ### humpyard/humpyardlaw02.pick -/
abbrev mN (R:Type):Type:=Int→Int→(Int→Option R)→Option R
abbrev C4:List ck := [.leaf (.int .i64), .leaf (.int .i64)]
abbrev C5:List aN := []
def Gi {R:Type} (fn:mN R):ck.aH C4→aN.aH C5→(V→aG→Option R)→Option R:=fun x y k=>fn x.1 x.2.1 (fun q0=>k (.int .i64 q0) [])
def HW {R:Type} (fn:mN R):aF.Spec R→aF.Spec R:=bj C4 C5 (Gi fn)
def HX {R:Type} (x1:Int) (x2:Int) (k0:Int→Option R):Option R :=
 bif (decide (x1<(0:Int)))then (cw (!decide (x2=0)) (k0 (Int.tmod (IntKind.i64.wrap (0 - (IntKind.i64.wrap (x1+1)))) x2)))else (cw (!decide (x2=0)) (k0 (Int.tmod x1 x2)))
def dG {R:Type}:mN R:=fun x1 x2 k0=>HX x1 x2 k0
theorem Ny {R:Type}:gR (R:=R) tt [] xw false Tryz.f60 (bb Tryz.f60) C4 C5 (Gi HX):=fun x y k=>by kernel_rfl
theorem Kg (R:Type):rR Tryz.prog 60 (HW (dG (R:=R))):=cQ TT mixed .n rfl rfl rfl rfl dV (Ny)

/-! ### humpyard/humpyardlaw02.Text -/
abbrev gu (R:Type):Type:=(List Int)→(aj→Option R)→Option R
abbrev C6:List ck := [.leaf (.sl (.int .i64))]
abbrev C7:List aN := []
def Gj {R:Type} (fn:gu R):ck.aH C6→aN.aH C7→(V→aG→Option R)→Option R:=fun x y k=>fn x.1 (fun q0=>k (.str q0) [])
def C8 {R:Type} (fn:gu R):aF.Spec R→aF.Spec R:=bj C6 C7 (Gj fn)
abbrev l0 (R:Type):Type:=Nat→(List Int)→aj→Int→(aj→Option R)→Option R
def sI {R:Type} (dG:mN R):List (uI R) := [(60,true,(HW dG aZ))]
theorem Ma {R:Type}:eU (R:=R) Tryz.prog (sI dG) := .p (Kg R _ (aK _)) <| .n
def ju {R:Type} (dG:mN R) (fC:(List Int)→aj→Int→Option R) (x2:List Int) (x3:aj) (x4:Int) (e0:aj→Option R):Option R :=
 bif (decide (x4<(x2.length:Int)))then (bif (decide (x4<(200:Int)))then (cw (decide ((0:Int)≤x4)&&decide (x4<x2.length)) (let j16:=fun (Rl:Int)=>bif (decide (Rl≥(55296:Int)))then (bif (decide (Rl≤(57343:Int)))then (cw (decide (x3.length+(nT ([120]:List Int)).length≤9223372036854775807)) (fC x2 (x3++(nT ([120]:List Int))) (IntKind.i64.wrap (x4+1))))else (cw (decide (x3.length+(nT ([(IntKind.i32.wrap Rl)]:List Int)).length≤9223372036854775807)) (fC x2 (x3++(nT ([(IntKind.i32.wrap Rl)]:List Int))) (IntKind.i64.wrap (x4+1)))))else (cw (decide (x3.length+(nT ([(IntKind.i32.wrap Rl)]:List Int)).length≤9223372036854775807)) (fC x2 (x3++(nT ([(IntKind.i32.wrap Rl)]:List Int))) (IntKind.i64.wrap (x4+1)))); dG (x2.getD x4.toNat (Ty.bY (.int .i64))) 5 (fun y6=>let j12:=fun (z7:Bool)=>bif z7 then (dG (IntKind.i64.wrap (Int.tdiv (x2.getD x4.toNat (Ty.bY (.int .i64))) 5)) 128 (fun y8=>j16 y8))else (bif (y6==2)then (dG (IntKind.i64.wrap (Int.tdiv (x2.getD x4.toNat (Ty.bY (.int .i64))) 5)) 2048 (fun y9=>j16 y9))else (bif (y6==3)then (dG (IntKind.i64.wrap (Int.tdiv (x2.getD x4.toNat (Ty.bY (.int .i64))) 5)) 65536 (fun xD=>j16 xD))else (dG (IntKind.i64.wrap (Int.tdiv (x2.getD x4.toNat (Ty.bY (.int .i64))) 5)) 1114112 (fun vu=>j16 vu)))); bif (y6==0)then (j12 (y6==0))else (j12 (y6==1)))))else (e0 x3))else (e0 x3)
def cr {R:Type}:l0 R
 | 0,_,_,_,_=>none
 | n+1,kN,kO,lN,e0=>ju dG (fun kN kO lN=>cr n kN kO lN e0) kN kO lN e0
def sJ:Hint := { live := [0,3,4],own := [],rows := [],cells := [],drop := [],out := [2,3] }
abbrev jv:Type:=(List Int) × aj × Int
def qg:jv→St:=fun d=>⟨.sl (.int .i64) d.1 .no::U 2 (.str d.2.1 :: .int .i64 d.2.2::U 50 ([])), []⟩
def v8 {R:Type} (K:Ex→St→Option R) (q0:aj):Option R:=K (.exit 0) ⟨U 3 (.str q0::U 51 ([])), []⟩
def xE {R:Type} (dG:mN R) (K:Ex→St→Option R) (rc:jv→Option R) (d:jv):Option R:=ju dG (fun z0 z1 z2=>rc (z0,z1,z2)) d.1 d.2.1 d.2.2 (v8 K)
def mY {R:Type} (K:Ex→St→Option R) (n:Nat) (d:jv):Option R:=cr n d.1 d.2.1 d.2.2 (v8 K)
abbrev jx:List ck := .leaf (.sl (.int .i64))::PU 2 (.leaf (.str) :: .leaf (.int .i64)::PU 50 ([]))
abbrev jy:List aN := []
def xF (x:ck.aH jx) (y:aN.aH jy):Nat:=(List.length x.1+List.length x.2.2.2.1+Int.natAbs x.2.2.2.2.1+64)
def xG (x:ck.aH jx) (y:aN.aH jy):jv:=(x.1,x.2.2.2.1,x.2.2.2.2.1)
def wa {R:Type} (L:l0 R):ck.aH jx→aN.aH jy→(Ex→St→Option R)→Option R:=fun x y K=>L (xF x y) x.1 x.2.2.2.1 x.2.2.2.2.1 (v8 K)
def wc (R:Type) (cr:l0 R):Nat→Option (Hint × eJ R):=fun i=>match i with
 | 3=>some (sJ,(fQ jx jy (wa cr) pr))
 | _=>none

theorem FR {R:Type} (dG:mN R) (cr:l0 R) (K:Ex→St→Option R) (rc:St→Option R) (d:jv):roundOf tt (fV (sI dG)) (wc R cr) 0 ((br (bb Tryz.f37)).getD 0 .skip) sJ (qg d) rc K=xE dG K (fun d=>rc (qg d)) d:=by kernel_rfl
theorem D2 {R:Type} (K:Ex→St→Option R) (n:Nat) (d:jv):mY K (n+1) d=xE dG K (mY K n) d:=by kernel_rfl
theorem D3 {R:Type} (K:Ex→St→Option R) (d:jv):mY K 0 d=none:=by kernel_rfl
theorem FT (x:ck.aH jx) (y:aN.aH jy):(⟨ck.cz jx x,aN.cz jy y⟩:St)=qg (xG x y):=by kernel_rfl
theorem FU {R:Type} (x:ck.aH jx) (y:aN.aH jy) (K:Ex→St→Option R):wa (cr) x y K=mY K (xF x y) (xG x y):=by kernel_rfl
theorem HY {R:Type} (other:eJ R) (ho:oa tt (fV (sI dG)) (wc R cr) 0 ((br (bb Tryz.f37)).getD 0 .skip) sJ other):oa tt (fV (sI dG)) (wc R cr) 0 ((br (bb Tryz.f37)).getD 0 .skip) sJ (fQ jx jy (wa (cr)) other) :=
 gd (A:=mY) ho (jt qg (xE dG) (mY) (D3) (FR dG cr) (D2)) xF xG FT (FU)

def HZ {R:Type} (cr:l0 R) (x1:List Int) (k0:aj→Option R):Option R :=
 cr (List.length x1+List.length ([]:aj)+Int.natAbs 0+64) x1 ([]:aj) 0 (fun Hj=>k0 Hj)
def bU {R:Type}:gu R:=fun x1 k0=>HZ cr x1 k0
theorem Nz {R:Type} (dG:mN R) (cr:l0 R):gR (R:=R) tt (sI dG) (wc R cr) false Tryz.f37 (bb Tryz.f37) C6 C7 (Gj (HZ cr)):=fun x y k=>by kernel_rfl
theorem Jk (R:Type):∀a∈br (bb Tryz.f37),lM tt (fV (sI dG)) (wc R cr) 0 a:=by
 refine kZ 1 (by kernel_rfl) fun i hi => ?_
 match i,hi with
 | 0,_=>exact fm (by kernel_rfl) (HY _ ia)
 | n+1,hi=>omega
theorem DQ (R:Type):rR Tryz.prog 37 (C8 (bU (R:=R))):=cQ TT mixed (Ma (R:=R)) rfl rfl rfl rfl (Jk R) (Nz dG cr)

end Go.Proofs.YtmlkkgfenfdndaaGreatDoor

set_option maxRecDepth 100000
namespace Go.Proofs.YtmlkkgfenfdndaaGreatDoor
open Go Go.aF

def Cp (n:Int):Prop := -9223372036854775808≤n∧n≤9223372036854775807
theorem H0 {n:Int}:IntKind.i64.has n↔Cp n:=by
 unfold IntKind.has Cp
 simp only[IntKind.min,IntKind.max,IntKind.bits,IntKind.signed]
 simp

theorem H2 {R:Type} (c n:Int) (hc:Cp c) (h0:0<n) (hn:n≤9223372036854775807):∃r:Int,0≤r∧r<n∧∀k:Int→Option R,
  (bif (decide (c<(0:Int)))then (cw (!decide (n=0)) (k (Int.tmod (IntKind.i64.wrap (0 - (IntKind.i64.wrap (c+1)))) n)))else (cw (!decide (n=0)) (k (Int.tmod c n))))=k r:=by
 obtain ⟨h1,h2⟩:=hc
 have hz:(!decide (n=0))=true:=by simp; omega
 by_cases h:c<0
 ·refine ⟨Int.tmod (0 - (c+1)) n,Int.tmod_nonneg _ (by omega),Int.tmod_lt_of_pos _ h0,fun k => ?_⟩
  have hd:decide (c<(0:Int))=true:=by simpa using h
  rw[hd,cond_true,aL hz,dx (n:=c+1) (by omega) (by omega),dx (by omega) (by omega)]
 ·refine ⟨Int.tmod c n,Int.tmod_nonneg _ (by omega),Int.tmod_lt_of_pos _ h0,fun k => ?_⟩
  have hd:decide (c<(0:Int))=false:=by simpa using h
  rw[hd,cond_false,aL hz]

theorem Mb {R:Type} (c n:Int) (hc:Cp c) (h0:0<n) (hn:n≤9223372036854775807):∃r:Int,0≤r∧r<n∧∀k:Int→Option R,dG c n k=k r:=H2 c n hc h0 hn

theorem On {n:Int} (h1:0≤n) (h2:n<1114112):IntKind.i32.wrap n=n:=by
 simp only[IntKind.wrap,IntKind.bits,IntKind.signed,IntKind.min,IntKind.max]
 simp
 omega

theorem Tp {c:Nat} (hv:vr c):(Utf8.encode (c:Int)).data.toList=enc c:=by
 have jb:=Om hv
 have BK:Utf8.valid (c:Int)=true:=by
  unfold vr at hv
  simp only[Utf8.valid,Bool.or_eq_true,Bool.and_eq_true,decide_eq_true_eq]
  omega
 unfold Utf8.encode
 simp only[BK,if_true,Int.toNat_natCast]
 by_cases h1:c<128
 ·rw[if_pos h1,enc1 h1]
 by_cases h2:c<2048
 ·rw[if_neg h1,if_pos h2,enc2 (by omega) h2]
 by_cases h3:c<65536
 ·rw[if_neg h1,if_neg h2,if_pos h3,enc3 (by omega) h3 hv]
 ·rw[if_neg h1,if_neg h2,if_neg h3,enc4 (by omega) jb]

theorem Mc {c:Nat} (hv:vr c):nT [(c:Int)]=enc c:=by
 unfold nT
 simp only[List.flatMap_cons,List.flatMap_nil,List.append_nil]
 exact Tp hv

theorem Jl (rs:List Nat) (c:Nat):cz (rs ++ [c])=cz rs++enc c:=by simp[cz]

theorem bf {p:Prop} [Decidable p] (h:p):decide p=true:=decide_eq_true h
theorem cI {p:Prop} [Decidable p] (h:¬p):decide p=false:=decide_eq_false h

def C9 (z:Int):Nat:=if 55296≤z∧z≤57343 then 120 else z.toNat
theorem Oo {z:Int} (h0:0≤z) (h1:z<1114112):vr (C9 z):=by unfold C9 vr; split <;> omega

theorem Ze {R:Type} (raw:List Int) (s:aj) (i:Nat) (fC:List Int→aj→Int→Option R) {z:Int} (h0:0≤z) (h1:z<1114112) (hl:s.length≤4*i) (hi:i<200) :
  (bif (decide (z≥(55296:Int)))then (bif (decide (z≤(57343:Int)))then (cw (decide (s.length+(nT ([120]:List Int)).length≤9223372036854775807)) (fC raw (s++(nT ([120]:List Int))) (IntKind.i64.wrap ((i:Int)+1))))else (cw (decide (s.length+(nT ([(IntKind.i32.wrap z)]:List Int)).length≤9223372036854775807)) (fC raw (s++(nT ([(IntKind.i32.wrap z)]:List Int))) (IntKind.i64.wrap ((i:Int)+1)))))else (cw (decide (s.length+(nT ([(IntKind.i32.wrap z)]:List Int)).length≤9223372036854775807)) (fC raw (s++(nT ([(IntKind.i32.wrap z)]:List Int))) (IntKind.i64.wrap ((i:Int)+1))))) =
   fC raw (s++enc (C9 z)) ((i+1:Nat):Int):=by
 have hw:IntKind.i64.wrap ((i:Int)+1)=((i+1:Nat):Int):=by rw[dx (by omega) (by omega)]; omega
 have hv:=Oo h0 h1
 have hle:=zT hv
 by_cases hb:55296≤z∧z≤57343
 ·have e:nT [120]=enc (C9 z):=by unfold C9 at hv ⊢; rw[if_pos hb]at hv ⊢; exact Mc hv
  rw[bf (show z≥55296 from hb.1),cond_true,bf hb.2,cond_true,e,aL (bf (by omega)),hw]
 ·have e:nT [IntKind.i32.wrap z]=enc (C9 z):=by
   unfold C9 at hv ⊢; rw[if_neg hb]at hv ⊢
   rw[←Mc hv,On h0 h1,Int.toNat_of_nonneg h0]
  by_cases hc:z≥55296
  ·rw[bf hc,cond_true,cI (show ¬z≤57343 by omega),cond_false,e,aL (bf (by omega)),hw]
  ·rw[cI hc,cond_false,e,aL (bf (by omega)),hw]

theorem Zf {n k:Int} (h:Cp n) (hk:1<k):Cp (Int.tdiv n k):=by
 have h1:(Int.tdiv n k).natAbs≤n.natAbs:=by rw[Int.natAbs_tdiv]; exact Nat.div_le_self _ _
 have h2:(Int.tdiv n k).natAbs=n.natAbs / k.natAbs:=Int.natAbs_tdiv _ _
 unfold Cp at h ⊢
 have h3:n.natAbs / k.natAbs≤n.natAbs / 2:=Nat.div_le_div_left (by omega) (by omega)
 omega

theorem Wj {R:Type} (raw:List Int) (hraw:∀x∈raw,Cp x):∀(n i:Nat) (rs:List Nat),i≤raw.length→raw.length - i<n→i≤200→(∀c∈rs,vr c)→(cz rs).length≤4*i →
  ∃Wl:List Nat,(∀c∈Wl,vr c)∧(cz Wl).length≤800∧(rs.length≤i→Wl.length≤raw.length)∧∀e0:aj→Option R,cr n raw (cz rs) (i:Int) e0=e0 (cz Wl):=by
 intro n
 induction n with
 | zero=>intro i rs h1 h2; omega
 | succ n ih =>
  intro i rs h1 h2 h3 XD hl
  by_cases hi:i<raw.length
  ·by_cases hi2:i<200
   ·have hx:Cp raw[i]:=hraw _ (List.getElem_mem hi)
    have yR:raw.getD (i:Int).toNat (Ty.bY (.int .i64))=raw[i]:=by simp[List.getD,hi]; rfl
    have key:∀z:Int,0≤z→z<1114112→∃Wl:List Nat,(∀c∈Wl,vr c)∧(cz Wl).length≤800∧(rs.length≤i→Wl.length≤raw.length)∧∀e0:aj→Option R,cr n raw (cz rs++enc (C9 z)) ((i+1:Nat):Int) e0=e0 (cz Wl):=by
     intro z z0 z1
     have hv:=Oo z0 z1
     have hle:=zT hv
     obtain ⟨Wl,q1,q2,qn,q3⟩:=ih (i+1) (rs ++ [C9 z]) (by omega) (by omega) (by omega) (by
      intro c hc
      rcases List.mem_append.1 hc with hc|hc
      ·exact XD c hc
      ·simp at hc; subst hc; exact hv) (by rw[Jl,List.length_append]; omega)
     exact ⟨Wl,q1,q2,fun hn=>qn (by simp; omega),fun e0=>by rw[←q3 e0,Jl]⟩
    -- what is picked
    obtain ⟨y6,UB,y61,py⟩:=Mb (R:=R) raw[i] 5 hx (by omega) (by omega)
    have ht:Cp (IntKind.i64.wrap (Int.tdiv raw[i] 5)):=by
     have:=Zf (k:=5) hx (by omega)
     rw[dx this.1 this.2]; exact this
    obtain ⟨a,a0,a1,pa⟩:=Mb (R:=R) (IntKind.i64.wrap (Int.tdiv raw[i] 5)) 128 ht (by omega) (by omega)
    obtain ⟨b,b0,b1,pb⟩:=Mb (R:=R) (IntKind.i64.wrap (Int.tdiv raw[i] 5)) 2048 ht (by omega) (by omega)
    obtain ⟨d,d0,d1,pd⟩:=Mb (R:=R) (IntKind.i64.wrap (Int.tdiv raw[i] 5)) 65536 ht (by omega) (by omega)
    obtain ⟨f,f0,f1,pf⟩:=Mb (R:=R) (IntKind.i64.wrap (Int.tdiv raw[i] 5)) 1114112 ht (by omega) (by omega)
    obtain ⟨Wl,q1,q2,qn,q3⟩:=key (if y6=0∨y6=1 then a else if y6=2 then b else if y6=3 then d else f) (by split; omega; split; omega; split <;> omega) (by split; omega; split; omega; split <;> omega)
    refine ⟨Wl,q1,q2,qn,fun e0 => ?_⟩
    rw[←q3 e0]
    show ju dG _ raw (cz rs) (i:Int) e0=_
    unfold ju
    rw[bf (show (i:Int)<(raw.length:Int) by omega),cond_true,bf (show (i:Int)<200 by omega),cond_true,bf (show (0:Int)≤(i:Int) by omega)]
    rw[aL (by rfl)]
    simp only[yR,py,pa,pb,pd,pf]
    have add:=fun (z:Int) (z0:0≤z) (z1:z<1114112)=>Ze raw (cz rs) i (fun kN kO lN=>cr (R:=R) n kN kO lN e0) z0 z1 hl hi2
    by_cases c0:y6=0
    ·rw[if_pos (.inl c0)]
     have e0':(y6==0)=true:=by simp[c0]
     rw[e0',cond_true,cond_true]
     exact add a a0 (by omega)
    ·have e0':(y6==0)=false:=by simp[c0]
     rw[e0',cond_false]
     by_cases c1:y6=1
     ·rw[if_pos (.inr c1)]
      have Ug:(y6==1)=true:=by simp[c1]
      rw[Ug,cond_true]
      exact add a a0 (by omega)
     ·have Ug:(y6==1)=false:=by simp[c1]
      rw[Ug,cond_false,if_neg (by omega)]
      by_cases c2:y6=2
      ·have e2':(y6==2)=true:=by simp[c2]
       rw[e2',cond_true,if_pos c2]
       exact add b b0 (by omega)
      ·have e2':(y6==2)=false:=by simp[c2]
       rw[e2',cond_false,if_neg c2]
       by_cases c3:y6=3
       ·have e3':(y6==3)=true:=by simp[c3]
        rw[e3',cond_true,if_pos c3]
        exact add d d0 (by omega)
       ·have e3':(y6==3)=false:=by simp[c3]
        rw[e3',cond_false,if_neg c3]
        exact add f f0 (by omega)
   ·refine ⟨rs,XD,by omega,fun _=>by omega,fun e0 => ?_⟩
    show ju dG _ raw (cz rs) (i:Int) e0=_
    unfold ju
    rw[bf (show (i:Int)<(raw.length:Int) by omega),cond_true,cI (show ¬(i:Int)<200 by omega),cond_false]
  ·refine ⟨rs,XD,by omega,fun _=>by omega,fun e0 => ?_⟩
   show ju dG _ raw (cz rs) (i:Int) e0=_
   unfold ju
   rw[cI (show ¬(i:Int)<(raw.length:Int) by omega),cond_false]

theorem Rm {R:Type} (raw:List Int) (hraw:∀x∈raw,Cp x):∃rs:List Nat,(∀c∈rs,vr c)∧(cz rs).length≤800∧rs.length≤raw.length∧∀k:aj→Option R,bU raw k=k (cz rs):=by
 obtain ⟨rs,h1,h2,h4,h3⟩:=Wj (R:=R) raw hraw (List.length raw+List.length ([]:aj)+Int.natAbs 0+64) 0 [] (by omega) (by omega) (by omega) (by simp) (by simp[cz])
 exact ⟨rs,h1,h2,h4 (by simp),fun k=>h3 _⟩
end Go.Proofs.YtmlkkgfenfdndaaGreatDoor

/-
 Functions of the program as pure Lean functions, and the ties; printed by wip/tools/emit.py.
-/
set_option maxRecDepth 100000
namespace Go.Proofs.YtmlkkgfenfdndaaGreatDoor
open Go Go.aF

/-! ### humpyard/json.bare -/
abbrev sK (R:Type):Type:=Json→(Json→Option R)→Option R
abbrev EN:List ck := [.agg [.int .i64, .int .i64, .int .i64, .str, .sl .str, .sl .json]]
abbrev EO:List aN := []
def H3 {R:Type} (fn:sK R):ck.aH EN→aN.aH EO→(V→aG→Option R)→Option R:=fun x y k=>fn (⟨x.1.1,⟨x.1.2.1,x.1.2.2.1⟩,x.1.2.2.2.1,x.1.2.2.2.2.1,x.1.2.2.2.2.2.1⟩:Json) (fun q0=>k (.agg [.int .i64 q0.kind, .int .i64 q0.num.aB, .int .i64 q0.num.exp, .str q0.text, .sl .str q0.names .no, .sl .json q0.items .no]) [])
def JU {R:Type} (fn:sK R):aF.Spec R→aF.Spec R:=bj EN EO (H3 fn)
def Bx {R:Type} (x1:Json) (k0:Json→Option R):Option R :=
 bif (x1.kind==4)then (k0 (⟨x1.kind,⟨0,0⟩,x1.text,x1.names,x1.items⟩:Json))else (bif (x1.kind==5)then (k0 (⟨x1.kind,⟨x1.num.aB,x1.num.exp⟩,([]:aj),x1.names,x1.items⟩:Json))else (bif (x1.kind==7)then (k0 (⟨x1.kind,⟨x1.num.aB,x1.num.exp⟩,x1.text,([]:List aj),([]:List Json)⟩:Json))else (bif (x1.kind==6)then (k0 (⟨x1.kind,⟨x1.num.aB,x1.num.exp⟩,x1.text,x1.names,([]:List Json)⟩:Json))else (k0 (⟨x1.kind,⟨x1.num.aB,x1.num.exp⟩,x1.text,x1.names,x1.items⟩:Json)))))
def mZ {R:Type}:sK R:=fun x1 k0=>Bx x1 k0
theorem PM {R:Type}:gR (R:=R) tt [] xw false Tryz.f77 (bb Tryz.f77) EN EO (H3 Bx):=fun x y k=>by kernel_rfl
theorem Md (R:Type):rR Tryz.prog 77 (JU (mZ (R:=R))):=cQ TT mixed .n rfl rfl rfl rfl dV (PM)

/-! ### humpyard/decimal.within[int] -/
abbrev eF (R:Type):Type:=Int→Int→Int→(Bool→Option R)→Option R
abbrev sb:List ck := [.leaf (.int .i64), .leaf (.int .i64), .leaf (.int .i64)]
abbrev sc:List aN := []
def xg {R:Type} (fn:eF R):ck.aH sb→aN.aH sc→(V→aG→Option R)→Option R:=fun x y k=>fn x.1 x.2.1 x.2.2.1 (fun q0=>k (.bool q0) [])
def sd {R:Type} (fn:eF R):aF.Spec R→aF.Spec R:=bj sb sc (xg fn)
def oc {R:Type} (x1:Int) (x2:Int) (x3:Int) (k0:Bool→Option R):Option R :=
 bif (decide (x1≤x2))then (k0 (decide (x2≤x3)))else (k0 false)
def aW {R:Type}:eF R:=fun x1 x2 x3 k0=>oc x1 x2 x3 k0
theorem D4 {R:Type}:gR (R:=R) tt [] xw false Tryz.f91 (bb Tryz.f91) sb sc (xg oc):=fun x y k=>by kernel_rfl
theorem vv (R:Type):rR Tryz.prog 91 (sd (aW (R:=R))):=cQ TT mixed .n rfl rfl rfl rfl dV (D4)

/-! ### humpyard/decimal.Right -/
abbrev ib (R:Type):Type:=iC→(Bool→Option R)→Option R
abbrev yW:List ck := [.agg [.int .i64, .int .i64]]
abbrev yX:List aN := []
def Cq {R:Type} (fn:ib R):ck.aH yW→aN.aH yX→(V→aG→Option R)→Option R:=fun x y k=>fn (⟨x.1.1,x.1.2.1⟩:iC) (fun q0=>k (.bool q0) [])
def yY {R:Type} (fn:ib R):aF.Spec R→aF.Spec R:=bj yW yX (Cq fn)
def DR {R:Type} (aW:eF R):List (uI R) := [(91,true,(sd aW aZ))]
theorem H4 {R:Type}:eU (R:=R) Tryz.prog (DR aW) := .p (vv R _ (aK _)) <| .n
def kK {R:Type} (aW:eF R) (x1:iC) (k0:Bool→Option R):Option R :=
 bif (x1.aB==0)then (k0 (x1.exp==0))else (bif ((Int.tmod x1.aB 10) != 0)then (aW (-1000000000000000) x1.aB 1000000000000000 (fun y2=>bif y2 then (aW (-9) x1.exp 9 (fun y3=>k0 y3))else (k0 false)))else (k0 false))
def cj {R:Type}:ib R:=fun x1 k0=>kK aW x1 k0
theorem Jm {R:Type} (aW:eF R):gR (R:=R) tt (DR aW) xw false Tryz.f65 (bb Tryz.f65) yW yX (Cq (kK aW)):=fun x y k=>by kernel_rfl
theorem AL (R:Type):rR Tryz.prog 65 (yY (cj (R:=R))):=cQ TT mixed (H4 (R:=R)) rfl rfl rfl rfl dV (Jm aW)

/-! ### humpyard/quote.Whole -/
abbrev eW (R:Type):Type:=aj→(Bool→Option R)→Option R
abbrev BL:List ck := [.leaf (.str)]
abbrev BM:List aN := []
def EP {R:Type} (fn:eW R):ck.aH BL→aN.aH BM→(V→aG→Option R)→Option R:=fun x y k=>fn x.1 (fun q0=>k (.bool q0) [])
def yi {R:Type} (fn:eW R):aF.Spec R→aF.Spec R:=bj BL BM (EP fn)
def Gk {R:Type}:List (uI R) := [(72,true,(PG R))]
theorem Kh {R:Type}:eU (R:=R) Tryz.prog (Gk (R:=R)) := .p (Y9) <| .n
def Gl {R:Type} (x1:aj) (k0:Bool→Option R):Option R :=
 k0 (gE x1)
def bp {R:Type}:eW R:=fun x1 k0=>Gl x1 k0
theorem Me {R:Type}:gR (R:=R) tt (Gk (R:=R)) xw false Tryz.f49 (bb Tryz.f49) BL BM (EP Gl):=fun x y k=>by kernel_rfl
theorem xH (R:Type):rR Tryz.prog 49 (yi (bp (R:=R))):=cQ TT mixed (Kh (R:=R)) rfl rfl rfl rfl dV (Me)

/-! ### humpyard/json.unique -/
abbrev pw (R:Type):Type:=(List aj)→(Bool→Option R)→Option R
abbrev BN:List ck := [.leaf (.sl .str)]
abbrev BO:List aN := []
def ER {R:Type} (fn:pw R):ck.aH BN→aN.aH BO→(V→aG→Option R)→Option R:=fun x y k=>fn x.1 (fun q0=>k (.bool q0) [])
def Gm {R:Type} (fn:pw R):aF.Spec R→aF.Spec R:=bj BN BO (ER fn)
abbrev k9 (R:Type):Type:=Nat→(List aj)→Int→Int→(List (aj × Bool))→(Option R)→(Bool→Option R)→Option R
def qR {R:Type} (bp:eW R):List (uI R) := [(49,true,(yi bp aZ))]
theorem Ki {R:Type}:eU (R:=R) Tryz.prog (qR bp) := .p (xH R _ (aK _)) <| .n
def rC {R:Type} (bp:eW R) (fC:(List aj)→Int→Int→(List (aj × Bool))→Option R) (x2:List aj) (x3:Int) (x4:Int) (x5:List (aj × Bool)) (e0:Option R) (e1:Bool→Option R):Option R :=
 bif (decide (x4<x3))then (cw (decide ((0:Int)≤x4)&&decide (x4<x2.length)) (bif (mw .str .bool (x2.getD x4.toNat (Ty.bY .str)) x5)then (e1 false)else (bp (x2.getD x4.toNat (Ty.bY .str)) (fun y6=>bif (!y6)then (e1 false)else (fC x2 x3 (IntKind.i64.wrap (x4+1)) (vT .str .bool (x2.getD x4.toNat (Ty.bY .str)) true x5))))))else (e0)
def cq {R:Type}:k9 R
 | 0,_,_,_,_,_,_=>none
 | n+1,kN,kO,lN,th,e0,e1=>rC bp (fun kN kO lN th=>cq n kN kO lN th e0 e1) kN kO lN th e0 e1
def rD:Hint := { live := [3,7,8,9],own := [],rows := [],cells := [],drop := [],out := [2] }
abbrev iL:Type:=(List aj) × Int × Int × (List (aj × Bool))
def ph:iL→St:=fun d=>⟨U 3 (.map 0::U 3 (.sl .str d.1 .no :: .int .i64 d.2.1 :: .int .i64 d.2.2.1::U 14 ([]))), [.uO .str .bool d.2.2.2]⟩
def uS {R:Type} (K:Ex→St→Option R):Option R:=K (.exit 0) ⟨U 24 ([]), []⟩
def uT {R:Type} (K:Ex→St→Option R) (q0:Bool):Option R:=K (.ret) ⟨U 2 (.bool q0::U 21 ([])), []⟩
def wg {R:Type} (bp:eW R) (K:Ex→St→Option R) (rc:iL→Option R) (d:iL):Option R:=rC bp (fun z0 z1 z2 z3=>rc (z0,z1,z2,z3)) d.1 d.2.1 d.2.2.1 d.2.2.2 (uS K) (uT K)
def l7 {R:Type} (K:Ex→St→Option R) (n:Nat) (d:iL):Option R:=cq n d.1 d.2.1 d.2.2.1 d.2.2.2 (uS K) (uT K)
abbrev iM:List ck:=PU 3 (.leaf (.map 0)::PU 3 (.leaf (.sl .str) :: .leaf (.int .i64) :: .leaf (.int .i64)::PU 14 ([])))
abbrev iN:List aN := [.uO .str .bool]
def wh (x:ck.aH iM) (y:aN.aH iN):Nat:=(List.length x.2.2.2.2.2.2.2.1+Int.natAbs x.2.2.2.2.2.2.2.2.1+Int.natAbs x.2.2.2.2.2.2.2.2.2.1+List.length y.1+64)
def wi (x:ck.aH iM) (y:aN.aH iN):iL:=(x.2.2.2.2.2.2.2.1,x.2.2.2.2.2.2.2.2.1,x.2.2.2.2.2.2.2.2.2.1,y.1)
def uU {R:Type} (L:k9 R):ck.aH iM→aN.aH iN→(Ex→St→Option R)→Option R:=fun x y K=>L (wh x y) x.2.2.2.2.2.2.2.1 x.2.2.2.2.2.2.2.2.1 x.2.2.2.2.2.2.2.2.2.1 y.1 (uS K) (uT K)
def tW (R:Type) (cq:k9 R):Nat→Option (Hint × eJ R):=fun i=>match i with
 | 3=>some (rD,(fQ iM iN (uU cq) pr))
 | _=>none

theorem ES {R:Type} (bp:eW R) (cq:k9 R) (K:Ex→St→Option R) (rc:St→Option R) (d:iL):roundOf tt (fV (qR bp)) (tW R cq) 0 ((br (bb Tryz.f78)).getD 0 .skip) rD (ph d) rc K=wg bp K (fun d=>rc (ph d)) d:=by kernel_rfl
theorem Da {R:Type} (K:Ex→St→Option R) (n:Nat) (d:iL):l7 K (n+1) d=wg bp K (l7 K n) d:=by kernel_rfl
theorem Db {R:Type} (K:Ex→St→Option R) (d:iL):l7 K 0 d=none:=by kernel_rfl
theorem ET (x:ck.aH iM) (y:aN.aH iN):(⟨ck.cz iM x,aN.cz iN y⟩:St)=ph (wi x y):=by kernel_rfl
theorem EU {R:Type} (x:ck.aH iM) (y:aN.aH iN) (K:Ex→St→Option R):uU (cq) x y K=l7 K (wh x y) (wi x y):=by kernel_rfl
theorem G1 {R:Type} (other:eJ R) (ho:oa tt (fV (qR bp)) (tW R cq) 0 ((br (bb Tryz.f78)).getD 0 .skip) rD other):oa tt (fV (qR bp)) (tW R cq) 0 ((br (bb Tryz.f78)).getD 0 .skip) rD (fQ iM iN (uU (cq)) other) :=
 gd (A:=l7) ho (jt ph (wg bp) (l7) (Db) (ES bp cq) (Da)) wh wi ET (EU)

def Gn {R:Type} (cq:k9 R) (x1:List aj) (k0:Bool→Option R):Option R :=
 cq (List.length x1+Int.natAbs (x1.length:Int)+Int.natAbs 0+List.length ([]:List (aj × Bool))+64) x1 (x1.length:Int) 0 ([]:List (aj × Bool)) (k0 true) (fun y8=>k0 y8)
def iO {R:Type}:pw R:=fun x1 k0=>Gn cq x1 k0
theorem Mf {R:Type} (bp:eW R) (cq:k9 R):gR (R:=R) tt (qR bp) (tW R cq) false Tryz.f78 (bb Tryz.f78) BN BO (ER (Gn cq)):=fun x y k=>by kernel_rfl
theorem H5 (R:Type):∀a∈br (bb Tryz.f78),lM tt (fV (qR bp)) (tW R cq) 0 a:=by
 refine kZ 1 (by kernel_rfl) fun i hi => ?_
 match i,hi with
 | 0,_=>exact fm (by kernel_rfl) (G1 _ ia)
 | n+1,hi=>omega
theorem Jn (R:Type):rR Tryz.prog 78 (Gm (iO (R:=R))):=cQ TT mixed (Ki (R:=R)) rfl rfl rfl rfl (H5 R) (Mf bp cq)

/-! ### humpyard/json.right -/
abbrev bT (R:Type):Type:=Json→Int→(Bool→Option R)→Option R
abbrev gg:List ck := [.agg [.int .i64, .int .i64, .int .i64, .str, .sl .str, .sl .json], .leaf (.int .i64)]
abbrev gh:List aN := []
def eG {R:Type} (fn:bT R):ck.aH gg→aN.aH gh→(V→aG→Option R)→Option R:=fun x y k=>fn (⟨x.1.1,⟨x.1.2.1,x.1.2.2.1⟩,x.1.2.2.2.1,x.1.2.2.2.2.1,x.1.2.2.2.2.2.1⟩:Json) x.2.1 (fun q0=>k (.bool q0) [])
def H6 {R:Type} (fn:bT R):aF.Spec R→aF.Spec R:=bj gg gh (eG fn)
/-! ### humpyard/json.right$1 -/
abbrev fY (R:Type):Type:=Json→Int→(Bool→Int→Option R)→Option R
abbrev ti:List ck := [.agg [.int .i64, .int .i64, .int .i64, .str, .sl .str, .sl .json], .leaf (.ptr 0 0)]
abbrev tj:List aN := [.cells [.int .i64]]
def yw {R:Type} (fn:fY R):ck.aH ti→aN.aH tj→(V→aG→Option R)→Option R:=fun x y k=>fn (⟨x.1.1,⟨x.1.2.1,x.1.2.2.1⟩,x.1.2.2.2.1,x.1.2.2.2.2.1,x.1.2.2.2.2.2.1⟩:Json) y.1.1 (fun q0 q1=>k (.bool q0) [.cells [.int .i64 q1]])
def zy {R:Type} (fn:fY R):aF.Spec R→aF.Spec R:=bj ti tj (yw fn)
def zz {R:Type} (ao:bT R):List (uI R) := [(56,true,(bj gg gh (eG ao) aZ))]
theorem D5 {R:Type} (ao:bT R) (eg:aF.Spec.Ok Tryz.prog 56 (bj gg gh (eG ao) aZ)):eU (R:=R) Tryz.prog (zz ao) := .p eg <| .n
def pj {R:Type} (ao:bT R) (x1:Json) (x2:Int) (k0:Bool→Int→Option R):Option R :=
 ao (⟨x1.kind,⟨x1.num.aB,x1.num.exp⟩,x1.text,x1.names,x1.items⟩:Json) (IntKind.i64.wrap (x2+1)) (fun y3=>k0 (!y3) x2)
def bV {R:Type} (ao:bT R):fY R:=fun x1 x2 k0=>pj ao x1 x2 k0
theorem EV {R:Type} (ao:bT R):gR (R:=R) tt (zz ao) xw false Tryz.f80 (bb Tryz.f80) ti tj (yw (pj ao)):=fun x y k=>by kernel_rfl
theorem Dc (R:Type) (ao:bT R) (eg:aF.Spec.Ok Tryz.prog 56 (bj gg gh (eG ao) aZ)):rR Tryz.prog 80 (zy (bV ao)):=cQ TT mixed (D5 ao eg) rfl rfl rfl rfl dV (EV ao)

/-! ### slices.IndexFunc[[]humpyard/api.Json,humpyard/api.Json] -/
abbrev dX (R:Type):Type:=(List Json)→Int→(Int→Int→Option R)→Option R
abbrev jZ:List ck := [.leaf (.sl .json), .func 80 [] [.ptr 0 0]]
abbrev j0:List aN := [.cells [.int .i64]]
def nL {R:Type} (fn:dX R):ck.aH jZ→aN.aH j0→(V→aG→Option R)→Option R:=fun x y k=>fn x.1 y.1.1 (fun q0 q1=>k (.int .i64 q0) [.cells [.int .i64 q1]])
def od {R:Type} (fn:dX R):aF.Spec R→aF.Spec R:=bj jZ j0 (nL fn)
abbrev dC (R:Type):Type:=Nat→(List Json)→Int→Int→Int→(Int→Option R)→(Int→Int→Option R)→Option R
def ew {R:Type} (bV:fY R):List (uI R) := [(80,false,(zy bV aZ))]
theorem uV {R:Type} (ao:bT R) (eg:aF.Spec.Ok Tryz.prog 56 (bj gg gh (eG ao) aZ)):eU (R:=R) Tryz.prog (ew (bV ao)) := .f (Dc R ao eg _ (aK _)) rfl <| .n
def fN {R:Type} (bV:fY R) (fC:(List Json)→Int→Int→Int→Option R) (x3:List Json) (x4:Int) (x5:Int) (x6:Int) (e0:Int→Option R) (e1:Int→Int→Option R):Option R :=
 bif (decide (x5<x4))then (cw (decide ((0:Int)≤x5)&&decide (x5<x3.length)) (bV (⟨(x3.getD x5.toNat (Ty.bY .json)).kind,⟨(x3.getD x5.toNat (Ty.bY .json)).num.aB,(x3.getD x5.toNat (Ty.bY .json)).num.exp⟩,(x3.getD x5.toNat (Ty.bY .json)).text,(x3.getD x5.toNat (Ty.bY .json)).names,(x3.getD x5.toNat (Ty.bY .json)).items⟩:Json) x6 (fun y7 y8=>bif y7 then (e1 x5 y8)else (fC x3 x4 (IntKind.i64.wrap (x5+1)) y8))))else (e0 x6)
def aJ {R:Type} (ao:bT R):dC R
 | 0,_,_,_,_,_,_=>none
 | n+1,kN,kO,lN,th,e0,e1=>fN (bV ao) (fun kN kO lN th=>aJ ao n kN kO lN th e0 e1) kN kO lN th e0 e1
def fO:Hint := { live := [0,1,7,8],own := [],rows := [],cells := [],drop := [],out := [4] }
abbrev cA:Type:=(List Json) × Int × Int × Int
def fo:cA→St:=fun d=>⟨.sl .json d.1 .no :: .func 80 [] [.ptr 0 0]::U 5 (.int .i64 d.2.1 :: .int .i64 d.2.2.1::U 10 ([])), [.cells [.int .i64 d.2.2.2]]⟩
def ic {R:Type} (K:Ex→St→Option R) (q0:Int):Option R:=K (.exit 0) ⟨U 19 ([]), [.cells [.int .i64 q0]]⟩
def ie {R:Type} (K:Ex→St→Option R) (q0:Int) (q1:Int):Option R:=K (.ret) ⟨U 4 (.int .i64 q0::U 14 ([])), [.cells [.int .i64 q1]]⟩
def iE {R:Type} (bV:fY R) (K:Ex→St→Option R) (rc:cA→Option R) (d:cA):Option R:=fN bV (fun z0 z1 z2 z3=>rc (z0,z1,z2,z3)) d.1 d.2.1 d.2.2.1 d.2.2.2 (ic K) (ie K)
def dJ {R:Type} (ao:bT R) (K:Ex→St→Option R) (n:Nat) (d:cA):Option R:=aJ ao n d.1 d.2.1 d.2.2.1 d.2.2.2 (ic K) (ie K)
abbrev cB:List ck := .leaf (.sl .json) :: .func 80 [] [.ptr 0 0]::PU 5 (.leaf (.int .i64) :: .leaf (.int .i64)::PU 10 ([]))
abbrev cC:List aN := [.cells [.int .i64]]
def iF (x:ck.aH cB) (y:aN.aH cC):Nat:=(List.length x.1+Int.natAbs x.2.2.2.2.2.2.2.1+Int.natAbs x.2.2.2.2.2.2.2.2.1+Int.natAbs y.1.1+64)
def iG (x:ck.aH cB) (y:aN.aH cC):cA:=(x.1,x.2.2.2.2.2.2.2.1,x.2.2.2.2.2.2.2.2.1,y.1.1)
def ig {R:Type} (L:dC R):ck.aH cB→aN.aH cC→(Ex→St→Option R)→Option R:=fun x y K=>L (iF x y) x.1 x.2.2.2.2.2.2.2.1 x.2.2.2.2.2.2.2.2.1 y.1.1 (ic K) (ie K)
def fp (R:Type) (aJ:dC R):Nat→Option (Hint × eJ R):=fun i=>match i with
 | 2=>some (fO,(fQ cB cC (ig aJ) pr))
 | _=>none

theorem rS {R:Type} (bV:fY R) (aJ:dC R) (K:Ex→St→Option R) (rc:St→Option R) (d:cA):roundOf tt (fV (ew bV)) (fp R aJ) 1 ((br (bb Tryz.f116)).getD 0 .skip) fO (fo d) rc K=iE bV K (fun d=>rc (fo d)) d:=by kernel_rfl
theorem qD {R:Type} (ao:bT R) (K:Ex→St→Option R) (n:Nat) (d:cA):dJ ao K (n+1) d=iE (bV ao) K (dJ ao K n) d:=by kernel_rfl
theorem qE {R:Type} (ao:bT R) (K:Ex→St→Option R) (d:cA):dJ ao K 0 d=none:=by kernel_rfl
theorem rT (x:ck.aH cB) (y:aN.aH cC):(⟨ck.cz cB x,aN.cz cC y⟩:St)=fo (iG x y):=by kernel_rfl
theorem rU {R:Type} (ao:bT R) (x:ck.aH cB) (y:aN.aH cC) (K:Ex→St→Option R):ig (aJ ao) x y K=dJ ao K (iF x y) (iG x y):=by kernel_rfl
theorem sL {R:Type} (ao:bT R) (other:eJ R) (ho:oa tt (fV (ew (bV ao))) (fp R (aJ ao)) 1 ((br (bb Tryz.f116)).getD 0 .skip) fO other):oa tt (fV (ew (bV ao))) (fp R (aJ ao)) 1 ((br (bb Tryz.f116)).getD 0 .skip) fO (fQ cB cC (ig (aJ ao)) other) :=
 gd (A:=dJ ao) ho (jt fo (iE (bV ao)) (dJ ao) (qE ao) (rS (bV ao) (aJ ao)) (qD ao)) iF iG rT (rU ao)

def oe {R:Type} (aJ:dC R) (x1:List Json) (x2:Int) (k0:Int→Int→Option R):Option R :=
 aJ (List.length x1+Int.natAbs (x1.length:Int)+Int.natAbs 0+Int.natAbs x2+64) x1 (x1.length:Int) 0 x2 (fun y9=>k0 (-1) y9) (fun xD vu=>k0 xD vu)
def cp {R:Type} (ao:bT R):dX R:=fun x1 x2 k0=>oe (aJ ao) x1 x2 k0
theorem vI {R:Type} (bV:fY R) (aJ:dC R):gR (R:=R) tt (ew bV) (fp R aJ) false Tryz.f116 (bb Tryz.f116) jZ j0 (nL (oe aJ)):=fun x y k=>by kernel_rfl
theorem tm (R:Type) (ao:bT R) (eg:aF.Spec.Ok Tryz.prog 56 (bj gg gh (eG ao) aZ)):∀a∈br (bb Tryz.f116),lM tt (fV (ew (bV ao))) (fp R (aJ ao)) 1 a:=by
 refine kZ 1 (by kernel_rfl) fun i hi => ?_
 match i,hi with
 | 0,_=>exact fm (by kernel_rfl) (sL ao _ ia)
 | n+1,hi=>omega
theorem tX (R:Type) (ao:bT R) (eg:aF.Spec.Ok Tryz.prog 56 (bj gg gh (eG ao) aZ)):rR Tryz.prog 116 (od (cp ao)):=cQ TT mixed (uV ao eg) rfl rfl rfl rfl (tm R ao eg) (vI (bV ao) (aJ ao))

/-! ### slices.ContainsFunc[[]humpyard/api.Json,humpyard/api.Json] -/
abbrev dK (R:Type):Type:=(List Json)→Int→(Bool→Int→Option R)→Option R
abbrev iW:List ck := [.leaf (.sl .json), .func 80 [] [.ptr 0 0]]
abbrev iX:List aN := [.cells [.int .i64]]
def mr {R:Type} (fn:dK R):ck.aH iW→aN.aH iX→(V→aG→Option R)→Option R:=fun x y k=>fn x.1 y.1.1 (fun q0 q1=>k (.bool q0) [.cells [.int .i64 q1]])
def mO {R:Type} (fn:dK R):aF.Spec R→aF.Spec R:=bj iW iX (mr fn)
def mP {R:Type} (cp:dX R):List (uI R) := [(116,false,(od cp aZ))]
theorem sM {R:Type} (ao:bT R) (eg:aF.Spec.Ok Tryz.prog 56 (bj gg gh (eG ao) aZ)):eU (R:=R) Tryz.prog (mP (cp ao)) := .f (tX R ao eg _ (aK _)) rfl <| .n
def mQ {R:Type} (cp:dX R) (x1:List Json) (x2:Int) (k0:Bool→Int→Option R):Option R :=
 cp x1 x2 (fun y3 y4=>k0 (decide (y3≥(0:Int))) y4)
def aO {R:Type} (ao:bT R):dK R:=fun x1 x2 k0=>mQ (cp ao) x1 x2 k0
theorem tp {R:Type} (cp:dX R):gR (R:=R) tt (mP cp) xw false Tryz.f79 (bb Tryz.f79) iW iX (mr (mQ cp)):=fun x y k=>by kernel_rfl
theorem se (R:Type) (ao:bT R) (eg:aF.Spec.Ok Tryz.prog 56 (bj gg gh (eG ao) aZ)):rR Tryz.prog 79 (mO (aO ao)):=cQ TT mixed (sM ao eg) rfl rfl rfl rfl dV (tp (cp ao))

def H7 {R:Type} (bp:eW R) (cj:ib R) (mZ:sK R) (iO:pw R) (aO:dK R):List (uI R) := [(49,true,(yi bp aZ)),(65,true,(yY cj aZ)),(77,true,(JU mZ aZ)),(78,true,(Gm iO aZ)),(79,false,(mO aO aZ))]
theorem Mg {R:Type} (ao:bT R) (eg:aF.Spec.Ok Tryz.prog 56 (bj gg gh (eG ao) aZ)):eU (R:=R) Tryz.prog (H7 bp cj mZ iO (aO ao)) := .p (xH R _ (aK _)) <| .p (AL R _ (aK _)) <| .p (Md R _ (aK _)) <| .p (Jn R _ (aK _)) <| .f (se R ao eg _ (aK _)) rfl <| .n
def zU {R:Type} (bp:eW R) (cj:ib R) (mZ:sK R) (iO:pw R) (aO:dK R) (x1:Json) (x2:Int) (k0:Bool→Option R):Option R :=
 mZ (⟨x1.kind,⟨x1.num.aB,x1.num.exp⟩,x1.text,x1.names,x1.items⟩:Json) (fun y3=>bif (decide (x2>(16:Int)))then (k0 false)else (bif (decide (x1.kind<(1:Int)))then (k0 false)else (bif (decide (x1.kind>(7:Int)))then (k0 false)else (bif (!(y3.num.aB==0&&(y3.num.exp==0&&true)))then (k0 false)else (bif (!(y3.text==([]:aj)))then (k0 false)else (bif (decide ((IntKind.i64.wrap ((y3.names.length:Int)+(y3.items.length:Int)))>(0:Int)))then (k0 false)else (bif (x1.kind==4)then (cj x1.num (fun y5=>k0 y5))else (bif (x1.kind==5)then (bp x1.text (fun y6=>k0 y6))else (bif (x1.kind==7)then (bif ((x1.names.length:Int) != (x1.items.length:Int))then (k0 false)else (iO x1.names (fun y7=>bif (!y7)then (k0 false)else (aO x1.items x2 (fun vu yx=>k0 (!vu))))))else (aO x1.items x2 (fun DS zA=>k0 (!DS))))))))))))
def Dd {R:Type} (ao:bT R):bT R:=fun x1 x2 k0=>zU bp cj mZ iO (aO ao) x1 x2 k0
theorem NA {R:Type} (bp:eW R) (cj:ib R) (mZ:sK R) (iO:pw R) (aO:dK R):gR (R:=R) tt (H7 bp cj mZ iO aO) xw false Tryz.f56 (bb Tryz.f56) gg gh (eG (zU bp cj mZ iO aO)):=fun x y k=>by kernel_rfl
theorem Jo (R:Type) (ao:bT R) (eg:aF.Spec.Ok Tryz.prog 56 (bj gg gh (eG ao) aZ)):rR Tryz.prog 56 (H6 (Dd ao)):=cQ TT mixed (Mg ao eg) rfl rfl rfl rfl dV (NA bp cj mZ iO (aO ao))
def eT {R:Type}:Nat→bT R
 | 0,_,_,_=>none
 | n+1,kN,kO,k0'=>Dd (eT n) kN kO k0'
theorem UC {R:Type} (n:Nat):eT (R:=R) (n+1)=Dd (eT n):=by kernel_rfl
theorem Kj (R:Type):∀n,aF.Spec.Ok Tryz.prog 56 (bj gg gh (eG (eT (R:=R) n)) aZ) :=
 vp (run:=fun n=>eG (eT (R:=R) n)) (fun x y k=>by kernel_rfl) fun n hyp=>Jo R (eT n) hyp aZ (aK _)
def la {R:Type}:bT R:=fun x1 x2 k0=>eT (Json.depth x1+2) x1 x2 k0
theorem Kk (R:Type):eG (R:=R) la=fun x y k=>eG (eT (Json.depth (⟨x.1.1,⟨x.1.2.1,x.1.2.2.1⟩,x.1.2.2.2.1,x.1.2.2.2.2.1,x.1.2.2.2.2.2.1⟩:Json)+2)) x y k:=by kernel_rfl
theorem Kl (R:Type) (other:aF.Spec R) (ho:aF.Spec.Ok Tryz.prog 56 other):aF.Spec.Ok Tryz.prog 56 (bj gg gh (eG la) other) :=
 AK (Cl (run:=fun n=>eG (eT (R:=R) n)) (fun x y=>(Json.depth (⟨x.1.1,⟨x.1.2.1,x.1.2.2.1⟩,x.1.2.2.2.1,x.1.2.2.2.2.1,x.1.2.2.2.2.2.1⟩:Json)+2)) ho (Kj R)) (Kk R)

/-! ### humpyard/json.Right -/
abbrev qS (R:Type):Type:=Json→(Bool→Option R)→Option R
abbrev De:List ck := [.agg [.int .i64, .int .i64, .int .i64, .str, .sl .str, .sl .json]]
abbrev Df:List aN := []
def Gp {R:Type} (fn:qS R):ck.aH De→aN.aH Df→(V→aG→Option R)→Option R:=fun x y k=>fn (⟨x.1.1,⟨x.1.2.1,x.1.2.2.1⟩,x.1.2.2.2.1,x.1.2.2.2.2.1,x.1.2.2.2.2.2.1⟩:Json) (fun q0=>k (.bool q0) [])
def H8 {R:Type} (fn:qS R):aF.Spec R→aF.Spec R:=bj De Df (Gp fn)
def H9 {R:Type} (la:bT R):List (uI R) := [(56,true,(H6 la aZ))]
theorem Mh {R:Type}:eU (R:=R) Tryz.prog (H9 la) := .p (Kl R _ (aK _)) <| .n
def zV {R:Type} (la:bT R) (x1:Json) (k0:Bool→Option R):Option R :=
 la (⟨x1.kind,⟨x1.num.aB,x1.num.exp⟩,x1.text,x1.names,x1.items⟩:Json) 1 (fun y2=>k0 y2)
def j1 {R:Type}:qS R:=fun x1 k0=>zV la x1 k0
theorem NB {R:Type} (la:bT R):gR (R:=R) tt (H9 la) xw false Tryz.f32 (bb Tryz.f32) De Df (Gp (zV la)):=fun x y k=>by kernel_rfl
theorem Km (R:Type):rR Tryz.prog 32 (H8 (j1 (R:=R))):=cQ TT mixed (Mh (R:=R)) rfl rfl rfl rfl dV (NB la)

end Go.Proofs.YtmlkkgfenfdndaaGreatDoor

/-
 Functions of the program as pure Lean functions, and the ties; printed by wip/tools/emit.py.
-/
set_option maxRecDepth 100000
namespace Go.Proofs.YtmlkkgfenfdndaaGreatDoor
open Go Go.aF

/-! ### (*strings.Builder).WriteString -/
abbrev bw (R:Type):Type:=aj→(Int→(List Int)→Option R)→Option R
abbrev jh:List ck := [.leaf (.ptr 0 0), .leaf (.str)]
abbrev ji:List aN := [.lW (.cM)]
def mR {R:Type} (fn:bw R):ck.aH jh→aN.aH ji→(V→aG→Option R)→Option R:=fun x y k=>fn x.2.1 (fun q0 q1=>k (.tuple [.int .i64 q0, .dv]) [.lW (.sl (.int .u8) q1 (.own 1)), .tok])
def gi {R:Type} (fn:bw R):aF.Spec R→aF.Spec R:=bj jh ji (mR fn)
def nk {R:Type}:List (uI R) := [(73,false,(JQ R))]
theorem tq {R:Type}:eU (R:=R) Tryz.prog (nk (R:=R)) := .f (L9) rfl <| .n
def np {R:Type} (x1:aj) (k0:Int→(List Int)→Option R):Option R :=
 cw (decide ((0+(gD x1).length)*1≤140737488355328)) (k0 (x1.length:Int) (gD x1))
def ag {R:Type}:bw R:=fun x1 k0=>np x1 k0
theorem tY {R:Type}:gR (R:=R) tt (nk (R:=R)) xw false Tryz.f52 (bb Tryz.f52) jh ji (mR np):=fun x y k=>by kernel_rfl
theorem ij (R:Type):rR Tryz.prog 52 (gi (ag (R:=R))):=cQ TT mixed (tq (R:=R)) rfl rfl rfl rfl dV (tY)

/-! ### (*strings.Builder).WriteByte -/
abbrev bt (R:Type):Type:=Int→((List Int)→Option R)→Option R
abbrev j2:List ck := [.leaf (.ptr 0 0), .leaf (.int .u8)]
abbrev j4:List aN := [.lW (.cM)]
def nM {R:Type} (fn:bt R):ck.aH j2→aN.aH j4→(V→aG→Option R)→Option R:=fun x y k=>fn x.2.1 (fun q0=>k (.dv) [.lW (.sl (.int .u8) q0 (.own 1)), .tok])
def gH {R:Type} (fn:bt R):aF.Spec R→aF.Spec R:=bj j2 j4 (nM fn)
def og {R:Type}:List (uI R) := [(73,false,(JQ R))]
theorem uW {R:Type}:eU (R:=R) Tryz.prog (og (R:=R)) := .f (L9) rfl <| .n
def oh {R:Type} (x1:Int) (k0:(List Int)→Option R):Option R :=
 k0 ([x1]:List Int)
def ah {R:Type}:bt R:=fun x1 k0=>oh x1 k0
theorem vJ {R:Type}:gR (R:=R) tt (og (R:=R)) xw false Tryz.f50 (bb Tryz.f50) j2 j4 (nM oh):=fun x y k=>by kernel_rfl
theorem iY (R:Type):rR Tryz.prog 50 (gH (ah (R:=R))):=cQ TT mixed (uW (R:=R)) rfl rfl rfl rfl dV (vJ)

/-! ### (*strings.Builder).WriteString -/
abbrev aV (R:Type):Type:=aj→(List Int)→(Int→(List Int)→Option R)→Option R
abbrev jj:List ck := [.leaf (.ptr 0 0), .leaf (.str)]
abbrev jk:List aN := [.lW (.M8 (.int .u8) 1), .tok]
def mS {R:Type} (fn:aV R):ck.aH jj→aN.aH jk→(V→aG→Option R)→Option R:=fun x y k=>fn x.2.1 y.1 (fun q0 q1=>k (.tuple [.int .i64 q0, .dv]) [.lW (.sl (.int .u8) q1 (.own 2)), .dead, .tok])
def eX {R:Type} (fn:aV R):aF.Spec R→aF.Spec R:=bj jj jk (mS fn)
def nq {R:Type}:List (uI R) := [(73,false,(JQ R))]
theorem tu {R:Type}:eU (R:=R) Tryz.prog (nq (R:=R)) := .f (L9) rfl <| .n
def nr {R:Type} (x1:aj) (x2:List Int) (k0:Int→(List Int)→Option R):Option R :=
 cw (decide ((x2.length+(gD x1).length)*1≤140737488355328)) (k0 (x1.length:Int) ((x2:List Int)++((gD x1):List Int)))
def ae {R:Type}:aV R:=fun x1 x2 k0=>nr x1 x2 k0
theorem tZ {R:Type}:gR (R:=R) tt (nq (R:=R)) xw false Tryz.f52 (bb Tryz.f52) jj jk (mS nr):=fun x y k=>by kernel_rfl
theorem fF (R:Type):rR Tryz.prog 52 (eX (ae (R:=R))):=cQ TT mixed (tu (R:=R)) rfl rfl rfl rfl dV (tZ)

/-! ### humpyard/decimal.Print -/
abbrev ez (R:Type):Type:=iC→(aj→Option R)→Option R
abbrev yZ:List ck := [.agg [.int .i64, .int .i64]]
abbrev za:List aN := []
def Cr {R:Type} (fn:ez R):ck.aH yZ→aN.aH za→(V→aG→Option R)→Option R:=fun x y k=>fn (⟨x.1.1,x.1.2.1⟩:iC) (fun q0=>k (.str q0) [])
def uK {R:Type} (fn:ez R):aF.Spec R→aF.Spec R:=bj yZ za (Cr fn)
def DT {R:Type} (cj:ib R) (ah:bt R) (ae:aV R) (ag:bw R):List (uI R) := [(65,true,(yY cj aZ)),(50,false,(gH ah aZ)),(52,false,(gi ag (eX ae aZ))),(39,false,(CZ R)),(66,true,(Ti R)),(67,true,(Y4 R))]
theorem Ia {R:Type}:eU (R:=R) Tryz.prog (DT cj ah ae ag) := .p (AL R _ (aK _)) <| .f (iY R _ (aK _)) rfl <| .f (ij R _ (fF R _ (aK _))) rfl <| .s (KS) FE <| .p (itoa_ok) <| .p (rep_ok) <| .n
def nZ {R:Type} (cj:ib R) (ah:bt R) (ae:aV R) (ag:bw R) (x1:iC) (k0:aj→Option R):Option R :=
 cj x1 (fun y2=>bif (!y2)then (k0 ([]:aj))else (bif (decide (x1.aB<(0:Int)))then (ah 45 (fun y3=>bif (decide (x1.exp≥(0:Int)))then (cw (decide (0≤x1.exp)&&decide ((([48]:aj).length:Int)*x1.exp≤140737488355328)) (cw (decide ((cn (max x1.aB (IntKind.i64.wrap (0 - x1.aB)))).length+(kG ([48]:aj) x1.exp).length≤9223372036854775807)) (ae ((cn (max x1.aB (IntKind.i64.wrap (0 - x1.aB))))++(kG ([48]:aj) x1.exp)) y3 (fun y4 y5=>k0 (r9 y5)))))else (cw (decide (0≤(max 0 (IntKind.i64.wrap ((IntKind.i64.wrap (1 - x1.exp)) - ((cn (max x1.aB (IntKind.i64.wrap (0 - x1.aB)))).length:Int)))))&&decide ((([48]:aj).length:Int)*(max 0 (IntKind.i64.wrap ((IntKind.i64.wrap (1 - x1.exp)) - ((cn (max x1.aB (IntKind.i64.wrap (0 - x1.aB)))).length:Int))))≤140737488355328)) (cw (decide ((kG ([48]:aj) (max 0 (IntKind.i64.wrap ((IntKind.i64.wrap (1 - x1.exp)) - ((cn (max x1.aB (IntKind.i64.wrap (0 - x1.aB)))).length:Int))))).length+(cn (max x1.aB (IntKind.i64.wrap (0 - x1.aB)))).length≤9223372036854775807)) (cw (decide ((0:Int)≤(IntKind.i64.wrap ((((kG ([48]:aj) (max 0 (IntKind.i64.wrap ((IntKind.i64.wrap (1 - x1.exp)) - ((cn (max x1.aB (IntKind.i64.wrap (0 - x1.aB)))).length:Int)))))++(cn (max x1.aB (IntKind.i64.wrap (0 - x1.aB))))).length:Int)+x1.exp)))&&decide ((IntKind.i64.wrap ((((kG ([48]:aj) (max 0 (IntKind.i64.wrap ((IntKind.i64.wrap (1 - x1.exp)) - ((cn (max x1.aB (IntKind.i64.wrap (0 - x1.aB)))).length:Int)))))++(cn (max x1.aB (IntKind.i64.wrap (0 - x1.aB))))).length:Int)+x1.exp))≤((kG ([48]:aj) (max 0 (IntKind.i64.wrap ((IntKind.i64.wrap (1 - x1.exp)) - ((cn (max x1.aB (IntKind.i64.wrap (0 - x1.aB)))).length:Int)))))++(cn (max x1.aB (IntKind.i64.wrap (0 - x1.aB))))).length)) (cw (decide ((0:Int)≤(IntKind.i64.wrap ((((kG ([48]:aj) (max 0 (IntKind.i64.wrap ((IntKind.i64.wrap (1 - x1.exp)) - ((cn (max x1.aB (IntKind.i64.wrap (0 - x1.aB)))).length:Int)))))++(cn (max x1.aB (IntKind.i64.wrap (0 - x1.aB))))).length:Int)+x1.exp)))) (cw (decide (((((kG ([48]:aj) (max 0 (IntKind.i64.wrap ((IntKind.i64.wrap (1 - x1.exp)) - ((cn (max x1.aB (IntKind.i64.wrap (0 - x1.aB)))).length:Int)))))++(cn (max x1.aB (IntKind.i64.wrap (0 - x1.aB))))).drop 0).take ((IntKind.i64.wrap ((((kG ([48]:aj) (max 0 (IntKind.i64.wrap ((IntKind.i64.wrap (1 - x1.exp)) - ((cn (max x1.aB (IntKind.i64.wrap (0 - x1.aB)))).length:Int)))))++(cn (max x1.aB (IntKind.i64.wrap (0 - x1.aB))))).length:Int)+x1.exp)).toNat - 0)).length+1≤9223372036854775807)) (cw (decide ((0:Int)≤(((kG ([48]:aj) (max 0 (IntKind.i64.wrap ((IntKind.i64.wrap (1 - x1.exp)) - ((cn (max x1.aB (IntKind.i64.wrap (0 - x1.aB)))).length:Int)))))++(cn (max x1.aB (IntKind.i64.wrap (0 - x1.aB))))).length:Int))&&decide ((((kG ([48]:aj) (max 0 (IntKind.i64.wrap ((IntKind.i64.wrap (1 - x1.exp)) - ((cn (max x1.aB (IntKind.i64.wrap (0 - x1.aB)))).length:Int)))))++(cn (max x1.aB (IntKind.i64.wrap (0 - x1.aB))))).length:Int)≤((kG ([48]:aj) (max 0 (IntKind.i64.wrap ((IntKind.i64.wrap (1 - x1.exp)) - ((cn (max x1.aB (IntKind.i64.wrap (0 - x1.aB)))).length:Int)))))++(cn (max x1.aB (IntKind.i64.wrap (0 - x1.aB))))).length)) (cw (decide ((0:Int)≤(IntKind.i64.wrap ((((kG ([48]:aj) (max 0 (IntKind.i64.wrap ((IntKind.i64.wrap (1 - x1.exp)) - ((cn (max x1.aB (IntKind.i64.wrap (0 - x1.aB)))).length:Int)))))++(cn (max x1.aB (IntKind.i64.wrap (0 - x1.aB))))).length:Int)+x1.exp)))&&decide ((IntKind.i64.wrap ((((kG ([48]:aj) (max 0 (IntKind.i64.wrap ((IntKind.i64.wrap (1 - x1.exp)) - ((cn (max x1.aB (IntKind.i64.wrap (0 - x1.aB)))).length:Int)))))++(cn (max x1.aB (IntKind.i64.wrap (0 - x1.aB))))).length:Int)+x1.exp))≤(((kG ([48]:aj) (max 0 (IntKind.i64.wrap ((IntKind.i64.wrap (1 - x1.exp)) - ((cn (max x1.aB (IntKind.i64.wrap (0 - x1.aB)))).length:Int)))))++(cn (max x1.aB (IntKind.i64.wrap (0 - x1.aB))))).length:Int))) (cw (decide ((((((kG ([48]:aj) (max 0 (IntKind.i64.wrap ((IntKind.i64.wrap (1 - x1.exp)) - ((cn (max x1.aB (IntKind.i64.wrap (0 - x1.aB)))).length:Int)))))++(cn (max x1.aB (IntKind.i64.wrap (0 - x1.aB))))).drop 0).take ((IntKind.i64.wrap ((((kG ([48]:aj) (max 0 (IntKind.i64.wrap ((IntKind.i64.wrap (1 - x1.exp)) - ((cn (max x1.aB (IntKind.i64.wrap (0 - x1.aB)))).length:Int)))))++(cn (max x1.aB (IntKind.i64.wrap (0 - x1.aB))))).length:Int)+x1.exp)).toNat - 0))++([46]:aj)).length+((((kG ([48]:aj) (max 0 (IntKind.i64.wrap ((IntKind.i64.wrap (1 - x1.exp)) - ((cn (max x1.aB (IntKind.i64.wrap (0 - x1.aB)))).length:Int)))))++(cn (max x1.aB (IntKind.i64.wrap (0 - x1.aB))))).drop (IntKind.i64.wrap ((((kG ([48]:aj) (max 0 (IntKind.i64.wrap ((IntKind.i64.wrap (1 - x1.exp)) - ((cn (max x1.aB (IntKind.i64.wrap (0 - x1.aB)))).length:Int)))))++(cn (max x1.aB (IntKind.i64.wrap (0 - x1.aB))))).length:Int)+x1.exp)).toNat).take ((((kG ([48]:aj) (max 0 (IntKind.i64.wrap ((IntKind.i64.wrap (1 - x1.exp)) - ((cn (max x1.aB (IntKind.i64.wrap (0 - x1.aB)))).length:Int)))))++(cn (max x1.aB (IntKind.i64.wrap (0 - x1.aB))))).length:Int).toNat - (IntKind.i64.wrap ((((kG ([48]:aj) (max 0 (IntKind.i64.wrap ((IntKind.i64.wrap (1 - x1.exp)) - ((cn (max x1.aB (IntKind.i64.wrap (0 - x1.aB)))).length:Int)))))++(cn (max x1.aB (IntKind.i64.wrap (0 - x1.aB))))).length:Int)+x1.exp)).toNat)).length≤9223372036854775807)) (ae ((((((kG ([48]:aj) (max 0 (IntKind.i64.wrap ((IntKind.i64.wrap (1 - x1.exp)) - ((cn (max x1.aB (IntKind.i64.wrap (0 - x1.aB)))).length:Int)))))++(cn (max x1.aB (IntKind.i64.wrap (0 - x1.aB))))).drop 0).take ((IntKind.i64.wrap ((((kG ([48]:aj) (max 0 (IntKind.i64.wrap ((IntKind.i64.wrap (1 - x1.exp)) - ((cn (max x1.aB (IntKind.i64.wrap (0 - x1.aB)))).length:Int)))))++(cn (max x1.aB (IntKind.i64.wrap (0 - x1.aB))))).length:Int)+x1.exp)).toNat - 0))++([46]:aj))++((((kG ([48]:aj) (max 0 (IntKind.i64.wrap ((IntKind.i64.wrap (1 - x1.exp)) - ((cn (max x1.aB (IntKind.i64.wrap (0 - x1.aB)))).length:Int)))))++(cn (max x1.aB (IntKind.i64.wrap (0 - x1.aB))))).drop (IntKind.i64.wrap ((((kG ([48]:aj) (max 0 (IntKind.i64.wrap ((IntKind.i64.wrap (1 - x1.exp)) - ((cn (max x1.aB (IntKind.i64.wrap (0 - x1.aB)))).length:Int)))))++(cn (max x1.aB (IntKind.i64.wrap (0 - x1.aB))))).length:Int)+x1.exp)).toNat).take ((((kG ([48]:aj) (max 0 (IntKind.i64.wrap ((IntKind.i64.wrap (1 - x1.exp)) - ((cn (max x1.aB (IntKind.i64.wrap (0 - x1.aB)))).length:Int)))))++(cn (max x1.aB (IntKind.i64.wrap (0 - x1.aB))))).length:Int).toNat - (IntKind.i64.wrap ((((kG ([48]:aj) (max 0 (IntKind.i64.wrap ((IntKind.i64.wrap (1 - x1.exp)) - ((cn (max x1.aB (IntKind.i64.wrap (0 - x1.aB)))).length:Int)))))++(cn (max x1.aB (IntKind.i64.wrap (0 - x1.aB))))).length:Int)+x1.exp)).toNat))) y3 (fun y6 y7=>k0 (r9 y7)))))))))))))else (bif (decide (x1.exp≥(0:Int)))then (cw (decide (0≤x1.exp)&&decide ((([48]:aj).length:Int)*x1.exp≤140737488355328)) (cw (decide ((cn (max x1.aB (IntKind.i64.wrap (0 - x1.aB)))).length+(kG ([48]:aj) x1.exp).length≤9223372036854775807)) (ag ((cn (max x1.aB (IntKind.i64.wrap (0 - x1.aB))))++(kG ([48]:aj) x1.exp)) (fun y8 y9=>k0 (r9 y9)))))else (cw (decide (0≤(max 0 (IntKind.i64.wrap ((IntKind.i64.wrap (1 - x1.exp)) - ((cn (max x1.aB (IntKind.i64.wrap (0 - x1.aB)))).length:Int)))))&&decide ((([48]:aj).length:Int)*(max 0 (IntKind.i64.wrap ((IntKind.i64.wrap (1 - x1.exp)) - ((cn (max x1.aB (IntKind.i64.wrap (0 - x1.aB)))).length:Int))))≤140737488355328)) (cw (decide ((kG ([48]:aj) (max 0 (IntKind.i64.wrap ((IntKind.i64.wrap (1 - x1.exp)) - ((cn (max x1.aB (IntKind.i64.wrap (0 - x1.aB)))).length:Int))))).length+(cn (max x1.aB (IntKind.i64.wrap (0 - x1.aB)))).length≤9223372036854775807)) (cw (decide ((0:Int)≤(IntKind.i64.wrap ((((kG ([48]:aj) (max 0 (IntKind.i64.wrap ((IntKind.i64.wrap (1 - x1.exp)) - ((cn (max x1.aB (IntKind.i64.wrap (0 - x1.aB)))).length:Int)))))++(cn (max x1.aB (IntKind.i64.wrap (0 - x1.aB))))).length:Int)+x1.exp)))&&decide ((IntKind.i64.wrap ((((kG ([48]:aj) (max 0 (IntKind.i64.wrap ((IntKind.i64.wrap (1 - x1.exp)) - ((cn (max x1.aB (IntKind.i64.wrap (0 - x1.aB)))).length:Int)))))++(cn (max x1.aB (IntKind.i64.wrap (0 - x1.aB))))).length:Int)+x1.exp))≤((kG ([48]:aj) (max 0 (IntKind.i64.wrap ((IntKind.i64.wrap (1 - x1.exp)) - ((cn (max x1.aB (IntKind.i64.wrap (0 - x1.aB)))).length:Int)))))++(cn (max x1.aB (IntKind.i64.wrap (0 - x1.aB))))).length)) (cw (decide ((0:Int)≤(IntKind.i64.wrap ((((kG ([48]:aj) (max 0 (IntKind.i64.wrap ((IntKind.i64.wrap (1 - x1.exp)) - ((cn (max x1.aB (IntKind.i64.wrap (0 - x1.aB)))).length:Int)))))++(cn (max x1.aB (IntKind.i64.wrap (0 - x1.aB))))).length:Int)+x1.exp)))) (cw (decide (((((kG ([48]:aj) (max 0 (IntKind.i64.wrap ((IntKind.i64.wrap (1 - x1.exp)) - ((cn (max x1.aB (IntKind.i64.wrap (0 - x1.aB)))).length:Int)))))++(cn (max x1.aB (IntKind.i64.wrap (0 - x1.aB))))).drop 0).take ((IntKind.i64.wrap ((((kG ([48]:aj) (max 0 (IntKind.i64.wrap ((IntKind.i64.wrap (1 - x1.exp)) - ((cn (max x1.aB (IntKind.i64.wrap (0 - x1.aB)))).length:Int)))))++(cn (max x1.aB (IntKind.i64.wrap (0 - x1.aB))))).length:Int)+x1.exp)).toNat - 0)).length+1≤9223372036854775807)) (cw (decide ((0:Int)≤(((kG ([48]:aj) (max 0 (IntKind.i64.wrap ((IntKind.i64.wrap (1 - x1.exp)) - ((cn (max x1.aB (IntKind.i64.wrap (0 - x1.aB)))).length:Int)))))++(cn (max x1.aB (IntKind.i64.wrap (0 - x1.aB))))).length:Int))&&decide ((((kG ([48]:aj) (max 0 (IntKind.i64.wrap ((IntKind.i64.wrap (1 - x1.exp)) - ((cn (max x1.aB (IntKind.i64.wrap (0 - x1.aB)))).length:Int)))))++(cn (max x1.aB (IntKind.i64.wrap (0 - x1.aB))))).length:Int)≤((kG ([48]:aj) (max 0 (IntKind.i64.wrap ((IntKind.i64.wrap (1 - x1.exp)) - ((cn (max x1.aB (IntKind.i64.wrap (0 - x1.aB)))).length:Int)))))++(cn (max x1.aB (IntKind.i64.wrap (0 - x1.aB))))).length)) (cw (decide ((0:Int)≤(IntKind.i64.wrap ((((kG ([48]:aj) (max 0 (IntKind.i64.wrap ((IntKind.i64.wrap (1 - x1.exp)) - ((cn (max x1.aB (IntKind.i64.wrap (0 - x1.aB)))).length:Int)))))++(cn (max x1.aB (IntKind.i64.wrap (0 - x1.aB))))).length:Int)+x1.exp)))&&decide ((IntKind.i64.wrap ((((kG ([48]:aj) (max 0 (IntKind.i64.wrap ((IntKind.i64.wrap (1 - x1.exp)) - ((cn (max x1.aB (IntKind.i64.wrap (0 - x1.aB)))).length:Int)))))++(cn (max x1.aB (IntKind.i64.wrap (0 - x1.aB))))).length:Int)+x1.exp))≤(((kG ([48]:aj) (max 0 (IntKind.i64.wrap ((IntKind.i64.wrap (1 - x1.exp)) - ((cn (max x1.aB (IntKind.i64.wrap (0 - x1.aB)))).length:Int)))))++(cn (max x1.aB (IntKind.i64.wrap (0 - x1.aB))))).length:Int))) (cw (decide ((((((kG ([48]:aj) (max 0 (IntKind.i64.wrap ((IntKind.i64.wrap (1 - x1.exp)) - ((cn (max x1.aB (IntKind.i64.wrap (0 - x1.aB)))).length:Int)))))++(cn (max x1.aB (IntKind.i64.wrap (0 - x1.aB))))).drop 0).take ((IntKind.i64.wrap ((((kG ([48]:aj) (max 0 (IntKind.i64.wrap ((IntKind.i64.wrap (1 - x1.exp)) - ((cn (max x1.aB (IntKind.i64.wrap (0 - x1.aB)))).length:Int)))))++(cn (max x1.aB (IntKind.i64.wrap (0 - x1.aB))))).length:Int)+x1.exp)).toNat - 0))++([46]:aj)).length+((((kG ([48]:aj) (max 0 (IntKind.i64.wrap ((IntKind.i64.wrap (1 - x1.exp)) - ((cn (max x1.aB (IntKind.i64.wrap (0 - x1.aB)))).length:Int)))))++(cn (max x1.aB (IntKind.i64.wrap (0 - x1.aB))))).drop (IntKind.i64.wrap ((((kG ([48]:aj) (max 0 (IntKind.i64.wrap ((IntKind.i64.wrap (1 - x1.exp)) - ((cn (max x1.aB (IntKind.i64.wrap (0 - x1.aB)))).length:Int)))))++(cn (max x1.aB (IntKind.i64.wrap (0 - x1.aB))))).length:Int)+x1.exp)).toNat).take ((((kG ([48]:aj) (max 0 (IntKind.i64.wrap ((IntKind.i64.wrap (1 - x1.exp)) - ((cn (max x1.aB (IntKind.i64.wrap (0 - x1.aB)))).length:Int)))))++(cn (max x1.aB (IntKind.i64.wrap (0 - x1.aB))))).length:Int).toNat - (IntKind.i64.wrap ((((kG ([48]:aj) (max 0 (IntKind.i64.wrap ((IntKind.i64.wrap (1 - x1.exp)) - ((cn (max x1.aB (IntKind.i64.wrap (0 - x1.aB)))).length:Int)))))++(cn (max x1.aB (IntKind.i64.wrap (0 - x1.aB))))).length:Int)+x1.exp)).toNat)).length≤9223372036854775807)) (ag ((((((kG ([48]:aj) (max 0 (IntKind.i64.wrap ((IntKind.i64.wrap (1 - x1.exp)) - ((cn (max x1.aB (IntKind.i64.wrap (0 - x1.aB)))).length:Int)))))++(cn (max x1.aB (IntKind.i64.wrap (0 - x1.aB))))).drop 0).take ((IntKind.i64.wrap ((((kG ([48]:aj) (max 0 (IntKind.i64.wrap ((IntKind.i64.wrap (1 - x1.exp)) - ((cn (max x1.aB (IntKind.i64.wrap (0 - x1.aB)))).length:Int)))))++(cn (max x1.aB (IntKind.i64.wrap (0 - x1.aB))))).length:Int)+x1.exp)).toNat - 0))++([46]:aj))++((((kG ([48]:aj) (max 0 (IntKind.i64.wrap ((IntKind.i64.wrap (1 - x1.exp)) - ((cn (max x1.aB (IntKind.i64.wrap (0 - x1.aB)))).length:Int)))))++(cn (max x1.aB (IntKind.i64.wrap (0 - x1.aB))))).drop (IntKind.i64.wrap ((((kG ([48]:aj) (max 0 (IntKind.i64.wrap ((IntKind.i64.wrap (1 - x1.exp)) - ((cn (max x1.aB (IntKind.i64.wrap (0 - x1.aB)))).length:Int)))))++(cn (max x1.aB (IntKind.i64.wrap (0 - x1.aB))))).length:Int)+x1.exp)).toNat).take ((((kG ([48]:aj) (max 0 (IntKind.i64.wrap ((IntKind.i64.wrap (1 - x1.exp)) - ((cn (max x1.aB (IntKind.i64.wrap (0 - x1.aB)))).length:Int)))))++(cn (max x1.aB (IntKind.i64.wrap (0 - x1.aB))))).length:Int).toNat - (IntKind.i64.wrap ((((kG ([48]:aj) (max 0 (IntKind.i64.wrap ((IntKind.i64.wrap (1 - x1.exp)) - ((cn (max x1.aB (IntKind.i64.wrap (0 - x1.aB)))).length:Int)))))++(cn (max x1.aB (IntKind.i64.wrap (0 - x1.aB))))).length:Int)+x1.exp)).toNat))) (fun xD vu=>k0 (r9 vu))))))))))))))
def bc {R:Type}:ez R:=fun x1 k0=>nZ cj ah ae ag x1 k0
theorem Jp {R:Type} (cj:ib R) (ah:bt R) (ae:aV R) (ag:bw R):gR (R:=R) tt (DT cj ah ae ag) xw false Tryz.f46 (bb Tryz.f46) yZ za (Cr (nZ cj ah ae ag)):=fun x y k=>by kernel_rfl
theorem uX (R:Type):rR Tryz.prog 46 (uK (bc (R:=R))):=cQ TT mixed (Ia (R:=R)) rfl rfl rfl rfl dV (Jp cj ah ae ag)

/-! ### humpyard/quote.short -/
abbrev lO (R:Type):Type:=Int→(Int→Option R)→Option R
abbrev BP:List ck := [.leaf (.int .i32)]
abbrev BQ:List aN := []
def EW {R:Type} (fn:lO R):ck.aH BP→aN.aH BQ→(V→aG→Option R)→Option R:=fun x y k=>fn x.1 (fun q0=>k (.int .u8 q0) [])
def Gq {R:Type} (fn:lO R):aF.Spec R→aF.Spec R:=bj BP BQ (EW fn)
def yj {R:Type} (x1:Int) (k0:Int→Option R):Option R :=
 bif (x1==34)then (bif (x1==34)then (k0 (IntKind.u8.wrap x1))else (bif (x1==8)then (k0 98)else (bif (x1==12)then (k0 102)else (bif (x1==10)then (k0 110)else (bif (x1==13)then (k0 114)else (bif (x1==9)then (k0 116)else (k0 0)))))))else (bif (x1==92)then (k0 (IntKind.u8.wrap x1))else (bif (x1==8)then (k0 98)else (bif (x1==12)then (k0 102)else (bif (x1==10)then (k0 110)else (bif (x1==13)then (k0 114)else (bif (x1==9)then (k0 116)else (k0 0)))))))
def dM {R:Type}:lO R:=fun x1 k0=>yj x1 k0
theorem Mi {R:Type}:gR (R:=R) tt [] xw false Tryz.f51 (bb Tryz.f51) BP BQ (EW yj):=fun x y k=>by kernel_rfl
theorem Jq (R:Type):rR Tryz.prog 51 (Gq (dM (R:=R))):=cQ TT mixed .n rfl rfl rfl rfl dV (Mi)

/-! ### (*strings.Builder).WriteByte -/
abbrev aP (R:Type):Type:=Int→(List Int)→((List Int)→Option R)→Option R
abbrev j7:List ck := [.leaf (.ptr 0 0), .leaf (.int .u8)]
abbrev j8:List aN := [.lW (.M8 (.int .u8) 1), .tok]
def nN {R:Type} (fn:aP R):ck.aH j7→aN.aH j8→(V→aG→Option R)→Option R:=fun x y k=>fn x.2.1 y.1 (fun q0=>k (.dv) [.lW (.sl (.int .u8) q0 (.own 2)), .dead, .tok])
def gI {R:Type} (fn:aP R):aF.Spec R→aF.Spec R:=bj j7 j8 (nN fn)
def oi {R:Type}:List (uI R) := [(73,false,(JQ R))]
theorem uY {R:Type}:eU (R:=R) Tryz.prog (oi (R:=R)) := .f (L9) rfl <| .n
def oj {R:Type} (x1:Int) (x2:List Int) (k0:(List Int)→Option R):Option R :=
 cw (decide ((x2.length+1)*1≤140737488355328)) (k0 ((x2:List Int)++(([x1]:List Int):List Int)))
def ad {R:Type}:aP R:=fun x1 x2 k0=>oj x1 x2 k0
theorem vK {R:Type}:gR (R:=R) tt (oi (R:=R)) xw false Tryz.f50 (bb Tryz.f50) j7 j8 (nN oj):=fun x y k=>by kernel_rfl
theorem iZ (R:Type):rR Tryz.prog 50 (gI (ad (R:=R))):=cQ TT mixed (uY (R:=R)) rfl rfl rfl rfl dV (vK)

/-! ### unicode/utf8.appendRuneNonASCII -/
abbrev du (R:Type):Type:=(List Int)→Int→((List Int)→Option R)→Option R
abbrev hG:List ck := [.leaf (.M8 (.int .u8) 0), .leaf (.int .i32)]
abbrev hJ:List aN := [.tok]
def lz {R:Type} (fn:du R):ck.aH hG→aN.aH hJ→(V→aG→Option R)→Option R:=fun x y k=>fn x.1 x.2.1 (fun q0=>k (.sl (.int .u8) q0 (.own 1)) [.dead, .tok])
def lP {R:Type} (fn:du R):aF.Spec R→aF.Spec R:=bj hG hJ (lz fn)
def fq {R:Type} (x1:List Int) (x2:Int) (k0:(List Int)→Option R):Option R :=
 bif (decide ((IntKind.u32.wrap x2)≤(2047:Int)))then (cw (decide ((x1.length+2)*1≤140737488355328)) (k0 ((x1:List Int)++(([(IntKind.u8.wrap ((BitVec.ofInt IntKind.u8.bits 192 ||| BitVec.ofInt IntKind.u8.bits (IntKind.u8.wrap (Int.fdiv x2 (2 ^ (min 6 IntKind.i32.bits))))).toNat:Int)),(IntKind.u8.wrap ((BitVec.ofInt IntKind.u8.bits 128 ||| BitVec.ofInt IntKind.u8.bits (IntKind.u8.wrap ((BitVec.ofInt IntKind.u8.bits (IntKind.u8.wrap x2) &&& BitVec.ofInt IntKind.u8.bits 63).toNat:Int))).toNat:Int))]:List Int):List Int))))else (let j6:=fun (z3:Bool)=>bif z3 then (cw (decide ((x1.length+3)*1≤140737488355328)) (k0 ((x1:List Int)++(([(IntKind.u8.wrap ((BitVec.ofInt IntKind.u8.bits 224 ||| BitVec.ofInt IntKind.u8.bits (IntKind.u8.wrap (Int.fdiv x2 (2 ^ (min 12 IntKind.i32.bits))))).toNat:Int)),(IntKind.u8.wrap ((BitVec.ofInt IntKind.u8.bits 128 ||| BitVec.ofInt IntKind.u8.bits (IntKind.u8.wrap ((BitVec.ofInt IntKind.u8.bits (IntKind.u8.wrap (Int.fdiv x2 (2 ^ (min 6 IntKind.i32.bits)))) &&& BitVec.ofInt IntKind.u8.bits 63).toNat:Int))).toNat:Int)),(IntKind.u8.wrap ((BitVec.ofInt IntKind.u8.bits 128 ||| BitVec.ofInt IntKind.u8.bits (IntKind.u8.wrap ((BitVec.ofInt IntKind.u8.bits (IntKind.u8.wrap x2) &&& BitVec.ofInt IntKind.u8.bits 63).toNat:Int))).toNat:Int))]:List Int):List Int))))else (let j5:=fun (z4:Bool)=>bif z4 then (cw (decide ((x1.length+4)*1≤140737488355328)) (k0 ((x1:List Int)++(([(IntKind.u8.wrap ((BitVec.ofInt IntKind.u8.bits 240 ||| BitVec.ofInt IntKind.u8.bits (IntKind.u8.wrap (Int.fdiv x2 (2 ^ (min 18 IntKind.i32.bits))))).toNat:Int)),(IntKind.u8.wrap ((BitVec.ofInt IntKind.u8.bits 128 ||| BitVec.ofInt IntKind.u8.bits (IntKind.u8.wrap ((BitVec.ofInt IntKind.u8.bits (IntKind.u8.wrap (Int.fdiv x2 (2 ^ (min 12 IntKind.i32.bits)))) &&& BitVec.ofInt IntKind.u8.bits 63).toNat:Int))).toNat:Int)),(IntKind.u8.wrap ((BitVec.ofInt IntKind.u8.bits 128 ||| BitVec.ofInt IntKind.u8.bits (IntKind.u8.wrap ((BitVec.ofInt IntKind.u8.bits (IntKind.u8.wrap (Int.fdiv x2 (2 ^ (min 6 IntKind.i32.bits)))) &&& BitVec.ofInt IntKind.u8.bits 63).toNat:Int))).toNat:Int)),(IntKind.u8.wrap ((BitVec.ofInt IntKind.u8.bits 128 ||| BitVec.ofInt IntKind.u8.bits (IntKind.u8.wrap ((BitVec.ofInt IntKind.u8.bits (IntKind.u8.wrap x2) &&& BitVec.ofInt IntKind.u8.bits 63).toNat:Int))).toNat:Int))]:List Int):List Int))))else (cw (decide ((x1.length+3)*1≤140737488355328)) (k0 ((x1:List Int)++(([239,191,189]:List Int):List Int)))); bif (decide ((IntKind.u32.wrap x2)>(65535:Int)))then (j5 (decide ((IntKind.u32.wrap x2)≤(1114111:Int))))else (j5 false)); bif (decide ((IntKind.u32.wrap x2)<(55296:Int)))then (j6 (decide ((IntKind.u32.wrap x2)<(55296:Int))))else (bif (decide ((57343:Int)<(IntKind.u32.wrap x2)))then (j6 (decide ((IntKind.u32.wrap x2)≤(65535:Int))))else (j6 false)))
def bA {R:Type}:du R:=fun x1 x2 k0=>fq x1 x2 k0
theorem rV {R:Type}:gR (R:=R) tt [] xw true Tryz.f113 (bb Tryz.f113) hG hJ (lz fq):=fun x y k=>by kernel_rfl
theorem qF (R:Type):rR Tryz.prog 113 (lP (bA (R:=R))):=cQ TT mixed .n rfl rfl rfl rfl dV (rV)

/-! ### unicode/utf8.AppendRune -/
abbrev eK (R:Type):Type:=(List Int)→Int→((List Int)→Option R)→Option R
abbrev lb:List ck := [.leaf (.M8 (.int .u8) 0), .leaf (.int .i32)]
abbrev lg:List aN := [.tok]
def o4 {R:Type} (fn:eK R):ck.aH lb→aN.aH lg→(V→aG→Option R)→Option R:=fun x y k=>fn x.1 x.2.1 (fun q0=>k (.sl (.int .u8) q0 (.own 1)) [.dead, .tok])
def px {R:Type} (fn:eK R):aF.Spec R→aF.Spec R:=bj lb lg (o4 fn)
def pz {R:Type} (bA:du R):List (uI R) := [(113,false,(lP bA aZ))]
theorem wj {R:Type}:eU (R:=R) Tryz.prog (pz bA) := .f (qF R _ (aK _)) rfl <| .n
def im {R:Type} (bA:du R) (x1:List Int) (x2:Int) (k0:(List Int)→Option R):Option R :=
 bif (decide ((IntKind.u32.wrap x2)≤(127:Int)))then (cw (decide ((x1.length+1)*1≤140737488355328)) (k0 ((x1:List Int)++(([(IntKind.u8.wrap x2)]:List Int):List Int))))else (bA x1 x2 (fun y3=>k0 y3))
def bQ {R:Type}:eK R:=fun x1 x2 k0=>im bA x1 x2 k0
theorem wZ {R:Type} (bA:du R):gR (R:=R) tt (pz bA) xw true Tryz.f74 (bb Tryz.f74) lb lg (o4 (im bA)):=fun x y k=>by kernel_rfl
theorem vL (R:Type):rR Tryz.prog 74 (px (bQ (R:=R))):=cQ TT mixed (wj (R:=R)) rfl rfl rfl rfl dV (wZ bA)

/-! ### (*strings.Builder).WriteRune -/
abbrev bC (R:Type):Type:=Int→(List Int)→(Int→(List Int)→Option R)→Option R
abbrev j9:List ck := [.leaf (.ptr 0 0), .leaf (.int .i32)]
abbrev ka:List aN := [.lW (.M8 (.int .u8) 1), .tok]
def nO {R:Type} (fn:bC R):ck.aH j9→aN.aH ka→(V→aG→Option R)→Option R:=fun x y k=>fn x.2.1 y.1 (fun q0 q1=>k (.tuple [.int .i64 q0, .dv]) [.lW (.sl (.int .u8) q1 (.own 2)), .dead, .tok])
def kb {R:Type} (fn:bC R):aF.Spec R→aF.Spec R:=bj j9 ka (nO fn)
def om {R:Type} (bQ:eK R):List (uI R) := [(73,false,(JQ R)),(74,false,(px bQ aZ))]
theorem uZ {R:Type}:eU (R:=R) Tryz.prog (om bQ) := .f (L9) rfl <| .f (vL R _ (aK _)) rfl <| .n
def gJ {R:Type} (bQ:eK R) (x1:Int) (x2:List Int) (k0:Int→(List Int)→Option R):Option R :=
 bQ x2 x1 (fun y3=>k0 (IntKind.i64.wrap ((y3.length:Int) - (x2.length:Int))) y3)
def ai {R:Type}:bC R:=fun x1 x2 k0=>gJ bQ x1 x2 k0
theorem vM {R:Type} (bQ:eK R):gR (R:=R) tt (om bQ) xw false Tryz.f53 (bb Tryz.f53) j9 ka (nO (gJ bQ)):=fun x y k=>by kernel_rfl
theorem mT (R:Type):rR Tryz.prog 53 (kb (ai (R:=R))):=cQ TT mixed (uZ (R:=R)) rfl rfl rfl rfl dV (vM bQ)

end Go.Proofs.YtmlkkgfenfdndaaGreatDoor

set_option maxRecDepth 100000
namespace Go.Proofs.YtmlkkgfenfdndaaGreatDoor
open Go Go.aF

abbrev zs (s:aj):List Int:=s.map fun b=>(b.toNat:Int)
theorem Tq (s t:aj):zs (s++t)=zs s++zs t:=List.map_append
theorem Cs (s:aj):gD s=zs s:=rfl
theorem Dg (s:aj):(zs s).length=s.length:=List.length_map _
theorem rE (s:aj):r9 (zs s)=s:=by
 unfold r9 zs
 rw[List.map_map]
 conv=>rhs; rw[←List.map_id s]
 exact List.map_congr_left fun b _=>by simp
theorem xI (n:Nat) (h:n<256):((UInt8.ofNat n).toNat:Int)=n:=by rw[gf n h]

def Ib (s:aj):Prop:=s.length≤100000000000

theorem wb {R:Type} (b:UInt8) (s:aj) (hl:Ib s) (k:List Int→Option R):ad (b.toNat:Int) (zs s) k=k (zs (s ++ [b])):=by
 show cw (decide (((zs s).length+1)*1≤140737488355328)) (k (zs s ++ [(b.toNat:Int)]))=_
 unfold Ib at hl
 rw[aL (bf (by rw[Dg]; omega)),Tq]
 rfl

theorem ws {R:Type} (x:aj) (s:aj) (hx:x.length≤100000000000) (hl:Ib s) (k:Int→List Int→Option R):ae x (zs s) k=k (x.length:Int) (zs (s++x)):=by
 show cw (decide (((zs s).length+(gD x).length)*1≤140737488355328)) (k (x.length:Int) (zs s++gD x))=_
 unfold Ib at hl
 rw[Cs,aL (bf (by rw[Dg,Dg]; omega)),Tq]

theorem or128:∀x:Fin 64,IntKind.u8.wrap ((BitVec.ofInt IntKind.u8.bits 128 ||| BitVec.ofInt IntKind.u8.bits (x.val:Int)).toNat:Int)=((128+x.val:Nat):Int):=by decide +kernel
theorem or192:∀x:Fin 32,IntKind.u8.wrap ((BitVec.ofInt IntKind.u8.bits 192 ||| BitVec.ofInt IntKind.u8.bits (IntKind.u8.wrap (x.val:Int))).toNat:Int)=((192+x.val:Nat):Int):=by decide +kernel
theorem or224:∀x:Fin 16,IntKind.u8.wrap ((BitVec.ofInt IntKind.u8.bits 224 ||| BitVec.ofInt IntKind.u8.bits (IntKind.u8.wrap (x.val:Int))).toNat:Int)=((224+x.val:Nat):Int):=by decide +kernel
theorem or240:∀x:Fin 8,IntKind.u8.wrap ((BitVec.ofInt IntKind.u8.bits 240 ||| BitVec.ofInt IntKind.u8.bits (IntKind.u8.wrap (x.val:Int))).toNat:Int)=((240+x.val:Nat):Int):=by decide +kernel
theorem and63:∀x:Fin 256,IntKind.u8.wrap ((BitVec.ofInt IntKind.u8.bits (x.val:Int) &&& BitVec.ofInt IntKind.u8.bits 63).toNat:Int)=((x.val % 64:Nat):Int):=by decide +kernel

theorem Zg (n:Nat):IntKind.u8.wrap (n:Int)=((n % 256:Nat):Int):=by
 simp only[IntKind.wrap,IntKind.bits,IntKind.signed]
 simp
theorem UD {n:Nat} (h:n<1114112):IntKind.u32.wrap (n:Int)=(n:Int):=by
 simp only[IntKind.wrap,IntKind.bits,IntKind.signed]
 simp
 omega
theorem shr (c n:Nat) (h:n≤32):Int.fdiv (c:Int) (2 ^ (min n IntKind.i32.bits))=((c / 2 ^ n:Nat):Int):=by
 have e:min n IntKind.i32.bits=n:=Nat.min_eq_left h
 rw[e,Int.fdiv_eq_ediv_of_nonneg _ (by exact Int.le_of_lt (Int.pow_pos (by omega)))]
 rw[Int.natCast_ediv]
 congr 1

theorem cont (c:Nat):IntKind.u8.wrap ((BitVec.ofInt IntKind.u8.bits 128 ||| BitVec.ofInt IntKind.u8.bits (IntKind.u8.wrap ((BitVec.ofInt IntKind.u8.bits (IntKind.u8.wrap (c:Int)) &&& BitVec.ofInt IntKind.u8.bits 63).toNat:Int))).toNat:Int)=((128+c % 64:Nat):Int):=by
 have h1:=and63 ⟨c % 256,Nat.mod_lt _ (by omega)⟩
 simp only at h1
 rw[Zg c,h1,show c % 256 % 64=c % 64 by omega]
 exact or128 ⟨c % 64,Nat.mod_lt _ (by omega)⟩

theorem zs_enc1 (n:Nat) (h:n<256):zs [UInt8.ofNat n] = [(n:Int)]:=by simp only[zs,List.map_cons,List.map_nil,xI n h]

theorem ar {R:Type} {c:Nat} (hv:vr c) (s:aj) (hl:Ib s) (k:List Int→Option R):bQ (zs s) (c:Int) k=k (zs (s++enc c)):=by
 have jb:=Om hv
 unfold Ib at hl
 show im bA (zs s) (c:Int) k=_
 unfold im
 rw[UD jb,Tq]
 rcases Cn hv with ⟨h1,e⟩|⟨h0,h1,e⟩|⟨h0,h1,e⟩|⟨h0,e⟩
 ·rw[bf (show (c:Int)≤127 by omega),cond_true,aL (bf (by rw[Dg]; omega)),e,zs_enc1 c (by omega),Zg,Nat.mod_eq_of_lt (by omega)]
 all_goals
  rw[cI (show ¬(c:Int)≤127 by omega),cond_false]
  show fq (zs s) (c:Int) _=_
  unfold fq
  rw[UD jb,e]
  simp only[cont,shr _ 6 (by omega),shr _ 12 (by omega),shr _ 18 (by omega),Dg]
 ·rw[bf (show (c:Int)≤2047 by omega),cond_true,aL (bf (by omega))]
  have:=or192 ⟨c / 64,by omega⟩
  simp only at this
  rw[show c / 2 ^ 6=c / 64 from rfl,this]
  simp only[zs,List.map_cons,List.map_nil,xI (192+c / 64) (by omega),xI (128+c % 64) (by omega)]
 ·rw[cI (show ¬(c:Int)≤2047 by omega),cond_false]
  unfold vr at hv
  by_cases h2:c<55296
  ·rw[bf (show (c:Int)<55296 by omega),cond_true,cond_true,aL (bf (by omega))]
   have:=or224 ⟨c / 4096,by omega⟩
   simp only at this
   rw[show c / 2 ^ 12=c / 4096 from rfl,this]
   simp only[zs,List.map_cons,List.map_nil,xI (224+c / 4096) (by omega),xI (128+c % 64) (by omega),xI (128+c / 64 % 64) (by omega)]
  rw[cI (show ¬(c:Int)<55296 by omega),cond_false,bf (show (57343:Int)<(c:Int) by omega),cond_true,bf (show (c:Int)≤65535 by omega),cond_true,aL (bf (by omega))]
  have:=or224 ⟨c / 4096,by omega⟩
  simp only at this
  rw[show c / 2 ^ 12=c / 4096 from rfl,this]
  simp only[zs,List.map_cons,List.map_nil,xI (224+c / 4096) (by omega),xI (128+c % 64) (by omega),xI (128+c / 64 % 64) (by omega)]
 ·rw[cI (show ¬(c:Int)≤2047 by omega),cond_false]
  rw[cI (show ¬(c:Int)<55296 by omega),cond_false,bf (show (57343:Int)<(c:Int) by omega),cond_true,cI (show ¬(c:Int)≤65535 by omega),cond_false,
   bf (show (c:Int)>65535 by omega),cond_true,bf (show (c:Int)≤1114111 by omega),cond_true,aL (bf (by omega))]
  have:=or240 ⟨c / 262144,by omega⟩
  simp only at this
  rw[show c / 2 ^ 18=c / 262144 from rfl,this]
  simp only[zs,List.map_cons,List.map_nil,xI (240+c / 262144) (by omega),xI (128+c % 64) (by omega),xI (128+c / 64 % 64) (by omega),xI (128+c / 4096 % 64) (by omega)]

theorem wr {R:Type} {c:Nat} (hv:vr c) (s:aj) (hl:Ib s) (k:Int→List Int→Option R):∃n:Int,ai (c:Int) (zs s) k=k n (zs (s++enc c)):=by
 refine ⟨IntKind.i64.wrap (((zs (s++enc c)).length:Int) - ((zs s).length:Int)),?_⟩
 show gJ bQ (c:Int) (zs s) k=_
 unfold gJ
 rw[ar hv s hl]
end Go.Proofs.YtmlkkgfenfdndaaGreatDoor

/-
 Functions of the program as pure Lean functions, and the ties; printed by wip/tools/emit.py.
-/
set_option maxRecDepth 100000
namespace Go.Proofs.YtmlkkgfenfdndaaGreatDoor
open Go Go.aF

/-! ### humpyard/quote.Quote -/
abbrev gl (R:Type):Type:=aj→(aj→Bool→Option R)→Option R
abbrev BR:List ck := [.leaf (.str)]
abbrev BS:List aN := []
def EX {R:Type} (fn:gl R):ck.aH BR→aN.aH BS→(V→aG→Option R)→Option R:=fun x y k=>fn x.1 (fun q0 q1=>k (.tuple [.str q0, .bool q1]) [])
def yk {R:Type} (fn:gl R):aF.Spec R→aF.Spec R:=bj BR BS (EX fn)
abbrev lh (R:Type):Type:=Nat→(List Int)→aj→Nat→((List Int)→Option R)→Option R
def qT {R:Type} (bp:eW R) (ah:bt R) (ad:aP R) (dM:lO R) (ae:aV R) (ai:bC R):List (uI R) := [(49,true,(yi bp aZ)),(50,false,(gI ad (gH ah aZ))),(51,true,(Gq dM aZ)),(52,false,(eX ae aZ)),(53,false,(kb ai aZ)),(39,false,(CZ R))]
theorem Kn {R:Type}:eU (R:=R) Tryz.prog (qT bp ah ad dM ae ai) := .p (xH R _ (aK _)) <| .f (iZ R _ (iY R _ (aK _))) rfl <| .p (Jq R _ (aK _)) <| .f (fF R _ (aK _)) rfl <| .f (mT R _ (aK _)) rfl <| .s (KS) FE <| .n
def ke {R:Type} (ad:aP R) (dM:lO R) (ae:aV R) (ai:bC R) (fC:(List Int)→aj→Nat→Option R) (x4:List Int) (x5:aj) (x6:Nat) (e0:(List Int)→Option R):Option R :=
 bif decide (x6<x5.length)then (dM ((lI x5 x6).1:Int) (fun y7=>bif (y7 != 0)then (ad 92 x4 (fun y8=>ad y7 y8 (fun y9=>fC y9 x5 (x6+(lI x5 x6).2))))else (bif (decide (((lI x5 x6).1:Int)<(32:Int)))then (ae ([92,117,48,48]:aj) x4 (fun xD vu=>cw (decide ((0:Int)≤(Int.fdiv ((lI x5 x6).1:Int) (2 ^ (min 4 IntKind.i32.bits))))&&decide ((Int.fdiv ((lI x5 x6).1:Int) (2 ^ (min 4 IntKind.i32.bits)))<(16:Int))) (ad ((([48,49,50,51,52,53,54,55,56,57,97,98,99,100,101,102]:aj).getD ((Int.fdiv ((lI x5 x6).1:Int) (2 ^ (min 4 IntKind.i32.bits))).toNat) 0).toNat:Int) vu (fun yx=>cw (decide ((0:Int)≤(IntKind.i32.wrap ((BitVec.ofInt IntKind.i32.bits ((lI x5 x6).1:Int) &&& BitVec.ofInt IntKind.i32.bits 15).toNat:Int)))&&decide ((IntKind.i32.wrap ((BitVec.ofInt IntKind.i32.bits ((lI x5 x6).1:Int) &&& BitVec.ofInt IntKind.i32.bits 15).toNat:Int))<(16:Int))) (ad ((([48,49,50,51,52,53,54,55,56,57,97,98,99,100,101,102]:aj).getD ((IntKind.i32.wrap ((BitVec.ofInt IntKind.i32.bits ((lI x5 x6).1:Int) &&& BitVec.ofInt IntKind.i32.bits 15).toNat:Int)).toNat) 0).toNat:Int) yx (fun DS=>fC DS x5 (x6+(lI x5 x6).2)))))))else (ai ((lI x5 x6).1:Int) x4 (fun zA FF=>fC FF x5 (x6+(lI x5 x6).2))))))else (e0 x4)
def bW {R:Type}:lh R
 | 0,_,_,_,_=>none
 | n+1,kN,kO,lN,e0=>ke ad dM ae ai (fun kN kO lN=>bW n kN kO lN e0) kN kO lN e0
def rF:Hint := { live := [4,13],own := [],rows := [],cells := [],drop := [],out := [2,3,4] }
abbrev iP:Type:=(List Int) × aj × Nat
def pk:iP→St:=fun d=>⟨U 4 (.ptr 0 0::U 8 (.ptr 1 0::U 27 ([]))), [.lW (.sl (.int .u8) d.1 (.own 2)), .iter d.2.1 d.2.2, .tok]⟩
def u0 {R:Type} (K:Ex→St→Option R) (q0:List Int):Option R:=K (.exit 0) ⟨U 4 (.ptr 0 0::U 36 ([])), [.lW (.sl (.int .u8) q0 (.own 1)), .tok]⟩
def wk {R:Type} (ad:aP R) (dM:lO R) (ae:aV R) (ai:bC R) (K:Ex→St→Option R) (rc:iP→Option R) (d:iP):Option R:=ke ad dM ae ai (fun z0 z1 z2=>rc (z0,z1,z2)) d.1 d.2.1 d.2.2 (u0 K)
def l8 {R:Type} (K:Ex→St→Option R) (n:Nat) (d:iP):Option R:=bW n d.1 d.2.1 d.2.2 (u0 K)
abbrev iQ:List ck:=PU 4 (.leaf (.ptr 0 0)::PU 8 (.leaf (.ptr 1 0)::PU 27 ([])))
abbrev iR:List aN := [.lW (.M8 (.int .u8) 2), .iter, .tok]
def wm (x:ck.aH iQ) (y:aN.aH iR):Nat:=(List.length y.1+List.length y.2.1.1+64)
def wo (x:ck.aH iQ) (y:aN.aH iR):iP:=(y.1,y.2.1.1,y.2.1.2)
def u4 {R:Type} (L:lh R):ck.aH iQ→aN.aH iR→(Ex→St→Option R)→Option R:=fun x y K=>L (wm x y) y.1 y.2.1.1 y.2.1.2 (u0 K)
def ua (R:Type) (bW:lh R):Nat→Option (Hint × eJ R):=fun i=>match i with
 | 6=>some (rF,(fQ iQ iR (u4 bW) pr))
 | _=>none

theorem EY {R:Type} (bp:eW R) (ah:bt R) (ad:aP R) (dM:lO R) (ae:aV R) (ai:bC R) (bW:lh R) (K:Ex→St→Option R) (rc:St→Option R) (d:iP):roundOf tt (fV (qT bp ah ad dM ae ai)) (ua R bW) 0 ((br (bb Tryz.f26)).getD 0 .skip) rF (pk d) rc K=wk ad dM ae ai K (fun d=>rc (pk d)) d:=by kernel_rfl
theorem Dh {R:Type} (K:Ex→St→Option R) (n:Nat) (d:iP):l8 K (n+1) d=wk ad dM ae ai K (l8 K n) d:=by kernel_rfl
theorem Di {R:Type} (K:Ex→St→Option R) (d:iP):l8 K 0 d=none:=by kernel_rfl
theorem EZ (x:ck.aH iQ) (y:aN.aH iR):(⟨ck.cz iQ x,aN.cz iR y⟩:St)=pk (wo x y):=by kernel_rfl
theorem E0 {R:Type} (x:ck.aH iQ) (y:aN.aH iR) (K:Ex→St→Option R):u4 (bW) x y K=l8 K (wm x y) (wo x y):=by kernel_rfl
theorem G2 {R:Type} (other:eJ R) (ho:oa tt (fV (qT bp ah ad dM ae ai)) (ua R bW) 0 ((br (bb Tryz.f26)).getD 0 .skip) rF other):oa tt (fV (qT bp ah ad dM ae ai)) (ua R bW) 0 ((br (bb Tryz.f26)).getD 0 .skip) rF (fQ iQ iR (u4 (bW)) other) :=
 gd (A:=l8) ho (jt pk (wk ad dM ae ai) (l8) (Di) (EY bp ah ad dM ae ai bW) (Dh)) wm wo EZ (E0)

def qU {R:Type} (bp:eW R) (ah:bt R) (ad:aP R) (bW:lh R) (x1:aj) (k0:aj→Bool→Option R):Option R :=
 bp x1 (fun y2=>bif (!y2)then (k0 ([]:aj) false)else (ah 34 (fun y3=>bW (List.length y3+List.length x1+64) y3 x1 0 (fun FG=>ad 34 FG (fun JV=>k0 (r9 JV) true)))))
def cd {R:Type}:gl R:=fun x1 k0=>qU bp ah ad bW x1 k0
theorem Mj {R:Type} (bp:eW R) (ah:bt R) (ad:aP R) (dM:lO R) (ae:aV R) (ai:bC R) (bW:lh R):gR (R:=R) tt (qT bp ah ad dM ae ai) (ua R bW) false Tryz.f26 (bb Tryz.f26) BR BS (EX (qU bp ah ad bW)):=fun x y k=>by kernel_rfl
theorem Ic (R:Type):∀a∈br (bb Tryz.f26),lM tt (fV (qT bp ah ad dM ae ai)) (ua R bW) 0 a:=by
 refine kZ 1 (by kernel_rfl) fun i hi => ?_
 match i,hi with
 | 0,_=>exact fm (by kernel_rfl) (G2 _ ia)
 | n+1,hi=>omega
theorem xJ (R:Type):rR Tryz.prog 26 (yk (cd (R:=R))):=cQ TT mixed (Kn (R:=R)) rfl rfl rfl rfl (Ic R) (Mj bp ah ad dM ae ai bW)

/-! ### humpyard/json.write$1 -/
abbrev hM (R:Type):Type:=aj→((List Int)→Option R)→Option R
abbrev tw:List ck := [.leaf (.str), .leaf (.ptr 0 0)]
abbrev tz:List aN := [.cells [.ptr 1 0], .lW (.cM)]
def yy {R:Type} (fn:hM R):ck.aH tw→aN.aH tz→(V→aG→Option R)→Option R:=fun x y k=>fn x.1 (fun q0=>k (.tuple []) [.cells [.ptr 1 0], .lW (.sl (.int .u8) q0 (.own 2)), .tok])
def zB {R:Type} (fn:hM R):aF.Spec R→aF.Spec R:=bj tw tz (yy fn)
def zC {R:Type} (cd:gl R) (ag:bw R):List (uI R) := [(26,true,(yk cd aZ)),(52,false,(gi ag aZ))]
theorem D6 {R:Type}:eU (R:=R) Tryz.prog (zC cd ag) := .p (xJ R _ (aK _)) <| .f (ij R _ (aK _)) rfl <| .n
def zD {R:Type} (cd:gl R) (ag:bw R) (x1:aj) (k0:(List Int)→Option R):Option R :=
 cd x1 (fun y2 y3=>ag y2 (fun y4 y5=>k0 y5))
def cU {R:Type}:hM R:=fun x1 k0=>zD cd ag x1 k0
theorem E1 {R:Type} (cd:gl R) (ag:bw R):gR (R:=R) tt (zC cd ag) xw false Tryz.f61 (bb Tryz.f61) tw tz (yy (zD cd ag)):=fun x y k=>by kernel_rfl
theorem Dj (R:Type):rR Tryz.prog 61 (zB (cU (R:=R))):=cQ TT mixed (D6 (R:=R)) rfl rfl rfl rfl dV (E1 cd ag)

/-! ### humpyard/json.write$1 -/
abbrev dd (R:Type):Type:=aj→(List Int)→((List Int)→Option R)→Option R
abbrev tA:List ck := [.leaf (.str), .leaf (.ptr 0 0)]
abbrev tB:List aN := [.cells [.ptr 1 0], .lW (.M8 (.int .u8) 2), .tok]
def yz {R:Type} (fn:dd R):ck.aH tA→aN.aH tB→(V→aG→Option R)→Option R:=fun x y k=>fn x.1 y.2.1 (fun q0=>k (.tuple []) [.cells [.ptr 1 0], .lW (.sl (.int .u8) q0 (.own 3)), .dead, .tok])
def tC {R:Type} (fn:dd R):aF.Spec R→aF.Spec R:=bj tA tB (yz fn)
def zE {R:Type} (cd:gl R) (ae:aV R):List (uI R) := [(26,true,(yk cd aZ)),(52,false,(eX ae aZ))]
theorem D7 {R:Type}:eU (R:=R) Tryz.prog (zE cd ae) := .p (xJ R _ (aK _)) <| .f (fF R _ (aK _)) rfl <| .n
def zF {R:Type} (cd:gl R) (ae:aV R) (x1:aj) (x2:List Int) (k0:(List Int)→Option R):Option R :=
 cd x1 (fun y3 y4=>ae y3 x2 (fun y5 y6=>k0 y6))
def az {R:Type}:dd R:=fun x1 x2 k0=>zF cd ae x1 x2 k0
theorem E2 {R:Type} (cd:gl R) (ae:aV R):gR (R:=R) tt (zE cd ae) xw false Tryz.f61 (bb Tryz.f61) tA tB (yz (zF cd ae)):=fun x y k=>by kernel_rfl
theorem wu (R:Type):rR Tryz.prog 61 (tC (az (R:=R))):=cQ TT mixed (D7 (R:=R)) rfl rfl rfl rfl dV (E2 cd ae)

/-! ### humpyard/json.write -/
abbrev bD (R:Type):Type:=Json→(List Int)→((List Int)→Option R)→Option R
abbrev gK:List ck := [.leaf (.ptr 0 0), .agg [.int .i64, .int .i64, .int .i64, .str, .sl .str, .sl .json]]
abbrev gL:List aN := [.lW (.M8 (.int .u8) 1), .tok]
def eH {R:Type} (fn:bD R):ck.aH gK→aN.aH gL→(V→aG→Option R)→Option R:=fun x y k=>fn (⟨x.2.1.1,⟨x.2.1.2.1,x.2.1.2.2.1⟩,x.2.1.2.2.2.1,x.2.1.2.2.2.2.1,x.2.1.2.2.2.2.2.1⟩:Json) y.1 (fun q0=>k (.tuple []) [.lW (.sl (.int .u8) q0 (.own 2)), .dead, .tok])
def By {R:Type} (fn:bD R):aF.Spec R→aF.Spec R:=bj gK gL (eH fn)
abbrev gS (R:Type):Type:=Nat→aj→(List Json)→Int→Int→(List Int)→Json→(aj→(List Int)→Option R)→Option R
def l9 {R:Type} (bc:ez R) (ad:aP R) (ae:aV R) (au:bD R) (az:dd R):List (uI R) := [(46,true,(uK bc aZ)),(50,false,(gI ad aZ)),(52,false,(eX ae aZ)),(38,false,(bj gK gL (eH au) aZ)),(61,false,(tC az aZ))]
theorem FV {R:Type} (au:bD R) (mu:aF.Spec.Ok Tryz.prog 38 (bj gK gL (eH au) aZ)):eU (R:=R) Tryz.prog (l9 bc ad ae au az) := .p (uX R _ (aK _)) <| .f (iZ R _ (aK _)) rfl <| .f (fF R _ (aK _)) rfl <| .f mu rfl <| .f (wu R _ (aK _)) rfl <| .n
def iq {R:Type} (ad:aP R) (au:bD R) (az:dd R) (fC:aj→(List Json)→Int→Int→(List Int)→Json→Option R) (pc:aj) (sA:List Json) (lX:Int) (sB:Int) (Bz:List Int) (zG:Json) (e0:aj→(List Int)→Option R):Option R :=
 bif (decide (sB<lX))then (cw (decide ((0:Int)≤sB)&&decide (sB<sA.length)) (bif (decide (sB>(0:Int)))then (ad 44 Bz (fun A7=>bif (zG.kind==7)then (cw (decide ((0:Int)≤sB)&&decide (sB<zG.names.length)) (az (zG.names.getD sB.toNat (Ty.bY .str)) A7 (fun Tr=>ad 58 Tr (fun Rn=>au (⟨(sA.getD sB.toNat (Ty.bY .json)).kind,⟨(sA.getD sB.toNat (Ty.bY .json)).num.aB,(sA.getD sB.toNat (Ty.bY .json)).num.exp⟩,(sA.getD sB.toNat (Ty.bY .json)).text,(sA.getD sB.toNat (Ty.bY .json)).names,(sA.getD sB.toNat (Ty.bY .json)).items⟩:Json) Rn (fun y24=>fC pc sA lX (IntKind.i64.wrap (sB+1)) y24 (⟨zG.kind,⟨zG.num.aB,zG.num.exp⟩,zG.text,zG.names,zG.items⟩:Json))))))else (au (⟨(sA.getD sB.toNat (Ty.bY .json)).kind,⟨(sA.getD sB.toNat (Ty.bY .json)).num.aB,(sA.getD sB.toNat (Ty.bY .json)).num.exp⟩,(sA.getD sB.toNat (Ty.bY .json)).text,(sA.getD sB.toNat (Ty.bY .json)).names,(sA.getD sB.toNat (Ty.bY .json)).items⟩:Json) A7 (fun IS=>fC pc sA lX (IntKind.i64.wrap (sB+1)) IS (⟨zG.kind,⟨zG.num.aB,zG.num.exp⟩,zG.text,zG.names,zG.items⟩:Json)))))else (bif (zG.kind==7)then (cw (decide ((0:Int)≤sB)&&decide (sB<zG.names.length)) (az (zG.names.getD sB.toNat (Ty.bY .str)) Bz (fun Jr=>ad 58 Jr (fun IT=>au (⟨(sA.getD sB.toNat (Ty.bY .json)).kind,⟨(sA.getD sB.toNat (Ty.bY .json)).num.aB,(sA.getD sB.toNat (Ty.bY .json)).num.exp⟩,(sA.getD sB.toNat (Ty.bY .json)).text,(sA.getD sB.toNat (Ty.bY .json)).names,(sA.getD sB.toNat (Ty.bY .json)).items⟩:Json) IT (fun IU=>fC pc sA lX (IntKind.i64.wrap (sB+1)) IU (⟨zG.kind,⟨zG.num.aB,zG.num.exp⟩,zG.text,zG.names,zG.items⟩:Json))))))else (au (⟨(sA.getD sB.toNat (Ty.bY .json)).kind,⟨(sA.getD sB.toNat (Ty.bY .json)).num.aB,(sA.getD sB.toNat (Ty.bY .json)).num.exp⟩,(sA.getD sB.toNat (Ty.bY .json)).text,(sA.getD sB.toNat (Ty.bY .json)).names,(sA.getD sB.toNat (Ty.bY .json)).items⟩:Json) Bz (fun NC=>fC pc sA lX (IntKind.i64.wrap (sB+1)) NC (⟨zG.kind,⟨zG.num.aB,zG.num.exp⟩,zG.text,zG.names,zG.items⟩:Json))))))else (e0 pc Bz)
def aR {R:Type} (au:bD R):gS R
 | 0,_,_,_,_,_,_,_=>none
 | n+1,kN,kO,lN,th,BT,Dk,e0=>iq ad au az (fun kN kO lN th BT Dk=>aR au n kN kO lN th BT Dk e0) kN kO lN th BT Dk e0
def mz:Hint := { live := [2,3,4,5,43,44,45],own := [],rows := [],cells := [],drop := [],out := [2,5] }
abbrev ft:Type:=aj × (List Json) × Int × Int × (List Int) × Json
def lD:ft→St:=fun d=>⟨U 2 (.ptr 2 0 :: .ptr 3 0 :: .func 61 [] [.ptr 2 0] :: .str d.1::U 37 (.sl .json d.2.1 .no :: .int .i64 d.2.2.1 :: .int .i64 d.2.2.2.1::U 28 ([]))), [.lW (.sl (.int .u8) d.2.2.2.2.1 (.own 4)), .dead, .cells [.ptr 0 0], .cells [.int .i64 d.2.2.2.2.2.kind, .int .i64 d.2.2.2.2.2.num.aB, .int .i64 d.2.2.2.2.2.num.exp, .str d.2.2.2.2.2.text, .sl .str d.2.2.2.2.2.names .no, .sl .json d.2.2.2.2.2.items .no], .tok]⟩
def pA {R:Type} (K:Ex→St→Option R) (q0:aj) (q1:List Int):Option R:=K (.exit 1) ⟨U 2 (.ptr 2 0::U 2 (.str q0::U 68 ([]))), [.lW (.sl (.int .u8) q1 (.own 3)), .dead, .cells [.ptr 0 0], .tok]⟩
def qh {R:Type} (ad:aP R) (au:bD R) (az:dd R) (K:Ex→St→Option R) (rc:ft→Option R) (d:ft):Option R:=iq ad au az (fun z0 z1 z2 z3 z4 z5=>rc (z0,z1,z2,z3,z4,z5)) d.1 d.2.1 d.2.2.1 d.2.2.2.1 d.2.2.2.2.1 d.2.2.2.2.2 (pA K)
def ir {R:Type} (au:bD R) (K:Ex→St→Option R) (n:Nat) (d:ft):Option R:=aR au n d.1 d.2.1 d.2.2.1 d.2.2.2.1 d.2.2.2.2.1 d.2.2.2.2.2 (pA K)
abbrev fv:List ck:=PU 2 (.leaf (.ptr 2 0) :: .leaf (.ptr 3 0) :: .func 61 [] [.ptr 2 0] :: .leaf (.str)::PU 37 (.leaf (.sl .json) :: .leaf (.int .i64) :: .leaf (.int .i64)::PU 28 ([])))
abbrev fw:List aN := [.lW (.M8 (.int .u8) 4), .dead, .cells [.ptr 0 0], .cells [.int .i64, .int .i64, .int .i64, .str, .sl .str, .sl .json], .tok]
def qi (x:ck.aH fv) (y:aN.aH fw):Nat:=(List.length x.2.2.2.2.2.1+List.length x.2.2.2.2.2.2.2.2.2.2.2.2.2.2.2.2.2.2.2.2.2.2.2.2.2.2.2.2.2.2.2.2.2.2.2.2.2.2.2.2.2.2.2.1+Int.natAbs x.2.2.2.2.2.2.2.2.2.2.2.2.2.2.2.2.2.2.2.2.2.2.2.2.2.2.2.2.2.2.2.2.2.2.2.2.2.2.2.2.2.2.2.2.1+Int.natAbs x.2.2.2.2.2.2.2.2.2.2.2.2.2.2.2.2.2.2.2.2.2.2.2.2.2.2.2.2.2.2.2.2.2.2.2.2.2.2.2.2.2.2.2.2.2.1+List.length y.1+Json.fu (⟨y.2.2.2.1.1,⟨y.2.2.2.1.2.1,y.2.2.2.1.2.2.1⟩,y.2.2.2.1.2.2.2.1,y.2.2.2.1.2.2.2.2.1,y.2.2.2.1.2.2.2.2.2.1⟩:Json)+64)
def qj (x:ck.aH fv) (y:aN.aH fw):ft:=(x.2.2.2.2.2.1,x.2.2.2.2.2.2.2.2.2.2.2.2.2.2.2.2.2.2.2.2.2.2.2.2.2.2.2.2.2.2.2.2.2.2.2.2.2.2.2.2.2.2.2.1,x.2.2.2.2.2.2.2.2.2.2.2.2.2.2.2.2.2.2.2.2.2.2.2.2.2.2.2.2.2.2.2.2.2.2.2.2.2.2.2.2.2.2.2.2.1,x.2.2.2.2.2.2.2.2.2.2.2.2.2.2.2.2.2.2.2.2.2.2.2.2.2.2.2.2.2.2.2.2.2.2.2.2.2.2.2.2.2.2.2.2.2.1,y.1,(⟨y.2.2.2.1.1,⟨y.2.2.2.1.2.1,y.2.2.2.1.2.2.1⟩,y.2.2.2.1.2.2.2.1,y.2.2.2.1.2.2.2.2.1,y.2.2.2.1.2.2.2.2.2.1⟩:Json))
def pB {R:Type} (L:gS R):ck.aH fv→aN.aH fw→(Ex→St→Option R)→Option R:=fun x y K=>L (qi x y) x.2.2.2.2.2.1 x.2.2.2.2.2.2.2.2.2.2.2.2.2.2.2.2.2.2.2.2.2.2.2.2.2.2.2.2.2.2.2.2.2.2.2.2.2.2.2.2.2.2.2.1 x.2.2.2.2.2.2.2.2.2.2.2.2.2.2.2.2.2.2.2.2.2.2.2.2.2.2.2.2.2.2.2.2.2.2.2.2.2.2.2.2.2.2.2.2.1 x.2.2.2.2.2.2.2.2.2.2.2.2.2.2.2.2.2.2.2.2.2.2.2.2.2.2.2.2.2.2.2.2.2.2.2.2.2.2.2.2.2.2.2.2.2.1 y.1 (⟨y.2.2.2.1.1,⟨y.2.2.2.1.2.1,y.2.2.2.1.2.2.1⟩,y.2.2.2.1.2.2.2.1,y.2.2.2.1.2.2.2.2.1,y.2.2.2.1.2.2.2.2.2.1⟩:Json) (pA K)
def oo (R:Type) (aR:gS R):Nat→Option (Hint × eJ R):=fun i=>match i with
 | 18=>some (mz,(fQ fv fw (pB aR) pr))
 | _=>none

theorem A8 {R:Type} (bc:ez R) (ad:aP R) (ae:aV R) (au:bD R) (az:dd R) (aR:gS R) (K:Ex→St→Option R) (rc:St→Option R) (d:ft):roundOf tt (fV (l9 bc ad ae au az)) (oo R aR) 2 ((br (bb Tryz.f38)).getD 0 .skip) mz (lD d) rc K=qh ad au az K (fun d=>rc (lD d)) d:=by kernel_rfl
theorem zW {R:Type} (au:bD R) (K:Ex→St→Option R) (n:Nat) (d:ft):ir au K (n+1) d=qh ad au az K (ir au K n) d:=by kernel_rfl
theorem zX {R:Type} (au:bD R) (K:Ex→St→Option R) (d:ft):ir au K 0 d=none:=by kernel_rfl
theorem A9 (x:ck.aH fv) (y:aN.aH fw):(⟨ck.cz fv x,aN.cz fw y⟩:St)=lD (qj x y):=by kernel_rfl
theorem Ba {R:Type} (au:bD R) (x:ck.aH fv) (y:aN.aH fw) (K:Ex→St→Option R):pB (aR au) x y K=ir au K (qi x y) (qj x y):=by kernel_rfl
theorem Ct {R:Type} (au:bD R) (other:eJ R) (ho:oa tt (fV (l9 bc ad ae au az)) (oo R (aR au)) 2 ((br (bb Tryz.f38)).getD 0 .skip) mz other):oa tt (fV (l9 bc ad ae au az)) (oo R (aR au)) 2 ((br (bb Tryz.f38)).getD 0 .skip) mz (fQ fv fw (pB (aR au)) other) :=
 gd (A:=ir au) ho (jt lD (qh ad au az) (ir au) (zX au) (A8 bc ad ae au az (aR au)) (zW au)) qi qj A9 (Ba au)

def wv {R:Type} (bc:ez R) (ad:aP R) (ae:aV R) (az:dd R) (aR:gS R) (x1:Json) (x2:List Int) (k0:(List Int)→Option R):Option R :=
 let j33:=fun (Rl:aj)=>cw (decide ((0:Int)<Rl.length)) (ad ((Rl.getD 0 0).toNat:Int) x2 (fun zA=>aR (List.length Rl+List.length x1.items+Int.natAbs (x1.items.length:Int)+Int.natAbs 0+List.length zA+Json.fu (⟨x1.kind,⟨x1.num.aB,x1.num.exp⟩,x1.text,x1.names,x1.items⟩:Json)+64) Rl x1.items (x1.items.length:Int) 0 zA (⟨x1.kind,⟨x1.num.aB,x1.num.exp⟩,x1.text,x1.names,x1.items⟩:Json) (fun M9 PN=>cw (decide ((1:Int)<M9.length)) (ad ((M9.getD 1 0).toNat:Int) PN (fun Na=>k0 Na))))); bif (x1.kind==1)then (ae ([110,117,108,108]:aj) x2 (fun y3 y4=>k0 y4))else (bif (x1.kind==2)then (ae ([102,97,108,115,101]:aj) x2 (fun y5 y6=>k0 y6))else (bif (x1.kind==3)then (ae ([116,114,117,101]:aj) x2 (fun y7 y8=>k0 y8))else (bif (x1.kind==4)then (bc x1.num (fun y9=>ae y9 x2 (fun xD vu=>k0 vu)))else (bif (x1.kind==5)then (az x1.text x2 (fun yx=>k0 yx))else (bif (x1.kind==7)then (j33 ([123,125]:aj))else (j33 ([91,93]:aj)))))))
def wx {R:Type} (au:bD R):bD R:=fun x1 x2 k0=>wv bc ad ae az (aR au) x1 x2 k0
theorem G3 {R:Type} (bc:ez R) (ad:aP R) (ae:aV R) (au:bD R) (az:dd R) (aR:gS R):gR (R:=R) tt (l9 bc ad ae au az) (oo R aR) false Tryz.f38 (bb Tryz.f38) gK gL (eH (wv bc ad ae az aR)):=fun x y k=>by kernel_rfl
theorem D8 (R:Type) (au:bD R) (mu:aF.Spec.Ok Tryz.prog 38 (bj gK gL (eH au) aZ)):∀a∈br (bb Tryz.f38),lM tt (fV (l9 bc ad ae au az)) (oo R (aR au)) 2 a:=by
 refine kZ 1 (by kernel_rfl) fun i hi => ?_
 match i,hi with
 | 0,_=>exact fm (by kernel_rfl) (Ct au _ ia)
 | n+1,hi=>omega
theorem D9 (R:Type) (au:bD R) (mu:aF.Spec.Ok Tryz.prog 38 (bj gK gL (eH au) aZ)):rR Tryz.prog 38 (By (wx au)):=cQ TT mixed (FV au mu) rfl rfl rfl rfl (D8 R au mu) (G3 bc ad ae au az (aR au))
def dw {R:Type}:Nat→bD R
 | 0,_,_,_=>none
 | n+1,kN,kO,k0'=>wx (dw n) kN kO k0'
theorem PO {R:Type} (n:Nat):dw (R:=R) (n+1)=wx (dw n):=by kernel_rfl
theorem E3 (R:Type):∀n,aF.Spec.Ok Tryz.prog 38 (bj gK gL (eH (dw (R:=R) n)) aZ) :=
 vp (run:=fun n=>eH (dw (R:=R) n)) (fun x y k=>by kernel_rfl) fun n hyp=>D9 R (dw n) hyp aZ (aK _)
def bF {R:Type}:bD R:=fun x1 x2 k0=>dw (Json.depth x1+2) x1 x2 k0
theorem E4 (R:Type):eH (R:=R) bF=fun x y k=>eH (dw (Json.depth (⟨x.2.1.1,⟨x.2.1.2.1,x.2.1.2.2.1⟩,x.2.1.2.2.2.1,x.2.1.2.2.2.2.1,x.2.1.2.2.2.2.2.1⟩:Json)+2)) x y k:=by kernel_rfl
theorem E5 (R:Type) (other:aF.Spec R) (ho:aF.Spec.Ok Tryz.prog 38 other):aF.Spec.Ok Tryz.prog 38 (bj gK gL (eH bF) other) :=
 AK (Cl (run:=fun n=>eH (dw (R:=R) n)) (fun x y=>(Json.depth (⟨x.2.1.1,⟨x.2.1.2.1,x.2.1.2.2.1⟩,x.2.1.2.2.2.1,x.2.1.2.2.2.2.1,x.2.1.2.2.2.2.2.1⟩:Json)+2)) ho (E3 R)) (E4 R)

end Go.Proofs.YtmlkkgfenfdndaaGreatDoor

/-
 Functions of the program as pure Lean functions, and the ties; printed by wip/tools/emit.py.
-/
set_option maxRecDepth 100000
namespace Go.Proofs.YtmlkkgfenfdndaaGreatDoor
open Go Go.aF

/-! ### humpyard/json.write -/
abbrev lj (R:Type):Type:=Json→((List Int)→Option R)→Option R
abbrev wy:List ck := [.leaf (.ptr 0 0), .agg [.int .i64, .int .i64, .int .i64, .str, .sl .str, .sl .json]]
abbrev wz:List aN := [.lW (.cM)]
def AM {R:Type} (fn:lj R):ck.aH wy→aN.aH wz→(V→aG→Option R)→Option R:=fun x y k=>fn (⟨x.2.1.1,⟨x.2.1.2.1,x.2.1.2.2.1⟩,x.2.1.2.2.2.1,x.2.1.2.2.2.2.1,x.2.1.2.2.2.2.2.1⟩:Json) (fun q0=>k (.tuple []) [.lW (.sl (.int .u8) q0 (.own 1)), .tok])
def BA {R:Type} (fn:lj R):aF.Spec R→aF.Spec R:=bj wy wz (AM fn)
abbrev gT (R:Type):Type:=Nat→aj→(List Json)→Int→Int→(List Int)→Json→(aj→(List Int)→Option R)→Option R
def ma {R:Type} (bc:ez R) (ah:bt R) (ad:aP R) (ag:bw R) (bF:bD R) (cU:hM R) (az:dd R):List (uI R) := [(46,true,(uK bc aZ)),(50,false,(gI ad (gH ah aZ))),(52,false,(gi ag aZ)),(38,false,(By bF aZ)),(61,false,(tC az (zB cU aZ)))]
theorem FW {R:Type}:eU (R:=R) Tryz.prog (ma bc ah ad ag bF cU az) := .p (uX R _ (aK _)) <| .f (iZ R _ (iY R _ (aK _))) rfl <| .f (ij R _ (aK _)) rfl <| .f (E5 R _ (aK _)) rfl <| .f (wu R _ (Dj R _ (aK _))) rfl <| .n
def wA {R:Type} (ad:aP R) (bF:bD R) (az:dd R) (fC:aj→(List Json)→Int→Int→(List Int)→Json→Option R) (UE:aj) (pc:List Json) (sA:Int) (lX:Int) (sB:List Int) (Bz:Json) (e0:aj→(List Int)→Option R):Option R :=
 bif (decide (lX<sA))then (cw (decide ((0:Int)≤lX)&&decide (lX<pc.length)) (bif (decide (lX>(0:Int)))then (ad 44 sB (fun Nb=>bif (Bz.kind==7)then (cw (decide ((0:Int)≤lX)&&decide (lX<Bz.names.length)) (az (Bz.names.getD lX.toNat (Ty.bY .str)) Nb (fun A7=>ad 58 A7 (fun Tr=>bF (⟨(pc.getD lX.toNat (Ty.bY .json)).kind,⟨(pc.getD lX.toNat (Ty.bY .json)).num.aB,(pc.getD lX.toNat (Ty.bY .json)).num.exp⟩,(pc.getD lX.toNat (Ty.bY .json)).text,(pc.getD lX.toNat (Ty.bY .json)).names,(pc.getD lX.toNat (Ty.bY .json)).items⟩:Json) Tr (fun Rn=>fC UE pc sA (IntKind.i64.wrap (lX+1)) Rn (⟨Bz.kind,⟨Bz.num.aB,Bz.num.exp⟩,Bz.text,Bz.names,Bz.items⟩:Json))))))else (bF (⟨(pc.getD lX.toNat (Ty.bY .json)).kind,⟨(pc.getD lX.toNat (Ty.bY .json)).num.aB,(pc.getD lX.toNat (Ty.bY .json)).num.exp⟩,(pc.getD lX.toNat (Ty.bY .json)).text,(pc.getD lX.toNat (Ty.bY .json)).names,(pc.getD lX.toNat (Ty.bY .json)).items⟩:Json) Nb (fun y24=>fC UE pc sA (IntKind.i64.wrap (lX+1)) y24 (⟨Bz.kind,⟨Bz.num.aB,Bz.num.exp⟩,Bz.text,Bz.names,Bz.items⟩:Json)))))else (bif (Bz.kind==7)then (cw (decide ((0:Int)≤lX)&&decide (lX<Bz.names.length)) (az (Bz.names.getD lX.toNat (Ty.bY .str)) sB (fun IS=>ad 58 IS (fun Jr=>bF (⟨(pc.getD lX.toNat (Ty.bY .json)).kind,⟨(pc.getD lX.toNat (Ty.bY .json)).num.aB,(pc.getD lX.toNat (Ty.bY .json)).num.exp⟩,(pc.getD lX.toNat (Ty.bY .json)).text,(pc.getD lX.toNat (Ty.bY .json)).names,(pc.getD lX.toNat (Ty.bY .json)).items⟩:Json) Jr (fun IT=>fC UE pc sA (IntKind.i64.wrap (lX+1)) IT (⟨Bz.kind,⟨Bz.num.aB,Bz.num.exp⟩,Bz.text,Bz.names,Bz.items⟩:Json))))))else (bF (⟨(pc.getD lX.toNat (Ty.bY .json)).kind,⟨(pc.getD lX.toNat (Ty.bY .json)).num.aB,(pc.getD lX.toNat (Ty.bY .json)).num.exp⟩,(pc.getD lX.toNat (Ty.bY .json)).text,(pc.getD lX.toNat (Ty.bY .json)).names,(pc.getD lX.toNat (Ty.bY .json)).items⟩:Json) sB (fun IU=>fC UE pc sA (IntKind.i64.wrap (lX+1)) IU (⟨Bz.kind,⟨Bz.num.aB,Bz.num.exp⟩,Bz.text,Bz.names,Bz.items⟩:Json))))))else (e0 UE sB)
def bk {R:Type}:gT R
 | 0,_,_,_,_,_,_,_=>none
 | n+1,kN,kO,lN,th,BT,Dk,e0=>wA ad bF az (fun kN kO lN th BT Dk=>bk n kN kO lN th BT Dk e0) kN kO lN th BT Dk e0
def mA:Hint := { live := [2,3,4,5,43,44,45],own := [],rows := [],cells := [],drop := [],out := [2,5] }
abbrev fx:Type:=aj × (List Json) × Int × Int × (List Int) × Json
def lE:fx→St:=fun d=>⟨U 2 (.ptr 1 0 :: .ptr 2 0 :: .func 61 [] [.ptr 1 0] :: .str d.1::U 37 (.sl .json d.2.1 .no :: .int .i64 d.2.2.1 :: .int .i64 d.2.2.2.1::U 28 ([]))), [.lW (.sl (.int .u8) d.2.2.2.2.1 (.own 3)), .cells [.ptr 0 0], .cells [.int .i64 d.2.2.2.2.2.kind, .int .i64 d.2.2.2.2.2.num.aB, .int .i64 d.2.2.2.2.2.num.exp, .str d.2.2.2.2.2.text, .sl .str d.2.2.2.2.2.names .no, .sl .json d.2.2.2.2.2.items .no], .tok]⟩
def pC {R:Type} (K:Ex→St→Option R) (q0:aj) (q1:List Int):Option R:=K (.exit 1) ⟨U 2 (.ptr 1 0::U 2 (.str q0::U 68 ([]))), [.lW (.sl (.int .u8) q1 (.own 2)), .cells [.ptr 0 0], .tok]⟩
def qk {R:Type} (ad:aP R) (bF:bD R) (az:dd R) (K:Ex→St→Option R) (rc:fx→Option R) (d:fx):Option R:=wA ad bF az (fun z0 z1 z2 z3 z4 z5=>rc (z0,z1,z2,z3,z4,z5)) d.1 d.2.1 d.2.2.1 d.2.2.2.1 d.2.2.2.2.1 d.2.2.2.2.2 (pC K)
def iu {R:Type} (K:Ex→St→Option R) (n:Nat) (d:fx):Option R:=bk n d.1 d.2.1 d.2.2.1 d.2.2.2.1 d.2.2.2.2.1 d.2.2.2.2.2 (pC K)
abbrev fy:List ck:=PU 2 (.leaf (.ptr 1 0) :: .leaf (.ptr 2 0) :: .func 61 [] [.ptr 1 0] :: .leaf (.str)::PU 37 (.leaf (.sl .json) :: .leaf (.int .i64) :: .leaf (.int .i64)::PU 28 ([])))
abbrev fA:List aN := [.lW (.M8 (.int .u8) 3), .cells [.ptr 0 0], .cells [.int .i64, .int .i64, .int .i64, .str, .sl .str, .sl .json], .tok]
def ql (x:ck.aH fy) (y:aN.aH fA):Nat:=(List.length x.2.2.2.2.2.1+List.length x.2.2.2.2.2.2.2.2.2.2.2.2.2.2.2.2.2.2.2.2.2.2.2.2.2.2.2.2.2.2.2.2.2.2.2.2.2.2.2.2.2.2.2.1+Int.natAbs x.2.2.2.2.2.2.2.2.2.2.2.2.2.2.2.2.2.2.2.2.2.2.2.2.2.2.2.2.2.2.2.2.2.2.2.2.2.2.2.2.2.2.2.2.1+Int.natAbs x.2.2.2.2.2.2.2.2.2.2.2.2.2.2.2.2.2.2.2.2.2.2.2.2.2.2.2.2.2.2.2.2.2.2.2.2.2.2.2.2.2.2.2.2.2.1+List.length y.1+Json.fu (⟨y.2.2.1.1,⟨y.2.2.1.2.1,y.2.2.1.2.2.1⟩,y.2.2.1.2.2.2.1,y.2.2.1.2.2.2.2.1,y.2.2.1.2.2.2.2.2.1⟩:Json)+64)
def qm (x:ck.aH fy) (y:aN.aH fA):fx:=(x.2.2.2.2.2.1,x.2.2.2.2.2.2.2.2.2.2.2.2.2.2.2.2.2.2.2.2.2.2.2.2.2.2.2.2.2.2.2.2.2.2.2.2.2.2.2.2.2.2.2.1,x.2.2.2.2.2.2.2.2.2.2.2.2.2.2.2.2.2.2.2.2.2.2.2.2.2.2.2.2.2.2.2.2.2.2.2.2.2.2.2.2.2.2.2.2.1,x.2.2.2.2.2.2.2.2.2.2.2.2.2.2.2.2.2.2.2.2.2.2.2.2.2.2.2.2.2.2.2.2.2.2.2.2.2.2.2.2.2.2.2.2.2.1,y.1,(⟨y.2.2.1.1,⟨y.2.2.1.2.1,y.2.2.1.2.2.1⟩,y.2.2.1.2.2.2.1,y.2.2.1.2.2.2.2.1,y.2.2.1.2.2.2.2.2.1⟩:Json))
def pD {R:Type} (L:gT R):ck.aH fy→aN.aH fA→(Ex→St→Option R)→Option R:=fun x y K=>L (ql x y) x.2.2.2.2.2.1 x.2.2.2.2.2.2.2.2.2.2.2.2.2.2.2.2.2.2.2.2.2.2.2.2.2.2.2.2.2.2.2.2.2.2.2.2.2.2.2.2.2.2.2.1 x.2.2.2.2.2.2.2.2.2.2.2.2.2.2.2.2.2.2.2.2.2.2.2.2.2.2.2.2.2.2.2.2.2.2.2.2.2.2.2.2.2.2.2.2.1 x.2.2.2.2.2.2.2.2.2.2.2.2.2.2.2.2.2.2.2.2.2.2.2.2.2.2.2.2.2.2.2.2.2.2.2.2.2.2.2.2.2.2.2.2.2.1 y.1 (⟨y.2.2.1.1,⟨y.2.2.1.2.1,y.2.2.1.2.2.1⟩,y.2.2.1.2.2.2.1,y.2.2.1.2.2.2.2.1,y.2.2.1.2.2.2.2.2.1⟩:Json) (pC K)
def oq (R:Type) (bk:gT R):Nat→Option (Hint × eJ R):=fun i=>match i with
 | 18=>some (mA,(fQ fy fA (pD bk) pr))
 | _=>none

theorem Bb {R:Type} (bc:ez R) (ah:bt R) (ad:aP R) (ag:bw R) (bF:bD R) (cU:hM R) (az:dd R) (bk:gT R) (K:Ex→St→Option R) (rc:St→Option R) (d:fx):roundOf tt (fV (ma bc ah ad ag bF cU az)) (oq R bk) 1 ((br (bb Tryz.f38)).getD 0 .skip) mA (lE d) rc K=qk ad bF az K (fun d=>rc (lE d)) d:=by kernel_rfl
theorem zY {R:Type} (K:Ex→St→Option R) (n:Nat) (d:fx):iu K (n+1) d=qk ad bF az K (iu K n) d:=by kernel_rfl
theorem zZ {R:Type} (K:Ex→St→Option R) (d:fx):iu K 0 d=none:=by kernel_rfl
theorem Bc (x:ck.aH fy) (y:aN.aH fA):(⟨ck.cz fy x,aN.cz fA y⟩:St)=lE (qm x y):=by kernel_rfl
theorem Bd {R:Type} (x:ck.aH fy) (y:aN.aH fA) (K:Ex→St→Option R):pD (bk) x y K=iu K (ql x y) (qm x y):=by kernel_rfl
theorem Cu {R:Type} (other:eJ R) (ho:oa tt (fV (ma bc ah ad ag bF cU az)) (oq R bk) 1 ((br (bb Tryz.f38)).getD 0 .skip) mA other):oa tt (fV (ma bc ah ad ag bF cU az)) (oq R bk) 1 ((br (bb Tryz.f38)).getD 0 .skip) mA (fQ fy fA (pD (bk)) other) :=
 gd (A:=iu) ho (jt lE (qk ad bF az) (iu) (zZ) (Bb bc ah ad ag bF cU az bk) (zY)) ql qm Bc (Bd)

def wB {R:Type} (bc:ez R) (ah:bt R) (ad:aP R) (ag:bw R) (cU:hM R) (bk:gT R) (x1:Json) (k0:(List Int)→Option R):Option R :=
 let j32:=fun (z12:aj)=>cw (decide ((0:Int)<z12.length)) (ah ((z12.getD 0 0).toNat:Int) (fun DS=>bk (List.length z12+List.length x1.items+Int.natAbs (x1.items.length:Int)+Int.natAbs 0+List.length DS+Json.fu (⟨x1.kind,⟨x1.num.aB,x1.num.exp⟩,x1.text,x1.names,x1.items⟩:Json)+64) z12 x1.items (x1.items.length:Int) 0 DS (⟨x1.kind,⟨x1.num.aB,x1.num.exp⟩,x1.text,x1.names,x1.items⟩:Json) (fun NC M9=>cw (decide ((1:Int)<NC.length)) (ad ((NC.getD 1 0).toNat:Int) M9 (fun PN=>k0 PN))))); bif (x1.kind==1)then (ag ([110,117,108,108]:aj) (fun y2 y3=>k0 y3))else (bif (x1.kind==2)then (ag ([102,97,108,115,101]:aj) (fun y4 y5=>k0 y5))else (bif (x1.kind==3)then (ag ([116,114,117,101]:aj) (fun y6 y7=>k0 y7))else (bif (x1.kind==4)then (bc x1.num (fun y8=>ag y8 (fun y9 xD=>k0 xD)))else (bif (x1.kind==5)then (cU x1.text (fun vu=>k0 vu))else (bif (x1.kind==7)then (j32 ([123,125]:aj))else (j32 ([91,93]:aj)))))))
def fc {R:Type}:lj R:=fun x1 k0=>wB bc ah ad ag cU bk x1 k0
theorem G4 {R:Type} (bc:ez R) (ah:bt R) (ad:aP R) (ag:bw R) (bF:bD R) (cU:hM R) (az:dd R) (bk:gT R):gR (R:=R) tt (ma bc ah ad ag bF cU az) (oq R bk) false Tryz.f38 (bb Tryz.f38) wy wz (AM (wB bc ah ad ag cU bk)):=fun x y k=>by kernel_rfl
theorem Ea (R:Type):∀a∈br (bb Tryz.f38),lM tt (fV (ma bc ah ad ag bF cU az)) (oq R bk) 1 a:=by
 refine kZ 1 (by kernel_rfl) fun i hi => ?_
 match i,hi with
 | 0,_=>exact fm (by kernel_rfl) (Cu _ ia)
 | n+1,hi=>omega
theorem E6 (R:Type):rR Tryz.prog 38 (BA (fc (R:=R))):=cQ TT mixed (FW (R:=R)) rfl rfl rfl rfl (Ea R) (G4 bc ah ad ag bF cU az bk)

/-! ### humpyard/json.Print -/
abbrev qV (R:Type):Type:=Json→(aj→Option R)→Option R
abbrev Dl:List ck := [.agg [.int .i64, .int .i64, .int .i64, .str, .sl .str, .sl .json]]
abbrev Dm:List aN := []
def Gr {R:Type} (fn:qV R):ck.aH Dl→aN.aH Dm→(V→aG→Option R)→Option R:=fun x y k=>fn (⟨x.1.1,⟨x.1.2.1,x.1.2.2.1⟩,x.1.2.2.2.1,x.1.2.2.2.2.1,x.1.2.2.2.2.2.1⟩:Json) (fun q0=>k (.str q0) [])
def Ie {R:Type} (fn:qV R):aF.Spec R→aF.Spec R:=bj Dl Dm (Gr fn)
def Ig {R:Type} (j1:qS R) (fc:lj R):List (uI R) := [(39,false,(CZ R)),(32,true,(H8 j1 aZ)),(38,false,(BA fc aZ))]
theorem Mk {R:Type}:eU (R:=R) Tryz.prog (Ig j1 fc) := .s (KS) FE <| .p (Km R _ (aK _)) <| .f (E6 R _ (aK _)) rfl <| .n
def Aa {R:Type} (j1:qS R) (fc:lj R) (x1:Json) (k0:aj→Option R):Option R :=
 j1 (⟨x1.kind,⟨x1.num.aB,x1.num.exp⟩,x1.text,x1.names,x1.items⟩:Json) (fun y2=>bif (!y2)then (k0 ([]:aj))else (fc (⟨x1.kind,⟨x1.num.aB,x1.num.exp⟩,x1.text,x1.names,x1.items⟩:Json) (fun y3=>k0 (r9 y3))))
def kf {R:Type}:qV R:=fun x1 k0=>Aa j1 fc x1 k0
theorem ND {R:Type} (j1:qS R) (fc:lj R):gR (R:=R) tt (Ig j1 fc) xw false Tryz.f17 (bb Tryz.f17) Dl Dm (Gr (Aa j1 fc)):=fun x y k=>by kernel_rfl
theorem Ko (R:Type):rR Tryz.prog 17 (Ie (kf (R:=R))):=cQ TT mixed (Mk (R:=R)) rfl rfl rfl rfl dV (ND j1 fc)

/-! ### humpyard/seal.Sum -/
abbrev vw (R:Type):Type:=aj→(Int→Option R)→Option R
abbrev G5:List ck := [.leaf (.str)]
abbrev G6:List aN := []
def JW {R:Type} (fn:vw R):ck.aH G5→aN.aH G6→(V→aG→Option R)→Option R:=fun x y k=>fn x.1 (fun q0=>k (.int .u32 q0) [])
def Ml {R:Type} (fn:vw R):aF.Spec R→aF.Spec R:=bj G5 G6 (JW fn)
abbrev n0 (R:Type):Type:=Nat→Int→Nat→Int→Int→(List Int)→(Int→Option R)→Option R
def wC {R:Type} (fC:Int→Nat→Int→Int→(List Int)→Option R) (x2:Int) (x3:Nat) (x4:Int) (x5:Int) (x6:List Int) (e0:Int→Option R):Option R :=
 bif (decide (x5<x4))then (cw (decide ((0:Int)≤x5)&&decide (x5<x3)) (cw (decide (x5.toNat<x6.length)) (fC (IntKind.u32.wrap ((IntKind.u32.wrap ((BitVec.ofInt IntKind.u32.bits x2 ^^^ BitVec.ofInt IntKind.u32.bits (IntKind.u32.wrap (x6.getD x5.toNat (Ty.bY (.int .u8))))).toNat:Int))*16777619)) x3 x4 (IntKind.i64.wrap (x5+1)) x6)))else (e0 x2)
def cY {R:Type}:n0 R
 | 0,_,_,_,_,_,_=>none
 | n+1,kN,kO,lN,th,BT,e0=>wC (fun kN kO lN th BT=>cY n kN kO lN th BT e0) kN kO lN th BT e0
def wD:Hint := { live := [3,7,8,9],own := [],rows := [],cells := [],drop := [],out := [2,3] }
abbrev lQ:Type:=Int × Nat × Int × Int × (List Int)
def sN:lQ→St:=fun d=>⟨U 3 (.int .u32 d.1::U 3 (.row 0 d.2.1 :: .int .i64 d.2.2.1 :: .int .i64 d.2.2.2.1::U 10 ([]))), [.row (.int .u8) d.2.2.2.2]⟩
def zc {R:Type} (K:Ex→St→Option R) (q0:Int):Option R:=K (.exit 0) ⟨U 3 (.int .u32 q0::U 16 ([])), []⟩
def AN {R:Type} (K:Ex→St→Option R) (rc:lQ→Option R) (d:lQ):Option R:=wC (fun z0 z1 z2 z3 z4=>rc (z0,z1,z2,z3,z4)) d.1 d.2.1 d.2.2.1 d.2.2.2.1 d.2.2.2.2 (zc K)
def pE {R:Type} (K:Ex→St→Option R) (n:Nat) (d:lQ):Option R:=cY n d.1 d.2.1 d.2.2.1 d.2.2.2.1 d.2.2.2.2 (zc K)
abbrev lR:List ck:=PU 3 (.leaf (.int .u32)::PU 3 (.leaf (.row 0) :: .leaf (.int .i64) :: .leaf (.int .i64)::PU 10 ([])))
abbrev lS:List aN := [.row (.int .u8)]
def AO (x:ck.aH lR) (y:aN.aH lS):Nat:=(Int.natAbs x.2.2.2.1+Int.natAbs x.2.2.2.2.2.2.2.2.1+Int.natAbs x.2.2.2.2.2.2.2.2.2.1+List.length y.1+64)
def AP (x:ck.aH lR) (y:aN.aH lS):lQ:=(x.2.2.2.1,x.2.2.2.2.2.2.2.1,x.2.2.2.2.2.2.2.2.1,x.2.2.2.2.2.2.2.2.2.1,y.1)
def zd {R:Type} (L:n0 R):ck.aH lR→aN.aH lS→(Ex→St→Option R)→Option R:=fun x y K=>L (AO x y) x.2.2.2.1 x.2.2.2.2.2.2.2.1 x.2.2.2.2.2.2.2.2.1 x.2.2.2.2.2.2.2.2.2.1 y.1 (zc K)
def AQ (R:Type) (cY:n0 R):Nat→Option (Hint × eJ R):=fun i=>match i with
 | 3=>some (wD,(fQ lR lS (zd cY) pr))
 | _=>none

theorem Ih {R:Type} (cY:n0 R) (K:Ex→St→Option R) (rc:St→Option R) (d:lQ):roundOf tt (fV []) (AQ R cY) 0 ((br (bb Tryz.f40)).getD 0 .skip) wD (sN d) rc K=AN K (fun d=>rc (sN d)) d:=by kernel_rfl
theorem FX {R:Type} (K:Ex→St→Option R) (n:Nat) (d:lQ):pE K (n+1) d=AN K (pE K n) d:=by kernel_rfl
theorem FY {R:Type} (K:Ex→St→Option R) (d:lQ):pE K 0 d=none:=by kernel_rfl
theorem Ii (x:ck.aH lR) (y:aN.aH lS):(⟨ck.cz lR x,aN.cz lS y⟩:St)=sN (AP x y):=by kernel_rfl
theorem Ij {R:Type} (x:ck.aH lR) (y:aN.aH lS) (K:Ex→St→Option R):zd (cY) x y K=pE K (AO x y) (AP x y):=by kernel_rfl
theorem Kp {R:Type} (other:eJ R) (ho:oa tt (fV []) (AQ R cY) 0 ((br (bb Tryz.f40)).getD 0 .skip) wD other):oa tt (fV []) (AQ R cY) 0 ((br (bb Tryz.f40)).getD 0 .skip) wD (fQ lR lS (zd (cY)) other) :=
 gd (A:=pE) ho (jt sN (AN) (pE) (FY) (Ih cY) (FX)) AO AP Ii (Ij)

def Mm {R:Type} (cY:n0 R) (x1:aj) (k0:Int→Option R):Option R :=
 cY (Int.natAbs 2166136261+Int.natAbs (x1.length:Int)+Int.natAbs 0+List.length (gD x1)+64) 2166136261 x1.length (x1.length:Int) 0 (gD x1) (fun y7=>k0 y7)
def ot {R:Type}:vw R:=fun x1 k0=>Mm cY x1 k0
theorem Ro {R:Type} (cY:n0 R):gR (R:=R) tt [] (AQ R cY) false Tryz.f40 (bb Tryz.f40) G5 G6 (JW (Mm cY)):=fun x y k=>by kernel_rfl
theorem Mn (R:Type):∀a∈br (bb Tryz.f40),lM tt (fV []) (AQ R cY) 0 a:=by
 refine kZ 1 (by kernel_rfl) fun i hi => ?_
 match i,hi with
 | 0,_=>exact fm (by kernel_rfl) (Kp _ ia)
 | n+1,hi=>omega
theorem NF (R:Type):rR Tryz.prog 40 (Ml (ot (R:=R))):=cQ TT mixed .n rfl rfl rfl rfl (Mn R) (Ro cY)

/-! ### humpyard/seal.Seal -/
abbrev mB (R:Type):Type:=aj→(aj→Option R)→Option R
abbrev E7:List ck := [.leaf (.str)]
abbrev E8:List aN := []
def Ik {R:Type} (fn:mB R):ck.aH E7→aN.aH E8→(V→aG→Option R)→Option R:=fun x y k=>fn x.1 (fun q0=>k (.str q0) [])
def E9 {R:Type} (fn:mB R):aF.Spec R→aF.Spec R:=bj E7 E8 (Ik fn)
def JX {R:Type} (ot:vw R):List (uI R) := [(40,true,(Ml ot aZ))]
theorem NG {R:Type}:eU (R:=R) Tryz.prog (JX ot) := .p (NF R _ (aK _)) <| .n
def BB {R:Type} (ot:vw R) (x1:aj) (k0:aj→Option R):Option R :=
 ot x1 (fun y2=>cw (decide ((0:Int)≤(IntKind.u32.wrap ((BitVec.ofInt IntKind.u32.bits y2 &&& BitVec.ofInt IntKind.u32.bits 15).toNat:Int)))&&decide ((IntKind.u32.wrap ((BitVec.ofInt IntKind.u32.bits y2 &&& BitVec.ofInt IntKind.u32.bits 15).toNat:Int))<(16:Int))) (cw (decide ((0:Int)≤(IntKind.u32.wrap ((BitVec.ofInt IntKind.u32.bits (Int.fdiv y2 (2 ^ (min 4 IntKind.u32.bits))) &&& BitVec.ofInt IntKind.u32.bits 15).toNat:Int)))&&decide ((IntKind.u32.wrap ((BitVec.ofInt IntKind.u32.bits (Int.fdiv y2 (2 ^ (min 4 IntKind.u32.bits))) &&& BitVec.ofInt IntKind.u32.bits 15).toNat:Int))<(16:Int))) (cw (decide ((0:Int)≤(IntKind.u32.wrap ((BitVec.ofInt IntKind.u32.bits (Int.fdiv (Int.fdiv y2 (2 ^ (min 4 IntKind.u32.bits))) (2 ^ (min 4 IntKind.u32.bits))) &&& BitVec.ofInt IntKind.u32.bits 15).toNat:Int)))&&decide ((IntKind.u32.wrap ((BitVec.ofInt IntKind.u32.bits (Int.fdiv (Int.fdiv y2 (2 ^ (min 4 IntKind.u32.bits))) (2 ^ (min 4 IntKind.u32.bits))) &&& BitVec.ofInt IntKind.u32.bits 15).toNat:Int))<(16:Int))) (cw (decide ((0:Int)≤(IntKind.u32.wrap ((BitVec.ofInt IntKind.u32.bits (Int.fdiv (Int.fdiv (Int.fdiv y2 (2 ^ (min 4 IntKind.u32.bits))) (2 ^ (min 4 IntKind.u32.bits))) (2 ^ (min 4 IntKind.u32.bits))) &&& BitVec.ofInt IntKind.u32.bits 15).toNat:Int)))&&decide ((IntKind.u32.wrap ((BitVec.ofInt IntKind.u32.bits (Int.fdiv (Int.fdiv (Int.fdiv y2 (2 ^ (min 4 IntKind.u32.bits))) (2 ^ (min 4 IntKind.u32.bits))) (2 ^ (min 4 IntKind.u32.bits))) &&& BitVec.ofInt IntKind.u32.bits 15).toNat:Int))<(16:Int))) (cw (decide ((0:Int)≤(IntKind.u32.wrap ((BitVec.ofInt IntKind.u32.bits (Int.fdiv (Int.fdiv (Int.fdiv (Int.fdiv y2 (2 ^ (min 4 IntKind.u32.bits))) (2 ^ (min 4 IntKind.u32.bits))) (2 ^ (min 4 IntKind.u32.bits))) (2 ^ (min 4 IntKind.u32.bits))) &&& BitVec.ofInt IntKind.u32.bits 15).toNat:Int)))&&decide ((IntKind.u32.wrap ((BitVec.ofInt IntKind.u32.bits (Int.fdiv (Int.fdiv (Int.fdiv (Int.fdiv y2 (2 ^ (min 4 IntKind.u32.bits))) (2 ^ (min 4 IntKind.u32.bits))) (2 ^ (min 4 IntKind.u32.bits))) (2 ^ (min 4 IntKind.u32.bits))) &&& BitVec.ofInt IntKind.u32.bits 15).toNat:Int))<(16:Int))) (cw (decide ((0:Int)≤(IntKind.u32.wrap ((BitVec.ofInt IntKind.u32.bits (Int.fdiv (Int.fdiv (Int.fdiv (Int.fdiv (Int.fdiv y2 (2 ^ (min 4 IntKind.u32.bits))) (2 ^ (min 4 IntKind.u32.bits))) (2 ^ (min 4 IntKind.u32.bits))) (2 ^ (min 4 IntKind.u32.bits))) (2 ^ (min 4 IntKind.u32.bits))) &&& BitVec.ofInt IntKind.u32.bits 15).toNat:Int)))&&decide ((IntKind.u32.wrap ((BitVec.ofInt IntKind.u32.bits (Int.fdiv (Int.fdiv (Int.fdiv (Int.fdiv (Int.fdiv y2 (2 ^ (min 4 IntKind.u32.bits))) (2 ^ (min 4 IntKind.u32.bits))) (2 ^ (min 4 IntKind.u32.bits))) (2 ^ (min 4 IntKind.u32.bits))) (2 ^ (min 4 IntKind.u32.bits))) &&& BitVec.ofInt IntKind.u32.bits 15).toNat:Int))<(16:Int))) (cw (decide ((0:Int)≤(IntKind.u32.wrap ((BitVec.ofInt IntKind.u32.bits (Int.fdiv (Int.fdiv (Int.fdiv (Int.fdiv (Int.fdiv (Int.fdiv y2 (2 ^ (min 4 IntKind.u32.bits))) (2 ^ (min 4 IntKind.u32.bits))) (2 ^ (min 4 IntKind.u32.bits))) (2 ^ (min 4 IntKind.u32.bits))) (2 ^ (min 4 IntKind.u32.bits))) (2 ^ (min 4 IntKind.u32.bits))) &&& BitVec.ofInt IntKind.u32.bits 15).toNat:Int)))&&decide ((IntKind.u32.wrap ((BitVec.ofInt IntKind.u32.bits (Int.fdiv (Int.fdiv (Int.fdiv (Int.fdiv (Int.fdiv (Int.fdiv y2 (2 ^ (min 4 IntKind.u32.bits))) (2 ^ (min 4 IntKind.u32.bits))) (2 ^ (min 4 IntKind.u32.bits))) (2 ^ (min 4 IntKind.u32.bits))) (2 ^ (min 4 IntKind.u32.bits))) (2 ^ (min 4 IntKind.u32.bits))) &&& BitVec.ofInt IntKind.u32.bits 15).toNat:Int))<(16:Int))) (cw (decide ((0:Int)≤(IntKind.u32.wrap ((BitVec.ofInt IntKind.u32.bits (Int.fdiv (Int.fdiv (Int.fdiv (Int.fdiv (Int.fdiv (Int.fdiv (Int.fdiv y2 (2 ^ (min 4 IntKind.u32.bits))) (2 ^ (min 4 IntKind.u32.bits))) (2 ^ (min 4 IntKind.u32.bits))) (2 ^ (min 4 IntKind.u32.bits))) (2 ^ (min 4 IntKind.u32.bits))) (2 ^ (min 4 IntKind.u32.bits))) (2 ^ (min 4 IntKind.u32.bits))) &&& BitVec.ofInt IntKind.u32.bits 15).toNat:Int)))&&decide ((IntKind.u32.wrap ((BitVec.ofInt IntKind.u32.bits (Int.fdiv (Int.fdiv (Int.fdiv (Int.fdiv (Int.fdiv (Int.fdiv (Int.fdiv y2 (2 ^ (min 4 IntKind.u32.bits))) (2 ^ (min 4 IntKind.u32.bits))) (2 ^ (min 4 IntKind.u32.bits))) (2 ^ (min 4 IntKind.u32.bits))) (2 ^ (min 4 IntKind.u32.bits))) (2 ^ (min 4 IntKind.u32.bits))) (2 ^ (min 4 IntKind.u32.bits))) &&& BitVec.ofInt IntKind.u32.bits 15).toNat:Int))<(16:Int))) (cw (decide (x1.length+1≤9223372036854775807)) (cw (decide ((x1++([35]:aj)).length+(List.map (fun n:Int=>UInt8.ofNat n.toNat) ([((([48,49,50,51,52,53,54,55,56,57,97,98,99,100,101,102]:aj).getD ((IntKind.u32.wrap ((BitVec.ofInt IntKind.u32.bits (Int.fdiv (Int.fdiv (Int.fdiv (Int.fdiv (Int.fdiv (Int.fdiv (Int.fdiv y2 (2 ^ (min 4 IntKind.u32.bits))) (2 ^ (min 4 IntKind.u32.bits))) (2 ^ (min 4 IntKind.u32.bits))) (2 ^ (min 4 IntKind.u32.bits))) (2 ^ (min 4 IntKind.u32.bits))) (2 ^ (min 4 IntKind.u32.bits))) (2 ^ (min 4 IntKind.u32.bits))) &&& BitVec.ofInt IntKind.u32.bits 15).toNat:Int)).toNat) 0).toNat:Int),((([48,49,50,51,52,53,54,55,56,57,97,98,99,100,101,102]:aj).getD ((IntKind.u32.wrap ((BitVec.ofInt IntKind.u32.bits (Int.fdiv (Int.fdiv (Int.fdiv (Int.fdiv (Int.fdiv (Int.fdiv y2 (2 ^ (min 4 IntKind.u32.bits))) (2 ^ (min 4 IntKind.u32.bits))) (2 ^ (min 4 IntKind.u32.bits))) (2 ^ (min 4 IntKind.u32.bits))) (2 ^ (min 4 IntKind.u32.bits))) (2 ^ (min 4 IntKind.u32.bits))) &&& BitVec.ofInt IntKind.u32.bits 15).toNat:Int)).toNat) 0).toNat:Int),((([48,49,50,51,52,53,54,55,56,57,97,98,99,100,101,102]:aj).getD ((IntKind.u32.wrap ((BitVec.ofInt IntKind.u32.bits (Int.fdiv (Int.fdiv (Int.fdiv (Int.fdiv (Int.fdiv y2 (2 ^ (min 4 IntKind.u32.bits))) (2 ^ (min 4 IntKind.u32.bits))) (2 ^ (min 4 IntKind.u32.bits))) (2 ^ (min 4 IntKind.u32.bits))) (2 ^ (min 4 IntKind.u32.bits))) &&& BitVec.ofInt IntKind.u32.bits 15).toNat:Int)).toNat) 0).toNat:Int),((([48,49,50,51,52,53,54,55,56,57,97,98,99,100,101,102]:aj).getD ((IntKind.u32.wrap ((BitVec.ofInt IntKind.u32.bits (Int.fdiv (Int.fdiv (Int.fdiv (Int.fdiv y2 (2 ^ (min 4 IntKind.u32.bits))) (2 ^ (min 4 IntKind.u32.bits))) (2 ^ (min 4 IntKind.u32.bits))) (2 ^ (min 4 IntKind.u32.bits))) &&& BitVec.ofInt IntKind.u32.bits 15).toNat:Int)).toNat) 0).toNat:Int),((([48,49,50,51,52,53,54,55,56,57,97,98,99,100,101,102]:aj).getD ((IntKind.u32.wrap ((BitVec.ofInt IntKind.u32.bits (Int.fdiv (Int.fdiv (Int.fdiv y2 (2 ^ (min 4 IntKind.u32.bits))) (2 ^ (min 4 IntKind.u32.bits))) (2 ^ (min 4 IntKind.u32.bits))) &&& BitVec.ofInt IntKind.u32.bits 15).toNat:Int)).toNat) 0).toNat:Int),((([48,49,50,51,52,53,54,55,56,57,97,98,99,100,101,102]:aj).getD ((IntKind.u32.wrap ((BitVec.ofInt IntKind.u32.bits (Int.fdiv (Int.fdiv y2 (2 ^ (min 4 IntKind.u32.bits))) (2 ^ (min 4 IntKind.u32.bits))) &&& BitVec.ofInt IntKind.u32.bits 15).toNat:Int)).toNat) 0).toNat:Int),((([48,49,50,51,52,53,54,55,56,57,97,98,99,100,101,102]:aj).getD ((IntKind.u32.wrap ((BitVec.ofInt IntKind.u32.bits (Int.fdiv y2 (2 ^ (min 4 IntKind.u32.bits))) &&& BitVec.ofInt IntKind.u32.bits 15).toNat:Int)).toNat) 0).toNat:Int),((([48,49,50,51,52,53,54,55,56,57,97,98,99,100,101,102]:aj).getD ((IntKind.u32.wrap ((BitVec.ofInt IntKind.u32.bits y2 &&& BitVec.ofInt IntKind.u32.bits 15).toNat:Int)).toNat) 0).toNat:Int)]:List Int):aj).length≤9223372036854775807)) (k0 ((x1++([35]:aj))++(List.map (fun n:Int=>UInt8.ofNat n.toNat) ([((([48,49,50,51,52,53,54,55,56,57,97,98,99,100,101,102]:aj).getD ((IntKind.u32.wrap ((BitVec.ofInt IntKind.u32.bits (Int.fdiv (Int.fdiv (Int.fdiv (Int.fdiv (Int.fdiv (Int.fdiv (Int.fdiv y2 (2 ^ (min 4 IntKind.u32.bits))) (2 ^ (min 4 IntKind.u32.bits))) (2 ^ (min 4 IntKind.u32.bits))) (2 ^ (min 4 IntKind.u32.bits))) (2 ^ (min 4 IntKind.u32.bits))) (2 ^ (min 4 IntKind.u32.bits))) (2 ^ (min 4 IntKind.u32.bits))) &&& BitVec.ofInt IntKind.u32.bits 15).toNat:Int)).toNat) 0).toNat:Int),((([48,49,50,51,52,53,54,55,56,57,97,98,99,100,101,102]:aj).getD ((IntKind.u32.wrap ((BitVec.ofInt IntKind.u32.bits (Int.fdiv (Int.fdiv (Int.fdiv (Int.fdiv (Int.fdiv (Int.fdiv y2 (2 ^ (min 4 IntKind.u32.bits))) (2 ^ (min 4 IntKind.u32.bits))) (2 ^ (min 4 IntKind.u32.bits))) (2 ^ (min 4 IntKind.u32.bits))) (2 ^ (min 4 IntKind.u32.bits))) (2 ^ (min 4 IntKind.u32.bits))) &&& BitVec.ofInt IntKind.u32.bits 15).toNat:Int)).toNat) 0).toNat:Int),((([48,49,50,51,52,53,54,55,56,57,97,98,99,100,101,102]:aj).getD ((IntKind.u32.wrap ((BitVec.ofInt IntKind.u32.bits (Int.fdiv (Int.fdiv (Int.fdiv (Int.fdiv (Int.fdiv y2 (2 ^ (min 4 IntKind.u32.bits))) (2 ^ (min 4 IntKind.u32.bits))) (2 ^ (min 4 IntKind.u32.bits))) (2 ^ (min 4 IntKind.u32.bits))) (2 ^ (min 4 IntKind.u32.bits))) &&& BitVec.ofInt IntKind.u32.bits 15).toNat:Int)).toNat) 0).toNat:Int),((([48,49,50,51,52,53,54,55,56,57,97,98,99,100,101,102]:aj).getD ((IntKind.u32.wrap ((BitVec.ofInt IntKind.u32.bits (Int.fdiv (Int.fdiv (Int.fdiv (Int.fdiv y2 (2 ^ (min 4 IntKind.u32.bits))) (2 ^ (min 4 IntKind.u32.bits))) (2 ^ (min 4 IntKind.u32.bits))) (2 ^ (min 4 IntKind.u32.bits))) &&& BitVec.ofInt IntKind.u32.bits 15).toNat:Int)).toNat) 0).toNat:Int),((([48,49,50,51,52,53,54,55,56,57,97,98,99,100,101,102]:aj).getD ((IntKind.u32.wrap ((BitVec.ofInt IntKind.u32.bits (Int.fdiv (Int.fdiv (Int.fdiv y2 (2 ^ (min 4 IntKind.u32.bits))) (2 ^ (min 4 IntKind.u32.bits))) (2 ^ (min 4 IntKind.u32.bits))) &&& BitVec.ofInt IntKind.u32.bits 15).toNat:Int)).toNat) 0).toNat:Int),((([48,49,50,51,52,53,54,55,56,57,97,98,99,100,101,102]:aj).getD ((IntKind.u32.wrap ((BitVec.ofInt IntKind.u32.bits (Int.fdiv (Int.fdiv y2 (2 ^ (min 4 IntKind.u32.bits))) (2 ^ (min 4 IntKind.u32.bits))) &&& BitVec.ofInt IntKind.u32.bits 15).toNat:Int)).toNat) 0).toNat:Int),((([48,49,50,51,52,53,54,55,56,57,97,98,99,100,101,102]:aj).getD ((IntKind.u32.wrap ((BitVec.ofInt IntKind.u32.bits (Int.fdiv y2 (2 ^ (min 4 IntKind.u32.bits))) &&& BitVec.ofInt IntKind.u32.bits 15).toNat:Int)).toNat) 0).toNat:Int),((([48,49,50,51,52,53,54,55,56,57,97,98,99,100,101,102]:aj).getD ((IntKind.u32.wrap ((BitVec.ofInt IntKind.u32.bits y2 &&& BitVec.ofInt IntKind.u32.bits 15).toNat:Int)).toNat) 0).toNat:Int)]:List Int):aj)))))))))))))
def fe {R:Type}:mB R:=fun x1 k0=>BB ot x1 k0
theorem PQ {R:Type} (ot:vw R):gR (R:=R) tt (JX ot) xw false Tryz.f18 (bb Tryz.f18) E7 E8 (Ik (BB ot)):=fun x y k=>by kernel_rfl
theorem Fa (R:Type):rR Tryz.prog 18 (E9 (fe (R:=R))):=cQ TT mixed (NG (R:=R)) rfl rfl rfl rfl dV (PQ ot)

/-! ### humpyard/seal.Open -/
abbrev sO (R:Type):Type:=aj→(aj→Int→Option R)→Option R
abbrev Fb:List ck := [.leaf (.str)]
abbrev Fc:List aN := []
def Il {R:Type} (fn:sO R):ck.aH Fb→aN.aH Fc→(V→aG→Option R)→Option R:=fun x y k=>fn x.1 (fun q0 q1=>k (.tuple [.str q0, .int .i64 q1]) [])
def JY {R:Type} (fn:sO R):aF.Spec R→aF.Spec R:=bj Fb Fc (Il fn)
def JZ {R:Type} (fe:mB R):List (uI R) := [(18,true,(E9 fe aZ)),(41,true,(PJ R))]
theorem NH {R:Type}:eU (R:=R) Tryz.prog (JZ fe) := .p (Fa R _ (aK _)) <| .p (Zd) <| .n
def BC {R:Type} (fe:mB R) (x1:aj) (k0:aj→Int→Option R):Option R :=
 cw (decide (x1.length≤281474976710656)) (bif (decide ((yt x1 35)<(0:Int)))then (k0 ([]:aj) 60)else (cw (decide ((0:Int)≤(yt x1 35))&&decide ((yt x1 35)≤x1.length)) (cw (decide ((0:Int)≤(yt x1 35))) (fe ((x1.drop 0).take ((yt x1 35).toNat - 0)) (fun y2=>bif (!(y2==x1))then (k0 ([]:aj) 60)else (cw (decide ((0:Int)≤(yt x1 35))&&decide ((yt x1 35)≤x1.length)) (cw (decide ((0:Int)≤(yt x1 35))) (k0 ((x1.drop 0).take ((yt x1 35).toNat - 0)) 0))))))))
def lk {R:Type}:sO R:=fun x1 k0=>BC fe x1 k0
theorem PR {R:Type} (fe:mB R):gR (R:=R) tt (JZ fe) xw false Tryz.f19 (bb Tryz.f19) Fb Fc (Il (BC fe)):=fun x y k=>by kernel_rfl
theorem Mo (R:Type):rR Tryz.prog 19 (JY (lk (R:=R))):=cQ TT mixed (NH (R:=R)) rfl rfl rfl rfl dV (PR fe)

end Go.Proofs.YtmlkkgfenfdndaaGreatDoor

set_option maxRecDepth 100000
namespace Go.Proofs.YtmlkkgfenfdndaaGreatDoor
open Go Go.aF Go.Lib

theorem w32 (n:Nat):IntKind.u32.wrap (n:Int)=((n % 4294967296:Nat):Int):=by
 show ((n:Int) % 4294967296)=_
 omega
theorem of32 (n:Nat):(BitVec.ofInt IntKind.u32.bits (n:Int)).toNat=n % 4294967296:=by
 rw[BitVec.toNat_ofInt]
 show ((n:Int) % ((4294967296:Nat):Int)).toNat=_
 omega
theorem xor32 (h c:Nat) (hh:h<4294967296) (c8:UInt8) (hc:c=c8.toNat):IntKind.u32.wrap ((BitVec.ofInt IntKind.u32.bits (h:Int) ^^^ BitVec.ofInt IntKind.u32.bits (c:Int)).toNat:Int)=((h ^^^ c8.toNat:Nat):Int):=by
 have h8:=UInt8.toNat_lt c8
 subst hc
 rw[BitVec.toNat_xor,of32,of32,Nat.mod_eq_of_lt hh,Nat.mod_eq_of_lt (by omega),w32,Nat.mod_eq_of_lt (L4 hh c8)]
theorem step32 (h:Nat) (hh:h<4294967296) (c:UInt8):IntKind.u32.wrap ((IntKind.u32.wrap ((BitVec.ofInt IntKind.u32.bits (h:Int) ^^^ BitVec.ofInt IntKind.u32.bits (IntKind.u32.wrap (c.toNat:Int))).toNat:Int))*16777619)=((v7 h c:Nat):Int):=by
 have h8:=UInt8.toNat_lt c
 rw[w32 c.toNat,Nat.mod_eq_of_lt (by omega),xor32 h c.toNat hh c rfl]
 have e:(((h ^^^ c.toNat:Nat):Int)*16777619)=(((h ^^^ c.toNat)*16777619:Nat):Int):=by rw[Int.natCast_mul]; rfl
 rw[e,w32]
 rfl
theorem Zh {R:Type} (s:aj) (hs:s.length≤1099511627785) (e0:Int→Option R):∀(F i h:Nat),i≤s.length→s.length - i<F→h<4294967296→cY F (h:Int) s.length (s.length:Int) (i:Int) (gD s) e0=e0 ((FQ (s.drop i) h:Nat):Int):=by
 intro F
 induction F with
 | zero=>intro i h _ hF; omega
 | succ F ih =>
  intro i h hi hF hh
  show wC (fun x0 x1 x2 x3 x4=>cY F x0 x1 x2 x3 x4 e0) (h:Int) s.length (s.length:Int) (i:Int) (gD s) e0=_
  unfold wC
  by_cases hl:i<s.length
  rotate_left
  ·rw[cI (show ¬(i:Int)<(s.length:Int) by omega),cond_false,List.drop_eq_nil_of_le (by omega)]
   unfold FQ
   rw[List.foldl_nil]
  have hw:IntKind.i64.wrap ((i:Int)+1)=((i+1:Nat):Int):=by rw[dx (by omega) (by omega)]; omega
  have hg:(gD s).getD (i:Int).toNat (Ty.bY (.int .u8))=(s[i].toNat:Int):=by
   have e1:((s.map fun b=>(b.toNat:Int)):List Int).getD i 0=(s[i].toNat:Int):=by
    rw[List.getD_eq_getElem?_getD,List.getElem?_map,List.getElem?_eq_getElem hl]
    rfl
   exact e1
  rw[bf (show (i:Int)<(s.length:Int) by omega),cond_true,aL (by rw[bf (show (0:Int)≤(i:Int) by omega)]; rfl),aL (bf (by rw[Int.toNat_natCast,Cs,Dg]; exact hl)),hg,step32 h hh,hw]
  refine (ih (i+1) _ (by omega) (by omega) (xx h s[i])).trans ?_
  rw[List.drop_eq_getElem_cons hl,Cm]
theorem sum_ok {R:Type} (s:aj) (hs:s.length≤1099511627785) (k:Int→Option R):ot s k=k ((Kc s:Nat):Int):=by
 have e:ot s k=cY (Int.natAbs 2166136261+Int.natAbs (s.length:Int)+Int.natAbs 0+List.length (gD s)+64) ((2166136261:Nat):Int) s.length (s.length:Int) ((0:Nat):Int) (gD s) (fun y7=>k y7):=rfl
 rw[e,Zh s hs _ _ 0 _ (by omega) (by omega) (by decide),List.drop_zero]
 rfl

theorem shr4 (n:Nat):Int.fdiv (n:Int) (2 ^ (min 4 IntKind.u32.bits))=((n / 16:Nat):Int):=by
 show Int.fdiv (n:Int) 16=_
 rw[Int.fdiv_eq_ediv_of_nonneg _ (by decide)]
 omega
theorem and15u (n:Nat):IntKind.u32.wrap ((BitVec.ofInt IntKind.u32.bits (n:Int) &&& BitVec.ofInt IntKind.u32.bits 15).toNat:Int)=((n % 16:Nat):Int):=by
 have h2:(BitVec.ofInt IntKind.u32.bits 15).toNat=15:=by decide
 rw[BitVec.toNat_and,of32,h2]
 have h3:(n % 4294967296) &&& 15=(n % 4294967296) % 16:=Nat.and_two_pow_sub_one_eq_mod _ 4
 rw[h3,w32]
 omega
theorem in16 (n:Nat):(decide ((0:Int)≤((n % 16:Nat):Int))&&decide (((n % 16:Nat):Int)<(16:Int)))=true:=by
 rw[bf (by omega),bf (by omega)]; rfl
theorem UF {R:Type} (s:aj) (hs:s.length≤1099511627776) (k:aj→Option R):fe s k=k (iV s):=by
 have e:fe s k=BB ot s k:=rfl
 rw[e]
 unfold BB
 rw[sum_ok s (by omega)]
 have hH:=PD s 2166136261 (by decide)
 unfold iV HO
 unfold Kc
 generalize FQ s 2166136261=H at hH
 simp only[shr4,and15u,in16,cw,cond_true,Int.toNat_natCast]
 rw[bf (show s.length+1≤9223372036854775807 by omega),cond_true,bf (by simp only[List.length_append,List.length_map,List.length_cons,List.length_nil]; omega),cond_true]
 congr 1
 rw[List.append_assoc]
 congr 1
 simp only[List.map_cons,List.map_nil,Int.toNat_natCast,UInt8.ofNat_toNat,List.singleton_append,Xc,hxS,Nat.div_div_eq_div_mul]

theorem last_cases (s:aj):(yt s 35 = -1∧∀x∈s,x≠35)∨∃i:Nat,∃h:i<s.length,yt s 35=(i:Int)∧s[i]=35∧∀j (hj:j<s.length),i<j→s[j]≠35:=by
 have yR:∀j (h:j<s.length),(⟨s.toArray⟩:ByteArray).data[j]! = s[j]:=fun j h=>by
  show s.toArray[j]! = s[j]
  rw[getElem!_pos _ _ (by simpa using h)]
  simp
 have oJ:(⟨s.toArray⟩:ByteArray).size=s.length:=by show s.toArray.size=_; simp
 have h35:∀x:UInt8,((x.toNat:Int)=((35:UInt8).toNat:Int))↔x=35:=fun x=>by
  constructor
  ·intro h; exact UInt8.toNat_inj.1 (by omega)
  ·rintro rfl; rfl
 unfold yt
 rcases Go.Lib.lastIndexByte_spec ⟨s.toArray⟩ ((35:UInt8).toNat:Int)with ⟨h1,h2⟩|⟨i,h1,h2,h3,h4⟩
 ·refine .inl ⟨h1,fun x hx => ?_⟩
  obtain ⟨j,hj,rfl⟩:=List.getElem_of_mem hx
  have:=h2 j (by rw[oJ]; exact hj)
  rw[yR j hj]at this
  exact fun e=>this ((h35 _).2 e)
 ·rw[oJ]at h1
  refine .inr ⟨i,h1,h2,?_,fun j hj vm => ?_⟩
  ·rw[yR i h1]at h3
   exact (h35 _).1 h3
  ·have:=h4 j vm (by rw[oJ]; exact hj)
   rw[yR j hj]at this
   exact fun e=>this ((h35 _).2 e)
theorem UG (t:aj):∃h:t.length<(iV t).length,(iV t)[t.length]=35∧∀j (hj:j<(iV t).length),t.length<j→(iV t)[j]≠35:=by
 have hl:=xy t
 refine ⟨by omega,?_,fun j hj vm => ?_⟩
 ·simp[iV]
 ·have hm:(iV t)[j]∈HO (Kc t):=by
   obtain ⟨m,rfl⟩:∃m,j=t.length+(m+1):=⟨j - t.length - 1,by omega⟩
   have e:(iV t)[t.length+(m+1)]? = (HO (Kc t))[m]? :=by
    unfold iV
    rw[List.getElem?_append_right (by omega),Nat.add_sub_cancel_left,List.getElem?_cons_succ]
   rw[List.getElem?_eq_getElem hj]at e
   exact List.mem_of_getElem? e.symm
  exact hex8_ne _ _ hm
theorem UH {R:Type} (s:aj) (hs:s.length≤1099511627776) (k:aj→Int→Option R):lk s k=match DP s with|some t=>k t 0|none=>k [] 60:=by
 have e:lk s k=BC fe s k:=rfl
 rw[e]
 unfold BC
 rw[aL (bf (by omega))]
 rcases last_cases s with ⟨h1,h2⟩|⟨i,hi,h1,h2,h3⟩
 ·rw[h1]
  have:DP s=none:=by
   cases ho:DP s with
   | none=>rfl
   | some t =>
    exfalso
    have e:=Jh ho
    obtain ⟨g1,g2,_⟩:=UG t
    exact h2 35 (by rw[e,←g2]; exact List.getElem_mem _) rfl
  rw[this]
  rfl
 ·rw[h1]
  rw[cI (show ¬(i:Int)<0 by omega),cond_false]
  have c1:(decide ((0:Int)≤(i:Int))&&decide ((i:Int)≤(s.length:Int)))=true:=by rw[bf (by omega),bf (by omega)]; rfl
  have c2:decide ((0:Int)≤(i:Int))=true:=bf (by omega)
  rw[aL c1,aL c2,Int.toNat_natCast,List.drop_zero,Nat.sub_zero,UF _ (by rw[List.length_take]; omega)]
  by_cases hq:iV (s.take i)=s
  ·have b1:(!(iV (s.take i)==s))=false:=by simp[hq]
   have ho:DP s=some (s.take i):=by rw[←hq,Oi,hq]
   rw[b1,cond_false,aL c1,aL c2,ho]
  ·have b1:(!(iV (s.take i)==s))=true:=by simpa using hq
   rw[b1,cond_true]
   have ho:DP s=none:=by
    cases ho:DP s with
    | none=>rfl
    | some t =>
     exfalso
     have e:=Jh ho
     obtain ⟨g1,g2,g3⟩:=UG t
     have hit:i=t.length:=by
      subst e
      rcases Nat.lt_trichotomy i t.length with h|h|h
      ·exact (h3 t.length g1 h g2).elim
      ·exact h
      ·exact (g3 i hi h h2).elim
     apply hq
     rw[e,hit]
     congr 1
     unfold iV
     simp
   rw[ho]
end Go.Proofs.YtmlkkgfenfdndaaGreatDoor

set_option maxRecDepth 100000
namespace Go.Proofs.YtmlkkgfenfdndaaGreatDoor
open Go Go.aF
end Go.Proofs.YtmlkkgfenfdndaaGreatDoor

namespace Go.Proofs.YtmlkkgfenfdndaaGreatDoor
open Go Go.aF

end Go.Proofs.YtmlkkgfenfdndaaGreatDoor

/-
 Functions of the program as pure Lean functions, and the ties; printed by wip/tools/emit.py.
-/
set_option maxRecDepth 100000
namespace Go.Proofs.YtmlkkgfenfdndaaGreatDoor
open Go Go.aF

/-! ### humpyard/lexer.while -/
abbrev hP (R:Type):Type:=aj→aj→(aj→Option R)→Option R
abbrev BU:List ck := [.leaf (.str), .leaf (.str)]
abbrev BV:List aN := []
def Fe {R:Type} (fn:hP R):ck.aH BU→aN.aH BV→(V→aG→Option R)→Option R:=fun x y k=>fn x.1 x.2.1 (fun q0=>k (.str q0) [])
def BW {R:Type} (fn:hP R):aF.Spec R→aF.Spec R:=bj BU BV (Fe fn)
def Gs {R:Type}:List (uI R) := [(68,true,(HP R))]
theorem Kq {R:Type}:eU (R:=R) Tryz.prog (Gs (R:=R)) := .p (L8) <| .n
def yl {R:Type} (x1:aj) (x2:aj) (k0:aj→Option R):Option R :=
 cw (sY x2&&decide (x2.length<4294967281)) (cw (decide ((0:Int)≤(IntKind.i64.wrap ((x1.length:Int) - ((bG x1 x2).length:Int))))&&decide ((IntKind.i64.wrap ((x1.length:Int) - ((bG x1 x2).length:Int)))≤x1.length)) (cw (decide ((0:Int)≤(IntKind.i64.wrap ((x1.length:Int) - ((bG x1 x2).length:Int))))) (k0 ((x1.drop 0).take ((IntKind.i64.wrap ((x1.length:Int) - ((bG x1 x2).length:Int))).toNat - 0)))))
def bX {R:Type}:hP R:=fun x1 x2 k0=>yl x1 x2 k0
theorem Mp {R:Type}:gR (R:=R) tt (Gs (R:=R)) xw false Tryz.f47 (bb Tryz.f47) BU BV (Fe yl):=fun x y k=>by kernel_rfl
theorem Cv (R:Type):rR Tryz.prog 47 (BW (bX (R:=R))):=cQ TT mixed (Kq (R:=R)) rfl rfl rfl rfl dV (Mp)

/-! ### (*humpyard/decimal.reader).sign -/
abbrev dy (R:Type):Type:=aj→aj→(Int→aj→Option R)→Option R
abbrev nt:List ck := [.leaf (.ptr 0 0), .leaf (.str)]
abbrev nu:List aN := [.cells [.str]]
def rG {R:Type} (fn:dy R):ck.aH nt→aN.aH nu→(V→aG→Option R)→Option R:=fun x y k=>fn x.2.1 y.1.1 (fun q0 q1=>k (.int .u8 q0) [.cells [.str q1]])
def nv {R:Type} (fn:dy R):aF.Spec R→aF.Spec R:=bj nt nu (rG fn)
def sf {R:Type}:List (uI R) := [(71,true,(Uy R))]
theorem ze {R:Type}:eU (R:=R) Tryz.prog (sf (R:=R)) := .p (Zc) <| .n
def kg {R:Type} (x1:aj) (x2:aj) (k0:Int→aj→Option R):Option R :=
 bif (x2==([]:aj))then (k0 0 x2)else (cw (decide ((0:Int)<x2.length)) (bif (decide ((yg x1 ((x2.getD 0 0).toNat:Int))<(0:Int)))then (k0 0 x2)else (cw (decide ((0:Int)<x2.length)) (cw (decide ((0:Int)≤(x2.length:Int))&&decide ((x2.length:Int)≤x2.length)) (cw (decide ((1:Int)≤(x2.length:Int))) (k0 ((x2.getD 0 0).toNat:Int) ((x2.drop 1).take ((x2.length:Int).toNat - 1))))))))
def aS {R:Type}:dy R:=fun x1 x2 k0=>kg x1 x2 k0
theorem Ab {R:Type}:gR (R:=R) tt (sf (R:=R)) xw false Tryz.f101 (bb Tryz.f101) nt nu (rG kg):=fun x y k=>by kernel_rfl
theorem p6 (R:Type):rR Tryz.prog 101 (nv (aS (R:=R))):=cQ TT mixed (ze (R:=R)) rfl rfl rfl rfl dV (Ab)

/-! ### (*humpyard/decimal.reader).digits -/
abbrev de (R:Type):Type:=aj→(aj→aj→Option R)→Option R
abbrev me:List ck := [.leaf (.ptr 0 0)]
abbrev mf:List aN := [.cells [.str]]
def p7 {R:Type} (fn:de R):ck.aH me→aN.aH mf→(V→aG→Option R)→Option R:=fun x y k=>fn y.1.1 (fun q0 q1=>k (.str q0) [.cells [.str q1]])
def mg {R:Type} (fn:de R):aF.Spec R→aF.Spec R:=bj me mf (p7 fn)
def qG {R:Type}:List (uI R) := [(68,true,(HP R))]
theorem xK {R:Type}:eU (R:=R) Tryz.prog (qG (R:=R)) := .p (L8) <| .n
def je {R:Type} (x1:aj) (k0:aj→aj→Option R):Option R :=
 cw (sY ([48,49,50,51,52,53,54,55,56,57]:aj)&&decide (([48,49,50,51,52,53,54,55,56,57]:aj).length<4294967281)) (cw (decide ((0:Int)≤(IntKind.i64.wrap ((x1.length:Int) - ((bG x1 ([48,49,50,51,52,53,54,55,56,57]:aj)).length:Int))))&&decide ((IntKind.i64.wrap ((x1.length:Int) - ((bG x1 ([48,49,50,51,52,53,54,55,56,57]:aj)).length:Int)))≤x1.length)) (cw (decide ((0:Int)≤(IntKind.i64.wrap ((x1.length:Int) - ((bG x1 ([48,49,50,51,52,53,54,55,56,57]:aj)).length:Int))))) (k0 ((x1.drop 0).take ((IntKind.i64.wrap ((x1.length:Int) - ((bG x1 ([48,49,50,51,52,53,54,55,56,57]:aj)).length:Int))).toNat - 0)) (bG x1 ([48,49,50,51,52,53,54,55,56,57]:aj)))))
def aM {R:Type}:de R:=fun x1 k0=>je x1 k0
theorem yA {R:Type}:gR (R:=R) tt (qG (R:=R)) xw false Tryz.f102 (bb Tryz.f102) me mf (p7 je):=fun x y k=>by kernel_rfl
theorem o5 (R:Type):rR Tryz.prog 102 (mg (aM (R:=R))):=cQ TT mixed (xK (R:=R)) rfl rfl rfl rfl dV (yA)

/-! ### (*humpyard/decimal.reader).exponent -/
abbrev eM (R:Type):Type:=aj→(Int→Bool→aj→Option R)→Option R
abbrev ll:List ck := [.leaf (.ptr 0 0)]
abbrev ln:List aN := [.cells [.str]]
def o6 {R:Type} (fn:eM R):ck.aH ll→aN.aH ln→(V→aG→Option R)→Option R:=fun x y k=>fn y.1.1 (fun q0 q1 q2=>k (.tuple [.int .i64 q0, .bool q1]) [.cells [.str q2]])
def pF {R:Type} (fn:eM R):aF.Spec R→aF.Spec R:=bj ll ln (o6 fn)
def pG {R:Type} (aS:dy R) (aM:de R):List (uI R) := [(101,false,(nv aS aZ)),(102,false,(mg aM aZ)),(105,true,(PI R))]
theorem wE {R:Type}:eU (R:=R) Tryz.prog (pG aS aM) := .f (p6 R _ (aK _)) rfl <| .f (o5 R _ (aK _)) rfl <| .p (Uz) <| .n
def iv {R:Type} (aS:dy R) (aM:de R) (x1:aj) (k0:Int→Bool→aj→Option R):Option R :=
 aS ([43,45]:aj) x1 (fun y2 y3=>aM y3 (fun y4 y5=>cw (decide (y4.length≤281474976710656)) (bif sa y4 then (bif (decide ((ej y4)>(1000000:Int)))then (bif (y2==45)then (k0 (-1000000) (!(y4==([]:aj))) y5)else (k0 1000000 (!(y4==([]:aj))) y5))else (bif (y2==45)then (k0 (IntKind.i64.wrap (0 - (ej y4))) (!(y4==([]:aj))) y5)else (k0 (ej y4) (!(y4==([]:aj))) y5)))else (bif (!(y4==([]:aj)))then (bif (y2==45)then (k0 (-1000000) (!(y4==([]:aj))) y5)else (k0 1000000 (!(y4==([]:aj))) y5))else (bif (decide ((ej y4)>(1000000:Int)))then (bif (y2==45)then (k0 (-1000000) (!(y4==([]:aj))) y5)else (k0 1000000 (!(y4==([]:aj))) y5))else (bif (y2==45)then (k0 (IntKind.i64.wrap (0 - (ej y4))) (!(y4==([]:aj))) y5)else (k0 (ej y4) (!(y4==([]:aj))) y5)))))))
def bq {R:Type}:eM R:=fun x1 k0=>iv aS aM x1 k0
theorem w3 {R:Type} (aS:dy R) (aM:de R):gR (R:=R) tt (pG aS aM) xw false Tryz.f103 (bb Tryz.f103) ll ln (o6 (iv aS aM)):=fun x y k=>by kernel_rfl
theorem vN (R:Type):rR Tryz.prog 103 (pF (bq (R:=R))):=cQ TT mixed (wE (R:=R)) rfl rfl rfl rfl dV (w3 aS aM)

/-! ### humpyard/decimal.Make -/
abbrev n5 (R:Type):Type:=Int→Int→(iC→Bool→Option R)→Option R
abbrev AR:List ck := [.leaf (.int .i64), .leaf (.int .i64)]
abbrev AS:List aN := []
def DU {R:Type} (fn:n5 R):ck.aH AR→aN.aH AS→(V→aG→Option R)→Option R:=fun x y k=>fn x.1 x.2.1 (fun q0 q1=>k (.tuple [.agg [.int .i64 q0.aB, .int .i64 q0.exp], .bool q1]) [])
def Ff {R:Type} (fn:n5 R):aF.Spec R→aF.Spec R:=bj AR AS (DU fn)
abbrev kE (R:Type):Type:=Nat→Int→Int→iC→(Int→Int→iC→Option R)→Option R
def pH {R:Type} (aW:eF R):List (uI R) := [(91,true,(sd aW aZ))]
theorem Js {R:Type}:eU (R:=R) Tryz.prog (pH aW) := .p (vv R _ (aK _)) <| .n
def lp {R:Type} (fC:Int→Int→iC→Option R) (x3:Int) (x4:Int) (x5:iC) (e0:Int→Int→iC→Option R):Option R :=
 bif ((Int.tmod x3 10)==0)then (fC (IntKind.i64.wrap (Int.tdiv x3 10)) (IntKind.i64.wrap (x4+1)) x5)else (e0 x3 x4 x5)
def bu {R:Type}:kE R
 | 0,_,_,_,_=>none
 | n+1,kN,kO,lN,e0=>lp (fun kN kO lN=>bu n kN kO lN e0) kN kO lN e0
def qo:Hint := { live := [0,1,4],own := [],rows := [],cells := [],drop := [],out := [0,1,4,5] }
abbrev hQ:Type:=Int × Int × iC
def ou:hQ→St:=fun d=>⟨.int .i64 d.1 :: .int .i64 d.2.1::U 2 (.ptr 0 0::U 25 ([])), [.cells [.int .i64 d.2.2.aB, .int .i64 d.2.2.exp]]⟩
def tD {R:Type} (K:Ex→St→Option R) (q0:Int) (q1:Int) (q2:iC):Option R:=K (.exit 0) ⟨.int .i64 q0 :: .int .i64 q1::U 2 (.ptr 0 0::U 25 ([])), [.cells [.int .i64 q2.aB, .int .i64 q2.exp]]⟩
def u6 {R:Type} (K:Ex→St→Option R) (rc:hQ→Option R) (d:hQ):Option R:=lp (fun z0 z1 z2=>rc (z0,z1,z2)) d.1 d.2.1 d.2.2 (tD K)
def lq {R:Type} (K:Ex→St→Option R) (n:Nat) (d:hQ):Option R:=bu n d.1 d.2.1 d.2.2 (tD K)
abbrev hU:List ck := .leaf (.int .i64) :: .leaf (.int .i64)::PU 2 (.leaf (.ptr 0 0)::PU 25 ([]))
abbrev hY:List aN := [.cells [.int .i64, .int .i64]]
def u7 (x:ck.aH hU) (y:aN.aH hY):Nat:=(Int.natAbs x.1+Int.natAbs x.2.1+iC.fu (⟨y.1.1,y.1.2.1⟩:iC)+64)
def va (x:ck.aH hU) (y:aN.aH hY):hQ:=(x.1,x.2.1,(⟨y.1.1,y.1.2.1⟩:iC))
def tE {R:Type} (L:kE R):ck.aH hU→aN.aH hY→(Ex→St→Option R)→Option R:=fun x y K=>L (u7 x y) x.1 x.2.1 (⟨y.1.1,y.1.2.1⟩:iC) (tD K)
def si (R:Type) (bu:kE R):Nat→Option (Hint × eJ R):=fun i=>match i with
 | 4=>some (qo,(fQ hU hY (tE bu) pr))
 | _=>none

theorem Eb {R:Type} (aW:eF R) (bu:kE R) (K:Ex→St→Option R) (rc:St→Option R) (d:hQ):roundOf tt (fV (pH aW)) (si R bu) 0 ((br (bb Tryz.f106)).getD 0 .skip) qo (ou d) rc K=u6 K (fun d=>rc (ou d)) d:=by kernel_rfl
theorem Cw {R:Type} (K:Ex→St→Option R) (n:Nat) (d:hQ):lq K (n+1) d=u6 K (lq K n) d:=by kernel_rfl
theorem Cx {R:Type} (K:Ex→St→Option R) (d:hQ):lq K 0 d=none:=by kernel_rfl
theorem Ec (x:ck.aH hU) (y:aN.aH hY):(⟨ck.cz hU x,aN.cz hY y⟩:St)=ou (va x y):=by kernel_rfl
theorem Ed {R:Type} (x:ck.aH hU) (y:aN.aH hY) (K:Ex→St→Option R):tE (bu) x y K=lq K (u7 x y) (va x y):=by kernel_rfl
theorem FZ {R:Type} (other:eJ R) (ho:oa tt (fV (pH aW)) (si R bu) 0 ((br (bb Tryz.f106)).getD 0 .skip) qo other):oa tt (fV (pH aW)) (si R bu) 0 ((br (bb Tryz.f106)).getD 0 .skip) qo (fQ hU hY (tE (bu)) other) :=
 gd (A:=lq) ho (jt ou (u6) (lq) (Cx) (Eb aW bu) (Cw)) u7 va Ec (Ed)

def nA {R:Type} (aW:eF R) (bu:kE R) (x1:Int) (x2:Int) (k0:iC→Bool→Option R):Option R :=
 bif (x1==0)then (k0 (⟨0,0⟩:iC) true)else (bu (Int.natAbs x1+Int.natAbs (min x2 1000000)+iC.fu (⟨0,0⟩:iC)+64) x1 (min x2 1000000) (⟨0,0⟩:iC) (fun y6 y7 y8=>aW (-1000000000000000) y6 1000000000000000 (fun y9=>bif (!y9)then (k0 (⟨0,0⟩:iC) false)else (aW (-9) y7 9 (fun xD=>bif (!xD)then (k0 (⟨0,0⟩:iC) false)else (k0 (⟨y6,y7⟩:iC) true))))))
def bK {R:Type}:n5 R:=fun x1 x2 k0=>nA aW bu x1 x2 k0
theorem Kr {R:Type} (aW:eF R) (bu:kE R):gR (R:=R) tt (pH aW) (si R bu) false Tryz.f106 (bb Tryz.f106) AR AS (DU (nA aW bu)):=fun x y k=>by kernel_rfl
theorem G7 (R:Type):∀a∈br (bb Tryz.f106),lM tt (fV (pH aW)) (si R bu) 0 a:=by
 refine kZ 1 (by kernel_rfl) fun i hi => ?_
 match i,hi with
 | 0,_=>exact fm (by kernel_rfl) (FZ _ ia)
 | n+1,hi=>omega
theorem Im (R:Type):rR Tryz.prog 106 (Ff (bK (R:=R))):=cQ TT mixed (Js (R:=R)) rfl rfl rfl rfl (G7 R) (Kr aW bu)

/-! ### humpyard/decimal.Parse -/
abbrev na (R:Type):Type:=aj→(iC→Bool→Option R)→Option R
abbrev zf:List ck := [.leaf (.str)]
abbrev zg:List aN := []
def Cy {R:Type} (fn:na R):ck.aH zf→aN.aH zg→(V→aG→Option R)→Option R:=fun x y k=>fn x.1 (fun q0 q1=>k (.tuple [.agg [.int .i64 q0.aB, .int .i64 q0.exp], .bool q1]) [])
def DV {R:Type} (fn:na R):aF.Spec R→aF.Spec R:=bj zf zg (Cy fn)
def DW {R:Type} (bK:n5 R) (aS:dy R) (aM:de R) (bq:eM R):List (uI R) := [(106,true,(Ff bK aZ)),(101,false,(nv aS aZ)),(102,false,(mg aM aZ)),(103,false,(pF bq aZ)),(68,true,(HP R)),(104,true,(PH R)),(105,true,(PI R))]
theorem Io {R:Type}:eU (R:=R) Tryz.prog (DW bK aS aM bq) := .p (Im R _ (aK _)) <| .f (p6 R _ (aK _)) rfl <| .f (o5 R _ (aK _)) rfl <| .f (vN R _ (aK _)) rfl <| .p (L8) <| .p (Zb) <| .p (Uz) <| .n
def n7 {R:Type} (bK:n5 R) (aS:dy R) (aM:de R) (bq:eM R) (x1:aj) (k0:iC→Bool→Option R):Option R :=
 aS ([45]:aj) x1 (fun y2 y3=>aM y3 (fun y4 y5=>let j32:=let j31:=fun (vb:aj) (z12:Int) (Rl:aj)=>let j30:=fun (Qc:Int) (z20:aj)=>cw (sY ([48]:aj)&&decide (([48]:aj).length<4294967281)) (cw (sY ([48]:aj)&&decide (([48]:aj).length<4294967281)) (bif (!(z20==([]:aj)))then (k0 (⟨0,0⟩:iC) false)else (bif (decide (((cN (bG vb ([48]:aj)) ([48]:aj)).length:Int)>(18:Int)))then (k0 (⟨0,0⟩:iC) false)else (let j29:=bif (y2 != 0)then (bK (IntKind.i64.wrap (0 - (ej (([48]:aj)++(cN (bG vb ([48]:aj)) ([48]:aj)))))) (IntKind.i64.wrap (Qc+(IntKind.i64.wrap (((bG vb ([48]:aj)).length:Int) - ((cN (bG vb ([48]:aj)) ([48]:aj)).length:Int))))) (fun IS Jr=>k0 IS Jr))else (bK (ej (([48]:aj)++(cN (bG vb ([48]:aj)) ([48]:aj)))) (IntKind.i64.wrap (Qc+(IntKind.i64.wrap (((bG vb ([48]:aj)).length:Int) - ((cN (bG vb ([48]:aj)) ([48]:aj)).length:Int))))) (fun IT IU=>k0 IT IU)); cw (decide (1+(cN (bG vb ([48]:aj)) ([48]:aj)).length≤9223372036854775807)) (cw (decide ((([48]:aj)++(cN (bG vb ([48]:aj)) ([48]:aj))).length≤281474976710656)) (bif sa (([48]:aj)++(cN (bG vb ([48]:aj)) ([48]:aj)))then (j29)else (j29))))))); aS ([101,69]:aj) Rl (fun zA FF=>bif (zA != 0)then (bq FF (fun FG JV Hj=>bif (!JV)then (k0 (⟨0,0⟩:iC) false)else (j30 (IntKind.i64.wrap (z12+FG)) Hj)))else (j30 z12 FF)); aS ([46]:aj) y5 (fun y7 y8=>bif (y7 != 0)then (aM y8 (fun y9 xD=>bif (y9==([]:aj))then (k0 (⟨0,0⟩:iC) false)else (cw (decide (y4.length+y9.length≤9223372036854775807)) (j31 (y4++y9) (IntKind.i64.wrap (0 - (y9.length:Int))) xD))))else (j31 y4 0 y8)); bif (decide ((x1.length:Int)>(400:Int)))then (k0 (⟨0,0⟩:iC) false)else (bif (y4==([]:aj))then (k0 (⟨0,0⟩:iC) false)else (bif (decide ((y4.length:Int)>(1:Int)))then (cw (decide ((0:Int)<y4.length)) (bif (((y4.getD 0 0).toNat:Int)==48)then (k0 (⟨0,0⟩:iC) false)else (j32)))else (j32)))))
def dE {R:Type}:na R:=fun x1 k0=>n7 bK aS aM bq x1 k0
theorem Jt {R:Type} (bK:n5 R) (aS:dy R) (aM:de R) (bq:eM R):gR (R:=R) tt (DW bK aS aM bq) xw false Tryz.f69 (bb Tryz.f69) zf zg (Cy (n7 bK aS aM bq)):=fun x y k=>by kernel_rfl
theorem G8 (R:Type):rR Tryz.prog 69 (DV (dE (R:=R))):=cQ TT mixed (Io (R:=R)) rfl rfl rfl rfl dV (Jt bK aS aM bq)

/-! ### internal/stringslite.HasPrefix -/
abbrev dY (R:Type):Type:=aj→aj→(Bool→Option R)→Option R
abbrev kh:List ck := [.leaf (.str), .leaf (.str)]
abbrev ki:List aN := []
def nP {R:Type} (fn:dY R):ck.aH kh→aN.aH ki→(V→aG→Option R)→Option R:=fun x y k=>fn x.1 x.2.1 (fun q0=>k (.bool q0) [])
def ov {R:Type} (fn:dY R):aF.Spec R→aF.Spec R:=bj kh ki (nP fn)
def gM {R:Type} (x1:aj) (x2:aj) (k0:Bool→Option R):Option R :=
 bif (decide ((x1.length:Int)≥(x2.length:Int)))then (cw (decide ((0:Int)≤(x2.length:Int))&&decide ((x2.length:Int)≤x1.length)) (cw (decide ((0:Int)≤(x2.length:Int))) (k0 (((x1.drop 0).take ((x2.length:Int).toNat - 0))==x2))))else (k0 false)
def bJ {R:Type}:dY R:=fun x1 x2 k0=>gM x1 x2 k0
theorem vO {R:Type}:gR (R:=R) tt [] xw false Tryz.f127 (bb Tryz.f127) kh ki (nP gM):=fun x y k=>by kernel_rfl
theorem ub (R:Type):rR Tryz.prog 127 (ov (bJ (R:=R))):=cQ TT mixed .n rfl rfl rfl rfl dV (vO)

/-! ### internal/stringslite.CutPrefix -/
abbrev dZ (R:Type):Type:=aj→aj→(aj→Bool→Option R)→Option R
abbrev kj:List ck := [.leaf (.str), .leaf (.str)]
abbrev kk:List aN := []
def nQ {R:Type} (fn:dZ R):ck.aH kj→aN.aH kk→(V→aG→Option R)→Option R:=fun x y k=>fn x.1 x.2.1 (fun q0 q1=>k (.tuple [.str q0, .bool q1]) [])
def ow {R:Type} (fn:dZ R):aF.Spec R→aF.Spec R:=bj kj kk (nQ fn)
def ox {R:Type} (bJ:dY R):List (uI R) := [(127,true,(ov bJ aZ))]
theorem vd {R:Type}:eU (R:=R) Tryz.prog (ox bJ) := .p (ub R _ (aK _)) <| .n
def gN {R:Type} (bJ:dY R) (x1:aj) (x2:aj) (k0:aj→Bool→Option R):Option R :=
 bJ x1 x2 (fun y3=>bif (!y3)then (k0 x1 false)else (cw (decide ((0:Int)≤(x1.length:Int))&&decide ((x1.length:Int)≤x1.length)) (cw (decide ((0:Int)≤(x2.length:Int))&&decide ((x2.length:Int)≤(x1.length:Int))) (k0 ((x1.drop (x2.length:Int).toNat).take ((x1.length:Int).toNat - (x2.length:Int).toNat)) true))))
def bR {R:Type}:dZ R:=fun x1 x2 k0=>gN bJ x1 x2 k0
theorem vP {R:Type} (bJ:dY R):gR (R:=R) tt (ox bJ) xw false Tryz.f156 (bb Tryz.f156) kj kk (nQ (gN bJ)):=fun x y k=>by kernel_rfl
theorem uc (R:Type):rR Tryz.prog 156 (ow (bR (R:=R))):=cQ TT mixed (vd (R:=R)) rfl rfl rfl rfl dV (vP bJ)

/-! ### strings.CutPrefix -/
abbrev jz (R:Type):Type:=aj→aj→(aj→Bool→Option R)→Option R
abbrev tF:List ck := [.leaf (.str), .leaf (.str)]
abbrev tG:List aN := []
def yB {R:Type} (fn:jz R):ck.aH tF→aN.aH tG→(V→aG→Option R)→Option R:=fun x y k=>fn x.1 x.2.1 (fun q0 q1=>k (.tuple [.str q0, .bool q1]) [])
def zH {R:Type} (fn:jz R):aF.Spec R→aF.Spec R:=bj tF tG (yB fn)
def zI {R:Type} (bR:dZ R):List (uI R) := [(156,true,(ow bR aZ))]
theorem Ee {R:Type}:eU (R:=R) Tryz.prog (zI bR) := .p (uc R _ (aK _)) <| .n
def zJ {R:Type} (bR:dZ R) (x1:aj) (x2:aj) (k0:aj→Bool→Option R):Option R :=
 bR x1 x2 (fun y3 y4=>k0 y3 y4)
def eA {R:Type}:jz R:=fun x1 x2 k0=>zJ bR x1 x2 k0
theorem Fg {R:Type} (bR:dZ R):gR (R:=R) tt (zI bR) xw false Tryz.f137 (bb Tryz.f137) tF tG (yB (zJ bR)):=fun x y k=>by kernel_rfl
theorem Dn (R:Type):rR Tryz.prog 137 (zH (eA (R:=R))):=cQ TT mixed (Ee (R:=R)) rfl rfl rfl rfl dV (Fg bR)

/-! ### (*humpyard/quote.reader).skip -/
abbrev cL (R:Type):Type:=aj→aj→(Bool→aj→Option R)→Option R
abbrev oL:List ck := [.leaf (.ptr 0 0), .leaf (.str)]
abbrev oM:List aN := [.cells [.str]]
def sZ {R:Type} (fn:cL R):ck.aH oL→aN.aH oM→(V→aG→Option R)→Option R:=fun x y k=>fn x.2.1 y.1.1 (fun q0 q1=>k (.bool q0) [.cells [.str q1]])
def oN {R:Type} (fn:cL R):aF.Spec R→aF.Spec R:=bj oL oM (sZ fn)
def uf {R:Type} (eA:jz R):List (uI R) := [(137,true,(zH eA aZ))]
theorem AT {R:Type}:eU (R:=R) Tryz.prog (uf eA) := .p (Dn R _ (aK _)) <| .n
def ug {R:Type} (eA:jz R) (x1:aj) (x2:aj) (k0:Bool→aj→Option R):Option R :=
 eA x2 x1 (fun y3 y4=>k0 y4 y3)
def aA {R:Type}:cL R:=fun x1 x2 k0=>ug eA x1 x2 k0
theorem Be {R:Type} (eA:jz R):gR (R:=R) tt (uf eA) xw false Tryz.f107 (bb Tryz.f107) oL oM (sZ (ug eA)):=fun x y k=>by kernel_rfl
theorem rH (R:Type):rR Tryz.prog 107 (oN (aA (R:=R))):=cQ TT mixed (AT (R:=R)) rfl rfl rfl rfl dV (Be eA)

/-! ### internal/strconv.lower -/
abbrev bP (R:Type):Type:=Int→(Int→Option R)→Option R
abbrev oO:List ck := [.leaf (.int .u8)]
abbrev oP:List aN := []
def s4 {R:Type} (fn:bP R):ck.aH oO→aN.aH oP→(V→aG→Option R)→Option R:=fun x y k=>fn x.1 (fun q0=>k (.int .u8 q0) [])
def oQ {R:Type} (fn:bP R):aF.Spec R→aF.Spec R:=bj oO oP (s4 fn)
def uh {R:Type} (x1:Int) (k0:Int→Option R):Option R :=
 k0 (IntKind.u8.wrap ((BitVec.ofInt IntKind.u8.bits x1 ||| BitVec.ofInt IntKind.u8.bits 32).toNat:Int))
def internal_strconv_lower {R:Type}:bP R:=fun x1 k0=>uh x1 k0
theorem Bf {R:Type}:gR (R:=R) tt [] xw false Tryz.f176 (bb Tryz.f176) oO oP (s4 uh):=fun x y k=>by kernel_rfl
theorem rI (R:Type):rR Tryz.prog 176 (oQ (internal_strconv_lower (R:=R))):=cQ TT mixed .n rfl rfl rfl rfl dV (Bf)

end Go.Proofs.YtmlkkgfenfdndaaGreatDoor

set_option maxRecDepth 100000
namespace Go.Proofs.YtmlkkgfenfdndaaGreatDoor
open Go Go.aF

theorem Zi {R:Type} (c n:Int) (hc:Cp c) (h0:0<n) (hn:n≤9223372036854775807):∃r:Int,0≤r∧r<n∧∀k:Int→Option R,fR c n k=k r:=H2 c n hc h0 hn

theorem Mq:∀(b:Nat) (m:Int),m≠0→m.natAbs<b→∃(j:Nat) (u:Int),m=u*10 ^ j∧Int.tmod u 10≠0
 | 0,m,_,h=>by omega
 | b+1,m,h0,hb=>by
  by_cases h:Int.tmod m 10=0
  ·have hd:m=Int.tdiv m 10*10:=by have:=Int.tmod_add_mul_tdiv m 10; omega
   have hn:(Int.tdiv m 10).natAbs<m.natAbs:=by rw[Int.natAbs_tdiv]; show m.natAbs / 10<m.natAbs; omega
   obtain ⟨j,u,e,hu⟩:=Mq b (Int.tdiv m 10) (by omega) (by omega)
   refine ⟨j+1,u,?_,hu⟩
   rw[Int.pow_succ,←Int.mul_assoc,←e]
   exact hd
  ·exact ⟨0,m,by simp,h⟩

theorem Oq:∀(i j:Nat) (u v:Int),Int.tmod u 10≠0→Int.tmod v 10≠0→u*10 ^ i=v*10 ^ j→i=j∧u=v
 | 0,0,u,v,_,_,h=>⟨rfl,by simpa using h⟩
 | 0,j+1,u,v,hu,_,h=>by
  exfalso
  apply hu
  have:u=(v*10 ^ j)*10:=by rw[Int.pow_succ,←Int.mul_assoc]at h; simpa using h
  rw[this]
  exact Int.mul_tmod_left _ _
 | i+1,0,u,v,_,hv,h=>by
  exfalso
  apply hv
  have:v=(u*10 ^ i)*10:=by rw[Int.pow_succ,←Int.mul_assoc]at h; simpa using h.symm
  rw[this]
  exact Int.mul_tmod_left _ _
 | i+1,j+1,u,v,hu,hv,h=>by
  have h2:u*10 ^ i=v*10 ^ j:=by
   rw[Int.pow_succ,Int.pow_succ,←Int.mul_assoc,←Int.mul_assoc]at h
   omega
  obtain ⟨h3,h4⟩:=Oq i j u v hu hv h2
  exact ⟨by omega,h4⟩

theorem Ot (j:Nat):(1:Int)≤10 ^ j:=by
 induction j with
 | zero=>simp
 | succ j ih=>rw[Int.pow_succ]; omega

theorem Dp (u:Int) (j:Nat):u.natAbs≤(u*10 ^ j).natAbs:=by
 rw[Int.natAbs_mul]
 have h:=Ot j
 have:1≤((10:Int) ^ j).natAbs:=by omega
 exact Nat.le_mul_of_pos_right _ this

theorem Ts (u:Int) (hu:u≠0):∀j:Nat,j≤(u*10 ^ j).natAbs:=by
 intro j
 rw[Int.natAbs_mul]
 have h1:1≤u.natAbs:=by omega
 have h2:j≤((10:Int) ^ j).natAbs:=by
  induction j with
  | zero=>simp
  | succ j ih =>
   have:=Ot j
   rw[Int.pow_succ,Int.natAbs_mul]
   show j+1≤((10:Int) ^ j).natAbs*10
   omega
 calc j≤((10:Int) ^ j).natAbs:=h2
  _≤u.natAbs*((10:Int) ^ j).natAbs:=Nat.le_mul_of_pos_left _ h1

theorem Rp (u:Int) (hu:u≠0) (j:Nat):2 ^ j≤(u*10 ^ j).natAbs:=by
 rw[Int.natAbs_mul]
 have h2:∀j:Nat,2 ^ j≤((10:Int) ^ j).natAbs:=by
  intro j
  induction j with
  | zero=>simp
  | succ j ih =>
   rw[Int.pow_succ,Int.natAbs_mul,Nat.pow_succ]
   show 2 ^ j*2≤((10:Int) ^ j).natAbs*10
   omega
 exact Nat.le_trans (h2 j) (Nat.le_mul_of_pos_left _ (by omega))

theorem Mr {u:Int} (hu:u≠0) {j:Nat} (hb:Cp (u*10 ^ j)):j<64:=by
 have h:=Rp u hu j
 unfold Cp at hb
 rcases Nat.lt_or_ge j 64 with h1|h1
 ·exact h1
 ·have h2:(2:Nat) ^ 64≤2 ^ j:=Nat.pow_le_pow_right (by omega) h1
  have h3:(2:Nat) ^ 64=18446744073709551616:=rfl
  omega

theorem Wm {R:Type} (d:iC) (e0:Int→Int→iC→Option R):∀(j n:Nat) (u x:Int),j<n→Int.tmod u 10≠0→Cp (u*10 ^ j) → -9223372036854775808≤x→x+j≤4000000000000000000 →
  bu n (u*10 ^ j) x d e0=e0 u (x+j) d:=by
 intro j
 induction j with
 | zero =>
  intro n u x hn hu hb h1 h2
  obtain ⟨m,rfl⟩:∃m,n=m+1:=⟨n - 1,by omega⟩
  have e:bu (m+1) (u*10 ^ 0) x d e0=lp (fun kN kO lN=>bu m kN kO lN e0) (u*10 ^ 0) x d e0:=rfl
  rw[e]
  unfold lp
  have e1:u*10 ^ 0=u:=by simp
  have e2:(Int.tmod u 10==0)=false:=by rw[beq_eq_false_iff_ne]; exact hu
  rw[e1,e2,cond_false]
  simp
 | succ j ih =>
  intro n u x hn hu hb h1 h2
  obtain ⟨m,rfl⟩:∃m,n=m+1:=⟨n - 1,by omega⟩
  have e:bu (m+1) (u*10 ^ (j+1)) x d e0=lp (fun kN kO lN=>bu m kN kO lN e0) (u*10 ^ (j+1)) x d e0:=rfl
  rw[e]
  unfold lp
  have ep:u*10 ^ (j+1)=u*10 ^ j*10:=by rw[Int.pow_succ,Int.mul_assoc]
  unfold Cp at hb
  rw[ep]at hb ⊢
  have e1:(Int.tmod (u*10 ^ j*10) 10==0)=true:=by rw[Int.mul_tmod_left]; rfl
  have e2:Int.tdiv (u*10 ^ j*10) 10=u*10 ^ j:=Int.mul_tdiv_cancel _ (by omega)
  rw[e1,cond_true,e2,dx (n:=u*10 ^ j) (by omega) (by omega),dx (n:=x+1) (by omega) (by omega)]
  show bu m (u*10 ^ j) (x+1) d e0=_
  rw[ih m u (x+1) (by omega) hu (by unfold Cp; omega) (by omega) (by omega)]
  have:x+1+(j:Int)=x+((j+1:Nat):Int):=by omega
  rw[this]

theorem Cz {R:Type} (a b c:Int) (k:Bool→Option R):aW a b c k=k (decide (a≤b)&&decide (b≤c)):=by
 have e:aW a b c k=oc a b c k:=rfl
 rw[e]
 unfold oc
 by_cases h1:a≤b
 ·rw[bf h1]; first|rfl|simp
 ·rw[cI h1]; first|rfl|simp

def Wn (u x:Int):iC × Bool:=if -1000000000000000≤u∧u≤1000000000000000 ∧ -9≤x∧x≤9 then (⟨u,x⟩,true)else (⟨0,0⟩,false)

theorem UI {R:Type} (u:Int) (j:Nat) (x:Int) (hu:Int.tmod u 10≠0) (hb:Cp (u*10 ^ j)) (h1 : -9223372036854775808≤x) (h2:x≤1000000) (k:iC→Bool→Option R) :
  bK (u*10 ^ j) x k=k (Wn u (x+j)).1 (Wn u (x+j)).2:=by
 have e:bK (u*10 ^ j) x k=nA aW bu (u*10 ^ j) x k:=rfl
 rw[e]
 unfold nA
 have hu0:u≠0:=by rintro rfl; exact hu rfl
 have ha:=Dp u j
 have hn:=Ts u hu0 j
 have h64:=Mr hu0 hb
 have h0:(u*10 ^ j==0)=false:=by rw[beq_eq_false_iff_ne]; omega
 have hm:min x 1000000=x:=Int.min_eq_left h2
 unfold Cp at hb
 rw[h0,cond_false,hm,Wm _ _ j _ u x (by omega) hu (by unfold Cp; exact hb) h1 (by omega)]
 rw[Cz]
 unfold Wn
 by_cases c1 : -1000000000000000≤u∧u≤1000000000000000
 ·rw[bf c1.1,bf c1.2]
  simp only[Bool.and_self,Bool.not_true,cond_false]
  rw[Cz]
  by_cases c2 : -9≤x+(j:Int)∧x+(j:Int)≤9
  ·rw[bf c2.1,bf c2.2,if_pos ⟨c1.1,c1.2,c2.1,c2.2⟩]
   rfl
  ·rw[if_neg (fun h=>c2 h.2.2)]
   have:(decide (-9≤x+(j:Int))&&decide (x+(j:Int)≤9))=false:=by
    rw[Bool.and_eq_false_iff,decide_eq_false_iff_not,decide_eq_false_iff_not]; omega
   rw[this]
   rfl
 ·rw[if_neg (fun h=>c1 ⟨h.1,h.2.1⟩)]
  have:(decide (-1000000000000000≤u)&&decide (u≤1000000000000000))=false:=by
   rw[Bool.and_eq_false_iff,decide_eq_false_iff_not,decide_eq_false_iff_not]; omega
  rw[this]
  rfl

theorem Ou {R:Type} (x:Int) (k:iC→Bool→Option R):bK 0 x k=k ⟨0,0⟩ true:=by
 have e:bK 0 x k=nA aW bu 0 x k:=rfl
 rw[e]
 rfl

theorem Zj {R:Type} {u x:Int} (hu:Int.tmod u 10≠0) (h : -1000000000000000≤u∧u≤1000000000000000 ∧ -9≤x∧x≤9) (k:Bool→Option R):cj ⟨u,x⟩ k=k true:=by
 have e:cj ⟨u,x⟩ k=kK aW ⟨u,x⟩ k:=rfl
 rw[e]
 unfold kK
 have hu0:u≠0:=by rintro rfl; exact hu rfl
 have e1:(u==0)=false:=by rw[beq_eq_false_iff_ne]; exact hu0
 have e2:(Int.tmod u 10 != 0)=true:=bne_iff_ne.2 hu
 simp only[e1,e2,cond_false,cond_true,Cz]
 rw[bf h.1,bf h.2.1,bf h.2.2.1,bf h.2.2.2]
 rfl

end Go.Proofs.YtmlkkgfenfdndaaGreatDoor

set_option maxRecDepth 100000
namespace Go.Proofs.YtmlkkgfenfdndaaGreatDoor
open Go Go.aF Go.Lib

def Fm (d:iC):Prop:=(d.aB=0∧d.exp=0)∨(Int.tmod d.aB 10≠0 ∧ -1000000000000000≤d.aB∧d.aB≤1000000000000000 ∧ -9≤d.exp∧d.exp≤9)

theorem Fm.bounds {d:iC} (h:Fm d) : -1000000000000000≤d.aB∧d.aB≤1000000000000000 ∧ -9≤d.exp∧d.exp≤9:=by
 rcases h with h|h <;> omega
theorem Fm.nz {d:iC} (h:Fm d) (h0:d.aB≠0):Int.tmod d.aB 10≠0:=by
 rcases h with h|h
 ·exact (h0 h.1).elim
 ·exact h.1
theorem Fm.zero {d:iC} (h:Fm d) (h0:d.aB=0):d=⟨0,0⟩:=by
 rcases h with h|h
 ·cases d; simp only at h; rw[h.1,h.2]
 ·exact (h.1 (by rw[h0]; rfl)).elim
theorem Fm.mk0:Fm ⟨0,0⟩ := .inl ⟨rfl,rfl⟩
theorem tmod_neg {m:Int} (h:Int.tmod m 10≠0):Int.tmod (-m) 10≠0:=by rw[Int.neg_tmod]; omega
theorem Fm.neg {d:iC} (h:Fm d):Fm ⟨-d.aB,d.exp⟩:=by
 rcases h with h|h
 ·exact .inl ⟨by simp only; omega,h.2⟩
 ·exact .inr ⟨tmod_neg h.1,by simp only; omega,by simp only; omega,h.2.2.2⟩

theorem Zk {R:Type} {d:iC} (h:Fm d) (k:Bool→Option R):cj d k=k true:=by
 rcases h with h|h
 ·have e:cj d k=kK aW d k:=rfl
  rw[e]
  unfold kK
  rw[h.1,h.2]
  rfl
 ·cases d; exact Zj h.1 h.2 k

theorem Zl {R:Type} (x:Int) (d:iC) (e0:Int→Int→iC→Option R):∀(j n:Nat) (u:Int),j<n→Int.tmod u 10≠0→Cp (u*10 ^ j) →
  cm n (u*10 ^ j) x d e0=e0 u x d:=by
 intro j
 induction j with
 | zero =>
  intro n u hn hu hb
  obtain ⟨m,rfl⟩:∃m,n=m+1:=⟨n - 1,by omega⟩
  have e:cm (m+1) (u*10 ^ 0) x d e0=nX (fun kN kO lN=>cm m kN kO lN e0) (u*10 ^ 0) x d e0:=rfl
  rw[e]
  unfold nX
  have e1:u*10 ^ 0=u:=by simp
  have e2:(Int.tmod u 10==0)=false:=by rw[beq_eq_false_iff_ne]; exact hu
  have e3:(u != 0)=true:=bne_iff_ne.2 (by rintro rfl; exact hu rfl)
  rw[e1,e3,cond_true,e2,cond_false]
 | succ j ih =>
  intro n u hn hu hb
  obtain ⟨m,rfl⟩:∃m,n=m+1:=⟨n - 1,by omega⟩
  have e:cm (m+1) (u*10 ^ (j+1)) x d e0=nX (fun kN kO lN=>cm m kN kO lN e0) (u*10 ^ (j+1)) x d e0:=rfl
  rw[e]
  unfold nX
  have ep:u*10 ^ (j+1)=u*10 ^ j*10:=by rw[Int.pow_succ,Int.mul_assoc]
  have hu0:u≠0:=by rintro rfl; exact hu rfl
  have hab:=Dp u (j+1)
  have e3:(u*10 ^ (j+1) != 0)=true:=bne_iff_ne.2 (by omega)
  unfold Cp at hb
  rw[e3,cond_true]
  rw[ep]at hb ⊢
  have e1:(Int.tmod (u*10 ^ j*10) 10==0)=true:=by rw[Int.mul_tmod_left]; rfl
  have e2:Int.tdiv (u*10 ^ j*10) 10=u*10 ^ j:=Int.mul_tdiv_cancel _ (by omega)
  rw[e1,cond_true,e2,dx (n:=u*10 ^ j) (by omega) (by omega)]
  exact ih m u (by omega) hu (by unfold Cp; omega)

theorem fit_ok {R:Type} (a b:Int) (ha:Cp a) (hb:Cp b):∃d:iC,Fm d∧∀k:iC→Option R,di a b k=k d:=by
 obtain ⟨m,m0,m1,hm⟩:=Zi (R:=R) a 2000000000000001 ha (by omega) (by omega)
 obtain ⟨x,x0,x1,hx⟩:=Zi (R:=R) b 19 hb (by omega) (by omega)
 have e:∀k:iC→Option R,di a b k=yv fR cm a b k:=fun _=>rfl
 by_cases h0:m - 1000000000000000=0
 ·refine ⟨⟨0,0⟩, .mk0,fun k => ?_⟩
  rw[e]
  unfold yv
  rw[hm,hx,dx (n:=m - 1000000000000000) (by omega) (by omega),h0]
  rfl
 ·obtain ⟨j,u,hu,hd⟩:=Mq ((m - 1000000000000000).natAbs+1) _ h0 (by omega)
  have hab:=Dp u j
  have hb64:Cp (u*10 ^ j):=by unfold Cp; omega
  have h64:=Mr (by rintro rfl; exact hd rfl) hb64
  refine ⟨⟨u,x - 9⟩, .inr ⟨hd,by simp only; omega,by simp only; omega,by simp only; omega,by simp only; omega⟩,fun k => ?_⟩
  rw[e]
  unfold yv
  rw[hm,hx,dx (n:=m - 1000000000000000) (by omega) (by omega),dx (n:=x - 9) (by omega) (by omega)]
  have key:=fun (F:Nat) (hF:j<F)=>Zl (R:=R) (x - 9) ⟨0,0⟩ (fun y9 xD vu=>bif (y9==0)then (k (⟨y9,0⟩:iC))else (k (⟨y9,xD⟩:iC))) j F u hF hd hb64
  rw[←hu]at key
  rw[key _ (by omega)]
  have e0:(u==0)=false:=by rw[beq_eq_false_iff_ne]; rintro rfl; exact hd rfl
  rw[e0]
  rfl


def Made (m x:Int) (r:iC × Bool):Prop:=(m=0∧r=(⟨0,0⟩,true))∨∃(u:Int) (j:Nat),m=u*10 ^ j∧Int.tmod u 10≠0∧r=Wn u (x+j)

theorem Zm {R:Type} (m x:Int) (hm:Cp m) (h1 : -4000000000000000000≤x) (h2:x≤1000000):∃r:iC × Bool,Made m x r∧∀k:iC→Bool→Option R,bK m x k=k r.1 r.2:=by
 by_cases h0:m=0
 ·subst h0
  exact ⟨_, .inl ⟨rfl,rfl⟩,fun k=>Ou x k⟩
 ·obtain ⟨j,u,hu,hd⟩:=Mq (m.natAbs+1) m h0 (by omega)
  exact ⟨_, .inr ⟨u,j,hu,hd,rfl⟩,fun k=>by subst hu; exact UI u j x hd hm (by omega) h2 k⟩

def val (d:iC):Int:=d.aB*10 ^ (d.exp+9).toNat

theorem Rq (u:Nat) (h:0<u):10 ^ (nDigits u - 1)≤u:=by
 induction u using Nat.strongRecOn with
 | _ u ih =>
  by_cases h1:u<10
  ·rw[nDigits_small h1]; exact h
  ·rw[nDigits_big h1,Nat.add_sub_cancel]
   have h2:=ih (u / 10) (by omega) (by omega)
   have h3:=nDigits_pos (u / 10)
   have e:nDigits (u / 10)=(nDigits (u / 10) - 1)+1:=by omega
   rw[e,Nat.pow_succ]
   omega

theorem Ms {u:Nat} (h:u≤1000000000000000):nDigits u≤16:=by
 rcases Nat.eq_zero_or_pos u with rfl|h0
 ·rw[nDigits_small (by omega)]; omega
 ·have h1:=Rq u h0
  rcases Nat.lt_or_ge (nDigits u) 17 with h2|h2
  ·omega
  ·have h3:(10:Nat) ^ 16≤10 ^ (nDigits u - 1):=Nat.pow_le_pow_right (by omega) (by omega)
   have e:(10:Nat) ^ 16=10000000000000000:=rfl
   omega

theorem Wo {d:iC} (h:Fm d) (h0:d.aB≠0) {j:Nat} {x:Int} (hx:x+j=d.exp) {r:iC × Bool} (hr:Made (d.aB*10 ^ j) x r):r=(d,true):=by
 have hz:=h.nz h0
 have hab:=Dp d.aB j
 rcases hr with ⟨h1,_⟩|⟨u,i,e,hu,rfl⟩
 ·omega
 ·obtain ⟨rfl,rfl⟩:=Oq i j u d.aB hu hz e.symm
  have b:=h.bounds
  unfold Wn
  rw[if_pos (by omega),hx]


def ja (n:Nat):aj:=List.replicate n 48
theorem pI (n:Nat):(ja n).length=n:=List.length_replicate
theorem Gt:∀n:Nat,repeatL [48] n=ja n
 | 0=>rfl
 | n+1=>by
  have:=Gt n
  simp[repeatL,ja,List.replicate_succ]at this ⊢
  try exact this
theorem Tt (z:Int):kG [48] z=ja z.toNat:=Gt _

def body (L:aj) (e:Int):aj :=
 if 0≤e then L++ja e.toNat
 else
  let t:=ja (max 0 (1 - e - (L.length:Int))).toNat++L
  t.take ((t.length:Int)+e).toNat ++ [46]++t.drop ((t.length:Int)+e).toNat
def Nc (d:iC):aj:=(if d.aB<0 then [45]else [])++body (decDigits d.aB.natAbs) d.exp

theorem wsn {R:Type} (x:aj) (hx:x.length≤100000000000) (k:Int→List Int→Option R):ag x k=k (x.length:Int) (zs x):=by
 show cw (decide ((0+(gD x).length)*1≤140737488355328)) (k (x.length:Int) (gD x))=_
 rw[Cs,aL (bf (by rw[Dg]; omega))]

theorem Zn {R:Type} {d:iC} (h:Fm d) (k:aj→Option R):bc d k=k (Nc d):=by
 have b:=h.bounds
 have e:bc d k=nZ cj ah ae ag d k:=rfl
 rw[e]
 unfold nZ
 rw[Zk h,Bool.not_true,cond_false]
 have hL:cn (max d.aB (IntKind.i64.wrap (0 - d.aB)))=decDigits d.aB.natAbs:=by
  rw[dx (n:=0 - d.aB) (by omega) (by omega)]
  have hm:max d.aB (0 - d.aB)=(d.aB.natAbs:Int):=by omega
  rw[hm]
  exact itoa_nonneg _
 have hlen:(decDigits d.aB.natAbs).length≤16:=by rw[decDigits_length]; exact Ms (by omega)
 simp only[hL,Tt]
 unfold Nc
 generalize decDigits d.aB.natAbs=L at *
 have w1:IntKind.i64.wrap (1 - d.exp)=1 - d.exp:=dx (by omega) (by omega)
 have w2:IntKind.i64.wrap (1 - d.exp - (L.length:Int))=1 - d.exp - (L.length:Int):=dx (by omega) (by omega)
 rw[w1,w2]
 have one:(([48]:aj).length:Int)=1:=rfl
 rw[one]
 have z0:0≤max 0 (1 - d.exp - (L.length:Int)):=by omega
 have zl:max 0 (1 - d.exp - (L.length:Int))≤10:=by omega
 have zL:1 - d.exp≤max 0 (1 - d.exp - (L.length:Int))+L.length:=by omega
 unfold body
 simp only
 generalize max 0 (1 - d.exp - (L.length:Int))=z at *
 have tl:(ja z.toNat++L).length=z.toNat+L.length:=by rw[List.length_append,pI]
 generalize ja z.toNat++L=t at *
 have Rr:∀a b:aj,(a++b).length=a.length+b.length:=fun a b=>List.length_append
 have lone:([46]:aj).length=1:=rfl
 have e45:([45]:List Int)=zs [45]:=rfl
 have q2:∀(x:Int) (f:List Int→Option R),ah x f=f [x]:=fun _ _=>rfl
 have lim45:Ib [45]:=by unfold Ib; simp
 by_cases he:0≤d.exp
 ·rw[bf (show d.exp≥0 from he),if_pos he]
  by_cases hm:d.aB<0
  ·rw[bf hm,if_pos hm]
   simp only[cond_true]
   rw[q2,aL (by rw[bf (show 1*d.exp≤140737488355328 by omega)]; rfl),aL (bf (by rw[pI]; omega)),e45,ws _ _ (by rw[Rr,pI]; omega) lim45,rE]
  ·rw[cI hm,if_neg hm]
   simp only[cond_true,cond_false]
   rw[aL (by rw[bf (show 1*d.exp≤140737488355328 by omega)]; rfl),aL (bf (by rw[pI]; omega)),wsn _ (by rw[Rr,pI]; omega),rE]
   rfl
 ·have wt:IntKind.i64.wrap ((t.length:Int)+d.exp)=(t.length:Int)+d.exp:=dx (by omega) (by omega)
  rw[cI (show ¬d.exp≥0 from he),if_neg he]
  simp only[wt,List.drop_zero,Nat.sub_zero,Int.toNat_natCast,cond_false]
  have l1:(t.take ((t.length:Int)+d.exp).toNat).length≤t.length:=by rw[List.length_take]; omega
  have l2:(t.drop ((t.length:Int)+d.exp).toNat).length≤t.length:=by rw[List.length_drop]; omega
  have c1:(decide ((0:Int)≤(t.length:Int)+d.exp)&&decide ((t.length:Int)+d.exp≤(t.length:Int)))=true:=by rw[bf (by omega),bf (by omega)]; rfl
  have c2:(decide ((0:Int)≤(t.length:Int))&&decide ((t.length:Int)≤(t.length:Int)))=true:=by rw[bf (by omega),bf (by omega)]; rfl
  have c3:(decide ((0:Int)≤z)&&decide (1*z≤140737488355328))=true:=by rw[bf z0,bf (by omega)]; rfl
  have et:(t.drop ((t.length:Int)+d.exp).toNat).take (t.length - ((t.length:Int)+d.exp).toNat)=t.drop ((t.length:Int)+d.exp).toNat:=List.take_of_length_le (by rw[List.length_drop]; exact Nat.le_refl _)
  rw[et]
  by_cases hm:d.aB<0
  ·rw[bf hm,if_pos hm]
   simp only[cond_true]
   rw[q2,aL c3,aL (bf (by rw[pI]; omega)),aL c1,aL (bf (by omega)),aL (bf (by omega)),aL c2,aL c1,aL (bf (by rw[Rr,lone]; omega)),e45,ws _ _ (by rw[Rr,Rr,lone]; omega) lim45,rE]
  ·rw[cI hm,if_neg hm]
   simp only[cond_false]
   rw[aL c3,aL (bf (by rw[pI]; omega)),aL c1,aL (bf (by omega)),aL (bf (by omega)),aL c2,aL c1,aL (bf (by rw[Rr,lone]; omega)),wsn _ (by rw[Rr,Rr,lone]; omega),rE]
   rfl
end Go.Proofs.YtmlkkgfenfdndaaGreatDoor
end
