/-
  TopTexts: for every input whose bulk is at most 1048576 the law returns true, and each argument reads behind the call as it read before; part 3 of 8 of the proof: an interpreter of the model's code over typed data, proved sound; the functions that the law reaches, printed as Lean functions and tied; the plain law. Own texts laid one behind the other.
-/
import Derived.Calls
import Derived.Orders
import Derived.ChangeKeysEq
import Derived.Test.YtmlkkgfenfdndaaGreatDoorTopTextsB2
set_option linter.unusedSimpArgs false
set_option linter.unnecessarySimpa false
set_option linter.unusedVariables false
set_option linter.unusedSectionVars false
noncomputable section
namespace Go.aF
open Go.RowKit

section
variable {tt:dA} {h:aG} {R:Type}

theorem Ar {t off:Nat} {cs:List V} {k0:V→Option R} {r:R} (hk:rh tt t cs off k0=some r) :
  ∃v,k0 v=some r∧∀k:V→Option R,rh tt t cs off k=k v:=by
 unfold rh at hk
 split at hk
 ·rename_i qy
  split at hk
  ·rename_i Lj
   split at hk
   ·rename_i oJ
    exact ⟨_,hk,fun k=>by simp[rh,qy,Lj,oJ]⟩
   ·cases hk
  ·rename_i Lj
   split at hk
   ·rename_i v hv
    exact ⟨_,hk,fun k=>by simp[rh,qy,Lj,hv]⟩
   ·cases hk
 ·cases hk

theorem HH {op:BinOp} {x y:V} {k0:V→Option R} {r:R} (hk:wW op x y k0=some r) :
  ∃v,k0 v=some r∧∀k:V→Option R,wW op x y k=k v:=by
 unfold wW at hk
 split at hk
 ·obtain ⟨hb,hk⟩:=cf hk
  exact ⟨_,hk,fun k=>by simp[wW,cw,hb]⟩
 ·obtain ⟨hb,hk⟩:=cf hk
  exact ⟨_,hk,fun k=>by simp[wW,cw,hb]⟩
 ·split at hk
  ·rename_i vm
   subst vm
   split at hk <;> first
    | (exact ⟨_,hk,fun k=>by simp[wW]⟩)
    | (obtain ⟨hb,hk⟩:=cf hk; exact ⟨_,hk,fun k=>by simp only[wW,hb,cw,cond_true,if_true]⟩)
    | cases hk
  ·cases hk
 ·split at hk <;> first
    | (exact ⟨_,hk,fun k=>by simp[wW]⟩)
    | (obtain ⟨hb,hk⟩:=cf hk; exact ⟨_,hk,fun k=>by simp only[wW,hb,cw,cond_true]⟩)
    | cases hk
 ·split at hk
  ·exact ⟨_,hk,fun k=>by simp[wW, *]⟩
  ·cases hk
 ·split at hk
  ·exact ⟨_,hk,fun k=>by simp[wW, *]⟩
  ·cases hk
 ·cases hk

theorem XK {op:BinOp} {x y:V} {k0:V→Option R} {r:R} (hk:O4 op x y k0=some r) :
  ∃v,k0 v=some r∧∀k:V→Option R,O4 op x y k=k v:=by
 unfold O4 at hk
 split at hk
 ·split at hk
  ·exact ⟨_,hk,fun k=>by simp[O4, *]⟩
  ·exact ⟨_,hk,fun k=>by simp[O4, *]⟩
  ·cases hk
 ·cases hk

theorem ifK_nat {op:BinOp} {o:Operand} {x y:V} {k0:V→Option R} {r:R} (hk:ifK op o x y k0=some r) :
  ∃v,k0 v=some r∧∀k:V→Option R,ifK op o x y k=k v:=by
 unfold ifK at hk
 split at hk <;> first|(exact ⟨_,hk,fun k=>by simp[ifK]⟩)|cases hk

theorem N3 {a:V} {neg:Bool} {k0:V→Option R} {r:R} (hk:DM a (fun r=>k0 (La neg r))=some r) :
  ∃v,k0 v=some r∧∀k:V→Option R,DM a (fun r=>k (La neg r))=k v:=by
 unfold DM at hk
 split at hk <;> try cases hk
 ·exact ⟨_,hk,fun k=>by simp[DM]⟩
 ·rename_i l _
  cases hl:l.isEmpty with
  | true=>rw[hl]at hk; exact ⟨_,hk,fun k=>by simp only[DM,hl]; rfl⟩
  | false=>rw[hl]at hk; exact ⟨_,hk,fun k=>by simp only[DM,hl]; rfl⟩
 ·rename_i n
  cases hl:decide (n=0)with
  | true=>rw[hl]at hk; exact ⟨_,hk,fun k=>by simp only[DM,hl]; rfl⟩
  | false=>rw[hl]at hk; exact ⟨_,hk,fun k=>by simp only[DM,hl]; rfl⟩

theorem slK_nat {op:BinOp} {x y:V} {k0:V→Option R} {r:R} (hk:slK op x y k0=some r) :
  ∃v,k0 v=some r∧∀k:V→Option R,slK op x y k=k v:=by
 unfold slK at hk
 split at hk
 ·split at hk
  ·obtain ⟨v,h1,h2⟩:=N3 hk
   exact ⟨v,h1,fun k=>by simp[slK,h2]⟩
  ·obtain ⟨v,h1,h2⟩:=N3 hk
   exact ⟨v,h1,fun k=>by simp[slK,h2]⟩
  ·cases hk
 ·cases hk

theorem Ci {v:Option V} {d:Int} {k0:Int→Option R} {r:R} (hk:Ep v d k0=some r) :
  ∃n,k0 n=some r∧∀k:Int→Option R,Ep v d k=k n:=by
 unfold Ep at hk
 split at hk
 ·exact ⟨_,hk,fun k=>rfl⟩
 ·exact ⟨_,hk,fun k=>rfl⟩
 ·cases hk

theorem opP_nat {o:Op} {ρ:Operand→V} {k0:V→Option R} {r:R} (hk:opP tt o ρ k0=some r) :
  ∃v,k0 v=some r∧∀k:V→Option R,opP tt o ρ k=k v:=by
 cases o <;> simp only[opP]at hk ⊢ <;> try (first|cases hk)
 case move x=>exact ⟨_,hk,fun k=>rfl⟩
 case assign x=>exact ⟨_,hk,fun k=>rfl⟩
 case pick c a b =>
  split at hk
  ·rename_i t ht
   split at hk
   ·rename_i u v hu hv
    exact ⟨_,hk,fun k=>by simp[ht,hu,hv]⟩
   ·rename_i u v hn
    refine ⟨bif t then ρ a else ρ b,by cases t <;> exact hk,fun k => ?_⟩
    cases t <;> rfl
  ·cases hk
 case nilCheck x =>
  split at hk <;> first|(exact ⟨_,hk,fun k=>by simp[*]⟩)|cases hk
 case binOp op t x y _ =>
  split at hk
  ·split at hk
   ·obtain ⟨v,h1,h2⟩:=HH hk
    exact ⟨v,h1,fun k=>by simp[*]⟩
   ·cases hk
  ·split at hk
   ·obtain ⟨v,h1,h2⟩:=HH hk
    exact ⟨v,h1,fun k=>by simp[*]⟩
   ·cases hk
  ·obtain ⟨v,h1,h2⟩:=HH hk
   exact ⟨v,h1,fun k=>by simp[*]⟩
  ·obtain ⟨v,h1,h2⟩:=HH hk
   exact ⟨v,h1,fun k=>by simp[*]⟩
  ·rename_i n1 n2 n3 n4
   split at hk
   ·rename_i hd
    obtain ⟨v,h1,h2⟩:=XK hk
    exact ⟨v,h1,fun k=>by simp[*]⟩
   ·rename_i hd
    obtain ⟨v,h1,h2⟩:=slK_nat hk
    exact ⟨v,h1,fun k=>by simp[*]⟩
   ·rename_i hd
    obtain ⟨v,h1,h2⟩:=ifK_nat hk
    exact ⟨v,h1,fun k=>by simp[*]⟩
   ·cases hk
 case unOp op _ x =>
  split at hk <;> first|(exact ⟨_,hk,fun k=>by simp[*]⟩)|cases hk
 case makeInterface t x =>
  split at hk <;> first|(exact ⟨_,hk,fun k=>by simp[*]⟩)|cases hk
 case convert s d x =>
  split at hk
  ·cases hk
  ·split at hk
   ·exact ⟨_,hk,fun k=>by simp[*]⟩
   ·split at hk
    ·exact ⟨_,hk,fun k=>by simp[*]⟩
    ·cases hk
   ·cases hk
 case fieldAddr s x f =>
  split at hk <;> try (first|cases hk)
  split at hk <;> try (first|cases hk)
  split at hk <;> try (first|cases hk)
  split at hk <;> first|(exact ⟨_,hk,fun k=>by simp_all⟩)|cases hk
 case field s x f =>
  split at hk <;> try (first|cases hk)
  split at hk <;> try (first|cases hk)
  obtain ⟨v,h1,h2⟩:=Ar hk
  exact ⟨v,h1,fun k=>by simp[*]⟩
 case indexAddr t x i =>
  unfold idxOf at hk ⊢
  split at hk <;> try (first|cases hk)
  split at hk <;> try (first|cases hk)
  ·split at hk <;> try (first|cases hk)
   obtain ⟨hb,hk⟩:=cf hk
   exact ⟨_,hk,fun k=>by simp_all [cw]⟩
  ·split at hk <;> try (first|cases hk)
   obtain ⟨hb,hk⟩:=cf hk
   exact ⟨_,hk,fun k=>by simp_all [cw]⟩
  ·split at hk <;> try (first|cases hk)
   obtain ⟨hb,hk⟩:=cf hk
   exact ⟨_,hk,fun k=>by simp_all [cw]⟩
  ·split at hk <;> try (first|cases hk)
   rename_i hc
   obtain ⟨hb,hk⟩:=cf hk
   exact ⟨_,hk,fun k=>by simp only[*,if_true,cw,cond_true]⟩
 case index t x i =>
  unfold idxOf at hk ⊢
  split at hk <;> try (first|cases hk)
  split at hk <;> try (first|cases hk)
  ·obtain ⟨hb,hk⟩:=cf hk
   exact ⟨_,hk,fun k=>by simp_all [cw]⟩
  ·obtain ⟨hb,hk⟩:=cf hk
   obtain ⟨v,h1,h2⟩:=Ar hk
   exact ⟨v,h1,fun k=>by simp_all [cw]⟩
 case slice t x lo hi mx =>
  split at hk <;> try (first|cases hk)
  split at hk <;> try (first|cases hk)
  ·rename_i hd hx
   obtain ⟨n,hk,e1⟩:=Ci hk
   obtain ⟨m,hk,e2⟩:=Ci hk
   obtain ⟨hb,hk⟩:=cf hk
   obtain ⟨KN,hk⟩:=cf hk
   exact ⟨_,hk,fun k=>by simp only[hd,hx,e1,e2,hb,KN,cw,cond_true]⟩
  ·rename_i hd hx
   split at hk <;> try (first|cases hk)
   rename_i hc
   obtain ⟨n,hk,e1⟩:=Ci hk
   split at hk
   ·obtain ⟨hb,hk⟩:=cf hk
    exact ⟨_,hk,fun k=>by simp only[hd,hx,hc,e1,hb,cw,cond_true,if_true]⟩
   ·obtain ⟨m,hk,e2⟩:=Ci hk
    obtain ⟨hb,hk⟩:=cf hk
    obtain ⟨KN,hk⟩:=cf hk
    exact ⟨_,hk,fun k=>by simp only[hd,hx,hc,e1,e2,hb,KN,cw,cond_true,if_true]⟩
  ·rename_i hd hx
   split at hk <;> try (first|cases hk)
   rename_i hc
   obtain ⟨n,hk,e1⟩:=Ci hk
   obtain ⟨m,hk,e2⟩:=Ci hk
   obtain ⟨hb,hk⟩:=cf hk
   exact ⟨_,hk,fun k=>by rw[if_neg hc]; simp only[e1,e2,hb,cw,cond_true]⟩
 case makeFunc f first cap =>
  cases f <;> simp only at hk ⊢ <;> first|(exact ⟨_,hk,fun k=>rfl⟩)|cases hk
 case extract t i =>
  split at hk <;> try (first|cases hk)
  split at hk <;> try (first|cases hk)
  exact ⟨_,hk,fun k=>by simp[*]⟩
 case build t parts =>
  split at hk <;> try (first|cases hk)
  all_goals
   rename_i hd
   split at hk <;> try (first|cases hk)
   rename_i hc
   split at hk <;> try (first|cases hk)
   rename_i hf
   exact ⟨_,hk,fun k=>by rw[if_neg hc]⟩
 case call c =>
  split at hk <;> try (first|cases hk)
  ·split at hk <;> try (first|cases hk)
   split at hk <;> try (first|cases hk)
   all_goals exact ⟨_,hk,fun k=>by simp[*]⟩
  ·split at hk <;> try (first|cases hk)
   split at hk <;> try (first|cases hk)
   exact ⟨_,hk,fun k=>by simp[*]⟩
  ·split at hk <;> try (first|cases hk)
   split at hk <;> try (first|cases hk)
   exact ⟨_,hk,fun k=>by simp[*]⟩

def bO.rd:bO→bO
 | .tok | .dead => .free
 | ob=>ob
theorem QY {a b:bO} (h:a.rd=b.rd):a=b∨((a = .tok∨a = .dead∨a = .free)∧(b = .tok∨b = .dead∨b = .free)):=by
 cases a <;> cases b <;> simp[bO.rd]at h ⊢ <;> exact h
theorem XL {a b:bO} (h:a.rd=b.rd) {cs:List V} (hb:b = .cells cs):a = .cells cs:=by
 rcases QY h with h|⟨_,h⟩
 ·rw[h,hb]
 ·rw[hb]at h; simp at h
theorem rd_bld {a b:bO} (h:a.rd=b.rd) {v:V} (hb:b = .lW v):a = .lW v:=by
 rcases QY h with h|⟨_,h⟩
 ·rw[h,hb]
 ·rw[hb]at h; simp at h
theorem XM {a b:bO} (h:a.rd=b.rd) {T:Ty} {l:List T.den} (hb:b = .row T l):a = .row T l:=by
 rcases QY h with h|⟨_,h⟩
 ·rw[h,hb]
 ·rw[hb]at h; simp at h

theorem rd_amap {a b:bO} (h:a.rd=b.rd) {K T:Ty} {l:List (K.den × T.den)} (hb:b = .uO K T l):a = .uO K T l:=by
 rcases QY h with h|⟨_,h⟩
 ·rw[h,hb]
 ·rw[hb]at h; simp at h

theorem opR_nat {o:Op} {ρ:Operand→V} {lim:Option Nat} {k0:V→Option R} {r:R} (hk:U4 tt o ρ h lim k0=some r) :
  ∃v,k0 v=some r∧∀(h2:aG),(∀i,DN lim i=true→(h2.at i).rd=(h.at i).rd)→∀k:V→Option R,U4 tt o ρ h2 lim k=k v:=by
 cases o <;> simp only[U4]at hk ⊢ <;> try (first|cases hk)
 case load t x =>
  split at hk <;> try (first|cases hk)
  ·split at hk <;> try (first|cases hk)
   rename_i hl
   split at hk <;> try (first|cases hk)
   all_goals rename_i hc
   ·obtain ⟨v,h1,h2⟩:=Ar hk
    exact ⟨v,h1,fun hh e k=>by have e':=XL (e _ hl) hc; clear e; simp only[*,if_true]⟩
   ·obtain ⟨v,h1,h2⟩:=Ar hk
    exact ⟨v,h1,fun hh e k=>by have e':=rd_bld (e _ hl) hc; clear e; simp only[*,if_true]⟩
  ·obtain ⟨v,h1,h2⟩:=Ar hk
   exact ⟨v,h1,fun hh e k=>by simp only[*]⟩
  ·split at hk <;> try (first|cases hk)
   rename_i hl
   split at hk <;> try (first|cases hk)
   rename_i T l hc
   split at hk <;> try (first|cases hk)
   rename_i hs
   obtain ⟨hb,hk⟩:=cf hk
   obtain ⟨v,h1,h2⟩:=Ar hk
   exact ⟨v,h1,fun hh e k=>by have e':=XM (e _ hl) hc; clear e; simp only[*,if_true,cw,cond_true]⟩
 case lookup t x ix ok =>
  split at hk <;> try (first|cases hk)
  rename_i kt vt i h1 h2
  split at hk <;> try (first|cases hk)
  rename_i hl
  split at hk <;> try (first|cases hk)
  rename_i K T l hc
  split at hk <;> try (first|cases hk)
  rename_i hf
  split at hk <;> try (first|cases hk)
  rename_i kx hx
  refine ⟨bif ok then .tuple [M6 T (mw K T kx l), .bool (CG K T kx l)]else M6 T (mw K T kx l),by cases ok <;> exact hk,fun hh e k => ?_⟩
  have e':=rd_amap (e _ hl) hc
  clear e
  simp only[h1,h2,hl,e',hf,hx,if_true]
  cases ok <;> rfl
 case convert s d x =>
  split at hk <;> try (first|cases hk)
  ·rename_i e i n h1 h2 h3
   split at hk <;> try (first|cases hk)
   rename_i hl
   split at hk <;> try (first|cases hk)
   rename_i h4 h5
   exact ⟨_,hk,fun hh e k=>by have e':=XM (e _ hl) h5; clear e; simp only[*,if_true]⟩
  ·rename_i h1 h2 h3
   split at hk <;> try (first|cases hk)
   ·rename_i h4
    exact ⟨_,hk,fun hh e k=>by simp only[*]⟩
   ·rename_i h4
    obtain ⟨hb,hk⟩:=cf hk
    exact ⟨_,hk,fun hh e k=>by simp only[*,cw,cond_true]⟩
  ·rename_i h1 h2 h3
   split at hk <;> try (first|cases hk)
   rename_i h4
   exact ⟨_,hk,fun hh e k=>by simp only[*]⟩

theorem opA_nat {o:Op} {ρ:Operand→V} {k0:bO→(Nat→V)→Option R} {r:R} (hk:W5 tt o ρ k0=some r) :
  ∃ob mk,k0 ob mk=some r∧∀k:bO→(Nat→V)→Option R,W5 tt o ρ k=k ob mk:=by
 cases o <;> simp only[W5]at hk ⊢ <;> try (first|cases hk)
 case alloc t =>
  split at hk
  ·exact ⟨_,_,hk,fun k=>by simp[*]⟩
  ·split at hk <;> try (first|cases hk)
   exact ⟨_,_,hk,fun k=>by simp[*]⟩
 case box t x =>
  split at hk <;> try (first|cases hk)
  split at hk <;> try (first|cases hk)
  exact ⟨_,_,hk,fun k=>by simp only[*,if_true]⟩
 case buildSlice t len parts =>
  split at hk <;> try (first|cases hk)
  split at hk <;> try (first|cases hk)
  rename_i hc
  split at hk <;> try (first|cases hk)
  ·rename_i h1 h2
   split at hk <;> try (first|cases hk)
   rename_i h3
   split at hk
   ·exact ⟨_,_,hk,fun k=>by simp only[*,if_true,if_false]; rfl⟩
   split at hk
   ·exact ⟨_,_,hk,fun k=>by simp only[*,if_true,if_false]; rfl⟩
   ·exact ⟨_,_,hk,fun k=>by simp only[*,if_true,if_false]; rfl⟩
  ·exact ⟨_,_,hk,fun k=>by simp only[*,if_true,if_false]; rfl⟩
 case makeSlice t n c =>
  split at hk <;> try (first|cases hk)
  split at hk <;> try (first|cases hk)
  split at hk <;> try (first|cases hk)
  split at hk <;> try (first|cases hk)
  rename_i h3
  obtain ⟨hb,hk⟩:=cf hk
  exact ⟨_,_,hk,fun k=>by simp only[*,if_true,cw,cond_true]⟩
 case convert s d x =>
  split at hk <;> try (first|cases hk)
  split at hk <;> try (first|cases hk)
  exact ⟨_,_,hk,fun k=>by simp[*]⟩
 case range t x =>
  split at hk <;> try (first|cases hk)
  exact ⟨_,_,hk,fun k=>by simp[*]⟩
 case makeMap t rsv =>
  split at hk <;> try (first|cases hk)
  rename_i h1
  split at hk <;> try (first|cases hk)
  rename_i kt vt h2
  split at hk <;> try (first|cases hk)
  rename_i K V' h3 h4
  split at hk <;> try (first|cases hk)
  rename_i h5
  exact ⟨_,_,hk,fun k=>by simp only[h1,h2,h3,h4,h5,if_true]⟩

theorem mapF {β:Type} {ρ ρ':Operand→V} (f:Nat→V→β) (ps:List (Nat × Operand)) (h:∀x∈ps.map (·.2),ρ x=ρ' x) :
  (ps.map fun (i,x)=>f i (ρ x))=(ps.map fun (i,x)=>f i (ρ' x)) :=
 List.map_congr_left fun p hm=>by
  obtain ⟨i,x⟩:=p
  simp only[h x (List.mem_map.2 ⟨(i,x),hm,rfl⟩)]

theorem N4 {o:Op} {ρ ρ':Operand→V} (h:∀x∈o.operands,ρ x=ρ' x) {k:V→Option R}:opP tt o ρ k=opP tt o ρ' k:=by
 cases o <;> simp only[Op.operands]at h <;> simp only[opP]
 case build t ps =>
  have hp:∀x∈ps.toList.map (·.2),ρ x=ρ' x:=fun x hx=>h x (by simpa using hx)
  split
  ·rename_i fs hd
   rw[mapF (fun i v=>((fs.getD i (0,0)).1,if i<fs.length then (tt.at (fs.getD i (0,0)).2).size else 1000000,v)) ps.toList hp]
  ·rename_i e hd
   rw[mapF (fun i v=>(i*(tt.at e).size,(tt.at e).size,v)) ps.toList hp]
  ·rfl
 case makeFunc f first cap =>
  cases f <;> simp only
  rw[List.map_congr_left (l:=first.toList) (g:=ρ') fun x hx=>h x (by simp at hx ⊢; exact .inl hx),List.map_congr_left (l:=cap.toList) (g:=ρ') fun x hx=>h x (by simp at hx ⊢; exact .inr hx)]
 case slice t x lo hi mx=>cases lo <;> cases hi <;> cases mx <;> simp_all
 case call c =>
  obtain ⟨callee,args,argTypes⟩:=c
  have ha:∀x∈args.toList,ρ x=ρ' x:=fun x hx=>h x (by simp[Call.operands]at hx ⊢; exact .inr hx)
  simp only
  split
  ·rename_i x e; rw[ha x (by rw[e]; simp)]
  ·rename_i x y e; rw[ha x (by rw[e]; simp),ha y (by rw[e]; simp)]
  ·rename_i x y e; rw[ha x (by rw[e]; simp),ha y (by rw[e]; simp)]
  ·rfl
 all_goals (first|rfl|(simp_all; done))

theorem N5 {o:Op} {ρ ρ':Operand→V} (h':∀x∈o.operands,ρ x=ρ' x) {lim:Option Nat} {k:V→Option R}:U4 tt o ρ h lim k=U4 tt o ρ' h lim k:=by
 cases o <;> simp only[Op.operands]at h' <;> simp only[U4]
 all_goals (first|rfl|(simp_all; done))

theorem N6 {o:Op} {ρ ρ':Operand→V} (h':∀x∈o.operands,ρ x=ρ' x) {k:bO→(Nat→V)→Option R}:W5 tt o ρ k=W5 tt o ρ' k:=by
 cases o <;> simp only[Op.operands]at h' <;> simp only[W5]
 case makeMap t rsv =>
  have e:B7 ρ rsv=B7 ρ' rsv:=by
   cases rsv with
   | none=>rfl
   | some x=>simp only[B7]; rw[h' x (by simp)]
  rw[e]
 case buildSlice t len ps =>
  have hp:∀x∈ps.toList.map (·.2),ρ x=ρ' x:=fun x hx=>h' x (by simpa using hx)
  split
  ·rename_i e hd
   rw[mapF (fun i v=>(i*(tt.at e).size,(tt.at e).size,v)) ps.toList hp]
  ·rfl
 all_goals (first|rfl|(simp_all; done))

theorem N7 {o:Op} {ρ ρ':Operand→V} (h':∀x∈o.operands,ρ x=ρ' x) {id:Nat} {k:V→aG→Option R}:KH tt o ρ h id k=KH tt o ρ' h id k:=by
 cases o <;> simp only[Op.operands]at h' <;> simp only[KH]
 case call c =>
  obtain ⟨callee,args,argTypes⟩:=c
  have ha:∀x∈args.toList,ρ x=ρ' x:=fun x hx=>h' x (by simp[Call.operands]at hx ⊢; exact .inr hx)
  simp only
  split
  ·rename_i x y t xt e et; rw[ha x (by rw[e]; simp),ha y (by rw[e]; simp)]
  ·rfl
 case slice t x lo hi mx=>cases lo <;> cases hi <;> cases mx <;> simp_all
 all_goals (first|rfl|(simp_all; done))
end

section
variable {P:Program} {tt:dA} {w w':World} {h h':aG} {c c':js} {R:Type}

theorem zQ:∀(l:List Nat) (h:aG),Ext w h c w (nh h l) c
 | [],h => .refl _ _ _
 | i::l,h=>by
  simp only[nh]
  split
  ·exact (AD i).trans (zQ l _)
  ·exact zQ l h

theorem Bs:∀(l:List Nat) (h:aG),WF w h c→WF w (nh h l) c
 | [],h,wf=>wf
 | i::l,h,wf=>by
  simp only[nh]
  split
  ·exact Bs l _ (KK wf i)
  ·exact Bs l h wf

theorem yr:∀(l:List Nat) (h:aG) (j:Nat),aG.at (nh h l) j=h.at j∨aG.at (nh h l) j = .dead
 | [],h,j => .inl rfl
 | i::l,h,j=>by
  simp only[nh]
  split
  ·rcases yr l (h.set i .dead) j with e|e
   ·rw[e,lL]
    split
    ·exact .inr rfl
    ·exact .inl rfl
   ·exact .inr e
  ·exact yr l h j

theorem Ew:∀(l:List Nat) (h:aG) (j:Nat) {T:Ty} {m:List T.den},j∈l→h.at j = .row T m→aG.at (nh h l) j = .dead
 | [],_,_,_,_,hj,_=>by cases hj
 | i::l,h,j,T,m,hj,he=>by
  simp only[nh]
  by_cases vm:i=j
  ·subst vm
   split
   ·rcases yr l (h.set i .dead) i with e|e
    ·rw[e]; exact lZ _ (aG.fW he (by simp))
    ·exact e
   ·rename_i hn; exact (hn T m he).elim
  ·have NV:j∈l:=by
    rcases List.mem_cons.1 hj with rfl|h
    ·exact (vm rfl).elim
    ·exact h
   split
   ·exact Ew l _ j NV (by rw[cS _ vm]; exact he)
   ·exact Ew l h j NV he

theorem HI (h:aG):∀l:List V,V.JD h l=l.map (V.shut h)
 | []=>rfl
 | v::l=>by simp only[V.JD,List.map_cons,HI h l]

theorem sF.dead {ids:List Nat} {b x:Nat} (ho:sF (nh h ids) c b x):sF h c b x:=by
 obtain ⟨i,f,g1,g2,g3⟩:=ho
 rcases yr ids h i with e|e
 ·exact ⟨i,f,g1,e▸g2,g3⟩
 ·rw[e]at g2; cases g2

theorem XO (wf:WF w h c) {ids:List Nat} {v:V} {d:Value} (r:dz w h c v d):(∀i∈v.ids,i∈ids)→dz w (nh h ids) c (v.shut h) d:=by
 have x:=zQ (w:=w) (c:=c) ids h
 induction r with
 | sl f kM r5 hc hr xj lC=>exact fun _=>(dz.sl (t := .no) f kM r5 hc hr (by simp) (by simp)).mono x
 | @row i n v hi hn hv =>
  intro LJ
  simp only[V.shut]
  split
  ·rename_i T l he
   obtain ⟨A,cap,rfl,hA,hv⟩:=hv
   obtain ⟨Nn,hle,r5,hor⟩:=hv T l he
   obtain ⟨ds,rds,xf⟩:=Pf wf he
   subst Nn
   refine yp (rds.mono x) hle r5 (fun hl => ?_) (by simp) (by simp)
   obtain ⟨b,hb,ye⟩:=xf hl
   rcases hor with ⟨h1,_⟩|⟨b',arr,e,fz,h1,h2,h3,h4⟩
   ·rw[hb]at h1; cases h1
   ·rw[hb]at h1; cases h1
    refine ⟨b,c.off i,h2,ye,fun y hy1 hy2 => ?_⟩
    have lC:sF h c b y:=⟨i,0,hb,by rw[he]; rfl,Nat.zero_le _⟩
    refine ⟨fun ho => ?_,wf.wX b y lC⟩
    obtain ⟨j,f,g1,g2,g3⟩:=ho
    have hdead:=Ew ids h i (LJ i (by simp[V.ids])) he
    rcases yr ids h j with e'|e'
    ·have hlj:(h.at j).live:=by rw[e']at g2; exact qP g2
     have:=wf.inj i j b (by rw[he]; trivial) hlj hb g1
     subst this
     rw[hdead]at g2
     cases g2
    ·rw[e']at g2; cases g2
  ·exact .undef _
 | @agg cs y hl _ ih =>
  intro LJ
  simp only[V.shut,HI]
  refine .agg (by simpa using hl) fun j v d hv hd => ?_
  rw[List.getElem?_map]at hv
  cases e:cs[j]? with
  | none=>rw[e]at hv; cases hv
  | some u =>
   rw[e]at hv; simp at hv; subst hv
   exact ih j u d e hd fun i hi=>LJ i (by simp only[V.ids]; exact qB.2 ⟨j,u,e,hi⟩)
 | @tuple cs y hl _ ih =>
  intro LJ
  simp only[V.shut,HI]
  refine .tuple (by simpa using hl) fun j v d hv hd => ?_
  rw[List.getElem?_map]at hv
  cases e:cs[j]? with
  | none=>rw[e]at hv; cases hv
  | some u =>
   rw[e]at hv; simp at hv; subst hv
   exact ih j u d e hd fun i hi=>LJ i (by simp only[V.ids]; exact qB.2 ⟨j,u,e,hi⟩)
 | undef v=>exact fun _ => .undef _
 | int hn=>exact fun _ => .int hn
 | bool b=>exact fun _ => .bool b
 | str hl=>exact fun _ => .str hl
 | eI=>exact fun _ => .eI
 | cM=>exact fun _ => .cM
 | aT=>exact fun _ => .aT
 | nS=>exact fun _ => .nS
 | dv=>exact fun _ => .dv
 | iface t v=>exact fun _ => .iface t v
 | GC hn=>exact fun _ => .GC hn
 | B5 hi hn hv=>exact fun _=>(dz.B5 hi hn hv).mono x
 | FN b=>exact fun _ => .FN b
 | ptr hi hv=>exact fun _=>(dz.ptr hi hv).mono x
 | map hi hv=>exact fun _=>(dz.map hi hv).mono x
 | sD hi hv=>exact fun _=>(dz.sD hi hv).mono x
 | uN f hc hr _=>exact fun _=>(dz.uN f hc hr).mono x
 | J6 hn r5 f hc hr _=>exact fun _=>(dz.J6 hn r5 f hc hr).mono x
 | func ha hb hra hrb _ _=>exact fun _=>(dz.func ha hb hra hrb).mono x

theorem N8 (wf:WF w h c) {vs:List V} {ds:List Value} (r:cy w h c vs ds):cy w (nh h (V.r6 vs)) c (V.JD h vs) ds:=by
 rw[HI]
 refine ⟨by simpa using r.1,fun j v d hv hd => ?_⟩
 rw[List.getElem?_map]at hv
 cases e:vs[j]? with
 | none=>rw[e]at hv; cases hv
 | some u =>
  rw[e]at hv; simp at hv; subst hv
  exact XO wf (r.2 j u d e hd) fun i hi=>qB.2 ⟨j,u,e,hi⟩

theorem N9 {t:Nat} {v:V} {d:Value} (r:dz w h c v d):dz w h c (canon tt t v) d:=by
 unfold canon
 split
 ·rename_i T hT
  split
  ·rename_i cs
   split
   ·rename_i x hx
    split
    ·cases r with
     | @agg _ y hl hr =>
      have rl:cy w h c cs y.toList:=⟨by simpa using hl,fun j v d hv hd=>hr j v d hv (by simpa using hd)⟩
      have:=Fz hx rl
      exact .agg (by simpa using this.1) fun j v d hv hd=>this.2 j v d hv (by simpa using hd)
    ·exact r
   ·exact r
  ·split
   ·rename_i x hx
    split
    ·exact r
    ·have:=Fz hx (cy.cons r cy.nil)
     split
     ·rename_i e he
      rw[he]at this
      exact this.head
     ·exact r
   ·exact r
 ·split
  ·split
   ·split
    ·rename_i l hl; exact Lt r hl
    ·exact r
   ·exact r
  ·exact r

theorem LK:∀(ts:List Nat) {vs:List V} {ds:List Value},cy w h c vs ds→cy w h c (GF tt ts vs) ds
 | [],vs,ds,r=>by simpa [GF]using r
 | t::ts, [],ds,r=>by simpa [GF]using r
 | t::ts,v::vs, [],r=>by have:=r.1; simp at this
 | t::ts,v::vs,d::ds,r => .cons (N9 r.head) (LK ts r.tail)

theorem Ja {v:V} {d:Value} (hs:v.NS=true) (r:dz w h c v d):dz w' h' c' v d:=by
 cases r <;> simp only[V.NS]at hs <;> try (first|cases hs)
 case int hn=>exact .int hn
 case bool b=>exact .bool b
 case str hl=>exact .str hl
 case eI=>exact .eI
 case cM=>exact .cM
 case aT=>exact .aT
 case nS=>exact .nS
 case dv=>exact .dv
 case iface t v=>exact .iface t v
 case GC hn=>exact .GC hn

theorem XP {v:V} {d:Value} (hs:v.U5=true) (r:dz w h c v d):dz w' h' c' v d:=by
 cases r
 case agg hl hr =>
  simp only[V.U5,List.all_eq_true]at hs
  exact .agg hl fun j v d hv hd=>Ja (hs v (List.mem_of_getElem? hv)) (hr j v d hv hd)
 case tuple hl hr =>
  simp only[V.U5,List.all_eq_true]at hs
  exact .tuple hl fun j v d hv hd=>Ja (hs v (List.mem_of_getElem? hv)) (hr j v d hv hd)
 all_goals first
  | exact Ja (w:=w) (h:=h) (c:=c) hs (by constructor <;> assumption)
  | (simp only[V.U5,V.NS]at hs; cases hs)

theorem VN {c1 c2:js} (wf:WF w h c) (x:Ext w [] c1 w' h' c2):Ext w h c w' h c∧WF w' h c:=by
 have nown:∀b y, ¬sF ([]:aG) c1 b y:=fun b y ho=>by
  obtain ⟨i,f,_,g2,_⟩:=ho
  simp[aG.at,bO.from_]at g2
 have hx:Ext w h c w' h c := {
  os:=x.os
  tape:=x.tape
  output:=x.output
  size:=x.size
  used:=fun _ hi=>hi
  same:=fun i hi hd=>⟨by have h2:=hi.2; revert hd h2; cases h.at i <;> simp[bO.gZ],rfl,rfl⟩
  cell:=fun b y hb _=>x.cell b y hb (nown b y)
  block:=fun b hb _=>x.block b hb (nown b)
  vH:=fun _ _ _ ho=>ho
  ext:=rfl
  arr:=x.arr }
 refine ⟨hx,?_,fun b y hb=>Nat.lt_of_lt_of_le (wf.o3 b y hb) x.size,fun i hi => ?_,wf.inj,wf.rq hx⟩
 ·exact wf.wX
 ·by_cases hl:(h.at i).live
  ·exact (wf.obj i hi).uM hx (fun b hb=>x.block b ((wf.obj i hi).lt hl hb) (nown b)) rfl rfl
  ·have h0:h.at i = .free∨h.at i = .dead:=by revert hl; cases h.at i <;> simp[bO.live]
   rcases h0 with h0|h0 <;> rw[h0] <;> trivial
end

section
variable {P:Program} {tt:dA} {w w':World} {h h':aG} {c c':js} {R:Type}

def vZ (P:Program) (g:Nat) (args:Array Value) (w:World) (Q:Value→World→Prop):Prop :=
 ∃nx w1,(callFunc g args).run P w = .ok nx w1 ∧
  match nx with
  | .value d=>Q d w1
  | .enter f xs=>Calls P f xs w1 fun e w'=>∃d,e = .returned d∧Q d w'
  | .row row xs=>Rows P row xs w1 Q
  | _=>False

theorem vZ.mono {g:Nat} {args:Array Value} {Q Q':Value→World→Prop} (h:vZ P g args w Q) (hq:∀d w',Q d w'→Q' d w'):vZ P g args w Q':=by
 obtain ⟨nx,w1,h1,h2⟩:=h
 refine ⟨nx,w1,h1,?_⟩
 cases nx <;> simp only at h2 ⊢
 ·exact hq _ _ h2
 ·exact Calls.mono h2 fun e w' ⟨d,e1,q⟩=>⟨d,e1,hq _ _ q⟩
 ·exact Rows.mono h2 fun d w' q=>hq _ _ q

def Spec.Ok (P:Program) (g:Nat) (sp:Spec R):Prop :=
 ∀vs h k r,sp vs h k=some r→∀(w:World) (c:js) (args:Array Value),WF w h c→cy w h c vs args.toList →
  vZ P g args w fun d w'=>∃v h' c',WF w' h' c'∧Ext w h c w' h' c'∧dz w' h' c' v d∧k v h'=some r

def Spec.XQ (P:Program) (g m:Nat) (sp:Spec R):Prop :=
 ∀vs h k r,h.length=m→sp vs h k=some r→∀(w:World) (c:js) (args:Array Value),WF w h c→cy w h c vs args.toList →
  vZ P g args w fun d w'=>∃v h' c',WF w' h' c'∧Ext w h c w' h' c'∧dz w' h' c' v d∧k v h'=some r

def Ey (sp:Spec R):Prop:=∀vs h k k',(∀v,k v h=k' v h)→sp vs h k=sp vs h k'

def R4 (P:Program) (E:Env R):Prop:=∀g b sp,E g=some (b,sp)→Spec.Ok P g sp∧(b=false→nR.soft g=true→Ey sp)

theorem Ey.same {sp:Spec R} (hs:Ey sp) {vs:List V} {k:V→aG→Option R} {r:R} (hk:sp vs h k=some r):∃k',sp vs h k'=some r∧∀v h',k' v h'=some r→h'=h∧k v h=some r:=by
 classical
 refine ⟨fun v h'=>if h'=h then k v h else none,?_,fun v h' e => ?_⟩
 ·rw[←hk]
  exact hs _ _ _ _ fun v=>by simp
 ·simp only at e
  split at e
  ·exact ⟨‹_›,e⟩
  ·cases e

theorem Spec.XQ.of_body {g m:Nat} {sp:Spec R} {fn:Func} (hf:P.funcs[g]? = some fn) (hn:(fn.name == "runtime.NumGoroutine")=false) (hb:fn.body.isNone=false)
  (hs:∀vs h k r,h.length=m→sp vs h k=some r→∀(w:World) (c:js) (args:Array Value),WF w h c→cy w h c vs args.toList →
   Calls P g args w fun e w'=>∃d,e = .returned d∧∃v h' c',WF w' h' c'∧Ext w h c w' h' c'∧dz w' h' c' v d∧k v h'=some r):Spec.XQ P g m sp:=by
 intro vs h k r hml hk w c args wf ra
 refine ⟨.enter g args,w,?_,hs vs h k r hml hk w c args wf ra⟩
 have Qb:fn.name ≠ "runtime.NumGoroutine" :=by simpa using hn
 have oH:fn.body≠none:=fun e=>by rw[e]at hb; cases hb
 simp[callFunc,hf,Qb,oH]

theorem QZ:∀ {v:V},v.ids = []→∀ρ,v.pg ρ=v:=by
 have key:(∀v:V,v.ids = []→∀ρ,v.pg ρ=v)∧∀l:List V,V.r6 l = []→∀ρ,V.xh ρ l=l:=by
  refine ⟨fun v => ?_,fun l => ?_⟩
  ·refine V.rec (motive_1:=fun v=>v.ids = []→∀ρ,v.pg ρ=v) (motive_2:=fun l=>V.r6 l = []→∀ρ,V.xh ρ l=l) ?_ ?_ ?_ ?_ ?_ ?_ ?_ ?_ ?_ ?_ ?_ ?_ ?_ ?_ ?_ ?_ ?_ ?_ ?_ ?_ ?_ ?_ ?_ ?_ ?_ v <;> first
    | (intros; rfl)
    | (intros; simp_all [V.ids,V.r6,V.pg,V.xh]; done)
    | skip
   ·intro T l t ht ρ
    cases t <;> simp_all [V.ids,V.pg,Tok.pg]
  ·refine V.rec_1 (motive_1:=fun v=>v.ids = []→∀ρ,v.pg ρ=v) (motive_2:=fun l=>V.r6 l = []→∀ρ,V.xh ρ l=l) ?_ ?_ ?_ ?_ ?_ ?_ ?_ ?_ ?_ ?_ ?_ ?_ ?_ ?_ ?_ ?_ ?_ ?_ ?_ ?_ ?_ ?_ ?_ ?_ ?_ l <;> first
    | (intros; rfl)
    | (intros; simp_all [V.ids,V.r6,V.pg,V.xh]; done)
    | skip
   ·intro T l t ht ρ
    cases t <;> simp_all [V.ids,V.pg,Tok.pg]
 exact fun {v} hv ρ=>key.1 v hv ρ

theorem LL (h:aG):h.back [] []=h:=by simp[aG.back,aG.yO]

def sW (al:Bool) (id:Nat) (h h':aG):Prop:=h.length≤h'.length∧∀j,(al=true→j≠id)→j<h.length→h.at j = .free→h'.at j = .free

theorem SJ {ord:List Nat} (D0:ord.Nodup) (hu:∀i∈ord,Used h i) (hle:ord.length≤h'.length):sW false 0 h (h.back ord h'):=by
 refine ⟨by simp[aG.back,fE],fun j _ hj hf => ?_⟩
 have hn:j∉ord:=fun hm=>(hu j hm).2 hf
 rcases Br (c:=⟨fun _=>none,fun _=>0,⟨fun _ _=>False⟩⟩) (c':=⟨fun _=>none,fun _=>0,⟨fun _ _=>False⟩⟩) D0 (fun i hi=>(hu i hi).1) hle j with ⟨i,h1,h2,_⟩|⟨_,_,h3,_⟩|⟨h1,_⟩
 ·unfold oI at h1
  split at h1
  ·rename_i hi
   simp only[List.getD,List.getElem?_eq_getElem hi,Option.getD_some]at h1
   exact (hn (h1▸List.getElem_mem hi)).elim
  ·omega
 ·rw[h3]; exact hf
 ·simp[aG.back,fE]at h1; omega

theorem SK {st:List V} {a:Act} (r:cy w h c st a.tmps.toList) (x:Operand):dz w h c (ev st x) (a.eval x):=by
 cases x with
 | tmp t =>
  have:=r.getD t undef
  simpa [ev,Act.eval,List.getD,Array.getD_eq_getD_getElem?]using this
 | const v=>exact JF v
 | global g=>exact .undef _
 | func f=>exact .func rfl rfl (by simp) (by simp)

theorem Pm {v:V} {d:Value} (r:dz w h c v d):dz w h c (Lb v) d:=by
 cases r with
 | sl f kM r5 hc hr xj lC=>exact .sl f kM r5 hc hr (by simp) (by simp)
 | _=>simp only[Lb]; constructor <;> assumption

theorem JI {v:V} {d:Value} (r:dz w h c v d):dz w h c (CH v) d:=by
 cases r with
 | sl f kM r5 hc hr xj lC=>exact .sl f kM r5 hc hr (by simp) (by simp)
 | @agg cs x hl hr =>
  refine .agg (by simpa using hl) fun j v d hv hd => ?_
  rw[List.getElem?_map]at hv
  cases e:cs[j]? with
  | none=>rw[e]at hv; cases hv
  | some u=>rw[e]at hv; simp at hv; subst hv; exact Pm (hr j u d e hd)
 | _=>simp only[CH]; constructor <;> assumption

theorem Pn {vs:List V} {ds:List Value} (r:cy w h c vs ds):cy w h c (vs.map CH) ds:=by
 refine ⟨by simpa using r.1,fun j v d hv hd => ?_⟩
 rw[List.getElem?_map]at hv
 cases e:vs[j]? with
 | none=>rw[e]at hv; cases hv
 | some u=>rw[e]at hv; simp at hv; subst hv; exact JI (r.2 j u d e hd)

theorem Oa {vs:List V} (h:V.r6 vs = []) (ρ:Nat→Option Nat):V.xh ρ vs=vs:=by
 have:∀v∈vs,v.pg ρ=v:=fun v hv=>by
  refine QZ ?_ _
  cases hi:v.ids with
  | nil=>rfl
  | cons i l =>
   obtain ⟨j,hj⟩:=List.mem_iff_getElem?.1 hv
   have:i∈V.r6 vs:=qB.2 ⟨j,v,hj,by rw[hi]; simp⟩
   rw[h]at this; cases this
 rw[KL]
 conv=>rhs; rw[←List.map_id vs]
 exact List.map_congr_left this

theorem Q0 {E:Env R} (hE:R4 P E) (wf:WF w h c) {o:Oper} {cl:Call} (ho:o.op = .call cl) {ρ:Operand→V} {ρ':Operand→Value} (hρ:∀x,dz w h c (ρ x) (ρ' x)) {full:Bool}
  {k:V→aG→Option R} {r:R} (hk:xe tt E full cl ρ h k=some r) :
  ∃g args,(execOp ρ' o).run P w=(callFunc g args).run P w∧vZ P g args w fun d w' =>
   ∃v h' c',WF w' h' c'∧Ext w h c w' h' c'∧dz w' h' c' v d∧k v h'=some r∧sW false 0 h h'∧(full=false→h'=h):=by
 obtain ⟨dst,op,type,pos,after,guard⟩:=o
 simp only at ho
 subst ho
 unfold xe at hk
 split at hk <;> try (first|cases hk)
 rename_i f hf
 split at hk <;> try (first|cases hk)
 rename_i g first cap hg
 have rf:=hρ f
 rw[hg]at rf
 generalize hdf:ρ' f=df at rf
 cases rf with
 | @func _ _ _ x y ha hb hra hrb =>
  have XR:cy w h c (first++cl.args.toList.map ρ++cap) (x++cl.args.map ρ'++y).toList:=by
   have e:(x++cl.args.map ρ'++y).toList=x.toList++cl.args.toList.map ρ'++y.toList:=by simp
   rw[e]
   refine cy.append (cy.append ⟨by simpa using ha,fun j v d hv hd=>hra j v d hv (by simpa using hd)⟩ (cy.map _ fun z _=>hρ z)) ⟨by simpa using hb,fun j v d hv hd=>hrb j v d hv (by simpa using hd)⟩
  have XS:cy w h c ((first++GF tt cl.argTypes.toList (cl.args.toList.map ρ)++cap).map CH) (x++cl.args.map ρ'++y).toList:=by
   have e:(x++cl.args.map ρ'++y).toList=x.toList++cl.args.toList.map ρ'++y.toList:=by simp
   rw[e]
   refine Pn (cy.append (cy.append ⟨by simpa using ha,fun j v d hv hd=>hra j v d hv (by simpa using hd)⟩ (LK _ (cy.map _ fun z _=>hρ z))) ⟨by simpa using hb,fun j v d hv hd=>hrb j v d hv (by simpa using hd)⟩)
  simp only at hk
  refine ⟨g,x++cl.args.map ρ'++y,by simp[execOp,resolve,hf,hdf,Deferred.ofValue,invoke],?_⟩
  generalize (first++GF tt cl.argTypes.toList (cl.args.toList.map ρ)++cap).map CH=ps at *
  generalize first++cl.args.toList.map ρ++cap=vs at *
  split at hk <;> try (first|cases hk)
  ·-- a plain one
   rename_i sp Po
   split at hk
   ·rename_i LJ
    have ra:=GN (ord := []) XS
    rw[Oa LJ]at ra
    refine vZ.mono ((hE g _ sp Po).1 _ _ _ _ hk w _ _ (I8 (ord := []) wf List.nodup_nil) ra) fun d w' ⟨v,h',c',T9,x,rv,qA⟩ => ?_
    obtain ⟨k1,k2,k3⟩:=N2 wf (ord := []) (by simp) (by simp) T9 x
    split at qA <;> try (first|cases qA)
    refine ⟨v,h,c.back [] h.length c',?_,?_,?_,qA,⟨Nat.le_refl _,fun j _ _ hf=>hf⟩,fun _=>rfl⟩
    ·rw[LL]at k1; exact k1
    ·rw[LL]at k2; exact k2
    ·have:=rv.pg k3
     rw[LL]at this
     rw[QZ]at this
     ·exact this
     ·cases hi:v.ids with
      | nil=>rfl
      | cons i l =>
       have:=rv.yq i (by rw[hi]; simp)
       exact (Nat.not_lt_zero _ this.1).elim
   ·cases full with
    | false=>cases hk
    | true =>
     simp only[cond_true]at hk
     unfold Xq at hk
     split at hk <;> try (first|cases hk)
     rename_i LJ
     have ra:=GN (ord := []) (N8 wf XS)
     rw[Oa LJ]at ra
     refine vZ.mono ((hE g _ sp Po).1 _ _ _ _ hk w _ _ (I8 (ord := []) (Bs _ _ wf) List.nodup_nil) ra) fun d w' ⟨v,h',c',T9,x,rv,qA⟩ => ?_
     split at qA <;> try (first|cases qA)
     cases hs:v.U5 with
     | false=>rw[hs]at qA; cases qA
     | true =>
      rw[hs]at qA
      obtain ⟨hx,hw⟩:=VN wf x
      exact ⟨v,h,c,hw,hx,XP hs rv,qA,⟨Nat.le_refl _,fun j _ _ hf=>hf⟩,fun _=>rfl⟩
  ·rename_i sp Po
   cases full with
   | false=>cases hk
   | true =>
    simp only[cond_true]at hk
    cases hso:nR.soft g with
    | true =>
     rw[hso]at hk
     simp only[cond_true]at hk
     obtain ⟨k',VO,Fw⟩:=((hE g _ sp Po).2 rfl hso).same hk
     refine vZ.mono ((hE g _ sp Po).1 _ _ _ _ VO w _ _ wf XR) fun d w' ⟨v,h',c',T9,x,rv,qA⟩ => ?_
     obtain ⟨rfl,hk3⟩:=Fw _ _ qA
     exact ⟨v,_,c',T9,x,rv,hk3,⟨Nat.le_refl _,fun j _ _ hf=>hf⟩,fun _=>rfl⟩
    | false =>
    rw[hso]at hk
    simp only[cond_false]at hk
    have hui:=XR.yq
    generalize V.r6 vs=ids at *
    have hu:∀i∈reach h 64 ids [],Used h i:=GM wf _ _ _ hui (by simp)
    have D0:(reach h 64 ids []).Nodup:=Bq h _ _ _ (by simp)
    refine vZ.mono ((hE g _ sp Po).1 _ _ _ _ hk w _ _ (I8 wf D0) (GN XR)) fun d w' ⟨v,h',c',T9,x,rv,qA⟩ => ?_
    obtain ⟨k1,k2,k3⟩:=N2 wf D0 hu T9 x
    have hle:(reach h 64 ids []).length≤h'.length:=by
     rcases Nat.eq_zero_or_pos (reach h 64 ids []).length with h0|h0
     ·omega
     ·have:=(x.used ((reach h 64 ids []).length - 1) ⟨by simp[aG.pick]; omega,by
       rw[uH,List.getElem?_eq_getElem (by omega)]
       simp only[ne_eq,Ce]
       exact (hu _ (List.getElem_mem _)).2⟩).1
      omega
    exact ⟨_,_,_,k1,k2,rv.pg k3,qA,SJ D0 hu hle,fun Vf=>by cases Vf⟩
end

section
variable {tt:dA} {h:aG} {R:Type}

theorem VP {T:Ty} {x:V} {id ix:Nat} {ob:bO} (hx:lowX id x=true) (jb:id<ix):JC T (h.set ix ob) x=JC T h x:=by
 cases x <;> simp only[JC]
 case row i n =>
  simp only[lowX,decide_eq_true_eq]at hx
  rw[cS _ (by omega)]

theorem Q1 {e id ix:Nat} {s x:V} {ob:bO} {k:V→aG→Option R} (hs:Se id s=true) (hx:lowX id x=true) (jb:id<ix) :
  nE tt e s x (h.set ix ob) id k=nE tt e s x h id fun v h'=>k v (h'.set ix ob):=by
 have hc:∀(h:aG) (o1:bO),(h.set ix ob).set id o1=(h.set id o1).set ix ob:=fun h o1=>List.set_comm _ _ (by omega)
 unfold nE
 cases (tt.at e).ty with
 | none=>rfl
 | some T =>
  simp only[VP hx jb]
  split
  ·cases JC T h x with
   | none=>rfl
   | some m =>
    cases s with
    | cM =>
     simp only[hc]
    | sl T' l tk =>
     simp only
     split
     ·cases tk with
      | no=>rfl
      | nil=>simp only[hc]
      | own i =>
       simp only[Se,decide_eq_true_eq]at hs
       simp only
       rw[cS _ (by omega)]
       have hci:∀o1:bO,(h.set ix ob).set i o1=(h.set i o1).set ix ob:=fun o1=>List.set_comm _ _ (by omega)
       simp only[hci,hc]
     ·rfl
    | row i n=>simp[Se]at hs
    | _=>rfl
  ·rfl

theorem Pp {e id:Nat} {s x:V} {k k':V→aG→Option R} (hs:Se id s=true) (hk:∀v h',(∀i,i<id→(h'.at i).rd=(h.at i).rd)→k v h'=k' v h') :
  nE tt e s x h id k=nE tt e s x h id k':=by
 have h1:∀v o1,k v (h.set id o1)=k' v (h.set id o1):=fun v o1=>hk v _ fun i hi=>by rw[cS _ (by omega)]
 unfold nE
 cases (tt.at e).ty with
 | none=>rfl
 | some T =>
  simp only
  split
  ·cases JC T h x with
   | none=>rfl
   | some m =>
    cases s with
    | cM=>simp only[h1]
    | sl T' l tk =>
     simp only
     split
     ·cases tk with
      | no=>rfl
      | nil=>simp only[h1]
      | own i =>
       simp only[Se,decide_eq_true_eq]at hs
       simp only
       have h2:h.at i = .tok→∀v o1,k v ((h.set i .dead).set id o1)=k' v ((h.set i .dead).set id o1):=fun ht v o1=>hk v _ fun j hj=>by
        rw[cS _ (by omega)]
        by_cases e:i=j
        ·subst e
         rw[ht,lL]
         split <;> simp[bO.rd,ht]
        ·rw[cS _ e]
       cases ht:h.at i <;> try rfl
       simp only[h2 ht]
     ·rfl
    | row i n=>simp[Se]at hs
    | _=>rfl
  ·rfl

theorem Pq {o:Op} (ha:o0 o=true):∃c,o = .call c∧c.callee = .builtin .append:=by
 unfold o0 at ha
 split at ha <;> try (first|cases ha)
 rename_i c
 refine ⟨c,rfl,?_⟩
 revert ha
 split
 ·intro _; assumption
 ·intro h; cases h

theorem Bt {o:Op} (ha:o0 o=true):fk tt o = .W:=by
 obtain ⟨c,rfl,hc⟩:=Pq ha
 simp only[fk,hc]

theorem Pr {o:Op} {ρ ρ':Operand→V} {id:Nat} (h':∀x∈o.operands,ρ x=ρ' x):uQ o ρ id=uQ o ρ' id:=by
 unfold uQ
 split
 ·rename_i c
  have ha:∀x∈c.args.toList,ρ x=ρ' x:=fun x hx=>h' x (by simp[Op.operands,Call.operands]at hx ⊢; exact .inr hx)
  split
  ·rename_i s x e
   rw[ha s (by rw[e]; simp),ha x (by rw[e]; simp)]
  ·rfl
 ·rfl

theorem opW_set {o:Op} {ρ:Operand→V} {id ix:Nat} {ob:bO} {k:V→aG→Option R} (ha:o0 o=true) (hl:uQ o ρ id=true) (jb:id<ix) :
  KH tt o ρ (h.set ix ob) id k=KH tt o ρ h id fun v h'=>k v (h'.set ix ob):=by
 obtain ⟨⟨callee,args,argTypes⟩,rfl,hc⟩:=Pq ha
 simp only at hc
 subst hc
 simp only[KH]
 split
 ·rename_i s x t xt _ e et
  simp only[uQ,e,Bool.and_eq_true]at hl
  simp only[Q1 hl.1 hl.2 jb]
 ·rfl

theorem Q2 {o:Op} {ρ:Operand→V} {id:Nat} {k k':V→aG→Option R} (ha:o0 o=true) (hl:uQ o ρ id=true) (hk:∀v h',(∀i,i<id→(h'.at i).rd=(h.at i).rd)→k v h'=k' v h') :
  KH tt o ρ h id k=KH tt o ρ h id k':=by
 obtain ⟨⟨callee,args,argTypes⟩,rfl,hc⟩:=Pq ha
 simp only at hc
 subst hc
 simp only[KH]
 split
 ·rename_i s x t xt _ e et
  simp only[uQ,e,Bool.and_eq_true]at hl
  simp only[Pp hl.1 hk]
 ·rfl
end

section
variable {P:Program} {tt:dA} {w w':World} {h h':aG} {c c':js} {R:Type}

structure GO (w:World) (c:js) (st:St) (a:Act):Prop where
 wf:WF w st.hp c
 fr:cy w st.hp c st.fr a.tmps.toList

theorem sW.refl (al:Bool) (id:Nat) (h:aG):sW al id h h:=⟨Nat.le_refl _,fun _ _ _ hf=>hf⟩
theorem sW.set {id:Nat} (ob:bO):sW true id h (h.set id ob):=⟨by simp,fun j hj _ hf=>by rw[cS _ (Ne.symm (hj rfl))]; exact hf⟩
theorem sW.weak {al:Bool} {id:Nat} (k:sW false 0 h h'):sW al id h h':=⟨k.1,fun j _ hj hf=>k.2 j (by simp) hj hf⟩

theorem opW_nat {o:Op} {ρ:Operand→V} {id:Nat} {k0:V→aG→Option R} {r:R} (hk:KH tt o ρ h id k0=some r) :
  ∃v h',k0 v h'=some r∧sW true id h h'∧∀k:V→aG→Option R,KH tt o ρ h id k=k v h':=by
 have SL:∀i ob,h.at i ≠ .free→sW true id h (h.set i ob):=fun i ob hi=>⟨by simp,fun j _ _ hf=>by
  rw[cS _ (fun e:i=j=>hi (by rw[e]; exact hf))]; exact hf⟩
 have kset2:∀i ob ob',h.at i ≠ .free→sW true id h ((h.set i ob).set id ob'):=fun i ob ob' hi=>⟨by simp,fun j hj _ hf=>by
  rw[cS _ (Ne.symm (hj rfl)),cS _ (fun e:i=j=>hi (by rw[e]; exact hf))]; exact hf⟩
 cases o <;> simp only[KH]at hk ⊢ <;> try (first|cases hk)
 case store t x y =>
  split at hk <;> try (first|cases hk)
  rename_i vs hvs
  split at hk <;> try (first|cases hk)
  rename_i hc
  split at hk <;> try (first|cases hk)
  ·rename_i i o hx
   split at hk <;> try (first|cases hk)
   ·rename_i cs ye
    split at hk <;> try (first|cases hk)
    rename_i hl
    exact ⟨_,_,hk,SL i _ (by rw[ye]; simp),fun k=>by simp only[*,if_true]⟩
   rename_i u ye
   split at hk <;> try (first|cases hk)
   exact ⟨_,_,hk,SL i _ (by rw[ye]; simp),fun k=>by simp only[*,if_true]⟩
  ·rename_i i sz j o hx
   split at hk <;> try (first|cases hk)
   rename_i T l ye
   split at hk <;> try (first|cases hk)
   rename_i hs
   split at hk <;> try (first|cases hk)
   rename_i hl
   split at hk <;> try (first|cases hk)
   rename_i z hz
   obtain ⟨hb,hk⟩:=cf hk
   exact ⟨_,_,hk,SL i _ (by rw[ye]; simp),fun k=>by simp only[*,if_true,cw,cond_true]⟩
 case slice t x lo hi mx =>
  cases hb:(lo.isNone&&hi.isNone&&mx.isNone)with
  | false=>rw[hb]at hk; cases hk
  | true =>
   rw[hb,cond_true]at hk
   unfold B8 at hk
   split at hk <;> try (first|cases hk)
   rename_i m e i ht hx
   split at hk <;> try (first|cases hk)
   rename_i cs ye
   split at hk <;> try (first|cases hk)
   rename_i T' hT
   split at hk <;> try (first|cases hk)
   rename_i hc
   split at hk <;> try (first|cases hk)
   rename_i l hl
   exact ⟨_,_,hk,SL i _ (by rw[ye]; simp),fun k=>by
    rw[cond_true]
    unfold B8
    simp only[ht,hx,ye,hT]
    rw[if_pos hc,hl]⟩
 case mapUpdate t m x y =>
  split at hk <;> try (first|cases hk)
  rename_i kt vt i ht hx
  split at hk <;> try (first|cases hk)
  rename_i K V' l hm
  split at hk <;> try (first|cases hk)
  rename_i hf
  split at hk <;> try (first|cases hk)
  rename_i kx vx hkx hvx
  exact ⟨_,_,hk,SL i _ (by rw[hm]; simp),fun k=>by simp only[ht,hx,hm,hf,hkx,hvx,if_true]⟩
 case insert t m x y =>
  split at hk <;> try (first|cases hk)
  rename_i kt vt i ht hx
  split at hk <;> try (first|cases hk)
  rename_i K V' l hm
  split at hk <;> try (first|cases hk)
  rename_i hf
  split at hk <;> try (first|cases hk)
  rename_i kx vx hkx hvx
  exact ⟨_,_,hk,SL i _ (by rw[hm]; simp),fun k=>by simp only[ht,hx,hm,hf,hkx,hvx,if_true]⟩
 case next x str =>
  split at hk <;> try (first|cases hk)
  rename_i i hx
  split at hk <;> try (first|cases hk)
  rename_i s pos hit
  cases hb:decide (pos<s.length)with
  | true =>
   rw[hb]at hk
   exact ⟨_,_,hk,SL i _ (by rw[hit]; simp),fun k=>by simp only[hx,hit,hb,cond_true]⟩
  | false =>
   rw[hb]at hk
   exact ⟨_,_,hk, .refl _ _ _,fun k=>by simp only[hx,hit,hb,cond_false]⟩
 case call cl =>
  have happ:∀e s x,nE tt e s x h id k0=some r→∃v h',k0 v h'=some r∧sW true id h h'∧∀k:V→aG→Option R,nE tt e s x h id k=k v h':=by
   intro e s x hk
   unfold nE at hk
   split at hk <;> try (first|cases hk)
   rename_i T hT
   split at hk <;> try (first|cases hk)
   rename_i hc
   split at hk <;> try (first|cases hk)
   rename_i m hm
   split at hk <;> try (first|cases hk)
   ·obtain ⟨hb,hk⟩:=cf hk
    split at hk
    ·rename_i hr
     exact ⟨_,_,hk,sW.set _,fun k=>by simp only[nE,hT,hc,hm,if_true,hb,cw,cond_true,hr]⟩
    ·rename_i hr
     exact ⟨_,_,hk,sW.set _,fun k=>by simp only[nE,hT,hc,hm,if_true,hb,cw,cond_true,if_neg hr]⟩
   ·split at hk <;> try (first|cases hk)
    rename_i hq
    subst hq
    split at hk <;> try (first|cases hk)
    ·obtain ⟨hb,hk⟩:=cf hk
     exact ⟨_,_,hk,sW.set _,fun k=>by simp only[nE,hT,hc,hm,if_true,hb,cw,cond_true,dite_true]⟩
    ·split at hk <;> try (first|cases hk)
     rename_i hi
     obtain ⟨hb,hk⟩:=cf hk
     exact ⟨_,_,hk,kset2 _ _ _ (by rw[hi]; simp),fun k=>by simp only[nE,hT,hc,hm,hi,if_true,hb,cw,cond_true,dite_true]⟩
   ·split at hk <;> try (first|cases hk)
    rename_i T' l hi
    split at hk <;> try (first|cases hk)
    rename_i hq
    subst hq
    obtain ⟨hb,hk⟩:=cf hk
    exact ⟨_,_,hk,kset2 _ _ _ (by rw[hi]; simp),fun k=>by simp only[nE,hT,hc,hm,hi,if_true,hb,cw,cond_true,dite_true]⟩
  split at hk <;> try (first|cases hk)
  split at hk <;> try (first|cases hk)
  ·obtain ⟨v,h',h1,h2,h3⟩:=happ _ _ _ hk
   exact ⟨v,h',h1,h2,fun k=>by simp[*]⟩
  ·obtain ⟨v,h',h1,h2,h3⟩:=happ _ _ _ hk
   exact ⟨v,h',h1,h2,fun k=>by simp[*]⟩

theorem zR {st:List V} {a:Act} (r:cy w h c st a.tmps.toList) (dst:Option Nat) {v:V} {d:Value} (rv:dz w h c v d):cy w h c (lJ st dst v) (a.put dst d).tmps.toList:=by
 cases dst with
 | none=>exact r
 | some j=>simpa [lJ,Act.put]using r.set j rv

theorem put_defers (a:Act) (dst:Option Nat) (d:Value):(a.put dst d).defers=a.defers:=by cases dst <;> rfl
theorem Ez (T:vS P tt) {E:Env R} (hE:R4 P E) {o:Oper} {st:St} {a:Act} {drawn:Option Nat} {id:Nat} {k:St→Option R} {r:R} (hk:yo tt E drawn id o st k=some r) (gZ:GO w c st a)
  (hid:bZ tt o=true→id<st.hp.length∧st.hp.at id = .free) {next:Act→World→Prop} {Q:Exit→Act→World→Prop}
  (hn:∀d w' sE c' v,GO w' c' sE (a.put o.dst d)→Ext w st.hp c w' sE.hp c'→sW (bZ tt o) id st.hp sE.hp→sE.fr=lJ st.fr o.dst v→(fk tt o.op ≠ .W→(fk tt o.op = .C→(drawn.isNone || !nF E o.op)=false)→∀i,(bZ tt o=true→i≠id)→sE.hp.at i=st.hp.at i)→(o0 o.op=true→drawn.isSome=true→∀i,i<id→(sE.hp.at i).rd=(st.hp.at i).rd)→k sE=some r→next (a.put o.dst d) w'):o.wp P a w next Q:=by
 have hρ:=fun x=>SK gZ.fr x
 unfold yo at hk
 unfold Oper.wp
 simp only at hk
 split at hk
 ·rename_i AH
  obtain ⟨v,d,h1,h2,h3⟩:=Vj (w:=w) T hρ hk
  rw[h1,Oper.upon_value]
  exact hn d w ⟨lJ st.fr o.dst v,st.hp⟩ c v ⟨gZ.wf,zR gZ.fr _ h2⟩ (.refl _ _ _) (.refl _ _ _) rfl (fun _ _ _ _=>rfl) (fun _ _ _ _=>rfl) h3
 ·rename_i AH
  obtain ⟨v,d,h1,h2,h3⟩:=Vq T gZ.wf hρ hk
  rw[h1,Oper.upon_value]
  exact hn d w ⟨lJ st.fr o.dst v,st.hp⟩ c v ⟨gZ.wf,zR gZ.fr _ h2⟩ (.refl _ _ _) (.refl _ _ _) rfl (fun _ _ _ _=>rfl) (fun _ _ _ _=>rfl) h3
 ·rename_i AH
  have hal:bZ tt o=true:=by simp[bZ,AH]
  obtain ⟨ob,mk,h1,_,h2⟩:=VC T gZ.wf hρ hk
  obtain ⟨d,w',c',g1,g2,g3,g4⟩:=h2 id (hid hal).1 (hid hal).2
  rw[g1,Oper.upon_value]
  exact hn d w' ⟨lJ st.fr o.dst (mk id),st.hp.set id ob⟩ c' (mk id) ⟨g2,zR (gZ.fr.mono g3) _ g4⟩ g3 (by rw[hal]; exact sW.set _) rfl (fun _ _ i hi=>cS _ (Ne.symm (hi hal))) (fun _ _ i hi=>by rw[cS _ (by omega)]) h1
 ·rename_i AH
  have hal:bZ tt o=true:=by simp[bZ,AH]
  have hk:(uQ o.op (ev st.fr) id=true∨drawn.isSome=false)∧KH tt o.op (ev st.fr) st.hp id (fun v h=>k ⟨lJ st.fr o.dst v,h⟩)=some r:=by
   revert hk
   cases uQ o.op (ev st.fr) id <;> cases drawn.isSome <;> simp
  obtain ⟨Ps,hk⟩:=hk
  let C:aG→Prop:=fun h'=>o0 o.op=true→drawn.isSome=true→∀i,i<id→(h'.at i).rd=(st.hp.at i).rd
  have hk:KH tt o.op (ev st.fr) st.hp id (fun v h'=>open Classical in if C h' then k ⟨lJ st.fr o.dst v,h'⟩else none)=some r:=by
   by_cases ha:o0 o.op=true∧drawn.isSome=true
   ·have hl:=Ps.resolve_right (by simp[ha.2])
    rw[←hk]
    exact Q2 ha.1 hl fun v h' hrd=>if_pos fun _ _=>hrd
   ·have:∀h',C h':=fun h' h1 h2=>(ha ⟨h1,h2⟩).elim
    rw[←hk]
    congr 1
    funext v h'
    exact if_pos (this h')
  obtain ⟨v0,h0,hk0,hkeep,hnat⟩:=opW_nat hk
  have hk0':(open Classical in if C h0 then k ⟨lJ st.fr o.dst v0,h0⟩else none)=some r:=hk0
  have hC0:C h0:=by
   by_cases hc:C h0
   ·exact hc
   ·rw[if_neg hc]at hk0'; cases hk0'
  rw[if_pos hC0]at hk0'
  replace hk0:=hk0'
  have Fw:=hnat fun v h'=>open Classical in if h'=h0 then k ⟨lJ st.fr o.dst v,h'⟩else none
  simp only[if_true]at Fw
  obtain ⟨v,h',d,w',c',nx,g1,g2,g3,g4,g5,g6⟩:=VJ T gZ.wf hρ (hid hal).1 (hid hal).2 (Fw.trans hk0)
  split at g6 <;> try (first|cases g6)
  rename_i he
  subst he
  rw[g1]
  rcases g2 with rfl|⟨rfl,rfl⟩
  ·rw[Oper.upon_value]
   exact hn d w' ⟨lJ st.fr o.dst v,h'⟩ c' v ⟨g3,zR (gZ.fr.mono g4) _ g5⟩ g4 (by rw[hal]; exact hkeep) rfl (fun hC=>(hC AH).elim) hC0 g6
  ·rw[Oper.upon_skip]
   exact hn undef w' ⟨lJ st.fr o.dst v,h'⟩ c' v ⟨g3,zR (gZ.fr.mono g4) _ g5⟩ g4 (by rw[hal]; exact hkeep) rfl (fun hC=>(hC AH).elim) hC0 g6
 ·rename_i AH
  split at hk <;> try (first|cases hk)
  rename_i cl En
  obtain ⟨g,args,h1,nx,w1,h2,h3⟩:=Q0 hE gZ.wf En hρ hk
  rw[h1,h2]
  have fin:∀d w',(∃v h' c',WF w' h' c'∧Ext w st.hp c w' h' c'∧dz w' h' c' v d∧k ⟨lJ st.fr o.dst v,h'⟩=some r∧sW false 0 st.hp h'∧((drawn.isNone || !nF E o.op)=false→h'=st.hp))→next (a.put o.dst d) w':=by
   rintro d w' ⟨v,h',c',q1,q2,q3,q4,q5,q6⟩
   exact hn d w' ⟨lJ st.fr o.dst v,h'⟩ c' v ⟨q1,zR (gZ.fr.mono q2) _ q3⟩ q2 q5.weak rfl (fun _ hd i _=>by rw[q6 (hd AH)]) (fun ha=>by rw[Bt ha]at AH; cases AH) q4
  cases nx <;> simp only at h3
  ·rw[Oper.upon_value]; exact fin _ _ h3
  ·rw[Oper.upon_enter]
   exact Calls.mono h3 fun e w' ⟨d,e1,q⟩=>by subst e1; exact fin d w' q
  ·rw[Oper.upon_row]
   exact Rows.mono h3 fun d w' q=>fin d w' q
 ·cases hk
 ·cases hk
end

section
variable {P:Program} {tt:dA} {w w':World} {h h':aG} {c c':js} {R:Type}

theorem XT {fr:List V} {d:Nat} {v:V} (h:fr.getD d .undef=v) (hv:v ≠ .undef):fr.set d v=fr:=by
 have hd:d<fr.length:=by
  rcases Nat.lt_or_ge d fr.length with hl|hl
  ·exact hl
  ·simp[List.getD,List.getElem?_eq_none hl]at h; exact (hv h.symm).elim
 have e:fr[d]=v:=by simpa [List.getD,List.getElem?_eq_getElem hd]using h
 rw[←e]
 exact List.set_getElem_self hd

theorem As {all:List Oper} {o:Oper} {st:St} {run skip:St→Option R}:uR all o st run skip =
  match o.guard with
  | none=>run st
  | some (j,want) =>
   match (all[j]?).bind (·.dst)with
   | none=>none
   | some d=>match st.fr.getD d .undef with | .bool b=>if b=want then run st else skip st | .tuple []=>skip st|_=>none:=by
 unfold uR
 cases o.guard with
 | none=>rfl
 | some jw =>
  obtain ⟨j,want⟩:=jw
  simp only
  cases (all[j]?).bind (·.dst)with
  | none=>rfl
  | some d =>
   simp only
   cases hb:st.fr.getD d .undef with
   | bool b =>
    have e:(⟨st.fr.set d (.bool b),st.hp⟩:St)=st:=by rw[XT hb (by simp)]
    cases b <;> cases want <;> simp[e]
   | tuple vs=>cases vs <;> rfl
   | _=>rfl

theorem CR {ops:Array Oper} {o:Oper} {st:St} {a:Act} (gZ:GO w c st a) {run skip:St→Option R} {r:R} (hk:uR ops.toList o st run skip=some r) :
  (Region.wanted o (yielded ops a.tmps)=true∧run st=some r)∨(Region.wanted o (yielded ops a.tmps)=false∧skip st=some r):=by
 rw[As]at hk
 unfold Region.wanted
 split at hk
 ·rename_i hg; simp only[hg]; exact .inl ⟨trivial,hk⟩
 ·rename_i j want hg
  simp only[hg]
  split at hk <;> try (first|cases hk)
  rename_i d hd
  have hl:∀v,st.fr.getD d .undef=v→v ≠ .undef→d<st.fr.length:=fun v hv jc=>by
   rcases Nat.lt_or_ge d st.fr.length with hl|hl
   ·exact hl
   ·simp[List.getD,List.getElem?_eq_none hl]at hv; exact (jc hv.symm).elim
  have key:∀v,st.fr.getD d .undef=v→v ≠ .undef→∃x,a.tmps[d]? = some x∧dz w st.hp c v x:=fun v hb jc=>by
   have hl:=hl v hb jc
   have O8:d<a.tmps.size:=by rw[←(by simpa using gZ.fr.1:st.fr.length=a.tmps.size)]; exact hl
   exact ⟨a.tmps[d],Array.getElem?_eq_getElem O8,gZ.fr.2 d v a.tmps[d] (by rw[List.getElem?_eq_getElem hl]; simpa [List.getD,List.getElem?_eq_getElem hl]using hb) (by simp)⟩
  have Vf:(ops[j]?).bind (·.dst)=some d:=by simpa using hd
  split at hk <;> try (first|cases hk)
  ·rename_i b hb
   obtain ⟨x,hx,rv⟩:=key _ hb (by simp)
   have hy:yielded ops a.tmps j=some b:=by
    unfold yielded
    rw[Vf]
    simp only[Option.bind_some,hx]
    cases rv
    rfl
   rw[hy]
   split at hk
   ·rename_i hw; subst hw; exact .inl ⟨by simp,hk⟩
   ·rename_i hw; exact .inr ⟨by simpa using hw,hk⟩
  ·rename_i hb
   obtain ⟨x,hx,rv⟩:=key _ hb (by simp)
   have hy:yielded ops a.tmps j=none:=by
    unfold yielded
    rw[Vf]
    simp only[Option.bind_some,hx]
    cases rv
    rfl
   rw[hy]
   exact .inr ⟨by simp,hk⟩

theorem Jb:dz w h c (.tuple []) undef := .tuple rfl (by simp)

def XU (w:World) (c:js) (st:St) (a:Act) (k:St→Option R) (r:R) (K:Act→World→Prop):Prop :=
 ∀a' w' sE c',GO w' c' sE a'→Ext w st.hp c w' sE.hp c'→a'.defers=a.defers→k sE=some r→K a' w'

def Slots (tt:dA) (rest:List Oper) (id:Nat) (h:aG):Prop:=∀j,id≤j→j<id+(rest.filter (bZ tt)).length→j<h.length∧h.at j = .free

theorem GP (T:vS P tt) {E:Env R} (hE:R4 P E) {ops:Array Oper} {k:St→Option R} {r:R} {Q:Exit→Act→World→Prop}:∀(rest:List Oper) (n id:Nat) (w:World) (c:js) (st:St) (a:Act),
  ops.toList.drop n=rest→Ld tt E none ops.toList rest id st k=some r→GO w c st a→Slots tt rest id st.hp→XU w c st a k r (Q .normal)→wpOps P ops Q (List.range' n rest.length) a w
 | [],n,id,w,c,st,a,_,hk,gZ,_,go=>go a w st c gZ (.refl _ _ _) rfl hk
 | o::rest,n,id,w,c,st,a,hd,hk,gZ,hs,go=>by
  have hn:ops[n]? = some o:=by
   have:(ops.toList.drop n)[0]? = some o:=by rw[hd]; rfl
   rw[List.getElem?_drop]at this
   simpa using this
  have Vf:ops.toList.drop (n+1)=rest:=by
   have:(ops.toList.drop n).drop 1=rest:=by rw[hd]; rfl
   rwa [List.drop_drop]at this
  rw[List.length_cons,List.range'_succ,wpOps_cons]
  unfold wpOp
  simp only[hn]
  simp only[Ld,CI]at hk
  have hsl:∀h',sW (bZ tt o) id st.hp h'→Slots tt rest (if bZ tt o then id+1 else id) h':=by
   intro h' kp j h1 h2
   cases ha:bZ tt o with
   | true =>
    rw[ha]at h1 h2 kp
    simp only[if_true]at h1 h2
    obtain ⟨g1,g2⟩:=hs j (by omega) (by rw[List.filter_cons_of_pos ha,List.length_cons]; omega)
    exact ⟨Nat.lt_of_lt_of_le g1 kp.1,kp.2 j (fun _=>by omega) g1 g2⟩
   | false =>
    rw[ha]at h1 h2 kp
    simp only[Bool.false_eq_true,if_false]at h1 h2
    obtain ⟨g1,g2⟩:=hs j (by omega) (by rw[List.filter_cons_of_neg (by simp[ha])]; omega)
    exact ⟨Nat.lt_of_lt_of_le g1 kp.1,kp.2 j (fun h=>by cases h) g1 g2⟩
  rcases CR gZ hk with ⟨hw,hk⟩|⟨hw,hk⟩
  ·rw[if_pos hw]
   refine .inl (Ez T hE hk gZ (fun ha=>hs id (Nat.le_refl _) (by rw[List.filter_cons_of_pos ha,List.length_cons]; omega)) fun d w' sE c' v SM x kp _ _ _ qA => ?_)
   refine GP T hE rest (n+1) _ w' c' sE _ Vf qA SM (hsl _ kp) fun a2 w2 A6 c2 s2 x2 d2 k2 => ?_
   exact go a2 w2 A6 c2 s2 (x.trans x2) (d2.trans (put_defers _ _ _)) k2
  ·rw[if_neg (by simp[hw])]
   refine GP T hE rest (n+1) _ w c ⟨lJ st.fr o.dst (.tuple []),st.hp⟩ _ Vf hk ⟨gZ.wf,zR gZ.fr _ Jb⟩ (hsl _ (.refl _ _ _)) fun a2 w2 A6 c2 s2 x2 d2 k2 => ?_
   exact go a2 w2 A6 c2 s2 x2 (d2.trans (put_defers _ _ _)) k2

theorem KO {n i:Nat}:aG.at (h++List.replicate n .free) i=h.at i∨(h.length≤i∧aG.at (h++List.replicate n .free) i = .free):=by
 rcases Nat.lt_or_ge i h.length with hi|hi
 ·exact .inl (jX hi)
 ·rcases Nat.lt_or_ge (i - h.length) n with hj|hj
  ·refine .inr ⟨hi,?_⟩
   rw[jd hi]
   simp[aG.at,List.getD,List.getElem?_replicate,hj]
  ·refine .inl ?_
   rw[jd hi]
   have h1:¬(i - h.length<n):=by omega
   have h2:¬(i<h.length):=by omega
   simp[aG.at,List.getD,List.getElem?_replicate,h1,List.getElem?_eq_none hi]

theorem XV {i:Nat} (hi:h.length≤i):h.at i = .dead:=by simp[aG.at,List.getD,List.getElem?_eq_none hi]

theorem LM {n b x:Nat}:sF (h++List.replicate n .free) c b x↔sF h c b x:=by
 constructor
 ·rintro ⟨i,f,h1,h2,h3⟩
  rcases KO (h:=h) (n:=n) (i:=i)with e|⟨_,e⟩
  ·exact ⟨i,f,h1,e▸h2,h3⟩
  ·rw[e]at h2; cases h2
 ·rintro ⟨i,f,h1,h2,h3⟩
  rcases KO (h:=h) (n:=n) (i:=i)with e|⟨hi,e⟩
  ·exact ⟨i,f,h1,e.symm▸h2,h3⟩
  ·rw[XV hi]at h2; cases h2

theorem sG (n:Nat):Ext w h c w (h++List.replicate n .free) c where
 os:=rfl
 tape:=rfl
 output:=rfl
 size:=Nat.le_refl _
 used:=fun i hi=>⟨by simp; have:=hi.1; omega,by
  rw[jX hi.1]; exact hi.2⟩
 same:=fun i hi hd=>by
  rw[jX hi.1]at hd ⊢
  exact ⟨Ch (Fy hi.2 hd) (fun _ _ _ => .inr trivial),rfl,rfl⟩
 cell:=fun _ _ _ _=>rfl
 block:=fun _ _ _=>rfl
 vH:=fun b x _ ho=>LM.1 ho
 ext:=rfl
 arr:=fun b arr e fz hb=>⟨arr,fz,hb,rfl⟩

theorem EA (wf:WF w h c) (n:Nat):WF w (h++List.replicate n .free) c where
 lay:=wf.rq (sG n)
 wX:=fun b x ho=>wf.wX b x (LM.1 ho)
 o3:=wf.o3
 obj:=fun i hi=>by
  rcases KO (h:=h) (n:=n) (i:=i)with e|⟨_,e⟩
  ·rw[e]
   rcases Nat.lt_or_ge i h.length with hl|hl
   ·have ho:=wf.obj i hl
    by_cases hv:(h.at i).live
    ·exact ho.uM (sG n) (fun _ _=>rfl) rfl rfl
    ·have h0:h.at i = .free∨h.at i = .dead:=by revert hv; cases h.at i <;> simp[bO.live]
     rcases h0 with h0|h0 <;> rw[h0] <;> trivial
   ·rw[XV hl]; trivial
  ·rw[e]; trivial
 inj:=fun i j b hi hj h1 h2=>by
  have hl:∀i,(aG.at (h++List.replicate n .free) i).live→(h.at i).live:=fun i hi=>by
   rcases KO (h:=h) (n:=n) (i:=i)with e|⟨_,e⟩
   ·rw[e]at hi; exact hi
   ·rw[e]at hi; exact hi.elim
  exact wf.inj i j b (hl i hi) (hl j hj) h1 h2

theorem Pt (T:vS P tt) {E:Env R} (hE:R4 P E) {id:Nat} {ops:Array Oper} {k:St→Option R} {r:R} {Q:Exit→Act→World→Prop} {st:St} {a:Act}
  (hk:Fv tt E ops.toList false st k=some r) (gZ:GO w c st a) (go:XU w c st a k r (Q .normal)):(Code.region id ops false).wp P Q a w:=by
 refine wp_region ?_
 simp only[Fv,Bool.false_eq_true,if_false]at hk
 have:=GP T hE (ops:=ops) (Q:=Q) ops.toList 0 st.hp.length w c _ a rfl hk ⟨EA gZ.wf _,gZ.fr.mono (sG _)⟩ ?_ ?_
 ·rw[List.range_eq_range']
  simpa using this
 ·intro j h1 h2
  refine ⟨by simp; omega,?_⟩
  rw[jd h1]
  have:j - st.hp.length<(ops.toList.filter (bZ tt)).length:=by omega
  simp[aG.at,List.getD,List.getElem?_replicate,this]
 ·exact fun a2 w2 A6 c2 s2 x2 d2 k2=>go a2 w2 A6 c2 s2 ((sG _).trans x2) d2 k2
end

section
variable {P:Program} {tt:dA} {w w':World} {h h':aG} {c c':js} {R:Type}

def one (tt:dA) (E:Env R) (S:Option (Bool × List Nat)) (base:Nat) (all:List Oper) (o:Oper) (id:Nat) (st:St) (k:St→Option R):Option R :=
 uR all o st (fun st=>bif GG tt E base S all o (ev st.fr) st.hp then yo tt E (W7 tt S base o) id o st k else none) (fun st=>k ⟨lJ st.fr o.dst (.tuple []),st.hp⟩)

abbrev vo:=Nat × Oper × Nat

def D1 (tt:dA) (E:Env R) (S:Option (Bool × List Nat)) (base:Nat) (all:List Oper):List vo→St→(St→Option R)→Option R
 | [],st,k=>k st
 | x::rest,st,k=>one tt E S base all x.2.1 x.2.2 st fun st=>D1 tt E S base all rest st k

def number (tt:dA):List Oper→Nat→Nat→List vo
 | [],_,_ => []
 | o::rest,i,id=>(i,o,id)::number tt rest (i+1) (if bZ tt o then id+1 else id)

theorem Pu {E:Env R} {base:Nat} {all:List Oper}:∀(l:List Oper) (i id:Nat) (st:St) (k:St→Option R),
  Ld tt E (some base) all l id st k=D1 tt E none base all (number tt l i id) st k
 | [],_,_,_,_=>rfl
 | o::l,i,id,st,k=>by
  simp only[Ld,CI,number,D1,one,GG,W7,cond_true]
  congr 1
  ·funext st
   congr 1
   funext st
   exact Pu l _ _ _ _
  ·funext st
   exact Pu l _ _ _ _

theorem KP {E:Env R} {A:Bool × List Nat} {base:Nat} {all:List Oper}:∀(l:List Oper) (i id:Nat) (st:St) (k:St→Option R),
  Qo tt E base A all l id st k=D1 tt E (some A) base all (number tt l i id) st k
 | [],_,_,_,_=>rfl
 | o::l,i,id,st,k=>by
  simp only[Qo,CI,number,D1,one]
  congr 1
  ·funext st
   congr 1
   congr 1
   funext st
   exact KP l _ _ _ _
  ·funext st
   exact KP l _ _ _ _

theorem Pv {S:Option (Bool × List Nat)} {base:Nat} {o:Oper} (h:fk tt o.op ≠ .W):W7 tt S base o=some base:=by
 unfold W7
 split
 ·split
  ·rename_i hc; exact (h hc).elim
  ·rfl
 ·rfl
theorem Q3 {S:Option (Bool × List Nat)} {base:Nat} {o:Oper} (h:S.map (·.1)≠some true):W7 tt S base o=some base:=by
 unfold W7
 split
 ·exact (h rfl).elim
 ·rfl

structure Uh where
 dst:Option Nat
 v:V
 put:Option (Nat × bO)

def Uh.hp (e:Uh) (h:aG):aG:=match e.put with|none=>h|some (i,ob)=>h.set i ob
def eff (st:St) (e:Uh):St:=⟨lJ st.fr e.dst e.v,e.hp st.hp⟩

theorem Ob {fr:List V} {dst:Option Nat} {v:V} {t:Nat} (h:dst≠some t):(lJ fr dst v).getD t .undef=fr.getD t .undef:=by
 cases dst with
 | none=>rfl
 | some d =>
  have:d≠t:=fun e=>h (by rw[e])
  simp[lJ,List.getD,List.getElem?_set_ne this]

theorem VQ {fr:List V} {x y:Option Nat} {u v:V} (h:∀d,x=some d→y≠some d):lJ (lJ fr x u) y v=lJ (lJ fr y v) x u:=by
 cases x with
 | none=>rfl
 | some d =>
  cases y with
  | none=>rfl
  | some e =>
   have:d≠e:=fun he=>h d rfl (by rw[he])
   simp only[lJ]
   exact List.set_comm _ _ this

theorem Cj {fr VR:List V} {o:Oper} {all:List Oper} (h:∀t∈looks all o,VR.getD t .undef=fr.getD t .undef):∀x∈o.op.operands,ev VR x=ev fr x:=by
 intro x hx
 cases x with
 | tmp t=>exact h t (List.mem_append_left _ (List.mem_filterMap.2 ⟨.tmp t,by simpa using hx,rfl⟩))
 | _=>rfl

theorem LN {fr VR:List V} {hp Xa:aG} {o:Oper} {all:List Oper} (h:∀t∈looks all o,VR.getD t .undef=fr.getD t .undef) {run skip run' LO:St→Option R}
  (hr:run' ⟨VR,Xa⟩=run ⟨fr,hp⟩) (hs:LO ⟨VR,Xa⟩=skip ⟨fr,hp⟩):uR all o ⟨VR,Xa⟩ run' LO=uR all o ⟨fr,hp⟩ run skip:=by
 rw[As,As]
 cases hg:o.guard with
 | none=>exact hr
 | some jw =>
  obtain ⟨j,want⟩:=jw
  simp only
  cases hd:(all[j]?).bind (·.dst)with
  | none=>rfl
  | some d =>
   have:=h d (by
    refine List.mem_append_right _ ?_
    simp only[hg,hd]
    simp)
   simp only[this,hr,hs]

theorem Q4 {o:Op} {ρ:Operand→V} {lim:Option Nat} {h2:aG} (e:∀i∈vV o ρ,DN lim i=true→(h2.at i).rd=(h.at i).rd) {k:V→Option R}:U4 tt o ρ h2 lim k=U4 tt o ρ h lim k:=by
 have e':∀i∈vV o ρ,DN lim i=true→h2.at i=h.at i∨((h2.at i = .tok∨h2.at i = .dead∨h2.at i = .free)∧(h.at i = .tok∨h.at i = .dead∨h.at i = .free)):=fun i hm hi=>QY (e i hm hi)
 clear e
 cases o <;> simp only[U4]
 case load t x =>
  split
  ·rename_i i o hx
   split
   ·rename_i hl
    rcases e' i (by simp[vV,hx,V.ids]) hl with h1|⟨h1|h1|h1,g2|g2|g2⟩ <;> (first|(simp only[h1,g2]; done)|(simp only[h1]; done)|rfl|(simp only[h1,g2]; (repeat' split) <;> first|rfl|contradiction|simp_all))
   ·rfl
  ·rfl
  ·rename_i i _ _ _ hx
   split
   ·rename_i hl
    rcases e' i (by simp[vV,hx,V.ids]) hl with h1|⟨h1|h1|h1,g2|g2|g2⟩ <;> (first|(simp only[h1,g2]; done)|(simp only[h1]; done)|(simp only[h1,g2]; (repeat' split) <;> first|rfl|contradiction|simp_all))
   ·rfl
  ·rfl
 case lookup t x ix ok =>
  split
  ·rename_i kt vt i _ hx
   split
   ·rename_i hl
    rcases e' i (by simp[vV,hx,V.ids]) hl with h1|⟨h1|h1|h1,g2|g2|g2⟩ <;> (first|simp only[h1,g2]|simp only[h1])
   ·rfl
  ·rfl
 case convert s d x =>
  split
  ·rename_i i _ _ _ hx
   split
   ·rename_i hl
    rcases e' i (by simp[vV,hx,V.ids]) hl with h1|⟨h1|h1|h1,g2|g2|g2⟩ <;> (first|(simp only[h1,g2]; done)|(simp only[h1]; done)|(simp only[h1,g2]; (repeat' split) <;> first|rfl|contradiction|simp_all))
   ·rfl
  ·rfl
  ·rfl
  ·rfl

def Bu (S:Option (Bool × List Nat)) (E:Env R) (all:List Oper) (tt:dA) (base:Nat) (x:Oper) (st A6:St):Prop :=
 (∀t∈looks all x,A6.fr.getD t .undef=st.fr.getD t .undef)∧(fk tt x.op = .R→∀i,i<base→(∀A,S=some (true,A)→U6 tt E all x=true→i∈A)→(∀A,S=some (false,A)→NT tt E all x=true→i∉A)→(A6.hp.at i).rd=(st.hp.at i).rd)

def turns (tt:dA) (E:Env R) (o:Op):Prop:=(dU tt E o = .W∧o0 o=false)∨(dU tt E o = .F∧lK E o=false)

def Kept (S:Option (Bool × List Nat)) (tt:dA) (E:Env R) (all:List Oper) (base:Nat) (o:Oper) (h h':aG):Prop :=
 (∀i,i<base→(h'.at i).rd=(h.at i).rd)∨((turns tt E o.op∨(S.map (·.1)=some true∧o0 o.op=true))∧(dU tt E o.op = .F→∀A,S=some (true,A)→∀i∈A,(h'.at i).rd=(h.at i).rd)∧(jU all o=true→∀A,S=some (false,A)→∀i,i∉A→(h'.at i).rd=(h.at i).rd))

theorem qC {E:Env R} {o:Op} (h:fk tt o ≠ .C):dU tt E o=fk tt o:=by
 unfold dU
 split
 ·rename_i hc; exact (h hc).elim
 ·rfl

def calm (a:Cls):Bool:=match a with | .P | .R | .A=>true|_=>false

theorem Nr {o:Op} {ρ ρ':Operand→V} (h:∀x∈o.operands,ρ' x=ρ x):vV o ρ'=vV o ρ:=by
 cases o <;> simp only[vV] <;> rw[h _ (by simp[Op.operands])]
theorem LP {o:Op} {ρ ρ':Operand→V} (h:∀x∈o.operands,ρ' x=ρ x):Ay o ρ'=Ay o ρ:=by
 cases o <;> simp only[Ay] <;> rw[h _ (by simp[Op.operands])]
theorem Ns {o:Op} {ρ ρ':Operand→V} {hp:aG} (h:∀x∈o.operands,ρ' x=ρ x):lY o ρ' hp=lY o ρ hp:=by
 unfold lY
 split
 ·rename_i cl
  split
  ·rename_i f hf
   have e1:ρ' f=ρ f:=h f (by simp[Op.operands,Call.operands,hf])
   have e2:cl.args.toList.map ρ'=cl.args.toList.map ρ:=List.map_congr_left fun z hz=>h z (by simp[Op.operands,Call.operands]; exact .inr (by simpa using hz))
   rw[e1,e2]
  ·rfl
 ·rfl
theorem Oc {E:Env R} {base:Nat} {S:Option (Bool × List Nat)} {all:List Oper} {x:Oper} {fr VR:List V} {hp:aG} (h:∀t∈looks all x,VR.getD t .undef=fr.getD t .undef):GG tt E base S all x (ev VR) hp=GG tt E base S all x (ev fr) hp:=by
 cases S with
 | none=>rfl
 | some A=>obtain ⟨m,A⟩:=A; cases m <;> simp only[GG] <;> rw[Nr (Cj h),LP (Cj h)] <;> rw[Ns (Cj h)]
theorem XW {E:Env R} {base:Nat} {S:Option (Bool × List Nat)} {all:List Oper} {x:Oper} {fr VR:List V} {hp Xa:aG} (hc:calm (fk tt x.op)=true) (h:∀t∈looks all x,VR.getD t .undef=fr.getD t .undef):GG tt E base S all x (ev VR) Xa=GG tt E base S all x (ev fr) hp:=by
 rw[Oc (fr:=fr) h]
 cases S with
 | none=>rfl
 | some A =>
  obtain ⟨m,A⟩:=A
  cases m <;> simp only[GG] <;> revert hc <;> cases fk tt x.op <;> simp[calm]

theorem Ui {E:Env R} {S:Option (Bool × List Nat)} {base:Nat} {all:List Oper} {x:Oper} {id:Nat} {st:St} {k0:St→Option R} {r:R} (hc:calm (fk tt x.op)=true) (hk:one tt E S base all x id st k0=some r) :
  ∃e:Uh,e.dst=x.dst∧(∀i ob,e.put=some (i,ob)→i=id∧fk tt x.op = .A)∧k0 (eff st e)=some r∧∀A6,Bu S E all tt base x st A6→∀k,one tt E S base all x id A6 k=k (eff A6 e):=by
 unfold one at hk ⊢
 -- the guard says the same
 have hgu:∀A6,Bu S E all tt base x st A6→∀(run skip:St→Option R),uR all x A6 run skip=uR all x st (fun _=>run A6) (fun _=>skip A6):=by
  intro A6 ha run skip
  obtain ⟨fr,hp⟩:=st
  obtain ⟨fr2,hp2⟩:=A6
  exact LN ha.1 rfl rfl
 have XI:∀run skip:St→Option R,(∀run' LO:St→Option R,uR all x st run' LO=run' st)∨(∀run' LO:St→Option R,uR all x st run' LO=LO st)∨uR all x st run skip=none:=by
  intro run skip
  simp only[As]
  cases x.guard with
  | none=>exact .inl fun _ _=>rfl
  | some jw =>
   obtain ⟨j,want⟩:=jw
   simp only
   cases (all[j]?).bind (·.dst)with
   | none=>exact .inr (.inr rfl)
   | some d =>
    simp only
    cases st.fr.getD d .undef with
    | bool b=>by_cases hb:b=want <;> simp[hb]
    | tuple vs =>
     cases vs with
     | nil=>exact .inr (.inl fun _ _=>rfl)
     | cons _ _=>exact .inr (.inr rfl)
    | _=>exact .inr (.inr rfl)
 rcases XI _ _ with hg|hg|hg
 ·rw[hg]at hk
  obtain ⟨hS,hk⟩:GG tt E base S all x (ev st.fr) st.hp=true∧yo tt E (W7 tt S base x) id x st k0=some r:=by
   cases hS:GG tt E base S all x (ev st.fr) st.hp with
   | true=>rw[hS]at hk; exact ⟨rfl,hk⟩
   | false=>rw[hS]at hk; cases hk
  have hnW:fk tt x.op ≠ .W:=fun e=>by rw[e]at hc; cases hc
  rw[Pv hnW]at hk ⊢
  have hS2:∀A6,Bu S E all tt base x st A6→GG tt E base S all x (ev A6.fr) A6.hp=true:=fun A6 ha=>by rw[←hS]; exact XW hc ha.1
  unfold yo at hk
  simp only at hk
  split at hk
  ·rename_i AH
   obtain ⟨v,h1,h2⟩:=opP_nat hk
   refine ⟨⟨x.dst,v,none⟩,rfl,by simp,h1,fun A6 ha k => ?_⟩
   rw[hgu A6 ha,hg,hS2 A6 ha,cond_true]
   simp only[yo,AH]
   rw[N4 (Cj ha.1),h2]
   rfl
  ·rename_i AH
   obtain ⟨v,h1,h2⟩:=opR_nat hk
   refine ⟨⟨x.dst,v,none⟩,rfl,by simp,h1,fun A6 ha k => ?_⟩
   rw[hgu A6 ha,hg,hS2 A6 ha,cond_true]
   simp only[yo,AH]
   rw[N5 (Cj ha.1),Q4 (h:=st.hp) fun i hm hi=>ha.2 AH i (by simpa [DN]using hi) (fun A hA hf => ?_) fun A hA hf => ?_,h2 _ fun i hi=>rfl]
   ·rfl
   ·subst hA
    simp only[GG,AH,hf,Bool.not_true,Bool.false_or,List.all_eq_true]at hS
    simpa using hS i hm
   ·subst hA
    simp only[GG,AH,hf,Bool.not_true,Bool.false_or,List.all_eq_true]at hS
    simpa using hS i hm
  ·rename_i AH
   obtain ⟨ob,mk,h1,h2⟩:=opA_nat hk
   refine ⟨⟨x.dst,mk id,some (id,ob)⟩,rfl,by simp[AH],h1,fun A6 ha k => ?_⟩
   rw[hgu A6 ha,hg,hS2 A6 ha,cond_true]
   simp only[yo,AH]
   rw[N6 (Cj ha.1),h2]
   rfl
  all_goals (rename_i AH; rw[AH]at hc; cases hc)
 ·rw[hg]at hk
  refine ⟨⟨x.dst, .tuple [],none⟩,rfl,by simp,hk,fun A6 ha k => ?_⟩
  rw[hgu A6 ha,hg]
  rfl
 ·rw[hg]at hk; cases hk

theorem apart_spec {all:List Oper} {x y:Oper} (h:xi all x y=true) :
  (∀d,x.dst=some d→d∉looks all y)∧(∀d,x.dst=some d→y.dst≠some d)∧(∀d,y.dst=some d→d∉looks all x):=by
 refine ⟨fun d hd => ?_,fun d hd => ?_,fun d hd => ?_⟩ <;> simp[xi,hd]at h
 ·exact h.1.1
 ·exact h.1.2
 ·exact h.2

theorem CS {fr:List V} {c:Value} {g:Nat} {a b:List V} (h:ev fr (.const c) = .func g a b):False:=by
 simp only[ev]at h
 unfold ofConst at h
 split at h
 ·cases h
 ·unfold Eo at h
  split at h <;> (try split at h) <;> cases h


theorem GQ {i:Nat}:∀(n:Nat) (todo seen:List Nat),i∈seen→i∈reach h n todo seen
 | 0,_,_,hi=>hi
 | _+1, [],_,hi=>hi
 | n+1,j::todo,seen,hi=>by
  unfold reach
  split
  ·exact GQ n _ _ hi
  ·exact GQ n _ _ (by simp[hi])
theorem FA {i:Nat} {ob:bO}:∀(n:Nat) (todo seen:List Nat),i∉reach h n todo seen→reach (h.set i ob) n todo seen=reach h n todo seen
 | 0,_,_,_=>rfl
 | _+1, [],_,_=>rfl
 | n+1,j::todo,seen,hi=>by
  unfold reach at hi ⊢
  split
  ·rename_i hc
   rw[if_pos hc]at hi
   exact FA n _ _ hi
  ·rename_i hc
   rw[if_neg hc]at hi
   have jc:i≠j:=by
    rintro rfl
    exact hi (GQ n _ _ (by simp))
   rw[cS _ jc]
   exact FA n _ _ hi
theorem set_set {i:Nat} {ob:bO}:(h.set i ob).set i (h.at i)=h:=by
 rw[List.set_set]
 apply List.ext_getElem?
 intro j
 rw[List.getElem?_set]
 split
 ·rename_i e
  subst e
  split
  ·rename_i hl
   simp[aG.at,List.getD,List.getElem?_eq_getElem hl]
  ·rename_i hl
   exact (List.getElem?_eq_none (by omega)).symm
 ·rfl
theorem JJ {o:Op} {ρ:Operand→V} {i:Nat} {ob:bO} (hi:i∉lY o ρ h):lY o ρ (h.set i ob)=lY o ρ h:=by
 unfold lY at hi ⊢
 split at hi <;> try rfl
 split at hi <;> try rfl
 split at hi <;> try rfl
 exact FA _ _ _ hi
theorem Pw {o:Op} {ρ:Operand→V} {i:Nat} {ob:bO} (hi:i∉lY o ρ (h.set i ob)):lY o ρ (h.set i ob)=lY o ρ h:=by
 have h1:=JJ (ob:=h.at i) hi
 rw[set_set]at h1
 exact h1.symm
theorem XX {i:Nat} {ob:bO} {ord:List Nat} (hi:i∉ord):aG.pick (h.set i ob) ord=h.pick ord:=by
 unfold aG.pick
 refine List.map_congr_left fun j hj => ?_
 rw[cS _ (by rintro rfl; exact hi hj)]
theorem LQ {i:Nat} {ob:bO}:∀(l:List (Nat × bO)) (h:aG),(∀x∈l,x.1≠i)→aG.yO (h.set i ob) l=(aG.yO h l).set i ob
 | [],_,_=>rfl
 | x::l,h,hl=>by
  simp only[aG.yO]
  rw[List.set_comm _ _ (Ne.symm (hl x (by simp)))]
  exact LQ l _ fun y hy=>hl y (by simp[hy])
theorem XY {i:Nat} {ob:bO} {ord:List Nat} (hi:i∉ord) (hl:i<h.length) (h':aG):aG.back (h.set i ob) ord h'=(h.back ord h').set i ob:=by
 unfold aG.back
 simp only[List.length_set]
 rw[LQ _ _ fun x hx=>by
  have:=(List.of_mem_zip hx).1
  rintro rfl
  exact hi this]
 rw[List.set_append_left _ _ (by rw[fE]; exact hl)]
theorem VS {E:Env R} {cl:Call} (hp:nF E (.call cl)=false) (hs:lK E (.call cl)=false) {full:Bool} {fr:List V} {i:Nat} {ob:bO} (hi:i∉lY (.call cl) (ev fr) h) (hl:i<h.length) {k:V→aG→Option R} :
  xe tt E full cl (ev fr) (h.set i ob) k=xe tt E full cl (ev fr) h fun v h'=>k v (h'.set i ob):=by
 unfold xe
 split
 ·rename_i f hf
  split
  ·rename_i g first cap hg
   simp only
   have LJ:lY (.call cl) (ev fr) h=reach h 64 (V.r6 (first++cl.args.toList.map (ev fr)++cap)) []:=by simp only[lY,hf,hg]
   rw[LJ]at hi
   split
   ·exfalso
    rename_i Po
    cases f with
    | tmp t=>simp[nF,hf]at hp
    | func g' =>
     simp only[ev,V.func.injEq]at hg
     obtain ⟨rfl,_,_⟩:=hg
     simp[nF,hf,Po]at hp
    | const c=>exact CS hg
    | global _=>simp[ev]at hg
   ·rename_i sp Po
    cases full
    ·rfl
    ·simp only[cond_true]
     cases hg0:nR.soft g with
     | true =>
      exfalso
      cases f with
      | tmp t=>simp[nF,hf]at hp
      | func g' =>
       simp only[ev,V.func.injEq]at hg
       obtain ⟨rfl,_,_⟩:=hg
       simp[lK,hf,hg0,Po]at hs
      | const c=>exact CS hg
      | global _=>simp[ev]at hg
     | false =>
      simp only[cond_false]
      rw[FA _ _ _ hi,XX hi]
      congr 1
      funext v h'
      rw[XY hi hl,List.length_set]
   ·rfl
  ·rfl
 ·rfl

theorem Q5 {E:Env R} {cl:Call} {full:Bool} {ρ ρ':Operand→V} (Xb:∀z∈cl.operands,ρ' z=ρ z) {k:V→aG→Option R}:xe tt E full cl ρ' h k=xe tt E full cl ρ h k:=by
 have Uj:cl.args.toList.map ρ'=cl.args.toList.map ρ:=List.map_congr_left fun z hz=>Xb z (by simp[Call.operands]; exact .inr (by simpa using hz))
 unfold xe
 split
 ·rename_i f hf
  rw[Xb f (by simp[Call.operands,hf]),Uj]
 ·rfl

theorem Uk {E:Env R} {S:Option (Bool × List Nat)} {base:Nat} {all:List Oper} {x y:Oper} {e:Uh} {ix id:Nat} (En:Gc (dU tt E x.op) (dU tt E y.op)=true∨(o0 y.op=true∧S.map (·.1)≠some true∧(bZ tt x=true→id<ix))∨(fk tt x.op = .R∧o0 y.op=true)∨(fk tt x.op = .R∧lK E y.op=true)∨(fk tt x.op = .R∧dU tt E y.op = .F)∨(fk tt x.op = .A∧S.map (·.1)=some true∧dU tt E y.op = .F∧lK E y.op=false)∨(fk tt x.op = .R∧fk tt y.op = .W)) (hap:xi all x y=true) (hc:calm (fk tt x.op)=true) (he:e.dst=x.dst)
  (Q6:∀i ob,e.put=some (i,ob)→i=ix∧fk tt x.op = .A) (hid:bZ tt x=true→bZ tt y=true→ix≠id) (hb:bZ tt x=true→base≤ix) (ht:bZ tt x=true→ix<base+(all.filter (bZ tt)).length) (st:St) (k:St→Option R) :
  one tt E S base all y id (eff st e) k=one tt E S base all y id st fun Jc=>k (eff Jc e):=by
 obtain ⟨a1,a2,a3⟩:=apart_spec hap
 have hl:∀t∈looks all y,(lJ st.fr e.dst e.v).getD t .undef=st.fr.getD t .undef:=fun t ht=>Ob fun h=>a1 t (he▸h) ht
 have JK:∀u,lJ (lJ st.fr e.dst e.v) y.dst u=lJ (lJ st.fr y.dst u) e.dst e.v:=fun u=>VQ fun d hd=>a2 d (he▸hd)
 obtain ⟨fr,VT⟩:=st
 simp only at hl JK
 have hokS:GG tt E base S all y (ev (lJ fr e.dst e.v)) (e.hp VT)=GG tt E base S all y (ev fr) VT:=by
  rw[Oc hl]
  match S,En with
  | none,_=>rfl
  | some (false,A),_=>simp only[GG]
  | some (true,A),En =>
   simp only[GG]
   split
   ·rfl
   ·rename_i AI
    cases hf:W6 tt E y.op with
    | false=>rfl
    | true =>
     have hF:dU tt E y.op = .F:=by revert hf; unfold W6; cases dU tt E y.op <;> simp
     cases hq:e.put with
     | none=>simp only[Uh.hp,hq]
     | some jo =>
      obtain ⟨j,ob⟩:=jo
      obtain ⟨rfl,hA⟩:=Q6 j ob hq
      have hna:o0 y.op=true→False:=fun ha=>by rw[Bt ha]at AI; cases AI
      rcases En with En|⟨h,_⟩|⟨_,h⟩|⟨h,_⟩|⟨h,_⟩|⟨_,_,_,hsf⟩|⟨h,_⟩
      ·rw[qC (by rw[hA]; simp),hF,hA]at En
       cases En
      ·exact (hna h).elim
      ·exact (hna h).elim
      ·rw[hA]at h; cases h
      ·rw[hA]at h; cases h
      ·simp only[Uh.hp,hq,hsf,Bool.not_true,Bool.false_or,List.length_set]
       have hbj:=hb (by simp[bZ,hA])
       by_cases hm:j∈lY y.op (ev fr) VT
       ·have hm2:j∈lY y.op (ev fr) (VT.set j ob):=by
         by_cases hm2:j∈lY y.op (ev fr) (VT.set j ob)
         ·exact hm2
         ·rw[Pw hm2]; exact hm
        have QC:∀l:List Nat,j∈l→l.all (fun i=>Nat.blt i base)=false:=fun l hl=>by
         rw[List.all_eq_false]
         exact ⟨j,hl,by simpa using hbj⟩
        rw[QC _ hm,QC _ hm2]
        simp
       ·rw[JJ hm]
      ·rw[hA]at h; cases h
   ·rfl
   ·rfl
 unfold one
 refine LN hl ?_ ?_
 ·simp only[eff]
  rw[hokS]
  cases hS:GG tt E base S all y (ev fr) VT with
  | false=>rfl
  | true =>
  simp only[cond_true]
  unfold yo
  simp only
  split
  ·rw[N4 (Cj hl)]
   simp only[JK]
  ·rename_i AI
   rw[Pv (by rw[AI]; simp),N5 (Cj hl),Q4 (h:=VT)]
   ·simp only[JK]
   ·intro i _ hi
    unfold Uh.hp
    split
    ·rfl
    ·rename_i j ob hj
     obtain ⟨rfl,hA⟩:=Q6 _ _ hj
     have:=hb (by simp[bZ,hA])
     simp[DN]at hi
     rw[cS _ (by omega)]
  ·rename_i AI
   rw[N6 (Cj hl)]
   simp only[JK]
   congr 1
   funext ob mk
   congr 2
   unfold Uh.hp
   split
   ·rfl
   ·rename_i j ob' hj
    obtain ⟨rfl,hA⟩:=Q6 _ _ hj
    exact List.set_comm _ _ (hid (by simp[bZ,hA]) (by simp[bZ,AI]))
  ·rename_i AI
   rw[Pr (Cj hl)]
   cases Ps:((W7 tt S base y).isSome && !uQ y.op (ev fr) id)with
   | true=>rfl
   | false =>
    simp only[cond_false]
    cases hq:e.put with
    | none =>
     rw[N7 (Cj hl)]
     simp only[JK,Uh.hp,hq]
    | some jo =>
     obtain ⟨j,ob⟩:=jo
     obtain ⟨rfl,hA⟩:=Q6 j ob hq
     have hy:o0 y.op=true∧S.map (·.1)≠some true∧id<j:=by
      rcases En with h|⟨h,h3,h2⟩|⟨h,_⟩|⟨h,_⟩|⟨h,_⟩|⟨_,_,h,_⟩|⟨h,_⟩
      ·rw[qC (by rw[hA]; simp),qC (by rw[AI]; simp),hA,AI]at h; cases h
      ·exact ⟨h,h3,h2 (by simp[bZ,hA])⟩
      ·rw[hA]at h; cases h
      ·rw[hA]at h; cases h
      ·rw[hA]at h; cases h
      ·rw[qC (by rw[AI]; simp),AI]at h; cases h
      ·rw[hA]at h; cases h
     rw[N7 (Cj hl)]
     simp only[JK,Uh.hp,hq]
     have XZ:uQ y.op (ev fr) id=true:=by rw[Q3 hy.2.1]at Ps; simpa using Ps
     exact opW_set hy.1 XZ hy.2.2
  ·rename_i AI
   rw[Pv (by rw[AI]; simp)]
   split
   ·rename_i cl hcl'
    simp only[JK]
    have Xb:∀z∈cl.operands,ev (lJ fr e.dst e.v) z=ev fr z:=fun z hz=>Cj hl z (by rw[hcl']; exact hz)
    have Uj:cl.args.toList.map (ev (lJ fr e.dst e.v))=cl.args.toList.map (ev fr):=List.map_congr_left fun z hz=>Xb z (by simp[Call.operands]; exact .inr (by simpa using hz))
    cases W8:nF E y.op with
    | true =>
     have X0:(Option.isNone (some base) || !true)=false:=rfl
     rw[hcl']at W8
     rw[X0]
     unfold xe
     split
     ·rename_i f hf
      rw[Xb f (by simp[Call.operands,hf]),Uj]
      split
      ·split
       ·simp only[cond_false]
       ·rfl
       ·rfl
      ·rfl
     ·rfl
    | false =>
     have hF:dU tt E y.op = .F:=by unfold dU; rw[AI]; simp[W8]
     rw[Q5 Xb]
     cases hq:e.put with
     | none =>
      have hh2:∀h2,e.hp h2=h2:=fun h2=>by simp[Uh.hp,hq]
      simp only[hh2]
     | some jo =>
      obtain ⟨j,ob⟩:=jo
      obtain ⟨rfl,hA⟩:=Q6 j ob hq
      have hna:o0 y.op=true→False:=fun ha=>by rw[Bt ha]at AI; cases AI
      rcases En with En|⟨h,_⟩|⟨_,h⟩|⟨h,_⟩|⟨h,_⟩|⟨_,h2,_,hsf⟩|⟨h,_⟩
      ·rw[qC (by rw[hA]; simp),hF,hA]at En
       cases En
      ·exact (hna h).elim
      ·exact (hna h).elim
      ·rw[hA]at h; cases h
      ·rw[hA]at h; cases h
      ·have hh2:∀h2,e.hp h2=h2.set j ob:=fun h2=>by simp[Uh.hp,hq]
       simp only[hh2]
       have hif:W6 tt E y.op=true:=by unfold W6; rw[hF]
       match S,h2,hS with
       | some (true,A),_,hS =>
        simp only[GG,AI,hif,hsf,Bool.not_true,Bool.false_or,Bool.and_eq_true,List.all_eq_true]at hS
        have hbj:=hb (by simp[bZ,hA])
        have htj:=ht (by simp[bZ,hA])
        have h3:base+(all.filter (bZ tt)).length≤VT.length:=by simpa using hS.1.1
        rw[hcl']at W8 hsf
        refine VS W8 hsf (fun hm => ?_) (by omega)
        have h4:=hS.1.2 j (by rw[hcl']; exact hm)
        simp at h4
        omega
      ·rw[hA]at h; cases h
   ·rfl
  ·rfl
  ·rfl
 ·simp only[eff,JK]

theorem SN {E:Env R} (hE:R4 P E) {cl:Call} (hs:lK E (.call cl)=true) {full:Bool} {fr:List V} {k k':V→aG→Option R} (he:∀v,k v h=k' v h) :
  xe tt E full cl (ev fr) h k=xe tt E full cl (ev fr) h k':=by
 unfold lK at hs
 simp only at hs
 split at hs
 ·rename_i g hg
  simp only[Bool.and_eq_true]at hs
  obtain ⟨h1,h2⟩:=hs
  split at h2
  ·rename_i sp Po
   unfold xe
   simp only[hg,ev,Po,h1]
   cases full
   ·rfl
   ·simp only[cond_true]
    exact (hE g _ sp Po).2 rfl h1 _ _ _ _ he
  ·cases h2
 ·cases hs

theorem SO {E:Env R} {cl:Call} (hp:nF E (.call cl)=false) (hs:lK E (.call cl)=false) {full:Bool} {fr:List V} {k k':V→aG→Option R}
  (he:∀v h',(∀i,i<h.length→i∉lY (.call cl) (ev fr) h→h'.at i=h.at i)→k v h'=k' v h') (h0:∀v,k v h=k' v h):xe tt E full cl (ev fr) h k=xe tt E full cl (ev fr) h k':=by
 unfold xe
 split
 ·rename_i f hf
  split
  ·rename_i g first cap hg
   simp only
   split
   ·split
    ·congr 1
     funext v h'
     cases h' with
     | nil=>exact h0 v
     | cons _ _=>rfl
    ·cases full
     ·rfl
     ·simp only[cond_true]
      unfold Xq
      split
      ·congr 1
       funext v h'
       cases h' with
       | nil=>simp only[h0]
       | cons _ _=>rfl
      ·rfl
   ·rename_i sp Po
    cases full
    ·rfl
    ·simp only[cond_true]
     cases hg0:nR.soft g with
     | true =>
      exfalso
      cases f with
      | tmp t=>simp[nF,hf]at hp
      | func g' =>
       simp only[ev,V.func.injEq]at hg
       obtain ⟨rfl,_,_⟩:=hg
       simp[lK,hf,hg0,Po]at hs
      | const c=>exact CS hg
      | global _=>simp[ev]at hg
     | false =>
      simp only[cond_false]
      congr 1
      funext v h'
      refine he _ _ fun i hi hn => ?_
      unfold aG.back
      simp only
      rw[jX (by rw[fE]; exact hi)]
      refine CQ _ _ _ ?_
      simpa only[lY,hf,hg]using hn
   ·rfl
  ·rfl
 ·rfl

theorem Au {all:List Oper} {x:Oper} (h:jU all x=true∨qz all x=true):∃t a y,x.op = .store t a y∧x.dst=none∧x.guard=none:=by
 rcases h with h|h
 ·unfold jU at h
  split at h
  ·rename_i ho
   simp only[Bool.and_eq_true,Option.isNone_iff_eq_none]at h
   exact ⟨_,_,_,ho,h.1.1,h.1.2⟩
  ·cases h
 ·unfold qz at h
  split at h
  ·rename_i ho
   simp only[Bool.and_eq_true,Option.isNone_iff_eq_none]at h
   exact ⟨_,_,_,ho,h.1.1,h.1.2⟩
  ·cases h
theorem FB {all:List Oper} {x y:Oper} (h:Sf all x y=true):(jU all x=true∧qz all y=true)∨(qz all x=true∧jU all y=true):=by
 simpa only[Sf,Bool.or_eq_true,Bool.and_eq_true]using h
theorem Ck {all:List Oper} {x y:Oper} (h:Sf all x y=true):fk tt x.op = .W∧fk tt y.op = .W:=by
 have h1:∀z,jU all z=true∨qz all z=true→fk tt z.op = .W:=fun z hz=>by
  obtain ⟨t,a,y,e,_⟩:=Au hz
  rw[e]; rfl
 rcases FB h with ⟨h2,h3⟩|⟨h2,h3⟩
 ·exact ⟨h1 _ (.inl h2),h1 _ (.inr h3)⟩
 ·exact ⟨h1 _ (.inr h2),h1 _ (.inl h3)⟩
theorem JL (t:Nat) (a y:Operand) (ρ:Operand→V) (h:aG) (id:Nat) :
  (∀k:V→aG→Option R,KH tt (.store t a y) ρ h id k=none)∨∃i ob,i∈(ρ a).ids∧∀(h2:aG) (id2:Nat) (k:V→aG→Option R),h2.at i=h.at i→KH tt (.store t a y) ρ h2 id2 k=k .undef (h2.set i ob):=by
 simp only[KH]
 cases hvs:NR (ρ y)with
 | none=>exact .inl fun k=>rfl
 | some vs =>
 simp only
 by_cases hc:(tt.ok t&&decide (vs.length=(tt.at t).size))=true
 rotate_left
 ·exact .inl fun k=>by rw[if_neg hc]
 simp only[hc,if_true]
 cases hx:ρ a with
 | ptr i o =>
  simp only
  cases hi:h.at i with
  | cells cs =>
   by_cases hle:o+vs.length≤cs.length
   ·exact .inr ⟨i, .cells (yQ cs o vs),by simp[V.ids],fun h2 id2 k e=>by simp only[e,hi,hle,if_true]⟩
   ·exact .inl fun k=>by simp only[hle,if_false]
  | lW bv =>
   match o,vs with
   | 1, [v]=>exact .inr ⟨i, .lW v,by simp[V.ids],fun h2 id2 k e=>by simp only[e,hi]⟩
   | 0,_=>exact .inl fun k=>rfl
   | 1, []=>exact .inl fun k=>rfl
   | 1,_::_::_=>exact .inl fun k=>rfl
   | _+2,_=>exact .inl fun k=>rfl
  | _=>exact .inl fun k=>rfl
 | sD i sz j o =>
  simp only
  cases hi:h.at i with
  | row T l =>
   by_cases oJ:sz=T.sz
   ·by_cases hle:o+vs.length≤(T.cells (l.getD j T.bY)).length
    ·cases hz:T.dec (yQ (T.cells (l.getD j T.bY)) o vs)with
     | none=>exact .inl fun k=>by simp only[oJ,hle,if_true,hz]
     | some z =>
      by_cases hj:j<l.length
      ·exact .inr ⟨i, .row T (l.set j z),by simp[V.ids],fun h2 id2 k e=>by simp only[e,hi,oJ,hle,if_true,hz,cw,hj,decide_true,cond_true]⟩
      ·exact .inl fun k=>by simp only[oJ,hle,if_true,hz,cw,hj,decide_false,cond_false]
    ·exact .inl fun k=>by simp only[oJ,hle,if_true,if_false]
   ·exact .inl fun k=>by simp only[oJ,if_false]
  | _=>exact .inl fun k=>rfl
 | _=>exact .inl fun k=>rfl
theorem VU {t:Nat} {a y:Operand} {ρ:Operand→V} {id:Nat} {k0:V→aG→Option R} {r:R} (hk:KH tt (.store t a y) ρ h id k0=some r) :
  ∃i ob,i∈(ρ a).ids∧k0 .undef (h.set i ob)=some r∧∀(h2:aG) (id2:Nat) (k:V→aG→Option R),h2.at i=h.at i→KH tt (.store t a y) ρ h2 id2 k=k .undef (h2.set i ob):=by
 rcases JL (tt:=tt) (R:=R) t a y ρ h id with h1|⟨i,ob,h1,h2⟩
 ·rw[h1]at hk; cases hk
 ·rw[h2 h id k0 rfl]at hk
  exact ⟨i,ob,h1,hk,h2⟩

theorem Jd {E:Env R} (hE:R4 P E) {S:Option (Bool × List Nat)} {base:Nat} {all:List Oper} {y:Oper} {id:Nat} {st:St} {k k':St→Option R} (hb:bZ tt y=true→base≤id)
  (h:∀v Xa,Kept S tt E all base y st.hp Xa→k ⟨lJ st.fr y.dst v,Xa⟩=k' ⟨lJ st.fr y.dst v,Xa⟩):one tt E S base all y id st k=one tt E S base all y id st k':=by
 have h0:∀v,k ⟨lJ st.fr y.dst v,st.hp⟩=k' ⟨lJ st.fr y.dst v,st.hp⟩:=fun v=>h v _ (.inl fun _ _=>rfl)
 obtain ⟨fr,VT⟩:=st
 unfold one
 refine LN (fun _ _=>rfl) ?_ (h0 _)
 cases hS:GG tt E base S all y (ev fr) VT with
 | false=>rfl
 | true =>
 simp only[cond_true]
 unfold yo
 simp only at h h0 ⊢
 split
 ·simp only[h0]
 ·simp only[h0]
 ·rename_i AI
  congr 1
  funext ob mk
  refine h _ _ (.inl fun i hi => ?_)
  have:=hb (by simp[bZ,AI])
  rw[cS _ (by omega)]
 ·rename_i AI
  have hbi:=hb (by simp[bZ,AI])
  cases Ps:((W7 tt S base y).isSome && !uQ y.op (ev fr) id)with
  | true=>rfl
  | false =>
   simp only[cond_false]
   by_cases ha:o0 y.op=true
   ·by_cases SP:S.map (·.1)=some true
    ·congr 1
     funext v h'
     refine h v h' (.inr ⟨.inr ⟨SP,ha⟩,fun hF => ?_,fun hv => ?_⟩)
     ·rw[qC (by rw[AI]; simp),AI]at hF; cases hF
     ·obtain ⟨t,a,z,ey,_⟩:=Au (.inl hv)
      rw[ey]at ha; cases ha
    have XZ:uQ y.op (ev fr) id=true:=by rw[Q3 SP]at Ps; simpa using Ps
    exact Q2 ha XZ fun v h' hrd=>h v h' (.inl fun i hi=>hrd i (by omega))
   ·have htu:turns tt E y.op := .inl ⟨by rw[qC (by rw[AI]; simp),AI],by simpa using ha⟩
    have hnF:dU tt E y.op ≠ .F:=fun hF=>by rw[qC (by rw[AI]; simp),AI]at hF; cases hF
    by_cases hv:jU all y=true
    ·obtain ⟨t,a,z,ey,_,_⟩:=Au (.inl hv)
     rw[ey]
     rcases JL (tt:=tt) (R:=R) t a z (ev fr) VT id with h1|⟨i,ob,h1,h2⟩
     ·rw[h1,h1]
     ·rw[h2 VT id _ rfl,h2 VT id _ rfl]
      refine h _ _ (.inr ⟨.inl htu,fun hF=>(hnF hF).elim,fun _ A hA j hj => ?_⟩)
      subst hA
      simp only[GG,AI,hv,Bool.not_true,Bool.false_or,List.all_eq_true]at hS
      have h3:=hS i (by rw[ey]; exact h1)
      rw[cS _ (by rintro rfl; exact hj (by simpa using h3))]
    ·congr 1
     funext v h'
     exact h v h' (.inr ⟨.inl htu,fun hF=>(hnF hF).elim,fun VV=>(hv VV).elim⟩)
 ·rename_i AI
  rw[Pv (by rw[AI]; simp)]
  split
  ·rename_i cl En
   cases W8:nF E y.op with
   | true =>
    have X0:(Option.isNone (some base) || !true)=false:=rfl
    rw[X0]
    unfold xe
    split
    ·split
     ·split
      ·simp only
       split
       ·congr 1
        funext v h'
        cases h' with
        | nil=>exact h0 v
        | cons _ _=>rfl
       ·rfl
      ·rfl
      ·rfl
     ·rfl
    ·rfl
   | false =>
    have hF:dU tt E y.op = .F:=by unfold dU; rw[AI]; simp[W8]
    cases hs:lK E y.op with
    | true=>exact SN hE (by rw[←En]; exact hs) fun v=>h0 v
    | false =>
     have htu:turns tt E y.op := .inr ⟨hF,hs⟩
     refine SO (by rw[En]at W8; exact W8) (by rw[En]at hs; exact hs) (fun v h' hh=>h v h' (.inr ⟨.inl htu,fun _ A hA => ?_,fun hv => ?_⟩)) fun v=>h0 v
     rotate_left
     ·obtain ⟨t,a,z,ey,_⟩:=Au (.inl hv)
      rw[ey]at En; cases En
     subst hA
     have hif:W6 tt E y.op=true:=by unfold W6; rw[hF]
     simp only[GG,AI,hif,hs,Bool.not_true,Bool.false_or,List.all_eq_true,Bool.and_eq_true]at hS
     intro i hi
     have h1:=hS.2 i hi
     rw[En]at h1
     rw[hh i (by simpa using h1.1) (by simpa using h1.2)]
  ·rfl
 ·rfl
 ·rfl
end

section
variable {P:Program} {tt:dA} {w w':World} {h h':aG} {c c':js} {R:Type}

theorem X1 {o:Oper} {a:Act} {G:Prop} (h:o.wp P a w (fun _ _=>G) (fun _ _ _=>G)):G:=by
 unfold Oper.wp at h
 generalize (execOp a.eval o).run P w=r at h
 cases r with
 | ok n w' =>
  cases n <;> simp only[Oper.upon]at h <;> try (first|exact h|exact h.elim)
  ·obtain ⟨e,w',fr,hR,_⟩:=h []
   cases e with
   | returned v=>exact hR
   | panicked c=>exact hR
   | outgrown=>obtain ⟨_,_,g⟩:=hR; exact g
  ·obtain ⟨v,w',g,_⟩:=h (Frame.enter P 0 #[] .normal) []
   exact g
 | halt x w'=>cases x <;> simp only[Oper.upon]at h <;> first|exact h|exact h.elim

theorem VW (T:vS P tt) {E:Env R} (hE:R4 P E) {S:Option (Bool × List Nat)} {base:Nat} {ops:Array Oper} {y:Oper} {id:Nat} {st:St} {a:Act} {k:St→Option R} {r:R} (hk:one tt E S base ops.toList y id st k=some r) (gZ:GO w c st a)
  (hid:bZ tt y=true→base≤id∧id<st.hp.length∧st.hp.at id = .free) :
  ∃w1 c1 Jc a1 v,GO w1 c1 Jc a1∧k Jc=some r∧Jc.fr=lJ st.fr y.dst v∧Kept S tt E ops.toList base y st.hp Jc.hp∧sW (bZ tt y) id st.hp Jc.hp:=by
 classical
 obtain ⟨k',qA,hof⟩:∃k':St→Option R,one tt E S base ops.toList y id st k'=some r∧∀Jc,k' Jc=some r→k Jc=some r∧Kept S tt E ops.toList base y st.hp Jc.hp:=by
  refine ⟨fun Jc=>if Kept S tt E ops.toList base y st.hp Jc.hp then k Jc else none,?_,fun Jc e => ?_⟩
  ·rw[←hk]
   refine Jd hE (fun ha=>(hid ha).1) fun v Xa ht => ?_
   rw[if_pos ht]
  ·simp only at e
   split at e
   ·exact ⟨e, ‹_›⟩
   ·cases e
 rcases CR gZ qA with ⟨_,hk⟩|⟨_,hk⟩
 ·have hk:yo tt E (W7 tt S base y) id y st k'=some r:=by
   cases hS:GG tt E base S ops.toList y (ev st.fr) st.hp with
   | true=>rw[hS]at hk; exact hk
   | false=>rw[hS]at hk; cases hk
  refine X1 (P:=P) (o:=y) (a:=a) (w:=w) (Ez T hE hk gZ (fun ha=>(hid ha).2) fun d w' sE c' v SM x kp hf _ _ qA => ?_)
  exact ⟨w',c',sE,_,v,SM,(hof _ qA).1,hf,(hof _ qA).2,kp⟩
 ·exact ⟨w,c,⟨lJ st.fr y.dst (.tuple []),st.hp⟩,a.put y.dst undef, .tuple [],⟨gZ.wf,zR gZ.fr _ Jb⟩,(hof _ hk).1,rfl, .inl fun _ _=>rfl, .refl _ _ _⟩

structure Good (tt:dA) (base n:Nat) (rem:List vo) (h:aG):Prop where
 top:∀z∈rem,bZ tt z.2.1=true→z.2.2<base+n
 slot:∀z∈rem,bZ tt z.2.1=true→base≤z.2.2∧z.2.2<h.length∧h.at z.2.2 = .free
 apart:rem.Pairwise fun z z'=>bZ tt z.2.1=true→bZ tt z'.2.1=true→z.2.2<z'.2.2

theorem Good.sub {base n:Nat} {rem rem':List vo} (g:Good tt base n rem h) (hs:List.Sublist rem' rem):Good tt base n rem' h :=
 ⟨fun z hz=>g.top z (hs.subset hz),fun z hz=>g.slot z (hs.subset hz),g.apart.sublist hs⟩

theorem Good.step {base n:Nat} {x:vo} {pre post:List vo} (g:Good tt base n (pre++x::post) h) (kp:sW (bZ tt x.2.1) x.2.2 h h'):Good tt base n (pre++post) h':=by
 have hs:List.Sublist (pre++post) (pre++x::post):=List.Sublist.append (List.Sublist.refl _) (List.sublist_cons_self _ _)
 refine ⟨fun z hz=>g.top z (hs.subset hz),fun z hz ha => ?_,g.apart.sublist hs⟩
 obtain ⟨h1,h2,h3⟩:=g.slot z (hs.subset hz) ha
 refine ⟨h1,Nat.lt_of_lt_of_le h2 kp.1,kp.2 _ (fun hx => ?_) h2 h3⟩
 have hp:=g.apart
 rw[List.pairwise_append,List.pairwise_cons]at hp
 rcases List.mem_append.1 hz with hz|hz
 ·have:=hp.2.2 z hz x (by simp) ha hx; omega
 ·have:=hp.2.1.1 z hz hx ha; omega

theorem LR {all:List Oper} {x y:Oper} (h2:xi all x y=true):xi all y x=true:=by
 obtain ⟨a1,a2,a3⟩:=apart_spec h2
 simp only[xi,Bool.and_eq_true]
 constructor
 ·cases hd:y.dst with
  | none=>rfl
  | some d =>
   have h3:=a3 d hd
   have h4:x.dst≠some d:=fun e=>a2 d e hd
   simp[h3,h4]
 ·cases hd:x.dst with
  | none=>rfl
  | some d=>simp[a1 d hd]
theorem LS {a b:Cls} (h:Gc a b=true):Gc b a=true:=by revert h; cases a <;> cases b <;> simp[Gc]
theorem Av {E:Env R} {all:List Oper} {x y:Oper} (h:IY tt E all x y=true):xi all x y=true ∧
  (Gc (dU tt E x.op) (dU tt E y.op)=true∨(o0 x.op=true∧(dU tt E y.op = .A∨dU tt E y.op = .R))∨(dU tt E x.op = .R∧o0 y.op=true)∨(lK E x.op=true∧dU tt E y.op = .R)∨(dU tt E x.op = .R∧lK E y.op=true)):=by
 simp only[IY,Bool.and_eq_true,Bool.or_eq_true,tokPair]at h
 obtain ⟨h1,h2⟩:=h
 refine ⟨h2,?_⟩
 rcases h1 with h1|(⟨h1,h3⟩|⟨h1,h3⟩)|(⟨h1,h3⟩|⟨h1,h3⟩)
 ·exact .inl h1
 ·refine .inr (.inl ⟨h1,?_⟩)
  revert h3; cases dU tt E y.op <;> simp
 ·refine .inr (.inr (.inl ⟨?_,h3⟩))
  revert h1; cases dU tt E x.op <;> simp
 ·refine .inr (.inr (.inr (.inl ⟨h1,?_⟩)))
  revert h3; cases dU tt E y.op <;> simp
 ·refine .inr (.inr (.inr (.inr ⟨?_,h3⟩)))
  revert h1; cases dU tt E x.op <;> simp
theorem Q7 {E:Env R} {o:Op} (h:W6 tt E o=true):dU tt E o = .F:=by revert h; unfold W6; cases dU tt E o <;> simp
theorem X2 {E:Env R} {all:List Oper} {x:Oper} (h:U6 tt E all x=true):dU tt E x.op = .R:=by
 simp only[U6,Bool.and_eq_true]at h
 revert h
 cases dU tt E x.op <;> simp
theorem VX {E:Env R} {all:List Oper} {x:Oper} (h:NT tt E all x=true):dU tt E x.op = .R:=by
 simp only[NT,Bool.and_eq_true]at h
 revert h
 cases dU tt E x.op <;> simp
theorem qf {E:Env R} {far:Option Bool} {all:List Oper} {x y:Oper} (h:DO tt E far all x y=true):xi all x y=true∧((IY tt E all x y=true∧(far=some true→Qn tt E x y=true))∨(far=some true ∧
  ((U6 tt E all x=true∧dU tt E x.op = .R∧dU tt E y.op = .F)∨(dU tt E x.op = .F∧lK E x.op=false∧fk tt y.op = .A)∨Sf all x y=true))∨(far=some false∧NT tt E all x=true∧dU tt E x.op = .R∧jU all y=true)):=by
 unfold DO at h
 simp only[Bool.or_eq_true,Bool.and_eq_true]at h
 rcases h with ⟨h,hn⟩|h
 ·exact ⟨(Av h).1, .inl ⟨h,fun e=>by subst e; exact hn⟩⟩
 ·split at h
  ·cases h
  ·simp only[Bool.or_eq_true,Bool.and_eq_true]at h
   rcases h with ⟨(⟨h2,h3⟩|⟨h2,h3,h5⟩)|h2,h4⟩
   ·exact ⟨h4, .inr (.inl ⟨rfl, .inl ⟨h2,X2 h2,Q7 h3⟩⟩)⟩
   ·refine ⟨h4, .inr (.inl ⟨rfl, .inr (.inl ⟨Q7 h2,by simpa using h3,?_⟩)⟩)⟩
    revert h5
    cases fk tt y.op <;> simp
   ·exact ⟨h4, .inr (.inl ⟨rfl, .inr (.inr h2)⟩)⟩
  ·simp only[Bool.and_eq_true]at h
   exact ⟨h.2, .inr (.inr ⟨rfl,h.1.1,VX h.1.1,h.1.2⟩)⟩
theorem Px {all:List Oper} {x:Oper} (h:jU all x=true∨qz all x=true):fk tt x.op = .W:=by
 obtain ⟨t,a,y,e,_⟩:=Au h
 rw[e]; rfl
theorem Od {E:Env R} {S:Option (Bool × List Nat)} {base:Nat} {all:List Oper} {x:Oper} {id:Nat} {fr:List V} {k0:St→Option R} {r:R} (hx:jU all x=true∨qz all x=true) (hk:one tt E S base all x id ⟨fr,h⟩ k0=some r) :
  GG tt E base S all x (ev fr) h=true∧∃i ob,i∈Ay x.op (ev fr)∧k0 ⟨fr,h.set i ob⟩=some r∧∀(h2:aG) (id2:Nat) (k:St→Option R),h2.at i=h.at i→one tt E S base all x id2 ⟨fr,h2⟩ k=k ⟨fr,h2.set i ob⟩:=by
 obtain ⟨t,a,y,e,hd,hg⟩:=Au hx
 obtain ⟨dst,op,ty,pos,after,guard⟩:=x
 simp only at e hd hg
 subst e hd hg
 unfold one at hk ⊢
 rw[As]at hk
 simp only at hk
 have hS:GG tt E base S all ⟨none, .store t a y,ty,pos,after,none⟩ (ev fr) h=true:=by
  cases hS:GG tt E base S all ⟨none, .store t a y,ty,pos,after,none⟩ (ev fr) h with
  | true=>rfl
  | false=>rw[hS]at hk; cases hk
 refine ⟨hS,?_⟩
 have SP:∀(dr:Option Nat) (id:Nat) (h:aG) (k:St→Option R),yo tt E dr id ⟨none, .store t a y,ty,pos,after,none⟩ ⟨fr,h⟩ k=KH tt (.store t a y) (ev fr) h id fun v h=>k ⟨lJ fr none v,h⟩:=fun dr id h k=>by cases dr <;> rfl
 rw[hS,cond_true,SP]at hk
 obtain ⟨i,ob,h1,h2,h3⟩:=VU (tt:=tt) (t:=t) (a:=a) (y:=y) (ρ:=ev fr) (id:=id) (k0:=fun v h=>k0 ⟨lJ fr none v,h⟩) hk
 refine ⟨i,ob,h1,h2,fun hh id2 k e => ?_⟩
 rw[As]
 simp only
 have hS2:GG tt E base S all ⟨none, .store t a y,ty,pos,after,none⟩ (ev fr) hh=true:=by
  rw[←hS]
  match S with
  | none=>rfl
  | some (true,A)=>rfl
  | some (false,A)=>rfl
 rw[hS2,cond_true,SP]
 exact h3 hh id2 (fun v h=>k ⟨lJ fr none v,h⟩) e
theorem LU {E:Env R} {o:Op} (hs:lK E o=true):fk tt o = .C:=by
 unfold lK at hs
 split at hs
 ·split at hs
  ·rename_i cl _ g hg
   simp only[fk,hg]
  ·cases hs
 ·cases hs
theorem Py {E:Env R} {o:Op} (hs:lK E o=true):dU tt E o = .F:=by
 have hc:=LU (tt:=tt) hs
 have hp:nF E o=false:=by
  unfold lK at hs
  unfold nF
  split at hs
  ·split at hs
   ·rename_i cl _ g hg
    simp only[Bool.and_eq_true]at hs
    obtain ⟨_,h2⟩:=hs
    split at h2
    ·rename_i sp Po
     simp only[hg,Po]
    ·cases h2
   ·cases hs
  ·cases hs
 unfold dU
 rw[hc,hp]
 rfl
theorem SQ {E:Env R} {o:Op} (ha:o0 o=true):dU tt E o = .W:=by rw[qC (by rw[Bt ha]; simp),Bt ha]
theorem LV {E:Env R} {o:Op} {a:Cls} (h:dU tt E o=a) (h1:a ≠ .C) (h2:a ≠ .F):fk tt o=a:=by
 unfold dU at h
 split at h
 ·revert h; cases nF E o <;> intro h <;> subst h <;> simp at h1 h2
 ·exact h
theorem Oe {E:Env R} {all:List Oper} {x y:Oper} (h:IY tt E all x y=true∨IY tt E all y x=true) (hR:fk tt x.op = .R):¬turns tt E y.op:=by
 have hx:dU tt E x.op = .R:=by rw[qC (by rw[hR]; simp),hR]
 intro ht
 have hna:o0 y.op=true→False:=fun ha=>by
  rcases ht with ⟨_,h⟩|⟨h,_⟩
  ·rw[ha]at h; cases h
  ·rw[SQ ha]at h; cases h
 have Hi:lK E y.op=true→False:=fun hs=>by
  rcases ht with ⟨h,_⟩|⟨_,h⟩
  ·rw[Py hs]at h; cases h
  ·rw[hs]at h; cases h
 have hc:Gc .R (dU tt E y.op)=false:=by rcases ht with ⟨h,_⟩|⟨h,_⟩ <;> rw[h] <;> rfl
 rcases h with h|h
 ·rcases (Av h).2 with h|⟨h,_⟩|⟨_,h⟩|⟨h,_⟩|⟨_,h⟩
  ·rw[hx,hc]at h; cases h
  ·rw[SQ h]at hx; cases hx
  ·exact hna h
  ·rw[Py h]at hx; cases hx
  ·exact Hi h
 ·rcases (Av h).2 with h|⟨h,_⟩|⟨h,h'⟩|⟨h,_⟩|⟨_,h⟩
  ·have:=LS h; rw[hx,hc]at this; cases this
  ·exact hna h
  ·rw[SQ h']at hx; cases hx
  ·exact Hi h
  ·rw[Py h]at hx; cases hx

theorem Bu.symm {S:Option (Bool × List Nat)} {E:Env R} {all:List Oper} {base:Nat} {x:Oper} {s t:St} (h:Bu S E all tt base x s t):Bu S E all tt base x t s:=⟨fun u hu=>(h.1 u hu).symm,fun hR i hi hA hB=>(h.2 hR i hi hA hB).symm⟩
theorem Bu.trans {S:Option (Bool × List Nat)} {E:Env R} {all:List Oper} {base:Nat} {x:Oper} {s t u:St} (h:Bu S E all tt base x s t) (h':Bu S E all tt base x t u):Bu S E all tt base x s u :=
 ⟨fun v hv=>(h'.1 v hv).trans (h.1 v hv),fun hR i hi hA hB=>(h'.2 hR i hi hA hB).trans (h.2 hR i hi hA hB)⟩

theorem CT {E:Env R} {S:Option (Bool × List Nat)} {all:List Oper} {base:Nat} {x y:Oper} (hp:DO tt E (S.map (·.1)) all x y=true∨DO tt E (S.map (·.1)) all y x=true) {st Jc:St} {v:V} (hf:Jc.fr=lJ st.fr y.dst v) (hh:Kept S tt E all base y st.hp Jc.hp) :
  Bu S E all tt base x st Jc:=by
 have h2:xi all y x=true:=by
  rcases hp with h|h
  ·exact LR (qf h).1
  ·exact (qf h).1
 refine ⟨fun t ht => ?_,fun hR i hi hA hB => ?_⟩
 ·rw[hf]
  exact Ob fun e=>(apart_spec h2).1 t e ht
 ·rcases hh with hh|⟨hW,hh,hh2⟩
  ·exact hh i hi
  ·have hx:dU tt E x.op = .R:=by rw[qC (by rw[hR]; simp),hR]
   rcases hp with h|h
   ·rcases (qf h).2 with ⟨h,hn⟩|⟨h1,⟨h3,_,h4⟩|⟨h4,_⟩|h4⟩|⟨h1,h3,_,h4⟩
    ·rcases hW with hW|⟨SP,ha⟩
     ·exact (Oe (.inl h) hR hW).elim
     ·have:=hn SP
      simp[Qn,rdA,hx,ha]at this
    ·match S,h1 with
     | some (true,A),_=>exact hh h4 A rfl i (hA A rfl h3)
    ·rw[hx]at h4; cases h4
    ·rw[(Ck (tt:=tt) h4).1]at hR; cases hR
    ·match S,h1 with
     | some (false,A),_=>exact hh2 h4 A rfl i (hB A rfl h3)
   ·rcases (qf h).2 with ⟨h,hn⟩|⟨_,⟨_,_,h4⟩|⟨_,_,h4⟩|h4⟩|⟨_,_,_,h4⟩
    ·rcases hW with hW|⟨SP,ha⟩
     ·exact (Oe (.inr h) hR hW).elim
     ·have:=hn SP
      simp[Qn,rdA,hx,ha]at this
    ·rw[hx]at h4; cases h4
    ·rw[hR]at h4; cases h4
    ·rw[(Ck (tt:=tt) h4).2]at hR; cases hR
    ·rw[Px (tt:=tt) (.inl h4)]at hR; cases hR

section
variable {E:Env R} {S:Option (Bool × List Nat)} {base:Nat} {ops:Array Oper} {k:St→Option R} {r:R}

theorem pull (hE:R4 P E) {x:vo} {e:Uh} {st0:St} (hc:calm (fk tt x.2.1.op)=true) (he:e.dst=x.2.1.dst) (Q6:∀i ob,e.put=some (i,ob)→i=x.2.2∧fk tt x.2.1.op = .A)
  (hnat:∀A6,Bu S E ops.toList tt base x.2.1 st0 A6→∀k,one tt E S base ops.toList x.2.1 x.2.2 A6 k=k (eff A6 e)) (post:List vo) :
  ∀(pre:List vo) (st:St) (h:aG),Good tt base (ops.toList.filter (bZ tt)).length (pre++x::post) h→(∀y∈pre,DO tt E (S.map (·.1)) ops.toList y.2.1 x.2.1=true)→Bu S E ops.toList tt base x.2.1 st0 st →
   D1 tt E S base ops.toList (pre++x::post) st k=D1 tt E S base ops.toList (pre++post) (eff st e) k
 | [],st,_,_,_,ha=>hnat st ha _
 | y::pre,st,h,g,hp,ha=>by
  have hpy:=hp y (by simp)
  have gx:bZ tt x.2.1=true→base≤x.2.2:=fun hx=>(g.slot x (by simp) hx).1
  have gy:bZ tt y.2.1=true→base≤y.2.2:=fun hx=>(g.slot y (by simp) hx).1
  have glt:bZ tt x.2.1=true→bZ tt y.2.1=true→y.2.2<x.2.2:=fun hx hy=>by
   have:=g.apart
   rw[List.cons_append,List.pairwise_cons]at this
   exact this.1 x (by simp) hy hx
  have gne:bZ tt x.2.1=true→bZ tt y.2.1=true→x.2.2≠y.2.2:=fun hx hy=>by have:=glt hx hy; omega
  have En:Gc (dU tt E x.2.1.op) (dU tt E y.2.1.op)=true∨(o0 y.2.1.op=true∧S.map (·.1)≠some true∧(bZ tt x.2.1=true→y.2.2<x.2.2))∨(fk tt x.2.1.op = .R∧o0 y.2.1.op=true)∨(fk tt x.2.1.op = .R∧lK E y.2.1.op=true)∨(fk tt x.2.1.op = .R∧dU tt E y.2.1.op = .F)∨(fk tt x.2.1.op = .A∧S.map (·.1)=some true∧dU tt E y.2.1.op = .F∧lK E y.2.1.op=false)∨(fk tt x.2.1.op = .R∧fk tt y.2.1.op = .W):=by
   rcases (qf hpy).2 with ⟨hpo,hna⟩|⟨hSo,⟨_,_,hF⟩|⟨hF,hsf,hA⟩|hW⟩|⟨_,_,_,hW⟩
   rotate_left
   rotate_left
   ·exact .inr (.inr (.inr (.inr (.inr (.inl ⟨hA,hSo,hF,hsf⟩)))))
   ·rw[(Ck (tt:=tt) hW).2]at hc; cases hc
   ·rw[Px (tt:=tt) (.inl hW)]at hc; cases hc
   rotate_left
   ·have hC:fk tt x.2.1.op = .C:=by
     unfold dU at hF
     split at hF
     ·assumption
     ·rw[hF]at hc; cases hc
    rw[hC]at hc; cases hc
   rcases (Av hpo).2 with h|⟨h,h'⟩|⟨_,h⟩|⟨h,h'⟩|⟨_,h⟩
   ·exact .inl (LS h)
   ·refine .inr (.inl ⟨h,fun SP => ?_,fun hx=>glt hx (by simp[bZ,Bt h])⟩)
    have:=hna SP
    rcases h' with h'|h' <;> simp[Qn,rdA,h,h']at this
   ·rw[Bt h]at hc; cases hc
   ·exact .inr (.inr (.inr (.inl ⟨LV h' (by simp) (by simp),h⟩)))
   ·rw[LU h]at hc; cases hc
  simp only[List.cons_append,D1]
  rw[Uk En (LR (qf hpy).1) hc he Q6 gne gx fun hx=>g.top x (by simp) hx]
  refine Jd hE gy fun v Xa hh => ?_
  exact pull hE hc he Q6 hnat post pre _ h (g.sub (List.sublist_cons_self _ _)) (fun z hz=>hp z (by simp[hz])) (ha.trans (CT (.inr hpy) rfl hh))

theorem find (T:vS P tt) (hE:R4 P E) {x:vo} (post:List vo):∀(pre:List vo) (w:World) (c:js) (st:St) (a:Act),GO w c st a→Good tt base (ops.toList.filter (bZ tt)).length (pre++x::post) st.hp→(∀y∈pre,DO tt E (S.map (·.1)) ops.toList y.2.1 x.2.1=true) →
  D1 tt E S base ops.toList (pre++x::post) st k=some r→∃sE k',Bu S E ops.toList tt base x.2.1 st sE∧one tt E S base ops.toList x.2.1 x.2.2 sE k'=some r
 | [],_,_,st,_,_,_,_,hk=>⟨st,_,⟨fun _ _=>rfl,fun _ _ _ _ _=>rfl⟩,hk⟩
 | y::pre,w,c,st,a,gZ,g,hp,hk=>by
  simp only[List.cons_append,D1]at hk
  obtain ⟨w1,c1,Jc,a1,v,s1,VO,hf,hh,kp⟩:=VW T hE hk gZ (fun ha=>g.slot y (by simp) ha)
  obtain ⟨sE,k',h1,h2⟩:=find T hE post pre w1 c1 Jc a1 s1 (Good.step (pre := []) g kp) (fun z hz=>hp z (by simp[hz])) VO
  exact ⟨sE,k',(CT (.inr (hp y (by simp))) hf hh).trans h1,h2⟩

theorem X3 (hE:R4 P E) {x:vo} (post:List vo):∀(pre:List vo) (st:St) (h:aG),Good tt base (ops.toList.filter (bZ tt)).length (pre++x::post) h→(∀y∈pre,DO tt E (S.map (·.1)) ops.toList y.2.1 x.2.1=true∧(calm (fk tt y.2.1.op)=true∨(S.map (·.1)=some true∧Sf ops.toList y.2.1 x.2.1=true))) →
  D1 tt E S base ops.toList (pre++x::post) st k=some r→one tt E S base ops.toList x.2.1 x.2.2 st (fun Jc=>D1 tt E S base ops.toList (pre++post) Jc k)=some r
 | [],_,_,_,_,hk=>hk
 | y::pre,st,h,g,hp,hk=>by
  obtain ⟨hpy,AI⟩:=hp y (by simp)
  simp only[List.cons_append,D1]at hk ⊢
  rcases AI with AI|⟨hSo,hW⟩
  rotate_left
  ·have hvy:jU ops.toList y.2.1=true∨qz ops.toList y.2.1=true:=(FB hW).imp (·.1) (·.1)
   have hvx:jU ops.toList x.2.1=true∨qz ops.toList x.2.1=true:=((FB hW).imp (·.2) (·.2)).symm
   obtain ⟨fr,hp0⟩:=st
   obtain ⟨sy,i,ob,iy,VO,ny⟩:=Od hvy hk
   have ih:=X3 hE post pre _ h (g.sub (List.sublist_cons_self _ _)) (fun z hz=>hp z (by simp[hz])) VO
   obtain ⟨sx,j,ob',ix,Fw,nx⟩:=Od hvx ih
   have jc:i≠j:=by
    match S,hSo,sy,sx with
    | some (true,A),_,sy,sx =>
     simp only[GG,(Ck (tt:=tt) hW).1,Bool.and_eq_true,Bool.or_eq_true,Bool.not_eq_true',List.all_eq_true]at sy
     simp only[GG,(Ck (tt:=tt) hW).2,Bool.and_eq_true,Bool.or_eq_true,Bool.not_eq_true',List.all_eq_true]at sx
     rintro rfl
     rcases FB hW with ⟨g1,g2⟩|⟨g1,g2⟩
     ·have a1:=sy.1.resolve_left (by simp[g1]) i iy
      have a2:=sx.2.resolve_left (by simp[g2]) i ix
      rw[a1]at a2; cases a2
     ·have a1:=sy.2.resolve_left (by simp[g1]) i iy
      have a2:=sx.1.resolve_left (by simp[g2]) i ix
      rw[a2]at a1; cases a1
   rw[nx hp0 _ _ (cS _ jc).symm,ny (hp0.set j ob') _ _ (cS _ (Ne.symm jc)),←List.set_comm _ _ jc]
   exact Fw
  obtain ⟨e,h1,h2,h3,h4⟩:=Ui AI hk
  have gx:bZ tt x.2.1=true→base≤x.2.2:=fun hx=>(g.slot x (by simp) hx).1
  have gy:bZ tt y.2.1=true→base≤y.2.2:=fun hx=>(g.slot y (by simp) hx).1
  have gne:bZ tt y.2.1=true→bZ tt x.2.1=true→y.2.2≠x.2.2:=fun hy hx=>by
   have:=g.apart
   rw[List.cons_append,List.pairwise_cons]at this
   exact Nat.ne_of_lt (this.1 x (by simp) hy hx)
  have En:Gc (dU tt E y.2.1.op) (dU tt E x.2.1.op)=true∨(o0 x.2.1.op=true∧S.map (·.1)≠some true∧(bZ tt y.2.1=true→x.2.2<y.2.2))∨(fk tt y.2.1.op = .R∧o0 x.2.1.op=true)∨(fk tt y.2.1.op = .R∧lK E x.2.1.op=true)∨(fk tt y.2.1.op = .R∧dU tt E x.2.1.op = .F)∨(fk tt y.2.1.op = .A∧S.map (·.1)=some true∧dU tt E x.2.1.op = .F∧lK E x.2.1.op=false)∨(fk tt y.2.1.op = .R∧fk tt x.2.1.op = .W):=by
   rcases (qf hpy).2 with ⟨hpo,_⟩|⟨_,⟨_,hR,hF⟩|⟨hF,_⟩|hW⟩|⟨_,_,hR,hW⟩
   rotate_left
   ·exact .inr (.inr (.inr (.inr (.inl ⟨LV hR (by simp) (by simp),hF⟩))))
   ·have hC:fk tt y.2.1.op = .C:=by
     unfold dU at hF
     split at hF
     ·assumption
     ·rw[hF]at AI; cases AI
    rw[hC]at AI; cases AI
   ·rw[(Ck (tt:=tt) hW).1]at AI; cases AI
   ·exact .inr (.inr (.inr (.inr (.inr (.inr ⟨LV hR (by simp) (by simp),Px (.inl hW)⟩)))))
   rcases (Av hpo).2 with h|⟨h,_⟩|⟨h,h'⟩|⟨h,_⟩|⟨h,h'⟩
   ·exact .inl h
   ·rw[Bt h]at AI; cases AI
   ·exact .inr (.inr (.inl ⟨LV h (by simp) (by simp),h'⟩))
   ·rw[LU h]at AI; cases AI
   ·exact .inr (.inr (.inr (.inl ⟨LV h (by simp) (by simp),h'⟩)))
  have ih:=X3 hE post pre (eff st e) h (g.sub (List.sublist_cons_self _ _)) (fun z hz=>hp z (by simp[hz])) h3
  rw[Uk En (qf hpy).1 AI h1 h2 gne gy fun hy=>g.top y (by simp) hy]at ih
  rw[←ih]
  refine Jd hE gx fun v Xa hh => ?_
  exact h4 _ (CT (.inl hpy) rfl hh) _

theorem bubble (T:vS P tt) (hE:R4 P E) {x:vo} {pre post:List vo} {st:St} {a:Act} (gZ:GO w c st a) (g:Good tt base (ops.toList.filter (bZ tt)).length (pre++x::post) st.hp) (hp:∀y∈pre,DO tt E (S.map (·.1)) ops.toList y.2.1 x.2.1=true)
  (hk:D1 tt E S base ops.toList (pre++x::post) st k=some r):one tt E S base ops.toList x.2.1 x.2.2 st (fun Jc=>D1 tt E S base ops.toList (pre++post) Jc k)=some r:=by
 by_cases hc:calm (fk tt x.2.1.op)=true
 ·obtain ⟨sE,k',h1,h2⟩:=find T hE post pre w c st a gZ g hp hk
  obtain ⟨e,e1,e2,_,e4⟩:=Ui hc h2
  rw[e4 st h1.symm,←pull hE hc e1 e2 e4 post pre st _ g hp h1.symm]
  exact hk
 ·refine X3 hE post pre st _ g (fun y hy=>⟨hp y hy,?_⟩) hk
  have h0:=(qf (hp y hy)).2
  by_cases hfw:S.map (·.1)=some true∧Sf ops.toList y.2.1 x.2.1=true
  ·exact .inr hfw
  refine .inl ?_
  have hy:dU tt E y.2.1.op = .P∨dU tt E y.2.1.op = .R∨dU tt E y.2.1.op = .A:=by
   have hx:¬calm (dU tt E x.2.1.op)=true:=by
    unfold dU
    split
    ·cases nF E x.2.1.op <;> simp[calm]
    ·exact hc
   rcases h0 with ⟨h0,_⟩|⟨hSo,⟨_,h0,_⟩|⟨_,_,h0⟩|h0⟩|⟨_,_,h0,_⟩
   rotate_left
   ·exact .inr (.inl h0)
   ·exact (hc (by rw[h0]; rfl)).elim
   ·exact (hfw ⟨hSo,h0⟩).elim
   ·exact .inr (.inl h0)
   have h1:=(Av h0).2
   rcases h1 with h1|⟨_,h1⟩|⟨h1,_⟩|⟨_,h1⟩|⟨h1,_⟩
   ·revert h1 hx
    cases dU tt E x.2.1.op <;> cases dU tt E y.2.1.op <;> simp[Gc,calm]
   ·exact (hx (by rcases h1 with h|h <;> rw[h] <;> rfl)).elim
   ·exact .inr (.inl h1)
   ·exact (hx (by rw[h1]; rfl)).elim
   ·exact .inr (.inl h1)
  have jc:fk tt y.2.1.op ≠ .C:=fun e=>by
   unfold dU at hy
   rw[e]at hy
   cases hp2:nF E y.2.1.op <;> simp[hp2]at hy
  rw[qC jc]at hy
  rcases hy with h|h|h <;> rw[h] <;> rfl
end

theorem xp:∀(l:List Oper) (i id:Nat) (x:vo),x∈number tt l i id→i≤x.1∧x.1<i+l.length∧l[x.1 - i]? = some x.2.1∧id≤x.2.2∧(bZ tt x.2.1=true→x.2.2<id+(l.filter (bZ tt)).length)
 | [],_,_,_,h=>by simp[number]at h
 | o::l,i,id,x,h=>by
  simp only[number,List.mem_cons]at h
  rcases h with rfl|h
  ·refine ⟨Nat.le_refl _,by simp,by simp,Nat.le_refl _,fun ha => ?_⟩
   simp only at ha
   simp only[List.filter_cons_of_pos ha,List.length_cons]
   omega
  ·obtain ⟨h1,h2,h3,h4,h5⟩:=xp l _ _ x h
   have e:x.1 - i=(x.1 - (i+1))+1:=by omega
   refine ⟨by omega,by simp; omega,by rw[e]; simpa using h3,?_,fun ha => ?_⟩
   ·split at h4 <;> omega
   ·have:=h5 ha
    by_cases ho:bZ tt o=true
    ·rw[if_pos ho]at this
     rw[List.filter_cons_of_pos ho,List.length_cons]; omega
    ·rw[if_neg ho]at this
     rw[List.filter_cons_of_neg ho]; omega

theorem CU:∀(l:List Oper) (i id:Nat),(number tt l i id).Pairwise fun z z'=>z.1<z'.1∧(bZ tt z.2.1=true→bZ tt z'.2.1=true→z.2.2<z'.2.2)
 | [],_,_=>by simp[number]
 | o::l,i,id=>by
  simp only[number,List.pairwise_cons]
  refine ⟨fun z hz => ?_,CU l _ _⟩
  obtain ⟨h1,_,_,h4,_⟩:=xp l _ _ z hz
  refine ⟨by omega,fun ha _ => ?_⟩
  rw[if_pos ha]at h4
  omega

theorem LW:∀(l:List Oper) (i id j:Nat),i≤j→j<i+l.length→∃x∈number tt l i id,x.1=j
 | [],i,_,j,h1,h2=>by simp at h2; omega
 | o::l,i,id,j,h1,h2=>by
  by_cases e:i=j
  ·exact ⟨(i,o,id),by simp[number],e⟩
  ·obtain ⟨x,hx,ex⟩:=LW l (i+1) (if bZ tt o then id+1 else id) j (by omega) (by simp at h2; omega)
   exact ⟨x,by simp[number,hx],ex⟩

structure Left (ops:Array Oper) (b:List (List Nat)) (listed:Array Bool) (rem:List vo):Prop where
 size:listed.size=ops.size
 sorted:rem.Pairwise fun z z'=>z.1<z'.1
 op:∀x∈rem,ops[x.1]? = some x.2.1
 un:∀x∈rem,listed.getD x.1 true=false
 all:∀i,listed.getD i true=false→∃x∈rem,x.1=i
 closed:∀m,listed.getD m false=true→∀i∈b.getD m [],listed.getD i false=true

theorem LX {listed:Array Bool} {i:Nat} (h:i<listed.size):listed.getD i false=true↔¬listed.getD i true=false:=by
 simp[h]

theorem VY (T:vS P tt) {E:Env R} (hE:R4 P E) {S:Option (Bool × List Nat)} {base:Nat} {ops:Array Oper} {b:List (List Nat)} {k:St→Option R} {r:R} {Q:Exit→Act→World→Prop}
  (hpair:∀i j x y,i<j→ops[i]? = some x→ops[j]? = some y→i∈b.getD j []∨DO tt E (S.map (·.1)) ops.toList x y=true)
  (hback:∀(j:Nat) (y:Oper),ops[j]? = some y→∀e∈y.after,Region.binds .any e=true→e.on<j)
  (hclo:∀(j:Nat) (y:Oper),ops[j]? = some y→∀i∈b.getD j [],∃e∈y.after,Region.binds .any e=true∧(e.on=i∨i∈b.getD e.on [])) :
  ∀(fuel:Nat) (listed:Array Bool) (rem:List vo) (w:World) (c:js) (st:St) (a:Act),rem.length≤fuel→Left ops b listed rem→Good tt base (ops.toList.filter (bZ tt)).length rem st.hp→GO w c st a→D1 tt E S base ops.toList rem st k=some r →
   XU w c st a k r (Q .normal)→wpAny P .any ops Q fuel listed a w:=by
 intro fuel
 -- if nothing is ready, nothing is left
 have hnone:∀listed rem,Left ops b listed rem→Region.ready .any ops listed = []→rem = []:=by
  intro listed rem lf hr
  cases rem with
  | nil=>rfl
  | cons x rest =>
   have:x.1∈Region.ready .any ops listed:=by
    rw[mem_ready]
    refine ⟨lf.un x (by simp),x.2.1,lf.op x (by simp),fun e he hb => ?_⟩
    have jb:=hback x.1 x.2.1 (lf.op x (by simp)) e he hb
    have hx:x.1<ops.size:=(Array.getElem?_eq_some_iff.1 (lf.op x (by simp))).1
    rw[LX (by rw[lf.size]; omega)]
    intro hun
    obtain ⟨y,hy,ey⟩:=lf.all _ hun
    rcases List.mem_cons.1 hy with rfl|hy
    ·omega
    ·have:=(List.pairwise_cons.1 lf.sorted).1 y hy
     omega
   rw[hr]at this
   cases this
 induction fuel with
 | zero =>
  intro listed rem w c st a hl lf g gZ hk go
  obtain rfl:rem = []:=List.eq_nil_of_length_eq_zero (by omega)
  refine ⟨?_,go a w st c gZ (.refl _ _ _) rfl hk⟩
  cases hr:Region.ready .any ops listed with
  | nil=>rfl
  | cons i l =>
   have hi:i∈Region.ready .any ops listed:=by rw[hr]; simp
   obtain ⟨x,hx,_⟩:=lf.all i (mem_ready.1 hi).1
   cases hx
 | succ fuel ih =>
  intro listed rem w c st a hl lf g gZ hk go
  refine ⟨fun hr => ?_,fun i hi => ?_⟩
  ·obtain rfl:=hnone _ _ lf hr
   exact go a w st c gZ (.refl _ _ _) rfl hk
  ·obtain ⟨hun,o,ho,hdone⟩:=mem_ready.1 hi
   obtain ⟨x,hx,rfl⟩:=lf.all i hun
   obtain ⟨pre,post,rfl⟩:=List.append_of_mem hx
   have hox:=lf.op x (by simp)
   rw[hox]at ho
   cases ho
   have Ul:=lf.sorted
   rw[List.pairwise_append,List.pairwise_cons]at Ul
   have hbx:∀j∈b.getD x.1 [],listed.getD j false=true:=fun j hj=>by
    obtain ⟨e,he,hb,hor⟩:=hclo x.1 x.2.1 hox j hj
    have hel:=hdone e he hb
    rcases hor with rfl|hj
    ·exact hel
    ·exact lf.closed _ hel j hj
   have hpr:∀y∈pre,DO tt E (S.map (·.1)) ops.toList y.2.1 x.2.1=true:=fun y hy=>by
    rcases hpair y.1 x.1 y.2.1 x.2.1 (Ul.2.2 y hy x (by simp)) (lf.op y (by simp[hy])) hox with h1|h1
    ·have h2:=hbx _ h1
     have h3:=lf.un y (by simp[hy])
     have hy':y.1<ops.size:=(Array.getElem?_eq_some_iff.1 (lf.op y (by simp[hy]))).1
     rw[LX (by rw[lf.size]; exact hy')]at h2
     exact (h2 h3).elim
    ·exact h1
   have HJ:=bubble T hE gZ g hpr hk
   have X4:x.1<listed.size:=by rw[lf.size]; exact (Array.getElem?_eq_some_iff.1 hox).1
   have lf':Left ops b (listed.setIfInBounds x.1 true) (pre++post):=by
    have hs:List.Sublist (pre++post) (pre++x::post):=List.Sublist.append (List.Sublist.refl _) (List.sublist_cons_self _ _)
    have jc:∀y∈pre++post,x.1≠y.1:=fun y hy=>by
     rcases List.mem_append.1 hy with hy|hy
     ·have:=Ul.2.2 y hy x (by simp); omega
     ·have:=Ul.2.1.1 y hy; omega
    refine ⟨by simp[lf.size],lf.sorted.sublist hs,fun y hy=>lf.op y (hs.subset hy),fun y hy => ?_,fun j hj => ?_,fun m hm j hj => ?_⟩
    ·rw[getD_set_ne true (jc y hy)]; exact lf.un y (hs.subset hy)
    ·by_cases e:x.1=j
     ·subst e; simp[X4]at hj
     ·rw[getD_set_ne true e]at hj
      obtain ⟨y,hy,ey⟩:=lf.all j hj
      refine ⟨y,?_,ey⟩
      rcases List.mem_append.1 hy with h1|h1
      ·exact List.mem_append_left _ h1
      ·rcases List.mem_cons.1 h1 with rfl|h1
       ·exact (e ey).elim
       ·exact List.mem_append_right _ h1
    ·refine getD_set_true ?_
     by_cases e:x.1=m
     ·subst e; exact hbx j hj
     ·rw[getD_set_ne false e]at hm; exact lf.closed m hm j hj
   have W9:(pre++post).length≤fuel:=by simp at hl ⊢; omega
   unfold wpOp
   simp only[hox]
   rcases CR gZ HJ with ⟨hw,HJ⟩|⟨hw,HJ⟩
   ·rw[if_pos hw]
    have HJ:yo tt E (W7 tt S base x.2.1) x.2.2 x.2.1 st (fun Jc=>D1 tt E S base ops.toList (pre++post) Jc k)=some r:=by
     cases hS:GG tt E base S ops.toList x.2.1 (ev st.fr) st.hp with
     | true=>rw[hS]at HJ; exact HJ
     | false=>rw[hS]at HJ; cases HJ
    refine .inl (Ez T hE HJ gZ (fun ha=>(g.slot x (by simp) ha).2) fun d w' sE c' v SM xt kp _ _ _ qA => ?_)
    exact ih _ _ w' c' sE _ W9 lf' (g.step kp) SM qA fun a2 w2 A6 c2 s2 x2 d2 k2=>go a2 w2 A6 c2 s2 (xt.trans x2) (d2.trans (put_defers _ _ _)) k2
   ·rw[if_neg (by simp[hw])]
    exact ih _ _ w c ⟨lJ st.fr x.2.1.dst (.tuple []),st.hp⟩ (a.put x.2.1.dst undef) W9 lf' (g.step (.refl _ _ _)) ⟨gZ.wf,zR gZ.fr _ Jb⟩ HJ fun a2 w2 A6 c2 s2 x2 d2 k2=>go a2 w2 A6 c2 s2 x2 (d2.trans (put_defers _ _ _)) k2

theorem FC (n:Nat):Ext w h c { w with drawn:=n } h c where
 os:=rfl
 tape:=rfl
 output:=rfl
 size:=Nat.le_refl _
 used:=fun _ hi=>hi
 same:=fun i hi hd=>⟨Ch (Fy hi.2 hd) (fun _ _ _ => .inr trivial),rfl,rfl⟩
 cell:=fun _ _ _ _=>rfl
 block:=fun _ _ _=>rfl
 vH:=fun _ _ _ ho=>ho
 ext:=rfl
 arr:=fun b arr e fz hb=>⟨arr,fz,hb,rfl⟩

theorem X5 (wf:WF w h c) (n:Nat):WF { w with drawn:=n } h c where
 lay:=wf.rq (FC n)
 wX:=wf.wX
 o3:=wf.o3
 obj:=fun i hi=>by
  by_cases hl:(h.at i).live
  ·exact (wf.obj i hi).uM (FC n) (fun _ _=>rfl) rfl rfl
  ·have h0:h.at i = .free∨h.at i = .dead:=by revert hl; cases h.at i <;> simp[bO.live]
   rcases h0 with h0|h0 <;> rw[h0] <;> trivial
 inj:=wf.inj

theorem JM (M:List Nat) (i:Nat):∀(es:List Nat) (m:Nat),(es.foldl (fun m e=>m ||| (Nat.pow 2 e ||| M.getD e 0)) m).testBit i=true→m.testBit i=true∨∃e∈es,e=i∨(M.getD e 0).testBit i=true
 | [],m,h => .inl h
 | e::es,m,h=>by
  rcases JM M i es _ h with h|⟨x,hx,h⟩
  ·rw[Nat.testBit_or,Nat.testBit_or,Bool.or_eq_true,Bool.or_eq_true]at h
   rcases h with h|h|h
   ·exact .inl h
   ·have h':(2 ^ e).testBit i=true:=h
    rw[Nat.testBit_two_pow]at h'
    exact .inr ⟨e,by simp, .inl (of_decide_eq_true h')⟩
   ·exact .inr ⟨e,by simp, .inr h⟩
  ·exact .inr ⟨x,by simp[hx],h⟩

theorem EB {n j i:Nat} {M:List Nat} (hj:j<n):i∈(beforeL n M).getD j []↔i<n∧(M.getD j 0).testBit i=true:=by
 unfold beforeL
 rw[List.getD_eq_getElem?_getD,List.getElem?_map,List.getElem?_range hj]
 simp

theorem SR (T:vS P tt) (hm:P.follows .mixedOrders=true) {E:Env R} (hE:R4 P E) {id:Nat} {ops:Array Oper} {k:St→Option R} {r:R} {Q:Exit→Act→World→Prop} {st:St} {a:Act}
  (hk:Fv tt E ops.toList true st k=some r) (gZ:GO w c st a) (go:XU w c st a k r (Q .normal)):(Code.region id ops true).wp P Q a w:=by
 obtain ⟨S,hd,hk⟩:∃S:Option (Bool × List Nat),Er tt E (S.map (·.1)) ops.toList=true∧D1 tt E S st.hp.length ops.toList (number tt ops.toList 0 st.hp.length) ⟨st.fr,st.hp++List.replicate (ops.toList.filter (bZ tt)).length .free⟩ k=some r:=by
  simp only[Fv,if_true]at hk
  split at hk
  ·rename_i hd
   rw[Pu _ 0]at hk
   exact ⟨none,hd,hk⟩
  ·split at hk
   ·rename_i hd
    rw[KP _ 0]at hk
    exact ⟨some (true,Le ops.toList st.fr),hd,hk⟩
   ·split at hk
    ·rename_i hd
     rw[KP _ 0]at hk
     exact ⟨some (false,Lf ops.toList st.fr),hd,hk⟩
    ·cases hk
 refine wp_region_any hm ?_
 have wY:∀j,j<ops.size→((List.range j).all (fun i=>((Hm ops.toList).getD j 0).testBit i||DO tt E (S.map (·.1)) ops.toList (ops.toList.getD i default) (ops.toList.getD j default))=true ∧
   (CJ (ops.toList.getD j default)).all (fun i=>Nat.blt i j)=true∧(Hm ops.toList).getD j 0=KI (Hm ops.toList) (CJ (ops.toList.getD j default))):=by
  intro j hj
  unfold Er at hd
  simp only at hd
  rw[List.all_eq_true]at hd
  have:=hd j (by simpa using hj)
  simp only[Bool.and_eq_true]at this
  exact ⟨this.1.1,this.1.2,Nat.eq_of_beq_eq_true this.2⟩
 have yR:∀(j:Nat) (y:Oper),ops[j]? = some y→ops.toList.getD j default=y∧j<ops.size:=fun j y hy=>by
  refine ⟨?_,(Array.getElem?_eq_some_iff.1 hy).1⟩
  rw[List.getD,Array.getElem?_toList,hy]; rfl
 have hbind:∀(y:Oper) (n:Nat),n∈CJ y↔∃e∈y.after,Region.binds .any e=true∧e.on=n:=by
  intro y n
  simp[CJ,List.mem_map,List.mem_filter,and_assoc]
 have SM:GO { w with drawn:=w.drawn+1 } c ⟨st.fr,st.hp++List.replicate (ops.toList.filter (bZ tt)).length .free⟩ a :=
  ⟨X5 (EA gZ.wf _) _,(gZ.fr.mono (sG _)).mono (FC _)⟩
 refine VY T hE (S:=S) (base:=st.hp.length) (b:=beforeL ops.size (Hm ops.toList)) (fun i j x y vm hx hy => ?_) (fun j y hy e he hb => ?_) (fun j y hy i hi => ?_) ops.size _ (number tt ops.toList 0 st.hp.length) _ c _ a ?_ ?_ ?_ SM hk ?_
 ·obtain ⟨h1,h2⟩:=yR i x hx
  obtain ⟨h3,h4⟩:=yR j y hy
  have:=List.all_eq_true.1 (wY j h4).1 i (by simpa using vm)
  rw[h1,h3,Bool.or_eq_true]at this
  rcases this with h|h
  ·exact .inl ((EB h4).2 ⟨h2,h⟩)
  ·exact .inr h
 ·obtain ⟨h3,h4⟩:=yR j y hy
  have:=(wY j h4).2.1
  rw[h3,List.all_eq_true]at this
  simpa using this e.on ((hbind y _).2 ⟨e,he,hb,rfl⟩)
 ·obtain ⟨h3,h4⟩:=yR j y hy
  have heq:=(wY j h4).2.2
  have jb:=(wY j h4).2.1
  rw[h3]at heq jb
  obtain ⟨hin,hbit⟩:=(EB h4).1 hi
  rw[heq]at hbit
  unfold KI at hbit
  rcases JM _ i _ _ hbit with h|⟨n,hn,h⟩
  ·simp at h
  ·obtain ⟨e,he,hb,rfl⟩:=(hbind y n).1 hn
   refine ⟨e,he,hb,h.imp (fun h=>h) fun h => ?_⟩
   have:=List.all_eq_true.1 jb e.on hn
   have hon:e.on<j:=by simpa using this
   exact (EB (Nat.lt_trans hon h4)).2 ⟨hin,h⟩
 ·have:∀(l:List Oper) (i id:Nat),(number tt l i id).length=l.length:=by
   intro l
   induction l with
   | nil=>intros; rfl
   | cons o l ih=>intros; simp[number,ih]
  rw[this]; simp
 ·refine ⟨by simp,(CU _ _ _).imp fun h=>h.1,fun x hx => ?_,fun x hx => ?_,fun i hi => ?_,fun m hm => ?_⟩
  ·obtain ⟨_,_,h3,_⟩:=xp _ _ _ x hx
   simpa using h3
  ·obtain ⟨_,h2,_⟩:=xp _ _ _ x hx
   simp at h2
   simp[h2]
  ·have:i<ops.size:=by
    rcases Nat.lt_or_ge i ops.size with h|h
    ·exact h
    ·simp[Nat.not_lt.2 h]at hi
   exact LW _ 0 _ i (Nat.zero_le _) (by simpa using this)
  ·rcases Nat.lt_or_ge m ops.size with h|h
   ·simp[h]at hm
   ·simp[Nat.not_lt.2 h]at hm
 ·refine ⟨fun z hz ha=>(xp _ _ _ z hz).2.2.2.2 ha,fun z hz ha => ?_,(CU _ _ _).imp fun h=>h.2⟩
  obtain ⟨_,_,_,h4,h5⟩:=xp _ _ _ z hz
  have h5:=h5 ha
  refine ⟨h4,by simp; omega,?_⟩
  rw[jd h4]
  have:z.2.2 - st.hp.length<(ops.toList.filter (bZ tt)).length:=by omega
  simp[aG.at,List.getD,List.getElem?_replicate,this]
 ·exact fun a2 w2 A6 c2 s2 x2 d2 k2=>go a2 w2 A6 c2 s2 (((sG _).trans (FC _)).trans x2) d2 k2
end

section
variable {P:Program} {tt:dA} {w w':World} {h h':aG} {c c':js} {R:Type}

theorem JN (h:aG):∀(n:Nat) (l rest seen:List Nat),(seen++l).Nodup→l.length≤n→∃t,reach h n (l++rest) seen=seen++l++t
 | n, [],rest,seen,_,_=>by
  have key:∀(n:Nat) (todo seen:List Nat),∃t,reach h n todo seen=seen++t:=by
   intro n
   induction n with
   | zero=>exact fun _ _=>⟨[],by simp[reach]⟩
   | succ n ih =>
    intro todo seen
    cases todo with
    | nil=>exact ⟨[],by simp[reach]⟩
    | cons i todo =>
     simp only[reach]
     split
     ·exact ih _ _
     ·obtain ⟨t,ht⟩:=ih (todo++(h.at i).ids) (seen ++ [i])
      exact ⟨i::t,by rw[ht]; simp⟩
  obtain ⟨t,ht⟩:=key n rest seen
  exact ⟨t,by simpa using ht⟩
 | 0,i::l,_,_,_,hl=>by simp at hl
 | n+1,i::l,rest,seen,hn,hl=>by
  have hi:i∉seen:=fun hm=>by
   rw[List.nodup_append]at hn
   exact hn.2.2 i hm i (by simp) rfl
  obtain ⟨t,ht⟩:=JN h n l (rest++(h.at i).ids) (seen ++ [i]) (by simpa using hn) (by simpa using hl)
  refine ⟨t,?_⟩
  simp only[List.cons_append,reach,List.contains_iff_mem,hi,if_false,List.append_assoc]at ht ⊢
  simpa using ht

theorem Q8 {w0:World} {h0:aG} {c0:js} (x:Ext w0 h0 c0 w h c) {ord:List Nat} (hf:∀i,i<h0.length→ord[i]? = some i):Ext w0 h0 c0 w (h.pick ord) (c.pick ord c.ext) where
 os:=x.os
 tape:=x.tape
 output:=x.output
 size:=x.size
 used:=fun i hi=>by
  have e:=hf i hi.1
  refine ⟨by simpa [aG.pick]using (List.getElem?_eq_some_iff.1 e).1,?_⟩
  rw[uH,e]
  simp only[ne_eq,Ce]
  exact (x.used i hi).2
 same:=fun i hi hd=>by
  have e:=hf i hi.1
  rw[uH,e]at hd ⊢
  simp only[ne_eq,HE]at hd
  obtain ⟨s1,s2,s3⟩:=x.same i hi hd
  exact ⟨N1.2 s1,by simp[js.pick,e,s2],by simp[js.pick,List.getD,e,s3]⟩
 cell:=x.cell
 block:=x.block
 vH:=fun b y hb ho=>by
  obtain ⟨i,_,f,g1,g2,g3⟩:=Cg ho
  exact x.vH b y hb ⟨i,f,g1,g2,g3⟩
 ext:=x.ext
 arr:=x.arr

theorem HK (wf:WF w h c) {ord:List Nat} (D0:ord.Nodup):WF w (h.pick ord) (c.pick ord c.ext) :=
 Uf wf D0 (fun _ _ hf=>hf.2) wf.o3 (fun b x ⟨i,_,f,g1,g2,g3⟩=>wf.wX b x ⟨i,f,g1,g2,g3⟩)

theorem Ge {ord:List Nat} {cs:List V} {ds:List Value} (r:cy w h c cs ds):cy w (h.pick ord) (c.pick ord c.ext) (V.xh (xd ord) cs) ds :=
 r.pg (LG fun _ _ hf=>hf.2)

theorem VZ {m:Nat} {t:List Nat} {i:Nat} (hi:i<m):(List.range m++t)[i]? = some i:=by
 rw[List.getElem?_append_left (by simpa using hi),List.getElem?_range hi]

theorem JO (h:aG) {m n:Nat} (hmn:m≤n) (rest:List Nat):(reach h n (List.range m++rest) []).Nodup∧∀i,i<m→(reach h n (List.range m++rest) [])[i]? = some i:=by
 refine ⟨Bq h _ _ _ (by simp),fun i hi => ?_⟩
 obtain ⟨t,ht⟩:=JN h n (List.range m) rest [] (by simpa using List.nodup_range) (by simpa using hmn)
 rw[ht]
 simpa using VZ (t:=t) hi

theorem LY {w0:World} {h0:aG} {c0:js} {st:St} {a:Act} (gZ:GO w c st a) (x:Ext w0 h0 c0 w st.hp c) (hm:h0.length≤200):∃c',GO w c' (st.gc h0.length) a∧Ext w0 h0 c0 w (st.gc h0.length).hp c':=by
 obtain ⟨h1,h2⟩:=JO st.hp (m:=h0.length) (n:=256) (by omega) (V.r6 st.fr)
 exact ⟨_,⟨HK gZ.wf h1,Ge gZ.fr⟩,Q8 x h2⟩

theorem GR {fr:List V} {ds:List Value} (r:cy w h c fr ds) (live drop:List Nat):cy w h c (CK live drop fr) ds:=by
 refine ⟨by simp[CK,r.1],fun j v d hv hd => ?_⟩
 unfold CK at hv
 rw[List.getElem?_map,List.getElem?_zipIdx]at hv
 cases e:fr[j]? with
 | none=>rw[e]at hv; cases hv
 | some u =>
  rw[e]at hv
  simp at hv
  subst hv
  have ru:=r.2 j u d e hd
  split
  ·split
   ·exact JI ru
   ·exact ru
  ·exact .undef _

theorem zS:∀(l:List (Nat × Ty)) (st:St) (c:js) (a:Act),GO w c st a→∃c',GO w c' (GH l st) a∧Ext w st.hp c w (GH l st).hp c'
 | [],st,c,a,gZ=>⟨c,gZ, .refl _ _ _⟩
 | (d,T)::l,st,c,a,gZ=>by
  have key:∀(U:Ty),(∀x,a.tmps.toList[d]? = some x→x = .slice none 0 0) →
    ∃c',GO w c' ⟨st.fr.set d (.sl U [] (.own st.hp.length)),st.hp ++ [.tok]⟩ a∧Ext w st.hp c w (st.hp ++ [.tok]) c':=by
   intro U hx
   obtain ⟨c',k1,k2,k3⟩:=Hz (id:=st.hp.length) (T:=U) (EA gZ.wf 1) (by simp) (by rw[jd (Nat.le_refl _)]; simp[aG.at])
   have e:(st.hp++List.replicate 1 bO.free).set st.hp.length .tok=st.hp ++ [.tok]:=by simp
   rw[e]at k1 k2 k3
   have k4:=(sG (w:=w) (h:=st.hp) (c:=c) 1).trans k2
   refine ⟨c',⟨k1,?_⟩,k4⟩
   have rf:=gZ.fr.mono k4
   refine ⟨by simp[rf.1],fun j v x hv Q9 => ?_⟩
   rw[List.getElem?_set]at hv
   by_cases hj:d=j
   ·subst hj
    rw[if_pos rfl]at hv
    split at hv
    ·cases hv
     rw[hx x Q9]
     exact k3
    ·cases hv
   ·rw[if_neg hj]at hv
    exact rf.2 j v x hv Q9
  simp only[GH]
  have rd:=gZ.fr.getD d undef
  split
  ·rename_i he
   rw[he]at rd
   obtain ⟨c',s',x'⟩:=key T fun x hx=>by
    rw[List.getD,hx]at rd
    cases rd; rfl
   obtain ⟨c2,s2,x2⟩:=zS l _ c' a s'
   exact ⟨c2,s2,x'.trans x2⟩
  ·rename_i T' l' he
   rw[he]at rd
   have hl:l' = []:=by
    generalize a.tmps.toList.getD d undef=q at rd
    cases rd with
    | sl f kM r5 hc hr xj lC =>
     have:=(xj rfl).2
     exact List.eq_nil_of_length_eq_zero (by omega)
   subst hl
   obtain ⟨c',s',x'⟩:=key T' fun x hx=>by
    rw[List.getD,hx]at rd
    simp only[Option.getD_some]at rd
    generalize hn:([]:List T'.den)=nl at rd
    cases rd with
    | sl f kM r5 hc hr xj lC =>
     obtain ⟨rfl,rfl⟩:=xj rfl
     subst hn
     rfl
   obtain ⟨c2,s2,x2⟩:=zS l _ c' a s'
   exact ⟨c2,s2,x'.trans x2⟩
  ·exact zS l st c a gZ

theorem put_nil {st:St} {a:Act} {d:Nat} {v:V} {h':aG} {c':js} (gZ:GO w c st a) (he:st.fr.getD d .undef = .cM) (k1:WF w h' c') (k4:Ext w st.hp c w h' c') (k3:dz w h' c' v (.slice none 0 0)) :
  GO w c' ⟨st.fr.set d v,h'⟩ a:=by
 refine ⟨k1,?_⟩
 have rf:=gZ.fr.mono k4
 refine ⟨by simp[rf.1],fun j u x hv Q9 => ?_⟩
 rw[List.getElem?_set]at hv
 by_cases hj:d=j
 ·subst hj
  rw[if_pos rfl]at hv
  split at hv
  ·cases hv
   have rd:=gZ.fr.getD d undef
   rw[he,List.getD,Q9]at rd
   cases rd
   exact k3
  ·cases hv
 ·rw[if_neg hj]at hv
  exact rf.2 j u x hv Q9

theorem Um (wf:WF w h c) (T:Ty):∃c',WF w (h ++ [.row T []]) c'∧Ext w h c w (h ++ [.row T []]) c'∧dz w (h ++ [.row T []]) c' (.row h.length 0) (.slice none 0 0):=by
 obtain ⟨c',k1,k2,k3⟩:=LB (id:=h.length) (T:=T) (EA wf 1) (by simp) (by rw[jd (Nat.le_refl _)]; simp[aG.at])
 have e:(h++List.replicate 1 bO.free).set h.length (.row T [])=h ++ [.row T []]:=by simp
 rw[e]at k1 k2 k3
 exact ⟨c',k1,(sG 1).trans k2,k3⟩

theorem Ra (wf:WF w h c) (T:Ty) (rw:Bool):∃c',WF w (h ++ [zx T rw]) c'∧Ext w h c w (h ++ [zx T rw]) c'∧dz w (h ++ [zx T rw]) c' (vW T rw h.length) (.slice none 0 0):=by
 unfold zx vW
 cases rw with
 | true=>exact Um wf T
 | false =>
  simp only[cond_false]
  obtain ⟨c',k1,k2,k3⟩:=Hz (id:=h.length) (T:=T) (EA wf 1) (by simp) (by rw[jd (Nat.le_refl _)]; simp[aG.at])
  have e:(h++List.replicate 1 bO.free).set h.length .tok=h ++ [.tok]:=by simp
  rw[e]at k1 k2 k3
  exact ⟨c',k1,(sG 1).trans k2,k3⟩

theorem CV:∀(l:List (Nat × Ty)) (st:St) (c:js) (a:Act),GO w c st a→∃c',GO w c' (Es l st) a∧Ext w st.hp c w (Es l st).hp c'
 | [],st,c,a,gZ=>⟨c,gZ, .refl _ _ _⟩
 | (d,T)::l,st,c,a,gZ=>by
  simp only[Es]
  split
  ·rename_i he
   obtain ⟨c',k1,k2,k3⟩:=Um gZ.wf T
   obtain ⟨c2,s2,x2⟩:=CV l ⟨st.fr.set d (.row st.hp.length 0),st.hp ++ [.row T []]⟩ c' a (put_nil gZ he k1 k2 k3)
   exact ⟨c2,s2,k2.trans x2⟩
  ·exact CV l st c a gZ

theorem Je {i:Nat} {cs ds:List V} (he:h.at i = .cells cs) (hl:ds.length=cs.length):Ext w h c w (h.set i (.cells ds)) c where
 os:=rfl
 tape:=rfl
 output:=rfl
 size:=Nat.le_refl _
 used:=fun j hj=>⟨by simpa using hj.1,by rw[lL]; split; simp; exact hj.2⟩
 same:=fun j hj hd=>by
  rw[lL]at hd ⊢
  split
  ·rename_i hc
   obtain ⟨rfl,_⟩:=hc
   rw[he]
   exact ⟨hl.symm,rfl,rfl⟩
  ·rename_i hc
   rw[if_neg hc]at hd
   exact ⟨Ch (Fy hj.2 hd) (fun _ _ _ => .inr trivial),rfl,rfl⟩
 cell:=fun _ _ _ _=>rfl
 block:=fun _ _ _=>rfl
 vH:=fun b x _ ho=>by
  obtain ⟨j,f,g1,g2,g3⟩:=ho
  rw[lL]at g2
  split at g2
  ·rename_i hc
   obtain ⟨rfl,_⟩:=hc
   exact ⟨i,f,g1,by rw[he]; exact g2,g3⟩
  ·exact ⟨j,f,g1,g2,g3⟩
 ext:=rfl
 arr:=fun b arr e fz hb=>⟨arr,fz,hb,rfl⟩

theorem X6 (wf:WF w h c) {i:Nat} {cs ds:List V} (he:h.at i = .cells cs) (hl:ds.length=cs.length) (DZ:nK w (h.set i (.cells ds)) c i (.cells ds)):WF w (h.set i (.cells ds)) c where
 lay:=wf.rq (Je he hl)
 wX:=fun b x ho he'=>by
  obtain ⟨j,f,g1,g2,g3⟩:=ho
  refine wf.wX b x ?_ he'
  rw[lL]at g2
  split at g2
  ·rename_i hc
   obtain ⟨rfl,_⟩:=hc
   exact ⟨i,f,g1,by rw[he]; exact g2,g3⟩
  ·exact ⟨j,f,g1,g2,g3⟩
 o3:=wf.o3
 obj:=fun j hj=>by
  rw[lL]
  split
  ·rename_i hc
   obtain ⟨rfl,_⟩:=hc
   exact DZ
  ·have ho:=wf.obj j (by simpa using hj)
   by_cases hv:(h.at j).live
   ·exact ho.uM (Je he hl) (fun _ _=>rfl) rfl rfl
   ·have h0:h.at j = .free∨h.at j = .dead:=by revert hv; cases h.at j <;> simp[bO.live]
    rcases h0 with h0|h0 <;> rw[h0] <;> trivial
 inj:=fun j k b hj hk h1 h2=>by
  have key:∀j,(aG.at (h.set i (.cells ds)) j).live→(h.at j).live:=fun j hj=>by
   rw[lL]at hj
   split at hj
   ·rename_i hc
    obtain ⟨rfl,_⟩:=hc
    rw[he]; trivial
   ·exact hj
  exact wf.inj j k b (key j hj) (key k hk) h1 h2

theorem LZ {i:Nat} {o':bO} (hf:∀f,(h.at i).from_ f=some 0) (VA:∀f,o'.from_ f=some 0) (td:(h.at i).gZ o') (jc:o' ≠ .free):Ext w h c w (h.set i o') c where
 os:=rfl
 tape:=rfl
 output:=rfl
 size:=Nat.le_refl _
 used:=fun j hj=>⟨by simpa using hj.1,by rw[lL]; split; exact jc; exact hj.2⟩
 same:=fun j hj hd=>by
  rw[lL]at hd ⊢
  split
  ·rename_i hc
   obtain ⟨rfl,_⟩:=hc
   exact ⟨td,rfl,rfl⟩
  ·rename_i hc
   rw[if_neg hc]at hd
   exact ⟨Ch (Fy hj.2 hd) (fun _ _ _ => .inr trivial),rfl,rfl⟩
 cell:=fun _ _ _ _=>rfl
 block:=fun _ _ _=>rfl
 vH:=fun b x _ ho=>by
  obtain ⟨j,f,g1,g2,g3⟩:=ho
  rw[lL]at g2
  split at g2
  ·rename_i hc
   obtain ⟨rfl,_⟩:=hc
   rw[VA]at g2
   cases g2
   exact ⟨i,0,g1,hf _,g3⟩
  ·exact ⟨j,f,g1,g2,g3⟩
 ext:=rfl
 arr:=fun b arr e fz hb=>⟨arr,fz,hb,rfl⟩

theorem turn_wf (wf:WF w h c) {i:Nat} {o':bO} (hf:∀f,(h.at i).from_ f=some 0) (VA:∀f,o'.from_ f=some 0) (td:(h.at i).gZ o') (jc:o' ≠ .free) (DZ:nK w (h.set i o') c i o'):WF w (h.set i o') c where
 lay:=wf.rq (LZ hf VA td jc)
 wX:=fun b x ho he'=>by
  obtain ⟨j,f,g1,g2,g3⟩:=ho
  refine wf.wX b x ?_ he'
  rw[lL]at g2
  split at g2
  ·rename_i hc
   obtain ⟨rfl,_⟩:=hc
   rw[VA]at g2
   cases g2
   exact ⟨i,0,g1,hf _,g3⟩
  ·exact ⟨j,f,g1,g2,g3⟩
 o3:=wf.o3
 obj:=fun j hj=>by
  rw[lL]
  split
  ·rename_i hc
   obtain ⟨rfl,_⟩:=hc
   exact DZ
  ·have ho:=wf.obj j (by simpa using hj)
   by_cases hv:(h.at j).live
   ·exact ho.uM (LZ hf VA td jc) (fun _ _=>rfl) rfl rfl
   ·have h0:h.at j = .free∨h.at j = .dead:=by revert hv; cases h.at j <;> simp[bO.live]
    rcases h0 with h0|h0 <;> rw[h0] <;> trivial
 inj:=fun j k b hj hk h1 h2=>by
  have key:∀j,(aG.at (h.set i o') j).live→(h.at j).live:=fun j hj=>by
   rw[lL]at hj
   split at hj
   ·rename_i hc
    obtain ⟨rfl,_⟩:=hc
    exact qP (hf 0)
   ·exact hj
  exact wf.inj j k b (key j hj) (key k hk) h1 h2

theorem qQ:∀(l:List (Nat × Nat × Ty × Bool)) (st:St) (c:js) (a:Act),GO w c st a→∃c',GO w c' (zO l st) a∧Ext w st.hp c w (zO l st).hp c'
 | [],st,c,a,gZ=>⟨c,gZ, .refl _ _ _⟩
 | (i,o,T,rw)::l,st,c,a,gZ=>by
  simp only[zO]
  split
  ·rename_i cs ye
   split
   ·rename_i ho
    obtain ⟨c',k1,k2,k3⟩:=Ra gZ.wf T rw
    have hi:=aG.fW ye (by simp)
    have SS:aG.at (st.hp ++ [zx T rw]) i = .cells cs:=by rw[jX hi]; exact ye
    have e:st.hp.set i (.cells (cs.set o (vW T rw st.hp.length))) ++ [zx T rw]=(st.hp ++ [zx T rw]).set i (.cells (cs.set o (vW T rw st.hp.length))):=by
     rw[List.set_append_left _ _ hi]
    rw[e]
    have hl:(cs.set o (vW T rw st.hp.length)).length=cs.length:=by simp
    have x1:=Je (w:=w) (c:=c') SS hl
    have DZ:=k1.obj i (by simp; omega)
    rw[SS]at DZ
    obtain ⟨b,arr,el,g1,g2,g3⟩:=DZ
    have w1:=X6 k1 SS hl (by
     refine ⟨b,arr,el,g1,g2,?_⟩
     have g3':=g3.mono x1
     refine ⟨by simpa using g3'.1,fun j v d hv hd => ?_⟩
     rw[List.getElem?_set]at hv
     by_cases hj:o=j
     ·subst hj
      rw[if_pos rfl]at hv
      split at hv
      ·cases hv
       have rd:=g3.getD o undef
       rw[ho,List.getD,hd]at rd
       cases rd
       exact k3.mono x1
      ·cases hv
     ·rw[if_neg hj]at hv
      exact g3'.2 j v d hv hd)
    have x2:=k2.trans x1
    obtain ⟨c2,s2,x3⟩:=qQ l ⟨st.fr,(st.hp ++ [zx T rw]).set i (.cells (cs.set o (vW T rw st.hp.length)))⟩ c' a ⟨w1,gZ.fr.mono x2⟩
    exact ⟨c2,s2,x2.trans x3⟩
   ·exact qQ l st c a gZ
  ·rename_i v ye
   split
   ·obtain ⟨c',k1,k2,k3⟩:=Ra gZ.wf T rw
    have hi:=aG.fW ye (by simp)
    have SS:aG.at (st.hp ++ [zx T rw]) i = .lW .cM:=by rw[jX hi]; exact ye
    have e:st.hp.set i (.lW (vW T rw st.hp.length)) ++ [zx T rw]=(st.hp ++ [zx T rw]).set i (.lW (vW T rw st.hp.length)):=by
     rw[List.set_append_left _ _ hi]
    rw[e]
    have hf:∀f,(aG.at (st.hp ++ [zx T rw]) i).from_ f=some 0:=fun f=>by rw[SS]; rfl
    have td:(aG.at (st.hp ++ [zx T rw]) i).gZ (.lW (vW T rw st.hp.length)):=by rw[SS]; trivial
    have x1:=LZ (w:=w) (c:=c') hf (o' := .lW (vW T rw st.hp.length)) (fun _=>rfl) td (by simp)
    have DZ:=k1.obj i (by simp; omega)
    rw[SS]at DZ
    obtain ⟨b,p,d,g1,g2,g3,g4⟩:=DZ
    have w1:=turn_wf k1 hf (o' := .lW (vW T rw st.hp.length)) (fun _=>rfl) td (by simp) (by
     cases g4
     exact ⟨b,p,_,g1,g2,g3,k3.mono x1⟩)
    have x2:=k2.trans x1
    obtain ⟨c2,s2,x3⟩:=qQ l ⟨st.fr,(st.hp ++ [zx T rw]).set i (.lW (vW T rw st.hp.length))⟩ c' a ⟨w1,gZ.fr.mono x2⟩
    exact ⟨c2,s2,x2.trans x3⟩
   ·exact qQ l st c a gZ
  ·exact qQ l st c a gZ

theorem SU {w0:World} {h0:aG} {c0:js} {st:St} {a:Act} (gZ:GO w c st a) (x:Ext w0 h0 c0 w st.hp c) (hm:h0.length≤200) (hint:Hint) :
  ∃c',GO w c' (norm h0.length hint st) a∧Ext w0 h0 c0 w (norm h0.length hint st).hp c':=by
 obtain ⟨c,gZ,x⟩:∃c',GO w c' (T0 h0.length hint ⟨CK hint.live hint.drop st.fr,st.hp⟩) a∧Ext w0 h0 c0 w (T0 h0.length hint ⟨CK hint.live hint.drop st.fr,st.hp⟩).hp c':=by
  unfold T0
  split
  ·exact ⟨c,⟨gZ.wf,GR gZ.fr _ _⟩,x⟩
  ·exact LY (st:=⟨CK hint.live hint.drop st.fr,st.hp⟩) ⟨gZ.wf,GR gZ.fr _ _⟩ x hm
 obtain ⟨c1,s1,x1⟩:=zS hint.own _ c a gZ
 obtain ⟨c2,s2,x2⟩:=CV hint.rows _ c1 a s1
 obtain ⟨c3,s3,x3⟩:=qQ hint.cells _ c2 a s2
 exact LY s3 (((x.trans x1).trans x2).trans x3) hm

theorem SV {w0:World} {h0:aG} {c0:js} {st:St} {a:Act} (gZ:GO w c st a) (x:Ext w0 h0 c0 w st.hp c) (hm:h0.length≤200) (hint:Hint) :
  ∃c',GO w c' (trim h0.length hint st) a∧Ext w0 h0 c0 w (trim h0.length hint st).hp c' :=
 LY (st:=⟨CK hint.out [] st.fr,st.hp⟩) ⟨gZ.wf,GR gZ.fr _ _⟩ x hm


theorem L0:∀(ts:List Nat) (vs:List V) (ds:List Value),ts.length=ds.length→cy w h c vs ds→cy w h c (Sj tt ts vs) ds
 | [],vs,ds,hl,r=>by
  have:ds = []:=List.eq_nil_of_length_eq_zero hl.symm
  subst this
  exact .nil
 | t::ts, [],ds,hl,r=>by
  have:ds = []:=List.eq_nil_of_length_eq_zero (by simpa using r.1.symm)
  subst this
  simp at hl
 | t::ts,v::vs, [],hl,r=>by simp at hl
 | t::ts,v::vs,d::ds,hl,r => .cons (N9 r.head) (L0 ts vs ds (by simpa using hl) r.tail)
end

section
variable {P:Program} {tt:dA} {R:Type}

def tg (fr:List V) (log:List (Nat × V)):List V:=log.foldr (fun x f=>f.set x.1 x.2) fr
theorem xq (fr:List V):∀log:List (Nat × V),(tg fr log).length=fr.length
 | []=>rfl
 | x::log=>by simp[tg]; exact xq fr log

theorem beqF (a b:Nat):Nat.beq a b=decide (a=b):=by
 cases hb:Nat.beq a b with
 | true=>simp[Nat.eq_of_beq_eq_true hb]
 | false=>simp[Nat.ne_of_beq_eq_false hb]

theorem look_eq (fr:List V) (t:Nat) (d:V) (hd:fr.getD t .undef=d):∀log:List (Nat × V),(∀x∈log,x.1<fr.length)→Gd log t d=(tg fr log).getD t .undef
 | [],_=>hd.symm
 | x::log,h=>by
  have ih:=look_eq fr t d hd log fun y hy=>h y (by simp[hy])
  have hx:=h x (by simp)
  have hl:=xq fr log
  have e:tg fr (x::log)=(tg fr log).set x.1 x.2:=rfl
  have e2:Gd (x::log) t d=cond (Nat.beq x.1 t) x.2 (Gd log t d):=rfl
  rw[e,e2,beqF,ih]
  by_cases Pe:x.1=t
  ·subst Pe
   simp[List.getD,List.getElem?_set_self,hl,hx]
  ·simp[Pe,List.getD,List.getElem?_set_ne Pe]

theorem Rb {β:Type} (t:Nat) (d:V) (k:V→β):∀log:List (Nat × V),Lg log t d k=k (Gd log t d)
 | []=>rfl
 | x::log=>by
  have ih:=Rb t d k log
  have e1:Lg (x::log) t d k=cond (Nat.beq x.1 t) (k x.2) (Lg log t d k):=rfl
  have e2:Gd (x::log) t d=cond (Nat.beq x.1 t) x.2 (Gd log t d):=rfl
  rw[e1,e2,ih]
  cases Nat.beq x.1 t <;> rfl

def xr (log:List (Nat × V)):Nat→List V→List V
 | _, [] => []
 | i,v::r=>Gd log i v::xr log (i+1) r
theorem JP {β:Type} (log:List (Nat × V)):∀(fr:List V) (i:Nat) (k:List V→β),
  List.rec (motive:=fun _=>Nat→(List V→β)→β) (fun _ k=>k []) (fun v _ ih i k=>Lg log i v fun v'=>ih (i+1) fun r=>k (v'::r)) fr i k=k (xr log i fr)
 | [],_,_=>rfl
 | v::fr,i,k=>by
  show Lg log i v (fun v'=>List.rec (motive:=fun _=>Nat→(List V→β)→β) (fun _ k=>k []) (fun v _ ih i k=>Lg log i v fun v'=>ih (i+1) fun r=>k (v'::r)) fr (i+1) fun r=>k (v'::r))=_
  rw[Rb,JP log fr (i+1)]
  rfl
theorem Gf (log:List (Nat × V)):∀(fr:List V) (i j:Nat),(xr log i fr)[j]? = (fr[j]?).map fun v=>Gd log (i+j) v
 | [],_,_=>by simp[xr]
 | v::fr,i,0=>by simp[xr]
 | v::fr,i,j+1=>by
  simp only[xr,List.getElem?_cons_succ]
  rw[Gf log fr (i+1) j]
  congr 1
  funext v
  congr 1
  omega
theorem V0 {β:Type} (fr:List V) (log:List (Nat × V)) (hl:∀x∈log,x.1<fr.length) (k:List V→β):Sg log fr k=k (tg fr log):=by
 have h1:Sg log fr k=k (xr log 0 fr):=JP log fr 0 k
 rw[h1]
 congr 1
 apply List.ext_getElem?
 intro j
 rw[Gf,Nat.zero_add]
 cases hj:fr[j]? with
 | none =>
  have:(tg fr log)[j]? = none:=by
   rw[List.getElem?_eq_none_iff,xq]
   exact List.getElem?_eq_none_iff.1 hj
  rw[this]; rfl
 | some v =>
  have jb:j<(tg fr log).length:=by rw[xq]; exact (List.getElem?_eq_some_iff.1 hj).1
  have h2:=look_eq fr j v (by simp[List.getD,hj]) log hl
  rw[Option.map_some,h2]
  simp[List.getD,List.getElem?_eq_getElem jb]

theorem evF_eq (fr:List V) (log:List (Nat × V)) (hl:∀x∈log,x.1<fr.length):evF fr log=ev (tg fr log):=by
 funext x
 cases x with
 | tmp t=>exact look_eq fr t _ rfl log hl
 | _=>rfl

theorem Un (fr:List V) (log:List (Nat × V)) (dst:Option Nat) (v:V):tg fr (NU fr.length log dst v)=lJ (tg fr log) dst v:=by
 cases dst with
 | none=>rfl
 | some d =>
  unfold NU lJ
  simp only
  cases h:Nat.blt d fr.length with
  | true=>rfl
  | false =>
   have:¬d<fr.length:=by
    intro h2
    have h3:Nat.blt d fr.length=true:=by simpa using h2
    rw[h3]at h
    cases h
   simp only[cond_false]
   rw[List.set_eq_of_length_le (by rw[xq]; omega)]
theorem Uo {fr:List V} {log:List (Nat × V)} (hl:∀x∈log,x.1<fr.length) (dst:Option Nat) (v:V):∀x∈NU fr.length log dst v,x.1<fr.length:=by
 cases dst with
 | none=>exact hl
 | some d =>
  unfold NU
  simp only
  cases h:Nat.blt d fr.length with
  | true =>
   intro x hx
   rcases List.mem_cons.1 hx with rfl|hx
   ·simpa using h
   ·exact hl x hx
  | false=>exact hl

theorem X7 {E:Env R} {drawn:Option Nat} {id:Nat} {o:Oper} {st:St} {k:St→Option R}:yo tt E drawn id o st k=Xr tt E drawn id o (ev st.fr) st.hp fun v h=>k ⟨lJ st.fr o.dst v,h⟩:=by
 unfold yo Xr
 cases fk tt o.op <;> rfl

theorem V1 {all:List Oper} {o:Oper} {fr:List V} {log:List (Nat × V)} {hp:aG} (hl:∀x∈log,x.1<fr.length) {run skip:St→Option R} {runF skipF:List (Nat × V)→Option R}
  (hr:∀log,(∀x∈log,x.1<fr.length)→runF log=run ⟨tg fr log,hp⟩) (hs:∀log,(∀x∈log,x.1<fr.length)→skipF log=skip ⟨tg fr log,hp⟩) :
  Sh all o fr log runF skipF=uR all o ⟨tg fr log,hp⟩ run skip:=by
 unfold Sh uR
 cases o.guard with
 | none=>exact hr log hl
 | some jw =>
  obtain ⟨j,want⟩:=jw
  simp only
  cases (all[j]?).bind (·.dst)with
  | none=>rfl
  | some d =>
   simp only
   rw[look_eq fr d _ rfl log hl]
   cases hb:(tg fr log).getD d .undef with
   | bool b =>
    have hd:d<fr.length:=by
     rcases Nat.lt_or_ge d fr.length with h|h
     ·exact h
     ·rw[←xq fr log]at h
      simp[List.getD,List.getElem?_eq_none h]at hb
    have h2:∀v:V,∀x∈(d,v)::log,x.1<fr.length:=fun v x hx=>by
     rcases List.mem_cons.1 hx with rfl|hx
     ·exact hd
     ·exact hl x hx
    simp only
    rw[hr _ (h2 _),hs _ (h2 _),hr _ (h2 _),hs _ (h2 _)]
    rfl
   | tuple vs =>
    cases vs with
    | nil=>exact hs log hl
    | cons _ _=>rfl
   | _=>rfl

theorem Pz {E:Env R} {drawn:Option Nat} {all:List Oper} {fr:List V}:∀(l:List Oper) (id:Nat) (log:List (Nat × V)) (hp:aG) (k:St→Option R),(∀x∈log,x.1<fr.length) →
  Si tt E drawn all fr.length fr l id log hp k=Ld tt E drawn all l id ⟨tg fr log,hp⟩ k
 | [],_,log,hp,k,hl=>by
  simp only[Si,Ld]
  rw[V0 fr log hl,B9]
 | o::l,id,log,hp,k,hl=>by
  simp only[Si,Ld,CI]
  refine V1 hl (fun log hl => ?_) fun log hl => ?_
  ·rw[X7,evF_eq fr log hl]
   congr 1
   funext v h
   rw[B9,Pz l _ _ _ _ (Uo hl o.dst v),Un]
  ·rw[Pz l _ _ _ _ (Uo hl o.dst _),Un]

theorem regionF_eq {E:Env R} {ops:List Oper} {draw:Bool} {st:St} {k:St→Option R}:regionF tt E ops draw st k=Fv tt E ops draw st k:=by
 unfold regionF Fv
 simp only
 have h:=fun (dr:Option Nat) (hp:aG)=>Pz (tt:=tt) (E:=E) (drawn:=dr) (all:=ops) (fr:=st.fr) ops st.hp.length [] hp k (by simp)
 rw[h,h]
 rfl
end

section
variable {P:Program} {tt:dA} {w w':World} {h h':aG} {c c':js} {R:Type}

def Ex.out:Ex→Exit
 | .normal => .normal
 | .exit id => .exit id
 | .goto l => .goto l
 | .ret => .ret

theorem V2 {a b:Option R} {r:R} (h:anyT a b=some r):a=some r∧b=some r:=by
 unfold anyT at h
 split at h
 ·rename_i e; exact ⟨h,e▸h⟩
 ·cases h

theorem V3 {b0:Code} {Q:Exit→Act→World→Prop} (I:Nat→Act→World→Prop) (h0:∀a w, ¬I 0 a w) (round:∀n a w,I (n+1) a w→b0.wp P (Exit.then (I n) Q) a w) {n:Nat} {a:Act} {w:World} (hI:I n a w) :
  (Code.loop b0).wp P Q a w:=by
 intro b k cs
 have key:∀n a w,I n a w→∃e a' w',Q e a' w'∧Arrives P (lone (b.at a (.code b0 :: .inLoop b0::k)) cs w) b k cs e a' w':=by
  intro n
  induction n with
  | zero=>exact fun a w h=>(h0 a w h).elim
  | succ n ih =>
   intro a w hI
   obtain ⟨e,a1,w1,hq,AE⟩:=round n a w hI b (.inLoop b0::k) cs
   cases e with
   | normal =>
    obtain ⟨e2,a2,w2,Vb,harr2⟩:=ih a1 w1 hq
    exact ⟨e2,a2,w2,Vb, .of_steps (Steps.trans AE (.one step_inLoop)) harr2⟩
   | exit id=>exact ⟨_,a1,w1,hq, .pass (x := .inLoop b0) rfl (fun _ _ => .inl (by simp)) AE⟩
   | goto l=>exact ⟨_,a1,w1,hq, .pass (x := .inLoop b0) rfl (fun _ _ => .inl (by simp)) AE⟩
   | ret=>exact ⟨_,a1,w1,hq, .pass (x := .inLoop b0) rfl (fun _ _ => .inl (by simp)) AE⟩
   | panic ch=>exact ⟨_,a1,w1,hq, .pass (x := .inLoop b0) rfl (fun _ _ => .inl (by simp)) AE⟩
   | outgrown=>exact ⟨_,a1,w1,hq, .pass (x := .inLoop b0) rfl (fun _ _ => .inl (by simp)) AE⟩
 obtain ⟨e,a',w',hq,AE⟩:=key n a w hI
 exact ⟨e,a',w',hq, .of_steps (.one step_loop) AE⟩

def lM (tt:dA) (E:Env R) (L:Nat→Option (Hint × eJ R)) (m:Nat) (a:Code):Prop :=
 ∀hint ls,L (keyOf a)=some (hint,ls)→∀st (K:Ex→St→Option R) r,ls st K=some r→∃n,Bn (jV tt E L m a) (norm m hint) n st (fun e st=>K e (trim m hint st))=some r

def br:Code→List Code
 | .seq a b=>br a++br b
 | .cond _ a b=>br a++br b
 | .block _ a=>br a
 | .loop a=>a::br a
 | _ => []

theorem Rc (body:eJ R):∀n st K,T1 body n st K=Bn body id n st K
 | 0,_,_=>rfl
 | n+1,st,K=>by
  simp only[T1,Bn]
  congr 1
  funext e sE
  cases e <;> first|rfl|exact Rc body n sE K

section
variable {w0:World} {h0:aG} {c0:js} {D:List Deferred}

structure At (w0:World) (h0:aG) (c0:js) (D:List Deferred) (w:World) (st:St) (a:Act) (c:js):Prop where
 gZ:GO w c st a
 ext:Ext w0 h0 c0 w st.hp c
 defers:a.defers=D

def Ends (w0:World) (h0:aG) (c0:js) (D:List Deferred) (K:Ex→St→Option R) (r:R) (Q:Exit→Act→World→Prop):Prop :=
 ∀e st a w c,At w0 h0 c0 D w st a c→K e st=some r→Q e.out a w

theorem my (T:vS P tt) (hm:P.follows .mixedOrders=true) {E:Env R} (hE:R4 P E) {L:Nat→Option (Hint × eJ R)} (hlen:h0.length≤200) {r:R}:∀(code:Code),(∀a∈br code,lM tt E L h0.length a) →
  ∀(Q:Exit→Act→World→Prop) (K:Ex→St→Option R) (st:St) (a:Act) (w:World) (c:js),At w0 h0 c0 D w st a c→jV tt E L h0.length code st K=some r→Ends w0 h0 c0 D K r Q→code.wp P Q a w
 | .skip,_,Q,K,st,a,w,c,at_,hk,he=>wp_skip (he .normal st a w c at_ hk)
 | .region id ops draw,_,Q,K,st,a,w,c,at_,hk,he=>by
  simp only[jV,regionF_eq]at hk
  have go:XU w c st a (fun sE=>K .normal sE) r (Q .normal):=fun a' w' sE c' s x d k=>he .normal sE a' w' c' ⟨s,at_.ext.trans x,d.trans at_.defers⟩ k
  cases draw with
  | true=>exact SR T hm hE hk at_.gZ go
  | false=>exact Pt T hE hk at_.gZ go
 | .seq x y,hl,Q,K,st,a,w,c,at_,hk,he=>by
  simp only[jV]at hk
  refine wp_seq (my T hm hE hlen x (fun b hb=>hl b (by simp[br,hb])) _ _ st a w c at_ hk fun e sE a' w' c' at' qA => ?_)
  cases e with
  | normal=>exact my T hm hE hlen y (fun b hb=>hl b (by simp[br,hb])) Q K sE a' w' c' at' qA he
  | exit i=>exact he (.exit i) sE a' w' c' at' qA
  | goto l=>exact he (.goto l) sE a' w' c' at' qA
  | ret=>exact he .ret sE a' w' c' at' qA
 | .cond cnd x y,hl,Q,K,st,a,w,c,at_,hk,he=>by
  simp only[jV]at hk
  split at hk <;> try (first|cases hk)
  ·rename_i t ht
   have rc:=SK at_.gZ.fr cnd
   rw[ht]at rc
   generalize hv:a.eval cnd=v at rc
   cases rc
   refine wp_cond hv ?_
   cases t with
   | true=>exact my T hm hE hlen x (fun b hb=>hl b (by simp[br,hb])) Q K st a w c at_ hk he
   | false=>exact my T hm hE hlen y (fun b hb=>hl b (by simp[br,hb])) Q K st a w c at_ hk he
  ·rename_i ht
   have rc:=SK at_.gZ.fr cnd
   rw[ht]at rc
   generalize hv:a.eval cnd=v at rc
   cases rc with
   | FN t =>
    refine wp_cond hv ?_
    obtain ⟨h1,h2⟩:=V2 hk
    cases t with
    | true=>exact my T hm hE hlen x (fun b hb=>hl b (by simp[br,hb])) Q K st a w c at_ h1 he
    | false=>exact my T hm hE hlen y (fun b hb=>hl b (by simp[br,hb])) Q K st a w c at_ h2 he
 | .block id x,hl,Q,K,st,a,w,c,at_,hk,he=>by
  simp only[jV]at hk
  refine wp_block (my T hm hE hlen x (fun b hb=>hl b (by simp[br,hb])) _ _ st a w c at_ hk fun e sE a' w' c' at' qA => ?_)
  cases e with
  | normal=>exact he .normal sE a' w' c' at' qA
  | exit i =>
   simp only[Ex.out,Exit.inBlock]
   simp only at qA
   split
   ·rename_i hi
    rw[if_pos hi]at qA
    exact he .normal sE a' w' c' at' qA
   ·rename_i hi
    rw[if_neg hi]at qA
    exact he (.exit i) sE a' w' c' at' qA
  | goto l=>exact he (.goto l) sE a' w' c' at' qA
  | ret=>exact he .ret sE a' w' c' at' qA
 | .loop x,hl,Q,K,st,a,w,c,at_,hk,he=>by
  have hx:∀b∈br x,lM tt E L h0.length b:=fun b hb=>hl b (by simp[br,hb])
  have main:∀(f g:St→St),(∀w st a c,At w0 h0 c0 D w st a c→∃c',At w0 h0 c0 D w (f st) a c')→(∀w st a c,At w0 h0 c0 D w st a c→∃c',At w0 h0 c0 D w (g st) a c') →
    ∀n st a w c,At w0 h0 c0 D w st a c→Bn (jV tt E L h0.length x) f n st (fun e st=>K e (g st))=some r→(Code.loop x).wp P Q a w:=by
   intro f g hf hg n st a w c at_ hk
   refine V3 (fun n a w=>∃st c,At w0 h0 c0 D w st a c∧Bn (jV tt E L h0.length x) f n st (fun e st=>K e (g st))=some r) (fun a w => ?_) (fun n a w => ?_) ⟨st,c,at_,hk⟩
   ·rintro ⟨st,c,_,hk⟩
    cases hk
   ·rintro ⟨st,c,at_,hk⟩
    simp only[Bn]at hk
    refine my T hm hE hlen x hx _ _ st a w c at_ hk fun e sE a' w' c' at' qA => ?_
    cases e with
    | normal =>
     obtain ⟨c2,at2⟩:=hf w' sE a' c' at'
     exact ⟨f sE,c2,at2,qA⟩
    | exit i=>obtain ⟨c2,at2⟩:=hg w' sE a' c' at'; exact he (.exit i) _ a' w' c2 at2 qA
    | goto l=>obtain ⟨c2,at2⟩:=hg w' sE a' c' at'; exact he (.goto l) _ a' w' c2 at2 qA
    | ret=>obtain ⟨c2,at2⟩:=hg w' sE a' c' at'; exact he .ret _ a' w' c2 at2 qA
  simp only[jV]at hk
  split at hk
  ·rename_i hint ls hL
   have hnorm:∀w st a c,At w0 h0 c0 D w st a c→∃c',At w0 h0 c0 D w (norm h0.length hint st) a c':=fun w st a c at_=>by
    obtain ⟨c',s',x'⟩:=SU at_.gZ at_.ext hlen hint
    exact ⟨c',s',x',at_.defers⟩
   have htrim:∀w st a c,At w0 h0 c0 D w st a c→∃c',At w0 h0 c0 D w (trim h0.length hint st) a c':=fun w st a c at_=>by
    obtain ⟨c',s',x'⟩:=SV at_.gZ at_.ext hlen hint
    exact ⟨c',s',x',at_.defers⟩
   obtain ⟨n,hn⟩:=hl x (by simp[br]) hint ls hL _ _ _ hk
   obtain ⟨c',at'⟩:=hnorm w st a c at_
   exact main _ _ hnorm htrim n _ a w c' at' hn
  ·rw[Rc]at hk
   exact main id id (fun w st a c h=>⟨c,h⟩) (fun w st a c h=>⟨c,h⟩) 70 st a w c at_ hk
 | .exit id,_,Q,K,st,a,w,c,at_,hk,he=>wp_exit (he (.exit id) st a w c at_ hk)
 | .ret,_,Q,K,st,a,w,c,at_,hk,he=>wp_ret (he .ret st a w c at_ hk)
 | .label _,_,_,_,_,_,_,_,_,hk,_=>by simp[jV]at hk
 | .goto _,_,_,_,_,_,_,_,_,hk,_=>by simp[jV]at hk
 | .scope _,_,_,_,_,_,_,_,_,hk,_=>by simp[jV]at hk
 | .refuse _,_,_,_,_,_,_,_,_,hk,_=>by simp[jV]at hk
end

theorem GS (T:vS P tt) {st:St} {a:Act} (gZ:GO w c st a):∀(rs:List ResultVar) {k:List V→Option R} {r:R},Qp tt st rs k=some r →
  ∃vs ds,k vs=some r∧cy w st.hp c vs ds∧ds.length=rs.length∧(rs.mapM (m:=Sem) fun | .tmp t=>pure (a.tmps.getD t undef) | .cell b t=>do loadVar t (←asAddr (a.tmps.getD b undef))).run P w = .ok ds w
 | [],k,r,hk=>⟨[], [],hk, .nil,rfl,by simp⟩
 | .tmp t::rs,k,r,hk=>by
  simp only[Qp]at hk
  obtain ⟨vs,ds,h1,h2,h3,h4⟩:=GS T gZ rs hk
  refine ⟨_,a.tmps.getD t undef::ds,h1, .cons ?_ h2,by simp[h3],?_⟩
  ·have:=gZ.fr.getD t undef
   simpa [List.getD,Array.getD_eq_getD_getElem?]using this
  ·simp only[List.mapM_cons,Sem.run_bind,Sem.run_pure,Result.andThen_ok,h4]
 | .cell b t::rs,k,r,hk=>by
  simp only[Qp]at hk
  split at hk <;> try (first|cases hk)
  rename_i i o hp
  split at hk <;> try (first|cases hk)
  rename_i cs ye
  have hl:=Ls (P:=P) T gZ.wf (t:=t) (a := .ptr i o) (a':=a.tmps.getD b undef) (lim:=none) (k:=fun v=>Qp tt st rs fun vs=>k (v::vs)) (r:=r) (by
    have:=gZ.fr.getD b undef
    rw[hp]at this
    simpa [List.getD,Array.getD_eq_getD_getElem?]using this) (by simp only[DN,if_true,ye]; exact hk)
  obtain ⟨v,v',g1,g2,g3⟩:=hl
  obtain ⟨vs,ds,h1,h2,h3,h4⟩:=GS T gZ rs g3
  refine ⟨_,v'::ds,h1, .cons g2 h2,by simp[h3],?_⟩
  have hb:(do loadVar t (←asAddr (a.tmps.getD b undef)):Sem Value).run P w = .ok v' w:=by
   have rb:=gZ.fr.getD b undef
   rw[hp]at rb
   have e:a.tmps.toList.getD b undef=a.tmps.getD b undef:=by simp[List.getD,Array.getD_eq_getD_getElem?]
   rw[e]at rb
   generalize a.tmps.getD b undef=q at rb g1
   cases rb with
   | ptr hu hv =>
    obtain ⟨b',rfl,_⟩:=hv
    simpa [Instr.loadAt,Instr.sureAddr,asAddr]using g1
  simp only[List.mapM_cons,Sem.run_bind,hb,Sem.run_pure,Result.andThen_ok,h4]

theorem Nt {w0:World} {h0:aG} {c0:js} {ts:List Nat} {uM:Bool} {vs:List V} {ds:List Value} (wf:WF w h c) (r:cy w h c vs ds) (x:Ext w0 h0 c0 w h c) (hm:h0.length≤200) (hts:ts.length=ds.length) {k:V→aG→Option R} {q:R}
  (hk:KJ tt ts h0.length uM vs h k=some q):∃v h' c',WF w h' c'∧Ext w0 h0 c0 w h' c'∧dz w h' c' v (if h:ds.length=1 then ds[0]else .tuple ds.toArray)∧k v h'=some q:=by
 unfold KJ at hk
 have main:∀(ws:List V) (h1:aG),WF w h1 c→cy w h1 c ws ds→Ext w0 h0 c0 w h1 c →
   k (match V.xh (xd (reach h1 256 (List.range h0.length++V.r6 ws) [])) ws with | [v]=>v|l => .tuple l) (h1.pick (reach h1 256 (List.range h0.length++V.r6 ws) []))=some q →
   ∃v h' c',WF w h' c'∧Ext w0 h0 c0 w h' c'∧dz w h' c' v (if h:ds.length=1 then ds[0]else .tuple ds.toArray)∧k v h'=some q:=by
  intro ws h1 wf1 r1 x1 hk
  obtain ⟨g1,g2⟩:=JO h1 (m:=h0.length) (n:=256) (by omega) (V.r6 ws)
  have rr:=Ge (ord:=reach h1 256 (List.range h0.length++V.r6 ws) []) r1
  refine ⟨_,_,_,HK wf1 g1,Q8 x1 g2,?_,hk⟩
  have hlen:=rr.1
  generalize V.xh (xd (reach h1 256 (List.range h0.length++V.r6 ws) [])) ws=us at rr hlen
  split
  ·rename_i v
   have h1:ds.length=1:=by simpa using hlen.symm
   rw[dif_pos h1]
   exact rr.2 0 v _ rfl (List.getElem?_eq_getElem _)
  ·rename_i jc
   have h1:¬ds.length=1:=fun e=>by
    rw[e]at hlen
    match us,hlen with
    | [v],_=>exact jc v rfl
   rw[dif_neg h1]
   exact .tuple (by simpa using hlen) fun j v d hv hd=>rr.2 j v d hv (by simpa using hd)
 cases uM with
 | true=>exact main vs h wf r x hk
 | false =>
  simp only[Bool.false_eq_true,if_false]at hk
  exact main _ _ (Bs _ _ wf) (L0 ts _ ds hts (N8 wf r)) (x.trans (zQ _ _)) hk

theorem SW (T:vS P tt) (hm:P.follows .mixedOrders=true) {E:Env R} (hE:R4 P E) {L:Nat→Option (Hint × eJ R)} {g:Nat} {fn:Func} {code:Code} {uM:Bool} (hf:P.funcs[g]? = some fn) (hb:fn.body=some code)
  (hn:(fn.name == "runtime.NumGoroutine")=false) (hr:fn.results.size=fn.resultTypes.size) (m:Nat) (hl:∀a∈br code,lM tt E L m a):Spec.XQ P g m (funK tt E L uM fn code):=by
 refine Spec.XQ.of_body hf hn (by rw[hb]; rfl) fun vs h k r hml hk w c args wf ra => ?_
 subst hml
 refine calls_of_wp hf hb ?_
 unfold funK at hk
 split at hk
 ·cases hk
 rename_i h200
 have hlen:h.length≤200:=by omega
 have hfr:cy w h c (vs++List.replicate (fn.ntmps - vs.length) .undef) (args++Array.replicate (fn.ntmps - args.size) undef).toList:=by
  have e:vs.length=args.size:=by simpa using ra.1
  rw[e]
  simpa using ra.append (cy.J7 (fn.ntmps - args.size) undef)
 refine my T hm hE (w0:=w) (h0:=h) (c0:=c) (D := []) hlen code hl _ _ _ _ w c ⟨⟨wf,hfr⟩, .refl _ _ _,rfl⟩ hk fun e st a w' c' at' qA => ?_
 have fin:Qp tt st fn.results.toList (fun vs=>KJ tt fn.resultTypes.toList h.length uM vs st.hp k)=some r →
   a.defers = []∧∃v,(results fn a.tmps).run P w' = .ok v w'∧∃d,Ending.returned v=Ending.returned d∧∃u h' c',WF w' h' c'∧Ext w h c w' h' c'∧dz w' h' c' u d∧k u h'=some r:=by
  intro hk
  obtain ⟨vs,ds,g1,g2,g3,g4⟩:=GS T at'.gZ _ hk
  obtain ⟨u,h',c2,k1,k2,k3,k4⟩:=Nt at'.gZ.wf g2 at'.ext hlen (by simp[g3,hr]) g1
  refine ⟨at'.defers,_,?_,_,rfl,u,h',c2,k1,k2,k3,k4⟩
  unfold results
  simp only[Sem.run_bind,Array.mapM_eq_mapM_toList,map_eq_pure_bind,Sem.run_pure]
  refine (congrArg (fun z:Result (List Value)=>(z.andThen fun a w'=>Result.ok a.toArray w').andThen fun a w'=>Result.ok (if h:a.size=1 then a[0]else Value.tuple a) w') g4).trans ?_
  simp
 cases e with
 | normal=>exact fin qA
 | ret=>exact fin qA
 | exit i=>cases qA
 | goto l=>cases qA
end

inductive eR where
 | undef|eI|cM|aT|nS|dv|iface
 | GC (t:Nat) (k:IntKind) (n:Int)
 | int (k:IntKind)|bool|str
 | ptr (i o:Nat)
 | sl (T:Ty)|M8 (T:Ty) (i:Nat)
 | row (i:Nat)
 | map (i:Nat)
 | fn (f:Nat)
 deriving DecidableEq

def eR.den:eR→Type
 | .int _=>Int
 | .bool=>Bool
 | .str=>aj
 | .sl T=>List T.den
 | .M8 T _=>List T.den
 | .row _=>Nat
 | _=>Unit

def eR.enc:(p:eR)→p.den→V
 | .undef,_ => .undef
 | .eI,_ => .eI
 | .cM,_ => .cM
 | .aT,_ => .aT
 | .nS,_ => .nS
 | .dv,_ => .dv
 | .iface,_ => .iface
 | .GC t k n,_ => .GC t k n
 | .int k,(n:Int) => .int k n
 | .bool,(b:Bool) => .bool b
 | .str,(s:aj) => .str s
 | .ptr i o,_ => .ptr i o
 | .sl T,(l:List T.den) => .sl T l .no
 | .M8 T i,(l:List T.den) => .sl T l (.own i)
 | .row i,(n:Nat) => .row i n
 | .map i,_ => .map i
 | .fn f,_ => .func f [] []

def X8 (k:IntKind):V→Option Int | .int k' n=>if k'=k then some n else none|_=>none
def X9:V→Option Bool | .bool b=>some b|_=>none
def Ya:V→Option aj | .str s=>some s|_=>none
def Yb (T:Ty):V→Option (List T.den) | .sl T' l .no=>if h:T'=T then some (h▸l)else none|_=>none
def Yc (T:Ty) (i:Nat):V→Option (List T.den) | .sl T' l (.own j)=>if h:T'=T then (if j=i then some (h▸l)else none)else none|_=>none
def Yd (i:Nat):V→Option Nat | .row j n=>if j=i then some n else none|_=>none
def Ye (i o:Nat):V→Option Unit | .ptr j q=>if j=i∧q=o then some ()else none|_=>none
def Yf (i:Nat):V→Option Unit | .map j=>if j=i then some ()else none|_=>none
def Yg (f:Nat):V→Option Unit | .func g [] []=>if g=f then some ()else none|_=>none
def Yh:V→Option Unit | .undef=>some ()|_=>none
def Yi:V→Option Unit | .eI=>some ()|_=>none
def Yj:V→Option Unit | .cM=>some ()|_=>none
def Yk:V→Option Unit | .aT=>some ()|_=>none
def Yl:V→Option Unit | .nS=>some ()|_=>none
def Ym:V→Option Unit | .dv=>some ()|_=>none
def Yn:V→Option Unit | .iface=>some ()|_=>none
def Yo (t:Nat) (k:IntKind) (n:Int):V→Option Unit | .GC t' k' n'=>if t'=t∧k'=k∧n'=n then some ()else none|_=>none

theorem Yp {k:IntKind} {v:V} {x:Int} (h:X8 k v=some x):v = .int k x:=by
 unfold X8 at h
 split at h
 ·split at h
  ·rename_i e; subst e; cases h; rfl
  ·cases h
 ·cases h
theorem Yq {v:V} {x:Bool} (h:X9 v=some x):v = .bool x:=by unfold X9 at h; split at h <;> first|(cases h; rfl)|cases h
theorem Yr {v:V} {x:aj} (h:Ya v=some x):v = .str x:=by unfold Ya at h; split at h <;> first|(cases h; rfl)|cases h
theorem Ys {T:Ty} {v:V} {x:List T.den} (h:Yb T v=some x):v = .sl T x .no:=by
 unfold Yb at h
 split at h
 ·split at h
  ·rename_i e; subst e; cases h; rfl
  ·cases h
 ·cases h
theorem Yt {T:Ty} {i:Nat} {v:V} {x:List T.den} (h:Yc T i v=some x):v = .sl T x (.own i):=by
 unfold Yc at h
 split at h
 ·split at h
  ·rename_i e
   subst e
   split at h
   ·rename_i e; subst e; cases h; rfl
   ·cases h
  ·cases h
 ·cases h
theorem Yu {i:Nat} {v:V} {x:Nat} (h:Yd i v=some x):v = .row i x:=by
 unfold Yd at h
 split at h
 ·split at h
  ·rename_i e; subst e; cases h; rfl
  ·cases h
 ·cases h
theorem Yv {i o:Nat} {v:V} {x:Unit} (h:Ye i o v=some x):v = .ptr i o:=by
 unfold Ye at h
 split at h
 ·split at h
  ·rename_i e; obtain ⟨rfl,rfl⟩:=e; rfl
  ·cases h
 ·cases h
theorem Yw {i:Nat} {v:V} {x:Unit} (h:Yf i v=some x):v = .map i:=by
 unfold Yf at h
 split at h
 ·split at h
  ·rename_i e; subst e; rfl
  ·cases h
 ·cases h
theorem Yx {f:Nat} {v:V} {x:Unit} (h:Yg f v=some x):v = .func f [] []:=by
 unfold Yg at h
 split at h
 ·split at h
  ·rename_i e; subst e; rfl
  ·cases h
 ·cases h
theorem Yy {v:V} {x:Unit} (h:Yh v=some x):v = .undef:=by unfold Yh at h; split at h <;> first|rfl|cases h
theorem Yz {v:V} {x:Unit} (h:Yi v=some x):v = .eI:=by unfold Yi at h; split at h <;> first|rfl|cases h
theorem YA {v:V} {x:Unit} (h:Yj v=some x):v = .cM:=by unfold Yj at h; split at h <;> first|rfl|cases h
theorem YB {v:V} {x:Unit} (h:Yk v=some x):v = .aT:=by unfold Yk at h; split at h <;> first|rfl|cases h
theorem YC {v:V} {x:Unit} (h:Yl v=some x):v = .nS:=by unfold Yl at h; split at h <;> first|rfl|cases h
theorem YD {v:V} {x:Unit} (h:Yn v=some x):v = .iface:=by unfold Yn at h; split at h <;> first|rfl|cases h
theorem YE {t:Nat} {k:IntKind} {n:Int} {v:V} {x:Unit} (h:Yo t k n v=some x):v = .GC t k n:=by
 unfold Yo at h
 split at h
 ·split at h
  ·rename_i e; obtain ⟨rfl,rfl,rfl⟩:=e; rfl
  ·cases h
 ·cases h
theorem YF {v:V} {x:Unit} (h:Ym v=some x):v = .dv:=by unfold Ym at h; split at h <;> first|rfl|cases h

def eR.dec:(p:eR)→V→Option p.den
 | .undef=>Yh
 | .eI=>Yi
 | .cM=>Yj
 | .aT=>Yk
 | .nS=>Yl
 | .dv=>Ym
 | .iface=>Yn
 | .GC t k n=>Yo t k n
 | .int k=>X8 k
 | .bool=>X9
 | .str=>Ya
 | .ptr i o=>Ye i o
 | .sl T=>Yb T
 | .M8 T i=>Yc T i
 | .row i=>Yd i
 | .map i=>Yf i
 | .fn f=>Yg f

theorem eR.GU (p:eR) {v:V} {x:p.den} (h:p.dec v=some x):v=p.enc x:=by
 cases p
 ·exact Yy h
 ·exact Yz h
 ·exact YA h
 ·exact YB h
 ·exact YC h
 ·exact YF h
 ·exact YD h
 ·exact YE h
 ·exact Yp h
 ·exact Yq h
 ·exact Yr h
 ·exact Yv h
 ·exact Ys h
 ·exact Yt h
 ·exact Yu h
 ·exact Yw h
 ·exact Yx h

def eR.aH:List eR→Type
 | []=>Unit
 | p::ps=>p.den × eR.aH ps
def eR.cz:(ps:List eR)→eR.aH ps→List V
 | [],_ => []
 | p::ps,(x:p.den × eR.aH ps)=>p.enc x.1::eR.cz ps x.2
def both {α β:Type}:Option α→Option β→Option (α × β)
 | some x,some y=>some (x,y)
 | _,_=>none
theorem KQ {α β:Type} {a:Option α} {b:Option β} {z:α × β} (h:both a b=some z):a=some z.1∧b=some z.2:=by
 cases a <;> cases b <;> cases h
 exact ⟨rfl,rfl⟩
def eR.CW:(ps:List eR)→List V→Option (eR.aH ps)
 | [], []=>some ()
 | [],_::_=>none
 | _::_, []=>none
 | p::ps,v::vs=>both (p.dec v) (eR.CW ps vs)
theorem eR.sH:∀(ps:List eR) {vs:List V} {x:eR.aH ps},eR.CW ps vs=some x→vs=eR.cz ps x
 | [], [],_,_=>rfl
 | [],_::_,_,h=>by cases h
 | _::_, [],_,h=>by cases h
 | p::ps,v::vs,x,h=>by
  obtain ⟨h1,h2⟩:=KQ (a:=p.dec v) (b:=eR.CW ps vs) h
  show v::vs=p.enc x.1::eR.cz ps x.2
  rw[←eR.GU p h1,←eR.sH ps h2]

inductive ck where
 | leaf (l:eR)
 | agg (ps:List eR)
 | func (f:Nat) (a b:List eR)

def ck.den:ck→Type
 | .leaf l=>l.den
 | .agg ps=>eR.aH ps
 | .func _ a b=>eR.aH a × eR.aH b
def ck.enc:(p:ck)→p.den→V
 | .leaf l,x=>l.enc x
 | .agg ps,x => .agg (eR.cz ps x)
 | .func f a b,(x:eR.aH a × eR.aH b) => .func f (eR.cz a x.1) (eR.cz b x.2)
def YG (ps:List eR):V→Option (eR.aH ps) | .agg cs=>eR.CW ps cs|_=>none
def SX (f:Nat) (a b:List eR):V→Option (eR.aH a × eR.aH b) | .func g x y=>if g=f then both (eR.CW a x) (eR.CW b y)else none|_=>none
def ck.dec:(p:ck)→V→Option p.den
 | .leaf l=>l.dec
 | .agg ps=>YG ps
 | .func f a b=>SX f a b
theorem ck.GU (p:ck) {v:V} {x:p.den} (h:p.dec v=some x):v=p.enc x:=by
 cases p with
 | leaf l=>exact eR.GU l h
 | agg ps =>
  replace h:YG ps v=some x:=h
  unfold YG at h
  split at h
  ·rename_i cs
   show V.agg cs = .agg (eR.cz ps x)
   rw[←eR.sH ps h]
  ·cases h
 | func f a b =>
  replace h:SX f a b v=some x:=h
  unfold SX at h
  split at h
  ·split at h
   ·rename_i e
    subst e
    obtain ⟨h1,h2⟩:=KQ h
    rename_i g p q
    show V.func g p q = .func g (eR.cz a x.1) (eR.cz b x.2)
    rw[←eR.sH a h1,←eR.sH b h2]
   ·cases h
  ·cases h
def ck.aH:List ck→Type
 | []=>Unit
 | p::ps=>p.den × ck.aH ps
def ck.cz:(ps:List ck)→ck.aH ps→List V
 | [],_ => []
 | p::ps,(x:p.den × ck.aH ps)=>p.enc x.1::ck.cz ps x.2
def ck.CW:(ps:List ck)→List V→Option (ck.aH ps)
 | [], []=>some ()
 | [],_::_=>none
 | _::_, []=>none
 | p::ps,v::vs=>both (p.dec v) (ck.CW ps vs)
theorem ck.sH:∀(ps:List ck) {vs:List V} {x:ck.aH ps},ck.CW ps vs=some x→vs=ck.cz ps x
 | [], [],_,_=>rfl
 | [],_::_,_,h=>by cases h
 | _::_, [],_,h=>by cases h
 | p::ps,v::vs,x,h=>by
  obtain ⟨h1,h2⟩:=KQ (a:=p.dec v) (b:=ck.CW ps vs) h
  show v::vs=p.enc x.1::ck.cz ps x.2
  rw[←ck.GU p h1,←ck.sH ps h2]

inductive aN where
 | free|dead|tok|iter
 | cells (ps:List eR)
 | row (T:Ty)
 | lW (p:eR)
 | uO (K T:Ty)

def aN.den:aN→Type
 | .cells ps=>eR.aH ps
 | .row T=>List T.den
 | .lW p=>p.den
 | .uO K T=>List (K.den × T.den)
 | .iter=>aj × Nat
 | _=>Unit
def aN.enc:(p:aN)→p.den→bO
 | .free,_ => .free
 | .dead,_ => .dead
 | .tok,_ => .tok
 | .iter,x => .iter (Prod.fst (α:=aj) (β:=Nat) x) (Prod.snd (α:=aj) (β:=Nat) x)
 | .cells ps,x => .cells (eR.cz ps x)
 | .row T,x => .row T x
 | .lW p,x => .lW (p.enc x)
 | .uO K T,x => .uO K T x
def YH (p:eR):bO→Option p.den | .lW v=>p.dec v|_=>none
def YI (ps:List eR):bO→Option (eR.aH ps) | .cells cs=>eR.CW ps cs|_=>none
def YJ (T:Ty):bO→Option (List T.den) | .row T' l=>if h:T'=T then some (h▸l)else none|_=>none
def YK (K T:Ty):bO→Option (List (K.den × T.den)) | .uO K' T' l=>if h:K'=K∧T'=T then some (h.1▸h.2▸l)else none|_=>none
def YL:bO→Option Unit | .free=>some ()|_=>none
def YM:bO→Option Unit | .dead=>some ()|_=>none
def YN:bO→Option (aj × Nat) | .iter s p=>some (s,p)|_=>none
def YO:bO→Option Unit | .tok=>some ()|_=>none
def aN.dec:(p:aN)→bO→Option p.den
 | .free=>YL
 | .dead=>YM
 | .tok=>YO
 | .iter=>YN
 | .cells ps=>YI ps
 | .row T=>YJ T
 | .lW p=>YH p
 | .uO K T=>YK K T
theorem aN.GU (p:aN) {o:bO} {x:p.den} (h:p.dec o=some x):o=p.enc x:=by
 cases p with
 | free=>replace h:YL o=some x:=h; unfold YL at h; split at h <;> first|rfl|cases h
 | dead=>replace h:YM o=some x:=h; unfold YM at h; split at h <;> first|rfl|cases h
 | tok=>replace h:YO o=some x:=h; unfold YO at h; split at h <;> first|rfl|cases h
 | iter=>replace h:YN o=some x:=h; unfold YN at h; split at h <;> first|(cases h; rfl)|cases h
 | cells ps =>
  replace h:YI ps o=some x:=h
  unfold YI at h
  split at h
  ·rename_i cs
   show bO.cells cs = .cells (eR.cz ps x)
   rw[←eR.sH ps h]
  ·cases h
 | lW p =>
  replace h:YH p o=some x:=h
  unfold YH at h
  split at h
  ·rename_i v
   show bO.lW v = .lW (p.enc x)
   rw[←eR.GU p h]
  ·cases h
 | uO K T =>
  replace h:YK K T o=some x:=h
  unfold YK at h
  split at h
  ·split at h
   ·rename_i e; obtain ⟨rfl,rfl⟩:=e; cases h; rfl
   ·cases h
  ·cases h
 | row T =>
  replace h:YJ T o=some x:=h
  unfold YJ at h
  split at h
  ·split at h
   ·rename_i e; subst e; cases h; rfl
   ·cases h
  ·cases h
def aN.aH:List aN→Type
 | []=>Unit
 | p::ps=>p.den × aN.aH ps
def aN.cz:(ps:List aN)→aN.aH ps→aG
 | [],_ => []
 | p::ps,(x:p.den × aN.aH ps)=>p.enc x.1::aN.cz ps x.2
def aN.CW:(ps:List aN)→List bO→Option (aN.aH ps)
 | [], []=>some ()
 | [],_::_=>none
 | _::_, []=>none
 | p::ps,v::vs=>both (p.dec v) (aN.CW ps vs)
theorem aN.sH:∀(ps:List aN) {vs:List bO} {x:aN.aH ps},aN.CW ps vs=some x→vs=aN.cz ps x
 | [], [],_,_=>rfl
 | [],_::_,_,h=>by cases h
 | _::_, [],_,h=>by cases h
 | p::ps,v::vs,x,h=>by
  obtain ⟨h1,h2⟩:=KQ (a:=p.dec v) (b:=aN.CW ps vs) h
  show v::vs=p.enc x.1::aN.cz ps x.2
  rw[←aN.GU p h1,←aN.sH ps h2]

theorem aN.Rd:∀(ps:List aN) (x:aN.aH ps),(aN.cz ps x).length=ps.length
 | [],_=>rfl
 | p::ps,x=>by
  show (p.enc x.1::aN.cz ps x.2).length=_
  simp[aN.Rd ps]

section
variable {R:Type} {P:Program} {tt:dA}

def bj (ps:List ck) (hs:List aN) (run:ck.aH ps→aN.aH hs→(V→aG→Option R)→Option R) (other:Spec R):Spec R:=fun args h k =>
 match ck.CW ps args,aN.CW hs h with
 | some x,some y=>run x y k
 | _,_=>other args h k

def aZ:Spec R:=fun _ _ _=>none

theorem aK (g:Nat):Spec.Ok P g (aZ:Spec R):=by intro vs h k r hk; cases hk

theorem V4 {g:Nat} {ps:List ck} {hs:List aN} {run:ck.aH ps→aN.aH hs→(V→aG→Option R)→Option R} {other own:Spec R} (ho:Spec.Ok P g other) (hw:Spec.XQ P g hs.length own)
  (hr:∀x y k,own (ck.cz ps x) (aN.cz hs y) k=run x y k):Spec.Ok P g (bj ps hs run other):=by
 intro vs h k r hk
 unfold bj at hk
 split at hk
 ·rename_i x y h1 h2
  rw[ck.sH ps h1,aN.sH hs h2]
  rw[←hr]at hk
  exact hw _ _ _ _ (aN.Rd hs y) hk
 ·exact ho _ _ _ _ hk

def fQ (ps:List ck) (hs:List aN) (run:ck.aH ps→aN.aH hs→(Ex→St→Option R)→Option R) (other:eJ R):eJ R:=fun st K =>
 match ck.CW ps st.fr,aN.CW hs st.hp with
 | some x,some y=>run x y K
 | _,_=>other st K

def pr:eJ R:=fun _ _=>none

def oa (tt:dA) (E:Env R) (L:Nat→Option (Hint × eJ R)) (m:Nat) (a:Code) (hint:Hint) (ls:eJ R):Prop :=
 ∀st (K:Ex→St→Option R) r,ls st K=some r→∃n,Bn (jV tt E L m a) (norm m hint) n st (fun e st=>K e (trim m hint st))=some r

theorem ia {E:Env R} {L:Nat→Option (Hint × eJ R)} {m:Nat} {a:Code} {hint:Hint}:oa tt E L m a hint pr:=by intro st K r hk; cases hk

theorem V5 {E:Env R} {L:Nat→Option (Hint × eJ R)} {m:Nat} {a:Code} {hint:Hint} {ps:List ck} {hs:List aN} {run:ck.aH ps→aN.aH hs→(Ex→St→Option R)→Option R} {other:eJ R} (ho:oa tt E L m a hint other)
  (hr:∀x y K,∃n,Bn (jV tt E L m a) (norm m hint) n ⟨ck.cz ps x,aN.cz hs y⟩ (fun e st=>K e (trim m hint st))=run x y K):oa tt E L m a hint (fQ ps hs run other):=by
 intro st K r hk
 obtain ⟨fr,hp⟩:=st
 unfold fQ at hk
 simp only at hk
 split at hk
 ·rename_i x y h1 h2
  rw[ck.sH ps h1,aN.sH hs h2]
  obtain ⟨n,hn⟩:=hr x y K
  exact ⟨n,by rw[hn]; exact hk⟩
 ·exact ho _ _ _ hk

def bb (f:Func):Code:=f.body.getD .skip

theorem kZ {E:Env R} {L:Nat→Option (Hint × eJ R)} {m:Nat} {l:List Code} (n:Nat) (hn:l.length=n) (h:∀i,i<n→lM tt E L m (l.getD i .skip)):∀a∈l,lM tt E L m a:=by
 intro a ha
 obtain ⟨i,hi,rfl⟩:=List.mem_iff_getElem.1 ha
 have:=h i (by omega)
 simpa [List.getD,List.getElem?_eq_getElem hi]using this

theorem fm {E:Env R} {L:Nat→Option (Hint × eJ R)} {m:Nat} {a:Code} {hint:Hint} {ls:eJ R} (h:L (keyOf a)=some (hint,ls)) (hs:oa tt E L m a hint ls):lM tt E L m a:=by
 intro hint' ls' hl
 rw[h]at hl
 cases hl
 exact hs

def roundOf (tt:dA) (E:Env R) (L:Nat→Option (Hint × eJ R)) (m:Nat) (a:Code) (hint:Hint) (st:St) (fC:St→Option R) (K:Ex→St→Option R):Option R :=
 jV tt E L m a st fun e sE=>match e with | .normal=>fC (norm m hint sE)|e=>K e (trim m hint sE)

theorem SY {E:Env R} {L:Nat→Option (Hint × eJ R)} {m:Nat} {a:Code} {hint:Hint} {n:Nat} {st:St} {K:Ex→St→Option R} :
  Bn (jV tt E L m a) (norm m hint) (n+1) st (fun e st=>K e (trim m hint st))=roundOf tt E L m a hint st (fun st=>Bn (jV tt E L m a) (norm m hint) n st (fun e st=>K e (trim m hint st))) K:=by
 unfold roundOf
 simp only[Bn]
 congr 1
end

section
variable {P:Program} {tt:dA} {w:World} {h:aG} {c:js}

theorem Re:∀l:List Value,cy w h c (l.map ofConst) l
 | [] => .nil
 | v::l => .cons (JF v) (Re l)

def zeroOf (i:TypeInfo):Option (Nat × List V × Bool):=i.zero.map fun z=>(z.cells.size,z.cells.toList.map ofConst,z.oneCell')

def ay (P:Program) (tt:dA) (t:Nat):Prop :=
 ∃i,P.info? t=some i∧i.size=(tt.at t).size∧i.bytes=(tt.at t).bytes∧zeroOf i=some ((tt.at t).size,(tt.at t).zero, !tt.isAgg t)

theorem ay.spec {t:Nat} (h:ay P tt t):∃i z,P.info? t=some i∧i.size=(tt.at t).size∧i.bytes=(tt.at t).bytes∧i.zero=some z∧z.cells.size=i.size ∧
  ∀(w:World) (h:aG) (c:js),cy w h c (tt.at t).zero z.cells.toList:=by
 obtain ⟨i,h1,h2,h3,h4⟩:=h
 unfold zeroOf at h4
 cases hz:i.zero with
 | none=>rw[hz]at h4; cases h4
 | some z =>
  rw[hz]at h4
  simp only[Option.map_some,Option.some.injEq,Prod.mk.injEq]at h4
  refine ⟨i,z,h1,h2,h3,hz,by rw[h4.1,h2],fun w h c => ?_⟩
  rw[←h4.2.1]
  exact Re _

theorem ay.one {t:Nat} (h:ay P tt t):∀i z,P.info? t=some i→i.zero=some z→z.oneCell' = !tt.isAgg t:=by
 intro i z hi hz
 obtain ⟨j,h1,h2,h3,h4⟩:=h
 rw[hi]at h1; cases h1
 unfold zeroOf at h4
 rw[hz]at h4
 simp only[Option.map_some,Option.some.injEq,Prod.mk.injEq]at h4
 exact h4.2.2

theorem u8s_of (h:(List.range tt.length).all (fun e=>match (tt.at e).ty with|some (.int .u8)=>Nat.beq e nR.u8|_=>true)=true):∀e,(tt.at e).ty=some (.int .u8)→e=nR.u8:=by
 intro e he
 by_cases hl:e<tt.length
 ·have:=List.all_eq_true.1 h e (by simpa using hl)
  rw[he]at this
  exact Nat.eq_of_beq_eq_true this
 ·have:tt.at e=TI.none:=by unfold dA.at; simp[List.getD,List.getElem?_eq_none (Nat.le_of_not_lt hl)]
  rw[this]at he; cases he

def bldOk (tt:dA) (t:Nat):Bool:=Nat.beq t nR.lW&&tt.ok t&&(match (tt.at t).zero with | [.eI, .cM]=>true|_=>false)
theorem blds_of (h:(List.range tt.length).all (fun t=>bif (tt.at t).lW then bldOk tt t else true)=true):∀t,(tt.at t).lW=true→t=nR.lW∧(tt.at t).zero = [.eI, .cM]∧tt.ok t=true:=by
 intro t ht
 by_cases hl:t<tt.length
 ·have:=List.all_eq_true.1 h t (by simpa using hl)
  rw[ht]at this
  simp only[cond_true,bldOk,Bool.and_eq_true]at this
  obtain ⟨⟨h1,h2⟩,h3⟩:=this
  refine ⟨Nat.eq_of_beq_eq_true h1,?_,h2⟩
  split at h3
  ·assumption
  ·cases h3
 ·have:tt.at t=TI.none:=by unfold dA.at; simp[List.getD,List.getElem?_eq_none (Nat.le_of_not_lt hl)]
  rw[this]at ht; cases ht

theorem PA {n t:Nat} (hn:tt.length=n) (ht:n≤t):tt.at t=TI.none:=by
 unfold dA.at
 rw[List.getD,List.getElem?_eq_none (by omega)]
 rfl

theorem YP {n t:Nat} (hn:tt.length=n) (ht:n≤t):(tt.at t).d.Is P t:=by rw[PA hn ht]; trivial
theorem ok_past {n t:Nat} (hn:tt.length=n) (ht:n≤t) (h:tt.ok t=true):False:=by
 unfold dA.ok at h
 rw[PA hn ht]at h
 cases h
theorem eq_past {n t:Nat} (hn:tt.length=n) (ht:n≤t) (h:(tt.at t).eq=true):False:=by
 rw[PA hn ht]at h
 cases h
end

section
variable {P:Program} {tt:dA} {w:World} {h:aG} {c:js}

def SZ (P:Program) (ty:TypeId) (z:V):Prop :=
  (∃k n,z = .int k n∧P.underlying ty=some (.int k))∨(∃s,z = .str s∧P.underlying ty=some .string)∨(∃b,z = .bool b∧P.underlying ty=some .bool)

theorem FD {ty:TypeId} {z:V} (s:SZ P ty z) {xs:Array Value} {j:Nat} {x:Value} (hx:xs[j]? = some x):(part ty xs j).run P w = .ok x w:=by
  rcases s with ⟨k,n,_,hu⟩|⟨n,_,hu⟩|⟨n,_,hu⟩ <;> simp[part,Go.isAgg,run_underlying hu,hx]

theorem eqF (d:Nat) (xs ys:Array Value):∀(fs:List Field) (zs cs ds:List V) (j:Nat) (b:Bool),(∀i f z,fs[i]? = some f→zs[i]? = some z→f.name ≠ "_" ∧ f.offset=j+i∧SZ P f.type z)→fs.length=zs.length →
    fa zs cs=true→fa zs ds=true→lB cs ds=some b→(∀i v,cs[i]? = some v→∃x,xs[j+i]? = some x∧dz w h c v x)→(∀i v,ds[i]? = some v→∃x,ys[j+i]? = some x∧dz w h c v x) →
    (Op.eqFields (d+1) xs ys fs).run P w = .ok b w
  | [],zs,cs,ds,j,b,_,hl,hc,hd,he,_,_=>by
    have:zs = []:=List.eq_nil_of_length_eq_zero hl.symm
    subst this
    cases cs with
    | cons=>cases hc
    | nil =>
      cases ds with
      | cons=>cases hd
      | nil=>cases he; simp[Op.eqFields]
  | f::fs, [],_,_,_,_,_,hl,_,_,_,_,_=>by cases hl
  | f::fs,z::zs,cs,ds,j,b,hf,hl,hc,hd,he,hx,hy=>by
    obtain ⟨h1,h2,h3⟩:=hf 0 f z rfl rfl
    have VA:∀i g y,fs[i]? = some g→zs[i]? = some y→g.name ≠ "_" ∧ g.offset=(j+1)+i∧SZ P g.type y:=fun i g y hg hy=>by
      have:=hf (i+1) g y (by simpa using hg) (by simpa using hy)
      exact ⟨this.1,by omega,this.2.2⟩
    have W9:fs.length=zs.length:=by simpa using hl
    cases cs with
    | nil=>cases z <;> cases hc
    | cons c0 cs =>
      cases ds with
      | nil=>cases z <;> cases hd
      | cons d0 ds =>
        obtain ⟨x,hx0,rx⟩:=hx 0 c0 rfl
        obtain ⟨y,hy0,ry⟩:=hy 0 d0 rfl
        have Q9:∀i v,cs[i]? = some v→∃x,xs[(j+1)+i]? = some x∧dz w h c v x:=fun i v hv=>by
          obtain ⟨x,q1,q2⟩:=hx (i+1) v (by simpa using hv)
          exact ⟨x,by rw[←q1]; congr 1; omega,q2⟩
        have hy':∀i v,ds[i]? = some v→∃x,ys[(j+1)+i]? = some x∧dz w h c v x:=fun i v hv=>by
          obtain ⟨x,q1,q2⟩:=hy (i+1) v (by simpa using hv)
          exact ⟨x,by rw[←q1]; congr 1; omega,q2⟩
        have p1:=FD (w:=w) h3 hx0
        have p2:=FD (w:=w) h3 hy0
        have fin:∀(r:Bool),(Op.equalIn (d+1) f.type x y).run P w = .ok r w→∀b',lB cs ds=some b'→fa zs cs=true→fa zs ds=true→b=(r&&b')→(Op.eqFields (d+1) xs ys (f::fs)).run P w = .ok b w:=by
          intro r hr b' oH kc kd hb
          subst hb
          have ih:=eqF d xs ys fs zs cs ds (j+1) b' VA W9 kc kd oH Q9 hy'
          simp only[Op.eqFields,h1,ne_eq,not_false_eq_true,if_true,Sem.run_bind,h2,Nat.add_zero,p1,p2,Result.andThen_ok,hr]
          simp only[Nat.add_zero]at p1 p2
          simp only[p1,p2,Result.andThen_ok,hr]
          cases r with
          | true=>simpa using ih
          | false=>simp
        rcases h3 with ⟨k,n,rfl,hu⟩|⟨s,rfl,hu⟩|⟨q,rfl,hu⟩
        · cases c0 with
          | int k1 n1 =>
            cases d0 with
            | int k2 n2 =>
              simp only[fa,Bool.and_eq_true,decide_eq_true_eq]at hc hd
              obtain ⟨rfl,hc⟩:=hc
              obtain ⟨rfl,hd⟩:=hd
              cases rx
              cases ry
              simp only[lB,if_true]at he
              split at he
              · rename_i b' oH
                cases he
                exact fin _ (run_equalIn_int w d _ _ _ _ _ hu) b' oH hc hd rfl
              · cases he
            | _=>simp[fa]at hd
          | _=>simp[fa]at hc
        · cases c0 with
          | str s1 =>
            cases d0 with
            | str s2 =>
              simp only[fa]at hc hd
              cases rx
              cases ry
              simp only[lB]at he
              split at he
              · rename_i b' oH
                cases he
                refine fin _ (run_equalIn_string w d _ _ _ hu) b' oH hc hd ?_
                congr 1
                simp only[ByteArray.toList_eq]
              · cases he
            | _=>simp[fa]at hd
          | _=>simp[fa]at hc
        · cases c0 with
          | bool s1 =>
            cases d0 with
            | bool s2 =>
              simp only[fa]at hc hd
              cases rx
              cases ry
              simp only[lB]at he
              split at he
              · rename_i b' oH
                cases he
                exact fin _ (run_equalIn_bool' w d _ _ _ hu) b' oH hc hd rfl
              · cases he
            | _=>simp[fa]at hd
          | _=>simp[fa]at hc

def FlatT (P:Program) (ty:TypeId) (g:List V):Prop :=
  P.underlying ty=some (.struct (P.fieldsOf ty))∧P.stoodInHeld ty=false∧(∃i,P.info? ty=some i)∧P.cellsOf ty=g.length∧(P.fieldsOf ty).toList.length=g.length ∧
    ∀i f z,(P.fieldsOf ty).toList[i]? = some f→g[i]? = some z→f.name ≠ "_" ∧ f.offset=0+i∧SZ P f.type z

def PB (P:Program):List Field→List (List V)→Nat→Prop
  | [], [],_=>True
  | f::fs,g::gs,j=>f.name ≠ "_" ∧ f.offset=j∧((∃z,g = [z]∧SZ P f.type z)∨FlatT P f.type g)∧PB P fs gs (j+g.length)
  | _,_,_=>False

theorem EC:∀ {zs cs:List V},fa zs cs=true→cs.length=zs.length
  | [], [],_=>rfl
  | [],_::_,h=>by cases h
  | z::_, [],h=>by cases z <;> cases h
  | z::zs,c::cs,h=>by
    have:fa zs cs=true:=by
      cases z <;> cases c <;> simp[fa]at h
      · exact h.2
      · exact h
      · exact h
    simp[EC this]

theorem BJ:∀ {g zs cs:List V},fa (g++zs) cs=true→fa g (cs.take g.length)=true∧fa zs (cs.drop g.length)=true
  | [],zs,cs,h=>by simpa [fa]using h
  | z::g,zs, [],h=>by cases z <;> cases h
  | z::g,zs,c::cs,h=>by
    have key:fa (g++zs) cs=true:=by
      cases z <;> cases c <;> simp[fa]at h
      · exact h.2
      · exact h
      · exact h
    obtain ⟨h1,h2⟩:=BJ key
    refine ⟨?_,by simpa using h2⟩
    simp only[List.length_cons,List.take_succ_cons]
    cases z <;> cases c <;> simp[fa]at h ⊢
    · exact ⟨h.1,h1⟩
    · exact h1
    · exact h1

theorem yf:∀(n:Nat) {cs ds:List V} {b:Bool},lB cs ds=some b→n≤cs.length→∃b1 b2,lB (cs.take n) (ds.take n)=some b1∧lB (cs.drop n) (ds.drop n)=some b2∧b=(b1&&b2)
  | 0,cs,ds,b,h,_=>⟨true,b,by simp[lB],by simpa using h,by simp⟩
  | n+1, [],_,_,_,hn=>by simp at hn
  | n+1,c::cs, [],b,h,_=>by cases c <;> cases h
  | n+1,c::cs,d::ds,b,h,hn=>by
    have Qb:n≤cs.length:=by simpa using hn
    simp only[List.take_succ_cons,List.drop_succ_cons]
    cases c <;> cases d <;> simp only[lB]at h ⊢ <;> try (first|cases h)
    · split at h
      · rename_i e
        rw[if_pos e]
        split at h
        · rename_i r hr
          cases h
          obtain ⟨b1,b2,h1,h2,h3⟩:=yf n hr Qb
          rw[h1]
          exact ⟨_,b2,rfl,h2,by rw[h3,Bool.and_assoc]⟩
        · cases h
      · cases h
    · split at h
      · rename_i r hr
        cases h
        obtain ⟨b1,b2,h1,h2,h3⟩:=yf n hr Qb
        rw[h1]
        exact ⟨_,b2,rfl,h2,by rw[h3,Bool.and_assoc]⟩
      · cases h
    · split at h
      · rename_i r hr
        cases h
        obtain ⟨b1,b2,h1,h2,h3⟩:=yf n hr Qb
        rw[h1]
        exact ⟨_,b2,rfl,h2,by rw[h3,Bool.and_assoc]⟩
      · cases h

theorem Of {ty:TypeId} {g:List V} (s:FlatT P ty g) {xs:Array Value} {j:Nat}:(part ty xs j).run P w = .ok (.agg (xs.extract j (j+g.length))) w:=by
  obtain ⟨h1,_,⟨i,h3⟩,h4,_⟩:=s
  have hs:(sizeOf ty).run P w = .ok g.length w:=by
    have:P.cellsOf ty=i.size:=by simp[Program.cellsOf,h3]
    rw[←h4,this]
    simp[sizeOf,typeInfo,h3]
  simp[part,Go.isAgg,run_underlying h1,hs]

theorem eqG (d:Nat) (xs ys:Array Value):∀(fs:List Field) (gs:List (List V)) (cs ds:List V) (j:Nat) (b:Bool),PB P fs gs j→fa gs.flatten cs=true→fa gs.flatten ds=true→lB cs ds=some b →
    (∀i v,cs[i]? = some v→∃x,xs[j+i]? = some x∧dz w h c v x)→(∀i v,ds[i]? = some v→∃x,ys[j+i]? = some x∧dz w h c v x)→(Op.eqFields (d+2) xs ys fs).run P w = .ok b w
  | [], [],cs,ds,j,b,_,hc,hd,he,_,_=>by
    cases cs with
    | cons=>cases hc
    | nil =>
      cases ds with
      | cons=>cases hd
      | nil=>cases he; simp[Op.eqFields]
  | [],_::_,_,_,_,_,hn,_,_,_,_,_=>by cases hn
  | _::_, [],_,_,_,_,hn,_,_,_,_,_=>by cases hn
  | f::fs,g::gs,cs,ds,j,b,hn,hc,hd,he,hx,hy=>by
    obtain ⟨n1,n2,n3,n4⟩:=hn
    rw[List.flatten_cons]at hc hd
    obtain ⟨c1,c2⟩:=BJ hc
    obtain ⟨d1,d2⟩:=BJ hd
    have lc:=EC hc
    have ld:=EC hd
    rw[List.length_append]at lc ld
    obtain ⟨b1,b2,e1,e2,rfl⟩:=yf g.length he (by omega)
    have behind:∀ {cs:List V} {xs:Array Value},(∀i v,cs[i]? = some v→∃x,xs[j+i]? = some x∧dz w h c v x)→∀i v,(cs.drop g.length)[i]? = some v→∃x,xs[(j+g.length)+i]? = some x∧dz w h c v x:=by
      intro cs xs hx i v hv
      rw[List.getElem?_drop]at hv
      obtain ⟨x,q1,q2⟩:=hx _ v hv
      exact ⟨x,by rw[←q1]; congr 1; omega,q2⟩
    have ih:=eqG d xs ys fs gs _ _ (j+g.length) b2 n4 c2 d2 e2 (behind hx) (behind hy)
    -- what the field is
    have key:∃x y,(part f.type xs j).run P w = .ok x w∧(part f.type ys j).run P w = .ok y w∧(Op.equalIn (d+2) f.type x y).run P w = .ok b1 w:=by
      rcases n3 with ⟨z,rfl,hz⟩|hF
      · -- one cell: the flat case, alone
        cases cs with
        | nil=>simp only[List.length_nil,List.length_cons]at lc; omega
        | cons c0 cs =>
          cases ds with
          | nil=>simp only[List.length_nil,List.length_cons]at ld; omega
          | cons d0 ds =>
            simp only[List.length_cons,List.length_nil,Nat.zero_add,List.take_succ_cons,List.take_zero]at c1 d1 e1
            obtain ⟨x,hx0,rx⟩:=hx 0 c0 rfl
            obtain ⟨y,hy0,ry⟩:=hy 0 d0 rfl
            rw[Nat.add_zero]at hx0 hy0
            refine ⟨x,y,FD hz hx0,FD hz hy0,?_⟩
            rcases hz with ⟨k,n,rfl,hu⟩|⟨s,rfl,hu⟩|⟨q,rfl,hu⟩
            · cases c0 <;> simp[fa]at c1
              cases d0 <;> simp[fa]at d1
              subst c1 d1
              cases rx
              cases ry
              simp only[lB,if_true,Option.some.injEq]at e1
              subst e1
              rw[Bool.and_true]
              exact run_equalIn_int w (d+1) _ _ _ _ _ hu
            · cases c0 <;> simp[fa]at c1
              cases d0 <;> simp[fa]at d1
              cases rx
              cases ry
              simp only[lB,Option.some.injEq]at e1
              subst e1
              rw[Bool.and_true]
              refine (run_equalIn_string w (d+1) f.type _ _ hu).trans ?_
              congr 1
              simp only[ByteArray.toList_eq]
            · cases c0 <;> simp[fa]at c1
              cases d0 <;> simp[fa]at d1
              cases rx
              cases ry
              simp only[lB,Option.some.injEq]at e1
              subst e1
              rw[Bool.and_true]
              exact run_equalIn_bool' w (d+1) _ _ _ hu
      · refine ⟨_,_,Of hF,Of hF,?_⟩
        obtain ⟨h1,h2,h3,h4,h5,h6⟩:=hF
        rw[run_equalIn_struct w (d+1) f.type _ _ h1 h2]
        have at0:∀ {cs:List V} {xs:Array Value},(∀i v,cs[i]? = some v→∃x,xs[j+i]? = some x∧dz w h c v x)→∀i v,(cs.take g.length)[i]? = some v→∃x,(xs.extract j (j+g.length))[0+i]? = some x∧dz w h c v x:=by
          intro cs xs hx i v hv
          have hi:i<g.length:=by
            have:=(List.getElem?_eq_some_iff.1 hv).1
            rw[List.length_take]at this
            omega
          rw[List.getElem?_take_of_lt hi]at hv
          obtain ⟨x,q1,q2⟩:=hx i v hv
          refine ⟨x,?_,q2⟩
          rw[Nat.zero_add,Array.getElem?_extract]
          have oJ:j+i<xs.size:=(Array.getElem?_eq_some_iff.1 q1).1
          rw[if_pos (by omega),q1]
        exact eqF d _ _ _ _ _ _ 0 b1 h6 h5 c1 d1 e1 (at0 hx) (at0 hy)
    obtain ⟨x,y,p1,p2,hr⟩:=key
    simp only[Op.eqFields,n1,ne_eq,not_false_eq_true,if_true,Sem.run_bind,n2,p1,p2,Result.andThen_ok,hr]
    cases b1 with
    | true=>simpa using ih
    | false=>simp

def Jf (P:Program) (tt:dA) (t:Nat):Prop :=
  P.underlying t=some (.struct (P.fieldsOf t))∧P.stoodInHeld t=false∧P.eqGuardType P.depth t=false∧∃gs,gs.flatten=(tt.at t).zero∧PB P (P.fieldsOf t).toList gs 0

def Up (P:Program) (ty:TypeId):V→Bool
  | .int k _=>(match P.underlying ty with|some (.int k')=>decide (k'=k)|_=>false)
  | .str _=>(match P.underlying ty with|some .string=>true|_=>false)
  | .bool _=>(match P.underlying ty with|some .bool=>true|_=>false)
  | _=>false

theorem L1 {ty:TypeId} {z:V} (h:Up P ty z=true):SZ P ty z:=by
  unfold Up at h
  split at h
  · split at h
    · rename_i k n _ k' hu
      have e:k'=k:=by simpa using h
      subst e
      exact .inl ⟨_,_,rfl,hu⟩
    · cases h
  · split at h
    · rename_i hu; exact .inr (.inl ⟨_,rfl,hu⟩)
    · cases h
  · split at h
    · rename_i hu; exact .inr (.inr ⟨_,rfl,hu⟩)
    · cases h
  · cases h

def Uq (P:Program):List Field→List V→Nat→Bool
  | [], [],_=>true
  | f::fs,z::zs,j=>decide (f.name ≠ "_")&&decide (f.offset=j)&&Up P f.type z&&Uq P fs zs (j+1)
  | _,_,_=>false

theorem L2:∀(fs:List Field) (zs:List V) (j:Nat),Uq P fs zs j=true→fs.length=zs.length∧∀i f z,fs[i]? = some f→zs[i]? = some z→f.name ≠ "_" ∧ f.offset=j+i∧SZ P f.type z
  | [], [],_,_=>⟨rfl,fun i f z h=>by simp at h⟩
  | [],_::_,_,h=>by cases h
  | _::_, [],_,h=>by cases h
  | f::fs,z::zs,j,h=>by
    simp only[Uq,Bool.and_eq_true,decide_eq_true_eq]at h
    obtain ⟨⟨⟨h1,h2⟩,h3⟩,h4⟩:=h
    obtain ⟨g1,g2⟩:=L2 fs zs (j+1) h4
    refine ⟨by simp[g1],fun i g y hg hy => ?_⟩
    cases i with
    | zero =>
      simp at hg hy
      subst hg; subst hy
      exact ⟨h1,h2,L1 h3⟩
    | succ i =>
      obtain ⟨q1,q2,q3⟩:=g2 i g y (by simpa using hg) (by simpa using hy)
      exact ⟨q1,by omega,q3⟩

def flatB (P:Program) (ty:TypeId) (g:List V):Bool :=
  (match P.info? ty with|some _=>true|none=>false)&&Nat.beq (P.cellsOf ty) g.length && !P.stoodInHeld ty&&Uq P (P.fieldsOf ty).toList g 0
def Og (P:Program):List Field→List V→Nat→Bool
  | [],zs,_=>zs.isEmpty
  | f::fs,zs,j =>
    decide (f.name ≠ "_")&&decide (f.offset=j) &&
      (match P.underlying f.type with
       | some (.struct fl)=>flatB P f.type (zs.take fl.size)&&Og P fs (zs.drop fl.size) (j+fl.size)
       | _=>(match zs with|z::zr=>Up P f.type z&&Og P fs zr (j+1) | []=>false))

theorem GV:∀(fs:List Field) (zs:List V) (j:Nat),Og P fs zs j=true→∃gs:List (List V),gs.flatten=zs∧PB P fs gs j
  | [],zs,j,h=>⟨[],by simpa [Og]using h.symm,trivial⟩
  | f::fs,zs,j,h=>by
    simp only[Og,Bool.and_eq_true,decide_eq_true_eq]at h
    obtain ⟨⟨h1,h2⟩,h3⟩:=h
    split at h3
    · rename_i fl hu
      rw[Bool.and_eq_true]at h3
      obtain ⟨g1,g2⟩:=h3
      have hfo:P.fieldsOf f.type=fl:=by simp[Program.fieldsOf,hu]
      obtain ⟨gs,e1,e2⟩:=GV fs _ _ g2
      unfold flatB at g1
      simp only[Bool.and_eq_true,Bool.not_eq_true']at g1
      obtain ⟨⟨⟨k1,k2⟩,k3⟩,k4⟩:=g1
      obtain ⟨q1,q2⟩:=L2 _ _ _ k4
      have hlen:(zs.take fl.size).length=fl.size:=by rw[←q1,hfo]; simp
      refine ⟨zs.take fl.size::gs,by rw[List.flatten_cons,e1,List.take_append_drop],h1,h2, .inr ⟨by rw[hfo]; exact hu,k3,?_,Nat.eq_of_beq_eq_true k2,q1,q2⟩,by rw[hlen]; exact e2⟩
      cases hi:P.info? f.type with
      | none=>rw[hi]at k1; cases k1
      | some i=>exact ⟨i,rfl⟩
    · split at h3
      · rename_i z zr
        rw[Bool.and_eq_true]at h3
        obtain ⟨gs,e1,e2⟩:=GV fs _ _ h3.2
        exact ⟨[z]::gs,by rw[List.flatten_cons,e1]; rfl,h1,h2, .inl ⟨z,rfl,L1 h3.1⟩,e2⟩
      · cases h3

theorem Jf.of {t:Nat} (h1:P.underlying t=some (.struct (P.fieldsOf t))) (h2:P.stoodInHeld t=false) (h3:P.eqGuardType P.depth t=false) (h4:Og P (P.fieldsOf t).toList (tt.at t).zero 0=true):Jf P tt t :=
  ⟨h1,h2,h3,GV _ _ _ h4⟩

theorem eqOk_eq {i:TI} {a b:List V} (h:O5 i a b=true):i.eq=true:=by
  unfold O5 at h
  simp only[Bool.and_eq_true]at h
  exact h.1.1

theorem YQ {t:Nat} (e:Jf P tt t) {cs ds:List V} {xs ys:Array Value} {b:Bool} (hk:O5 (tt.at t) cs ds=true) (rx:cy w h c cs xs.toList) (ry:cy w h c ds ys.toList) (hb:lB cs ds=some b) :
    P.eqGuardType P.depth t=false∧(Op.equalIn 10000 t (.agg xs) (.agg ys)).run P w = .ok b w:=by
  obtain ⟨e1,e2,e3,gs,e4,e5⟩:=e
  refine ⟨e3,?_⟩
  unfold O5 at hk
  simp only[Bool.and_eq_true]at hk
  rw[run_equalIn_struct w 9999 t xs ys e1 e2]
  have get:∀ {cs:List V} {xs:Array Value},cy w h c cs xs.toList→∀i v,cs[i]? = some v→∃x,xs[0+i]? = some x∧dz w h c v x:=by
    intro cs xs r i v hv
    have hi:=(List.getElem?_eq_some_iff.1 hv).1
    have hl:i<xs.size:=by have:=r.1; simp at this; omega
    refine ⟨xs[i],by simp[hl],r.2 i v _ hv (by simp[hl])⟩
  exact eqG 9997 xs ys _ gs cs ds 0 b e5 (by rw[e4]; exact hk.1.2) (by rw[e4]; exact hk.2) hb (get rx) (get ry)
end

section
variable {R:Type} {P:Program} {tt:dA}

mutual
def Json.depth:Json→Nat
 | ⟨_,_,_,_,l⟩=>Json.AJ l+1
def Json.AJ:List Json→Nat
 | []=>0
 | x::l=>max x.depth (Json.AJ l)
end
mutual
def Raw.depth:Raw→Nat
 | ⟨_,_,_,_,l⟩=>Raw.AJ l+1
def Raw.AJ:List Raw→Nat
 | []=>0
 | x::l=>max x.depth (Raw.AJ l)
end

def iC.fu (x:iC):Nat:=x.aB.natAbs+x.exp.natAbs
def Json.fu (x:Json):Nat:=x.text.length+x.names.length+x.items.length
def Raw.fu (x:Raw):Nat:=x.text.length+x.items.length
def Hk.fu (x:Hk):Nat:=x.kind.natAbs+x.aB.natAbs+x.exp.natAbs+x.text.length
def Fld.fu (x:Fld):Nat:=x.name.length
def Nd.fu (x:Nd):Nat:=x.topic.length+x.data.length
def Token.fu (x:Token):Nat:=x.text.length
def Stop.fu (x:Stop):Nat:=0
def Way.fu (x:Way):Nat:=0
def Order.fu (x:Order):Nat:=x.header.natAbs+x.sC.length+x.order.natAbs+x.update.natAbs+x.nodes.length+x.K2.length
def Edge.fu (x:Edge):Nat:=0
def BF.fu (x:BF):Nat:=x.nodes.natAbs+x.K2.length
def Ga.fu (x:Ga):Nat:=x.maker.length+x.Xo.length+x.kind.length
def State.fu (x:State):Nat:=x.header.natAbs+x.Xp.natAbs+x.sC.length+x.order.natAbs+x.update.natAbs+x.node.natAbs+x.seq.natAbs+x.accepted.natAbs
def Ctl.fu (x:Ctl):Nat:=x.sC.length+x.header.natAbs+x.order.natAbs+x.update.natAbs+x.Xp.natAbs+x.seen.natAbs+x.path.length+x.seq.natAbs+x.rel.natAbs+x.pending.header.natAbs+x.pending.sC.length+x.pending.order.natAbs+x.pending.update.natAbs+x.pending.nodes.length+x.pending.K2.length
def Nf.fu (x:Nf):Nat:=x.kind.natAbs+x.i.natAbs+x.k.natAbs+x.by_.natAbs+x.data.length
def DL.fu (x:DL):Nat:=x.header.natAbs+x.order.natAbs+x.update.natAbs+x.seq.natAbs+x.from_.natAbs+x.yn.natAbs+x.turns.length
def Ng.fu (x:Ng):Nat:=x.kind.natAbs+x.o.header.natAbs+x.o.order.natAbs+x.o.update.natAbs+x.o.seq.natAbs+x.o.from_.natAbs+x.o.yn.natAbs+x.o.turns.length+x.data.length
def Nh.fu (x:Nh):Nat:=x.kind.natAbs+x.n.natAbs+x.turns.length
def Ni.fu (x:Ni):Nat:=x.a.natAbs+x.b.natAbs+x.c.natAbs
def J5.fu (x:J5):Nat:=x.a.natAbs+x.b.natAbs
def Nj.fu (x:Nj):Nat:=x.a.aB.natAbs+x.a.exp.natAbs+x.b.aB.natAbs+x.b.exp.natAbs
def Nk.fu (x:Nk):Nat:=x.name.length+x.home.natAbs
def Job.fu (x:Job):Nat:=x.id.natAbs+x.target.natAbs+x.state.natAbs+x.sC.natAbs
def BG.fu (x:BG):Nat:=x.kind.natAbs+x.nums.length+x.text.length

theorem CX (rs:List Ty) (t:Nat):∃b,(tt.mode rs).at t = { tt.at t with rowy:=b }:=by
 unfold dA.mode dA.at
 simp only[List.getD,List.getElem?_map]
 cases tt[t]? with
 | none=>exact ⟨false,rfl⟩
 | some i=>exact ⟨_,rfl⟩

theorem PC (rs:List Ty) (t:Nat):(tt.mode rs).ok t=tt.ok t:=by
 obtain ⟨b,h⟩:=CX (tt:=tt) rs t
 unfold dA.ok
 rw[h]

theorem vS.mode (T:vS P tt) (rs:List Ty):vS P (tt.mode rs) where
 und:=fun t=>by obtain ⟨b,h⟩:=CX (tt:=tt) rs t; rw[h]; exact T.und t
 info:=fun t ht=>by
  rw[PC]at ht
  obtain ⟨b,h⟩:=CX (tt:=tt) rs t
  rw[h]
  exact T.info t ht
 eqs:=fun t w h c cs ds xs ys b hk=>by
  obtain ⟨b',h'⟩:=CX (tt:=tt) rs t
  rw[h']at hk
  exact T.eqs t w h c cs ds xs ys b hk
 u8s:=fun e he=>by
  obtain ⟨b,h⟩:=CX (tt:=tt) rs e
  rw[h]at he
  exact T.u8s e he
 blds:=fun t ht=>by
  obtain ⟨b,h⟩:=CX (tt:=tt) rs t
  rw[h]at ht
  rw[PC,h]
  exact T.blds t ht
 ones:=fun t ht=>by
  rw[PC]at ht
  obtain ⟨b,h⟩:=CX (tt:=tt) rs t
  have e:(tt.mode rs).isAgg t=tt.isAgg t:=by unfold dA.isAgg; rw[h]
  rw[e]
  exact T.ones t ht

theorem jt {D:Type} {E:Env R} {L:Nat→Option (Hint × eJ R)} {m:Nat} {a:Code} {hint:Hint} (enc:D→St)
  (s:(Ex→St→Option R)→(D→Option R)→D→Option R) (A:(Ex→St→Option R)→Nat→D→Option R)
  (h0:∀K d,A K 0 d=none)
  (hB:∀K fC d,roundOf tt E L m a hint (enc d) fC K=s K (fun d=>fC (enc d)) d)
  (hA:∀K n d,A K (n+1) d=s K (A K n) d) (K:Ex→St→Option R) :
  ∀n d,Bn (jV tt E L m a) (norm m hint) n (enc d) (fun e st=>K e (trim m hint st))=A K n d
 | 0,d=>(h0 K d).symm
 | n+1,d=>by
  rw[SY,hB,hA]
  exact congrArg (fun q=>s K q d) (funext fun d=>jt enc s A h0 hB hA K n d)

theorem gd {D:Type} {E:Env R} {L:Nat→Option (Hint × eJ R)} {m:Nat} {a:Code} {hint:Hint} {ps:List ck} {hs:List aN}
  {run:ck.aH ps→aN.aH hs→(Ex→St→Option R)→Option R} {other:eJ R} {enc:D→St} {A:(Ex→St→Option R)→Nat→D→Option R}
  (ho:oa tt E L m a hint other)
  (tie:∀K n d,Bn (jV tt E L m a) (norm m hint) n (enc d) (fun e st=>K e (trim m hint st))=A K n d)
  (fuel:ck.aH ps→aN.aH hs→Nat) (dat:ck.aH ps→aN.aH hs→D)
  (henc:∀x y,(⟨ck.cz ps x,aN.cz hs y⟩:St)=enc (dat x y))
  (kY:∀x y K,run x y K=A K (fuel x y) (dat x y)):oa tt E L m a hint (fQ ps hs run other) :=
 V5 ho fun x y K=>⟨fuel x y,by rw[henc,kY]; exact tie K _ _⟩

theorem Cl {g:Nat} {ps:List ck} {hs:List aN} {run:Nat→ck.aH ps→aN.aH hs→(V→aG→Option R)→Option R} {other:Spec R}
  (fuel:ck.aH ps→aN.aH hs→Nat) (ho:Spec.Ok P g other)
  (h:∀n,Spec.Ok P g (bj ps hs (run n) aZ)):Spec.Ok P g (bj ps hs (fun x y k=>run (fuel x y) x y k) other):=by
 intro vs hp k r hk
 unfold bj at hk
 split at hk
 ·rename_i x y h1 h2
  refine h (fuel x y) vs hp k r ?_
  unfold bj
  rw[h1,h2]
  exact hk
 ·exact ho _ _ _ _ hk

theorem vp {g:Nat} {ps:List ck} {hs:List aN} {run:Nat→ck.aH ps→aN.aH hs→(V→aG→Option R)→Option R}
  (h0:∀x y k,run 0 x y k=none)
  (hs':∀n,Spec.Ok P g (bj ps hs (run n) aZ)→Spec.Ok P g (bj ps hs (run (n+1)) aZ)):∀n,Spec.Ok P g (bj ps hs (run n) aZ)
 | 0=>by
  intro vs hp k r hk
  unfold bj at hk
  split at hk
  ·rw[h0]at hk; cases hk
  ·cases hk
 | n+1=>hs' n (vp h0 hs' n)

theorem AK {g:Nat} {ps:List ck} {hs:List aN} {run run':ck.aH ps→aN.aH hs→(V→aG→Option R)→Option R} {other:Spec R}
  (h:Spec.Ok P g (bj ps hs run other)) (e:run'=run):Spec.Ok P g (bj ps hs run' other):=e▸h
end
abbrev gD (s:aj):List Int:=GD s
end Go.aF
end
