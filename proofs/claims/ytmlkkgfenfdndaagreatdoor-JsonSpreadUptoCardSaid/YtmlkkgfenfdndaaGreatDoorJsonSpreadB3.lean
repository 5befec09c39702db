/-
  JsonSpread: for every input whose bulk is at most 1048576 the law returns true, and each argument reads behind the call as it read before; part 3 of 8 of the proof: an interpreter of the model's code over typed data, proved sound; the functions that the law reaches, printed as Lean functions and tied; the plain law. Own texts laid one behind the other.
-/
import Derived.Calls
import Derived.Orders
import Derived.ChangeKeysEq
import Derived.Test.YtmlkkgfenfdndaaGreatDoorJsonSpreadB2
set_option linter.unusedSimpArgs false
set_option linter.unnecessarySimpa false
set_option linter.unusedVariables false
set_option linter.unusedSectionVars false
namespace Go.ay
open Go.RowKit

section
variable {w w':World} {h h':az} {c c':ko}

theorem rT {i:Nat}:∀ {cs:List V},i∈V.sW cs↔∃(j:Nat) (v:V),cs[j]? = some v∧i∈v.ids
  | []=>by simp[V.sW]
  | v::cs=>by
    simp only[V.sW,List.mem_append,rT (cs:=cs)]
    constructor
    · rintro (h|⟨j,u,h1,h2⟩)
      · exact ⟨0,v,rfl,h⟩
      · exact ⟨j+1,u,h1,h2⟩
    · rintro ⟨j,u,h1,h2⟩
      cases j with
      | zero=>simp at h1; subst h1; exact .inl h2
      | succ j=>exact .inr ⟨j,u,h1,h2⟩

theorem dH.zC {v:V} {d:Value} (r:dH w h c v d):∀i∈v.ids,Used h i:=by
  induction r with
  | undef v=>simp[V.ids]
  | int hn=>simp[V.ids]
  | bool b=>simp[V.ids]
  | str hl=>simp[V.ids]
  | eQ=>simp[V.ids]
  | cG=>simp[V.ids]
  | aV=>simp[V.ids]
  | oL=>simp[V.ids]
  | cS=>simp[V.ids]
  | iface t v=>simp[V.ids]
  | Ft hn=>simp[V.ids]
  | Gx b=>simp[V.ids]
  | ptr hi _=>simpa [V.ids]using hi
  | map hi _=>simpa [V.ids]using hi
  | row hi _ _=>simpa [V.ids]using hi
  | Dh hi _ _=>simpa [V.ids]using hi
  | tH hi _=>simpa [V.ids]using hi
  | xU f hc _ ih =>
    intro i hi
    simp only[V.ids]at hi
    obtain ⟨j,v,h1,h2⟩:=rT.1 hi
    exact ih j v h1 i h2
  | @sl T l t A cap f lY sY hc hr yl ng ih =>
    intro i hi
    cases t with
    | no=>simp[V.ids]at hi
    | nil=>simp[V.ids]at hi
    | own j=>simp[V.ids]at hi; subst hi; exact (ng i rfl).1
  | NN hn sY f hc _ ih =>
    intro i hi
    simp only[V.ids]at hi
    obtain ⟨j,v,h1,h2⟩:=rT.1 hi
    exact ih j v h1 i h2
  | @func f a b x y ha hb _ _ iha ihb =>
    intro i hi
    simp only[V.ids,List.mem_append]at hi
    rcases hi with hi|hi
    · obtain ⟨j,v,h1,h2⟩:=rT.1 hi
      have hj:=(List.getElem?_eq_some_iff.1 h1).1
      exact iha j v _ h1 (Array.getElem?_eq_getElem (by omega)) i h2
    · obtain ⟨j,v,h1,h2⟩:=rT.1 hi
      have hj:=(List.getElem?_eq_some_iff.1 h1).1
      exact ihb j v _ h1 (Array.getElem?_eq_getElem (by omega)) i h2
  | agg hl _ ih =>
    intro i hi
    simp only[V.ids]at hi
    obtain ⟨j,v,h1,h2⟩:=rT.1 hi
    have hj:=(List.getElem?_eq_some_iff.1 h1).1
    exact ih j v _ h1 (Array.getElem?_eq_getElem (by omega)) i h2
  | tuple hl _ ih =>
    intro i hi
    simp only[V.ids]at hi
    obtain ⟨j,v,h1,h2⟩:=rT.1 hi
    have hj:=(List.getElem?_eq_some_iff.1 h1).1
    exact ih j v _ h1 (Array.getElem?_eq_getElem (by omega)) i h2

theorem cH.zC {cs:List V} {ds:List Value} (r:cH w h c cs ds):∀i∈V.sW cs,Used h i:=by
  intro i hi
  obtain ⟨j,v,h1,h2⟩:=rT.1 hi
  have hj:=(List.getElem?_eq_some_iff.1 h1).1
  exact (r.2 j v _ h1 (List.getElem?_eq_getElem (by have:=r.1; omega))).zC i h2

theorem WF.zC (wf:WF w h c) (i:Nat):∀j∈(h.at i).ids,Used h j:=by
  intro j hj
  cases e:h.at i with
  | cells cs =>
    rw[e]at hj
    have ho:=wf.obj i (az.gK rfl (by rw[e]; simp))
    rw[e]at ho
    obtain ⟨b,arr,el,_,_,r⟩:=ho
    exact r.zC j hj
  | kR v =>
    rw[e]at hj
    have ho:=wf.obj i (az.gK rfl (by rw[e]; simp))
    rw[e]at ho
    obtain ⟨b,p,d,_,_,_,r⟩:=ho
    exact r.zC j hj
  | _=>rw[e]at hj; simp[bZ.ids]at hj

theorem Hu (wf:WF w h c):∀(n:Nat) (todo seen:List Nat),(∀i∈todo,Used h i)→(∀i∈seen,Used h i)→∀i∈reach h n todo seen,Used h i
  | 0,_,_,_,hs=>hs
  | n+1, [],_,_,hs=>hs
  | n+1,i::todo,seen,ht,hs=>by
    simp only[reach]
    split
    · exact Hu wf n _ _ (fun j hj=>ht j (by simp[hj])) hs
    · refine Hu wf n _ _ (fun j hj => ?_) (fun j hj => ?_)
      · rcases List.mem_append.1 hj with hj|hj
        · exact ht j (by simp[hj])
        · exact wf.zC i j hj
      · rcases List.mem_append.1 hj with hj|hj
        · exact hs j hj
        · simp at hj; subst hj; exact ht j (by simp)

theorem ui.lt (wf:WF w h c) {b x:Nat} (ho:ui h c b x):b<w.heap.size:=by
  obtain ⟨i,f,h1,h2,_⟩:=ho
  have hl:(h.at i).live:=by cases e:h.at i <;> rw[e]at h2 <;> simp_all [bZ.from_,bZ.live]
  exact (wf.obj i (az.gK rfl (wV hl))).lt hl h1

theorem V3 {o:bZ} (h:o.live) (f:Nat):∃g,o.from_ f=some g:=by cases o <;> simp_all [bZ.from_,bZ.live]

def Ip (h:az) (c:ko) (ord:List Nat) (b x:Nat):Prop:=∃i∈ord,∃f,c.sV i=some b∧(h.at i).from_ (c.off i)=some f∧f≤x

def Mk (h:az) (c:ko) (ord:List Nat):QW:=⟨fun b x=>c.ext b x∨(ui h c b x∧¬Ip h c ord b x)⟩

theorem Ip.wD {ord:List Nat} {b x:Nat} (o:Ip h c ord b x):ui h c b x:=by obtain ⟨i,_,f,h1,h2,h3⟩:=o; exact ⟨i,f,h1,h2,h3⟩

theorem Ml {ord:List Nat}:∀b x,Gy h c b x→¬Mk h c ord b x:=by
  rintro b x hf (he|he)
  · exact hf.2 he
  · exact hf.1 he.1

theorem JF (wf:WF w h c) {ord:List Nat} (EY:ord.Nodup):WF w (h.pick ord) (c.pick ord (Mk h c ord)):=by
  refine UD wf EY Ml ?_ ?_
  · rintro b x (he|he)
    · exact wf.pS b x he
    · exact he.1.lt wf
  · rintro b x ho (he|he)
    · exact wf.ym b x (Ip.wD ho) he
    · exact he.2 ho

theorem Hv {ord:List Nat} {cs:List V} {ds:List Value} (r:cH w h c cs ds):cH w (h.pick ord) (c.pick ord (Mk h c ord)) (V.yj (yg ord) cs) ds :=
  r.p7 (Mj Ml)

theorem fZ:∀(l:List (Nat × bZ)) (h:az),(az.Ad h l).length=h.length
  | [],_=>rfl
  | (i,o)::l,h=>by simp[az.Ad,fZ l]

theorem D5 {i:Nat}:∀(ord:List Nat) (os:List bZ) (h:az),i∉ord→az.at (az.Ad h (ord.zip os)) i=h.at i
  | [],_,_,_=>rfl
  | _::_, [],_,_=>rfl
  | a::ord,o::os,h,hn=>by
    simp only[List.zip_cons_cons,az.Ad]
    rw[D5 ord os _ (fun hm=>hn (by simp[hm]))]
    exact cZ _ (fun e=>hn (by simp[e]))

theorem JG {i:Nat}:∀(ord:List Nat) (os:List bZ) (h:az) (j:Nat) (o:bZ),ord.Nodup→ord[j]? = some i→os[j]? = some o→i<h.length→az.at (az.Ad h (ord.zip os)) i=o
  | [],_,_,_,_,_,hj,_,_=>by simp at hj
  | _::_, [],_,_,_,_,_,ho,_=>by simp at ho
  | a::ord,p::os,h,j,o,EY,hj,ho,hi=>by
    simp only[List.zip_cons_cons,az.Ad]
    cases j with
    | zero =>
      simp at hj ho
      subst hj; subst ho
      rw[D5 ord os _ (by simpa using (List.nodup_cons.1 EY).1)]
      exact ni _ hi
    | succ j=>exact JG ord os _ j o (List.nodup_cons.1 EY).2 (by simpa using hj) (by simpa using ho) (by simpa using hi)

theorem ln {a b:az} {i:Nat} (hi:i<a.length):az.at (a++b) i=az.at a i:=by simp[az.at,List.getD,List.getElem?_append_left hi]
theorem j9 {a b:az} {i:Nat} (hi:a.length≤i):az.at (a++b) i=az.at b (i - a.length):=by simp[az.at,List.getD,List.getElem?_append_right hi]

theorem Iq {ord:List Nat} (EY:ord.Nodup) {i j:Nat} (e:ord[j]? = some i):yg ord i=some j:=by
  obtain ⟨hj,rfl⟩:=List.getElem?_eq_some_iff.1 e
  have hm:ord[j]∈ord:=List.getElem_mem hj
  have lh:ord.idxOf ord[j]<ord.length:=List.idxOf_lt_length_of_mem hm
  unfold yg
  simp only[lh,if_true]
  have hg:=List.getElem_idxOf lh
  have hp:=List.pairwise_iff_getElem.1 EY
  rcases Nat.lt_trichotomy (ord.idxOf ord[j]) j with hl|he|hl
  · exact (hp _ _ lh hj hl hg).elim
  · rw[he]
  · exact (hp _ _ hj lh hl hg.symm).elim

theorem yr {ord:List Nat} {i:Nat} (h:i∉ord):yg ord i=none:=by
  cases e:yg ord i with
  | none=>rfl
  | some j=>exact (h (List.mem_of_getElem? (BT e))).elim

def ko.back (c:ko) (ord:List Nat) (n:Nat) (c':ko):ko :=
  ⟨fun i=>match yg ord i with|some j=>c'.sV j|none=>if i<n then c.sV i else c'.sV (i - n+ord.length),
   fun i=>match yg ord i with|some j=>c'.off j|none=>if i<n then c.off i else c'.off (i - n+ord.length),c.ext⟩

theorem CI {ord:List Nat} (EY:ord.Nodup) (lh:∀i∈ord,i<h.length) (hle:ord.length≤h'.length) (i:Nat) :
    (∃j,pA ord h.length j=i∧j<h'.length∧az.at (h.back ord h') i=(h'.at j).p7 (fun j=>some (pA ord h.length j))∧(c.back ord h.length c').sV i=c'.sV j∧(c.back ord h.length c').off i=c'.off j) ∨
    (i∉ord∧i<h.length∧az.at (h.back ord h') i=h.at i∧(c.back ord h.length c').sV i=c.sV i∧(c.back ord h.length c').off i=c.off i) ∨
    ((h.back ord h').length≤i∧az.at (h.back ord h') i = .dead):=by
  have hlen:(h.back ord h').length=h.length+(h'.length - ord.length):=by simp[az.back,fZ]
  by_cases hm:i∈ord
  · obtain ⟨j,hj,e⟩:=List.mem_iff_getElem.1 hm
    have e':ord[j]? = some i:=by rw[List.getElem?_eq_getElem hj,e]
    have hi:=lh i hm
    refine .inl ⟨j,by simp[pA,hj,List.getD,e],by omega,?_,by simp[ko.back,Iq EY e'],by simp[ko.back,Iq EY e']⟩
    unfold az.back
    simp only
    rw[ln (by rw[fZ]; exact hi)]
    refine JG ord _ h j _ EY e' ?_ hi
    have OD:j<h'.length:=by omega
    simp[hj,az.at,List.getD,List.getElem?_eq_getElem OD]
  · by_cases hi:i<h.length
    · refine .inr (.inl ⟨hm,hi,?_,by simp[ko.back,yr hm,hi],by simp[ko.back,yr hm,hi]⟩)
      unfold az.back
      simp only
      rw[ln (by rw[fZ]; exact hi)]
      exact D5 ord _ h hm
    · by_cases hb:i<(h.back ord h').length
      · rw[hlen]at hb
        refine .inl ⟨i - h.length+ord.length,?_,by omega,?_,by simp[ko.back,yr hm,hi],by simp[ko.back,yr hm,hi]⟩
        · have:¬(i - h.length+ord.length<ord.length):=by omega
          simp only[pA,this,if_false]
          omega
        · unfold az.back
          simp only
          rw[j9 (by rw[fZ]; omega),fZ]
          have pT:i - h.length+ord.length<h'.length:=by omega
          have hq:ord.length+(i - h.length)=i - h.length+ord.length:=by omega
          simp[az.at,List.getD,hq,List.getElem?_eq_getElem pT]
      · refine .inr (.inr ⟨by omega,?_⟩)
        simp[az.at,List.getD,List.getElem?_eq_none (Nat.le_of_not_lt hb)]

theorem Lt {ord:List Nat} (EY:ord.Nodup) (lh:∀i∈ord,i<h.length) (hle:ord.length≤h'.length) (j:Nat) :
    az.at (h.back ord h') (pA ord h.length j)=(h'.at j).p7 (fun j=>some (pA ord h.length j))∧(c.back ord h.length c').sV (pA ord h.length j)=c'.sV j∧(c.back ord h.length c').off (pA ord h.length j)=c'.off j:=by
  have hlen:(h.back ord h').length=h.length+(h'.length - ord.length):=by simp[az.back,fZ]
  by_cases hj:j<ord.length
  · have hb:pA ord h.length j=ord[j]:=by simp[pA,hj,List.getD]
    have e':ord[j]? = some ord[j]:=List.getElem?_eq_getElem hj
    have hi:=lh _ (List.getElem_mem hj)
    rw[hb]
    refine ⟨?_,by simp[ko.back,Iq EY e'],by simp[ko.back,Iq EY e']⟩
    unfold az.back
    simp only
    rw[ln (by rw[fZ]; exact hi)]
    refine JG ord _ h j _ EY e' ?_ hi
    have OD:j<h'.length:=by omega
    simp[hj,az.at,List.getD,List.getElem?_eq_getElem OD]
  · have hb:pA ord h.length j=h.length+(j - ord.length):=by simp[pA,hj]
    have hm:h.length+(j - ord.length)∉ord:=fun hm=>by have:=lh _ hm; omega
    have hn:¬(h.length+(j - ord.length)<h.length):=by omega
    have hs:h.length+(j - ord.length) - h.length+ord.length=j:=by omega
    rw[hb]
    refine ⟨?_,by simp only[ko.back,yr hm,hn,if_false,hs],by simp only[ko.back,yr hm,hn,if_false,hs]⟩
    unfold az.back
    simp only
    rw[j9 (by rw[fZ]; omega),fZ]
    have hq:h.length+(j - ord.length) - h.length=j - ord.length:=by omega
    have Vt:ord.length+(j - ord.length)=j:=by omega
    rw[hq]
    by_cases OD:j<h'.length
    · simp[az.at,List.getD,Vt,List.getElem?_eq_getElem OD]
    · simp[az.at,List.getD,Vt,List.getElem?_eq_none (Nat.le_of_not_lt OD),bZ.p7]

theorem V4 {ρ:Nat→Option Nat} {o o':bZ}:(o.p7 ρ).iR o'↔o.iR o':=by cases o <;> cases o' <;> simp[bZ.p7,bZ.iR,uR]
theorem OJ {ρ:Nat→Option Nat} {o o':bZ}:o.iR (o'.p7 ρ)↔o.iR o':=by cases o <;> cases o' <;> simp[bZ.p7,bZ.iR,uR]
theorem Dt {o:bZ} (h:o.live) (hm:∀K T l,o ≠ .vC K T l∨True):o.iR o:=by cases o <;> simp_all [bZ.iR,bZ.live]

theorem OK (wf:WF w h c) {ord:List Nat} (EY:ord.Nodup) (hu:∀i∈ord,Used h i) (Ux:WF w' h' c') (x:Ext w (h.pick ord) (c.pick ord (Mk h c ord)) w' h' c') :
    WF w' (h.back ord h') (c.back ord h.length c')∧Ext w h c w' (h.back ord h') (c.back ord h.length c')∧OI (fun j=>some (pA ord h.length j)) h' c' (h.back ord h') (c.back ord h.length c'):=by
  have lh:∀i∈ord,i<h.length:=fun i hi=>(hu i hi).1
  have hup:∀j,j<ord.length→Used (h.pick ord) j:=fun j hj=>by
    refine ⟨by simpa [az.pick]using hj,?_⟩
    rw[vo,List.getElem?_eq_getElem hj]
    simp only[ne_eq,Dq]
    exact (hu _ (List.getElem_mem hj)).2
  have hle:ord.length≤h'.length:=by
    rcases Nat.eq_zero_or_pos ord.length with h0|h0
    · omega
    · have:=(x.used _ (hup (ord.length - 1) (by omega))).1; omega
  have hlen:(h.back ord h').length=h.length+(h'.length - ord.length):=by simp[az.back,fZ]
  -- who owns a cell
  have Ik:∀b y,ui (h.back ord h') (c.back ord h.length c') b y→ui h' c' b y∨∃i f,i∉ord∧i<h.length∧c.sV i=some b∧(h.at i).from_ (c.off i)=some f∧f≤y:=by
    rintro b y ⟨i,f,h1,h2,h3⟩
    rcases CI (c:=c) (c':=c') EY lh hle i with ⟨j,_,_,g1,g2,g3⟩|⟨g0,g1,g2,g3,g4⟩|⟨_,g1⟩
    · rw[g2]at h1; rw[g1,g3,Rr]at h2
      exact .inl ⟨j,f,h1,h2,h3⟩
    · rw[g3]at h1; rw[g2,g4]at h2
      exact .inr ⟨i,f,g0,g1,h1,h2,h3⟩
    · rw[g1]at h2; cases h2
  have XO:∀i f b y,i∉ord→c.sV i=some b→(h.at i).from_ (c.off i)=some f→f≤y→Mk h c ord b y:=by
    intro i f b y hi h1 h2 h3
    refine .inr ⟨⟨i,f,h1,h2,h3⟩,?_⟩
    rintro ⟨i2,hm,f2,g1,g2,g3⟩
    have:=wf.inj i i2 b (tK h2) (tK g2) h1 g1
    subst this
    exact hi hm
  have Rs:∀b y,ui (h.pick ord) (c.pick ord (Mk h c ord)) b y→Ip h c ord b y:=fun b y ho=>Ds ho
  have hext:c'.ext=Mk h c ord:=x.ext
  have hren:OI (fun j=>some (pA ord h.length j)) h' c' (h.back ord h') (c.back ord h.length c'):=by
    refine ⟨fun i j e hi => ?_,fun i j e hd => ?_,fun i j e ht => ?_,fun i j e T l ht => ?_,fun b y hf=>⟨fun ho => ?_,fun he => ?_⟩⟩
    · cases e
      obtain ⟨g1,_,_⟩:=Lt (c:=c) (c':=c') EY lh hle i
      refine ⟨?_,by rw[g1]; simp only[ne_eq,Dq]; exact hi.2⟩
      rw[hlen]
      unfold pA
      have:=hi.1
      split
      · rename_i hj
        have:=lh _ (List.getElem_mem hj)
        simp only[List.getD,List.getElem?_eq_getElem hj,Option.getD_some]
        omega
      · omega
    · cases e
      obtain ⟨g1,g2,g3⟩:=Lt (c:=c) (c':=c') EY lh hle i
      rw[g1]at hd
      simp only[ne_eq,Io]at hd
      exact ⟨hd,g2,g3⟩
    · cases e
      rw[(Lt (c:=c) (c':=c') EY lh hle i).1]at ht
      exact UB.1 ht
    · cases e
      rw[(Lt (c:=c) (c':=c') EY lh hle i).1]at ht
      exact UC.1 ht
    · rcases Ik b y ho with ho|⟨i,f,g0,_,g2,g3,g4⟩
      · exact hf.1 ho
      · exact hf.2 (by rw[hext]; exact XO i f b y g0 g2 g3 g4)
    · exact hf.2 (by rw[hext]; exact .inl he)
  have hx:Ext w h c w' (h.back ord h') (c.back ord h.length c'):=by
    refine ⟨x.os,x.tape,x.output,x.size,fun i hi => ?_,fun i hi hd => ?_,fun b y hb ho=>x.cell b y hb (fun o=>ho (Rs b y o).wD),fun b hb ho=>x.block b hb (fun y o=>ho y (Rs b y o).wD),fun b y hb ho => ?_,rfl,x.arr⟩
    · rcases CI (c:=c) (c':=c') EY lh hle i with ⟨j,g0,gj,g1,g2,g3⟩|⟨g0,g1,g2,g3,g4⟩|⟨g0,_⟩
      · refine ⟨by have:=hi.1; omega,?_⟩
        rw[g1]; simp only[ne_eq,Dq]
        have hjo:j<ord.length:=by
          unfold pA at g0
          split at g0
          · assumption
          · have:=hi.1; omega
        exact (x.used j (hup j hjo)).2
      · exact ⟨by omega,by rw[g2]; exact hi.2⟩
      · have:=hi.1; omega
    · rcases CI (c:=c) (c':=c') EY lh hle i with ⟨j,g0,gj,g1,g2,g3⟩|⟨g0,g1,g2,g3,g4⟩|⟨g0,_⟩
      · have hjo:j<ord.length:=by
          unfold pA at g0
          split at g0
          · assumption
          · have:=hi.1; omega
        have e:ord[j]? = some i:=by
          simp only[pA,hjo,if_true,List.getD,List.getElem?_eq_getElem hjo,Option.getD_some]at g0
          rw[List.getElem?_eq_getElem hjo,g0]
        rw[g1]at hd ⊢
        simp only[ne_eq,Io]at hd
        obtain ⟨s1,s2,s3⟩:=x.same j (hup j hjo) hd
        rw[vo,e]at s1
        rw[g2,g3,s2,s3]
        exact ⟨OJ.2 (V4.1 s1),by simp[ko.pick,e],by simp[ko.pick,List.getD,e]⟩
      · rw[g2]at hd ⊢
        exact ⟨Dt (Gj hi.2 hd) (fun _ _ _ => .inr trivial),g3,g4⟩
      · have:=hi.1; omega
    · rcases Ik b y ho with ho|⟨i,f,g0,_,g2,g3,g4⟩
      · exact (Rs b y (x.wD b y hb ho)).wD
      · exact ⟨i,f,g2,g3,g4⟩
  refine ⟨⟨fun b y ho he => ?_,fun b y he=>Nat.lt_of_lt_of_le (wf.pS b y he) x.size,fun i hi => ?_,fun i j b hi hj h1 h2 => ?_,wf.sv hx⟩,hx,hren⟩
  · rcases Ik b y ho with ho|⟨i,f,g0,_,g2,g3,g4⟩
    · exact Ux.ym b y ho (by rw[hext]; exact .inl he)
    · exact wf.ym b y ⟨i,f,g2,g3,g4⟩ he
  · rcases CI (c:=c) (c':=c') EY lh hle i with ⟨j,g0,gj,g1,g2,g3⟩|⟨g0,g1,g2,g3,g4⟩|⟨_,g0⟩
    · rw[g1]
      exact (Ux.obj j gj).p7 hren g2 g3
    · rw[g2]
      by_cases hl:(h.at i).live
      · refine (wf.obj i g1).keep hx (fun b hb=>x.block b ((wf.obj i g1).lt hl hb) fun y o => ?_) g3 g4
        obtain ⟨i2,hm,f2,k1,k2,_⟩:=Rs b y o
        have:=wf.inj i i2 b hl (tK k2) hb k1
        subst this
        exact g0 hm
      · have h0:h.at i = .free∨h.at i = .dead:=by revert hl; cases h.at i <;> simp[bZ.live]
        rcases h0 with h0|h0 <;> rw[h0] <;> trivial
    · rw[g0]; trivial
  · have key:∀i j b,i∉ord→(h.at i).live→c.sV i=some b→(h'.at j).live→c'.sV j=some b→False:=by
      intro i j b hi hl hb Xp pT
      have OL:=(wf.obj i (az.gK rfl (wV hl))).lt hl hb
      obtain ⟨f,hf⟩:=V3 Xp (c'.off j)
      obtain ⟨i2,hm,f2,k1,k2,_⟩:=Rs b f (x.wD b f OL ⟨j,f,pT,hf,Nat.le_refl _⟩)
      have:=wf.inj i i2 b hl (tK k2) hb k1
      subst this
      exact hi hm
    rcases CI (c:=c) (c':=c') EY lh hle i with ⟨i',a0,_,a1,a2,a3⟩|⟨a0,a1,a2,a3,a4⟩|⟨_,a0⟩
    · rcases CI (c:=c) (c':=c') EY lh hle j with ⟨j',b0,_,b1,b2,b3⟩|⟨b0,b1,b2,b3,b4⟩|⟨_,b0⟩
      · rw[a1,Dr]at hi; rw[b1,Dr]at hj
        rw[a2]at h1; rw[b2]at h2
        rw[←a0,←b0,Ux.inj i' j' b hi hj h1 h2]
      · rw[a1,Dr]at hi; rw[b2]at hj
        rw[a2]at h1; rw[b3]at h2
        exact (key j i' b b0 hj h2 hi h1).elim
      · rw[b0]at hj; exact hj.elim
    · rcases CI (c:=c) (c':=c') EY lh hle j with ⟨j',b0,_,b1,b2,b3⟩|⟨b0,b1,b2,b3,b4⟩|⟨_,b0⟩
      · rw[a2]at hi; rw[b1,Dr]at hj
        rw[a3]at h1; rw[b2]at h2
        exact (key i j' b a0 hi h1 hj h2).elim
      · rw[a2]at hi; rw[b2]at hj
        rw[a3]at h1; rw[b3]at h2
        exact wf.inj i j b hi hj h1 h2
      · rw[b0]at hj; exact hj.elim
    · rw[a0]at hi; exact hi.elim
end

section
variable {tt:dM} {h:az} {R:Type}

theorem BJ {t off:Nat} {cs:List V} {k0:V→Option R} {r:R} (hk:ss tt t cs off k0=some r) :
    ∃v,k0 v=some r∧∀k:V→Option R,ss tt t cs off k=k v:=by
  unfold ss at hk
  split at hk
  · rename_i sZ
    split at hk
    · rename_i L0
      split at hk
      · rename_i qS
        exact ⟨_,hk,fun k=>by simp[ss,sZ,L0,qS]⟩
      · cases hk
    · rename_i L0
      split at hk
      · rename_i v hv
        exact ⟨_,hk,fun k=>by simp[ss,sZ,L0,hv]⟩
      · cases hk
  · cases hk

theorem Ir {op:BinOp} {x y:V} {k0:V→Option R} {r:R} (hk:xV op x y k0=some r) :
    ∃v,k0 v=some r∧∀k:V→Option R,xV op x y k=k v:=by
  unfold xV at hk
  split at hk
  · obtain ⟨hb,hk⟩:=cy hk
    exact ⟨_,hk,fun k=>by simp[xV,cU,hb]⟩
  · obtain ⟨hb,hk⟩:=cy hk
    exact ⟨_,hk,fun k=>by simp[xV,cU,hb]⟩
  · split at hk
    · rename_i xW
      subst xW
      split at hk <;> first
        | (exact ⟨_,hk,fun k=>by simp[xV]⟩)
        | (obtain ⟨hb,hk⟩:=cy hk; exact ⟨_,hk,fun k=>by simp only[xV,hb,cU,cond_true,if_true]⟩)
        | cases hk
    · cases hk
  · split at hk <;> first
        | (exact ⟨_,hk,fun k=>by simp[xV]⟩)
        | (obtain ⟨hb,hk⟩:=cy hk; exact ⟨_,hk,fun k=>by simp only[xV,hb,cU,cond_true]⟩)
        | cases hk
  · split at hk
    · exact ⟨_,hk,fun k=>by simp[xV, *]⟩
    · cases hk
  · split at hk
    · exact ⟨_,hk,fun k=>by simp[xV, *]⟩
    · cases hk
  · cases hk

theorem XZ {op:BinOp} {x y:V} {k0:V→Option R} {r:R} (hk:PG op x y k0=some r) :
    ∃v,k0 v=some r∧∀k:V→Option R,PG op x y k=k v:=by
  unfold PG at hk
  split at hk
  · split at hk
    · exact ⟨_,hk,fun k=>by simp[PG, *]⟩
    · exact ⟨_,hk,fun k=>by simp[PG, *]⟩
    · cases hk
  · cases hk

theorem ifK_nat {op:BinOp} {o:Operand} {x y:V} {k0:V→Option R} {r:R} (hk:ifK op o x y k0=some r) :
    ∃v,k0 v=some r∧∀k:V→Option R,ifK op o x y k=k v:=by
  unfold ifK at hk
  split at hk <;> first|(exact ⟨_,hk,fun k=>by simp[ifK]⟩)|cases hk

theorem OM {a:V} {neg:Bool} {k0:V→Option R} {r:R} (hk:EJ a (fun r=>k0 (LQ neg r))=some r) :
    ∃v,k0 v=some r∧∀k:V→Option R,EJ a (fun r=>k (LQ neg r))=k v:=by
  unfold EJ at hk
  split at hk <;> try cases hk
  · exact ⟨_,hk,fun k=>by simp[EJ]⟩
  · rename_i l _
    cases hl:l.isEmpty with
    | true=>rw[hl]at hk; exact ⟨_,hk,fun k=>by simp only[EJ,hl]; rfl⟩
    | false=>rw[hl]at hk; exact ⟨_,hk,fun k=>by simp only[EJ,hl]; rfl⟩
  · rename_i n
    cases hl:decide (n=0)with
    | true=>rw[hl]at hk; exact ⟨_,hk,fun k=>by simp only[EJ,hl]; rfl⟩
    | false=>rw[hl]at hk; exact ⟨_,hk,fun k=>by simp only[EJ,hl]; rfl⟩

theorem slK_nat {op:BinOp} {x y:V} {k0:V→Option R} {r:R} (hk:slK op x y k0=some r) :
    ∃v,k0 v=some r∧∀k:V→Option R,slK op x y k=k v:=by
  unfold slK at hk
  split at hk
  · split at hk
    · obtain ⟨v,h1,h2⟩:=OM hk
      exact ⟨v,h1,fun k=>by simp[slK,h2]⟩
    · obtain ⟨v,h1,h2⟩:=OM hk
      exact ⟨v,h1,fun k=>by simp[slK,h2]⟩
    · cases hk
  · cases hk

theorem Du {v:Option V} {d:Int} {k0:Int→Option R} {r:R} (hk:Fv v d k0=some r) :
    ∃n,k0 n=some r∧∀k:Int→Option R,Fv v d k=k n:=by
  unfold Fv at hk
  split at hk
  · exact ⟨_,hk,fun k=>rfl⟩
  · exact ⟨_,hk,fun k=>rfl⟩
  · cases hk

theorem opP_nat {o:Op} {ρ:Operand→V} {k0:V→Option R} {r:R} (hk:opP tt o ρ k0=some r) :
    ∃v,k0 v=some r∧∀k:V→Option R,opP tt o ρ k=k v:=by
  cases o <;> simp only[opP]at hk ⊢ <;> try (first|cases hk)
  case move x=>exact ⟨_,hk,fun k=>rfl⟩
  case assign x=>exact ⟨_,hk,fun k=>rfl⟩
  case pick c a b =>
    split at hk
    · rename_i t ht
      split at hk
      · rename_i u v hu hv
        exact ⟨_,hk,fun k=>by simp[ht,hu,hv]⟩
      · rename_i u v hn
        refine ⟨bif t then ρ a else ρ b,by cases t <;> exact hk,fun k => ?_⟩
        cases t <;> rfl
    · cases hk
  case nilCheck x =>
    split at hk <;> first|(exact ⟨_,hk,fun k=>by simp[*]⟩)|cases hk
  case binOp op t x y _ =>
    split at hk
    · split at hk
      · obtain ⟨v,h1,h2⟩:=Ir hk
        exact ⟨v,h1,fun k=>by simp[*]⟩
      · cases hk
    · split at hk
      · obtain ⟨v,h1,h2⟩:=Ir hk
        exact ⟨v,h1,fun k=>by simp[*]⟩
      · cases hk
    · obtain ⟨v,h1,h2⟩:=Ir hk
      exact ⟨v,h1,fun k=>by simp[*]⟩
    · obtain ⟨v,h1,h2⟩:=Ir hk
      exact ⟨v,h1,fun k=>by simp[*]⟩
    · rename_i n1 n2 n3 n4
      split at hk
      · rename_i hd
        obtain ⟨v,h1,h2⟩:=XZ hk
        exact ⟨v,h1,fun k=>by simp[*]⟩
      · rename_i hd
        obtain ⟨v,h1,h2⟩:=slK_nat hk
        exact ⟨v,h1,fun k=>by simp[*]⟩
      · rename_i hd
        obtain ⟨v,h1,h2⟩:=ifK_nat hk
        exact ⟨v,h1,fun k=>by simp[*]⟩
      · cases hk
  case unOp op _ x =>
    split at hk <;> first|(exact ⟨_,hk,fun k=>by simp[*]⟩)|cases hk
  case makeInterface t x =>
    split at hk <;> first|(exact ⟨_,hk,fun k=>by simp[*]⟩)|cases hk
  case convert s d x =>
    split at hk
    · cases hk
    · split at hk
      · exact ⟨_,hk,fun k=>by simp[*]⟩
      · split at hk
        · exact ⟨_,hk,fun k=>by simp[*]⟩
        · cases hk
      · cases hk
  case fieldAddr s x f =>
    split at hk <;> try (first|cases hk)
    split at hk <;> try (first|cases hk)
    split at hk <;> try (first|cases hk)
    split at hk <;> first|(exact ⟨_,hk,fun k=>by simp_all⟩)|cases hk
  case field s x f =>
    split at hk <;> try (first|cases hk)
    split at hk <;> try (first|cases hk)
    obtain ⟨v,h1,h2⟩:=BJ hk
    exact ⟨v,h1,fun k=>by simp[*]⟩
  case indexAddr t x i =>
    unfold idxOf at hk ⊢
    split at hk <;> try (first|cases hk)
    split at hk <;> try (first|cases hk)
    · split at hk <;> try (first|cases hk)
      obtain ⟨hb,hk⟩:=cy hk
      exact ⟨_,hk,fun k=>by simp_all [cU]⟩
    · split at hk <;> try (first|cases hk)
      obtain ⟨hb,hk⟩:=cy hk
      exact ⟨_,hk,fun k=>by simp_all [cU]⟩
    · split at hk <;> try (first|cases hk)
      obtain ⟨hb,hk⟩:=cy hk
      exact ⟨_,hk,fun k=>by simp_all [cU]⟩
  case index t x i =>
    unfold idxOf at hk ⊢
    split at hk <;> try (first|cases hk)
    split at hk <;> try (first|cases hk)
    · obtain ⟨hb,hk⟩:=cy hk
      exact ⟨_,hk,fun k=>by simp_all [cU]⟩
    · obtain ⟨hb,hk⟩:=cy hk
      obtain ⟨v,h1,h2⟩:=BJ hk
      exact ⟨v,h1,fun k=>by simp_all [cU]⟩
  case slice t x lo hi mx =>
    split at hk <;> try (first|cases hk)
    split at hk <;> try (first|cases hk)
    · rename_i hd hx
      obtain ⟨n,hk,e1⟩:=Du hk
      obtain ⟨m,hk,e2⟩:=Du hk
      obtain ⟨hb,hk⟩:=cy hk
      obtain ⟨NP,hk⟩:=cy hk
      exact ⟨_,hk,fun k=>by simp only[hd,hx,e1,e2,hb,NP,cU,cond_true]⟩
    · rename_i hd hx
      split at hk <;> try (first|cases hk)
      rename_i hc
      obtain ⟨n,hk,e1⟩:=Du hk
      split at hk
      · obtain ⟨hb,hk⟩:=cy hk
        exact ⟨_,hk,fun k=>by simp only[hd,hx,hc,e1,hb,cU,cond_true,if_true]⟩
      · obtain ⟨m,hk,e2⟩:=Du hk
        obtain ⟨hb,hk⟩:=cy hk
        obtain ⟨NP,hk⟩:=cy hk
        exact ⟨_,hk,fun k=>by simp only[hd,hx,hc,e1,e2,hb,NP,cU,cond_true,if_true]⟩
    · rename_i hd hx
      split at hk <;> try (first|cases hk)
      rename_i hc
      obtain ⟨n,hk,e1⟩:=Du hk
      obtain ⟨m,hk,e2⟩:=Du hk
      obtain ⟨hb,hk⟩:=cy hk
      exact ⟨_,hk,fun k=>by rw[if_neg hc]; simp only[e1,e2,hb,cU,cond_true]⟩
  case makeFunc f first cap =>
    cases f <;> simp only at hk ⊢ <;> first|(exact ⟨_,hk,fun k=>rfl⟩)|cases hk
  case extract t i =>
    split at hk <;> try (first|cases hk)
    split at hk <;> try (first|cases hk)
    exact ⟨_,hk,fun k=>by simp[*]⟩
  case build t parts =>
    split at hk <;> try (first|cases hk)
    all_goals
      rename_i hd
      split at hk <;> try (first|cases hk)
      rename_i hc
      split at hk <;> try (first|cases hk)
      rename_i hf
      exact ⟨_,hk,fun k=>by rw[if_neg hc]⟩
  case call c =>
    split at hk <;> try (first|cases hk)
    · split at hk <;> try (first|cases hk)
      split at hk <;> try (first|cases hk)
      all_goals exact ⟨_,hk,fun k=>by simp[*]⟩
    · split at hk <;> try (first|cases hk)
      split at hk <;> try (first|cases hk)
      exact ⟨_,hk,fun k=>by simp[*]⟩
    · split at hk <;> try (first|cases hk)
      split at hk <;> try (first|cases hk)
      exact ⟨_,hk,fun k=>by simp[*]⟩

def bZ.rd:bZ→bZ
  | .tok | .dead => .free
  | ob=>ob
theorem Rt {a b:bZ} (h:a.rd=b.rd):a=b∨((a = .tok∨a = .dead∨a = .free)∧(b = .tok∨b = .dead∨b = .free)):=by
  cases a <;> cases b <;> simp[bZ.rd]at h ⊢ <;> exact h
theorem X0 {a b:bZ} (h:a.rd=b.rd) {cs:List V} (hb:b = .cells cs):a = .cells cs:=by
  rcases Rt h with h|⟨_,h⟩
  · rw[h,hb]
  · rw[hb]at h; simp at h
theorem rd_bld {a b:bZ} (h:a.rd=b.rd) {v:V} (hb:b = .kR v):a = .kR v:=by
  rcases Rt h with h|⟨_,h⟩
  · rw[h,hb]
  · rw[hb]at h; simp at h
theorem X1 {a b:bZ} (h:a.rd=b.rd) {T:Ty} {l:List T.den} (hb:b = .row T l):a = .row T l:=by
  rcases Rt h with h|⟨_,h⟩
  · rw[h,hb]
  · rw[hb]at h; simp at h

theorem rd_amap {a b:bZ} (h:a.rd=b.rd) {K T:Ty} {l:List (K.den × T.den)} (hb:b = .vC K T l):a = .vC K T l:=by
  rcases Rt h with h|⟨_,h⟩
  · rw[h,hb]
  · rw[hb]at h; simp at h

theorem opR_nat {o:Op} {ρ:Operand→V} {lim:Option Nat} {k0:V→Option R} {r:R} (hk:Vm tt o ρ h lim k0=some r) :
    ∃v,k0 v=some r∧∀(h2:az),(∀i,EK lim i=true→(h2.at i).rd=(h.at i).rd)→∀k:V→Option R,Vm tt o ρ h2 lim k=k v:=by
  cases o <;> simp only[Vm]at hk ⊢ <;> try (first|cases hk)
  case load t x =>
    split at hk <;> try (first|cases hk)
    · split at hk <;> try (first|cases hk)
      rename_i hl
      split at hk <;> try (first|cases hk)
      all_goals rename_i hc
      · obtain ⟨v,h1,h2⟩:=BJ hk
        exact ⟨v,h1,fun hh e k=>by have e':=X0 (e _ hl) hc; clear e; simp only[*,if_true]⟩
      · obtain ⟨v,h1,h2⟩:=BJ hk
        exact ⟨v,h1,fun hh e k=>by have e':=rd_bld (e _ hl) hc; clear e; simp only[*,if_true]⟩
    · obtain ⟨v,h1,h2⟩:=BJ hk
      exact ⟨v,h1,fun hh e k=>by simp only[*]⟩
    · split at hk <;> try (first|cases hk)
      rename_i hl
      split at hk <;> try (first|cases hk)
      rename_i T l hc
      split at hk <;> try (first|cases hk)
      rename_i hs
      obtain ⟨hb,hk⟩:=cy hk
      obtain ⟨v,h1,h2⟩:=BJ hk
      exact ⟨v,h1,fun hh e k=>by have e':=X1 (e _ hl) hc; clear e; simp only[*,if_true,cU,cond_true]⟩
  case lookup t x ix ok =>
    split at hk <;> try (first|cases hk)
    rename_i kt vt i h1 h2
    split at hk <;> try (first|cases hk)
    rename_i hl
    split at hk <;> try (first|cases hk)
    rename_i K T l hc
    split at hk <;> try (first|cases hk)
    rename_i hf
    split at hk <;> try (first|cases hk)
    rename_i kx hx
    refine ⟨bif ok then .tuple [NO T (nP K T kx l), .bool (DU K T kx l)]else NO T (nP K T kx l),by cases ok <;> exact hk,fun hh e k => ?_⟩
    have e':=rd_amap (e _ hl) hc
    clear e
    simp only[h1,h2,hl,e',hf,hx,if_true]
    cases ok <;> rfl
  case convert s d x =>
    split at hk <;> try (first|cases hk)
    · rename_i e i n h1 h2 h3
      split at hk <;> try (first|cases hk)
      rename_i hl
      split at hk <;> try (first|cases hk)
      rename_i h4 h5
      exact ⟨_,hk,fun hh e k=>by have e':=X1 (e _ hl) h5; clear e; simp only[*,if_true]⟩
    · rename_i h1 h2 h3
      split at hk <;> try (first|cases hk)
      · rename_i h4
        exact ⟨_,hk,fun hh e k=>by simp only[*]⟩
      · rename_i h4
        obtain ⟨hb,hk⟩:=cy hk
        exact ⟨_,hk,fun hh e k=>by simp only[*,cU,cond_true]⟩
    · rename_i h1 h2 h3
      split at hk <;> try (first|cases hk)
      rename_i h4
      exact ⟨_,hk,fun hh e k=>by simp only[*]⟩

theorem opA_nat {o:Op} {ρ:Operand→V} {k0:bZ→(Nat→V)→Option R} {r:R} (hk:Xl tt o ρ k0=some r) :
    ∃ob mk,k0 ob mk=some r∧∀k:bZ→(Nat→V)→Option R,Xl tt o ρ k=k ob mk:=by
  cases o <;> simp only[Xl]at hk ⊢ <;> try (first|cases hk)
  case alloc t =>
    split at hk
    · exact ⟨_,_,hk,fun k=>by simp[*]⟩
    · split at hk <;> try (first|cases hk)
      exact ⟨_,_,hk,fun k=>by simp[*]⟩
  case box t x =>
    split at hk <;> try (first|cases hk)
    split at hk <;> try (first|cases hk)
    exact ⟨_,_,hk,fun k=>by simp only[*,if_true]⟩
  case buildSlice t len parts =>
    split at hk <;> try (first|cases hk)
    split at hk <;> try (first|cases hk)
    rename_i hc
    split at hk <;> try (first|cases hk)
    · rename_i h1 h2
      split at hk <;> try (first|cases hk)
      rename_i h3
      split at hk
      · exact ⟨_,_,hk,fun k=>by simp only[*,if_true,if_false]; rfl⟩
      split at hk
      · exact ⟨_,_,hk,fun k=>by simp only[*,if_true,if_false]; rfl⟩
      · exact ⟨_,_,hk,fun k=>by simp only[*,if_true,if_false]; rfl⟩
    · exact ⟨_,_,hk,fun k=>by simp only[*,if_true,if_false]; rfl⟩
  case makeSlice t n c =>
    split at hk <;> try (first|cases hk)
    split at hk <;> try (first|cases hk)
    split at hk <;> try (first|cases hk)
    split at hk <;> try (first|cases hk)
    rename_i h3
    obtain ⟨hb,hk⟩:=cy hk
    exact ⟨_,_,hk,fun k=>by simp only[*,if_true,cU,cond_true]⟩
  case convert s d x =>
    split at hk <;> try (first|cases hk)
    split at hk <;> try (first|cases hk)
    exact ⟨_,_,hk,fun k=>by simp[*]⟩
  case range t x =>
    split at hk <;> try (first|cases hk)
    exact ⟨_,_,hk,fun k=>by simp[*]⟩
  case makeMap t rsv =>
    split at hk <;> try (first|cases hk)
    rename_i h1
    split at hk <;> try (first|cases hk)
    rename_i kt vt h2
    split at hk <;> try (first|cases hk)
    rename_i K V' h3 h4
    split at hk <;> try (first|cases hk)
    rename_i h5
    exact ⟨_,_,hk,fun k=>by simp only[h1,h2,h3,h4,h5,if_true]⟩

theorem mapF {β:Type} {ρ ρ':Operand→V} (f:Nat→V→β) (ps:List (Nat × Operand)) (h:∀x∈ps.map (·.2),ρ x=ρ' x) :
    (ps.map fun (i,x)=>f i (ρ x))=(ps.map fun (i,x)=>f i (ρ' x)) :=
  List.map_congr_left fun p hm=>by
    obtain ⟨i,x⟩:=p
    simp only[h x (List.mem_map.2 ⟨(i,x),hm,rfl⟩)]

theorem ON {o:Op} {ρ ρ':Operand→V} (h:∀x∈o.operands,ρ x=ρ' x) {k:V→Option R}:opP tt o ρ k=opP tt o ρ' k:=by
  cases o <;> simp only[Op.operands]at h <;> simp only[opP]
  case build t ps =>
    have hp:∀x∈ps.toList.map (·.2),ρ x=ρ' x:=fun x hx=>h x (by simpa using hx)
    split
    · rename_i fs hd
      rw[mapF (fun i v=>((fs.getD i (0,0)).1,if i<fs.length then (tt.at (fs.getD i (0,0)).2).size else 1000000,v)) ps.toList hp]
    · rename_i e hd
      rw[mapF (fun i v=>(i*(tt.at e).size,(tt.at e).size,v)) ps.toList hp]
    · rfl
  case makeFunc f first cap =>
    cases f <;> simp only
    rw[List.map_congr_left (l:=first.toList) (g:=ρ') fun x hx=>h x (by simp at hx ⊢; exact .inl hx),List.map_congr_left (l:=cap.toList) (g:=ρ') fun x hx=>h x (by simp at hx ⊢; exact .inr hx)]
  case slice t x lo hi mx=>cases lo <;> cases hi <;> cases mx <;> simp_all
  case call c =>
    obtain ⟨callee,args,argTypes⟩:=c
    have ha:∀x∈args.toList,ρ x=ρ' x:=fun x hx=>h x (by simp[Call.operands]at hx ⊢; exact .inr hx)
    simp only
    split
    · rename_i x e; rw[ha x (by rw[e]; simp)]
    · rename_i x y e; rw[ha x (by rw[e]; simp),ha y (by rw[e]; simp)]
    · rename_i x y e; rw[ha x (by rw[e]; simp),ha y (by rw[e]; simp)]
    · rfl
  all_goals (first|rfl|(simp_all; done))

theorem OO {o:Op} {ρ ρ':Operand→V} (h':∀x∈o.operands,ρ x=ρ' x) {lim:Option Nat} {k:V→Option R}:Vm tt o ρ h lim k=Vm tt o ρ' h lim k:=by
  cases o <;> simp only[Op.operands]at h' <;> simp only[Vm]
  all_goals (first|rfl|(simp_all; done))

theorem OP {o:Op} {ρ ρ':Operand→V} (h':∀x∈o.operands,ρ x=ρ' x) {k:bZ→(Nat→V)→Option R}:Xl tt o ρ k=Xl tt o ρ' k:=by
  cases o <;> simp only[Op.operands]at h' <;> simp only[Xl]
  case makeMap t rsv =>
    have e:Dj ρ rsv=Dj ρ' rsv:=by
      cases rsv with
      | none=>rfl
      | some x=>simp only[Dj]; rw[h' x (by simp)]
    rw[e]
  case buildSlice t len ps =>
    have hp:∀x∈ps.toList.map (·.2),ρ x=ρ' x:=fun x hx=>h' x (by simpa using hx)
    split
    · rename_i e hd
      rw[mapF (fun i v=>(i*(tt.at e).size,(tt.at e).size,v)) ps.toList hp]
    · rfl
  all_goals (first|rfl|(simp_all; done))

theorem OQ {o:Op} {ρ ρ':Operand→V} (h':∀x∈o.operands,ρ x=ρ' x) {id:Nat} {k:V→az→Option R}:Lp tt o ρ h id k=Lp tt o ρ' h id k:=by
  cases o <;> simp only[Op.operands]at h' <;> simp only[Lp]
  case call c =>
    obtain ⟨callee,args,argTypes⟩:=c
    have ha:∀x∈args.toList,ρ x=ρ' x:=fun x hx=>h' x (by simp[Call.operands]at hx ⊢; exact .inr hx)
    simp only
    split
    · rename_i x y t xt e et; rw[ha x (by rw[e]; simp),ha y (by rw[e]; simp)]
    · rfl
  all_goals (first|rfl|(simp_all; done))
end

section
variable {P:Program} {tt:dM} {w w':World} {h h':az} {c c':ko} {R:Type}

theorem AV:∀(l:List Nat) (h:az),Ext w h c w (oh h l) c
  | [],h => .refl _ _ _
  | i::l,h=>by
    simp only[oh]
    split
    · exact (FB i).trans (AV l _)
    · exact AV l h

theorem CJ:∀(l:List Nat) (h:az),WF w h c→WF w (oh h l) c
  | [],h,wf=>wf
  | i::l,h,wf=>by
    simp only[oh]
    split
    · exact CJ l _ (PR wf i)
    · exact CJ l h wf

theorem zD:∀(l:List Nat) (h:az) (j:Nat),az.at (oh h l) j=h.at j∨az.at (oh h l) j = .dead
  | [],h,j => .inl rfl
  | i::l,h,j=>by
    simp only[oh]
    split
    · rcases zD l (h.set i .dead) j with e|e
      · rw[e,nG]
        split
        · exact .inr rfl
        · exact .inl rfl
      · exact .inr e
    · exact zD l h j

theorem FC:∀(l:List Nat) (h:az) (j:Nat) {T:Ty} {m:List T.den},j∈l→h.at j = .row T m→az.at (oh h l) j = .dead
  | [],_,_,_,_,hj,_=>by cases hj
  | i::l,h,j,T,m,hj,he=>by
    simp only[oh]
    by_cases xW:i=j
    · subst xW
      split
      · rcases zD l (h.set i .dead) i with e|e
        · rw[e]; exact ni _ (az.gK he (by simp))
        · exact e
      · rename_i hn; exact (hn T m he).elim
    · have OD:j∈l:=by
        rcases List.mem_cons.1 hj with rfl|h
        · exact (xW rfl).elim
        · exact h
      split
      · exact FC l _ j OD (by rw[cZ _ xW]; exact he)
      · exact FC l h j OD he

theorem Iu (h:az):∀l:List V,V.Kn h l=l.map (V.shut h)
  | []=>rfl
  | v::l=>by simp only[V.Kn,List.map_cons,Iu h l]

theorem ui.dead {ids:List Nat} {b x:Nat} (ho:ui (oh h ids) c b x):ui h c b x:=by
  obtain ⟨i,f,g1,g2,g3⟩:=ho
  rcases zD ids h i with e|e
  · exact ⟨i,f,g1,e▸g2,g3⟩
  · rw[e]at g2; cases g2

theorem X2 (wf:WF w h c) {ids:List Nat} {v:V} {d:Value} (r:dH w h c v d):(∀i∈v.ids,i∈ids)→dH w (oh h ids) c (v.shut h) d:=by
  have x:=AV (w:=w) (c:=c) ids h
  induction r with
  | sl f lY sY hc hr yl ng=>exact fun _=>(dH.sl (t := .no) f lY sY hc hr (by simp) (by simp)).mono x
  | @row i n v hi hn hv =>
    intro Mm
    simp only[V.shut]
    split
    · rename_i T l he
      obtain ⟨A,cap,rfl,hA,hv⟩:=hv
      obtain ⟨N3,hle,sY,hor⟩:=hv T l he
      obtain ⟨ds,rds,yi⟩:=PS wf he
      subst N3
      refine CF (rds.mono x) hle sY (fun hl => ?_) (by simp) (by simp)
      obtain ⟨b,hb,Ck⟩:=yi hl
      rcases hor with ⟨h1,_⟩|⟨b',arr,e,fz,h1,h2,h3,h4⟩
      · rw[hb]at h1; cases h1
      · rw[hb]at h1; cases h1
        refine ⟨b,c.off i,h2,Ck,fun y hy1 hy2 => ?_⟩
        have ng:ui h c b y:=⟨i,0,hb,by rw[he]; rfl,Nat.zero_le _⟩
        refine ⟨fun ho => ?_,wf.ym b y ng⟩
        obtain ⟨j,f,g1,g2,g3⟩:=ho
        have hdead:=FC ids h i (Mm i (by simp[V.ids])) he
        rcases zD ids h j with e'|e'
        · have hlj:(h.at j).live:=by rw[e']at g2; exact tK g2
          have:=wf.inj i j b (by rw[he]; trivial) hlj hb g1
          subst this
          rw[hdead]at g2
          cases g2
        · rw[e']at g2; cases g2
    · exact .undef _
  | @agg cs y hl _ ih =>
    intro Mm
    simp only[V.shut,Iu]
    refine .agg (by simpa using hl) fun j v d hv hd => ?_
    rw[List.getElem?_map]at hv
    cases e:cs[j]? with
    | none=>rw[e]at hv; cases hv
    | some u =>
      rw[e]at hv; simp at hv; subst hv
      exact ih j u d e hd fun i hi=>Mm i (by simp only[V.ids]; exact rT.2 ⟨j,u,e,hi⟩)
  | @tuple cs y hl _ ih =>
    intro Mm
    simp only[V.shut,Iu]
    refine .tuple (by simpa using hl) fun j v d hv hd => ?_
    rw[List.getElem?_map]at hv
    cases e:cs[j]? with
    | none=>rw[e]at hv; cases hv
    | some u =>
      rw[e]at hv; simp at hv; subst hv
      exact ih j u d e hd fun i hi=>Mm i (by simp only[V.ids]; exact rT.2 ⟨j,u,e,hi⟩)
  | undef v=>exact fun _ => .undef _
  | int hn=>exact fun _ => .int hn
  | bool b=>exact fun _ => .bool b
  | str hl=>exact fun _ => .str hl
  | eQ=>exact fun _ => .eQ
  | cG=>exact fun _ => .cG
  | aV=>exact fun _ => .aV
  | oL=>exact fun _ => .oL
  | cS=>exact fun _ => .cS
  | iface t v=>exact fun _ => .iface t v
  | Ft hn=>exact fun _ => .Ft hn
  | Dh hi hn hv=>exact fun _=>(dH.Dh hi hn hv).mono x
  | Gx b=>exact fun _ => .Gx b
  | ptr hi hv=>exact fun _=>(dH.ptr hi hv).mono x
  | map hi hv=>exact fun _=>(dH.map hi hv).mono x
  | tH hi hv=>exact fun _=>(dH.tH hi hv).mono x
  | xU f hc hr _=>exact fun _=>(dH.xU f hc hr).mono x
  | NN hn sY f hc hr _=>exact fun _=>(dH.NN hn sY f hc hr).mono x
  | func ha hb hra hrb _ _=>exact fun _=>(dH.func ha hb hra hrb).mono x

theorem OR (wf:WF w h c) {vs:List V} {ds:List Value} (r:cH w h c vs ds):cH w (oh h (V.sW vs)) c (V.Kn h vs) ds:=by
  rw[Iu]
  refine ⟨by simpa using r.1,fun j v d hv hd => ?_⟩
  rw[List.getElem?_map]at hv
  cases e:vs[j]? with
  | none=>rw[e]at hv; cases hv
  | some u =>
    rw[e]at hv; simp at hv; subst hv
    exact X2 wf (r.2 j u d e hd) fun i hi=>rT.2 ⟨j,u,e,hi⟩

theorem OS {t:Nat} {v:V} {d:Value} (r:dH w h c v d):dH w h c (canon tt t v) d:=by
  unfold canon
  split
  · rename_i T hT
    split
    · rename_i cs
      split
      · rename_i x hx
        split
        · cases r with
          | @agg _ y hl hr =>
            have rl:cH w h c cs y.toList:=⟨by simpa using hl,fun j v d hv hd=>hr j v d hv (by simpa using hd)⟩
            have:=Gk hx rl
            exact .agg (by simpa using this.1) fun j v d hv hd=>this.2 j v d hv (by simpa using hd)
        · exact r
      · exact r
    · split
      · rename_i x hx
        split
        · exact r
        · have:=Gk hx (cH.cons r cH.nil)
          split
          · rename_i e he
            rw[he]at this
            exact this.head
          · exact r
      · exact r
  · split
    · split
      · split
        · rename_i l hl; exact Ma r hl
        · exact r
      · exact r
    · exact r

theorem Mn:∀(ts:List Nat) {vs:List V} {ds:List Value},cH w h c vs ds→cH w h c (Hl tt ts vs) ds
  | [],vs,ds,r=>by simpa [Hl]using r
  | t::ts, [],ds,r=>by simpa [Hl]using r
  | t::ts,v::vs, [],r=>by have:=r.1; simp at this
  | t::ts,v::vs,d::ds,r => .cons (OS r.head) (Mn ts r.tail)

theorem JH {v:V} {d:Value} (hs:v.OA=true) (r:dH w h c v d):dH w' h' c' v d:=by
  cases r <;> simp only[V.OA]at hs <;> try (first|cases hs)
  case int hn=>exact .int hn
  case bool b=>exact .bool b
  case str hl=>exact .str hl
  case eQ=>exact .eQ
  case cG=>exact .cG
  case aV=>exact .aV
  case oL=>exact .oL
  case cS=>exact .cS
  case iface t v=>exact .iface t v
  case Ft hn=>exact .Ft hn

theorem X3 {v:V} {d:Value} (hs:v.Vn=true) (r:dH w h c v d):dH w' h' c' v d:=by
  cases r
  case agg hl hr =>
    simp only[V.Vn,List.all_eq_true]at hs
    exact .agg hl fun j v d hv hd=>JH (hs v (List.mem_of_getElem? hv)) (hr j v d hv hd)
  case tuple hl hr =>
    simp only[V.Vn,List.all_eq_true]at hs
    exact .tuple hl fun j v d hv hd=>JH (hs v (List.mem_of_getElem? hv)) (hr j v d hv hd)
  all_goals first
    | exact JH (w:=w) (h:=h) (c:=c) hs (by constructor <;> assumption)
    | (simp only[V.Vn,V.OA]at hs; cases hs)

theorem V5 {c1 c2:ko} (wf:WF w h c) (x:Ext w [] c1 w' h' c2):Ext w h c w' h c∧WF w' h c:=by
  have nown:∀b y, ¬ui ([]:az) c1 b y:=fun b y ho=>by
    obtain ⟨i,f,_,g2,_⟩:=ho
    simp[az.at,bZ.from_]at g2
  have hx:Ext w h c w' h c := {
    os:=x.os
    tape:=x.tape
    output:=x.output
    size:=x.size
    used:=fun _ hi=>hi
    same:=fun i hi hd=>⟨by have h2:=hi.2; revert hd h2; cases h.at i <;> simp[bZ.iR],rfl,rfl⟩
    cell:=fun b y hb _=>x.cell b y hb (nown b y)
    block:=fun b hb _=>x.block b hb (nown b)
    wD:=fun _ _ _ ho=>ho
    ext:=rfl
    arr:=x.arr }
  refine ⟨hx,?_,fun b y hb=>Nat.lt_of_lt_of_le (wf.pS b y hb) x.size,fun i hi => ?_,wf.inj,wf.sv hx⟩
  · exact wf.ym
  · by_cases hl:(h.at i).live
    · exact (wf.obj i hi).keep hx (fun b hb=>x.block b ((wf.obj i hi).lt hl hb) (nown b)) rfl rfl
    · have h0:h.at i = .free∨h.at i = .dead:=by revert hl; cases h.at i <;> simp[bZ.live]
      rcases h0 with h0|h0 <;> rw[h0] <;> trivial
end

section
variable {P:Program} {tt:dM} {w w':World} {h h':az} {c c':ko} {R:Type}

def wX (P:Program) (g:Nat) (args:Array Value) (w:World) (Q:Value→World→Prop):Prop :=
  ∃nx w1,(callFunc g args).run P w = .ok nx w1 ∧
    match nx with
    | .value d=>Q d w1
    | .enter f xs=>Calls P f xs w1 fun e w'=>∃d,e = .returned d∧Q d w'
    | .row row xs=>Rows P row xs w1 Q
    | _=>False

theorem wX.mono {g:Nat} {args:Array Value} {Q Q':Value→World→Prop} (h:wX P g args w Q) (hq:∀d w',Q d w'→Q' d w'):wX P g args w Q':=by
  obtain ⟨nx,w1,h1,h2⟩:=h
  refine ⟨nx,w1,h1,?_⟩
  cases nx <;> simp only at h2 ⊢
  · exact hq _ _ h2
  · exact Calls.mono h2 fun e w' ⟨d,e1,q⟩=>⟨d,e1,hq _ _ q⟩
  · exact Rows.mono h2 fun d w' q=>hq _ _ q

def Spec.Ok (P:Program) (g:Nat) (sp:Spec R):Prop :=
  ∀vs h k r,sp vs h k=some r→∀(w:World) (c:ko) (args:Array Value),WF w h c→cH w h c vs args.toList →
    wX P g args w fun d w'=>∃v h' c',WF w' h' c'∧Ext w h c w' h' c'∧dH w' h' c' v d∧k v h'=some r

def Spec.X4 (P:Program) (g m:Nat) (sp:Spec R):Prop :=
  ∀vs h k r,h.length=m→sp vs h k=some r→∀(w:World) (c:ko) (args:Array Value),WF w h c→cH w h c vs args.toList →
    wX P g args w fun d w'=>∃v h' c',WF w' h' c'∧Ext w h c w' h' c'∧dH w' h' c' v d∧k v h'=some r

def Iv (sp:Spec R):Prop:=∀vs h k k',(∀v,k v h=k' v h)→sp vs h k=sp vs h k'

def p8 (P:Program) (E:Env R):Prop:=∀g b sp,E g=some (b,sp)→Spec.Ok P g sp∧(b=false→oY.soft g=true→Iv sp)

theorem Iv.same {sp:Spec R} (hs:Iv sp) {vs:List V} {k:V→az→Option R} {r:R} (hk:sp vs h k=some r):∃k',sp vs h k'=some r∧∀v h',k' v h'=some r→h'=h∧k v h=some r:=by
  classical
  refine ⟨fun v h'=>if h'=h then k v h else none,?_,fun v h' e => ?_⟩
  · rw[←hk]
    exact hs _ _ _ _ fun v=>by simp
  · simp only at e
    split at e
    · exact ⟨‹_›,e⟩
    · cases e

theorem Spec.X4.of_body {g m:Nat} {sp:Spec R} {fn:Func} (hf:P.funcs[g]? = some fn) (hn:(fn.name == "runtime.NumGoroutine")=false) (hb:fn.body.isNone=false)
    (hs:∀vs h k r,h.length=m→sp vs h k=some r→∀(w:World) (c:ko) (args:Array Value),WF w h c→cH w h c vs args.toList →
      Calls P g args w fun e w'=>∃d,e = .returned d∧∃v h' c',WF w' h' c'∧Ext w h c w' h' c'∧dH w' h' c' v d∧k v h'=some r):Spec.X4 P g m sp:=by
  intro vs h k r hml hk w c args wf ra
  refine ⟨.enter g args,w,?_,hs vs h k r hml hk w c args wf ra⟩
  have QF:fn.name ≠ "runtime.NumGoroutine" :=by simpa using hn
  have pT:fn.body≠none:=fun e=>by rw[e]at hb; cases hb
  simp[callFunc,hf,QF,pT]

theorem Ru:∀ {v:V},v.ids = []→∀ρ,v.p7 ρ=v:=by
  have key:(∀v:V,v.ids = []→∀ρ,v.p7 ρ=v)∧∀l:List V,V.sW l = []→∀ρ,V.yj ρ l=l:=by
    refine ⟨fun v => ?_,fun l => ?_⟩
    · refine V.rec (motive_1:=fun v=>v.ids = []→∀ρ,v.p7 ρ=v) (motive_2:=fun l=>V.sW l = []→∀ρ,V.yj ρ l=l) ?_ ?_ ?_ ?_ ?_ ?_ ?_ ?_ ?_ ?_ ?_ ?_ ?_ ?_ ?_ ?_ ?_ ?_ ?_ ?_ ?_ ?_ ?_ ?_ ?_ v <;> first
        | (intros; rfl)
        | (intros; simp_all [V.ids,V.sW,V.p7,V.yj]; done)
        | skip
      · intro T l t ht ρ
        cases t <;> simp_all [V.ids,V.p7,Tok.p7]
    · refine V.rec_1 (motive_1:=fun v=>v.ids = []→∀ρ,v.p7 ρ=v) (motive_2:=fun l=>V.sW l = []→∀ρ,V.yj ρ l=l) ?_ ?_ ?_ ?_ ?_ ?_ ?_ ?_ ?_ ?_ ?_ ?_ ?_ ?_ ?_ ?_ ?_ ?_ ?_ ?_ ?_ ?_ ?_ ?_ ?_ l <;> first
        | (intros; rfl)
        | (intros; simp_all [V.ids,V.sW,V.p7,V.yj]; done)
        | skip
      · intro T l t ht ρ
        cases t <;> simp_all [V.ids,V.p7,Tok.p7]
  exact fun {v} hv ρ=>key.1 v hv ρ

theorem Mo (h:az):h.back [] []=h:=by simp[az.back,az.Ad]

def tZ (al:Bool) (id:Nat) (h h':az):Prop:=h.length≤h'.length∧∀j,(al=true→j≠id)→j<h.length→h.at j = .free→h'.at j = .free

theorem Td {ord:List Nat} (EY:ord.Nodup) (hu:∀i∈ord,Used h i) (hle:ord.length≤h'.length):tZ false 0 h (h.back ord h'):=by
  refine ⟨by simp[az.back,fZ],fun j _ hj hf => ?_⟩
  have hn:j∉ord:=fun hm=>(hu j hm).2 hf
  rcases CI (c:=⟨fun _=>none,fun _=>0,⟨fun _ _=>False⟩⟩) (c':=⟨fun _=>none,fun _=>0,⟨fun _ _=>False⟩⟩) EY (fun i hi=>(hu i hi).1) hle j with ⟨i,h1,h2,_⟩|⟨_,_,h3,_⟩|⟨h1,_⟩
  · unfold pA at h1
    split at h1
    · rename_i hi
      simp only[List.getD,List.getElem?_eq_getElem hi,Option.getD_some]at h1
      exact (hn (h1▸List.getElem_mem hi)).elim
    · omega
  · rw[h3]; exact hf
  · simp[az.back,fZ]at h1; omega

theorem Te {st:List V} {a:Act} (r:cH w h c st a.tmps.toList) (x:Operand):dH w h c (ev st x) (a.eval x):=by
  cases x with
  | tmp t =>
    have:=r.getD t undef
    simpa [ev,Act.eval,List.getD,Array.getD_eq_getD_getElem?]using this
  | const v=>exact Kp v
  | global g=>exact .undef _
  | func f=>exact .func rfl rfl (by simp) (by simp)

theorem PX {v:V} {d:Value} (r:dH w h c v d):dH w h c (LR v) d:=by
  cases r with
  | sl f lY sY hc hr yl ng=>exact .sl f lY sY hc hr (by simp) (by simp)
  | _=>simp only[LR]; constructor <;> assumption

theorem Ks {v:V} {d:Value} (r:dH w h c v d):dH w h c (DV v) d:=by
  cases r with
  | sl f lY sY hc hr yl ng=>exact .sl f lY sY hc hr (by simp) (by simp)
  | @agg cs x hl hr =>
    refine .agg (by simpa using hl) fun j v d hv hd => ?_
    rw[List.getElem?_map]at hv
    cases e:cs[j]? with
    | none=>rw[e]at hv; cases hv
    | some u=>rw[e]at hv; simp at hv; subst hv; exact PX (hr j u d e hd)
  | _=>simp only[DV]; constructor <;> assumption

theorem PY {vs:List V} {ds:List Value} (r:cH w h c vs ds):cH w h c (vs.map DV) ds:=by
  refine ⟨by simpa using r.1,fun j v d hv hd => ?_⟩
  rw[List.getElem?_map]at hv
  cases e:vs[j]? with
  | none=>rw[e]at hv; cases hv
  | some u=>rw[e]at hv; simp at hv; subst hv; exact Ks (r.2 j u d e hd)

theorem OT {vs:List V} (h:V.sW vs = []) (ρ:Nat→Option Nat):V.yj ρ vs=vs:=by
  have:∀v∈vs,v.p7 ρ=v:=fun v hv=>by
    refine Ru ?_ _
    cases hi:v.ids with
    | nil=>rfl
    | cons i l =>
      obtain ⟨j,hj⟩:=List.mem_iff_getElem?.1 hv
      have:i∈V.sW vs:=rT.2 ⟨j,v,hj,by rw[hi]; simp⟩
      rw[h]at this; cases this
  rw[Ls]
  conv=>rhs; rw[←List.map_id vs]
  exact List.map_congr_left this

theorem Rv {E:Env R} (hE:p8 P E) (wf:WF w h c) {o:Oper} {cl:Call} (ho:o.op = .call cl) {ρ:Operand→V} {ρ':Operand→Value} (hρ:∀x,dH w h c (ρ x) (ρ' x)) {full:Bool}
    {k:V→az→Option R} {r:R} (hk:yh tt E full cl ρ h k=some r) :
    ∃g args,(execOp ρ' o).run P w=(callFunc g args).run P w∧wX P g args w fun d w' =>
      ∃v h' c',WF w' h' c'∧Ext w h c w' h' c'∧dH w' h' c' v d∧k v h'=some r∧tZ false 0 h h'∧(full=false→h'=h):=by
  obtain ⟨dst,op,type,pos,after,guard⟩:=o
  simp only at ho
  subst ho
  unfold yh at hk
  split at hk <;> try (first|cases hk)
  rename_i f hf
  split at hk <;> try (first|cases hk)
  rename_i g first cap hg
  have rf:=hρ f
  rw[hg]at rf
  generalize hdf:ρ' f=df at rf
  cases rf with
  | @func _ _ _ x y ha hb hra hrb =>
    have X5:cH w h c (first++cl.args.toList.map ρ++cap) (x++cl.args.map ρ'++y).toList:=by
      have e:(x++cl.args.map ρ'++y).toList=x.toList++cl.args.toList.map ρ'++y.toList:=by simp
      rw[e]
      refine cH.append (cH.append ⟨by simpa using ha,fun j v d hv hd=>hra j v d hv (by simpa using hd)⟩ (cH.map _ fun z _=>hρ z)) ⟨by simpa using hb,fun j v d hv hd=>hrb j v d hv (by simpa using hd)⟩
    have X6:cH w h c ((first++Hl tt cl.argTypes.toList (cl.args.toList.map ρ)++cap).map DV) (x++cl.args.map ρ'++y).toList:=by
      have e:(x++cl.args.map ρ'++y).toList=x.toList++cl.args.toList.map ρ'++y.toList:=by simp
      rw[e]
      refine PY (cH.append (cH.append ⟨by simpa using ha,fun j v d hv hd=>hra j v d hv (by simpa using hd)⟩ (Mn _ (cH.map _ fun z _=>hρ z))) ⟨by simpa using hb,fun j v d hv hd=>hrb j v d hv (by simpa using hd)⟩)
    simp only at hk
    refine ⟨g,x++cl.args.map ρ'++y,by simp[execOp,resolve,hf,hdf,Deferred.ofValue,invoke],?_⟩
    generalize (first++Hl tt cl.argTypes.toList (cl.args.toList.map ρ)++cap).map DV=ps at *
    generalize first++cl.args.toList.map ρ++cap=vs at *
    split at hk <;> try (first|cases hk)
    · -- a plain one
      rename_i sp PZ
      split at hk
      · rename_i Mm
        have ra:=Hv (ord := []) X6
        rw[OT Mm]at ra
        refine wX.mono ((hE g _ sp PZ).1 _ _ _ _ hk w _ _ (JF (ord := []) wf List.nodup_nil) ra) fun d w' ⟨v,h',c',Ux,x,rv,rS⟩ => ?_
        obtain ⟨k1,k2,k3⟩:=OK wf (ord := []) (by simp) (by simp) Ux x
        split at rS <;> try (first|cases rS)
        refine ⟨v,h,c.back [] h.length c',?_,?_,?_,rS,⟨Nat.le_refl _,fun j _ _ hf=>hf⟩,fun _=>rfl⟩
        · rw[Mo]at k1; exact k1
        · rw[Mo]at k2; exact k2
        · have:=rv.p7 k3
          rw[Mo]at this
          rw[Ru]at this
          · exact this
          · cases hi:v.ids with
            | nil=>rfl
            | cons i l =>
              have:=rv.zC i (by rw[hi]; simp)
              exact (Nat.not_lt_zero _ this.1).elim
      · cases full with
        | false=>cases hk
        | true =>
          simp only[cond_true]at hk
          unfold XF at hk
          split at hk <;> try (first|cases hk)
          rename_i Mm
          have ra:=Hv (ord := []) (OR wf X6)
          rw[OT Mm]at ra
          refine wX.mono ((hE g _ sp PZ).1 _ _ _ _ hk w _ _ (JF (ord := []) (CJ _ _ wf) List.nodup_nil) ra) fun d w' ⟨v,h',c',Ux,x,rv,rS⟩ => ?_
          split at rS <;> try (first|cases rS)
          cases hs:v.Vn with
          | false=>rw[hs]at rS; cases rS
          | true =>
            rw[hs]at rS
            obtain ⟨hx,hw⟩:=V5 wf x
            exact ⟨v,h,c,hw,hx,X3 hs rv,rS,⟨Nat.le_refl _,fun j _ _ hf=>hf⟩,fun _=>rfl⟩
    · rename_i sp PZ
      cases full with
      | false=>cases hk
      | true =>
        simp only[cond_true]at hk
        cases hso:oY.soft g with
        | true =>
          rw[hso]at hk
          simp only[cond_true]at hk
          obtain ⟨k',V6,Hq⟩:=((hE g _ sp PZ).2 rfl hso).same hk
          refine wX.mono ((hE g _ sp PZ).1 _ _ _ _ V6 w _ _ wf X5) fun d w' ⟨v,h',c',Ux,x,rv,rS⟩ => ?_
          obtain ⟨rfl,hk3⟩:=Hq _ _ rS
          exact ⟨v,_,c',Ux,x,rv,hk3,⟨Nat.le_refl _,fun j _ _ hf=>hf⟩,fun _=>rfl⟩
        | false =>
        rw[hso]at hk
        simp only[cond_false]at hk
        have hui:=X5.zC
        generalize V.sW vs=ids at *
        have hu:∀i∈reach h 64 ids [],Used h i:=Hu wf _ _ _ hui (by simp)
        have EY:(reach h 64 ids []).Nodup:=CH h _ _ _ (by simp)
        refine wX.mono ((hE g _ sp PZ).1 _ _ _ _ hk w _ _ (JF wf EY) (Hv X5)) fun d w' ⟨v,h',c',Ux,x,rv,rS⟩ => ?_
        obtain ⟨k1,k2,k3⟩:=OK wf EY hu Ux x
        have hle:(reach h 64 ids []).length≤h'.length:=by
          rcases Nat.eq_zero_or_pos (reach h 64 ids []).length with h0|h0
          · omega
          · have:=(x.used ((reach h 64 ids []).length - 1) ⟨by simp[az.pick]; omega,by
              rw[vo,List.getElem?_eq_getElem (by omega)]
              simp only[ne_eq,Dq]
              exact (hu _ (List.getElem_mem _)).2⟩).1
            omega
        exact ⟨_,_,_,k1,k2,rv.p7 k3,rS,Td EY hu hle,fun Vx=>by cases Vx⟩
end

section
variable {tt:dM} {h:az} {R:Type}

theorem V7 {T:Ty} {x:V} {id ix:Nat} {ob:bZ} (hx:lowX id x=true) (lh:id<ix):Km T (h.set ix ob) x=Km T h x:=by
  cases x <;> simp only[Km]
  case row i n =>
    simp only[lowX,decide_eq_true_eq]at hx
    rw[cZ _ (by omega)]

theorem Rw {e id ix:Nat} {s x:V} {ob:bZ} {k:V→az→Option R} (hs:SG id s=true) (hx:lowX id x=true) (lh:id<ix) :
    oB tt e s x (h.set ix ob) id k=oB tt e s x h id fun v h'=>k v (h'.set ix ob):=by
  have hc:∀(h:az) (o1:bZ),(h.set ix ob).set id o1=(h.set id o1).set ix ob:=fun h o1=>List.set_comm _ _ (by omega)
  unfold oB
  cases (tt.at e).ty with
  | none=>rfl
  | some T =>
    simp only[V7 hx lh]
    split
    · cases Km T h x with
      | none=>rfl
      | some m =>
        cases s with
        | cG =>
          simp only[hc]
        | sl T' l tk =>
          simp only
          split
          · cases tk with
            | no=>rfl
            | nil=>simp only[hc]
            | own i =>
              simp only[SG,decide_eq_true_eq]at hs
              simp only
              rw[cZ _ (by omega)]
              have hci:∀o1:bZ,(h.set ix ob).set i o1=(h.set i o1).set ix ob:=fun o1=>List.set_comm _ _ (by omega)
              simp only[hci,hc]
          · rfl
        | row i n=>simp[SG]at hs
        | _=>rfl
    · rfl

theorem P0 {e id:Nat} {s x:V} {k k':V→az→Option R} (hs:SG id s=true) (hk:∀v h',(∀i,i<id→(h'.at i).rd=(h.at i).rd)→k v h'=k' v h') :
    oB tt e s x h id k=oB tt e s x h id k':=by
  have h1:∀v o1,k v (h.set id o1)=k' v (h.set id o1):=fun v o1=>hk v _ fun i hi=>by rw[cZ _ (by omega)]
  unfold oB
  cases (tt.at e).ty with
  | none=>rfl
  | some T =>
    simp only
    split
    · cases Km T h x with
      | none=>rfl
      | some m =>
        cases s with
        | cG=>simp only[h1]
        | sl T' l tk =>
          simp only
          split
          · cases tk with
            | no=>rfl
            | nil=>simp only[h1]
            | own i =>
              simp only[SG,decide_eq_true_eq]at hs
              simp only
              have h2:h.at i = .tok→∀v o1,k v ((h.set i .dead).set id o1)=k' v ((h.set i .dead).set id o1):=fun ht v o1=>hk v _ fun j hj=>by
                rw[cZ _ (by omega)]
                by_cases e:i=j
                · subst e
                  rw[ht,nG]
                  split <;> simp[bZ.rd,ht]
                · rw[cZ _ e]
              cases ht:h.at i <;> try rfl
              simp only[h2 ht]
          · rfl
        | row i n=>simp[SG]at hs
        | _=>rfl
    · rfl

theorem P1 {o:Op} (ha:pR o=true):∃c,o = .call c∧c.callee = .builtin .append:=by
  unfold pR at ha
  split at ha <;> try (first|cases ha)
  rename_i c
  refine ⟨c,rfl,?_⟩
  revert ha
  split
  · intro _; assumption
  · intro h; cases h

theorem CK {o:Op} (ha:pR o=true):fF tt o = .W:=by
  obtain ⟨c,rfl,hc⟩:=P1 ha
  simp only[fF,hc]

theorem P2 {o:Op} {ρ ρ':Operand→V} {id:Nat} (h':∀x∈o.operands,ρ x=ρ' x):vD o ρ id=vD o ρ' id:=by
  unfold vD
  split
  · rename_i c
    have ha:∀x∈c.args.toList,ρ x=ρ' x:=fun x hx=>h' x (by simp[Op.operands,Call.operands]at hx ⊢; exact .inr hx)
    split
    · rename_i s x e
      rw[ha s (by rw[e]; simp),ha x (by rw[e]; simp)]
    · rfl
  · rfl

theorem opW_set {o:Op} {ρ:Operand→V} {id ix:Nat} {ob:bZ} {k:V→az→Option R} (ha:pR o=true) (hl:vD o ρ id=true) (lh:id<ix) :
    Lp tt o ρ (h.set ix ob) id k=Lp tt o ρ h id fun v h'=>k v (h'.set ix ob):=by
  obtain ⟨⟨callee,args,argTypes⟩,rfl,hc⟩:=P1 ha
  simp only at hc
  subst hc
  simp only[Lp]
  split
  · rename_i s x t xt _ e et
    simp only[vD,e,Bool.and_eq_true]at hl
    simp only[Rw hl.1 hl.2 lh]
  · rfl

theorem Rx {o:Op} {ρ:Operand→V} {id:Nat} {k k':V→az→Option R} (ha:pR o=true) (hl:vD o ρ id=true) (hk:∀v h',(∀i,i<id→(h'.at i).rd=(h.at i).rd)→k v h'=k' v h') :
    Lp tt o ρ h id k=Lp tt o ρ h id k':=by
  obtain ⟨⟨callee,args,argTypes⟩,rfl,hc⟩:=P1 ha
  simp only at hc
  subst hc
  simp only[Lp]
  split
  · rename_i s x t xt _ e et
    simp only[vD,e,Bool.and_eq_true]at hl
    simp only[P0 hl.1 hk]
  · rfl
end

section
variable {P:Program} {tt:dM} {w w':World} {h h':az} {c c':ko} {R:Type}

structure Hw (w:World) (c:ko) (st:St) (a:Act):Prop where
  wf:WF w st.hp c
  fr:cH w st.hp c st.fr a.tmps.toList

theorem tZ.refl (al:Bool) (id:Nat) (h:az):tZ al id h h:=⟨Nat.le_refl _,fun _ _ _ hf=>hf⟩
theorem tZ.set {id:Nat} (ob:bZ):tZ true id h (h.set id ob):=⟨by simp,fun j hj _ hf=>by rw[cZ _ (Ne.symm (hj rfl))]; exact hf⟩
theorem tZ.weak {al:Bool} {id:Nat} (k:tZ false 0 h h'):tZ al id h h':=⟨k.1,fun j _ hj hf=>k.2 j (by simp) hj hf⟩

theorem opW_nat {o:Op} {ρ:Operand→V} {id:Nat} {k0:V→az→Option R} {r:R} (hk:Lp tt o ρ h id k0=some r) :
    ∃v h',k0 v h'=some r∧tZ true id h h'∧∀k:V→az→Option R,Lp tt o ρ h id k=k v h':=by
  have V8:∀i ob,h.at i ≠ .free→tZ true id h (h.set i ob):=fun i ob hi=>⟨by simp,fun j _ _ hf=>by
    rw[cZ _ (fun e:i=j=>hi (by rw[e]; exact hf))]; exact hf⟩
  have kset2:∀i ob ob',h.at i ≠ .free→tZ true id h ((h.set i ob).set id ob'):=fun i ob ob' hi=>⟨by simp,fun j hj _ hf=>by
    rw[cZ _ (Ne.symm (hj rfl)),cZ _ (fun e:i=j=>hi (by rw[e]; exact hf))]; exact hf⟩
  cases o <;> simp only[Lp]at hk ⊢ <;> try (first|cases hk)
  case store t x y =>
    split at hk <;> try (first|cases hk)
    rename_i vs hvs
    split at hk <;> try (first|cases hk)
    rename_i hc
    split at hk <;> try (first|cases hk)
    · rename_i i o hx
      split at hk <;> try (first|cases hk)
      · rename_i cs Ck
        split at hk <;> try (first|cases hk)
        rename_i hl
        exact ⟨_,_,hk,V8 i _ (by rw[Ck]; simp),fun k=>by simp only[*,if_true]⟩
      rename_i u Ck
      split at hk <;> try (first|cases hk)
      exact ⟨_,_,hk,V8 i _ (by rw[Ck]; simp),fun k=>by simp only[*,if_true]⟩
    · rename_i i sz j o hx
      split at hk <;> try (first|cases hk)
      rename_i T l Ck
      split at hk <;> try (first|cases hk)
      rename_i hs
      split at hk <;> try (first|cases hk)
      rename_i hl
      split at hk <;> try (first|cases hk)
      rename_i z hz
      obtain ⟨hb,hk⟩:=cy hk
      exact ⟨_,_,hk,V8 i _ (by rw[Ck]; simp),fun k=>by simp only[*,if_true,cU,cond_true]⟩
  case mapUpdate t m x y =>
    split at hk <;> try (first|cases hk)
    rename_i kt vt i ht hx
    split at hk <;> try (first|cases hk)
    rename_i K V' l hm
    split at hk <;> try (first|cases hk)
    rename_i hf
    split at hk <;> try (first|cases hk)
    rename_i kx vx hkx hvx
    exact ⟨_,_,hk,V8 i _ (by rw[hm]; simp),fun k=>by simp only[ht,hx,hm,hf,hkx,hvx,if_true]⟩
  case insert t m x y =>
    split at hk <;> try (first|cases hk)
    rename_i kt vt i ht hx
    split at hk <;> try (first|cases hk)
    rename_i K V' l hm
    split at hk <;> try (first|cases hk)
    rename_i hf
    split at hk <;> try (first|cases hk)
    rename_i kx vx hkx hvx
    exact ⟨_,_,hk,V8 i _ (by rw[hm]; simp),fun k=>by simp only[ht,hx,hm,hf,hkx,hvx,if_true]⟩
  case next x str =>
    split at hk <;> try (first|cases hk)
    rename_i i hx
    split at hk <;> try (first|cases hk)
    rename_i s pos hit
    cases hb:decide (pos<s.length)with
    | true =>
      rw[hb]at hk
      exact ⟨_,_,hk,V8 i _ (by rw[hit]; simp),fun k=>by simp only[hx,hit,hb,cond_true]⟩
    | false =>
      rw[hb]at hk
      exact ⟨_,_,hk, .refl _ _ _,fun k=>by simp only[hx,hit,hb,cond_false]⟩
  case call cl =>
    have happ:∀e s x,oB tt e s x h id k0=some r→∃v h',k0 v h'=some r∧tZ true id h h'∧∀k:V→az→Option R,oB tt e s x h id k=k v h':=by
      intro e s x hk
      unfold oB at hk
      split at hk <;> try (first|cases hk)
      rename_i T hT
      split at hk <;> try (first|cases hk)
      rename_i hc
      split at hk <;> try (first|cases hk)
      rename_i m hm
      split at hk <;> try (first|cases hk)
      · obtain ⟨hb,hk⟩:=cy hk
        split at hk
        · rename_i hr
          exact ⟨_,_,hk,tZ.set _,fun k=>by simp only[oB,hT,hc,hm,if_true,hb,cU,cond_true,hr]⟩
        · rename_i hr
          exact ⟨_,_,hk,tZ.set _,fun k=>by simp only[oB,hT,hc,hm,if_true,hb,cU,cond_true,if_neg hr]⟩
      · split at hk <;> try (first|cases hk)
        rename_i hq
        subst hq
        split at hk <;> try (first|cases hk)
        · obtain ⟨hb,hk⟩:=cy hk
          exact ⟨_,_,hk,tZ.set _,fun k=>by simp only[oB,hT,hc,hm,if_true,hb,cU,cond_true,dite_true]⟩
        · split at hk <;> try (first|cases hk)
          rename_i hi
          obtain ⟨hb,hk⟩:=cy hk
          exact ⟨_,_,hk,kset2 _ _ _ (by rw[hi]; simp),fun k=>by simp only[oB,hT,hc,hm,hi,if_true,hb,cU,cond_true,dite_true]⟩
      · split at hk <;> try (first|cases hk)
        rename_i T' l hi
        split at hk <;> try (first|cases hk)
        rename_i hq
        subst hq
        obtain ⟨hb,hk⟩:=cy hk
        exact ⟨_,_,hk,kset2 _ _ _ (by rw[hi]; simp),fun k=>by simp only[oB,hT,hc,hm,hi,if_true,hb,cU,cond_true,dite_true]⟩
    split at hk <;> try (first|cases hk)
    split at hk <;> try (first|cases hk)
    · obtain ⟨v,h',h1,h2,h3⟩:=happ _ _ _ hk
      exact ⟨v,h',h1,h2,fun k=>by simp[*]⟩
    · obtain ⟨v,h',h1,h2,h3⟩:=happ _ _ _ hk
      exact ⟨v,h',h1,h2,fun k=>by simp[*]⟩

theorem AW {st:List V} {a:Act} (r:cH w h c st a.tmps.toList) (dst:Option Nat) {v:V} {d:Value} (rv:dH w h c v d):cH w h c (mT st dst v) (a.put dst d).tmps.toList:=by
  cases dst with
  | none=>exact r
  | some j=>simpa [mT,Act.put]using r.set j rv

theorem put_defers (a:Act) (dst:Option Nat) (d:Value):(a.put dst d).defers=a.defers:=by cases dst <;> rfl
theorem FD (T:xT P tt) {E:Env R} (hE:p8 P E) {o:Oper} {st:St} {a:Act} {drawn:Option Nat} {id:Nat} {k:St→Option R} {r:R} (hk:zA tt E drawn id o st k=some r) (iR:Hw w c st a)
    (hid:cm tt o=true→id<st.hp.length∧st.hp.at id = .free) {next:Act→World→Prop} {Q:Exit→Act→World→Prop}
    (hn:∀d w' tI c' v,Hw w' c' tI (a.put o.dst d)→Ext w st.hp c w' tI.hp c'→tZ (cm tt o) id st.hp tI.hp→tI.fr=mT st.fr o.dst v→(fF tt o.op ≠ .W→(fF tt o.op = .C→(drawn.isNone || !oC E o.op)=false)→∀i,(cm tt o=true→i≠id)→tI.hp.at i=st.hp.at i)→(pR o.op=true→drawn.isSome=true→∀i,i<id→(tI.hp.at i).rd=(st.hp.at i).rd)→k tI=some r→next (a.put o.dst d) w'):o.wp P a w next Q:=by
  have hρ:=fun x=>Te iR.fr x
  unfold zA at hk
  unfold Oper.wp
  simp only at hk
  split at hk
  · rename_i BU
    obtain ⟨v,d,h1,h2,h3⟩:=VB (w:=w) T hρ hk
    rw[h1,Oper.upon_value]
    exact hn d w ⟨mT st.fr o.dst v,st.hp⟩ c v ⟨iR.wf,AW iR.fr _ h2⟩ (.refl _ _ _) (.refl _ _ _) rfl (fun _ _ _ _=>rfl) (fun _ _ _ _=>rfl) h3
  · rename_i BU
    obtain ⟨v,d,h1,h2,h3⟩:=VI T iR.wf hρ hk
    rw[h1,Oper.upon_value]
    exact hn d w ⟨mT st.fr o.dst v,st.hp⟩ c v ⟨iR.wf,AW iR.fr _ h2⟩ (.refl _ _ _) (.refl _ _ _) rfl (fun _ _ _ _=>rfl) (fun _ _ _ _=>rfl) h3
  · rename_i BU
    have hal:cm tt o=true:=by simp[cm,BU]
    obtain ⟨ob,mk,h1,_,h2⟩:=VU T iR.wf hρ hk
    obtain ⟨d,w',c',g1,g2,g3,g4⟩:=h2 id (hid hal).1 (hid hal).2
    rw[g1,Oper.upon_value]
    exact hn d w' ⟨mT st.fr o.dst (mk id),st.hp.set id ob⟩ c' (mk id) ⟨g2,AW (iR.fr.mono g3) _ g4⟩ g3 (by rw[hal]; exact tZ.set _) rfl (fun _ _ i hi=>cZ _ (Ne.symm (hi hal))) (fun _ _ i hi=>by rw[cZ _ (by omega)]) h1
  · rename_i BU
    have hal:cm tt o=true:=by simp[cm,BU]
    have hk:(vD o.op (ev st.fr) id=true∨drawn.isSome=false)∧Lp tt o.op (ev st.fr) st.hp id (fun v h=>k ⟨mT st.fr o.dst v,h⟩)=some r:=by
      revert hk
      cases vD o.op (ev st.fr) id <;> cases drawn.isSome <;> simp
    obtain ⟨P3,hk⟩:=hk
    let C:az→Prop:=fun h'=>pR o.op=true→drawn.isSome=true→∀i,i<id→(h'.at i).rd=(st.hp.at i).rd
    have hk:Lp tt o.op (ev st.fr) st.hp id (fun v h'=>open Classical in if C h' then k ⟨mT st.fr o.dst v,h'⟩else none)=some r:=by
      by_cases ha:pR o.op=true∧drawn.isSome=true
      · have hl:=P3.resolve_right (by simp[ha.2])
        rw[←hk]
        exact Rx ha.1 hl fun v h' hrd=>if_pos fun _ _=>hrd
      · have:∀h',C h':=fun h' h1 h2=>(ha ⟨h1,h2⟩).elim
        rw[←hk]
        congr 1
        funext v h'
        exact if_pos (this h')
    obtain ⟨v0,h0,hk0,hkeep,hnat⟩:=opW_nat hk
    have hk0':(open Classical in if C h0 then k ⟨mT st.fr o.dst v0,h0⟩else none)=some r:=hk0
    have hC0:C h0:=by
      by_cases hc:C h0
      · exact hc
      · rw[if_neg hc]at hk0'; cases hk0'
    rw[if_pos hC0]at hk0'
    replace hk0:=hk0'
    have Hq:=hnat fun v h'=>open Classical in if h'=h0 then k ⟨mT st.fr o.dst v,h'⟩else none
    simp only[if_true]at Hq
    obtain ⟨v,h',d,w',c',nx,g1,g2,g3,g4,g5,g6⟩:=V1 T iR.wf hρ (hid hal).1 (hid hal).2 (Hq.trans hk0)
    split at g6 <;> try (first|cases g6)
    rename_i he
    subst he
    rw[g1]
    rcases g2 with rfl|⟨rfl,rfl⟩
    · rw[Oper.upon_value]
      exact hn d w' ⟨mT st.fr o.dst v,h'⟩ c' v ⟨g3,AW (iR.fr.mono g4) _ g5⟩ g4 (by rw[hal]; exact hkeep) rfl (fun hC=>(hC BU).elim) hC0 g6
    · rw[Oper.upon_skip]
      exact hn undef w' ⟨mT st.fr o.dst v,h'⟩ c' v ⟨g3,AW (iR.fr.mono g4) _ g5⟩ g4 (by rw[hal]; exact hkeep) rfl (fun hC=>(hC BU).elim) hC0 g6
  · rename_i BU
    split at hk <;> try (first|cases hk)
    rename_i cl Fs
    obtain ⟨g,args,h1,nx,w1,h2,h3⟩:=Rv hE iR.wf Fs hρ hk
    rw[h1,h2]
    have fin:∀d w',(∃v h' c',WF w' h' c'∧Ext w st.hp c w' h' c'∧dH w' h' c' v d∧k ⟨mT st.fr o.dst v,h'⟩=some r∧tZ false 0 st.hp h'∧((drawn.isNone || !oC E o.op)=false→h'=st.hp))→next (a.put o.dst d) w':=by
      rintro d w' ⟨v,h',c',q1,q2,q3,q4,q5,q6⟩
      exact hn d w' ⟨mT st.fr o.dst v,h'⟩ c' v ⟨q1,AW (iR.fr.mono q2) _ q3⟩ q2 q5.weak rfl (fun _ hd i _=>by rw[q6 (hd BU)]) (fun ha=>by rw[CK ha]at BU; cases BU) q4
    cases nx <;> simp only at h3
    · rw[Oper.upon_value]; exact fin _ _ h3
    · rw[Oper.upon_enter]
      exact Calls.mono h3 fun e w' ⟨d,e1,q⟩=>by subst e1; exact fin d w' q
    · rw[Oper.upon_row]
      exact Rows.mono h3 fun d w' q=>fin d w' q
  · cases hk
  · cases hk
end

section
variable {P:Program} {tt:dM} {w w':World} {h h':az} {c c':ko} {R:Type}

theorem X7 {fr:List V} {d:Nat} {v:V} (h:fr.getD d .undef=v) (hv:v ≠ .undef):fr.set d v=fr:=by
  have hd:d<fr.length:=by
    rcases Nat.lt_or_ge d fr.length with hl|hl
    · exact hl
    · simp[List.getD,List.getElem?_eq_none hl]at h; exact (hv h.symm).elim
  have e:fr[d]=v:=by simpa [List.getD,List.getElem?_eq_getElem hd]using h
  rw[←e]
  exact List.set_getElem_self hd

theorem BK {all:List Oper} {o:Oper} {st:St} {run skip:St→Option R}:vE all o st run skip =
    match o.guard with
    | none=>run st
    | some (j,want) =>
      match (all[j]?).bind (·.dst)with
      | none=>none
      | some d=>match st.fr.getD d .undef with | .bool b=>if b=want then run st else skip st | .tuple []=>skip st|_=>none:=by
  unfold vE
  cases o.guard with
  | none=>rfl
  | some jw =>
    obtain ⟨j,want⟩:=jw
    simp only
    cases (all[j]?).bind (·.dst)with
    | none=>rfl
    | some d =>
      simp only
      cases hb:st.fr.getD d .undef with
      | bool b =>
        have e:(⟨st.fr.set d (.bool b),st.hp⟩:St)=st:=by rw[X7 hb (by simp)]
        cases b <;> cases want <;> simp[e]
      | tuple vs=>cases vs <;> rfl
      | _=>rfl

theorem D6 {ops:Array Oper} {o:Oper} {st:St} {a:Act} (iR:Hw w c st a) {run skip:St→Option R} {r:R} (hk:vE ops.toList o st run skip=some r) :
    (Region.wanted o (yielded ops a.tmps)=true∧run st=some r)∨(Region.wanted o (yielded ops a.tmps)=false∧skip st=some r):=by
  rw[BK]at hk
  unfold Region.wanted
  split at hk
  · rename_i hg; simp only[hg]; exact .inl ⟨trivial,hk⟩
  · rename_i j want hg
    simp only[hg]
    split at hk <;> try (first|cases hk)
    rename_i d hd
    have hl:∀v,st.fr.getD d .undef=v→v ≠ .undef→d<st.fr.length:=fun v hv kq=>by
      rcases Nat.lt_or_ge d st.fr.length with hl|hl
      · exact hl
      · simp[List.getD,List.getElem?_eq_none hl]at hv; exact (kq hv.symm).elim
    have key:∀v,st.fr.getD d .undef=v→v ≠ .undef→∃x,a.tmps[d]? = some x∧dH w st.hp c v x:=fun v hb kq=>by
      have hl:=hl v hb kq
      have QG:d<a.tmps.size:=by rw[←(by simpa using iR.fr.1:st.fr.length=a.tmps.size)]; exact hl
      exact ⟨a.tmps[d],Array.getElem?_eq_getElem QG,iR.fr.2 d v a.tmps[d] (by rw[List.getElem?_eq_getElem hl]; simpa [List.getD,List.getElem?_eq_getElem hl]using hb) (by simp)⟩
    have Vx:(ops[j]?).bind (·.dst)=some d:=by simpa using hd
    split at hk <;> try (first|cases hk)
    · rename_i b hb
      obtain ⟨x,hx,rv⟩:=key _ hb (by simp)
      have hy:yielded ops a.tmps j=some b:=by
        unfold yielded
        rw[Vx]
        simp only[Option.bind_some,hx]
        cases rv
        rfl
      rw[hy]
      split at hk
      · rename_i hw; subst hw; exact .inl ⟨by simp,hk⟩
      · rename_i hw; exact .inr ⟨by simpa using hw,hk⟩
    · rename_i hb
      obtain ⟨x,hx,rv⟩:=key _ hb (by simp)
      have hy:yielded ops a.tmps j=none:=by
        unfold yielded
        rw[Vx]
        simp only[Option.bind_some,hx]
        cases rv
        rfl
      rw[hy]
      exact .inr ⟨by simp,hk⟩

theorem JI:dH w h c (.tuple []) undef := .tuple rfl (by simp)

def X8 (w:World) (c:ko) (st:St) (a:Act) (k:St→Option R) (r:R) (K:Act→World→Prop):Prop :=
  ∀a' w' tI c',Hw w' c' tI a'→Ext w st.hp c w' tI.hp c'→a'.defers=a.defers→k tI=some r→K a' w'

def Slots (tt:dM) (rest:List Oper) (id:Nat) (h:az):Prop:=∀j,id≤j→j<id+(rest.filter (cm tt)).length→j<h.length∧h.at j = .free

theorem Hx (T:xT P tt) {E:Env R} (hE:p8 P E) {ops:Array Oper} {k:St→Option R} {r:R} {Q:Exit→Act→World→Prop}:∀(rest:List Oper) (n id:Nat) (w:World) (c:ko) (st:St) (a:Act),
    ops.toList.drop n=rest→LU tt E none ops.toList rest id st k=some r→Hw w c st a→Slots tt rest id st.hp→X8 w c st a k r (Q .normal)→wpOps P ops Q (List.range' n rest.length) a w
  | [],n,id,w,c,st,a,_,hk,iR,_,go=>go a w st c iR (.refl _ _ _) rfl hk
  | o::rest,n,id,w,c,st,a,hd,hk,iR,hs,go=>by
    have hn:ops[n]? = some o:=by
      have:(ops.toList.drop n)[0]? = some o:=by rw[hd]; rfl
      rw[List.getElem?_drop]at this
      simpa using this
    have Vx:ops.toList.drop (n+1)=rest:=by
      have:(ops.toList.drop n).drop 1=rest:=by rw[hd]; rfl
      rwa [List.drop_drop]at this
    rw[List.length_cons,List.range'_succ,wpOps_cons]
    unfold wpOp
    simp only[hn]
    simp only[LU,DW]at hk
    have hsl:∀h',tZ (cm tt o) id st.hp h'→Slots tt rest (if cm tt o then id+1 else id) h':=by
      intro h' kp j h1 h2
      cases ha:cm tt o with
      | true =>
        rw[ha]at h1 h2 kp
        simp only[if_true]at h1 h2
        obtain ⟨g1,g2⟩:=hs j (by omega) (by rw[List.filter_cons_of_pos ha,List.length_cons]; omega)
        exact ⟨Nat.lt_of_lt_of_le g1 kp.1,kp.2 j (fun _=>by omega) g1 g2⟩
      | false =>
        rw[ha]at h1 h2 kp
        simp only[Bool.false_eq_true,if_false]at h1 h2
        obtain ⟨g1,g2⟩:=hs j (by omega) (by rw[List.filter_cons_of_neg (by simp[ha])]; omega)
        exact ⟨Nat.lt_of_lt_of_le g1 kp.1,kp.2 j (fun h=>by cases h) g1 g2⟩
    rcases D6 iR hk with ⟨hw,hk⟩|⟨hw,hk⟩
    · rw[if_pos hw]
      refine .inl (FD T hE hk iR (fun ha=>hs id (Nat.le_refl _) (by rw[List.filter_cons_of_pos ha,List.length_cons]; omega)) fun d w' tI c' v Tf x kp _ _ _ rS => ?_)
      refine Hx T hE rest (n+1) _ w' c' tI _ Vx rS Tf (hsl _ kp) fun a2 w2 Cl c2 s2 x2 d2 k2 => ?_
      exact go a2 w2 Cl c2 s2 (x.trans x2) (d2.trans (put_defers _ _ _)) k2
    · rw[if_neg (by simp[hw])]
      refine Hx T hE rest (n+1) _ w c ⟨mT st.fr o.dst (.tuple []),st.hp⟩ _ Vx hk ⟨iR.wf,AW iR.fr _ JI⟩ (hsl _ (.refl _ _ _)) fun a2 w2 Cl c2 s2 x2 d2 k2 => ?_
      exact go a2 w2 Cl c2 s2 x2 (d2.trans (put_defers _ _ _)) k2

theorem Lu {n i:Nat}:az.at (h++List.replicate n .free) i=h.at i∨(h.length≤i∧az.at (h++List.replicate n .free) i = .free):=by
  rcases Nat.lt_or_ge i h.length with hi|hi
  · exact .inl (ln hi)
  · rcases Nat.lt_or_ge (i - h.length) n with hj|hj
    · refine .inr ⟨hi,?_⟩
      rw[j9 hi]
      simp[az.at,List.getD,List.getElem?_replicate,hj]
    · refine .inl ?_
      rw[j9 hi]
      have h1:¬(i - h.length<n):=by omega
      have h2:¬(i<h.length):=by omega
      simp[az.at,List.getD,List.getElem?_replicate,h1,List.getElem?_eq_none hi]

theorem X9 {i:Nat} (hi:h.length≤i):h.at i = .dead:=by simp[az.at,List.getD,List.getElem?_eq_none hi]

theorem Mp {n b x:Nat}:ui (h++List.replicate n .free) c b x↔ui h c b x:=by
  constructor
  · rintro ⟨i,f,h1,h2,h3⟩
    rcases Lu (h:=h) (n:=n) (i:=i)with e|⟨_,e⟩
    · exact ⟨i,f,h1,e▸h2,h3⟩
    · rw[e]at h2; cases h2
  · rintro ⟨i,f,h1,h2,h3⟩
    rcases Lu (h:=h) (n:=n) (i:=i)with e|⟨hi,e⟩
    · exact ⟨i,f,h1,e.symm▸h2,h3⟩
    · rw[X9 hi]at h2; cases h2

theorem tL (n:Nat):Ext w h c w (h++List.replicate n .free) c where
  os:=rfl
  tape:=rfl
  output:=rfl
  size:=Nat.le_refl _
  used:=fun i hi=>⟨by simp; have:=hi.1; omega,by
    rw[ln hi.1]; exact hi.2⟩
  same:=fun i hi hd=>by
    rw[ln hi.1]at hd ⊢
    exact ⟨Dt (Gj hi.2 hd) (fun _ _ _ => .inr trivial),rfl,rfl⟩
  cell:=fun _ _ _ _=>rfl
  block:=fun _ _ _=>rfl
  wD:=fun b x _ ho=>Mp.1 ho
  ext:=rfl
  arr:=fun b arr e fz hb=>⟨arr,fz,hb,rfl⟩

theorem FE (wf:WF w h c) (n:Nat):WF w (h++List.replicate n .free) c where
  lay:=wf.sv (tL n)
  ym:=fun b x ho=>wf.ym b x (Mp.1 ho)
  pS:=wf.pS
  obj:=fun i hi=>by
    rcases Lu (h:=h) (n:=n) (i:=i)with e|⟨_,e⟩
    · rw[e]
      rcases Nat.lt_or_ge i h.length with hl|hl
      · have ho:=wf.obj i hl
        by_cases hv:(h.at i).live
        · exact ho.keep (tL n) (fun _ _=>rfl) rfl rfl
        · have h0:h.at i = .free∨h.at i = .dead:=by revert hv; cases h.at i <;> simp[bZ.live]
          rcases h0 with h0|h0 <;> rw[h0] <;> trivial
      · rw[X9 hl]; trivial
    · rw[e]; trivial
  inj:=fun i j b hi hj h1 h2=>by
    have hl:∀i,(az.at (h++List.replicate n .free) i).live→(h.at i).live:=fun i hi=>by
      rcases Lu (h:=h) (n:=n) (i:=i)with e|⟨_,e⟩
      · rw[e]at hi; exact hi
      · rw[e]at hi; exact hi.elim
    exact wf.inj i j b (hl i hi) (hl j hj) h1 h2

theorem P4 (T:xT P tt) {E:Env R} (hE:p8 P E) {id:Nat} {ops:Array Oper} {k:St→Option R} {r:R} {Q:Exit→Act→World→Prop} {st:St} {a:Act}
    (hk:Gh tt E ops.toList false st k=some r) (iR:Hw w c st a) (go:X8 w c st a k r (Q .normal)):(Code.region id ops false).wp P Q a w:=by
  refine wp_region ?_
  simp only[Gh,Bool.false_eq_true,if_false]at hk
  have:=Hx T hE (ops:=ops) (Q:=Q) ops.toList 0 st.hp.length w c _ a rfl hk ⟨FE iR.wf _,iR.fr.mono (tL _)⟩ ?_ ?_
  · rw[List.range_eq_range']
    simpa using this
  · intro j h1 h2
    refine ⟨by simp; omega,?_⟩
    rw[j9 h1]
    have:j - st.hp.length<(ops.toList.filter (cm tt)).length:=by omega
    simp[az.at,List.getD,List.getElem?_replicate,this]
  · exact fun a2 w2 Cl c2 s2 x2 d2 k2=>go a2 w2 Cl c2 s2 ((tL _).trans x2) d2 k2
end

section
variable {P:Program} {tt:dM} {w w':World} {h h':az} {c c':ko} {R:Type}

def one (tt:dM) (E:Env R) (S:Option (Bool × List Nat)) (base:Nat) (all:List Oper) (o:Oper) (id:Nat) (st:St) (k:St→Option R):Option R :=
  vE all o st (fun st=>bif Hm tt E base S all o (ev st.fr) st.hp then zA tt E (Xn tt S base o) id o st k else none) (fun st=>k ⟨mT st.fr o.dst (.tuple []),st.hp⟩)

abbrev wj:=Nat × Oper × Nat

def EZ (tt:dM) (E:Env R) (S:Option (Bool × List Nat)) (base:Nat) (all:List Oper):List wj→St→(St→Option R)→Option R
  | [],st,k=>k st
  | x::rest,st,k=>one tt E S base all x.2.1 x.2.2 st fun st=>EZ tt E S base all rest st k

def number (tt:dM):List Oper→Nat→Nat→List wj
  | [],_,_ => []
  | o::rest,i,id=>(i,o,id)::number tt rest (i+1) (if cm tt o then id+1 else id)

theorem P5 {E:Env R} {base:Nat} {all:List Oper}:∀(l:List Oper) (i id:Nat) (st:St) (k:St→Option R),
    LU tt E (some base) all l id st k=EZ tt E none base all (number tt l i id) st k
  | [],_,_,_,_=>rfl
  | o::l,i,id,st,k=>by
    simp only[LU,DW,number,EZ,one,Hm,Xn,cond_true]
    congr 1
    · funext st
      congr 1
      funext st
      exact P5 l _ _ _ _
    · funext st
      exact P5 l _ _ _ _

theorem Lv {E:Env R} {A:Bool × List Nat} {base:Nat} {all:List Oper}:∀(l:List Oper) (i id:Nat) (st:St) (k:St→Option R),
    QU tt E base A all l id st k=EZ tt E (some A) base all (number tt l i id) st k
  | [],_,_,_,_=>rfl
  | o::l,i,id,st,k=>by
    simp only[QU,DW,number,EZ,one]
    congr 1
    · funext st
      congr 1
      congr 1
      funext st
      exact Lv l _ _ _ _
    · funext st
      exact Lv l _ _ _ _

theorem P6 {S:Option (Bool × List Nat)} {base:Nat} {o:Oper} (h:fF tt o.op ≠ .W):Xn tt S base o=some base:=by
  unfold Xn
  split
  · split
    · rename_i hc; exact (h hc).elim
    · rfl
  · rfl
theorem Ry {S:Option (Bool × List Nat)} {base:Nat} {o:Oper} (h:S.map (·.1)≠some true):Xn tt S base o=some base:=by
  unfold Xn
  split
  · exact (h rfl).elim
  · rfl

structure UF where
  dst:Option Nat
  v:V
  put:Option (Nat × bZ)

def UF.hp (e:UF) (h:az):az:=match e.put with|none=>h|some (i,ob)=>h.set i ob
def eff (st:St) (e:UF):St:=⟨mT st.fr e.dst e.v,e.hp st.hp⟩

theorem OU {fr:List V} {dst:Option Nat} {v:V} {t:Nat} (h:dst≠some t):(mT fr dst v).getD t .undef=fr.getD t .undef:=by
  cases dst with
  | none=>rfl
  | some d =>
    have:d≠t:=fun e=>h (by rw[e])
    simp[mT,List.getD,List.getElem?_set_ne this]

theorem V9 {fr:List V} {x y:Option Nat} {u v:V} (h:∀d,x=some d→y≠some d):mT (mT fr x u) y v=mT (mT fr y v) x u:=by
  cases x with
  | none=>rfl
  | some d =>
    cases y with
    | none=>rfl
    | some e =>
      have:d≠e:=fun he=>h d rfl (by rw[he])
      simp only[mT]
      exact List.set_comm _ _ this

theorem Dv {fr Wa:List V} {o:Oper} {all:List Oper} (h:∀t∈looks all o,Wa.getD t .undef=fr.getD t .undef):∀x∈o.op.operands,ev Wa x=ev fr x:=by
  intro x hx
  cases x with
  | tmp t=>exact h t (List.mem_append_left _ (List.mem_filterMap.2 ⟨.tmp t,by simpa using hx,rfl⟩))
  | _=>rfl

theorem Mq {fr Wa:List V} {hp Xq:az} {o:Oper} {all:List Oper} (h:∀t∈looks all o,Wa.getD t .undef=fr.getD t .undef) {run skip run' Mr:St→Option R}
    (hr:run' ⟨Wa,Xq⟩=run ⟨fr,hp⟩) (hs:Mr ⟨Wa,Xq⟩=skip ⟨fr,hp⟩):vE all o ⟨Wa,Xq⟩ run' Mr=vE all o ⟨fr,hp⟩ run skip:=by
  rw[BK,BK]
  cases hg:o.guard with
  | none=>exact hr
  | some jw =>
    obtain ⟨j,want⟩:=jw
    simp only
    cases hd:(all[j]?).bind (·.dst)with
    | none=>rfl
    | some d =>
      have:=h d (by
        refine List.mem_append_right _ ?_
        simp only[hg,hd]
        simp)
      simp only[this,hr,hs]

theorem Rz {o:Op} {ρ:Operand→V} {lim:Option Nat} {h2:az} (e:∀i∈wS o ρ,EK lim i=true→(h2.at i).rd=(h.at i).rd) {k:V→Option R}:Vm tt o ρ h2 lim k=Vm tt o ρ h lim k:=by
  have e':∀i∈wS o ρ,EK lim i=true→h2.at i=h.at i∨((h2.at i = .tok∨h2.at i = .dead∨h2.at i = .free)∧(h.at i = .tok∨h.at i = .dead∨h.at i = .free)):=fun i hm hi=>Rt (e i hm hi)
  clear e
  cases o <;> simp only[Vm]
  case load t x =>
    split
    · rename_i i o hx
      split
      · rename_i hl
        rcases e' i (by simp[wS,hx,V.ids]) hl with h1|⟨h1|h1|h1,g2|g2|g2⟩ <;> (first|(simp only[h1,g2]; done)|(simp only[h1]; done)|rfl|(simp only[h1,g2]; (repeat' split) <;> first|rfl|contradiction|simp_all))
      · rfl
    · rfl
    · rename_i i _ _ _ hx
      split
      · rename_i hl
        rcases e' i (by simp[wS,hx,V.ids]) hl with h1|⟨h1|h1|h1,g2|g2|g2⟩ <;> (first|(simp only[h1,g2]; done)|(simp only[h1]; done)|(simp only[h1,g2]; (repeat' split) <;> first|rfl|contradiction|simp_all))
      · rfl
    · rfl
  case lookup t x ix ok =>
    split
    · rename_i kt vt i _ hx
      split
      · rename_i hl
        rcases e' i (by simp[wS,hx,V.ids]) hl with h1|⟨h1|h1|h1,g2|g2|g2⟩ <;> (first|simp only[h1,g2]|simp only[h1])
      · rfl
    · rfl
  case convert s d x =>
    split
    · rename_i i _ _ _ hx
      split
      · rename_i hl
        rcases e' i (by simp[wS,hx,V.ids]) hl with h1|⟨h1|h1|h1,g2|g2|g2⟩ <;> (first|(simp only[h1,g2]; done)|(simp only[h1]; done)|(simp only[h1,g2]; (repeat' split) <;> first|rfl|contradiction|simp_all))
      · rfl
    · rfl
    · rfl
    · rfl

def CL (S:Option (Bool × List Nat)) (E:Env R) (all:List Oper) (tt:dM) (base:Nat) (x:Oper) (st Cl:St):Prop :=
  (∀t∈looks all x,Cl.fr.getD t .undef=st.fr.getD t .undef)∧(fF tt x.op = .R→∀i,i<base→(∀A,S=some (true,A)→Vo tt E all x=true→i∈A)→(∀A,S=some (false,A)→OB tt E all x=true→i∉A)→(Cl.hp.at i).rd=(st.hp.at i).rd)

def turns (tt:dM) (E:Env R) (o:Op):Prop:=(er tt E o = .W∧pR o=false)∨(er tt E o = .F∧mU E o=false)

def Kept (S:Option (Bool × List Nat)) (tt:dM) (E:Env R) (all:List Oper) (base:Nat) (o:Oper) (h h':az):Prop :=
  (∀i,i<base→(h'.at i).rd=(h.at i).rd)∨((turns tt E o.op∨(S.map (·.1)=some true∧pR o.op=true))∧(er tt E o.op = .F→∀A,S=some (true,A)→∀i∈A,(h'.at i).rd=(h.at i).rd)∧(lj all o=true→∀A,S=some (false,A)→∀i,i∉A→(h'.at i).rd=(h.at i).rd))

theorem rU {E:Env R} {o:Op} (h:fF tt o ≠ .C):er tt E o=fF tt o:=by
  unfold er
  split
  · rename_i hc; exact (h hc).elim
  · rfl

def calm (a:Cls):Bool:=match a with | .P | .R | .A=>true|_=>false

theorem N6 {o:Op} {ρ ρ':Operand→V} (h:∀x∈o.operands,ρ' x=ρ x):wS o ρ'=wS o ρ:=by
  cases o <;> simp only[wS] <;> rw[h _ (by simp[Op.operands])]
theorem Ms {o:Op} {ρ ρ':Operand→V} (h:∀x∈o.operands,ρ' x=ρ x):BP o ρ'=BP o ρ:=by
  cases o <;> simp only[BP] <;> rw[h _ (by simp[Op.operands])]
theorem N7 {o:Op} {ρ ρ':Operand→V} {hp:az} (h:∀x∈o.operands,ρ' x=ρ x):nh o ρ' hp=nh o ρ hp:=by
  unfold nh
  split
  · rename_i cl
    split
    · rename_i f hf
      have e1:ρ' f=ρ f:=h f (by simp[Op.operands,Call.operands,hf])
      have e2:cl.args.toList.map ρ'=cl.args.toList.map ρ:=List.map_congr_left fun z hz=>h z (by simp[Op.operands,Call.operands]; exact .inr (by simpa using hz))
      rw[e1,e2]
    · rfl
  · rfl
theorem OV {E:Env R} {base:Nat} {S:Option (Bool × List Nat)} {all:List Oper} {x:Oper} {fr Wa:List V} {hp:az} (h:∀t∈looks all x,Wa.getD t .undef=fr.getD t .undef):Hm tt E base S all x (ev Wa) hp=Hm tt E base S all x (ev fr) hp:=by
  cases S with
  | none=>rfl
  | some A=>obtain ⟨m,A⟩:=A; cases m <;> simp only[Hm] <;> rw[N6 (Dv h),Ms (Dv h)] <;> rw[N7 (Dv h)]
theorem Ya {E:Env R} {base:Nat} {S:Option (Bool × List Nat)} {all:List Oper} {x:Oper} {fr Wa:List V} {hp Xq:az} (hc:calm (fF tt x.op)=true) (h:∀t∈looks all x,Wa.getD t .undef=fr.getD t .undef):Hm tt E base S all x (ev Wa) Xq=Hm tt E base S all x (ev fr) hp:=by
  rw[OV (fr:=fr) h]
  cases S with
  | none=>rfl
  | some A =>
    obtain ⟨m,A⟩:=A
    cases m <;> simp only[Hm] <;> revert hc <;> cases fF tt x.op <;> simp[calm]

theorem UG {E:Env R} {S:Option (Bool × List Nat)} {base:Nat} {all:List Oper} {x:Oper} {id:Nat} {st:St} {k0:St→Option R} {r:R} (hc:calm (fF tt x.op)=true) (hk:one tt E S base all x id st k0=some r) :
    ∃e:UF,e.dst=x.dst∧(∀i ob,e.put=some (i,ob)→i=id∧fF tt x.op = .A)∧k0 (eff st e)=some r∧∀Cl,CL S E all tt base x st Cl→∀k,one tt E S base all x id Cl k=k (eff Cl e):=by
  unfold one at hk ⊢
  -- the guard says the same
  have hgu:∀Cl,CL S E all tt base x st Cl→∀(run skip:St→Option R),vE all x Cl run skip=vE all x st (fun _=>run Cl) (fun _=>skip Cl):=by
    intro Cl ha run skip
    obtain ⟨fr,hp⟩:=st
    obtain ⟨fr2,hp2⟩:=Cl
    exact Mq ha.1 rfl rfl
  have XX:∀run skip:St→Option R,(∀run' Mr:St→Option R,vE all x st run' Mr=run' st)∨(∀run' Mr:St→Option R,vE all x st run' Mr=Mr st)∨vE all x st run skip=none:=by
    intro run skip
    simp only[BK]
    cases x.guard with
    | none=>exact .inl fun _ _=>rfl
    | some jw =>
      obtain ⟨j,want⟩:=jw
      simp only
      cases (all[j]?).bind (·.dst)with
      | none=>exact .inr (.inr rfl)
      | some d =>
        simp only
        cases st.fr.getD d .undef with
        | bool b=>by_cases hb:b=want <;> simp[hb]
        | tuple vs =>
          cases vs with
          | nil=>exact .inr (.inl fun _ _=>rfl)
          | cons _ _=>exact .inr (.inr rfl)
        | _=>exact .inr (.inr rfl)
  rcases XX _ _ with hg|hg|hg
  · rw[hg]at hk
    obtain ⟨hS,hk⟩:Hm tt E base S all x (ev st.fr) st.hp=true∧zA tt E (Xn tt S base x) id x st k0=some r:=by
      cases hS:Hm tt E base S all x (ev st.fr) st.hp with
      | true=>rw[hS]at hk; exact ⟨rfl,hk⟩
      | false=>rw[hS]at hk; cases hk
    have hnW:fF tt x.op ≠ .W:=fun e=>by rw[e]at hc; cases hc
    rw[P6 hnW]at hk ⊢
    have hS2:∀Cl,CL S E all tt base x st Cl→Hm tt E base S all x (ev Cl.fr) Cl.hp=true:=fun Cl ha=>by rw[←hS]; exact Ya hc ha.1
    unfold zA at hk
    simp only at hk
    split at hk
    · rename_i BU
      obtain ⟨v,h1,h2⟩:=opP_nat hk
      refine ⟨⟨x.dst,v,none⟩,rfl,by simp,h1,fun Cl ha k => ?_⟩
      rw[hgu Cl ha,hg,hS2 Cl ha,cond_true]
      simp only[zA,BU]
      rw[ON (Dv ha.1),h2]
      rfl
    · rename_i BU
      obtain ⟨v,h1,h2⟩:=opR_nat hk
      refine ⟨⟨x.dst,v,none⟩,rfl,by simp,h1,fun Cl ha k => ?_⟩
      rw[hgu Cl ha,hg,hS2 Cl ha,cond_true]
      simp only[zA,BU]
      rw[OO (Dv ha.1),Rz (h:=st.hp) fun i hm hi=>ha.2 BU i (by simpa [EK]using hi) (fun A hA hf => ?_) fun A hA hf => ?_,h2 _ fun i hi=>rfl]
      · rfl
      · subst hA
        simp only[Hm,BU,hf,Bool.not_true,Bool.false_or,List.all_eq_true]at hS
        simpa using hS i hm
      · subst hA
        simp only[Hm,BU,hf,Bool.not_true,Bool.false_or,List.all_eq_true]at hS
        simpa using hS i hm
    · rename_i BU
      obtain ⟨ob,mk,h1,h2⟩:=opA_nat hk
      refine ⟨⟨x.dst,mk id,some (id,ob)⟩,rfl,by simp[BU],h1,fun Cl ha k => ?_⟩
      rw[hgu Cl ha,hg,hS2 Cl ha,cond_true]
      simp only[zA,BU]
      rw[OP (Dv ha.1),h2]
      rfl
    all_goals (rename_i BU; rw[BU]at hc; cases hc)
  · rw[hg]at hk
    refine ⟨⟨x.dst, .tuple [],none⟩,rfl,by simp,hk,fun Cl ha k => ?_⟩
    rw[hgu Cl ha,hg]
    rfl
  · rw[hg]at hk; cases hk

theorem apart_spec {all:List Oper} {x y:Oper} (h:yk all x y=true) :
    (∀d,x.dst=some d→d∉looks all y)∧(∀d,x.dst=some d→y.dst≠some d)∧(∀d,y.dst=some d→d∉looks all x):=by
  refine ⟨fun d hd => ?_,fun d hd => ?_,fun d hd => ?_⟩ <;> simp[yk,hd]at h
  · exact h.1.1
  · exact h.1.2
  · exact h.2

theorem D7 {fr:List V} {c:Value} {g:Nat} {a b:List V} (h:ev fr (.const c) = .func g a b):False:=by
  simp only[ev]at h
  unfold ofConst at h
  split at h
  · cases h
  · unfold Fu at h
    split at h <;> (try split at h) <;> cases h


theorem Hy {i:Nat}:∀(n:Nat) (todo seen:List Nat),i∈seen→i∈reach h n todo seen
  | 0,_,_,hi=>hi
  | _+1, [],_,hi=>hi
  | n+1,j::todo,seen,hi=>by
    unfold reach
    split
    · exact Hy n _ _ hi
    · exact Hy n _ _ (by simp[hi])
theorem Gl {i:Nat} {ob:bZ}:∀(n:Nat) (todo seen:List Nat),i∉reach h n todo seen→reach (h.set i ob) n todo seen=reach h n todo seen
  | 0,_,_,_=>rfl
  | _+1, [],_,_=>rfl
  | n+1,j::todo,seen,hi=>by
    unfold reach at hi ⊢
    split
    · rename_i hc
      rw[if_pos hc]at hi
      exact Gl n _ _ hi
    · rename_i hc
      rw[if_neg hc]at hi
      have kq:i≠j:=by
        rintro rfl
        exact hi (Hy n _ _ (by simp))
      rw[cZ _ kq]
      exact Gl n _ _ hi
theorem set_set {i:Nat} {ob:bZ}:(h.set i ob).set i (h.at i)=h:=by
  rw[List.set_set]
  apply List.ext_getElem?
  intro j
  rw[List.getElem?_set]
  split
  · rename_i e
    subst e
    split
    · rename_i hl
      simp[az.at,List.getD,List.getElem?_eq_getElem hl]
    · rename_i hl
      exact (List.getElem?_eq_none (by omega)).symm
  · rfl
theorem Kt {o:Op} {ρ:Operand→V} {i:Nat} {ob:bZ} (hi:i∉nh o ρ h):nh o ρ (h.set i ob)=nh o ρ h:=by
  unfold nh at hi ⊢
  split at hi <;> try rfl
  split at hi <;> try rfl
  split at hi <;> try rfl
  exact Gl _ _ _ hi
theorem P7 {o:Op} {ρ:Operand→V} {i:Nat} {ob:bZ} (hi:i∉nh o ρ (h.set i ob)):nh o ρ (h.set i ob)=nh o ρ h:=by
  have h1:=Kt (ob:=h.at i) hi
  rw[set_set]at h1
  exact h1.symm
theorem Yb {i:Nat} {ob:bZ} {ord:List Nat} (hi:i∉ord):az.pick (h.set i ob) ord=h.pick ord:=by
  unfold az.pick
  refine List.map_congr_left fun j hj => ?_
  rw[cZ _ (by rintro rfl; exact hi hj)]
theorem Mt {i:Nat} {ob:bZ}:∀(l:List (Nat × bZ)) (h:az),(∀x∈l,x.1≠i)→az.Ad (h.set i ob) l=(az.Ad h l).set i ob
  | [],_,_=>rfl
  | x::l,h,hl=>by
    simp only[az.Ad]
    rw[List.set_comm _ _ (Ne.symm (hl x (by simp)))]
    exact Mt l _ fun y hy=>hl y (by simp[hy])
theorem Yc {i:Nat} {ob:bZ} {ord:List Nat} (hi:i∉ord) (hl:i<h.length) (h':az):az.back (h.set i ob) ord h'=(h.back ord h').set i ob:=by
  unfold az.back
  simp only[List.length_set]
  rw[Mt _ _ fun x hx=>by
    have:=(List.of_mem_zip hx).1
    rintro rfl
    exact hi this]
  rw[List.set_append_left _ _ (by rw[fZ]; exact hl)]
theorem Wb {E:Env R} {cl:Call} (hp:oC E (.call cl)=false) (hs:mU E (.call cl)=false) {full:Bool} {fr:List V} {i:Nat} {ob:bZ} (hi:i∉nh (.call cl) (ev fr) h) (hl:i<h.length) {k:V→az→Option R} :
    yh tt E full cl (ev fr) (h.set i ob) k=yh tt E full cl (ev fr) h fun v h'=>k v (h'.set i ob):=by
  unfold yh
  split
  · rename_i f hf
    split
    · rename_i g first cap hg
      simp only
      have Mm:nh (.call cl) (ev fr) h=reach h 64 (V.sW (first++cl.args.toList.map (ev fr)++cap)) []:=by simp only[nh,hf,hg]
      rw[Mm]at hi
      split
      · exfalso
        rename_i PZ
        cases f with
        | tmp t=>simp[oC,hf]at hp
        | func g' =>
          simp only[ev,V.func.injEq]at hg
          obtain ⟨rfl,_,_⟩:=hg
          simp[oC,hf,PZ]at hp
        | const c=>exact D7 hg
        | global _=>simp[ev]at hg
      · rename_i sp PZ
        cases full
        · rfl
        · simp only[cond_true]
          cases hg0:oY.soft g with
          | true =>
            exfalso
            cases f with
            | tmp t=>simp[oC,hf]at hp
            | func g' =>
              simp only[ev,V.func.injEq]at hg
              obtain ⟨rfl,_,_⟩:=hg
              simp[mU,hf,hg0,PZ]at hs
            | const c=>exact D7 hg
            | global _=>simp[ev]at hg
          | false =>
            simp only[cond_false]
            rw[Gl _ _ _ hi,Yb hi]
            congr 1
            funext v h'
            rw[Yc hi hl,List.length_set]
      · rfl
    · rfl
  · rfl

theorem RA {E:Env R} {cl:Call} {full:Bool} {ρ ρ':Operand→V} (Xr:∀z∈cl.operands,ρ' z=ρ z) {k:V→az→Option R}:yh tt E full cl ρ' h k=yh tt E full cl ρ h k:=by
  have UH:cl.args.toList.map ρ'=cl.args.toList.map ρ:=List.map_congr_left fun z hz=>Xr z (by simp[Call.operands]; exact .inr (by simpa using hz))
  unfold yh
  split
  · rename_i f hf
    rw[Xr f (by simp[Call.operands,hf]),UH]
  · rfl

theorem UI {E:Env R} {S:Option (Bool × List Nat)} {base:Nat} {all:List Oper} {x y:Oper} {e:UF} {ix id:Nat} (Fs:GZ (er tt E x.op) (er tt E y.op)=true∨(pR y.op=true∧S.map (·.1)≠some true∧(cm tt x=true→id<ix))∨(fF tt x.op = .R∧pR y.op=true)∨(fF tt x.op = .R∧mU E y.op=true)∨(fF tt x.op = .R∧er tt E y.op = .F)∨(fF tt x.op = .A∧S.map (·.1)=some true∧er tt E y.op = .F∧mU E y.op=false)∨(fF tt x.op = .R∧fF tt y.op = .W)) (hap:yk all x y=true) (hc:calm (fF tt x.op)=true) (he:e.dst=x.dst)
    (RB:∀i ob,e.put=some (i,ob)→i=ix∧fF tt x.op = .A) (hid:cm tt x=true→cm tt y=true→ix≠id) (hb:cm tt x=true→base≤ix) (ht:cm tt x=true→ix<base+(all.filter (cm tt)).length) (st:St) (k:St→Option R) :
    one tt E S base all y id (eff st e) k=one tt E S base all y id st fun JJ=>k (eff JJ e):=by
  obtain ⟨a1,a2,a3⟩:=apart_spec hap
  have hl:∀t∈looks all y,(mT st.fr e.dst e.v).getD t .undef=st.fr.getD t .undef:=fun t ht=>OU fun h=>a1 t (he▸h) ht
  have Ku:∀u,mT (mT st.fr e.dst e.v) y.dst u=mT (mT st.fr y.dst u) e.dst e.v:=fun u=>V9 fun d hd=>a2 d (he▸hd)
  obtain ⟨fr,Wc⟩:=st
  simp only at hl Ku
  have hokS:Hm tt E base S all y (ev (mT fr e.dst e.v)) (e.hp Wc)=Hm tt E base S all y (ev fr) Wc:=by
    rw[OV hl]
    match S,Fs with
    | none,_=>rfl
    | some (false,A),_=>simp only[Hm]
    | some (true,A),Fs =>
      simp only[Hm]
      split
      · rfl
      · rename_i BV
        cases hf:Xm tt E y.op with
        | false=>rfl
        | true =>
          have hF:er tt E y.op = .F:=by revert hf; unfold Xm; cases er tt E y.op <;> simp
          cases hq:e.put with
          | none=>simp only[UF.hp,hq]
          | some jo =>
            obtain ⟨j,ob⟩:=jo
            obtain ⟨rfl,hA⟩:=RB j ob hq
            have hna:pR y.op=true→False:=fun ha=>by rw[CK ha]at BV; cases BV
            rcases Fs with Fs|⟨h,_⟩|⟨_,h⟩|⟨h,_⟩|⟨h,_⟩|⟨_,_,_,hsf⟩|⟨h,_⟩
            · rw[rU (by rw[hA]; simp),hF,hA]at Fs
              cases Fs
            · exact (hna h).elim
            · exact (hna h).elim
            · rw[hA]at h; cases h
            · rw[hA]at h; cases h
            · simp only[UF.hp,hq,hsf,Bool.not_true,Bool.false_or,List.length_set]
              have hbj:=hb (by simp[cm,hA])
              by_cases hm:j∈nh y.op (ev fr) Wc
              · have hm2:j∈nh y.op (ev fr) (Wc.set j ob):=by
                  by_cases hm2:j∈nh y.op (ev fr) (Wc.set j ob)
                  · exact hm2
                  · rw[P7 hm2]; exact hm
                have Q8:∀l:List Nat,j∈l→l.all (fun i=>Nat.blt i base)=false:=fun l hl=>by
                  rw[List.all_eq_false]
                  exact ⟨j,hl,by simpa using hbj⟩
                rw[Q8 _ hm,Q8 _ hm2]
                simp
              · rw[Kt hm]
            · rw[hA]at h; cases h
      · rfl
      · rfl
  unfold one
  refine Mq hl ?_ ?_
  · simp only[eff]
    rw[hokS]
    cases hS:Hm tt E base S all y (ev fr) Wc with
    | false=>rfl
    | true =>
    simp only[cond_true]
    unfold zA
    simp only
    split
    · rw[ON (Dv hl)]
      simp only[Ku]
    · rename_i BV
      rw[P6 (by rw[BV]; simp),OO (Dv hl),Rz (h:=Wc)]
      · simp only[Ku]
      · intro i _ hi
        unfold UF.hp
        split
        · rfl
        · rename_i j ob hj
          obtain ⟨rfl,hA⟩:=RB _ _ hj
          have:=hb (by simp[cm,hA])
          simp[EK]at hi
          rw[cZ _ (by omega)]
    · rename_i BV
      rw[OP (Dv hl)]
      simp only[Ku]
      congr 1
      funext ob mk
      congr 2
      unfold UF.hp
      split
      · rfl
      · rename_i j ob' hj
        obtain ⟨rfl,hA⟩:=RB _ _ hj
        exact List.set_comm _ _ (hid (by simp[cm,hA]) (by simp[cm,BV]))
    · rename_i BV
      rw[P2 (Dv hl)]
      cases P3:((Xn tt S base y).isSome && !vD y.op (ev fr) id)with
      | true=>rfl
      | false =>
        simp only[cond_false]
        cases hq:e.put with
        | none =>
          rw[OQ (Dv hl)]
          simp only[Ku,UF.hp,hq]
        | some jo =>
          obtain ⟨j,ob⟩:=jo
          obtain ⟨rfl,hA⟩:=RB j ob hq
          have hy:pR y.op=true∧S.map (·.1)≠some true∧id<j:=by
            rcases Fs with h|⟨h,h3,h2⟩|⟨h,_⟩|⟨h,_⟩|⟨h,_⟩|⟨_,_,h,_⟩|⟨h,_⟩
            · rw[rU (by rw[hA]; simp),rU (by rw[BV]; simp),hA,BV]at h; cases h
            · exact ⟨h,h3,h2 (by simp[cm,hA])⟩
            · rw[hA]at h; cases h
            · rw[hA]at h; cases h
            · rw[hA]at h; cases h
            · rw[rU (by rw[BV]; simp),BV]at h; cases h
            · rw[hA]at h; cases h
          rw[OQ (Dv hl)]
          simp only[Ku,UF.hp,hq]
          have Yd:vD y.op (ev fr) id=true:=by rw[Ry hy.2.1]at P3; simpa using P3
          exact opW_set hy.1 Yd hy.2.2
    · rename_i BV
      rw[P6 (by rw[BV]; simp)]
      split
      · rename_i cl hcl'
        simp only[Ku]
        have Xr:∀z∈cl.operands,ev (mT fr e.dst e.v) z=ev fr z:=fun z hz=>Dv hl z (by rw[hcl']; exact hz)
        have UH:cl.args.toList.map (ev (mT fr e.dst e.v))=cl.args.toList.map (ev fr):=List.map_congr_left fun z hz=>Xr z (by simp[Call.operands]; exact .inr (by simpa using hz))
        cases Xo:oC E y.op with
        | true =>
          have Ye:(Option.isNone (some base) || !true)=false:=rfl
          rw[hcl']at Xo
          rw[Ye]
          unfold yh
          split
          · rename_i f hf
            rw[Xr f (by simp[Call.operands,hf]),UH]
            split
            · split
              · simp only[cond_false]
              · rfl
              · rfl
            · rfl
          · rfl
        | false =>
          have hF:er tt E y.op = .F:=by unfold er; rw[BV]; simp[Xo]
          rw[RA Xr]
          cases hq:e.put with
          | none =>
            have hh2:∀h2,e.hp h2=h2:=fun h2=>by simp[UF.hp,hq]
            simp only[hh2]
          | some jo =>
            obtain ⟨j,ob⟩:=jo
            obtain ⟨rfl,hA⟩:=RB j ob hq
            have hna:pR y.op=true→False:=fun ha=>by rw[CK ha]at BV; cases BV
            rcases Fs with Fs|⟨h,_⟩|⟨_,h⟩|⟨h,_⟩|⟨h,_⟩|⟨_,h2,_,hsf⟩|⟨h,_⟩
            · rw[rU (by rw[hA]; simp),hF,hA]at Fs
              cases Fs
            · exact (hna h).elim
            · exact (hna h).elim
            · rw[hA]at h; cases h
            · rw[hA]at h; cases h
            · have hh2:∀h2,e.hp h2=h2.set j ob:=fun h2=>by simp[UF.hp,hq]
              simp only[hh2]
              have hif:Xm tt E y.op=true:=by unfold Xm; rw[hF]
              match S,h2,hS with
              | some (true,A),_,hS =>
                simp only[Hm,BV,hif,hsf,Bool.not_true,Bool.false_or,Bool.and_eq_true,List.all_eq_true]at hS
                have hbj:=hb (by simp[cm,hA])
                have htj:=ht (by simp[cm,hA])
                have h3:base+(all.filter (cm tt)).length≤Wc.length:=by simpa using hS.1.1
                rw[hcl']at Xo hsf
                refine Wb Xo hsf (fun hm => ?_) (by omega)
                have h4:=hS.1.2 j (by rw[hcl']; exact hm)
                simp at h4
                omega
            · rw[hA]at h; cases h
      · rfl
    · rfl
    · rfl
  · simp only[eff,Ku]

theorem Tg {E:Env R} (hE:p8 P E) {cl:Call} (hs:mU E (.call cl)=true) {full:Bool} {fr:List V} {k k':V→az→Option R} (he:∀v,k v h=k' v h) :
    yh tt E full cl (ev fr) h k=yh tt E full cl (ev fr) h k':=by
  unfold mU at hs
  simp only at hs
  split at hs
  · rename_i g hg
    simp only[Bool.and_eq_true]at hs
    obtain ⟨h1,h2⟩:=hs
    split at h2
    · rename_i sp PZ
      unfold yh
      simp only[hg,ev,PZ,h1]
      cases full
      · rfl
      · simp only[cond_true]
        exact (hE g _ sp PZ).2 rfl h1 _ _ _ _ he
    · cases h2
  · cases hs

theorem Th {E:Env R} {cl:Call} (hp:oC E (.call cl)=false) (hs:mU E (.call cl)=false) {full:Bool} {fr:List V} {k k':V→az→Option R}
    (he:∀v h',(∀i,i<h.length→i∉nh (.call cl) (ev fr) h→h'.at i=h.at i)→k v h'=k' v h') (h0:∀v,k v h=k' v h):yh tt E full cl (ev fr) h k=yh tt E full cl (ev fr) h k':=by
  unfold yh
  split
  · rename_i f hf
    split
    · rename_i g first cap hg
      simp only
      split
      · split
        · congr 1
          funext v h'
          cases h' with
          | nil=>exact h0 v
          | cons _ _=>rfl
        · cases full
          · rfl
          · simp only[cond_true]
            unfold XF
            split
            · congr 1
              funext v h'
              cases h' with
              | nil=>simp only[h0]
              | cons _ _=>rfl
            · rfl
      · rename_i sp PZ
        cases full
        · rfl
        · simp only[cond_true]
          cases hg0:oY.soft g with
          | true =>
            exfalso
            cases f with
            | tmp t=>simp[oC,hf]at hp
            | func g' =>
              simp only[ev,V.func.injEq]at hg
              obtain ⟨rfl,_,_⟩:=hg
              simp[mU,hf,hg0,PZ]at hs
            | const c=>exact D7 hg
            | global _=>simp[ev]at hg
          | false =>
            simp only[cond_false]
            congr 1
            funext v h'
            refine he _ _ fun i hi hn => ?_
            unfold az.back
            simp only
            rw[ln (by rw[fZ]; exact hi)]
            refine D5 _ _ _ ?_
            simpa only[nh,hf,hg]using hn
      · rfl
    · rfl
  · rfl

theorem BL {all:List Oper} {x:Oper} (h:lj all x=true∨rR all x=true):∃t a y,x.op = .store t a y∧x.dst=none∧x.guard=none:=by
  rcases h with h|h
  · unfold lj at h
    split at h
    · rename_i ho
      simp only[Bool.and_eq_true,Option.isNone_iff_eq_none]at h
      exact ⟨_,_,_,ho,h.1.1,h.1.2⟩
    · cases h
  · unfold rR at h
    split at h
    · rename_i ho
      simp only[Bool.and_eq_true,Option.isNone_iff_eq_none]at h
      exact ⟨_,_,_,ho,h.1.1,h.1.2⟩
    · cases h
theorem Gm {all:List Oper} {x y:Oper} (h:SH all x y=true):(lj all x=true∧rR all y=true)∨(rR all x=true∧lj all y=true):=by
  simpa only[SH,Bool.or_eq_true,Bool.and_eq_true]using h
theorem Dw {all:List Oper} {x y:Oper} (h:SH all x y=true):fF tt x.op = .W∧fF tt y.op = .W:=by
  have h1:∀z,lj all z=true∨rR all z=true→fF tt z.op = .W:=fun z hz=>by
    obtain ⟨t,a,y,e,_⟩:=BL hz
    rw[e]; rfl
  rcases Gm h with ⟨h2,h3⟩|⟨h2,h3⟩
  · exact ⟨h1 _ (.inl h2),h1 _ (.inr h3)⟩
  · exact ⟨h1 _ (.inr h2),h1 _ (.inl h3)⟩
theorem Kv (t:Nat) (a y:Operand) (ρ:Operand→V) (h:az) (id:Nat) :
    (∀k:V→az→Option R,Lp tt (.store t a y) ρ h id k=none)∨∃i ob,i∈(ρ a).ids∧∀(h2:az) (id2:Nat) (k:V→az→Option R),h2.at i=h.at i→Lp tt (.store t a y) ρ h2 id2 k=k .undef (h2.set i ob):=by
  simp only[Lp]
  cases hvs:Oz (ρ y)with
  | none=>exact .inl fun k=>rfl
  | some vs =>
  simp only
  by_cases hc:(tt.ok t&&decide (vs.length=(tt.at t).size))=true
  rotate_left
  · exact .inl fun k=>by rw[if_neg hc]
  simp only[hc,if_true]
  cases hx:ρ a with
  | ptr i o =>
    simp only
    cases hi:h.at i with
    | cells cs =>
      by_cases hle:o+vs.length≤cs.length
      · exact .inr ⟨i, .cells (Af cs o vs),by simp[V.ids],fun h2 id2 k e=>by simp only[e,hi,hle,if_true]⟩
      · exact .inl fun k=>by simp only[hle,if_false]
    | kR bv =>
      match o,vs with
      | 1, [v]=>exact .inr ⟨i, .kR v,by simp[V.ids],fun h2 id2 k e=>by simp only[e,hi]⟩
      | 0,_=>exact .inl fun k=>rfl
      | 1, []=>exact .inl fun k=>rfl
      | 1,_::_::_=>exact .inl fun k=>rfl
      | _+2,_=>exact .inl fun k=>rfl
    | _=>exact .inl fun k=>rfl
  | tH i sz j o =>
    simp only
    cases hi:h.at i with
    | row T l =>
      by_cases qS:sz=T.sz
      · by_cases hle:o+vs.length≤(T.cells (l.getD j T.ck)).length
        · cases hz:T.dec (Af (T.cells (l.getD j T.ck)) o vs)with
          | none=>exact .inl fun k=>by simp only[qS,hle,if_true,hz]
          | some z =>
            by_cases hj:j<l.length
            · exact .inr ⟨i, .row T (l.set j z),by simp[V.ids],fun h2 id2 k e=>by simp only[e,hi,qS,hle,if_true,hz,cU,hj,decide_true,cond_true]⟩
            · exact .inl fun k=>by simp only[qS,hle,if_true,hz,cU,hj,decide_false,cond_false]
        · exact .inl fun k=>by simp only[qS,hle,if_true,if_false]
      · exact .inl fun k=>by simp only[qS,if_false]
    | _=>exact .inl fun k=>rfl
  | _=>exact .inl fun k=>rfl
theorem Wd {t:Nat} {a y:Operand} {ρ:Operand→V} {id:Nat} {k0:V→az→Option R} {r:R} (hk:Lp tt (.store t a y) ρ h id k0=some r) :
    ∃i ob,i∈(ρ a).ids∧k0 .undef (h.set i ob)=some r∧∀(h2:az) (id2:Nat) (k:V→az→Option R),h2.at i=h.at i→Lp tt (.store t a y) ρ h2 id2 k=k .undef (h2.set i ob):=by
  rcases Kv (tt:=tt) (R:=R) t a y ρ h id with h1|⟨i,ob,h1,h2⟩
  · rw[h1]at hk; cases hk
  · rw[h2 h id k0 rfl]at hk
    exact ⟨i,ob,h1,hk,h2⟩

theorem JK {E:Env R} (hE:p8 P E) {S:Option (Bool × List Nat)} {base:Nat} {all:List Oper} {y:Oper} {id:Nat} {st:St} {k k':St→Option R} (hb:cm tt y=true→base≤id)
    (h:∀v Xq,Kept S tt E all base y st.hp Xq→k ⟨mT st.fr y.dst v,Xq⟩=k' ⟨mT st.fr y.dst v,Xq⟩):one tt E S base all y id st k=one tt E S base all y id st k':=by
  have h0:∀v,k ⟨mT st.fr y.dst v,st.hp⟩=k' ⟨mT st.fr y.dst v,st.hp⟩:=fun v=>h v _ (.inl fun _ _=>rfl)
  obtain ⟨fr,Wc⟩:=st
  unfold one
  refine Mq (fun _ _=>rfl) ?_ (h0 _)
  cases hS:Hm tt E base S all y (ev fr) Wc with
  | false=>rfl
  | true =>
  simp only[cond_true]
  unfold zA
  simp only at h h0 ⊢
  split
  · simp only[h0]
  · simp only[h0]
  · rename_i BV
    congr 1
    funext ob mk
    refine h _ _ (.inl fun i hi => ?_)
    have:=hb (by simp[cm,BV])
    rw[cZ _ (by omega)]
  · rename_i BV
    have hbi:=hb (by simp[cm,BV])
    cases P3:((Xn tt S base y).isSome && !vD y.op (ev fr) id)with
    | true=>rfl
    | false =>
      simp only[cond_false]
      by_cases ha:pR y.op=true
      · by_cases Ti:S.map (·.1)=some true
        · congr 1
          funext v h'
          refine h v h' (.inr ⟨.inr ⟨Ti,ha⟩,fun hF => ?_,fun hv => ?_⟩)
          · rw[rU (by rw[BV]; simp),BV]at hF; cases hF
          · obtain ⟨t,a,z,ey,_⟩:=BL (.inl hv)
            rw[ey]at ha; cases ha
        have Yd:vD y.op (ev fr) id=true:=by rw[Ry Ti]at P3; simpa using P3
        exact Rx ha Yd fun v h' hrd=>h v h' (.inl fun i hi=>hrd i (by omega))
      · have htu:turns tt E y.op := .inl ⟨by rw[rU (by rw[BV]; simp),BV],by simpa using ha⟩
        have hnF:er tt E y.op ≠ .F:=fun hF=>by rw[rU (by rw[BV]; simp),BV]at hF; cases hF
        by_cases hv:lj all y=true
        · obtain ⟨t,a,z,ey,_,_⟩:=BL (.inl hv)
          rw[ey]
          rcases Kv (tt:=tt) (R:=R) t a z (ev fr) Wc id with h1|⟨i,ob,h1,h2⟩
          · rw[h1,h1]
          · rw[h2 Wc id _ rfl,h2 Wc id _ rfl]
            refine h _ _ (.inr ⟨.inl htu,fun hF=>(hnF hF).elim,fun _ A hA j hj => ?_⟩)
            subst hA
            simp only[Hm,BV,hv,Bool.not_true,Bool.false_or,List.all_eq_true]at hS
            have h3:=hS i (by rw[ey]; exact h1)
            rw[cZ _ (by rintro rfl; exact hj (by simpa using h3))]
        · congr 1
          funext v h'
          exact h v h' (.inr ⟨.inl htu,fun hF=>(hnF hF).elim,fun We=>(hv We).elim⟩)
  · rename_i BV
    rw[P6 (by rw[BV]; simp)]
    split
    · rename_i cl Fs
      cases Xo:oC E y.op with
      | true =>
        have Ye:(Option.isNone (some base) || !true)=false:=rfl
        rw[Ye]
        unfold yh
        split
        · split
          · split
            · simp only
              split
              · congr 1
                funext v h'
                cases h' with
                | nil=>exact h0 v
                | cons _ _=>rfl
              · rfl
            · rfl
            · rfl
          · rfl
        · rfl
      | false =>
        have hF:er tt E y.op = .F:=by unfold er; rw[BV]; simp[Xo]
        cases hs:mU E y.op with
        | true=>exact Tg hE (by rw[←Fs]; exact hs) fun v=>h0 v
        | false =>
          have htu:turns tt E y.op := .inr ⟨hF,hs⟩
          refine Th (by rw[Fs]at Xo; exact Xo) (by rw[Fs]at hs; exact hs) (fun v h' hh=>h v h' (.inr ⟨.inl htu,fun _ A hA => ?_,fun hv => ?_⟩)) fun v=>h0 v
          rotate_left
          · obtain ⟨t,a,z,ey,_⟩:=BL (.inl hv)
            rw[ey]at Fs; cases Fs
          subst hA
          have hif:Xm tt E y.op=true:=by unfold Xm; rw[hF]
          simp only[Hm,BV,hif,hs,Bool.not_true,Bool.false_or,List.all_eq_true,Bool.and_eq_true]at hS
          intro i hi
          have h1:=hS.2 i hi
          rw[Fs]at h1
          rw[hh i (by simpa using h1.1) (by simpa using h1.2)]
    · rfl
  · rfl
  · rfl
end

section
variable {P:Program} {tt:dM} {w w':World} {h h':az} {c c':ko} {R:Type}

theorem Yf {o:Oper} {a:Act} {G:Prop} (h:o.wp P a w (fun _ _=>G) (fun _ _ _=>G)):G:=by
  unfold Oper.wp at h
  generalize (execOp a.eval o).run P w=r at h
  cases r with
  | ok n w' =>
    cases n <;> simp only[Oper.upon]at h <;> try (first|exact h|exact h.elim)
    · obtain ⟨e,w',fr,hR,_⟩:=h []
      cases e with
      | returned v=>exact hR
      | panicked c=>exact hR
      | outgrown=>obtain ⟨_,_,g⟩:=hR; exact g
    · obtain ⟨v,w',g,_⟩:=h (Frame.enter P 0 #[] .normal) []
      exact g
  | halt x w'=>cases x <;> simp only[Oper.upon]at h <;> first|exact h|exact h.elim

theorem Wf (T:xT P tt) {E:Env R} (hE:p8 P E) {S:Option (Bool × List Nat)} {base:Nat} {ops:Array Oper} {y:Oper} {id:Nat} {st:St} {a:Act} {k:St→Option R} {r:R} (hk:one tt E S base ops.toList y id st k=some r) (iR:Hw w c st a)
    (hid:cm tt y=true→base≤id∧id<st.hp.length∧st.hp.at id = .free) :
    ∃w1 c1 JJ a1 v,Hw w1 c1 JJ a1∧k JJ=some r∧JJ.fr=mT st.fr y.dst v∧Kept S tt E ops.toList base y st.hp JJ.hp∧tZ (cm tt y) id st.hp JJ.hp:=by
  classical
  obtain ⟨k',rS,hof⟩:∃k':St→Option R,one tt E S base ops.toList y id st k'=some r∧∀JJ,k' JJ=some r→k JJ=some r∧Kept S tt E ops.toList base y st.hp JJ.hp:=by
    refine ⟨fun JJ=>if Kept S tt E ops.toList base y st.hp JJ.hp then k JJ else none,?_,fun JJ e => ?_⟩
    · rw[←hk]
      refine JK hE (fun ha=>(hid ha).1) fun v Xq ht => ?_
      rw[if_pos ht]
    · simp only at e
      split at e
      · exact ⟨e, ‹_›⟩
      · cases e
  rcases D6 iR rS with ⟨_,hk⟩|⟨_,hk⟩
  · have hk:zA tt E (Xn tt S base y) id y st k'=some r:=by
      cases hS:Hm tt E base S ops.toList y (ev st.fr) st.hp with
      | true=>rw[hS]at hk; exact hk
      | false=>rw[hS]at hk; cases hk
    refine Yf (P:=P) (o:=y) (a:=a) (w:=w) (FD T hE hk iR (fun ha=>(hid ha).2) fun d w' tI c' v Tf x kp hf _ _ rS => ?_)
    exact ⟨w',c',tI,_,v,Tf,(hof _ rS).1,hf,(hof _ rS).2,kp⟩
  · exact ⟨w,c,⟨mT st.fr y.dst (.tuple []),st.hp⟩,a.put y.dst undef, .tuple [],⟨iR.wf,AW iR.fr _ JI⟩,(hof _ hk).1,rfl, .inl fun _ _=>rfl, .refl _ _ _⟩

structure Good (tt:dM) (base n:Nat) (rem:List wj) (h:az):Prop where
  top:∀z∈rem,cm tt z.2.1=true→z.2.2<base+n
  slot:∀z∈rem,cm tt z.2.1=true→base≤z.2.2∧z.2.2<h.length∧h.at z.2.2 = .free
  apart:rem.Pairwise fun z z'=>cm tt z.2.1=true→cm tt z'.2.1=true→z.2.2<z'.2.2

theorem Good.sub {base n:Nat} {rem rem':List wj} (g:Good tt base n rem h) (hs:List.Sublist rem' rem):Good tt base n rem' h :=
  ⟨fun z hz=>g.top z (hs.subset hz),fun z hz=>g.slot z (hs.subset hz),g.apart.sublist hs⟩

theorem Good.step {base n:Nat} {x:wj} {pre post:List wj} (g:Good tt base n (pre++x::post) h) (kp:tZ (cm tt x.2.1) x.2.2 h h'):Good tt base n (pre++post) h':=by
  have hs:List.Sublist (pre++post) (pre++x::post):=List.Sublist.append (List.Sublist.refl _) (List.sublist_cons_self _ _)
  refine ⟨fun z hz=>g.top z (hs.subset hz),fun z hz ha => ?_,g.apart.sublist hs⟩
  obtain ⟨h1,h2,h3⟩:=g.slot z (hs.subset hz) ha
  refine ⟨h1,Nat.lt_of_lt_of_le h2 kp.1,kp.2 _ (fun hx => ?_) h2 h3⟩
  have hp:=g.apart
  rw[List.pairwise_append,List.pairwise_cons]at hp
  rcases List.mem_append.1 hz with hz|hz
  · have:=hp.2.2 z hz x (by simp) ha hx; omega
  · have:=hp.2.1.1 z hz hx ha; omega

theorem Mu {all:List Oper} {x y:Oper} (h2:yk all x y=true):yk all y x=true:=by
  obtain ⟨a1,a2,a3⟩:=apart_spec h2
  simp only[yk,Bool.and_eq_true]
  constructor
  · cases hd:y.dst with
    | none=>rfl
    | some d =>
      have h3:=a3 d hd
      have h4:x.dst≠some d:=fun e=>a2 d e hd
      simp[h3,h4]
  · cases hd:x.dst with
    | none=>rfl
    | some d=>simp[a1 d hd]
theorem Mv {a b:Cls} (h:GZ a b=true):GZ b a=true:=by revert h; cases a <;> cases b <;> simp[GZ]
theorem BM {E:Env R} {all:List Oper} {x y:Oper} (h:Jv tt E all x y=true):yk all x y=true ∧
    (GZ (er tt E x.op) (er tt E y.op)=true∨(pR x.op=true∧(er tt E y.op = .A∨er tt E y.op = .R))∨(er tt E x.op = .R∧pR y.op=true)∨(mU E x.op=true∧er tt E y.op = .R)∨(er tt E x.op = .R∧mU E y.op=true)):=by
  simp only[Jv,Bool.and_eq_true,Bool.or_eq_true,tokPair]at h
  obtain ⟨h1,h2⟩:=h
  refine ⟨h2,?_⟩
  rcases h1 with h1|(⟨h1,h3⟩|⟨h1,h3⟩)|(⟨h1,h3⟩|⟨h1,h3⟩)
  · exact .inl h1
  · refine .inr (.inl ⟨h1,?_⟩)
    revert h3; cases er tt E y.op <;> simp
  · refine .inr (.inr (.inl ⟨?_,h3⟩))
    revert h1; cases er tt E x.op <;> simp
  · refine .inr (.inr (.inr (.inl ⟨h1,?_⟩)))
    revert h3; cases er tt E y.op <;> simp
  · refine .inr (.inr (.inr (.inr ⟨?_,h3⟩)))
    revert h1; cases er tt E x.op <;> simp
theorem RC {E:Env R} {o:Op} (h:Xm tt E o=true):er tt E o = .F:=by revert h; unfold Xm; cases er tt E o <;> simp
theorem Yg {E:Env R} {all:List Oper} {x:Oper} (h:Vo tt E all x=true):er tt E x.op = .R:=by
  simp only[Vo,Bool.and_eq_true]at h
  revert h
  cases er tt E x.op <;> simp
theorem Wg {E:Env R} {all:List Oper} {x:Oper} (h:OB tt E all x=true):er tt E x.op = .R:=by
  simp only[OB,Bool.and_eq_true]at h
  revert h
  cases er tt E x.op <;> simp
theorem rh {E:Env R} {far:Option Bool} {all:List Oper} {x y:Oper} (h:EL tt E far all x y=true):yk all x y=true∧((Jv tt E all x y=true∧(far=some true→QT tt E x y=true))∨(far=some true ∧
    ((Vo tt E all x=true∧er tt E x.op = .R∧er tt E y.op = .F)∨(er tt E x.op = .F∧mU E x.op=false∧fF tt y.op = .A)∨SH all x y=true))∨(far=some false∧OB tt E all x=true∧er tt E x.op = .R∧lj all y=true)):=by
  unfold EL at h
  simp only[Bool.or_eq_true,Bool.and_eq_true]at h
  rcases h with ⟨h,hn⟩|h
  · exact ⟨(BM h).1, .inl ⟨h,fun e=>by subst e; exact hn⟩⟩
  · split at h
    · cases h
    · simp only[Bool.or_eq_true,Bool.and_eq_true]at h
      rcases h with ⟨(⟨h2,h3⟩|⟨h2,h3,h5⟩)|h2,h4⟩
      · exact ⟨h4, .inr (.inl ⟨rfl, .inl ⟨h2,Yg h2,RC h3⟩⟩)⟩
      · refine ⟨h4, .inr (.inl ⟨rfl, .inr (.inl ⟨RC h2,by simpa using h3,?_⟩)⟩)⟩
        revert h5
        cases fF tt y.op <;> simp
      · exact ⟨h4, .inr (.inl ⟨rfl, .inr (.inr h2)⟩)⟩
    · simp only[Bool.and_eq_true]at h
      exact ⟨h.2, .inr (.inr ⟨rfl,h.1.1,Wg h.1.1,h.1.2⟩)⟩
theorem P8 {all:List Oper} {x:Oper} (h:lj all x=true∨rR all x=true):fF tt x.op = .W:=by
  obtain ⟨t,a,y,e,_⟩:=BL h
  rw[e]; rfl
theorem OW {E:Env R} {S:Option (Bool × List Nat)} {base:Nat} {all:List Oper} {x:Oper} {id:Nat} {fr:List V} {k0:St→Option R} {r:R} (hx:lj all x=true∨rR all x=true) (hk:one tt E S base all x id ⟨fr,h⟩ k0=some r) :
    Hm tt E base S all x (ev fr) h=true∧∃i ob,i∈BP x.op (ev fr)∧k0 ⟨fr,h.set i ob⟩=some r∧∀(h2:az) (id2:Nat) (k:St→Option R),h2.at i=h.at i→one tt E S base all x id2 ⟨fr,h2⟩ k=k ⟨fr,h2.set i ob⟩:=by
  obtain ⟨t,a,y,e,hd,hg⟩:=BL hx
  obtain ⟨dst,op,ty,pos,after,guard⟩:=x
  simp only at e hd hg
  subst e hd hg
  unfold one at hk ⊢
  rw[BK]at hk
  simp only at hk
  have hS:Hm tt E base S all ⟨none, .store t a y,ty,pos,after,none⟩ (ev fr) h=true:=by
    cases hS:Hm tt E base S all ⟨none, .store t a y,ty,pos,after,none⟩ (ev fr) h with
    | true=>rfl
    | false=>rw[hS]at hk; cases hk
  refine ⟨hS,?_⟩
  have Ti:∀(dr:Option Nat) (id:Nat) (h:az) (k:St→Option R),zA tt E dr id ⟨none, .store t a y,ty,pos,after,none⟩ ⟨fr,h⟩ k=Lp tt (.store t a y) (ev fr) h id fun v h=>k ⟨mT fr none v,h⟩:=fun dr id h k=>by cases dr <;> rfl
  rw[hS,cond_true,Ti]at hk
  obtain ⟨i,ob,h1,h2,h3⟩:=Wd (tt:=tt) (t:=t) (a:=a) (y:=y) (ρ:=ev fr) (id:=id) (k0:=fun v h=>k0 ⟨mT fr none v,h⟩) hk
  refine ⟨i,ob,h1,h2,fun hh id2 k e => ?_⟩
  rw[BK]
  simp only
  have hS2:Hm tt E base S all ⟨none, .store t a y,ty,pos,after,none⟩ (ev fr) hh=true:=by
    rw[←hS]
    match S with
    | none=>rfl
    | some (true,A)=>rfl
    | some (false,A)=>rfl
  rw[hS2,cond_true,Ti]
  exact h3 hh id2 (fun v h=>k ⟨mT fr none v,h⟩) e
theorem Mw {E:Env R} {o:Op} (hs:mU E o=true):fF tt o = .C:=by
  unfold mU at hs
  split at hs
  · split at hs
    · rename_i cl _ g hg
      simp only[fF,hg]
    · cases hs
  · cases hs
theorem P9 {E:Env R} {o:Op} (hs:mU E o=true):er tt E o = .F:=by
  have hc:=Mw (tt:=tt) hs
  have hp:oC E o=false:=by
    unfold mU at hs
    unfold oC
    split at hs
    · split at hs
      · rename_i cl _ g hg
        simp only[Bool.and_eq_true]at hs
        obtain ⟨_,h2⟩:=hs
        split at h2
        · rename_i sp PZ
          simp only[hg,PZ]
        · cases h2
      · cases hs
    · cases hs
  unfold er
  rw[hc,hp]
  rfl
theorem Tj {E:Env R} {o:Op} (ha:pR o=true):er tt E o = .W:=by rw[rU (by rw[CK ha]; simp),CK ha]
theorem Mx {E:Env R} {o:Op} {a:Cls} (h:er tt E o=a) (h1:a ≠ .C) (h2:a ≠ .F):fF tt o=a:=by
  unfold er at h
  split at h
  · revert h; cases oC E o <;> intro h <;> subst h <;> simp at h1 h2
  · exact h
theorem OX {E:Env R} {all:List Oper} {x y:Oper} (h:Jv tt E all x y=true∨Jv tt E all y x=true) (hR:fF tt x.op = .R):¬turns tt E y.op:=by
  have hx:er tt E x.op = .R:=by rw[rU (by rw[hR]; simp),hR]
  intro ht
  have hna:pR y.op=true→False:=fun ha=>by
    rcases ht with ⟨_,h⟩|⟨h,_⟩
    · rw[ha]at h; cases h
    · rw[Tj ha]at h; cases h
  have H0:mU E y.op=true→False:=fun hs=>by
    rcases ht with ⟨h,_⟩|⟨_,h⟩
    · rw[P9 hs]at h; cases h
    · rw[hs]at h; cases h
  have hc:GZ .R (er tt E y.op)=false:=by rcases ht with ⟨h,_⟩|⟨h,_⟩ <;> rw[h] <;> rfl
  rcases h with h|h
  · rcases (BM h).2 with h|⟨h,_⟩|⟨_,h⟩|⟨h,_⟩|⟨_,h⟩
    · rw[hx,hc]at h; cases h
    · rw[Tj h]at hx; cases hx
    · exact hna h
    · rw[P9 h]at hx; cases hx
    · exact H0 h
  · rcases (BM h).2 with h|⟨h,_⟩|⟨h,h'⟩|⟨h,_⟩|⟨_,h⟩
    · have:=Mv h; rw[hx,hc]at this; cases this
    · exact hna h
    · rw[Tj h']at hx; cases hx
    · exact H0 h
    · rw[P9 h]at hx; cases hx

theorem CL.symm {S:Option (Bool × List Nat)} {E:Env R} {all:List Oper} {base:Nat} {x:Oper} {s t:St} (h:CL S E all tt base x s t):CL S E all tt base x t s:=⟨fun u hu=>(h.1 u hu).symm,fun hR i hi hA hB=>(h.2 hR i hi hA hB).symm⟩
theorem CL.trans {S:Option (Bool × List Nat)} {E:Env R} {all:List Oper} {base:Nat} {x:Oper} {s t u:St} (h:CL S E all tt base x s t) (h':CL S E all tt base x t u):CL S E all tt base x s u :=
  ⟨fun v hv=>(h'.1 v hv).trans (h.1 v hv),fun hR i hi hA hB=>(h'.2 hR i hi hA hB).trans (h.2 hR i hi hA hB)⟩

theorem D8 {E:Env R} {S:Option (Bool × List Nat)} {all:List Oper} {base:Nat} {x y:Oper} (hp:EL tt E (S.map (·.1)) all x y=true∨EL tt E (S.map (·.1)) all y x=true) {st JJ:St} {v:V} (hf:JJ.fr=mT st.fr y.dst v) (hh:Kept S tt E all base y st.hp JJ.hp) :
    CL S E all tt base x st JJ:=by
  have h2:yk all y x=true:=by
    rcases hp with h|h
    · exact Mu (rh h).1
    · exact (rh h).1
  refine ⟨fun t ht => ?_,fun hR i hi hA hB => ?_⟩
  · rw[hf]
    exact OU fun e=>(apart_spec h2).1 t e ht
  · rcases hh with hh|⟨hW,hh,hh2⟩
    · exact hh i hi
    · have hx:er tt E x.op = .R:=by rw[rU (by rw[hR]; simp),hR]
      rcases hp with h|h
      · rcases (rh h).2 with ⟨h,hn⟩|⟨h1,⟨h3,_,h4⟩|⟨h4,_⟩|h4⟩|⟨h1,h3,_,h4⟩
        · rcases hW with hW|⟨Ti,ha⟩
          · exact (OX (.inl h) hR hW).elim
          · have:=hn Ti
            simp[QT,rdA,hx,ha]at this
        · match S,h1 with
          | some (true,A),_=>exact hh h4 A rfl i (hA A rfl h3)
        · rw[hx]at h4; cases h4
        · rw[(Dw (tt:=tt) h4).1]at hR; cases hR
        · match S,h1 with
          | some (false,A),_=>exact hh2 h4 A rfl i (hB A rfl h3)
      · rcases (rh h).2 with ⟨h,hn⟩|⟨_,⟨_,_,h4⟩|⟨_,_,h4⟩|h4⟩|⟨_,_,_,h4⟩
        · rcases hW with hW|⟨Ti,ha⟩
          · exact (OX (.inr h) hR hW).elim
          · have:=hn Ti
            simp[QT,rdA,hx,ha]at this
        · rw[hx]at h4; cases h4
        · rw[hR]at h4; cases h4
        · rw[(Dw (tt:=tt) h4).2]at hR; cases hR
        · rw[P8 (tt:=tt) (.inl h4)]at hR; cases hR

section
variable {E:Env R} {S:Option (Bool × List Nat)} {base:Nat} {ops:Array Oper} {k:St→Option R} {r:R}

theorem pull (hE:p8 P E) {x:wj} {e:UF} {st0:St} (hc:calm (fF tt x.2.1.op)=true) (he:e.dst=x.2.1.dst) (RB:∀i ob,e.put=some (i,ob)→i=x.2.2∧fF tt x.2.1.op = .A)
    (hnat:∀Cl,CL S E ops.toList tt base x.2.1 st0 Cl→∀k,one tt E S base ops.toList x.2.1 x.2.2 Cl k=k (eff Cl e)) (post:List wj) :
    ∀(pre:List wj) (st:St) (h:az),Good tt base (ops.toList.filter (cm tt)).length (pre++x::post) h→(∀y∈pre,EL tt E (S.map (·.1)) ops.toList y.2.1 x.2.1=true)→CL S E ops.toList tt base x.2.1 st0 st →
      EZ tt E S base ops.toList (pre++x::post) st k=EZ tt E S base ops.toList (pre++post) (eff st e) k
  | [],st,_,_,_,ha=>hnat st ha _
  | y::pre,st,h,g,hp,ha=>by
    have hpy:=hp y (by simp)
    have gx:cm tt x.2.1=true→base≤x.2.2:=fun hx=>(g.slot x (by simp) hx).1
    have gy:cm tt y.2.1=true→base≤y.2.2:=fun hx=>(g.slot y (by simp) hx).1
    have glt:cm tt x.2.1=true→cm tt y.2.1=true→y.2.2<x.2.2:=fun hx hy=>by
      have:=g.apart
      rw[List.cons_append,List.pairwise_cons]at this
      exact this.1 x (by simp) hy hx
    have gne:cm tt x.2.1=true→cm tt y.2.1=true→x.2.2≠y.2.2:=fun hx hy=>by have:=glt hx hy; omega
    have Fs:GZ (er tt E x.2.1.op) (er tt E y.2.1.op)=true∨(pR y.2.1.op=true∧S.map (·.1)≠some true∧(cm tt x.2.1=true→y.2.2<x.2.2))∨(fF tt x.2.1.op = .R∧pR y.2.1.op=true)∨(fF tt x.2.1.op = .R∧mU E y.2.1.op=true)∨(fF tt x.2.1.op = .R∧er tt E y.2.1.op = .F)∨(fF tt x.2.1.op = .A∧S.map (·.1)=some true∧er tt E y.2.1.op = .F∧mU E y.2.1.op=false)∨(fF tt x.2.1.op = .R∧fF tt y.2.1.op = .W):=by
      rcases (rh hpy).2 with ⟨hpo,hna⟩|⟨hSo,⟨_,_,hF⟩|⟨hF,hsf,hA⟩|hW⟩|⟨_,_,_,hW⟩
      rotate_left
      rotate_left
      · exact .inr (.inr (.inr (.inr (.inr (.inl ⟨hA,hSo,hF,hsf⟩)))))
      · rw[(Dw (tt:=tt) hW).2]at hc; cases hc
      · rw[P8 (tt:=tt) (.inl hW)]at hc; cases hc
      rotate_left
      · have hC:fF tt x.2.1.op = .C:=by
          unfold er at hF
          split at hF
          · assumption
          · rw[hF]at hc; cases hc
        rw[hC]at hc; cases hc
      rcases (BM hpo).2 with h|⟨h,h'⟩|⟨_,h⟩|⟨h,h'⟩|⟨_,h⟩
      · exact .inl (Mv h)
      · refine .inr (.inl ⟨h,fun Ti => ?_,fun hx=>glt hx (by simp[cm,CK h])⟩)
        have:=hna Ti
        rcases h' with h'|h' <;> simp[QT,rdA,h,h']at this
      · rw[CK h]at hc; cases hc
      · exact .inr (.inr (.inr (.inl ⟨Mx h' (by simp) (by simp),h⟩)))
      · rw[Mw h]at hc; cases hc
    simp only[List.cons_append,EZ]
    rw[UI Fs (Mu (rh hpy).1) hc he RB gne gx fun hx=>g.top x (by simp) hx]
    refine JK hE gy fun v Xq hh => ?_
    exact pull hE hc he RB hnat post pre _ h (g.sub (List.sublist_cons_self _ _)) (fun z hz=>hp z (by simp[hz])) (ha.trans (D8 (.inr hpy) rfl hh))

theorem find (T:xT P tt) (hE:p8 P E) {x:wj} (post:List wj):∀(pre:List wj) (w:World) (c:ko) (st:St) (a:Act),Hw w c st a→Good tt base (ops.toList.filter (cm tt)).length (pre++x::post) st.hp→(∀y∈pre,EL tt E (S.map (·.1)) ops.toList y.2.1 x.2.1=true) →
    EZ tt E S base ops.toList (pre++x::post) st k=some r→∃tI k',CL S E ops.toList tt base x.2.1 st tI∧one tt E S base ops.toList x.2.1 x.2.2 tI k'=some r
  | [],_,_,st,_,_,_,_,hk=>⟨st,_,⟨fun _ _=>rfl,fun _ _ _ _ _=>rfl⟩,hk⟩
  | y::pre,w,c,st,a,iR,g,hp,hk=>by
    simp only[List.cons_append,EZ]at hk
    obtain ⟨w1,c1,JJ,a1,v,s1,V6,hf,hh,kp⟩:=Wf T hE hk iR (fun ha=>g.slot y (by simp) ha)
    obtain ⟨tI,k',h1,h2⟩:=find T hE post pre w1 c1 JJ a1 s1 (Good.step (pre := []) g kp) (fun z hz=>hp z (by simp[hz])) V6
    exact ⟨tI,k',(D8 (.inr (hp y (by simp))) hf hh).trans h1,h2⟩

theorem Yh (hE:p8 P E) {x:wj} (post:List wj):∀(pre:List wj) (st:St) (h:az),Good tt base (ops.toList.filter (cm tt)).length (pre++x::post) h→(∀y∈pre,EL tt E (S.map (·.1)) ops.toList y.2.1 x.2.1=true∧(calm (fF tt y.2.1.op)=true∨(S.map (·.1)=some true∧SH ops.toList y.2.1 x.2.1=true))) →
    EZ tt E S base ops.toList (pre++x::post) st k=some r→one tt E S base ops.toList x.2.1 x.2.2 st (fun JJ=>EZ tt E S base ops.toList (pre++post) JJ k)=some r
  | [],_,_,_,_,hk=>hk
  | y::pre,st,h,g,hp,hk=>by
    obtain ⟨hpy,BV⟩:=hp y (by simp)
    simp only[List.cons_append,EZ]at hk ⊢
    rcases BV with BV|⟨hSo,hW⟩
    rotate_left
    · have hvy:lj ops.toList y.2.1=true∨rR ops.toList y.2.1=true:=(Gm hW).imp (·.1) (·.1)
      have hvx:lj ops.toList x.2.1=true∨rR ops.toList x.2.1=true:=((Gm hW).imp (·.2) (·.2)).symm
      obtain ⟨fr,hp0⟩:=st
      obtain ⟨sy,i,ob,iy,V6,ny⟩:=OW hvy hk
      have ih:=Yh hE post pre _ h (g.sub (List.sublist_cons_self _ _)) (fun z hz=>hp z (by simp[hz])) V6
      obtain ⟨sx,j,ob',ix,Hq,nx⟩:=OW hvx ih
      have kq:i≠j:=by
        match S,hSo,sy,sx with
        | some (true,A),_,sy,sx =>
          simp only[Hm,(Dw (tt:=tt) hW).1,Bool.and_eq_true,Bool.or_eq_true,Bool.not_eq_true',List.all_eq_true]at sy
          simp only[Hm,(Dw (tt:=tt) hW).2,Bool.and_eq_true,Bool.or_eq_true,Bool.not_eq_true',List.all_eq_true]at sx
          rintro rfl
          rcases Gm hW with ⟨g1,g2⟩|⟨g1,g2⟩
          · have a1:=sy.1.resolve_left (by simp[g1]) i iy
            have a2:=sx.2.resolve_left (by simp[g2]) i ix
            rw[a1]at a2; cases a2
          · have a1:=sy.2.resolve_left (by simp[g1]) i iy
            have a2:=sx.1.resolve_left (by simp[g2]) i ix
            rw[a2]at a1; cases a1
      rw[nx hp0 _ _ (cZ _ kq).symm,ny (hp0.set j ob') _ _ (cZ _ (Ne.symm kq)),←List.set_comm _ _ kq]
      exact Hq
    obtain ⟨e,h1,h2,h3,h4⟩:=UG BV hk
    have gx:cm tt x.2.1=true→base≤x.2.2:=fun hx=>(g.slot x (by simp) hx).1
    have gy:cm tt y.2.1=true→base≤y.2.2:=fun hx=>(g.slot y (by simp) hx).1
    have gne:cm tt y.2.1=true→cm tt x.2.1=true→y.2.2≠x.2.2:=fun hy hx=>by
      have:=g.apart
      rw[List.cons_append,List.pairwise_cons]at this
      exact Nat.ne_of_lt (this.1 x (by simp) hy hx)
    have Fs:GZ (er tt E y.2.1.op) (er tt E x.2.1.op)=true∨(pR x.2.1.op=true∧S.map (·.1)≠some true∧(cm tt y.2.1=true→x.2.2<y.2.2))∨(fF tt y.2.1.op = .R∧pR x.2.1.op=true)∨(fF tt y.2.1.op = .R∧mU E x.2.1.op=true)∨(fF tt y.2.1.op = .R∧er tt E x.2.1.op = .F)∨(fF tt y.2.1.op = .A∧S.map (·.1)=some true∧er tt E x.2.1.op = .F∧mU E x.2.1.op=false)∨(fF tt y.2.1.op = .R∧fF tt x.2.1.op = .W):=by
      rcases (rh hpy).2 with ⟨hpo,_⟩|⟨_,⟨_,hR,hF⟩|⟨hF,_⟩|hW⟩|⟨_,_,hR,hW⟩
      rotate_left
      · exact .inr (.inr (.inr (.inr (.inl ⟨Mx hR (by simp) (by simp),hF⟩))))
      · have hC:fF tt y.2.1.op = .C:=by
          unfold er at hF
          split at hF
          · assumption
          · rw[hF]at BV; cases BV
        rw[hC]at BV; cases BV
      · rw[(Dw (tt:=tt) hW).1]at BV; cases BV
      · exact .inr (.inr (.inr (.inr (.inr (.inr ⟨Mx hR (by simp) (by simp),P8 (.inl hW)⟩)))))
      rcases (BM hpo).2 with h|⟨h,_⟩|⟨h,h'⟩|⟨h,_⟩|⟨h,h'⟩
      · exact .inl h
      · rw[CK h]at BV; cases BV
      · exact .inr (.inr (.inl ⟨Mx h (by simp) (by simp),h'⟩))
      · rw[Mw h]at BV; cases BV
      · exact .inr (.inr (.inr (.inl ⟨Mx h (by simp) (by simp),h'⟩)))
    have ih:=Yh hE post pre (eff st e) h (g.sub (List.sublist_cons_self _ _)) (fun z hz=>hp z (by simp[hz])) h3
    rw[UI Fs (rh hpy).1 BV h1 h2 gne gy fun hy=>g.top y (by simp) hy]at ih
    rw[←ih]
    refine JK hE gx fun v Xq hh => ?_
    exact h4 _ (D8 (.inl hpy) rfl hh) _

theorem bubble (T:xT P tt) (hE:p8 P E) {x:wj} {pre post:List wj} {st:St} {a:Act} (iR:Hw w c st a) (g:Good tt base (ops.toList.filter (cm tt)).length (pre++x::post) st.hp) (hp:∀y∈pre,EL tt E (S.map (·.1)) ops.toList y.2.1 x.2.1=true)
    (hk:EZ tt E S base ops.toList (pre++x::post) st k=some r):one tt E S base ops.toList x.2.1 x.2.2 st (fun JJ=>EZ tt E S base ops.toList (pre++post) JJ k)=some r:=by
  by_cases hc:calm (fF tt x.2.1.op)=true
  · obtain ⟨tI,k',h1,h2⟩:=find T hE post pre w c st a iR g hp hk
    obtain ⟨e,e1,e2,_,e4⟩:=UG hc h2
    rw[e4 st h1.symm,←pull hE hc e1 e2 e4 post pre st _ g hp h1.symm]
    exact hk
  · refine Yh hE post pre st _ g (fun y hy=>⟨hp y hy,?_⟩) hk
    have h0:=(rh (hp y hy)).2
    by_cases hfw:S.map (·.1)=some true∧SH ops.toList y.2.1 x.2.1=true
    · exact .inr hfw
    refine .inl ?_
    have hy:er tt E y.2.1.op = .P∨er tt E y.2.1.op = .R∨er tt E y.2.1.op = .A:=by
      have hx:¬calm (er tt E x.2.1.op)=true:=by
        unfold er
        split
        · cases oC E x.2.1.op <;> simp[calm]
        · exact hc
      rcases h0 with ⟨h0,_⟩|⟨hSo,⟨_,h0,_⟩|⟨_,_,h0⟩|h0⟩|⟨_,_,h0,_⟩
      rotate_left
      · exact .inr (.inl h0)
      · exact (hc (by rw[h0]; rfl)).elim
      · exact (hfw ⟨hSo,h0⟩).elim
      · exact .inr (.inl h0)
      have h1:=(BM h0).2
      rcases h1 with h1|⟨_,h1⟩|⟨h1,_⟩|⟨_,h1⟩|⟨h1,_⟩
      · revert h1 hx
        cases er tt E x.2.1.op <;> cases er tt E y.2.1.op <;> simp[GZ,calm]
      · exact (hx (by rcases h1 with h|h <;> rw[h] <;> rfl)).elim
      · exact .inr (.inl h1)
      · exact (hx (by rw[h1]; rfl)).elim
      · exact .inr (.inl h1)
    have kq:fF tt y.2.1.op ≠ .C:=fun e=>by
      unfold er at hy
      rw[e]at hy
      cases hp2:oC E y.2.1.op <;> simp[hp2]at hy
    rw[rU kq]at hy
    rcases hy with h|h|h <;> rw[h] <;> rfl
end

theorem yt:∀(l:List Oper) (i id:Nat) (x:wj),x∈number tt l i id→i≤x.1∧x.1<i+l.length∧l[x.1 - i]? = some x.2.1∧id≤x.2.2∧(cm tt x.2.1=true→x.2.2<id+(l.filter (cm tt)).length)
  | [],_,_,_,h=>by simp[number]at h
  | o::l,i,id,x,h=>by
    simp only[number,List.mem_cons]at h
    rcases h with rfl|h
    · refine ⟨Nat.le_refl _,by simp,by simp,Nat.le_refl _,fun ha => ?_⟩
      simp only at ha
      simp only[List.filter_cons_of_pos ha,List.length_cons]
      omega
    · obtain ⟨h1,h2,h3,h4,h5⟩:=yt l _ _ x h
      have e:x.1 - i=(x.1 - (i+1))+1:=by omega
      refine ⟨by omega,by simp; omega,by rw[e]; simpa using h3,?_,fun ha => ?_⟩
      · split at h4 <;> omega
      · have:=h5 ha
        by_cases ho:cm tt o=true
        · rw[if_pos ho]at this
          rw[List.filter_cons_of_pos ho,List.length_cons]; omega
        · rw[if_neg ho]at this
          rw[List.filter_cons_of_neg ho]; omega

theorem D9:∀(l:List Oper) (i id:Nat),(number tt l i id).Pairwise fun z z'=>z.1<z'.1∧(cm tt z.2.1=true→cm tt z'.2.1=true→z.2.2<z'.2.2)
  | [],_,_=>by simp[number]
  | o::l,i,id=>by
    simp only[number,List.pairwise_cons]
    refine ⟨fun z hz => ?_,D9 l _ _⟩
    obtain ⟨h1,_,_,h4,_⟩:=yt l _ _ z hz
    refine ⟨by omega,fun ha _ => ?_⟩
    rw[if_pos ha]at h4
    omega

theorem My:∀(l:List Oper) (i id j:Nat),i≤j→j<i+l.length→∃x∈number tt l i id,x.1=j
  | [],i,_,j,h1,h2=>by simp at h2; omega
  | o::l,i,id,j,h1,h2=>by
    by_cases e:i=j
    · exact ⟨(i,o,id),by simp[number],e⟩
    · obtain ⟨x,hx,ex⟩:=My l (i+1) (if cm tt o then id+1 else id) j (by omega) (by simp at h2; omega)
      exact ⟨x,by simp[number,hx],ex⟩

structure Left (ops:Array Oper) (b:List (List Nat)) (listed:Array Bool) (rem:List wj):Prop where
  size:listed.size=ops.size
  sorted:rem.Pairwise fun z z'=>z.1<z'.1
  op:∀x∈rem,ops[x.1]? = some x.2.1
  un:∀x∈rem,listed.getD x.1 true=false
  all:∀i,listed.getD i true=false→∃x∈rem,x.1=i
  closed:∀m,listed.getD m false=true→∀i∈b.getD m [],listed.getD i false=true

theorem Mz {listed:Array Bool} {i:Nat} (h:i<listed.size):listed.getD i false=true↔¬listed.getD i true=false:=by
  simp[h]

theorem Wh (T:xT P tt) {E:Env R} (hE:p8 P E) {S:Option (Bool × List Nat)} {base:Nat} {ops:Array Oper} {b:List (List Nat)} {k:St→Option R} {r:R} {Q:Exit→Act→World→Prop}
    (hpair:∀i j x y,i<j→ops[i]? = some x→ops[j]? = some y→i∈b.getD j []∨EL tt E (S.map (·.1)) ops.toList x y=true)
    (hback:∀(j:Nat) (y:Oper),ops[j]? = some y→∀e∈y.after,Region.binds .any e=true→e.on<j)
    (hclo:∀(j:Nat) (y:Oper),ops[j]? = some y→∀i∈b.getD j [],∃e∈y.after,Region.binds .any e=true∧(e.on=i∨i∈b.getD e.on [])) :
    ∀(fuel:Nat) (listed:Array Bool) (rem:List wj) (w:World) (c:ko) (st:St) (a:Act),rem.length≤fuel→Left ops b listed rem→Good tt base (ops.toList.filter (cm tt)).length rem st.hp→Hw w c st a→EZ tt E S base ops.toList rem st k=some r →
      X8 w c st a k r (Q .normal)→wpAny P .any ops Q fuel listed a w:=by
  intro fuel
  -- if nothing is ready, nothing is left
  have hnone:∀listed rem,Left ops b listed rem→Region.ready .any ops listed = []→rem = []:=by
    intro listed rem lf hr
    cases rem with
    | nil=>rfl
    | cons x rest =>
      have:x.1∈Region.ready .any ops listed:=by
        rw[mem_ready]
        refine ⟨lf.un x (by simp),x.2.1,lf.op x (by simp),fun e he hb => ?_⟩
        have lh:=hback x.1 x.2.1 (lf.op x (by simp)) e he hb
        have hx:x.1<ops.size:=(Array.getElem?_eq_some_iff.1 (lf.op x (by simp))).1
        rw[Mz (by rw[lf.size]; omega)]
        intro hun
        obtain ⟨y,hy,ey⟩:=lf.all _ hun
        rcases List.mem_cons.1 hy with rfl|hy
        · omega
        · have:=(List.pairwise_cons.1 lf.sorted).1 y hy
          omega
      rw[hr]at this
      cases this
  induction fuel with
  | zero =>
    intro listed rem w c st a hl lf g iR hk go
    obtain rfl:rem = []:=List.eq_nil_of_length_eq_zero (by omega)
    refine ⟨?_,go a w st c iR (.refl _ _ _) rfl hk⟩
    cases hr:Region.ready .any ops listed with
    | nil=>rfl
    | cons i l =>
      have hi:i∈Region.ready .any ops listed:=by rw[hr]; simp
      obtain ⟨x,hx,_⟩:=lf.all i (mem_ready.1 hi).1
      cases hx
  | succ fuel ih =>
    intro listed rem w c st a hl lf g iR hk go
    refine ⟨fun hr => ?_,fun i hi => ?_⟩
    · obtain rfl:=hnone _ _ lf hr
      exact go a w st c iR (.refl _ _ _) rfl hk
    · obtain ⟨hun,o,ho,hdone⟩:=mem_ready.1 hi
      obtain ⟨x,hx,rfl⟩:=lf.all i hun
      obtain ⟨pre,post,rfl⟩:=List.append_of_mem hx
      have hox:=lf.op x (by simp)
      rw[hox]at ho
      cases ho
      have UJ:=lf.sorted
      rw[List.pairwise_append,List.pairwise_cons]at UJ
      have hbx:∀j∈b.getD x.1 [],listed.getD j false=true:=fun j hj=>by
        obtain ⟨e,he,hb,hor⟩:=hclo x.1 x.2.1 hox j hj
        have hel:=hdone e he hb
        rcases hor with rfl|hj
        · exact hel
        · exact lf.closed _ hel j hj
      have hpr:∀y∈pre,EL tt E (S.map (·.1)) ops.toList y.2.1 x.2.1=true:=fun y hy=>by
        rcases hpair y.1 x.1 y.2.1 x.2.1 (UJ.2.2 y hy x (by simp)) (lf.op y (by simp[hy])) hox with h1|h1
        · have h2:=hbx _ h1
          have h3:=lf.un y (by simp[hy])
          have hy':y.1<ops.size:=(Array.getElem?_eq_some_iff.1 (lf.op y (by simp[hy]))).1
          rw[Mz (by rw[lf.size]; exact hy')]at h2
          exact (h2 h3).elim
        · exact h1
      have Iw:=bubble T hE iR g hpr hk
      have Yi:x.1<listed.size:=by rw[lf.size]; exact (Array.getElem?_eq_some_iff.1 hox).1
      have lf':Left ops b (listed.setIfInBounds x.1 true) (pre++post):=by
        have hs:List.Sublist (pre++post) (pre++x::post):=List.Sublist.append (List.Sublist.refl _) (List.sublist_cons_self _ _)
        have kq:∀y∈pre++post,x.1≠y.1:=fun y hy=>by
          rcases List.mem_append.1 hy with hy|hy
          · have:=UJ.2.2 y hy x (by simp); omega
          · have:=UJ.2.1.1 y hy; omega
        refine ⟨by simp[lf.size],lf.sorted.sublist hs,fun y hy=>lf.op y (hs.subset hy),fun y hy => ?_,fun j hj => ?_,fun m hm j hj => ?_⟩
        · rw[getD_set_ne true (kq y hy)]; exact lf.un y (hs.subset hy)
        · by_cases e:x.1=j
          · subst e; simp[Yi]at hj
          · rw[getD_set_ne true e]at hj
            obtain ⟨y,hy,ey⟩:=lf.all j hj
            refine ⟨y,?_,ey⟩
            rcases List.mem_append.1 hy with h1|h1
            · exact List.mem_append_left _ h1
            · rcases List.mem_cons.1 h1 with rfl|h1
              · exact (e ey).elim
              · exact List.mem_append_right _ h1
        · refine getD_set_true ?_
          by_cases e:x.1=m
          · subst e; exact hbx j hj
          · rw[getD_set_ne false e]at hm; exact lf.closed m hm j hj
      have Xp:(pre++post).length≤fuel:=by simp at hl ⊢; omega
      unfold wpOp
      simp only[hox]
      rcases D6 iR Iw with ⟨hw,Iw⟩|⟨hw,Iw⟩
      · rw[if_pos hw]
        have Iw:zA tt E (Xn tt S base x.2.1) x.2.2 x.2.1 st (fun JJ=>EZ tt E S base ops.toList (pre++post) JJ k)=some r:=by
          cases hS:Hm tt E base S ops.toList x.2.1 (ev st.fr) st.hp with
          | true=>rw[hS]at Iw; exact Iw
          | false=>rw[hS]at Iw; cases Iw
        refine .inl (FD T hE Iw iR (fun ha=>(g.slot x (by simp) ha).2) fun d w' tI c' v Tf xt kp _ _ _ rS => ?_)
        exact ih _ _ w' c' tI _ Xp lf' (g.step kp) Tf rS fun a2 w2 Cl c2 s2 x2 d2 k2=>go a2 w2 Cl c2 s2 (xt.trans x2) (d2.trans (put_defers _ _ _)) k2
      · rw[if_neg (by simp[hw])]
        exact ih _ _ w c ⟨mT st.fr x.2.1.dst (.tuple []),st.hp⟩ (a.put x.2.1.dst undef) Xp lf' (g.step (.refl _ _ _)) ⟨iR.wf,AW iR.fr _ JI⟩ Iw fun a2 w2 Cl c2 s2 x2 d2 k2=>go a2 w2 Cl c2 s2 x2 (d2.trans (put_defers _ _ _)) k2

theorem Gn (n:Nat):Ext w h c { w with drawn:=n } h c where
  os:=rfl
  tape:=rfl
  output:=rfl
  size:=Nat.le_refl _
  used:=fun _ hi=>hi
  same:=fun i hi hd=>⟨Dt (Gj hi.2 hd) (fun _ _ _ => .inr trivial),rfl,rfl⟩
  cell:=fun _ _ _ _=>rfl
  block:=fun _ _ _=>rfl
  wD:=fun _ _ _ ho=>ho
  ext:=rfl
  arr:=fun b arr e fz hb=>⟨arr,fz,hb,rfl⟩

theorem Yj (wf:WF w h c) (n:Nat):WF { w with drawn:=n } h c where
  lay:=wf.sv (Gn n)
  ym:=wf.ym
  pS:=wf.pS
  obj:=fun i hi=>by
    by_cases hl:(h.at i).live
    · exact (wf.obj i hi).keep (Gn n) (fun _ _=>rfl) rfl rfl
    · have h0:h.at i = .free∨h.at i = .dead:=by revert hl; cases h.at i <;> simp[bZ.live]
      rcases h0 with h0|h0 <;> rw[h0] <;> trivial
  inj:=wf.inj

theorem Kw (M:List Nat) (i:Nat):∀(es:List Nat) (m:Nat),(es.foldl (fun m e=>m ||| (Nat.pow 2 e ||| M.getD e 0)) m).testBit i=true→m.testBit i=true∨∃e∈es,e=i∨(M.getD e 0).testBit i=true
  | [],m,h => .inl h
  | e::es,m,h=>by
    rcases Kw M i es _ h with h|⟨x,hx,h⟩
    · rw[Nat.testBit_or,Nat.testBit_or,Bool.or_eq_true,Bool.or_eq_true]at h
      rcases h with h|h|h
      · exact .inl h
      · have h':(2 ^ e).testBit i=true:=h
        rw[Nat.testBit_two_pow]at h'
        exact .inr ⟨e,by simp, .inl (of_decide_eq_true h')⟩
      · exact .inr ⟨e,by simp, .inr h⟩
    · exact .inr ⟨x,by simp[hx],h⟩

theorem FF {n j i:Nat} {M:List Nat} (hj:j<n):i∈(beforeL n M).getD j []↔i<n∧(M.getD j 0).testBit i=true:=by
  unfold beforeL
  rw[List.getD_eq_getElem?_getD,List.getElem?_map,List.getElem?_range hj]
  simp

theorem Tk (T:xT P tt) (hm:P.follows .mixedOrders=true) {E:Env R} (hE:p8 P E) {id:Nat} {ops:Array Oper} {k:St→Option R} {r:R} {Q:Exit→Act→World→Prop} {st:St} {a:Act}
    (hk:Gh tt E ops.toList true st k=some r) (iR:Hw w c st a) (go:X8 w c st a k r (Q .normal)):(Code.region id ops true).wp P Q a w:=by
  obtain ⟨S,hd,hk⟩:∃S:Option (Bool × List Nat),Fw tt E (S.map (·.1)) ops.toList=true∧EZ tt E S st.hp.length ops.toList (number tt ops.toList 0 st.hp.length) ⟨st.fr,st.hp++List.replicate (ops.toList.filter (cm tt)).length .free⟩ k=some r:=by
    simp only[Gh,if_true]at hk
    split at hk
    · rename_i hd
      rw[P5 _ 0]at hk
      exact ⟨none,hd,hk⟩
    · split at hk
      · rename_i hd
        rw[Lv _ 0]at hk
        exact ⟨some (true,LV ops.toList st.fr),hd,hk⟩
      · split at hk
        · rename_i hd
          rw[Lv _ 0]at hk
          exact ⟨some (false,LW ops.toList st.fr),hd,hk⟩
        · cases hk
  refine wp_region_any hm ?_
  have zB:∀j,j<ops.size→((List.range j).all (fun i=>((H3 ops.toList).getD j 0).testBit i||EL tt E (S.map (·.1)) ops.toList (ops.toList.getD i default) (ops.toList.getD j default))=true ∧
      (DX (ops.toList.getD j default)).all (fun i=>Nat.blt i j)=true∧(H3 ops.toList).getD j 0=Lq (H3 ops.toList) (DX (ops.toList.getD j default))):=by
    intro j hj
    unfold Fw at hd
    simp only at hd
    rw[List.all_eq_true]at hd
    have:=hd j (by simpa using hj)
    simp only[Bool.and_eq_true]at this
    exact ⟨this.1.1,this.1.2,Nat.eq_of_beq_eq_true this.2⟩
  have CY:∀(j:Nat) (y:Oper),ops[j]? = some y→ops.toList.getD j default=y∧j<ops.size:=fun j y hy=>by
    refine ⟨?_,(Array.getElem?_eq_some_iff.1 hy).1⟩
    rw[List.getD,Array.getElem?_toList,hy]; rfl
  have hbind:∀(y:Oper) (n:Nat),n∈DX y↔∃e∈y.after,Region.binds .any e=true∧e.on=n:=by
    intro y n
    simp[DX,List.mem_map,List.mem_filter,and_assoc]
  have Tf:Hw { w with drawn:=w.drawn+1 } c ⟨st.fr,st.hp++List.replicate (ops.toList.filter (cm tt)).length .free⟩ a :=
    ⟨Yj (FE iR.wf _) _,(iR.fr.mono (tL _)).mono (Gn _)⟩
  refine Wh T hE (S:=S) (base:=st.hp.length) (b:=beforeL ops.size (H3 ops.toList)) (fun i j x y xW hx hy => ?_) (fun j y hy e he hb => ?_) (fun j y hy i hi => ?_) ops.size _ (number tt ops.toList 0 st.hp.length) _ c _ a ?_ ?_ ?_ Tf hk ?_
  · obtain ⟨h1,h2⟩:=CY i x hx
    obtain ⟨h3,h4⟩:=CY j y hy
    have:=List.all_eq_true.1 (zB j h4).1 i (by simpa using xW)
    rw[h1,h3,Bool.or_eq_true]at this
    rcases this with h|h
    · exact .inl ((FF h4).2 ⟨h2,h⟩)
    · exact .inr h
  · obtain ⟨h3,h4⟩:=CY j y hy
    have:=(zB j h4).2.1
    rw[h3,List.all_eq_true]at this
    simpa using this e.on ((hbind y _).2 ⟨e,he,hb,rfl⟩)
  · obtain ⟨h3,h4⟩:=CY j y hy
    have heq:=(zB j h4).2.2
    have lh:=(zB j h4).2.1
    rw[h3]at heq lh
    obtain ⟨hin,hbit⟩:=(FF h4).1 hi
    rw[heq]at hbit
    unfold Lq at hbit
    rcases Kw _ i _ _ hbit with h|⟨n,hn,h⟩
    · simp at h
    · obtain ⟨e,he,hb,rfl⟩:=(hbind y n).1 hn
      refine ⟨e,he,hb,h.imp (fun h=>h) fun h => ?_⟩
      have:=List.all_eq_true.1 lh e.on hn
      have hon:e.on<j:=by simpa using this
      exact (FF (Nat.lt_trans hon h4)).2 ⟨hin,h⟩
  · have:∀(l:List Oper) (i id:Nat),(number tt l i id).length=l.length:=by
      intro l
      induction l with
      | nil=>intros; rfl
      | cons o l ih=>intros; simp[number,ih]
    rw[this]; simp
  · refine ⟨by simp,(D9 _ _ _).imp fun h=>h.1,fun x hx => ?_,fun x hx => ?_,fun i hi => ?_,fun m hm => ?_⟩
    · obtain ⟨_,_,h3,_⟩:=yt _ _ _ x hx
      simpa using h3
    · obtain ⟨_,h2,_⟩:=yt _ _ _ x hx
      simp at h2
      simp[h2]
    · have:i<ops.size:=by
        rcases Nat.lt_or_ge i ops.size with h|h
        · exact h
        · simp[Nat.not_lt.2 h]at hi
      exact My _ 0 _ i (Nat.zero_le _) (by simpa using this)
    · rcases Nat.lt_or_ge m ops.size with h|h
      · simp[h]at hm
      · simp[Nat.not_lt.2 h]at hm
  · refine ⟨fun z hz ha=>(yt _ _ _ z hz).2.2.2.2 ha,fun z hz ha => ?_,(D9 _ _ _).imp fun h=>h.2⟩
    obtain ⟨_,_,_,h4,h5⟩:=yt _ _ _ z hz
    have h5:=h5 ha
    refine ⟨h4,by simp; omega,?_⟩
    rw[j9 h4]
    have:z.2.2 - st.hp.length<(ops.toList.filter (cm tt)).length:=by omega
    simp[az.at,List.getD,List.getElem?_replicate,this]
  · exact fun a2 w2 Cl c2 s2 x2 d2 k2=>go a2 w2 Cl c2 s2 (((tL _).trans (Gn _)).trans x2) d2 k2
end

section
variable {P:Program} {tt:dM} {w w':World} {h h':az} {c c':ko} {R:Type}

theorem Kx (h:az):∀(n:Nat) (l rest seen:List Nat),(seen++l).Nodup→l.length≤n→∃t,reach h n (l++rest) seen=seen++l++t
  | n, [],rest,seen,_,_=>by
    have key:∀(n:Nat) (todo seen:List Nat),∃t,reach h n todo seen=seen++t:=by
      intro n
      induction n with
      | zero=>exact fun _ _=>⟨[],by simp[reach]⟩
      | succ n ih =>
        intro todo seen
        cases todo with
        | nil=>exact ⟨[],by simp[reach]⟩
        | cons i todo =>
          simp only[reach]
          split
          · exact ih _ _
          · obtain ⟨t,ht⟩:=ih (todo++(h.at i).ids) (seen ++ [i])
            exact ⟨i::t,by rw[ht]; simp⟩
    obtain ⟨t,ht⟩:=key n rest seen
    exact ⟨t,by simpa using ht⟩
  | 0,i::l,_,_,_,hl=>by simp at hl
  | n+1,i::l,rest,seen,hn,hl=>by
    have hi:i∉seen:=fun hm=>by
      rw[List.nodup_append]at hn
      exact hn.2.2 i hm i (by simp) rfl
    obtain ⟨t,ht⟩:=Kx h n l (rest++(h.at i).ids) (seen ++ [i]) (by simpa using hn) (by simpa using hl)
    refine ⟨t,?_⟩
    simp only[List.cons_append,reach,List.contains_iff_mem,hi,if_false,List.append_assoc]at ht ⊢
    simpa using ht

theorem RD {w0:World} {h0:az} {c0:ko} (x:Ext w0 h0 c0 w h c) {ord:List Nat} (hf:∀i,i<h0.length→ord[i]? = some i):Ext w0 h0 c0 w (h.pick ord) (c.pick ord c.ext) where
  os:=x.os
  tape:=x.tape
  output:=x.output
  size:=x.size
  used:=fun i hi=>by
    have e:=hf i hi.1
    refine ⟨by simpa [az.pick]using (List.getElem?_eq_some_iff.1 e).1,?_⟩
    rw[vo,e]
    simp only[ne_eq,Dq]
    exact (x.used i hi).2
  same:=fun i hi hd=>by
    have e:=hf i hi.1
    rw[vo,e]at hd ⊢
    simp only[ne_eq,Io]at hd
    obtain ⟨s1,s2,s3⟩:=x.same i hi hd
    exact ⟨OJ.2 s1,by simp[ko.pick,e,s2],by simp[ko.pick,List.getD,e,s3]⟩
  cell:=x.cell
  block:=x.block
  wD:=fun b y hb ho=>by
    obtain ⟨i,_,f,g1,g2,g3⟩:=Ds ho
    exact x.wD b y hb ⟨i,f,g1,g2,g3⟩
  ext:=x.ext
  arr:=x.arr

theorem Ix (wf:WF w h c) {ord:List Nat} (EY:ord.Nodup):WF w (h.pick ord) (c.pick ord c.ext) :=
  UD wf EY (fun _ _ hf=>hf.2) wf.pS (fun b x ⟨i,_,f,g1,g2,g3⟩=>wf.ym b x ⟨i,f,g1,g2,g3⟩)

theorem G1 {ord:List Nat} {cs:List V} {ds:List Value} (r:cH w h c cs ds):cH w (h.pick ord) (c.pick ord c.ext) (V.yj (yg ord) cs) ds :=
  r.p7 (Mj fun _ _ hf=>hf.2)

theorem Wi {m:Nat} {t:List Nat} {i:Nat} (hi:i<m):(List.range m++t)[i]? = some i:=by
  rw[List.getElem?_append_left (by simpa using hi),List.getElem?_range hi]

theorem Ky (h:az) {m n:Nat} (hmn:m≤n) (rest:List Nat):(reach h n (List.range m++rest) []).Nodup∧∀i,i<m→(reach h n (List.range m++rest) [])[i]? = some i:=by
  refine ⟨CH h _ _ _ (by simp),fun i hi => ?_⟩
  obtain ⟨t,ht⟩:=Kx h n (List.range m) rest [] (by simpa using List.nodup_range) (by simpa using hmn)
  rw[ht]
  simpa using Wi (t:=t) hi

theorem MA {w0:World} {h0:az} {c0:ko} {st:St} {a:Act} (iR:Hw w c st a) (x:Ext w0 h0 c0 w st.hp c) (hm:h0.length≤200):∃c',Hw w c' (st.gc h0.length) a∧Ext w0 h0 c0 w (st.gc h0.length).hp c':=by
  obtain ⟨h1,h2⟩:=Ky st.hp (m:=h0.length) (n:=256) (by omega) (V.sW st.fr)
  exact ⟨_,⟨Ix iR.wf h1,G1 iR.fr⟩,RD x h2⟩

theorem Hz {fr:List V} {ds:List Value} (r:cH w h c fr ds) (live drop:List Nat):cH w h c (DY live drop fr) ds:=by
  refine ⟨by simp[DY,r.1],fun j v d hv hd => ?_⟩
  unfold DY at hv
  rw[List.getElem?_map,List.getElem?_zipIdx]at hv
  cases e:fr[j]? with
  | none=>rw[e]at hv; cases hv
  | some u =>
    rw[e]at hv
    simp at hv
    subst hv
    have ru:=r.2 j u d e hd
    split
    · split
      · exact Ks ru
      · exact ru
    · exact .undef _

theorem AX:∀(l:List (Nat × Ty)) (st:St) (c:ko) (a:Act),Hw w c st a→∃c',Hw w c' (Hn l st) a∧Ext w st.hp c w (Hn l st).hp c'
  | [],st,c,a,iR=>⟨c,iR, .refl _ _ _⟩
  | (d,T)::l,st,c,a,iR=>by
    have key:∀(U:Ty),(∀x,a.tmps.toList[d]? = some x→x = .slice none 0 0) →
        ∃c',Hw w c' ⟨st.fr.set d (.sl U [] (.own st.hp.length)),st.hp ++ [.tok]⟩ a∧Ext w st.hp c w (st.hp ++ [.tok]) c':=by
      intro U hx
      obtain ⟨c',k1,k2,k3⟩:=Ii (id:=st.hp.length) (T:=U) (FE iR.wf 1) (by simp) (by rw[j9 (Nat.le_refl _)]; simp[az.at])
      have e:(st.hp++List.replicate 1 bZ.free).set st.hp.length .tok=st.hp ++ [.tok]:=by simp
      rw[e]at k1 k2 k3
      have k4:=(tL (w:=w) (h:=st.hp) (c:=c) 1).trans k2
      refine ⟨c',⟨k1,?_⟩,k4⟩
      have rf:=iR.fr.mono k4
      refine ⟨by simp[rf.1],fun j v x hv RE => ?_⟩
      rw[List.getElem?_set]at hv
      by_cases hj:d=j
      · subst hj
        rw[if_pos rfl]at hv
        split at hv
        · cases hv
          rw[hx x RE]
          exact k3
        · cases hv
      · rw[if_neg hj]at hv
        exact rf.2 j v x hv RE
    simp only[Hn]
    have rd:=iR.fr.getD d undef
    split
    · rename_i he
      rw[he]at rd
      obtain ⟨c',s',x'⟩:=key T fun x hx=>by
        rw[List.getD,hx]at rd
        cases rd; rfl
      obtain ⟨c2,s2,x2⟩:=AX l _ c' a s'
      exact ⟨c2,s2,x'.trans x2⟩
    · rename_i T' l' he
      rw[he]at rd
      have hl:l' = []:=by
        generalize a.tmps.toList.getD d undef=q at rd
        cases rd with
        | sl f lY sY hc hr yl ng =>
          have:=(yl rfl).2
          exact List.eq_nil_of_length_eq_zero (by omega)
      subst hl
      obtain ⟨c',s',x'⟩:=key T' fun x hx=>by
        rw[List.getD,hx]at rd
        simp only[Option.getD_some]at rd
        generalize hn:([]:List T'.den)=nl at rd
        cases rd with
        | sl f lY sY hc hr yl ng =>
          obtain ⟨rfl,rfl⟩:=yl rfl
          subst hn
          rfl
      obtain ⟨c2,s2,x2⟩:=AX l _ c' a s'
      exact ⟨c2,s2,x'.trans x2⟩
    · exact AX l st c a iR

theorem put_nil {st:St} {a:Act} {d:Nat} {v:V} {h':az} {c':ko} (iR:Hw w c st a) (he:st.fr.getD d .undef = .cG) (k1:WF w h' c') (k4:Ext w st.hp c w h' c') (k3:dH w h' c' v (.slice none 0 0)) :
    Hw w c' ⟨st.fr.set d v,h'⟩ a:=by
  refine ⟨k1,?_⟩
  have rf:=iR.fr.mono k4
  refine ⟨by simp[rf.1],fun j u x hv RE => ?_⟩
  rw[List.getElem?_set]at hv
  by_cases hj:d=j
  · subst hj
    rw[if_pos rfl]at hv
    split at hv
    · cases hv
      have rd:=iR.fr.getD d undef
      rw[he,List.getD,RE]at rd
      cases rd
      exact k3
    · cases hv
  · rw[if_neg hj]at hv
    exact rf.2 j u x hv RE

theorem UK (wf:WF w h c) (T:Ty):∃c',WF w (h ++ [.row T []]) c'∧Ext w h c w (h ++ [.row T []]) c'∧dH w (h ++ [.row T []]) c' (.row h.length 0) (.slice none 0 0):=by
  obtain ⟨c',k1,k2,k3⟩:=Mh (id:=h.length) (T:=T) (FE wf 1) (by simp) (by rw[j9 (Nat.le_refl _)]; simp[az.at])
  have e:(h++List.replicate 1 bZ.free).set h.length (.row T [])=h ++ [.row T []]:=by simp
  rw[e]at k1 k2 k3
  exact ⟨c',k1,(tL 1).trans k2,k3⟩

theorem RF (wf:WF w h c) (T:Ty) (rw:Bool):∃c',WF w (h ++ [AG T rw]) c'∧Ext w h c w (h ++ [AG T rw]) c'∧dH w (h ++ [AG T rw]) c' (wT T rw h.length) (.slice none 0 0):=by
  unfold AG wT
  cases rw with
  | true=>exact UK wf T
  | false =>
    simp only[cond_false]
    obtain ⟨c',k1,k2,k3⟩:=Ii (id:=h.length) (T:=T) (FE wf 1) (by simp) (by rw[j9 (Nat.le_refl _)]; simp[az.at])
    have e:(h++List.replicate 1 bZ.free).set h.length .tok=h ++ [.tok]:=by simp
    rw[e]at k1 k2 k3
    exact ⟨c',k1,(tL 1).trans k2,k3⟩

theorem Ea:∀(l:List (Nat × Ty)) (st:St) (c:ko) (a:Act),Hw w c st a→∃c',Hw w c' (Fx l st) a∧Ext w st.hp c w (Fx l st).hp c'
  | [],st,c,a,iR=>⟨c,iR, .refl _ _ _⟩
  | (d,T)::l,st,c,a,iR=>by
    simp only[Fx]
    split
    · rename_i he
      obtain ⟨c',k1,k2,k3⟩:=UK iR.wf T
      obtain ⟨c2,s2,x2⟩:=Ea l ⟨st.fr.set d (.row st.hp.length 0),st.hp ++ [.row T []]⟩ c' a (put_nil iR he k1 k2 k3)
      exact ⟨c2,s2,k2.trans x2⟩
    · exact Ea l st c a iR

theorem JL {i:Nat} {cs ds:List V} (he:h.at i = .cells cs) (hl:ds.length=cs.length):Ext w h c w (h.set i (.cells ds)) c where
  os:=rfl
  tape:=rfl
  output:=rfl
  size:=Nat.le_refl _
  used:=fun j hj=>⟨by simpa using hj.1,by rw[nG]; split; simp; exact hj.2⟩
  same:=fun j hj hd=>by
    rw[nG]at hd ⊢
    split
    · rename_i hc
      obtain ⟨rfl,_⟩:=hc
      rw[he]
      exact ⟨hl.symm,rfl,rfl⟩
    · rename_i hc
      rw[if_neg hc]at hd
      exact ⟨Dt (Gj hj.2 hd) (fun _ _ _ => .inr trivial),rfl,rfl⟩
  cell:=fun _ _ _ _=>rfl
  block:=fun _ _ _=>rfl
  wD:=fun b x _ ho=>by
    obtain ⟨j,f,g1,g2,g3⟩:=ho
    rw[nG]at g2
    split at g2
    · rename_i hc
      obtain ⟨rfl,_⟩:=hc
      exact ⟨i,f,g1,by rw[he]; exact g2,g3⟩
    · exact ⟨j,f,g1,g2,g3⟩
  ext:=rfl
  arr:=fun b arr e fz hb=>⟨arr,fz,hb,rfl⟩

theorem Yk (wf:WF w h c) {i:Nat} {cs ds:List V} (he:h.at i = .cells cs) (hl:ds.length=cs.length) (EX:oH w (h.set i (.cells ds)) c i (.cells ds)):WF w (h.set i (.cells ds)) c where
  lay:=wf.sv (JL he hl)
  ym:=fun b x ho he'=>by
    obtain ⟨j,f,g1,g2,g3⟩:=ho
    refine wf.ym b x ?_ he'
    rw[nG]at g2
    split at g2
    · rename_i hc
      obtain ⟨rfl,_⟩:=hc
      exact ⟨i,f,g1,by rw[he]; exact g2,g3⟩
    · exact ⟨j,f,g1,g2,g3⟩
  pS:=wf.pS
  obj:=fun j hj=>by
    rw[nG]
    split
    · rename_i hc
      obtain ⟨rfl,_⟩:=hc
      exact EX
    · have ho:=wf.obj j (by simpa using hj)
      by_cases hv:(h.at j).live
      · exact ho.keep (JL he hl) (fun _ _=>rfl) rfl rfl
      · have h0:h.at j = .free∨h.at j = .dead:=by revert hv; cases h.at j <;> simp[bZ.live]
        rcases h0 with h0|h0 <;> rw[h0] <;> trivial
  inj:=fun j k b hj hk h1 h2=>by
    have key:∀j,(az.at (h.set i (.cells ds)) j).live→(h.at j).live:=fun j hj=>by
      rw[nG]at hj
      split at hj
      · rename_i hc
        obtain ⟨rfl,_⟩:=hc
        rw[he]; trivial
      · exact hj
    exact wf.inj j k b (key j hj) (key k hk) h1 h2

theorem MB {i:Nat} {o':bZ} (hf:∀f,(h.at i).from_ f=some 0) (VS:∀f,o'.from_ f=some 0) (uj:(h.at i).iR o') (kq:o' ≠ .free):Ext w h c w (h.set i o') c where
  os:=rfl
  tape:=rfl
  output:=rfl
  size:=Nat.le_refl _
  used:=fun j hj=>⟨by simpa using hj.1,by rw[nG]; split; exact kq; exact hj.2⟩
  same:=fun j hj hd=>by
    rw[nG]at hd ⊢
    split
    · rename_i hc
      obtain ⟨rfl,_⟩:=hc
      exact ⟨uj,rfl,rfl⟩
    · rename_i hc
      rw[if_neg hc]at hd
      exact ⟨Dt (Gj hj.2 hd) (fun _ _ _ => .inr trivial),rfl,rfl⟩
  cell:=fun _ _ _ _=>rfl
  block:=fun _ _ _=>rfl
  wD:=fun b x _ ho=>by
    obtain ⟨j,f,g1,g2,g3⟩:=ho
    rw[nG]at g2
    split at g2
    · rename_i hc
      obtain ⟨rfl,_⟩:=hc
      rw[VS]at g2
      cases g2
      exact ⟨i,0,g1,hf _,g3⟩
    · exact ⟨j,f,g1,g2,g3⟩
  ext:=rfl
  arr:=fun b arr e fz hb=>⟨arr,fz,hb,rfl⟩

theorem turn_wf (wf:WF w h c) {i:Nat} {o':bZ} (hf:∀f,(h.at i).from_ f=some 0) (VS:∀f,o'.from_ f=some 0) (uj:(h.at i).iR o') (kq:o' ≠ .free) (EX:oH w (h.set i o') c i o'):WF w (h.set i o') c where
  lay:=wf.sv (MB hf VS uj kq)
  ym:=fun b x ho he'=>by
    obtain ⟨j,f,g1,g2,g3⟩:=ho
    refine wf.ym b x ?_ he'
    rw[nG]at g2
    split at g2
    · rename_i hc
      obtain ⟨rfl,_⟩:=hc
      rw[VS]at g2
      cases g2
      exact ⟨i,0,g1,hf _,g3⟩
    · exact ⟨j,f,g1,g2,g3⟩
  pS:=wf.pS
  obj:=fun j hj=>by
    rw[nG]
    split
    · rename_i hc
      obtain ⟨rfl,_⟩:=hc
      exact EX
    · have ho:=wf.obj j (by simpa using hj)
      by_cases hv:(h.at j).live
      · exact ho.keep (MB hf VS uj kq) (fun _ _=>rfl) rfl rfl
      · have h0:h.at j = .free∨h.at j = .dead:=by revert hv; cases h.at j <;> simp[bZ.live]
        rcases h0 with h0|h0 <;> rw[h0] <;> trivial
  inj:=fun j k b hj hk h1 h2=>by
    have key:∀j,(az.at (h.set i o') j).live→(h.at j).live:=fun j hj=>by
      rw[nG]at hj
      split at hj
      · rename_i hc
        obtain ⟨rfl,_⟩:=hc
        exact tK (hf 0)
      · exact hj
    exact wf.inj j k b (key j hj) (key k hk) h1 h2

theorem sf:∀(l:List (Nat × Nat × Ty × Bool)) (st:St) (c:ko) (a:Act),Hw w c st a→∃c',Hw w c' (AT l st) a∧Ext w st.hp c w (AT l st).hp c'
  | [],st,c,a,iR=>⟨c,iR, .refl _ _ _⟩
  | (i,o,T,rw)::l,st,c,a,iR=>by
    simp only[AT]
    split
    · rename_i cs Ck
      split
      · rename_i ho
        obtain ⟨c',k1,k2,k3⟩:=RF iR.wf T rw
        have hi:=az.gK Ck (by simp)
        have Tl:az.at (st.hp ++ [AG T rw]) i = .cells cs:=by rw[ln hi]; exact Ck
        have e:st.hp.set i (.cells (cs.set o (wT T rw st.hp.length))) ++ [AG T rw]=(st.hp ++ [AG T rw]).set i (.cells (cs.set o (wT T rw st.hp.length))):=by
          rw[List.set_append_left _ _ hi]
        rw[e]
        have hl:(cs.set o (wT T rw st.hp.length)).length=cs.length:=by simp
        have x1:=JL (w:=w) (c:=c') Tl hl
        have EX:=k1.obj i (by simp; omega)
        rw[Tl]at EX
        obtain ⟨b,arr,el,g1,g2,g3⟩:=EX
        have w1:=Yk k1 Tl hl (by
          refine ⟨b,arr,el,g1,g2,?_⟩
          have g3':=g3.mono x1
          refine ⟨by simpa using g3'.1,fun j v d hv hd => ?_⟩
          rw[List.getElem?_set]at hv
          by_cases hj:o=j
          · subst hj
            rw[if_pos rfl]at hv
            split at hv
            · cases hv
              have rd:=g3.getD o undef
              rw[ho,List.getD,hd]at rd
              cases rd
              exact k3.mono x1
            · cases hv
          · rw[if_neg hj]at hv
            exact g3'.2 j v d hv hd)
        have x2:=k2.trans x1
        obtain ⟨c2,s2,x3⟩:=sf l ⟨st.fr,(st.hp ++ [AG T rw]).set i (.cells (cs.set o (wT T rw st.hp.length)))⟩ c' a ⟨w1,iR.fr.mono x2⟩
        exact ⟨c2,s2,x2.trans x3⟩
      · exact sf l st c a iR
    · rename_i v Ck
      split
      · obtain ⟨c',k1,k2,k3⟩:=RF iR.wf T rw
        have hi:=az.gK Ck (by simp)
        have Tl:az.at (st.hp ++ [AG T rw]) i = .kR .cG:=by rw[ln hi]; exact Ck
        have e:st.hp.set i (.kR (wT T rw st.hp.length)) ++ [AG T rw]=(st.hp ++ [AG T rw]).set i (.kR (wT T rw st.hp.length)):=by
          rw[List.set_append_left _ _ hi]
        rw[e]
        have hf:∀f,(az.at (st.hp ++ [AG T rw]) i).from_ f=some 0:=fun f=>by rw[Tl]; rfl
        have uj:(az.at (st.hp ++ [AG T rw]) i).iR (.kR (wT T rw st.hp.length)):=by rw[Tl]; trivial
        have x1:=MB (w:=w) (c:=c') hf (o' := .kR (wT T rw st.hp.length)) (fun _=>rfl) uj (by simp)
        have EX:=k1.obj i (by simp; omega)
        rw[Tl]at EX
        obtain ⟨b,p,d,g1,g2,g3,g4⟩:=EX
        have w1:=turn_wf k1 hf (o' := .kR (wT T rw st.hp.length)) (fun _=>rfl) uj (by simp) (by
          cases g4
          exact ⟨b,p,_,g1,g2,g3,k3.mono x1⟩)
        have x2:=k2.trans x1
        obtain ⟨c2,s2,x3⟩:=sf l ⟨st.fr,(st.hp ++ [AG T rw]).set i (.kR (wT T rw st.hp.length))⟩ c' a ⟨w1,iR.fr.mono x2⟩
        exact ⟨c2,s2,x2.trans x3⟩
      · exact sf l st c a iR
    · exact sf l st c a iR

theorem Tm {w0:World} {h0:az} {c0:ko} {st:St} {a:Act} (iR:Hw w c st a) (x:Ext w0 h0 c0 w st.hp c) (hm:h0.length≤200) (hint:Hint) :
    ∃c',Hw w c' (norm h0.length hint st) a∧Ext w0 h0 c0 w (norm h0.length hint st).hp c':=by
  obtain ⟨c,iR,x⟩:∃c',Hw w c' (Um h0.length hint ⟨DY hint.live hint.drop st.fr,st.hp⟩) a∧Ext w0 h0 c0 w (Um h0.length hint ⟨DY hint.live hint.drop st.fr,st.hp⟩).hp c':=by
    unfold Um
    split
    · exact ⟨c,⟨iR.wf,Hz iR.fr _ _⟩,x⟩
    · exact MA (st:=⟨DY hint.live hint.drop st.fr,st.hp⟩) ⟨iR.wf,Hz iR.fr _ _⟩ x hm
  obtain ⟨c1,s1,x1⟩:=AX hint.own _ c a iR
  obtain ⟨c2,s2,x2⟩:=Ea hint.rows _ c1 a s1
  obtain ⟨c3,s3,x3⟩:=sf hint.cells _ c2 a s2
  exact MA s3 (((x.trans x1).trans x2).trans x3) hm

theorem Tn {w0:World} {h0:az} {c0:ko} {st:St} {a:Act} (iR:Hw w c st a) (x:Ext w0 h0 c0 w st.hp c) (hm:h0.length≤200) (hint:Hint) :
    ∃c',Hw w c' (trim h0.length hint st) a∧Ext w0 h0 c0 w (trim h0.length hint st).hp c' :=
  MA (st:=⟨DY hint.out [] st.fr,st.hp⟩) ⟨iR.wf,Hz iR.fr _ _⟩ x hm


theorem MC:∀(ts:List Nat) (vs:List V) (ds:List Value),ts.length=ds.length→cH w h c vs ds→cH w h c (SL tt ts vs) ds
  | [],vs,ds,hl,r=>by
    have:ds = []:=List.eq_nil_of_length_eq_zero hl.symm
    subst this
    exact .nil
  | t::ts, [],ds,hl,r=>by
    have:ds = []:=List.eq_nil_of_length_eq_zero (by simpa using r.1.symm)
    subst this
    simp at hl
  | t::ts,v::vs, [],hl,r=>by simp at hl
  | t::ts,v::vs,d::ds,hl,r => .cons (OS r.head) (MC ts vs ds (by simpa using hl) r.tail)
end

section
variable {P:Program} {tt:dM} {R:Type}

def um (fr:List V) (log:List (Nat × V)):List V:=log.foldr (fun x f=>f.set x.1 x.2) fr
theorem yu (fr:List V):∀log:List (Nat × V),(um fr log).length=fr.length
  | []=>rfl
  | x::log=>by simp[um]; exact yu fr log

theorem beqF (a b:Nat):Nat.beq a b=decide (a=b):=by
  cases hb:Nat.beq a b with
  | true=>simp[Nat.eq_of_beq_eq_true hb]
  | false=>simp[Nat.ne_of_beq_eq_false hb]

theorem look_eq (fr:List V) (t:Nat) (d:V) (hd:fr.getD t .undef=d):∀log:List (Nat × V),(∀x∈log,x.1<fr.length)→G0 log t d=(um fr log).getD t .undef
  | [],_=>hd.symm
  | x::log,h=>by
    have ih:=look_eq fr t d hd log fun y hy=>h y (by simp[hy])
    have hx:=h x (by simp)
    have hl:=yu fr log
    have e:um fr (x::log)=(um fr log).set x.1 x.2:=rfl
    have e2:G0 (x::log) t d=cond (Nat.beq x.1 t) x.2 (G0 log t d):=rfl
    rw[e,e2,beqF,ih]
    by_cases PQ:x.1=t
    · subst PQ
      simp[List.getD,List.getElem?_set_self,hl,hx]
    · simp[PQ,List.getD,List.getElem?_set_ne PQ]

theorem RG {β:Type} (t:Nat) (d:V) (k:V→β):∀log:List (Nat × V),LX log t d k=k (G0 log t d)
  | []=>rfl
  | x::log=>by
    have ih:=RG t d k log
    have e1:LX (x::log) t d k=cond (Nat.beq x.1 t) (k x.2) (LX log t d k):=rfl
    have e2:G0 (x::log) t d=cond (Nat.beq x.1 t) x.2 (G0 log t d):=rfl
    rw[e1,e2,ih]
    cases Nat.beq x.1 t <;> rfl

noncomputable def yv (log:List (Nat × V)):Nat→List V→List V
  | _, [] => []
  | i,v::r=>G0 log i v::yv log (i+1) r
theorem Kz {β:Type} (log:List (Nat × V)):∀(fr:List V) (i:Nat) (k:List V→β),
    List.rec (motive:=fun _=>Nat→(List V→β)→β) (fun _ k=>k []) (fun v _ ih i k=>LX log i v fun v'=>ih (i+1) fun r=>k (v'::r)) fr i k=k (yv log i fr)
  | [],_,_=>rfl
  | v::fr,i,k=>by
    show LX log i v (fun v'=>List.rec (motive:=fun _=>Nat→(List V→β)→β) (fun _ k=>k []) (fun v _ ih i k=>LX log i v fun v'=>ih (i+1) fun r=>k (v'::r)) fr (i+1) fun r=>k (v'::r))=_
    rw[RG,Kz log fr (i+1)]
    rfl
theorem G2 (log:List (Nat × V)):∀(fr:List V) (i j:Nat),(yv log i fr)[j]? = (fr[j]?).map fun v=>G0 log (i+j) v
  | [],_,_=>by simp[yv]
  | v::fr,i,0=>by simp[yv]
  | v::fr,i,j+1=>by
    simp only[yv,List.getElem?_cons_succ]
    rw[G2 log fr (i+1) j]
    congr 1
    funext v
    congr 1
    omega
theorem Wj {β:Type} (fr:List V) (log:List (Nat × V)) (hl:∀x∈log,x.1<fr.length) (k:List V→β):SI log fr k=k (um fr log):=by
  have h1:SI log fr k=k (yv log 0 fr):=Kz log fr 0 k
  rw[h1]
  congr 1
  apply List.ext_getElem?
  intro j
  rw[G2,Nat.zero_add]
  cases hj:fr[j]? with
  | none =>
    have:(um fr log)[j]? = none:=by
      rw[List.getElem?_eq_none_iff,yu]
      exact List.getElem?_eq_none_iff.1 hj
    rw[this]; rfl
  | some v =>
    have lh:j<(um fr log).length:=by rw[yu]; exact (List.getElem?_eq_some_iff.1 hj).1
    have h2:=look_eq fr j v (by simp[List.getD,hj]) log hl
    rw[Option.map_some,h2]
    simp[List.getD,List.getElem?_eq_getElem lh]

theorem evF_eq (fr:List V) (log:List (Nat × V)) (hl:∀x∈log,x.1<fr.length):evF fr log=ev (um fr log):=by
  funext x
  cases x with
  | tmp t=>exact look_eq fr t _ rfl log hl
  | _=>rfl

theorem UL (fr:List V) (log:List (Nat × V)) (dst:Option Nat) (v:V):um fr (OC fr.length log dst v)=mT (um fr log) dst v:=by
  cases dst with
  | none=>rfl
  | some d =>
    unfold OC mT
    simp only
    cases h:Nat.blt d fr.length with
    | true=>rfl
    | false =>
      have:¬d<fr.length:=by
        intro h2
        have h3:Nat.blt d fr.length=true:=by simpa using h2
        rw[h3]at h
        cases h
      simp only[cond_false]
      rw[List.set_eq_of_length_le (by rw[yu]; omega)]
theorem UM {fr:List V} {log:List (Nat × V)} (hl:∀x∈log,x.1<fr.length) (dst:Option Nat) (v:V):∀x∈OC fr.length log dst v,x.1<fr.length:=by
  cases dst with
  | none=>exact hl
  | some d =>
    unfold OC
    simp only
    cases h:Nat.blt d fr.length with
    | true =>
      intro x hx
      rcases List.mem_cons.1 hx with rfl|hx
      · simpa using h
      · exact hl x hx
    | false=>exact hl

theorem Yl {E:Env R} {drawn:Option Nat} {id:Nat} {o:Oper} {st:St} {k:St→Option R}:zA tt E drawn id o st k=XG tt E drawn id o (ev st.fr) st.hp fun v h=>k ⟨mT st.fr o.dst v,h⟩:=by
  unfold zA XG
  cases fF tt o.op <;> rfl

theorem Wl {all:List Oper} {o:Oper} {fr:List V} {log:List (Nat × V)} {hp:az} (hl:∀x∈log,x.1<fr.length) {run skip:St→Option R} {runF skipF:List (Nat × V)→Option R}
    (hr:∀log,(∀x∈log,x.1<fr.length)→runF log=run ⟨um fr log,hp⟩) (hs:∀log,(∀x∈log,x.1<fr.length)→skipF log=skip ⟨um fr log,hp⟩) :
    SJ all o fr log runF skipF=vE all o ⟨um fr log,hp⟩ run skip:=by
  unfold SJ vE
  cases o.guard with
  | none=>exact hr log hl
  | some jw =>
    obtain ⟨j,want⟩:=jw
    simp only
    cases (all[j]?).bind (·.dst)with
    | none=>rfl
    | some d =>
      simp only
      rw[look_eq fr d _ rfl log hl]
      cases hb:(um fr log).getD d .undef with
      | bool b =>
        have hd:d<fr.length:=by
          rcases Nat.lt_or_ge d fr.length with h|h
          · exact h
          · rw[←yu fr log]at h
            simp[List.getD,List.getElem?_eq_none h]at hb
        have h2:∀v:V,∀x∈(d,v)::log,x.1<fr.length:=fun v x hx=>by
          rcases List.mem_cons.1 hx with rfl|hx
          · exact hd
          · exact hl x hx
        simp only
        rw[hr _ (h2 _),hs _ (h2 _),hr _ (h2 _),hs _ (h2 _)]
        rfl
      | tuple vs =>
        cases vs with
        | nil=>exact hs log hl
        | cons _ _=>rfl
      | _=>rfl

theorem Qa {E:Env R} {drawn:Option Nat} {all:List Oper} {fr:List V}:∀(l:List Oper) (id:Nat) (log:List (Nat × V)) (hp:az) (k:St→Option R),(∀x∈log,x.1<fr.length) →
    SK tt E drawn all fr.length fr l id log hp k=LU tt E drawn all l id ⟨um fr log,hp⟩ k
  | [],_,log,hp,k,hl=>by
    simp only[SK,LU]
    rw[Wj fr log hl,Dk]
  | o::l,id,log,hp,k,hl=>by
    simp only[SK,LU,DW]
    refine Wl hl (fun log hl => ?_) fun log hl => ?_
    · rw[Yl,evF_eq fr log hl]
      congr 1
      funext v h
      rw[Dk,Qa l _ _ _ _ (UM hl o.dst v),UL]
    · rw[Qa l _ _ _ _ (UM hl o.dst _),UL]

theorem regionF_eq {E:Env R} {ops:List Oper} {draw:Bool} {st:St} {k:St→Option R}:regionF tt E ops draw st k=Gh tt E ops draw st k:=by
  unfold regionF Gh
  simp only
  have h:=fun (dr:Option Nat) (hp:az)=>Qa (tt:=tt) (E:=E) (drawn:=dr) (all:=ops) (fr:=st.fr) ops st.hp.length [] hp k (by simp)
  rw[h,h]
  rfl
end

section
variable {P:Program} {tt:dM} {w w':World} {h h':az} {c c':ko} {R:Type}

def Ex.out:Ex→Exit
  | .normal => .normal
  | .exit id => .exit id
  | .goto l => .goto l
  | .ret => .ret

theorem Wm {a b:Option R} {r:R} (h:anyT a b=some r):a=some r∧b=some r:=by
  unfold anyT at h
  split at h
  · rename_i e; exact ⟨h,e▸h⟩
  · cases h

theorem Wn {b0:Code} {Q:Exit→Act→World→Prop} (I:Nat→Act→World→Prop) (h0:∀a w, ¬I 0 a w) (round:∀n a w,I (n+1) a w→b0.wp P (Exit.then (I n) Q) a w) {n:Nat} {a:Act} {w:World} (hI:I n a w) :
    (Code.loop b0).wp P Q a w:=by
  intro b k cs
  have key:∀n a w,I n a w→∃e a' w',Q e a' w'∧Arrives P (lone (b.at a (.code b0 :: .inLoop b0::k)) cs w) b k cs e a' w':=by
    intro n
    induction n with
    | zero=>exact fun a w h=>(h0 a w h).elim
    | succ n ih =>
      intro a w hI
      obtain ⟨e,a1,w1,hq,BR⟩:=round n a w hI b (.inLoop b0::k) cs
      cases e with
      | normal =>
        obtain ⟨e2,a2,w2,Vt,harr2⟩:=ih a1 w1 hq
        exact ⟨e2,a2,w2,Vt, .of_steps (Steps.trans BR (.one step_inLoop)) harr2⟩
      | exit id=>exact ⟨_,a1,w1,hq, .pass (x := .inLoop b0) rfl (fun _ _ => .inl (by simp)) BR⟩
      | goto l=>exact ⟨_,a1,w1,hq, .pass (x := .inLoop b0) rfl (fun _ _ => .inl (by simp)) BR⟩
      | ret=>exact ⟨_,a1,w1,hq, .pass (x := .inLoop b0) rfl (fun _ _ => .inl (by simp)) BR⟩
      | panic ch=>exact ⟨_,a1,w1,hq, .pass (x := .inLoop b0) rfl (fun _ _ => .inl (by simp)) BR⟩
      | outgrown=>exact ⟨_,a1,w1,hq, .pass (x := .inLoop b0) rfl (fun _ _ => .inl (by simp)) BR⟩
  obtain ⟨e,a',w',hq,BR⟩:=key n a w hI
  exact ⟨e,a',w',hq, .of_steps (.one step_loop) BR⟩

def cO (tt:dM) (E:Env R) (L:Nat→Option (Hint × cq R)) (m:Nat) (a:Code):Prop :=
  ∀hint ls,L (keyOf a)=some (hint,ls)→∀st (K:Ex→St→Option R) r,ls st K=some r→∃n,CD (lk tt E L m a) (norm m hint) n st (fun e st=>K e (trim m hint st))=some r

def aP:Code→List Code
  | .seq a b=>aP a++aP b
  | .cond _ a b=>aP a++aP b
  | .block _ a=>aP a
  | .loop a=>a::aP a
  | _ => []

theorem RH (body:cq R):∀n st K,Un body n st K=CD body id n st K
  | 0,_,_=>rfl
  | n+1,st,K=>by
    simp only[Un,CD]
    congr 1
    funext e tI
    cases e <;> first|rfl|exact RH body n tI K

section
variable {w0:World} {h0:az} {c0:ko} {D:List Deferred}

structure At (w0:World) (h0:az) (c0:ko) (D:List Deferred) (w:World) (st:St) (a:Act) (c:ko):Prop where
  iR:Hw w c st a
  ext:Ext w0 h0 c0 w st.hp c
  defers:a.defers=D

def Ends (w0:World) (h0:az) (c0:ko) (D:List Deferred) (K:Ex→St→Option R) (r:R) (Q:Exit→Act→World→Prop):Prop :=
  ∀e st a w c,At w0 h0 c0 D w st a c→K e st=some r→Q e.out a w

theorem nQ (T:xT P tt) (hm:P.follows .mixedOrders=true) {E:Env R} (hE:p8 P E) {L:Nat→Option (Hint × cq R)} (hlen:h0.length≤200) {r:R}:∀(code:Code),(∀a∈aP code,cO tt E L h0.length a) →
    ∀(Q:Exit→Act→World→Prop) (K:Ex→St→Option R) (st:St) (a:Act) (w:World) (c:ko),At w0 h0 c0 D w st a c→lk tt E L h0.length code st K=some r→Ends w0 h0 c0 D K r Q→code.wp P Q a w
  | .skip,_,Q,K,st,a,w,c,at_,hk,he=>wp_skip (he .normal st a w c at_ hk)
  | .region id ops draw,_,Q,K,st,a,w,c,at_,hk,he=>by
    simp only[lk,regionF_eq]at hk
    have go:X8 w c st a (fun tI=>K .normal tI) r (Q .normal):=fun a' w' tI c' s x d k=>he .normal tI a' w' c' ⟨s,at_.ext.trans x,d.trans at_.defers⟩ k
    cases draw with
    | true=>exact Tk T hm hE hk at_.iR go
    | false=>exact P4 T hE hk at_.iR go
  | .seq x y,hl,Q,K,st,a,w,c,at_,hk,he=>by
    simp only[lk]at hk
    refine wp_seq (nQ T hm hE hlen x (fun b hb=>hl b (by simp[aP,hb])) _ _ st a w c at_ hk fun e tI a' w' c' at' rS => ?_)
    cases e with
    | normal=>exact nQ T hm hE hlen y (fun b hb=>hl b (by simp[aP,hb])) Q K tI a' w' c' at' rS he
    | exit i=>exact he (.exit i) tI a' w' c' at' rS
    | goto l=>exact he (.goto l) tI a' w' c' at' rS
    | ret=>exact he .ret tI a' w' c' at' rS
  | .cond cnd x y,hl,Q,K,st,a,w,c,at_,hk,he=>by
    simp only[lk]at hk
    split at hk <;> try (first|cases hk)
    · rename_i t ht
      have rc:=Te at_.iR.fr cnd
      rw[ht]at rc
      generalize hv:a.eval cnd=v at rc
      cases rc
      refine wp_cond hv ?_
      cases t with
      | true=>exact nQ T hm hE hlen x (fun b hb=>hl b (by simp[aP,hb])) Q K st a w c at_ hk he
      | false=>exact nQ T hm hE hlen y (fun b hb=>hl b (by simp[aP,hb])) Q K st a w c at_ hk he
    · rename_i ht
      have rc:=Te at_.iR.fr cnd
      rw[ht]at rc
      generalize hv:a.eval cnd=v at rc
      cases rc with
      | Gx t =>
        refine wp_cond hv ?_
        obtain ⟨h1,h2⟩:=Wm hk
        cases t with
        | true=>exact nQ T hm hE hlen x (fun b hb=>hl b (by simp[aP,hb])) Q K st a w c at_ h1 he
        | false=>exact nQ T hm hE hlen y (fun b hb=>hl b (by simp[aP,hb])) Q K st a w c at_ h2 he
  | .block id x,hl,Q,K,st,a,w,c,at_,hk,he=>by
    simp only[lk]at hk
    refine wp_block (nQ T hm hE hlen x (fun b hb=>hl b (by simp[aP,hb])) _ _ st a w c at_ hk fun e tI a' w' c' at' rS => ?_)
    cases e with
    | normal=>exact he .normal tI a' w' c' at' rS
    | exit i =>
      simp only[Ex.out,Exit.inBlock]
      simp only at rS
      split
      · rename_i hi
        rw[if_pos hi]at rS
        exact he .normal tI a' w' c' at' rS
      · rename_i hi
        rw[if_neg hi]at rS
        exact he (.exit i) tI a' w' c' at' rS
    | goto l=>exact he (.goto l) tI a' w' c' at' rS
    | ret=>exact he .ret tI a' w' c' at' rS
  | .loop x,hl,Q,K,st,a,w,c,at_,hk,he=>by
    have hx:∀b∈aP x,cO tt E L h0.length b:=fun b hb=>hl b (by simp[aP,hb])
    have main:∀(f g:St→St),(∀w st a c,At w0 h0 c0 D w st a c→∃c',At w0 h0 c0 D w (f st) a c')→(∀w st a c,At w0 h0 c0 D w st a c→∃c',At w0 h0 c0 D w (g st) a c') →
        ∀n st a w c,At w0 h0 c0 D w st a c→CD (lk tt E L h0.length x) f n st (fun e st=>K e (g st))=some r→(Code.loop x).wp P Q a w:=by
      intro f g hf hg n st a w c at_ hk
      refine Wn (fun n a w=>∃st c,At w0 h0 c0 D w st a c∧CD (lk tt E L h0.length x) f n st (fun e st=>K e (g st))=some r) (fun a w => ?_) (fun n a w => ?_) ⟨st,c,at_,hk⟩
      · rintro ⟨st,c,_,hk⟩
        cases hk
      · rintro ⟨st,c,at_,hk⟩
        simp only[CD]at hk
        refine nQ T hm hE hlen x hx _ _ st a w c at_ hk fun e tI a' w' c' at' rS => ?_
        cases e with
        | normal =>
          obtain ⟨c2,at2⟩:=hf w' tI a' c' at'
          exact ⟨f tI,c2,at2,rS⟩
        | exit i=>obtain ⟨c2,at2⟩:=hg w' tI a' c' at'; exact he (.exit i) _ a' w' c2 at2 rS
        | goto l=>obtain ⟨c2,at2⟩:=hg w' tI a' c' at'; exact he (.goto l) _ a' w' c2 at2 rS
        | ret=>obtain ⟨c2,at2⟩:=hg w' tI a' c' at'; exact he .ret _ a' w' c2 at2 rS
    simp only[lk]at hk
    split at hk
    · rename_i hint ls hL
      have hnorm:∀w st a c,At w0 h0 c0 D w st a c→∃c',At w0 h0 c0 D w (norm h0.length hint st) a c':=fun w st a c at_=>by
        obtain ⟨c',s',x'⟩:=Tm at_.iR at_.ext hlen hint
        exact ⟨c',s',x',at_.defers⟩
      have htrim:∀w st a c,At w0 h0 c0 D w st a c→∃c',At w0 h0 c0 D w (trim h0.length hint st) a c':=fun w st a c at_=>by
        obtain ⟨c',s',x'⟩:=Tn at_.iR at_.ext hlen hint
        exact ⟨c',s',x',at_.defers⟩
      obtain ⟨n,hn⟩:=hl x (by simp[aP]) hint ls hL _ _ _ hk
      obtain ⟨c',at'⟩:=hnorm w st a c at_
      exact main _ _ hnorm htrim n _ a w c' at' hn
    · rw[RH]at hk
      exact main id id (fun w st a c h=>⟨c,h⟩) (fun w st a c h=>⟨c,h⟩) 70 st a w c at_ hk
  | .exit id,_,Q,K,st,a,w,c,at_,hk,he=>wp_exit (he (.exit id) st a w c at_ hk)
  | .ret,_,Q,K,st,a,w,c,at_,hk,he=>wp_ret (he .ret st a w c at_ hk)
  | .label _,_,_,_,_,_,_,_,_,hk,_=>by simp[lk]at hk
  | .goto _,_,_,_,_,_,_,_,_,hk,_=>by simp[lk]at hk
  | .scope _,_,_,_,_,_,_,_,_,hk,_=>by simp[lk]at hk
  | .refuse _,_,_,_,_,_,_,_,_,hk,_=>by simp[lk]at hk
end

theorem HA (T:xT P tt) {st:St} {a:Act} (iR:Hw w c st a):∀(rs:List ResultVar) {k:List V→Option R} {r:R},QV tt st rs k=some r →
    ∃vs ds,k vs=some r∧cH w st.hp c vs ds∧ds.length=rs.length∧(rs.mapM (m:=Sem) fun | .tmp t=>pure (a.tmps.getD t undef) | .cell b t=>do loadVar t (←asAddr (a.tmps.getD b undef))).run P w = .ok ds w
  | [],k,r,hk=>⟨[], [],hk, .nil,rfl,by simp⟩
  | .tmp t::rs,k,r,hk=>by
    simp only[QV]at hk
    obtain ⟨vs,ds,h1,h2,h3,h4⟩:=HA T iR rs hk
    refine ⟨_,a.tmps.getD t undef::ds,h1, .cons ?_ h2,by simp[h3],?_⟩
    · have:=iR.fr.getD t undef
      simpa [List.getD,Array.getD_eq_getD_getElem?]using this
    · simp only[List.mapM_cons,Sem.run_bind,Sem.run_pure,Result.andThen_ok,h4]
  | .cell b t::rs,k,r,hk=>by
    simp only[QV]at hk
    split at hk <;> try (first|cases hk)
    rename_i i o hp
    split at hk <;> try (first|cases hk)
    rename_i cs Ck
    have hl:=L9 (P:=P) T iR.wf (t:=t) (a := .ptr i o) (a':=a.tmps.getD b undef) (lim:=none) (k:=fun v=>QV tt st rs fun vs=>k (v::vs)) (r:=r) (by
        have:=iR.fr.getD b undef
        rw[hp]at this
        simpa [List.getD,Array.getD_eq_getD_getElem?]using this) (by simp only[EK,if_true,Ck]; exact hk)
    obtain ⟨v,v',g1,g2,g3⟩:=hl
    obtain ⟨vs,ds,h1,h2,h3,h4⟩:=HA T iR rs g3
    refine ⟨_,v'::ds,h1, .cons g2 h2,by simp[h3],?_⟩
    have hb:(do loadVar t (←asAddr (a.tmps.getD b undef)):Sem Value).run P w = .ok v' w:=by
      have rb:=iR.fr.getD b undef
      rw[hp]at rb
      have e:a.tmps.toList.getD b undef=a.tmps.getD b undef:=by simp[List.getD,Array.getD_eq_getD_getElem?]
      rw[e]at rb
      generalize a.tmps.getD b undef=q at rb g1
      cases rb with
      | ptr hu hv =>
        obtain ⟨b',rfl,_⟩:=hv
        simpa [Instr.loadAt,Instr.sureAddr,asAddr]using g1
    simp only[List.mapM_cons,Sem.run_bind,hb,Sem.run_pure,Result.andThen_ok,h4]

theorem N8 {w0:World} {h0:az} {c0:ko} {ts:List Nat} {keep:Bool} {vs:List V} {ds:List Value} (wf:WF w h c) (r:cH w h c vs ds) (x:Ext w0 h0 c0 w h c) (hm:h0.length≤200) (hts:ts.length=ds.length) {k:V→az→Option R} {q:R}
    (hk:Lr tt ts h0.length keep vs h k=some q):∃v h' c',WF w h' c'∧Ext w0 h0 c0 w h' c'∧dH w h' c' v (if h:ds.length=1 then ds[0]else .tuple ds.toArray)∧k v h'=some q:=by
  unfold Lr at hk
  have main:∀(ws:List V) (h1:az),WF w h1 c→cH w h1 c ws ds→Ext w0 h0 c0 w h1 c →
      k (match V.yj (yg (reach h1 256 (List.range h0.length++V.sW ws) [])) ws with | [v]=>v|l => .tuple l) (h1.pick (reach h1 256 (List.range h0.length++V.sW ws) []))=some q →
      ∃v h' c',WF w h' c'∧Ext w0 h0 c0 w h' c'∧dH w h' c' v (if h:ds.length=1 then ds[0]else .tuple ds.toArray)∧k v h'=some q:=by
    intro ws h1 wf1 r1 x1 hk
    obtain ⟨g1,g2⟩:=Ky h1 (m:=h0.length) (n:=256) (by omega) (V.sW ws)
    have rr:=G1 (ord:=reach h1 256 (List.range h0.length++V.sW ws) []) r1
    refine ⟨_,_,_,Ix wf1 g1,RD x1 g2,?_,hk⟩
    have hlen:=rr.1
    generalize V.yj (yg (reach h1 256 (List.range h0.length++V.sW ws) [])) ws=us at rr hlen
    split
    · rename_i v
      have h1:ds.length=1:=by simpa using hlen.symm
      rw[dif_pos h1]
      exact rr.2 0 v _ rfl (List.getElem?_eq_getElem _)
    · rename_i kq
      have h1:¬ds.length=1:=fun e=>by
        rw[e]at hlen
        match us,hlen with
        | [v],_=>exact kq v rfl
      rw[dif_neg h1]
      exact .tuple (by simpa using hlen) fun j v d hv hd=>rr.2 j v d hv (by simpa using hd)
  cases keep with
  | true=>exact main vs h wf r x hk
  | false =>
    simp only[Bool.false_eq_true,if_false]at hk
    exact main _ _ (CJ _ _ wf) (MC ts _ ds hts (OR wf r)) (x.trans (AV _ _)) hk

theorem bk (T:xT P tt) (hm:P.follows .mixedOrders=true) {E:Env R} (hE:p8 P E) {L:Nat→Option (Hint × cq R)} {g:Nat} {fn:Func} {code:Code} {keep:Bool} (hf:P.funcs[g]? = some fn) (hb:fn.body=some code)
    (hn:(fn.name == "runtime.NumGoroutine")=false) (hr:fn.results.size=fn.resultTypes.size) (m:Nat) (hl:∀a∈aP code,cO tt E L m a):Spec.X4 P g m (iQ tt E L keep fn code):=by
  refine Spec.X4.of_body hf hn (by rw[hb]; rfl) fun vs h k r hml hk w c args wf ra => ?_
  subst hml
  refine calls_of_wp hf hb ?_
  unfold iQ at hk
  split at hk
  · cases hk
  rename_i h200
  have hlen:h.length≤200:=by omega
  have hfr:cH w h c (vs++List.replicate (fn.ntmps - vs.length) .undef) (args++Array.replicate (fn.ntmps - args.size) undef).toList:=by
    have e:vs.length=args.size:=by simpa using ra.1
    rw[e]
    simpa using ra.append (cH.KM (fn.ntmps - args.size) undef)
  refine nQ T hm hE (w0:=w) (h0:=h) (c0:=c) (D := []) hlen code hl _ _ _ _ w c ⟨⟨wf,hfr⟩, .refl _ _ _,rfl⟩ hk fun e st a w' c' at' rS => ?_
  have fin:QV tt st fn.results.toList (fun vs=>Lr tt fn.resultTypes.toList h.length keep vs st.hp k)=some r →
      a.defers = []∧∃v,(results fn a.tmps).run P w' = .ok v w'∧∃d,Ending.returned v=Ending.returned d∧∃u h' c',WF w' h' c'∧Ext w h c w' h' c'∧dH w' h' c' u d∧k u h'=some r:=by
    intro hk
    obtain ⟨vs,ds,g1,g2,g3,g4⟩:=HA T at'.iR _ hk
    obtain ⟨u,h',c2,k1,k2,k3,k4⟩:=N8 at'.iR.wf g2 at'.ext hlen (by simp[g3,hr]) g1
    refine ⟨at'.defers,_,?_,_,rfl,u,h',c2,k1,k2,k3,k4⟩
    unfold results
    simp only[Sem.run_bind,Array.mapM_eq_mapM_toList,map_eq_pure_bind,Sem.run_pure]
    refine (congrArg (fun z:Result (List Value)=>(z.andThen fun a w'=>Result.ok a.toArray w').andThen fun a w'=>Result.ok (if h:a.size=1 then a[0]else Value.tuple a) w') g4).trans ?_
    simp
  cases e with
  | normal=>exact fin rS
  | ret=>exact fin rS
  | exit i=>cases rS
  | goto l=>cases rS
end

inductive fb where
  | undef|eQ|cG|aV|oL|cS|iface
  | Ft (t:Nat) (k:IntKind) (n:Int)
  | int (k:IntKind)|bool|str
  | ptr (i o:Nat)
  | sl (T:Ty)|NQ (T:Ty) (i:Nat)
  | row (i:Nat)
  | map (i:Nat)
  | fn (f:Nat)
  deriving DecidableEq

def fb.den:fb→Type
  | .int _=>Int
  | .bool=>Bool
  | .str=>aj
  | .sl T=>List T.den
  | .NQ T _=>List T.den
  | .row _=>Nat
  | _=>Unit

def fb.enc:(p:fb)→p.den→V
  | .undef,_ => .undef
  | .eQ,_ => .eQ
  | .cG,_ => .cG
  | .aV,_ => .aV
  | .oL,_ => .oL
  | .cS,_ => .cS
  | .iface,_ => .iface
  | .Ft t k n,_ => .Ft t k n
  | .int k,(n:Int) => .int k n
  | .bool,(b:Bool) => .bool b
  | .str,(s:aj) => .str s
  | .ptr i o,_ => .ptr i o
  | .sl T,(l:List T.den) => .sl T l .no
  | .NQ T i,(l:List T.den) => .sl T l (.own i)
  | .row i,(n:Nat) => .row i n
  | .map i,_ => .map i
  | .fn f,_ => .func f [] []

def Ym (k:IntKind):V→Option Int | .int k' n=>if k'=k then some n else none|_=>none
def Yn:V→Option Bool | .bool b=>some b|_=>none
def Yo:V→Option aj | .str s=>some s|_=>none
def Yp (T:Ty):V→Option (List T.den) | .sl T' l .no=>if h:T'=T then some (h▸l)else none|_=>none
def Yq (T:Ty) (i:Nat):V→Option (List T.den) | .sl T' l (.own j)=>if h:T'=T then (if j=i then some (h▸l)else none)else none|_=>none
def Yr (i:Nat):V→Option Nat | .row j n=>if j=i then some n else none|_=>none
def Ys (i o:Nat):V→Option Unit | .ptr j q=>if j=i∧q=o then some ()else none|_=>none
def Yt (i:Nat):V→Option Unit | .map j=>if j=i then some ()else none|_=>none
def Yu (f:Nat):V→Option Unit | .func g [] []=>if g=f then some ()else none|_=>none
def Yv:V→Option Unit | .undef=>some ()|_=>none
def Yw:V→Option Unit | .eQ=>some ()|_=>none
def Yx:V→Option Unit | .cG=>some ()|_=>none
def Yy:V→Option Unit | .aV=>some ()|_=>none
def Yz:V→Option Unit | .oL=>some ()|_=>none
def YA:V→Option Unit | .cS=>some ()|_=>none
def YB:V→Option Unit | .iface=>some ()|_=>none
def YC (t:Nat) (k:IntKind) (n:Int):V→Option Unit | .Ft t' k' n'=>if t'=t∧k'=k∧n'=n then some ()else none|_=>none

theorem YD {k:IntKind} {v:V} {x:Int} (h:Ym k v=some x):v = .int k x:=by
  unfold Ym at h
  split at h
  · split at h
    · rename_i e; subst e; cases h; rfl
    · cases h
  · cases h
theorem YE {v:V} {x:Bool} (h:Yn v=some x):v = .bool x:=by unfold Yn at h; split at h <;> first|(cases h; rfl)|cases h
theorem YF {v:V} {x:aj} (h:Yo v=some x):v = .str x:=by unfold Yo at h; split at h <;> first|(cases h; rfl)|cases h
theorem YG {T:Ty} {v:V} {x:List T.den} (h:Yp T v=some x):v = .sl T x .no:=by
  unfold Yp at h
  split at h
  · split at h
    · rename_i e; subst e; cases h; rfl
    · cases h
  · cases h
theorem YH {T:Ty} {i:Nat} {v:V} {x:List T.den} (h:Yq T i v=some x):v = .sl T x (.own i):=by
  unfold Yq at h
  split at h
  · split at h
    · rename_i e
      subst e
      split at h
      · rename_i e; subst e; cases h; rfl
      · cases h
    · cases h
  · cases h
theorem YI {i:Nat} {v:V} {x:Nat} (h:Yr i v=some x):v = .row i x:=by
  unfold Yr at h
  split at h
  · split at h
    · rename_i e; subst e; cases h; rfl
    · cases h
  · cases h
theorem YJ {i o:Nat} {v:V} {x:Unit} (h:Ys i o v=some x):v = .ptr i o:=by
  unfold Ys at h
  split at h
  · split at h
    · rename_i e; obtain ⟨rfl,rfl⟩:=e; rfl
    · cases h
  · cases h
theorem YK {i:Nat} {v:V} {x:Unit} (h:Yt i v=some x):v = .map i:=by
  unfold Yt at h
  split at h
  · split at h
    · rename_i e; subst e; rfl
    · cases h
  · cases h
theorem YL {f:Nat} {v:V} {x:Unit} (h:Yu f v=some x):v = .func f [] []:=by
  unfold Yu at h
  split at h
  · split at h
    · rename_i e; subst e; rfl
    · cases h
  · cases h
theorem YM {v:V} {x:Unit} (h:Yv v=some x):v = .undef:=by unfold Yv at h; split at h <;> first|rfl|cases h
theorem YN {v:V} {x:Unit} (h:Yw v=some x):v = .eQ:=by unfold Yw at h; split at h <;> first|rfl|cases h
theorem YO {v:V} {x:Unit} (h:Yx v=some x):v = .cG:=by unfold Yx at h; split at h <;> first|rfl|cases h
theorem YP {v:V} {x:Unit} (h:Yy v=some x):v = .aV:=by unfold Yy at h; split at h <;> first|rfl|cases h
theorem YQ {v:V} {x:Unit} (h:Yz v=some x):v = .oL:=by unfold Yz at h; split at h <;> first|rfl|cases h
theorem YR {v:V} {x:Unit} (h:YB v=some x):v = .iface:=by unfold YB at h; split at h <;> first|rfl|cases h
theorem YS {t:Nat} {k:IntKind} {n:Int} {v:V} {x:Unit} (h:YC t k n v=some x):v = .Ft t k n:=by
  unfold YC at h
  split at h
  · split at h
    · rename_i e; obtain ⟨rfl,rfl,rfl⟩:=e; rfl
    · cases h
  · cases h
theorem YT {v:V} {x:Unit} (h:YA v=some x):v = .cS:=by unfold YA at h; split at h <;> first|rfl|cases h

def fb.dec:(p:fb)→V→Option p.den
  | .undef=>Yv
  | .eQ=>Yw
  | .cG=>Yx
  | .aV=>Yy
  | .oL=>Yz
  | .cS=>YA
  | .iface=>YB
  | .Ft t k n=>YC t k n
  | .int k=>Ym k
  | .bool=>Yn
  | .str=>Yo
  | .ptr i o=>Ys i o
  | .sl T=>Yp T
  | .NQ T i=>Yq T i
  | .row i=>Yr i
  | .map i=>Yt i
  | .fn f=>Yu f

theorem fb.HB (p:fb) {v:V} {x:p.den} (h:p.dec v=some x):v=p.enc x:=by
  cases p
  · exact YM h
  · exact YN h
  · exact YO h
  · exact YP h
  · exact YQ h
  · exact YT h
  · exact YR h
  · exact YS h
  · exact YD h
  · exact YE h
  · exact YF h
  · exact YJ h
  · exact YG h
  · exact YH h
  · exact YI h
  · exact YK h
  · exact YL h

def fb.av:List fb→Type
  | []=>Unit
  | p::ps=>p.den × fb.av ps
def fb.cQ:(ps:List fb)→fb.av ps→List V
  | [],_ => []
  | p::ps,(x:p.den × fb.av ps)=>p.enc x.1::fb.cQ ps x.2
def both {α β:Type}:Option α→Option β→Option (α × β)
  | some x,some y=>some (x,y)
  | _,_=>none
theorem Lw {α β:Type} {a:Option α} {b:Option β} {z:α × β} (h:both a b=some z):a=some z.1∧b=some z.2:=by
  cases a <;> cases b <;> cases h
  exact ⟨rfl,rfl⟩
def fb.Eb:(ps:List fb)→List V→Option (fb.av ps)
  | [], []=>some ()
  | [],_::_=>none
  | _::_, []=>none
  | p::ps,v::vs=>both (p.dec v) (fb.Eb ps vs)
theorem fb.tM:∀(ps:List fb) {vs:List V} {x:fb.av ps},fb.Eb ps vs=some x→vs=fb.cQ ps x
  | [], [],_,_=>rfl
  | [],_::_,_,h=>by cases h
  | _::_, [],_,h=>by cases h
  | p::ps,v::vs,x,h=>by
    obtain ⟨h1,h2⟩:=Lw (a:=p.dec v) (b:=fb.Eb ps vs) h
    show v::vs=p.enc x.1::fb.cQ ps x.2
    rw[←fb.HB p h1,←fb.tM ps h2]

inductive bO where
  | leaf (l:fb)
  | agg (ps:List fb)
  | func (f:Nat) (a b:List fb)

def bO.den:bO→Type
  | .leaf l=>l.den
  | .agg ps=>fb.av ps
  | .func _ a b=>fb.av a × fb.av b
def bO.enc:(p:bO)→p.den→V
  | .leaf l,x=>l.enc x
  | .agg ps,x => .agg (fb.cQ ps x)
  | .func f a b,(x:fb.av a × fb.av b) => .func f (fb.cQ a x.1) (fb.cQ b x.2)
def YU (ps:List fb):V→Option (fb.av ps) | .agg cs=>fb.Eb ps cs|_=>none
def To (f:Nat) (a b:List fb):V→Option (fb.av a × fb.av b) | .func g x y=>if g=f then both (fb.Eb a x) (fb.Eb b y)else none|_=>none
def bO.dec:(p:bO)→V→Option p.den
  | .leaf l=>l.dec
  | .agg ps=>YU ps
  | .func f a b=>To f a b
theorem bO.HB (p:bO) {v:V} {x:p.den} (h:p.dec v=some x):v=p.enc x:=by
  cases p with
  | leaf l=>exact fb.HB l h
  | agg ps =>
    replace h:YU ps v=some x:=h
    unfold YU at h
    split at h
    · rename_i cs
      show V.agg cs = .agg (fb.cQ ps x)
      rw[←fb.tM ps h]
    · cases h
  | func f a b =>
    replace h:To f a b v=some x:=h
    unfold To at h
    split at h
    · split at h
      · rename_i e
        subst e
        obtain ⟨h1,h2⟩:=Lw h
        rename_i g p q
        show V.func g p q = .func g (fb.cQ a x.1) (fb.cQ b x.2)
        rw[←fb.tM a h1,←fb.tM b h2]
      · cases h
    · cases h
def bO.av:List bO→Type
  | []=>Unit
  | p::ps=>p.den × bO.av ps
def bO.cQ:(ps:List bO)→bO.av ps→List V
  | [],_ => []
  | p::ps,(x:p.den × bO.av ps)=>p.enc x.1::bO.cQ ps x.2
def bO.Eb:(ps:List bO)→List V→Option (bO.av ps)
  | [], []=>some ()
  | [],_::_=>none
  | _::_, []=>none
  | p::ps,v::vs=>both (p.dec v) (bO.Eb ps vs)
theorem bO.tM:∀(ps:List bO) {vs:List V} {x:bO.av ps},bO.Eb ps vs=some x→vs=bO.cQ ps x
  | [], [],_,_=>rfl
  | [],_::_,_,h=>by cases h
  | _::_, [],_,h=>by cases h
  | p::ps,v::vs,x,h=>by
    obtain ⟨h1,h2⟩:=Lw (a:=p.dec v) (b:=bO.Eb ps vs) h
    show v::vs=p.enc x.1::bO.cQ ps x.2
    rw[←bO.HB p h1,←bO.tM ps h2]

inductive aH where
  | free|dead|tok|iter
  | cells (ps:List fb)
  | row (T:Ty)
  | kR (p:fb)
  | vC (K T:Ty)

def aH.den:aH→Type
  | .cells ps=>fb.av ps
  | .row T=>List T.den
  | .kR p=>p.den
  | .vC K T=>List (K.den × T.den)
  | .iter=>aj × Nat
  | _=>Unit
def aH.enc:(p:aH)→p.den→bZ
  | .free,_ => .free
  | .dead,_ => .dead
  | .tok,_ => .tok
  | .iter,x => .iter (Prod.fst (α:=aj) (β:=Nat) x) (Prod.snd (α:=aj) (β:=Nat) x)
  | .cells ps,x => .cells (fb.cQ ps x)
  | .row T,x => .row T x
  | .kR p,x => .kR (p.enc x)
  | .vC K T,x => .vC K T x
def YV (p:fb):bZ→Option p.den | .kR v=>p.dec v|_=>none
def YW (ps:List fb):bZ→Option (fb.av ps) | .cells cs=>fb.Eb ps cs|_=>none
def YX (T:Ty):bZ→Option (List T.den) | .row T' l=>if h:T'=T then some (h▸l)else none|_=>none
def YY (K T:Ty):bZ→Option (List (K.den × T.den)) | .vC K' T' l=>if h:K'=K∧T'=T then some (h.1▸h.2▸l)else none|_=>none
def YZ:bZ→Option Unit | .free=>some ()|_=>none
def Y0:bZ→Option Unit | .dead=>some ()|_=>none
def Y1:bZ→Option (aj × Nat) | .iter s p=>some (s,p)|_=>none
def Y2:bZ→Option Unit | .tok=>some ()|_=>none
def aH.dec:(p:aH)→bZ→Option p.den
  | .free=>YZ
  | .dead=>Y0
  | .tok=>Y2
  | .iter=>Y1
  | .cells ps=>YW ps
  | .row T=>YX T
  | .kR p=>YV p
  | .vC K T=>YY K T
theorem aH.HB (p:aH) {o:bZ} {x:p.den} (h:p.dec o=some x):o=p.enc x:=by
  cases p with
  | free=>replace h:YZ o=some x:=h; unfold YZ at h; split at h <;> first|rfl|cases h
  | dead=>replace h:Y0 o=some x:=h; unfold Y0 at h; split at h <;> first|rfl|cases h
  | tok=>replace h:Y2 o=some x:=h; unfold Y2 at h; split at h <;> first|rfl|cases h
  | iter=>replace h:Y1 o=some x:=h; unfold Y1 at h; split at h <;> first|(cases h; rfl)|cases h
  | cells ps =>
    replace h:YW ps o=some x:=h
    unfold YW at h
    split at h
    · rename_i cs
      show bZ.cells cs = .cells (fb.cQ ps x)
      rw[←fb.tM ps h]
    · cases h
  | kR p =>
    replace h:YV p o=some x:=h
    unfold YV at h
    split at h
    · rename_i v
      show bZ.kR v = .kR (p.enc x)
      rw[←fb.HB p h]
    · cases h
  | vC K T =>
    replace h:YY K T o=some x:=h
    unfold YY at h
    split at h
    · split at h
      · rename_i e; obtain ⟨rfl,rfl⟩:=e; cases h; rfl
      · cases h
    · cases h
  | row T =>
    replace h:YX T o=some x:=h
    unfold YX at h
    split at h
    · split at h
      · rename_i e; subst e; cases h; rfl
      · cases h
    · cases h
def aH.av:List aH→Type
  | []=>Unit
  | p::ps=>p.den × aH.av ps
def aH.cQ:(ps:List aH)→aH.av ps→az
  | [],_ => []
  | p::ps,(x:p.den × aH.av ps)=>p.enc x.1::aH.cQ ps x.2
def aH.Eb:(ps:List aH)→List bZ→Option (aH.av ps)
  | [], []=>some ()
  | [],_::_=>none
  | _::_, []=>none
  | p::ps,v::vs=>both (p.dec v) (aH.Eb ps vs)
theorem aH.tM:∀(ps:List aH) {vs:List bZ} {x:aH.av ps},aH.Eb ps vs=some x→vs=aH.cQ ps x
  | [], [],_,_=>rfl
  | [],_::_,_,h=>by cases h
  | _::_, [],_,h=>by cases h
  | p::ps,v::vs,x,h=>by
    obtain ⟨h1,h2⟩:=Lw (a:=p.dec v) (b:=aH.Eb ps vs) h
    show v::vs=p.enc x.1::aH.cQ ps x.2
    rw[←aH.HB p h1,←aH.tM ps h2]

theorem aH.RI:∀(ps:List aH) (x:aH.av ps),(aH.cQ ps x).length=ps.length
  | [],_=>rfl
  | p::ps,x=>by
    show (p.enc x.1::aH.cQ ps x.2).length=_
    simp[aH.RI ps]

section
variable {R:Type} {P:Program} {tt:dM}

def aA (ps:List bO) (hs:List aH) (run:bO.av ps→aH.av hs→(V→az→Option R)→Option R) (other:Spec R):Spec R:=fun args h k =>
  match bO.Eb ps args,aH.Eb hs h with
  | some x,some y=>run x y k
  | _,_=>other args h k

def bg:Spec R:=fun _ _ _=>none

theorem aO (g:Nat):Spec.Ok P g (bg:Spec R):=by intro vs h k r hk; cases hk

theorem bw {g:Nat} {ps:List bO} {hs:List aH} {run:bO.av ps→aH.av hs→(V→az→Option R)→Option R} {other own:Spec R} (ho:Spec.Ok P g other) (hw:Spec.X4 P g hs.length own)
    (hr:∀x y k,own (bO.cQ ps x) (aH.cQ hs y) k=run x y k):Spec.Ok P g (aA ps hs run other):=by
  intro vs h k r hk
  unfold aA at hk
  split at hk
  · rename_i x y h1 h2
    rw[bO.tM ps h1,aH.tM hs h2]
    rw[←hr]at hk
    exact hw _ _ _ _ (aH.RI hs y) hk
  · exact ho _ _ _ _ hk

def gq (ps:List bO) (hs:List aH) (run:bO.av ps→aH.av hs→(Ex→St→Option R)→Option R) (other:cq R):cq R:=fun st K =>
  match bO.Eb ps st.fr,aH.Eb hs st.hp with
  | some x,some y=>run x y K
  | _,_=>other st K

def qx:cq R:=fun _ _=>none

def o0 (tt:dM) (E:Env R) (L:Nat→Option (Hint × cq R)) (m:Nat) (a:Code) (hint:Hint) (ls:cq R):Prop :=
  ∀st (K:Ex→St→Option R) r,ls st K=some r→∃n,CD (lk tt E L m a) (norm m hint) n st (fun e st=>K e (trim m hint st))=some r

theorem jc {E:Env R} {L:Nat→Option (Hint × cq R)} {m:Nat} {a:Code} {hint:Hint}:o0 tt E L m a hint qx:=by intro st K r hk; cases hk

theorem Wo {E:Env R} {L:Nat→Option (Hint × cq R)} {m:Nat} {a:Code} {hint:Hint} {ps:List bO} {hs:List aH} {run:bO.av ps→aH.av hs→(Ex→St→Option R)→Option R} {other:cq R} (ho:o0 tt E L m a hint other)
    (hr:∀x y K,∃n,CD (lk tt E L m a) (norm m hint) n ⟨bO.cQ ps x,aH.cQ hs y⟩ (fun e st=>K e (trim m hint st))=run x y K):o0 tt E L m a hint (gq ps hs run other):=by
  intro st K r hk
  obtain ⟨fr,hp⟩:=st
  unfold gq at hk
  simp only at hk
  split at hk
  · rename_i x y h1 h2
    rw[bO.tM ps h1,aH.tM hs h2]
    obtain ⟨n,hn⟩:=hr x y K
    exact ⟨n,by rw[hn]; exact hk⟩
  · exact ho _ _ _ hk

def aK (f:Func):Code:=f.body.getD .skip

theorem bH {E:Env R} {L:Nat→Option (Hint × cq R)} {m:Nat} {l:List Code} (n:Nat) (hn:l.length=n) (h:∀i,i<n→cO tt E L m (l.getD i .skip)):∀a∈l,cO tt E L m a:=by
  intro a ha
  obtain ⟨i,hi,rfl⟩:=List.mem_iff_getElem.1 ha
  have:=h i (by omega)
  simpa [List.getD,List.getElem?_eq_getElem hi]using this

theorem fG {E:Env R} {L:Nat→Option (Hint × cq R)} {m:Nat} {a:Code} {hint:Hint} {ls:cq R} (h:L (keyOf a)=some (hint,ls)) (hs:o0 tt E L m a hint ls):cO tt E L m a:=by
  intro hint' ls' hl
  rw[h]at hl
  cases hl
  exact hs

noncomputable def roundOf (tt:dM) (E:Env R) (L:Nat→Option (Hint × cq R)) (m:Nat) (a:Code) (hint:Hint) (st:St) (fH:St→Option R) (K:Ex→St→Option R):Option R :=
  lk tt E L m a st fun e tI=>match e with | .normal=>fH (norm m hint tI)|e=>K e (trim m hint tI)

theorem Tp {E:Env R} {L:Nat→Option (Hint × cq R)} {m:Nat} {a:Code} {hint:Hint} {n:Nat} {st:St} {K:Ex→St→Option R} :
    CD (lk tt E L m a) (norm m hint) (n+1) st (fun e st=>K e (trim m hint st))=roundOf tt E L m a hint st (fun st=>CD (lk tt E L m a) (norm m hint) n st (fun e st=>K e (trim m hint st))) K:=by
  unfold roundOf
  simp only[CD]
  congr 1
end

section
variable {P:Program} {tt:dM} {w:World} {h:az} {c:ko}

theorem RJ:∀l:List Value,cH w h c (l.map ofConst) l
  | [] => .nil
  | v::l => .cons (Kp v) (RJ l)

def zeroOf (i:TypeInfo):Option (Nat × List V × Bool):=i.zero.map fun z=>(z.cells.size,z.cells.toList.map ofConst,z.oneCell')

def aE (P:Program) (tt:dM) (t:Nat):Prop :=
  ∃i,P.info? t=some i∧i.size=(tt.at t).size∧i.bytes=(tt.at t).bytes∧zeroOf i=some ((tt.at t).size,(tt.at t).zero, !tt.isAgg t)

theorem aE.spec {t:Nat} (h:aE P tt t):∃i z,P.info? t=some i∧i.size=(tt.at t).size∧i.bytes=(tt.at t).bytes∧i.zero=some z∧z.cells.size=i.size ∧
    ∀(w:World) (h:az) (c:ko),cH w h c (tt.at t).zero z.cells.toList:=by
  obtain ⟨i,h1,h2,h3,h4⟩:=h
  unfold zeroOf at h4
  cases hz:i.zero with
  | none=>rw[hz]at h4; cases h4
  | some z =>
    rw[hz]at h4
    simp only[Option.map_some,Option.some.injEq,Prod.mk.injEq]at h4
    refine ⟨i,z,h1,h2,h3,hz,by rw[h4.1,h2],fun w h c => ?_⟩
    rw[←h4.2.1]
    exact RJ _

theorem aE.one {t:Nat} (h:aE P tt t):∀i z,P.info? t=some i→i.zero=some z→z.oneCell' = !tt.isAgg t:=by
  intro i z hi hz
  obtain ⟨j,h1,h2,h3,h4⟩:=h
  rw[hi]at h1; cases h1
  unfold zeroOf at h4
  rw[hz]at h4
  simp only[Option.map_some,Option.some.injEq,Prod.mk.injEq]at h4
  exact h4.2.2

theorem u8s_of (h:(List.range tt.length).all (fun e=>match (tt.at e).ty with|some (.int .u8)=>Nat.beq e oY.u8|_=>true)=true):∀e,(tt.at e).ty=some (.int .u8)→e=oY.u8:=by
  intro e he
  by_cases hl:e<tt.length
  · have:=List.all_eq_true.1 h e (by simpa using hl)
    rw[he]at this
    exact Nat.eq_of_beq_eq_true this
  · have:tt.at e=TI.none:=by unfold dM.at; simp[List.getD,List.getElem?_eq_none (Nat.le_of_not_lt hl)]
    rw[this]at he; cases he

def bldOk (tt:dM) (t:Nat):Bool:=Nat.beq t oY.kR&&tt.ok t&&(match (tt.at t).zero with | [.eQ, .cG]=>true|_=>false)
theorem blds_of (h:(List.range tt.length).all (fun t=>bif (tt.at t).kR then bldOk tt t else true)=true):∀t,(tt.at t).kR=true→t=oY.kR∧(tt.at t).zero = [.eQ, .cG]∧tt.ok t=true:=by
  intro t ht
  by_cases hl:t<tt.length
  · have:=List.all_eq_true.1 h t (by simpa using hl)
    rw[ht]at this
    simp only[cond_true,bldOk,Bool.and_eq_true]at this
    obtain ⟨⟨h1,h2⟩,h3⟩:=this
    refine ⟨Nat.eq_of_beq_eq_true h1,?_,h2⟩
    split at h3
    · assumption
    · cases h3
  · have:tt.at t=TI.none:=by unfold dM.at; simp[List.getD,List.getElem?_eq_none (Nat.le_of_not_lt hl)]
    rw[this]at ht; cases ht

theorem Qb {n t:Nat} (hn:tt.length=n) (ht:n≤t):tt.at t=TI.none:=by
  unfold dM.at
  rw[List.getD,List.getElem?_eq_none (by omega)]
  rfl

theorem Y3 {n t:Nat} (hn:tt.length=n) (ht:n≤t):(tt.at t).d.Is P t:=by rw[Qb hn ht]; trivial
theorem ok_past {n t:Nat} (hn:tt.length=n) (ht:n≤t) (h:tt.ok t=true):False:=by
  unfold dM.ok at h
  rw[Qb hn ht]at h
  cases h
theorem eq_past {n t:Nat} (hn:tt.length=n) (ht:n≤t) (h:(tt.at t).eq=true):False:=by
  rw[Qb hn ht]at h
  cases h
end

section
variable {P:Program} {tt:dM} {w:World} {h:az} {c:ko}

def Tq (P:Program) (ty:TypeId) (z:V):Prop :=
  (∃k n,z = .int k n∧P.underlying ty=some (.int k))∨(∃s,z = .str s∧P.underlying ty=some .string)∨(∃b,z = .bool b∧P.underlying ty=some .bool)

theorem Gp {ty:TypeId} {z:V} (s:Tq P ty z) {xs:Array Value} {j:Nat} {x:Value} (hx:xs[j]? = some x):(part ty xs j).run P w = .ok x w:=by
  rcases s with ⟨k,n,_,hu⟩|⟨n,_,hu⟩|⟨n,_,hu⟩ <;> simp[part,Go.isAgg,run_underlying hu,hx]

theorem eqF (d:Nat) (xs ys:Array Value):∀(fs:List Field) (zs cs ds:List V) (j:Nat) (b:Bool),(∀i f z,fs[i]? = some f→zs[i]? = some z→f.name ≠ "_" ∧ f.offset=j+i∧Tq P f.type z)→fs.length=zs.length →
    fB zs cs=true→fB zs ds=true→mv cs ds=some b→(∀i v,cs[i]? = some v→∃x,xs[j+i]? = some x∧dH w h c v x)→(∀i v,ds[i]? = some v→∃x,ys[j+i]? = some x∧dH w h c v x) →
    (Op.eqFields (d+1) xs ys fs).run P w = .ok b w
  | [],zs,cs,ds,j,b,_,hl,hc,hd,he,_,_=>by
    have:zs = []:=List.eq_nil_of_length_eq_zero hl.symm
    subst this
    cases cs with
    | cons=>cases hc
    | nil =>
      cases ds with
      | cons=>cases hd
      | nil=>cases he; simp[Op.eqFields]
  | f::fs, [],_,_,_,_,_,hl,_,_,_,_,_=>by cases hl
  | f::fs,z::zs,cs,ds,j,b,hf,hl,hc,hd,he,hx,hy=>by
    obtain ⟨h1,h2,h3⟩:=hf 0 f z rfl rfl
    have VS:∀i g y,fs[i]? = some g→zs[i]? = some y→g.name ≠ "_" ∧ g.offset=(j+1)+i∧Tq P g.type y:=fun i g y hg hy=>by
      have:=hf (i+1) g y (by simpa using hg) (by simpa using hy)
      exact ⟨this.1,by omega,this.2.2⟩
    have Xp:fs.length=zs.length:=by simpa using hl
    cases cs with
    | nil=>cases z <;> cases hc
    | cons c0 cs =>
      cases ds with
      | nil=>cases z <;> cases hd
      | cons d0 ds =>
        obtain ⟨x,hx0,rx⟩:=hx 0 c0 rfl
        obtain ⟨y,hy0,ry⟩:=hy 0 d0 rfl
        have RE:∀i v,cs[i]? = some v→∃x,xs[(j+1)+i]? = some x∧dH w h c v x:=fun i v hv=>by
          obtain ⟨x,q1,q2⟩:=hx (i+1) v (by simpa using hv)
          exact ⟨x,by rw[←q1]; congr 1; omega,q2⟩
        have hy':∀i v,ds[i]? = some v→∃x,ys[(j+1)+i]? = some x∧dH w h c v x:=fun i v hv=>by
          obtain ⟨x,q1,q2⟩:=hy (i+1) v (by simpa using hv)
          exact ⟨x,by rw[←q1]; congr 1; omega,q2⟩
        have p1:=Gp (w:=w) h3 hx0
        have p2:=Gp (w:=w) h3 hy0
        have fin:∀(r:Bool),(Op.equalIn (d+1) f.type x y).run P w = .ok r w→∀b',mv cs ds=some b'→fB zs cs=true→fB zs ds=true→b=(r&&b')→(Op.eqFields (d+1) xs ys (f::fs)).run P w = .ok b w:=by
          intro r hr b' pT kc kd hb
          subst hb
          have ih:=eqF d xs ys fs zs cs ds (j+1) b' VS Xp kc kd pT RE hy'
          simp only[Op.eqFields,h1,ne_eq,not_false_eq_true,if_true,Sem.run_bind,h2,Nat.add_zero,p1,p2,Result.andThen_ok,hr]
          simp only[Nat.add_zero]at p1 p2
          simp only[p1,p2,Result.andThen_ok,hr]
          cases r with
          | true=>simpa using ih
          | false=>simp
        rcases h3 with ⟨k,n,rfl,hu⟩|⟨s,rfl,hu⟩|⟨q,rfl,hu⟩
        · cases c0 with
          | int k1 n1 =>
            cases d0 with
            | int k2 n2 =>
              simp only[fB,Bool.and_eq_true,decide_eq_true_eq]at hc hd
              obtain ⟨rfl,hc⟩:=hc
              obtain ⟨rfl,hd⟩:=hd
              cases rx
              cases ry
              simp only[mv,if_true]at he
              split at he
              · rename_i b' pT
                cases he
                exact fin _ (run_equalIn_int w d _ _ _ _ _ hu) b' pT hc hd rfl
              · cases he
            | _=>simp[fB]at hd
          | _=>simp[fB]at hc
        · cases c0 with
          | str s1 =>
            cases d0 with
            | str s2 =>
              simp only[fB]at hc hd
              cases rx
              cases ry
              simp only[mv]at he
              split at he
              · rename_i b' pT
                cases he
                refine fin _ (run_equalIn_string w d _ _ _ hu) b' pT hc hd ?_
                congr 1
                simp only[ByteArray.toList_eq]
              · cases he
            | _=>simp[fB]at hd
          | _=>simp[fB]at hc
        · cases c0 with
          | bool s1 =>
            cases d0 with
            | bool s2 =>
              simp only[fB]at hc hd
              cases rx
              cases ry
              simp only[mv]at he
              split at he
              · rename_i b' pT
                cases he
                exact fin _ (run_equalIn_bool' w d _ _ _ hu) b' pT hc hd rfl
              · cases he
            | _=>simp[fB]at hd
          | _=>simp[fB]at hc

def FlatT (P:Program) (ty:TypeId) (g:List V):Prop :=
  P.underlying ty=some (.struct (P.fieldsOf ty))∧P.stoodInHeld ty=false∧(∃i,P.info? ty=some i)∧P.cellsOf ty=g.length∧(P.fieldsOf ty).toList.length=g.length ∧
    ∀i f z,(P.fieldsOf ty).toList[i]? = some f→g[i]? = some z→f.name ≠ "_" ∧ f.offset=0+i∧Tq P f.type z

def Qc (P:Program):List Field→List (List V)→Nat→Prop
  | [], [],_=>True
  | f::fs,g::gs,j=>f.name ≠ "_" ∧ f.offset=j∧((∃z,g = [z]∧Tq P f.type z)∨FlatT P f.type g)∧Qc P fs gs (j+g.length)
  | _,_,_=>False

theorem FG:∀ {zs cs:List V},fB zs cs=true→cs.length=zs.length
  | [], [],_=>rfl
  | [],_::_,h=>by cases h
  | z::_, [],h=>by cases z <;> cases h
  | z::zs,c::cs,h=>by
    have:fB zs cs=true:=by
      cases z <;> cases c <;> simp[fB]at h
      · exact h.2
      · exact h
      · exact h
    simp[FG this]

theorem C0:∀ {g zs cs:List V},fB (g++zs) cs=true→fB g (cs.take g.length)=true∧fB zs (cs.drop g.length)=true
  | [],zs,cs,h=>by simpa [fB]using h
  | z::g,zs, [],h=>by cases z <;> cases h
  | z::g,zs,c::cs,h=>by
    have key:fB (g++zs) cs=true:=by
      cases z <;> cases c <;> simp[fB]at h
      · exact h.2
      · exact h
      · exact h
    obtain ⟨h1,h2⟩:=C0 key
    refine ⟨?_,by simpa using h2⟩
    simp only[List.length_cons,List.take_succ_cons]
    cases z <;> cases c <;> simp[fB]at h ⊢
    · exact ⟨h.1,h1⟩
    · exact h1
    · exact h1

theorem zf:∀(n:Nat) {cs ds:List V} {b:Bool},mv cs ds=some b→n≤cs.length→∃b1 b2,mv (cs.take n) (ds.take n)=some b1∧mv (cs.drop n) (ds.drop n)=some b2∧b=(b1&&b2)
  | 0,cs,ds,b,h,_=>⟨true,b,by simp[mv],by simpa using h,by simp⟩
  | n+1, [],_,_,_,hn=>by simp at hn
  | n+1,c::cs, [],b,h,_=>by cases c <;> cases h
  | n+1,c::cs,d::ds,b,h,hn=>by
    have QF:n≤cs.length:=by simpa using hn
    simp only[List.take_succ_cons,List.drop_succ_cons]
    cases c <;> cases d <;> simp only[mv]at h ⊢ <;> try (first|cases h)
    · split at h
      · rename_i e
        rw[if_pos e]
        split at h
        · rename_i r hr
          cases h
          obtain ⟨b1,b2,h1,h2,h3⟩:=zf n hr QF
          rw[h1]
          exact ⟨_,b2,rfl,h2,by rw[h3,Bool.and_assoc]⟩
        · cases h
      · cases h
    · split at h
      · rename_i r hr
        cases h
        obtain ⟨b1,b2,h1,h2,h3⟩:=zf n hr QF
        rw[h1]
        exact ⟨_,b2,rfl,h2,by rw[h3,Bool.and_assoc]⟩
      · cases h
    · split at h
      · rename_i r hr
        cases h
        obtain ⟨b1,b2,h1,h2,h3⟩:=zf n hr QF
        rw[h1]
        exact ⟨_,b2,rfl,h2,by rw[h3,Bool.and_assoc]⟩
      · cases h

theorem OY {ty:TypeId} {g:List V} (s:FlatT P ty g) {xs:Array Value} {j:Nat}:(part ty xs j).run P w = .ok (.agg (xs.extract j (j+g.length))) w:=by
  obtain ⟨h1,_,⟨i,h3⟩,h4,_⟩:=s
  have hs:(sizeOf ty).run P w = .ok g.length w:=by
    have:P.cellsOf ty=i.size:=by simp[Program.cellsOf,h3]
    rw[←h4,this]
    simp[sizeOf,typeInfo,h3]
  simp[part,Go.isAgg,run_underlying h1,hs]

theorem eqG (d:Nat) (xs ys:Array Value):∀(fs:List Field) (gs:List (List V)) (cs ds:List V) (j:Nat) (b:Bool),Qc P fs gs j→fB gs.flatten cs=true→fB gs.flatten ds=true→mv cs ds=some b →
    (∀i v,cs[i]? = some v→∃x,xs[j+i]? = some x∧dH w h c v x)→(∀i v,ds[i]? = some v→∃x,ys[j+i]? = some x∧dH w h c v x)→(Op.eqFields (d+2) xs ys fs).run P w = .ok b w
  | [], [],cs,ds,j,b,_,hc,hd,he,_,_=>by
    cases cs with
    | cons=>cases hc
    | nil =>
      cases ds with
      | cons=>cases hd
      | nil=>cases he; simp[Op.eqFields]
  | [],_::_,_,_,_,_,hn,_,_,_,_,_=>by cases hn
  | _::_, [],_,_,_,_,hn,_,_,_,_,_=>by cases hn
  | f::fs,g::gs,cs,ds,j,b,hn,hc,hd,he,hx,hy=>by
    obtain ⟨n1,n2,n3,n4⟩:=hn
    rw[List.flatten_cons]at hc hd
    obtain ⟨c1,c2⟩:=C0 hc
    obtain ⟨d1,d2⟩:=C0 hd
    have lc:=FG hc
    have ld:=FG hd
    rw[List.length_append]at lc ld
    obtain ⟨b1,b2,e1,e2,rfl⟩:=zf g.length he (by omega)
    have behind:∀ {cs:List V} {xs:Array Value},(∀i v,cs[i]? = some v→∃x,xs[j+i]? = some x∧dH w h c v x)→∀i v,(cs.drop g.length)[i]? = some v→∃x,xs[(j+g.length)+i]? = some x∧dH w h c v x:=by
      intro cs xs hx i v hv
      rw[List.getElem?_drop]at hv
      obtain ⟨x,q1,q2⟩:=hx _ v hv
      exact ⟨x,by rw[←q1]; congr 1; omega,q2⟩
    have ih:=eqG d xs ys fs gs _ _ (j+g.length) b2 n4 c2 d2 e2 (behind hx) (behind hy)
    -- what the field is
    have key:∃x y,(part f.type xs j).run P w = .ok x w∧(part f.type ys j).run P w = .ok y w∧(Op.equalIn (d+2) f.type x y).run P w = .ok b1 w:=by
      rcases n3 with ⟨z,rfl,hz⟩|hF
      · -- one cell: the flat case, alone
        cases cs with
        | nil=>simp only[List.length_nil,List.length_cons]at lc; omega
        | cons c0 cs =>
          cases ds with
          | nil=>simp only[List.length_nil,List.length_cons]at ld; omega
          | cons d0 ds =>
            simp only[List.length_cons,List.length_nil,Nat.zero_add,List.take_succ_cons,List.take_zero]at c1 d1 e1
            obtain ⟨x,hx0,rx⟩:=hx 0 c0 rfl
            obtain ⟨y,hy0,ry⟩:=hy 0 d0 rfl
            rw[Nat.add_zero]at hx0 hy0
            refine ⟨x,y,Gp hz hx0,Gp hz hy0,?_⟩
            rcases hz with ⟨k,n,rfl,hu⟩|⟨s,rfl,hu⟩|⟨q,rfl,hu⟩
            · cases c0 <;> simp[fB]at c1
              cases d0 <;> simp[fB]at d1
              subst c1 d1
              cases rx
              cases ry
              simp only[mv,if_true,Option.some.injEq]at e1
              subst e1
              rw[Bool.and_true]
              exact run_equalIn_int w (d+1) _ _ _ _ _ hu
            · cases c0 <;> simp[fB]at c1
              cases d0 <;> simp[fB]at d1
              cases rx
              cases ry
              simp only[mv,Option.some.injEq]at e1
              subst e1
              rw[Bool.and_true]
              refine (run_equalIn_string w (d+1) f.type _ _ hu).trans ?_
              congr 1
              simp only[ByteArray.toList_eq]
            · cases c0 <;> simp[fB]at c1
              cases d0 <;> simp[fB]at d1
              cases rx
              cases ry
              simp only[mv,Option.some.injEq]at e1
              subst e1
              rw[Bool.and_true]
              exact run_equalIn_bool' w (d+1) _ _ _ hu
      · refine ⟨_,_,OY hF,OY hF,?_⟩
        obtain ⟨h1,h2,h3,h4,h5,h6⟩:=hF
        rw[run_equalIn_struct w (d+1) f.type _ _ h1 h2]
        have at0:∀ {cs:List V} {xs:Array Value},(∀i v,cs[i]? = some v→∃x,xs[j+i]? = some x∧dH w h c v x)→∀i v,(cs.take g.length)[i]? = some v→∃x,(xs.extract j (j+g.length))[0+i]? = some x∧dH w h c v x:=by
          intro cs xs hx i v hv
          have hi:i<g.length:=by
            have:=(List.getElem?_eq_some_iff.1 hv).1
            rw[List.length_take]at this
            omega
          rw[List.getElem?_take_of_lt hi]at hv
          obtain ⟨x,q1,q2⟩:=hx i v hv
          refine ⟨x,?_,q2⟩
          rw[Nat.zero_add,Array.getElem?_extract]
          have qS:j+i<xs.size:=(Array.getElem?_eq_some_iff.1 q1).1
          rw[if_pos (by omega),q1]
        exact eqF d _ _ _ _ _ _ 0 b1 h6 h5 c1 d1 e1 (at0 hx) (at0 hy)
    obtain ⟨x,y,p1,p2,hr⟩:=key
    simp only[Op.eqFields,n1,ne_eq,not_false_eq_true,if_true,Sem.run_bind,n2,p1,p2,Result.andThen_ok,hr]
    cases b1 with
    | true=>simpa using ih
    | false=>simp

def JM (P:Program) (tt:dM) (t:Nat):Prop :=
  P.underlying t=some (.struct (P.fieldsOf t))∧P.stoodInHeld t=false∧P.eqGuardType P.depth t=false∧∃gs,gs.flatten=(tt.at t).zero∧Qc P (P.fieldsOf t).toList gs 0

def UN (P:Program) (ty:TypeId):V→Bool
  | .int k _=>(match P.underlying ty with|some (.int k')=>decide (k'=k)|_=>false)
  | .str _=>(match P.underlying ty with|some .string=>true|_=>false)
  | .bool _=>(match P.underlying ty with|some .bool=>true|_=>false)
  | _=>false

theorem MD {ty:TypeId} {z:V} (h:UN P ty z=true):Tq P ty z:=by
  unfold UN at h
  split at h
  · split at h
    · rename_i k n _ k' hu
      have e:k'=k:=by simpa using h
      subst e
      exact .inl ⟨_,_,rfl,hu⟩
    · cases h
  · split at h
    · rename_i hu; exact .inr (.inl ⟨_,rfl,hu⟩)
    · cases h
  · split at h
    · rename_i hu; exact .inr (.inr ⟨_,rfl,hu⟩)
    · cases h
  · cases h

def UO (P:Program):List Field→List V→Nat→Bool
  | [], [],_=>true
  | f::fs,z::zs,j=>decide (f.name ≠ "_")&&decide (f.offset=j)&&UN P f.type z&&UO P fs zs (j+1)
  | _,_,_=>false

theorem ME:∀(fs:List Field) (zs:List V) (j:Nat),UO P fs zs j=true→fs.length=zs.length∧∀i f z,fs[i]? = some f→zs[i]? = some z→f.name ≠ "_" ∧ f.offset=j+i∧Tq P f.type z
  | [], [],_,_=>⟨rfl,fun i f z h=>by simp at h⟩
  | [],_::_,_,h=>by cases h
  | _::_, [],_,h=>by cases h
  | f::fs,z::zs,j,h=>by
    simp only[UO,Bool.and_eq_true,decide_eq_true_eq]at h
    obtain ⟨⟨⟨h1,h2⟩,h3⟩,h4⟩:=h
    obtain ⟨g1,g2⟩:=ME fs zs (j+1) h4
    refine ⟨by simp[g1],fun i g y hg hy => ?_⟩
    cases i with
    | zero =>
      simp at hg hy
      subst hg; subst hy
      exact ⟨h1,h2,MD h3⟩
    | succ i =>
      obtain ⟨q1,q2,q3⟩:=g2 i g y (by simpa using hg) (by simpa using hy)
      exact ⟨q1,by omega,q3⟩

def flatB (P:Program) (ty:TypeId) (g:List V):Bool :=
  (match P.info? ty with|some _=>true|none=>false)&&Nat.beq (P.cellsOf ty) g.length && !P.stoodInHeld ty&&UO P (P.fieldsOf ty).toList g 0
def OZ (P:Program):List Field→List V→Nat→Bool
  | [],zs,_=>zs.isEmpty
  | f::fs,zs,j =>
    decide (f.name ≠ "_")&&decide (f.offset=j) &&
      (match P.underlying f.type with
       | some (.struct fl)=>flatB P f.type (zs.take fl.size)&&OZ P fs (zs.drop fl.size) (j+fl.size)
       | _=>(match zs with|z::zr=>UN P f.type z&&OZ P fs zr (j+1) | []=>false))

theorem HC:∀(fs:List Field) (zs:List V) (j:Nat),OZ P fs zs j=true→∃gs:List (List V),gs.flatten=zs∧Qc P fs gs j
  | [],zs,j,h=>⟨[],by simpa [OZ]using h.symm,trivial⟩
  | f::fs,zs,j,h=>by
    simp only[OZ,Bool.and_eq_true,decide_eq_true_eq]at h
    obtain ⟨⟨h1,h2⟩,h3⟩:=h
    split at h3
    · rename_i fl hu
      rw[Bool.and_eq_true]at h3
      obtain ⟨g1,g2⟩:=h3
      have hfo:P.fieldsOf f.type=fl:=by simp[Program.fieldsOf,hu]
      obtain ⟨gs,e1,e2⟩:=HC fs _ _ g2
      unfold flatB at g1
      simp only[Bool.and_eq_true,Bool.not_eq_true']at g1
      obtain ⟨⟨⟨k1,k2⟩,k3⟩,k4⟩:=g1
      obtain ⟨q1,q2⟩:=ME _ _ _ k4
      have hlen:(zs.take fl.size).length=fl.size:=by rw[←q1,hfo]; simp
      refine ⟨zs.take fl.size::gs,by rw[List.flatten_cons,e1,List.take_append_drop],h1,h2, .inr ⟨by rw[hfo]; exact hu,k3,?_,Nat.eq_of_beq_eq_true k2,q1,q2⟩,by rw[hlen]; exact e2⟩
      cases hi:P.info? f.type with
      | none=>rw[hi]at k1; cases k1
      | some i=>exact ⟨i,rfl⟩
    · split at h3
      · rename_i z zr
        rw[Bool.and_eq_true]at h3
        obtain ⟨gs,e1,e2⟩:=HC fs _ _ h3.2
        exact ⟨[z]::gs,by rw[List.flatten_cons,e1]; rfl,h1,h2, .inl ⟨z,rfl,MD h3.1⟩,e2⟩
      · cases h3

theorem JM.of {t:Nat} (h1:P.underlying t=some (.struct (P.fieldsOf t))) (h2:P.stoodInHeld t=false) (h3:P.eqGuardType P.depth t=false) (h4:OZ P (P.fieldsOf t).toList (tt.at t).zero 0=true):JM P tt t :=
  ⟨h1,h2,h3,HC _ _ _ h4⟩

theorem eqOk_eq {i:TI} {a b:List V} (h:PH i a b=true):i.eq=true:=by
  unfold PH at h
  simp only[Bool.and_eq_true]at h
  exact h.1.1

theorem Y4 {t:Nat} (e:JM P tt t) {cs ds:List V} {xs ys:Array Value} {b:Bool} (hk:PH (tt.at t) cs ds=true) (rx:cH w h c cs xs.toList) (ry:cH w h c ds ys.toList) (hb:mv cs ds=some b) :
    P.eqGuardType P.depth t=false∧(Op.equalIn 10000 t (.agg xs) (.agg ys)).run P w = .ok b w:=by
  obtain ⟨e1,e2,e3,gs,e4,e5⟩:=e
  refine ⟨e3,?_⟩
  unfold PH at hk
  simp only[Bool.and_eq_true]at hk
  rw[run_equalIn_struct w 9999 t xs ys e1 e2]
  have get:∀ {cs:List V} {xs:Array Value},cH w h c cs xs.toList→∀i v,cs[i]? = some v→∃x,xs[0+i]? = some x∧dH w h c v x:=by
    intro cs xs r i v hv
    have hi:=(List.getElem?_eq_some_iff.1 hv).1
    have hl:i<xs.size:=by have:=r.1; simp at this; omega
    refine ⟨xs[i],by simp[hl],r.2 i v _ hv (by simp[hl])⟩
  exact eqG 9997 xs ys _ gs cs ds 0 b e5 (by rw[e4]; exact hk.1.2) (by rw[e4]; exact hk.2) hb (get rx) (get ry)
end

section
variable {R:Type} {P:Program} {tt:dM}

mutual
def Json.depth:Json→Nat
  | ⟨_,_,_,_,l⟩=>Json.BW l+1
def Json.BW:List Json→Nat
  | []=>0
  | x::l=>max x.depth (Json.BW l)
end
mutual
def Raw.depth:Raw→Nat
  | ⟨_,_,_,_,l⟩=>Raw.BW l+1
def Raw.BW:List Raw→Nat
  | []=>0
  | x::l=>max x.depth (Raw.BW l)
end

def iZ.fu (x:iZ):Nat:=x.aB.natAbs+x.exp.natAbs
def Json.fu (x:Json):Nat:=x.text.length+x.names.length+x.items.length
def Raw.fu (x:Raw):Nat:=x.text.length+x.items.length
def Gw.fu (x:Gw):Nat:=x.kind.natAbs+x.aB.natAbs+x.exp.natAbs+x.text.length
def Fld.fu (x:Fld):Nat:=x.name.length
def NV.fu (x:NV):Nat:=x.topic.length+x.data.length
def Token.fu (x:Token):Nat:=x.text.length
def Stop.fu (x:Stop):Nat:=0
def Way.fu (x:Way):Nat:=0
def Order.fu (x:Order):Nat:=x.header.natAbs+x.tG.length+x.order.natAbs+x.update.natAbs+x.nodes.length+x.LI.length
def Edge.fu (x:Edge):Nat:=0
def CV.fu (x:CV):Nat:=x.nodes.natAbs+x.LI.length
def GX.fu (x:GX):Nat:=x.maker.length+x.XD.length+x.kind.length
def State.fu (x:State):Nat:=x.header.natAbs+x.XE.natAbs+x.tG.length+x.order.natAbs+x.update.natAbs+x.node.natAbs+x.seq.natAbs+x.accepted.natAbs
def Ctl.fu (x:Ctl):Nat:=x.tG.length+x.header.natAbs+x.order.natAbs+x.update.natAbs+x.XE.natAbs+x.seen.natAbs+x.path.length+x.seq.natAbs+x.rel.natAbs+x.pending.header.natAbs+x.pending.tG.length+x.pending.order.natAbs+x.pending.update.natAbs+x.pending.nodes.length+x.pending.LI.length
def NW.fu (x:NW):Nat:=x.kind.natAbs+x.i.natAbs+x.k.natAbs+x.by_.natAbs+x.data.length
def EI.fu (x:EI):Nat:=x.header.natAbs+x.order.natAbs+x.update.natAbs+x.seq.natAbs+x.from_.natAbs+x.zz.natAbs+x.turns.length
def NX.fu (x:NX):Nat:=x.kind.natAbs+x.o.header.natAbs+x.o.order.natAbs+x.o.update.natAbs+x.o.seq.natAbs+x.o.from_.natAbs+x.o.zz.natAbs+x.o.turns.length+x.data.length
def NY.fu (x:NY):Nat:=x.kind.natAbs+x.n.natAbs+x.turns.length
def NZ.fu (x:NZ):Nat:=x.a.natAbs+x.b.natAbs+x.c.natAbs
def KL.fu (x:KL):Nat:=x.a.natAbs+x.b.natAbs
def N0.fu (x:N0):Nat:=x.a.aB.natAbs+x.a.exp.natAbs+x.b.aB.natAbs+x.b.exp.natAbs
def N1.fu (x:N1):Nat:=x.name.length+x.home.natAbs
def Job.fu (x:Job):Nat:=x.id.natAbs+x.target.natAbs+x.state.natAbs+x.tG.natAbs
def CW.fu (x:CW):Nat:=x.kind.natAbs+x.nums.length+x.text.length

theorem Ec (rs:List Ty) (t:Nat):∃b,(tt.mode rs).at t = { tt.at t with rowy:=b }:=by
  unfold dM.mode dM.at
  simp only[List.getD,List.getElem?_map]
  cases tt[t]? with
  | none=>exact ⟨false,rfl⟩
  | some i=>exact ⟨_,rfl⟩

theorem Qd (rs:List Ty) (t:Nat):(tt.mode rs).ok t=tt.ok t:=by
  obtain ⟨b,h⟩:=Ec (tt:=tt) rs t
  unfold dM.ok
  rw[h]

theorem xT.mode (T:xT P tt) (rs:List Ty):xT P (tt.mode rs) where
  und:=fun t=>by obtain ⟨b,h⟩:=Ec (tt:=tt) rs t; rw[h]; exact T.und t
  info:=fun t ht=>by
    rw[Qd]at ht
    obtain ⟨b,h⟩:=Ec (tt:=tt) rs t
    rw[h]
    exact T.info t ht
  eqs:=fun t w h c cs ds xs ys b hk=>by
    obtain ⟨b',h'⟩:=Ec (tt:=tt) rs t
    rw[h']at hk
    exact T.eqs t w h c cs ds xs ys b hk
  u8s:=fun e he=>by
    obtain ⟨b,h⟩:=Ec (tt:=tt) rs e
    rw[h]at he
    exact T.u8s e he
  blds:=fun t ht=>by
    obtain ⟨b,h⟩:=Ec (tt:=tt) rs t
    rw[h]at ht
    rw[Qd,h]
    exact T.blds t ht
  ones:=fun t ht=>by
    rw[Qd]at ht
    obtain ⟨b,h⟩:=Ec (tt:=tt) rs t
    have e:(tt.mode rs).isAgg t=tt.isAgg t:=by unfold dM.isAgg; rw[h]
    rw[e]
    exact T.ones t ht

theorem kr {D:Type} {E:Env R} {L:Nat→Option (Hint × cq R)} {m:Nat} {a:Code} {hint:Hint} (enc:D→St)
    (s:(Ex→St→Option R)→(D→Option R)→D→Option R) (A:(Ex→St→Option R)→Nat→D→Option R)
    (h0:∀K d,A K 0 d=none)
    (hB:∀K fH d,roundOf tt E L m a hint (enc d) fH K=s K (fun d=>fH (enc d)) d)
    (hA:∀K n d,A K (n+1) d=s K (A K n) d) (K:Ex→St→Option R) :
    ∀n d,CD (lk tt E L m a) (norm m hint) n (enc d) (fun e st=>K e (trim m hint st))=A K n d
  | 0,d=>(h0 K d).symm
  | n+1,d=>by
    rw[Tp,hB,hA]
    exact congrArg (fun q=>s K q d) (funext fun d=>kr enc s A h0 hB hA K n d)

theorem gL {D:Type} {E:Env R} {L:Nat→Option (Hint × cq R)} {m:Nat} {a:Code} {hint:Hint} {ps:List bO} {hs:List aH}
    {run:bO.av ps→aH.av hs→(Ex→St→Option R)→Option R} {other:cq R} {enc:D→St} {A:(Ex→St→Option R)→Nat→D→Option R}
    (ho:o0 tt E L m a hint other)
    (tie:∀K n d,CD (lk tt E L m a) (norm m hint) n (enc d) (fun e st=>K e (trim m hint st))=A K n d)
    (fuel:bO.av ps→aH.av hs→Nat) (dat:bO.av ps→aH.av hs→D)
    (henc:∀x y,(⟨bO.cQ ps x,aH.cQ hs y⟩:St)=enc (dat x y))
    (mV:∀x y K,run x y K=A K (fuel x y) (dat x y)):o0 tt E L m a hint (gq ps hs run other) :=
  Wo ho fun x y K=>⟨fuel x y,by rw[henc,mV]; exact tie K _ _⟩

theorem Dx {g:Nat} {ps:List bO} {hs:List aH} {run:Nat→bO.av ps→aH.av hs→(V→az→Option R)→Option R} {other:Spec R}
    (fuel:bO.av ps→aH.av hs→Nat) (ho:Spec.Ok P g other)
    (h:∀n,Spec.Ok P g (aA ps hs (run n) bg)):Spec.Ok P g (aA ps hs (fun x y k=>run (fuel x y) x y k) other):=by
  intro vs hp k r hk
  unfold aA at hk
  split at hk
  · rename_i x y h1 h2
    refine h (fuel x y) vs hp k r ?_
    unfold aA
    rw[h1,h2]
    exact hk
  · exact ho _ _ _ _ hk

theorem wk {g:Nat} {ps:List bO} {hs:List aH} {run:Nat→bO.av ps→aH.av hs→(V→az→Option R)→Option R}
    (h0:∀x y k,run 0 x y k=none)
    (hs':∀n,Spec.Ok P g (aA ps hs (run n) bg)→Spec.Ok P g (aA ps hs (run (n+1)) bg)):∀n,Spec.Ok P g (aA ps hs (run n) bg)
  | 0=>by
    intro vs hp k r hk
    unfold aA at hk
    split at hk
    · rw[h0]at hk; cases hk
    · cases hk
  | n+1=>hs' n (wk h0 hs' n)

theorem BX {g:Nat} {ps:List bO} {hs:List aH} {run run':bO.av ps→aH.av hs→(V→az→Option R)→Option R} {other:Spec R}
    (h:Spec.Ok P g (aA ps hs run other)) (e:run'=run):Spec.Ok P g (aA ps hs run' other):=e▸h
end
abbrev oN (s:aj):List Int:=Hk s
end Go.ay

