/-
  JsonBack: for every input whose bulk is at most 1048576 the law returns true, and each argument reads behind the call as it read before; part 3 of 8 of the proof: an interpreter of the model's code over typed data, proved sound; the functions that the law reaches, printed as Lean functions and tied; the plain law. Own texts laid one behind the other.
-/
import Derived.Calls
import Derived.Orders
import Derived.ChangeKeysEq
import Derived.Test.YtmlkkgfenfdndaaGreatDoorJsonBackB2
set_option linter.unusedSimpArgs false
set_option linter.unnecessarySimpa false
set_option linter.unusedVariables false
set_option linter.unusedSectionVars false
namespace Go.ay
open Go.RowKit

section
variable {w w':World} {h h':az} {c c':kh}

theorem qU {i:Nat}:∀ {cs:List V},i∈V.sv cs↔∃(j:Nat) (v:V),cs[j]? = some v∧i∈v.ids
  | []=>by simp[V.sv]
  | v::cs=>by
    simp only[V.sv,List.mem_append,qU (cs:=cs)]
    constructor
    · rintro (h|⟨j,u,h1,h2⟩)
      · exact ⟨0,v,rfl,h⟩
      · exact ⟨j+1,u,h1,h2⟩
    · rintro ⟨j,u,h1,h2⟩
      cases j with
      | zero=>simp at h1; subst h1; exact .inl h2
      | succ j=>exact .inr ⟨j,u,h1,h2⟩

theorem dC.zf {v:V} {d:Value} (r:dC w h c v d):∀i∈v.ids,Used h i:=by
  induction r with
  | undef v=>simp[V.ids]
  | int hn=>simp[V.ids]
  | bool b=>simp[V.ids]
  | str hl=>simp[V.ids]
  | eN=>simp[V.ids]
  | cF=>simp[V.ids]
  | aV=>simp[V.ids]
  | ow=>simp[V.ids]
  | cR=>simp[V.ids]
  | iface t v=>simp[V.ids]
  | ET hn=>simp[V.ids]
  | FZ b=>simp[V.ids]
  | ptr hi _=>simpa [V.ids]using hi
  | map hi _=>simpa [V.ids]using hi
  | row hi _ _=>simpa [V.ids]using hi
  | CR hi _ _=>simpa [V.ids]using hi
  | s8 hi _=>simpa [V.ids]using hi
  | xA f hc _ ih =>
    intro i hi
    simp only[V.ids]at hi
    obtain ⟨j,v,h1,h2⟩:=qU.1 hi
    exact ih j v h1 i h2
  | @sl T l t A cap f lO sw hc hr xR mR ih =>
    intro i hi
    cases t with
    | no=>simp[V.ids]at hi
    | nil=>simp[V.ids]at hi
    | own j=>simp[V.ids]at hi; subst hi; exact (mR i rfl).1
  | Na hn sw f hc _ ih =>
    intro i hi
    simp only[V.ids]at hi
    obtain ⟨j,v,h1,h2⟩:=qU.1 hi
    exact ih j v h1 i h2
  | @func f a b x y ha hb _ _ iha ihb =>
    intro i hi
    simp only[V.ids,List.mem_append]at hi
    rcases hi with hi|hi
    · obtain ⟨j,v,h1,h2⟩:=qU.1 hi
      have hj:=(List.getElem?_eq_some_iff.1 h1).1
      exact iha j v _ h1 (Array.getElem?_eq_getElem (by omega)) i h2
    · obtain ⟨j,v,h1,h2⟩:=qU.1 hi
      have hj:=(List.getElem?_eq_some_iff.1 h1).1
      exact ihb j v _ h1 (Array.getElem?_eq_getElem (by omega)) i h2
  | agg hl _ ih =>
    intro i hi
    simp only[V.ids]at hi
    obtain ⟨j,v,h1,h2⟩:=qU.1 hi
    have hj:=(List.getElem?_eq_some_iff.1 h1).1
    exact ih j v _ h1 (Array.getElem?_eq_getElem (by omega)) i h2
  | tuple hl _ ih =>
    intro i hi
    simp only[V.ids]at hi
    obtain ⟨j,v,h1,h2⟩:=qU.1 hi
    have hj:=(List.getElem?_eq_some_iff.1 h1).1
    exact ih j v _ h1 (Array.getElem?_eq_getElem (by omega)) i h2

theorem cH.zf {cs:List V} {ds:List Value} (r:cH w h c cs ds):∀i∈V.sv cs,Used h i:=by
  intro i hi
  obtain ⟨j,v,h1,h2⟩:=qU.1 hi
  have hj:=(List.getElem?_eq_some_iff.1 h1).1
  exact (r.2 j v _ h1 (List.getElem?_eq_getElem (by have:=r.1; omega))).zf i h2

theorem WF.zf (wf:WF w h c) (i:Nat):∀j∈(h.at i).ids,Used h j:=by
  intro j hj
  cases e:h.at i with
  | cells cs =>
    rw[e]at hj
    have ho:=wf.obj i (az.gD rfl (by rw[e]; simp))
    rw[e]at ho
    obtain ⟨b,arr,el,_,_,r⟩:=ho
    exact r.zf j hj
  | kI v =>
    rw[e]at hj
    have ho:=wf.obj i (az.gD rfl (by rw[e]; simp))
    rw[e]at ho
    obtain ⟨b,p,d,_,_,_,r⟩:=ho
    exact r.zf j hj
  | _=>rw[e]at hj; simp[bY.ids]at hj

theorem GY (wf:WF w h c):∀(n:Nat) (todo seen:List Nat),(∀i∈todo,Used h i)→(∀i∈seen,Used h i)→∀i∈reach h n todo seen,Used h i
  | 0,_,_,_,hs=>hs
  | n+1, [],_,_,hs=>hs
  | n+1,i::todo,seen,ht,hs=>by
    simp only[reach]
    split
    · exact GY wf n _ _ (fun j hj=>ht j (by simp[hj])) hs
    · refine GY wf n _ _ (fun j hj => ?_) (fun j hj => ?_)
      · rcases List.mem_append.1 hj with hj|hj
        · exact ht j (by simp[hj])
        · exact wf.zf i j hj
      · rcases List.mem_append.1 hj with hj|hj
        · exact hs j hj
        · simp at hj; subst hj; exact ht j (by simp)

theorem tO.lt (wf:WF w h c) {b x:Nat} (ho:tO h c b x):b<w.heap.size:=by
  obtain ⟨i,f,h1,h2,_⟩:=ho
  have hl:(h.at i).live:=by cases e:h.at i <;> rw[e]at h2 <;> simp_all [bY.from_,bY.live]
  exact (wf.obj i (az.gD rfl (wE hl))).lt hl h1

theorem Vt {o:bY} (h:o.live) (f:Nat):∃g,o.from_ f=some g:=by cases o <;> simp_all [bY.from_,bY.live]

def HR (h:az) (c:kh) (ord:List Nat) (b x:Nat):Prop:=∃i∈ord,∃f,c.su i=some b∧(h.at i).from_ (c.off i)=some f∧f≤x

def LN (h:az) (c:kh) (ord:List Nat):Qo:=⟨fun b x=>c.ext b x∨(tO h c b x∧¬HR h c ord b x)⟩

theorem HR.wa {ord:List Nat} {b x:Nat} (o:HR h c ord b x):tO h c b x:=by obtain ⟨i,_,f,h1,h2,h3⟩:=o; exact ⟨i,f,h1,h2,h3⟩

theorem LO {ord:List Nat}:∀b x,F0 h c b x→¬LN h c ord b x:=by
  rintro b x hf (he|he)
  · exact hf.2 he
  · exact hf.1 he.1

theorem Jd (wf:WF w h c) {ord:List Nat} (Et:ord.Nodup):WF w (h.pick ord) (c.pick ord (LN h c ord)):=by
  refine T5 wf Et LO ?_ ?_
  · rintro b x (he|he)
    · exact wf.pz b x he
    · exact he.1.lt wf
  · rintro b x ho (he|he)
    · exact wf.xS b x (HR.wa ho) he
    · exact he.2 ho

theorem GZ {ord:List Nat} {cs:List V} {ds:List Value} (r:cH w h c cs ds):cH w (h.pick ord) (c.pick ord (LN h c ord)) (V.xP (xM ord) cs) ds :=
  r.pJ (LM LO)

theorem fQ:∀(l:List (Nat × bY)) (h:az),(az.zG h l).length=h.length
  | [],_=>rfl
  | (i,o)::l,h=>by simp[az.zG,fQ l]

theorem DG {i:Nat}:∀(ord:List Nat) (os:List bY) (h:az),i∉ord→az.at (az.zG h (ord.zip os)) i=h.at i
  | [],_,_,_=>rfl
  | _::_, [],_,_=>rfl
  | a::ord,o::os,h,hn=>by
    simp only[List.zip_cons_cons,az.zG]
    rw[DG ord os _ (fun hm=>hn (by simp[hm]))]
    exact cZ _ (fun e=>hn (by simp[e]))

theorem Je {i:Nat}:∀(ord:List Nat) (os:List bY) (h:az) (j:Nat) (o:bY),ord.Nodup→ord[j]? = some i→os[j]? = some o→i<h.length→az.at (az.zG h (ord.zip os)) i=o
  | [],_,_,_,_,_,hj,_,_=>by simp at hj
  | _::_, [],_,_,_,_,_,ho,_=>by simp at ho
  | a::ord,p::os,h,j,o,Et,hj,ho,hi=>by
    simp only[List.zip_cons_cons,az.zG]
    cases j with
    | zero =>
      simp at hj ho
      subst hj; subst ho
      rw[DG ord os _ (by simpa using (List.nodup_cons.1 Et).1)]
      exact mT _ hi
    | succ j=>exact Je ord os _ j o (List.nodup_cons.1 Et).2 (by simpa using hj) (by simpa using ho) (by simpa using hi)

theorem k8 {a b:az} {i:Nat} (hi:i<a.length):az.at (a++b) i=az.at a i:=by simp[az.at,List.getD,List.getElem?_append_left hi]
theorem jY {a b:az} {i:Nat} (hi:a.length≤i):az.at (a++b) i=az.at b (i - a.length):=by simp[az.at,List.getD,List.getElem?_append_right hi]

theorem HS {ord:List Nat} (Et:ord.Nodup) {i j:Nat} (e:ord[j]? = some i):xM ord i=some j:=by
  obtain ⟨hj,rfl⟩:=List.getElem?_eq_some_iff.1 e
  have hm:ord[j]∈ord:=List.getElem_mem hj
  have kY:ord.idxOf ord[j]<ord.length:=List.idxOf_lt_length_of_mem hm
  unfold xM
  simp only[kY,if_true]
  have hg:=List.getElem_idxOf kY
  have hp:=List.pairwise_iff_getElem.1 Et
  rcases Nat.lt_trichotomy (ord.idxOf ord[j]) j with hl|he|hl
  · exact (hp _ _ kY hj hl hg).elim
  · rw[he]
  · exact (hp _ _ hj kY hl hg.symm).elim

theorem xX {ord:List Nat} {i:Nat} (h:i∉ord):xM ord i=none:=by
  cases e:xM ord i with
  | none=>rfl
  | some j=>exact (h (List.mem_of_getElem? (Bv e))).elim

def kh.back (c:kh) (ord:List Nat) (n:Nat) (c':kh):kh :=
  ⟨fun i=>match xM ord i with|some j=>c'.su j|none=>if i<n then c.su i else c'.su (i - n+ord.length),
   fun i=>match xM ord i with|some j=>c'.off j|none=>if i<n then c.off i else c'.off (i - n+ord.length),c.ext⟩

theorem Ck {ord:List Nat} (Et:ord.Nodup) (kY:∀i∈ord,i<h.length) (hle:ord.length≤h'.length) (i:Nat) :
    (∃j,o7 ord h.length j=i∧j<h'.length∧az.at (h.back ord h') i=(h'.at j).pJ (fun j=>some (o7 ord h.length j))∧(c.back ord h.length c').su i=c'.su j∧(c.back ord h.length c').off i=c'.off j) ∨
    (i∉ord∧i<h.length∧az.at (h.back ord h') i=h.at i∧(c.back ord h.length c').su i=c.su i∧(c.back ord h.length c').off i=c.off i) ∨
    ((h.back ord h').length≤i∧az.at (h.back ord h') i = .dead):=by
  have hlen:(h.back ord h').length=h.length+(h'.length - ord.length):=by simp[az.back,fQ]
  by_cases hm:i∈ord
  · obtain ⟨j,hj,e⟩:=List.mem_iff_getElem.1 hm
    have e':ord[j]? = some i:=by rw[List.getElem?_eq_getElem hj,e]
    have hi:=kY i hm
    refine .inl ⟨j,by simp[o7,hj,List.getD,e],by omega,?_,by simp[kh.back,HS Et e'],by simp[kh.back,HS Et e']⟩
    unfold az.back
    simp only
    rw[k8 (by rw[fQ]; exact hi)]
    refine Je ord _ h j _ Et e' ?_ hi
    have N2:j<h'.length:=by omega
    simp[hj,az.at,List.getD,List.getElem?_eq_getElem N2]
  · by_cases hi:i<h.length
    · refine .inr (.inl ⟨hm,hi,?_,by simp[kh.back,xX hm,hi],by simp[kh.back,xX hm,hi]⟩)
      unfold az.back
      simp only
      rw[k8 (by rw[fQ]; exact hi)]
      exact DG ord _ h hm
    · by_cases hb:i<(h.back ord h').length
      · rw[hlen]at hb
        refine .inl ⟨i - h.length+ord.length,?_,by omega,?_,by simp[kh.back,xX hm,hi],by simp[kh.back,xX hm,hi]⟩
        · have:¬(i - h.length+ord.length<ord.length):=by omega
          simp only[o7,this,if_false]
          omega
        · unfold az.back
          simp only
          rw[jY (by rw[fQ]; omega),fQ]
          have pA:i - h.length+ord.length<h'.length:=by omega
          have hq:ord.length+(i - h.length)=i - h.length+ord.length:=by omega
          simp[az.at,List.getD,hq,List.getElem?_eq_getElem pA]
      · refine .inr (.inr ⟨by omega,?_⟩)
        simp[az.at,List.getD,List.getElem?_eq_none (Nat.le_of_not_lt hb)]

theorem KV {ord:List Nat} (Et:ord.Nodup) (kY:∀i∈ord,i<h.length) (hle:ord.length≤h'.length) (j:Nat) :
    az.at (h.back ord h') (o7 ord h.length j)=(h'.at j).pJ (fun j=>some (o7 ord h.length j))∧(c.back ord h.length c').su (o7 ord h.length j)=c'.su j∧(c.back ord h.length c').off (o7 ord h.length j)=c'.off j:=by
  have hlen:(h.back ord h').length=h.length+(h'.length - ord.length):=by simp[az.back,fQ]
  by_cases hj:j<ord.length
  · have hb:o7 ord h.length j=ord[j]:=by simp[o7,hj,List.getD]
    have e':ord[j]? = some ord[j]:=List.getElem?_eq_getElem hj
    have hi:=kY _ (List.getElem_mem hj)
    rw[hb]
    refine ⟨?_,by simp[kh.back,HS Et e'],by simp[kh.back,HS Et e']⟩
    unfold az.back
    simp only
    rw[k8 (by rw[fQ]; exact hi)]
    refine Je ord _ h j _ Et e' ?_ hi
    have N2:j<h'.length:=by omega
    simp[hj,az.at,List.getD,List.getElem?_eq_getElem N2]
  · have hb:o7 ord h.length j=h.length+(j - ord.length):=by simp[o7,hj]
    have hm:h.length+(j - ord.length)∉ord:=fun hm=>by have:=kY _ hm; omega
    have hn:¬(h.length+(j - ord.length)<h.length):=by omega
    have hs:h.length+(j - ord.length) - h.length+ord.length=j:=by omega
    rw[hb]
    refine ⟨?_,by simp only[kh.back,xX hm,hn,if_false,hs],by simp only[kh.back,xX hm,hn,if_false,hs]⟩
    unfold az.back
    simp only
    rw[jY (by rw[fQ]; omega),fQ]
    have hq:h.length+(j - ord.length) - h.length=j - ord.length:=by omega
    have US:ord.length+(j - ord.length)=j:=by omega
    rw[hq]
    by_cases N2:j<h'.length
    · simp[az.at,List.getD,US,List.getElem?_eq_getElem N2]
    · simp[az.at,List.getD,US,List.getElem?_eq_none (Nat.le_of_not_lt N2),bY.pJ]

theorem Vu {ρ:Nat→Option Nat} {o o':bY}:(o.pJ ρ).iF o'↔o.iF o':=by cases o <;> cases o' <;> simp[bY.pJ,bY.iF,uy]
theorem N8 {ρ:Nat→Option Nat} {o o':bY}:o.iF (o'.pJ ρ)↔o.iF o':=by cases o <;> cases o' <;> simp[bY.pJ,bY.iF,uy]
theorem C2 {o:bY} (h:o.live) (hm:∀K T l,o ≠ .vg K T l∨True):o.iF o:=by cases o <;> simp_all [bY.iF,bY.live]

theorem N9 (wf:WF w h c) {ord:List Nat} (Et:ord.Nodup) (hu:∀i∈ord,Used h i) (TZ:WF w' h' c') (x:Ext w (h.pick ord) (c.pick ord (LN h c ord)) w' h' c') :
    WF w' (h.back ord h') (c.back ord h.length c')∧Ext w h c w' (h.back ord h') (c.back ord h.length c')∧N7 (fun j=>some (o7 ord h.length j)) h' c' (h.back ord h') (c.back ord h.length c'):=by
  have kY:∀i∈ord,i<h.length:=fun i hi=>(hu i hi).1
  have hup:∀j,j<ord.length→Used (h.pick ord) j:=fun j hj=>by
    refine ⟨by simpa [az.pick]using hj,?_⟩
    rw[uZ,List.getElem?_eq_getElem hj]
    simp only[ne_eq,CZ]
    exact (hu _ (List.getElem_mem hj)).2
  have hle:ord.length≤h'.length:=by
    rcases Nat.eq_zero_or_pos ord.length with h0|h0
    · omega
    · have:=(x.used _ (hup (ord.length - 1) (by omega))).1; omega
  have hlen:(h.back ord h').length=h.length+(h'.length - ord.length):=by simp[az.back,fQ]
  -- who owns a cell
  have HN:∀b y,tO (h.back ord h') (c.back ord h.length c') b y→tO h' c' b y∨∃i f,i∉ord∧i<h.length∧c.su i=some b∧(h.at i).from_ (c.off i)=some f∧f≤y:=by
    rintro b y ⟨i,f,h1,h2,h3⟩
    rcases Ck (c:=c) (c':=c') Et kY hle i with ⟨j,_,_,g1,g2,g3⟩|⟨g0,g1,g2,g3,g4⟩|⟨_,g1⟩
    · rw[g2]at h1; rw[g1,g3,QT]at h2
      exact .inl ⟨j,f,h1,h2,h3⟩
    · rw[g3]at h1; rw[g2,g4]at h2
      exact .inr ⟨i,f,g0,g1,h1,h2,h3⟩
    · rw[g1]at h2; cases h2
  have Xc:∀i f b y,i∉ord→c.su i=some b→(h.at i).from_ (c.off i)=some f→f≤y→LN h c ord b y:=by
    intro i f b y hi h1 h2 h3
    refine .inr ⟨⟨i,f,h1,h2,h3⟩,?_⟩
    rintro ⟨i2,hm,f2,g1,g2,g3⟩
    have:=wf.inj i i2 b (td h2) (td g2) h1 g1
    subst this
    exact hi hm
  have QU:∀b y,tO (h.pick ord) (c.pick ord (LN h c ord)) b y→HR h c ord b y:=fun b y ho=>C1 ho
  have hext:c'.ext=LN h c ord:=x.ext
  have hren:N7 (fun j=>some (o7 ord h.length j)) h' c' (h.back ord h') (c.back ord h.length c'):=by
    refine ⟨fun i j e hi => ?_,fun i j e hd => ?_,fun i j e ht => ?_,fun i j e T l ht => ?_,fun b y hf=>⟨fun ho => ?_,fun he => ?_⟩⟩
    · cases e
      obtain ⟨g1,_,_⟩:=KV (c:=c) (c':=c') Et kY hle i
      refine ⟨?_,by rw[g1]; simp only[ne_eq,CZ]; exact hi.2⟩
      rw[hlen]
      unfold o7
      have:=hi.1
      split
      · rename_i hj
        have:=kY _ (List.getElem_mem hj)
        simp only[List.getD,List.getElem?_eq_getElem hj,Option.getD_some]
        omega
      · omega
    · cases e
      obtain ⟨g1,g2,g3⟩:=KV (c:=c) (c':=c') Et kY hle i
      rw[g1]at hd
      simp only[ne_eq,HQ]at hd
      exact ⟨hd,g2,g3⟩
    · cases e
      rw[(KV (c:=c) (c':=c') Et kY hle i).1]at ht
      exact T3.1 ht
    · cases e
      rw[(KV (c:=c) (c':=c') Et kY hle i).1]at ht
      exact T4.1 ht
    · rcases HN b y ho with ho|⟨i,f,g0,_,g2,g3,g4⟩
      · exact hf.1 ho
      · exact hf.2 (by rw[hext]; exact Xc i f b y g0 g2 g3 g4)
    · exact hf.2 (by rw[hext]; exact .inl he)
  have hx:Ext w h c w' (h.back ord h') (c.back ord h.length c'):=by
    refine ⟨x.os,x.tape,x.output,x.size,fun i hi => ?_,fun i hi hd => ?_,fun b y hb ho=>x.cell b y hb (fun o=>ho (QU b y o).wa),fun b hb ho=>x.block b hb (fun y o=>ho y (QU b y o).wa),fun b y hb ho => ?_,rfl,x.arr⟩
    · rcases Ck (c:=c) (c':=c') Et kY hle i with ⟨j,g0,gj,g1,g2,g3⟩|⟨g0,g1,g2,g3,g4⟩|⟨g0,_⟩
      · refine ⟨by have:=hi.1; omega,?_⟩
        rw[g1]; simp only[ne_eq,CZ]
        have hjo:j<ord.length:=by
          unfold o7 at g0
          split at g0
          · assumption
          · have:=hi.1; omega
        exact (x.used j (hup j hjo)).2
      · exact ⟨by omega,by rw[g2]; exact hi.2⟩
      · have:=hi.1; omega
    · rcases Ck (c:=c) (c':=c') Et kY hle i with ⟨j,g0,gj,g1,g2,g3⟩|⟨g0,g1,g2,g3,g4⟩|⟨g0,_⟩
      · have hjo:j<ord.length:=by
          unfold o7 at g0
          split at g0
          · assumption
          · have:=hi.1; omega
        have e:ord[j]? = some i:=by
          simp only[o7,hjo,if_true,List.getD,List.getElem?_eq_getElem hjo,Option.getD_some]at g0
          rw[List.getElem?_eq_getElem hjo,g0]
        rw[g1]at hd ⊢
        simp only[ne_eq,HQ]at hd
        obtain ⟨s1,s2,s3⟩:=x.same j (hup j hjo) hd
        rw[uZ,e]at s1
        rw[g2,g3,s2,s3]
        exact ⟨N8.2 (Vu.1 s1),by simp[kh.pick,e],by simp[kh.pick,List.getD,e]⟩
      · rw[g2]at hd ⊢
        exact ⟨C2 (FM hi.2 hd) (fun _ _ _ => .inr trivial),g3,g4⟩
      · have:=hi.1; omega
    · rcases HN b y ho with ho|⟨i,f,g0,_,g2,g3,g4⟩
      · exact (QU b y (x.wa b y hb ho)).wa
      · exact ⟨i,f,g2,g3,g4⟩
  refine ⟨⟨fun b y ho he => ?_,fun b y he=>Nat.lt_of_lt_of_le (wf.pz b y he) x.size,fun i hi => ?_,fun i j b hi hj h1 h2 => ?_,wf.rW hx⟩,hx,hren⟩
  · rcases HN b y ho with ho|⟨i,f,g0,_,g2,g3,g4⟩
    · exact TZ.xS b y ho (by rw[hext]; exact .inl he)
    · exact wf.xS b y ⟨i,f,g2,g3,g4⟩ he
  · rcases Ck (c:=c) (c':=c') Et kY hle i with ⟨j,g0,gj,g1,g2,g3⟩|⟨g0,g1,g2,g3,g4⟩|⟨_,g0⟩
    · rw[g1]
      exact (TZ.obj j gj).pJ hren g2 g3
    · rw[g2]
      by_cases hl:(h.at i).live
      · refine (wf.obj i g1).keep hx (fun b hb=>x.block b ((wf.obj i g1).lt hl hb) fun y o => ?_) g3 g4
        obtain ⟨i2,hm,f2,k1,k2,_⟩:=QU b y o
        have:=wf.inj i i2 b hl (td k2) hb k1
        subst this
        exact g0 hm
      · have h0:h.at i = .free∨h.at i = .dead:=by revert hl; cases h.at i <;> simp[bY.live]
        rcases h0 with h0|h0 <;> rw[h0] <;> trivial
    · rw[g0]; trivial
  · have key:∀i j b,i∉ord→(h.at i).live→c.su i=some b→(h'.at j).live→c'.su j=some b→False:=by
      intro i j b hi hl hb WN pA
      have Po:=(wf.obj i (az.gD rfl (wE hl))).lt hl hb
      obtain ⟨f,hf⟩:=Vt WN (c'.off j)
      obtain ⟨i2,hm,f2,k1,k2,_⟩:=QU b f (x.wa b f Po ⟨j,f,pA,hf,Nat.le_refl _⟩)
      have:=wf.inj i i2 b hl (td k2) hb k1
      subst this
      exact hi hm
    rcases Ck (c:=c) (c':=c') Et kY hle i with ⟨i',a0,_,a1,a2,a3⟩|⟨a0,a1,a2,a3,a4⟩|⟨_,a0⟩
    · rcases Ck (c:=c) (c':=c') Et kY hle j with ⟨j',b0,_,b1,b2,b3⟩|⟨b0,b1,b2,b3,b4⟩|⟨_,b0⟩
      · rw[a1,C0]at hi; rw[b1,C0]at hj
        rw[a2]at h1; rw[b2]at h2
        rw[←a0,←b0,TZ.inj i' j' b hi hj h1 h2]
      · rw[a1,C0]at hi; rw[b2]at hj
        rw[a2]at h1; rw[b3]at h2
        exact (key j i' b b0 hj h2 hi h1).elim
      · rw[b0]at hj; exact hj.elim
    · rcases Ck (c:=c) (c':=c') Et kY hle j with ⟨j',b0,_,b1,b2,b3⟩|⟨b0,b1,b2,b3,b4⟩|⟨_,b0⟩
      · rw[a2]at hi; rw[b1,C0]at hj
        rw[a3]at h1; rw[b2]at h2
        exact (key i j' b a0 hi h1 hj h2).elim
      · rw[a2]at hi; rw[b2]at hj
        rw[a3]at h1; rw[b3]at h2
        exact wf.inj i j b hi hj h1 h2
      · rw[b0]at hj; exact hj.elim
    · rw[a0]at hi; exact hi.elim
end

section
variable {tt:dJ} {h:az} {R:Type}

theorem Bm {t off:Nat} {cs:List V} {k0:V→Option R} {r:R} (hk:rT tt t cs off k0=some r) :
    ∃v,k0 v=some r∧∀k:V→Option R,rT tt t cs off k=k v:=by
  unfold rT at hk
  split at hk
  · rename_i rU
    split at hk
    · rename_i Ls
      split at hk
      · rename_i qs
        exact ⟨_,hk,fun k=>by simp[rT,rU,Ls,qs]⟩
      · cases hk
    · rename_i Ls
      split at hk
      · rename_i v hv
        exact ⟨_,hk,fun k=>by simp[rT,rU,Ls,hv]⟩
      · cases hk
  · cases hk

theorem HT {op:BinOp} {x y:V} {k0:V→Option R} {r:R} (hk:xB op x y k0=some r) :
    ∃v,k0 v=some r∧∀k:V→Option R,xB op x y k=k v:=by
  unfold xB at hk
  split at hk
  · obtain ⟨hb,hk⟩:=cx hk
    exact ⟨_,hk,fun k=>by simp[xB,cX,hb]⟩
  · obtain ⟨hb,hk⟩:=cx hk
    exact ⟨_,hk,fun k=>by simp[xB,cX,hb]⟩
  · split at hk
    · rename_i xC
      subst xC
      split at hk <;> first
        | (exact ⟨_,hk,fun k=>by simp[xB]⟩)
        | (obtain ⟨hb,hk⟩:=cx hk; exact ⟨_,hk,fun k=>by simp only[xB,hb,cX,cond_true,if_true]⟩)
        | cases hk
    · cases hk
  · split at hk <;> first
        | (exact ⟨_,hk,fun k=>by simp[xB]⟩)
        | (obtain ⟨hb,hk⟩:=cx hk; exact ⟨_,hk,fun k=>by simp only[xB,hb,cX,cond_true]⟩)
        | cases hk
  · split at hk
    · exact ⟨_,hk,fun k=>by simp[xB, *]⟩
    · cases hk
  · split at hk
    · exact ⟨_,hk,fun k=>by simp[xB, *]⟩
    · cases hk
  · cases hk

theorem Xn {op:BinOp} {x y:V} {k0:V→Option R} {r:R} (hk:O7 op x y k0=some r) :
    ∃v,k0 v=some r∧∀k:V→Option R,O7 op x y k=k v:=by
  unfold O7 at hk
  split at hk
  · split at hk
    · exact ⟨_,hk,fun k=>by simp[O7, *]⟩
    · exact ⟨_,hk,fun k=>by simp[O7, *]⟩
    · cases hk
  · cases hk

theorem ifK_nat {op:BinOp} {o:Operand} {x y:V} {k0:V→Option R} {r:R} (hk:ifK op o x y k0=some r) :
    ∃v,k0 v=some r∧∀k:V→Option R,ifK op o x y k=k v:=by
  unfold ifK at hk
  split at hk <;> first|(exact ⟨_,hk,fun k=>by simp[ifK]⟩)|cases hk

theorem Oa {a:V} {neg:Bool} {k0:V→Option R} {r:R} (hk:Ef a (fun r=>k0 (Lj neg r))=some r) :
    ∃v,k0 v=some r∧∀k:V→Option R,Ef a (fun r=>k (Lj neg r))=k v:=by
  unfold Ef at hk
  split at hk <;> try cases hk
  · exact ⟨_,hk,fun k=>by simp[Ef]⟩
  · rename_i l _
    cases hl:l.isEmpty with
    | true=>rw[hl]at hk; exact ⟨_,hk,fun k=>by simp only[Ef,hl]; rfl⟩
    | false=>rw[hl]at hk; exact ⟨_,hk,fun k=>by simp only[Ef,hl]; rfl⟩
  · rename_i n
    cases hl:decide (n=0)with
    | true=>rw[hl]at hk; exact ⟨_,hk,fun k=>by simp only[Ef,hl]; rfl⟩
    | false=>rw[hl]at hk; exact ⟨_,hk,fun k=>by simp only[Ef,hl]; rfl⟩

theorem slK_nat {op:BinOp} {x y:V} {k0:V→Option R} {r:R} (hk:slK op x y k0=some r) :
    ∃v,k0 v=some r∧∀k:V→Option R,slK op x y k=k v:=by
  unfold slK at hk
  split at hk
  · split at hk
    · obtain ⟨v,h1,h2⟩:=Oa hk
      exact ⟨v,h1,fun k=>by simp[slK,h2]⟩
    · obtain ⟨v,h1,h2⟩:=Oa hk
      exact ⟨v,h1,fun k=>by simp[slK,h2]⟩
    · cases hk
  · cases hk

theorem C3 {v:Option V} {d:Int} {k0:Int→Option R} {r:R} (hk:EV v d k0=some r) :
    ∃n,k0 n=some r∧∀k:Int→Option R,EV v d k=k n:=by
  unfold EV at hk
  split at hk
  · exact ⟨_,hk,fun k=>rfl⟩
  · exact ⟨_,hk,fun k=>rfl⟩
  · cases hk

theorem opP_nat {o:Op} {ρ:Operand→V} {k0:V→Option R} {r:R} (hk:Z8 tt o ρ k0=some r) :
    ∃v,k0 v=some r∧∀k:V→Option R,Z8 tt o ρ k=k v:=by
  cases o <;> simp only[Z8]at hk ⊢ <;> try (first|cases hk)
  case move x=>exact ⟨_,hk,fun k=>rfl⟩
  case assign x=>exact ⟨_,hk,fun k=>rfl⟩
  case pick c a b =>
    split at hk
    · rename_i t ht
      split at hk
      · rename_i u v hu hv
        exact ⟨_,hk,fun k=>by simp[ht,hu,hv]⟩
      · rename_i u v hn
        refine ⟨bif t then ρ a else ρ b,by cases t <;> exact hk,fun k => ?_⟩
        cases t <;> rfl
    · cases hk
  case nilCheck x =>
    split at hk <;> first|(exact ⟨_,hk,fun k=>by simp[*]⟩)|cases hk
  case binOp op t x y _ =>
    split at hk
    · split at hk
      · obtain ⟨v,h1,h2⟩:=HT hk
        exact ⟨v,h1,fun k=>by simp[*]⟩
      · cases hk
    · split at hk
      · obtain ⟨v,h1,h2⟩:=HT hk
        exact ⟨v,h1,fun k=>by simp[*]⟩
      · cases hk
    · obtain ⟨v,h1,h2⟩:=HT hk
      exact ⟨v,h1,fun k=>by simp[*]⟩
    · obtain ⟨v,h1,h2⟩:=HT hk
      exact ⟨v,h1,fun k=>by simp[*]⟩
    · rename_i n1 n2 n3 n4
      split at hk
      · rename_i hd
        obtain ⟨v,h1,h2⟩:=Xn hk
        exact ⟨v,h1,fun k=>by simp[*]⟩
      · rename_i hd
        obtain ⟨v,h1,h2⟩:=slK_nat hk
        exact ⟨v,h1,fun k=>by simp[*]⟩
      · rename_i hd
        obtain ⟨v,h1,h2⟩:=ifK_nat hk
        exact ⟨v,h1,fun k=>by simp[*]⟩
      · cases hk
  case unOp op _ x =>
    split at hk <;> first|(exact ⟨_,hk,fun k=>by simp[*]⟩)|cases hk
  case makeInterface t x =>
    split at hk <;> first|(exact ⟨_,hk,fun k=>by simp[*]⟩)|cases hk
  case convert s d x =>
    split at hk
    · cases hk
    · split at hk
      · exact ⟨_,hk,fun k=>by simp[*]⟩
      · split at hk
        · exact ⟨_,hk,fun k=>by simp[*]⟩
        · cases hk
      · cases hk
  case fieldAddr s x f =>
    split at hk <;> try (first|cases hk)
    split at hk <;> try (first|cases hk)
    split at hk <;> try (first|cases hk)
    split at hk <;> first|(exact ⟨_,hk,fun k=>by simp_all⟩)|cases hk
  case field s x f =>
    split at hk <;> try (first|cases hk)
    split at hk <;> try (first|cases hk)
    obtain ⟨v,h1,h2⟩:=Bm hk
    exact ⟨v,h1,fun k=>by simp[*]⟩
  case indexAddr t x i =>
    unfold idxOf at hk ⊢
    split at hk <;> try (first|cases hk)
    split at hk <;> try (first|cases hk)
    · split at hk <;> try (first|cases hk)
      obtain ⟨hb,hk⟩:=cx hk
      exact ⟨_,hk,fun k=>by simp_all [cX]⟩
    · split at hk <;> try (first|cases hk)
      obtain ⟨hb,hk⟩:=cx hk
      exact ⟨_,hk,fun k=>by simp_all [cX]⟩
    · split at hk <;> try (first|cases hk)
      obtain ⟨hb,hk⟩:=cx hk
      exact ⟨_,hk,fun k=>by simp_all [cX]⟩
  case index t x i =>
    unfold idxOf at hk ⊢
    split at hk <;> try (first|cases hk)
    split at hk <;> try (first|cases hk)
    · obtain ⟨hb,hk⟩:=cx hk
      exact ⟨_,hk,fun k=>by simp_all [cX]⟩
    · obtain ⟨hb,hk⟩:=cx hk
      obtain ⟨v,h1,h2⟩:=Bm hk
      exact ⟨v,h1,fun k=>by simp_all [cX]⟩
  case slice t x lo hi mx =>
    split at hk <;> try (first|cases hk)
    split at hk <;> try (first|cases hk)
    · rename_i hd hx
      obtain ⟨n,hk,e1⟩:=C3 hk
      obtain ⟨m,hk,e2⟩:=C3 hk
      obtain ⟨hb,hk⟩:=cx hk
      obtain ⟨Nc,hk⟩:=cx hk
      exact ⟨_,hk,fun k=>by simp only[hd,hx,e1,e2,hb,Nc,cX,cond_true]⟩
    · rename_i hd hx
      split at hk <;> try (first|cases hk)
      rename_i hc
      obtain ⟨n,hk,e1⟩:=C3 hk
      split at hk
      · obtain ⟨hb,hk⟩:=cx hk
        exact ⟨_,hk,fun k=>by simp only[hd,hx,hc,e1,hb,cX,cond_true,if_true]⟩
      · obtain ⟨m,hk,e2⟩:=C3 hk
        obtain ⟨hb,hk⟩:=cx hk
        obtain ⟨Nc,hk⟩:=cx hk
        exact ⟨_,hk,fun k=>by simp only[hd,hx,hc,e1,e2,hb,Nc,cX,cond_true,if_true]⟩
    · rename_i hd hx
      split at hk <;> try (first|cases hk)
      rename_i hc
      obtain ⟨n,hk,e1⟩:=C3 hk
      obtain ⟨m,hk,e2⟩:=C3 hk
      obtain ⟨hb,hk⟩:=cx hk
      exact ⟨_,hk,fun k=>by rw[if_neg hc]; simp only[e1,e2,hb,cX,cond_true]⟩
  case makeFunc f first cap =>
    cases f <;> simp only at hk ⊢ <;> first|(exact ⟨_,hk,fun k=>rfl⟩)|cases hk
  case extract t i =>
    split at hk <;> try (first|cases hk)
    split at hk <;> try (first|cases hk)
    exact ⟨_,hk,fun k=>by simp[*]⟩
  case build t parts =>
    split at hk <;> try (first|cases hk)
    all_goals
      rename_i hd
      split at hk <;> try (first|cases hk)
      rename_i hc
      split at hk <;> try (first|cases hk)
      rename_i hf
      exact ⟨_,hk,fun k=>by rw[if_neg hc]⟩
  case call c =>
    split at hk <;> try (first|cases hk)
    · split at hk <;> try (first|cases hk)
      split at hk <;> try (first|cases hk)
      all_goals exact ⟨_,hk,fun k=>by simp[*]⟩
    · split at hk <;> try (first|cases hk)
      split at hk <;> try (first|cases hk)
      exact ⟨_,hk,fun k=>by simp[*]⟩
    · split at hk <;> try (first|cases hk)
      split at hk <;> try (first|cases hk)
      exact ⟨_,hk,fun k=>by simp[*]⟩

def bY.rd:bY→bY
  | .tok | .dead => .free
  | ob=>ob
theorem QV {a b:bY} (h:a.rd=b.rd):a=b∨((a = .tok∨a = .dead∨a = .free)∧(b = .tok∨b = .dead∨b = .free)):=by
  cases a <;> cases b <;> simp[bY.rd]at h ⊢ <;> exact h
theorem Xo {a b:bY} (h:a.rd=b.rd) {cs:List V} (hb:b = .cells cs):a = .cells cs:=by
  rcases QV h with h|⟨_,h⟩
  · rw[h,hb]
  · rw[hb]at h; simp at h
theorem rd_bld {a b:bY} (h:a.rd=b.rd) {v:V} (hb:b = .kI v):a = .kI v:=by
  rcases QV h with h|⟨_,h⟩
  · rw[h,hb]
  · rw[hb]at h; simp at h
theorem Xp {a b:bY} (h:a.rd=b.rd) {T:Ty} {l:List T.den} (hb:b = .row T l):a = .row T l:=by
  rcases QV h with h|⟨_,h⟩
  · rw[h,hb]
  · rw[hb]at h; simp at h

theorem rd_amap {a b:bY} (h:a.rd=b.rd) {K T:Ty} {l:List (K.den × T.den)} (hb:b = .vg K T l):a = .vg K T l:=by
  rcases QV h with h|⟨_,h⟩
  · rw[h,hb]
  · rw[hb]at h; simp at h

theorem opR_nat {o:Op} {ρ:Operand→V} {lim:Option Nat} {k0:V→Option R} {r:R} (hk:UL tt o ρ h lim k0=some r) :
    ∃v,k0 v=some r∧∀(h2:az),(∀i,Eg lim i=true→(h2.at i).rd=(h.at i).rd)→∀k:V→Option R,UL tt o ρ h2 lim k=k v:=by
  cases o <;> simp only[UL]at hk ⊢ <;> try (first|cases hk)
  case load t x =>
    split at hk <;> try (first|cases hk)
    · split at hk <;> try (first|cases hk)
      rename_i hl
      split at hk <;> try (first|cases hk)
      all_goals rename_i hc
      · obtain ⟨v,h1,h2⟩:=Bm hk
        exact ⟨v,h1,fun hh e k=>by have e':=Xo (e _ hl) hc; clear e; simp only[*,if_true]⟩
      · obtain ⟨v,h1,h2⟩:=Bm hk
        exact ⟨v,h1,fun hh e k=>by have e':=rd_bld (e _ hl) hc; clear e; simp only[*,if_true]⟩
    · obtain ⟨v,h1,h2⟩:=Bm hk
      exact ⟨v,h1,fun hh e k=>by simp only[*]⟩
    · split at hk <;> try (first|cases hk)
      rename_i hl
      split at hk <;> try (first|cases hk)
      rename_i T l hc
      split at hk <;> try (first|cases hk)
      rename_i hs
      obtain ⟨hb,hk⟩:=cx hk
      obtain ⟨v,h1,h2⟩:=Bm hk
      exact ⟨v,h1,fun hh e k=>by have e':=Xp (e _ hl) hc; clear e; simp only[*,if_true,cX,cond_true]⟩
  case lookup t x ix ok =>
    split at hk <;> try (first|cases hk)
    rename_i kt vt i h1 h2
    split at hk <;> try (first|cases hk)
    rename_i hl
    split at hk <;> try (first|cases hk)
    rename_i K T l hc
    split at hk <;> try (first|cases hk)
    rename_i hf
    split at hk <;> try (first|cases hk)
    rename_i kx hx
    refine ⟨bif ok then .tuple [Nb T (nA K T kx l), .bool (Du K T kx l)]else Nb T (nA K T kx l),by cases ok <;> exact hk,fun hh e k => ?_⟩
    have e':=rd_amap (e _ hl) hc
    clear e
    simp only[h1,h2,hl,e',hf,hx,if_true]
    cases ok <;> rfl
  case convert s d x =>
    split at hk <;> try (first|cases hk)
    · rename_i e i n h1 h2 h3
      split at hk <;> try (first|cases hk)
      rename_i hl
      split at hk <;> try (first|cases hk)
      rename_i h4 h5
      exact ⟨_,hk,fun hh e k=>by have e':=Xp (e _ hl) h5; clear e; simp only[*,if_true]⟩
    · rename_i h1 h2 h3
      split at hk <;> try (first|cases hk)
      · rename_i h4
        exact ⟨_,hk,fun hh e k=>by simp only[*]⟩
      · rename_i h4
        obtain ⟨hb,hk⟩:=cx hk
        exact ⟨_,hk,fun hh e k=>by simp only[*,cX,cond_true]⟩
    · rename_i h1 h2 h3
      split at hk <;> try (first|cases hk)
      rename_i h4
      exact ⟨_,hk,fun hh e k=>by simp only[*]⟩

theorem opA_nat {o:Op} {ρ:Operand→V} {k0:bY→(Nat→V)→Option R} {r:R} (hk:WJ tt o ρ k0=some r) :
    ∃ob mk,k0 ob mk=some r∧∀k:bY→(Nat→V)→Option R,WJ tt o ρ k=k ob mk:=by
  cases o <;> simp only[WJ]at hk ⊢ <;> try (first|cases hk)
  case alloc t =>
    split at hk
    · exact ⟨_,_,hk,fun k=>by simp[*]⟩
    · split at hk <;> try (first|cases hk)
      exact ⟨_,_,hk,fun k=>by simp[*]⟩
  case box t x =>
    split at hk <;> try (first|cases hk)
    split at hk <;> try (first|cases hk)
    exact ⟨_,_,hk,fun k=>by simp only[*,if_true]⟩
  case buildSlice t len parts =>
    split at hk <;> try (first|cases hk)
    split at hk <;> try (first|cases hk)
    rename_i hc
    split at hk <;> try (first|cases hk)
    · rename_i h1 h2
      split at hk <;> try (first|cases hk)
      rename_i h3
      split at hk
      · exact ⟨_,_,hk,fun k=>by simp only[*,if_true,if_false]; rfl⟩
      split at hk
      · exact ⟨_,_,hk,fun k=>by simp only[*,if_true,if_false]; rfl⟩
      · exact ⟨_,_,hk,fun k=>by simp only[*,if_true,if_false]; rfl⟩
    · exact ⟨_,_,hk,fun k=>by simp only[*,if_true,if_false]; rfl⟩
  case makeSlice t n c =>
    split at hk <;> try (first|cases hk)
    split at hk <;> try (first|cases hk)
    split at hk <;> try (first|cases hk)
    split at hk <;> try (first|cases hk)
    rename_i h3
    obtain ⟨hb,hk⟩:=cx hk
    exact ⟨_,_,hk,fun k=>by simp only[*,if_true,cX,cond_true]⟩
  case convert s d x =>
    split at hk <;> try (first|cases hk)
    split at hk <;> try (first|cases hk)
    exact ⟨_,_,hk,fun k=>by simp[*]⟩
  case range t x =>
    split at hk <;> try (first|cases hk)
    exact ⟨_,_,hk,fun k=>by simp[*]⟩
  case makeMap t rsv =>
    split at hk <;> try (first|cases hk)
    rename_i h1
    split at hk <;> try (first|cases hk)
    rename_i kt vt h2
    split at hk <;> try (first|cases hk)
    rename_i K V' h3 h4
    split at hk <;> try (first|cases hk)
    rename_i h5
    exact ⟨_,_,hk,fun k=>by simp only[h1,h2,h3,h4,h5,if_true]⟩

theorem mapF {β:Type} {ρ ρ':Operand→V} (f:Nat→V→β) (ps:List (Nat × Operand)) (h:∀x∈ps.map (·.2),ρ x=ρ' x) :
    (ps.map fun (i,x)=>f i (ρ x))=(ps.map fun (i,x)=>f i (ρ' x)) :=
  List.map_congr_left fun p hm=>by
    obtain ⟨i,x⟩:=p
    simp only[h x (List.mem_map.2 ⟨(i,x),hm,rfl⟩)]

theorem Ob {o:Op} {ρ ρ':Operand→V} (h:∀x∈o.operands,ρ x=ρ' x) {k:V→Option R}:Z8 tt o ρ k=Z8 tt o ρ' k:=by
  cases o <;> simp only[Op.operands]at h <;> simp only[Z8]
  case build t ps =>
    have hp:∀x∈ps.toList.map (·.2),ρ x=ρ' x:=fun x hx=>h x (by simpa using hx)
    split
    · rename_i fs hd
      rw[mapF (fun i v=>((fs.getD i (0,0)).1,if i<fs.length then (tt.at (fs.getD i (0,0)).2).size else 1000000,v)) ps.toList hp]
    · rename_i e hd
      rw[mapF (fun i v=>(i*(tt.at e).size,(tt.at e).size,v)) ps.toList hp]
    · rfl
  case makeFunc f first cap =>
    cases f <;> simp only
    rw[List.map_congr_left (l:=first.toList) (g:=ρ') fun x hx=>h x (by simp at hx ⊢; exact .inl hx),List.map_congr_left (l:=cap.toList) (g:=ρ') fun x hx=>h x (by simp at hx ⊢; exact .inr hx)]
  case slice t x lo hi mx=>cases lo <;> cases hi <;> cases mx <;> simp_all
  case call c =>
    obtain ⟨callee,args,argTypes⟩:=c
    have ha:∀x∈args.toList,ρ x=ρ' x:=fun x hx=>h x (by simp[Call.operands]at hx ⊢; exact .inr hx)
    simp only
    split
    · rename_i x e; rw[ha x (by rw[e]; simp)]
    · rename_i x y e; rw[ha x (by rw[e]; simp),ha y (by rw[e]; simp)]
    · rename_i x y e; rw[ha x (by rw[e]; simp),ha y (by rw[e]; simp)]
    · rfl
  all_goals (first|rfl|(simp_all; done))

theorem Oc {o:Op} {ρ ρ':Operand→V} (h':∀x∈o.operands,ρ x=ρ' x) {lim:Option Nat} {k:V→Option R}:UL tt o ρ h lim k=UL tt o ρ' h lim k:=by
  cases o <;> simp only[Op.operands]at h' <;> simp only[UL]
  all_goals (first|rfl|(simp_all; done))

theorem Od {o:Op} {ρ ρ':Operand→V} (h':∀x∈o.operands,ρ x=ρ' x) {k:bY→(Nat→V)→Option R}:WJ tt o ρ k=WJ tt o ρ' k:=by
  cases o <;> simp only[Op.operands]at h' <;> simp only[WJ]
  case makeMap t rsv =>
    have e:CT ρ rsv=CT ρ' rsv:=by
      cases rsv with
      | none=>rfl
      | some x=>simp only[CT]; rw[h' x (by simp)]
    rw[e]
  case buildSlice t len ps =>
    have hp:∀x∈ps.toList.map (·.2),ρ x=ρ' x:=fun x hx=>h' x (by simpa using hx)
    split
    · rename_i e hd
      rw[mapF (fun i v=>(i*(tt.at e).size,(tt.at e).size,v)) ps.toList hp]
    · rfl
  all_goals (first|rfl|(simp_all; done))

theorem Oe {o:Op} {ρ ρ':Operand→V} (h':∀x∈o.operands,ρ x=ρ' x) {id:Nat} {k:V→az→Option R}:KR tt o ρ h id k=KR tt o ρ' h id k:=by
  cases o <;> simp only[Op.operands]at h' <;> simp only[KR]
  case call c =>
    obtain ⟨callee,args,argTypes⟩:=c
    have ha:∀x∈args.toList,ρ x=ρ' x:=fun x hx=>h' x (by simp[Call.operands]at hx ⊢; exact .inr hx)
    simp only
    split
    · rename_i x y t xt e et; rw[ha x (by rw[e]; simp),ha y (by rw[e]; simp)]
    · rfl
  all_goals (first|rfl|(simp_all; done))
end

section
variable {P:Program} {tt:dJ} {w w':World} {h h':az} {c c':kh} {R:Type}

theorem Av:∀(l:List Nat) (h:az),Ext w h c w (nW h l) c
  | [],h => .refl _ _ _
  | i::l,h=>by
    simp only[nW]
    split
    · exact (E1 i).trans (Av l _)
    · exact Av l h

theorem Cl:∀(l:List Nat) (h:az),WF w h c→WF w (nW h l) c
  | [],h,wf=>wf
  | i::l,h,wf=>by
    simp only[nW]
    split
    · exact Cl l _ (Ph wf i)
    · exact Cl l h wf

theorem zg:∀(l:List Nat) (h:az) (j:Nat),az.at (nW h l) j=h.at j∨az.at (nW h l) j = .dead
  | [],h,j => .inl rfl
  | i::l,h,j=>by
    simp only[nW]
    split
    · rcases zg l (h.set i .dead) j with e|e
      · rw[e,ni]
        split
        · exact .inr rfl
        · exact .inl rfl
      · exact .inr e
    · exact zg l h j

theorem E2:∀(l:List Nat) (h:az) (j:Nat) {T:Ty} {m:List T.den},j∈l→h.at j = .row T m→az.at (nW h l) j = .dead
  | [],_,_,_,_,hj,_=>by cases hj
  | i::l,h,j,T,m,hj,he=>by
    simp only[nW]
    by_cases xC:i=j
    · subst xC
      split
      · rcases zg l (h.set i .dead) i with e|e
        · rw[e]; exact mT _ (az.gD he (by simp))
        · exact e
      · rename_i hn; exact (hn T m he).elim
    · have N2:j∈l:=by
        rcases List.mem_cons.1 hj with rfl|h
        · exact (xC rfl).elim
        · exact h
      split
      · exact E2 l _ j N2 (by rw[cZ _ xC]; exact he)
      · exact E2 l h j N2 he

theorem HU (h:az):∀l:List V,V.JU h l=l.map (V.shut h)
  | []=>rfl
  | v::l=>by simp only[V.JU,List.map_cons,HU h l]

theorem tO.dead {ids:List Nat} {b x:Nat} (ho:tO (nW h ids) c b x):tO h c b x:=by
  obtain ⟨i,f,g1,g2,g3⟩:=ho
  rcases zg ids h i with e|e
  · exact ⟨i,f,g1,e▸g2,g3⟩
  · rw[e]at g2; cases g2

theorem Xq (wf:WF w h c) {ids:List Nat} {v:V} {d:Value} (r:dC w h c v d):(∀i∈v.ids,i∈ids)→dC w (nW h ids) c (v.shut h) d:=by
  have x:=Av (w:=w) (c:=c) ids h
  induction r with
  | sl f lO sw hc hr xR mR=>exact fun _=>(dC.sl (t := .no) f lO sw hc hr (by simp) (by simp)).mono x
  | @row i n v hi hn hv =>
    intro LP
    simp only[V.shut]
    split
    · rename_i T l he
      obtain ⟨A,cap,rfl,hA,hv⟩:=hv
      obtain ⟨Nt,hle,sw,hor⟩:=hv T l he
      obtain ⟨ds,rds,xO⟩:=Pj wf he
      subst Nt
      refine Ch (rds.mono x) hle sw (fun hl => ?_) (by simp) (by simp)
      obtain ⟨b,hb,BU⟩:=xO hl
      rcases hor with ⟨h1,_⟩|⟨b',arr,e,fz,h1,h2,h3,h4⟩
      · rw[hb]at h1; cases h1
      · rw[hb]at h1; cases h1
        refine ⟨b,c.off i,h2,BU,fun y hy1 hy2 => ?_⟩
        have mR:tO h c b y:=⟨i,0,hb,by rw[he]; rfl,Nat.zero_le _⟩
        refine ⟨fun ho => ?_,wf.xS b y mR⟩
        obtain ⟨j,f,g1,g2,g3⟩:=ho
        have hdead:=E2 ids h i (LP i (by simp[V.ids])) he
        rcases zg ids h j with e'|e'
        · have hlj:(h.at j).live:=by rw[e']at g2; exact td g2
          have:=wf.inj i j b (by rw[he]; trivial) hlj hb g1
          subst this
          rw[hdead]at g2
          cases g2
        · rw[e']at g2; cases g2
    · exact .undef _
  | @agg cs y hl _ ih =>
    intro LP
    simp only[V.shut,HU]
    refine .agg (by simpa using hl) fun j v d hv hd => ?_
    rw[List.getElem?_map]at hv
    cases e:cs[j]? with
    | none=>rw[e]at hv; cases hv
    | some u =>
      rw[e]at hv; simp at hv; subst hv
      exact ih j u d e hd fun i hi=>LP i (by simp only[V.ids]; exact qU.2 ⟨j,u,e,hi⟩)
  | @tuple cs y hl _ ih =>
    intro LP
    simp only[V.shut,HU]
    refine .tuple (by simpa using hl) fun j v d hv hd => ?_
    rw[List.getElem?_map]at hv
    cases e:cs[j]? with
    | none=>rw[e]at hv; cases hv
    | some u =>
      rw[e]at hv; simp at hv; subst hv
      exact ih j u d e hd fun i hi=>LP i (by simp only[V.ids]; exact qU.2 ⟨j,u,e,hi⟩)
  | undef v=>exact fun _ => .undef _
  | int hn=>exact fun _ => .int hn
  | bool b=>exact fun _ => .bool b
  | str hl=>exact fun _ => .str hl
  | eN=>exact fun _ => .eN
  | cF=>exact fun _ => .cF
  | aV=>exact fun _ => .aV
  | ow=>exact fun _ => .ow
  | cR=>exact fun _ => .cR
  | iface t v=>exact fun _ => .iface t v
  | ET hn=>exact fun _ => .ET hn
  | CR hi hn hv=>exact fun _=>(dC.CR hi hn hv).mono x
  | FZ b=>exact fun _ => .FZ b
  | ptr hi hv=>exact fun _=>(dC.ptr hi hv).mono x
  | map hi hv=>exact fun _=>(dC.map hi hv).mono x
  | s8 hi hv=>exact fun _=>(dC.s8 hi hv).mono x
  | xA f hc hr _=>exact fun _=>(dC.xA f hc hr).mono x
  | Na hn sw f hc hr _=>exact fun _=>(dC.Na hn sw f hc hr).mono x
  | func ha hb hra hrb _ _=>exact fun _=>(dC.func ha hb hra hrb).mono x

theorem Of (wf:WF w h c) {vs:List V} {ds:List Value} (r:cH w h c vs ds):cH w (nW h (V.sv vs)) c (V.JU h vs) ds:=by
  rw[HU]
  refine ⟨by simpa using r.1,fun j v d hv hd => ?_⟩
  rw[List.getElem?_map]at hv
  cases e:vs[j]? with
  | none=>rw[e]at hv; cases hv
  | some u =>
    rw[e]at hv; simp at hv; subst hv
    exact Xq wf (r.2 j u d e hd) fun i hi=>qU.2 ⟨j,u,e,hi⟩

theorem Og {t:Nat} {v:V} {d:Value} (r:dC w h c v d):dC w h c (canon tt t v) d:=by
  unfold canon
  split
  · rename_i T hT
    split
    · rename_i cs
      split
      · rename_i x hx
        split
        · cases r with
          | @agg _ y hl hr =>
            have rl:cH w h c cs y.toList:=⟨by simpa using hl,fun j v d hv hd=>hr j v d hv (by simpa using hd)⟩
            have:=FN hx rl
            exact .agg (by simpa using this.1) fun j v d hv hd=>this.2 j v d hv (by simpa using hd)
        · exact r
      · exact r
    · split
      · rename_i x hx
        split
        · exact r
        · have:=FN hx (cH.cons r cH.nil)
          split
          · rename_i e he
            rw[he]at this
            exact this.head
          · exact r
      · exact r
  · split
    · split
      · split
        · rename_i l hl; exact LC r hl
        · exact r
      · exact r
    · exact r

theorem LQ:∀(ts:List Nat) {vs:List V} {ds:List Value},cH w h c vs ds→cH w h c (GO tt ts vs) ds
  | [],vs,ds,r=>by simpa [GO]using r
  | t::ts, [],ds,r=>by simpa [GO]using r
  | t::ts,v::vs, [],r=>by have:=r.1; simp at this
  | t::ts,v::vs,d::ds,r => .cons (Og r.head) (LQ ts r.tail)

theorem Jf {v:V} {d:Value} (hs:v.NZ=true) (r:dC w h c v d):dC w' h' c' v d:=by
  cases r <;> simp only[V.NZ]at hs <;> try (first|cases hs)
  case int hn=>exact .int hn
  case bool b=>exact .bool b
  case str hl=>exact .str hl
  case eN=>exact .eN
  case cF=>exact .cF
  case aV=>exact .aV
  case ow=>exact .ow
  case cR=>exact .cR
  case iface t v=>exact .iface t v
  case ET hn=>exact .ET hn

theorem Xr {v:V} {d:Value} (hs:v.UM=true) (r:dC w h c v d):dC w' h' c' v d:=by
  cases r
  case agg hl hr =>
    simp only[V.UM,List.all_eq_true]at hs
    exact .agg hl fun j v d hv hd=>Jf (hs v (List.mem_of_getElem? hv)) (hr j v d hv hd)
  case tuple hl hr =>
    simp only[V.UM,List.all_eq_true]at hs
    exact .tuple hl fun j v d hv hd=>Jf (hs v (List.mem_of_getElem? hv)) (hr j v d hv hd)
  all_goals first
    | exact Jf (w:=w) (h:=h) (c:=c) hs (by constructor <;> assumption)
    | (simp only[V.UM,V.NZ]at hs; cases hs)

theorem Vv {c1 c2:kh} (wf:WF w h c) (x:Ext w [] c1 w' h' c2):Ext w h c w' h c∧WF w' h c:=by
  have nown:∀b y, ¬tO ([]:az) c1 b y:=fun b y ho=>by
    obtain ⟨i,f,_,g2,_⟩:=ho
    simp[az.at,bY.from_]at g2
  have hx:Ext w h c w' h c := {
    os:=x.os
    tape:=x.tape
    output:=x.output
    size:=x.size
    used:=fun _ hi=>hi
    same:=fun i hi hd=>⟨by have h2:=hi.2; revert hd h2; cases h.at i <;> simp[bY.iF],rfl,rfl⟩
    cell:=fun b y hb _=>x.cell b y hb (nown b y)
    block:=fun b hb _=>x.block b hb (nown b)
    wa:=fun _ _ _ ho=>ho
    ext:=rfl
    arr:=x.arr }
  refine ⟨hx,?_,fun b y hb=>Nat.lt_of_lt_of_le (wf.pz b y hb) x.size,fun i hi => ?_,wf.inj,wf.rW hx⟩
  · exact wf.xS
  · by_cases hl:(h.at i).live
    · exact (wf.obj i hi).keep hx (fun b hb=>x.block b ((wf.obj i hi).lt hl hb) (nown b)) rfl rfl
    · have h0:h.at i = .free∨h.at i = .dead:=by revert hl; cases h.at i <;> simp[bY.live]
      rcases h0 with h0|h0 <;> rw[h0] <;> trivial
end

section
variable {P:Program} {tt:dJ} {w w':World} {h h':az} {c c':kh} {R:Type}

def wG (P:Program) (g:Nat) (args:Array Value) (w:World) (Q:Value→World→Prop):Prop :=
  ∃nx w1,(callFunc g args).run P w = .ok nx w1 ∧
    match nx with
    | .value d=>Q d w1
    | .enter f xs=>Calls P f xs w1 fun e w'=>∃d,e = .returned d∧Q d w'
    | .row row xs=>Rows P row xs w1 Q
    | _=>False

theorem wG.mono {g:Nat} {args:Array Value} {Q Q':Value→World→Prop} (h:wG P g args w Q) (hq:∀d w',Q d w'→Q' d w'):wG P g args w Q':=by
  obtain ⟨nx,w1,h1,h2⟩:=h
  refine ⟨nx,w1,h1,?_⟩
  cases nx <;> simp only at h2 ⊢
  · exact hq _ _ h2
  · exact Calls.mono h2 fun e w' ⟨d,e1,q⟩=>⟨d,e1,hq _ _ q⟩
  · exact Rows.mono h2 fun d w' q=>hq _ _ q

def Spec.Ok (P:Program) (g:Nat) (sp:Spec R):Prop :=
  ∀vs h k r,sp vs h k=some r→∀(w:World) (c:kh) (args:Array Value),WF w h c→cH w h c vs args.toList →
    wG P g args w fun d w'=>∃v h' c',WF w' h' c'∧Ext w h c w' h' c'∧dC w' h' c' v d∧k v h'=some r

def Spec.Xs (P:Program) (g m:Nat) (sp:Spec R):Prop :=
  ∀vs h k r,h.length=m→sp vs h k=some r→∀(w:World) (c:kh) (args:Array Value),WF w h c→cH w h c vs args.toList →
    wG P g args w fun d w'=>∃v h' c',WF w' h' c'∧Ext w h c w' h' c'∧dC w' h' c' v d∧k v h'=some r

def HV (sp:Spec R):Prop:=∀vs h k k',(∀v,k v h=k' v h)→sp vs h k=sp vs h k'

def pK (P:Program) (E:Env R):Prop:=∀g b sp,E g=some (b,sp)→Spec.Ok P g sp∧(b=false→oJ.soft g=true→HV sp)

theorem HV.same {sp:Spec R} (hs:HV sp) {vs:List V} {k:V→az→Option R} {r:R} (hk:sp vs h k=some r):∃k',sp vs h k'=some r∧∀v h',k' v h'=some r→h'=h∧k v h=some r:=by
  classical
  refine ⟨fun v h'=>if h'=h then k v h else none,?_,fun v h' e => ?_⟩
  · rw[←hk]
    exact hs _ _ _ _ fun v=>by simp
  · simp only at e
    split at e
    · exact ⟨‹_›,e⟩
    · cases e

theorem Spec.Xs.of_body {g m:Nat} {sp:Spec R} {fn:Func} (hf:P.funcs[g]? = some fn) (hn:(fn.name == "runtime.NumGoroutine")=false) (hb:fn.body.isNone=false)
    (hs:∀vs h k r,h.length=m→sp vs h k=some r→∀(w:World) (c:kh) (args:Array Value),WF w h c→cH w h c vs args.toList →
      Calls P g args w fun e w'=>∃d,e = .returned d∧∃v h' c',WF w' h' c'∧Ext w h c w' h' c'∧dC w' h' c' v d∧k v h'=some r):Spec.Xs P g m sp:=by
  intro vs h k r hml hk w c args wf ra
  refine ⟨.enter g args,w,?_,hs vs h k r hml hk w c args wf ra⟩
  have P7:fn.name ≠ "runtime.NumGoroutine" :=by simpa using hn
  have pA:fn.body≠none:=fun e=>by rw[e]at hb; cases hb
  simp[callFunc,hf,P7,pA]

theorem QW:∀ {v:V},v.ids = []→∀ρ,v.pJ ρ=v:=by
  have key:(∀v:V,v.ids = []→∀ρ,v.pJ ρ=v)∧∀l:List V,V.sv l = []→∀ρ,V.xP ρ l=l:=by
    refine ⟨fun v => ?_,fun l => ?_⟩
    · refine V.rec (motive_1:=fun v=>v.ids = []→∀ρ,v.pJ ρ=v) (motive_2:=fun l=>V.sv l = []→∀ρ,V.xP ρ l=l) ?_ ?_ ?_ ?_ ?_ ?_ ?_ ?_ ?_ ?_ ?_ ?_ ?_ ?_ ?_ ?_ ?_ ?_ ?_ ?_ ?_ ?_ ?_ ?_ ?_ v <;> first
        | (intros; rfl)
        | (intros; simp_all [V.ids,V.sv,V.pJ,V.xP]; done)
        | skip
      · intro T l t ht ρ
        cases t <;> simp_all [V.ids,V.pJ,Tok.pJ]
    · refine V.rec_1 (motive_1:=fun v=>v.ids = []→∀ρ,v.pJ ρ=v) (motive_2:=fun l=>V.sv l = []→∀ρ,V.xP ρ l=l) ?_ ?_ ?_ ?_ ?_ ?_ ?_ ?_ ?_ ?_ ?_ ?_ ?_ ?_ ?_ ?_ ?_ ?_ ?_ ?_ ?_ ?_ ?_ ?_ ?_ l <;> first
        | (intros; rfl)
        | (intros; simp_all [V.ids,V.sv,V.pJ,V.xP]; done)
        | skip
      · intro T l t ht ρ
        cases t <;> simp_all [V.ids,V.pJ,Tok.pJ]
  exact fun {v} hv ρ=>key.1 v hv ρ

theorem LR (h:az):h.back [] []=h:=by simp[az.back,az.zG]

def tH (al:Bool) (id:Nat) (h h':az):Prop:=h.length≤h'.length∧∀j,(al=true→j≠id)→j<h.length→h.at j = .free→h'.at j = .free

theorem SF {ord:List Nat} (Et:ord.Nodup) (hu:∀i∈ord,Used h i) (hle:ord.length≤h'.length):tH false 0 h (h.back ord h'):=by
  refine ⟨by simp[az.back,fQ],fun j _ hj hf => ?_⟩
  have hn:j∉ord:=fun hm=>(hu j hm).2 hf
  rcases Ck (c:=⟨fun _=>none,fun _=>0,⟨fun _ _=>False⟩⟩) (c':=⟨fun _=>none,fun _=>0,⟨fun _ _=>False⟩⟩) Et (fun i hi=>(hu i hi).1) hle j with ⟨i,h1,h2,_⟩|⟨_,_,h3,_⟩|⟨h1,_⟩
  · unfold o7 at h1
    split at h1
    · rename_i hi
      simp only[List.getD,List.getElem?_eq_getElem hi,Option.getD_some]at h1
      exact (hn (h1▸List.getElem_mem hi)).elim
    · omega
  · rw[h3]; exact hf
  · simp[az.back,fQ]at h1; omega

theorem SG {st:List V} {a:Act} (r:cH w h c st a.tmps.toList) (x:Operand):dC w h c (ev st x) (a.eval x):=by
  cases x with
  | tmp t =>
    have:=r.getD t undef
    simpa [ev,Act.eval,List.getD,Array.getD_eq_getD_getElem?]using this
  | const v=>exact JW v
  | global g=>exact .undef _
  | func f=>exact .func rfl rfl (by simp) (by simp)

theorem Pp {v:V} {d:Value} (r:dC w h c v d):dC w h c (Lk v) d:=by
  cases r with
  | sl f lO sw hc hr xR mR=>exact .sl f lO sw hc hr (by simp) (by simp)
  | _=>simp only[Lk]; constructor <;> assumption

theorem JZ {v:V} {d:Value} (r:dC w h c v d):dC w h c (Dv v) d:=by
  cases r with
  | sl f lO sw hc hr xR mR=>exact .sl f lO sw hc hr (by simp) (by simp)
  | @agg cs x hl hr =>
    refine .agg (by simpa using hl) fun j v d hv hd => ?_
    rw[List.getElem?_map]at hv
    cases e:cs[j]? with
    | none=>rw[e]at hv; cases hv
    | some u=>rw[e]at hv; simp at hv; subst hv; exact Pp (hr j u d e hd)
  | _=>simp only[Dv]; constructor <;> assumption

theorem Pq {vs:List V} {ds:List Value} (r:cH w h c vs ds):cH w h c (vs.map Dv) ds:=by
  refine ⟨by simpa using r.1,fun j v d hv hd => ?_⟩
  rw[List.getElem?_map]at hv
  cases e:vs[j]? with
  | none=>rw[e]at hv; cases hv
  | some u=>rw[e]at hv; simp at hv; subst hv; exact JZ (r.2 j u d e hd)

theorem Oh {vs:List V} (h:V.sv vs = []) (ρ:Nat→Option Nat):V.xP ρ vs=vs:=by
  have:∀v∈vs,v.pJ ρ=v:=fun v hv=>by
    refine QW ?_ _
    cases hi:v.ids with
    | nil=>rfl
    | cons i l =>
      obtain ⟨j,hj⟩:=List.mem_iff_getElem?.1 hv
      have:i∈V.sv vs:=qU.2 ⟨j,v,hj,by rw[hi]; simp⟩
      rw[h]at this; cases this
  rw[KU]
  conv=>rhs; rw[←List.map_id vs]
  exact List.map_congr_left this

theorem QX {E:Env R} (hE:pK P E) (wf:WF w h c) {o:Oper} {cl:Call} (ho:o.op = .call cl) {ρ:Operand→V} {ρ':Operand→Value} (hρ:∀x,dC w h c (ρ x) (ρ' x)) {full:Bool}
    {k:V→az→Option R} {r:R} (hk:xN tt E full cl ρ h k=some r) :
    ∃g args,(execOp ρ' o).run P w=(callFunc g args).run P w∧wG P g args w fun d w' =>
      ∃v h' c',WF w' h' c'∧Ext w h c w' h' c'∧dC w' h' c' v d∧k v h'=some r∧tH false 0 h h'∧(full=false→h'=h):=by
  obtain ⟨dst,op,type,pos,after,guard⟩:=o
  simp only at ho
  subst ho
  unfold xN at hk
  split at hk <;> try (first|cases hk)
  rename_i f hf
  split at hk <;> try (first|cases hk)
  rename_i g first cap hg
  have rf:=hρ f
  rw[hg]at rf
  generalize hdf:ρ' f=df at rf
  cases rf with
  | @func _ _ _ x y ha hb hra hrb =>
    have Xt:cH w h c (first++cl.args.toList.map ρ++cap) (x++cl.args.map ρ'++y).toList:=by
      have e:(x++cl.args.map ρ'++y).toList=x.toList++cl.args.toList.map ρ'++y.toList:=by simp
      rw[e]
      refine cH.append (cH.append ⟨by simpa using ha,fun j v d hv hd=>hra j v d hv (by simpa using hd)⟩ (cH.map _ fun z _=>hρ z)) ⟨by simpa using hb,fun j v d hv hd=>hrb j v d hv (by simpa using hd)⟩
    have Xu:cH w h c ((first++GO tt cl.argTypes.toList (cl.args.toList.map ρ)++cap).map Dv) (x++cl.args.map ρ'++y).toList:=by
      have e:(x++cl.args.map ρ'++y).toList=x.toList++cl.args.toList.map ρ'++y.toList:=by simp
      rw[e]
      refine Pq (cH.append (cH.append ⟨by simpa using ha,fun j v d hv hd=>hra j v d hv (by simpa using hd)⟩ (LQ _ (cH.map _ fun z _=>hρ z))) ⟨by simpa using hb,fun j v d hv hd=>hrb j v d hv (by simpa using hd)⟩)
    simp only at hk
    refine ⟨g,x++cl.args.map ρ'++y,by simp[execOp,resolve,hf,hdf,Deferred.ofValue,invoke],?_⟩
    generalize (first++GO tt cl.argTypes.toList (cl.args.toList.map ρ)++cap).map Dv=ps at *
    generalize first++cl.args.toList.map ρ++cap=vs at *
    split at hk <;> try (first|cases hk)
    · -- a plain one
      rename_i sp Pr
      split at hk
      · rename_i LP
        have ra:=GZ (ord := []) Xu
        rw[Oh LP]at ra
        refine wG.mono ((hE g _ sp Pr).1 _ _ _ _ hk w _ _ (Jd (ord := []) wf List.nodup_nil) ra) fun d w' ⟨v,h',c',TZ,x,rv,qT⟩ => ?_
        obtain ⟨k1,k2,k3⟩:=N9 wf (ord := []) (by simp) (by simp) TZ x
        split at qT <;> try (first|cases qT)
        refine ⟨v,h,c.back [] h.length c',?_,?_,?_,qT,⟨Nat.le_refl _,fun j _ _ hf=>hf⟩,fun _=>rfl⟩
        · rw[LR]at k1; exact k1
        · rw[LR]at k2; exact k2
        · have:=rv.pJ k3
          rw[LR]at this
          rw[QW]at this
          · exact this
          · cases hi:v.ids with
            | nil=>rfl
            | cons i l =>
              have:=rv.zf i (by rw[hi]; simp)
              exact (Nat.not_lt_zero _ this.1).elim
      · cases full with
        | false=>cases hk
        | true =>
          simp only[cond_true]at hk
          unfold W4 at hk
          split at hk <;> try (first|cases hk)
          rename_i LP
          have ra:=GZ (ord := []) (Of wf Xu)
          rw[Oh LP]at ra
          refine wG.mono ((hE g _ sp Pr).1 _ _ _ _ hk w _ _ (Jd (ord := []) (Cl _ _ wf) List.nodup_nil) ra) fun d w' ⟨v,h',c',TZ,x,rv,qT⟩ => ?_
          split at qT <;> try (first|cases qT)
          cases hs:v.UM with
          | false=>rw[hs]at qT; cases qT
          | true =>
            rw[hs]at qT
            obtain ⟨hx,hw⟩:=Vv wf x
            exact ⟨v,h,c,hw,hx,Xr hs rv,qT,⟨Nat.le_refl _,fun j _ _ hf=>hf⟩,fun _=>rfl⟩
    · rename_i sp Pr
      cases full with
      | false=>cases hk
      | true =>
        simp only[cond_true]at hk
        cases hso:oJ.soft g with
        | true =>
          rw[hso]at hk
          simp only[cond_true]at hk
          obtain ⟨k',Vw,GU⟩:=((hE g _ sp Pr).2 rfl hso).same hk
          refine wG.mono ((hE g _ sp Pr).1 _ _ _ _ Vw w _ _ wf Xt) fun d w' ⟨v,h',c',TZ,x,rv,qT⟩ => ?_
          obtain ⟨rfl,hk3⟩:=GU _ _ qT
          exact ⟨v,_,c',TZ,x,rv,hk3,⟨Nat.le_refl _,fun j _ _ hf=>hf⟩,fun _=>rfl⟩
        | false =>
        rw[hso]at hk
        simp only[cond_false]at hk
        have hui:=Xt.zf
        generalize V.sv vs=ids at *
        have hu:∀i∈reach h 64 ids [],Used h i:=GY wf _ _ _ hui (by simp)
        have Et:(reach h 64 ids []).Nodup:=Cj h _ _ _ (by simp)
        refine wG.mono ((hE g _ sp Pr).1 _ _ _ _ hk w _ _ (Jd wf Et) (GZ Xt)) fun d w' ⟨v,h',c',TZ,x,rv,qT⟩ => ?_
        obtain ⟨k1,k2,k3⟩:=N9 wf Et hu TZ x
        have hle:(reach h 64 ids []).length≤h'.length:=by
          rcases Nat.eq_zero_or_pos (reach h 64 ids []).length with h0|h0
          · omega
          · have:=(x.used ((reach h 64 ids []).length - 1) ⟨by simp[az.pick]; omega,by
              rw[uZ,List.getElem?_eq_getElem (by omega)]
              simp only[ne_eq,CZ]
              exact (hu _ (List.getElem_mem _)).2⟩).1
            omega
        exact ⟨_,_,_,k1,k2,rv.pJ k3,qT,SF Et hu hle,fun UX=>by cases UX⟩
end

section
variable {tt:dJ} {h:az} {R:Type}

theorem Vx {T:Ty} {x:V} {id ix:Nat} {ob:bY} (hx:lowX id x=true) (kY:id<ix):JT T (h.set ix ob) x=JT T h x:=by
  cases x <;> simp only[JT]
  case row i n =>
    simp only[lowX,decide_eq_true_eq]at hx
    rw[cZ _ (by omega)]

theorem QY {e id ix:Nat} {s x:V} {ob:bY} {k:V→az→Option R} (hs:R8 id s=true) (hx:lowX id x=true) (kY:id<ix) :
    og tt e s x (h.set ix ob) id k=og tt e s x h id fun v h'=>k v (h'.set ix ob):=by
  have hc:∀(h:az) (o1:bY),(h.set ix ob).set id o1=(h.set id o1).set ix ob:=fun h o1=>List.set_comm _ _ (by omega)
  unfold og
  cases (tt.at e).ty with
  | none=>rfl
  | some T =>
    simp only[Vx hx kY]
    split
    · cases JT T h x with
      | none=>rfl
      | some m =>
        cases s with
        | cF =>
          simp only[hc]
        | sl T' l tk =>
          simp only
          split
          · cases tk with
            | no=>rfl
            | nil=>simp only[hc]
            | own i =>
              simp only[R8,decide_eq_true_eq]at hs
              simp only
              rw[cZ _ (by omega)]
              have hci:∀o1:bY,(h.set ix ob).set i o1=(h.set i o1).set ix ob:=fun o1=>List.set_comm _ _ (by omega)
              simp only[hci,hc]
          · rfl
        | row i n=>simp[R8]at hs
        | _=>rfl
    · rfl

theorem Ps {e id:Nat} {s x:V} {k k':V→az→Option R} (hs:R8 id s=true) (hk:∀v h',(∀i,i<id→(h'.at i).rd=(h.at i).rd)→k v h'=k' v h') :
    og tt e s x h id k=og tt e s x h id k':=by
  have h1:∀v o1,k v (h.set id o1)=k' v (h.set id o1):=fun v o1=>hk v _ fun i hi=>by rw[cZ _ (by omega)]
  unfold og
  cases (tt.at e).ty with
  | none=>rfl
  | some T =>
    simp only
    split
    · cases JT T h x with
      | none=>rfl
      | some m =>
        cases s with
        | cF=>simp only[h1]
        | sl T' l tk =>
          simp only
          split
          · cases tk with
            | no=>rfl
            | nil=>simp only[h1]
            | own i =>
              simp only[R8,decide_eq_true_eq]at hs
              simp only
              have h2:h.at i = .tok→∀v o1,k v ((h.set i .dead).set id o1)=k' v ((h.set i .dead).set id o1):=fun ht v o1=>hk v _ fun j hj=>by
                rw[cZ _ (by omega)]
                by_cases e:i=j
                · subst e
                  rw[ht,ni]
                  split <;> simp[bY.rd,ht]
                · rw[cZ _ e]
              cases ht:h.at i <;> try rfl
              simp only[h2 ht]
          · rfl
        | row i n=>simp[R8]at hs
        | _=>rfl
    · rfl

theorem Pt {o:Op} (ha:px o=true):∃c,o = .call c∧c.callee = .builtin .append:=by
  unfold px at ha
  split at ha <;> try (first|cases ha)
  rename_i c
  refine ⟨c,rfl,?_⟩
  revert ha
  split
  · intro _; assumption
  · intro h; cases h

theorem Cm {o:Op} (ha:px o=true):fx tt o = .W:=by
  obtain ⟨c,rfl,hc⟩:=Pt ha
  simp only[fx,hc]

theorem Pu {o:Op} {ρ ρ':Operand→V} {id:Nat} (h':∀x∈o.operands,ρ x=ρ' x):vh o ρ id=vh o ρ' id:=by
  unfold vh
  split
  · rename_i c
    have ha:∀x∈c.args.toList,ρ x=ρ' x:=fun x hx=>h' x (by simp[Op.operands,Call.operands]at hx ⊢; exact .inr hx)
    split
    · rename_i s x e
      rw[ha s (by rw[e]; simp),ha x (by rw[e]; simp)]
    · rfl
  · rfl

theorem opW_set {o:Op} {ρ:Operand→V} {id ix:Nat} {ob:bY} {k:V→az→Option R} (ha:px o=true) (hl:vh o ρ id=true) (kY:id<ix) :
    KR tt o ρ (h.set ix ob) id k=KR tt o ρ h id fun v h'=>k v (h'.set ix ob):=by
  obtain ⟨⟨callee,args,argTypes⟩,rfl,hc⟩:=Pt ha
  simp only at hc
  subst hc
  simp only[KR]
  split
  · rename_i s x t xt _ e et
    simp only[vh,e,Bool.and_eq_true]at hl
    simp only[QY hl.1 hl.2 kY]
  · rfl

theorem QZ {o:Op} {ρ:Operand→V} {id:Nat} {k k':V→az→Option R} (ha:px o=true) (hl:vh o ρ id=true) (hk:∀v h',(∀i,i<id→(h'.at i).rd=(h.at i).rd)→k v h'=k' v h') :
    KR tt o ρ h id k=KR tt o ρ h id k':=by
  obtain ⟨⟨callee,args,argTypes⟩,rfl,hc⟩:=Pt ha
  simp only at hc
  subst hc
  simp only[KR]
  split
  · rename_i s x t xt _ e et
    simp only[vh,e,Bool.and_eq_true]at hl
    simp only[Ps hl.1 hk]
  · rfl
end

section
variable {P:Program} {tt:dJ} {w w':World} {h h':az} {c c':kh} {R:Type}

structure G0 (w:World) (c:kh) (st:St) (a:Act):Prop where
  wf:WF w st.hp c
  fr:cH w st.hp c st.fr a.tmps.toList

theorem tH.refl (al:Bool) (id:Nat) (h:az):tH al id h h:=⟨Nat.le_refl _,fun _ _ _ hf=>hf⟩
theorem tH.set {id:Nat} (ob:bY):tH true id h (h.set id ob):=⟨by simp,fun j hj _ hf=>by rw[cZ _ (Ne.symm (hj rfl))]; exact hf⟩
theorem tH.weak {al:Bool} {id:Nat} (k:tH false 0 h h'):tH al id h h':=⟨k.1,fun j _ hj hf=>k.2 j (by simp) hj hf⟩

theorem opW_nat {o:Op} {ρ:Operand→V} {id:Nat} {k0:V→az→Option R} {r:R} (hk:KR tt o ρ h id k0=some r) :
    ∃v h',k0 v h'=some r∧tH true id h h'∧∀k:V→az→Option R,KR tt o ρ h id k=k v h':=by
  have Vy:∀i ob,h.at i ≠ .free→tH true id h (h.set i ob):=fun i ob hi=>⟨by simp,fun j _ _ hf=>by
    rw[cZ _ (fun e:i=j=>hi (by rw[e]; exact hf))]; exact hf⟩
  have kset2:∀i ob ob',h.at i ≠ .free→tH true id h ((h.set i ob).set id ob'):=fun i ob ob' hi=>⟨by simp,fun j hj _ hf=>by
    rw[cZ _ (Ne.symm (hj rfl)),cZ _ (fun e:i=j=>hi (by rw[e]; exact hf))]; exact hf⟩
  cases o <;> simp only[KR]at hk ⊢ <;> try (first|cases hk)
  case store t x y =>
    split at hk <;> try (first|cases hk)
    rename_i vs hvs
    split at hk <;> try (first|cases hk)
    rename_i hc
    split at hk <;> try (first|cases hk)
    · rename_i i o hx
      split at hk <;> try (first|cases hk)
      · rename_i cs BU
        split at hk <;> try (first|cases hk)
        rename_i hl
        exact ⟨_,_,hk,Vy i _ (by rw[BU]; simp),fun k=>by simp only[*,if_true]⟩
      rename_i u BU
      split at hk <;> try (first|cases hk)
      exact ⟨_,_,hk,Vy i _ (by rw[BU]; simp),fun k=>by simp only[*,if_true]⟩
    · rename_i i sz j o hx
      split at hk <;> try (first|cases hk)
      rename_i T l BU
      split at hk <;> try (first|cases hk)
      rename_i hs
      split at hk <;> try (first|cases hk)
      rename_i hl
      split at hk <;> try (first|cases hk)
      rename_i z hz
      obtain ⟨hb,hk⟩:=cx hk
      exact ⟨_,_,hk,Vy i _ (by rw[BU]; simp),fun k=>by simp only[*,if_true,cX,cond_true]⟩
  case mapUpdate t m x y =>
    split at hk <;> try (first|cases hk)
    rename_i kt vt i ht hx
    split at hk <;> try (first|cases hk)
    rename_i K V' l hm
    split at hk <;> try (first|cases hk)
    rename_i hf
    split at hk <;> try (first|cases hk)
    rename_i kx vx hkx hvx
    exact ⟨_,_,hk,Vy i _ (by rw[hm]; simp),fun k=>by simp only[ht,hx,hm,hf,hkx,hvx,if_true]⟩
  case insert t m x y =>
    split at hk <;> try (first|cases hk)
    rename_i kt vt i ht hx
    split at hk <;> try (first|cases hk)
    rename_i K V' l hm
    split at hk <;> try (first|cases hk)
    rename_i hf
    split at hk <;> try (first|cases hk)
    rename_i kx vx hkx hvx
    exact ⟨_,_,hk,Vy i _ (by rw[hm]; simp),fun k=>by simp only[ht,hx,hm,hf,hkx,hvx,if_true]⟩
  case next x str =>
    split at hk <;> try (first|cases hk)
    rename_i i hx
    split at hk <;> try (first|cases hk)
    rename_i s pos hit
    cases hb:decide (pos<s.length)with
    | true =>
      rw[hb]at hk
      exact ⟨_,_,hk,Vy i _ (by rw[hit]; simp),fun k=>by simp only[hx,hit,hb,cond_true]⟩
    | false =>
      rw[hb]at hk
      exact ⟨_,_,hk, .refl _ _ _,fun k=>by simp only[hx,hit,hb,cond_false]⟩
  case call cl =>
    have happ:∀e s x,og tt e s x h id k0=some r→∃v h',k0 v h'=some r∧tH true id h h'∧∀k:V→az→Option R,og tt e s x h id k=k v h':=by
      intro e s x hk
      unfold og at hk
      split at hk <;> try (first|cases hk)
      rename_i T hT
      split at hk <;> try (first|cases hk)
      rename_i hc
      split at hk <;> try (first|cases hk)
      rename_i m hm
      split at hk <;> try (first|cases hk)
      · obtain ⟨hb,hk⟩:=cx hk
        split at hk
        · rename_i hr
          exact ⟨_,_,hk,tH.set _,fun k=>by simp only[og,hT,hc,hm,if_true,hb,cX,cond_true,hr]⟩
        · rename_i hr
          exact ⟨_,_,hk,tH.set _,fun k=>by simp only[og,hT,hc,hm,if_true,hb,cX,cond_true,if_neg hr]⟩
      · split at hk <;> try (first|cases hk)
        rename_i hq
        subst hq
        split at hk <;> try (first|cases hk)
        · obtain ⟨hb,hk⟩:=cx hk
          exact ⟨_,_,hk,tH.set _,fun k=>by simp only[og,hT,hc,hm,if_true,hb,cX,cond_true,dite_true]⟩
        · split at hk <;> try (first|cases hk)
          rename_i hi
          obtain ⟨hb,hk⟩:=cx hk
          exact ⟨_,_,hk,kset2 _ _ _ (by rw[hi]; simp),fun k=>by simp only[og,hT,hc,hm,hi,if_true,hb,cX,cond_true,dite_true]⟩
      · split at hk <;> try (first|cases hk)
        rename_i T' l hi
        split at hk <;> try (first|cases hk)
        rename_i hq
        subst hq
        obtain ⟨hb,hk⟩:=cx hk
        exact ⟨_,_,hk,kset2 _ _ _ (by rw[hi]; simp),fun k=>by simp only[og,hT,hc,hm,hi,if_true,hb,cX,cond_true,dite_true]⟩
    split at hk <;> try (first|cases hk)
    split at hk <;> try (first|cases hk)
    · obtain ⟨v,h',h1,h2,h3⟩:=happ _ _ _ hk
      exact ⟨v,h',h1,h2,fun k=>by simp[*]⟩
    · obtain ⟨v,h',h1,h2,h3⟩:=happ _ _ _ hk
      exact ⟨v,h',h1,h2,fun k=>by simp[*]⟩

theorem Aw {st:List V} {a:Act} (r:cH w h c st a.tmps.toList) (dst:Option Nat) {v:V} {d:Value} (rv:dC w h c v d):cH w h c (mG st dst v) (a.put dst d).tmps.toList:=by
  cases dst with
  | none=>exact r
  | some j=>simpa [mG,Act.put]using r.set j rv

theorem put_defers (a:Act) (dst:Option Nat) (d:Value):(a.put dst d).defers=a.defers:=by cases dst <;> rfl
theorem E3 (T:xy P tt) {E:Env R} (hE:pK P E) {o:Oper} {st:St} {a:Act} {drawn:Option Nat} {id:Nat} {k:St→Option R} {r:R} (hk:zd tt E drawn id o st k=some r) (iF:G0 w c st a)
    (hid:cj tt o=true→id<st.hp.length∧st.hp.at id = .free) {next:Act→World→Prop} {Q:Exit→Act→World→Prop}
    (hn:∀d w' s9 c' v,G0 w' c' s9 (a.put o.dst d)→Ext w st.hp c w' s9.hp c'→tH (cj tt o) id st.hp s9.hp→s9.fr=mG st.fr o.dst v→(fx tt o.op ≠ .W→(fx tt o.op = .C→(drawn.isNone || !oh E o.op)=false)→∀i,(cj tt o=true→i≠id)→s9.hp.at i=st.hp.at i)→(px o.op=true→drawn.isSome=true→∀i,i<id→(s9.hp.at i).rd=(st.hp.at i).rd)→k s9=some r→next (a.put o.dst d) w'):o.wp P a w next Q:=by
  have hρ:=fun x=>SG iF.fr x
  unfold zd at hk
  unfold Oper.wp
  simp only at hk
  split at hk
  · rename_i Bw
    obtain ⟨v,d,h1,h2,h3⟩:=U1 (w:=w) T hρ hk
    rw[h1,Oper.upon_value]
    exact hn d w ⟨mG st.fr o.dst v,st.hp⟩ c v ⟨iF.wf,Aw iF.fr _ h2⟩ (.refl _ _ _) (.refl _ _ _) rfl (fun _ _ _ _=>rfl) (fun _ _ _ _=>rfl) h3
  · rename_i Bw
    obtain ⟨v,d,h1,h2,h3⟩:=U8 T iF.wf hρ hk
    rw[h1,Oper.upon_value]
    exact hn d w ⟨mG st.fr o.dst v,st.hp⟩ c v ⟨iF.wf,Aw iF.fr _ h2⟩ (.refl _ _ _) (.refl _ _ _) rfl (fun _ _ _ _=>rfl) (fun _ _ _ _=>rfl) h3
  · rename_i Bw
    have hal:cj tt o=true:=by simp[cj,Bw]
    obtain ⟨ob,mk,h1,_,h2⟩:=Vk T iF.wf hρ hk
    obtain ⟨d,w',c',g1,g2,g3,g4⟩:=h2 id (hid hal).1 (hid hal).2
    rw[g1,Oper.upon_value]
    exact hn d w' ⟨mG st.fr o.dst (mk id),st.hp.set id ob⟩ c' (mk id) ⟨g2,Aw (iF.fr.mono g3) _ g4⟩ g3 (by rw[hal]; exact tH.set _) rfl (fun _ _ i hi=>cZ _ (Ne.symm (hi hal))) (fun _ _ i hi=>by rw[cZ _ (by omega)]) h1
  · rename_i Bw
    have hal:cj tt o=true:=by simp[cj,Bw]
    have hk:(vh o.op (ev st.fr) id=true∨drawn.isSome=false)∧KR tt o.op (ev st.fr) st.hp id (fun v h=>k ⟨mG st.fr o.dst v,h⟩)=some r:=by
      revert hk
      cases vh o.op (ev st.fr) id <;> cases drawn.isSome <;> simp
    obtain ⟨Pv,hk⟩:=hk
    let C:az→Prop:=fun h'=>px o.op=true→drawn.isSome=true→∀i,i<id→(h'.at i).rd=(st.hp.at i).rd
    have hk:KR tt o.op (ev st.fr) st.hp id (fun v h'=>open Classical in if C h' then k ⟨mG st.fr o.dst v,h'⟩else none)=some r:=by
      by_cases ha:px o.op=true∧drawn.isSome=true
      · have hl:=Pv.resolve_right (by simp[ha.2])
        rw[←hk]
        exact QZ ha.1 hl fun v h' hrd=>if_pos fun _ _=>hrd
      · have:∀h',C h':=fun h' h1 h2=>(ha ⟨h1,h2⟩).elim
        rw[←hk]
        congr 1
        funext v h'
        exact if_pos (this h')
    obtain ⟨v0,h0,hk0,hkeep,hnat⟩:=opW_nat hk
    have hk0':(open Classical in if C h0 then k ⟨mG st.fr o.dst v0,h0⟩else none)=some r:=hk0
    have hC0:C h0:=by
      by_cases hc:C h0
      · exact hc
      · rw[if_neg hc]at hk0'; cases hk0'
    rw[if_pos hC0]at hk0'
    replace hk0:=hk0'
    have GU:=hnat fun v h'=>open Classical in if h'=h0 then k ⟨mG st.fr o.dst v,h'⟩else none
    simp only[if_true]at GU
    obtain ⟨v,h',d,w',c',nx,g1,g2,g3,g4,g5,g6⟩:=Vr T iF.wf hρ (hid hal).1 (hid hal).2 (GU.trans hk0)
    split at g6 <;> try (first|cases g6)
    rename_i he
    subst he
    rw[g1]
    rcases g2 with rfl|⟨rfl,rfl⟩
    · rw[Oper.upon_value]
      exact hn d w' ⟨mG st.fr o.dst v,h'⟩ c' v ⟨g3,Aw (iF.fr.mono g4) _ g5⟩ g4 (by rw[hal]; exact hkeep) rfl (fun hC=>(hC Bw).elim) hC0 g6
    · rw[Oper.upon_skip]
      exact hn undef w' ⟨mG st.fr o.dst v,h'⟩ c' v ⟨g3,Aw (iF.fr.mono g4) _ g5⟩ g4 (by rw[hal]; exact hkeep) rfl (fun hC=>(hC Bw).elim) hC0 g6
  · rename_i Bw
    split at hk <;> try (first|cases hk)
    rename_i cl ES
    obtain ⟨g,args,h1,nx,w1,h2,h3⟩:=QX hE iF.wf ES hρ hk
    rw[h1,h2]
    have fin:∀d w',(∃v h' c',WF w' h' c'∧Ext w st.hp c w' h' c'∧dC w' h' c' v d∧k ⟨mG st.fr o.dst v,h'⟩=some r∧tH false 0 st.hp h'∧((drawn.isNone || !oh E o.op)=false→h'=st.hp))→next (a.put o.dst d) w':=by
      rintro d w' ⟨v,h',c',q1,q2,q3,q4,q5,q6⟩
      exact hn d w' ⟨mG st.fr o.dst v,h'⟩ c' v ⟨q1,Aw (iF.fr.mono q2) _ q3⟩ q2 q5.weak rfl (fun _ hd i _=>by rw[q6 (hd Bw)]) (fun ha=>by rw[Cm ha]at Bw; cases Bw) q4
    cases nx <;> simp only at h3
    · rw[Oper.upon_value]; exact fin _ _ h3
    · rw[Oper.upon_enter]
      exact Calls.mono h3 fun e w' ⟨d,e1,q⟩=>by subst e1; exact fin d w' q
    · rw[Oper.upon_row]
      exact Rows.mono h3 fun d w' q=>fin d w' q
  · cases hk
  · cases hk
end

section
variable {P:Program} {tt:dJ} {w w':World} {h h':az} {c c':kh} {R:Type}

theorem Xv {fr:List V} {d:Nat} {v:V} (h:fr.getD d .undef=v) (hv:v ≠ .undef):fr.set d v=fr:=by
  have hd:d<fr.length:=by
    rcases Nat.lt_or_ge d fr.length with hl|hl
    · exact hl
    · simp[List.getD,List.getElem?_eq_none hl]at h; exact (hv h.symm).elim
  have e:fr[d]=v:=by simpa [List.getD,List.getElem?_eq_getElem hd]using h
  rw[←e]
  exact List.set_getElem_self hd

theorem Bn {all:List Oper} {o:Oper} {st:St} {run skip:St→Option R}:vi all o st run skip =
    match o.guard with
    | none=>run st
    | some (j,want) =>
      match (all[j]?).bind (·.dst)with
      | none=>none
      | some d=>match st.fr.getD d .undef with | .bool b=>if b=want then run st else skip st | .tuple []=>skip st|_=>none:=by
  unfold vi
  cases o.guard with
  | none=>rfl
  | some jw =>
    obtain ⟨j,want⟩:=jw
    simp only
    cases (all[j]?).bind (·.dst)with
    | none=>rfl
    | some d =>
      simp only
      cases hb:st.fr.getD d .undef with
      | bool b =>
        have e:(⟨st.fr.set d (.bool b),st.hp⟩:St)=st:=by rw[Xv hb (by simp)]
        cases b <;> cases want <;> simp[e]
      | tuple vs=>cases vs <;> rfl
      | _=>rfl

theorem DH {ops:Array Oper} {o:Oper} {st:St} {a:Act} (iF:G0 w c st a) {run skip:St→Option R} {r:R} (hk:vi ops.toList o st run skip=some r) :
    (Region.wanted o (yielded ops a.tmps)=true∧run st=some r)∨(Region.wanted o (yielded ops a.tmps)=false∧skip st=some r):=by
  rw[Bn]at hk
  unfold Region.wanted
  split at hk
  · rename_i hg; simp only[hg]; exact .inl ⟨trivial,hk⟩
  · rename_i j want hg
    simp only[hg]
    split at hk <;> try (first|cases hk)
    rename_i d hd
    have hl:∀v,st.fr.getD d .undef=v→v ≠ .undef→d<st.fr.length:=fun v hv j7=>by
      rcases Nat.lt_or_ge d st.fr.length with hl|hl
      · exact hl
      · simp[List.getD,List.getElem?_eq_none hl]at hv; exact (j7 hv.symm).elim
    have key:∀v,st.fr.getD d .undef=v→v ≠ .undef→∃x,a.tmps[d]? = some x∧dC w st.hp c v x:=fun v hb j7=>by
      have hl:=hl v hb j7
      have P8:d<a.tmps.size:=by rw[←(by simpa using iF.fr.1:st.fr.length=a.tmps.size)]; exact hl
      exact ⟨a.tmps[d],Array.getElem?_eq_getElem P8,iF.fr.2 d v a.tmps[d] (by rw[List.getElem?_eq_getElem hl]; simpa [List.getD,List.getElem?_eq_getElem hl]using hb) (by simp)⟩
    have UX:(ops[j]?).bind (·.dst)=some d:=by simpa using hd
    split at hk <;> try (first|cases hk)
    · rename_i b hb
      obtain ⟨x,hx,rv⟩:=key _ hb (by simp)
      have hy:yielded ops a.tmps j=some b:=by
        unfold yielded
        rw[UX]
        simp only[Option.bind_some,hx]
        cases rv
        rfl
      rw[hy]
      split at hk
      · rename_i hw; subst hw; exact .inl ⟨by simp,hk⟩
      · rename_i hw; exact .inr ⟨by simpa using hw,hk⟩
    · rename_i hb
      obtain ⟨x,hx,rv⟩:=key _ hb (by simp)
      have hy:yielded ops a.tmps j=none:=by
        unfold yielded
        rw[UX]
        simp only[Option.bind_some,hx]
        cases rv
        rfl
      rw[hy]
      exact .inr ⟨by simp,hk⟩

theorem Jg:dC w h c (.tuple []) undef := .tuple rfl (by simp)

def Xw (w:World) (c:kh) (st:St) (a:Act) (k:St→Option R) (r:R) (K:Act→World→Prop):Prop :=
  ∀a' w' s9 c',G0 w' c' s9 a'→Ext w st.hp c w' s9.hp c'→a'.defers=a.defers→k s9=some r→K a' w'

def Slots (tt:dJ) (rest:List Oper) (id:Nat) (h:az):Prop:=∀j,id≤j→j<id+(rest.filter (cj tt)).length→j<h.length∧h.at j = .free

theorem G1 (T:xy P tt) {E:Env R} (hE:pK P E) {ops:Array Oper} {k:St→Option R} {r:R} {Q:Exit→Act→World→Prop}:∀(rest:List Oper) (n id:Nat) (w:World) (c:kh) (st:St) (a:Act),
    ops.toList.drop n=rest→Lm tt E none ops.toList rest id st k=some r→G0 w c st a→Slots tt rest id st.hp→Xw w c st a k r (Q .normal)→wpOps P ops Q (List.range' n rest.length) a w
  | [],n,id,w,c,st,a,_,hk,iF,_,go=>go a w st c iF (.refl _ _ _) rfl hk
  | o::rest,n,id,w,c,st,a,hd,hk,iF,hs,go=>by
    have hn:ops[n]? = some o:=by
      have:(ops.toList.drop n)[0]? = some o:=by rw[hd]; rfl
      rw[List.getElem?_drop]at this
      simpa using this
    have UX:ops.toList.drop (n+1)=rest:=by
      have:(ops.toList.drop n).drop 1=rest:=by rw[hd]; rfl
      rwa [List.drop_drop]at this
    rw[List.length_cons,List.range'_succ,wpOps_cons]
    unfold wpOp
    simp only[hn]
    simp only[Lm,Dw]at hk
    have hsl:∀h',tH (cj tt o) id st.hp h'→Slots tt rest (if cj tt o then id+1 else id) h':=by
      intro h' kp j h1 h2
      cases ha:cj tt o with
      | true =>
        rw[ha]at h1 h2 kp
        simp only[if_true]at h1 h2
        obtain ⟨g1,g2⟩:=hs j (by omega) (by rw[List.filter_cons_of_pos ha,List.length_cons]; omega)
        exact ⟨Nat.lt_of_lt_of_le g1 kp.1,kp.2 j (fun _=>by omega) g1 g2⟩
      | false =>
        rw[ha]at h1 h2 kp
        simp only[Bool.false_eq_true,if_false]at h1 h2
        obtain ⟨g1,g2⟩:=hs j (by omega) (by rw[List.filter_cons_of_neg (by simp[ha])]; omega)
        exact ⟨Nat.lt_of_lt_of_le g1 kp.1,kp.2 j (fun h=>by cases h) g1 g2⟩
    rcases DH iF hk with ⟨hw,hk⟩|⟨hw,hk⟩
    · rw[if_pos hw]
      refine .inl (E3 T hE hk iF (fun ha=>hs id (Nat.le_refl _) (by rw[List.filter_cons_of_pos ha,List.length_cons]; omega)) fun d w' s9 c' v SH x kp _ _ _ qT => ?_)
      refine G1 T hE rest (n+1) _ w' c' s9 _ UX qT SH (hsl _ kp) fun a2 w2 BV c2 s2 x2 d2 k2 => ?_
      exact go a2 w2 BV c2 s2 (x.trans x2) (d2.trans (put_defers _ _ _)) k2
    · rw[if_neg (by simp[hw])]
      refine G1 T hE rest (n+1) _ w c ⟨mG st.fr o.dst (.tuple []),st.hp⟩ _ UX hk ⟨iF.wf,Aw iF.fr _ Jg⟩ (hsl _ (.refl _ _ _)) fun a2 w2 BV c2 s2 x2 d2 k2 => ?_
      exact go a2 w2 BV c2 s2 x2 (d2.trans (put_defers _ _ _)) k2

theorem KW {n i:Nat}:az.at (h++List.replicate n .free) i=h.at i∨(h.length≤i∧az.at (h++List.replicate n .free) i = .free):=by
  rcases Nat.lt_or_ge i h.length with hi|hi
  · exact .inl (k8 hi)
  · rcases Nat.lt_or_ge (i - h.length) n with hj|hj
    · refine .inr ⟨hi,?_⟩
      rw[jY hi]
      simp[az.at,List.getD,List.getElem?_replicate,hj]
    · refine .inl ?_
      rw[jY hi]
      have h1:¬(i - h.length<n):=by omega
      have h2:¬(i<h.length):=by omega
      simp[az.at,List.getD,List.getElem?_replicate,h1,List.getElem?_eq_none hi]

theorem Xx {i:Nat} (hi:h.length≤i):h.at i = .dead:=by simp[az.at,List.getD,List.getElem?_eq_none hi]

theorem LS {n b x:Nat}:tO (h++List.replicate n .free) c b x↔tO h c b x:=by
  constructor
  · rintro ⟨i,f,h1,h2,h3⟩
    rcases KW (h:=h) (n:=n) (i:=i)with e|⟨_,e⟩
    · exact ⟨i,f,h1,e▸h2,h3⟩
    · rw[e]at h2; cases h2
  · rintro ⟨i,f,h1,h2,h3⟩
    rcases KW (h:=h) (n:=n) (i:=i)with e|⟨hi,e⟩
    · exact ⟨i,f,h1,e.symm▸h2,h3⟩
    · rw[Xx hi]at h2; cases h2

theorem tf (n:Nat):Ext w h c w (h++List.replicate n .free) c where
  os:=rfl
  tape:=rfl
  output:=rfl
  size:=Nat.le_refl _
  used:=fun i hi=>⟨by simp; have:=hi.1; omega,by
    rw[k8 hi.1]; exact hi.2⟩
  same:=fun i hi hd=>by
    rw[k8 hi.1]at hd ⊢
    exact ⟨C2 (FM hi.2 hd) (fun _ _ _ => .inr trivial),rfl,rfl⟩
  cell:=fun _ _ _ _=>rfl
  block:=fun _ _ _=>rfl
  wa:=fun b x _ ho=>LS.1 ho
  ext:=rfl
  arr:=fun b arr e fz hb=>⟨arr,fz,hb,rfl⟩

theorem E4 (wf:WF w h c) (n:Nat):WF w (h++List.replicate n .free) c where
  lay:=wf.rW (tf n)
  xS:=fun b x ho=>wf.xS b x (LS.1 ho)
  pz:=wf.pz
  obj:=fun i hi=>by
    rcases KW (h:=h) (n:=n) (i:=i)with e|⟨_,e⟩
    · rw[e]
      rcases Nat.lt_or_ge i h.length with hl|hl
      · have ho:=wf.obj i hl
        by_cases hv:(h.at i).live
        · exact ho.keep (tf n) (fun _ _=>rfl) rfl rfl
        · have h0:h.at i = .free∨h.at i = .dead:=by revert hv; cases h.at i <;> simp[bY.live]
          rcases h0 with h0|h0 <;> rw[h0] <;> trivial
      · rw[Xx hl]; trivial
    · rw[e]; trivial
  inj:=fun i j b hi hj h1 h2=>by
    have hl:∀i,(az.at (h++List.replicate n .free) i).live→(h.at i).live:=fun i hi=>by
      rcases KW (h:=h) (n:=n) (i:=i)with e|⟨_,e⟩
      · rw[e]at hi; exact hi
      · rw[e]at hi; exact hi.elim
    exact wf.inj i j b (hl i hi) (hl j hj) h1 h2

theorem Pw (T:xy P tt) {E:Env R} (hE:pK P E) {id:Nat} {ops:Array Oper} {k:St→Option R} {r:R} {Q:Exit→Act→World→Prop} {st:St} {a:Act}
    (hk:FK tt E ops.toList false st k=some r) (iF:G0 w c st a) (go:Xw w c st a k r (Q .normal)):(Code.region id ops false).wp P Q a w:=by
  refine wp_region ?_
  simp only[FK,Bool.false_eq_true,if_false]at hk
  have:=G1 T hE (ops:=ops) (Q:=Q) ops.toList 0 st.hp.length w c _ a rfl hk ⟨E4 iF.wf _,iF.fr.mono (tf _)⟩ ?_ ?_
  · rw[List.range_eq_range']
    simpa using this
  · intro j h1 h2
    refine ⟨by simp; omega,?_⟩
    rw[jY h1]
    have:j - st.hp.length<(ops.toList.filter (cj tt)).length:=by omega
    simp[az.at,List.getD,List.getElem?_replicate,this]
  · exact fun a2 w2 BV c2 s2 x2 d2 k2=>go a2 w2 BV c2 s2 ((tf _).trans x2) d2 k2
end

section
variable {P:Program} {tt:dJ} {w w':World} {h h':az} {c c':kh} {R:Type}

def one (tt:dJ) (E:Env R) (S:Option (Bool × List Nat)) (base:Nat) (all:List Oper) (o:Oper) (id:Nat) (st:St) (k:St→Option R):Option R :=
  vi all o st (fun st=>bif GP tt E base S all o (ev st.fr) st.hp then zd tt E (WL tt S base o) id o st k else none) (fun st=>k ⟨mG st.fr o.dst (.tuple []),st.hp⟩)

abbrev vQ:=Nat × Oper × Nat

def Eu (tt:dJ) (E:Env R) (S:Option (Bool × List Nat)) (base:Nat) (all:List Oper):List vQ→St→(St→Option R)→Option R
  | [],st,k=>k st
  | x::rest,st,k=>one tt E S base all x.2.1 x.2.2 st fun st=>Eu tt E S base all rest st k

def number (tt:dJ):List Oper→Nat→Nat→List vQ
  | [],_,_ => []
  | o::rest,i,id=>(i,o,id)::number tt rest (i+1) (if cj tt o then id+1 else id)

theorem Px {E:Env R} {base:Nat} {all:List Oper}:∀(l:List Oper) (i id:Nat) (st:St) (k:St→Option R),
    Lm tt E (some base) all l id st k=Eu tt E none base all (number tt l i id) st k
  | [],_,_,_,_=>rfl
  | o::l,i,id,st,k=>by
    simp only[Lm,Dw,number,Eu,one,GP,WL,cond_true]
    congr 1
    · funext st
      congr 1
      funext st
      exact Px l _ _ _ _
    · funext st
      exact Px l _ _ _ _

theorem KX {E:Env R} {A:Bool × List Nat} {base:Nat} {all:List Oper}:∀(l:List Oper) (i id:Nat) (st:St) (k:St→Option R),
    Qm tt E base A all l id st k=Eu tt E (some A) base all (number tt l i id) st k
  | [],_,_,_,_=>rfl
  | o::l,i,id,st,k=>by
    simp only[Qm,Dw,number,Eu,one]
    congr 1
    · funext st
      congr 1
      congr 1
      funext st
      exact KX l _ _ _ _
    · funext st
      exact KX l _ _ _ _

theorem Py {S:Option (Bool × List Nat)} {base:Nat} {o:Oper} (h:fx tt o.op ≠ .W):WL tt S base o=some base:=by
  unfold WL
  split
  · split
    · rename_i hc; exact (h hc).elim
    · rfl
  · rfl
theorem Q0 {S:Option (Bool × List Nat)} {base:Nat} {o:Oper} (h:S.map (·.1)≠some true):WL tt S base o=some base:=by
  unfold WL
  split
  · exact (h rfl).elim
  · rfl

structure T7 where
  dst:Option Nat
  v:V
  put:Option (Nat × bY)

def T7.hp (e:T7) (h:az):az:=match e.put with|none=>h|some (i,ob)=>h.set i ob
def eff (st:St) (e:T7):St:=⟨mG st.fr e.dst e.v,e.hp st.hp⟩

theorem Oi {fr:List V} {dst:Option Nat} {v:V} {t:Nat} (h:dst≠some t):(mG fr dst v).getD t .undef=fr.getD t .undef:=by
  cases dst with
  | none=>rfl
  | some d =>
    have:d≠t:=fun e=>h (by rw[e])
    simp[mG,List.getD,List.getElem?_set_ne this]

theorem Vz {fr:List V} {x y:Option Nat} {u v:V} (h:∀d,x=some d→y≠some d):mG (mG fr x u) y v=mG (mG fr y v) x u:=by
  cases x with
  | none=>rfl
  | some d =>
    cases y with
    | none=>rfl
    | some e =>
      have:d≠e:=fun he=>h d rfl (by rw[he])
      simp only[mG]
      exact List.set_comm _ _ this

theorem C4 {fr VA:List V} {o:Oper} {all:List Oper} (h:∀t∈looks all o,VA.getD t .undef=fr.getD t .undef):∀x∈o.op.operands,ev VA x=ev fr x:=by
  intro x hx
  cases x with
  | tmp t=>exact h t (List.mem_append_left _ (List.mem_filterMap.2 ⟨.tmp t,by simpa using hx,rfl⟩))
  | _=>rfl

theorem LU {fr VA:List V} {hp WO:az} {o:Oper} {all:List Oper} (h:∀t∈looks all o,VA.getD t .undef=fr.getD t .undef) {run skip run' LV:St→Option R}
    (hr:run' ⟨VA,WO⟩=run ⟨fr,hp⟩) (hs:LV ⟨VA,WO⟩=skip ⟨fr,hp⟩):vi all o ⟨VA,WO⟩ run' LV=vi all o ⟨fr,hp⟩ run skip:=by
  rw[Bn,Bn]
  cases hg:o.guard with
  | none=>exact hr
  | some jw =>
    obtain ⟨j,want⟩:=jw
    simp only
    cases hd:(all[j]?).bind (·.dst)with
    | none=>rfl
    | some d =>
      have:=h d (by
        refine List.mem_append_right _ ?_
        simp only[hg,hd]
        simp)
      simp only[this,hr,hs]

theorem Q1 {o:Op} {ρ:Operand→V} {lim:Option Nat} {h2:az} (e:∀i∈wB o ρ,Eg lim i=true→(h2.at i).rd=(h.at i).rd) {k:V→Option R}:UL tt o ρ h2 lim k=UL tt o ρ h lim k:=by
  have e':∀i∈wB o ρ,Eg lim i=true→h2.at i=h.at i∨((h2.at i = .tok∨h2.at i = .dead∨h2.at i = .free)∧(h.at i = .tok∨h.at i = .dead∨h.at i = .free)):=fun i hm hi=>QV (e i hm hi)
  clear e
  cases o <;> simp only[UL]
  case load t x =>
    split
    · rename_i i o hx
      split
      · rename_i hl
        rcases e' i (by simp[wB,hx,V.ids]) hl with h1|⟨h1|h1|h1,g2|g2|g2⟩ <;> (first|(simp only[h1,g2]; done)|(simp only[h1]; done)|rfl|(simp only[h1,g2]; (repeat' split) <;> first|rfl|contradiction|simp_all))
      · rfl
    · rfl
    · rename_i i _ _ _ hx
      split
      · rename_i hl
        rcases e' i (by simp[wB,hx,V.ids]) hl with h1|⟨h1|h1|h1,g2|g2|g2⟩ <;> (first|(simp only[h1,g2]; done)|(simp only[h1]; done)|(simp only[h1,g2]; (repeat' split) <;> first|rfl|contradiction|simp_all))
      · rfl
    · rfl
  case lookup t x ix ok =>
    split
    · rename_i kt vt i _ hx
      split
      · rename_i hl
        rcases e' i (by simp[wB,hx,V.ids]) hl with h1|⟨h1|h1|h1,g2|g2|g2⟩ <;> (first|simp only[h1,g2]|simp only[h1])
      · rfl
    · rfl
  case convert s d x =>
    split
    · rename_i i _ _ _ hx
      split
      · rename_i hl
        rcases e' i (by simp[wB,hx,V.ids]) hl with h1|⟨h1|h1|h1,g2|g2|g2⟩ <;> (first|(simp only[h1,g2]; done)|(simp only[h1]; done)|(simp only[h1,g2]; (repeat' split) <;> first|rfl|contradiction|simp_all))
      · rfl
    · rfl
    · rfl
    · rfl

def Cn (S:Option (Bool × List Nat)) (E:Env R) (all:List Oper) (tt:dJ) (base:Nat) (x:Oper) (st BV:St):Prop :=
  (∀t∈looks all x,BV.fr.getD t .undef=st.fr.getD t .undef)∧(fx tt x.op = .R→∀i,i<base→(∀A,S=some (true,A)→UN tt E all x=true→i∈A)→(∀A,S=some (false,A)→N0 tt E all x=true→i∉A)→(BV.hp.at i).rd=(st.hp.at i).rd)

def turns (tt:dJ) (E:Env R) (o:Op):Prop:=(eh tt E o = .W∧px o=false)∨(eh tt E o = .F∧mH E o=false)

def Kept (S:Option (Bool × List Nat)) (tt:dJ) (E:Env R) (all:List Oper) (base:Nat) (o:Oper) (h h':az):Prop :=
  (∀i,i<base→(h'.at i).rd=(h.at i).rd)∨((turns tt E o.op∨(S.map (·.1)=some true∧px o.op=true))∧(eh tt E o.op = .F→∀A,S=some (true,A)→∀i∈A,(h'.at i).rd=(h.at i).rd)∧(kZ all o=true→∀A,S=some (false,A)→∀i,i∉A→(h'.at i).rd=(h.at i).rd))

theorem qV {E:Env R} {o:Op} (h:fx tt o ≠ .C):eh tt E o=fx tt o:=by
  unfold eh
  split
  · rename_i hc; exact (h hc).elim
  · rfl

def calm (a:Cls):Bool:=match a with | .P | .R | .A=>true|_=>false

theorem Nw {o:Op} {ρ ρ':Operand→V} (h:∀x∈o.operands,ρ' x=ρ x):wB o ρ'=wB o ρ:=by
  cases o <;> simp only[wB] <;> rw[h _ (by simp[Op.operands])]
theorem LW {o:Op} {ρ ρ':Operand→V} (h:∀x∈o.operands,ρ' x=ρ x):Br o ρ'=Br o ρ:=by
  cases o <;> simp only[Br] <;> rw[h _ (by simp[Op.operands])]
theorem Nx {o:Op} {ρ ρ':Operand→V} {hp:az} (h:∀x∈o.operands,ρ' x=ρ x):mS o ρ' hp=mS o ρ hp:=by
  unfold mS
  split
  · rename_i cl
    split
    · rename_i f hf
      have e1:ρ' f=ρ f:=h f (by simp[Op.operands,Call.operands,hf])
      have e2:cl.args.toList.map ρ'=cl.args.toList.map ρ:=List.map_congr_left fun z hz=>h z (by simp[Op.operands,Call.operands]; exact .inr (by simpa using hz))
      rw[e1,e2]
    · rfl
  · rfl
theorem Oj {E:Env R} {base:Nat} {S:Option (Bool × List Nat)} {all:List Oper} {x:Oper} {fr VA:List V} {hp:az} (h:∀t∈looks all x,VA.getD t .undef=fr.getD t .undef):GP tt E base S all x (ev VA) hp=GP tt E base S all x (ev fr) hp:=by
  cases S with
  | none=>rfl
  | some A=>obtain ⟨m,A⟩:=A; cases m <;> simp only[GP] <;> rw[Nw (C4 h),LW (C4 h)] <;> rw[Nx (C4 h)]
theorem Xy {E:Env R} {base:Nat} {S:Option (Bool × List Nat)} {all:List Oper} {x:Oper} {fr VA:List V} {hp WO:az} (hc:calm (fx tt x.op)=true) (h:∀t∈looks all x,VA.getD t .undef=fr.getD t .undef):GP tt E base S all x (ev VA) WO=GP tt E base S all x (ev fr) hp:=by
  rw[Oj (fr:=fr) h]
  cases S with
  | none=>rfl
  | some A =>
    obtain ⟨m,A⟩:=A
    cases m <;> simp only[GP] <;> revert hc <;> cases fx tt x.op <;> simp[calm]

theorem T8 {E:Env R} {S:Option (Bool × List Nat)} {base:Nat} {all:List Oper} {x:Oper} {id:Nat} {st:St} {k0:St→Option R} {r:R} (hc:calm (fx tt x.op)=true) (hk:one tt E S base all x id st k0=some r) :
    ∃e:T7,e.dst=x.dst∧(∀i ob,e.put=some (i,ob)→i=id∧fx tt x.op = .A)∧k0 (eff st e)=some r∧∀BV,Cn S E all tt base x st BV→∀k,one tt E S base all x id BV k=k (eff BV e):=by
  unfold one at hk ⊢
  -- the guard says the same
  have hgu:∀BV,Cn S E all tt base x st BV→∀(run skip:St→Option R),vi all x BV run skip=vi all x st (fun _=>run BV) (fun _=>skip BV):=by
    intro BV ha run skip
    obtain ⟨fr,hp⟩:=st
    obtain ⟨fr2,hp2⟩:=BV
    exact LU ha.1 rfl rfl
  have Xl:∀run skip:St→Option R,(∀run' LV:St→Option R,vi all x st run' LV=run' st)∨(∀run' LV:St→Option R,vi all x st run' LV=LV st)∨vi all x st run skip=none:=by
    intro run skip
    simp only[Bn]
    cases x.guard with
    | none=>exact .inl fun _ _=>rfl
    | some jw =>
      obtain ⟨j,want⟩:=jw
      simp only
      cases (all[j]?).bind (·.dst)with
      | none=>exact .inr (.inr rfl)
      | some d =>
        simp only
        cases st.fr.getD d .undef with
        | bool b=>by_cases hb:b=want <;> simp[hb]
        | tuple vs =>
          cases vs with
          | nil=>exact .inr (.inl fun _ _=>rfl)
          | cons _ _=>exact .inr (.inr rfl)
        | _=>exact .inr (.inr rfl)
  rcases Xl _ _ with hg|hg|hg
  · rw[hg]at hk
    obtain ⟨hS,hk⟩:GP tt E base S all x (ev st.fr) st.hp=true∧zd tt E (WL tt S base x) id x st k0=some r:=by
      cases hS:GP tt E base S all x (ev st.fr) st.hp with
      | true=>rw[hS]at hk; exact ⟨rfl,hk⟩
      | false=>rw[hS]at hk; cases hk
    have hnW:fx tt x.op ≠ .W:=fun e=>by rw[e]at hc; cases hc
    rw[Py hnW]at hk ⊢
    have hS2:∀BV,Cn S E all tt base x st BV→GP tt E base S all x (ev BV.fr) BV.hp=true:=fun BV ha=>by rw[←hS]; exact Xy hc ha.1
    unfold zd at hk
    simp only at hk
    split at hk
    · rename_i Bw
      obtain ⟨v,h1,h2⟩:=opP_nat hk
      refine ⟨⟨x.dst,v,none⟩,rfl,by simp,h1,fun BV ha k => ?_⟩
      rw[hgu BV ha,hg,hS2 BV ha,cond_true]
      simp only[zd,Bw]
      rw[Ob (C4 ha.1),h2]
      rfl
    · rename_i Bw
      obtain ⟨v,h1,h2⟩:=opR_nat hk
      refine ⟨⟨x.dst,v,none⟩,rfl,by simp,h1,fun BV ha k => ?_⟩
      rw[hgu BV ha,hg,hS2 BV ha,cond_true]
      simp only[zd,Bw]
      rw[Oc (C4 ha.1),Q1 (h:=st.hp) fun i hm hi=>ha.2 Bw i (by simpa [Eg]using hi) (fun A hA hf => ?_) fun A hA hf => ?_,h2 _ fun i hi=>rfl]
      · rfl
      · subst hA
        simp only[GP,Bw,hf,Bool.not_true,Bool.false_or,List.all_eq_true]at hS
        simpa using hS i hm
      · subst hA
        simp only[GP,Bw,hf,Bool.not_true,Bool.false_or,List.all_eq_true]at hS
        simpa using hS i hm
    · rename_i Bw
      obtain ⟨ob,mk,h1,h2⟩:=opA_nat hk
      refine ⟨⟨x.dst,mk id,some (id,ob)⟩,rfl,by simp[Bw],h1,fun BV ha k => ?_⟩
      rw[hgu BV ha,hg,hS2 BV ha,cond_true]
      simp only[zd,Bw]
      rw[Od (C4 ha.1),h2]
      rfl
    all_goals (rename_i Bw; rw[Bw]at hc; cases hc)
  · rw[hg]at hk
    refine ⟨⟨x.dst, .tuple [],none⟩,rfl,by simp,hk,fun BV ha k => ?_⟩
    rw[hgu BV ha,hg]
    rfl
  · rw[hg]at hk; cases hk

theorem apart_spec {all:List Oper} {x y:Oper} (h:xQ all x y=true) :
    (∀d,x.dst=some d→d∉looks all y)∧(∀d,x.dst=some d→y.dst≠some d)∧(∀d,y.dst=some d→d∉looks all x):=by
  refine ⟨fun d hd => ?_,fun d hd => ?_,fun d hd => ?_⟩ <;> simp[xQ,hd]at h
  · exact h.1.1
  · exact h.1.2
  · exact h.2

theorem DI {fr:List V} {c:Value} {g:Nat} {a b:List V} (h:ev fr (.const c) = .func g a b):False:=by
  simp only[ev]at h
  unfold ofConst at h
  split at h
  · cases h
  · unfold EU at h
    split at h <;> (try split at h) <;> cases h


theorem G2 {i:Nat}:∀(n:Nat) (todo seen:List Nat),i∈seen→i∈reach h n todo seen
  | 0,_,_,hi=>hi
  | _+1, [],_,hi=>hi
  | n+1,j::todo,seen,hi=>by
    unfold reach
    split
    · exact G2 n _ _ hi
    · exact G2 n _ _ (by simp[hi])
theorem FO {i:Nat} {ob:bY}:∀(n:Nat) (todo seen:List Nat),i∉reach h n todo seen→reach (h.set i ob) n todo seen=reach h n todo seen
  | 0,_,_,_=>rfl
  | _+1, [],_,_=>rfl
  | n+1,j::todo,seen,hi=>by
    unfold reach at hi ⊢
    split
    · rename_i hc
      rw[if_pos hc]at hi
      exact FO n _ _ hi
    · rename_i hc
      rw[if_neg hc]at hi
      have j7:i≠j:=by
        rintro rfl
        exact hi (G2 n _ _ (by simp))
      rw[cZ _ j7]
      exact FO n _ _ hi
theorem set_set {i:Nat} {ob:bY}:(h.set i ob).set i (h.at i)=h:=by
  rw[List.set_set]
  apply List.ext_getElem?
  intro j
  rw[List.getElem?_set]
  split
  · rename_i e
    subst e
    split
    · rename_i hl
      simp[az.at,List.getD,List.getElem?_eq_getElem hl]
    · rename_i hl
      exact (List.getElem?_eq_none (by omega)).symm
  · rfl
theorem J0 {o:Op} {ρ:Operand→V} {i:Nat} {ob:bY} (hi:i∉mS o ρ h):mS o ρ (h.set i ob)=mS o ρ h:=by
  unfold mS at hi ⊢
  split at hi <;> try rfl
  split at hi <;> try rfl
  split at hi <;> try rfl
  exact FO _ _ _ hi
theorem Pz {o:Op} {ρ:Operand→V} {i:Nat} {ob:bY} (hi:i∉mS o ρ (h.set i ob)):mS o ρ (h.set i ob)=mS o ρ h:=by
  have h1:=J0 (ob:=h.at i) hi
  rw[set_set]at h1
  exact h1.symm
theorem Xz {i:Nat} {ob:bY} {ord:List Nat} (hi:i∉ord):az.pick (h.set i ob) ord=h.pick ord:=by
  unfold az.pick
  refine List.map_congr_left fun j hj => ?_
  rw[cZ _ (by rintro rfl; exact hi hj)]
theorem LX {i:Nat} {ob:bY}:∀(l:List (Nat × bY)) (h:az),(∀x∈l,x.1≠i)→az.zG (h.set i ob) l=(az.zG h l).set i ob
  | [],_,_=>rfl
  | x::l,h,hl=>by
    simp only[az.zG]
    rw[List.set_comm _ _ (Ne.symm (hl x (by simp)))]
    exact LX l _ fun y hy=>hl y (by simp[hy])
theorem XA {i:Nat} {ob:bY} {ord:List Nat} (hi:i∉ord) (hl:i<h.length) (h':az):az.back (h.set i ob) ord h'=(h.back ord h').set i ob:=by
  unfold az.back
  simp only[List.length_set]
  rw[LX _ _ fun x hx=>by
    have:=(List.of_mem_zip hx).1
    rintro rfl
    exact hi this]
  rw[List.set_append_left _ _ (by rw[fQ]; exact hl)]
theorem VB {E:Env R} {cl:Call} (hp:oh E (.call cl)=false) (hs:mH E (.call cl)=false) {full:Bool} {fr:List V} {i:Nat} {ob:bY} (hi:i∉mS (.call cl) (ev fr) h) (hl:i<h.length) {k:V→az→Option R} :
    xN tt E full cl (ev fr) (h.set i ob) k=xN tt E full cl (ev fr) h fun v h'=>k v (h'.set i ob):=by
  unfold xN
  split
  · rename_i f hf
    split
    · rename_i g first cap hg
      simp only
      have LP:mS (.call cl) (ev fr) h=reach h 64 (V.sv (first++cl.args.toList.map (ev fr)++cap)) []:=by simp only[mS,hf,hg]
      rw[LP]at hi
      split
      · exfalso
        rename_i Pr
        cases f with
        | tmp t=>simp[oh,hf]at hp
        | func g' =>
          simp only[ev,V.func.injEq]at hg
          obtain ⟨rfl,_,_⟩:=hg
          simp[oh,hf,Pr]at hp
        | const c=>exact DI hg
        | global _=>simp[ev]at hg
      · rename_i sp Pr
        cases full
        · rfl
        · simp only[cond_true]
          cases hg0:oJ.soft g with
          | true =>
            exfalso
            cases f with
            | tmp t=>simp[oh,hf]at hp
            | func g' =>
              simp only[ev,V.func.injEq]at hg
              obtain ⟨rfl,_,_⟩:=hg
              simp[mH,hf,hg0,Pr]at hs
            | const c=>exact DI hg
            | global _=>simp[ev]at hg
          | false =>
            simp only[cond_false]
            rw[FO _ _ _ hi,Xz hi]
            congr 1
            funext v h'
            rw[XA hi hl,List.length_set]
      · rfl
    · rfl
  · rfl

theorem Q2 {E:Env R} {cl:Call} {full:Bool} {ρ ρ':Operand→V} (WQ:∀z∈cl.operands,ρ' z=ρ z) {k:V→az→Option R}:xN tt E full cl ρ' h k=xN tt E full cl ρ h k:=by
  have T9:cl.args.toList.map ρ'=cl.args.toList.map ρ:=List.map_congr_left fun z hz=>WQ z (by simp[Call.operands]; exact .inr (by simpa using hz))
  unfold xN
  split
  · rename_i f hf
    rw[WQ f (by simp[Call.operands,hf]),T9]
  · rfl

theorem Ua {E:Env R} {S:Option (Bool × List Nat)} {base:Nat} {all:List Oper} {x y:Oper} {e:T7} {ix id:Nat} (ES:Gq (eh tt E x.op) (eh tt E y.op)=true∨(px y.op=true∧S.map (·.1)≠some true∧(cj tt x=true→id<ix))∨(fx tt x.op = .R∧px y.op=true)∨(fx tt x.op = .R∧mH E y.op=true)∨(fx tt x.op = .R∧eh tt E y.op = .F)∨(fx tt x.op = .A∧S.map (·.1)=some true∧eh tt E y.op = .F∧mH E y.op=false)∨(fx tt x.op = .R∧fx tt y.op = .W)) (hap:xQ all x y=true) (hc:calm (fx tt x.op)=true) (he:e.dst=x.dst)
    (Q3:∀i ob,e.put=some (i,ob)→i=ix∧fx tt x.op = .A) (hid:cj tt x=true→cj tt y=true→ix≠id) (hb:cj tt x=true→base≤ix) (ht:cj tt x=true→ix<base+(all.filter (cj tt)).length) (st:St) (k:St→Option R) :
    one tt E S base all y id (eff st e) k=one tt E S base all y id st fun Jh=>k (eff Jh e):=by
  obtain ⟨a1,a2,a3⟩:=apart_spec hap
  have hl:∀t∈looks all y,(mG st.fr e.dst e.v).getD t .undef=st.fr.getD t .undef:=fun t ht=>Oi fun h=>a1 t (he▸h) ht
  have J1:∀u,mG (mG st.fr e.dst e.v) y.dst u=mG (mG st.fr y.dst u) e.dst e.v:=fun u=>Vz fun d hd=>a2 d (he▸hd)
  obtain ⟨fr,VC⟩:=st
  simp only at hl J1
  have hokS:GP tt E base S all y (ev (mG fr e.dst e.v)) (e.hp VC)=GP tt E base S all y (ev fr) VC:=by
    rw[Oj hl]
    match S,ES with
    | none,_=>rfl
    | some (false,A),_=>simp only[GP]
    | some (true,A),ES =>
      simp only[GP]
      split
      · rfl
      · rename_i Bx
        cases hf:WK tt E y.op with
        | false=>rfl
        | true =>
          have hF:eh tt E y.op = .F:=by revert hf; unfold WK; cases eh tt E y.op <;> simp
          cases hq:e.put with
          | none=>simp only[T7.hp,hq]
          | some jo =>
            obtain ⟨j,ob⟩:=jo
            obtain ⟨rfl,hA⟩:=Q3 j ob hq
            have hna:px y.op=true→False:=fun ha=>by rw[Cm ha]at Bx; cases Bx
            rcases ES with ES|⟨h,_⟩|⟨_,h⟩|⟨h,_⟩|⟨h,_⟩|⟨_,_,_,hsf⟩|⟨h,_⟩
            · rw[qV (by rw[hA]; simp),hF,hA]at ES
              cases ES
            · exact (hna h).elim
            · exact (hna h).elim
            · rw[hA]at h; cases h
            · rw[hA]at h; cases h
            · simp only[T7.hp,hq,hsf,Bool.not_true,Bool.false_or,List.length_set]
              have hbj:=hb (by simp[cj,hA])
              by_cases hm:j∈mS y.op (ev fr) VC
              · have hm2:j∈mS y.op (ev fr) (VC.set j ob):=by
                  by_cases hm2:j∈mS y.op (ev fr) (VC.set j ob)
                  · exact hm2
                  · rw[Pz hm2]; exact hm
                have QA:∀l:List Nat,j∈l→l.all (fun i=>Nat.blt i base)=false:=fun l hl=>by
                  rw[List.all_eq_false]
                  exact ⟨j,hl,by simpa using hbj⟩
                rw[QA _ hm,QA _ hm2]
                simp
              · rw[J0 hm]
            · rw[hA]at h; cases h
      · rfl
      · rfl
  unfold one
  refine LU hl ?_ ?_
  · simp only[eff]
    rw[hokS]
    cases hS:GP tt E base S all y (ev fr) VC with
    | false=>rfl
    | true =>
    simp only[cond_true]
    unfold zd
    simp only
    split
    · rw[Ob (C4 hl)]
      simp only[J1]
    · rename_i Bx
      rw[Py (by rw[Bx]; simp),Oc (C4 hl),Q1 (h:=VC)]
      · simp only[J1]
      · intro i _ hi
        unfold T7.hp
        split
        · rfl
        · rename_i j ob hj
          obtain ⟨rfl,hA⟩:=Q3 _ _ hj
          have:=hb (by simp[cj,hA])
          simp[Eg]at hi
          rw[cZ _ (by omega)]
    · rename_i Bx
      rw[Od (C4 hl)]
      simp only[J1]
      congr 1
      funext ob mk
      congr 2
      unfold T7.hp
      split
      · rfl
      · rename_i j ob' hj
        obtain ⟨rfl,hA⟩:=Q3 _ _ hj
        exact List.set_comm _ _ (hid (by simp[cj,hA]) (by simp[cj,Bx]))
    · rename_i Bx
      rw[Pu (C4 hl)]
      cases Pv:((WL tt S base y).isSome && !vh y.op (ev fr) id)with
      | true=>rfl
      | false =>
        simp only[cond_false]
        cases hq:e.put with
        | none =>
          rw[Oe (C4 hl)]
          simp only[J1,T7.hp,hq]
        | some jo =>
          obtain ⟨j,ob⟩:=jo
          obtain ⟨rfl,hA⟩:=Q3 j ob hq
          have hy:px y.op=true∧S.map (·.1)≠some true∧id<j:=by
            rcases ES with h|⟨h,h3,h2⟩|⟨h,_⟩|⟨h,_⟩|⟨h,_⟩|⟨_,_,h,_⟩|⟨h,_⟩
            · rw[qV (by rw[hA]; simp),qV (by rw[Bx]; simp),hA,Bx]at h; cases h
            · exact ⟨h,h3,h2 (by simp[cj,hA])⟩
            · rw[hA]at h; cases h
            · rw[hA]at h; cases h
            · rw[hA]at h; cases h
            · rw[qV (by rw[Bx]; simp),Bx]at h; cases h
            · rw[hA]at h; cases h
          rw[Oe (C4 hl)]
          simp only[J1,T7.hp,hq]
          have XB:vh y.op (ev fr) id=true:=by rw[Q0 hy.2.1]at Pv; simpa using Pv
          exact opW_set hy.1 XB hy.2.2
    · rename_i Bx
      rw[Py (by rw[Bx]; simp)]
      split
      · rename_i cl hcl'
        simp only[J1]
        have WQ:∀z∈cl.operands,ev (mG fr e.dst e.v) z=ev fr z:=fun z hz=>C4 hl z (by rw[hcl']; exact hz)
        have T9:cl.args.toList.map (ev (mG fr e.dst e.v))=cl.args.toList.map (ev fr):=List.map_congr_left fun z hz=>WQ z (by simp[Call.operands]; exact .inr (by simpa using hz))
        cases WM:oh E y.op with
        | true =>
          have XC:(Option.isNone (some base) || !true)=false:=rfl
          rw[hcl']at WM
          rw[XC]
          unfold xN
          split
          · rename_i f hf
            rw[WQ f (by simp[Call.operands,hf]),T9]
            split
            · split
              · simp only[cond_false]
              · rfl
              · rfl
            · rfl
          · rfl
        | false =>
          have hF:eh tt E y.op = .F:=by unfold eh; rw[Bx]; simp[WM]
          rw[Q2 WQ]
          cases hq:e.put with
          | none =>
            have hh2:∀h2,e.hp h2=h2:=fun h2=>by simp[T7.hp,hq]
            simp only[hh2]
          | some jo =>
            obtain ⟨j,ob⟩:=jo
            obtain ⟨rfl,hA⟩:=Q3 j ob hq
            have hna:px y.op=true→False:=fun ha=>by rw[Cm ha]at Bx; cases Bx
            rcases ES with ES|⟨h,_⟩|⟨_,h⟩|⟨h,_⟩|⟨h,_⟩|⟨_,h2,_,hsf⟩|⟨h,_⟩
            · rw[qV (by rw[hA]; simp),hF,hA]at ES
              cases ES
            · exact (hna h).elim
            · exact (hna h).elim
            · rw[hA]at h; cases h
            · rw[hA]at h; cases h
            · have hh2:∀h2,e.hp h2=h2.set j ob:=fun h2=>by simp[T7.hp,hq]
              simp only[hh2]
              have hif:WK tt E y.op=true:=by unfold WK; rw[hF]
              match S,h2,hS with
              | some (true,A),_,hS =>
                simp only[GP,Bx,hif,hsf,Bool.not_true,Bool.false_or,Bool.and_eq_true,List.all_eq_true]at hS
                have hbj:=hb (by simp[cj,hA])
                have htj:=ht (by simp[cj,hA])
                have h3:base+(all.filter (cj tt)).length≤VC.length:=by simpa using hS.1.1
                rw[hcl']at WM hsf
                refine VB WM hsf (fun hm => ?_) (by omega)
                have h4:=hS.1.2 j (by rw[hcl']; exact hm)
                simp at h4
                omega
            · rw[hA]at h; cases h
      · rfl
    · rfl
    · rfl
  · simp only[eff,J1]

theorem SI {E:Env R} (hE:pK P E) {cl:Call} (hs:mH E (.call cl)=true) {full:Bool} {fr:List V} {k k':V→az→Option R} (he:∀v,k v h=k' v h) :
    xN tt E full cl (ev fr) h k=xN tt E full cl (ev fr) h k':=by
  unfold mH at hs
  simp only at hs
  split at hs
  · rename_i g hg
    simp only[Bool.and_eq_true]at hs
    obtain ⟨h1,h2⟩:=hs
    split at h2
    · rename_i sp Pr
      unfold xN
      simp only[hg,ev,Pr,h1]
      cases full
      · rfl
      · simp only[cond_true]
        exact (hE g _ sp Pr).2 rfl h1 _ _ _ _ he
    · cases h2
  · cases hs

theorem SJ {E:Env R} {cl:Call} (hp:oh E (.call cl)=false) (hs:mH E (.call cl)=false) {full:Bool} {fr:List V} {k k':V→az→Option R}
    (he:∀v h',(∀i,i<h.length→i∉mS (.call cl) (ev fr) h→h'.at i=h.at i)→k v h'=k' v h') (h0:∀v,k v h=k' v h):xN tt E full cl (ev fr) h k=xN tt E full cl (ev fr) h k':=by
  unfold xN
  split
  · rename_i f hf
    split
    · rename_i g first cap hg
      simp only
      split
      · split
        · congr 1
          funext v h'
          cases h' with
          | nil=>exact h0 v
          | cons _ _=>rfl
        · cases full
          · rfl
          · simp only[cond_true]
            unfold W4
            split
            · congr 1
              funext v h'
              cases h' with
              | nil=>simp only[h0]
              | cons _ _=>rfl
            · rfl
      · rename_i sp Pr
        cases full
        · rfl
        · simp only[cond_true]
          cases hg0:oJ.soft g with
          | true =>
            exfalso
            cases f with
            | tmp t=>simp[oh,hf]at hp
            | func g' =>
              simp only[ev,V.func.injEq]at hg
              obtain ⟨rfl,_,_⟩:=hg
              simp[mH,hf,hg0,Pr]at hs
            | const c=>exact DI hg
            | global _=>simp[ev]at hg
          | false =>
            simp only[cond_false]
            congr 1
            funext v h'
            refine he _ _ fun i hi hn => ?_
            unfold az.back
            simp only
            rw[k8 (by rw[fQ]; exact hi)]
            refine DG _ _ _ ?_
            simpa only[mS,hf,hg]using hn
      · rfl
    · rfl
  · rfl

theorem Bo {all:List Oper} {x:Oper} (h:kZ all x=true∨qS all x=true):∃t a y,x.op = .store t a y∧x.dst=none∧x.guard=none:=by
  rcases h with h|h
  · unfold kZ at h
    split at h
    · rename_i ho
      simp only[Bool.and_eq_true,Option.isNone_iff_eq_none]at h
      exact ⟨_,_,_,ho,h.1.1,h.1.2⟩
    · cases h
  · unfold qS at h
    split at h
    · rename_i ho
      simp only[Bool.and_eq_true,Option.isNone_iff_eq_none]at h
      exact ⟨_,_,_,ho,h.1.1,h.1.2⟩
    · cases h
theorem FP {all:List Oper} {x y:Oper} (h:R9 all x y=true):(kZ all x=true∧qS all y=true)∨(qS all x=true∧kZ all y=true):=by
  simpa only[R9,Bool.or_eq_true,Bool.and_eq_true]using h
theorem C5 {all:List Oper} {x y:Oper} (h:R9 all x y=true):fx tt x.op = .W∧fx tt y.op = .W:=by
  have h1:∀z,kZ all z=true∨qS all z=true→fx tt z.op = .W:=fun z hz=>by
    obtain ⟨t,a,y,e,_⟩:=Bo hz
    rw[e]; rfl
  rcases FP h with ⟨h2,h3⟩|⟨h2,h3⟩
  · exact ⟨h1 _ (.inl h2),h1 _ (.inr h3)⟩
  · exact ⟨h1 _ (.inr h2),h1 _ (.inl h3)⟩
theorem J2 (t:Nat) (a y:Operand) (ρ:Operand→V) (h:az) (id:Nat) :
    (∀k:V→az→Option R,KR tt (.store t a y) ρ h id k=none)∨∃i ob,i∈(ρ a).ids∧∀(h2:az) (id2:Nat) (k:V→az→Option R),h2.at i=h.at i→KR tt (.store t a y) ρ h2 id2 k=k .undef (h2.set i ob):=by
  simp only[KR]
  cases hvs:NY (ρ y)with
  | none=>exact .inl fun k=>rfl
  | some vs =>
  simp only
  by_cases hc:(tt.ok t&&decide (vs.length=(tt.at t).size))=true
  rotate_left
  · exact .inl fun k=>by rw[if_neg hc]
  simp only[hc,if_true]
  cases hx:ρ a with
  | ptr i o =>
    simp only
    cases hi:h.at i with
    | cells cs =>
      by_cases hle:o+vs.length≤cs.length
      · exact .inr ⟨i, .cells (zI cs o vs),by simp[V.ids],fun h2 id2 k e=>by simp only[e,hi,hle,if_true]⟩
      · exact .inl fun k=>by simp only[hle,if_false]
    | kI bv =>
      match o,vs with
      | 1, [v]=>exact .inr ⟨i, .kI v,by simp[V.ids],fun h2 id2 k e=>by simp only[e,hi]⟩
      | 0,_=>exact .inl fun k=>rfl
      | 1, []=>exact .inl fun k=>rfl
      | 1,_::_::_=>exact .inl fun k=>rfl
      | _+2,_=>exact .inl fun k=>rfl
    | _=>exact .inl fun k=>rfl
  | s8 i sz j o =>
    simp only
    cases hi:h.at i with
    | row T l =>
      by_cases qs:sz=T.sz
      · by_cases hle:o+vs.length≤(T.cells (l.getD j T.cn)).length
        · cases hz:T.dec (zI (T.cells (l.getD j T.cn)) o vs)with
          | none=>exact .inl fun k=>by simp only[qs,hle,if_true,hz]
          | some z =>
            by_cases hj:j<l.length
            · exact .inr ⟨i, .row T (l.set j z),by simp[V.ids],fun h2 id2 k e=>by simp only[e,hi,qs,hle,if_true,hz,cX,hj,decide_true,cond_true]⟩
            · exact .inl fun k=>by simp only[qs,hle,if_true,hz,cX,hj,decide_false,cond_false]
        · exact .inl fun k=>by simp only[qs,hle,if_true,if_false]
      · exact .inl fun k=>by simp only[qs,if_false]
    | _=>exact .inl fun k=>rfl
  | _=>exact .inl fun k=>rfl
theorem VD {t:Nat} {a y:Operand} {ρ:Operand→V} {id:Nat} {k0:V→az→Option R} {r:R} (hk:KR tt (.store t a y) ρ h id k0=some r) :
    ∃i ob,i∈(ρ a).ids∧k0 .undef (h.set i ob)=some r∧∀(h2:az) (id2:Nat) (k:V→az→Option R),h2.at i=h.at i→KR tt (.store t a y) ρ h2 id2 k=k .undef (h2.set i ob):=by
  rcases J2 (tt:=tt) (R:=R) t a y ρ h id with h1|⟨i,ob,h1,h2⟩
  · rw[h1]at hk; cases hk
  · rw[h2 h id k0 rfl]at hk
    exact ⟨i,ob,h1,hk,h2⟩

theorem Ji {E:Env R} (hE:pK P E) {S:Option (Bool × List Nat)} {base:Nat} {all:List Oper} {y:Oper} {id:Nat} {st:St} {k k':St→Option R} (hb:cj tt y=true→base≤id)
    (h:∀v WO,Kept S tt E all base y st.hp WO→k ⟨mG st.fr y.dst v,WO⟩=k' ⟨mG st.fr y.dst v,WO⟩):one tt E S base all y id st k=one tt E S base all y id st k':=by
  have h0:∀v,k ⟨mG st.fr y.dst v,st.hp⟩=k' ⟨mG st.fr y.dst v,st.hp⟩:=fun v=>h v _ (.inl fun _ _=>rfl)
  obtain ⟨fr,VC⟩:=st
  unfold one
  refine LU (fun _ _=>rfl) ?_ (h0 _)
  cases hS:GP tt E base S all y (ev fr) VC with
  | false=>rfl
  | true =>
  simp only[cond_true]
  unfold zd
  simp only at h h0 ⊢
  split
  · simp only[h0]
  · simp only[h0]
  · rename_i Bx
    congr 1
    funext ob mk
    refine h _ _ (.inl fun i hi => ?_)
    have:=hb (by simp[cj,Bx])
    rw[cZ _ (by omega)]
  · rename_i Bx
    have hbi:=hb (by simp[cj,Bx])
    cases Pv:((WL tt S base y).isSome && !vh y.op (ev fr) id)with
    | true=>rfl
    | false =>
      simp only[cond_false]
      by_cases ha:px y.op=true
      · by_cases SK:S.map (·.1)=some true
        · congr 1
          funext v h'
          refine h v h' (.inr ⟨.inr ⟨SK,ha⟩,fun hF => ?_,fun hv => ?_⟩)
          · rw[qV (by rw[Bx]; simp),Bx]at hF; cases hF
          · obtain ⟨t,a,z,ey,_⟩:=Bo (.inl hv)
            rw[ey]at ha; cases ha
        have XB:vh y.op (ev fr) id=true:=by rw[Q0 SK]at Pv; simpa using Pv
        exact QZ ha XB fun v h' hrd=>h v h' (.inl fun i hi=>hrd i (by omega))
      · have htu:turns tt E y.op := .inl ⟨by rw[qV (by rw[Bx]; simp),Bx],by simpa using ha⟩
        have hnF:eh tt E y.op ≠ .F:=fun hF=>by rw[qV (by rw[Bx]; simp),Bx]at hF; cases hF
        by_cases hv:kZ all y=true
        · obtain ⟨t,a,z,ey,_,_⟩:=Bo (.inl hv)
          rw[ey]
          rcases J2 (tt:=tt) (R:=R) t a z (ev fr) VC id with h1|⟨i,ob,h1,h2⟩
          · rw[h1,h1]
          · rw[h2 VC id _ rfl,h2 VC id _ rfl]
            refine h _ _ (.inr ⟨.inl htu,fun hF=>(hnF hF).elim,fun _ A hA j hj => ?_⟩)
            subst hA
            simp only[GP,Bx,hv,Bool.not_true,Bool.false_or,List.all_eq_true]at hS
            have h3:=hS i (by rw[ey]; exact h1)
            rw[cZ _ (by rintro rfl; exact hj (by simpa using h3))]
        · congr 1
          funext v h'
          exact h v h' (.inr ⟨.inl htu,fun hF=>(hnF hF).elim,fun VE=>(hv VE).elim⟩)
  · rename_i Bx
    rw[Py (by rw[Bx]; simp)]
    split
    · rename_i cl ES
      cases WM:oh E y.op with
      | true =>
        have XC:(Option.isNone (some base) || !true)=false:=rfl
        rw[XC]
        unfold xN
        split
        · split
          · split
            · simp only
              split
              · congr 1
                funext v h'
                cases h' with
                | nil=>exact h0 v
                | cons _ _=>rfl
              · rfl
            · rfl
            · rfl
          · rfl
        · rfl
      | false =>
        have hF:eh tt E y.op = .F:=by unfold eh; rw[Bx]; simp[WM]
        cases hs:mH E y.op with
        | true=>exact SI hE (by rw[←ES]; exact hs) fun v=>h0 v
        | false =>
          have htu:turns tt E y.op := .inr ⟨hF,hs⟩
          refine SJ (by rw[ES]at WM; exact WM) (by rw[ES]at hs; exact hs) (fun v h' hh=>h v h' (.inr ⟨.inl htu,fun _ A hA => ?_,fun hv => ?_⟩)) fun v=>h0 v
          rotate_left
          · obtain ⟨t,a,z,ey,_⟩:=Bo (.inl hv)
            rw[ey]at ES; cases ES
          subst hA
          have hif:WK tt E y.op=true:=by unfold WK; rw[hF]
          simp only[GP,Bx,hif,hs,Bool.not_true,Bool.false_or,List.all_eq_true,Bool.and_eq_true]at hS
          intro i hi
          have h1:=hS.2 i hi
          rw[ES]at h1
          rw[hh i (by simpa using h1.1) (by simpa using h1.2)]
    · rfl
  · rfl
  · rfl
end

section
variable {P:Program} {tt:dJ} {w w':World} {h h':az} {c c':kh} {R:Type}

theorem XD {o:Oper} {a:Act} {G:Prop} (h:o.wp P a w (fun _ _=>G) (fun _ _ _=>G)):G:=by
  unfold Oper.wp at h
  generalize (execOp a.eval o).run P w=r at h
  cases r with
  | ok n w' =>
    cases n <;> simp only[Oper.upon]at h <;> try (first|exact h|exact h.elim)
    · obtain ⟨e,w',fr,hR,_⟩:=h []
      cases e with
      | returned v=>exact hR
      | panicked c=>exact hR
      | outgrown=>obtain ⟨_,_,g⟩:=hR; exact g
    · obtain ⟨v,w',g,_⟩:=h (Frame.enter P 0 #[] .normal) []
      exact g
  | halt x w'=>cases x <;> simp only[Oper.upon]at h <;> first|exact h|exact h.elim

theorem VF (T:xy P tt) {E:Env R} (hE:pK P E) {S:Option (Bool × List Nat)} {base:Nat} {ops:Array Oper} {y:Oper} {id:Nat} {st:St} {a:Act} {k:St→Option R} {r:R} (hk:one tt E S base ops.toList y id st k=some r) (iF:G0 w c st a)
    (hid:cj tt y=true→base≤id∧id<st.hp.length∧st.hp.at id = .free) :
    ∃w1 c1 Jh a1 v,G0 w1 c1 Jh a1∧k Jh=some r∧Jh.fr=mG st.fr y.dst v∧Kept S tt E ops.toList base y st.hp Jh.hp∧tH (cj tt y) id st.hp Jh.hp:=by
  classical
  obtain ⟨k',qT,hof⟩:∃k':St→Option R,one tt E S base ops.toList y id st k'=some r∧∀Jh,k' Jh=some r→k Jh=some r∧Kept S tt E ops.toList base y st.hp Jh.hp:=by
    refine ⟨fun Jh=>if Kept S tt E ops.toList base y st.hp Jh.hp then k Jh else none,?_,fun Jh e => ?_⟩
    · rw[←hk]
      refine Ji hE (fun ha=>(hid ha).1) fun v WO ht => ?_
      rw[if_pos ht]
    · simp only at e
      split at e
      · exact ⟨e, ‹_›⟩
      · cases e
  rcases DH iF qT with ⟨_,hk⟩|⟨_,hk⟩
  · have hk:zd tt E (WL tt S base y) id y st k'=some r:=by
      cases hS:GP tt E base S ops.toList y (ev st.fr) st.hp with
      | true=>rw[hS]at hk; exact hk
      | false=>rw[hS]at hk; cases hk
    refine XD (P:=P) (o:=y) (a:=a) (w:=w) (E3 T hE hk iF (fun ha=>(hid ha).2) fun d w' s9 c' v SH x kp hf _ _ qT => ?_)
    exact ⟨w',c',s9,_,v,SH,(hof _ qT).1,hf,(hof _ qT).2,kp⟩
  · exact ⟨w,c,⟨mG st.fr y.dst (.tuple []),st.hp⟩,a.put y.dst undef, .tuple [],⟨iF.wf,Aw iF.fr _ Jg⟩,(hof _ hk).1,rfl, .inl fun _ _=>rfl, .refl _ _ _⟩

structure Good (tt:dJ) (base n:Nat) (rem:List vQ) (h:az):Prop where
  top:∀z∈rem,cj tt z.2.1=true→z.2.2<base+n
  slot:∀z∈rem,cj tt z.2.1=true→base≤z.2.2∧z.2.2<h.length∧h.at z.2.2 = .free
  apart:rem.Pairwise fun z z'=>cj tt z.2.1=true→cj tt z'.2.1=true→z.2.2<z'.2.2

theorem Good.sub {base n:Nat} {rem rem':List vQ} (g:Good tt base n rem h) (hs:List.Sublist rem' rem):Good tt base n rem' h :=
  ⟨fun z hz=>g.top z (hs.subset hz),fun z hz=>g.slot z (hs.subset hz),g.apart.sublist hs⟩

theorem Good.step {base n:Nat} {x:vQ} {pre post:List vQ} (g:Good tt base n (pre++x::post) h) (kp:tH (cj tt x.2.1) x.2.2 h h'):Good tt base n (pre++post) h':=by
  have hs:List.Sublist (pre++post) (pre++x::post):=List.Sublist.append (List.Sublist.refl _) (List.sublist_cons_self _ _)
  refine ⟨fun z hz=>g.top z (hs.subset hz),fun z hz ha => ?_,g.apart.sublist hs⟩
  obtain ⟨h1,h2,h3⟩:=g.slot z (hs.subset hz) ha
  refine ⟨h1,Nat.lt_of_lt_of_le h2 kp.1,kp.2 _ (fun hx => ?_) h2 h3⟩
  have hp:=g.apart
  rw[List.pairwise_append,List.pairwise_cons]at hp
  rcases List.mem_append.1 hz with hz|hz
  · have:=hp.2.2 z hz x (by simp) ha hx; omega
  · have:=hp.2.1.1 z hz hx ha; omega

theorem LY {all:List Oper} {x y:Oper} (h2:xQ all x y=true):xQ all y x=true:=by
  obtain ⟨a1,a2,a3⟩:=apart_spec h2
  simp only[xQ,Bool.and_eq_true]
  constructor
  · cases hd:y.dst with
    | none=>rfl
    | some d =>
      have h3:=a3 d hd
      have h4:x.dst≠some d:=fun e=>a2 d e hd
      simp[h3,h4]
  · cases hd:x.dst with
    | none=>rfl
    | some d=>simp[a1 d hd]
theorem LZ {a b:Cls} (h:Gq a b=true):Gq b a=true:=by revert h; cases a <;> cases b <;> simp[Gq]
theorem Bp {E:Env R} {all:List Oper} {x y:Oper} (h:I3 tt E all x y=true):xQ all x y=true ∧
    (Gq (eh tt E x.op) (eh tt E y.op)=true∨(px x.op=true∧(eh tt E y.op = .A∨eh tt E y.op = .R))∨(eh tt E x.op = .R∧px y.op=true)∨(mH E x.op=true∧eh tt E y.op = .R)∨(eh tt E x.op = .R∧mH E y.op=true)):=by
  simp only[I3,Bool.and_eq_true,Bool.or_eq_true,tokPair]at h
  obtain ⟨h1,h2⟩:=h
  refine ⟨h2,?_⟩
  rcases h1 with h1|(⟨h1,h3⟩|⟨h1,h3⟩)|(⟨h1,h3⟩|⟨h1,h3⟩)
  · exact .inl h1
  · refine .inr (.inl ⟨h1,?_⟩)
    revert h3; cases eh tt E y.op <;> simp
  · refine .inr (.inr (.inl ⟨?_,h3⟩))
    revert h1; cases eh tt E x.op <;> simp
  · refine .inr (.inr (.inr (.inl ⟨h1,?_⟩)))
    revert h3; cases eh tt E y.op <;> simp
  · refine .inr (.inr (.inr (.inr ⟨?_,h3⟩)))
    revert h1; cases eh tt E x.op <;> simp
theorem Q4 {E:Env R} {o:Op} (h:WK tt E o=true):eh tt E o = .F:=by revert h; unfold WK; cases eh tt E o <;> simp
theorem XE {E:Env R} {all:List Oper} {x:Oper} (h:UN tt E all x=true):eh tt E x.op = .R:=by
  simp only[UN,Bool.and_eq_true]at h
  revert h
  cases eh tt E x.op <;> simp
theorem VG {E:Env R} {all:List Oper} {x:Oper} (h:N0 tt E all x=true):eh tt E x.op = .R:=by
  simp only[N0,Bool.and_eq_true]at h
  revert h
  cases eh tt E x.op <;> simp
theorem qA {E:Env R} {far:Option Bool} {all:List Oper} {x y:Oper} (h:Eh tt E far all x y=true):xQ all x y=true∧((I3 tt E all x y=true∧(far=some true→Ql tt E x y=true))∨(far=some true ∧
    ((UN tt E all x=true∧eh tt E x.op = .R∧eh tt E y.op = .F)∨(eh tt E x.op = .F∧mH E x.op=false∧fx tt y.op = .A)∨R9 all x y=true))∨(far=some false∧N0 tt E all x=true∧eh tt E x.op = .R∧kZ all y=true)):=by
  unfold Eh at h
  simp only[Bool.or_eq_true,Bool.and_eq_true]at h
  rcases h with ⟨h,hn⟩|h
  · exact ⟨(Bp h).1, .inl ⟨h,fun e=>by subst e; exact hn⟩⟩
  · split at h
    · cases h
    · simp only[Bool.or_eq_true,Bool.and_eq_true]at h
      rcases h with ⟨(⟨h2,h3⟩|⟨h2,h3,h5⟩)|h2,h4⟩
      · exact ⟨h4, .inr (.inl ⟨rfl, .inl ⟨h2,XE h2,Q4 h3⟩⟩)⟩
      · refine ⟨h4, .inr (.inl ⟨rfl, .inr (.inl ⟨Q4 h2,by simpa using h3,?_⟩)⟩)⟩
        revert h5
        cases fx tt y.op <;> simp
      · exact ⟨h4, .inr (.inl ⟨rfl, .inr (.inr h2)⟩)⟩
    · simp only[Bool.and_eq_true]at h
      exact ⟨h.2, .inr (.inr ⟨rfl,h.1.1,VG h.1.1,h.1.2⟩)⟩
theorem PA {all:List Oper} {x:Oper} (h:kZ all x=true∨qS all x=true):fx tt x.op = .W:=by
  obtain ⟨t,a,y,e,_⟩:=Bo h
  rw[e]; rfl
theorem Ol {E:Env R} {S:Option (Bool × List Nat)} {base:Nat} {all:List Oper} {x:Oper} {id:Nat} {fr:List V} {k0:St→Option R} {r:R} (hx:kZ all x=true∨qS all x=true) (hk:one tt E S base all x id ⟨fr,h⟩ k0=some r) :
    GP tt E base S all x (ev fr) h=true∧∃i ob,i∈Br x.op (ev fr)∧k0 ⟨fr,h.set i ob⟩=some r∧∀(h2:az) (id2:Nat) (k:St→Option R),h2.at i=h.at i→one tt E S base all x id2 ⟨fr,h2⟩ k=k ⟨fr,h2.set i ob⟩:=by
  obtain ⟨t,a,y,e,hd,hg⟩:=Bo hx
  obtain ⟨dst,op,ty,pos,after,guard⟩:=x
  simp only at e hd hg
  subst e hd hg
  unfold one at hk ⊢
  rw[Bn]at hk
  simp only at hk
  have hS:GP tt E base S all ⟨none, .store t a y,ty,pos,after,none⟩ (ev fr) h=true:=by
    cases hS:GP tt E base S all ⟨none, .store t a y,ty,pos,after,none⟩ (ev fr) h with
    | true=>rfl
    | false=>rw[hS]at hk; cases hk
  refine ⟨hS,?_⟩
  have SK:∀(dr:Option Nat) (id:Nat) (h:az) (k:St→Option R),zd tt E dr id ⟨none, .store t a y,ty,pos,after,none⟩ ⟨fr,h⟩ k=KR tt (.store t a y) (ev fr) h id fun v h=>k ⟨mG fr none v,h⟩:=fun dr id h k=>by cases dr <;> rfl
  rw[hS,cond_true,SK]at hk
  obtain ⟨i,ob,h1,h2,h3⟩:=VD (tt:=tt) (t:=t) (a:=a) (y:=y) (ρ:=ev fr) (id:=id) (k0:=fun v h=>k0 ⟨mG fr none v,h⟩) hk
  refine ⟨i,ob,h1,h2,fun hh id2 k e => ?_⟩
  rw[Bn]
  simp only
  have hS2:GP tt E base S all ⟨none, .store t a y,ty,pos,after,none⟩ (ev fr) hh=true:=by
    rw[←hS]
    match S with
    | none=>rfl
    | some (true,A)=>rfl
    | some (false,A)=>rfl
  rw[hS2,cond_true,SK]
  exact h3 hh id2 (fun v h=>k ⟨mG fr none v,h⟩) e
theorem L0 {E:Env R} {o:Op} (hs:mH E o=true):fx tt o = .C:=by
  unfold mH at hs
  split at hs
  · split at hs
    · rename_i cl _ g hg
      simp only[fx,hg]
    · cases hs
  · cases hs
theorem PB {E:Env R} {o:Op} (hs:mH E o=true):eh tt E o = .F:=by
  have hc:=L0 (tt:=tt) hs
  have hp:oh E o=false:=by
    unfold mH at hs
    unfold oh
    split at hs
    · split at hs
      · rename_i cl _ g hg
        simp only[Bool.and_eq_true]at hs
        obtain ⟨_,h2⟩:=hs
        split at h2
        · rename_i sp Pr
          simp only[hg,Pr]
        · cases h2
      · cases hs
    · cases hs
  unfold eh
  rw[hc,hp]
  rfl
theorem SL {E:Env R} {o:Op} (ha:px o=true):eh tt E o = .W:=by rw[qV (by rw[Cm ha]; simp),Cm ha]
theorem L1 {E:Env R} {o:Op} {a:Cls} (h:eh tt E o=a) (h1:a ≠ .C) (h2:a ≠ .F):fx tt o=a:=by
  unfold eh at h
  split at h
  · revert h; cases oh E o <;> intro h <;> subst h <;> simp at h1 h2
  · exact h
theorem Om {E:Env R} {all:List Oper} {x y:Oper} (h:I3 tt E all x y=true∨I3 tt E all y x=true) (hR:fx tt x.op = .R):¬turns tt E y.op:=by
  have hx:eh tt E x.op = .R:=by rw[qV (by rw[hR]; simp),hR]
  intro ht
  have hna:px y.op=true→False:=fun ha=>by
    rcases ht with ⟨_,h⟩|⟨h,_⟩
    · rw[ha]at h; cases h
    · rw[SL ha]at h; cases h
  have Hv:mH E y.op=true→False:=fun hs=>by
    rcases ht with ⟨h,_⟩|⟨_,h⟩
    · rw[PB hs]at h; cases h
    · rw[hs]at h; cases h
  have hc:Gq .R (eh tt E y.op)=false:=by rcases ht with ⟨h,_⟩|⟨h,_⟩ <;> rw[h] <;> rfl
  rcases h with h|h
  · rcases (Bp h).2 with h|⟨h,_⟩|⟨_,h⟩|⟨h,_⟩|⟨_,h⟩
    · rw[hx,hc]at h; cases h
    · rw[SL h]at hx; cases hx
    · exact hna h
    · rw[PB h]at hx; cases hx
    · exact Hv h
  · rcases (Bp h).2 with h|⟨h,_⟩|⟨h,h'⟩|⟨h,_⟩|⟨_,h⟩
    · have:=LZ h; rw[hx,hc]at this; cases this
    · exact hna h
    · rw[SL h']at hx; cases hx
    · exact Hv h
    · rw[PB h]at hx; cases hx

theorem Cn.symm {S:Option (Bool × List Nat)} {E:Env R} {all:List Oper} {base:Nat} {x:Oper} {s t:St} (h:Cn S E all tt base x s t):Cn S E all tt base x t s:=⟨fun u hu=>(h.1 u hu).symm,fun hR i hi hA hB=>(h.2 hR i hi hA hB).symm⟩
theorem Cn.trans {S:Option (Bool × List Nat)} {E:Env R} {all:List Oper} {base:Nat} {x:Oper} {s t u:St} (h:Cn S E all tt base x s t) (h':Cn S E all tt base x t u):Cn S E all tt base x s u :=
  ⟨fun v hv=>(h'.1 v hv).trans (h.1 v hv),fun hR i hi hA hB=>(h'.2 hR i hi hA hB).trans (h.2 hR i hi hA hB)⟩

theorem DJ {E:Env R} {S:Option (Bool × List Nat)} {all:List Oper} {base:Nat} {x y:Oper} (hp:Eh tt E (S.map (·.1)) all x y=true∨Eh tt E (S.map (·.1)) all y x=true) {st Jh:St} {v:V} (hf:Jh.fr=mG st.fr y.dst v) (hh:Kept S tt E all base y st.hp Jh.hp) :
    Cn S E all tt base x st Jh:=by
  have h2:xQ all y x=true:=by
    rcases hp with h|h
    · exact LY (qA h).1
    · exact (qA h).1
  refine ⟨fun t ht => ?_,fun hR i hi hA hB => ?_⟩
  · rw[hf]
    exact Oi fun e=>(apart_spec h2).1 t e ht
  · rcases hh with hh|⟨hW,hh,hh2⟩
    · exact hh i hi
    · have hx:eh tt E x.op = .R:=by rw[qV (by rw[hR]; simp),hR]
      rcases hp with h|h
      · rcases (qA h).2 with ⟨h,hn⟩|⟨h1,⟨h3,_,h4⟩|⟨h4,_⟩|h4⟩|⟨h1,h3,_,h4⟩
        · rcases hW with hW|⟨SK,ha⟩
          · exact (Om (.inl h) hR hW).elim
          · have:=hn SK
            simp[Ql,rdA,hx,ha]at this
        · match S,h1 with
          | some (true,A),_=>exact hh h4 A rfl i (hA A rfl h3)
        · rw[hx]at h4; cases h4
        · rw[(C5 (tt:=tt) h4).1]at hR; cases hR
        · match S,h1 with
          | some (false,A),_=>exact hh2 h4 A rfl i (hB A rfl h3)
      · rcases (qA h).2 with ⟨h,hn⟩|⟨_,⟨_,_,h4⟩|⟨_,_,h4⟩|h4⟩|⟨_,_,_,h4⟩
        · rcases hW with hW|⟨SK,ha⟩
          · exact (Om (.inr h) hR hW).elim
          · have:=hn SK
            simp[Ql,rdA,hx,ha]at this
        · rw[hx]at h4; cases h4
        · rw[hR]at h4; cases h4
        · rw[(C5 (tt:=tt) h4).2]at hR; cases hR
        · rw[PA (tt:=tt) (.inl h4)]at hR; cases hR

section
variable {E:Env R} {S:Option (Bool × List Nat)} {base:Nat} {ops:Array Oper} {k:St→Option R} {r:R}

theorem pull (hE:pK P E) {x:vQ} {e:T7} {st0:St} (hc:calm (fx tt x.2.1.op)=true) (he:e.dst=x.2.1.dst) (Q3:∀i ob,e.put=some (i,ob)→i=x.2.2∧fx tt x.2.1.op = .A)
    (hnat:∀BV,Cn S E ops.toList tt base x.2.1 st0 BV→∀k,one tt E S base ops.toList x.2.1 x.2.2 BV k=k (eff BV e)) (post:List vQ) :
    ∀(pre:List vQ) (st:St) (h:az),Good tt base (ops.toList.filter (cj tt)).length (pre++x::post) h→(∀y∈pre,Eh tt E (S.map (·.1)) ops.toList y.2.1 x.2.1=true)→Cn S E ops.toList tt base x.2.1 st0 st →
      Eu tt E S base ops.toList (pre++x::post) st k=Eu tt E S base ops.toList (pre++post) (eff st e) k
  | [],st,_,_,_,ha=>hnat st ha _
  | y::pre,st,h,g,hp,ha=>by
    have hpy:=hp y (by simp)
    have gx:cj tt x.2.1=true→base≤x.2.2:=fun hx=>(g.slot x (by simp) hx).1
    have gy:cj tt y.2.1=true→base≤y.2.2:=fun hx=>(g.slot y (by simp) hx).1
    have glt:cj tt x.2.1=true→cj tt y.2.1=true→y.2.2<x.2.2:=fun hx hy=>by
      have:=g.apart
      rw[List.cons_append,List.pairwise_cons]at this
      exact this.1 x (by simp) hy hx
    have gne:cj tt x.2.1=true→cj tt y.2.1=true→x.2.2≠y.2.2:=fun hx hy=>by have:=glt hx hy; omega
    have ES:Gq (eh tt E x.2.1.op) (eh tt E y.2.1.op)=true∨(px y.2.1.op=true∧S.map (·.1)≠some true∧(cj tt x.2.1=true→y.2.2<x.2.2))∨(fx tt x.2.1.op = .R∧px y.2.1.op=true)∨(fx tt x.2.1.op = .R∧mH E y.2.1.op=true)∨(fx tt x.2.1.op = .R∧eh tt E y.2.1.op = .F)∨(fx tt x.2.1.op = .A∧S.map (·.1)=some true∧eh tt E y.2.1.op = .F∧mH E y.2.1.op=false)∨(fx tt x.2.1.op = .R∧fx tt y.2.1.op = .W):=by
      rcases (qA hpy).2 with ⟨hpo,hna⟩|⟨hSo,⟨_,_,hF⟩|⟨hF,hsf,hA⟩|hW⟩|⟨_,_,_,hW⟩
      rotate_left
      rotate_left
      · exact .inr (.inr (.inr (.inr (.inr (.inl ⟨hA,hSo,hF,hsf⟩)))))
      · rw[(C5 (tt:=tt) hW).2]at hc; cases hc
      · rw[PA (tt:=tt) (.inl hW)]at hc; cases hc
      rotate_left
      · have hC:fx tt x.2.1.op = .C:=by
          unfold eh at hF
          split at hF
          · assumption
          · rw[hF]at hc; cases hc
        rw[hC]at hc; cases hc
      rcases (Bp hpo).2 with h|⟨h,h'⟩|⟨_,h⟩|⟨h,h'⟩|⟨_,h⟩
      · exact .inl (LZ h)
      · refine .inr (.inl ⟨h,fun SK => ?_,fun hx=>glt hx (by simp[cj,Cm h])⟩)
        have:=hna SK
        rcases h' with h'|h' <;> simp[Ql,rdA,h,h']at this
      · rw[Cm h]at hc; cases hc
      · exact .inr (.inr (.inr (.inl ⟨L1 h' (by simp) (by simp),h⟩)))
      · rw[L0 h]at hc; cases hc
    simp only[List.cons_append,Eu]
    rw[Ua ES (LY (qA hpy).1) hc he Q3 gne gx fun hx=>g.top x (by simp) hx]
    refine Ji hE gy fun v WO hh => ?_
    exact pull hE hc he Q3 hnat post pre _ h (g.sub (List.sublist_cons_self _ _)) (fun z hz=>hp z (by simp[hz])) (ha.trans (DJ (.inr hpy) rfl hh))

theorem find (T:xy P tt) (hE:pK P E) {x:vQ} (post:List vQ):∀(pre:List vQ) (w:World) (c:kh) (st:St) (a:Act),G0 w c st a→Good tt base (ops.toList.filter (cj tt)).length (pre++x::post) st.hp→(∀y∈pre,Eh tt E (S.map (·.1)) ops.toList y.2.1 x.2.1=true) →
    Eu tt E S base ops.toList (pre++x::post) st k=some r→∃s9 k',Cn S E ops.toList tt base x.2.1 st s9∧one tt E S base ops.toList x.2.1 x.2.2 s9 k'=some r
  | [],_,_,st,_,_,_,_,hk=>⟨st,_,⟨fun _ _=>rfl,fun _ _ _ _ _=>rfl⟩,hk⟩
  | y::pre,w,c,st,a,iF,g,hp,hk=>by
    simp only[List.cons_append,Eu]at hk
    obtain ⟨w1,c1,Jh,a1,v,s1,Vw,hf,hh,kp⟩:=VF T hE hk iF (fun ha=>g.slot y (by simp) ha)
    obtain ⟨s9,k',h1,h2⟩:=find T hE post pre w1 c1 Jh a1 s1 (Good.step (pre := []) g kp) (fun z hz=>hp z (by simp[hz])) Vw
    exact ⟨s9,k',(DJ (.inr (hp y (by simp))) hf hh).trans h1,h2⟩

theorem XF (hE:pK P E) {x:vQ} (post:List vQ):∀(pre:List vQ) (st:St) (h:az),Good tt base (ops.toList.filter (cj tt)).length (pre++x::post) h→(∀y∈pre,Eh tt E (S.map (·.1)) ops.toList y.2.1 x.2.1=true∧(calm (fx tt y.2.1.op)=true∨(S.map (·.1)=some true∧R9 ops.toList y.2.1 x.2.1=true))) →
    Eu tt E S base ops.toList (pre++x::post) st k=some r→one tt E S base ops.toList x.2.1 x.2.2 st (fun Jh=>Eu tt E S base ops.toList (pre++post) Jh k)=some r
  | [],_,_,_,_,hk=>hk
  | y::pre,st,h,g,hp,hk=>by
    obtain ⟨hpy,Bx⟩:=hp y (by simp)
    simp only[List.cons_append,Eu]at hk ⊢
    rcases Bx with Bx|⟨hSo,hW⟩
    rotate_left
    · have hvy:kZ ops.toList y.2.1=true∨qS ops.toList y.2.1=true:=(FP hW).imp (·.1) (·.1)
      have hvx:kZ ops.toList x.2.1=true∨qS ops.toList x.2.1=true:=((FP hW).imp (·.2) (·.2)).symm
      obtain ⟨fr,hp0⟩:=st
      obtain ⟨sy,i,ob,iy,Vw,ny⟩:=Ol hvy hk
      have ih:=XF hE post pre _ h (g.sub (List.sublist_cons_self _ _)) (fun z hz=>hp z (by simp[hz])) Vw
      obtain ⟨sx,j,ob',ix,GU,nx⟩:=Ol hvx ih
      have j7:i≠j:=by
        match S,hSo,sy,sx with
        | some (true,A),_,sy,sx =>
          simp only[GP,(C5 (tt:=tt) hW).1,Bool.and_eq_true,Bool.or_eq_true,Bool.not_eq_true',List.all_eq_true]at sy
          simp only[GP,(C5 (tt:=tt) hW).2,Bool.and_eq_true,Bool.or_eq_true,Bool.not_eq_true',List.all_eq_true]at sx
          rintro rfl
          rcases FP hW with ⟨g1,g2⟩|⟨g1,g2⟩
          · have a1:=sy.1.resolve_left (by simp[g1]) i iy
            have a2:=sx.2.resolve_left (by simp[g2]) i ix
            rw[a1]at a2; cases a2
          · have a1:=sy.2.resolve_left (by simp[g1]) i iy
            have a2:=sx.1.resolve_left (by simp[g2]) i ix
            rw[a2]at a1; cases a1
      rw[nx hp0 _ _ (cZ _ j7).symm,ny (hp0.set j ob') _ _ (cZ _ (Ne.symm j7)),←List.set_comm _ _ j7]
      exact GU
    obtain ⟨e,h1,h2,h3,h4⟩:=T8 Bx hk
    have gx:cj tt x.2.1=true→base≤x.2.2:=fun hx=>(g.slot x (by simp) hx).1
    have gy:cj tt y.2.1=true→base≤y.2.2:=fun hx=>(g.slot y (by simp) hx).1
    have gne:cj tt y.2.1=true→cj tt x.2.1=true→y.2.2≠x.2.2:=fun hy hx=>by
      have:=g.apart
      rw[List.cons_append,List.pairwise_cons]at this
      exact Nat.ne_of_lt (this.1 x (by simp) hy hx)
    have ES:Gq (eh tt E y.2.1.op) (eh tt E x.2.1.op)=true∨(px x.2.1.op=true∧S.map (·.1)≠some true∧(cj tt y.2.1=true→x.2.2<y.2.2))∨(fx tt y.2.1.op = .R∧px x.2.1.op=true)∨(fx tt y.2.1.op = .R∧mH E x.2.1.op=true)∨(fx tt y.2.1.op = .R∧eh tt E x.2.1.op = .F)∨(fx tt y.2.1.op = .A∧S.map (·.1)=some true∧eh tt E x.2.1.op = .F∧mH E x.2.1.op=false)∨(fx tt y.2.1.op = .R∧fx tt x.2.1.op = .W):=by
      rcases (qA hpy).2 with ⟨hpo,_⟩|⟨_,⟨_,hR,hF⟩|⟨hF,_⟩|hW⟩|⟨_,_,hR,hW⟩
      rotate_left
      · exact .inr (.inr (.inr (.inr (.inl ⟨L1 hR (by simp) (by simp),hF⟩))))
      · have hC:fx tt y.2.1.op = .C:=by
          unfold eh at hF
          split at hF
          · assumption
          · rw[hF]at Bx; cases Bx
        rw[hC]at Bx; cases Bx
      · rw[(C5 (tt:=tt) hW).1]at Bx; cases Bx
      · exact .inr (.inr (.inr (.inr (.inr (.inr ⟨L1 hR (by simp) (by simp),PA (.inl hW)⟩)))))
      rcases (Bp hpo).2 with h|⟨h,_⟩|⟨h,h'⟩|⟨h,_⟩|⟨h,h'⟩
      · exact .inl h
      · rw[Cm h]at Bx; cases Bx
      · exact .inr (.inr (.inl ⟨L1 h (by simp) (by simp),h'⟩))
      · rw[L0 h]at Bx; cases Bx
      · exact .inr (.inr (.inr (.inl ⟨L1 h (by simp) (by simp),h'⟩)))
    have ih:=XF hE post pre (eff st e) h (g.sub (List.sublist_cons_self _ _)) (fun z hz=>hp z (by simp[hz])) h3
    rw[Ua ES (qA hpy).1 Bx h1 h2 gne gy fun hy=>g.top y (by simp) hy]at ih
    rw[←ih]
    refine Ji hE gx fun v WO hh => ?_
    exact h4 _ (DJ (.inl hpy) rfl hh) _

theorem bubble (T:xy P tt) (hE:pK P E) {x:vQ} {pre post:List vQ} {st:St} {a:Act} (iF:G0 w c st a) (g:Good tt base (ops.toList.filter (cj tt)).length (pre++x::post) st.hp) (hp:∀y∈pre,Eh tt E (S.map (·.1)) ops.toList y.2.1 x.2.1=true)
    (hk:Eu tt E S base ops.toList (pre++x::post) st k=some r):one tt E S base ops.toList x.2.1 x.2.2 st (fun Jh=>Eu tt E S base ops.toList (pre++post) Jh k)=some r:=by
  by_cases hc:calm (fx tt x.2.1.op)=true
  · obtain ⟨s9,k',h1,h2⟩:=find T hE post pre w c st a iF g hp hk
    obtain ⟨e,e1,e2,_,e4⟩:=T8 hc h2
    rw[e4 st h1.symm,←pull hE hc e1 e2 e4 post pre st _ g hp h1.symm]
    exact hk
  · refine XF hE post pre st _ g (fun y hy=>⟨hp y hy,?_⟩) hk
    have h0:=(qA (hp y hy)).2
    by_cases hfw:S.map (·.1)=some true∧R9 ops.toList y.2.1 x.2.1=true
    · exact .inr hfw
    refine .inl ?_
    have hy:eh tt E y.2.1.op = .P∨eh tt E y.2.1.op = .R∨eh tt E y.2.1.op = .A:=by
      have hx:¬calm (eh tt E x.2.1.op)=true:=by
        unfold eh
        split
        · cases oh E x.2.1.op <;> simp[calm]
        · exact hc
      rcases h0 with ⟨h0,_⟩|⟨hSo,⟨_,h0,_⟩|⟨_,_,h0⟩|h0⟩|⟨_,_,h0,_⟩
      rotate_left
      · exact .inr (.inl h0)
      · exact (hc (by rw[h0]; rfl)).elim
      · exact (hfw ⟨hSo,h0⟩).elim
      · exact .inr (.inl h0)
      have h1:=(Bp h0).2
      rcases h1 with h1|⟨_,h1⟩|⟨h1,_⟩|⟨_,h1⟩|⟨h1,_⟩
      · revert h1 hx
        cases eh tt E x.2.1.op <;> cases eh tt E y.2.1.op <;> simp[Gq,calm]
      · exact (hx (by rcases h1 with h|h <;> rw[h] <;> rfl)).elim
      · exact .inr (.inl h1)
      · exact (hx (by rw[h1]; rfl)).elim
      · exact .inr (.inl h1)
    have j7:fx tt y.2.1.op ≠ .C:=fun e=>by
      unfold eh at hy
      rw[e]at hy
      cases hp2:oh E y.2.1.op <;> simp[hp2]at hy
    rw[qV j7]at hy
    rcases hy with h|h|h <;> rw[h] <;> rfl
end

theorem xY:∀(l:List Oper) (i id:Nat) (x:vQ),x∈number tt l i id→i≤x.1∧x.1<i+l.length∧l[x.1 - i]? = some x.2.1∧id≤x.2.2∧(cj tt x.2.1=true→x.2.2<id+(l.filter (cj tt)).length)
  | [],_,_,_,h=>by simp[number]at h
  | o::l,i,id,x,h=>by
    simp only[number,List.mem_cons]at h
    rcases h with rfl|h
    · refine ⟨Nat.le_refl _,by simp,by simp,Nat.le_refl _,fun ha => ?_⟩
      simp only at ha
      simp only[List.filter_cons_of_pos ha,List.length_cons]
      omega
    · obtain ⟨h1,h2,h3,h4,h5⟩:=xY l _ _ x h
      have e:x.1 - i=(x.1 - (i+1))+1:=by omega
      refine ⟨by omega,by simp; omega,by rw[e]; simpa using h3,?_,fun ha => ?_⟩
      · split at h4 <;> omega
      · have:=h5 ha
        by_cases ho:cj tt o=true
        · rw[if_pos ho]at this
          rw[List.filter_cons_of_pos ho,List.length_cons]; omega
        · rw[if_neg ho]at this
          rw[List.filter_cons_of_neg ho]; omega

theorem DK:∀(l:List Oper) (i id:Nat),(number tt l i id).Pairwise fun z z'=>z.1<z'.1∧(cj tt z.2.1=true→cj tt z'.2.1=true→z.2.2<z'.2.2)
  | [],_,_=>by simp[number]
  | o::l,i,id=>by
    simp only[number,List.pairwise_cons]
    refine ⟨fun z hz => ?_,DK l _ _⟩
    obtain ⟨h1,_,_,h4,_⟩:=xY l _ _ z hz
    refine ⟨by omega,fun ha _ => ?_⟩
    rw[if_pos ha]at h4
    omega

theorem L2:∀(l:List Oper) (i id j:Nat),i≤j→j<i+l.length→∃x∈number tt l i id,x.1=j
  | [],i,_,j,h1,h2=>by simp at h2; omega
  | o::l,i,id,j,h1,h2=>by
    by_cases e:i=j
    · exact ⟨(i,o,id),by simp[number],e⟩
    · obtain ⟨x,hx,ex⟩:=L2 l (i+1) (if cj tt o then id+1 else id) j (by omega) (by simp at h2; omega)
      exact ⟨x,by simp[number,hx],ex⟩

structure Left (ops:Array Oper) (b:List (List Nat)) (listed:Array Bool) (rem:List vQ):Prop where
  size:listed.size=ops.size
  sorted:rem.Pairwise fun z z'=>z.1<z'.1
  op:∀x∈rem,ops[x.1]? = some x.2.1
  un:∀x∈rem,listed.getD x.1 true=false
  all:∀i,listed.getD i true=false→∃x∈rem,x.1=i
  closed:∀m,listed.getD m false=true→∀i∈b.getD m [],listed.getD i false=true

theorem L3 {listed:Array Bool} {i:Nat} (h:i<listed.size):listed.getD i false=true↔¬listed.getD i true=false:=by
  simp[h]

theorem VH (T:xy P tt) {E:Env R} (hE:pK P E) {S:Option (Bool × List Nat)} {base:Nat} {ops:Array Oper} {b:List (List Nat)} {k:St→Option R} {r:R} {Q:Exit→Act→World→Prop}
    (hpair:∀i j x y,i<j→ops[i]? = some x→ops[j]? = some y→i∈b.getD j []∨Eh tt E (S.map (·.1)) ops.toList x y=true)
    (hback:∀(j:Nat) (y:Oper),ops[j]? = some y→∀e∈y.after,Region.binds .any e=true→e.on<j)
    (hclo:∀(j:Nat) (y:Oper),ops[j]? = some y→∀i∈b.getD j [],∃e∈y.after,Region.binds .any e=true∧(e.on=i∨i∈b.getD e.on [])) :
    ∀(fuel:Nat) (listed:Array Bool) (rem:List vQ) (w:World) (c:kh) (st:St) (a:Act),rem.length≤fuel→Left ops b listed rem→Good tt base (ops.toList.filter (cj tt)).length rem st.hp→G0 w c st a→Eu tt E S base ops.toList rem st k=some r →
      Xw w c st a k r (Q .normal)→wpAny P .any ops Q fuel listed a w:=by
  intro fuel
  -- if nothing is ready, nothing is left
  have hnone:∀listed rem,Left ops b listed rem→Region.ready .any ops listed = []→rem = []:=by
    intro listed rem lf hr
    cases rem with
    | nil=>rfl
    | cons x rest =>
      have:x.1∈Region.ready .any ops listed:=by
        rw[mem_ready]
        refine ⟨lf.un x (by simp),x.2.1,lf.op x (by simp),fun e he hb => ?_⟩
        have kY:=hback x.1 x.2.1 (lf.op x (by simp)) e he hb
        have hx:x.1<ops.size:=(Array.getElem?_eq_some_iff.1 (lf.op x (by simp))).1
        rw[L3 (by rw[lf.size]; omega)]
        intro hun
        obtain ⟨y,hy,ey⟩:=lf.all _ hun
        rcases List.mem_cons.1 hy with rfl|hy
        · omega
        · have:=(List.pairwise_cons.1 lf.sorted).1 y hy
          omega
      rw[hr]at this
      cases this
  induction fuel with
  | zero =>
    intro listed rem w c st a hl lf g iF hk go
    obtain rfl:rem = []:=List.eq_nil_of_length_eq_zero (by omega)
    refine ⟨?_,go a w st c iF (.refl _ _ _) rfl hk⟩
    cases hr:Region.ready .any ops listed with
    | nil=>rfl
    | cons i l =>
      have hi:i∈Region.ready .any ops listed:=by rw[hr]; simp
      obtain ⟨x,hx,_⟩:=lf.all i (mem_ready.1 hi).1
      cases hx
  | succ fuel ih =>
    intro listed rem w c st a hl lf g iF hk go
    refine ⟨fun hr => ?_,fun i hi => ?_⟩
    · obtain rfl:=hnone _ _ lf hr
      exact go a w st c iF (.refl _ _ _) rfl hk
    · obtain ⟨hun,o,ho,hdone⟩:=mem_ready.1 hi
      obtain ⟨x,hx,rfl⟩:=lf.all i hun
      obtain ⟨pre,post,rfl⟩:=List.append_of_mem hx
      have hox:=lf.op x (by simp)
      rw[hox]at ho
      cases ho
      have Ub:=lf.sorted
      rw[List.pairwise_append,List.pairwise_cons]at Ub
      have hbx:∀j∈b.getD x.1 [],listed.getD j false=true:=fun j hj=>by
        obtain ⟨e,he,hb,hor⟩:=hclo x.1 x.2.1 hox j hj
        have hel:=hdone e he hb
        rcases hor with rfl|hj
        · exact hel
        · exact lf.closed _ hel j hj
      have hpr:∀y∈pre,Eh tt E (S.map (·.1)) ops.toList y.2.1 x.2.1=true:=fun y hy=>by
        rcases hpair y.1 x.1 y.2.1 x.2.1 (Ub.2.2 y hy x (by simp)) (lf.op y (by simp[hy])) hox with h1|h1
        · have h2:=hbx _ h1
          have h3:=lf.un y (by simp[hy])
          have hy':y.1<ops.size:=(Array.getElem?_eq_some_iff.1 (lf.op y (by simp[hy]))).1
          rw[L3 (by rw[lf.size]; exact hy')]at h2
          exact (h2 h3).elim
        · exact h1
      have HW:=bubble T hE iF g hpr hk
      have XG:x.1<listed.size:=by rw[lf.size]; exact (Array.getElem?_eq_some_iff.1 hox).1
      have lf':Left ops b (listed.setIfInBounds x.1 true) (pre++post):=by
        have hs:List.Sublist (pre++post) (pre++x::post):=List.Sublist.append (List.Sublist.refl _) (List.sublist_cons_self _ _)
        have j7:∀y∈pre++post,x.1≠y.1:=fun y hy=>by
          rcases List.mem_append.1 hy with hy|hy
          · have:=Ub.2.2 y hy x (by simp); omega
          · have:=Ub.2.1.1 y hy; omega
        refine ⟨by simp[lf.size],lf.sorted.sublist hs,fun y hy=>lf.op y (hs.subset hy),fun y hy => ?_,fun j hj => ?_,fun m hm j hj => ?_⟩
        · rw[getD_set_ne true (j7 y hy)]; exact lf.un y (hs.subset hy)
        · by_cases e:x.1=j
          · subst e; simp[XG]at hj
          · rw[getD_set_ne true e]at hj
            obtain ⟨y,hy,ey⟩:=lf.all j hj
            refine ⟨y,?_,ey⟩
            rcases List.mem_append.1 hy with h1|h1
            · exact List.mem_append_left _ h1
            · rcases List.mem_cons.1 h1 with rfl|h1
              · exact (e ey).elim
              · exact List.mem_append_right _ h1
        · refine getD_set_true ?_
          by_cases e:x.1=m
          · subst e; exact hbx j hj
          · rw[getD_set_ne false e]at hm; exact lf.closed m hm j hj
      have WN:(pre++post).length≤fuel:=by simp at hl ⊢; omega
      unfold wpOp
      simp only[hox]
      rcases DH iF HW with ⟨hw,HW⟩|⟨hw,HW⟩
      · rw[if_pos hw]
        have HW:zd tt E (WL tt S base x.2.1) x.2.2 x.2.1 st (fun Jh=>Eu tt E S base ops.toList (pre++post) Jh k)=some r:=by
          cases hS:GP tt E base S ops.toList x.2.1 (ev st.fr) st.hp with
          | true=>rw[hS]at HW; exact HW
          | false=>rw[hS]at HW; cases HW
        refine .inl (E3 T hE HW iF (fun ha=>(g.slot x (by simp) ha).2) fun d w' s9 c' v SH xt kp _ _ _ qT => ?_)
        exact ih _ _ w' c' s9 _ WN lf' (g.step kp) SH qT fun a2 w2 BV c2 s2 x2 d2 k2=>go a2 w2 BV c2 s2 (xt.trans x2) (d2.trans (put_defers _ _ _)) k2
      · rw[if_neg (by simp[hw])]
        exact ih _ _ w c ⟨mG st.fr x.2.1.dst (.tuple []),st.hp⟩ (a.put x.2.1.dst undef) WN lf' (g.step (.refl _ _ _)) ⟨iF.wf,Aw iF.fr _ Jg⟩ HW fun a2 w2 BV c2 s2 x2 d2 k2=>go a2 w2 BV c2 s2 x2 (d2.trans (put_defers _ _ _)) k2

theorem FQ (n:Nat):Ext w h c { w with drawn:=n } h c where
  os:=rfl
  tape:=rfl
  output:=rfl
  size:=Nat.le_refl _
  used:=fun _ hi=>hi
  same:=fun i hi hd=>⟨C2 (FM hi.2 hd) (fun _ _ _ => .inr trivial),rfl,rfl⟩
  cell:=fun _ _ _ _=>rfl
  block:=fun _ _ _=>rfl
  wa:=fun _ _ _ ho=>ho
  ext:=rfl
  arr:=fun b arr e fz hb=>⟨arr,fz,hb,rfl⟩

theorem XH (wf:WF w h c) (n:Nat):WF { w with drawn:=n } h c where
  lay:=wf.rW (FQ n)
  xS:=wf.xS
  pz:=wf.pz
  obj:=fun i hi=>by
    by_cases hl:(h.at i).live
    · exact (wf.obj i hi).keep (FQ n) (fun _ _=>rfl) rfl rfl
    · have h0:h.at i = .free∨h.at i = .dead:=by revert hl; cases h.at i <;> simp[bY.live]
      rcases h0 with h0|h0 <;> rw[h0] <;> trivial
  inj:=wf.inj

theorem J3 (M:List Nat) (i:Nat):∀(es:List Nat) (m:Nat),(es.foldl (fun m e=>m ||| (Nat.pow 2 e ||| M.getD e 0)) m).testBit i=true→m.testBit i=true∨∃e∈es,e=i∨(M.getD e 0).testBit i=true
  | [],m,h => .inl h
  | e::es,m,h=>by
    rcases J3 M i es _ h with h|⟨x,hx,h⟩
    · rw[Nat.testBit_or,Nat.testBit_or,Bool.or_eq_true,Bool.or_eq_true]at h
      rcases h with h|h|h
      · exact .inl h
      · have h':(2 ^ e).testBit i=true:=h
        rw[Nat.testBit_two_pow]at h'
        exact .inr ⟨e,by simp, .inl (of_decide_eq_true h')⟩
      · exact .inr ⟨e,by simp, .inr h⟩
    · exact .inr ⟨x,by simp[hx],h⟩

theorem E5 {n j i:Nat} {M:List Nat} (hj:j<n):i∈(beforeL n M).getD j []↔i<n∧(M.getD j 0).testBit i=true:=by
  unfold beforeL
  rw[List.getD_eq_getElem?_getD,List.getElem?_map,List.getElem?_range hj]
  simp

theorem SM (T:xy P tt) (hm:P.follows .mixedOrders=true) {E:Env R} (hE:pK P E) {id:Nat} {ops:Array Oper} {k:St→Option R} {r:R} {Q:Exit→Act→World→Prop} {st:St} {a:Act}
    (hk:FK tt E ops.toList true st k=some r) (iF:G0 w c st a) (go:Xw w c st a k r (Q .normal)):(Code.region id ops true).wp P Q a w:=by
  obtain ⟨S,hd,hk⟩:∃S:Option (Bool × List Nat),EW tt E (S.map (·.1)) ops.toList=true∧Eu tt E S st.hp.length ops.toList (number tt ops.toList 0 st.hp.length) ⟨st.fr,st.hp++List.replicate (ops.toList.filter (cj tt)).length .free⟩ k=some r:=by
    simp only[FK,if_true]at hk
    split at hk
    · rename_i hd
      rw[Px _ 0]at hk
      exact ⟨none,hd,hk⟩
    · split at hk
      · rename_i hd
        rw[KX _ 0]at hk
        exact ⟨some (true,Ln ops.toList st.fr),hd,hk⟩
      · split at hk
        · rename_i hd
          rw[KX _ 0]at hk
          exact ⟨some (false,Lo ops.toList st.fr),hd,hk⟩
        · cases hk
  refine wp_region_any hm ?_
  have ze:∀j,j<ops.size→((List.range j).all (fun i=>((Hy ops.toList).getD j 0).testBit i||Eh tt E (S.map (·.1)) ops.toList (ops.toList.getD i default) (ops.toList.getD j default))=true ∧
      (Dx (ops.toList.getD j default)).all (fun i=>Nat.blt i j)=true∧(Hy ops.toList).getD j 0=KS (Hy ops.toList) (Dx (ops.toList.getD j default))):=by
    intro j hj
    unfold EW at hd
    simp only at hd
    rw[List.all_eq_true]at hd
    have:=hd j (by simpa using hj)
    simp only[Bool.and_eq_true]at this
    exact ⟨this.1.1,this.1.2,Nat.eq_of_beq_eq_true this.2⟩
  have CC:∀(j:Nat) (y:Oper),ops[j]? = some y→ops.toList.getD j default=y∧j<ops.size:=fun j y hy=>by
    refine ⟨?_,(Array.getElem?_eq_some_iff.1 hy).1⟩
    rw[List.getD,Array.getElem?_toList,hy]; rfl
  have hbind:∀(y:Oper) (n:Nat),n∈Dx y↔∃e∈y.after,Region.binds .any e=true∧e.on=n:=by
    intro y n
    simp[Dx,List.mem_map,List.mem_filter,and_assoc]
  have SH:G0 { w with drawn:=w.drawn+1 } c ⟨st.fr,st.hp++List.replicate (ops.toList.filter (cj tt)).length .free⟩ a :=
    ⟨XH (E4 iF.wf _) _,(iF.fr.mono (tf _)).mono (FQ _)⟩
  refine VH T hE (S:=S) (base:=st.hp.length) (b:=beforeL ops.size (Hy ops.toList)) (fun i j x y xC hx hy => ?_) (fun j y hy e he hb => ?_) (fun j y hy i hi => ?_) ops.size _ (number tt ops.toList 0 st.hp.length) _ c _ a ?_ ?_ ?_ SH hk ?_
  · obtain ⟨h1,h2⟩:=CC i x hx
    obtain ⟨h3,h4⟩:=CC j y hy
    have:=List.all_eq_true.1 (ze j h4).1 i (by simpa using xC)
    rw[h1,h3,Bool.or_eq_true]at this
    rcases this with h|h
    · exact .inl ((E5 h4).2 ⟨h2,h⟩)
    · exact .inr h
  · obtain ⟨h3,h4⟩:=CC j y hy
    have:=(ze j h4).2.1
    rw[h3,List.all_eq_true]at this
    simpa using this e.on ((hbind y _).2 ⟨e,he,hb,rfl⟩)
  · obtain ⟨h3,h4⟩:=CC j y hy
    have heq:=(ze j h4).2.2
    have kY:=(ze j h4).2.1
    rw[h3]at heq kY
    obtain ⟨hin,hbit⟩:=(E5 h4).1 hi
    rw[heq]at hbit
    unfold KS at hbit
    rcases J3 _ i _ _ hbit with h|⟨n,hn,h⟩
    · simp at h
    · obtain ⟨e,he,hb,rfl⟩:=(hbind y n).1 hn
      refine ⟨e,he,hb,h.imp (fun h=>h) fun h => ?_⟩
      have:=List.all_eq_true.1 kY e.on hn
      have hon:e.on<j:=by simpa using this
      exact (E5 (Nat.lt_trans hon h4)).2 ⟨hin,h⟩
  · have:∀(l:List Oper) (i id:Nat),(number tt l i id).length=l.length:=by
      intro l
      induction l with
      | nil=>intros; rfl
      | cons o l ih=>intros; simp[number,ih]
    rw[this]; simp
  · refine ⟨by simp,(DK _ _ _).imp fun h=>h.1,fun x hx => ?_,fun x hx => ?_,fun i hi => ?_,fun m hm => ?_⟩
    · obtain ⟨_,_,h3,_⟩:=xY _ _ _ x hx
      simpa using h3
    · obtain ⟨_,h2,_⟩:=xY _ _ _ x hx
      simp at h2
      simp[h2]
    · have:i<ops.size:=by
        rcases Nat.lt_or_ge i ops.size with h|h
        · exact h
        · simp[Nat.not_lt.2 h]at hi
      exact L2 _ 0 _ i (Nat.zero_le _) (by simpa using this)
    · rcases Nat.lt_or_ge m ops.size with h|h
      · simp[h]at hm
      · simp[Nat.not_lt.2 h]at hm
  · refine ⟨fun z hz ha=>(xY _ _ _ z hz).2.2.2.2 ha,fun z hz ha => ?_,(DK _ _ _).imp fun h=>h.2⟩
    obtain ⟨_,_,_,h4,h5⟩:=xY _ _ _ z hz
    have h5:=h5 ha
    refine ⟨h4,by simp; omega,?_⟩
    rw[jY h4]
    have:z.2.2 - st.hp.length<(ops.toList.filter (cj tt)).length:=by omega
    simp[az.at,List.getD,List.getElem?_replicate,this]
  · exact fun a2 w2 BV c2 s2 x2 d2 k2=>go a2 w2 BV c2 s2 (((tf _).trans (FQ _)).trans x2) d2 k2
end

section
variable {P:Program} {tt:dJ} {w w':World} {h h':az} {c c':kh} {R:Type}

theorem J4 (h:az):∀(n:Nat) (l rest seen:List Nat),(seen++l).Nodup→l.length≤n→∃t,reach h n (l++rest) seen=seen++l++t
  | n, [],rest,seen,_,_=>by
    have key:∀(n:Nat) (todo seen:List Nat),∃t,reach h n todo seen=seen++t:=by
      intro n
      induction n with
      | zero=>exact fun _ _=>⟨[],by simp[reach]⟩
      | succ n ih =>
        intro todo seen
        cases todo with
        | nil=>exact ⟨[],by simp[reach]⟩
        | cons i todo =>
          simp only[reach]
          split
          · exact ih _ _
          · obtain ⟨t,ht⟩:=ih (todo++(h.at i).ids) (seen ++ [i])
            exact ⟨i::t,by rw[ht]; simp⟩
    obtain ⟨t,ht⟩:=key n rest seen
    exact ⟨t,by simpa using ht⟩
  | 0,i::l,_,_,_,hl=>by simp at hl
  | n+1,i::l,rest,seen,hn,hl=>by
    have hi:i∉seen:=fun hm=>by
      rw[List.nodup_append]at hn
      exact hn.2.2 i hm i (by simp) rfl
    obtain ⟨t,ht⟩:=J4 h n l (rest++(h.at i).ids) (seen ++ [i]) (by simpa using hn) (by simpa using hl)
    refine ⟨t,?_⟩
    simp only[List.cons_append,reach,List.contains_iff_mem,hi,if_false,List.append_assoc]at ht ⊢
    simpa using ht

theorem Q5 {w0:World} {h0:az} {c0:kh} (x:Ext w0 h0 c0 w h c) {ord:List Nat} (hf:∀i,i<h0.length→ord[i]? = some i):Ext w0 h0 c0 w (h.pick ord) (c.pick ord c.ext) where
  os:=x.os
  tape:=x.tape
  output:=x.output
  size:=x.size
  used:=fun i hi=>by
    have e:=hf i hi.1
    refine ⟨by simpa [az.pick]using (List.getElem?_eq_some_iff.1 e).1,?_⟩
    rw[uZ,e]
    simp only[ne_eq,CZ]
    exact (x.used i hi).2
  same:=fun i hi hd=>by
    have e:=hf i hi.1
    rw[uZ,e]at hd ⊢
    simp only[ne_eq,HQ]at hd
    obtain ⟨s1,s2,s3⟩:=x.same i hi hd
    exact ⟨N8.2 s1,by simp[kh.pick,e,s2],by simp[kh.pick,List.getD,e,s3]⟩
  cell:=x.cell
  block:=x.block
  wa:=fun b y hb ho=>by
    obtain ⟨i,_,f,g1,g2,g3⟩:=C1 ho
    exact x.wa b y hb ⟨i,f,g1,g2,g3⟩
  ext:=x.ext
  arr:=x.arr

theorem HX (wf:WF w h c) {ord:List Nat} (Et:ord.Nodup):WF w (h.pick ord) (c.pick ord c.ext) :=
  T5 wf Et (fun _ _ hf=>hf.2) wf.pz (fun b x ⟨i,_,f,g1,g2,g3⟩=>wf.xS b x ⟨i,f,g1,g2,g3⟩)

theorem Gs {ord:List Nat} {cs:List V} {ds:List Value} (r:cH w h c cs ds):cH w (h.pick ord) (c.pick ord c.ext) (V.xP (xM ord) cs) ds :=
  r.pJ (LM fun _ _ hf=>hf.2)

theorem VI {m:Nat} {t:List Nat} {i:Nat} (hi:i<m):(List.range m++t)[i]? = some i:=by
  rw[List.getElem?_append_left (by simpa using hi),List.getElem?_range hi]

theorem J5 (h:az) {m n:Nat} (hmn:m≤n) (rest:List Nat):(reach h n (List.range m++rest) []).Nodup∧∀i,i<m→(reach h n (List.range m++rest) [])[i]? = some i:=by
  refine ⟨Cj h _ _ _ (by simp),fun i hi => ?_⟩
  obtain ⟨t,ht⟩:=J4 h n (List.range m) rest [] (by simpa using List.nodup_range) (by simpa using hmn)
  rw[ht]
  simpa using VI (t:=t) hi

theorem L4 {w0:World} {h0:az} {c0:kh} {st:St} {a:Act} (iF:G0 w c st a) (x:Ext w0 h0 c0 w st.hp c) (hm:h0.length≤200):∃c',G0 w c' (st.gc h0.length) a∧Ext w0 h0 c0 w (st.gc h0.length).hp c':=by
  obtain ⟨h1,h2⟩:=J5 st.hp (m:=h0.length) (n:=256) (by omega) (V.sv st.fr)
  exact ⟨_,⟨HX iF.wf h1,Gs iF.fr⟩,Q5 x h2⟩

theorem G3 {fr:List V} {ds:List Value} (r:cH w h c fr ds) (live drop:List Nat):cH w h c (Dy live drop fr) ds:=by
  refine ⟨by simp[Dy,r.1],fun j v d hv hd => ?_⟩
  unfold Dy at hv
  rw[List.getElem?_map,List.getElem?_zipIdx]at hv
  cases e:fr[j]? with
  | none=>rw[e]at hv; cases hv
  | some u =>
    rw[e]at hv
    simp at hv
    subst hv
    have ru:=r.2 j u d e hd
    split
    · split
      · exact JZ ru
      · exact ru
    · exact .undef _

theorem Ax:∀(l:List (Nat × Ty)) (st:St) (c:kh) (a:Act),G0 w c st a→∃c',G0 w c' (GQ l st) a∧Ext w st.hp c w (GQ l st).hp c'
  | [],st,c,a,iF=>⟨c,iF, .refl _ _ _⟩
  | (d,T)::l,st,c,a,iF=>by
    have key:∀(U:Ty),(∀x,a.tmps.toList[d]? = some x→x = .slice none 0 0) →
        ∃c',G0 w c' ⟨st.fr.set d (.sl U [] (.own st.hp.length)),st.hp ++ [.tok]⟩ a∧Ext w st.hp c w (st.hp ++ [.tok]) c':=by
      intro U hx
      obtain ⟨c',k1,k2,k3⟩:=HL (id:=st.hp.length) (T:=U) (E4 iF.wf 1) (by simp) (by rw[jY (Nat.le_refl _)]; simp[az.at])
      have e:(st.hp++List.replicate 1 bY.free).set st.hp.length .tok=st.hp ++ [.tok]:=by simp
      rw[e]at k1 k2 k3
      have k4:=(tf (w:=w) (h:=st.hp) (c:=c) 1).trans k2
      refine ⟨c',⟨k1,?_⟩,k4⟩
      have rf:=iF.fr.mono k4
      refine ⟨by simp[rf.1],fun j v x hv hx' => ?_⟩
      rw[List.getElem?_set]at hv
      by_cases hj:d=j
      · subst hj
        rw[if_pos rfl]at hv
        split at hv
        · cases hv
          rw[hx x hx']
          exact k3
        · cases hv
      · rw[if_neg hj]at hv
        exact rf.2 j v x hv hx'
    simp only[GQ]
    have rd:=iF.fr.getD d undef
    split
    · rename_i he
      rw[he]at rd
      obtain ⟨c',s',x'⟩:=key T fun x hx=>by
        rw[List.getD,hx]at rd
        cases rd; rfl
      obtain ⟨c2,s2,x2⟩:=Ax l _ c' a s'
      exact ⟨c2,s2,x'.trans x2⟩
    · rename_i T' l' he
      rw[he]at rd
      have hl:l' = []:=by
        generalize a.tmps.toList.getD d undef=q at rd
        cases rd with
        | sl f lO sw hc hr xR mR =>
          have:=(xR rfl).2
          exact List.eq_nil_of_length_eq_zero (by omega)
      subst hl
      obtain ⟨c',s',x'⟩:=key T' fun x hx=>by
        rw[List.getD,hx]at rd
        simp only[Option.getD_some]at rd
        generalize hn:([]:List T'.den)=nl at rd
        cases rd with
        | sl f lO sw hc hr xR mR =>
          obtain ⟨rfl,rfl⟩:=xR rfl
          subst hn
          rfl
      obtain ⟨c2,s2,x2⟩:=Ax l _ c' a s'
      exact ⟨c2,s2,x'.trans x2⟩
    · exact Ax l st c a iF

theorem put_nil {st:St} {a:Act} {d:Nat} {v:V} {h':az} {c':kh} (iF:G0 w c st a) (he:st.fr.getD d .undef = .cF) (k1:WF w h' c') (k4:Ext w st.hp c w h' c') (k3:dC w h' c' v (.slice none 0 0)) :
    G0 w c' ⟨st.fr.set d v,h'⟩ a:=by
  refine ⟨k1,?_⟩
  have rf:=iF.fr.mono k4
  refine ⟨by simp[rf.1],fun j u x hv hx' => ?_⟩
  rw[List.getElem?_set]at hv
  by_cases hj:d=j
  · subst hj
    rw[if_pos rfl]at hv
    split at hv
    · cases hv
      have rd:=iF.fr.getD d undef
      rw[he,List.getD,hx']at rd
      cases rd
      exact k3
    · cases hv
  · rw[if_neg hj]at hv
    exact rf.2 j u x hv hx'

theorem Uc (wf:WF w h c) (T:Ty):∃c',WF w (h ++ [.row T []]) c'∧Ext w h c w (h ++ [.row T []]) c'∧dC w (h ++ [.row T []]) c' (.row h.length 0) (.slice none 0 0):=by
  obtain ⟨c',k1,k2,k3⟩:=LK (id:=h.length) (T:=T) (E4 wf 1) (by simp) (by rw[jY (Nat.le_refl _)]; simp[az.at])
  have e:(h++List.replicate 1 bY.free).set h.length (.row T [])=h ++ [.row T []]:=by simp
  rw[e]at k1 k2 k3
  exact ⟨c',k1,(tf 1).trans k2,k3⟩

theorem Q6 (wf:WF w h c) (T:Ty) (rw:Bool):∃c',WF w (h ++ [Ah T rw]) c'∧Ext w h c w (h ++ [Ah T rw]) c'∧dC w (h ++ [Ah T rw]) c' (wC T rw h.length) (.slice none 0 0):=by
  unfold Ah wC
  cases rw with
  | true=>exact Uc wf T
  | false =>
    simp only[cond_false]
    obtain ⟨c',k1,k2,k3⟩:=HL (id:=h.length) (T:=T) (E4 wf 1) (by simp) (by rw[jY (Nat.le_refl _)]; simp[az.at])
    have e:(h++List.replicate 1 bY.free).set h.length .tok=h ++ [.tok]:=by simp
    rw[e]at k1 k2 k3
    exact ⟨c',k1,(tf 1).trans k2,k3⟩

theorem DL:∀(l:List (Nat × Ty)) (st:St) (c:kh) (a:Act),G0 w c st a→∃c',G0 w c' (EX l st) a∧Ext w st.hp c w (EX l st).hp c'
  | [],st,c,a,iF=>⟨c,iF, .refl _ _ _⟩
  | (d,T)::l,st,c,a,iF=>by
    simp only[EX]
    split
    · rename_i he
      obtain ⟨c',k1,k2,k3⟩:=Uc iF.wf T
      obtain ⟨c2,s2,x2⟩:=DL l ⟨st.fr.set d (.row st.hp.length 0),st.hp ++ [.row T []]⟩ c' a (put_nil iF he k1 k2 k3)
      exact ⟨c2,s2,k2.trans x2⟩
    · exact DL l st c a iF

theorem Jj {i:Nat} {cs ds:List V} (he:h.at i = .cells cs) (hl:ds.length=cs.length):Ext w h c w (h.set i (.cells ds)) c where
  os:=rfl
  tape:=rfl
  output:=rfl
  size:=Nat.le_refl _
  used:=fun j hj=>⟨by simpa using hj.1,by rw[ni]; split; simp; exact hj.2⟩
  same:=fun j hj hd=>by
    rw[ni]at hd ⊢
    split
    · rename_i hc
      obtain ⟨rfl,_⟩:=hc
      rw[he]
      exact ⟨hl.symm,rfl,rfl⟩
    · rename_i hc
      rw[if_neg hc]at hd
      exact ⟨C2 (FM hj.2 hd) (fun _ _ _ => .inr trivial),rfl,rfl⟩
  cell:=fun _ _ _ _=>rfl
  block:=fun _ _ _=>rfl
  wa:=fun b x _ ho=>by
    obtain ⟨j,f,g1,g2,g3⟩:=ho
    rw[ni]at g2
    split at g2
    · rename_i hc
      obtain ⟨rfl,_⟩:=hc
      exact ⟨i,f,g1,by rw[he]; exact g2,g3⟩
    · exact ⟨j,f,g1,g2,g3⟩
  ext:=rfl
  arr:=fun b arr e fz hb=>⟨arr,fz,hb,rfl⟩

theorem XI (wf:WF w h c) {i:Nat} {cs ds:List V} (he:h.at i = .cells cs) (hl:ds.length=cs.length) (Es:oq w (h.set i (.cells ds)) c i (.cells ds)):WF w (h.set i (.cells ds)) c where
  lay:=wf.rW (Jj he hl)
  xS:=fun b x ho he'=>by
    obtain ⟨j,f,g1,g2,g3⟩:=ho
    refine wf.xS b x ?_ he'
    rw[ni]at g2
    split at g2
    · rename_i hc
      obtain ⟨rfl,_⟩:=hc
      exact ⟨i,f,g1,by rw[he]; exact g2,g3⟩
    · exact ⟨j,f,g1,g2,g3⟩
  pz:=wf.pz
  obj:=fun j hj=>by
    rw[ni]
    split
    · rename_i hc
      obtain ⟨rfl,_⟩:=hc
      exact Es
    · have ho:=wf.obj j (by simpa using hj)
      by_cases hv:(h.at j).live
      · exact ho.keep (Jj he hl) (fun _ _=>rfl) rfl rfl
      · have h0:h.at j = .free∨h.at j = .dead:=by revert hv; cases h.at j <;> simp[bY.live]
        rcases h0 with h0|h0 <;> rw[h0] <;> trivial
  inj:=fun j k b hj hk h1 h2=>by
    have key:∀j,(az.at (h.set i (.cells ds)) j).live→(h.at j).live:=fun j hj=>by
      rw[ni]at hj
      split at hj
      · rename_i hc
        obtain ⟨rfl,_⟩:=hc
        rw[he]; trivial
      · exact hj
    exact wf.inj j k b (key j hj) (key k hk) h1 h2

theorem L5 {i:Nat} {o':bY} (hf:∀f,(h.at i).from_ f=some 0) (Vi:∀f,o'.from_ f=some 0) (tP:(h.at i).iF o') (j7:o' ≠ .free):Ext w h c w (h.set i o') c where
  os:=rfl
  tape:=rfl
  output:=rfl
  size:=Nat.le_refl _
  used:=fun j hj=>⟨by simpa using hj.1,by rw[ni]; split; exact j7; exact hj.2⟩
  same:=fun j hj hd=>by
    rw[ni]at hd ⊢
    split
    · rename_i hc
      obtain ⟨rfl,_⟩:=hc
      exact ⟨tP,rfl,rfl⟩
    · rename_i hc
      rw[if_neg hc]at hd
      exact ⟨C2 (FM hj.2 hd) (fun _ _ _ => .inr trivial),rfl,rfl⟩
  cell:=fun _ _ _ _=>rfl
  block:=fun _ _ _=>rfl
  wa:=fun b x _ ho=>by
    obtain ⟨j,f,g1,g2,g3⟩:=ho
    rw[ni]at g2
    split at g2
    · rename_i hc
      obtain ⟨rfl,_⟩:=hc
      rw[Vi]at g2
      cases g2
      exact ⟨i,0,g1,hf _,g3⟩
    · exact ⟨j,f,g1,g2,g3⟩
  ext:=rfl
  arr:=fun b arr e fz hb=>⟨arr,fz,hb,rfl⟩

theorem turn_wf (wf:WF w h c) {i:Nat} {o':bY} (hf:∀f,(h.at i).from_ f=some 0) (Vi:∀f,o'.from_ f=some 0) (tP:(h.at i).iF o') (j7:o' ≠ .free) (Es:oq w (h.set i o') c i o'):WF w (h.set i o') c where
  lay:=wf.rW (L5 hf Vi tP j7)
  xS:=fun b x ho he'=>by
    obtain ⟨j,f,g1,g2,g3⟩:=ho
    refine wf.xS b x ?_ he'
    rw[ni]at g2
    split at g2
    · rename_i hc
      obtain ⟨rfl,_⟩:=hc
      rw[Vi]at g2
      cases g2
      exact ⟨i,0,g1,hf _,g3⟩
    · exact ⟨j,f,g1,g2,g3⟩
  pz:=wf.pz
  obj:=fun j hj=>by
    rw[ni]
    split
    · rename_i hc
      obtain ⟨rfl,_⟩:=hc
      exact Es
    · have ho:=wf.obj j (by simpa using hj)
      by_cases hv:(h.at j).live
      · exact ho.keep (L5 hf Vi tP j7) (fun _ _=>rfl) rfl rfl
      · have h0:h.at j = .free∨h.at j = .dead:=by revert hv; cases h.at j <;> simp[bY.live]
        rcases h0 with h0|h0 <;> rw[h0] <;> trivial
  inj:=fun j k b hj hk h1 h2=>by
    have key:∀j,(az.at (h.set i o') j).live→(h.at j).live:=fun j hj=>by
      rw[ni]at hj
      split at hj
      · rename_i hc
        obtain ⟨rfl,_⟩:=hc
        exact td (hf 0)
      · exact hj
    exact wf.inj j k b (key j hj) (key k hk) h1 h2

theorem rI:∀(l:List (Nat × Nat × Ty × Bool)) (st:St) (c:kh) (a:Act),G0 w c st a→∃c',G0 w c' (As l st) a∧Ext w st.hp c w (As l st).hp c'
  | [],st,c,a,iF=>⟨c,iF, .refl _ _ _⟩
  | (i,o,T,rw)::l,st,c,a,iF=>by
    simp only[As]
    split
    · rename_i cs BU
      split
      · rename_i ho
        obtain ⟨c',k1,k2,k3⟩:=Q6 iF.wf T rw
        have hi:=az.gD BU (by simp)
        have SN:az.at (st.hp ++ [Ah T rw]) i = .cells cs:=by rw[k8 hi]; exact BU
        have e:st.hp.set i (.cells (cs.set o (wC T rw st.hp.length))) ++ [Ah T rw]=(st.hp ++ [Ah T rw]).set i (.cells (cs.set o (wC T rw st.hp.length))):=by
          rw[List.set_append_left _ _ hi]
        rw[e]
        have hl:(cs.set o (wC T rw st.hp.length)).length=cs.length:=by simp
        have x1:=Jj (w:=w) (c:=c') SN hl
        have Es:=k1.obj i (by simp; omega)
        rw[SN]at Es
        obtain ⟨b,arr,el,g1,g2,g3⟩:=Es
        have w1:=XI k1 SN hl (by
          refine ⟨b,arr,el,g1,g2,?_⟩
          have g3':=g3.mono x1
          refine ⟨by simpa using g3'.1,fun j v d hv hd => ?_⟩
          rw[List.getElem?_set]at hv
          by_cases hj:o=j
          · subst hj
            rw[if_pos rfl]at hv
            split at hv
            · cases hv
              have rd:=g3.getD o undef
              rw[ho,List.getD,hd]at rd
              cases rd
              exact k3.mono x1
            · cases hv
          · rw[if_neg hj]at hv
            exact g3'.2 j v d hv hd)
        have x2:=k2.trans x1
        obtain ⟨c2,s2,x3⟩:=rI l ⟨st.fr,(st.hp ++ [Ah T rw]).set i (.cells (cs.set o (wC T rw st.hp.length)))⟩ c' a ⟨w1,iF.fr.mono x2⟩
        exact ⟨c2,s2,x2.trans x3⟩
      · exact rI l st c a iF
    · rename_i v BU
      split
      · obtain ⟨c',k1,k2,k3⟩:=Q6 iF.wf T rw
        have hi:=az.gD BU (by simp)
        have SN:az.at (st.hp ++ [Ah T rw]) i = .kI .cF:=by rw[k8 hi]; exact BU
        have e:st.hp.set i (.kI (wC T rw st.hp.length)) ++ [Ah T rw]=(st.hp ++ [Ah T rw]).set i (.kI (wC T rw st.hp.length)):=by
          rw[List.set_append_left _ _ hi]
        rw[e]
        have hf:∀f,(az.at (st.hp ++ [Ah T rw]) i).from_ f=some 0:=fun f=>by rw[SN]; rfl
        have tP:(az.at (st.hp ++ [Ah T rw]) i).iF (.kI (wC T rw st.hp.length)):=by rw[SN]; trivial
        have x1:=L5 (w:=w) (c:=c') hf (o' := .kI (wC T rw st.hp.length)) (fun _=>rfl) tP (by simp)
        have Es:=k1.obj i (by simp; omega)
        rw[SN]at Es
        obtain ⟨b,p,d,g1,g2,g3,g4⟩:=Es
        have w1:=turn_wf k1 hf (o' := .kI (wC T rw st.hp.length)) (fun _=>rfl) tP (by simp) (by
          cases g4
          exact ⟨b,p,_,g1,g2,g3,k3.mono x1⟩)
        have x2:=k2.trans x1
        obtain ⟨c2,s2,x3⟩:=rI l ⟨st.fr,(st.hp ++ [Ah T rw]).set i (.kI (wC T rw st.hp.length))⟩ c' a ⟨w1,iF.fr.mono x2⟩
        exact ⟨c2,s2,x2.trans x3⟩
      · exact rI l st c a iF
    · exact rI l st c a iF

theorem SO {w0:World} {h0:az} {c0:kh} {st:St} {a:Act} (iF:G0 w c st a) (x:Ext w0 h0 c0 w st.hp c) (hm:h0.length≤200) (hint:Hint) :
    ∃c',G0 w c' (norm h0.length hint st) a∧Ext w0 h0 c0 w (norm h0.length hint st).hp c':=by
  obtain ⟨c,iF,x⟩:∃c',G0 w c' (TN h0.length hint ⟨Dy hint.live hint.drop st.fr,st.hp⟩) a∧Ext w0 h0 c0 w (TN h0.length hint ⟨Dy hint.live hint.drop st.fr,st.hp⟩).hp c':=by
    unfold TN
    split
    · exact ⟨c,⟨iF.wf,G3 iF.fr _ _⟩,x⟩
    · exact L4 (st:=⟨Dy hint.live hint.drop st.fr,st.hp⟩) ⟨iF.wf,G3 iF.fr _ _⟩ x hm
  obtain ⟨c1,s1,x1⟩:=Ax hint.own _ c a iF
  obtain ⟨c2,s2,x2⟩:=DL hint.rows _ c1 a s1
  obtain ⟨c3,s3,x3⟩:=rI hint.cells _ c2 a s2
  exact L4 s3 (((x.trans x1).trans x2).trans x3) hm

theorem SP {w0:World} {h0:az} {c0:kh} {st:St} {a:Act} (iF:G0 w c st a) (x:Ext w0 h0 c0 w st.hp c) (hm:h0.length≤200) (hint:Hint) :
    ∃c',G0 w c' (trim h0.length hint st) a∧Ext w0 h0 c0 w (trim h0.length hint st).hp c' :=
  L4 (st:=⟨Dy hint.out [] st.fr,st.hp⟩) ⟨iF.wf,G3 iF.fr _ _⟩ x hm


theorem L6:∀(ts:List Nat) (vs:List V) (ds:List Value),ts.length=ds.length→cH w h c vs ds→cH w h c (Sd tt ts vs) ds
  | [],vs,ds,hl,r=>by
    have:ds = []:=List.eq_nil_of_length_eq_zero hl.symm
    subst this
    exact .nil
  | t::ts, [],ds,hl,r=>by
    have:ds = []:=List.eq_nil_of_length_eq_zero (by simpa using r.1.symm)
    subst this
    simp at hl
  | t::ts,v::vs, [],hl,r=>by simp at hl
  | t::ts,v::vs,d::ds,hl,r => .cons (Og r.head) (L6 ts vs ds (by simpa using hl) r.tail)
end

section
variable {P:Program} {tt:dJ} {R:Type}

def tR (fr:List V) (log:List (Nat × V)):List V:=log.foldr (fun x f=>f.set x.1 x.2) fr
theorem xZ (fr:List V):∀log:List (Nat × V),(tR fr log).length=fr.length
  | []=>rfl
  | x::log=>by simp[tR]; exact xZ fr log

theorem beqF (a b:Nat):Nat.beq a b=decide (a=b):=by
  cases hb:Nat.beq a b with
  | true=>simp[Nat.eq_of_beq_eq_true hb]
  | false=>simp[Nat.ne_of_beq_eq_false hb]

theorem look_eq (fr:List V) (t:Nat) (d:V) (hd:fr.getD t .undef=d):∀log:List (Nat × V),(∀x∈log,x.1<fr.length)→Gr log t d=(tR fr log).getD t .undef
  | [],_=>hd.symm
  | x::log,h=>by
    have ih:=look_eq fr t d hd log fun y hy=>h y (by simp[hy])
    have hx:=h x (by simp)
    have hl:=xZ fr log
    have e:tR fr (x::log)=(tR fr log).set x.1 x.2:=rfl
    have e2:Gr (x::log) t d=cond (Nat.beq x.1 t) x.2 (Gr log t d):=rfl
    rw[e,e2,beqF,ih]
    by_cases Pg:x.1=t
    · subst Pg
      simp[List.getD,List.getElem?_set_self,hl,hx]
    · simp[Pg,List.getD,List.getElem?_set_ne Pg]

theorem Q7 {β:Type} (t:Nat) (d:V) (k:V→β):∀log:List (Nat × V),Lp log t d k=k (Gr log t d)
  | []=>rfl
  | x::log=>by
    have ih:=Q7 t d k log
    have e1:Lp (x::log) t d k=cond (Nat.beq x.1 t) (k x.2) (Lp log t d k):=rfl
    have e2:Gr (x::log) t d=cond (Nat.beq x.1 t) x.2 (Gr log t d):=rfl
    rw[e1,e2,ih]
    cases Nat.beq x.1 t <;> rfl

noncomputable def ya (log:List (Nat × V)):Nat→List V→List V
  | _, [] => []
  | i,v::r=>Gr log i v::ya log (i+1) r
theorem J6 {β:Type} (log:List (Nat × V)):∀(fr:List V) (i:Nat) (k:List V→β),
    List.rec (motive:=fun _=>Nat→(List V→β)→β) (fun _ k=>k []) (fun v _ ih i k=>Lp log i v fun v'=>ih (i+1) fun r=>k (v'::r)) fr i k=k (ya log i fr)
  | [],_,_=>rfl
  | v::fr,i,k=>by
    show Lp log i v (fun v'=>List.rec (motive:=fun _=>Nat→(List V→β)→β) (fun _ k=>k []) (fun v _ ih i k=>Lp log i v fun v'=>ih (i+1) fun r=>k (v'::r)) fr (i+1) fun r=>k (v'::r))=_
    rw[Q7,J6 log fr (i+1)]
    rfl
theorem Gt (log:List (Nat × V)):∀(fr:List V) (i j:Nat),(ya log i fr)[j]? = (fr[j]?).map fun v=>Gr log (i+j) v
  | [],_,_=>by simp[ya]
  | v::fr,i,0=>by simp[ya]
  | v::fr,i,j+1=>by
    simp only[ya,List.getElem?_cons_succ]
    rw[Gt log fr (i+1) j]
    congr 1
    funext v
    congr 1
    omega
theorem VJ {β:Type} (fr:List V) (log:List (Nat × V)) (hl:∀x∈log,x.1<fr.length) (k:List V→β):Sa log fr k=k (tR fr log):=by
  have h1:Sa log fr k=k (ya log 0 fr):=J6 log fr 0 k
  rw[h1]
  congr 1
  apply List.ext_getElem?
  intro j
  rw[Gt,Nat.zero_add]
  cases hj:fr[j]? with
  | none =>
    have:(tR fr log)[j]? = none:=by
      rw[List.getElem?_eq_none_iff,xZ]
      exact List.getElem?_eq_none_iff.1 hj
    rw[this]; rfl
  | some v =>
    have kY:j<(tR fr log).length:=by rw[xZ]; exact (List.getElem?_eq_some_iff.1 hj).1
    have h2:=look_eq fr j v (by simp[List.getD,hj]) log hl
    rw[Option.map_some,h2]
    simp[List.getD,List.getElem?_eq_getElem kY]

theorem evF_eq (fr:List V) (log:List (Nat × V)) (hl:∀x∈log,x.1<fr.length):evF fr log=ev (tR fr log):=by
  funext x
  cases x with
  | tmp t=>exact look_eq fr t _ rfl log hl
  | _=>rfl

theorem Ud (fr:List V) (log:List (Nat × V)) (dst:Option Nat) (v:V):tR fr (N1 fr.length log dst v)=mG (tR fr log) dst v:=by
  cases dst with
  | none=>rfl
  | some d =>
    unfold N1 mG
    simp only
    cases h:Nat.blt d fr.length with
    | true=>rfl
    | false =>
      have:¬d<fr.length:=by
        intro h2
        have h3:Nat.blt d fr.length=true:=by simpa using h2
        rw[h3]at h
        cases h
      simp only[cond_false]
      rw[List.set_eq_of_length_le (by rw[xZ]; omega)]
theorem Ue {fr:List V} {log:List (Nat × V)} (hl:∀x∈log,x.1<fr.length) (dst:Option Nat) (v:V):∀x∈N1 fr.length log dst v,x.1<fr.length:=by
  cases dst with
  | none=>exact hl
  | some d =>
    unfold N1
    simp only
    cases h:Nat.blt d fr.length with
    | true =>
      intro x hx
      rcases List.mem_cons.1 hx with rfl|hx
      · simpa using h
      · exact hl x hx
    | false=>exact hl

theorem XJ {E:Env R} {drawn:Option Nat} {id:Nat} {o:Oper} {st:St} {k:St→Option R}:zd tt E drawn id o st k=W5 tt E drawn id o (ev st.fr) st.hp fun v h=>k ⟨mG st.fr o.dst v,h⟩:=by
  unfold zd W5
  cases fx tt o.op <;> rfl

theorem VK {all:List Oper} {o:Oper} {fr:List V} {log:List (Nat × V)} {hp:az} (hl:∀x∈log,x.1<fr.length) {run skip:St→Option R} {runF skipF:List (Nat × V)→Option R}
    (hr:∀log,(∀x∈log,x.1<fr.length)→runF log=run ⟨tR fr log,hp⟩) (hs:∀log,(∀x∈log,x.1<fr.length)→skipF log=skip ⟨tR fr log,hp⟩) :
    Sb all o fr log runF skipF=vi all o ⟨tR fr log,hp⟩ run skip:=by
  unfold Sb vi
  cases o.guard with
  | none=>exact hr log hl
  | some jw =>
    obtain ⟨j,want⟩:=jw
    simp only
    cases (all[j]?).bind (·.dst)with
    | none=>rfl
    | some d =>
      simp only
      rw[look_eq fr d _ rfl log hl]
      cases hb:(tR fr log).getD d .undef with
      | bool b =>
        have hd:d<fr.length:=by
          rcases Nat.lt_or_ge d fr.length with h|h
          · exact h
          · rw[←xZ fr log]at h
            simp[List.getD,List.getElem?_eq_none h]at hb
        have h2:∀v:V,∀x∈(d,v)::log,x.1<fr.length:=fun v x hx=>by
          rcases List.mem_cons.1 hx with rfl|hx
          · exact hd
          · exact hl x hx
        simp only
        rw[hr _ (h2 _),hs _ (h2 _),hr _ (h2 _),hs _ (h2 _)]
        rfl
      | tuple vs =>
        cases vs with
        | nil=>exact hs log hl
        | cons _ _=>rfl
      | _=>rfl

theorem PC {E:Env R} {drawn:Option Nat} {all:List Oper} {fr:List V}:∀(l:List Oper) (id:Nat) (log:List (Nat × V)) (hp:az) (k:St→Option R),(∀x∈log,x.1<fr.length) →
    Sc tt E drawn all fr.length fr l id log hp k=Lm tt E drawn all l id ⟨tR fr log,hp⟩ k
  | [],_,log,hp,k,hl=>by
    simp only[Sc,Lm]
    rw[VJ fr log hl,CU]
  | o::l,id,log,hp,k,hl=>by
    simp only[Sc,Lm,Dw]
    refine VK hl (fun log hl => ?_) fun log hl => ?_
    · rw[XJ,evF_eq fr log hl]
      congr 1
      funext v h
      rw[CU,PC l _ _ _ _ (Ue hl o.dst v),Ud]
    · rw[PC l _ _ _ _ (Ue hl o.dst _),Ud]

theorem regionF_eq {E:Env R} {ops:List Oper} {draw:Bool} {st:St} {k:St→Option R}:regionF tt E ops draw st k=FK tt E ops draw st k:=by
  unfold regionF FK
  simp only
  have h:=fun (dr:Option Nat) (hp:az)=>PC (tt:=tt) (E:=E) (drawn:=dr) (all:=ops) (fr:=st.fr) ops st.hp.length [] hp k (by simp)
  rw[h,h]
  rfl
end

section
variable {P:Program} {tt:dJ} {w w':World} {h h':az} {c c':kh} {R:Type}

def Ex.out:Ex→Exit
  | .normal => .normal
  | .exit id => .exit id
  | .goto l => .goto l
  | .ret => .ret

theorem VL {a b:Option R} {r:R} (h:anyT a b=some r):a=some r∧b=some r:=by
  unfold anyT at h
  split at h
  · rename_i e; exact ⟨h,e▸h⟩
  · cases h

theorem VM {b0:Code} {Q:Exit→Act→World→Prop} (I:Nat→Act→World→Prop) (h0:∀a w, ¬I 0 a w) (round:∀n a w,I (n+1) a w→b0.wp P (Exit.then (I n) Q) a w) {n:Nat} {a:Act} {w:World} (hI:I n a w) :
    (Code.loop b0).wp P Q a w:=by
  intro b k cs
  have key:∀n a w,I n a w→∃e a' w',Q e a' w'∧Arrives P (lone (b.at a (.code b0 :: .inLoop b0::k)) cs w) b k cs e a' w':=by
    intro n
    induction n with
    | zero=>exact fun a w h=>(h0 a w h).elim
    | succ n ih =>
      intro a w hI
      obtain ⟨e,a1,w1,hq,Bt⟩:=round n a w hI b (.inLoop b0::k) cs
      cases e with
      | normal =>
        obtain ⟨e2,a2,w2,US,harr2⟩:=ih a1 w1 hq
        exact ⟨e2,a2,w2,US, .of_steps (Steps.trans Bt (.one step_inLoop)) harr2⟩
      | exit id=>exact ⟨_,a1,w1,hq, .pass (x := .inLoop b0) rfl (fun _ _ => .inl (by simp)) Bt⟩
      | goto l=>exact ⟨_,a1,w1,hq, .pass (x := .inLoop b0) rfl (fun _ _ => .inl (by simp)) Bt⟩
      | ret=>exact ⟨_,a1,w1,hq, .pass (x := .inLoop b0) rfl (fun _ _ => .inl (by simp)) Bt⟩
      | panic ch=>exact ⟨_,a1,w1,hq, .pass (x := .inLoop b0) rfl (fun _ _ => .inl (by simp)) Bt⟩
      | outgrown=>exact ⟨_,a1,w1,hq, .pass (x := .inLoop b0) rfl (fun _ _ => .inl (by simp)) Bt⟩
  obtain ⟨e,a',w',hq,Bt⟩:=key n a w hI
  exact ⟨e,a',w',hq, .of_steps (.one step_loop) Bt⟩

def cO (tt:dJ) (E:Env R) (L:Nat→Option (Hint × cp R)) (m:Nat) (a:Code):Prop :=
  ∀hint ls,L (keyOf a)=some (hint,ls)→∀st (K:Ex→St→Option R) r,ls st K=some r→∃n,Cf (k6 tt E L m a) (norm m hint) n st (fun e st=>K e (trim m hint st))=some r

def aQ:Code→List Code
  | .seq a b=>aQ a++aQ b
  | .cond _ a b=>aQ a++aQ b
  | .block _ a=>aQ a
  | .loop a=>a::aQ a
  | _ => []

theorem Q8 (body:cp R):∀n st K,TO body n st K=Cf body id n st K
  | 0,_,_=>rfl
  | n+1,st,K=>by
    simp only[TO,Cf]
    congr 1
    funext e s9
    cases e <;> first|rfl|exact Q8 body n s9 K

section
variable {w0:World} {h0:az} {c0:kh} {D:List Deferred}

structure At (w0:World) (h0:az) (c0:kh) (D:List Deferred) (w:World) (st:St) (a:Act) (c:kh):Prop where
  iF:G0 w c st a
  ext:Ext w0 h0 c0 w st.hp c
  defers:a.defers=D

def Ends (w0:World) (h0:az) (c0:kh) (D:List Deferred) (K:Ex→St→Option R) (r:R) (Q:Exit→Act→World→Prop):Prop :=
  ∀e st a w c,At w0 h0 c0 D w st a c→K e st=some r→Q e.out a w

theorem nB (T:xy P tt) (hm:P.follows .mixedOrders=true) {E:Env R} (hE:pK P E) {L:Nat→Option (Hint × cp R)} (hlen:h0.length≤200) {r:R}:∀(code:Code),(∀a∈aQ code,cO tt E L h0.length a) →
    ∀(Q:Exit→Act→World→Prop) (K:Ex→St→Option R) (st:St) (a:Act) (w:World) (c:kh),At w0 h0 c0 D w st a c→k6 tt E L h0.length code st K=some r→Ends w0 h0 c0 D K r Q→code.wp P Q a w
  | .skip,_,Q,K,st,a,w,c,at_,hk,he=>wp_skip (he .normal st a w c at_ hk)
  | .region id ops draw,_,Q,K,st,a,w,c,at_,hk,he=>by
    simp only[k6,regionF_eq]at hk
    have go:Xw w c st a (fun s9=>K .normal s9) r (Q .normal):=fun a' w' s9 c' s x d k=>he .normal s9 a' w' c' ⟨s,at_.ext.trans x,d.trans at_.defers⟩ k
    cases draw with
    | true=>exact SM T hm hE hk at_.iF go
    | false=>exact Pw T hE hk at_.iF go
  | .seq x y,hl,Q,K,st,a,w,c,at_,hk,he=>by
    simp only[k6]at hk
    refine wp_seq (nB T hm hE hlen x (fun b hb=>hl b (by simp[aQ,hb])) _ _ st a w c at_ hk fun e s9 a' w' c' at' qT => ?_)
    cases e with
    | normal=>exact nB T hm hE hlen y (fun b hb=>hl b (by simp[aQ,hb])) Q K s9 a' w' c' at' qT he
    | exit i=>exact he (.exit i) s9 a' w' c' at' qT
    | goto l=>exact he (.goto l) s9 a' w' c' at' qT
    | ret=>exact he .ret s9 a' w' c' at' qT
  | .cond cnd x y,hl,Q,K,st,a,w,c,at_,hk,he=>by
    simp only[k6]at hk
    split at hk <;> try (first|cases hk)
    · rename_i t ht
      have rc:=SG at_.iF.fr cnd
      rw[ht]at rc
      generalize hv:a.eval cnd=v at rc
      cases rc
      refine wp_cond hv ?_
      cases t with
      | true=>exact nB T hm hE hlen x (fun b hb=>hl b (by simp[aQ,hb])) Q K st a w c at_ hk he
      | false=>exact nB T hm hE hlen y (fun b hb=>hl b (by simp[aQ,hb])) Q K st a w c at_ hk he
    · rename_i ht
      have rc:=SG at_.iF.fr cnd
      rw[ht]at rc
      generalize hv:a.eval cnd=v at rc
      cases rc with
      | FZ t =>
        refine wp_cond hv ?_
        obtain ⟨h1,h2⟩:=VL hk
        cases t with
        | true=>exact nB T hm hE hlen x (fun b hb=>hl b (by simp[aQ,hb])) Q K st a w c at_ h1 he
        | false=>exact nB T hm hE hlen y (fun b hb=>hl b (by simp[aQ,hb])) Q K st a w c at_ h2 he
  | .block id x,hl,Q,K,st,a,w,c,at_,hk,he=>by
    simp only[k6]at hk
    refine wp_block (nB T hm hE hlen x (fun b hb=>hl b (by simp[aQ,hb])) _ _ st a w c at_ hk fun e s9 a' w' c' at' qT => ?_)
    cases e with
    | normal=>exact he .normal s9 a' w' c' at' qT
    | exit i =>
      simp only[Ex.out,Exit.inBlock]
      simp only at qT
      split
      · rename_i hi
        rw[if_pos hi]at qT
        exact he .normal s9 a' w' c' at' qT
      · rename_i hi
        rw[if_neg hi]at qT
        exact he (.exit i) s9 a' w' c' at' qT
    | goto l=>exact he (.goto l) s9 a' w' c' at' qT
    | ret=>exact he .ret s9 a' w' c' at' qT
  | .loop x,hl,Q,K,st,a,w,c,at_,hk,he=>by
    have hx:∀b∈aQ x,cO tt E L h0.length b:=fun b hb=>hl b (by simp[aQ,hb])
    have main:∀(f g:St→St),(∀w st a c,At w0 h0 c0 D w st a c→∃c',At w0 h0 c0 D w (f st) a c')→(∀w st a c,At w0 h0 c0 D w st a c→∃c',At w0 h0 c0 D w (g st) a c') →
        ∀n st a w c,At w0 h0 c0 D w st a c→Cf (k6 tt E L h0.length x) f n st (fun e st=>K e (g st))=some r→(Code.loop x).wp P Q a w:=by
      intro f g hf hg n st a w c at_ hk
      refine VM (fun n a w=>∃st c,At w0 h0 c0 D w st a c∧Cf (k6 tt E L h0.length x) f n st (fun e st=>K e (g st))=some r) (fun a w => ?_) (fun n a w => ?_) ⟨st,c,at_,hk⟩
      · rintro ⟨st,c,_,hk⟩
        cases hk
      · rintro ⟨st,c,at_,hk⟩
        simp only[Cf]at hk
        refine nB T hm hE hlen x hx _ _ st a w c at_ hk fun e s9 a' w' c' at' qT => ?_
        cases e with
        | normal =>
          obtain ⟨c2,at2⟩:=hf w' s9 a' c' at'
          exact ⟨f s9,c2,at2,qT⟩
        | exit i=>obtain ⟨c2,at2⟩:=hg w' s9 a' c' at'; exact he (.exit i) _ a' w' c2 at2 qT
        | goto l=>obtain ⟨c2,at2⟩:=hg w' s9 a' c' at'; exact he (.goto l) _ a' w' c2 at2 qT
        | ret=>obtain ⟨c2,at2⟩:=hg w' s9 a' c' at'; exact he .ret _ a' w' c2 at2 qT
    simp only[k6]at hk
    split at hk
    · rename_i hint ls hL
      have hnorm:∀w st a c,At w0 h0 c0 D w st a c→∃c',At w0 h0 c0 D w (norm h0.length hint st) a c':=fun w st a c at_=>by
        obtain ⟨c',s',x'⟩:=SO at_.iF at_.ext hlen hint
        exact ⟨c',s',x',at_.defers⟩
      have htrim:∀w st a c,At w0 h0 c0 D w st a c→∃c',At w0 h0 c0 D w (trim h0.length hint st) a c':=fun w st a c at_=>by
        obtain ⟨c',s',x'⟩:=SP at_.iF at_.ext hlen hint
        exact ⟨c',s',x',at_.defers⟩
      obtain ⟨n,hn⟩:=hl x (by simp[aQ]) hint ls hL _ _ _ hk
      obtain ⟨c',at'⟩:=hnorm w st a c at_
      exact main _ _ hnorm htrim n _ a w c' at' hn
    · rw[Q8]at hk
      exact main id id (fun w st a c h=>⟨c,h⟩) (fun w st a c h=>⟨c,h⟩) 70 st a w c at_ hk
  | .exit id,_,Q,K,st,a,w,c,at_,hk,he=>wp_exit (he (.exit id) st a w c at_ hk)
  | .ret,_,Q,K,st,a,w,c,at_,hk,he=>wp_ret (he .ret st a w c at_ hk)
  | .label _,_,_,_,_,_,_,_,_,hk,_=>by simp[k6]at hk
  | .goto _,_,_,_,_,_,_,_,_,hk,_=>by simp[k6]at hk
  | .scope _,_,_,_,_,_,_,_,_,hk,_=>by simp[k6]at hk
  | .refuse _,_,_,_,_,_,_,_,_,hk,_=>by simp[k6]at hk
end

theorem G4 (T:xy P tt) {st:St} {a:Act} (iF:G0 w c st a):∀(rs:List ResultVar) {k:List V→Option R} {r:R},Qn tt st rs k=some r →
    ∃vs ds,k vs=some r∧cH w st.hp c vs ds∧ds.length=rs.length∧(rs.mapM (m:=Sem) fun | .tmp t=>pure (a.tmps.getD t undef) | .cell b t=>do loadVar t (←asAddr (a.tmps.getD b undef))).run P w = .ok ds w
  | [],k,r,hk=>⟨[], [],hk, .nil,rfl,by simp⟩
  | .tmp t::rs,k,r,hk=>by
    simp only[Qn]at hk
    obtain ⟨vs,ds,h1,h2,h3,h4⟩:=G4 T iF rs hk
    refine ⟨_,a.tmps.getD t undef::ds,h1, .cons ?_ h2,by simp[h3],?_⟩
    · have:=iF.fr.getD t undef
      simpa [List.getD,Array.getD_eq_getD_getElem?]using this
    · simp only[List.mapM_cons,Sem.run_bind,Sem.run_pure,Result.andThen_ok,h4]
  | .cell b t::rs,k,r,hk=>by
    simp only[Qn]at hk
    split at hk <;> try (first|cases hk)
    rename_i i o hp
    split at hk <;> try (first|cases hk)
    rename_i cs BU
    have hl:=LB (P:=P) T iF.wf (t:=t) (a := .ptr i o) (a':=a.tmps.getD b undef) (lim:=none) (k:=fun v=>Qn tt st rs fun vs=>k (v::vs)) (r:=r) (by
        have:=iF.fr.getD b undef
        rw[hp]at this
        simpa [List.getD,Array.getD_eq_getD_getElem?]using this) (by simp only[Eg,if_true,BU]; exact hk)
    obtain ⟨v,v',g1,g2,g3⟩:=hl
    obtain ⟨vs,ds,h1,h2,h3,h4⟩:=G4 T iF rs g3
    refine ⟨_,v'::ds,h1, .cons g2 h2,by simp[h3],?_⟩
    have hb:(do loadVar t (←asAddr (a.tmps.getD b undef)):Sem Value).run P w = .ok v' w:=by
      have rb:=iF.fr.getD b undef
      rw[hp]at rb
      have e:a.tmps.toList.getD b undef=a.tmps.getD b undef:=by simp[List.getD,Array.getD_eq_getD_getElem?]
      rw[e]at rb
      generalize a.tmps.getD b undef=q at rb g1
      cases rb with
      | ptr hu hv =>
        obtain ⟨b',rfl,_⟩:=hv
        simpa [Instr.loadAt,Instr.sureAddr,asAddr]using g1
    simp only[List.mapM_cons,Sem.run_bind,hb,Sem.run_pure,Result.andThen_ok,h4]

theorem Ny {w0:World} {h0:az} {c0:kh} {ts:List Nat} {keep:Bool} {vs:List V} {ds:List Value} (wf:WF w h c) (r:cH w h c vs ds) (x:Ext w0 h0 c0 w h c) (hm:h0.length≤200) (hts:ts.length=ds.length) {k:V→az→Option R} {q:R}
    (hk:KT tt ts h0.length keep vs h k=some q):∃v h' c',WF w h' c'∧Ext w0 h0 c0 w h' c'∧dC w h' c' v (if h:ds.length=1 then ds[0]else .tuple ds.toArray)∧k v h'=some q:=by
  unfold KT at hk
  have main:∀(ws:List V) (h1:az),WF w h1 c→cH w h1 c ws ds→Ext w0 h0 c0 w h1 c →
      k (match V.xP (xM (reach h1 256 (List.range h0.length++V.sv ws) [])) ws with | [v]=>v|l => .tuple l) (h1.pick (reach h1 256 (List.range h0.length++V.sv ws) []))=some q →
      ∃v h' c',WF w h' c'∧Ext w0 h0 c0 w h' c'∧dC w h' c' v (if h:ds.length=1 then ds[0]else .tuple ds.toArray)∧k v h'=some q:=by
    intro ws h1 wf1 r1 x1 hk
    obtain ⟨g1,g2⟩:=J5 h1 (m:=h0.length) (n:=256) (by omega) (V.sv ws)
    have rr:=Gs (ord:=reach h1 256 (List.range h0.length++V.sv ws) []) r1
    refine ⟨_,_,_,HX wf1 g1,Q5 x1 g2,?_,hk⟩
    have hlen:=rr.1
    generalize V.xP (xM (reach h1 256 (List.range h0.length++V.sv ws) [])) ws=us at rr hlen
    split
    · rename_i v
      have h1:ds.length=1:=by simpa using hlen.symm
      rw[dif_pos h1]
      exact rr.2 0 v _ rfl (List.getElem?_eq_getElem _)
    · rename_i j7
      have h1:¬ds.length=1:=fun e=>by
        rw[e]at hlen
        match us,hlen with
        | [v],_=>exact j7 v rfl
      rw[dif_neg h1]
      exact .tuple (by simpa using hlen) fun j v d hv hd=>rr.2 j v d hv (by simpa using hd)
  cases keep with
  | true=>exact main vs h wf r x hk
  | false =>
    simp only[Bool.false_eq_true,if_false]at hk
    exact main _ _ (Cl _ _ wf) (L6 ts _ ds hts (Of wf r)) (x.trans (Av _ _)) hk

theorem bj (T:xy P tt) (hm:P.follows .mixedOrders=true) {E:Env R} (hE:pK P E) {L:Nat→Option (Hint × cp R)} {g:Nat} {fn:Func} {code:Code} {keep:Bool} (hf:P.funcs[g]? = some fn) (hb:fn.body=some code)
    (hn:(fn.name == "runtime.NumGoroutine")=false) (hr:fn.results.size=fn.resultTypes.size) (m:Nat) (hl:∀a∈aQ code,cO tt E L m a):Spec.Xs P g m (iE tt E L keep fn code):=by
  refine Spec.Xs.of_body hf hn (by rw[hb]; rfl) fun vs h k r hml hk w c args wf ra => ?_
  subst hml
  refine calls_of_wp hf hb ?_
  unfold iE at hk
  split at hk
  · cases hk
  rename_i h200
  have hlen:h.length≤200:=by omega
  have hfr:cH w h c (vs++List.replicate (fn.ntmps - vs.length) .undef) (args++Array.replicate (fn.ntmps - args.size) undef).toList:=by
    have e:vs.length=args.size:=by simpa using ra.1
    rw[e]
    simpa using ra.append (cH.Ki (fn.ntmps - args.size) undef)
  refine nB T hm hE (w0:=w) (h0:=h) (c0:=c) (D := []) hlen code hl _ _ _ _ w c ⟨⟨wf,hfr⟩, .refl _ _ _,rfl⟩ hk fun e st a w' c' at' qT => ?_
  have fin:Qn tt st fn.results.toList (fun vs=>KT tt fn.resultTypes.toList h.length keep vs st.hp k)=some r →
      a.defers = []∧∃v,(results fn a.tmps).run P w' = .ok v w'∧∃d,Ending.returned v=Ending.returned d∧∃u h' c',WF w' h' c'∧Ext w h c w' h' c'∧dC w' h' c' u d∧k u h'=some r:=by
    intro hk
    obtain ⟨vs,ds,g1,g2,g3,g4⟩:=G4 T at'.iF _ hk
    obtain ⟨u,h',c2,k1,k2,k3,k4⟩:=Ny at'.iF.wf g2 at'.ext hlen (by simp[g3,hr]) g1
    refine ⟨at'.defers,_,?_,_,rfl,u,h',c2,k1,k2,k3,k4⟩
    unfold results
    simp only[Sem.run_bind,Array.mapM_eq_mapM_toList,map_eq_pure_bind,Sem.run_pure]
    refine (congrArg (fun z:Result (List Value)=>(z.andThen fun a w'=>Result.ok a.toArray w').andThen fun a w'=>Result.ok (if h:a.size=1 then a[0]else Value.tuple a) w') g4).trans ?_
    simp
  cases e with
  | normal=>exact fin qT
  | ret=>exact fin qT
  | exit i=>cases qT
  | goto l=>cases qT
end

inductive eY where
  | undef|eN|cF|aV|ow|cR|iface
  | ET (t:Nat) (k:IntKind) (n:Int)
  | int (k:IntKind)|bool|str
  | ptr (i o:Nat)
  | sl (T:Ty)|Nd (T:Ty) (i:Nat)
  | row (i:Nat)
  | map (i:Nat)
  | fn (f:Nat)
  deriving DecidableEq

def eY.den:eY→Type
  | .int _=>Int
  | .bool=>Bool
  | .str=>aj
  | .sl T=>List T.den
  | .Nd T _=>List T.den
  | .row _=>Nat
  | _=>Unit

def eY.enc:(p:eY)→p.den→V
  | .undef,_ => .undef
  | .eN,_ => .eN
  | .cF,_ => .cF
  | .aV,_ => .aV
  | .ow,_ => .ow
  | .cR,_ => .cR
  | .iface,_ => .iface
  | .ET t k n,_ => .ET t k n
  | .int k,(n:Int) => .int k n
  | .bool,(b:Bool) => .bool b
  | .str,(s:aj) => .str s
  | .ptr i o,_ => .ptr i o
  | .sl T,(l:List T.den) => .sl T l .no
  | .Nd T i,(l:List T.den) => .sl T l (.own i)
  | .row i,(n:Nat) => .row i n
  | .map i,_ => .map i
  | .fn f,_ => .func f [] []

def XK (k:IntKind):V→Option Int | .int k' n=>if k'=k then some n else none|_=>none
def XL:V→Option Bool | .bool b=>some b|_=>none
def XM:V→Option aj | .str s=>some s|_=>none
def XO (T:Ty):V→Option (List T.den) | .sl T' l .no=>if h:T'=T then some (h▸l)else none|_=>none
def XP (T:Ty) (i:Nat):V→Option (List T.den) | .sl T' l (.own j)=>if h:T'=T then (if j=i then some (h▸l)else none)else none|_=>none
def XQ (i:Nat):V→Option Nat | .row j n=>if j=i then some n else none|_=>none
def XR (i o:Nat):V→Option Unit | .ptr j q=>if j=i∧q=o then some ()else none|_=>none
def XS (i:Nat):V→Option Unit | .map j=>if j=i then some ()else none|_=>none
def XT (f:Nat):V→Option Unit | .func g [] []=>if g=f then some ()else none|_=>none
def XU:V→Option Unit | .undef=>some ()|_=>none
def XV:V→Option Unit | .eN=>some ()|_=>none
def XW:V→Option Unit | .cF=>some ()|_=>none
def XX:V→Option Unit | .aV=>some ()|_=>none
def XY:V→Option Unit | .ow=>some ()|_=>none
def XZ:V→Option Unit | .cR=>some ()|_=>none
def X0:V→Option Unit | .iface=>some ()|_=>none
def X1 (t:Nat) (k:IntKind) (n:Int):V→Option Unit | .ET t' k' n'=>if t'=t∧k'=k∧n'=n then some ()else none|_=>none

theorem X2 {k:IntKind} {v:V} {x:Int} (h:XK k v=some x):v = .int k x:=by
  unfold XK at h
  split at h
  · split at h
    · rename_i e; subst e; cases h; rfl
    · cases h
  · cases h
theorem X3 {v:V} {x:Bool} (h:XL v=some x):v = .bool x:=by unfold XL at h; split at h <;> first|(cases h; rfl)|cases h
theorem X4 {v:V} {x:aj} (h:XM v=some x):v = .str x:=by unfold XM at h; split at h <;> first|(cases h; rfl)|cases h
theorem X5 {T:Ty} {v:V} {x:List T.den} (h:XO T v=some x):v = .sl T x .no:=by
  unfold XO at h
  split at h
  · split at h
    · rename_i e; subst e; cases h; rfl
    · cases h
  · cases h
theorem X6 {T:Ty} {i:Nat} {v:V} {x:List T.den} (h:XP T i v=some x):v = .sl T x (.own i):=by
  unfold XP at h
  split at h
  · split at h
    · rename_i e
      subst e
      split at h
      · rename_i e; subst e; cases h; rfl
      · cases h
    · cases h
  · cases h
theorem X7 {i:Nat} {v:V} {x:Nat} (h:XQ i v=some x):v = .row i x:=by
  unfold XQ at h
  split at h
  · split at h
    · rename_i e; subst e; cases h; rfl
    · cases h
  · cases h
theorem X8 {i o:Nat} {v:V} {x:Unit} (h:XR i o v=some x):v = .ptr i o:=by
  unfold XR at h
  split at h
  · split at h
    · rename_i e; obtain ⟨rfl,rfl⟩:=e; rfl
    · cases h
  · cases h
theorem X9 {i:Nat} {v:V} {x:Unit} (h:XS i v=some x):v = .map i:=by
  unfold XS at h
  split at h
  · split at h
    · rename_i e; subst e; rfl
    · cases h
  · cases h
theorem Ya {f:Nat} {v:V} {x:Unit} (h:XT f v=some x):v = .func f [] []:=by
  unfold XT at h
  split at h
  · split at h
    · rename_i e; subst e; rfl
    · cases h
  · cases h
theorem Yb {v:V} {x:Unit} (h:XU v=some x):v = .undef:=by unfold XU at h; split at h <;> first|rfl|cases h
theorem Yc {v:V} {x:Unit} (h:XV v=some x):v = .eN:=by unfold XV at h; split at h <;> first|rfl|cases h
theorem Yd {v:V} {x:Unit} (h:XW v=some x):v = .cF:=by unfold XW at h; split at h <;> first|rfl|cases h
theorem Ye {v:V} {x:Unit} (h:XX v=some x):v = .aV:=by unfold XX at h; split at h <;> first|rfl|cases h
theorem Yf {v:V} {x:Unit} (h:XY v=some x):v = .ow:=by unfold XY at h; split at h <;> first|rfl|cases h
theorem Yg {v:V} {x:Unit} (h:X0 v=some x):v = .iface:=by unfold X0 at h; split at h <;> first|rfl|cases h
theorem Yh {t:Nat} {k:IntKind} {n:Int} {v:V} {x:Unit} (h:X1 t k n v=some x):v = .ET t k n:=by
  unfold X1 at h
  split at h
  · split at h
    · rename_i e; obtain ⟨rfl,rfl,rfl⟩:=e; rfl
    · cases h
  · cases h
theorem Yi {v:V} {x:Unit} (h:XZ v=some x):v = .cR:=by unfold XZ at h; split at h <;> first|rfl|cases h

def eY.dec:(p:eY)→V→Option p.den
  | .undef=>XU
  | .eN=>XV
  | .cF=>XW
  | .aV=>XX
  | .ow=>XY
  | .cR=>XZ
  | .iface=>X0
  | .ET t k n=>X1 t k n
  | .int k=>XK k
  | .bool=>XL
  | .str=>XM
  | .ptr i o=>XR i o
  | .sl T=>XO T
  | .Nd T i=>XP T i
  | .row i=>XQ i
  | .map i=>XS i
  | .fn f=>XT f

theorem eY.G5 (p:eY) {v:V} {x:p.den} (h:p.dec v=some x):v=p.enc x:=by
  cases p
  · exact Yb h
  · exact Yc h
  · exact Yd h
  · exact Ye h
  · exact Yf h
  · exact Yi h
  · exact Yg h
  · exact Yh h
  · exact X2 h
  · exact X3 h
  · exact X4 h
  · exact X8 h
  · exact X5 h
  · exact X6 h
  · exact X7 h
  · exact X9 h
  · exact Ya h

def eY.av:List eY→Type
  | []=>Unit
  | p::ps=>p.den × eY.av ps
def eY.cT:(ps:List eY)→eY.av ps→List V
  | [],_ => []
  | p::ps,(x:p.den × eY.av ps)=>p.enc x.1::eY.cT ps x.2
def both {α β:Type}:Option α→Option β→Option (α × β)
  | some x,some y=>some (x,y)
  | _,_=>none
theorem KY {α β:Type} {a:Option α} {b:Option β} {z:α × β} (h:both a b=some z):a=some z.1∧b=some z.2:=by
  cases a <;> cases b <;> cases h
  exact ⟨rfl,rfl⟩
def eY.DM:(ps:List eY)→List V→Option (eY.av ps)
  | [], []=>some ()
  | [],_::_=>none
  | _::_, []=>none
  | p::ps,v::vs=>both (p.dec v) (eY.DM ps vs)
theorem eY.tg:∀(ps:List eY) {vs:List V} {x:eY.av ps},eY.DM ps vs=some x→vs=eY.cT ps x
  | [], [],_,_=>rfl
  | [],_::_,_,h=>by cases h
  | _::_, [],_,h=>by cases h
  | p::ps,v::vs,x,h=>by
    obtain ⟨h1,h2⟩:=KY (a:=p.dec v) (b:=eY.DM ps vs) h
    show v::vs=p.enc x.1::eY.cT ps x.2
    rw[←eY.G5 p h1,←eY.tg ps h2]

inductive bP where
  | leaf (l:eY)
  | agg (ps:List eY)
  | func (f:Nat) (a b:List eY)

def bP.den:bP→Type
  | .leaf l=>l.den
  | .agg ps=>eY.av ps
  | .func _ a b=>eY.av a × eY.av b
def bP.enc:(p:bP)→p.den→V
  | .leaf l,x=>l.enc x
  | .agg ps,x => .agg (eY.cT ps x)
  | .func f a b,(x:eY.av a × eY.av b) => .func f (eY.cT a x.1) (eY.cT b x.2)
def Yj (ps:List eY):V→Option (eY.av ps) | .agg cs=>eY.DM ps cs|_=>none
def SQ (f:Nat) (a b:List eY):V→Option (eY.av a × eY.av b) | .func g x y=>if g=f then both (eY.DM a x) (eY.DM b y)else none|_=>none
def bP.dec:(p:bP)→V→Option p.den
  | .leaf l=>l.dec
  | .agg ps=>Yj ps
  | .func f a b=>SQ f a b
theorem bP.G5 (p:bP) {v:V} {x:p.den} (h:p.dec v=some x):v=p.enc x:=by
  cases p with
  | leaf l=>exact eY.G5 l h
  | agg ps =>
    replace h:Yj ps v=some x:=h
    unfold Yj at h
    split at h
    · rename_i cs
      show V.agg cs = .agg (eY.cT ps x)
      rw[←eY.tg ps h]
    · cases h
  | func f a b =>
    replace h:SQ f a b v=some x:=h
    unfold SQ at h
    split at h
    · split at h
      · rename_i e
        subst e
        obtain ⟨h1,h2⟩:=KY h
        rename_i g p q
        show V.func g p q = .func g (eY.cT a x.1) (eY.cT b x.2)
        rw[←eY.tg a h1,←eY.tg b h2]
      · cases h
    · cases h
def bP.av:List bP→Type
  | []=>Unit
  | p::ps=>p.den × bP.av ps
def bP.cT:(ps:List bP)→bP.av ps→List V
  | [],_ => []
  | p::ps,(x:p.den × bP.av ps)=>p.enc x.1::bP.cT ps x.2
def bP.DM:(ps:List bP)→List V→Option (bP.av ps)
  | [], []=>some ()
  | [],_::_=>none
  | _::_, []=>none
  | p::ps,v::vs=>both (p.dec v) (bP.DM ps vs)
theorem bP.tg:∀(ps:List bP) {vs:List V} {x:bP.av ps},bP.DM ps vs=some x→vs=bP.cT ps x
  | [], [],_,_=>rfl
  | [],_::_,_,h=>by cases h
  | _::_, [],_,h=>by cases h
  | p::ps,v::vs,x,h=>by
    obtain ⟨h1,h2⟩:=KY (a:=p.dec v) (b:=bP.DM ps vs) h
    show v::vs=p.enc x.1::bP.cT ps x.2
    rw[←bP.G5 p h1,←bP.tg ps h2]

inductive aI where
  | free|dead|tok|iter
  | cells (ps:List eY)
  | row (T:Ty)
  | kI (p:eY)
  | vg (K T:Ty)

def aI.den:aI→Type
  | .cells ps=>eY.av ps
  | .row T=>List T.den
  | .kI p=>p.den
  | .vg K T=>List (K.den × T.den)
  | .iter=>aj × Nat
  | _=>Unit
def aI.enc:(p:aI)→p.den→bY
  | .free,_ => .free
  | .dead,_ => .dead
  | .tok,_ => .tok
  | .iter,x => .iter (Prod.fst (α:=aj) (β:=Nat) x) (Prod.snd (α:=aj) (β:=Nat) x)
  | .cells ps,x => .cells (eY.cT ps x)
  | .row T,x => .row T x
  | .kI p,x => .kI (p.enc x)
  | .vg K T,x => .vg K T x
def Yk (p:eY):bY→Option p.den | .kI v=>p.dec v|_=>none
def Yl (ps:List eY):bY→Option (eY.av ps) | .cells cs=>eY.DM ps cs|_=>none
def Ym (T:Ty):bY→Option (List T.den) | .row T' l=>if h:T'=T then some (h▸l)else none|_=>none
def Yn (K T:Ty):bY→Option (List (K.den × T.den)) | .vg K' T' l=>if h:K'=K∧T'=T then some (h.1▸h.2▸l)else none|_=>none
def Yo:bY→Option Unit | .free=>some ()|_=>none
def Yp:bY→Option Unit | .dead=>some ()|_=>none
def Yq:bY→Option (aj × Nat) | .iter s p=>some (s,p)|_=>none
def Yr:bY→Option Unit | .tok=>some ()|_=>none
def aI.dec:(p:aI)→bY→Option p.den
  | .free=>Yo
  | .dead=>Yp
  | .tok=>Yr
  | .iter=>Yq
  | .cells ps=>Yl ps
  | .row T=>Ym T
  | .kI p=>Yk p
  | .vg K T=>Yn K T
theorem aI.G5 (p:aI) {o:bY} {x:p.den} (h:p.dec o=some x):o=p.enc x:=by
  cases p with
  | free=>replace h:Yo o=some x:=h; unfold Yo at h; split at h <;> first|rfl|cases h
  | dead=>replace h:Yp o=some x:=h; unfold Yp at h; split at h <;> first|rfl|cases h
  | tok=>replace h:Yr o=some x:=h; unfold Yr at h; split at h <;> first|rfl|cases h
  | iter=>replace h:Yq o=some x:=h; unfold Yq at h; split at h <;> first|(cases h; rfl)|cases h
  | cells ps =>
    replace h:Yl ps o=some x:=h
    unfold Yl at h
    split at h
    · rename_i cs
      show bY.cells cs = .cells (eY.cT ps x)
      rw[←eY.tg ps h]
    · cases h
  | kI p =>
    replace h:Yk p o=some x:=h
    unfold Yk at h
    split at h
    · rename_i v
      show bY.kI v = .kI (p.enc x)
      rw[←eY.G5 p h]
    · cases h
  | vg K T =>
    replace h:Yn K T o=some x:=h
    unfold Yn at h
    split at h
    · split at h
      · rename_i e; obtain ⟨rfl,rfl⟩:=e; cases h; rfl
      · cases h
    · cases h
  | row T =>
    replace h:Ym T o=some x:=h
    unfold Ym at h
    split at h
    · split at h
      · rename_i e; subst e; cases h; rfl
      · cases h
    · cases h
def aI.av:List aI→Type
  | []=>Unit
  | p::ps=>p.den × aI.av ps
def aI.cT:(ps:List aI)→aI.av ps→az
  | [],_ => []
  | p::ps,(x:p.den × aI.av ps)=>p.enc x.1::aI.cT ps x.2
def aI.DM:(ps:List aI)→List bY→Option (aI.av ps)
  | [], []=>some ()
  | [],_::_=>none
  | _::_, []=>none
  | p::ps,v::vs=>both (p.dec v) (aI.DM ps vs)
theorem aI.tg:∀(ps:List aI) {vs:List bY} {x:aI.av ps},aI.DM ps vs=some x→vs=aI.cT ps x
  | [], [],_,_=>rfl
  | [],_::_,_,h=>by cases h
  | _::_, [],_,h=>by cases h
  | p::ps,v::vs,x,h=>by
    obtain ⟨h1,h2⟩:=KY (a:=p.dec v) (b:=aI.DM ps vs) h
    show v::vs=p.enc x.1::aI.cT ps x.2
    rw[←aI.G5 p h1,←aI.tg ps h2]

theorem aI.Q9:∀(ps:List aI) (x:aI.av ps),(aI.cT ps x).length=ps.length
  | [],_=>rfl
  | p::ps,x=>by
    show (p.enc x.1::aI.cT ps x.2).length=_
    simp[aI.Q9 ps]

section
variable {R:Type} {P:Program} {tt:dJ}

def aA (ps:List bP) (hs:List aI) (run:bP.av ps→aI.av hs→(V→az→Option R)→Option R) (other:Spec R):Spec R:=fun args h k =>
  match bP.DM ps args,aI.DM hs h with
  | some x,some y=>run x y k
  | _,_=>other args h k

def bg:Spec R:=fun _ _ _=>none

theorem aO (g:Nat):Spec.Ok P g (bg:Spec R):=by intro vs h k r hk; cases hk

theorem bu {g:Nat} {ps:List bP} {hs:List aI} {run:bP.av ps→aI.av hs→(V→az→Option R)→Option R} {other own:Spec R} (ho:Spec.Ok P g other) (hw:Spec.Xs P g hs.length own)
    (hr:∀x y k,own (bP.cT ps x) (aI.cT hs y) k=run x y k):Spec.Ok P g (aA ps hs run other):=by
  intro vs h k r hk
  unfold aA at hk
  split at hk
  · rename_i x y h1 h2
    rw[bP.tg ps h1,aI.tg hs h2]
    rw[←hr]at hk
    exact hw _ _ _ _ (aI.Q9 hs y) hk
  · exact ho _ _ _ _ hk

def gE (ps:List bP) (hs:List aI) (run:bP.av ps→aI.av hs→(Ex→St→Option R)→Option R) (other:cp R):cp R:=fun st K =>
  match bP.DM ps st.fr,aI.DM hs st.hp with
  | some x,some y=>run x y K
  | _,_=>other st K

def qB:cp R:=fun _ _=>none

def pG (tt:dJ) (E:Env R) (L:Nat→Option (Hint × cp R)) (m:Nat) (a:Code) (hint:Hint) (ls:cp R):Prop :=
  ∀st (K:Ex→St→Option R) r,ls st K=some r→∃n,Cf (k6 tt E L m a) (norm m hint) n st (fun e st=>K e (trim m hint st))=some r

theorem jL {E:Env R} {L:Nat→Option (Hint × cp R)} {m:Nat} {a:Code} {hint:Hint}:pG tt E L m a hint qB:=by intro st K r hk; cases hk

theorem VN {E:Env R} {L:Nat→Option (Hint × cp R)} {m:Nat} {a:Code} {hint:Hint} {ps:List bP} {hs:List aI} {run:bP.av ps→aI.av hs→(Ex→St→Option R)→Option R} {other:cp R} (ho:pG tt E L m a hint other)
    (hr:∀x y K,∃n,Cf (k6 tt E L m a) (norm m hint) n ⟨bP.cT ps x,aI.cT hs y⟩ (fun e st=>K e (trim m hint st))=run x y K):pG tt E L m a hint (gE ps hs run other):=by
  intro st K r hk
  obtain ⟨fr,hp⟩:=st
  unfold gE at hk
  simp only at hk
  split at hk
  · rename_i x y h1 h2
    rw[bP.tg ps h1,aI.tg hs h2]
    obtain ⟨n,hn⟩:=hr x y K
    exact ⟨n,by rw[hn]; exact hk⟩
  · exact ho _ _ _ hk

def aL (f:Func):Code:=f.body.getD .skip

theorem bF {E:Env R} {L:Nat→Option (Hint × cp R)} {m:Nat} {l:List Code} (n:Nat) (hn:l.length=n) (h:∀i,i<n→cO tt E L m (l.getD i .skip)):∀a∈l,cO tt E L m a:=by
  intro a ha
  obtain ⟨i,hi,rfl⟩:=List.mem_iff_getElem.1 ha
  have:=h i (by omega)
  simpa [List.getD,List.getElem?_eq_getElem hi]using this

theorem gb {E:Env R} {L:Nat→Option (Hint × cp R)} {m:Nat} {a:Code} {hint:Hint} {ls:cp R} (h:L (keyOf a)=some (hint,ls)) (hs:pG tt E L m a hint ls):cO tt E L m a:=by
  intro hint' ls' hl
  rw[h]at hl
  cases hl
  exact hs

noncomputable def roundOf (tt:dJ) (E:Env R) (L:Nat→Option (Hint × cp R)) (m:Nat) (a:Code) (hint:Hint) (st:St) (fT:St→Option R) (K:Ex→St→Option R):Option R :=
  k6 tt E L m a st fun e s9=>match e with | .normal=>fT (norm m hint s9)|e=>K e (trim m hint s9)

theorem SR {E:Env R} {L:Nat→Option (Hint × cp R)} {m:Nat} {a:Code} {hint:Hint} {n:Nat} {st:St} {K:Ex→St→Option R} :
    Cf (k6 tt E L m a) (norm m hint) (n+1) st (fun e st=>K e (trim m hint st))=roundOf tt E L m a hint st (fun st=>Cf (k6 tt E L m a) (norm m hint) n st (fun e st=>K e (trim m hint st))) K:=by
  unfold roundOf
  simp only[Cf]
  congr 1
end

section
variable {P:Program} {tt:dJ} {w:World} {h:az} {c:kh}

theorem Ra:∀l:List Value,cH w h c (l.map ofConst) l
  | [] => .nil
  | v::l => .cons (JW v) (Ra l)

def zeroOf (i:TypeInfo):Option (Nat × List V × Bool):=i.zero.map fun z=>(z.cells.size,z.cells.toList.map ofConst,z.oneCell')

def aE (P:Program) (tt:dJ) (t:Nat):Prop :=
  ∃i,P.info? t=some i∧i.size=(tt.at t).size∧i.bytes=(tt.at t).bytes∧zeroOf i=some ((tt.at t).size,(tt.at t).zero, !tt.isAgg t)

theorem aE.spec {t:Nat} (h:aE P tt t):∃i z,P.info? t=some i∧i.size=(tt.at t).size∧i.bytes=(tt.at t).bytes∧i.zero=some z∧z.cells.size=i.size ∧
    ∀(w:World) (h:az) (c:kh),cH w h c (tt.at t).zero z.cells.toList:=by
  obtain ⟨i,h1,h2,h3,h4⟩:=h
  unfold zeroOf at h4
  cases hz:i.zero with
  | none=>rw[hz]at h4; cases h4
  | some z =>
    rw[hz]at h4
    simp only[Option.map_some,Option.some.injEq,Prod.mk.injEq]at h4
    refine ⟨i,z,h1,h2,h3,hz,by rw[h4.1,h2],fun w h c => ?_⟩
    rw[←h4.2.1]
    exact Ra _

theorem aE.one {t:Nat} (h:aE P tt t):∀i z,P.info? t=some i→i.zero=some z→z.oneCell' = !tt.isAgg t:=by
  intro i z hi hz
  obtain ⟨j,h1,h2,h3,h4⟩:=h
  rw[hi]at h1; cases h1
  unfold zeroOf at h4
  rw[hz]at h4
  simp only[Option.map_some,Option.some.injEq,Prod.mk.injEq]at h4
  exact h4.2.2

theorem u8s_of (h:(List.range tt.length).all (fun e=>match (tt.at e).ty with|some (.int .u8)=>Nat.beq e oJ.u8|_=>true)=true):∀e,(tt.at e).ty=some (.int .u8)→e=oJ.u8:=by
  intro e he
  by_cases hl:e<tt.length
  · have:=List.all_eq_true.1 h e (by simpa using hl)
    rw[he]at this
    exact Nat.eq_of_beq_eq_true this
  · have:tt.at e=TI.none:=by unfold dJ.at; simp[List.getD,List.getElem?_eq_none (Nat.le_of_not_lt hl)]
    rw[this]at he; cases he

def bldOk (tt:dJ) (t:Nat):Bool:=Nat.beq t oJ.kI&&tt.ok t&&(match (tt.at t).zero with | [.eN, .cF]=>true|_=>false)
theorem blds_of (h:(List.range tt.length).all (fun t=>bif (tt.at t).kI then bldOk tt t else true)=true):∀t,(tt.at t).kI=true→t=oJ.kI∧(tt.at t).zero = [.eN, .cF]∧tt.ok t=true:=by
  intro t ht
  by_cases hl:t<tt.length
  · have:=List.all_eq_true.1 h t (by simpa using hl)
    rw[ht]at this
    simp only[cond_true,bldOk,Bool.and_eq_true]at this
    obtain ⟨⟨h1,h2⟩,h3⟩:=this
    refine ⟨Nat.eq_of_beq_eq_true h1,?_,h2⟩
    split at h3
    · assumption
    · cases h3
  · have:tt.at t=TI.none:=by unfold dJ.at; simp[List.getD,List.getElem?_eq_none (Nat.le_of_not_lt hl)]
    rw[this]at ht; cases ht

theorem PD {n t:Nat} (hn:tt.length=n) (ht:n≤t):tt.at t=TI.none:=by
  unfold dJ.at
  rw[List.getD,List.getElem?_eq_none (by omega)]
  rfl

theorem Ys {n t:Nat} (hn:tt.length=n) (ht:n≤t):(tt.at t).d.Is P t:=by rw[PD hn ht]; trivial
theorem ok_past {n t:Nat} (hn:tt.length=n) (ht:n≤t) (h:tt.ok t=true):False:=by
  unfold dJ.ok at h
  rw[PD hn ht]at h
  cases h
theorem eq_past {n t:Nat} (hn:tt.length=n) (ht:n≤t) (h:(tt.at t).eq=true):False:=by
  rw[PD hn ht]at h
  cases h
end

section
variable {P:Program} {tt:dJ} {w:World} {h:az} {c:kh}

def SS (P:Program) (ty:TypeId) (z:V):Prop :=
  (∃k n,z = .int k n∧P.underlying ty=some (.int k))∨(∃s,z = .str s∧P.underlying ty=some .string)∨(∃b,z = .bool b∧P.underlying ty=some .bool)

theorem FR {ty:TypeId} {z:V} (s:SS P ty z) {xs:Array Value} {j:Nat} {x:Value} (hx:xs[j]? = some x):(part ty xs j).run P w = .ok x w:=by
  rcases s with ⟨k,n,_,hu⟩|⟨n,_,hu⟩|⟨n,_,hu⟩ <;> simp[part,Go.isAgg,run_underlying hu,hx]

theorem eqF (d:Nat) (xs ys:Array Value):∀(fs:List Field) (zs cs ds:List V) (j:Nat) (b:Bool),(∀i f z,fs[i]? = some f→zs[i]? = some z→f.name ≠ "_" ∧ f.offset=j+i∧SS P f.type z)→fs.length=zs.length →
    ft zs cs=true→ft zs ds=true→mh cs ds=some b→(∀i v,cs[i]? = some v→∃x,xs[j+i]? = some x∧dC w h c v x)→(∀i v,ds[i]? = some v→∃x,ys[j+i]? = some x∧dC w h c v x) →
    (Op.eqFields (d+1) xs ys fs).run P w = .ok b w
  | [],zs,cs,ds,j,b,_,hl,hc,hd,he,_,_=>by
    have:zs = []:=List.eq_nil_of_length_eq_zero hl.symm
    subst this
    cases cs with
    | cons=>cases hc
    | nil =>
      cases ds with
      | cons=>cases hd
      | nil=>cases he; simp[Op.eqFields]
  | f::fs, [],_,_,_,_,_,hl,_,_,_,_,_=>by cases hl
  | f::fs,z::zs,cs,ds,j,b,hf,hl,hc,hd,he,hx,hy=>by
    obtain ⟨h1,h2,h3⟩:=hf 0 f z rfl rfl
    have Vi:∀i g y,fs[i]? = some g→zs[i]? = some y→g.name ≠ "_" ∧ g.offset=(j+1)+i∧SS P g.type y:=fun i g y hg hy=>by
      have:=hf (i+1) g y (by simpa using hg) (by simpa using hy)
      exact ⟨this.1,by omega,this.2.2⟩
    have WN:fs.length=zs.length:=by simpa using hl
    cases cs with
    | nil=>cases z <;> cases hc
    | cons c0 cs =>
      cases ds with
      | nil=>cases z <;> cases hd
      | cons d0 ds =>
        obtain ⟨x,hx0,rx⟩:=hx 0 c0 rfl
        obtain ⟨y,hy0,ry⟩:=hy 0 d0 rfl
        have hx':∀i v,cs[i]? = some v→∃x,xs[(j+1)+i]? = some x∧dC w h c v x:=fun i v hv=>by
          obtain ⟨x,q1,q2⟩:=hx (i+1) v (by simpa using hv)
          exact ⟨x,by rw[←q1]; congr 1; omega,q2⟩
        have hy':∀i v,ds[i]? = some v→∃x,ys[(j+1)+i]? = some x∧dC w h c v x:=fun i v hv=>by
          obtain ⟨x,q1,q2⟩:=hy (i+1) v (by simpa using hv)
          exact ⟨x,by rw[←q1]; congr 1; omega,q2⟩
        have p1:=FR (w:=w) h3 hx0
        have p2:=FR (w:=w) h3 hy0
        have fin:∀(r:Bool),(Op.equalIn (d+1) f.type x y).run P w = .ok r w→∀b',mh cs ds=some b'→ft zs cs=true→ft zs ds=true→b=(r&&b')→(Op.eqFields (d+1) xs ys (f::fs)).run P w = .ok b w:=by
          intro r hr b' pA kc kd hb
          subst hb
          have ih:=eqF d xs ys fs zs cs ds (j+1) b' Vi WN kc kd pA hx' hy'
          simp only[Op.eqFields,h1,ne_eq,not_false_eq_true,if_true,Sem.run_bind,h2,Nat.add_zero,p1,p2,Result.andThen_ok,hr]
          simp only[Nat.add_zero]at p1 p2
          simp only[p1,p2,Result.andThen_ok,hr]
          cases r with
          | true=>simpa using ih
          | false=>simp
        rcases h3 with ⟨k,n,rfl,hu⟩|⟨s,rfl,hu⟩|⟨q,rfl,hu⟩
        · cases c0 with
          | int k1 n1 =>
            cases d0 with
            | int k2 n2 =>
              simp only[ft,Bool.and_eq_true,decide_eq_true_eq]at hc hd
              obtain ⟨rfl,hc⟩:=hc
              obtain ⟨rfl,hd⟩:=hd
              cases rx
              cases ry
              simp only[mh,if_true]at he
              split at he
              · rename_i b' pA
                cases he
                exact fin _ (run_equalIn_int w d _ _ _ _ _ hu) b' pA hc hd rfl
              · cases he
            | _=>simp[ft]at hd
          | _=>simp[ft]at hc
        · cases c0 with
          | str s1 =>
            cases d0 with
            | str s2 =>
              simp only[ft]at hc hd
              cases rx
              cases ry
              simp only[mh]at he
              split at he
              · rename_i b' pA
                cases he
                refine fin _ (run_equalIn_string w d _ _ _ hu) b' pA hc hd ?_
                congr 1
                simp only[ByteArray.toList_eq]
              · cases he
            | _=>simp[ft]at hd
          | _=>simp[ft]at hc
        · cases c0 with
          | bool s1 =>
            cases d0 with
            | bool s2 =>
              simp only[ft]at hc hd
              cases rx
              cases ry
              simp only[mh]at he
              split at he
              · rename_i b' pA
                cases he
                exact fin _ (run_equalIn_bool' w d _ _ _ hu) b' pA hc hd rfl
              · cases he
            | _=>simp[ft]at hd
          | _=>simp[ft]at hc

def FlatT (P:Program) (ty:TypeId) (g:List V):Prop :=
  P.underlying ty=some (.struct (P.fieldsOf ty))∧P.stoodInHeld ty=false∧(∃i,P.info? ty=some i)∧P.cellsOf ty=g.length∧(P.fieldsOf ty).toList.length=g.length ∧
    ∀i f z,(P.fieldsOf ty).toList[i]? = some f→g[i]? = some z→f.name ≠ "_" ∧ f.offset=0+i∧SS P f.type z

def PE (P:Program):List Field→List (List V)→Nat→Prop
  | [], [],_=>True
  | f::fs,g::gs,j=>f.name ≠ "_" ∧ f.offset=j∧((∃z,g = [z]∧SS P f.type z)∨FlatT P f.type g)∧PE P fs gs (j+g.length)
  | _,_,_=>False

theorem E6:∀ {zs cs:List V},ft zs cs=true→cs.length=zs.length
  | [], [],_=>rfl
  | [],_::_,h=>by cases h
  | z::_, [],h=>by cases z <;> cases h
  | z::zs,c::cs,h=>by
    have:ft zs cs=true:=by
      cases z <;> cases c <;> simp[ft]at h
      · exact h.2
      · exact h
      · exact h
    simp[E6 this]

theorem CE:∀ {g zs cs:List V},ft (g++zs) cs=true→ft g (cs.take g.length)=true∧ft zs (cs.drop g.length)=true
  | [],zs,cs,h=>by simpa [ft]using h
  | z::g,zs, [],h=>by cases z <;> cases h
  | z::g,zs,c::cs,h=>by
    have key:ft (g++zs) cs=true:=by
      cases z <;> cases c <;> simp[ft]at h
      · exact h.2
      · exact h
      · exact h
    obtain ⟨h1,h2⟩:=CE key
    refine ⟨?_,by simpa using h2⟩
    simp only[List.length_cons,List.take_succ_cons]
    cases z <;> cases c <;> simp[ft]at h ⊢
    · exact ⟨h.1,h1⟩
    · exact h1
    · exact h1

theorem yK:∀(n:Nat) {cs ds:List V} {b:Bool},mh cs ds=some b→n≤cs.length→∃b1 b2,mh (cs.take n) (ds.take n)=some b1∧mh (cs.drop n) (ds.drop n)=some b2∧b=(b1&&b2)
  | 0,cs,ds,b,h,_=>⟨true,b,by simp[mh],by simpa using h,by simp⟩
  | n+1, [],_,_,_,hn=>by simp at hn
  | n+1,c::cs, [],b,h,_=>by cases c <;> cases h
  | n+1,c::cs,d::ds,b,h,hn=>by
    have P7:n≤cs.length:=by simpa using hn
    simp only[List.take_succ_cons,List.drop_succ_cons]
    cases c <;> cases d <;> simp only[mh]at h ⊢ <;> try (first|cases h)
    · split at h
      · rename_i e
        rw[if_pos e]
        split at h
        · rename_i r hr
          cases h
          obtain ⟨b1,b2,h1,h2,h3⟩:=yK n hr P7
          rw[h1]
          exact ⟨_,b2,rfl,h2,by rw[h3,Bool.and_assoc]⟩
        · cases h
      · cases h
    · split at h
      · rename_i r hr
        cases h
        obtain ⟨b1,b2,h1,h2,h3⟩:=yK n hr P7
        rw[h1]
        exact ⟨_,b2,rfl,h2,by rw[h3,Bool.and_assoc]⟩
      · cases h
    · split at h
      · rename_i r hr
        cases h
        obtain ⟨b1,b2,h1,h2,h3⟩:=yK n hr P7
        rw[h1]
        exact ⟨_,b2,rfl,h2,by rw[h3,Bool.and_assoc]⟩
      · cases h

theorem On {ty:TypeId} {g:List V} (s:FlatT P ty g) {xs:Array Value} {j:Nat}:(part ty xs j).run P w = .ok (.agg (xs.extract j (j+g.length))) w:=by
  obtain ⟨h1,_,⟨i,h3⟩,h4,_⟩:=s
  have hs:(sizeOf ty).run P w = .ok g.length w:=by
    have:P.cellsOf ty=i.size:=by simp[Program.cellsOf,h3]
    rw[←h4,this]
    simp[sizeOf,typeInfo,h3]
  simp[part,Go.isAgg,run_underlying h1,hs]

theorem eqG (d:Nat) (xs ys:Array Value):∀(fs:List Field) (gs:List (List V)) (cs ds:List V) (j:Nat) (b:Bool),PE P fs gs j→ft gs.flatten cs=true→ft gs.flatten ds=true→mh cs ds=some b →
    (∀i v,cs[i]? = some v→∃x,xs[j+i]? = some x∧dC w h c v x)→(∀i v,ds[i]? = some v→∃x,ys[j+i]? = some x∧dC w h c v x)→(Op.eqFields (d+2) xs ys fs).run P w = .ok b w
  | [], [],cs,ds,j,b,_,hc,hd,he,_,_=>by
    cases cs with
    | cons=>cases hc
    | nil =>
      cases ds with
      | cons=>cases hd
      | nil=>cases he; simp[Op.eqFields]
  | [],_::_,_,_,_,_,hn,_,_,_,_,_=>by cases hn
  | _::_, [],_,_,_,_,hn,_,_,_,_,_=>by cases hn
  | f::fs,g::gs,cs,ds,j,b,hn,hc,hd,he,hx,hy=>by
    obtain ⟨n1,n2,n3,n4⟩:=hn
    rw[List.flatten_cons]at hc hd
    obtain ⟨c1,c2⟩:=CE hc
    obtain ⟨d1,d2⟩:=CE hd
    have lc:=E6 hc
    have ld:=E6 hd
    rw[List.length_append]at lc ld
    obtain ⟨b1,b2,e1,e2,rfl⟩:=yK g.length he (by omega)
    have behind:∀ {cs:List V} {xs:Array Value},(∀i v,cs[i]? = some v→∃x,xs[j+i]? = some x∧dC w h c v x)→∀i v,(cs.drop g.length)[i]? = some v→∃x,xs[(j+g.length)+i]? = some x∧dC w h c v x:=by
      intro cs xs hx i v hv
      rw[List.getElem?_drop]at hv
      obtain ⟨x,q1,q2⟩:=hx _ v hv
      exact ⟨x,by rw[←q1]; congr 1; omega,q2⟩
    have ih:=eqG d xs ys fs gs _ _ (j+g.length) b2 n4 c2 d2 e2 (behind hx) (behind hy)
    -- what the field is
    have key:∃x y,(part f.type xs j).run P w = .ok x w∧(part f.type ys j).run P w = .ok y w∧(Op.equalIn (d+2) f.type x y).run P w = .ok b1 w:=by
      rcases n3 with ⟨z,rfl,hz⟩|hF
      · -- one cell: the flat case, alone
        cases cs with
        | nil=>simp only[List.length_nil,List.length_cons]at lc; omega
        | cons c0 cs =>
          cases ds with
          | nil=>simp only[List.length_nil,List.length_cons]at ld; omega
          | cons d0 ds =>
            simp only[List.length_cons,List.length_nil,Nat.zero_add,List.take_succ_cons,List.take_zero]at c1 d1 e1
            obtain ⟨x,hx0,rx⟩:=hx 0 c0 rfl
            obtain ⟨y,hy0,ry⟩:=hy 0 d0 rfl
            rw[Nat.add_zero]at hx0 hy0
            refine ⟨x,y,FR hz hx0,FR hz hy0,?_⟩
            rcases hz with ⟨k,n,rfl,hu⟩|⟨s,rfl,hu⟩|⟨q,rfl,hu⟩
            · cases c0 <;> simp[ft]at c1
              cases d0 <;> simp[ft]at d1
              subst c1 d1
              cases rx
              cases ry
              simp only[mh,if_true,Option.some.injEq]at e1
              subst e1
              rw[Bool.and_true]
              exact run_equalIn_int w (d+1) _ _ _ _ _ hu
            · cases c0 <;> simp[ft]at c1
              cases d0 <;> simp[ft]at d1
              cases rx
              cases ry
              simp only[mh,Option.some.injEq]at e1
              subst e1
              rw[Bool.and_true]
              refine (run_equalIn_string w (d+1) f.type _ _ hu).trans ?_
              congr 1
              simp only[ByteArray.toList_eq]
            · cases c0 <;> simp[ft]at c1
              cases d0 <;> simp[ft]at d1
              cases rx
              cases ry
              simp only[mh,Option.some.injEq]at e1
              subst e1
              rw[Bool.and_true]
              exact run_equalIn_bool' w (d+1) _ _ _ hu
      · refine ⟨_,_,On hF,On hF,?_⟩
        obtain ⟨h1,h2,h3,h4,h5,h6⟩:=hF
        rw[run_equalIn_struct w (d+1) f.type _ _ h1 h2]
        have at0:∀ {cs:List V} {xs:Array Value},(∀i v,cs[i]? = some v→∃x,xs[j+i]? = some x∧dC w h c v x)→∀i v,(cs.take g.length)[i]? = some v→∃x,(xs.extract j (j+g.length))[0+i]? = some x∧dC w h c v x:=by
          intro cs xs hx i v hv
          have hi:i<g.length:=by
            have:=(List.getElem?_eq_some_iff.1 hv).1
            rw[List.length_take]at this
            omega
          rw[List.getElem?_take_of_lt hi]at hv
          obtain ⟨x,q1,q2⟩:=hx i v hv
          refine ⟨x,?_,q2⟩
          rw[Nat.zero_add,Array.getElem?_extract]
          have qs:j+i<xs.size:=(Array.getElem?_eq_some_iff.1 q1).1
          rw[if_pos (by omega),q1]
        exact eqF d _ _ _ _ _ _ 0 b1 h6 h5 c1 d1 e1 (at0 hx) (at0 hy)
    obtain ⟨x,y,p1,p2,hr⟩:=key
    simp only[Op.eqFields,n1,ne_eq,not_false_eq_true,if_true,Sem.run_bind,n2,p1,p2,Result.andThen_ok,hr]
    cases b1 with
    | true=>simpa using ih
    | false=>simp

def Jk (P:Program) (tt:dJ) (t:Nat):Prop :=
  P.underlying t=some (.struct (P.fieldsOf t))∧P.stoodInHeld t=false∧P.eqGuardType P.depth t=false∧∃gs,gs.flatten=(tt.at t).zero∧PE P (P.fieldsOf t).toList gs 0

def Uf (P:Program) (ty:TypeId):V→Bool
  | .int k _=>(match P.underlying ty with|some (.int k')=>decide (k'=k)|_=>false)
  | .str _=>(match P.underlying ty with|some .string=>true|_=>false)
  | .bool _=>(match P.underlying ty with|some .bool=>true|_=>false)
  | _=>false

theorem L7 {ty:TypeId} {z:V} (h:Uf P ty z=true):SS P ty z:=by
  unfold Uf at h
  split at h
  · split at h
    · rename_i k n _ k' hu
      have e:k'=k:=by simpa using h
      subst e
      exact .inl ⟨_,_,rfl,hu⟩
    · cases h
  · split at h
    · rename_i hu; exact .inr (.inl ⟨_,rfl,hu⟩)
    · cases h
  · split at h
    · rename_i hu; exact .inr (.inr ⟨_,rfl,hu⟩)
    · cases h
  · cases h

def Ug (P:Program):List Field→List V→Nat→Bool
  | [], [],_=>true
  | f::fs,z::zs,j=>decide (f.name ≠ "_")&&decide (f.offset=j)&&Uf P f.type z&&Ug P fs zs (j+1)
  | _,_,_=>false

theorem L8:∀(fs:List Field) (zs:List V) (j:Nat),Ug P fs zs j=true→fs.length=zs.length∧∀i f z,fs[i]? = some f→zs[i]? = some z→f.name ≠ "_" ∧ f.offset=j+i∧SS P f.type z
  | [], [],_,_=>⟨rfl,fun i f z h=>by simp at h⟩
  | [],_::_,_,h=>by cases h
  | _::_, [],_,h=>by cases h
  | f::fs,z::zs,j,h=>by
    simp only[Ug,Bool.and_eq_true,decide_eq_true_eq]at h
    obtain ⟨⟨⟨h1,h2⟩,h3⟩,h4⟩:=h
    obtain ⟨g1,g2⟩:=L8 fs zs (j+1) h4
    refine ⟨by simp[g1],fun i g y hg hy => ?_⟩
    cases i with
    | zero =>
      simp at hg hy
      subst hg; subst hy
      exact ⟨h1,h2,L7 h3⟩
    | succ i =>
      obtain ⟨q1,q2,q3⟩:=g2 i g y (by simpa using hg) (by simpa using hy)
      exact ⟨q1,by omega,q3⟩

def flatB (P:Program) (ty:TypeId) (g:List V):Bool :=
  (match P.info? ty with|some _=>true|none=>false)&&Nat.beq (P.cellsOf ty) g.length && !P.stoodInHeld ty&&Ug P (P.fieldsOf ty).toList g 0
def Oo (P:Program):List Field→List V→Nat→Bool
  | [],zs,_=>zs.isEmpty
  | f::fs,zs,j =>
    decide (f.name ≠ "_")&&decide (f.offset=j) &&
      (match P.underlying f.type with
       | some (.struct fl)=>flatB P f.type (zs.take fl.size)&&Oo P fs (zs.drop fl.size) (j+fl.size)
       | _=>(match zs with|z::zr=>Uf P f.type z&&Oo P fs zr (j+1) | []=>false))

theorem G6:∀(fs:List Field) (zs:List V) (j:Nat),Oo P fs zs j=true→∃gs:List (List V),gs.flatten=zs∧PE P fs gs j
  | [],zs,j,h=>⟨[],by simpa [Oo]using h.symm,trivial⟩
  | f::fs,zs,j,h=>by
    simp only[Oo,Bool.and_eq_true,decide_eq_true_eq]at h
    obtain ⟨⟨h1,h2⟩,h3⟩:=h
    split at h3
    · rename_i fl hu
      rw[Bool.and_eq_true]at h3
      obtain ⟨g1,g2⟩:=h3
      have hfo:P.fieldsOf f.type=fl:=by simp[Program.fieldsOf,hu]
      obtain ⟨gs,e1,e2⟩:=G6 fs _ _ g2
      unfold flatB at g1
      simp only[Bool.and_eq_true,Bool.not_eq_true']at g1
      obtain ⟨⟨⟨k1,k2⟩,k3⟩,k4⟩:=g1
      obtain ⟨q1,q2⟩:=L8 _ _ _ k4
      have hlen:(zs.take fl.size).length=fl.size:=by rw[←q1,hfo]; simp
      refine ⟨zs.take fl.size::gs,by rw[List.flatten_cons,e1,List.take_append_drop],h1,h2, .inr ⟨by rw[hfo]; exact hu,k3,?_,Nat.eq_of_beq_eq_true k2,q1,q2⟩,by rw[hlen]; exact e2⟩
      cases hi:P.info? f.type with
      | none=>rw[hi]at k1; cases k1
      | some i=>exact ⟨i,rfl⟩
    · split at h3
      · rename_i z zr
        rw[Bool.and_eq_true]at h3
        obtain ⟨gs,e1,e2⟩:=G6 fs _ _ h3.2
        exact ⟨[z]::gs,by rw[List.flatten_cons,e1]; rfl,h1,h2, .inl ⟨z,rfl,L7 h3.1⟩,e2⟩
      · cases h3

theorem Jk.of {t:Nat} (h1:P.underlying t=some (.struct (P.fieldsOf t))) (h2:P.stoodInHeld t=false) (h3:P.eqGuardType P.depth t=false) (h4:Oo P (P.fieldsOf t).toList (tt.at t).zero 0=true):Jk P tt t :=
  ⟨h1,h2,h3,G6 _ _ _ h4⟩

theorem eqOk_eq {i:TI} {a b:List V} (h:O8 i a b=true):i.eq=true:=by
  unfold O8 at h
  simp only[Bool.and_eq_true]at h
  exact h.1.1

theorem Yt {t:Nat} (e:Jk P tt t) {cs ds:List V} {xs ys:Array Value} {b:Bool} (hk:O8 (tt.at t) cs ds=true) (rx:cH w h c cs xs.toList) (ry:cH w h c ds ys.toList) (hb:mh cs ds=some b) :
    P.eqGuardType P.depth t=false∧(Op.equalIn 10000 t (.agg xs) (.agg ys)).run P w = .ok b w:=by
  obtain ⟨e1,e2,e3,gs,e4,e5⟩:=e
  refine ⟨e3,?_⟩
  unfold O8 at hk
  simp only[Bool.and_eq_true]at hk
  rw[run_equalIn_struct w 9999 t xs ys e1 e2]
  have get:∀ {cs:List V} {xs:Array Value},cH w h c cs xs.toList→∀i v,cs[i]? = some v→∃x,xs[0+i]? = some x∧dC w h c v x:=by
    intro cs xs r i v hv
    have hi:=(List.getElem?_eq_some_iff.1 hv).1
    have hl:i<xs.size:=by have:=r.1; simp at this; omega
    refine ⟨xs[i],by simp[hl],r.2 i v _ hv (by simp[hl])⟩
  exact eqG 9997 xs ys _ gs cs ds 0 b e5 (by rw[e4]; exact hk.1.2) (by rw[e4]; exact hk.2) hb (get rx) (get ry)
end

section
variable {R:Type} {P:Program} {tt:dJ}

mutual
def Json.depth:Json→Nat
  | ⟨_,_,_,_,l⟩=>Json.By l+1
def Json.By:List Json→Nat
  | []=>0
  | x::l=>max x.depth (Json.By l)
end
mutual
def Raw.depth:Raw→Nat
  | ⟨_,_,_,_,l⟩=>Raw.By l+1
def Raw.By:List Raw→Nat
  | []=>0
  | x::l=>max x.depth (Raw.By l)
end

def iO.fu (x:iO):Nat:=x.aB.natAbs+x.exp.natAbs
def Json.fu (x:Json):Nat:=x.text.length+x.names.length+x.items.length
def Raw.fu (x:Raw):Nat:=x.text.length+x.items.length
def FY.fu (x:FY):Nat:=x.kind.natAbs+x.aB.natAbs+x.exp.natAbs+x.text.length
def Z4.fu (x:Z4):Nat:=x.name.length
def Nj.fu (x:Nj):Nat:=x.topic.length+x.data.length
def Token.fu (x:Token):Nat:=x.text.length
def Stop.fu (x:Stop):Nat:=0
def Way.fu (x:Way):Nat:=0
def Order.fu (x:Order):Nat:=x.header.natAbs+x.s7.length+x.order.natAbs+x.update.natAbs+x.nodes.length+x.Lb.length
def Edge.fu (x:Edge):Nat:=0
def Cz.fu (x:Cz):Nat:=x.nodes.natAbs+x.Lb.length
def Gn.fu (x:Gn):Nat:=x.maker.length+x.W2.length+x.kind.length
def State.fu (x:State):Nat:=x.header.natAbs+x.W3.natAbs+x.s7.length+x.order.natAbs+x.update.natAbs+x.node.natAbs+x.seq.natAbs+x.accepted.natAbs
def Z5.fu (x:Z5):Nat:=x.s7.length+x.header.natAbs+x.order.natAbs+x.update.natAbs+x.W3.natAbs+x.seen.natAbs+x.path.length+x.seq.natAbs+x.rel.natAbs+x.pending.header.natAbs+x.pending.s7.length+x.pending.order.natAbs+x.pending.update.natAbs+x.pending.nodes.length+x.pending.Lb.length
def Nk.fu (x:Nk):Nat:=x.kind.natAbs+x.i.natAbs+x.k.natAbs+x.by_.natAbs+x.data.length
def Ee.fu (x:Ee):Nat:=x.header.natAbs+x.order.natAbs+x.update.natAbs+x.seq.natAbs+x.from_.natAbs+x.zc.natAbs+x.turns.length
def Nl.fu (x:Nl):Nat:=x.kind.natAbs+x.o.header.natAbs+x.o.order.natAbs+x.o.update.natAbs+x.o.seq.natAbs+x.o.from_.natAbs+x.o.zc.natAbs+x.o.turns.length+x.data.length
def Nn.fu (x:Nn):Nat:=x.kind.natAbs+x.n.natAbs+x.turns.length
def Np.fu (x:Np):Nat:=x.a.natAbs+x.b.natAbs+x.c.natAbs
def Kh.fu (x:Kh):Nat:=x.a.natAbs+x.b.natAbs
def Nq.fu (x:Nq):Nat:=x.a.aB.natAbs+x.a.exp.natAbs+x.b.aB.natAbs+x.b.exp.natAbs
def Nr.fu (x:Nr):Nat:=x.name.length+x.home.natAbs
def Z6.fu (x:Z6):Nat:=x.id.natAbs+x.target.natAbs+x.state.natAbs+x.s7.natAbs
def CA.fu (x:CA):Nat:=x.kind.natAbs+x.nums.length+x.text.length

theorem DN (rs:List Ty) (t:Nat):∃b,(tt.mode rs).at t = { tt.at t with rowy:=b }:=by
  unfold dJ.mode dJ.at
  simp only[List.getD,List.getElem?_map]
  cases tt[t]? with
  | none=>exact ⟨false,rfl⟩
  | some i=>exact ⟨_,rfl⟩

theorem PF (rs:List Ty) (t:Nat):(tt.mode rs).ok t=tt.ok t:=by
  obtain ⟨b,h⟩:=DN (tt:=tt) rs t
  unfold dJ.ok
  rw[h]

theorem xy.mode (T:xy P tt) (rs:List Ty):xy P (tt.mode rs) where
  und:=fun t=>by obtain ⟨b,h⟩:=DN (tt:=tt) rs t; rw[h]; exact T.und t
  info:=fun t ht=>by
    rw[PF]at ht
    obtain ⟨b,h⟩:=DN (tt:=tt) rs t
    rw[h]
    exact T.info t ht
  eqs:=fun t w h c cs ds xs ys b hk=>by
    obtain ⟨b',h'⟩:=DN (tt:=tt) rs t
    rw[h']at hk
    exact T.eqs t w h c cs ds xs ys b hk
  u8s:=fun e he=>by
    obtain ⟨b,h⟩:=DN (tt:=tt) rs e
    rw[h]at he
    exact T.u8s e he
  blds:=fun t ht=>by
    obtain ⟨b,h⟩:=DN (tt:=tt) rs t
    rw[h]at ht
    rw[PF,h]
    exact T.blds t ht
  ones:=fun t ht=>by
    rw[PF]at ht
    obtain ⟨b,h⟩:=DN (tt:=tt) rs t
    have e:(tt.mode rs).isAgg t=tt.isAgg t:=by unfold dJ.isAgg; rw[h]
    rw[e]
    exact T.ones t ht

theorem k9 {D:Type} {E:Env R} {L:Nat→Option (Hint × cp R)} {m:Nat} {a:Code} {hint:Hint} (enc:D→St)
    (s:(Ex→St→Option R)→(D→Option R)→D→Option R) (A:(Ex→St→Option R)→Nat→D→Option R)
    (h0:∀K d,A K 0 d=none)
    (hB:∀K fT d,roundOf tt E L m a hint (enc d) fT K=s K (fun d=>fT (enc d)) d)
    (hA:∀K n d,A K (n+1) d=s K (A K n) d) (K:Ex→St→Option R) :
    ∀n d,Cf (k6 tt E L m a) (norm m hint) n (enc d) (fun e st=>K e (trim m hint st))=A K n d
  | 0,d=>(h0 K d).symm
  | n+1,d=>by
    rw[SR,hB,hA]
    exact congrArg (fun q=>s K q d) (funext fun d=>k9 enc s A h0 hB hA K n d)

theorem gW {D:Type} {E:Env R} {L:Nat→Option (Hint × cp R)} {m:Nat} {a:Code} {hint:Hint} {ps:List bP} {hs:List aI}
    {run:bP.av ps→aI.av hs→(Ex→St→Option R)→Option R} {other:cp R} {enc:D→St} {A:(Ex→St→Option R)→Nat→D→Option R}
    (ho:pG tt E L m a hint other)
    (tie:∀K n d,Cf (k6 tt E L m a) (norm m hint) n (enc d) (fun e st=>K e (trim m hint st))=A K n d)
    (fuel:bP.av ps→aI.av hs→Nat) (dat:bP.av ps→aI.av hs→D)
    (henc:∀x y,(⟨bP.cT ps x,aI.cT hs y⟩:St)=enc (dat x y))
    (mI:∀x y K,run x y K=A K (fuel x y) (dat x y)):pG tt E L m a hint (gE ps hs run other) :=
  VN ho fun x y K=>⟨fuel x y,by rw[henc,mI]; exact tie K _ _⟩

theorem C6 {g:Nat} {ps:List bP} {hs:List aI} {run:Nat→bP.av ps→aI.av hs→(V→az→Option R)→Option R} {other:Spec R}
    (fuel:bP.av ps→aI.av hs→Nat) (ho:Spec.Ok P g other)
    (h:∀n,Spec.Ok P g (aA ps hs (run n) bg)):Spec.Ok P g (aA ps hs (fun x y k=>run (fuel x y) x y k) other):=by
  intro vs hp k r hk
  unfold aA at hk
  split at hk
  · rename_i x y h1 h2
    refine h (fuel x y) vs hp k r ?_
    unfold aA
    rw[h1,h2]
    exact hk
  · exact ho _ _ _ _ hk

theorem vR {g:Nat} {ps:List bP} {hs:List aI} {run:Nat→bP.av ps→aI.av hs→(V→az→Option R)→Option R}
    (h0:∀x y k,run 0 x y k=none)
    (hs':∀n,Spec.Ok P g (aA ps hs (run n) bg)→Spec.Ok P g (aA ps hs (run (n+1)) bg)):∀n,Spec.Ok P g (aA ps hs (run n) bg)
  | 0=>by
    intro vs hp k r hk
    unfold aA at hk
    split at hk
    · rw[h0]at hk; cases hk
    · cases hk
  | n+1=>hs' n (vR h0 hs' n)

theorem Bz {g:Nat} {ps:List bP} {hs:List aI} {run run':bP.av ps→aI.av hs→(V→az→Option R)→Option R} {other:Spec R}
    (h:Spec.Ok P g (aA ps hs run other)) (e:run'=run):Spec.Ok P g (aA ps hs run' other):=e▸h
end
abbrev oy (s:aj):List Int:=GN s
end Go.ay

