/-
  JsonNames: for every input whose bulk is at most 1048576 the law returns true, and each argument reads behind the call as it read before; part 3 of 8 of the proof: an interpreter of the model's code over typed data, proved sound; the functions that the law reaches, printed as Lean functions and tied; the plain law. Own texts laid one behind the other.
-/
import Derived.Calls
import Derived.Orders
import Derived.ChangeKeysEq
import Derived.Test.YtmlkkgfenfdndaaGreatDoorJsonNamesB2
set_option linter.unusedSimpArgs false
set_option linter.unnecessarySimpa false
set_option linter.unusedVariables false
set_option linter.unusedSectionVars false
namespace Go.ax
open Go.RowKit

section
variable {w w':World} {h h':ay} {c c':jZ}

theorem qA {i:Nat}:∀ {cs:List V},i∈V.sc cs↔∃(j:Nat) (v:V),cs[j]? = some v∧i∈v.ids
  | []=>by simp[V.sc]
  | v::cs=>by
    simp only[V.sc,List.mem_append,qA (cs:=cs)]
    constructor
    · rintro (h|⟨j,u,h1,h2⟩)
      · exact ⟨0,v,rfl,h⟩
      · exact ⟨j+1,u,h1,h2⟩
    · rintro ⟨j,u,h1,h2⟩
      cases j with
      | zero=>simp at h1; subst h1; exact .inl h2
      | succ j=>exact .inr ⟨j,u,h1,h2⟩

theorem dw.yO {v:V} {d:Value} (r:dw w h c v d):∀i∈v.ids,Used h i:=by
  induction r with
  | undef v=>simp[V.ids]
  | int hn=>simp[V.ids]
  | bool b=>simp[V.ids]
  | str hl=>simp[V.ids]
  | eC=>simp[V.ids]
  | cw=>simp[V.ids]
  | aS=>simp[V.ids]
  | n8=>simp[V.ids]
  | cJ=>simp[V.ids]
  | iface t v=>simp[V.ids]
  | Em hn=>simp[V.ids]
  | Fv b=>simp[V.ids]
  | ptr hi _=>simpa [V.ids]using hi
  | map hi _=>simpa [V.ids]using hi
  | row hi _ _=>simpa [V.ids]using hi
  | Ct hi _ _=>simpa [V.ids]using hi
  | sN hi _=>simpa [V.ids]using hi
  | xi f hc _ ih =>
    intro i hi
    simp only[V.ids]at hi
    obtain ⟨j,v,h1,h2⟩:=qA.1 hi
    exact ih j v h1 i h2
  | @sl T l t A cap f lB sd hc hr xF mA ih =>
    intro i hi
    cases t with
    | no=>simp[V.ids]at hi
    | nil=>simp[V.ids]at hi
    | own j=>simp[V.ids]at hi; subst hi; exact (mA i rfl).1
  | Mn hn sd f hc _ ih =>
    intro i hi
    simp only[V.ids]at hi
    obtain ⟨j,v,h1,h2⟩:=qA.1 hi
    exact ih j v h1 i h2
  | @func f a b x y ha hb _ _ iha ihb =>
    intro i hi
    simp only[V.ids,List.mem_append]at hi
    rcases hi with hi|hi
    · obtain ⟨j,v,h1,h2⟩:=qA.1 hi
      have hj:=(List.getElem?_eq_some_iff.1 h1).1
      exact iha j v _ h1 (Array.getElem?_eq_getElem (by omega)) i h2
    · obtain ⟨j,v,h1,h2⟩:=qA.1 hi
      have hj:=(List.getElem?_eq_some_iff.1 h1).1
      exact ihb j v _ h1 (Array.getElem?_eq_getElem (by omega)) i h2
  | agg hl _ ih =>
    intro i hi
    simp only[V.ids]at hi
    obtain ⟨j,v,h1,h2⟩:=qA.1 hi
    have hj:=(List.getElem?_eq_some_iff.1 h1).1
    exact ih j v _ h1 (Array.getElem?_eq_getElem (by omega)) i h2
  | tuple hl _ ih =>
    intro i hi
    simp only[V.ids]at hi
    obtain ⟨j,v,h1,h2⟩:=qA.1 hi
    have hj:=(List.getElem?_eq_some_iff.1 h1).1
    exact ih j v _ h1 (Array.getElem?_eq_getElem (by omega)) i h2

theorem cz.yO {cs:List V} {ds:List Value} (r:cz w h c cs ds):∀i∈V.sc cs,Used h i:=by
  intro i hi
  obtain ⟨j,v,h1,h2⟩:=qA.1 hi
  have hj:=(List.getElem?_eq_some_iff.1 h1).1
  exact (r.2 j v _ h1 (List.getElem?_eq_getElem (by have:=r.1; omega))).yO i h2

theorem WF.yO (wf:WF w h c) (i:Nat):∀j∈(h.at i).ids,Used h j:=by
  intro j hj
  cases e:h.at i with
  | cells cs =>
    rw[e]at hj
    have ho:=wf.obj i (ay.gp rfl (by rw[e]; simp))
    rw[e]at ho
    obtain ⟨b,arr,el,_,_,r⟩:=ho
    exact r.yO j hj
  | kq v =>
    rw[e]at hj
    have ho:=wf.obj i (ay.gp rfl (by rw[e]; simp))
    rw[e]at ho
    obtain ⟨b,p,d,_,_,_,r⟩:=ho
    exact r.yO j hj
  | _=>rw[e]at hj; simp[bR.ids]at hj

theorem Gu (wf:WF w h c):∀(n:Nat) (todo seen:List Nat),(∀i∈todo,Used h i)→(∀i∈seen,Used h i)→∀i∈reach h n todo seen,Used h i
  | 0,_,_,_,hs=>hs
  | n+1, [],_,_,hs=>hs
  | n+1,i::todo,seen,ht,hs=>by
    simp only[reach]
    split
    · exact Gu wf n _ _ (fun j hj=>ht j (by simp[hj])) hs
    · refine Gu wf n _ _ (fun j hj => ?_) (fun j hj => ?_)
      · rcases List.mem_append.1 hj with hj|hj
        · exact ht j (by simp[hj])
        · exact wf.yO i j hj
      · rcases List.mem_append.1 hj with hj|hj
        · exact hs j hj
        · simp at hj; subst hj; exact ht j (by simp)

theorem tu.lt (wf:WF w h c) {b x:Nat} (ho:tu h c b x):b<w.heap.size:=by
  obtain ⟨i,f,h1,h2,_⟩:=ho
  have hl:(h.at i).live:=by cases e:h.at i <;> rw[e]at h2 <;> simp_all [bR.from_,bR.live]
  exact (wf.obj i (ay.gp rfl (wk hl))).lt hl h1

theorem Ue {o:bR} (h:o.live) (f:Nat):∃g,o.from_ f=some g:=by cases o <;> simp_all [bR.from_,bR.live]

def Hm (h:ay) (c:jZ) (ord:List Nat) (b x:Nat):Prop:=∃i∈ord,∃f,c.sb i=some b∧(h.at i).from_ (c.off i)=some f∧f≤x

def K9 (h:ay) (c:jZ) (ord:List Nat):Pv:=⟨fun b x=>c.ext b x∨(tu h c b x∧¬Hm h c ord b x)⟩

theorem Hm.vQ {ord:List Nat} {b x:Nat} (o:Hm h c ord b x):tu h c b x:=by obtain ⟨i,_,f,h1,h2,h3⟩:=o; exact ⟨i,f,h1,h2,h3⟩

theorem La {ord:List Nat}:∀b x,Fw h c b x→¬K9 h c ord b x:=by
  rintro b x hf (he|he)
  · exact hf.2 he
  · exact hf.1 he.1

theorem IE (wf:WF w h c) {ord:List Nat} (DX:ord.Nodup):WF w (h.pick ord) (c.pick ord (K9 h c ord)):=by
  refine SR wf DX La ?_ ?_
  · rintro b x (he|he)
    · exact wf.o5 b x he
    · exact he.1.lt wf
  · rintro b x ho (he|he)
    · exact wf.xG b x (Hm.vQ ho) he
    · exact he.2 ho

theorem Gv {ord:List Nat} {cs:List V} {ds:List Value} (r:cz w h c cs ds):cz w (h.pick ord) (c.pick ord (K9 h c ord)) (V.xD (xx ord) cs) ds :=
  r.pn (K8 La)

theorem fH:∀(l:List (Nat × bR)) (h:ay),(ay.zk h l).length=h.length
  | [],_=>rfl
  | (i,o)::l,h=>by simp[ay.zk,fH l]

theorem Df {i:Nat}:∀(ord:List Nat) (os:List bR) (h:ay),i∉ord→ay.at (ay.zk h (ord.zip os)) i=h.at i
  | [],_,_,_=>rfl
  | _::_, [],_,_=>rfl
  | a::ord,o::os,h,hn=>by
    simp only[List.zip_cons_cons,ay.zk]
    rw[Df ord os _ (fun hm=>hn (by simp[hm]))]
    exact cP _ (fun e=>hn (by simp[e]))

theorem IF {i:Nat}:∀(ord:List Nat) (os:List bR) (h:ay) (j:Nat) (o:bR),ord.Nodup→ord[j]? = some i→os[j]? = some o→i<h.length→ay.at (ay.zk h (ord.zip os)) i=o
  | [],_,_,_,_,_,hj,_,_=>by simp at hj
  | _::_, [],_,_,_,_,_,ho,_=>by simp at ho
  | a::ord,p::os,h,j,o,DX,hj,ho,hi=>by
    simp only[List.zip_cons_cons,ay.zk]
    cases j with
    | zero =>
      simp at hj ho
      subst hj; subst ho
      rw[Df ord os _ (by simpa using (List.nodup_cons.1 DX).1)]
      exact mC _ hi
    | succ j=>exact IF ord os _ j o (List.nodup_cons.1 DX).2 (by simpa using hj) (by simpa using ho) (by simpa using hi)

theorem kN {a b:ay} {i:Nat} (hi:i<a.length):ay.at (a++b) i=ay.at a i:=by simp[ay.at,List.getD,List.getElem?_append_left hi]
theorem jO {a b:ay} {i:Nat} (hi:a.length≤i):ay.at (a++b) i=ay.at b (i - a.length):=by simp[ay.at,List.getD,List.getElem?_append_right hi]

theorem Hn {ord:List Nat} (DX:ord.Nodup) {i j:Nat} (e:ord[j]? = some i):xx ord i=some j:=by
  obtain ⟨hj,rfl⟩:=List.getElem?_eq_some_iff.1 e
  have hm:ord[j]∈ord:=List.getElem_mem hj
  have ln:ord.idxOf ord[j]<ord.length:=List.idxOf_lt_length_of_mem hm
  unfold xx
  simp only[ln,if_true]
  have hg:=List.getElem_idxOf ln
  have hp:=List.pairwise_iff_getElem.1 DX
  rcases Nat.lt_trichotomy (ord.idxOf ord[j]) j with hl|he|hl
  · exact (hp _ _ ln hj hl hg).elim
  · rw[he]
  · exact (hp _ _ hj ln hl hg.symm).elim

theorem xL {ord:List Nat} {i:Nat} (h:i∉ord):xx ord i=none:=by
  cases e:xx ord i with
  | none=>rfl
  | some j=>exact (h (List.mem_of_getElem? (A9 e))).elim

def jZ.back (c:jZ) (ord:List Nat) (n:Nat) (c':jZ):jZ :=
  ⟨fun i=>match xx ord i with|some j=>c'.sb j|none=>if i<n then c.sb i else c'.sb (i - n+ord.length),
   fun i=>match xx ord i with|some j=>c'.off j|none=>if i<n then c.off i else c'.off (i - n+ord.length),c.ext⟩

theorem BY {ord:List Nat} (DX:ord.Nodup) (ln:∀i∈ord,i<h.length) (hle:ord.length≤h'.length) (i:Nat) :
    (∃j,oP ord h.length j=i∧j<h'.length∧ay.at (h.back ord h') i=(h'.at j).pn (fun j=>some (oP ord h.length j))∧(c.back ord h.length c').sb i=c'.sb j∧(c.back ord h.length c').off i=c'.off j) ∨
    (i∉ord∧i<h.length∧ay.at (h.back ord h') i=h.at i∧(c.back ord h.length c').sb i=c.sb i∧(c.back ord h.length c').off i=c.off i) ∨
    ((h.back ord h').length≤i∧ay.at (h.back ord h') i = .dead):=by
  have hlen:(h.back ord h').length=h.length+(h'.length - ord.length):=by simp[ay.back,fH]
  by_cases hm:i∈ord
  · obtain ⟨j,hj,e⟩:=List.mem_iff_getElem.1 hm
    have e':ord[j]? = some i:=by rw[List.getElem?_eq_getElem hj,e]
    have hi:=ln i hm
    refine .inl ⟨j,by simp[oP,hj,List.getD,e],by omega,?_,by simp[jZ.back,Hn DX e'],by simp[jZ.back,Hn DX e']⟩
    unfold ay.back
    simp only
    rw[kN (by rw[fH]; exact hi)]
    refine IF ord _ h j _ DX e' ?_ hi
    have Nc:j<h'.length:=by omega
    simp[hj,ay.at,List.getD,List.getElem?_eq_getElem Nc]
  · by_cases hi:i<h.length
    · refine .inr (.inl ⟨hm,hi,?_,by simp[jZ.back,xL hm,hi],by simp[jZ.back,xL hm,hi]⟩)
      unfold ay.back
      simp only
      rw[kN (by rw[fH]; exact hi)]
      exact Df ord _ h hm
    · by_cases hb:i<(h.back ord h').length
      · rw[hlen]at hb
        refine .inl ⟨i - h.length+ord.length,?_,by omega,?_,by simp[jZ.back,xL hm,hi],by simp[jZ.back,xL hm,hi]⟩
        · have:¬(i - h.length+ord.length<ord.length):=by omega
          simp only[oP,this,if_false]
          omega
        · unfold ay.back
          simp only
          rw[jO (by rw[fH]; omega),fH]
          have o6:i - h.length+ord.length<h'.length:=by omega
          have hq:ord.length+(i - h.length)=i - h.length+ord.length:=by omega
          simp[ay.at,List.getD,hq,List.getElem?_eq_getElem o6]
      · refine .inr (.inr ⟨by omega,?_⟩)
        simp[ay.at,List.getD,List.getElem?_eq_none (Nat.le_of_not_lt hb)]

theorem Ko {ord:List Nat} (DX:ord.Nodup) (ln:∀i∈ord,i<h.length) (hle:ord.length≤h'.length) (j:Nat) :
    ay.at (h.back ord h') (oP ord h.length j)=(h'.at j).pn (fun j=>some (oP ord h.length j))∧(c.back ord h.length c').sb (oP ord h.length j)=c'.sb j∧(c.back ord h.length c').off (oP ord h.length j)=c'.off j:=by
  have hlen:(h.back ord h').length=h.length+(h'.length - ord.length):=by simp[ay.back,fH]
  by_cases hj:j<ord.length
  · have hb:oP ord h.length j=ord[j]:=by simp[oP,hj,List.getD]
    have e':ord[j]? = some ord[j]:=List.getElem?_eq_getElem hj
    have hi:=ln _ (List.getElem_mem hj)
    rw[hb]
    refine ⟨?_,by simp[jZ.back,Hn DX e'],by simp[jZ.back,Hn DX e']⟩
    unfold ay.back
    simp only
    rw[kN (by rw[fH]; exact hi)]
    refine IF ord _ h j _ DX e' ?_ hi
    have Nc:j<h'.length:=by omega
    simp[hj,ay.at,List.getD,List.getElem?_eq_getElem Nc]
  · have hb:oP ord h.length j=h.length+(j - ord.length):=by simp[oP,hj]
    have hm:h.length+(j - ord.length)∉ord:=fun hm=>by have:=ln _ hm; omega
    have hn:¬(h.length+(j - ord.length)<h.length):=by omega
    have hs:h.length+(j - ord.length) - h.length+ord.length=j:=by omega
    rw[hb]
    refine ⟨?_,by simp only[jZ.back,xL hm,hn,if_false,hs],by simp only[jZ.back,xL hm,hn,if_false,hs]⟩
    unfold ay.back
    simp only
    rw[jO (by rw[fH]; omega),fH]
    have hq:h.length+(j - ord.length) - h.length=j - ord.length:=by omega
    have VF:ord.length+(j - ord.length)=j:=by omega
    rw[hq]
    by_cases Nc:j<h'.length
    · simp[ay.at,List.getD,VF,List.getElem?_eq_getElem Nc]
    · simp[ay.at,List.getD,VF,List.getElem?_eq_none (Nat.le_of_not_lt Nc),bR.pn]

theorem Uf {ρ:Nat→Option Nat} {o o':bR}:(o.pn ρ).ir o'↔o.ir o':=by cases o <;> cases o' <;> simp[bR.pn,bR.ir,tZ]
theorem Nj {ρ:Nat→Option Nat} {o o':bR}:o.ir (o'.pn ρ)↔o.ir o':=by cases o <;> cases o' <;> simp[bR.pn,bR.ir,tZ]
theorem CE {o:bR} (h:o.live) (hm:∀K T l,o ≠ .uW K T l∨True):o.ir o:=by cases o <;> simp_all [bR.ir,bR.live]

theorem Nk (wf:WF w h c) {ord:List Nat} (DX:ord.Nodup) (hu:∀i∈ord,Used h i) (SL:WF w' h' c') (x:Ext w (h.pick ord) (c.pick ord (K9 h c ord)) w' h' c') :
    WF w' (h.back ord h') (c.back ord h.length c')∧Ext w h c w' (h.back ord h') (c.back ord h.length c')∧Ni (fun j=>some (oP ord h.length j)) h' c' (h.back ord h') (c.back ord h.length c'):=by
  have ln:∀i∈ord,i<h.length:=fun i hi=>(hu i hi).1
  have hup:∀j,j<ord.length→Used (h.pick ord) j:=fun j hj=>by
    refine ⟨by simpa [ay.pick]using hj,?_⟩
    rw[uM,List.getElem?_eq_getElem hj]
    simp only[ne_eq,CB]
    exact (hu _ (List.getElem_mem hj)).2
  have hle:ord.length≤h'.length:=by
    rcases Nat.eq_zero_or_pos ord.length with h0|h0
    · omega
    · have:=(x.used _ (hup (ord.length - 1) (by omega))).1; omega
  have hlen:(h.back ord h').length=h.length+(h'.length - ord.length):=by simp[ay.back,fH]
  -- who owns a cell
  have Hi:∀b y,tu (h.back ord h') (c.back ord h.length c') b y→tu h' c' b y∨∃i f,i∉ord∧i<h.length∧c.sb i=some b∧(h.at i).from_ (c.off i)=some f∧f≤y:=by
    rintro b y ⟨i,f,h1,h2,h3⟩
    rcases BY (c:=c) (c':=c') DX ln hle i with ⟨j,_,_,g1,g2,g3⟩|⟨g0,g1,g2,g3,g4⟩|⟨_,g1⟩
    · rw[g2]at h1; rw[g1,g3,P0]at h2
      exact .inl ⟨j,f,h1,h2,h3⟩
    · rw[g3]at h1; rw[g2,g4]at h2
      exact .inr ⟨i,f,g0,g1,h1,h2,h3⟩
    · rw[g1]at h2; cases h2
  have VH:∀i f b y,i∉ord→c.sb i=some b→(h.at i).from_ (c.off i)=some f→f≤y→K9 h c ord b y:=by
    intro i f b y hi h1 h2 h3
    refine .inr ⟨⟨i,f,h1,h2,h3⟩,?_⟩
    rintro ⟨i2,hm,f2,g1,g2,g3⟩
    have:=wf.inj i i2 b (sR h2) (sR g2) h1 g1
    subst this
    exact hi hm
  have P1:∀b y,tu (h.pick ord) (c.pick ord (K9 h c ord)) b y→Hm h c ord b y:=fun b y ho=>CD ho
  have hext:c'.ext=K9 h c ord:=x.ext
  have hren:Ni (fun j=>some (oP ord h.length j)) h' c' (h.back ord h') (c.back ord h.length c'):=by
    refine ⟨fun i j e hi => ?_,fun i j e hd => ?_,fun i j e ht => ?_,fun i j e T l ht => ?_,fun b y hf=>⟨fun ho => ?_,fun he => ?_⟩⟩
    · cases e
      obtain ⟨g1,_,_⟩:=Ko (c:=c) (c':=c') DX ln hle i
      refine ⟨?_,by rw[g1]; simp only[ne_eq,CB]; exact hi.2⟩
      rw[hlen]
      unfold oP
      have:=hi.1
      split
      · rename_i hj
        have:=ln _ (List.getElem_mem hj)
        simp only[List.getD,List.getElem?_eq_getElem hj,Option.getD_some]
        omega
      · omega
    · cases e
      obtain ⟨g1,g2,g3⟩:=Ko (c:=c) (c':=c') DX ln hle i
      rw[g1]at hd
      simp only[ne_eq,Hl]at hd
      exact ⟨hd,g2,g3⟩
    · cases e
      rw[(Ko (c:=c) (c':=c') DX ln hle i).1]at ht
      exact SP.1 ht
    · cases e
      rw[(Ko (c:=c) (c':=c') DX ln hle i).1]at ht
      exact SQ.1 ht
    · rcases Hi b y ho with ho|⟨i,f,g0,_,g2,g3,g4⟩
      · exact hf.1 ho
      · exact hf.2 (by rw[hext]; exact VH i f b y g0 g2 g3 g4)
    · exact hf.2 (by rw[hext]; exact .inl he)
  have hx:Ext w h c w' (h.back ord h') (c.back ord h.length c'):=by
    refine ⟨x.os,x.tape,x.output,x.size,fun i hi => ?_,fun i hi hd => ?_,fun b y hb ho=>x.cell b y hb (fun o=>ho (P1 b y o).vQ),fun b hb ho=>x.block b hb (fun y o=>ho y (P1 b y o).vQ),fun b y hb ho => ?_,rfl,x.arr⟩
    · rcases BY (c:=c) (c':=c') DX ln hle i with ⟨j,g0,gj,g1,g2,g3⟩|⟨g0,g1,g2,g3,g4⟩|⟨g0,_⟩
      · refine ⟨by have:=hi.1; omega,?_⟩
        rw[g1]; simp only[ne_eq,CB]
        have hjo:j<ord.length:=by
          unfold oP at g0
          split at g0
          · assumption
          · have:=hi.1; omega
        exact (x.used j (hup j hjo)).2
      · exact ⟨by omega,by rw[g2]; exact hi.2⟩
      · have:=hi.1; omega
    · rcases BY (c:=c) (c':=c') DX ln hle i with ⟨j,g0,gj,g1,g2,g3⟩|⟨g0,g1,g2,g3,g4⟩|⟨g0,_⟩
      · have hjo:j<ord.length:=by
          unfold oP at g0
          split at g0
          · assumption
          · have:=hi.1; omega
        have e:ord[j]? = some i:=by
          simp only[oP,hjo,if_true,List.getD,List.getElem?_eq_getElem hjo,Option.getD_some]at g0
          rw[List.getElem?_eq_getElem hjo,g0]
        rw[g1]at hd ⊢
        simp only[ne_eq,Hl]at hd
        obtain ⟨s1,s2,s3⟩:=x.same j (hup j hjo) hd
        rw[uM,e]at s1
        rw[g2,g3,s2,s3]
        exact ⟨Nj.2 (Uf.1 s1),by simp[jZ.pick,e],by simp[jZ.pick,List.getD,e]⟩
      · rw[g2]at hd ⊢
        exact ⟨CE (Ff hi.2 hd) (fun _ _ _ => .inr trivial),g3,g4⟩
      · have:=hi.1; omega
    · rcases Hi b y ho with ho|⟨i,f,g0,_,g2,g3,g4⟩
      · exact (P1 b y (x.vQ b y hb ho)).vQ
      · exact ⟨i,f,g2,g3,g4⟩
  refine ⟨⟨fun b y ho he => ?_,fun b y he=>Nat.lt_of_lt_of_le (wf.o5 b y he) x.size,fun i hi => ?_,fun i j b hi hj h1 h2 => ?_,wf.rC hx⟩,hx,hren⟩
  · rcases Hi b y ho with ho|⟨i,f,g0,_,g2,g3,g4⟩
    · exact SL.xG b y ho (by rw[hext]; exact .inl he)
    · exact wf.xG b y ⟨i,f,g2,g3,g4⟩ he
  · rcases BY (c:=c) (c':=c') DX ln hle i with ⟨j,g0,gj,g1,g2,g3⟩|⟨g0,g1,g2,g3,g4⟩|⟨_,g0⟩
    · rw[g1]
      exact (SL.obj j gj).pn hren g2 g3
    · rw[g2]
      by_cases hl:(h.at i).live
      · refine (wf.obj i g1).keep hx (fun b hb=>x.block b ((wf.obj i g1).lt hl hb) fun y o => ?_) g3 g4
        obtain ⟨i2,hm,f2,k1,k2,_⟩:=P1 b y o
        have:=wf.inj i i2 b hl (sR k2) hb k1
        subst this
        exact g0 hm
      · have h0:h.at i = .free∨h.at i = .dead:=by revert hl; cases h.at i <;> simp[bR.live]
        rcases h0 with h0|h0 <;> rw[h0] <;> trivial
    · rw[g0]; trivial
  · have key:∀i j b,i∉ord→(h.at i).live→c.sb i=some b→(h'.at j).live→c'.sb j=some b→False:=by
      intro i j b hi hl hb Vm o6
      have Ou:=(wf.obj i (ay.gp rfl (wk hl))).lt hl hb
      obtain ⟨f,hf⟩:=Ue Vm (c'.off j)
      obtain ⟨i2,hm,f2,k1,k2,_⟩:=P1 b f (x.vQ b f Ou ⟨j,f,o6,hf,Nat.le_refl _⟩)
      have:=wf.inj i i2 b hl (sR k2) hb k1
      subst this
      exact hi hm
    rcases BY (c:=c) (c':=c') DX ln hle i with ⟨i',a0,_,a1,a2,a3⟩|⟨a0,a1,a2,a3,a4⟩|⟨_,a0⟩
    · rcases BY (c:=c) (c':=c') DX ln hle j with ⟨j',b0,_,b1,b2,b3⟩|⟨b0,b1,b2,b3,b4⟩|⟨_,b0⟩
      · rw[a1,CC]at hi; rw[b1,CC]at hj
        rw[a2]at h1; rw[b2]at h2
        rw[←a0,←b0,SL.inj i' j' b hi hj h1 h2]
      · rw[a1,CC]at hi; rw[b2]at hj
        rw[a2]at h1; rw[b3]at h2
        exact (key j i' b b0 hj h2 hi h1).elim
      · rw[b0]at hj; exact hj.elim
    · rcases BY (c:=c) (c':=c') DX ln hle j with ⟨j',b0,_,b1,b2,b3⟩|⟨b0,b1,b2,b3,b4⟩|⟨_,b0⟩
      · rw[a2]at hi; rw[b1,CC]at hj
        rw[a3]at h1; rw[b2]at h2
        exact (key i j' b a0 hi h1 hj h2).elim
      · rw[a2]at hi; rw[b2]at hj
        rw[a3]at h1; rw[b3]at h2
        exact wf.inj i j b hi hj h1 h2
      · rw[b0]at hj; exact hj.elim
    · rw[a0]at hi; exact hi.elim
end

section
variable {tt:dB} {h:ay} {R:Type}

theorem A1 {t off:Nat} {cs:List V} {k0:V→Option R} {r:R} (hk:rA tt t cs off k0=some r) :
    ∃v,k0 v=some r∧∀k:V→Option R,rA tt t cs off k=k v:=by
  unfold rA at hk
  split at hk
  · rename_i sP
    split at hk
    · rename_i KP
      split at hk
      · rename_i p6
        exact ⟨_,hk,fun k=>by simp[rA,sP,KP,p6]⟩
      · cases hk
    · rename_i KP
      split at hk
      · rename_i v hv
        exact ⟨_,hk,fun k=>by simp[rA,sP,KP,hv]⟩
      · cases hk
  · cases hk

theorem Ho {op:BinOp} {x y:V} {k0:V→Option R} {r:R} (hk:xj op x y k0=some r) :
    ∃v,k0 v=some r∧∀k:V→Option R,xj op x y k=k v:=by
  unfold xj at hk
  split at hk
  · obtain ⟨hb,hk⟩:=cq hk
    exact ⟨_,hk,fun k=>by simp[xj,cR,hb]⟩
  · obtain ⟨hb,hk⟩:=cq hk
    exact ⟨_,hk,fun k=>by simp[xj,cR,hb]⟩
  · split at hk
    · rename_i xk
      subst xk
      split at hk <;> first
        | (exact ⟨_,hk,fun k=>by simp[xj]⟩)
        | (obtain ⟨hb,hk⟩:=cq hk; exact ⟨_,hk,fun k=>by simp only[xj,hb,cR,cond_true,if_true]⟩)
        | cases hk
    · cases hk
  · split at hk <;> first
        | (exact ⟨_,hk,fun k=>by simp[xj]⟩)
        | (obtain ⟨hb,hk⟩:=cq hk; exact ⟨_,hk,fun k=>by simp only[xj,hb,cR,cond_true]⟩)
        | cases hk
  · split at hk
    · exact ⟨_,hk,fun k=>by simp[xj, *]⟩
    · cases hk
  · split at hk
    · exact ⟨_,hk,fun k=>by simp[xj, *]⟩
    · cases hk
  · cases hk

theorem VT {op:BinOp} {x y:V} {k0:V→Option R} {r:R} (hk:Ob op x y k0=some r) :
    ∃v,k0 v=some r∧∀k:V→Option R,Ob op x y k=k v:=by
  unfold Ob at hk
  split at hk
  · split at hk
    · exact ⟨_,hk,fun k=>by simp[Ob, *]⟩
    · exact ⟨_,hk,fun k=>by simp[Ob, *]⟩
    · cases hk
  · cases hk

theorem Y1 {op:BinOp} {o:Operand} {x y:V} {k0:V→Option R} {r:R} (hk:ZQ op o x y k0=some r) :
    ∃v,k0 v=some r∧∀k:V→Option R,ZQ op o x y k=k v:=by
  unfold ZQ at hk
  split at hk <;> first|(exact ⟨_,hk,fun k=>by simp[ZQ]⟩)|cases hk

theorem Nl {a:V} {neg:Bool} {k0:V→Option R} {r:R} (hk:DN a (fun r=>k0 (KG neg r))=some r) :
    ∃v,k0 v=some r∧∀k:V→Option R,DN a (fun r=>k (KG neg r))=k v:=by
  unfold DN at hk
  split at hk <;> try cases hk
  · exact ⟨_,hk,fun k=>by simp[DN]⟩
  · rename_i l _
    cases hl:l.isEmpty with
    | true=>rw[hl]at hk; exact ⟨_,hk,fun k=>by simp only[DN,hl]; rfl⟩
    | false=>rw[hl]at hk; exact ⟨_,hk,fun k=>by simp only[DN,hl]; rfl⟩
  · rename_i n
    cases hl:decide (n=0)with
    | true=>rw[hl]at hk; exact ⟨_,hk,fun k=>by simp only[DN,hl]; rfl⟩
    | false=>rw[hl]at hk; exact ⟨_,hk,fun k=>by simp only[DN,hl]; rfl⟩

theorem Y2 {op:BinOp} {x y:V} {k0:V→Option R} {r:R} (hk:YL op x y k0=some r) :
    ∃v,k0 v=some r∧∀k:V→Option R,YL op x y k=k v:=by
  unfold YL at hk
  split at hk
  · split at hk
    · obtain ⟨v,h1,h2⟩:=Nl hk
      exact ⟨v,h1,fun k=>by simp[YL,h2]⟩
    · obtain ⟨v,h1,h2⟩:=Nl hk
      exact ⟨v,h1,fun k=>by simp[YL,h2]⟩
    · cases hk
  · cases hk

theorem CF {v:Option V} {d:Int} {k0:Int→Option R} {r:R} (hk:Eo v d k0=some r) :
    ∃n,k0 n=some r∧∀k:Int→Option R,Eo v d k=k n:=by
  unfold Eo at hk
  split at hk
  · exact ⟨_,hk,fun k=>rfl⟩
  · exact ⟨_,hk,fun k=>rfl⟩
  · cases hk

theorem Y3 {o:Op} {ρ:Operand→V} {k0:V→Option R} {r:R} (hk:Yz tt o ρ k0=some r) :
    ∃v,k0 v=some r∧∀k:V→Option R,Yz tt o ρ k=k v:=by
  cases o <;> simp only[Yz]at hk ⊢ <;> try (first|cases hk)
  case move x=>exact ⟨_,hk,fun k=>rfl⟩
  case assign x=>exact ⟨_,hk,fun k=>rfl⟩
  case pick c a b =>
    split at hk
    · rename_i t ht
      split at hk
      · rename_i u v hu hv
        exact ⟨_,hk,fun k=>by simp[ht,hu,hv]⟩
      · rename_i u v hn
        refine ⟨bif t then ρ a else ρ b,by cases t <;> exact hk,fun k => ?_⟩
        cases t <;> rfl
    · cases hk
  case nilCheck x =>
    split at hk <;> first|(exact ⟨_,hk,fun k=>by simp[*]⟩)|cases hk
  case binOp op t x y _ =>
    split at hk
    · split at hk
      · obtain ⟨v,h1,h2⟩:=Ho hk
        exact ⟨v,h1,fun k=>by simp[*]⟩
      · cases hk
    · split at hk
      · obtain ⟨v,h1,h2⟩:=Ho hk
        exact ⟨v,h1,fun k=>by simp[*]⟩
      · cases hk
    · obtain ⟨v,h1,h2⟩:=Ho hk
      exact ⟨v,h1,fun k=>by simp[*]⟩
    · obtain ⟨v,h1,h2⟩:=Ho hk
      exact ⟨v,h1,fun k=>by simp[*]⟩
    · rename_i n1 n2 n3 n4
      split at hk
      · rename_i hd
        obtain ⟨v,h1,h2⟩:=VT hk
        exact ⟨v,h1,fun k=>by simp[*]⟩
      · rename_i hd
        obtain ⟨v,h1,h2⟩:=Y2 hk
        exact ⟨v,h1,fun k=>by simp[*]⟩
      · rename_i hd
        obtain ⟨v,h1,h2⟩:=Y1 hk
        exact ⟨v,h1,fun k=>by simp[*]⟩
      · cases hk
  case unOp op _ x =>
    split at hk <;> first|(exact ⟨_,hk,fun k=>by simp[*]⟩)|cases hk
  case makeInterface t x =>
    split at hk <;> first|(exact ⟨_,hk,fun k=>by simp[*]⟩)|cases hk
  case convert s d x =>
    split at hk
    · cases hk
    · split at hk
      · exact ⟨_,hk,fun k=>by simp[*]⟩
      · split at hk
        · exact ⟨_,hk,fun k=>by simp[*]⟩
        · cases hk
      · cases hk
  case fieldAddr s x f =>
    split at hk <;> try (first|cases hk)
    split at hk <;> try (first|cases hk)
    split at hk <;> try (first|cases hk)
    split at hk <;> first|(exact ⟨_,hk,fun k=>by simp_all⟩)|cases hk
  case field s x f =>
    split at hk <;> try (first|cases hk)
    split at hk <;> try (first|cases hk)
    obtain ⟨v,h1,h2⟩:=A1 hk
    exact ⟨v,h1,fun k=>by simp[*]⟩
  case indexAddr t x i =>
    unfold idxOf at hk ⊢
    split at hk <;> try (first|cases hk)
    split at hk <;> try (first|cases hk)
    · split at hk <;> try (first|cases hk)
      obtain ⟨hb,hk⟩:=cq hk
      exact ⟨_,hk,fun k=>by simp_all [cR]⟩
    · split at hk <;> try (first|cases hk)
      obtain ⟨hb,hk⟩:=cq hk
      exact ⟨_,hk,fun k=>by simp_all [cR]⟩
    · split at hk <;> try (first|cases hk)
      obtain ⟨hb,hk⟩:=cq hk
      exact ⟨_,hk,fun k=>by simp_all [cR]⟩
  case index t x i =>
    unfold idxOf at hk ⊢
    split at hk <;> try (first|cases hk)
    split at hk <;> try (first|cases hk)
    · obtain ⟨hb,hk⟩:=cq hk
      exact ⟨_,hk,fun k=>by simp_all [cR]⟩
    · obtain ⟨hb,hk⟩:=cq hk
      obtain ⟨v,h1,h2⟩:=A1 hk
      exact ⟨v,h1,fun k=>by simp_all [cR]⟩
  case slice t x lo hi mx =>
    split at hk <;> try (first|cases hk)
    split at hk <;> try (first|cases hk)
    · rename_i hd hx
      obtain ⟨n,hk,e1⟩:=CF hk
      obtain ⟨m,hk,e2⟩:=CF hk
      obtain ⟨hb,hk⟩:=cq hk
      obtain ⟨Nn,hk⟩:=cq hk
      exact ⟨_,hk,fun k=>by simp only[hd,hx,e1,e2,hb,Nn,cR,cond_true]⟩
    · rename_i hd hx
      split at hk <;> try (first|cases hk)
      rename_i hc
      obtain ⟨n,hk,e1⟩:=CF hk
      split at hk
      · obtain ⟨hb,hk⟩:=cq hk
        exact ⟨_,hk,fun k=>by simp only[hd,hx,hc,e1,hb,cR,cond_true,if_true]⟩
      · obtain ⟨m,hk,e2⟩:=CF hk
        obtain ⟨hb,hk⟩:=cq hk
        obtain ⟨Nn,hk⟩:=cq hk
        exact ⟨_,hk,fun k=>by simp only[hd,hx,hc,e1,e2,hb,Nn,cR,cond_true,if_true]⟩
    · rename_i hd hx
      split at hk <;> try (first|cases hk)
      rename_i hc
      obtain ⟨n,hk,e1⟩:=CF hk
      obtain ⟨m,hk,e2⟩:=CF hk
      obtain ⟨hb,hk⟩:=cq hk
      exact ⟨_,hk,fun k=>by rw[if_neg hc]; simp only[e1,e2,hb,cR,cond_true]⟩
  case makeFunc f first cap =>
    cases f <;> simp only at hk ⊢ <;> first|(exact ⟨_,hk,fun k=>rfl⟩)|cases hk
  case extract t i =>
    split at hk <;> try (first|cases hk)
    split at hk <;> try (first|cases hk)
    exact ⟨_,hk,fun k=>by simp[*]⟩
  case build t parts =>
    split at hk <;> try (first|cases hk)
    all_goals
      rename_i hd
      split at hk <;> try (first|cases hk)
      rename_i hc
      split at hk <;> try (first|cases hk)
      rename_i hf
      exact ⟨_,hk,fun k=>by rw[if_neg hc]⟩
  case call c =>
    split at hk <;> try (first|cases hk)
    · split at hk <;> try (first|cases hk)
      split at hk <;> try (first|cases hk)
      all_goals exact ⟨_,hk,fun k=>by simp[*]⟩
    · split at hk <;> try (first|cases hk)
      split at hk <;> try (first|cases hk)
      exact ⟨_,hk,fun k=>by simp[*]⟩
    · split at hk <;> try (first|cases hk)
      split at hk <;> try (first|cases hk)
      exact ⟨_,hk,fun k=>by simp[*]⟩

def bR.rd:bR→bR
  | .tok | .dead => .free
  | ob=>ob
theorem P2 {a b:bR} (h:a.rd=b.rd):a=b∨((a = .tok∨a = .dead∨a = .free)∧(b = .tok∨b = .dead∨b = .free)):=by
  cases a <;> cases b <;> simp[bR.rd]at h ⊢ <;> exact h
theorem VU {a b:bR} (h:a.rd=b.rd) {cs:List V} (hb:b = .cells cs):a = .cells cs:=by
  rcases P2 h with h|⟨_,h⟩
  · rw[h,hb]
  · rw[hb]at h; simp at h
theorem rd_bld {a b:bR} (h:a.rd=b.rd) {v:V} (hb:b = .kq v):a = .kq v:=by
  rcases P2 h with h|⟨_,h⟩
  · rw[h,hb]
  · rw[hb]at h; simp at h
theorem VV {a b:bR} (h:a.rd=b.rd) {T:Ty} {l:List T.den} (hb:b = .row T l):a = .row T l:=by
  rcases P2 h with h|⟨_,h⟩
  · rw[h,hb]
  · rw[hb]at h; simp at h

theorem Y4 {a b:bR} (h:a.rd=b.rd) {K T:Ty} {l:List (K.den × T.den)} (hb:b = .uW K T l):a = .uW K T l:=by
  rcases P2 h with h|⟨_,h⟩
  · rw[h,hb]
  · rw[hb]at h; simp at h

theorem Y5 {o:Op} {ρ:Operand→V} {lim:Option Nat} {k0:V→Option R} {r:R} (hk:Tt tt o ρ h lim k0=some r) :
    ∃v,k0 v=some r∧∀(h2:ay),(∀i,DO lim i=true→(h2.at i).rd=(h.at i).rd)→∀k:V→Option R,Tt tt o ρ h2 lim k=k v:=by
  cases o <;> simp only[Tt]at hk ⊢ <;> try (first|cases hk)
  case load t x =>
    split at hk <;> try (first|cases hk)
    · split at hk <;> try (first|cases hk)
      rename_i hl
      split at hk <;> try (first|cases hk)
      all_goals rename_i hc
      · obtain ⟨v,h1,h2⟩:=A1 hk
        exact ⟨v,h1,fun hh e k=>by have e':=VU (e _ hl) hc; clear e; simp only[*,if_true]⟩
      · obtain ⟨v,h1,h2⟩:=A1 hk
        exact ⟨v,h1,fun hh e k=>by have e':=rd_bld (e _ hl) hc; clear e; simp only[*,if_true]⟩
    · obtain ⟨v,h1,h2⟩:=A1 hk
      exact ⟨v,h1,fun hh e k=>by simp only[*]⟩
    · split at hk <;> try (first|cases hk)
      rename_i hl
      split at hk <;> try (first|cases hk)
      rename_i T l hc
      split at hk <;> try (first|cases hk)
      rename_i hs
      obtain ⟨hb,hk⟩:=cq hk
      obtain ⟨v,h1,h2⟩:=A1 hk
      exact ⟨v,h1,fun hh e k=>by have e':=VV (e _ hl) hc; clear e; simp only[*,if_true,cR,cond_true]⟩
  case lookup t x ix ok =>
    split at hk <;> try (first|cases hk)
    rename_i kt vt i h1 h2
    split at hk <;> try (first|cases hk)
    rename_i hl
    split at hk <;> try (first|cases hk)
    rename_i K T l hc
    split at hk <;> try (first|cases hk)
    rename_i hf
    split at hk <;> try (first|cases hk)
    rename_i kx hx
    refine ⟨bif ok then .tuple [Mo T (nF K T kx l), .bool (C3 K T kx l)]else Mo T (nF K T kx l),by cases ok <;> exact hk,fun hh e k => ?_⟩
    have e':=Y4 (e _ hl) hc
    clear e
    simp only[h1,h2,hl,e',hf,hx,if_true]
    cases ok <;> rfl
  case convert s d x =>
    split at hk <;> try (first|cases hk)
    · rename_i e i n h1 h2 h3
      split at hk <;> try (first|cases hk)
      rename_i hl
      split at hk <;> try (first|cases hk)
      rename_i h4 h5
      exact ⟨_,hk,fun hh e k=>by have e':=VV (e _ hl) h5; clear e; simp only[*,if_true]⟩
    · rename_i h1 h2 h3
      split at hk <;> try (first|cases hk)
      · rename_i h4
        exact ⟨_,hk,fun hh e k=>by simp only[*]⟩
      · rename_i h4
        obtain ⟨hb,hk⟩:=cq hk
        exact ⟨_,hk,fun hh e k=>by simp only[*,cR,cond_true]⟩
    · rename_i h1 h2 h3
      split at hk <;> try (first|cases hk)
      rename_i h4
      exact ⟨_,hk,fun hh e k=>by simp only[*]⟩

theorem Y6 {o:Op} {ρ:Operand→V} {k0:bR→(Nat→V)→Option R} {r:R} (hk:Vi tt o ρ k0=some r) :
    ∃ob mk,k0 ob mk=some r∧∀k:bR→(Nat→V)→Option R,Vi tt o ρ k=k ob mk:=by
  cases o <;> simp only[Vi]at hk ⊢ <;> try (first|cases hk)
  case alloc t =>
    split at hk
    · exact ⟨_,_,hk,fun k=>by simp[*]⟩
    · split at hk <;> try (first|cases hk)
      exact ⟨_,_,hk,fun k=>by simp[*]⟩
  case box t x =>
    split at hk <;> try (first|cases hk)
    split at hk <;> try (first|cases hk)
    exact ⟨_,_,hk,fun k=>by simp only[*,if_true]⟩
  case buildSlice t len parts =>
    split at hk <;> try (first|cases hk)
    split at hk <;> try (first|cases hk)
    rename_i hc
    split at hk <;> try (first|cases hk)
    · rename_i h1 h2
      split at hk <;> try (first|cases hk)
      rename_i h3
      split at hk
      · exact ⟨_,_,hk,fun k=>by simp only[*,if_true,if_false]; rfl⟩
      split at hk
      · exact ⟨_,_,hk,fun k=>by simp only[*,if_true,if_false]; rfl⟩
      · exact ⟨_,_,hk,fun k=>by simp only[*,if_true,if_false]; rfl⟩
    · exact ⟨_,_,hk,fun k=>by simp only[*,if_true,if_false]; rfl⟩
  case makeSlice t n c =>
    split at hk <;> try (first|cases hk)
    split at hk <;> try (first|cases hk)
    split at hk <;> try (first|cases hk)
    split at hk <;> try (first|cases hk)
    rename_i h3
    obtain ⟨hb,hk⟩:=cq hk
    exact ⟨_,_,hk,fun k=>by simp only[*,if_true,cR,cond_true]⟩
  case convert s d x =>
    split at hk <;> try (first|cases hk)
    split at hk <;> try (first|cases hk)
    exact ⟨_,_,hk,fun k=>by simp[*]⟩
  case range t x =>
    split at hk <;> try (first|cases hk)
    exact ⟨_,_,hk,fun k=>by simp[*]⟩
  case makeMap t ZR =>
    split at hk <;> try (first|cases hk)
    rename_i h1
    split at hk <;> try (first|cases hk)
    rename_i kt vt h2
    split at hk <;> try (first|cases hk)
    rename_i K V' h3 h4
    split at hk <;> try (first|cases hk)
    rename_i h5
    exact ⟨_,_,hk,fun k=>by simp only[h1,h2,h3,h4,h5,if_true]⟩

theorem mapF {β:Type} {ρ ρ':Operand→V} (f:Nat→V→β) (ps:List (Nat × Operand)) (h:∀x∈ps.map (·.2),ρ x=ρ' x) :
    (ps.map fun (i,x)=>f i (ρ x))=(ps.map fun (i,x)=>f i (ρ' x)) :=
  List.map_congr_left fun p hm=>by
    obtain ⟨i,x⟩:=p
    simp only[h x (List.mem_map.2 ⟨(i,x),hm,rfl⟩)]

theorem Np {o:Op} {ρ ρ':Operand→V} (h:∀x∈o.operands,ρ x=ρ' x) {k:V→Option R}:Yz tt o ρ k=Yz tt o ρ' k:=by
  cases o <;> simp only[Op.operands]at h <;> simp only[Yz]
  case build t ps =>
    have hp:∀x∈ps.toList.map (·.2),ρ x=ρ' x:=fun x hx=>h x (by simpa using hx)
    split
    · rename_i fs hd
      rw[mapF (fun i v=>((fs.getD i (0,0)).1,if i<fs.length then (tt.at (fs.getD i (0,0)).2).size else 1000000,v)) ps.toList hp]
    · rename_i e hd
      rw[mapF (fun i v=>(i*(tt.at e).size,(tt.at e).size,v)) ps.toList hp]
    · rfl
  case makeFunc f first cap =>
    cases f <;> simp only
    rw[List.map_congr_left (l:=first.toList) (g:=ρ') fun x hx=>h x (by simp at hx ⊢; exact .inl hx),List.map_congr_left (l:=cap.toList) (g:=ρ') fun x hx=>h x (by simp at hx ⊢; exact .inr hx)]
  case slice t x lo hi mx=>cases lo <;> cases hi <;> cases mx <;> simp_all
  case call c =>
    obtain ⟨callee,args,argTypes⟩:=c
    have ha:∀x∈args.toList,ρ x=ρ' x:=fun x hx=>h x (by simp[Call.operands]at hx ⊢; exact .inr hx)
    simp only
    split
    · rename_i x e; rw[ha x (by rw[e]; simp)]
    · rename_i x y e; rw[ha x (by rw[e]; simp),ha y (by rw[e]; simp)]
    · rename_i x y e; rw[ha x (by rw[e]; simp),ha y (by rw[e]; simp)]
    · rfl
  all_goals (first|rfl|(simp_all; done))

theorem Nq {o:Op} {ρ ρ':Operand→V} (h':∀x∈o.operands,ρ x=ρ' x) {lim:Option Nat} {k:V→Option R}:Tt tt o ρ h lim k=Tt tt o ρ' h lim k:=by
  cases o <;> simp only[Op.operands]at h' <;> simp only[Tt]
  all_goals (first|rfl|(simp_all; done))

theorem Nr {o:Op} {ρ ρ':Operand→V} (h':∀x∈o.operands,ρ x=ρ' x) {k:bR→(Nat→V)→Option R}:Vi tt o ρ k=Vi tt o ρ' k:=by
  cases o <;> simp only[Op.operands]at h' <;> simp only[Vi]
  case makeMap t ZR =>
    have e:Cv ρ ZR=Cv ρ' ZR:=by
      cases ZR with
      | none=>rfl
      | some x=>simp only[Cv]; rw[h' x (by simp)]
    rw[e]
  case buildSlice t len ps =>
    have hp:∀x∈ps.toList.map (·.2),ρ x=ρ' x:=fun x hx=>h' x (by simpa using hx)
    split
    · rename_i e hd
      rw[mapF (fun i v=>(i*(tt.at e).size,(tt.at e).size,v)) ps.toList hp]
    · rfl
  all_goals (first|rfl|(simp_all; done))

theorem Ns {o:Op} {ρ ρ':Operand→V} (h':∀x∈o.operands,ρ x=ρ' x) {id:Nat} {k:V→ay→Option R}:Kk tt o ρ h id k=Kk tt o ρ' h id k:=by
  cases o <;> simp only[Op.operands]at h' <;> simp only[Kk]
  case call c =>
    obtain ⟨callee,args,argTypes⟩:=c
    have ha:∀x∈args.toList,ρ x=ρ' x:=fun x hx=>h' x (by simp[Call.operands]at hx ⊢; exact .inr hx)
    simp only
    split
    · rename_i x y t xt e et; rw[ha x (by rw[e]; simp),ha y (by rw[e]; simp)]
    · rfl
  all_goals (first|rfl|(simp_all; done))
end

section
variable {P:Program} {tt:dB} {w w':World} {h h':ay} {c c':jZ} {R:Type}

theorem Ab:∀(l:List Nat) (h:ay),Ext w h c w (nG h l) c
  | [],h => .refl _ _ _
  | i::l,h=>by
    simp only[nG]
    split
    · exact (Ev i).trans (Ab l _)
    · exact Ab l h

theorem BZ:∀(l:List Nat) (h:ay),WF w h c→WF w (nG h l) c
  | [],h,wf=>wf
  | i::l,h,wf=>by
    simp only[nG]
    split
    · exact BZ l _ (Ol wf i)
    · exact BZ l h wf

theorem yP:∀(l:List Nat) (h:ay) (j:Nat),ay.at (nG h l) j=h.at j∨ay.at (nG h l) j = .dead
  | [],h,j => .inl rfl
  | i::l,h,j=>by
    simp only[nG]
    split
    · rcases yP l (h.set i .dead) j with e|e
      · rw[e,mP]
        split
        · exact .inr rfl
        · exact .inl rfl
      · exact .inr e
    · exact yP l h j

theorem Ew:∀(l:List Nat) (h:ay) (j:Nat) {T:Ty} {m:List T.den},j∈l→h.at j = .row T m→ay.at (nG h l) j = .dead
  | [],_,_,_,_,hj,_=>by cases hj
  | i::l,h,j,T,m,hj,he=>by
    simp only[nG]
    by_cases xk:i=j
    · subst xk
      split
      · rcases yP l (h.set i .dead) i with e|e
        · rw[e]; exact mC _ (ay.gp he (by simp))
        · exact e
      · rename_i hn; exact (hn T m he).elim
    · have Nc:j∈l:=by
        rcases List.mem_cons.1 hj with rfl|h
        · exact (xk rfl).elim
        · exact h
      split
      · exact Ew l _ j Nc (by rw[cP _ xk]; exact he)
      · exact Ew l h j Nc he

theorem Hp (h:ay):∀l:List V,V.Jn h l=l.map (V.shut h)
  | []=>rfl
  | v::l=>by simp only[V.Jn,List.map_cons,Hp h l]

theorem tu.dead {ids:List Nat} {b x:Nat} (ho:tu (nG h ids) c b x):tu h c b x:=by
  obtain ⟨i,f,g1,g2,g3⟩:=ho
  rcases yP ids h i with e|e
  · exact ⟨i,f,g1,e▸g2,g3⟩
  · rw[e]at g2; cases g2

theorem VW (wf:WF w h c) {ids:List Nat} {v:V} {d:Value} (r:dw w h c v d):(∀i∈v.ids,i∈ids)→dw w (nG h ids) c (v.shut h) d:=by
  have x:=Ab (w:=w) (c:=c) ids h
  induction r with
  | sl f lB sd hc hr xF mA=>exact fun _=>(dw.sl (t := .no) f lB sd hc hr (by simp) (by simp)).mono x
  | @row i n v hi hn hv =>
    intro Lb
    simp only[V.shut]
    split
    · rename_i T l he
      obtain ⟨A,cap,rfl,hA,hv⟩:=hv
      obtain ⟨MB,hle,sd,hor⟩:=hv T l he
      obtain ⟨ds,rds,xA⟩:=Om wf he
      subst MB
      refine BV (rds.mono x) hle sd (fun hl => ?_) (by simp) (by simp)
      obtain ⟨b,hb,By⟩:=xA hl
      rcases hor with ⟨h1,_⟩|⟨b',arr,e,fz,h1,h2,h3,h4⟩
      · rw[hb]at h1; cases h1
      · rw[hb]at h1; cases h1
        refine ⟨b,c.off i,h2,By,fun y hy1 hy2 => ?_⟩
        have mA:tu h c b y:=⟨i,0,hb,by rw[he]; rfl,Nat.zero_le _⟩
        refine ⟨fun ho => ?_,wf.xG b y mA⟩
        obtain ⟨j,f,g1,g2,g3⟩:=ho
        have hdead:=Ew ids h i (Lb i (by simp[V.ids])) he
        rcases yP ids h j with e'|e'
        · have YC:(h.at j).live:=by rw[e']at g2; exact sR g2
          have:=wf.inj i j b (by rw[he]; trivial) YC hb g1
          subst this
          rw[hdead]at g2
          cases g2
        · rw[e']at g2; cases g2
    · exact .undef _
  | @agg cs y hl _ ih =>
    intro Lb
    simp only[V.shut,Hp]
    refine .agg (by simpa using hl) fun j v d hv hd => ?_
    rw[List.getElem?_map]at hv
    cases e:cs[j]? with
    | none=>rw[e]at hv; cases hv
    | some u =>
      rw[e]at hv; simp at hv; subst hv
      exact ih j u d e hd fun i hi=>Lb i (by simp only[V.ids]; exact qA.2 ⟨j,u,e,hi⟩)
  | @tuple cs y hl _ ih =>
    intro Lb
    simp only[V.shut,Hp]
    refine .tuple (by simpa using hl) fun j v d hv hd => ?_
    rw[List.getElem?_map]at hv
    cases e:cs[j]? with
    | none=>rw[e]at hv; cases hv
    | some u =>
      rw[e]at hv; simp at hv; subst hv
      exact ih j u d e hd fun i hi=>Lb i (by simp only[V.ids]; exact qA.2 ⟨j,u,e,hi⟩)
  | undef v=>exact fun _ => .undef _
  | int hn=>exact fun _ => .int hn
  | bool b=>exact fun _ => .bool b
  | str hl=>exact fun _ => .str hl
  | eC=>exact fun _ => .eC
  | cw=>exact fun _ => .cw
  | aS=>exact fun _ => .aS
  | n8=>exact fun _ => .n8
  | cJ=>exact fun _ => .cJ
  | iface t v=>exact fun _ => .iface t v
  | Em hn=>exact fun _ => .Em hn
  | Ct hi hn hv=>exact fun _=>(dw.Ct hi hn hv).mono x
  | Fv b=>exact fun _ => .Fv b
  | ptr hi hv=>exact fun _=>(dw.ptr hi hv).mono x
  | map hi hv=>exact fun _=>(dw.map hi hv).mono x
  | sN hi hv=>exact fun _=>(dw.sN hi hv).mono x
  | xi f hc hr _=>exact fun _=>(dw.xi f hc hr).mono x
  | Mn hn sd f hc hr _=>exact fun _=>(dw.Mn hn sd f hc hr).mono x
  | func ha hb hra hrb _ _=>exact fun _=>(dw.func ha hb hra hrb).mono x

theorem Nt (wf:WF w h c) {vs:List V} {ds:List Value} (r:cz w h c vs ds):cz w (nG h (V.sc vs)) c (V.Jn h vs) ds:=by
  rw[Hp]
  refine ⟨by simpa using r.1,fun j v d hv hd => ?_⟩
  rw[List.getElem?_map]at hv
  cases e:vs[j]? with
  | none=>rw[e]at hv; cases hv
  | some u =>
    rw[e]at hv; simp at hv; subst hv
    exact VW wf (r.2 j u d e hd) fun i hi=>qA.2 ⟨j,u,e,hi⟩

theorem Nu {t:Nat} {v:V} {d:Value} (r:dw w h c v d):dw w h c (canon tt t v) d:=by
  unfold canon
  split
  · rename_i T hT
    split
    · rename_i cs
      split
      · rename_i x hx
        split
        · cases r with
          | @agg _ y hl hr =>
            have rl:cz w h c cs y.toList:=⟨by simpa using hl,fun j v d hv hd=>hr j v d hv (by simpa using hd)⟩
            have:=Fg hx rl
            exact .agg (by simpa using this.1) fun j v d hv hd=>this.2 j v d hv (by simpa using hd)
        · exact r
      · exact r
    · split
      · rename_i x hx
        split
        · exact r
        · have:=Fg hx (cz.cons r cz.nil)
          split
          · rename_i e he
            rw[he]at this
            exact this.head
          · exact r
      · exact r
  · split
    · split
      · split
        · rename_i l hl; exact KZ r hl
        · exact r
      · exact r
    · exact r

theorem Lc:∀(ts:List Nat) {vs:List V} {ds:List Value},cz w h c vs ds→cz w h c (Gk tt ts vs) ds
  | [],vs,ds,r=>by simpa [Gk]using r
  | t::ts, [],ds,r=>by simpa [Gk]using r
  | t::ts,v::vs, [],r=>by have:=r.1; simp at this
  | t::ts,v::vs,d::ds,r => .cons (Nu r.head) (Lc ts r.tail)

theorem IG {v:V} {d:Value} (hs:v.M9=true) (r:dw w h c v d):dw w' h' c' v d:=by
  cases r <;> simp only[V.M9]at hs <;> try (first|cases hs)
  case int hn=>exact .int hn
  case bool b=>exact .bool b
  case str hl=>exact .str hl
  case eC=>exact .eC
  case cw=>exact .cw
  case aS=>exact .aS
  case n8=>exact .n8
  case cJ=>exact .cJ
  case iface t v=>exact .iface t v
  case Em hn=>exact .Em hn

theorem VX {v:V} {d:Value} (hs:v.Tu=true) (r:dw w h c v d):dw w' h' c' v d:=by
  cases r
  case agg hl hr =>
    simp only[V.Tu,List.all_eq_true]at hs
    exact .agg hl fun j v d hv hd=>IG (hs v (List.mem_of_getElem? hv)) (hr j v d hv hd)
  case tuple hl hr =>
    simp only[V.Tu,List.all_eq_true]at hs
    exact .tuple hl fun j v d hv hd=>IG (hs v (List.mem_of_getElem? hv)) (hr j v d hv hd)
  all_goals first
    | exact IG (w:=w) (h:=h) (c:=c) hs (by constructor <;> assumption)
    | (simp only[V.Tu,V.M9]at hs; cases hs)

theorem Ug {c1 c2:jZ} (wf:WF w h c) (x:Ext w [] c1 w' h' c2):Ext w h c w' h c∧WF w' h c:=by
  have nown:∀b y, ¬tu ([]:ay) c1 b y:=fun b y ho=>by
    obtain ⟨i,f,_,g2,_⟩:=ho
    simp[ay.at,bR.from_]at g2
  have hx:Ext w h c w' h c := {
    os:=x.os
    tape:=x.tape
    output:=x.output
    size:=x.size
    used:=fun _ hi=>hi
    same:=fun i hi hd=>⟨by have h2:=hi.2; revert hd h2; cases h.at i <;> simp[bR.ir],rfl,rfl⟩
    cell:=fun b y hb _=>x.cell b y hb (nown b y)
    block:=fun b hb _=>x.block b hb (nown b)
    vQ:=fun _ _ _ ho=>ho
    ext:=rfl
    arr:=x.arr }
  refine ⟨hx,?_,fun b y hb=>Nat.lt_of_lt_of_le (wf.o5 b y hb) x.size,fun i hi => ?_,wf.inj,wf.rC hx⟩
  · exact wf.xG
  · by_cases hl:(h.at i).live
    · exact (wf.obj i hi).keep hx (fun b hb=>x.block b ((wf.obj i hi).lt hl hb) (nown b)) rfl rfl
    · have h0:h.at i = .free∨h.at i = .dead:=by revert hl; cases h.at i <;> simp[bR.live]
      rcases h0 with h0|h0 <;> rw[h0] <;> trivial
end

section
variable {P:Program} {tt:dB} {w w':World} {h h':ay} {c c':jZ} {R:Type}

def wo (P:Program) (g:Nat) (args:Array Value) (w:World) (Q:Value→World→Prop):Prop :=
  ∃nx w1,(callFunc g args).run P w = .ok nx w1 ∧
    match nx with
    | .value d=>Q d w1
    | .enter f xs=>Calls P f xs w1 fun e w'=>∃d,e = .returned d∧Q d w'
    | .row row xs=>Rows P row xs w1 Q
    | _=>False

theorem wo.mono {g:Nat} {args:Array Value} {Q Q':Value→World→Prop} (h:wo P g args w Q) (hq:∀d w',Q d w'→Q' d w'):wo P g args w Q':=by
  obtain ⟨nx,w1,h1,h2⟩:=h
  refine ⟨nx,w1,h1,?_⟩
  cases nx <;> simp only at h2 ⊢
  · exact hq _ _ h2
  · exact Calls.mono h2 fun e w' ⟨d,e1,q⟩=>⟨d,e1,hq _ _ q⟩
  · exact Rows.mono h2 fun d w' q=>hq _ _ q

def Spec.Ok (P:Program) (g:Nat) (sp:Spec R):Prop :=
  ∀vs h k r,sp vs h k=some r→∀(w:World) (c:jZ) (args:Array Value),WF w h c→cz w h c vs args.toList →
    wo P g args w fun d w'=>∃v h' c',WF w' h' c'∧Ext w h c w' h' c'∧dw w' h' c' v d∧k v h'=some r

def Spec.VY (P:Program) (g m:Nat) (sp:Spec R):Prop :=
  ∀vs h k r,h.length=m→sp vs h k=some r→∀(w:World) (c:jZ) (args:Array Value),WF w h c→cz w h c vs args.toList →
    wo P g args w fun d w'=>∃v h' c',WF w' h' c'∧Ext w h c w' h' c'∧dw w' h' c' v d∧k v h'=some r

def Hq (sp:Spec R):Prop:=∀vs h k k',(∀v,k v h=k' v h)→sp vs h k=sp vs h k'

def po (P:Program) (E:Env R):Prop:=∀g b sp,E g=some (b,sp)→Spec.Ok P g sp∧(b=false→oq.soft g=true→Hq sp)

theorem Hq.same {sp:Spec R} (hs:Hq sp) {vs:List V} {k:V→ay→Option R} {r:R} (hk:sp vs h k=some r):∃k',sp vs h k'=some r∧∀v h',k' v h'=some r→h'=h∧k v h=some r:=by
  classical
  refine ⟨fun v h'=>if h'=h then k v h else none,?_,fun v h' e => ?_⟩
  · rw[←hk]
    exact hs _ _ _ _ fun v=>by simp
  · simp only at e
    split at e
    · exact ⟨‹_›,e⟩
    · cases e

theorem Spec.VY.Y7 {g m:Nat} {sp:Spec R} {fn:Func} (hf:P.funcs[g]? = some fn) (hn:(fn.name == "runtime.NumGoroutine")=false) (hb:fn.body.isNone=false)
    (hs:∀vs h k r,h.length=m→sp vs h k=some r→∀(w:World) (c:jZ) (args:Array Value),WF w h c→cz w h c vs args.toList →
      Calls P g args w fun e w'=>∃d,e = .returned d∧∃v h' c',WF w' h' c'∧Ext w h c w' h' c'∧dw w' h' c' v d∧k v h'=some r):Spec.VY P g m sp:=by
  intro vs h k r ZZ hk w c args wf ra
  refine ⟨.enter g args,w,?_,hs vs h k r ZZ hk w c args wf ra⟩
  have Pe:fn.name ≠ "runtime.NumGoroutine" :=by simpa using hn
  have o6:fn.body≠none:=fun e=>by rw[e]at hb; cases hb
  simp[callFunc,hf,Pe,o6]

theorem P3:∀ {v:V},v.ids = []→∀ρ,v.pn ρ=v:=by
  have key:(∀v:V,v.ids = []→∀ρ,v.pn ρ=v)∧∀l:List V,V.sc l = []→∀ρ,V.xD ρ l=l:=by
    refine ⟨fun v => ?_,fun l => ?_⟩
    · refine V.rec (motive_1:=fun v=>v.ids = []→∀ρ,v.pn ρ=v) (motive_2:=fun l=>V.sc l = []→∀ρ,V.xD ρ l=l) ?_ ?_ ?_ ?_ ?_ ?_ ?_ ?_ ?_ ?_ ?_ ?_ ?_ ?_ ?_ ?_ ?_ ?_ ?_ ?_ ?_ ?_ ?_ ?_ ?_ v <;> first
        | (intros; rfl)
        | (intros; simp_all [V.ids,V.sc,V.pn,V.xD]; done)
        | skip
      · intro T l t ht ρ
        cases t <;> simp_all [V.ids,V.pn,Tok.pn]
    · refine V.rec_1 (motive_1:=fun v=>v.ids = []→∀ρ,v.pn ρ=v) (motive_2:=fun l=>V.sc l = []→∀ρ,V.xD ρ l=l) ?_ ?_ ?_ ?_ ?_ ?_ ?_ ?_ ?_ ?_ ?_ ?_ ?_ ?_ ?_ ?_ ?_ ?_ ?_ ?_ ?_ ?_ ?_ ?_ ?_ l <;> first
        | (intros; rfl)
        | (intros; simp_all [V.ids,V.sc,V.pn,V.xD]; done)
        | skip
      · intro T l t ht ρ
        cases t <;> simp_all [V.ids,V.pn,Tok.pn]
  exact fun {v} hv ρ=>key.1 v hv ρ

theorem Ld (h:ay):h.back [] []=h:=by simp[ay.back,ay.zk]

def th (al:Bool) (id:Nat) (h h':ay):Prop:=h.length≤h'.length∧∀j,(al=true→j≠id)→j<h.length→h.at j = .free→h'.at j = .free

theorem RG {ord:List Nat} (DX:ord.Nodup) (hu:∀i∈ord,Used h i) (hle:ord.length≤h'.length):th false 0 h (h.back ord h'):=by
  refine ⟨by simp[ay.back,fH],fun j _ hj hf => ?_⟩
  have hn:j∉ord:=fun hm=>(hu j hm).2 hf
  rcases BY (c:=⟨fun _=>none,fun _=>0,⟨fun _ _=>False⟩⟩) (c':=⟨fun _=>none,fun _=>0,⟨fun _ _=>False⟩⟩) DX (fun i hi=>(hu i hi).1) hle j with ⟨i,h1,h2,_⟩|⟨_,_,h3,_⟩|⟨h1,_⟩
  · unfold oP at h1
    split at h1
    · rename_i hi
      simp only[List.getD,List.getElem?_eq_getElem hi,Option.getD_some]at h1
      exact (hn (h1▸List.getElem_mem hi)).elim
    · omega
  · rw[h3]; exact hf
  · simp[ay.back,fH]at h1; omega

theorem RH {st:List V} {a:Act} (r:cz w h c st a.tmps.toList) (x:Operand):dw w h c (ev st x) (a.eval x):=by
  cases x with
  | tmp t =>
    have:=r.getD t undef
    simpa [ev,Act.eval,List.getD,Array.getD_eq_getD_getElem?]using this
  | const v=>exact Jp v
  | global g=>exact .undef _
  | func f=>exact .func rfl rfl (by simp) (by simp)

theorem Ov {v:V} {d:Value} (r:dw w h c v d):dw w h c (KH v) d:=by
  cases r with
  | sl f lB sd hc hr xF mA=>exact .sl f lB sd hc hr (by simp) (by simp)
  | _=>simp only[KH]; constructor <;> assumption

theorem Jt {v:V} {d:Value} (r:dw w h c v d):dw w h c (C4 v) d:=by
  cases r with
  | sl f lB sd hc hr xF mA=>exact .sl f lB sd hc hr (by simp) (by simp)
  | @agg cs x hl hr =>
    refine .agg (by simpa using hl) fun j v d hv hd => ?_
    rw[List.getElem?_map]at hv
    cases e:cs[j]? with
    | none=>rw[e]at hv; cases hv
    | some u=>rw[e]at hv; simp at hv; subst hv; exact Ov (hr j u d e hd)
  | _=>simp only[C4]; constructor <;> assumption

theorem Ow {vs:List V} {ds:List Value} (r:cz w h c vs ds):cz w h c (vs.map C4) ds:=by
  refine ⟨by simpa using r.1,fun j v d hv hd => ?_⟩
  rw[List.getElem?_map]at hv
  cases e:vs[j]? with
  | none=>rw[e]at hv; cases hv
  | some u=>rw[e]at hv; simp at hv; subst hv; exact Jt (r.2 j u d e hd)

theorem Nv {vs:List V} (h:V.sc vs = []) (ρ:Nat→Option Nat):V.xD ρ vs=vs:=by
  have:∀v∈vs,v.pn ρ=v:=fun v hv=>by
    refine P3 ?_ _
    cases hi:v.ids with
    | nil=>rfl
    | cons i l =>
      obtain ⟨j,hj⟩:=List.mem_iff_getElem?.1 hv
      have:i∈V.sc vs:=qA.2 ⟨j,v,hj,by rw[hi]; simp⟩
      rw[h]at this; cases this
  rw[Kn]
  conv=>rhs; rw[←List.map_id vs]
  exact List.map_congr_left this

theorem P4 {E:Env R} (hE:po P E) (wf:WF w h c) {o:Oper} {cl:Call} (ho:o.op = .call cl) {ρ:Operand→V} {ρ':Operand→Value} (hρ:∀x,dw w h c (ρ x) (ρ' x)) {full:Bool}
    {k:V→ay→Option R} {r:R} (hk:xy tt E full cl ρ h k=some r) :
    ∃g args,(execOp ρ' o).run P w=(callFunc g args).run P w∧wo P g args w fun d w' =>
      ∃v h' c',WF w' h' c'∧Ext w h c w' h' c'∧dw w' h' c' v d∧k v h'=some r∧th false 0 h h'∧(full=false→h'=h):=by
  obtain ⟨dst,op,type,pos,after,guard⟩:=o
  simp only at ho
  subst ho
  unfold xy at hk
  split at hk <;> try (first|cases hk)
  rename_i f hf
  split at hk <;> try (first|cases hk)
  rename_i g first cap hg
  have rf:=hρ f
  rw[hg]at rf
  generalize hdf:ρ' f=df at rf
  cases rf with
  | @func _ _ _ x y ha hb hra hrb =>
    have VZ:cz w h c (first++cl.args.toList.map ρ++cap) (x++cl.args.map ρ'++y).toList:=by
      have e:(x++cl.args.map ρ'++y).toList=x.toList++cl.args.toList.map ρ'++y.toList:=by simp
      rw[e]
      refine cz.append (cz.append ⟨by simpa using ha,fun j v d hv hd=>hra j v d hv (by simpa using hd)⟩ (cz.map _ fun z _=>hρ z)) ⟨by simpa using hb,fun j v d hv hd=>hrb j v d hv (by simpa using hd)⟩
    have V0:cz w h c ((first++Gk tt cl.argTypes.toList (cl.args.toList.map ρ)++cap).map C4) (x++cl.args.map ρ'++y).toList:=by
      have e:(x++cl.args.map ρ'++y).toList=x.toList++cl.args.toList.map ρ'++y.toList:=by simp
      rw[e]
      refine Ow (cz.append (cz.append ⟨by simpa using ha,fun j v d hv hd=>hra j v d hv (by simpa using hd)⟩ (Lc _ (cz.map _ fun z _=>hρ z))) ⟨by simpa using hb,fun j v d hv hd=>hrb j v d hv (by simpa using hd)⟩)
    simp only at hk
    refine ⟨g,x++cl.args.map ρ'++y,by simp[execOp,resolve,hf,hdf,Deferred.ofValue,invoke],?_⟩
    generalize (first++Gk tt cl.argTypes.toList (cl.args.toList.map ρ)++cap).map C4=ps at *
    generalize first++cl.args.toList.map ρ++cap=vs at *
    split at hk <;> try (first|cases hk)
    · -- a plain one
      rename_i sp Ox
      split at hk
      · rename_i Lb
        have ra:=Gv (ord := []) V0
        rw[Nv Lb]at ra
        refine wo.mono ((hE g _ sp Ox).1 _ _ _ _ hk w _ _ (IE (ord := []) wf List.nodup_nil) ra) fun d w' ⟨v,h',c',SL,x,rv,rX⟩ => ?_
        obtain ⟨k1,k2,k3⟩:=Nk wf (ord := []) (by simp) (by simp) SL x
        split at rX <;> try (first|cases rX)
        refine ⟨v,h,c.back [] h.length c',?_,?_,?_,rX,⟨Nat.le_refl _,fun j _ _ hf=>hf⟩,fun _=>rfl⟩
        · rw[Ld]at k1; exact k1
        · rw[Ld]at k2; exact k2
        · have:=rv.pn k3
          rw[Ld]at this
          rw[P3]at this
          · exact this
          · cases hi:v.ids with
            | nil=>rfl
            | cons i l =>
              have:=rv.yO i (by rw[hi]; simp)
              exact (Nat.not_lt_zero _ this.1).elim
      · cases full with
        | false=>cases hk
        | true =>
          simp only[cond_true]at hk
          unfold Vy at hk
          split at hk <;> try (first|cases hk)
          rename_i Lb
          have ra:=Gv (ord := []) (Nt wf V0)
          rw[Nv Lb]at ra
          refine wo.mono ((hE g _ sp Ox).1 _ _ _ _ hk w _ _ (IE (ord := []) (BZ _ _ wf) List.nodup_nil) ra) fun d w' ⟨v,h',c',SL,x,rv,rX⟩ => ?_
          split at rX <;> try (first|cases rX)
          cases hs:v.Tu with
          | false=>rw[hs]at rX; cases rX
          | true =>
            rw[hs]at rX
            obtain ⟨hx,hw⟩:=Ug wf x
            exact ⟨v,h,c,hw,hx,VX hs rv,rX,⟨Nat.le_refl _,fun j _ _ hf=>hf⟩,fun _=>rfl⟩
    · rename_i sp Ox
      cases full with
      | false=>cases hk
      | true =>
        simp only[cond_true]at hk
        cases hso:oq.soft g with
        | true =>
          rw[hso]at hk
          simp only[cond_true]at hk
          obtain ⟨k',Uh,Gq⟩:=((hE g _ sp Ox).2 rfl hso).same hk
          refine wo.mono ((hE g _ sp Ox).1 _ _ _ _ Uh w _ _ wf VZ) fun d w' ⟨v,h',c',SL,x,rv,rX⟩ => ?_
          obtain ⟨rfl,hk3⟩:=Gq _ _ rX
          exact ⟨v,_,c',SL,x,rv,hk3,⟨Nat.le_refl _,fun j _ _ hf=>hf⟩,fun _=>rfl⟩
        | false =>
        rw[hso]at hk
        simp only[cond_false]at hk
        have hui:=VZ.yO
        generalize V.sc vs=ids at *
        have hu:∀i∈reach h 64 ids [],Used h i:=Gu wf _ _ _ hui (by simp)
        have DX:(reach h 64 ids []).Nodup:=BX h _ _ _ (by simp)
        refine wo.mono ((hE g _ sp Ox).1 _ _ _ _ hk w _ _ (IE wf DX) (Gv VZ)) fun d w' ⟨v,h',c',SL,x,rv,rX⟩ => ?_
        obtain ⟨k1,k2,k3⟩:=Nk wf DX hu SL x
        have hle:(reach h 64 ids []).length≤h'.length:=by
          rcases Nat.eq_zero_or_pos (reach h 64 ids []).length with h0|h0
          · omega
          · have:=(x.used ((reach h 64 ids []).length - 1) ⟨by simp[ay.pick]; omega,by
              rw[uM,List.getElem?_eq_getElem (by omega)]
              simp only[ne_eq,CB]
              exact (hu _ (List.getElem_mem _)).2⟩).1
            omega
        exact ⟨_,_,_,k1,k2,rv.pn k3,rX,RG DX hu hle,fun TF=>by cases TF⟩
end

section
variable {tt:dB} {h:ay} {R:Type}

theorem Ui {T:Ty} {x:V} {id ix:Nat} {ob:bR} (hx:YM id x=true) (ln:id<ix):Jm T (h.set ix ob) x=Jm T h x:=by
  cases x <;> simp only[Jm]
  case row i n =>
    simp only[YM,decide_eq_true_eq]at hx
    rw[cP _ (by omega)]

theorem P5 {e id ix:Nat} {s x:V} {ob:bR} {k:V→ay→Option R} (hs:Ra id s=true) (hx:YM id x=true) (ln:id<ix) :
    nT tt e s x (h.set ix ob) id k=nT tt e s x h id fun v h'=>k v (h'.set ix ob):=by
  have hc:∀(h:ay) (o1:bR),(h.set ix ob).set id o1=(h.set id o1).set ix ob:=fun h o1=>List.set_comm _ _ (by omega)
  unfold nT
  cases (tt.at e).ty with
  | none=>rfl
  | some T =>
    simp only[Ui hx ln]
    split
    · cases Jm T h x with
      | none=>rfl
      | some m =>
        cases s with
        | cw =>
          simp only[hc]
        | sl T' l tk =>
          simp only
          split
          · cases tk with
            | no=>rfl
            | nil=>simp only[hc]
            | own i =>
              simp only[Ra,decide_eq_true_eq]at hs
              simp only
              rw[cP _ (by omega)]
              have hci:∀o1:bR,(h.set ix ob).set i o1=(h.set i o1).set ix ob:=fun o1=>List.set_comm _ _ (by omega)
              simp only[hci,hc]
          · rfl
        | row i n=>simp[Ra]at hs
        | _=>rfl
    · rfl

theorem Oy {e id:Nat} {s x:V} {k k':V→ay→Option R} (hs:Ra id s=true) (hk:∀v h',(∀i,i<id→(h'.at i).rd=(h.at i).rd)→k v h'=k' v h') :
    nT tt e s x h id k=nT tt e s x h id k':=by
  have h1:∀v o1,k v (h.set id o1)=k' v (h.set id o1):=fun v o1=>hk v _ fun i hi=>by rw[cP _ (by omega)]
  unfold nT
  cases (tt.at e).ty with
  | none=>rfl
  | some T =>
    simp only
    split
    · cases Jm T h x with
      | none=>rfl
      | some m =>
        cases s with
        | cw=>simp only[h1]
        | sl T' l tk =>
          simp only
          split
          · cases tk with
            | no=>rfl
            | nil=>simp only[h1]
            | own i =>
              simp only[Ra,decide_eq_true_eq]at hs
              simp only
              have h2:h.at i = .tok→∀v o1,k v ((h.set i .dead).set id o1)=k' v ((h.set i .dead).set id o1):=fun ht v o1=>hk v _ fun j hj=>by
                rw[cP _ (by omega)]
                by_cases e:i=j
                · subst e
                  rw[ht,mP]
                  split <;> simp[bR.rd,ht]
                · rw[cP _ e]
              cases ht:h.at i <;> try rfl
              simp only[h2 ht]
          · rfl
        | row i n=>simp[Ra]at hs
        | _=>rfl
    · rfl

theorem Oz {o:Op} (ha:o4 o=true):∃c,o = .call c∧c.callee = .builtin .append:=by
  unfold o4 at ha
  split at ha <;> try (first|cases ha)
  rename_i c
  refine ⟨c,rfl,?_⟩
  revert ha
  split
  · intro _; assumption
  · intro h; cases h

theorem B0 {o:Op} (ha:o4 o=true):fj tt o = .W:=by
  obtain ⟨c,rfl,hc⟩:=Oz ha
  simp only[fj,hc]

theorem OA {o:Op} {ρ ρ':Operand→V} {id:Nat} (h':∀x∈o.operands,ρ x=ρ' x):uX o ρ id=uX o ρ' id:=by
  unfold uX
  split
  · rename_i c
    have ha:∀x∈c.args.toList,ρ x=ρ' x:=fun x hx=>h' x (by simp[Op.operands,Call.operands]at hx ⊢; exact .inr hx)
    split
    · rename_i s x e
      rw[ha s (by rw[e]; simp),ha x (by rw[e]; simp)]
    · rfl
  · rfl

theorem Y8 {o:Op} {ρ:Operand→V} {id ix:Nat} {ob:bR} {k:V→ay→Option R} (ha:o4 o=true) (hl:uX o ρ id=true) (ln:id<ix) :
    Kk tt o ρ (h.set ix ob) id k=Kk tt o ρ h id fun v h'=>k v (h'.set ix ob):=by
  obtain ⟨⟨callee,args,argTypes⟩,rfl,hc⟩:=Oz ha
  simp only at hc
  subst hc
  simp only[Kk]
  split
  · rename_i s x t xt _ e et
    simp only[uX,e,Bool.and_eq_true]at hl
    simp only[P5 hl.1 hl.2 ln]
  · rfl

theorem P6 {o:Op} {ρ:Operand→V} {id:Nat} {k k':V→ay→Option R} (ha:o4 o=true) (hl:uX o ρ id=true) (hk:∀v h',(∀i,i<id→(h'.at i).rd=(h.at i).rd)→k v h'=k' v h') :
    Kk tt o ρ h id k=Kk tt o ρ h id k':=by
  obtain ⟨⟨callee,args,argTypes⟩,rfl,hc⟩:=Oz ha
  simp only at hc
  subst hc
  simp only[Kk]
  split
  · rename_i s x t xt _ e et
    simp only[uX,e,Bool.and_eq_true]at hl
    simp only[Oy hl.1 hk]
  · rfl
end

section
variable {P:Program} {tt:dB} {w w':World} {h h':ay} {c c':jZ} {R:Type}

structure Gw (w:World) (c:jZ) (st:St) (a:Act):Prop where
  wf:WF w st.hp c
  fr:cz w st.hp c st.fr a.tmps.toList

theorem th.refl (al:Bool) (id:Nat) (h:ay):th al id h h:=⟨Nat.le_refl _,fun _ _ _ hf=>hf⟩
theorem th.set {id:Nat} (ob:bR):th true id h (h.set id ob):=⟨by simp,fun j hj _ hf=>by rw[cP _ (Ne.symm (hj rfl))]; exact hf⟩
theorem th.weak {al:Bool} {id:Nat} (k:th false 0 h h'):th al id h h':=⟨k.1,fun j _ hj hf=>k.2 j (by simp) hj hf⟩

theorem Y9 {o:Op} {ρ:Operand→V} {id:Nat} {k0:V→ay→Option R} {r:R} (hk:Kk tt o ρ h id k0=some r) :
    ∃v h',k0 v h'=some r∧th true id h h'∧∀k:V→ay→Option R,Kk tt o ρ h id k=k v h':=by
  have Uj:∀i ob,h.at i ≠ .free→th true id h (h.set i ob):=fun i ob hi=>⟨by simp,fun j _ _ hf=>by
    rw[cP _ (fun e:i=j=>hi (by rw[e]; exact hf))]; exact hf⟩
  have Z3:∀i ob ob',h.at i ≠ .free→th true id h ((h.set i ob).set id ob'):=fun i ob ob' hi=>⟨by simp,fun j hj _ hf=>by
    rw[cP _ (Ne.symm (hj rfl)),cP _ (fun e:i=j=>hi (by rw[e]; exact hf))]; exact hf⟩
  cases o <;> simp only[Kk]at hk ⊢ <;> try (first|cases hk)
  case store t x y =>
    split at hk <;> try (first|cases hk)
    rename_i vs hvs
    split at hk <;> try (first|cases hk)
    rename_i hc
    split at hk <;> try (first|cases hk)
    · rename_i i o hx
      split at hk <;> try (first|cases hk)
      · rename_i cs By
        split at hk <;> try (first|cases hk)
        rename_i hl
        exact ⟨_,_,hk,Uj i _ (by rw[By]; simp),fun k=>by simp only[*,if_true]⟩
      rename_i u By
      split at hk <;> try (first|cases hk)
      exact ⟨_,_,hk,Uj i _ (by rw[By]; simp),fun k=>by simp only[*,if_true]⟩
    · rename_i i sz j o hx
      split at hk <;> try (first|cases hk)
      rename_i T l By
      split at hk <;> try (first|cases hk)
      rename_i hs
      split at hk <;> try (first|cases hk)
      rename_i hl
      split at hk <;> try (first|cases hk)
      rename_i z hz
      obtain ⟨hb,hk⟩:=cq hk
      exact ⟨_,_,hk,Uj i _ (by rw[By]; simp),fun k=>by simp only[*,if_true,cR,cond_true]⟩
  case mapUpdate t m x y =>
    split at hk <;> try (first|cases hk)
    rename_i kt vt i ht hx
    split at hk <;> try (first|cases hk)
    rename_i K V' l hm
    split at hk <;> try (first|cases hk)
    rename_i hf
    split at hk <;> try (first|cases hk)
    rename_i kx vx YT Y0
    exact ⟨_,_,hk,Uj i _ (by rw[hm]; simp),fun k=>by simp only[ht,hx,hm,hf,YT,Y0,if_true]⟩
  case insert t m x y =>
    split at hk <;> try (first|cases hk)
    rename_i kt vt i ht hx
    split at hk <;> try (first|cases hk)
    rename_i K V' l hm
    split at hk <;> try (first|cases hk)
    rename_i hf
    split at hk <;> try (first|cases hk)
    rename_i kx vx YT Y0
    exact ⟨_,_,hk,Uj i _ (by rw[hm]; simp),fun k=>by simp only[ht,hx,hm,hf,YT,Y0,if_true]⟩
  case next x str =>
    split at hk <;> try (first|cases hk)
    rename_i i hx
    split at hk <;> try (first|cases hk)
    rename_i s pos hit
    cases hb:decide (pos<s.length)with
    | true =>
      rw[hb]at hk
      exact ⟨_,_,hk,Uj i _ (by rw[hit]; simp),fun k=>by simp only[hx,hit,hb,cond_true]⟩
    | false =>
      rw[hb]at hk
      exact ⟨_,_,hk, .refl _ _ _,fun k=>by simp only[hx,hit,hb,cond_false]⟩
  case call cl =>
    have happ:∀e s x,nT tt e s x h id k0=some r→∃v h',k0 v h'=some r∧th true id h h'∧∀k:V→ay→Option R,nT tt e s x h id k=k v h':=by
      intro e s x hk
      unfold nT at hk
      split at hk <;> try (first|cases hk)
      rename_i T hT
      split at hk <;> try (first|cases hk)
      rename_i hc
      split at hk <;> try (first|cases hk)
      rename_i m hm
      split at hk <;> try (first|cases hk)
      · obtain ⟨hb,hk⟩:=cq hk
        split at hk
        · rename_i hr
          exact ⟨_,_,hk,th.set _,fun k=>by simp only[nT,hT,hc,hm,if_true,hb,cR,cond_true,hr]⟩
        · rename_i hr
          exact ⟨_,_,hk,th.set _,fun k=>by simp only[nT,hT,hc,hm,if_true,hb,cR,cond_true,if_neg hr]⟩
      · split at hk <;> try (first|cases hk)
        rename_i hq
        subst hq
        split at hk <;> try (first|cases hk)
        · obtain ⟨hb,hk⟩:=cq hk
          exact ⟨_,_,hk,th.set _,fun k=>by simp only[nT,hT,hc,hm,if_true,hb,cR,cond_true,dite_true]⟩
        · split at hk <;> try (first|cases hk)
          rename_i hi
          obtain ⟨hb,hk⟩:=cq hk
          exact ⟨_,_,hk,Z3 _ _ _ (by rw[hi]; simp),fun k=>by simp only[nT,hT,hc,hm,hi,if_true,hb,cR,cond_true,dite_true]⟩
      · split at hk <;> try (first|cases hk)
        rename_i T' l hi
        split at hk <;> try (first|cases hk)
        rename_i hq
        subst hq
        obtain ⟨hb,hk⟩:=cq hk
        exact ⟨_,_,hk,Z3 _ _ _ (by rw[hi]; simp),fun k=>by simp only[nT,hT,hc,hm,hi,if_true,hb,cR,cond_true,dite_true]⟩
    split at hk <;> try (first|cases hk)
    split at hk <;> try (first|cases hk)
    · obtain ⟨v,h',h1,h2,h3⟩:=happ _ _ _ hk
      exact ⟨v,h',h1,h2,fun k=>by simp[*]⟩
    · obtain ⟨v,h',h1,h2,h3⟩:=happ _ _ _ hk
      exact ⟨v,h',h1,h2,fun k=>by simp[*]⟩

theorem Ac {st:List V} {a:Act} (r:cz w h c st a.tmps.toList) (dst:Option Nat) {v:V} {d:Value} (rv:dw w h c v d):cz w h c (mj st dst v) (a.put dst d).tmps.toList:=by
  cases dst with
  | none=>exact r
  | some j=>simpa [mj,Act.put]using r.set j rv

theorem put_defers (a:Act) (dst:Option Nat) (d:Value):(a.put dst d).defers=a.defers:=by cases dst <;> rfl
theorem Ey (T:xh P tt) {E:Env R} (hE:po P E) {o:Oper} {st:St} {a:Act} {drawn:Option Nat} {id:Nat} {k:St→Option R} {r:R} (hk:yN tt E drawn id o st k=some r) (ir:Gw w c st a)
    (hid:bZ tt o=true→id<st.hp.length∧st.hp.at id = .free) {next:Act→World→Prop} {Q:Exit→Act→World→Prop}
    (hn:∀d w' sO c' v,Gw w' c' sO (a.put o.dst d)→Ext w st.hp c w' sO.hp c'→th (bZ tt o) id st.hp sO.hp→sO.fr=mj st.fr o.dst v→(fj tt o.op ≠ .W→(fj tt o.op = .C→(drawn.isNone || !nU E o.op)=false)→∀i,(bZ tt o=true→i≠id)→sO.hp.at i=st.hp.at i)→(o4 o.op=true→drawn.isSome=true→∀i,i<id→(sO.hp.at i).rd=(st.hp.at i).rd)→k sO=some r→next (a.put o.dst d) w'):o.wp P a w next Q:=by
  have hρ:=fun x=>RH ir.fr x
  unfold yN at hk
  unfold Oper.wp
  simp only at hk
  split at hk
  · rename_i Ba
    obtain ⟨v,d,h1,h2,h3⟩:=TK (w:=w) T hρ hk
    rw[h1,Oper.upon_value]
    exact hn d w ⟨mj st.fr o.dst v,st.hp⟩ c v ⟨ir.wf,Ac ir.fr _ h2⟩ (.refl _ _ _) (.refl _ _ _) rfl (fun _ _ _ _=>rfl) (fun _ _ _ _=>rfl) h3
  · rename_i Ba
    obtain ⟨v,d,h1,h2,h3⟩:=TR T ir.wf hρ hk
    rw[h1,Oper.upon_value]
    exact hn d w ⟨mj st.fr o.dst v,st.hp⟩ c v ⟨ir.wf,Ac ir.fr _ h2⟩ (.refl _ _ _) (.refl _ _ _) rfl (fun _ _ _ _=>rfl) (fun _ _ _ _=>rfl) h3
  · rename_i Ba
    have Za:bZ tt o=true:=by simp[bZ,Ba]
    obtain ⟨ob,mk,h1,_,h2⟩:=T5 T ir.wf hρ hk
    obtain ⟨d,w',c',g1,g2,g3,g4⟩:=h2 id (hid Za).1 (hid Za).2
    rw[g1,Oper.upon_value]
    exact hn d w' ⟨mj st.fr o.dst (mk id),st.hp.set id ob⟩ c' (mk id) ⟨g2,Ac (ir.fr.mono g3) _ g4⟩ g3 (by rw[Za]; exact th.set _) rfl (fun _ _ i hi=>cP _ (Ne.symm (hi Za))) (fun _ _ i hi=>by rw[cP _ (by omega)]) h1
  · rename_i Ba
    have Za:bZ tt o=true:=by simp[bZ,Ba]
    have hk:(uX o.op (ev st.fr) id=true∨drawn.isSome=false)∧Kk tt o.op (ev st.fr) st.hp id (fun v h=>k ⟨mj st.fr o.dst v,h⟩)=some r:=by
      revert hk
      cases uX o.op (ev st.fr) id <;> cases drawn.isSome <;> simp
    obtain ⟨RI,hk⟩:=hk
    let C:ay→Prop:=fun h'=>o4 o.op=true→drawn.isSome=true→∀i,i<id→(h'.at i).rd=(st.hp.at i).rd
    have hk:Kk tt o.op (ev st.fr) st.hp id (fun v h'=>open Classical in if C h' then k ⟨mj st.fr o.dst v,h'⟩else none)=some r:=by
      by_cases ha:o4 o.op=true∧drawn.isSome=true
      · have hl:=RI.resolve_right (by simp[ha.2])
        rw[←hk]
        exact P6 ha.1 hl fun v h' hrd=>if_pos fun _ _=>hrd
      · have:∀h',C h':=fun h' h1 h2=>(ha ⟨h1,h2⟩).elim
        rw[←hk]
        congr 1
        funext v h'
        exact if_pos (this h')
    obtain ⟨v0,h0,hk0,Z4,Zb⟩:=Y9 hk
    have Zc:(open Classical in if C h0 then k ⟨mj st.fr o.dst v0,h0⟩else none)=some r:=hk0
    have hC0:C h0:=by
      by_cases hc:C h0
      · exact hc
      · rw[if_neg hc]at Zc; cases Zc
    rw[if_pos hC0]at Zc
    replace hk0:=Zc
    have Gq:=Zb fun v h'=>open Classical in if h'=h0 then k ⟨mj st.fr o.dst v,h'⟩else none
    simp only[if_true]at Gq
    obtain ⟨v,h',d,w',c',nx,g1,g2,g3,g4,g5,g6⟩:=Uc T ir.wf hρ (hid Za).1 (hid Za).2 (Gq.trans hk0)
    split at g6 <;> try (first|cases g6)
    rename_i he
    subst he
    rw[g1]
    rcases g2 with rfl|⟨rfl,rfl⟩
    · rw[Oper.upon_value]
      exact hn d w' ⟨mj st.fr o.dst v,h'⟩ c' v ⟨g3,Ac (ir.fr.mono g4) _ g5⟩ g4 (by rw[Za]; exact Z4) rfl (fun hC=>(hC Ba).elim) hC0 g6
    · rw[Oper.upon_skip]
      exact hn undef w' ⟨mj st.fr o.dst v,h'⟩ c' v ⟨g3,Ac (ir.fr.mono g4) _ g5⟩ g4 (by rw[Za]; exact Z4) rfl (fun hC=>(hC Ba).elim) hC0 g6
  · rename_i Ba
    split at hk <;> try (first|cases hk)
    rename_i cl El
    obtain ⟨g,args,h1,nx,w1,h2,h3⟩:=P4 hE ir.wf El hρ hk
    rw[h1,h2]
    have fin:∀d w',(∃v h' c',WF w' h' c'∧Ext w st.hp c w' h' c'∧dw w' h' c' v d∧k ⟨mj st.fr o.dst v,h'⟩=some r∧th false 0 st.hp h'∧((drawn.isNone || !nU E o.op)=false→h'=st.hp))→next (a.put o.dst d) w':=by
      rintro d w' ⟨v,h',c',q1,q2,q3,q4,q5,q6⟩
      exact hn d w' ⟨mj st.fr o.dst v,h'⟩ c' v ⟨q1,Ac (ir.fr.mono q2) _ q3⟩ q2 q5.weak rfl (fun _ hd i _=>by rw[q6 (hd Ba)]) (fun ha=>by rw[B0 ha]at Ba; cases Ba) q4
    cases nx <;> simp only at h3
    · rw[Oper.upon_value]; exact fin _ _ h3
    · rw[Oper.upon_enter]
      exact Calls.mono h3 fun e w' ⟨d,e1,q⟩=>by subst e1; exact fin d w' q
    · rw[Oper.upon_row]
      exact Rows.mono h3 fun d w' q=>fin d w' q
  · cases hk
  · cases hk
end

section
variable {P:Program} {tt:dB} {w w':World} {h h':ay} {c c':jZ} {R:Type}

theorem V1 {fr:List V} {d:Nat} {v:V} (h:fr.getD d .undef=v) (hv:v ≠ .undef):fr.set d v=fr:=by
  have hd:d<fr.length:=by
    rcases Nat.lt_or_ge d fr.length with hl|hl
    · exact hl
    · simp[List.getD,List.getElem?_eq_none hl]at h; exact (hv h.symm).elim
  have e:fr[d]=v:=by simpa [List.getD,List.getElem?_eq_getElem hd]using h
  rw[←e]
  exact List.set_getElem_self hd

theorem A2 {all:List Oper} {o:Oper} {st:St} {run skip:St→Option R}:uY all o st run skip =
    match o.guard with
    | none=>run st
    | some (j,want) =>
      match (all[j]?).bind (·.dst)with
      | none=>none
      | some d=>match st.fr.getD d .undef with | .bool b=>if b=want then run st else skip st | .tuple []=>skip st|_=>none:=by
  unfold uY
  cases o.guard with
  | none=>rfl
  | some jw =>
    obtain ⟨j,want⟩:=jw
    simp only
    cases (all[j]?).bind (·.dst)with
    | none=>rfl
    | some d =>
      simp only
      cases hb:st.fr.getD d .undef with
      | bool b =>
        have e:(⟨st.fr.set d (.bool b),st.hp⟩:St)=st:=by rw[V1 hb (by simp)]
        cases b <;> cases want <;> simp[e]
      | tuple vs=>cases vs <;> rfl
      | _=>rfl

theorem Dg {ops:Array Oper} {o:Oper} {st:St} {a:Act} (ir:Gw w c st a) {run skip:St→Option R} {r:R} (hk:uY ops.toList o st run skip=some r) :
    (Region.wanted o (yielded ops a.tmps)=true∧run st=some r)∨(Region.wanted o (yielded ops a.tmps)=false∧skip st=some r):=by
  rw[A2]at hk
  unfold Region.wanted
  split at hk
  · rename_i hg; simp only[hg]; exact .inl ⟨trivial,hk⟩
  · rename_i j want hg
    simp only[hg]
    split at hk <;> try (first|cases hk)
    rename_i d hd
    have hl:∀v,st.fr.getD d .undef=v→v ≠ .undef→d<st.fr.length:=fun v hv lp=>by
      rcases Nat.lt_or_ge d st.fr.length with hl|hl
      · exact hl
      · simp[List.getD,List.getElem?_eq_none hl]at hv; exact (lp hv.symm).elim
    have key:∀v,st.fr.getD d .undef=v→v ≠ .undef→∃x,a.tmps[d]? = some x∧dw w st.hp c v x:=fun v hb lp=>by
      have hl:=hl v hb lp
      have SD:d<a.tmps.size:=by rw[←(by simpa using ir.fr.1:st.fr.length=a.tmps.size)]; exact hl
      exact ⟨a.tmps[d],Array.getElem?_eq_getElem SD,ir.fr.2 d v a.tmps[d] (by rw[List.getElem?_eq_getElem hl]; simpa [List.getD,List.getElem?_eq_getElem hl]using hb) (by simp)⟩
    have TF:(ops[j]?).bind (·.dst)=some d:=by simpa using hd
    split at hk <;> try (first|cases hk)
    · rename_i b hb
      obtain ⟨x,hx,rv⟩:=key _ hb (by simp)
      have hy:yielded ops a.tmps j=some b:=by
        unfold yielded
        rw[TF]
        simp only[Option.bind_some,hx]
        cases rv
        rfl
      rw[hy]
      split at hk
      · rename_i hw; subst hw; exact .inl ⟨by simp,hk⟩
      · rename_i hw; exact .inr ⟨by simpa using hw,hk⟩
    · rename_i hb
      obtain ⟨x,hx,rv⟩:=key _ hb (by simp)
      have hy:yielded ops a.tmps j=none:=by
        unfold yielded
        rw[TF]
        simp only[Option.bind_some,hx]
        cases rv
        rfl
      rw[hy]
      exact .inr ⟨by simp,hk⟩

theorem IH:dw w h c (.tuple []) undef := .tuple rfl (by simp)

def V2 (w:World) (c:jZ) (st:St) (a:Act) (k:St→Option R) (r:R) (K:Act→World→Prop):Prop :=
  ∀a' w' sO c',Gw w' c' sO a'→Ext w st.hp c w' sO.hp c'→a'.defers=a.defers→k sO=some r→K a' w'

def Z5 (tt:dB) (rest:List Oper) (id:Nat) (h:ay):Prop:=∀j,id≤j→j<id+(rest.filter (bZ tt)).length→j<h.length∧h.at j = .free

theorem Gx (T:xh P tt) {E:Env R} (hE:po P E) {ops:Array Oper} {k:St→Option R} {r:R} {Q:Exit→Act→World→Prop}:∀(rest:List Oper) (n id:Nat) (w:World) (c:jZ) (st:St) (a:Act),
    ops.toList.drop n=rest→KJ tt E none ops.toList rest id st k=some r→Gw w c st a→Z5 tt rest id st.hp→V2 w c st a k r (Q .normal)→wpOps P ops Q (List.range' n rest.length) a w
  | [],n,id,w,c,st,a,_,hk,ir,_,go=>go a w st c ir (.refl _ _ _) rfl hk
  | o::rest,n,id,w,c,st,a,hd,hk,ir,hs,go=>by
    have hn:ops[n]? = some o:=by
      have:(ops.toList.drop n)[0]? = some o:=by rw[hd]; rfl
      rw[List.getElem?_drop]at this
      simpa using this
    have TF:ops.toList.drop (n+1)=rest:=by
      have:(ops.toList.drop n).drop 1=rest:=by rw[hd]; rfl
      rwa [List.drop_drop]at this
    rw[List.length_cons,List.range'_succ,wpOps_cons]
    unfold wpOp
    simp only[hn]
    simp only[KJ,C5]at hk
    have Zd:∀h',th (bZ tt o) id st.hp h'→Z5 tt rest (if bZ tt o then id+1 else id) h':=by
      intro h' kp j h1 h2
      cases ha:bZ tt o with
      | true =>
        rw[ha]at h1 h2 kp
        simp only[if_true]at h1 h2
        obtain ⟨g1,g2⟩:=hs j (by omega) (by rw[List.filter_cons_of_pos ha,List.length_cons]; omega)
        exact ⟨Nat.lt_of_lt_of_le g1 kp.1,kp.2 j (fun _=>by omega) g1 g2⟩
      | false =>
        rw[ha]at h1 h2 kp
        simp only[Bool.false_eq_true,if_false]at h1 h2
        obtain ⟨g1,g2⟩:=hs j (by omega) (by rw[List.filter_cons_of_neg (by simp[ha])]; omega)
        exact ⟨Nat.lt_of_lt_of_le g1 kp.1,kp.2 j (fun h=>by cases h) g1 g2⟩
    rcases Dg ir hk with ⟨hw,hk⟩|⟨hw,hk⟩
    · rw[if_pos hw]
      refine .inl (Ey T hE hk ir (fun ha=>hs id (Nat.le_refl _) (by rw[List.filter_cons_of_pos ha,List.length_cons]; omega)) fun d w' sO c' v RJ x kp _ _ _ rX => ?_)
      refine Gx T hE rest (n+1) _ w' c' sO _ TF rX RJ (Zd _ kp) fun a2 w2 Bz c2 s2 x2 d2 k2 => ?_
      exact go a2 w2 Bz c2 s2 (x.trans x2) (d2.trans (put_defers _ _ _)) k2
    · rw[if_neg (by simp[hw])]
      refine Gx T hE rest (n+1) _ w c ⟨mj st.fr o.dst (.tuple []),st.hp⟩ _ TF hk ⟨ir.wf,Ac ir.fr _ IH⟩ (Zd _ (.refl _ _ _)) fun a2 w2 Bz c2 s2 x2 d2 k2 => ?_
      exact go a2 w2 Bz c2 s2 x2 (d2.trans (put_defers _ _ _)) k2

theorem Kp {n i:Nat}:ay.at (h++List.replicate n .free) i=h.at i∨(h.length≤i∧ay.at (h++List.replicate n .free) i = .free):=by
  rcases Nat.lt_or_ge i h.length with hi|hi
  · exact .inl (kN hi)
  · rcases Nat.lt_or_ge (i - h.length) n with hj|hj
    · refine .inr ⟨hi,?_⟩
      rw[jO hi]
      simp[ay.at,List.getD,List.getElem?_replicate,hj]
    · refine .inl ?_
      rw[jO hi]
      have h1:¬(i - h.length<n):=by omega
      have h2:¬(i<h.length):=by omega
      simp[ay.at,List.getD,List.getElem?_replicate,h1,List.getElem?_eq_none hi]

theorem V3 {i:Nat} (hi:h.length≤i):h.at i = .dead:=by simp[ay.at,List.getD,List.getElem?_eq_none hi]

theorem Le {n b x:Nat}:tu (h++List.replicate n .free) c b x↔tu h c b x:=by
  constructor
  · rintro ⟨i,f,h1,h2,h3⟩
    rcases Kp (h:=h) (n:=n) (i:=i)with e|⟨_,e⟩
    · exact ⟨i,f,h1,e▸h2,h3⟩
    · rw[e]at h2; cases h2
  · rintro ⟨i,f,h1,h2,h3⟩
    rcases Kp (h:=h) (n:=n) (i:=i)with e|⟨hi,e⟩
    · exact ⟨i,f,h1,e.symm▸h2,h3⟩
    · rw[V3 hi]at h2; cases h2

theorem sS (n:Nat):Ext w h c w (h++List.replicate n .free) c where
  os:=rfl
  tape:=rfl
  output:=rfl
  size:=Nat.le_refl _
  used:=fun i hi=>⟨by simp; have:=hi.1; omega,by
    rw[kN hi.1]; exact hi.2⟩
  same:=fun i hi hd=>by
    rw[kN hi.1]at hd ⊢
    exact ⟨CE (Ff hi.2 hd) (fun _ _ _ => .inr trivial),rfl,rfl⟩
  cell:=fun _ _ _ _=>rfl
  block:=fun _ _ _=>rfl
  vQ:=fun b x _ ho=>Le.1 ho
  ext:=rfl
  arr:=fun b arr e fz hb=>⟨arr,fz,hb,rfl⟩

theorem Ez (wf:WF w h c) (n:Nat):WF w (h++List.replicate n .free) c where
  lay:=wf.rC (sS n)
  xG:=fun b x ho=>wf.xG b x (Le.1 ho)
  o5:=wf.o5
  obj:=fun i hi=>by
    rcases Kp (h:=h) (n:=n) (i:=i)with e|⟨_,e⟩
    · rw[e]
      rcases Nat.lt_or_ge i h.length with hl|hl
      · have ho:=wf.obj i hl
        by_cases hv:(h.at i).live
        · exact ho.keep (sS n) (fun _ _=>rfl) rfl rfl
        · have h0:h.at i = .free∨h.at i = .dead:=by revert hv; cases h.at i <;> simp[bR.live]
          rcases h0 with h0|h0 <;> rw[h0] <;> trivial
      · rw[V3 hl]; trivial
    · rw[e]; trivial
  inj:=fun i j b hi hj h1 h2=>by
    have hl:∀i,(ay.at (h++List.replicate n .free) i).live→(h.at i).live:=fun i hi=>by
      rcases Kp (h:=h) (n:=n) (i:=i)with e|⟨_,e⟩
      · rw[e]at hi; exact hi
      · rw[e]at hi; exact hi.elim
    exact wf.inj i j b (hl i hi) (hl j hj) h1 h2

theorem OB (T:xh P tt) {E:Env R} (hE:po P E) {id:Nat} {ops:Array Oper} {k:St→Option R} {r:R} {Q:Exit→Act→World→Prop} {st:St} {a:Act}
    (hk:Fc tt E ops.toList false st k=some r) (ir:Gw w c st a) (go:V2 w c st a k r (Q .normal)):(Code.region id ops false).wp P Q a w:=by
  refine wp_region ?_
  simp only[Fc,Bool.false_eq_true,if_false]at hk
  have:=Gx T hE (ops:=ops) (Q:=Q) ops.toList 0 st.hp.length w c _ a rfl hk ⟨Ez ir.wf _,ir.fr.mono (sS _)⟩ ?_ ?_
  · rw[List.range_eq_range']
    simpa using this
  · intro j h1 h2
    refine ⟨by simp; omega,?_⟩
    rw[jO h1]
    have:j - st.hp.length<(ops.toList.filter (bZ tt)).length:=by omega
    simp[ay.at,List.getD,List.getElem?_replicate,this]
  · exact fun a2 w2 Bz c2 s2 x2 d2 k2=>go a2 w2 Bz c2 s2 ((sS _).trans x2) d2 k2
end

section
variable {P:Program} {tt:dB} {w w':World} {h h':ay} {c c':jZ} {R:Type}

def one (tt:dB) (E:Env R) (S:Option (Bool × List Nat)) (base:Nat) (all:List Oper) (o:Oper) (id:Nat) (st:St) (k:St→Option R):Option R :=
  uY all o st (fun st=>bif Gl tt E base S all o (ev st.fr) st.hp then yN tt E (Vk tt S base o) id o st k else none) (fun st=>k ⟨mj st.fr o.dst (.tuple []),st.hp⟩)

abbrev vE:=Nat × Oper × Nat

def DY (tt:dB) (E:Env R) (S:Option (Bool × List Nat)) (base:Nat) (all:List Oper):List vE→St→(St→Option R)→Option R
  | [],st,k=>k st
  | x::rest,st,k=>one tt E S base all x.2.1 x.2.2 st fun st=>DY tt E S base all rest st k

def number (tt:dB):List Oper→Nat→Nat→List vE
  | [],_,_ => []
  | o::rest,i,id=>(i,o,id)::number tt rest (i+1) (if bZ tt o then id+1 else id)

theorem OC {E:Env R} {base:Nat} {all:List Oper}:∀(l:List Oper) (i id:Nat) (st:St) (k:St→Option R),
    KJ tt E (some base) all l id st k=DY tt E none base all (number tt l i id) st k
  | [],_,_,_,_=>rfl
  | o::l,i,id,st,k=>by
    simp only[KJ,C5,number,DY,one,Gl,Vk,cond_true]
    congr 1
    · funext st
      congr 1
      funext st
      exact OC l _ _ _ _
    · funext st
      exact OC l _ _ _ _

theorem Kq {E:Env R} {A:Bool × List Nat} {base:Nat} {all:List Oper}:∀(l:List Oper) (i id:Nat) (st:St) (k:St→Option R),
    Pt tt E base A all l id st k=DY tt E (some A) base all (number tt l i id) st k
  | [],_,_,_,_=>rfl
  | o::l,i,id,st,k=>by
    simp only[Pt,C5,number,DY,one]
    congr 1
    · funext st
      congr 1
      congr 1
      funext st
      exact Kq l _ _ _ _
    · funext st
      exact Kq l _ _ _ _

theorem OD {S:Option (Bool × List Nat)} {base:Nat} {o:Oper} (h:fj tt o.op ≠ .W):Vk tt S base o=some base:=by
  unfold Vk
  split
  · split
    · rename_i hc; exact (h hc).elim
    · rfl
  · rfl
theorem P7 {S:Option (Bool × List Nat)} {base:Nat} {o:Oper} (h:S.map (·.1)≠some true):Vk tt S base o=some base:=by
  unfold Vk
  split
  · exact (h rfl).elim
  · rfl

structure SS where
  dst:Option Nat
  v:V
  put:Option (Nat × bR)

def SS.hp (e:SS) (h:ay):ay:=match e.put with|none=>h|some (i,ob)=>h.set i ob
def V4 (st:St) (e:SS):St:=⟨mj st.fr e.dst e.v,e.hp st.hp⟩

theorem Nw {fr:List V} {dst:Option Nat} {v:V} {t:Nat} (h:dst≠some t):(mj fr dst v).getD t .undef=fr.getD t .undef:=by
  cases dst with
  | none=>rfl
  | some d =>
    have:d≠t:=fun e=>h (by rw[e])
    simp[mj,List.getD,List.getElem?_set_ne this]

theorem Uk {fr:List V} {x y:Option Nat} {u v:V} (h:∀d,x=some d→y≠some d):mj (mj fr x u) y v=mj (mj fr y v) x u:=by
  cases x with
  | none=>rfl
  | some d =>
    cases y with
    | none=>rfl
    | some e =>
      have:d≠e:=fun he=>h d rfl (by rw[he])
      simp only[mj]
      exact List.set_comm _ _ this

theorem CG {fr Ul:List V} {o:Oper} {all:List Oper} (h:∀t∈looks all o,Ul.getD t .undef=fr.getD t .undef):∀x∈o.op.operands,ev Ul x=ev fr x:=by
  intro x hx
  cases x with
  | tmp t=>exact h t (List.mem_append_left _ (List.mem_filterMap.2 ⟨.tmp t,by simpa using hx,rfl⟩))
  | _=>rfl

theorem Lf {fr Ul:List V} {hp Vn:ay} {o:Oper} {all:List Oper} (h:∀t∈looks all o,Ul.getD t .undef=fr.getD t .undef) {run skip run' Lg:St→Option R}
    (hr:run' ⟨Ul,Vn⟩=run ⟨fr,hp⟩) (hs:Lg ⟨Ul,Vn⟩=skip ⟨fr,hp⟩):uY all o ⟨Ul,Vn⟩ run' Lg=uY all o ⟨fr,hp⟩ run skip:=by
  rw[A2,A2]
  cases hg:o.guard with
  | none=>exact hr
  | some jw =>
    obtain ⟨j,want⟩:=jw
    simp only
    cases hd:(all[j]?).bind (·.dst)with
    | none=>rfl
    | some d =>
      have:=h d (by
        refine List.mem_append_right _ ?_
        simp only[hg,hd]
        simp)
      simp only[this,hr,hs]

theorem P8 {o:Op} {ρ:Operand→V} {lim:Option Nat} {h2:ay} (e:∀i∈wh o ρ,DO lim i=true→(h2.at i).rd=(h.at i).rd) {k:V→Option R}:Tt tt o ρ h2 lim k=Tt tt o ρ h lim k:=by
  have e':∀i∈wh o ρ,DO lim i=true→h2.at i=h.at i∨((h2.at i = .tok∨h2.at i = .dead∨h2.at i = .free)∧(h.at i = .tok∨h.at i = .dead∨h.at i = .free)):=fun i hm hi=>P2 (e i hm hi)
  clear e
  cases o <;> simp only[Tt]
  case load t x =>
    split
    · rename_i i o hx
      split
      · rename_i hl
        rcases e' i (by simp[wh,hx,V.ids]) hl with h1|⟨h1|h1|h1,g2|g2|g2⟩ <;> (first|(simp only[h1,g2]; done)|(simp only[h1]; done)|rfl|(simp only[h1,g2]; (repeat' split) <;> first|rfl|contradiction|simp_all))
      · rfl
    · rfl
    · rename_i i _ _ _ hx
      split
      · rename_i hl
        rcases e' i (by simp[wh,hx,V.ids]) hl with h1|⟨h1|h1|h1,g2|g2|g2⟩ <;> (first|(simp only[h1,g2]; done)|(simp only[h1]; done)|(simp only[h1,g2]; (repeat' split) <;> first|rfl|contradiction|simp_all))
      · rfl
    · rfl
  case lookup t x ix ok =>
    split
    · rename_i kt vt i _ hx
      split
      · rename_i hl
        rcases e' i (by simp[wh,hx,V.ids]) hl with h1|⟨h1|h1|h1,g2|g2|g2⟩ <;> (first|simp only[h1,g2]|simp only[h1])
      · rfl
    · rfl
  case convert s d x =>
    split
    · rename_i i _ _ _ hx
      split
      · rename_i hl
        rcases e' i (by simp[wh,hx,V.ids]) hl with h1|⟨h1|h1|h1,g2|g2|g2⟩ <;> (first|(simp only[h1,g2]; done)|(simp only[h1]; done)|(simp only[h1,g2]; (repeat' split) <;> first|rfl|contradiction|simp_all))
      · rfl
    · rfl
    · rfl
    · rfl

def B1 (S:Option (Bool × List Nat)) (E:Env R) (all:List Oper) (tt:dB) (base:Nat) (x:Oper) (st Bz:St):Prop :=
  (∀t∈looks all x,Bz.fr.getD t .undef=st.fr.getD t .undef)∧(fj tt x.op = .R→∀i,i<base→(∀A,S=some (true,A)→Tv tt E all x=true→i∈A)→(∀A,S=some (false,A)→Na tt E all x=true→i∉A)→(Bz.hp.at i).rd=(st.hp.at i).rd)

def turns (tt:dB) (E:Env R) (o:Op):Prop:=(dU tt E o = .W∧o4 o=false)∨(dU tt E o = .F∧ml E o=false)

def Kept (S:Option (Bool × List Nat)) (tt:dB) (E:Env R) (all:List Oper) (base:Nat) (o:Oper) (h h':ay):Prop :=
  (∀i,i<base→(h'.at i).rd=(h.at i).rd)∨((turns tt E o.op∨(S.map (·.1)=some true∧o4 o.op=true))∧(dU tt E o.op = .F→∀A,S=some (true,A)→∀i∈A,(h'.at i).rd=(h.at i).rd)∧(kK all o=true→∀A,S=some (false,A)→∀i,i∉A→(h'.at i).rd=(h.at i).rd))

theorem qB {E:Env R} {o:Op} (h:fj tt o ≠ .C):dU tt E o=fj tt o:=by
  unfold dU
  split
  · rename_i hc; exact (h hc).elim
  · rfl

def calm (a:Cls):Bool:=match a with | .P | .R | .A=>true|_=>false

theorem ME {o:Op} {ρ ρ':Operand→V} (h:∀x∈o.operands,ρ' x=ρ x):wh o ρ'=wh o ρ:=by
  cases o <;> simp only[wh] <;> rw[h _ (by simp[Op.operands])]
theorem Lh {o:Op} {ρ ρ':Operand→V} (h:∀x∈o.operands,ρ' x=ρ x):A5 o ρ'=A5 o ρ:=by
  cases o <;> simp only[A5] <;> rw[h _ (by simp[Op.operands])]
theorem MF {o:Op} {ρ ρ':Operand→V} {hp:ay} (h:∀x∈o.operands,ρ' x=ρ x):mB o ρ' hp=mB o ρ hp:=by
  unfold mB
  split
  · rename_i cl
    split
    · rename_i f hf
      have e1:ρ' f=ρ f:=h f (by simp[Op.operands,Call.operands,hf])
      have e2:cl.args.toList.map ρ'=cl.args.toList.map ρ:=List.map_congr_left fun z hz=>h z (by simp[Op.operands,Call.operands]; exact .inr (by simpa using hz))
      rw[e1,e2]
    · rfl
  · rfl
theorem Nx {E:Env R} {base:Nat} {S:Option (Bool × List Nat)} {all:List Oper} {x:Oper} {fr Ul:List V} {hp:ay} (h:∀t∈looks all x,Ul.getD t .undef=fr.getD t .undef):Gl tt E base S all x (ev Ul) hp=Gl tt E base S all x (ev fr) hp:=by
  cases S with
  | none=>rfl
  | some A=>obtain ⟨m,A⟩:=A; cases m <;> simp only[Gl] <;> rw[ME (CG h),Lh (CG h)] <;> rw[MF (CG h)]
theorem V5 {E:Env R} {base:Nat} {S:Option (Bool × List Nat)} {all:List Oper} {x:Oper} {fr Ul:List V} {hp Vn:ay} (hc:calm (fj tt x.op)=true) (h:∀t∈looks all x,Ul.getD t .undef=fr.getD t .undef):Gl tt E base S all x (ev Ul) Vn=Gl tt E base S all x (ev fr) hp:=by
  rw[Nx (fr:=fr) h]
  cases S with
  | none=>rfl
  | some A =>
    obtain ⟨m,A⟩:=A
    cases m <;> simp only[Gl] <;> revert hc <;> cases fj tt x.op <;> simp[calm]

theorem SU {E:Env R} {S:Option (Bool × List Nat)} {base:Nat} {all:List Oper} {x:Oper} {id:Nat} {st:St} {k0:St→Option R} {r:R} (hc:calm (fj tt x.op)=true) (hk:one tt E S base all x id st k0=some r) :
    ∃e:SS,e.dst=x.dst∧(∀i ob,e.put=some (i,ob)→i=id∧fj tt x.op = .A)∧k0 (V4 st e)=some r∧∀Bz,B1 S E all tt base x st Bz→∀k,one tt E S base all x id Bz k=k (V4 Bz e):=by
  unfold one at hk ⊢
  -- the guard says the same
  have hgu:∀Bz,B1 S E all tt base x st Bz→∀(run skip:St→Option R),uY all x Bz run skip=uY all x st (fun _=>run Bz) (fun _=>skip Bz):=by
    intro Bz ha run skip
    obtain ⟨fr,hp⟩:=st
    obtain ⟨fr2,hp2⟩:=Bz
    exact Lf ha.1 rfl rfl
  have VR:∀run skip:St→Option R,(∀run' Lg:St→Option R,uY all x st run' Lg=run' st)∨(∀run' Lg:St→Option R,uY all x st run' Lg=Lg st)∨uY all x st run skip=none:=by
    intro run skip
    simp only[A2]
    cases x.guard with
    | none=>exact .inl fun _ _=>rfl
    | some jw =>
      obtain ⟨j,want⟩:=jw
      simp only
      cases (all[j]?).bind (·.dst)with
      | none=>exact .inr (.inr rfl)
      | some d =>
        simp only
        cases st.fr.getD d .undef with
        | bool b=>by_cases hb:b=want <;> simp[hb]
        | tuple vs =>
          cases vs with
          | nil=>exact .inr (.inl fun _ _=>rfl)
          | cons _ _=>exact .inr (.inr rfl)
        | _=>exact .inr (.inr rfl)
  rcases VR _ _ with hg|hg|hg
  · rw[hg]at hk
    obtain ⟨hS,hk⟩:Gl tt E base S all x (ev st.fr) st.hp=true∧yN tt E (Vk tt S base x) id x st k0=some r:=by
      cases hS:Gl tt E base S all x (ev st.fr) st.hp with
      | true=>rw[hS]at hk; exact ⟨rfl,hk⟩
      | false=>rw[hS]at hk; cases hk
    have hnW:fj tt x.op ≠ .W:=fun e=>by rw[e]at hc; cases hc
    rw[OD hnW]at hk ⊢
    have hS2:∀Bz,B1 S E all tt base x st Bz→Gl tt E base S all x (ev Bz.fr) Bz.hp=true:=fun Bz ha=>by rw[←hS]; exact V5 hc ha.1
    unfold yN at hk
    simp only at hk
    split at hk
    · rename_i Ba
      obtain ⟨v,h1,h2⟩:=Y3 hk
      refine ⟨⟨x.dst,v,none⟩,rfl,by simp,h1,fun Bz ha k => ?_⟩
      rw[hgu Bz ha,hg,hS2 Bz ha,cond_true]
      simp only[yN,Ba]
      rw[Np (CG ha.1),h2]
      rfl
    · rename_i Ba
      obtain ⟨v,h1,h2⟩:=Y5 hk
      refine ⟨⟨x.dst,v,none⟩,rfl,by simp,h1,fun Bz ha k => ?_⟩
      rw[hgu Bz ha,hg,hS2 Bz ha,cond_true]
      simp only[yN,Ba]
      rw[Nq (CG ha.1),P8 (h:=st.hp) fun i hm hi=>ha.2 Ba i (by simpa [DO]using hi) (fun A hA hf => ?_) fun A hA hf => ?_,h2 _ fun i hi=>rfl]
      · rfl
      · subst hA
        simp only[Gl,Ba,hf,Bool.not_true,Bool.false_or,List.all_eq_true]at hS
        simpa using hS i hm
      · subst hA
        simp only[Gl,Ba,hf,Bool.not_true,Bool.false_or,List.all_eq_true]at hS
        simpa using hS i hm
    · rename_i Ba
      obtain ⟨ob,mk,h1,h2⟩:=Y6 hk
      refine ⟨⟨x.dst,mk id,some (id,ob)⟩,rfl,by simp[Ba],h1,fun Bz ha k => ?_⟩
      rw[hgu Bz ha,hg,hS2 Bz ha,cond_true]
      simp only[yN,Ba]
      rw[Nr (CG ha.1),h2]
      rfl
    all_goals (rename_i Ba; rw[Ba]at hc; cases hc)
  · rw[hg]at hk
    refine ⟨⟨x.dst, .tuple [],none⟩,rfl,by simp,hk,fun Bz ha k => ?_⟩
    rw[hgu Bz ha,hg]
    rfl
  · rw[hg]at hk; cases hk

theorem apart_spec {all:List Oper} {x y:Oper} (h:xE all x y=true) :
    (∀d,x.dst=some d→d∉looks all y)∧(∀d,x.dst=some d→y.dst≠some d)∧(∀d,y.dst=some d→d∉looks all x):=by
  refine ⟨fun d hd => ?_,fun d hd => ?_,fun d hd => ?_⟩ <;> simp[xE,hd]at h
  · exact h.1.1
  · exact h.1.2
  · exact h.2

theorem Dh {fr:List V} {c:Value} {g:Nat} {a b:List V} (h:ev fr (.const c) = .func g a b):False:=by
  simp only[ev]at h
  unfold ofConst at h
  split at h
  · cases h
  · unfold En at h
    split at h <;> (try split at h) <;> cases h


theorem Gy {i:Nat}:∀(n:Nat) (todo seen:List Nat),i∈seen→i∈reach h n todo seen
  | 0,_,_,hi=>hi
  | _+1, [],_,hi=>hi
  | n+1,j::todo,seen,hi=>by
    unfold reach
    split
    · exact Gy n _ _ hi
    · exact Gy n _ _ (by simp[hi])
theorem Fh {i:Nat} {ob:bR}:∀(n:Nat) (todo seen:List Nat),i∉reach h n todo seen→reach (h.set i ob) n todo seen=reach h n todo seen
  | 0,_,_,_=>rfl
  | _+1, [],_,_=>rfl
  | n+1,j::todo,seen,hi=>by
    unfold reach at hi ⊢
    split
    · rename_i hc
      rw[if_pos hc]at hi
      exact Fh n _ _ hi
    · rename_i hc
      rw[if_neg hc]at hi
      have lp:i≠j:=by
        rintro rfl
        exact hi (Gy n _ _ (by simp))
      rw[cP _ lp]
      exact Fh n _ _ hi
theorem set_set {i:Nat} {ob:bR}:(h.set i ob).set i (h.at i)=h:=by
  rw[List.set_set]
  apply List.ext_getElem?
  intro j
  rw[List.getElem?_set]
  split
  · rename_i e
    subst e
    split
    · rename_i hl
      simp[ay.at,List.getD,List.getElem?_eq_getElem hl]
    · rename_i hl
      exact (List.getElem?_eq_none (by omega)).symm
  · rfl
theorem Ju {o:Op} {ρ:Operand→V} {i:Nat} {ob:bR} (hi:i∉mB o ρ h):mB o ρ (h.set i ob)=mB o ρ h:=by
  unfold mB at hi ⊢
  split at hi <;> try rfl
  split at hi <;> try rfl
  split at hi <;> try rfl
  exact Fh _ _ _ hi
theorem OE {o:Op} {ρ:Operand→V} {i:Nat} {ob:bR} (hi:i∉mB o ρ (h.set i ob)):mB o ρ (h.set i ob)=mB o ρ h:=by
  have h1:=Ju (ob:=h.at i) hi
  rw[set_set]at h1
  exact h1.symm
theorem V6 {i:Nat} {ob:bR} {ord:List Nat} (hi:i∉ord):ay.pick (h.set i ob) ord=h.pick ord:=by
  unfold ay.pick
  refine List.map_congr_left fun j hj => ?_
  rw[cP _ (by rintro rfl; exact hi hj)]
theorem Li {i:Nat} {ob:bR}:∀(l:List (Nat × bR)) (h:ay),(∀x∈l,x.1≠i)→ay.zk (h.set i ob) l=(ay.zk h l).set i ob
  | [],_,_=>rfl
  | x::l,h,hl=>by
    simp only[ay.zk]
    rw[List.set_comm _ _ (Ne.symm (hl x (by simp)))]
    exact Li l _ fun y hy=>hl y (by simp[hy])
theorem V7 {i:Nat} {ob:bR} {ord:List Nat} (hi:i∉ord) (hl:i<h.length) (h':ay):ay.back (h.set i ob) ord h'=(h.back ord h').set i ob:=by
  unfold ay.back
  simp only[List.length_set]
  rw[Li _ _ fun x hx=>by
    have:=(List.of_mem_zip hx).1
    rintro rfl
    exact hi this]
  rw[List.set_append_left _ _ (by rw[fH]; exact hl)]
theorem Um {E:Env R} {cl:Call} (hp:nU E (.call cl)=false) (hs:ml E (.call cl)=false) {full:Bool} {fr:List V} {i:Nat} {ob:bR} (hi:i∉mB (.call cl) (ev fr) h) (hl:i<h.length) {k:V→ay→Option R} :
    xy tt E full cl (ev fr) (h.set i ob) k=xy tt E full cl (ev fr) h fun v h'=>k v (h'.set i ob):=by
  unfold xy
  split
  · rename_i f hf
    split
    · rename_i g first cap hg
      simp only
      have Lb:mB (.call cl) (ev fr) h=reach h 64 (V.sc (first++cl.args.toList.map (ev fr)++cap)) []:=by simp only[mB,hf,hg]
      rw[Lb]at hi
      split
      · exfalso
        rename_i Ox
        cases f with
        | tmp t=>simp[nU,hf]at hp
        | func g' =>
          simp only[ev,V.func.injEq]at hg
          obtain ⟨rfl,_,_⟩:=hg
          simp[nU,hf,Ox]at hp
        | const c=>exact Dh hg
        | global _=>simp[ev]at hg
      · rename_i sp Ox
        cases full
        · rfl
        · simp only[cond_true]
          cases hg0:oq.soft g with
          | true =>
            exfalso
            cases f with
            | tmp t=>simp[nU,hf]at hp
            | func g' =>
              simp only[ev,V.func.injEq]at hg
              obtain ⟨rfl,_,_⟩:=hg
              simp[ml,hf,hg0,Ox]at hs
            | const c=>exact Dh hg
            | global _=>simp[ev]at hg
          | false =>
            simp only[cond_false]
            rw[Fh _ _ _ hi,V6 hi]
            congr 1
            funext v h'
            rw[V7 hi hl,List.length_set]
      · rfl
    · rfl
  · rfl

theorem P9 {E:Env R} {cl:Call} {full:Bool} {ρ ρ':Operand→V} (hop:∀z∈cl.operands,ρ' z=ρ z) {k:V→ay→Option R}:xy tt E full cl ρ' h k=xy tt E full cl ρ h k:=by
  have SV:cl.args.toList.map ρ'=cl.args.toList.map ρ:=List.map_congr_left fun z hz=>hop z (by simp[Call.operands]; exact .inr (by simpa using hz))
  unfold xy
  split
  · rename_i f hf
    rw[hop f (by simp[Call.operands,hf]),SV]
  · rfl

theorem SW {E:Env R} {S:Option (Bool × List Nat)} {base:Nat} {all:List Oper} {x y:Oper} {e:SS} {ix id:Nat} (El:FY (dU tt E x.op) (dU tt E y.op)=true∨(o4 y.op=true∧S.map (·.1)≠some true∧(bZ tt x=true→id<ix))∨(fj tt x.op = .R∧o4 y.op=true)∨(fj tt x.op = .R∧ml E y.op=true)∨(fj tt x.op = .R∧dU tt E y.op = .F)∨(fj tt x.op = .A∧S.map (·.1)=some true∧dU tt E y.op = .F∧ml E y.op=false)∨(fj tt x.op = .R∧fj tt y.op = .W)) (hap:xE all x y=true) (hc:calm (fj tt x.op)=true) (he:e.dst=x.dst)
    (Qa:∀i ob,e.put=some (i,ob)→i=ix∧fj tt x.op = .A) (hid:bZ tt x=true→bZ tt y=true→ix≠id) (hb:bZ tt x=true→base≤ix) (ht:bZ tt x=true→ix<base+(all.filter (bZ tt)).length) (st:St) (k:St→Option R) :
    one tt E S base all y id (V4 st e) k=one tt E S base all y id st fun II=>k (V4 II e):=by
  obtain ⟨a1,a2,a3⟩:=apart_spec hap
  have hl:∀t∈looks all y,(mj st.fr e.dst e.v).getD t .undef=st.fr.getD t .undef:=fun t ht=>Nw fun h=>a1 t (he▸h) ht
  have Jv:∀u,mj (mj st.fr e.dst e.v) y.dst u=mj (mj st.fr y.dst u) e.dst e.v:=fun u=>Uk fun d hd=>a2 d (he▸hd)
  obtain ⟨fr,Un⟩:=st
  simp only at hl Jv
  have hokS:Gl tt E base S all y (ev (mj fr e.dst e.v)) (e.hp Un)=Gl tt E base S all y (ev fr) Un:=by
    rw[Nx hl]
    match S,El with
    | none,_=>rfl
    | some (false,A),_=>simp only[Gl]
    | some (true,A),El =>
      simp only[Gl]
      split
      · rfl
      · rename_i Bb
        cases hf:Vj tt E y.op with
        | false=>rfl
        | true =>
          have hF:dU tt E y.op = .F:=by revert hf; unfold Vj; cases dU tt E y.op <;> simp
          cases hq:e.put with
          | none=>simp only[SS.hp,hq]
          | some jo =>
            obtain ⟨j,ob⟩:=jo
            obtain ⟨rfl,hA⟩:=Qa j ob hq
            have YE:o4 y.op=true→False:=fun ha=>by rw[B0 ha]at Bb; cases Bb
            rcases El with El|⟨h,_⟩|⟨_,h⟩|⟨h,_⟩|⟨h,_⟩|⟨_,_,_,hsf⟩|⟨h,_⟩
            · rw[qB (by rw[hA]; simp),hF,hA]at El
              cases El
            · exact (YE h).elim
            · exact (YE h).elim
            · rw[hA]at h; cases h
            · rw[hA]at h; cases h
            · simp only[SS.hp,hq,hsf,Bool.not_true,Bool.false_or,List.length_set]
              have hbj:=hb (by simp[bZ,hA])
              by_cases hm:j∈mB y.op (ev fr) Un
              · have YV:j∈mB y.op (ev fr) (Un.set j ob):=by
                  by_cases YV:j∈mB y.op (ev fr) (Un.set j ob)
                  · exact YV
                  · rw[OE YV]; exact hm
                have PH:∀l:List Nat,j∈l→l.all (fun i=>Nat.blt i base)=false:=fun l hl=>by
                  rw[List.all_eq_false]
                  exact ⟨j,hl,by simpa using hbj⟩
                rw[PH _ hm,PH _ YV]
                simp
              · rw[Ju hm]
            · rw[hA]at h; cases h
      · rfl
      · rfl
  unfold one
  refine Lf hl ?_ ?_
  · simp only[V4]
    rw[hokS]
    cases hS:Gl tt E base S all y (ev fr) Un with
    | false=>rfl
    | true =>
    simp only[cond_true]
    unfold yN
    simp only
    split
    · rw[Np (CG hl)]
      simp only[Jv]
    · rename_i Bb
      rw[OD (by rw[Bb]; simp),Nq (CG hl),P8 (h:=Un)]
      · simp only[Jv]
      · intro i _ hi
        unfold SS.hp
        split
        · rfl
        · rename_i j ob hj
          obtain ⟨rfl,hA⟩:=Qa _ _ hj
          have:=hb (by simp[bZ,hA])
          simp[DO]at hi
          rw[cP _ (by omega)]
    · rename_i Bb
      rw[Nr (CG hl)]
      simp only[Jv]
      congr 1
      funext ob mk
      congr 2
      unfold SS.hp
      split
      · rfl
      · rename_i j ob' hj
        obtain ⟨rfl,hA⟩:=Qa _ _ hj
        exact List.set_comm _ _ (hid (by simp[bZ,hA]) (by simp[bZ,Bb]))
    · rename_i Bb
      rw[OA (CG hl)]
      cases RI:((Vk tt S base y).isSome && !uX y.op (ev fr) id)with
      | true=>rfl
      | false =>
        simp only[cond_false]
        cases hq:e.put with
        | none =>
          rw[Ns (CG hl)]
          simp only[Jv,SS.hp,hq]
        | some jo =>
          obtain ⟨j,ob⟩:=jo
          obtain ⟨rfl,hA⟩:=Qa j ob hq
          have hy:o4 y.op=true∧S.map (·.1)≠some true∧id<j:=by
            rcases El with h|⟨h,h3,h2⟩|⟨h,_⟩|⟨h,_⟩|⟨h,_⟩|⟨_,_,h,_⟩|⟨h,_⟩
            · rw[qB (by rw[hA]; simp),qB (by rw[Bb]; simp),hA,Bb]at h; cases h
            · exact ⟨h,h3,h2 (by simp[bZ,hA])⟩
            · rw[hA]at h; cases h
            · rw[hA]at h; cases h
            · rw[hA]at h; cases h
            · rw[qB (by rw[Bb]; simp),Bb]at h; cases h
            · rw[hA]at h; cases h
          rw[Ns (CG hl)]
          simp only[Jv,SS.hp,hq]
          have V8:uX y.op (ev fr) id=true:=by rw[P7 hy.2.1]at RI; simpa using RI
          exact Y8 hy.1 V8 hy.2.2
    · rename_i Bb
      rw[OD (by rw[Bb]; simp)]
      split
      · rename_i cl Ze
        simp only[Jv]
        have hop:∀z∈cl.operands,ev (mj fr e.dst e.v) z=ev fr z:=fun z hz=>CG hl z (by rw[Ze]; exact hz)
        have SV:cl.args.toList.map (ev (mj fr e.dst e.v))=cl.args.toList.map (ev fr):=List.map_congr_left fun z hz=>hop z (by simp[Call.operands]; exact .inr (by simpa using hz))
        cases Vl:nU E y.op with
        | true =>
          have V9:(Option.isNone (some base) || !true)=false:=rfl
          rw[Ze]at Vl
          rw[V9]
          unfold xy
          split
          · rename_i f hf
            rw[hop f (by simp[Call.operands,hf]),SV]
            split
            · split
              · simp only[cond_false]
              · rfl
              · rfl
            · rfl
          · rfl
        | false =>
          have hF:dU tt E y.op = .F:=by unfold dU; rw[Bb]; simp[Vl]
          rw[P9 hop]
          cases hq:e.put with
          | none =>
            have hh2:∀h2,e.hp h2=h2:=fun h2=>by simp[SS.hp,hq]
            simp only[hh2]
          | some jo =>
            obtain ⟨j,ob⟩:=jo
            obtain ⟨rfl,hA⟩:=Qa j ob hq
            have YE:o4 y.op=true→False:=fun ha=>by rw[B0 ha]at Bb; cases Bb
            rcases El with El|⟨h,_⟩|⟨_,h⟩|⟨h,_⟩|⟨h,_⟩|⟨_,h2,_,hsf⟩|⟨h,_⟩
            · rw[qB (by rw[hA]; simp),hF,hA]at El
              cases El
            · exact (YE h).elim
            · exact (YE h).elim
            · rw[hA]at h; cases h
            · rw[hA]at h; cases h
            · have hh2:∀h2,e.hp h2=h2.set j ob:=fun h2=>by simp[SS.hp,hq]
              simp only[hh2]
              have hif:Vj tt E y.op=true:=by unfold Vj; rw[hF]
              match S,h2,hS with
              | some (true,A),_,hS =>
                simp only[Gl,Bb,hif,hsf,Bool.not_true,Bool.false_or,Bool.and_eq_true,List.all_eq_true]at hS
                have hbj:=hb (by simp[bZ,hA])
                have htj:=ht (by simp[bZ,hA])
                have h3:base+(all.filter (bZ tt)).length≤Un.length:=by simpa using hS.1.1
                rw[Ze]at Vl hsf
                refine Um Vl hsf (fun hm => ?_) (by omega)
                have h4:=hS.1.2 j (by rw[Ze]; exact hm)
                simp at h4
                omega
            · rw[hA]at h; cases h
      · rfl
    · rfl
    · rfl
  · simp only[V4,Jv]

theorem RL {E:Env R} (hE:po P E) {cl:Call} (hs:ml E (.call cl)=true) {full:Bool} {fr:List V} {k k':V→ay→Option R} (he:∀v,k v h=k' v h) :
    xy tt E full cl (ev fr) h k=xy tt E full cl (ev fr) h k':=by
  unfold ml at hs
  simp only at hs
  split at hs
  · rename_i g hg
    simp only[Bool.and_eq_true]at hs
    obtain ⟨h1,h2⟩:=hs
    split at h2
    · rename_i sp Ox
      unfold xy
      simp only[hg,ev,Ox,h1]
      cases full
      · rfl
      · simp only[cond_true]
        exact (hE g _ sp Ox).2 rfl h1 _ _ _ _ he
    · cases h2
  · cases hs

theorem RM {E:Env R} {cl:Call} (hp:nU E (.call cl)=false) (hs:ml E (.call cl)=false) {full:Bool} {fr:List V} {k k':V→ay→Option R}
    (he:∀v h',(∀i,i<h.length→i∉mB (.call cl) (ev fr) h→h'.at i=h.at i)→k v h'=k' v h') (h0:∀v,k v h=k' v h):xy tt E full cl (ev fr) h k=xy tt E full cl (ev fr) h k':=by
  unfold xy
  split
  · rename_i f hf
    split
    · rename_i g first cap hg
      simp only
      split
      · split
        · congr 1
          funext v h'
          cases h' with
          | nil=>exact h0 v
          | cons _ _=>rfl
        · cases full
          · rfl
          · simp only[cond_true]
            unfold Vy
            split
            · congr 1
              funext v h'
              cases h' with
              | nil=>simp only[h0]
              | cons _ _=>rfl
            · rfl
      · rename_i sp Ox
        cases full
        · rfl
        · simp only[cond_true]
          cases hg0:oq.soft g with
          | true =>
            exfalso
            cases f with
            | tmp t=>simp[nU,hf]at hp
            | func g' =>
              simp only[ev,V.func.injEq]at hg
              obtain ⟨rfl,_,_⟩:=hg
              simp[ml,hf,hg0,Ox]at hs
            | const c=>exact Dh hg
            | global _=>simp[ev]at hg
          | false =>
            simp only[cond_false]
            congr 1
            funext v h'
            refine he _ _ fun i hi hn => ?_
            unfold ay.back
            simp only
            rw[kN (by rw[fH]; exact hi)]
            refine Df _ _ _ ?_
            simpa only[mB,hf,hg]using hn
      · rfl
    · rfl
  · rfl

theorem A3 {all:List Oper} {x:Oper} (h:kK all x=true∨qz all x=true):∃t a y,x.op = .store t a y∧x.dst=none∧x.guard=none:=by
  rcases h with h|h
  · unfold kK at h
    split at h
    · rename_i ho
      simp only[Bool.and_eq_true,Option.isNone_iff_eq_none]at h
      exact ⟨_,_,_,ho,h.1.1,h.1.2⟩
    · cases h
  · unfold qz at h
    split at h
    · rename_i ho
      simp only[Bool.and_eq_true,Option.isNone_iff_eq_none]at h
      exact ⟨_,_,_,ho,h.1.1,h.1.2⟩
    · cases h
theorem Fi {all:List Oper} {x y:Oper} (h:Rb all x y=true):(kK all x=true∧qz all y=true)∨(qz all x=true∧kK all y=true):=by
  simpa only[Rb,Bool.or_eq_true,Bool.and_eq_true]using h
theorem CH {all:List Oper} {x y:Oper} (h:Rb all x y=true):fj tt x.op = .W∧fj tt y.op = .W:=by
  have h1:∀z,kK all z=true∨qz all z=true→fj tt z.op = .W:=fun z hz=>by
    obtain ⟨t,a,y,e,_⟩:=A3 hz
    rw[e]; rfl
  rcases Fi h with ⟨h2,h3⟩|⟨h2,h3⟩
  · exact ⟨h1 _ (.inl h2),h1 _ (.inr h3)⟩
  · exact ⟨h1 _ (.inr h2),h1 _ (.inl h3)⟩
theorem Jw (t:Nat) (a y:Operand) (ρ:Operand→V) (h:ay) (id:Nat) :
    (∀k:V→ay→Option R,Kk tt (.store t a y) ρ h id k=none)∨∃i ob,i∈(ρ a).ids∧∀(h2:ay) (YF:Nat) (k:V→ay→Option R),h2.at i=h.at i→Kk tt (.store t a y) ρ h2 YF k=k .undef (h2.set i ob):=by
  simp only[Kk]
  cases hvs:M8 (ρ y)with
  | none=>exact .inl fun k=>rfl
  | some vs =>
  simp only
  by_cases hc:(tt.ok t&&decide (vs.length=(tt.at t).size))=true
  rotate_left
  · exact .inl fun k=>by rw[if_neg hc]
  simp only[hc,if_true]
  cases hx:ρ a with
  | ptr i o =>
    simp only
    cases hi:h.at i with
    | cells cs =>
      by_cases hle:o+vs.length≤cs.length
      · exact .inr ⟨i, .cells (zn cs o vs),by simp[V.ids],fun h2 YF k e=>by simp only[e,hi,hle,if_true]⟩
      · exact .inl fun k=>by simp only[hle,if_false]
    | kq bv =>
      match o,vs with
      | 1, [v]=>exact .inr ⟨i, .kq v,by simp[V.ids],fun h2 YF k e=>by simp only[e,hi]⟩
      | 0,_=>exact .inl fun k=>rfl
      | 1, []=>exact .inl fun k=>rfl
      | 1,_::_::_=>exact .inl fun k=>rfl
      | _+2,_=>exact .inl fun k=>rfl
    | _=>exact .inl fun k=>rfl
  | sN i sz j o =>
    simp only
    cases hi:h.at i with
    | row T l =>
      by_cases p6:sz=T.sz
      · by_cases hle:o+vs.length≤(T.cells (l.getD j T.cg)).length
        · cases hz:T.dec (zn (T.cells (l.getD j T.cg)) o vs)with
          | none=>exact .inl fun k=>by simp only[p6,hle,if_true,hz]
          | some z =>
            by_cases hj:j<l.length
            · exact .inr ⟨i, .row T (l.set j z),by simp[V.ids],fun h2 YF k e=>by simp only[e,hi,p6,hle,if_true,hz,cR,hj,decide_true,cond_true]⟩
            · exact .inl fun k=>by simp only[p6,hle,if_true,hz,cR,hj,decide_false,cond_false]
        · exact .inl fun k=>by simp only[p6,hle,if_true,if_false]
      · exact .inl fun k=>by simp only[p6,if_false]
    | _=>exact .inl fun k=>rfl
  | _=>exact .inl fun k=>rfl
theorem Uo {t:Nat} {a y:Operand} {ρ:Operand→V} {id:Nat} {k0:V→ay→Option R} {r:R} (hk:Kk tt (.store t a y) ρ h id k0=some r) :
    ∃i ob,i∈(ρ a).ids∧k0 .undef (h.set i ob)=some r∧∀(h2:ay) (YF:Nat) (k:V→ay→Option R),h2.at i=h.at i→Kk tt (.store t a y) ρ h2 YF k=k .undef (h2.set i ob):=by
  rcases Jw (tt:=tt) (R:=R) t a y ρ h id with h1|⟨i,ob,h1,h2⟩
  · rw[h1]at hk; cases hk
  · rw[h2 h id k0 rfl]at hk
    exact ⟨i,ob,h1,hk,h2⟩

theorem IJ {E:Env R} (hE:po P E) {S:Option (Bool × List Nat)} {base:Nat} {all:List Oper} {y:Oper} {id:Nat} {st:St} {k k':St→Option R} (hb:bZ tt y=true→base≤id)
    (h:∀v Vn,Kept S tt E all base y st.hp Vn→k ⟨mj st.fr y.dst v,Vn⟩=k' ⟨mj st.fr y.dst v,Vn⟩):one tt E S base all y id st k=one tt E S base all y id st k':=by
  have h0:∀v,k ⟨mj st.fr y.dst v,st.hp⟩=k' ⟨mj st.fr y.dst v,st.hp⟩:=fun v=>h v _ (.inl fun _ _=>rfl)
  obtain ⟨fr,Un⟩:=st
  unfold one
  refine Lf (fun _ _=>rfl) ?_ (h0 _)
  cases hS:Gl tt E base S all y (ev fr) Un with
  | false=>rfl
  | true =>
  simp only[cond_true]
  unfold yN
  simp only at h h0 ⊢
  split
  · simp only[h0]
  · simp only[h0]
  · rename_i Bb
    congr 1
    funext ob mk
    refine h _ _ (.inl fun i hi => ?_)
    have:=hb (by simp[bZ,Bb])
    rw[cP _ (by omega)]
  · rename_i Bb
    have hbi:=hb (by simp[bZ,Bb])
    cases RI:((Vk tt S base y).isSome && !uX y.op (ev fr) id)with
    | true=>rfl
    | false =>
      simp only[cond_false]
      by_cases ha:o4 y.op=true
      · by_cases Wa:S.map (·.1)=some true
        · congr 1
          funext v h'
          refine h v h' (.inr ⟨.inr ⟨Wa,ha⟩,fun hF => ?_,fun hv => ?_⟩)
          · rw[qB (by rw[Bb]; simp),Bb]at hF; cases hF
          · obtain ⟨t,a,z,ey,_⟩:=A3 (.inl hv)
            rw[ey]at ha; cases ha
        have V8:uX y.op (ev fr) id=true:=by rw[P7 Wa]at RI; simpa using RI
        exact P6 ha V8 fun v h' hrd=>h v h' (.inl fun i hi=>hrd i (by omega))
      · have htu:turns tt E y.op := .inl ⟨by rw[qB (by rw[Bb]; simp),Bb],by simpa using ha⟩
        have hnF:dU tt E y.op ≠ .F:=fun hF=>by rw[qB (by rw[Bb]; simp),Bb]at hF; cases hF
        by_cases hv:kK all y=true
        · obtain ⟨t,a,z,ey,_,_⟩:=A3 (.inl hv)
          rw[ey]
          rcases Jw (tt:=tt) (R:=R) t a z (ev fr) Un id with h1|⟨i,ob,h1,h2⟩
          · rw[h1,h1]
          · rw[h2 Un id _ rfl,h2 Un id _ rfl]
            refine h _ _ (.inr ⟨.inl htu,fun hF=>(hnF hF).elim,fun _ A hA j hj => ?_⟩)
            subst hA
            simp only[Gl,Bb,hv,Bool.not_true,Bool.false_or,List.all_eq_true]at hS
            have h3:=hS i (by rw[ey]; exact h1)
            rw[cP _ (by rintro rfl; exact hj (by simpa using h3))]
        · congr 1
          funext v h'
          exact h v h' (.inr ⟨.inl htu,fun hF=>(hnF hF).elim,fun hv2=>(hv hv2).elim⟩)
  · rename_i Bb
    rw[OD (by rw[Bb]; simp)]
    split
    · rename_i cl El
      cases Vl:nU E y.op with
      | true =>
        have V9:(Option.isNone (some base) || !true)=false:=rfl
        rw[V9]
        unfold xy
        split
        · split
          · split
            · simp only
              split
              · congr 1
                funext v h'
                cases h' with
                | nil=>exact h0 v
                | cons _ _=>rfl
              · rfl
            · rfl
            · rfl
          · rfl
        · rfl
      | false =>
        have hF:dU tt E y.op = .F:=by unfold dU; rw[Bb]; simp[Vl]
        cases hs:ml E y.op with
        | true=>exact RL hE (by rw[←El]; exact hs) fun v=>h0 v
        | false =>
          have htu:turns tt E y.op := .inr ⟨hF,hs⟩
          refine RM (by rw[El]at Vl; exact Vl) (by rw[El]at hs; exact hs) (fun v h' hh=>h v h' (.inr ⟨.inl htu,fun _ A hA => ?_,fun hv => ?_⟩)) fun v=>h0 v
          rotate_left
          · obtain ⟨t,a,z,ey,_⟩:=A3 (.inl hv)
            rw[ey]at El; cases El
          subst hA
          have hif:Vj tt E y.op=true:=by unfold Vj; rw[hF]
          simp only[Gl,Bb,hif,hs,Bool.not_true,Bool.false_or,List.all_eq_true,Bool.and_eq_true]at hS
          intro i hi
          have h1:=hS.2 i hi
          rw[El]at h1
          rw[hh i (by simpa using h1.1) (by simpa using h1.2)]
    · rfl
  · rfl
  · rfl
end

section
variable {P:Program} {tt:dB} {w w':World} {h h':ay} {c c':jZ} {R:Type}

theorem Wb {o:Oper} {a:Act} {G:Prop} (h:o.wp P a w (fun _ _=>G) (fun _ _ _=>G)):G:=by
  unfold Oper.wp at h
  generalize (execOp a.eval o).run P w=r at h
  cases r with
  | ok n w' =>
    cases n <;> simp only[Oper.upon]at h <;> try (first|exact h|exact h.elim)
    · obtain ⟨e,w',fr,hR,_⟩:=h []
      cases e with
      | returned v=>exact hR
      | panicked c=>exact hR
      | outgrown=>obtain ⟨_,_,g⟩:=hR; exact g
    · obtain ⟨v,w',g,_⟩:=h (Frame.enter P 0 #[] .normal) []
      exact g
  | halt x w'=>cases x <;> simp only[Oper.upon]at h <;> first|exact h|exact h.elim

theorem Up (T:xh P tt) {E:Env R} (hE:po P E) {S:Option (Bool × List Nat)} {base:Nat} {ops:Array Oper} {y:Oper} {id:Nat} {st:St} {a:Act} {k:St→Option R} {r:R} (hk:one tt E S base ops.toList y id st k=some r) (ir:Gw w c st a)
    (hid:bZ tt y=true→base≤id∧id<st.hp.length∧st.hp.at id = .free) :
    ∃w1 c1 II a1 v,Gw w1 c1 II a1∧k II=some r∧II.fr=mj st.fr y.dst v∧Kept S tt E ops.toList base y st.hp II.hp∧th (bZ tt y) id st.hp II.hp:=by
  classical
  obtain ⟨k',rX,hof⟩:∃k':St→Option R,one tt E S base ops.toList y id st k'=some r∧∀II,k' II=some r→k II=some r∧Kept S tt E ops.toList base y st.hp II.hp:=by
    refine ⟨fun II=>if Kept S tt E ops.toList base y st.hp II.hp then k II else none,?_,fun II e => ?_⟩
    · rw[←hk]
      refine IJ hE (fun ha=>(hid ha).1) fun v Vn ht => ?_
      rw[if_pos ht]
    · simp only at e
      split at e
      · exact ⟨e, ‹_›⟩
      · cases e
  rcases Dg ir rX with ⟨_,hk⟩|⟨_,hk⟩
  · have hk:yN tt E (Vk tt S base y) id y st k'=some r:=by
      cases hS:Gl tt E base S ops.toList y (ev st.fr) st.hp with
      | true=>rw[hS]at hk; exact hk
      | false=>rw[hS]at hk; cases hk
    refine Wb (P:=P) (o:=y) (a:=a) (w:=w) (Ey T hE hk ir (fun ha=>(hid ha).2) fun d w' sO c' v RJ x kp hf _ _ rX => ?_)
    exact ⟨w',c',sO,_,v,RJ,(hof _ rX).1,hf,(hof _ rX).2,kp⟩
  · exact ⟨w,c,⟨mj st.fr y.dst (.tuple []),st.hp⟩,a.put y.dst undef, .tuple [],⟨ir.wf,Ac ir.fr _ IH⟩,(hof _ hk).1,rfl, .inl fun _ _=>rfl, .refl _ _ _⟩

structure Good (tt:dB) (base n:Nat) (rem:List vE) (h:ay):Prop where
  top:∀z∈rem,bZ tt z.2.1=true→z.2.2<base+n
  slot:∀z∈rem,bZ tt z.2.1=true→base≤z.2.2∧z.2.2<h.length∧h.at z.2.2 = .free
  apart:rem.Pairwise fun z z'=>bZ tt z.2.1=true→bZ tt z'.2.1=true→z.2.2<z'.2.2

theorem Good.sub {base n:Nat} {rem rem':List vE} (g:Good tt base n rem h) (hs:List.Sublist rem' rem):Good tt base n rem' h :=
  ⟨fun z hz=>g.top z (hs.subset hz),fun z hz=>g.slot z (hs.subset hz),g.apart.sublist hs⟩

theorem Good.step {base n:Nat} {x:vE} {pre post:List vE} (g:Good tt base n (pre++x::post) h) (kp:th (bZ tt x.2.1) x.2.2 h h'):Good tt base n (pre++post) h':=by
  have hs:List.Sublist (pre++post) (pre++x::post):=List.Sublist.append (List.Sublist.refl _) (List.sublist_cons_self _ _)
  refine ⟨fun z hz=>g.top z (hs.subset hz),fun z hz ha => ?_,g.apart.sublist hs⟩
  obtain ⟨h1,h2,h3⟩:=g.slot z (hs.subset hz) ha
  refine ⟨h1,Nat.lt_of_lt_of_le h2 kp.1,kp.2 _ (fun hx => ?_) h2 h3⟩
  have hp:=g.apart
  rw[List.pairwise_append,List.pairwise_cons]at hp
  rcases List.mem_append.1 hz with hz|hz
  · have:=hp.2.2 z hz x (by simp) ha hx; omega
  · have:=hp.2.1.1 z hz hx ha; omega

theorem Lj {all:List Oper} {x y:Oper} (h2:xE all x y=true):xE all y x=true:=by
  obtain ⟨a1,a2,a3⟩:=apart_spec h2
  simp only[xE,Bool.and_eq_true]
  constructor
  · cases hd:y.dst with
    | none=>rfl
    | some d =>
      have h3:=a3 d hd
      have h4:x.dst≠some d:=fun e=>a2 d e hd
      simp[h3,h4]
  · cases hd:x.dst with
    | none=>rfl
    | some d=>simp[a1 d hd]
theorem Lk {a b:Cls} (h:FY a b=true):FY b a=true:=by revert h; cases a <;> cases b <;> simp[FY]
theorem A4 {E:Env R} {all:List Oper} {x y:Oper} (h:Ir tt E all x y=true):xE all x y=true ∧
    (FY (dU tt E x.op) (dU tt E y.op)=true∨(o4 x.op=true∧(dU tt E y.op = .A∨dU tt E y.op = .R))∨(dU tt E x.op = .R∧o4 y.op=true)∨(ml E x.op=true∧dU tt E y.op = .R)∨(dU tt E x.op = .R∧ml E y.op=true)):=by
  simp only[Ir,Bool.and_eq_true,Bool.or_eq_true,tokPair]at h
  obtain ⟨h1,h2⟩:=h
  refine ⟨h2,?_⟩
  rcases h1 with h1|(⟨h1,h3⟩|⟨h1,h3⟩)|(⟨h1,h3⟩|⟨h1,h3⟩)
  · exact .inl h1
  · refine .inr (.inl ⟨h1,?_⟩)
    revert h3; cases dU tt E y.op <;> simp
  · refine .inr (.inr (.inl ⟨?_,h3⟩))
    revert h1; cases dU tt E x.op <;> simp
  · refine .inr (.inr (.inr (.inl ⟨h1,?_⟩)))
    revert h3; cases dU tt E y.op <;> simp
  · refine .inr (.inr (.inr (.inr ⟨?_,h3⟩)))
    revert h1; cases dU tt E x.op <;> simp
theorem Qb {E:Env R} {o:Op} (h:Vj tt E o=true):dU tt E o = .F:=by revert h; unfold Vj; cases dU tt E o <;> simp
theorem Wc {E:Env R} {all:List Oper} {x:Oper} (h:Tv tt E all x=true):dU tt E x.op = .R:=by
  simp only[Tv,Bool.and_eq_true]at h
  revert h
  cases dU tt E x.op <;> simp
theorem Uq {E:Env R} {all:List Oper} {x:Oper} (h:Na tt E all x=true):dU tt E x.op = .R:=by
  simp only[Na,Bool.and_eq_true]at h
  revert h
  cases dU tt E x.op <;> simp
theorem qf {E:Env R} {YN:Option Bool} {all:List Oper} {x y:Oper} (h:DP tt E YN all x y=true):xE all x y=true∧((Ir tt E all x y=true∧(YN=some true→Ps tt E x y=true))∨(YN=some true ∧
    ((Tv tt E all x=true∧dU tt E x.op = .R∧dU tt E y.op = .F)∨(dU tt E x.op = .F∧ml E x.op=false∧fj tt y.op = .A)∨Rb all x y=true))∨(YN=some false∧Na tt E all x=true∧dU tt E x.op = .R∧kK all y=true)):=by
  unfold DP at h
  simp only[Bool.or_eq_true,Bool.and_eq_true]at h
  rcases h with ⟨h,hn⟩|h
  · exact ⟨(A4 h).1, .inl ⟨h,fun e=>by subst e; exact hn⟩⟩
  · split at h
    · cases h
    · simp only[Bool.or_eq_true,Bool.and_eq_true]at h
      rcases h with ⟨(⟨h2,h3⟩|⟨h2,h3,h5⟩)|h2,h4⟩
      · exact ⟨h4, .inr (.inl ⟨rfl, .inl ⟨h2,Wc h2,Qb h3⟩⟩)⟩
      · refine ⟨h4, .inr (.inl ⟨rfl, .inr (.inl ⟨Qb h2,by simpa using h3,?_⟩)⟩)⟩
        revert h5
        cases fj tt y.op <;> simp
      · exact ⟨h4, .inr (.inl ⟨rfl, .inr (.inr h2)⟩)⟩
    · simp only[Bool.and_eq_true]at h
      exact ⟨h.2, .inr (.inr ⟨rfl,h.1.1,Uq h.1.1,h.1.2⟩)⟩
theorem OF {all:List Oper} {x:Oper} (h:kK all x=true∨qz all x=true):fj tt x.op = .W:=by
  obtain ⟨t,a,y,e,_⟩:=A3 h
  rw[e]; rfl
theorem Ny {E:Env R} {S:Option (Bool × List Nat)} {base:Nat} {all:List Oper} {x:Oper} {id:Nat} {fr:List V} {k0:St→Option R} {r:R} (hx:kK all x=true∨qz all x=true) (hk:one tt E S base all x id ⟨fr,h⟩ k0=some r) :
    Gl tt E base S all x (ev fr) h=true∧∃i ob,i∈A5 x.op (ev fr)∧k0 ⟨fr,h.set i ob⟩=some r∧∀(h2:ay) (YF:Nat) (k:St→Option R),h2.at i=h.at i→one tt E S base all x YF ⟨fr,h2⟩ k=k ⟨fr,h2.set i ob⟩:=by
  obtain ⟨t,a,y,e,hd,hg⟩:=A3 hx
  obtain ⟨dst,op,ty,pos,after,guard⟩:=x
  simp only at e hd hg
  subst e hd hg
  unfold one at hk ⊢
  rw[A2]at hk
  simp only at hk
  have hS:Gl tt E base S all ⟨none, .store t a y,ty,pos,after,none⟩ (ev fr) h=true:=by
    cases hS:Gl tt E base S all ⟨none, .store t a y,ty,pos,after,none⟩ (ev fr) h with
    | true=>rfl
    | false=>rw[hS]at hk; cases hk
  refine ⟨hS,?_⟩
  have Wa:∀(dr:Option Nat) (id:Nat) (h:ay) (k:St→Option R),yN tt E dr id ⟨none, .store t a y,ty,pos,after,none⟩ ⟨fr,h⟩ k=Kk tt (.store t a y) (ev fr) h id fun v h=>k ⟨mj fr none v,h⟩:=fun dr id h k=>by cases dr <;> rfl
  rw[hS,cond_true,Wa]at hk
  obtain ⟨i,ob,h1,h2,h3⟩:=Uo (tt:=tt) (t:=t) (a:=a) (y:=y) (ρ:=ev fr) (id:=id) (k0:=fun v h=>k0 ⟨mj fr none v,h⟩) hk
  refine ⟨i,ob,h1,h2,fun hh YF k e => ?_⟩
  rw[A2]
  simp only
  have hS2:Gl tt E base S all ⟨none, .store t a y,ty,pos,after,none⟩ (ev fr) hh=true:=by
    rw[←hS]
    match S with
    | none=>rfl
    | some (true,A)=>rfl
    | some (false,A)=>rfl
  rw[hS2,cond_true,Wa]
  exact h3 hh YF (fun v h=>k ⟨mj fr none v,h⟩) e
theorem Ll {E:Env R} {o:Op} (hs:ml E o=true):fj tt o = .C:=by
  unfold ml at hs
  split at hs
  · split at hs
    · rename_i cl _ g hg
      simp only[fj,hg]
    · cases hs
  · cases hs
theorem OG {E:Env R} {o:Op} (hs:ml E o=true):dU tt E o = .F:=by
  have hc:=Ll (tt:=tt) hs
  have hp:nU E o=false:=by
    unfold ml at hs
    unfold nU
    split at hs
    · split at hs
      · rename_i cl _ g hg
        simp only[Bool.and_eq_true]at hs
        obtain ⟨_,h2⟩:=hs
        split at h2
        · rename_i sp Ox
          simp only[hg,Ox]
        · cases h2
      · cases hs
    · cases hs
  unfold dU
  rw[hc,hp]
  rfl
theorem RN {E:Env R} {o:Op} (ha:o4 o=true):dU tt E o = .W:=by rw[qB (by rw[B0 ha]; simp),B0 ha]
theorem Lm {E:Env R} {o:Op} {a:Cls} (h:dU tt E o=a) (h1:a ≠ .C) (h2:a ≠ .F):fj tt o=a:=by
  unfold dU at h
  split at h
  · revert h; cases nU E o <;> intro h <;> subst h <;> simp at h1 h2
  · exact h
theorem Nz {E:Env R} {all:List Oper} {x y:Oper} (h:Ir tt E all x y=true∨Ir tt E all y x=true) (hR:fj tt x.op = .R):¬turns tt E y.op:=by
  have hx:dU tt E x.op = .R:=by rw[qB (by rw[hR]; simp),hR]
  intro ht
  have YE:o4 y.op=true→False:=fun ha=>by
    rcases ht with ⟨_,h⟩|⟨h,_⟩
    · rw[ha]at h; cases h
    · rw[RN ha]at h; cases h
  have Ik:ml E y.op=true→False:=fun hs=>by
    rcases ht with ⟨h,_⟩|⟨_,h⟩
    · rw[OG hs]at h; cases h
    · rw[hs]at h; cases h
  have hc:FY .R (dU tt E y.op)=false:=by rcases ht with ⟨h,_⟩|⟨h,_⟩ <;> rw[h] <;> rfl
  rcases h with h|h
  · rcases (A4 h).2 with h|⟨h,_⟩|⟨_,h⟩|⟨h,_⟩|⟨_,h⟩
    · rw[hx,hc]at h; cases h
    · rw[RN h]at hx; cases hx
    · exact YE h
    · rw[OG h]at hx; cases hx
    · exact Ik h
  · rcases (A4 h).2 with h|⟨h,_⟩|⟨h,h'⟩|⟨h,_⟩|⟨_,h⟩
    · have:=Lk h; rw[hx,hc]at this; cases this
    · exact YE h
    · rw[RN h']at hx; cases hx
    · exact Ik h
    · rw[OG h]at hx; cases hx

theorem B1.symm {S:Option (Bool × List Nat)} {E:Env R} {all:List Oper} {base:Nat} {x:Oper} {s t:St} (h:B1 S E all tt base x s t):B1 S E all tt base x t s:=⟨fun u hu=>(h.1 u hu).symm,fun hR i hi hA hB=>(h.2 hR i hi hA hB).symm⟩
theorem B1.trans {S:Option (Bool × List Nat)} {E:Env R} {all:List Oper} {base:Nat} {x:Oper} {s t u:St} (h:B1 S E all tt base x s t) (h':B1 S E all tt base x t u):B1 S E all tt base x s u :=
  ⟨fun v hv=>(h'.1 v hv).trans (h.1 v hv),fun hR i hi hA hB=>(h'.2 hR i hi hA hB).trans (h.2 hR i hi hA hB)⟩

theorem Di {E:Env R} {S:Option (Bool × List Nat)} {all:List Oper} {base:Nat} {x y:Oper} (hp:DP tt E (S.map (·.1)) all x y=true∨DP tt E (S.map (·.1)) all y x=true) {st II:St} {v:V} (hf:II.fr=mj st.fr y.dst v) (hh:Kept S tt E all base y st.hp II.hp) :
    B1 S E all tt base x st II:=by
  have h2:xE all y x=true:=by
    rcases hp with h|h
    · exact Lj (qf h).1
    · exact (qf h).1
  refine ⟨fun t ht => ?_,fun hR i hi hA hB => ?_⟩
  · rw[hf]
    exact Nw fun e=>(apart_spec h2).1 t e ht
  · rcases hh with hh|⟨hW,hh,hh2⟩
    · exact hh i hi
    · have hx:dU tt E x.op = .R:=by rw[qB (by rw[hR]; simp),hR]
      rcases hp with h|h
      · rcases (qf h).2 with ⟨h,hn⟩|⟨h1,⟨h3,_,h4⟩|⟨h4,_⟩|h4⟩|⟨h1,h3,_,h4⟩
        · rcases hW with hW|⟨Wa,ha⟩
          · exact (Nz (.inl h) hR hW).elim
          · have:=hn Wa
            simp[Ps,rdA,hx,ha]at this
        · match S,h1 with
          | some (true,A),_=>exact hh h4 A rfl i (hA A rfl h3)
        · rw[hx]at h4; cases h4
        · rw[(CH (tt:=tt) h4).1]at hR; cases hR
        · match S,h1 with
          | some (false,A),_=>exact hh2 h4 A rfl i (hB A rfl h3)
      · rcases (qf h).2 with ⟨h,hn⟩|⟨_,⟨_,_,h4⟩|⟨_,_,h4⟩|h4⟩|⟨_,_,_,h4⟩
        · rcases hW with hW|⟨Wa,ha⟩
          · exact (Nz (.inr h) hR hW).elim
          · have:=hn Wa
            simp[Ps,rdA,hx,ha]at this
        · rw[hx]at h4; cases h4
        · rw[hR]at h4; cases h4
        · rw[(CH (tt:=tt) h4).2]at hR; cases hR
        · rw[OF (tt:=tt) (.inl h4)]at hR; cases hR

section
variable {E:Env R} {S:Option (Bool × List Nat)} {base:Nat} {ops:Array Oper} {k:St→Option R} {r:R}

theorem pull (hE:po P E) {x:vE} {e:SS} {st0:St} (hc:calm (fj tt x.2.1.op)=true) (he:e.dst=x.2.1.dst) (Qa:∀i ob,e.put=some (i,ob)→i=x.2.2∧fj tt x.2.1.op = .A)
    (Zb:∀Bz,B1 S E ops.toList tt base x.2.1 st0 Bz→∀k,one tt E S base ops.toList x.2.1 x.2.2 Bz k=k (V4 Bz e)) (post:List vE) :
    ∀(pre:List vE) (st:St) (h:ay),Good tt base (ops.toList.filter (bZ tt)).length (pre++x::post) h→(∀y∈pre,DP tt E (S.map (·.1)) ops.toList y.2.1 x.2.1=true)→B1 S E ops.toList tt base x.2.1 st0 st →
      DY tt E S base ops.toList (pre++x::post) st k=DY tt E S base ops.toList (pre++post) (V4 st e) k
  | [],st,_,_,_,ha=>Zb st ha _
  | y::pre,st,h,g,hp,ha=>by
    have hpy:=hp y (by simp)
    have gx:bZ tt x.2.1=true→base≤x.2.2:=fun hx=>(g.slot x (by simp) hx).1
    have gy:bZ tt y.2.1=true→base≤y.2.2:=fun hx=>(g.slot y (by simp) hx).1
    have glt:bZ tt x.2.1=true→bZ tt y.2.1=true→y.2.2<x.2.2:=fun hx hy=>by
      have:=g.apart
      rw[List.cons_append,List.pairwise_cons]at this
      exact this.1 x (by simp) hy hx
    have gne:bZ tt x.2.1=true→bZ tt y.2.1=true→x.2.2≠y.2.2:=fun hx hy=>by have:=glt hx hy; omega
    have El:FY (dU tt E x.2.1.op) (dU tt E y.2.1.op)=true∨(o4 y.2.1.op=true∧S.map (·.1)≠some true∧(bZ tt x.2.1=true→y.2.2<x.2.2))∨(fj tt x.2.1.op = .R∧o4 y.2.1.op=true)∨(fj tt x.2.1.op = .R∧ml E y.2.1.op=true)∨(fj tt x.2.1.op = .R∧dU tt E y.2.1.op = .F)∨(fj tt x.2.1.op = .A∧S.map (·.1)=some true∧dU tt E y.2.1.op = .F∧ml E y.2.1.op=false)∨(fj tt x.2.1.op = .R∧fj tt y.2.1.op = .W):=by
      rcases (qf hpy).2 with ⟨hpo,YE⟩|⟨hSo,⟨_,_,hF⟩|⟨hF,hsf,hA⟩|hW⟩|⟨_,_,_,hW⟩
      rotate_left
      rotate_left
      · exact .inr (.inr (.inr (.inr (.inr (.inl ⟨hA,hSo,hF,hsf⟩)))))
      · rw[(CH (tt:=tt) hW).2]at hc; cases hc
      · rw[OF (tt:=tt) (.inl hW)]at hc; cases hc
      rotate_left
      · have hC:fj tt x.2.1.op = .C:=by
          unfold dU at hF
          split at hF
          · assumption
          · rw[hF]at hc; cases hc
        rw[hC]at hc; cases hc
      rcases (A4 hpo).2 with h|⟨h,h'⟩|⟨_,h⟩|⟨h,h'⟩|⟨_,h⟩
      · exact .inl (Lk h)
      · refine .inr (.inl ⟨h,fun Wa => ?_,fun hx=>glt hx (by simp[bZ,B0 h])⟩)
        have:=YE Wa
        rcases h' with h'|h' <;> simp[Ps,rdA,h,h']at this
      · rw[B0 h]at hc; cases hc
      · exact .inr (.inr (.inr (.inl ⟨Lm h' (by simp) (by simp),h⟩)))
      · rw[Ll h]at hc; cases hc
    simp only[List.cons_append,DY]
    rw[SW El (Lj (qf hpy).1) hc he Qa gne gx fun hx=>g.top x (by simp) hx]
    refine IJ hE gy fun v Vn hh => ?_
    exact pull hE hc he Qa Zb post pre _ h (g.sub (List.sublist_cons_self _ _)) (fun z hz=>hp z (by simp[hz])) (ha.trans (Di (.inr hpy) rfl hh))

theorem find (T:xh P tt) (hE:po P E) {x:vE} (post:List vE):∀(pre:List vE) (w:World) (c:jZ) (st:St) (a:Act),Gw w c st a→Good tt base (ops.toList.filter (bZ tt)).length (pre++x::post) st.hp→(∀y∈pre,DP tt E (S.map (·.1)) ops.toList y.2.1 x.2.1=true) →
    DY tt E S base ops.toList (pre++x::post) st k=some r→∃sO k',B1 S E ops.toList tt base x.2.1 st sO∧one tt E S base ops.toList x.2.1 x.2.2 sO k'=some r
  | [],_,_,st,_,_,_,_,hk=>⟨st,_,⟨fun _ _=>rfl,fun _ _ _ _ _=>rfl⟩,hk⟩
  | y::pre,w,c,st,a,ir,g,hp,hk=>by
    simp only[List.cons_append,DY]at hk
    obtain ⟨w1,c1,II,a1,v,s1,Uh,hf,hh,kp⟩:=Up T hE hk ir (fun ha=>g.slot y (by simp) ha)
    obtain ⟨sO,k',h1,h2⟩:=find T hE post pre w1 c1 II a1 s1 (Good.step (pre := []) g kp) (fun z hz=>hp z (by simp[hz])) Uh
    exact ⟨sO,k',(Di (.inr (hp y (by simp))) hf hh).trans h1,h2⟩

theorem Wd (hE:po P E) {x:vE} (post:List vE):∀(pre:List vE) (st:St) (h:ay),Good tt base (ops.toList.filter (bZ tt)).length (pre++x::post) h→(∀y∈pre,DP tt E (S.map (·.1)) ops.toList y.2.1 x.2.1=true∧(calm (fj tt y.2.1.op)=true∨(S.map (·.1)=some true∧Rb ops.toList y.2.1 x.2.1=true))) →
    DY tt E S base ops.toList (pre++x::post) st k=some r→one tt E S base ops.toList x.2.1 x.2.2 st (fun II=>DY tt E S base ops.toList (pre++post) II k)=some r
  | [],_,_,_,_,hk=>hk
  | y::pre,st,h,g,hp,hk=>by
    obtain ⟨hpy,Bb⟩:=hp y (by simp)
    simp only[List.cons_append,DY]at hk ⊢
    rcases Bb with Bb|⟨hSo,hW⟩
    rotate_left
    · have hvy:kK ops.toList y.2.1=true∨qz ops.toList y.2.1=true:=(Fi hW).imp (·.1) (·.1)
      have Y0:kK ops.toList x.2.1=true∨qz ops.toList x.2.1=true:=((Fi hW).imp (·.2) (·.2)).symm
      obtain ⟨fr,hp0⟩:=st
      obtain ⟨sy,i,ob,iy,Uh,ny⟩:=Ny hvy hk
      have ih:=Wd hE post pre _ h (g.sub (List.sublist_cons_self _ _)) (fun z hz=>hp z (by simp[hz])) Uh
      obtain ⟨sx,j,ob',ix,Gq,nx⟩:=Ny Y0 ih
      have lp:i≠j:=by
        match S,hSo,sy,sx with
        | some (true,A),_,sy,sx =>
          simp only[Gl,(CH (tt:=tt) hW).1,Bool.and_eq_true,Bool.or_eq_true,Bool.not_eq_true',List.all_eq_true]at sy
          simp only[Gl,(CH (tt:=tt) hW).2,Bool.and_eq_true,Bool.or_eq_true,Bool.not_eq_true',List.all_eq_true]at sx
          rintro rfl
          rcases Fi hW with ⟨g1,g2⟩|⟨g1,g2⟩
          · have a1:=sy.1.resolve_left (by simp[g1]) i iy
            have a2:=sx.2.resolve_left (by simp[g2]) i ix
            rw[a1]at a2; cases a2
          · have a1:=sy.2.resolve_left (by simp[g1]) i iy
            have a2:=sx.1.resolve_left (by simp[g2]) i ix
            rw[a2]at a1; cases a1
      rw[nx hp0 _ _ (cP _ lp).symm,ny (hp0.set j ob') _ _ (cP _ (Ne.symm lp)),←List.set_comm _ _ lp]
      exact Gq
    obtain ⟨e,h1,h2,h3,h4⟩:=SU Bb hk
    have gx:bZ tt x.2.1=true→base≤x.2.2:=fun hx=>(g.slot x (by simp) hx).1
    have gy:bZ tt y.2.1=true→base≤y.2.2:=fun hx=>(g.slot y (by simp) hx).1
    have gne:bZ tt y.2.1=true→bZ tt x.2.1=true→y.2.2≠x.2.2:=fun hy hx=>by
      have:=g.apart
      rw[List.cons_append,List.pairwise_cons]at this
      exact Nat.ne_of_lt (this.1 x (by simp) hy hx)
    have El:FY (dU tt E y.2.1.op) (dU tt E x.2.1.op)=true∨(o4 x.2.1.op=true∧S.map (·.1)≠some true∧(bZ tt y.2.1=true→x.2.2<y.2.2))∨(fj tt y.2.1.op = .R∧o4 x.2.1.op=true)∨(fj tt y.2.1.op = .R∧ml E x.2.1.op=true)∨(fj tt y.2.1.op = .R∧dU tt E x.2.1.op = .F)∨(fj tt y.2.1.op = .A∧S.map (·.1)=some true∧dU tt E x.2.1.op = .F∧ml E x.2.1.op=false)∨(fj tt y.2.1.op = .R∧fj tt x.2.1.op = .W):=by
      rcases (qf hpy).2 with ⟨hpo,_⟩|⟨_,⟨_,hR,hF⟩|⟨hF,_⟩|hW⟩|⟨_,_,hR,hW⟩
      rotate_left
      · exact .inr (.inr (.inr (.inr (.inl ⟨Lm hR (by simp) (by simp),hF⟩))))
      · have hC:fj tt y.2.1.op = .C:=by
          unfold dU at hF
          split at hF
          · assumption
          · rw[hF]at Bb; cases Bb
        rw[hC]at Bb; cases Bb
      · rw[(CH (tt:=tt) hW).1]at Bb; cases Bb
      · exact .inr (.inr (.inr (.inr (.inr (.inr ⟨Lm hR (by simp) (by simp),OF (.inl hW)⟩)))))
      rcases (A4 hpo).2 with h|⟨h,_⟩|⟨h,h'⟩|⟨h,_⟩|⟨h,h'⟩
      · exact .inl h
      · rw[B0 h]at Bb; cases Bb
      · exact .inr (.inr (.inl ⟨Lm h (by simp) (by simp),h'⟩))
      · rw[Ll h]at Bb; cases Bb
      · exact .inr (.inr (.inr (.inl ⟨Lm h (by simp) (by simp),h'⟩)))
    have ih:=Wd hE post pre (V4 st e) h (g.sub (List.sublist_cons_self _ _)) (fun z hz=>hp z (by simp[hz])) h3
    rw[SW El (qf hpy).1 Bb h1 h2 gne gy fun hy=>g.top y (by simp) hy]at ih
    rw[←ih]
    refine IJ hE gx fun v Vn hh => ?_
    exact h4 _ (Di (.inl hpy) rfl hh) _

theorem bubble (T:xh P tt) (hE:po P E) {x:vE} {pre post:List vE} {st:St} {a:Act} (ir:Gw w c st a) (g:Good tt base (ops.toList.filter (bZ tt)).length (pre++x::post) st.hp) (hp:∀y∈pre,DP tt E (S.map (·.1)) ops.toList y.2.1 x.2.1=true)
    (hk:DY tt E S base ops.toList (pre++x::post) st k=some r):one tt E S base ops.toList x.2.1 x.2.2 st (fun II=>DY tt E S base ops.toList (pre++post) II k)=some r:=by
  by_cases hc:calm (fj tt x.2.1.op)=true
  · obtain ⟨sO,k',h1,h2⟩:=find T hE post pre w c st a ir g hp hk
    obtain ⟨e,e1,e2,_,e4⟩:=SU hc h2
    rw[e4 st h1.symm,←pull hE hc e1 e2 e4 post pre st _ g hp h1.symm]
    exact hk
  · refine Wd hE post pre st _ g (fun y hy=>⟨hp y hy,?_⟩) hk
    have h0:=(qf (hp y hy)).2
    by_cases hfw:S.map (·.1)=some true∧Rb ops.toList y.2.1 x.2.1=true
    · exact .inr hfw
    refine .inl ?_
    have hy:dU tt E y.2.1.op = .P∨dU tt E y.2.1.op = .R∨dU tt E y.2.1.op = .A:=by
      have hx:¬calm (dU tt E x.2.1.op)=true:=by
        unfold dU
        split
        · cases nU E x.2.1.op <;> simp[calm]
        · exact hc
      rcases h0 with ⟨h0,_⟩|⟨hSo,⟨_,h0,_⟩|⟨_,_,h0⟩|h0⟩|⟨_,_,h0,_⟩
      rotate_left
      · exact .inr (.inl h0)
      · exact (hc (by rw[h0]; rfl)).elim
      · exact (hfw ⟨hSo,h0⟩).elim
      · exact .inr (.inl h0)
      have h1:=(A4 h0).2
      rcases h1 with h1|⟨_,h1⟩|⟨h1,_⟩|⟨_,h1⟩|⟨h1,_⟩
      · revert h1 hx
        cases dU tt E x.2.1.op <;> cases dU tt E y.2.1.op <;> simp[FY,calm]
      · exact (hx (by rcases h1 with h|h <;> rw[h] <;> rfl)).elim
      · exact .inr (.inl h1)
      · exact (hx (by rw[h1]; rfl)).elim
      · exact .inr (.inl h1)
    have lp:fj tt y.2.1.op ≠ .C:=fun e=>by
      unfold dU at hy
      rw[e]at hy
      cases hp2:nU E y.2.1.op <;> simp[hp2]at hy
    rw[qB lp]at hy
    rcases hy with h|h|h <;> rw[h] <;> rfl
end

theorem xM:∀(l:List Oper) (i id:Nat) (x:vE),x∈number tt l i id→i≤x.1∧x.1<i+l.length∧l[x.1 - i]? = some x.2.1∧id≤x.2.2∧(bZ tt x.2.1=true→x.2.2<id+(l.filter (bZ tt)).length)
  | [],_,_,_,h=>by simp[number]at h
  | o::l,i,id,x,h=>by
    simp only[number,List.mem_cons]at h
    rcases h with rfl|h
    · refine ⟨Nat.le_refl _,by simp,by simp,Nat.le_refl _,fun ha => ?_⟩
      simp only at ha
      simp only[List.filter_cons_of_pos ha,List.length_cons]
      omega
    · obtain ⟨h1,h2,h3,h4,h5⟩:=xM l _ _ x h
      have e:x.1 - i=(x.1 - (i+1))+1:=by omega
      refine ⟨by omega,by simp; omega,by rw[e]; simpa using h3,?_,fun ha => ?_⟩
      · split at h4 <;> omega
      · have:=h5 ha
        by_cases ho:bZ tt o=true
        · rw[if_pos ho]at this
          rw[List.filter_cons_of_pos ho,List.length_cons]; omega
        · rw[if_neg ho]at this
          rw[List.filter_cons_of_neg ho]; omega

theorem Dj:∀(l:List Oper) (i id:Nat),(number tt l i id).Pairwise fun z z'=>z.1<z'.1∧(bZ tt z.2.1=true→bZ tt z'.2.1=true→z.2.2<z'.2.2)
  | [],_,_=>by simp[number]
  | o::l,i,id=>by
    simp only[number,List.pairwise_cons]
    refine ⟨fun z hz => ?_,Dj l _ _⟩
    obtain ⟨h1,_,_,h4,_⟩:=xM l _ _ z hz
    refine ⟨by omega,fun ha _ => ?_⟩
    rw[if_pos ha]at h4
    omega

theorem Ln:∀(l:List Oper) (i id j:Nat),i≤j→j<i+l.length→∃x∈number tt l i id,x.1=j
  | [],i,_,j,h1,h2=>by simp at h2; omega
  | o::l,i,id,j,h1,h2=>by
    by_cases e:i=j
    · exact ⟨(i,o,id),by simp[number],e⟩
    · obtain ⟨x,hx,ex⟩:=Ln l (i+1) (if bZ tt o then id+1 else id) j (by omega) (by simp at h2; omega)
      exact ⟨x,by simp[number,hx],ex⟩

structure Left (ops:Array Oper) (b:List (List Nat)) (listed:Array Bool) (rem:List vE):Prop where
  size:listed.size=ops.size
  sorted:rem.Pairwise fun z z'=>z.1<z'.1
  op:∀x∈rem,ops[x.1]? = some x.2.1
  un:∀x∈rem,listed.getD x.1 true=false
  all:∀i,listed.getD i true=false→∃x∈rem,x.1=i
  closed:∀m,listed.getD m false=true→∀i∈b.getD m [],listed.getD i false=true

theorem Lo {listed:Array Bool} {i:Nat} (h:i<listed.size):listed.getD i false=true↔¬listed.getD i true=false:=by
  simp[h]

theorem Ur (T:xh P tt) {E:Env R} (hE:po P E) {S:Option (Bool × List Nat)} {base:Nat} {ops:Array Oper} {b:List (List Nat)} {k:St→Option R} {r:R} {Q:Exit→Act→World→Prop}
    (hpair:∀i j x y,i<j→ops[i]? = some x→ops[j]? = some y→i∈b.getD j []∨DP tt E (S.map (·.1)) ops.toList x y=true)
    (hback:∀(j:Nat) (y:Oper),ops[j]? = some y→∀e∈y.after,Region.binds .any e=true→e.on<j)
    (hclo:∀(j:Nat) (y:Oper),ops[j]? = some y→∀i∈b.getD j [],∃e∈y.after,Region.binds .any e=true∧(e.on=i∨i∈b.getD e.on [])) :
    ∀(fuel:Nat) (listed:Array Bool) (rem:List vE) (w:World) (c:jZ) (st:St) (a:Act),rem.length≤fuel→Left ops b listed rem→Good tt base (ops.toList.filter (bZ tt)).length rem st.hp→Gw w c st a→DY tt E S base ops.toList rem st k=some r →
      V2 w c st a k r (Q .normal)→wpAny P .any ops Q fuel listed a w:=by
  intro fuel
  -- if nothing is ready, nothing is left
  have hnone:∀listed rem,Left ops b listed rem→Region.ready .any ops listed = []→rem = []:=by
    intro listed rem lf hr
    cases rem with
    | nil=>rfl
    | cons x rest =>
      have:x.1∈Region.ready .any ops listed:=by
        rw[mem_ready]
        refine ⟨lf.un x (by simp),x.2.1,lf.op x (by simp),fun e he hb => ?_⟩
        have ln:=hback x.1 x.2.1 (lf.op x (by simp)) e he hb
        have hx:x.1<ops.size:=(Array.getElem?_eq_some_iff.1 (lf.op x (by simp))).1
        rw[Lo (by rw[lf.size]; omega)]
        intro hun
        obtain ⟨y,hy,ey⟩:=lf.all _ hun
        rcases List.mem_cons.1 hy with rfl|hy
        · omega
        · have:=(List.pairwise_cons.1 lf.sorted).1 y hy
          omega
      rw[hr]at this
      cases this
  induction fuel with
  | zero =>
    intro listed rem w c st a hl lf g ir hk go
    obtain rfl:rem = []:=List.eq_nil_of_length_eq_zero (by omega)
    refine ⟨?_,go a w st c ir (.refl _ _ _) rfl hk⟩
    cases hr:Region.ready .any ops listed with
    | nil=>rfl
    | cons i l =>
      have hi:i∈Region.ready .any ops listed:=by rw[hr]; simp
      obtain ⟨x,hx,_⟩:=lf.all i (mem_ready.1 hi).1
      cases hx
  | succ fuel ih =>
    intro listed rem w c st a hl lf g ir hk go
    refine ⟨fun hr => ?_,fun i hi => ?_⟩
    · obtain rfl:=hnone _ _ lf hr
      exact go a w st c ir (.refl _ _ _) rfl hk
    · obtain ⟨hun,o,ho,hdone⟩:=mem_ready.1 hi
      obtain ⟨x,hx,rfl⟩:=lf.all i hun
      obtain ⟨pre,post,rfl⟩:=List.append_of_mem hx
      have hox:=lf.op x (by simp)
      rw[hox]at ho
      cases ho
      have SX:=lf.sorted
      rw[List.pairwise_append,List.pairwise_cons]at SX
      have hbx:∀j∈b.getD x.1 [],listed.getD j false=true:=fun j hj=>by
        obtain ⟨e,he,hb,hor⟩:=hclo x.1 x.2.1 hox j hj
        have hel:=hdone e he hb
        rcases hor with rfl|hj
        · exact hel
        · exact lf.closed _ hel j hj
      have hpr:∀y∈pre,DP tt E (S.map (·.1)) ops.toList y.2.1 x.2.1=true:=fun y hy=>by
        rcases hpair y.1 x.1 y.2.1 x.2.1 (SX.2.2 y hy x (by simp)) (lf.op y (by simp[hy])) hox with h1|h1
        · have h2:=hbx _ h1
          have h3:=lf.un y (by simp[hy])
          have hy':y.1<ops.size:=(Array.getElem?_eq_some_iff.1 (lf.op y (by simp[hy]))).1
          rw[Lo (by rw[lf.size]; exact hy')]at h2
          exact (h2 h3).elim
        · exact h1
      have Hr:=bubble T hE ir g hpr hk
      have We:x.1<listed.size:=by rw[lf.size]; exact (Array.getElem?_eq_some_iff.1 hox).1
      have lf':Left ops b (listed.setIfInBounds x.1 true) (pre++post):=by
        have hs:List.Sublist (pre++post) (pre++x::post):=List.Sublist.append (List.Sublist.refl _) (List.sublist_cons_self _ _)
        have lp:∀y∈pre++post,x.1≠y.1:=fun y hy=>by
          rcases List.mem_append.1 hy with hy|hy
          · have:=SX.2.2 y hy x (by simp); omega
          · have:=SX.2.1.1 y hy; omega
        refine ⟨by simp[lf.size],lf.sorted.sublist hs,fun y hy=>lf.op y (hs.subset hy),fun y hy => ?_,fun j hj => ?_,fun m hm j hj => ?_⟩
        · rw[getD_set_ne true (lp y hy)]; exact lf.un y (hs.subset hy)
        · by_cases e:x.1=j
          · subst e; simp[We]at hj
          · rw[getD_set_ne true e]at hj
            obtain ⟨y,hy,ey⟩:=lf.all j hj
            refine ⟨y,?_,ey⟩
            rcases List.mem_append.1 hy with h1|h1
            · exact List.mem_append_left _ h1
            · rcases List.mem_cons.1 h1 with rfl|h1
              · exact (e ey).elim
              · exact List.mem_append_right _ h1
        · refine getD_set_true ?_
          by_cases e:x.1=m
          · subst e; exact hbx j hj
          · rw[getD_set_ne false e]at hm; exact lf.closed m hm j hj
      have Vm:(pre++post).length≤fuel:=by simp at hl ⊢; omega
      unfold wpOp
      simp only[hox]
      rcases Dg ir Hr with ⟨hw,Hr⟩|⟨hw,Hr⟩
      · rw[if_pos hw]
        have Hr:yN tt E (Vk tt S base x.2.1) x.2.2 x.2.1 st (fun II=>DY tt E S base ops.toList (pre++post) II k)=some r:=by
          cases hS:Gl tt E base S ops.toList x.2.1 (ev st.fr) st.hp with
          | true=>rw[hS]at Hr; exact Hr
          | false=>rw[hS]at Hr; cases Hr
        refine .inl (Ey T hE Hr ir (fun ha=>(g.slot x (by simp) ha).2) fun d w' sO c' v RJ xt kp _ _ _ rX => ?_)
        exact ih _ _ w' c' sO _ Vm lf' (g.step kp) RJ rX fun a2 w2 Bz c2 s2 x2 d2 k2=>go a2 w2 Bz c2 s2 (xt.trans x2) (d2.trans (put_defers _ _ _)) k2
      · rw[if_neg (by simp[hw])]
        exact ih _ _ w c ⟨mj st.fr x.2.1.dst (.tuple []),st.hp⟩ (a.put x.2.1.dst undef) Vm lf' (g.step (.refl _ _ _)) ⟨ir.wf,Ac ir.fr _ IH⟩ Hr fun a2 w2 Bz c2 s2 x2 d2 k2=>go a2 w2 Bz c2 s2 x2 (d2.trans (put_defers _ _ _)) k2

theorem Fj (n:Nat):Ext w h c { w with drawn:=n } h c where
  os:=rfl
  tape:=rfl
  output:=rfl
  size:=Nat.le_refl _
  used:=fun _ hi=>hi
  same:=fun i hi hd=>⟨CE (Ff hi.2 hd) (fun _ _ _ => .inr trivial),rfl,rfl⟩
  cell:=fun _ _ _ _=>rfl
  block:=fun _ _ _=>rfl
  vQ:=fun _ _ _ ho=>ho
  ext:=rfl
  arr:=fun b arr e fz hb=>⟨arr,fz,hb,rfl⟩

theorem Wf (wf:WF w h c) (n:Nat):WF { w with drawn:=n } h c where
  lay:=wf.rC (Fj n)
  xG:=wf.xG
  o5:=wf.o5
  obj:=fun i hi=>by
    by_cases hl:(h.at i).live
    · exact (wf.obj i hi).keep (Fj n) (fun _ _=>rfl) rfl rfl
    · have h0:h.at i = .free∨h.at i = .dead:=by revert hl; cases h.at i <;> simp[bR.live]
      rcases h0 with h0|h0 <;> rw[h0] <;> trivial
  inj:=wf.inj

theorem Jx (M:List Nat) (i:Nat):∀(es:List Nat) (m:Nat),(es.foldl (fun m e=>m ||| (Nat.pow 2 e ||| M.getD e 0)) m).testBit i=true→m.testBit i=true∨∃e∈es,e=i∨(M.getD e 0).testBit i=true
  | [],m,h => .inl h
  | e::es,m,h=>by
    rcases Jx M i es _ h with h|⟨x,hx,h⟩
    · rw[Nat.testBit_or,Nat.testBit_or,Bool.or_eq_true,Bool.or_eq_true]at h
      rcases h with h|h|h
      · exact .inl h
      · have h':(2 ^ e).testBit i=true:=h
        rw[Nat.testBit_two_pow]at h'
        exact .inr ⟨e,by simp, .inl (of_decide_eq_true h')⟩
      · exact .inr ⟨e,by simp, .inr h⟩
    · exact .inr ⟨x,by simp[hx],h⟩

theorem EA {n j i:Nat} {M:List Nat} (hj:j<n):i∈(beforeL n M).getD j []↔i<n∧(M.getD j 0).testBit i=true:=by
  unfold beforeL
  rw[List.getD_eq_getElem?_getD,List.getElem?_map,List.getElem?_range hj]
  simp

theorem RO (T:xh P tt) (hm:P.follows .mixedOrders=true) {E:Env R} (hE:po P E) {id:Nat} {ops:Array Oper} {k:St→Option R} {r:R} {Q:Exit→Act→World→Prop} {st:St} {a:Act}
    (hk:Fc tt E ops.toList true st k=some r) (ir:Gw w c st a) (go:V2 w c st a k r (Q .normal)):(Code.region id ops true).wp P Q a w:=by
  obtain ⟨S,hd,hk⟩:∃S:Option (Bool × List Nat),Ep tt E (S.map (·.1)) ops.toList=true∧DY tt E S st.hp.length ops.toList (number tt ops.toList 0 st.hp.length) ⟨st.fr,st.hp++List.replicate (ops.toList.filter (bZ tt)).length .free⟩ k=some r:=by
    simp only[Fc,if_true]at hk
    split at hk
    · rename_i hd
      rw[OC _ 0]at hk
      exact ⟨none,hd,hk⟩
    · split at hk
      · rename_i hd
        rw[Kq _ 0]at hk
        exact ⟨some (true,KK ops.toList st.fr),hd,hk⟩
      · split at hk
        · rename_i hd
          rw[Kq _ 0]at hk
          exact ⟨some (false,KL ops.toList st.fr),hd,hk⟩
        · cases hk
  refine wp_region_any hm ?_
  have zo:∀j,j<ops.size→((List.range j).all (fun i=>((G4 ops.toList).getD j 0).testBit i||DP tt E (S.map (·.1)) ops.toList (ops.toList.getD i default) (ops.toList.getD j default))=true ∧
      (C6 (ops.toList.getD j default)).all (fun i=>Nat.blt i j)=true∧(G4 ops.toList).getD j 0=Kl (G4 ops.toList) (C6 (ops.toList.getD j default))):=by
    intro j hj
    unfold Ep at hd
    simp only at hd
    rw[List.all_eq_true]at hd
    have:=hd j (by simpa using hj)
    simp only[Bool.and_eq_true]at this
    exact ⟨this.1.1,this.1.2,Nat.eq_of_beq_eq_true this.2⟩
  have Dc:∀(j:Nat) (y:Oper),ops[j]? = some y→ops.toList.getD j default=y∧j<ops.size:=fun j y hy=>by
    refine ⟨?_,(Array.getElem?_eq_some_iff.1 hy).1⟩
    rw[List.getD,Array.getElem?_toList,hy]; rfl
  have Z6:∀(y:Oper) (n:Nat),n∈C6 y↔∃e∈y.after,Region.binds .any e=true∧e.on=n:=by
    intro y n
    simp[C6,List.mem_map,List.mem_filter,and_assoc]
  have RJ:Gw { w with drawn:=w.drawn+1 } c ⟨st.fr,st.hp++List.replicate (ops.toList.filter (bZ tt)).length .free⟩ a :=
    ⟨Wf (Ez ir.wf _) _,(ir.fr.mono (sS _)).mono (Fj _)⟩
  refine Ur T hE (S:=S) (base:=st.hp.length) (b:=beforeL ops.size (G4 ops.toList)) (fun i j x y xk hx hy => ?_) (fun j y hy e he hb => ?_) (fun j y hy i hi => ?_) ops.size _ (number tt ops.toList 0 st.hp.length) _ c _ a ?_ ?_ ?_ RJ hk ?_
  · obtain ⟨h1,h2⟩:=Dc i x hx
    obtain ⟨h3,h4⟩:=Dc j y hy
    have:=List.all_eq_true.1 (zo j h4).1 i (by simpa using xk)
    rw[h1,h3,Bool.or_eq_true]at this
    rcases this with h|h
    · exact .inl ((EA h4).2 ⟨h2,h⟩)
    · exact .inr h
  · obtain ⟨h3,h4⟩:=Dc j y hy
    have:=(zo j h4).2.1
    rw[h3,List.all_eq_true]at this
    simpa using this e.on ((Z6 y _).2 ⟨e,he,hb,rfl⟩)
  · obtain ⟨h3,h4⟩:=Dc j y hy
    have heq:=(zo j h4).2.2
    have ln:=(zo j h4).2.1
    rw[h3]at heq ln
    obtain ⟨hin,hbit⟩:=(EA h4).1 hi
    rw[heq]at hbit
    unfold Kl at hbit
    rcases Jx _ i _ _ hbit with h|⟨n,hn,h⟩
    · simp at h
    · obtain ⟨e,he,hb,rfl⟩:=(Z6 y n).1 hn
      refine ⟨e,he,hb,h.imp (fun h=>h) fun h => ?_⟩
      have:=List.all_eq_true.1 ln e.on hn
      have hon:e.on<j:=by simpa using this
      exact (EA (Nat.lt_trans hon h4)).2 ⟨hin,h⟩
  · have:∀(l:List Oper) (i id:Nat),(number tt l i id).length=l.length:=by
      intro l
      induction l with
      | nil=>intros; rfl
      | cons o l ih=>intros; simp[number,ih]
    rw[this]; simp
  · refine ⟨by simp,(Dj _ _ _).imp fun h=>h.1,fun x hx => ?_,fun x hx => ?_,fun i hi => ?_,fun m hm => ?_⟩
    · obtain ⟨_,_,h3,_⟩:=xM _ _ _ x hx
      simpa using h3
    · obtain ⟨_,h2,_⟩:=xM _ _ _ x hx
      simp at h2
      simp[h2]
    · have:i<ops.size:=by
        rcases Nat.lt_or_ge i ops.size with h|h
        · exact h
        · simp[Nat.not_lt.2 h]at hi
      exact Ln _ 0 _ i (Nat.zero_le _) (by simpa using this)
    · rcases Nat.lt_or_ge m ops.size with h|h
      · simp[h]at hm
      · simp[Nat.not_lt.2 h]at hm
  · refine ⟨fun z hz ha=>(xM _ _ _ z hz).2.2.2.2 ha,fun z hz ha => ?_,(Dj _ _ _).imp fun h=>h.2⟩
    obtain ⟨_,_,_,h4,h5⟩:=xM _ _ _ z hz
    have h5:=h5 ha
    refine ⟨h4,by simp; omega,?_⟩
    rw[jO h4]
    have:z.2.2 - st.hp.length<(ops.toList.filter (bZ tt)).length:=by omega
    simp[ay.at,List.getD,List.getElem?_replicate,this]
  · exact fun a2 w2 Bz c2 s2 x2 d2 k2=>go a2 w2 Bz c2 s2 (((sS _).trans (Fj _)).trans x2) d2 k2
end

section
variable {P:Program} {tt:dB} {w w':World} {h h':ay} {c c':jZ} {R:Type}

theorem Jy (h:ay):∀(n:Nat) (l rest seen:List Nat),(seen++l).Nodup→l.length≤n→∃t,reach h n (l++rest) seen=seen++l++t
  | n, [],rest,seen,_,_=>by
    have key:∀(n:Nat) (todo seen:List Nat),∃t,reach h n todo seen=seen++t:=by
      intro n
      induction n with
      | zero=>exact fun _ _=>⟨[],by simp[reach]⟩
      | succ n ih =>
        intro todo seen
        cases todo with
        | nil=>exact ⟨[],by simp[reach]⟩
        | cons i todo =>
          simp only[reach]
          split
          · exact ih _ _
          · obtain ⟨t,ht⟩:=ih (todo++(h.at i).ids) (seen ++ [i])
            exact ⟨i::t,by rw[ht]; simp⟩
    obtain ⟨t,ht⟩:=key n rest seen
    exact ⟨t,by simpa using ht⟩
  | 0,i::l,_,_,_,hl=>by simp at hl
  | n+1,i::l,rest,seen,hn,hl=>by
    have hi:i∉seen:=fun hm=>by
      rw[List.nodup_append]at hn
      exact hn.2.2 i hm i (by simp) rfl
    obtain ⟨t,ht⟩:=Jy h n l (rest++(h.at i).ids) (seen ++ [i]) (by simpa using hn) (by simpa using hl)
    refine ⟨t,?_⟩
    simp only[List.cons_append,reach,List.contains_iff_mem,hi,if_false,List.append_assoc]at ht ⊢
    simpa using ht

theorem Qc {w0:World} {h0:ay} {c0:jZ} (x:Ext w0 h0 c0 w h c) {ord:List Nat} (hf:∀i,i<h0.length→ord[i]? = some i):Ext w0 h0 c0 w (h.pick ord) (c.pick ord c.ext) where
  os:=x.os
  tape:=x.tape
  output:=x.output
  size:=x.size
  used:=fun i hi=>by
    have e:=hf i hi.1
    refine ⟨by simpa [ay.pick]using (List.getElem?_eq_some_iff.1 e).1,?_⟩
    rw[uM,e]
    simp only[ne_eq,CB]
    exact (x.used i hi).2
  same:=fun i hi hd=>by
    have e:=hf i hi.1
    rw[uM,e]at hd ⊢
    simp only[ne_eq,Hl]at hd
    obtain ⟨s1,s2,s3⟩:=x.same i hi hd
    exact ⟨Nj.2 s1,by simp[jZ.pick,e,s2],by simp[jZ.pick,List.getD,e,s3]⟩
  cell:=x.cell
  block:=x.block
  vQ:=fun b y hb ho=>by
    obtain ⟨i,_,f,g1,g2,g3⟩:=CD ho
    exact x.vQ b y hb ⟨i,f,g1,g2,g3⟩
  ext:=x.ext
  arr:=x.arr

theorem Hs (wf:WF w h c) {ord:List Nat} (DX:ord.Nodup):WF w (h.pick ord) (c.pick ord c.ext) :=
  SR wf DX (fun _ _ hf=>hf.2) wf.o5 (fun b x ⟨i,_,f,g1,g2,g3⟩=>wf.xG b x ⟨i,f,g1,g2,g3⟩)

theorem F0 {ord:List Nat} {cs:List V} {ds:List Value} (r:cz w h c cs ds):cz w (h.pick ord) (c.pick ord c.ext) (V.xD (xx ord) cs) ds :=
  r.pn (K8 fun _ _ hf=>hf.2)

theorem Us {m:Nat} {t:List Nat} {i:Nat} (hi:i<m):(List.range m++t)[i]? = some i:=by
  rw[List.getElem?_append_left (by simpa using hi),List.getElem?_range hi]

theorem Jz (h:ay) {m n:Nat} (hmn:m≤n) (rest:List Nat):(reach h n (List.range m++rest) []).Nodup∧∀i,i<m→(reach h n (List.range m++rest) [])[i]? = some i:=by
  refine ⟨BX h _ _ _ (by simp),fun i hi => ?_⟩
  obtain ⟨t,ht⟩:=Jy h n (List.range m) rest [] (by simpa using List.nodup_range) (by simpa using hmn)
  rw[ht]
  simpa using Us (t:=t) hi

theorem Lp {w0:World} {h0:ay} {c0:jZ} {st:St} {a:Act} (ir:Gw w c st a) (x:Ext w0 h0 c0 w st.hp c) (hm:h0.length≤200):∃c',Gw w c' (st.gc h0.length) a∧Ext w0 h0 c0 w (st.gc h0.length).hp c':=by
  obtain ⟨h1,h2⟩:=Jz st.hp (m:=h0.length) (n:=256) (by omega) (V.sc st.fr)
  exact ⟨_,⟨Hs ir.wf h1,F0 ir.fr⟩,Qc x h2⟩

theorem Gz {fr:List V} {ds:List Value} (r:cz w h c fr ds) (live drop:List Nat):cz w h c (C7 live drop fr) ds:=by
  refine ⟨by simp[C7,r.1],fun j v d hv hd => ?_⟩
  unfold C7 at hv
  rw[List.getElem?_map,List.getElem?_zipIdx]at hv
  cases e:fr[j]? with
  | none=>rw[e]at hv; cases hv
  | some u =>
    rw[e]at hv
    simp at hv
    subst hv
    have ru:=r.2 j u d e hd
    split
    · split
      · exact Jt ru
      · exact ru
    · exact .undef _

theorem Ad:∀(l:List (Nat × Ty)) (st:St) (c:jZ) (a:Act),Gw w c st a→∃c',Gw w c' (Gm l st) a∧Ext w st.hp c w (Gm l st).hp c'
  | [],st,c,a,ir=>⟨c,ir, .refl _ _ _⟩
  | (d,T)::l,st,c,a,ir=>by
    have key:∀(U:Ty),(∀x,a.tmps.toList[d]? = some x→x = .slice none 0 0) →
        ∃c',Gw w c' ⟨st.fr.set d (.sl U [] (.own st.hp.length)),st.hp ++ [.tok]⟩ a∧Ext w st.hp c w (st.hp ++ [.tok]) c':=by
      intro U hx
      obtain ⟨c',k1,k2,k3⟩:=Hg (id:=st.hp.length) (T:=U) (Ez ir.wf 1) (by simp) (by rw[jO (Nat.le_refl _)]; simp[ay.at])
      have e:(st.hp++List.replicate 1 bR.free).set st.hp.length .tok=st.hp ++ [.tok]:=by simp
      rw[e]at k1 k2 k3
      have k4:=(sS (w:=w) (h:=st.hp) (c:=c) 1).trans k2
      refine ⟨c',⟨k1,?_⟩,k4⟩
      have rf:=ir.fr.mono k4
      refine ⟨by simp[rf.1],fun j v x hv hx' => ?_⟩
      rw[List.getElem?_set]at hv
      by_cases hj:d=j
      · subst hj
        rw[if_pos rfl]at hv
        split at hv
        · cases hv
          rw[hx x hx']
          exact k3
        · cases hv
      · rw[if_neg hj]at hv
        exact rf.2 j v x hv hx'
    simp only[Gm]
    have rd:=ir.fr.getD d undef
    split
    · rename_i he
      rw[he]at rd
      obtain ⟨c',s',x'⟩:=key T fun x hx=>by
        rw[List.getD,hx]at rd
        cases rd; rfl
      obtain ⟨c2,s2,x2⟩:=Ad l _ c' a s'
      exact ⟨c2,s2,x'.trans x2⟩
    · rename_i T' l' he
      rw[he]at rd
      have hl:l' = []:=by
        generalize a.tmps.toList.getD d undef=q at rd
        cases rd with
        | sl f lB sd hc hr xF mA =>
          have:=(xF rfl).2
          exact List.eq_nil_of_length_eq_zero (by omega)
      subst hl
      obtain ⟨c',s',x'⟩:=key T' fun x hx=>by
        rw[List.getD,hx]at rd
        simp only[Option.getD_some]at rd
        generalize hn:([]:List T'.den)=nl at rd
        cases rd with
        | sl f lB sd hc hr xF mA =>
          obtain ⟨rfl,rfl⟩:=xF rfl
          subst hn
          rfl
      obtain ⟨c2,s2,x2⟩:=Ad l _ c' a s'
      exact ⟨c2,s2,x'.trans x2⟩
    · exact Ad l st c a ir

theorem Zf {st:St} {a:Act} {d:Nat} {v:V} {h':ay} {c':jZ} (ir:Gw w c st a) (he:st.fr.getD d .undef = .cw) (k1:WF w h' c') (k4:Ext w st.hp c w h' c') (k3:dw w h' c' v (.slice none 0 0)) :
    Gw w c' ⟨st.fr.set d v,h'⟩ a:=by
  refine ⟨k1,?_⟩
  have rf:=ir.fr.mono k4
  refine ⟨by simp[rf.1],fun j u x hv hx' => ?_⟩
  rw[List.getElem?_set]at hv
  by_cases hj:d=j
  · subst hj
    rw[if_pos rfl]at hv
    split at hv
    · cases hv
      have rd:=ir.fr.getD d undef
      rw[he,List.getD,hx']at rd
      cases rd
      exact k3
    · cases hv
  · rw[if_neg hj]at hv
    exact rf.2 j u x hv hx'

theorem SY (wf:WF w h c) (T:Ty):∃c',WF w (h ++ [.row T []]) c'∧Ext w h c w (h ++ [.row T []]) c'∧dw w (h ++ [.row T []]) c' (.row h.length 0) (.slice none 0 0):=by
  obtain ⟨c',k1,k2,k3⟩:=K6 (id:=h.length) (T:=T) (Ez wf 1) (by simp) (by rw[jO (Nat.le_refl _)]; simp[ay.at])
  have e:(h++List.replicate 1 bR.free).set h.length (.row T [])=h ++ [.row T []]:=by simp
  rw[e]at k1 k2 k3
  exact ⟨c',k1,(sS 1).trans k2,k3⟩

theorem Qd (wf:WF w h c) (T:Ty) (rw:Bool):∃c',WF w (h ++ [zN T rw]) c'∧Ext w h c w (h ++ [zN T rw]) c'∧dw w (h ++ [zN T rw]) c' (wi T rw h.length) (.slice none 0 0):=by
  unfold zN wi
  cases rw with
  | true=>exact SY wf T
  | false =>
    simp only[cond_false]
    obtain ⟨c',k1,k2,k3⟩:=Hg (id:=h.length) (T:=T) (Ez wf 1) (by simp) (by rw[jO (Nat.le_refl _)]; simp[ay.at])
    have e:(h++List.replicate 1 bR.free).set h.length .tok=h ++ [.tok]:=by simp
    rw[e]at k1 k2 k3
    exact ⟨c',k1,(sS 1).trans k2,k3⟩

theorem Dk:∀(l:List (Nat × Ty)) (st:St) (c:jZ) (a:Act),Gw w c st a→∃c',Gw w c' (Er l st) a∧Ext w st.hp c w (Er l st).hp c'
  | [],st,c,a,ir=>⟨c,ir, .refl _ _ _⟩
  | (d,T)::l,st,c,a,ir=>by
    simp only[Er]
    split
    · rename_i he
      obtain ⟨c',k1,k2,k3⟩:=SY ir.wf T
      obtain ⟨c2,s2,x2⟩:=Dk l ⟨st.fr.set d (.row st.hp.length 0),st.hp ++ [.row T []]⟩ c' a (Zf ir he k1 k2 k3)
      exact ⟨c2,s2,k2.trans x2⟩
    · exact Dk l st c a ir

theorem IK {i:Nat} {cs ds:List V} (he:h.at i = .cells cs) (hl:ds.length=cs.length):Ext w h c w (h.set i (.cells ds)) c where
  os:=rfl
  tape:=rfl
  output:=rfl
  size:=Nat.le_refl _
  used:=fun j hj=>⟨by simpa using hj.1,by rw[mP]; split; simp; exact hj.2⟩
  same:=fun j hj hd=>by
    rw[mP]at hd ⊢
    split
    · rename_i hc
      obtain ⟨rfl,_⟩:=hc
      rw[he]
      exact ⟨hl.symm,rfl,rfl⟩
    · rename_i hc
      rw[if_neg hc]at hd
      exact ⟨CE (Ff hj.2 hd) (fun _ _ _ => .inr trivial),rfl,rfl⟩
  cell:=fun _ _ _ _=>rfl
  block:=fun _ _ _=>rfl
  vQ:=fun b x _ ho=>by
    obtain ⟨j,f,g1,g2,g3⟩:=ho
    rw[mP]at g2
    split at g2
    · rename_i hc
      obtain ⟨rfl,_⟩:=hc
      exact ⟨i,f,g1,by rw[he]; exact g2,g3⟩
    · exact ⟨j,f,g1,g2,g3⟩
  ext:=rfl
  arr:=fun b arr e fz hb=>⟨arr,fz,hb,rfl⟩

theorem Wg (wf:WF w h c) {i:Nat} {cs ds:List V} (he:h.at i = .cells cs) (hl:ds.length=cs.length) (DW:nY w (h.set i (.cells ds)) c i (.cells ds)):WF w (h.set i (.cells ds)) c where
  lay:=wf.rC (IK he hl)
  xG:=fun b x ho he'=>by
    obtain ⟨j,f,g1,g2,g3⟩:=ho
    refine wf.xG b x ?_ he'
    rw[mP]at g2
    split at g2
    · rename_i hc
      obtain ⟨rfl,_⟩:=hc
      exact ⟨i,f,g1,by rw[he]; exact g2,g3⟩
    · exact ⟨j,f,g1,g2,g3⟩
  o5:=wf.o5
  obj:=fun j hj=>by
    rw[mP]
    split
    · rename_i hc
      obtain ⟨rfl,_⟩:=hc
      exact DW
    · have ho:=wf.obj j (by simpa using hj)
      by_cases hv:(h.at j).live
      · exact ho.keep (IK he hl) (fun _ _=>rfl) rfl rfl
      · have h0:h.at j = .free∨h.at j = .dead:=by revert hv; cases h.at j <;> simp[bR.live]
        rcases h0 with h0|h0 <;> rw[h0] <;> trivial
  inj:=fun j k b hj hk h1 h2=>by
    have key:∀j,(ay.at (h.set i (.cells ds)) j).live→(h.at j).live:=fun j hj=>by
      rw[mP]at hj
      split at hj
      · rename_i hc
        obtain ⟨rfl,_⟩:=hc
        rw[he]; trivial
      · exact hj
    exact wf.inj j k b (key j hj) (key k hk) h1 h2

theorem Lq {i:Nat} {o':bR} (hf:∀f,(h.at i).from_ f=some 0) (T2:∀f,o'.from_ f=some 0) (tw:(h.at i).ir o') (lp:o' ≠ .free):Ext w h c w (h.set i o') c where
  os:=rfl
  tape:=rfl
  output:=rfl
  size:=Nat.le_refl _
  used:=fun j hj=>⟨by simpa using hj.1,by rw[mP]; split; exact lp; exact hj.2⟩
  same:=fun j hj hd=>by
    rw[mP]at hd ⊢
    split
    · rename_i hc
      obtain ⟨rfl,_⟩:=hc
      exact ⟨tw,rfl,rfl⟩
    · rename_i hc
      rw[if_neg hc]at hd
      exact ⟨CE (Ff hj.2 hd) (fun _ _ _ => .inr trivial),rfl,rfl⟩
  cell:=fun _ _ _ _=>rfl
  block:=fun _ _ _=>rfl
  vQ:=fun b x _ ho=>by
    obtain ⟨j,f,g1,g2,g3⟩:=ho
    rw[mP]at g2
    split at g2
    · rename_i hc
      obtain ⟨rfl,_⟩:=hc
      rw[T2]at g2
      cases g2
      exact ⟨i,0,g1,hf _,g3⟩
    · exact ⟨j,f,g1,g2,g3⟩
  ext:=rfl
  arr:=fun b arr e fz hb=>⟨arr,fz,hb,rfl⟩

theorem Zg (wf:WF w h c) {i:Nat} {o':bR} (hf:∀f,(h.at i).from_ f=some 0) (T2:∀f,o'.from_ f=some 0) (tw:(h.at i).ir o') (lp:o' ≠ .free) (DW:nY w (h.set i o') c i o'):WF w (h.set i o') c where
  lay:=wf.rC (Lq hf T2 tw lp)
  xG:=fun b x ho he'=>by
    obtain ⟨j,f,g1,g2,g3⟩:=ho
    refine wf.xG b x ?_ he'
    rw[mP]at g2
    split at g2
    · rename_i hc
      obtain ⟨rfl,_⟩:=hc
      rw[T2]at g2
      cases g2
      exact ⟨i,0,g1,hf _,g3⟩
    · exact ⟨j,f,g1,g2,g3⟩
  o5:=wf.o5
  obj:=fun j hj=>by
    rw[mP]
    split
    · rename_i hc
      obtain ⟨rfl,_⟩:=hc
      exact DW
    · have ho:=wf.obj j (by simpa using hj)
      by_cases hv:(h.at j).live
      · exact ho.keep (Lq hf T2 tw lp) (fun _ _=>rfl) rfl rfl
      · have h0:h.at j = .free∨h.at j = .dead:=by revert hv; cases h.at j <;> simp[bR.live]
        rcases h0 with h0|h0 <;> rw[h0] <;> trivial
  inj:=fun j k b hj hk h1 h2=>by
    have key:∀j,(ay.at (h.set i o') j).live→(h.at j).live:=fun j hj=>by
      rw[mP]at hj
      split at hj
      · rename_i hc
        obtain ⟨rfl,_⟩:=hc
        exact sR (hf 0)
      · exact hj
    exact wf.inj j k b (key j hj) (key k hk) h1 h2

theorem qS:∀(l:List (Nat × Nat × Ty × Bool)) (st:St) (c:jZ) (a:Act),Gw w c st a→∃c',Gw w c' (zZ l st) a∧Ext w st.hp c w (zZ l st).hp c'
  | [],st,c,a,ir=>⟨c,ir, .refl _ _ _⟩
  | (i,o,T,rw)::l,st,c,a,ir=>by
    simp only[zZ]
    split
    · rename_i cs By
      split
      · rename_i ho
        obtain ⟨c',k1,k2,k3⟩:=Qd ir.wf T rw
        have hi:=ay.gp By (by simp)
        have RP:ay.at (st.hp ++ [zN T rw]) i = .cells cs:=by rw[kN hi]; exact By
        have e:st.hp.set i (.cells (cs.set o (wi T rw st.hp.length))) ++ [zN T rw]=(st.hp ++ [zN T rw]).set i (.cells (cs.set o (wi T rw st.hp.length))):=by
          rw[List.set_append_left _ _ hi]
        rw[e]
        have hl:(cs.set o (wi T rw st.hp.length)).length=cs.length:=by simp
        have x1:=IK (w:=w) (c:=c') RP hl
        have DW:=k1.obj i (by simp; omega)
        rw[RP]at DW
        obtain ⟨b,arr,el,g1,g2,g3⟩:=DW
        have w1:=Wg k1 RP hl (by
          refine ⟨b,arr,el,g1,g2,?_⟩
          have g3':=g3.mono x1
          refine ⟨by simpa using g3'.1,fun j v d hv hd => ?_⟩
          rw[List.getElem?_set]at hv
          by_cases hj:o=j
          · subst hj
            rw[if_pos rfl]at hv
            split at hv
            · cases hv
              have rd:=g3.getD o undef
              rw[ho,List.getD,hd]at rd
              cases rd
              exact k3.mono x1
            · cases hv
          · rw[if_neg hj]at hv
            exact g3'.2 j v d hv hd)
        have x2:=k2.trans x1
        obtain ⟨c2,s2,x3⟩:=qS l ⟨st.fr,(st.hp ++ [zN T rw]).set i (.cells (cs.set o (wi T rw st.hp.length)))⟩ c' a ⟨w1,ir.fr.mono x2⟩
        exact ⟨c2,s2,x2.trans x3⟩
      · exact qS l st c a ir
    · rename_i v By
      split
      · obtain ⟨c',k1,k2,k3⟩:=Qd ir.wf T rw
        have hi:=ay.gp By (by simp)
        have RP:ay.at (st.hp ++ [zN T rw]) i = .kq .cw:=by rw[kN hi]; exact By
        have e:st.hp.set i (.kq (wi T rw st.hp.length)) ++ [zN T rw]=(st.hp ++ [zN T rw]).set i (.kq (wi T rw st.hp.length)):=by
          rw[List.set_append_left _ _ hi]
        rw[e]
        have hf:∀f,(ay.at (st.hp ++ [zN T rw]) i).from_ f=some 0:=fun f=>by rw[RP]; rfl
        have tw:(ay.at (st.hp ++ [zN T rw]) i).ir (.kq (wi T rw st.hp.length)):=by rw[RP]; trivial
        have x1:=Lq (w:=w) (c:=c') hf (o' := .kq (wi T rw st.hp.length)) (fun _=>rfl) tw (by simp)
        have DW:=k1.obj i (by simp; omega)
        rw[RP]at DW
        obtain ⟨b,p,d,g1,g2,g3,g4⟩:=DW
        have w1:=Zg k1 hf (o' := .kq (wi T rw st.hp.length)) (fun _=>rfl) tw (by simp) (by
          cases g4
          exact ⟨b,p,_,g1,g2,g3,k3.mono x1⟩)
        have x2:=k2.trans x1
        obtain ⟨c2,s2,x3⟩:=qS l ⟨st.fr,(st.hp ++ [zN T rw]).set i (.kq (wi T rw st.hp.length))⟩ c' a ⟨w1,ir.fr.mono x2⟩
        exact ⟨c2,s2,x2.trans x3⟩
      · exact qS l st c a ir
    · exact qS l st c a ir

theorem RQ {w0:World} {h0:ay} {c0:jZ} {st:St} {a:Act} (ir:Gw w c st a) (x:Ext w0 h0 c0 w st.hp c) (hm:h0.length≤200) (hint:Hint) :
    ∃c',Gw w c' (norm h0.length hint st) a∧Ext w0 h0 c0 w (norm h0.length hint st).hp c':=by
  obtain ⟨c,ir,x⟩:∃c',Gw w c' (SA h0.length hint ⟨C7 hint.live hint.drop st.fr,st.hp⟩) a∧Ext w0 h0 c0 w (SA h0.length hint ⟨C7 hint.live hint.drop st.fr,st.hp⟩).hp c':=by
    unfold SA
    split
    · exact ⟨c,⟨ir.wf,Gz ir.fr _ _⟩,x⟩
    · exact Lp (st:=⟨C7 hint.live hint.drop st.fr,st.hp⟩) ⟨ir.wf,Gz ir.fr _ _⟩ x hm
  obtain ⟨c1,s1,x1⟩:=Ad hint.own _ c a ir
  obtain ⟨c2,s2,x2⟩:=Dk hint.rows _ c1 a s1
  obtain ⟨c3,s3,x3⟩:=qS hint.cells _ c2 a s2
  exact Lp s3 (((x.trans x1).trans x2).trans x3) hm

theorem RR {w0:World} {h0:ay} {c0:jZ} {st:St} {a:Act} (ir:Gw w c st a) (x:Ext w0 h0 c0 w st.hp c) (hm:h0.length≤200) (hint:Hint) :
    ∃c',Gw w c' (trim h0.length hint st) a∧Ext w0 h0 c0 w (trim h0.length hint st).hp c' :=
  Lp (st:=⟨C7 hint.out [] st.fr,st.hp⟩) ⟨ir.wf,Gz ir.fr _ _⟩ x hm


theorem Lr:∀(ts:List Nat) (vs:List V) (ds:List Value),ts.length=ds.length→cz w h c vs ds→cz w h c (Rf tt ts vs) ds
  | [],vs,ds,hl,r=>by
    have:ds = []:=List.eq_nil_of_length_eq_zero hl.symm
    subst this
    exact .nil
  | t::ts, [],ds,hl,r=>by
    have:ds = []:=List.eq_nil_of_length_eq_zero (by simpa using r.1.symm)
    subst this
    simp at hl
  | t::ts,v::vs, [],hl,r=>by simp at hl
  | t::ts,v::vs,d::ds,hl,r => .cons (Nu r.head) (Lr ts vs ds (by simpa using hl) r.tail)
end

section
variable {P:Program} {tt:dB} {R:Type}

def tA (fr:List V) (log:List (Nat × V)):List V:=log.foldr (fun x f=>f.set x.1 x.2) fr
theorem xN (fr:List V):∀log:List (Nat × V),(tA fr log).length=fr.length
  | []=>rfl
  | x::log=>by simp[tA]; exact xN fr log

theorem beqF (a b:Nat):Nat.beq a b=decide (a=b):=by
  cases hb:Nat.beq a b with
  | true=>simp[Nat.eq_of_beq_eq_true hb]
  | false=>simp[Nat.ne_of_beq_eq_false hb]

theorem look_eq (fr:List V) (t:Nat) (d:V) (hd:fr.getD t .undef=d):∀log:List (Nat × V),(∀x∈log,x.1<fr.length)→FZ log t d=(tA fr log).getD t .undef
  | [],_=>hd.symm
  | x::log,h=>by
    have ih:=look_eq fr t d hd log fun y hy=>h y (by simp[hy])
    have hx:=h x (by simp)
    have hl:=xN fr log
    have e:tA fr (x::log)=(tA fr log).set x.1 x.2:=rfl
    have e2:FZ (x::log) t d=cond (Nat.beq x.1 t) x.2 (FZ log t d):=rfl
    rw[e,e2,beqF,ih]
    by_cases Oj:x.1=t
    · subst Oj
      simp[List.getD,List.getElem?_set_self,hl,hx]
    · simp[Oj,List.getD,List.getElem?_set_ne Oj]

theorem Qe {β:Type} (t:Nat) (d:V) (k:V→β):∀log:List (Nat × V),KM log t d k=k (FZ log t d)
  | []=>rfl
  | x::log=>by
    have ih:=Qe t d k log
    have e1:KM (x::log) t d k=cond (Nat.beq x.1 t) (k x.2) (KM log t d k):=rfl
    have e2:FZ (x::log) t d=cond (Nat.beq x.1 t) x.2 (FZ log t d):=rfl
    rw[e1,e2,ih]
    cases Nat.beq x.1 t <;> rfl

noncomputable def xO (log:List (Nat × V)):Nat→List V→List V
  | _, [] => []
  | i,v::r=>FZ log i v::xO log (i+1) r
theorem JA {β:Type} (log:List (Nat × V)):∀(fr:List V) (i:Nat) (k:List V→β),
    List.rec (motive:=fun _=>Nat→(List V→β)→β) (fun _ k=>k []) (fun v _ ih i k=>KM log i v fun v'=>ih (i+1) fun r=>k (v'::r)) fr i k=k (xO log i fr)
  | [],_,_=>rfl
  | v::fr,i,k=>by
    show KM log i v (fun v'=>List.rec (motive:=fun _=>Nat→(List V→β)→β) (fun _ k=>k []) (fun v _ ih i k=>KM log i v fun v'=>ih (i+1) fun r=>k (v'::r)) fr (i+1) fun r=>k (v'::r))=_
    rw[Qe,JA log fr (i+1)]
    rfl
theorem F1 (log:List (Nat × V)):∀(fr:List V) (i j:Nat),(xO log i fr)[j]? = (fr[j]?).map fun v=>FZ log (i+j) v
  | [],_,_=>by simp[xO]
  | v::fr,i,0=>by simp[xO]
  | v::fr,i,j+1=>by
    simp only[xO,List.getElem?_cons_succ]
    rw[F1 log fr (i+1) j]
    congr 1
    funext v
    congr 1
    omega
theorem Ut {β:Type} (fr:List V) (log:List (Nat × V)) (hl:∀x∈log,x.1<fr.length) (k:List V→β):Rc log fr k=k (tA fr log):=by
  have h1:Rc log fr k=k (xO log 0 fr):=JA log fr 0 k
  rw[h1]
  congr 1
  apply List.ext_getElem?
  intro j
  rw[F1,Nat.zero_add]
  cases hj:fr[j]? with
  | none =>
    have:(tA fr log)[j]? = none:=by
      rw[List.getElem?_eq_none_iff,xN]
      exact List.getElem?_eq_none_iff.1 hj
    rw[this]; rfl
  | some v =>
    have ln:j<(tA fr log).length:=by rw[xN]; exact (List.getElem?_eq_some_iff.1 hj).1
    have h2:=look_eq fr j v (by simp[List.getD,hj]) log hl
    rw[Option.map_some,h2]
    simp[List.getD,List.getElem?_eq_getElem ln]

theorem evF_eq (fr:List V) (log:List (Nat × V)) (hl:∀x∈log,x.1<fr.length):evF fr log=ev (tA fr log):=by
  funext x
  cases x with
  | tmp t=>exact look_eq fr t _ rfl log hl
  | _=>rfl

theorem SZ (fr:List V) (log:List (Nat × V)) (dst:Option Nat) (v:V):tA fr (Nb fr.length log dst v)=mj (tA fr log) dst v:=by
  cases dst with
  | none=>rfl
  | some d =>
    unfold Nb mj
    simp only
    cases h:Nat.blt d fr.length with
    | true=>rfl
    | false =>
      have:¬d<fr.length:=by
        intro h2
        have h3:Nat.blt d fr.length=true:=by simpa using h2
        rw[h3]at h
        cases h
      simp only[cond_false]
      rw[List.set_eq_of_length_le (by rw[xN]; omega)]
theorem S0 {fr:List V} {log:List (Nat × V)} (hl:∀x∈log,x.1<fr.length) (dst:Option Nat) (v:V):∀x∈Nb fr.length log dst v,x.1<fr.length:=by
  cases dst with
  | none=>exact hl
  | some d =>
    unfold Nb
    simp only
    cases h:Nat.blt d fr.length with
    | true =>
      intro x hx
      rcases List.mem_cons.1 hx with rfl|hx
      · simpa using h
      · exact hl x hx
    | false=>exact hl

theorem Wh {E:Env R} {drawn:Option Nat} {id:Nat} {o:Oper} {st:St} {k:St→Option R}:yN tt E drawn id o st k=Vz tt E drawn id o (ev st.fr) st.hp fun v h=>k ⟨mj st.fr o.dst v,h⟩:=by
  unfold yN Vz
  cases fj tt o.op <;> rfl

theorem Uu {all:List Oper} {o:Oper} {fr:List V} {log:List (Nat × V)} {hp:ay} (hl:∀x∈log,x.1<fr.length) {run skip:St→Option R} {runF Z7:List (Nat × V)→Option R}
    (hr:∀log,(∀x∈log,x.1<fr.length)→runF log=run ⟨tA fr log,hp⟩) (hs:∀log,(∀x∈log,x.1<fr.length)→Z7 log=skip ⟨tA fr log,hp⟩) :
    Rd all o fr log runF Z7=uY all o ⟨tA fr log,hp⟩ run skip:=by
  unfold Rd uY
  cases o.guard with
  | none=>exact hr log hl
  | some jw =>
    obtain ⟨j,want⟩:=jw
    simp only
    cases (all[j]?).bind (·.dst)with
    | none=>rfl
    | some d =>
      simp only
      rw[look_eq fr d _ rfl log hl]
      cases hb:(tA fr log).getD d .undef with
      | bool b =>
        have hd:d<fr.length:=by
          rcases Nat.lt_or_ge d fr.length with h|h
          · exact h
          · rw[←xN fr log]at h
            simp[List.getD,List.getElem?_eq_none h]at hb
        have h2:∀v:V,∀x∈(d,v)::log,x.1<fr.length:=fun v x hx=>by
          rcases List.mem_cons.1 hx with rfl|hx
          · exact hd
          · exact hl x hx
        simp only
        rw[hr _ (h2 _),hs _ (h2 _),hr _ (h2 _),hs _ (h2 _)]
        rfl
      | tuple vs =>
        cases vs with
        | nil=>exact hs log hl
        | cons _ _=>rfl
      | _=>rfl

theorem OH {E:Env R} {drawn:Option Nat} {all:List Oper} {fr:List V}:∀(l:List Oper) (id:Nat) (log:List (Nat × V)) (hp:ay) (k:St→Option R),(∀x∈log,x.1<fr.length) →
    Re tt E drawn all fr.length fr l id log hp k=KJ tt E drawn all l id ⟨tA fr log,hp⟩ k
  | [],_,log,hp,k,hl=>by
    simp only[Re,KJ]
    rw[Ut fr log hl,Cw]
  | o::l,id,log,hp,k,hl=>by
    simp only[Re,KJ,C5]
    refine Uu hl (fun log hl => ?_) fun log hl => ?_
    · rw[Wh,evF_eq fr log hl]
      congr 1
      funext v h
      rw[Cw,OH l _ _ _ _ (S0 hl o.dst v),SZ]
    · rw[OH l _ _ _ _ (S0 hl o.dst _),SZ]

theorem regionF_eq {E:Env R} {ops:List Oper} {draw:Bool} {st:St} {k:St→Option R}:regionF tt E ops draw st k=Fc tt E ops draw st k:=by
  unfold regionF Fc
  simp only
  have h:=fun (dr:Option Nat) (hp:ay)=>OH (tt:=tt) (E:=E) (drawn:=dr) (all:=ops) (fr:=st.fr) ops st.hp.length [] hp k (by simp)
  rw[h,h]
  rfl
end

section
variable {P:Program} {tt:dB} {w w':World} {h h':ay} {c c':jZ} {R:Type}

def Ex.out:Ex→Exit
  | .normal => .normal
  | .exit id => .exit id
  | .goto l => .goto l
  | .ret => .ret

theorem Uv {a b:Option R} {r:R} (h:anyT a b=some r):a=some r∧b=some r:=by
  unfold anyT at h
  split at h
  · rename_i e; exact ⟨h,e▸h⟩
  · cases h

theorem Uw {b0:Code} {Q:Exit→Act→World→Prop} (I:Nat→Act→World→Prop) (h0:∀a w, ¬I 0 a w) (round:∀n a w,I (n+1) a w→b0.wp P (Exit.then (I n) Q) a w) {n:Nat} {a:Act} {w:World} (hI:I n a w) :
    (Code.loop b0).wp P Q a w:=by
  intro b k cs
  have key:∀n a w,I n a w→∃e a' w',Q e a' w'∧Arrives P (lone (b.at a (.code b0 :: .inLoop b0::k)) cs w) b k cs e a' w':=by
    intro n
    induction n with
    | zero=>exact fun a w h=>(h0 a w h).elim
    | succ n ih =>
      intro a w hI
      obtain ⟨e,a1,w1,hq,A7⟩:=round n a w hI b (.inLoop b0::k) cs
      cases e with
      | normal =>
        obtain ⟨e2,a2,w2,VF,harr2⟩:=ih a1 w1 hq
        exact ⟨e2,a2,w2,VF, .of_steps (Steps.trans A7 (.one step_inLoop)) harr2⟩
      | exit id=>exact ⟨_,a1,w1,hq, .pass (x := .inLoop b0) rfl (fun _ _ => .inl (by simp)) A7⟩
      | goto l=>exact ⟨_,a1,w1,hq, .pass (x := .inLoop b0) rfl (fun _ _ => .inl (by simp)) A7⟩
      | ret=>exact ⟨_,a1,w1,hq, .pass (x := .inLoop b0) rfl (fun _ _ => .inl (by simp)) A7⟩
      | panic ch=>exact ⟨_,a1,w1,hq, .pass (x := .inLoop b0) rfl (fun _ _ => .inl (by simp)) A7⟩
      | outgrown=>exact ⟨_,a1,w1,hq, .pass (x := .inLoop b0) rfl (fun _ _ => .inl (by simp)) A7⟩
  obtain ⟨e,a',w',hq,A7⟩:=key n a w hI
  exact ⟨e,a',w',hq, .of_steps (.one step_loop) A7⟩

def cG (tt:dB) (E:Env R) (L:Nat→Option (Hint × cd R)) (m:Nat) (a:Code):Prop :=
  ∀hint ls,L (keyOf a)=some (hint,ls)→∀st (K:Ex→St→Option R) r,ls st K=some r→∃n,BT (kL tt E L m a) (norm m hint) n st (fun e st=>K e (trim m hint st))=some r

def aO:Code→List Code
  | .seq a b=>aO a++aO b
  | .cond _ a b=>aO a++aO b
  | .block _ a=>aO a
  | .loop a=>a::aO a
  | _ => []

theorem Qf (body:cd R):∀n st K,SB body n st K=BT body id n st K
  | 0,_,_=>rfl
  | n+1,st,K=>by
    simp only[SB,BT]
    congr 1
    funext e sO
    cases e <;> first|rfl|exact Qf body n sO K

section
variable {w0:World} {h0:ay} {c0:jZ} {D:List Deferred}

structure At (w0:World) (h0:ay) (c0:jZ) (D:List Deferred) (w:World) (st:St) (a:Act) (c:jZ):Prop where
  ir:Gw w c st a
  ext:Ext w0 h0 c0 w st.hp c
  defers:a.defers=D

def Ends (w0:World) (h0:ay) (c0:jZ) (D:List Deferred) (K:Ex→St→Option R) (r:R) (Q:Exit→Act→World→Prop):Prop :=
  ∀e st a w c,At w0 h0 c0 D w st a c→K e st=some r→Q e.out a w

theorem nc (T:xh P tt) (hm:P.follows .mixedOrders=true) {E:Env R} (hE:po P E) {L:Nat→Option (Hint × cd R)} (hlen:h0.length≤200) {r:R}:∀(code:Code),(∀a∈aO code,cG tt E L h0.length a) →
    ∀(Q:Exit→Act→World→Prop) (K:Ex→St→Option R) (st:St) (a:Act) (w:World) (c:jZ),At w0 h0 c0 D w st a c→kL tt E L h0.length code st K=some r→Ends w0 h0 c0 D K r Q→code.wp P Q a w
  | .skip,_,Q,K,st,a,w,c,at_,hk,he=>wp_skip (he .normal st a w c at_ hk)
  | .region id ops draw,_,Q,K,st,a,w,c,at_,hk,he=>by
    simp only[kL,regionF_eq]at hk
    have go:V2 w c st a (fun sO=>K .normal sO) r (Q .normal):=fun a' w' sO c' s x d k=>he .normal sO a' w' c' ⟨s,at_.ext.trans x,d.trans at_.defers⟩ k
    cases draw with
    | true=>exact RO T hm hE hk at_.ir go
    | false=>exact OB T hE hk at_.ir go
  | .seq x y,hl,Q,K,st,a,w,c,at_,hk,he=>by
    simp only[kL]at hk
    refine wp_seq (nc T hm hE hlen x (fun b hb=>hl b (by simp[aO,hb])) _ _ st a w c at_ hk fun e sO a' w' c' at' rX => ?_)
    cases e with
    | normal=>exact nc T hm hE hlen y (fun b hb=>hl b (by simp[aO,hb])) Q K sO a' w' c' at' rX he
    | exit i=>exact he (.exit i) sO a' w' c' at' rX
    | goto l=>exact he (.goto l) sO a' w' c' at' rX
    | ret=>exact he .ret sO a' w' c' at' rX
  | .cond cnd x y,hl,Q,K,st,a,w,c,at_,hk,he=>by
    simp only[kL]at hk
    split at hk <;> try (first|cases hk)
    · rename_i t ht
      have rc:=RH at_.ir.fr cnd
      rw[ht]at rc
      generalize hv:a.eval cnd=v at rc
      cases rc
      refine wp_cond hv ?_
      cases t with
      | true=>exact nc T hm hE hlen x (fun b hb=>hl b (by simp[aO,hb])) Q K st a w c at_ hk he
      | false=>exact nc T hm hE hlen y (fun b hb=>hl b (by simp[aO,hb])) Q K st a w c at_ hk he
    · rename_i ht
      have rc:=RH at_.ir.fr cnd
      rw[ht]at rc
      generalize hv:a.eval cnd=v at rc
      cases rc with
      | Fv t =>
        refine wp_cond hv ?_
        obtain ⟨h1,h2⟩:=Uv hk
        cases t with
        | true=>exact nc T hm hE hlen x (fun b hb=>hl b (by simp[aO,hb])) Q K st a w c at_ h1 he
        | false=>exact nc T hm hE hlen y (fun b hb=>hl b (by simp[aO,hb])) Q K st a w c at_ h2 he
  | .block id x,hl,Q,K,st,a,w,c,at_,hk,he=>by
    simp only[kL]at hk
    refine wp_block (nc T hm hE hlen x (fun b hb=>hl b (by simp[aO,hb])) _ _ st a w c at_ hk fun e sO a' w' c' at' rX => ?_)
    cases e with
    | normal=>exact he .normal sO a' w' c' at' rX
    | exit i =>
      simp only[Ex.out,Exit.inBlock]
      simp only at rX
      split
      · rename_i hi
        rw[if_pos hi]at rX
        exact he .normal sO a' w' c' at' rX
      · rename_i hi
        rw[if_neg hi]at rX
        exact he (.exit i) sO a' w' c' at' rX
    | goto l=>exact he (.goto l) sO a' w' c' at' rX
    | ret=>exact he .ret sO a' w' c' at' rX
  | .loop x,hl,Q,K,st,a,w,c,at_,hk,he=>by
    have hx:∀b∈aO x,cG tt E L h0.length b:=fun b hb=>hl b (by simp[aO,hb])
    have main:∀(f g:St→St),(∀w st a c,At w0 h0 c0 D w st a c→∃c',At w0 h0 c0 D w (f st) a c')→(∀w st a c,At w0 h0 c0 D w st a c→∃c',At w0 h0 c0 D w (g st) a c') →
        ∀n st a w c,At w0 h0 c0 D w st a c→BT (kL tt E L h0.length x) f n st (fun e st=>K e (g st))=some r→(Code.loop x).wp P Q a w:=by
      intro f g hf hg n st a w c at_ hk
      refine Uw (fun n a w=>∃st c,At w0 h0 c0 D w st a c∧BT (kL tt E L h0.length x) f n st (fun e st=>K e (g st))=some r) (fun a w => ?_) (fun n a w => ?_) ⟨st,c,at_,hk⟩
      · rintro ⟨st,c,_,hk⟩
        cases hk
      · rintro ⟨st,c,at_,hk⟩
        simp only[BT]at hk
        refine nc T hm hE hlen x hx _ _ st a w c at_ hk fun e sO a' w' c' at' rX => ?_
        cases e with
        | normal =>
          obtain ⟨c2,at2⟩:=hf w' sO a' c' at'
          exact ⟨f sO,c2,at2,rX⟩
        | exit i=>obtain ⟨c2,at2⟩:=hg w' sO a' c' at'; exact he (.exit i) _ a' w' c2 at2 rX
        | goto l=>obtain ⟨c2,at2⟩:=hg w' sO a' c' at'; exact he (.goto l) _ a' w' c2 at2 rX
        | ret=>obtain ⟨c2,at2⟩:=hg w' sO a' c' at'; exact he .ret _ a' w' c2 at2 rX
    simp only[kL]at hk
    split at hk
    · rename_i hint ls hL
      have Z8:∀w st a c,At w0 h0 c0 D w st a c→∃c',At w0 h0 c0 D w (norm h0.length hint st) a c':=fun w st a c at_=>by
        obtain ⟨c',s',x'⟩:=RQ at_.ir at_.ext hlen hint
        exact ⟨c',s',x',at_.defers⟩
      have htrim:∀w st a c,At w0 h0 c0 D w st a c→∃c',At w0 h0 c0 D w (trim h0.length hint st) a c':=fun w st a c at_=>by
        obtain ⟨c',s',x'⟩:=RR at_.ir at_.ext hlen hint
        exact ⟨c',s',x',at_.defers⟩
      obtain ⟨n,hn⟩:=hl x (by simp[aO]) hint ls hL _ _ _ hk
      obtain ⟨c',at'⟩:=Z8 w st a c at_
      exact main _ _ Z8 htrim n _ a w c' at' hn
    · rw[Qf]at hk
      exact main id id (fun w st a c h=>⟨c,h⟩) (fun w st a c h=>⟨c,h⟩) 70 st a w c at_ hk
  | .exit id,_,Q,K,st,a,w,c,at_,hk,he=>wp_exit (he (.exit id) st a w c at_ hk)
  | .ret,_,Q,K,st,a,w,c,at_,hk,he=>wp_ret (he .ret st a w c at_ hk)
  | .label _,_,_,_,_,_,_,_,_,hk,_=>by simp[kL]at hk
  | .goto _,_,_,_,_,_,_,_,_,hk,_=>by simp[kL]at hk
  | .scope _,_,_,_,_,_,_,_,_,hk,_=>by simp[kL]at hk
  | .refuse _,_,_,_,_,_,_,_,_,hk,_=>by simp[kL]at hk
end

theorem GA (T:xh P tt) {st:St} {a:Act} (ir:Gw w c st a):∀(rs:List ResultVar) {k:List V→Option R} {r:R},Pu tt st rs k=some r →
    ∃vs ds,k vs=some r∧cz w st.hp c vs ds∧ds.length=rs.length∧(rs.mapM (m:=Sem) fun | .tmp t=>pure (a.tmps.getD t undef) | .cell b t=>do loadVar t (←asAddr (a.tmps.getD b undef))).run P w = .ok ds w
  | [],k,r,hk=>⟨[], [],hk, .nil,rfl,by simp⟩
  | .tmp t::rs,k,r,hk=>by
    simp only[Pu]at hk
    obtain ⟨vs,ds,h1,h2,h3,h4⟩:=GA T ir rs hk
    refine ⟨_,a.tmps.getD t undef::ds,h1, .cons ?_ h2,by simp[h3],?_⟩
    · have:=ir.fr.getD t undef
      simpa [List.getD,Array.getD_eq_getD_getElem?]using this
    · simp only[List.mapM_cons,Sem.run_bind,Sem.run_pure,Result.andThen_ok,h4]
  | .cell b t::rs,k,r,hk=>by
    simp only[Pu]at hk
    split at hk <;> try (first|cases hk)
    rename_i i o hp
    split at hk <;> try (first|cases hk)
    rename_i cs By
    have hl:=KY (P:=P) T ir.wf (t:=t) (a := .ptr i o) (a':=a.tmps.getD b undef) (lim:=none) (k:=fun v=>Pu tt st rs fun vs=>k (v::vs)) (r:=r) (by
        have:=ir.fr.getD b undef
        rw[hp]at this
        simpa [List.getD,Array.getD_eq_getD_getElem?]using this) (by simp only[DO,if_true,By]; exact hk)
    obtain ⟨v,v',g1,g2,g3⟩:=hl
    obtain ⟨vs,ds,h1,h2,h3,h4⟩:=GA T ir rs g3
    refine ⟨_,v'::ds,h1, .cons g2 h2,by simp[h3],?_⟩
    have hb:(do loadVar t (←asAddr (a.tmps.getD b undef)):Sem Value).run P w = .ok v' w:=by
      have rb:=ir.fr.getD b undef
      rw[hp]at rb
      have e:a.tmps.toList.getD b undef=a.tmps.getD b undef:=by simp[List.getD,Array.getD_eq_getD_getElem?]
      rw[e]at rb
      generalize a.tmps.getD b undef=q at rb g1
      cases rb with
      | ptr hu hv =>
        obtain ⟨b',rfl,_⟩:=hv
        simpa [Instr.loadAt,Instr.sureAddr,asAddr]using g1
    simp only[List.mapM_cons,Sem.run_bind,hb,Sem.run_pure,Result.andThen_ok,h4]

theorem MG {w0:World} {h0:ay} {c0:jZ} {ts:List Nat} {keep:Bool} {vs:List V} {ds:List Value} (wf:WF w h c) (r:cz w h c vs ds) (x:Ext w0 h0 c0 w h c) (hm:h0.length≤200) (hts:ts.length=ds.length) {k:V→ay→Option R} {q:R}
    (hk:Km tt ts h0.length keep vs h k=some q):∃v h' c',WF w h' c'∧Ext w0 h0 c0 w h' c'∧dw w h' c' v (if h:ds.length=1 then ds[0]else .tuple ds.toArray)∧k v h'=some q:=by
  unfold Km at hk
  have main:∀(ws:List V) (h1:ay),WF w h1 c→cz w h1 c ws ds→Ext w0 h0 c0 w h1 c →
      k (match V.xD (xx (reach h1 256 (List.range h0.length++V.sc ws) [])) ws with | [v]=>v|l => .tuple l) (h1.pick (reach h1 256 (List.range h0.length++V.sc ws) []))=some q →
      ∃v h' c',WF w h' c'∧Ext w0 h0 c0 w h' c'∧dw w h' c' v (if h:ds.length=1 then ds[0]else .tuple ds.toArray)∧k v h'=some q:=by
    intro ws h1 wf1 r1 x1 hk
    obtain ⟨g1,g2⟩:=Jz h1 (m:=h0.length) (n:=256) (by omega) (V.sc ws)
    have rr:=F0 (ord:=reach h1 256 (List.range h0.length++V.sc ws) []) r1
    refine ⟨_,_,_,Hs wf1 g1,Qc x1 g2,?_,hk⟩
    have hlen:=rr.1
    generalize V.xD (xx (reach h1 256 (List.range h0.length++V.sc ws) [])) ws=us at rr hlen
    split
    · rename_i v
      have h1:ds.length=1:=by simpa using hlen.symm
      rw[dif_pos h1]
      exact rr.2 0 v _ rfl (List.getElem?_eq_getElem _)
    · rename_i lp
      have h1:¬ds.length=1:=fun e=>by
        rw[e]at hlen
        match us,hlen with
        | [v],_=>exact lp v rfl
      rw[dif_neg h1]
      exact .tuple (by simpa using hlen) fun j v d hv hd=>rr.2 j v d hv (by simpa using hd)
  cases keep with
  | true=>exact main vs h wf r x hk
  | false =>
    simp only[Bool.false_eq_true,if_false]at hk
    exact main _ _ (BZ _ _ wf) (Lr ts _ ds hts (Nt wf r)) (x.trans (Ab _ _)) hk

theorem bc (T:xh P tt) (hm:P.follows .mixedOrders=true) {E:Env R} (hE:po P E) {L:Nat→Option (Hint × cd R)} {g:Nat} {fn:Func} {code:Code} {keep:Bool} (hf:P.funcs[g]? = some fn) (hb:fn.body=some code)
    (hn:(fn.name == "runtime.NumGoroutine")=false) (hr:fn.results.size=fn.resultTypes.size) (m:Nat) (hl:∀a∈aO code,cG tt E L m a):Spec.VY P g m (iq tt E L keep fn code):=by
  refine Spec.VY.Y7 hf hn (by rw[hb]; rfl) fun vs h k r ZZ hk w c args wf ra => ?_
  subst ZZ
  refine calls_of_wp hf hb ?_
  unfold iq at hk
  split at hk
  · cases hk
  rename_i h200
  have hlen:h.length≤200:=by omega
  have hfr:cz w h c (vs++List.replicate (fn.ntmps - vs.length) .undef) (args++Array.replicate (fn.ntmps - args.size) undef).toList:=by
    have e:vs.length=args.size:=by simpa using ra.1
    rw[e]
    simpa using ra.append (cz.JP (fn.ntmps - args.size) undef)
  refine nc T hm hE (w0:=w) (h0:=h) (c0:=c) (D := []) hlen code hl _ _ _ _ w c ⟨⟨wf,hfr⟩, .refl _ _ _,rfl⟩ hk fun e st a w' c' at' rX => ?_
  have fin:Pu tt st fn.results.toList (fun vs=>Km tt fn.resultTypes.toList h.length keep vs st.hp k)=some r →
      a.defers = []∧∃v,(results fn a.tmps).run P w' = .ok v w'∧∃d,Ending.returned v=Ending.returned d∧∃u h' c',WF w' h' c'∧Ext w h c w' h' c'∧dw w' h' c' u d∧k u h'=some r:=by
    intro hk
    obtain ⟨vs,ds,g1,g2,g3,g4⟩:=GA T at'.ir _ hk
    obtain ⟨u,h',c2,k1,k2,k3,k4⟩:=MG at'.ir.wf g2 at'.ext hlen (by simp[g3,hr]) g1
    refine ⟨at'.defers,_,?_,_,rfl,u,h',c2,k1,k2,k3,k4⟩
    unfold results
    simp only[Sem.run_bind,Array.mapM_eq_mapM_toList,map_eq_pure_bind,Sem.run_pure]
    refine (congrArg (fun z:Result (List Value)=>(z.andThen fun a w'=>Result.ok a.toArray w').andThen fun a w'=>Result.ok (if h:a.size=1 then a[0]else Value.tuple a) w') g4).trans ?_
    simp
  cases e with
  | normal=>exact fin rX
  | ret=>exact fin rX
  | exit i=>cases rX
  | goto l=>cases rX
end

inductive eH where
  | undef|eC|cw|aS|n8|cJ|iface
  | Em (t:Nat) (k:IntKind) (n:Int)
  | int (k:IntKind)|bool|str
  | ptr (i o:Nat)
  | sl (T:Ty)|Mp (T:Ty) (i:Nat)
  | row (i:Nat)
  | map (i:Nat)
  | fn (f:Nat)
  deriving DecidableEq

def eH.den:eH→Type
  | .int _=>Int
  | .bool=>Bool
  | .str=>ak
  | .sl T=>List T.den
  | .Mp T _=>List T.den
  | .row _=>Nat
  | _=>Unit

def eH.enc:(p:eH)→p.den→V
  | .undef,_ => .undef
  | .eC,_ => .eC
  | .cw,_ => .cw
  | .aS,_ => .aS
  | .n8,_ => .n8
  | .cJ,_ => .cJ
  | .iface,_ => .iface
  | .Em t k n,_ => .Em t k n
  | .int k,(n:Int) => .int k n
  | .bool,(b:Bool) => .bool b
  | .str,(s:ak) => .str s
  | .ptr i o,_ => .ptr i o
  | .sl T,(l:List T.den) => .sl T l .no
  | .Mp T i,(l:List T.den) => .sl T l (.own i)
  | .row i,(n:Nat) => .row i n
  | .map i,_ => .map i
  | .fn f,_ => .func f [] []

def Wi (k:IntKind):V→Option Int | .int k' n=>if k'=k then some n else none|_=>none
def Wj:V→Option Bool | .bool b=>some b|_=>none
def Wl:V→Option ak | .str s=>some s|_=>none
def Wm (T:Ty):V→Option (List T.den) | .sl T' l .no=>if h:T'=T then some (h▸l)else none|_=>none
def Wn (T:Ty) (i:Nat):V→Option (List T.den) | .sl T' l (.own j)=>if h:T'=T then (if j=i then some (h▸l)else none)else none|_=>none
def Wo (i:Nat):V→Option Nat | .row j n=>if j=i then some n else none|_=>none
def Wp (i o:Nat):V→Option Unit | .ptr j q=>if j=i∧q=o then some ()else none|_=>none
def Wq (i:Nat):V→Option Unit | .map j=>if j=i then some ()else none|_=>none
def Wr (f:Nat):V→Option Unit | .func g [] []=>if g=f then some ()else none|_=>none
def Ws:V→Option Unit | .undef=>some ()|_=>none
def Wu:V→Option Unit | .eC=>some ()|_=>none
def Wv:V→Option Unit | .cw=>some ()|_=>none
def Ww:V→Option Unit | .aS=>some ()|_=>none
def Wx:V→Option Unit | .n8=>some ()|_=>none
def Wy:V→Option Unit | .cJ=>some ()|_=>none
def Wz:V→Option Unit | .iface=>some ()|_=>none
def WA (t:Nat) (k:IntKind) (n:Int):V→Option Unit | .Em t' k' n'=>if t'=t∧k'=k∧n'=n then some ()else none|_=>none

theorem WB {k:IntKind} {v:V} {x:Int} (h:Wi k v=some x):v = .int k x:=by
  unfold Wi at h
  split at h
  · split at h
    · rename_i e; subst e; cases h; rfl
    · cases h
  · cases h
theorem WC {v:V} {x:Bool} (h:Wj v=some x):v = .bool x:=by unfold Wj at h; split at h <;> first|(cases h; rfl)|cases h
theorem WD {v:V} {x:ak} (h:Wl v=some x):v = .str x:=by unfold Wl at h; split at h <;> first|(cases h; rfl)|cases h
theorem WE {T:Ty} {v:V} {x:List T.den} (h:Wm T v=some x):v = .sl T x .no:=by
  unfold Wm at h
  split at h
  · split at h
    · rename_i e; subst e; cases h; rfl
    · cases h
  · cases h
theorem WG {T:Ty} {i:Nat} {v:V} {x:List T.den} (h:Wn T i v=some x):v = .sl T x (.own i):=by
  unfold Wn at h
  split at h
  · split at h
    · rename_i e
      subst e
      split at h
      · rename_i e; subst e; cases h; rfl
      · cases h
    · cases h
  · cases h
theorem WH {i:Nat} {v:V} {x:Nat} (h:Wo i v=some x):v = .row i x:=by
  unfold Wo at h
  split at h
  · split at h
    · rename_i e; subst e; cases h; rfl
    · cases h
  · cases h
theorem WI {i o:Nat} {v:V} {x:Unit} (h:Wp i o v=some x):v = .ptr i o:=by
  unfold Wp at h
  split at h
  · split at h
    · rename_i e; obtain ⟨rfl,rfl⟩:=e; rfl
    · cases h
  · cases h
theorem WJ {i:Nat} {v:V} {x:Unit} (h:Wq i v=some x):v = .map i:=by
  unfold Wq at h
  split at h
  · split at h
    · rename_i e; subst e; rfl
    · cases h
  · cases h
theorem WK {f:Nat} {v:V} {x:Unit} (h:Wr f v=some x):v = .func f [] []:=by
  unfold Wr at h
  split at h
  · split at h
    · rename_i e; subst e; rfl
    · cases h
  · cases h
theorem WL {v:V} {x:Unit} (h:Ws v=some x):v = .undef:=by unfold Ws at h; split at h <;> first|rfl|cases h
theorem WM {v:V} {x:Unit} (h:Wu v=some x):v = .eC:=by unfold Wu at h; split at h <;> first|rfl|cases h
theorem WN {v:V} {x:Unit} (h:Wv v=some x):v = .cw:=by unfold Wv at h; split at h <;> first|rfl|cases h
theorem WO {v:V} {x:Unit} (h:Ww v=some x):v = .aS:=by unfold Ww at h; split at h <;> first|rfl|cases h
theorem WQ {v:V} {x:Unit} (h:Wx v=some x):v = .n8:=by unfold Wx at h; split at h <;> first|rfl|cases h
theorem WR {v:V} {x:Unit} (h:Wz v=some x):v = .iface:=by unfold Wz at h; split at h <;> first|rfl|cases h
theorem WS {t:Nat} {k:IntKind} {n:Int} {v:V} {x:Unit} (h:WA t k n v=some x):v = .Em t k n:=by
  unfold WA at h
  split at h
  · split at h
    · rename_i e; obtain ⟨rfl,rfl,rfl⟩:=e; rfl
    · cases h
  · cases h
theorem WT {v:V} {x:Unit} (h:Wy v=some x):v = .cJ:=by unfold Wy at h; split at h <;> first|rfl|cases h

def eH.dec:(p:eH)→V→Option p.den
  | .undef=>Ws
  | .eC=>Wu
  | .cw=>Wv
  | .aS=>Ww
  | .n8=>Wx
  | .cJ=>Wy
  | .iface=>Wz
  | .Em t k n=>WA t k n
  | .int k=>Wi k
  | .bool=>Wj
  | .str=>Wl
  | .ptr i o=>Wp i o
  | .sl T=>Wm T
  | .Mp T i=>Wn T i
  | .row i=>Wo i
  | .map i=>Wq i
  | .fn f=>Wr f

theorem eH.GB (p:eH) {v:V} {x:p.den} (h:p.dec v=some x):v=p.enc x:=by
  cases p
  · exact WL h
  · exact WM h
  · exact WN h
  · exact WO h
  · exact WQ h
  · exact WT h
  · exact WR h
  · exact WS h
  · exact WB h
  · exact WC h
  · exact WD h
  · exact WI h
  · exact WE h
  · exact WG h
  · exact WH h
  · exact WJ h
  · exact WK h

def eH.au:List eH→Type
  | []=>Unit
  | p::ps=>p.den × eH.au ps
def eH.cL:(ps:List eH)→eH.au ps→List V
  | [],_ => []
  | p::ps,(x:p.den × eH.au ps)=>p.enc x.1::eH.cL ps x.2
def both {α β:Type}:Option α→Option β→Option (α × β)
  | some x,some y=>some (x,y)
  | _,_=>none
theorem Kr {α β:Type} {a:Option α} {b:Option β} {z:α × β} (h:both a b=some z):a=some z.1∧b=some z.2:=by
  cases a <;> cases b <;> cases h
  exact ⟨rfl,rfl⟩
def eH.Dl:(ps:List eH)→List V→Option (eH.au ps)
  | [], []=>some ()
  | [],_::_=>none
  | _::_, []=>none
  | p::ps,v::vs=>both (p.dec v) (eH.Dl ps vs)
theorem eH.sT:∀(ps:List eH) {vs:List V} {x:eH.au ps},eH.Dl ps vs=some x→vs=eH.cL ps x
  | [], [],_,_=>rfl
  | [],_::_,_,h=>by cases h
  | _::_, [],_,h=>by cases h
  | p::ps,v::vs,x,h=>by
    obtain ⟨h1,h2⟩:=Kr (a:=p.dec v) (b:=eH.Dl ps vs) h
    show v::vs=p.enc x.1::eH.cL ps x.2
    rw[←eH.GB p h1,←eH.sT ps h2]

inductive bJ where
  | leaf (l:eH)
  | agg (ps:List eH)
  | func (f:Nat) (a b:List eH)

def bJ.den:bJ→Type
  | .leaf l=>l.den
  | .agg ps=>eH.au ps
  | .func _ a b=>eH.au a × eH.au b
def bJ.enc:(p:bJ)→p.den→V
  | .leaf l,x=>l.enc x
  | .agg ps,x => .agg (eH.cL ps x)
  | .func f a b,(x:eH.au a × eH.au b) => .func f (eH.cL a x.1) (eH.cL b x.2)
def WU (ps:List eH):V→Option (eH.au ps) | .agg cs=>eH.Dl ps cs|_=>none
def RS (f:Nat) (a b:List eH):V→Option (eH.au a × eH.au b) | .func g x y=>if g=f then both (eH.Dl a x) (eH.Dl b y)else none|_=>none
def bJ.dec:(p:bJ)→V→Option p.den
  | .leaf l=>l.dec
  | .agg ps=>WU ps
  | .func f a b=>RS f a b
theorem bJ.GB (p:bJ) {v:V} {x:p.den} (h:p.dec v=some x):v=p.enc x:=by
  cases p with
  | leaf l=>exact eH.GB l h
  | agg ps =>
    replace h:WU ps v=some x:=h
    unfold WU at h
    split at h
    · rename_i cs
      show V.agg cs = .agg (eH.cL ps x)
      rw[←eH.sT ps h]
    · cases h
  | func f a b =>
    replace h:RS f a b v=some x:=h
    unfold RS at h
    split at h
    · split at h
      · rename_i e
        subst e
        obtain ⟨h1,h2⟩:=Kr h
        rename_i g p q
        show V.func g p q = .func g (eH.cL a x.1) (eH.cL b x.2)
        rw[←eH.sT a h1,←eH.sT b h2]
      · cases h
    · cases h
def bJ.au:List bJ→Type
  | []=>Unit
  | p::ps=>p.den × bJ.au ps
def bJ.cL:(ps:List bJ)→bJ.au ps→List V
  | [],_ => []
  | p::ps,(x:p.den × bJ.au ps)=>p.enc x.1::bJ.cL ps x.2
def bJ.Dl:(ps:List bJ)→List V→Option (bJ.au ps)
  | [], []=>some ()
  | [],_::_=>none
  | _::_, []=>none
  | p::ps,v::vs=>both (p.dec v) (bJ.Dl ps vs)
theorem bJ.sT:∀(ps:List bJ) {vs:List V} {x:bJ.au ps},bJ.Dl ps vs=some x→vs=bJ.cL ps x
  | [], [],_,_=>rfl
  | [],_::_,_,h=>by cases h
  | _::_, [],_,h=>by cases h
  | p::ps,v::vs,x,h=>by
    obtain ⟨h1,h2⟩:=Kr (a:=p.dec v) (b:=bJ.Dl ps vs) h
    show v::vs=p.enc x.1::bJ.cL ps x.2
    rw[←bJ.GB p h1,←bJ.sT ps h2]

inductive aF where
  | free|dead|tok|iter
  | cells (ps:List eH)
  | row (T:Ty)
  | kq (p:eH)
  | uW (K T:Ty)

def aF.den:aF→Type
  | .cells ps=>eH.au ps
  | .row T=>List T.den
  | .kq p=>p.den
  | .uW K T=>List (K.den × T.den)
  | .iter=>ak × Nat
  | _=>Unit
def aF.enc:(p:aF)→p.den→bR
  | .free,_ => .free
  | .dead,_ => .dead
  | .tok,_ => .tok
  | .iter,x => .iter (Prod.fst (α:=ak) (β:=Nat) x) (Prod.snd (α:=ak) (β:=Nat) x)
  | .cells ps,x => .cells (eH.cL ps x)
  | .row T,x => .row T x
  | .kq p,x => .kq (p.enc x)
  | .uW K T,x => .uW K T x
def WV (p:eH):bR→Option p.den | .kq v=>p.dec v|_=>none
def WW (ps:List eH):bR→Option (eH.au ps) | .cells cs=>eH.Dl ps cs|_=>none
def WX (T:Ty):bR→Option (List T.den) | .row T' l=>if h:T'=T then some (h▸l)else none|_=>none
def WY (K T:Ty):bR→Option (List (K.den × T.den)) | .uW K' T' l=>if h:K'=K∧T'=T then some (h.1▸h.2▸l)else none|_=>none
def WZ:bR→Option Unit | .free=>some ()|_=>none
def W0:bR→Option Unit | .dead=>some ()|_=>none
def W1:bR→Option (ak × Nat) | .iter s p=>some (s,p)|_=>none
def W2:bR→Option Unit | .tok=>some ()|_=>none
def aF.dec:(p:aF)→bR→Option p.den
  | .free=>WZ
  | .dead=>W0
  | .tok=>W2
  | .iter=>W1
  | .cells ps=>WW ps
  | .row T=>WX T
  | .kq p=>WV p
  | .uW K T=>WY K T
theorem aF.GB (p:aF) {o:bR} {x:p.den} (h:p.dec o=some x):o=p.enc x:=by
  cases p with
  | free=>replace h:WZ o=some x:=h; unfold WZ at h; split at h <;> first|rfl|cases h
  | dead=>replace h:W0 o=some x:=h; unfold W0 at h; split at h <;> first|rfl|cases h
  | tok=>replace h:W2 o=some x:=h; unfold W2 at h; split at h <;> first|rfl|cases h
  | iter=>replace h:W1 o=some x:=h; unfold W1 at h; split at h <;> first|(cases h; rfl)|cases h
  | cells ps =>
    replace h:WW ps o=some x:=h
    unfold WW at h
    split at h
    · rename_i cs
      show bR.cells cs = .cells (eH.cL ps x)
      rw[←eH.sT ps h]
    · cases h
  | kq p =>
    replace h:WV p o=some x:=h
    unfold WV at h
    split at h
    · rename_i v
      show bR.kq v = .kq (p.enc x)
      rw[←eH.GB p h]
    · cases h
  | uW K T =>
    replace h:WY K T o=some x:=h
    unfold WY at h
    split at h
    · split at h
      · rename_i e; obtain ⟨rfl,rfl⟩:=e; cases h; rfl
      · cases h
    · cases h
  | row T =>
    replace h:WX T o=some x:=h
    unfold WX at h
    split at h
    · split at h
      · rename_i e; subst e; cases h; rfl
      · cases h
    · cases h
def aF.au:List aF→Type
  | []=>Unit
  | p::ps=>p.den × aF.au ps
def aF.cL:(ps:List aF)→aF.au ps→ay
  | [],_ => []
  | p::ps,(x:p.den × aF.au ps)=>p.enc x.1::aF.cL ps x.2
def aF.Dl:(ps:List aF)→List bR→Option (aF.au ps)
  | [], []=>some ()
  | [],_::_=>none
  | _::_, []=>none
  | p::ps,v::vs=>both (p.dec v) (aF.Dl ps vs)
theorem aF.sT:∀(ps:List aF) {vs:List bR} {x:aF.au ps},aF.Dl ps vs=some x→vs=aF.cL ps x
  | [], [],_,_=>rfl
  | [],_::_,_,h=>by cases h
  | _::_, [],_,h=>by cases h
  | p::ps,v::vs,x,h=>by
    obtain ⟨h1,h2⟩:=Kr (a:=p.dec v) (b:=aF.Dl ps vs) h
    show v::vs=p.enc x.1::aF.cL ps x.2
    rw[←aF.GB p h1,←aF.sT ps h2]

theorem aF.Qg:∀(ps:List aF) (x:aF.au ps),(aF.cL ps x).length=ps.length
  | [],_=>rfl
  | p::ps,x=>by
    show (p.enc x.1::aF.cL ps x.2).length=_
    simp[aF.Qg ps]

section
variable {R:Type} {P:Program} {tt:dB}

def az (ps:List bJ) (hs:List aF) (run:bJ.au ps→aF.au hs→(V→ay→Option R)→Option R) (other:Spec R):Spec R:=fun args h k =>
  match bJ.Dl ps args,aF.Dl hs h with
  | some x,some y=>run x y k
  | _,_=>other args h k

def aZ:Spec R:=fun _ _ _=>none

theorem aM (g:Nat):Spec.Ok P g (aZ:Spec R):=by intro vs h k r hk; cases hk

theorem bm {g:Nat} {ps:List bJ} {hs:List aF} {run:bJ.au ps→aF.au hs→(V→ay→Option R)→Option R} {other own:Spec R} (ho:Spec.Ok P g other) (hw:Spec.VY P g hs.length own)
    (hr:∀x y k,own (bJ.cL ps x) (aF.cL hs y) k=run x y k):Spec.Ok P g (az ps hs run other):=by
  intro vs h k r hk
  unfold az at hk
  split at hk
  · rename_i x y h1 h2
    rw[bJ.sT ps h1,aF.sT hs h2]
    rw[←hr]at hk
    exact hw _ _ _ _ (aF.Qg hs y) hk
  · exact ho _ _ _ _ hk

def gq (ps:List bJ) (hs:List aF) (run:bJ.au ps→aF.au hs→(Ex→St→Option R)→Option R) (other:cd R):cd R:=fun st K =>
  match bJ.Dl ps st.fr,aF.Dl hs st.hp with
  | some x,some y=>run x y K
  | _,_=>other st K

def qg:cd R:=fun _ _=>none

def ph (tt:dB) (E:Env R) (L:Nat→Option (Hint × cd R)) (m:Nat) (a:Code) (hint:Hint) (ls:cd R):Prop :=
  ∀st (K:Ex→St→Option R) r,ls st K=some r→∃n,BT (kL tt E L m a) (norm m hint) n st (fun e st=>K e (trim m hint st))=some r

theorem jA {E:Env R} {L:Nat→Option (Hint × cd R)} {m:Nat} {a:Code} {hint:Hint}:ph tt E L m a hint qg:=by intro st K r hk; cases hk

theorem Ux {E:Env R} {L:Nat→Option (Hint × cd R)} {m:Nat} {a:Code} {hint:Hint} {ps:List bJ} {hs:List aF} {run:bJ.au ps→aF.au hs→(Ex→St→Option R)→Option R} {other:cd R} (ho:ph tt E L m a hint other)
    (hr:∀x y K,∃n,BT (kL tt E L m a) (norm m hint) n ⟨bJ.cL ps x,aF.cL hs y⟩ (fun e st=>K e (trim m hint st))=run x y K):ph tt E L m a hint (gq ps hs run other):=by
  intro st K r hk
  obtain ⟨fr,hp⟩:=st
  unfold gq at hk
  simp only at hk
  split at hk
  · rename_i x y h1 h2
    rw[bJ.sT ps h1,aF.sT hs h2]
    obtain ⟨n,hn⟩:=hr x y K
    exact ⟨n,by rw[hn]; exact hk⟩
  · exact ho _ _ _ hk

def aI (f:Func):Code:=f.body.getD .skip

theorem bB {E:Env R} {L:Nat→Option (Hint × cd R)} {m:Nat} {l:List Code} (n:Nat) (hn:l.length=n) (h:∀i,i<n→cG tt E L m (l.getD i .skip)):∀a∈l,cG tt E L m a:=by
  intro a ha
  obtain ⟨i,hi,rfl⟩:=List.mem_iff_getElem.1 ha
  have:=h i (by omega)
  simpa [List.getD,List.getElem?_eq_getElem hi]using this

theorem fT {E:Env R} {L:Nat→Option (Hint × cd R)} {m:Nat} {a:Code} {hint:Hint} {ls:cd R} (h:L (keyOf a)=some (hint,ls)) (hs:ph tt E L m a hint ls):cG tt E L m a:=by
  intro hint' ls' hl
  rw[h]at hl
  cases hl
  exact hs

noncomputable def roundOf (tt:dB) (E:Env R) (L:Nat→Option (Hint × cd R)) (m:Nat) (a:Code) (hint:Hint) (st:St) (gm:St→Option R) (K:Ex→St→Option R):Option R :=
  kL tt E L m a st fun e sO=>match e with | .normal=>gm (norm m hint sO)|e=>K e (trim m hint sO)

theorem RT {E:Env R} {L:Nat→Option (Hint × cd R)} {m:Nat} {a:Code} {hint:Hint} {n:Nat} {st:St} {K:Ex→St→Option R} :
    BT (kL tt E L m a) (norm m hint) (n+1) st (fun e st=>K e (trim m hint st))=roundOf tt E L m a hint st (fun st=>BT (kL tt E L m a) (norm m hint) n st (fun e st=>K e (trim m hint st))) K:=by
  unfold roundOf
  simp only[BT]
  congr 1
end

section
variable {P:Program} {tt:dB} {w:World} {h:ay} {c:jZ}

theorem Qh:∀l:List Value,cz w h c (l.map ofConst) l
  | [] => .nil
  | v::l => .cons (Jp v) (Qh l)

def zeroOf (i:TypeInfo):Option (Nat × List V × Bool):=i.zero.map fun z=>(z.cells.size,z.cells.toList.map ofConst,z.oneCell')

def aC (P:Program) (tt:dB) (t:Nat):Prop :=
  ∃i,P.info? t=some i∧i.size=(tt.at t).size∧i.bytes=(tt.at t).bytes∧zeroOf i=some ((tt.at t).size,(tt.at t).zero, !tt.isAgg t)

theorem aC.spec {t:Nat} (h:aC P tt t):∃i z,P.info? t=some i∧i.size=(tt.at t).size∧i.bytes=(tt.at t).bytes∧i.zero=some z∧z.cells.size=i.size ∧
    ∀(w:World) (h:ay) (c:jZ),cz w h c (tt.at t).zero z.cells.toList:=by
  obtain ⟨i,h1,h2,h3,h4⟩:=h
  unfold zeroOf at h4
  cases hz:i.zero with
  | none=>rw[hz]at h4; cases h4
  | some z =>
    rw[hz]at h4
    simp only[Option.map_some,Option.some.injEq,Prod.mk.injEq]at h4
    refine ⟨i,z,h1,h2,h3,hz,by rw[h4.1,h2],fun w h c => ?_⟩
    rw[←h4.2.1]
    exact Qh _

theorem aC.one {t:Nat} (h:aC P tt t):∀i z,P.info? t=some i→i.zero=some z→z.oneCell' = !tt.isAgg t:=by
  intro i z hi hz
  obtain ⟨j,h1,h2,h3,h4⟩:=h
  rw[hi]at h1; cases h1
  unfold zeroOf at h4
  rw[hz]at h4
  simp only[Option.map_some,Option.some.injEq,Prod.mk.injEq]at h4
  exact h4.2.2

theorem u8s_of (h:(List.range tt.length).all (fun e=>match (tt.at e).ty with|some (.int .u8)=>Nat.beq e oq.u8|_=>true)=true):∀e,(tt.at e).ty=some (.int .u8)→e=oq.u8:=by
  intro e he
  by_cases hl:e<tt.length
  · have:=List.all_eq_true.1 h e (by simpa using hl)
    rw[he]at this
    exact Nat.eq_of_beq_eq_true this
  · have:tt.at e=TI.none:=by unfold dB.at; simp[List.getD,List.getElem?_eq_none (Nat.le_of_not_lt hl)]
    rw[this]at he; cases he

def Z9 (tt:dB) (t:Nat):Bool:=Nat.beq t oq.kq&&tt.ok t&&(match (tt.at t).zero with | [.eC, .cw]=>true|_=>false)
theorem Zh (h:(List.range tt.length).all (fun t=>bif (tt.at t).kq then Z9 tt t else true)=true):∀t,(tt.at t).kq=true→t=oq.kq∧(tt.at t).zero = [.eC, .cw]∧tt.ok t=true:=by
  intro t ht
  by_cases hl:t<tt.length
  · have:=List.all_eq_true.1 h t (by simpa using hl)
    rw[ht]at this
    simp only[cond_true,Z9,Bool.and_eq_true]at this
    obtain ⟨⟨h1,h2⟩,h3⟩:=this
    refine ⟨Nat.eq_of_beq_eq_true h1,?_,h2⟩
    split at h3
    · assumption
    · cases h3
  · have:tt.at t=TI.none:=by unfold dB.at; simp[List.getD,List.getElem?_eq_none (Nat.le_of_not_lt hl)]
    rw[this]at ht; cases ht

theorem OI {n t:Nat} (hn:tt.length=n) (ht:n≤t):tt.at t=TI.none:=by
  unfold dB.at
  rw[List.getD,List.getElem?_eq_none (by omega)]
  rfl

theorem W3 {n t:Nat} (hn:tt.length=n) (ht:n≤t):(tt.at t).d.Is P t:=by rw[OI hn ht]; trivial
theorem Zi {n t:Nat} (hn:tt.length=n) (ht:n≤t) (h:tt.ok t=true):False:=by
  unfold dB.ok at h
  rw[OI hn ht]at h
  cases h
theorem Zj {n t:Nat} (hn:tt.length=n) (ht:n≤t) (h:(tt.at t).eq=true):False:=by
  rw[OI hn ht]at h
  cases h
end

section
variable {P:Program} {tt:dB} {w:World} {h:ay} {c:jZ}

def RU (P:Program) (ty:TypeId) (z:V):Prop :=
  (∃k n,z = .int k n∧P.underlying ty=some (.int k))∨(∃s,z = .str s∧P.underlying ty=some .string)∨(∃b,z = .bool b∧P.underlying ty=some .bool)

theorem Fk {ty:TypeId} {z:V} (s:RU P ty z) {xs:Array Value} {j:Nat} {x:Value} (hx:xs[j]? = some x):(part ty xs j).run P w = .ok x w:=by
  rcases s with ⟨k,n,_,hu⟩|⟨n,_,hu⟩|⟨n,_,hu⟩ <;> simp[part,Go.isAgg,run_underlying hu,hx]

theorem eqF (d:Nat) (xs ys:Array Value):∀(fs:List Field) (zs cs ds:List V) (j:Nat) (b:Bool),(∀i f z,fs[i]? = some f→zs[i]? = some z→f.name ≠ "_" ∧ f.offset=j+i∧RU P f.type z)→fs.length=zs.length →
    fe zs cs=true→fe zs ds=true→lT cs ds=some b→(∀i v,cs[i]? = some v→∃x,xs[j+i]? = some x∧dw w h c v x)→(∀i v,ds[i]? = some v→∃x,ys[j+i]? = some x∧dw w h c v x) →
    (Op.eqFields (d+1) xs ys fs).run P w = .ok b w
  | [],zs,cs,ds,j,b,_,hl,hc,hd,he,_,_=>by
    have:zs = []:=List.eq_nil_of_length_eq_zero hl.symm
    subst this
    cases cs with
    | cons=>cases hc
    | nil =>
      cases ds with
      | cons=>cases hd
      | nil=>cases he; simp[Op.eqFields]
  | f::fs, [],_,_,_,_,_,hl,_,_,_,_,_=>by cases hl
  | f::fs,z::zs,cs,ds,j,b,hf,hl,hc,hd,he,hx,hy=>by
    obtain ⟨h1,h2,h3⟩:=hf 0 f z rfl rfl
    have T2:∀i g y,fs[i]? = some g→zs[i]? = some y→g.name ≠ "_" ∧ g.offset=(j+1)+i∧RU P g.type y:=fun i g y hg hy=>by
      have:=hf (i+1) g y (by simpa using hg) (by simpa using hy)
      exact ⟨this.1,by omega,this.2.2⟩
    have Vm:fs.length=zs.length:=by simpa using hl
    cases cs with
    | nil=>cases z <;> cases hc
    | cons c0 cs =>
      cases ds with
      | nil=>cases z <;> cases hd
      | cons d0 ds =>
        obtain ⟨x,hx0,rx⟩:=hx 0 c0 rfl
        obtain ⟨y,hy0,ry⟩:=hy 0 d0 rfl
        have hx':∀i v,cs[i]? = some v→∃x,xs[(j+1)+i]? = some x∧dw w h c v x:=fun i v hv=>by
          obtain ⟨x,q1,q2⟩:=hx (i+1) v (by simpa using hv)
          exact ⟨x,by rw[←q1]; congr 1; omega,q2⟩
        have hy':∀i v,ds[i]? = some v→∃x,ys[(j+1)+i]? = some x∧dw w h c v x:=fun i v hv=>by
          obtain ⟨x,q1,q2⟩:=hy (i+1) v (by simpa using hv)
          exact ⟨x,by rw[←q1]; congr 1; omega,q2⟩
        have p1:=Fk (w:=w) h3 hx0
        have p2:=Fk (w:=w) h3 hy0
        have fin:∀(r:Bool),(Op.equalIn (d+1) f.type x y).run P w = .ok r w→∀b',lT cs ds=some b'→fe zs cs=true→fe zs ds=true→b=(r&&b')→(Op.eqFields (d+1) xs ys (f::fs)).run P w = .ok b w:=by
          intro r hr b' o6 kc kd hb
          subst hb
          have ih:=eqF d xs ys fs zs cs ds (j+1) b' T2 Vm kc kd o6 hx' hy'
          simp only[Op.eqFields,h1,ne_eq,not_false_eq_true,if_true,Sem.run_bind,h2,Nat.add_zero,p1,p2,Result.andThen_ok,hr]
          simp only[Nat.add_zero]at p1 p2
          simp only[p1,p2,Result.andThen_ok,hr]
          cases r with
          | true=>simpa using ih
          | false=>simp
        rcases h3 with ⟨k,n,rfl,hu⟩|⟨s,rfl,hu⟩|⟨q,rfl,hu⟩
        · cases c0 with
          | int k1 n1 =>
            cases d0 with
            | int k2 n2 =>
              simp only[fe,Bool.and_eq_true,decide_eq_true_eq]at hc hd
              obtain ⟨rfl,hc⟩:=hc
              obtain ⟨rfl,hd⟩:=hd
              cases rx
              cases ry
              simp only[lT,if_true]at he
              split at he
              · rename_i b' o6
                cases he
                exact fin _ (run_equalIn_int w d _ _ _ _ _ hu) b' o6 hc hd rfl
              · cases he
            | _=>simp[fe]at hd
          | _=>simp[fe]at hc
        · cases c0 with
          | str s1 =>
            cases d0 with
            | str s2 =>
              simp only[fe]at hc hd
              cases rx
              cases ry
              simp only[lT]at he
              split at he
              · rename_i b' o6
                cases he
                refine fin _ (run_equalIn_string w d _ _ _ hu) b' o6 hc hd ?_
                congr 1
                simp only[ByteArray.toList_eq]
              · cases he
            | _=>simp[fe]at hd
          | _=>simp[fe]at hc
        · cases c0 with
          | bool s1 =>
            cases d0 with
            | bool s2 =>
              simp only[fe]at hc hd
              cases rx
              cases ry
              simp only[lT]at he
              split at he
              · rename_i b' o6
                cases he
                exact fin _ (run_equalIn_bool' w d _ _ _ hu) b' o6 hc hd rfl
              · cases he
            | _=>simp[fe]at hd
          | _=>simp[fe]at hc

def aac (P:Program) (ty:TypeId) (g:List V):Prop :=
  P.underlying ty=some (.struct (P.fieldsOf ty))∧P.stoodInHeld ty=false∧(∃i,P.info? ty=some i)∧P.cellsOf ty=g.length∧(P.fieldsOf ty).toList.length=g.length ∧
    ∀i f z,(P.fieldsOf ty).toList[i]? = some f→g[i]? = some z→f.name ≠ "_" ∧ f.offset=0+i∧RU P f.type z

def OJ (P:Program):List Field→List (List V)→Nat→Prop
  | [], [],_=>True
  | f::fs,g::gs,j=>f.name ≠ "_" ∧ f.offset=j∧((∃z,g = [z]∧RU P f.type z)∨aac P f.type g)∧OJ P fs gs (j+g.length)
  | _,_,_=>False

theorem EB:∀ {zs cs:List V},fe zs cs=true→cs.length=zs.length
  | [], [],_=>rfl
  | [],_::_,h=>by cases h
  | z::_, [],h=>by cases z <;> cases h
  | z::zs,c::cs,h=>by
    have:fe zs cs=true:=by
      cases z <;> cases c <;> simp[fe]at h
      · exact h.2
      · exact h
      · exact h
    simp[EB this]

theorem Cj:∀ {g zs cs:List V},fe (g++zs) cs=true→fe g (cs.take g.length)=true∧fe zs (cs.drop g.length)=true
  | [],zs,cs,h=>by simpa [fe]using h
  | z::g,zs, [],h=>by cases z <;> cases h
  | z::g,zs,c::cs,h=>by
    have key:fe (g++zs) cs=true:=by
      cases z <;> cases c <;> simp[fe]at h
      · exact h.2
      · exact h
      · exact h
    obtain ⟨h1,h2⟩:=Cj key
    refine ⟨?_,by simpa using h2⟩
    simp only[List.length_cons,List.take_succ_cons]
    cases z <;> cases c <;> simp[fe]at h ⊢
    · exact ⟨h.1,h1⟩
    · exact h1
    · exact h1

theorem yy:∀(n:Nat) {cs ds:List V} {b:Bool},lT cs ds=some b→n≤cs.length→∃b1 b2,lT (cs.take n) (ds.take n)=some b1∧lT (cs.drop n) (ds.drop n)=some b2∧b=(b1&&b2)
  | 0,cs,ds,b,h,_=>⟨true,b,by simp[lT],by simpa using h,by simp⟩
  | n+1, [],_,_,_,hn=>by simp at hn
  | n+1,c::cs, [],b,h,_=>by cases c <;> cases h
  | n+1,c::cs,d::ds,b,h,hn=>by
    have Pe:n≤cs.length:=by simpa using hn
    simp only[List.take_succ_cons,List.drop_succ_cons]
    cases c <;> cases d <;> simp only[lT]at h ⊢ <;> try (first|cases h)
    · split at h
      · rename_i e
        rw[if_pos e]
        split at h
        · rename_i r hr
          cases h
          obtain ⟨b1,b2,h1,h2,h3⟩:=yy n hr Pe
          rw[h1]
          exact ⟨_,b2,rfl,h2,by rw[h3,Bool.and_assoc]⟩
        · cases h
      · cases h
    · split at h
      · rename_i r hr
        cases h
        obtain ⟨b1,b2,h1,h2,h3⟩:=yy n hr Pe
        rw[h1]
        exact ⟨_,b2,rfl,h2,by rw[h3,Bool.and_assoc]⟩
      · cases h
    · split at h
      · rename_i r hr
        cases h
        obtain ⟨b1,b2,h1,h2,h3⟩:=yy n hr Pe
        rw[h1]
        exact ⟨_,b2,rfl,h2,by rw[h3,Bool.and_assoc]⟩
      · cases h

theorem NA {ty:TypeId} {g:List V} (s:aac P ty g) {xs:Array Value} {j:Nat}:(part ty xs j).run P w = .ok (.agg (xs.extract j (j+g.length))) w:=by
  obtain ⟨h1,_,⟨i,h3⟩,h4,_⟩:=s
  have hs:(sizeOf ty).run P w = .ok g.length w:=by
    have:P.cellsOf ty=i.size:=by simp[Program.cellsOf,h3]
    rw[←h4,this]
    simp[sizeOf,typeInfo,h3]
  simp[part,Go.isAgg,run_underlying h1,hs]

theorem eqG (d:Nat) (xs ys:Array Value):∀(fs:List Field) (gs:List (List V)) (cs ds:List V) (j:Nat) (b:Bool),OJ P fs gs j→fe gs.flatten cs=true→fe gs.flatten ds=true→lT cs ds=some b →
    (∀i v,cs[i]? = some v→∃x,xs[j+i]? = some x∧dw w h c v x)→(∀i v,ds[i]? = some v→∃x,ys[j+i]? = some x∧dw w h c v x)→(Op.eqFields (d+2) xs ys fs).run P w = .ok b w
  | [], [],cs,ds,j,b,_,hc,hd,he,_,_=>by
    cases cs with
    | cons=>cases hc
    | nil =>
      cases ds with
      | cons=>cases hd
      | nil=>cases he; simp[Op.eqFields]
  | [],_::_,_,_,_,_,hn,_,_,_,_,_=>by cases hn
  | _::_, [],_,_,_,_,hn,_,_,_,_,_=>by cases hn
  | f::fs,g::gs,cs,ds,j,b,hn,hc,hd,he,hx,hy=>by
    obtain ⟨n1,n2,n3,n4⟩:=hn
    rw[List.flatten_cons]at hc hd
    obtain ⟨c1,c2⟩:=Cj hc
    obtain ⟨d1,d2⟩:=Cj hd
    have lc:=EB hc
    have ld:=EB hd
    rw[List.length_append]at lc ld
    obtain ⟨b1,b2,e1,e2,rfl⟩:=yy g.length he (by omega)
    have behind:∀ {cs:List V} {xs:Array Value},(∀i v,cs[i]? = some v→∃x,xs[j+i]? = some x∧dw w h c v x)→∀i v,(cs.drop g.length)[i]? = some v→∃x,xs[(j+g.length)+i]? = some x∧dw w h c v x:=by
      intro cs xs hx i v hv
      rw[List.getElem?_drop]at hv
      obtain ⟨x,q1,q2⟩:=hx _ v hv
      exact ⟨x,by rw[←q1]; congr 1; omega,q2⟩
    have ih:=eqG d xs ys fs gs _ _ (j+g.length) b2 n4 c2 d2 e2 (behind hx) (behind hy)
    -- what the field is
    have key:∃x y,(part f.type xs j).run P w = .ok x w∧(part f.type ys j).run P w = .ok y w∧(Op.equalIn (d+2) f.type x y).run P w = .ok b1 w:=by
      rcases n3 with ⟨z,rfl,hz⟩|hF
      · -- one cell: the flat case, alone
        cases cs with
        | nil=>simp only[List.length_nil,List.length_cons]at lc; omega
        | cons c0 cs =>
          cases ds with
          | nil=>simp only[List.length_nil,List.length_cons]at ld; omega
          | cons d0 ds =>
            simp only[List.length_cons,List.length_nil,Nat.zero_add,List.take_succ_cons,List.take_zero]at c1 d1 e1
            obtain ⟨x,hx0,rx⟩:=hx 0 c0 rfl
            obtain ⟨y,hy0,ry⟩:=hy 0 d0 rfl
            rw[Nat.add_zero]at hx0 hy0
            refine ⟨x,y,Fk hz hx0,Fk hz hy0,?_⟩
            rcases hz with ⟨k,n,rfl,hu⟩|⟨s,rfl,hu⟩|⟨q,rfl,hu⟩
            · cases c0 <;> simp[fe]at c1
              cases d0 <;> simp[fe]at d1
              subst c1 d1
              cases rx
              cases ry
              simp only[lT,if_true,Option.some.injEq]at e1
              subst e1
              rw[Bool.and_true]
              exact run_equalIn_int w (d+1) _ _ _ _ _ hu
            · cases c0 <;> simp[fe]at c1
              cases d0 <;> simp[fe]at d1
              cases rx
              cases ry
              simp only[lT,Option.some.injEq]at e1
              subst e1
              rw[Bool.and_true]
              refine (run_equalIn_string w (d+1) f.type _ _ hu).trans ?_
              congr 1
              simp only[ByteArray.toList_eq]
            · cases c0 <;> simp[fe]at c1
              cases d0 <;> simp[fe]at d1
              cases rx
              cases ry
              simp only[lT,Option.some.injEq]at e1
              subst e1
              rw[Bool.and_true]
              exact run_equalIn_bool' w (d+1) _ _ _ hu
      · refine ⟨_,_,NA hF,NA hF,?_⟩
        obtain ⟨h1,h2,h3,h4,h5,h6⟩:=hF
        rw[run_equalIn_struct w (d+1) f.type _ _ h1 h2]
        have at0:∀ {cs:List V} {xs:Array Value},(∀i v,cs[i]? = some v→∃x,xs[j+i]? = some x∧dw w h c v x)→∀i v,(cs.take g.length)[i]? = some v→∃x,(xs.extract j (j+g.length))[0+i]? = some x∧dw w h c v x:=by
          intro cs xs hx i v hv
          have hi:i<g.length:=by
            have:=(List.getElem?_eq_some_iff.1 hv).1
            rw[List.length_take]at this
            omega
          rw[List.getElem?_take_of_lt hi]at hv
          obtain ⟨x,q1,q2⟩:=hx i v hv
          refine ⟨x,?_,q2⟩
          rw[Nat.zero_add,Array.getElem?_extract]
          have p6:j+i<xs.size:=(Array.getElem?_eq_some_iff.1 q1).1
          rw[if_pos (by omega),q1]
        exact eqF d _ _ _ _ _ _ 0 b1 h6 h5 c1 d1 e1 (at0 hx) (at0 hy)
    obtain ⟨x,y,p1,p2,hr⟩:=key
    simp only[Op.eqFields,n1,ne_eq,not_false_eq_true,if_true,Sem.run_bind,n2,p1,p2,Result.andThen_ok,hr]
    cases b1 with
    | true=>simpa using ih
    | false=>simp

def IL (P:Program) (tt:dB) (t:Nat):Prop :=
  P.underlying t=some (.struct (P.fieldsOf t))∧P.stoodInHeld t=false∧P.eqGuardType P.depth t=false∧∃gs,gs.flatten=(tt.at t).zero∧OJ P (P.fieldsOf t).toList gs 0

def S1 (P:Program) (ty:TypeId):V→Bool
  | .int k _=>(match P.underlying ty with|some (.int k')=>decide (k'=k)|_=>false)
  | .str _=>(match P.underlying ty with|some .string=>true|_=>false)
  | .bool _=>(match P.underlying ty with|some .bool=>true|_=>false)
  | _=>false

theorem Ls {ty:TypeId} {z:V} (h:S1 P ty z=true):RU P ty z:=by
  unfold S1 at h
  split at h
  · split at h
    · rename_i k n _ k' hu
      have e:k'=k:=by simpa using h
      subst e
      exact .inl ⟨_,_,rfl,hu⟩
    · cases h
  · split at h
    · rename_i hu; exact .inr (.inl ⟨_,rfl,hu⟩)
    · cases h
  · split at h
    · rename_i hu; exact .inr (.inr ⟨_,rfl,hu⟩)
    · cases h
  · cases h

def S2 (P:Program):List Field→List V→Nat→Bool
  | [], [],_=>true
  | f::fs,z::zs,j=>decide (f.name ≠ "_")&&decide (f.offset=j)&&S1 P f.type z&&S2 P fs zs (j+1)
  | _,_,_=>false

theorem Lt:∀(fs:List Field) (zs:List V) (j:Nat),S2 P fs zs j=true→fs.length=zs.length∧∀i f z,fs[i]? = some f→zs[i]? = some z→f.name ≠ "_" ∧ f.offset=j+i∧RU P f.type z
  | [], [],_,_=>⟨rfl,fun i f z h=>by simp at h⟩
  | [],_::_,_,h=>by cases h
  | _::_, [],_,h=>by cases h
  | f::fs,z::zs,j,h=>by
    simp only[S2,Bool.and_eq_true,decide_eq_true_eq]at h
    obtain ⟨⟨⟨h1,h2⟩,h3⟩,h4⟩:=h
    obtain ⟨g1,g2⟩:=Lt fs zs (j+1) h4
    refine ⟨by simp[g1],fun i g y hg hy => ?_⟩
    cases i with
    | zero =>
      simp at hg hy
      subst hg; subst hy
      exact ⟨h1,h2,Ls h3⟩
    | succ i =>
      obtain ⟨q1,q2,q3⟩:=g2 i g y (by simpa using hg) (by simpa using hy)
      exact ⟨q1,by omega,q3⟩

def aad (P:Program) (ty:TypeId) (g:List V):Bool :=
  (match P.info? ty with|some _=>true|none=>false)&&Nat.beq (P.cellsOf ty) g.length && !P.stoodInHeld ty&&S2 P (P.fieldsOf ty).toList g 0
def NB (P:Program):List Field→List V→Nat→Bool
  | [],zs,_=>zs.isEmpty
  | f::fs,zs,j =>
    decide (f.name ≠ "_")&&decide (f.offset=j) &&
      (match P.underlying f.type with
       | some (.struct fl)=>aad P f.type (zs.take fl.size)&&NB P fs (zs.drop fl.size) (j+fl.size)
       | _=>(match zs with|z::zr=>S1 P f.type z&&NB P fs zr (j+1) | []=>false))

theorem GC:∀(fs:List Field) (zs:List V) (j:Nat),NB P fs zs j=true→∃gs:List (List V),gs.flatten=zs∧OJ P fs gs j
  | [],zs,j,h=>⟨[],by simpa [NB]using h.symm,trivial⟩
  | f::fs,zs,j,h=>by
    simp only[NB,Bool.and_eq_true,decide_eq_true_eq]at h
    obtain ⟨⟨h1,h2⟩,h3⟩:=h
    split at h3
    · rename_i fl hu
      rw[Bool.and_eq_true]at h3
      obtain ⟨g1,g2⟩:=h3
      have hfo:P.fieldsOf f.type=fl:=by simp[Program.fieldsOf,hu]
      obtain ⟨gs,e1,e2⟩:=GC fs _ _ g2
      unfold aad at g1
      simp only[Bool.and_eq_true,Bool.not_eq_true']at g1
      obtain ⟨⟨⟨k1,k2⟩,k3⟩,k4⟩:=g1
      obtain ⟨q1,q2⟩:=Lt _ _ _ k4
      have hlen:(zs.take fl.size).length=fl.size:=by rw[←q1,hfo]; simp
      refine ⟨zs.take fl.size::gs,by rw[List.flatten_cons,e1,List.take_append_drop],h1,h2, .inr ⟨by rw[hfo]; exact hu,k3,?_,Nat.eq_of_beq_eq_true k2,q1,q2⟩,by rw[hlen]; exact e2⟩
      cases hi:P.info? f.type with
      | none=>rw[hi]at k1; cases k1
      | some i=>exact ⟨i,rfl⟩
    · split at h3
      · rename_i z zr
        rw[Bool.and_eq_true]at h3
        obtain ⟨gs,e1,e2⟩:=GC fs _ _ h3.2
        exact ⟨[z]::gs,by rw[List.flatten_cons,e1]; rfl,h1,h2, .inl ⟨z,rfl,Ls h3.1⟩,e2⟩
      · cases h3

theorem IL.of {t:Nat} (h1:P.underlying t=some (.struct (P.fieldsOf t))) (h2:P.stoodInHeld t=false) (h3:P.eqGuardType P.depth t=false) (h4:NB P (P.fieldsOf t).toList (tt.at t).zero 0=true):IL P tt t :=
  ⟨h1,h2,h3,GC _ _ _ h4⟩

theorem Zk {i:TI} {a b:List V} (h:Oc i a b=true):i.eq=true:=by
  unfold Oc at h
  simp only[Bool.and_eq_true]at h
  exact h.1.1

theorem W4 {t:Nat} (e:IL P tt t) {cs ds:List V} {xs ys:Array Value} {b:Bool} (hk:Oc (tt.at t) cs ds=true) (rx:cz w h c cs xs.toList) (ry:cz w h c ds ys.toList) (hb:lT cs ds=some b) :
    P.eqGuardType P.depth t=false∧(Op.equalIn 10000 t (.agg xs) (.agg ys)).run P w = .ok b w:=by
  obtain ⟨e1,e2,e3,gs,e4,e5⟩:=e
  refine ⟨e3,?_⟩
  unfold Oc at hk
  simp only[Bool.and_eq_true]at hk
  rw[run_equalIn_struct w 9999 t xs ys e1 e2]
  have get:∀ {cs:List V} {xs:Array Value},cz w h c cs xs.toList→∀i v,cs[i]? = some v→∃x,xs[0+i]? = some x∧dw w h c v x:=by
    intro cs xs r i v hv
    have hi:=(List.getElem?_eq_some_iff.1 hv).1
    have hl:i<xs.size:=by have:=r.1; simp at this; omega
    refine ⟨xs[i],by simp[hl],r.2 i v _ hv (by simp[hl])⟩
  exact eqG 9997 xs ys _ gs cs ds 0 b e5 (by rw[e4]; exact hk.1.2) (by rw[e4]; exact hk.2) hb (get rx) (get ry)
end

section
variable {R:Type} {P:Program} {tt:dB}

mutual
def Json.depth:Json→Nat
  | ⟨_,_,_,_,l⟩=>Json.Bc l+1
def Json.Bc:List Json→Nat
  | []=>0
  | x::l=>max x.depth (Json.Bc l)
end
mutual
def Raw.depth:Raw→Nat
  | ⟨_,_,_,_,l⟩=>Raw.Bc l+1
def Raw.Bc:List Raw→Nat
  | []=>0
  | x::l=>max x.depth (Raw.Bc l)
end

def iH.fu (x:iH):Nat:=x.aw.natAbs+x.exp.natAbs
def Json.fu (x:Json):Nat:=x.text.length+x.names.length+x.items.length
def Raw.fu (x:Raw):Nat:=x.text.length+x.items.length
def Fu.fu (x:Fu):Nat:=x.kind.natAbs+x.aw.natAbs+x.exp.natAbs+x.text.length
def Yv.fu (x:Yv):Nat:=x.name.length
def Mt.fu (x:Mt):Nat:=x.topic.length+x.data.length
def Token.fu (x:Token):Nat:=x.text.length
def Stop.fu (x:Stop):Nat:=0
def Way.fu (x:Way):Nat:=0
def Order.fu (x:Order):Nat:=x.header.natAbs+x.sM.length+x.order.natAbs+x.update.natAbs+x.nodes.length+x.Ky.length
def Edge.fu (x:Edge):Nat:=0
def Cf.fu (x:Cf):Nat:=x.nodes.natAbs+x.Ky.length
def FW.fu (x:FW):Nat:=x.ZM.length+x.Vw.length+x.kind.length
def State.fu (x:State):Nat:=x.header.natAbs+x.Vx.natAbs+x.sM.length+x.order.natAbs+x.update.natAbs+x.node.natAbs+x.seq.natAbs+x.accepted.natAbs
def Yw.fu (x:Yw):Nat:=x.sM.length+x.header.natAbs+x.order.natAbs+x.update.natAbs+x.Vx.natAbs+x.seen.natAbs+x.path.length+x.seq.natAbs+x.rel.natAbs+x.pending.header.natAbs+x.pending.sM.length+x.pending.order.natAbs+x.pending.update.natAbs+x.pending.nodes.length+x.pending.Ky.length
def Mu.fu (x:Mu):Nat:=x.kind.natAbs+x.i.natAbs+x.k.natAbs+x.by_.natAbs+x.data.length
def DM.fu (x:DM):Nat:=x.header.natAbs+x.order.natAbs+x.update.natAbs+x.seq.natAbs+x.from_.natAbs+x.yM.natAbs+x.turns.length
def Mv.fu (x:Mv):Nat:=x.kind.natAbs+x.o.header.natAbs+x.o.order.natAbs+x.o.update.natAbs+x.o.seq.natAbs+x.o.from_.natAbs+x.o.yM.natAbs+x.o.turns.length+x.data.length
def Mw.fu (x:Mw):Nat:=x.kind.natAbs+x.n.natAbs+x.turns.length
def Mx.fu (x:Mx):Nat:=x.a.natAbs+x.b.natAbs+x.c.natAbs
def JO.fu (x:JO):Nat:=x.a.natAbs+x.b.natAbs
def My.fu (x:My):Nat:=x.a.aw.natAbs+x.a.exp.natAbs+x.b.aw.natAbs+x.b.exp.natAbs
def Mz.fu (x:Mz):Nat:=x.name.length+x.home.natAbs
def Yx.fu (x:Yx):Nat:=x.id.natAbs+x.target.natAbs+x.state.natAbs+x.sM.natAbs
def Cg.fu (x:Cg):Nat:=x.kind.natAbs+x.nums.length+x.text.length

theorem Dm (rs:List Ty) (t:Nat):∃b,(tt.mode rs).at t = { tt.at t with YK:=b }:=by
  unfold dB.mode dB.at
  simp only[List.getD,List.getElem?_map]
  cases tt[t]? with
  | none=>exact ⟨false,rfl⟩
  | some i=>exact ⟨_,rfl⟩

theorem OK (rs:List Ty) (t:Nat):(tt.mode rs).ok t=tt.ok t:=by
  obtain ⟨b,h⟩:=Dm (tt:=tt) rs t
  unfold dB.ok
  rw[h]

theorem xh.mode (T:xh P tt) (rs:List Ty):xh P (tt.mode rs) where
  und:=fun t=>by obtain ⟨b,h⟩:=Dm (tt:=tt) rs t; rw[h]; exact T.und t
  info:=fun t ht=>by
    rw[OK]at ht
    obtain ⟨b,h⟩:=Dm (tt:=tt) rs t
    rw[h]
    exact T.info t ht
  eqs:=fun t w h c cs ds xs ys b hk=>by
    obtain ⟨b',h'⟩:=Dm (tt:=tt) rs t
    rw[h']at hk
    exact T.eqs t w h c cs ds xs ys b hk
  u8s:=fun e he=>by
    obtain ⟨b,h⟩:=Dm (tt:=tt) rs e
    rw[h]at he
    exact T.u8s e he
  blds:=fun t ht=>by
    obtain ⟨b,h⟩:=Dm (tt:=tt) rs t
    rw[h]at ht
    rw[OK,h]
    exact T.blds t ht
  ones:=fun t ht=>by
    rw[OK]at ht
    obtain ⟨b,h⟩:=Dm (tt:=tt) rs t
    have e:(tt.mode rs).isAgg t=tt.isAgg t:=by unfold dB.isAgg; rw[h]
    rw[e]
    exact T.ones t ht

theorem kO {D:Type} {E:Env R} {L:Nat→Option (Hint × cd R)} {m:Nat} {a:Code} {hint:Hint} (enc:D→St)
    (s:(Ex→St→Option R)→(D→Option R)→D→Option R) (A:(Ex→St→Option R)→Nat→D→Option R)
    (h0:∀K d,A K 0 d=none)
    (hB:∀K gm d,roundOf tt E L m a hint (enc d) gm K=s K (fun d=>gm (enc d)) d)
    (hA:∀K n d,A K (n+1) d=s K (A K n) d) (K:Ex→St→Option R) :
    ∀n d,BT (kL tt E L m a) (norm m hint) n (enc d) (fun e st=>K e (trim m hint st))=A K n d
  | 0,d=>(h0 K d).symm
  | n+1,d=>by
    rw[RT,hB,hA]
    exact congrArg (fun q=>s K q d) (funext fun d=>kO enc s A h0 hB hA K n d)

theorem gQ {D:Type} {E:Env R} {L:Nat→Option (Hint × cd R)} {m:Nat} {a:Code} {hint:Hint} {ps:List bJ} {hs:List aF}
    {run:bJ.au ps→aF.au hs→(Ex→St→Option R)→Option R} {other:cd R} {enc:D→St} {A:(Ex→St→Option R)→Nat→D→Option R}
    (ho:ph tt E L m a hint other)
    (tie:∀K n d,BT (kL tt E L m a) (norm m hint) n (enc d) (fun e st=>K e (trim m hint st))=A K n d)
    (fuel:bJ.au ps→aF.au hs→Nat) (dat:bJ.au ps→aF.au hs→D)
    (henc:∀x y,(⟨bJ.cL ps x,aF.cL hs y⟩:St)=enc (dat x y))
    (mn:∀x y K,run x y K=A K (fuel x y) (dat x y)):ph tt E L m a hint (gq ps hs run other) :=
  Ux ho fun x y K=>⟨fuel x y,by rw[henc,mn]; exact tie K _ _⟩

theorem CI {g:Nat} {ps:List bJ} {hs:List aF} {run:Nat→bJ.au ps→aF.au hs→(V→ay→Option R)→Option R} {other:Spec R}
    (fuel:bJ.au ps→aF.au hs→Nat) (ho:Spec.Ok P g other)
    (h:∀n,Spec.Ok P g (az ps hs (run n) aZ)):Spec.Ok P g (az ps hs (fun x y k=>run (fuel x y) x y k) other):=by
  intro vs hp k r hk
  unfold az at hk
  split at hk
  · rename_i x y h1 h2
    refine h (fuel x y) vs hp k r ?_
    unfold az
    rw[h1,h2]
    exact hk
  · exact ho _ _ _ _ hk

theorem vF {g:Nat} {ps:List bJ} {hs:List aF} {run:Nat→bJ.au ps→aF.au hs→(V→ay→Option R)→Option R}
    (h0:∀x y k,run 0 x y k=none)
    (hs':∀n,Spec.Ok P g (az ps hs (run n) aZ)→Spec.Ok P g (az ps hs (run (n+1)) aZ)):∀n,Spec.Ok P g (az ps hs (run n) aZ)
  | 0=>by
    intro vs hp k r hk
    unfold az at hk
    split at hk
    · rw[h0]at hk; cases hk
    · cases hk
  | n+1=>hs' n (vF h0 hs' n)

theorem Bd {g:Nat} {ps:List bJ} {hs:List aF} {run run':bJ.au ps→aF.au hs→(V→ay→Option R)→Option R} {other:Spec R}
    (h:Spec.Ok P g (az ps hs run other)) (e:run'=run):Spec.Ok P g (az ps hs run' other):=e▸h
end
abbrev Be (s:ak):List Int:=Gj s
end Go.ax

