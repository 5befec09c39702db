/-
  JsonNames: for every input whose bulk is at most 1048576 the law returns true, and each argument reads behind the call as it read before; part 8 of 8 of the proof: an interpreter of the model's code over typed data, proved sound; the functions that the law reaches, printed as Lean functions and tied; the plain law. Own texts laid one behind the other.
-/
import Derived.Test.YtmlkkgfenfdndaaGreatDoorJsonNamesB7
set_option linter.unusedSimpArgs false
set_option linter.unnecessarySimpa false
set_option linter.unusedVariables false
set_option linter.unusedSectionVars false
set_option maxRecDepth 100000
namespace Go.Proofs.YtmlkkgfenfdndaaGreatDoor
open Go Go.ax Go.Lib

def Pk (x:vH):Int × ak × iH:=Pj x.2.2
theorem DK {ts:List Token} {x:vH} {l:List vH} (h:ts.map Pj=(x::l).map Pk):∃t r,ts=t::r∧Pj t=Pk x∧r.map Pj=l.map Pk:=by
  cases ts with
  | nil=>cases h
  | cons t r =>
    simp only[List.map_cons,List.cons.injEq]at h
    exact ⟨t,r,rfl,h.1,h.2⟩
theorem O9 {ts:List Token} {a b:List vH} (h:ts.map Pj=(a++b).map Pk):∃u v,ts=u++v∧u.map Pj=a.map Pk∧v.map Pj=b.map Pk:=by
  rw[List.map_append]at h
  obtain ⟨u,v,e,h1,h2⟩:=List.map_eq_append_iff.1 h
  exact ⟨u,v,e,h1,h2⟩
theorem L9 {ts:List Token} {x:vH} (h:ts.map Pj = [x].map Pk):∃t,ts = [t]∧Pj t=Pk x:=by
  obtain ⟨t,r,e,h1,h2⟩:=DK h
  cases r with
  | nil=>exact ⟨t,e,h1⟩
  | cons u r=>cases h2
theorem xc {t:Token} {x:vH} (h:Pj t=Pk x):t.kind=x.2.2.kind∧t.text=x.2.2.text∧t.num=x.2.2.num:=by
  unfold Pk Pj at h
  simp only[Prod.mk.injEq]at h
  exact h

theorem Yg {n:Nat} {d:Int} (hd:d≤16) {t:Token} {rest:List Token} {x:ak} (hx:x=xC∨x=rq∨x=xB) (hk:t.kind=4) (ht:t.text=x) :
    C1 (n+1) d (t::rest) = .ok (⟨nF .str (.int .i64) x Sv,⟨0,0⟩, [], [], []⟩,rest):=by
  have h1:yo t=true:=by simp[yo,hk]
  have h2:Yf t.text=true:=by
    rw[ht]
    rcases hx with rfl|rfl|rfl <;> rfl
  simp only[C1]
  rw[if_neg (by rw[h1]; simp),if_neg (by omega),if_neg (by rw[hk]; simp),if_pos ⟨hk,h2⟩,ht]

theorem Va {n:Nat} {d:Int} {ts:List Token} {p:Json × List Token} (h:C1 n d ts = .ok p):vP [93] ts=none∧vP [125] ts=none:=by
  cases n with
  | zero=>cases h
  | succ n =>
    cases ts with
    | nil=>cases h
    | cons t r =>
      simp only[C1]at h
      by_cases hs:yo t=false
      · rw[if_pos hs]at h; cases h
      · have lp:∀x:ak,x = [93]∨x = [125]→¬(t.kind=1∧t.text=x):=fun x hx ⟨h1,h2⟩=>by
          apply hs
          rcases hx with rfl|rfl <;> simp[yo,QN,h1,h2]
        simp only[vP]
        rw[if_neg (lp _ (.inl rfl)),if_neg (lp _ (.inr rfl))]
        exact ⟨rfl,rfl⟩

mutual
theorem GY:∀(v:Json) (d:Int) (n:Nat) (ts rest:List Token),fg v d=true→17 - d<n→ts.map Pj=(w6 v).map Pk→C1 n d (ts++rest) = .ok (v,rest)
  | ⟨k,nm,t,ns,is⟩,d,0,ts,rest,h,hn,hw=>by
    have:d≤16:=by
      cases iG.1 h <;> assumption
    omega
  | ⟨k,nm,t,ns,is⟩,d,n+1,ts,rest,h,hn,hw=>by
    have hL:=QO is
    have hO:=QP ns is
    cases iG.1 h with
    | name _ _ hd hk =>
      have Hr:∀x:ak,(x=xC∨x=rq∨x=xB)→ts.map Pj = [(([],x,⟨4,x,⟨0,0⟩,0⟩):vH)].map Pk→C1 (n+1) d (ts++rest) = .ok (⟨nF .str (.int .i64) x Sv,⟨0,0⟩, [], [], []⟩,rest):=fun x hx hw=>by
        obtain ⟨u,rfl,hu⟩:=L9 hw
        obtain ⟨h1,h2,_⟩:=xc hu
        exact Yg hd hx h1 h2
      rcases hk with rfl|rfl|rfl
      · exact Hr xC (.inl rfl) hw
      · exact Hr rq (.inr (.inl rfl)) hw
      · exact Hr xB (.inr (.inr rfl)) hw
    | num _ _ hd hnm =>
      obtain ⟨u,rfl,hu⟩:=L9 (x:=([],BL nm,⟨3,BL nm,nm,0⟩)) hw
      obtain ⟨h1,h2,h3⟩:=xc hu
      simp only at h1 h2 h3
      have hs:yo u=true:=by simp[yo,h1]
      show C1 (n+1) d (u::rest)=_
      simp only[C1]
      rw[if_neg (by rw[hs]; simp),if_neg (by omega),if_neg (by rw[h1]; simp),if_neg (by rw[h1]; simp),if_pos h1,h3]
    | text _ _ hd ht =>
      obtain ⟨u,rfl,hu⟩:=L9 (x:=U6 t) hw
      obtain ⟨h1,h2,h3⟩:=xc hu
      simp only[U6]at h1 h2 h3
      have hs:yo u=true:=by simp[yo,h1]
      show C1 (n+1) d (u::rest)=_
      simp only[C1]
      rw[if_neg (by rw[hs]; simp),if_neg (by omega),if_neg (by rw[h1]; simp),if_neg (by rw[h1]; simp),if_neg (by rw[h1]; simp),h2]
    | arr _ _ hd hi =>
      obtain ⟨u,ZH,rfl,hu,hw2⟩:=DK (x:=sg 91) (l:=sF is true ++ [sg 93]) hw
      obtain ⟨tl,tc,rfl,hl,G2⟩:=O9 hw2
      obtain ⟨c,rfl,hc⟩:=L9 G2
      obtain ⟨h1,h2,_⟩:=xc hu
      obtain ⟨c1,c2,_⟩:=xc hc
      simp only[sg]at h1 h2 c1 c2
      have DW:QN u.text=true:=by rw[h2]; rfl
      have hs:yo u=true:=by simp[yo,h1,DW]
      have ho7:(u.text==([123]:ak))=false:=by rw[h2]; rfl
      show C1 (n+1) d (u::(tl ++ [c]++rest))=_
      simp only[C1]
      rw[if_neg (by rw[hs]; simp),if_neg (by omega),if_pos ⟨h1,DW⟩,ho7]
      simp only[Bool.false_eq_true,if_false]
      cases is with
      | nil =>
        obtain rfl:tl = []:=by simpa [sF]using hl
        show (match vP [93] (c::rest)with|some r'=>_|none=>_)=_
        have:vP [93] (c::rest)=some rest:=by
          show (if c.kind=1∧c.text = [93]then some rest else none)=some rest
          rw[if_pos ⟨c1,c2⟩]
        rw[this]
      | cons x l =>
        obtain ⟨e1,e2⟩:=hL d n (tl ++ [c]++rest).length.succ [] [] tl c rest (by simp) hi (by omega) (by simp; omega) hl c1 c2
        rw[e1,e2]
        rfl
    | obj _ _ _ hd hlen hu7 hi =>
      obtain ⟨u,ZH,rfl,hu,hw2⟩:=DK (x:=sg 123) (l:=oY ns is true ++ [sg 125]) hw
      obtain ⟨tl,tc,rfl,hl,G2⟩:=O9 hw2
      obtain ⟨c,rfl,hc⟩:=L9 G2
      obtain ⟨h1,h2,_⟩:=xc hu
      obtain ⟨c1,c2,_⟩:=xc hc
      simp only[sg]at h1 h2 c1 c2
      have DW:QN u.text=true:=by rw[h2]; rfl
      have hs:yo u=true:=by simp[yo,h1,DW]
      have ho7:(u.text==([123]:ak))=true:=by rw[h2]; rfl
      show C1 (n+1) d (u::(tl ++ [c]++rest))=_
      simp only[C1]
      rw[if_neg (by rw[hs]; simp),if_neg (by omega),if_pos ⟨h1,DW⟩,ho7]
      simp only[if_true]
      cases is with
      | nil =>
        obtain rfl:ns = []:=List.eq_nil_of_length_eq_zero hlen
        obtain rfl:tl = []:=by simpa [oY]using hl
        show (match vP [125] (c::rest)with|some r'=>_|none=>_)=_
        have:vP [125] (c::rest)=some rest:=by
          show (if c.kind=1∧c.text = [125]then some rest else none)=some rest
          rw[if_pos ⟨c1,c2⟩]
        rw[this]
      | cons x l =>
        obtain ⟨e1,e2⟩:=hO d n (tl ++ [c]++rest).length.succ [] [] [] tl c rest (by simp) hlen hi hu7 (fun n=>rfl) (by omega) (by simp; omega) hl c1 c2
        rw[e1,e2]
        rfl
theorem QO:∀(is:List Json) (d:Int) (n m:Nat) (Pl:List ak) (Q0:List Json) (tl:List Token) (c:Token) (rest:List Token),is ≠ []→gB is (d+1)=true→17 - (d+1)<n→tl.length<m →
    tl.map Pj=(sF is true).map Pk→c.kind=1→c.text = [93]→vP [93] (tl ++ [c]++rest)=none∧NU (C1 n (d+1)) [93] false m Pl Q0 (tl ++ [c]++rest) = .ok ((Pl,Q0++is),rest)
  | [],_,_,_,_,_,_,_,_,h,_,_,_,_,_,_=>(h rfl).elim
  | x::l,d,n,0,Pl,Q0,tl,c,rest,_,hr,hn,hm,hw,c1,c2=>by omega
  | x::l,d,n,m+1,Pl,Q0,tl,c,rest,_,hr,hn,hm,hw,c1,c2=>by
    obtain ⟨tv,tr,rfl,hv,ht⟩:=O9 (a:=w6 x) (b:=sF l false) hw
    simp only[gB,Bool.and_eq_true]at hr
    have hx:=GY x (d+1) n tv (tr ++ [c]++rest) hr.1 hn hv
    have hL:=QO l
    rw[show tv++tr ++ [c]++rest=tv++(tr ++ [c]++rest) by simp]
    refine ⟨(Va hx).1,?_⟩
    have hp:QM (C1 n (d+1)) false Pl Q0 (tv++(tr ++ [c]++rest)) = .ok ((Pl,Q0 ++ [x]),tr ++ [c]++rest):=by
      simp only[QM,hx]
    simp only[NU,hp]
    cases l with
    | nil =>
      obtain rfl:tr = []:=by simpa [sF]using ht
      have:vP [93] ([] ++ [c]++rest)=some rest:=by
        show (if c.kind=1∧c.text = [93]then some rest else none)=some rest
        rw[if_pos ⟨c1,c2⟩]
      rw[this]
    | cons y l' =>
      obtain ⟨u,Vb,rfl,hu,ht'⟩:=DK (x:=sg 44) (l:=sF (y::l') true) ht
      obtain ⟨u1,u2,_⟩:=xc hu
      simp only[sg]at u1 u2
      have s1:vP [93] (u::Vb ++ [c]++rest)=none:=by
        show (if u.kind=1∧u.text = [93]then some (Vb ++ [c]++rest)else none)=none
        rw[if_neg (by rw[u2]; rintro ⟨_,h⟩; cases h)]
      have s2:vP [44] (u::Vb ++ [c]++rest)=some (Vb ++ [c]++rest):=by
        show (if u.kind=1∧u.text = [44]then some (Vb ++ [c]++rest)else none)=_
        rw[if_pos ⟨u1,u2⟩]
      rw[s1,s2]
      obtain ⟨_,e2⟩:=hL d n m Pl (Q0 ++ [x]) Vb c rest (by simp) hr.2 hn (by simp at hm; omega) ht' c1 c2
      simp only
      rw[e2]
      simp
theorem QP:∀(ns:List ak) (is:List Json) (d:Int) (n m:Nat) (Pl:List ak) (Q0:List Json) (seen:List ak) (tl:List Token) (c:Token) (rest:List Token),is ≠ []→ns.length=is.length→gB is (d+1)=true→uC seen ns=true→(∀n,Pl.contains n=seen.contains n) →
    17 - (d+1)<n→tl.length<m →
    tl.map Pj=(oY ns is true).map Pk→c.kind=1→c.text = [125]→vP [125] (tl ++ [c]++rest)=none∧NU (C1 n (d+1)) [125] true m Pl Q0 (tl ++ [c]++rest) = .ok ((Pl++ns,Q0++is),rest)
  | _, [],_,_,_,_,_,_,_,_,_,h,_,_,_,_,_,_,_,_,_=>(h rfl).elim
  | [],x::l,d,n,m,Pl,Q0,seen,tl,c,rest,_,hlen,hr,hu,hsn,hn,hm,hw,c1,c2=>by cases hlen
  | nm::ns,x::l,d,n,0,Pl,Q0,seen,tl,c,rest,_,hlen,hr,hu,hsn,hn,hm,hw,c1,c2=>by omega
  | nm::ns,x::l,d,n,m+1,Pl,Q0,seen,tl,c,rest,_,hlen,hr,hu,hsn,hn,hm,hw,c1,c2=>by
    obtain ⟨tn,tl1,rfl,hn1,hw1⟩:=DK (x:=U6 nm) (l:=sg 58::(w6 x++oY ns l false)) hw
    obtain ⟨tk,tl2,rfl,Uh,hw2⟩:=DK hw1
    obtain ⟨tv,tr,rfl,hv,ht⟩:=O9 hw2
    obtain ⟨n1,n2,_⟩:=xc hn1
    obtain ⟨k1,k2,_⟩:=xc Uh
    simp only[U6]at n1 n2
    simp only[sg]at k1 k2
    simp only[gB,Bool.and_eq_true]at hr
    simp only[uC,Bool.and_eq_true,Bool.not_eq_true']at hu
    have hx:=GY x (d+1) n tv (tr ++ [c]++rest) hr.1 hn hv
    have hO:=QP ns l
    rw[show tn::tk::(tv++tr) ++ [c]++rest=tn::tk::(tv++(tr ++ [c]++rest)) by simp]
    refine ⟨?_,?_⟩
    · show (if tn.kind=1∧tn.text = [125]then some _ else none)=none
      rw[if_neg (by rw[n1]; rintro ⟨h,_⟩; cases h)]
    have hnm:Ye Pl (tn::tk::(tv++(tr ++ [c]++rest))) = .ok (nm,tv++(tr ++ [c]++rest)):=by
      simp only[Ye]
      rw[if_neg (by rw[n1]; simp),if_neg (by rw[n2,hsn,hu.1.1]; simp)]
      have:vP [58] (tk::(tv++(tr ++ [c]++rest)))=some (tv++(tr ++ [c]++rest)):=by
        show (if tk.kind=1∧tk.text = [58]then some (tv++(tr ++ [c]++rest))else none)=_
        rw[if_pos ⟨k1,k2⟩]
      rw[this,n2]
    have hp:QM (C1 n (d+1)) true Pl Q0 (tn::tk::(tv++(tr ++ [c]++rest))) = .ok ((Pl ++ [nm],Q0 ++ [x]),tr ++ [c]++rest):=by
      simp only[QM,hnm,hx]
    simp only[NU,hp]
    cases l with
    | nil =>
      obtain rfl:ns = []:=List.eq_nil_of_length_eq_zero (by simpa using hlen)
      obtain rfl:tr = []:=by simpa [oY]using ht
      have:vP [125] ([] ++ [c]++rest)=some rest:=by
        show (if c.kind=1∧c.text = [125]then some rest else none)=some rest
        rw[if_pos ⟨c1,c2⟩]
      rw[this]
    | cons y l' =>
      obtain ⟨u,Vb,rfl,ZX,ht'⟩:=DK (x:=sg 44) (l:=oY ns (y::l') true) ht
      obtain ⟨u1,u2,_⟩:=xc ZX
      simp only[sg]at u1 u2
      have s1:vP [125] (u::Vb ++ [c]++rest)=none:=by
        show (if u.kind=1∧u.text = [125]then some (Vb ++ [c]++rest)else none)=none
        rw[if_neg (by rw[u2]; rintro ⟨_,h⟩; cases h)]
      have s2:vP [44] (u::Vb ++ [c]++rest)=some (Vb ++ [c]++rest):=by
        show (if u.kind=1∧u.text = [44]then some (Vb ++ [c]++rest)else none)=_
        rw[if_pos ⟨u1,u2⟩]
      rw[s1,s2]
      obtain ⟨_,e2⟩:=hO d n m (Pl ++ [nm]) (Q0 ++ [x]) (nm::seen) Vb c rest (by simp) (by simpa using hlen) hr.2 hu.2 (fun z=>by
        rw[List.contains_append,hsn,List.contains_cons,List.contains_cons,List.contains_nil,Bool.or_false,Bool.or_comm]) hn (by simp at hm; omega) ht' c1 c2
      simp only
      rw[e2]
      simp
end

theorem QQ {v:Json} (h:fg v 1=true) (ts:List Token) (rest:List Token) (hw:ts.map Pj=(w6 v).map Pk):C1 40 1 (ts++rest) = .ok (v,rest):=GY v 1 40 ts rest h (by omega) hw

def tight (l:List vH):Prop:=∀x∈l,x.1 = []
mutual
theorem Pa:∀v:Json,tight (w6 v)
  | ⟨k,n,t,ns,is⟩=>by
    have hL:=Yh is
    have hO:=Yi ns is
    intro x hx
    simp only[w6]at hx
    split at hx
    · simp at hx; rw[hx]
    split at hx
    · simp at hx; rw[hx]
    split at hx
    · simp at hx; rw[hx]
    split at hx
    · simp at hx; rw[hx]
    split at hx
    · simp[U6]at hx; rw[hx]
    split at hx
    · simp only[List.mem_cons,List.mem_append,List.not_mem_nil,or_false]at hx
      rcases hx with rfl|hx|rfl
      · rfl
      · exact hO true x hx
      · rfl
    · simp only[List.mem_cons,List.mem_append,List.not_mem_nil,or_false]at hx
      rcases hx with rfl|hx|rfl
      · rfl
      · exact hL true x hx
      · rfl
theorem Yh:∀(l:List Json) (first:Bool),tight (sF l first)
  | [],_=>by intro x hx; simp[sF]at hx
  | y::l,first=>by
    have h1:=Pa y
    have h2:=Yh l false
    intro x hx
    simp only[sF,List.mem_append]at hx
    rcases hx with hx|hx|hx
    · cases first
      · simp at hx; rw[hx]; rfl
      · simp at hx
    · exact h1 x hx
    · exact h2 x hx
theorem Yi:∀(ns:List ak) (l:List Json) (first:Bool),tight (oY ns l first)
  | _, [],_=>by intro x hx; simp[oY]at hx
  | ns,y::l,first=>by
    have h1:=Pa y
    have h2:=Yi ns.tail l false
    intro x hx
    simp only[oY,List.mem_append,List.mem_cons]at hx
    rcases hx with hx|rfl|rfl|hx|hx
    · cases first
      · simp at hx; rw[hx]; rfl
      · simp at hx
    · rfl
    · rfl
    · exact h1 x hx
    · exact h2 x hx
end

theorem Tm:∀(a b:List vH),tight a→tight b→okW a []→okW b []→v7 a []=v7 b []→a.map Pk=b.map Pk
  | [], [],_,_,_,_,_=>rfl
  | [],y::b,_,_,_,hb,e=>by
    obtain ⟨_,⟨c,u,hc,_⟩,_⟩:=hb
    simp[v7,hc]at e
  | x::a, [],_,_,ha,_,e=>by
    obtain ⟨_,⟨c,u,hc,_⟩,_⟩:=ha
    simp[v7,hc]at e
  | x::a,y::b,ta,tb,ha,hb,e=>by
    obtain ⟨_,_,h1,h2⟩:=ha
    obtain ⟨_,_,g1,g2⟩:=hb
    simp only[v7,ta x (by simp),tb y (by simp),List.nil_append]at e
    rw[e,g1]at h1
    simp only[Option.some.injEq,Prod.mk.injEq]at h1
    have:=Tm a b (fun z hz=>ta z (by simp[hz])) (fun z hz=>tb z (by simp[hz])) h2 g2 h1.2.symm
    simp only[List.map_cons,this]
    unfold Pk
    rw[h1.1]

theorem Vc {v w:Json} (hv:fg v 1=true) (hw:fg w 1=true) (e:oX v=oX w):v=w:=by
  have h1:=Ft v []
  have h2:=Ft w []
  rw[List.append_nil]at h1 h2
  have h3:=Tm _ _ (Pa v) (Pa w) (Ib v 1 hv [] (.inl rfl)) (Ib w 1 hw [] (.inl rfl)) (by rw[h1,h2,e])
  have g1:=QQ hv (tokW 0 (w6 v)) [] (tokW_st _ _)
  have g2:=QQ hw (tokW 0 (w6 v)) [] ((tokW_st _ _).trans h3)
  rw[g1]at g2
  simp only[Except.ok.injEq,Prod.mk.injEq]at g2
  exact g2.1


theorem wq {R:Type} (t s:ak) (hv:iu t=true) (ht:t.length≤10000000000) (hl:(s++QG t).length≤100000000000) (k:List Int→Option R):aE t (zs s) k=k (zs (s++QG t)):=by
  obtain ⟨rs,hr,hc,rfl,_,hq⟩|⟨h,_⟩:=NL (R:=R) t ht
  · have e:aE (cL rs) (zs s) k=bM (cL rs) (fun y3 y4=>af y3 (zs s) (fun y5 y6=>k y6)):=rfl
    rw[Kw hr]at hl ⊢
    rw[List.length_append]at hl
    rw[e,hq]
    exact ws (qt rs) s (by omega) (by unfold I8; omega) _
  · rw[hv]at h; cases h

def zi (v:Json) (i:Nat):ak:=if v.kind=7 then od (v.names.drop i) (v.items.drop i) (i==0)else nS (v.items.drop i) (i==0)

theorem Ma {R:Type} (f:bD R) (z:ak) (v:Json) (hl:v.items.length≤1099511627776) (h7:v.kind=7→v.names.length=v.items.length∧∀t∈v.names,iu t=true∧t.length≤10000000000)
    (hf:∀x∈v.items,∀(s:ak) (k:List Int→Option R),(s++oX x).length≤100000000000→f x (zs s) k=k (zs (s++oX x))) (e0:ak→List Int→Option R):∀(F i:Nat) (s:ak),i≤v.items.length→v.items.length - i<F→(s++zi v i).length≤100000000000 →
    aR f F z v.items (v.items.length:Int) (i:Int) (zs s) v e0=e0 z (zs (s++zi v i)):=by
  intro F
  induction F with
  | zero=>intro i s _ h; omega
  | succ F ih =>
    intro i s hi hF hb
    have eL:aR f (F+1) z v.items (v.items.length:Int) (i:Int) (zs s) v e0=iR ad f aE (fun mQ mR nI xl FE FF=>aR f F mQ mR nI xl FE FF e0) z v.items (v.items.length:Int) (i:Int) (zs s) v e0:=rfl
    rw[eL]
    unfold iR
    simp only[Json.eta]
    by_cases h:i<v.items.length
    rotate_left
    · have h1:decide ((i:Int)<(v.items.length:Int))=false:=by simp; omega
      rw[h1,cond_false]
      have hd:v.items.drop i = []:=List.drop_eq_nil_of_le (by omega)
      have:zi v i = []:=by
        unfold zi
        rw[hd]
        split
        · cases v.names.drop i <;> rfl
        · rfl
      rw[this,List.append_nil]
    have h1:decide ((i:Int)<(v.items.length:Int))=true:=by simp; omega
    have h2:(decide ((0:Int)≤(i:Int))&&true)=true:=by simp
    have hw:IntKind.i64.wrap ((i:Int)+1)=((i+1:Nat):Int):=by rw[ef (by omega) (by omega)]; omega
    have hg:v.items.getD (i:Int).toNat (Ty.cg .json)=v.items[i]:=getD_at h _
    have hr:zi v i=(if i=0 then []else [44])++((if v.kind=7 then QG (v.names.getD i []) ++ [58]else [])++(oX v.items[i]++zi v (i+1))):=by
      unfold zi
      rw[List.drop_eq_getElem_cons h]
      by_cases Tn:v.kind=7
      · rw[if_pos Tn,if_pos Tn,if_pos Tn]
        have hn:=(h7 Tn).1
        have hni:i<v.names.length:=by omega
        rw[List.drop_eq_getElem_cons hni]
        simp only[od,List.headD_cons,List.tail_cons]
        have:v.names.getD i []=v.names[i]:=getD_at hni _
        rw[this]
        by_cases h0:i=0
        · subst h0; simp
        · have e1:(i==0)=false:=by simpa using h0
          have e2:(i+1==0)=false:=rfl
          rw[e1,e2]
          simp[h0]
      · rw[if_neg Tn,if_neg Tn,if_neg Tn]
        simp only[nS]
        by_cases h0:i=0
        · subst h0; simp
        · have e1:(i==0)=false:=by simpa using h0
          have e2:(i+1==0)=false:=rfl
          rw[e1,e2]
          simp[h0]
    rw[hr]at hb ⊢
    rw[h1,cond_true,bH h2,hg,hw]
    -- from the name on
    have key:∀s':ak,(s'++((if v.kind=7 then QG (v.names.getD i []) ++ [58]else [])++(oX v.items[i]++zi v (i+1)))).length≤100000000000 →
        (bif (v.kind==7)then (cR (decide ((0:Int)≤(i:Int))&&decide ((i:Int)<(v.names.length:Int))) (aE (v.names.getD (i:Int).toNat (Ty.cg .str)) (zs s') (fun JI=>ad 58 JI (fun I3=>f v.items[i] I3 (fun Im=>aR f F z v.items (v.items.length:Int) ((i+1:Nat):Int) Im v e0)))))else (f v.items[i] (zs s') (fun MT=>aR f F z v.items (v.items.length:Int) ((i+1:Nat):Int) MT v e0))) =
        e0 z (zs (s'++((if v.kind=7 then QG (v.names.getD i []) ++ [58]else [])++(oX v.items[i]++zi v (i+1))))):=by
      intro s' o6
      by_cases Tn:v.kind=7
      · rw[if_pos Tn]at o6 ⊢
        have hk:(v.kind==7)=true:=by simpa using Tn
        have hn:=(h7 Tn).1
        have hni:i<v.names.length:=by omega
        have hgn:v.names.getD (i:Int).toNat (Ty.cg .str)=v.names.getD i []:=rfl
        have hgi:v.names.getD i []=v.names[i]:=getD_at hni _
        obtain ⟨Tx,hv2⟩:=(h7 Tn).2 v.names[i] (List.getElem_mem hni)
        rw[hk,cond_true,bH (by simp; omega),hgn]
        rw[hgi]at o6 ⊢
        have e58:((58:UInt8).toNat:Int)=58:=rfl
        simp only[List.length_append,List.length_cons,List.length_nil]at o6
        rw[wq _ _ Tx hv2 (by rw[List.length_append]; omega),←e58,wb _ _ (by unfold I8; rw[List.length_append]; omega),hf _ (List.getElem_mem h) _ _ (by simp only[List.length_append,List.length_cons,List.length_nil]; omega),
          ih (i+1) _ (by omega) (by omega) (by simp only[List.length_append,List.length_cons,List.length_nil]; omega)]
        simp only[List.append_assoc]
      · rw[if_neg Tn]at o6 ⊢
        have hk:(v.kind==7)=false:=by simpa using Tn
        rw[List.nil_append]at o6 ⊢
        simp only[List.length_append]at o6
        rw[hk,cond_false,hf _ (List.getElem_mem h) _ _ (by rw[List.length_append]; omega),ih (i+1) _ (by omega) (by omega) (by simp only[List.length_append]; omega)]
        simp only[List.append_assoc]
    by_cases h0:i=0
    · subst h0
      rw[if_pos rfl,List.nil_append]at hb ⊢
      exact key s hb
    · rw[if_neg h0]at hb ⊢
      have e3:decide ((i:Int)>0)=true:=by simp; omega
      have e44:((44:UInt8).toNat:Int)=44:=rfl
      have Nn:=hb
      simp only[List.length_append,List.length_cons,List.length_nil]at Nn
      rw[e3,cond_true,←e44,wb _ _ (by unfold I8; omega)]
      have:=key (s ++ [44]) (by simp only[List.length_append,List.length_cons,List.length_nil]; omega)
      rw[List.append_assoc]at this
      exact this

theorem GZ:∀(ns:List ak) (seen:List ak),uC seen ns=true→∀t∈ns,iu t=true
  | [],_,_,t,h=>by cases h
  | n::ns,seen,h,t,ht=>by
    simp only[uC,Bool.and_eq_true]at h
    rcases List.mem_cons.1 ht with rfl|ht
    · exact h.1.2
    · exact GZ ns _ h.2 t ht

theorem ZI {R:Type}:∀(n:Nat) (v:Json) (d:Int),fg v d=true→FN v=true→v.depth<n→∀(s:ak) (k:List Int→Option R),(s++oX v).length≤100000000000→du n v (zs s) k=k (zs (s++oX v)):=by
  intro n
  induction n with
  | zero=>intro v d _ _ h; omega
  | succ n ih =>
    intro v d hr hl hn s k hb
    obtain ⟨Ik,Kv,Ua,htx,MB⟩:=Bo.1 hl
    have e0:du (n+1) v (zs s) k=wK aX ad af aE (aR (du n)) v (zs s) k:=rfl
    rw[e0]
    have C2:∀(z:ak) (e:ak→List Int→Option R) (F:Nat) (s':ak),(v.kind=7→v.names.length=v.items.length∧∀t∈v.names,iu t=true∧t.length≤10000000000)→gB v.items (d+1)=true→v.items.length<F→(s'++zi v 0).length≤100000000000 →
        aR (du n) F z v.items (v.items.length:Int) 0 (zs s') v e=e z (zs (s'++zi v 0)):=fun z e F s' h7 hi hF o6 =>
      Ma (du n) z v Kv h7 (fun x hx s k hb=>ih x (d+1) (GV hi hx) (E2 Ua hx) (by have:=E3 hx; omega) s k hb) e F 0 s' (by omega) (by omega) o6
    cases iG.1 hr with
    | name kd _ hd hk =>
      rcases hk with rfl|rfl|rfl
      · show af xC (zs s) (fun y3 y4=>k y4)=k (zs (s++xC))
        exact ws xC s (by decide) (by unfold I8; rw[List.length_append]at hb; omega) _
      · show af rq (zs s) (fun y3 y4=>k y4)=k (zs (s++rq))
        exact ws rq s (by decide) (by unfold I8; rw[List.length_append]at hb; omega) _
      · show af xB (zs s) (fun y3 y4=>k y4)=k (zs (s++xB))
        exact ws xB s (by decide) (by unfold I8; rw[List.length_append]at hb; omega) _
    | num nm _ hd hnm =>
      have Nn:(s++BL nm).length≤100000000000:=hb
      rw[List.length_append]at Nn
      show aX ⟨nm.aw,nm.exp⟩ (fun y9=>af y9 (zs s) (fun B5 B6=>k B6))=k (zs (s++BL nm))
      rw[NR]
      exact ws (BL nm) s (by omega) (by unfold I8; omega) _
    | text t _ hd ht=>exact wq t s ht htx hb k
    | arr is _ hd hi =>
      have Nn:(s++(91::(nS is true ++ [93]))).length≤100000000000:=hb
      simp only[List.length_append,List.length_cons,List.length_nil]at Nn
      have e91:((91:UInt8).toNat:Int)=91:=rfl
      have e93:((93:UInt8).toNat:Int)=93:=rfl
      show ad ((91:UInt8).toNat:Int) (zs s) (fun GK=>aR (du n) _ [91,93] is (is.length:Int) 0 GK ⟨6,⟨0,0⟩, [], [],is⟩ (fun Mr OS=>cR (decide ((1:Int)<(Mr.length:Int))) (ad ((Mr.getD 1 0).toNat:Int) OS (fun Ms=>k Ms))))=k (zs (s++(91::(nS is true ++ [93]))))
      rw[wb _ _ (by unfold I8; omega)]
      simp only at C2
      have hz:zi ⟨6,⟨0,0⟩, [], [],is⟩ 0=nS is true:=rfl
      rw[hz]at C2
      rw[C2 _ _ _ _ (fun h=>by cases h) hi]
      rotate_left
      · simp only[List.length_cons,List.length_nil]; omega
      · simp only[List.length_append,List.length_cons,List.length_nil]; omega
      show ad ((93:UInt8).toNat:Int) (zs ((s ++ [91])++nS is true)) (fun Ms=>k Ms)=_
      rw[wb _ _ (by unfold I8; simp only[List.length_append,List.length_cons,List.length_nil]; omega)]
      simp only[List.append_assoc,List.cons_append,List.nil_append]
    | obj ns is _ hd hlen hu hi =>
      have Nn:(s++(123::(od ns is true ++ [125]))).length≤100000000000:=hb
      simp only[List.length_append,List.length_cons,List.length_nil]at Nn
      show ad ((123:UInt8).toNat:Int) (zs s) (fun GK=>aR (du n) _ [123,125] is (is.length:Int) 0 GK ⟨7,⟨0,0⟩, [],ns,is⟩ (fun Mr OS=>cR (decide ((1:Int)<(Mr.length:Int))) (ad ((Mr.getD 1 0).toNat:Int) OS (fun Ms=>k Ms))))=k (zs (s++(123::(od ns is true ++ [125]))))
      rw[wb _ _ (by unfold I8; omega)]
      simp only at C2
      have hz:zi ⟨7,⟨0,0⟩, [],ns,is⟩ 0=od ns is true:=rfl
      rw[hz]at C2
      rw[C2 _ _ _ _ (fun _=>⟨hlen,fun t ht=>⟨GZ ns [] hu t ht,MB t ht⟩⟩) hi]
      rotate_left
      · simp only[List.length_cons,List.length_nil]; omega
      · simp only[List.length_append,List.length_cons,List.length_nil]; omega
      show ad ((125:UInt8).toNat:Int) (zs ((s ++ [123])++od ns is true)) (fun Ms=>k Ms)=_
      rw[wb _ _ (by unfold I8; simp only[List.length_append,List.length_cons,List.length_nil]; omega)]
      simp only[List.append_assoc,List.cons_append,List.nil_append]
theorem Mb {R:Type}:∀(F:Nat) (a:ak) (b:List Json) (c d:Int) (e:List Int) (f:Json) (g:ak→List Int→Option R),bf F a b c d e f g=aR bA F a b c d e f g:=by
  intro F
  induction F with
  | zero=>intros; rfl
  | succ F ih =>
    intro a b c d e f g
    have h1:bf (F+1) a b c d e f g=iR ad bA aE (fun mQ mR nI xl FE FF=>bf F mQ mR nI xl FE FF g) a b c d e f g:=rfl
    have h2:aR bA (F+1) a b c d e f g=iR ad bA aE (fun mQ mR nI xl FE FF=>aR bA F mQ mR nI xl FE FF g) a b c d e f g:=rfl
    rw[h1,h2]
    simp only[ih]

theorem Mc {R:Type} (v:Json) (hr:fg v 1=true) (hl:FN v=true) (hb:(oX v).length≤100000000000) (k:ak→Option R):dt v k=k (oX v):=by
  have e0:dt v k=Ax cp eR v k:=rfl
  rw[e0]
  unfold Ax
  simp only[Json.eta]
  rw[GW v hl,hr,Bool.not_true,cond_false]
  have e1:eR v (fun y3=>k (sU y3))=wN aX ah ad ag cQ bf v (fun y3=>k (sU y3)):=rfl
  rw[e1]
  obtain ⟨Ik,Kv,Ua,htx,MB⟩:=Bo.1 hl
  have C2:∀(z:ak) (e:ak→List Int→Option R) (F:Nat) (s':ak),(v.kind=7→v.names.length=v.items.length∧∀t∈v.names,iu t=true∧t.length≤10000000000)→gB v.items (1+1)=true→v.items.length<F→(s'++zi v 0).length≤100000000000 →
      aR bA F z v.items (v.items.length:Int) 0 (zs s') v e=e z (zs (s'++zi v 0)):=fun z e F s' h7 hi hF o6 =>
    Ma bA z v Kv h7 (fun x hx s k hb=>ZI (x.depth+2) x (1+1) (GV hi hx) (E2 Ua hx) (by omega) s k hb) e F 0 s' (by omega) (by omega) o6
  cases iG.1 hr with
  | name kd _ hd hk =>
    rcases hk with rfl|rfl|rfl
    · show ag xC (fun y3 y4=>k (sU y4))=k xC
      rw[wsn xC (by decide),uT]
    · show ag rq (fun y3 y4=>k (sU y4))=k rq
      rw[wsn rq (by decide),uT]
    · show ag xB (fun y3 y4=>k (sU y4))=k xB
      rw[wsn xB (by decide),uT]
  | num nm _ hd hnm =>
    have Nn:(BL nm).length≤100000000000:=hb
    show aX ⟨nm.aw,nm.exp⟩ (fun y9=>ag y9 (fun B5 B6=>k (sU B6)))=k (BL nm)
    rw[NR]
    show ag (BL nm) (fun B5 B6=>k (sU B6))=k (BL nm)
    rw[wsn _ Nn,uT]
  | text t _ hd ht =>
    have Nn:(QG t).length≤100000000000:=hb
    show bM t (fun y2 y3=>ag y2 (fun y4 y5=>k (sU y5)))=k (QG t)
    obtain ⟨rs,VM,hc,rfl,_,hq⟩|⟨h,_⟩:=NL (R:=R) t htx
    · rw[hq,Kw VM]
      rw[Kw VM]at Nn
      show ag (qt rs) (fun y4 y5=>k (sU y5))=k (qt rs)
      rw[wsn _ Nn,uT]
    · rw[ht]at h; cases h
  | arr is _ hd hi =>
      have Nn:(91::(nS is true ++ [93]):ak).length≤100000000000:=hb
      simp only[List.length_append,List.length_cons,List.length_nil]at Nn
      show bf _ [91,93] is (is.length:Int) 0 (zs ([] ++ [91])) ⟨6,⟨0,0⟩, [], [],is⟩ (fun MT Mr=>cR (decide ((1:Int)<(MT.length:Int))) (ad ((MT.getD 1 0).toNat:Int) Mr (fun OS=>k (sU OS))))=k (91::(nS is true ++ [93]))
      simp only at C2
      have hz:zi ⟨6,⟨0,0⟩, [], [],is⟩ 0=nS is true:=rfl
      rw[hz]at C2
      rw[Mb,C2 _ _ _ _ (fun h=>by cases h) hi]
      rotate_left
      · simp only[List.length_cons,List.length_nil]; omega
      · simp only[List.length_append,List.length_cons,List.length_nil]; omega
      show ad ((93:UInt8).toNat:Int) (zs (([] ++ [91])++nS is true)) (fun Ms=>k (sU Ms))=_
      rw[wb _ _ (by unfold I8; simp only[List.length_append,List.length_cons,List.length_nil]; omega),uT]
      simp only[List.append_assoc,List.cons_append,List.nil_append]
  | obj ns is _ hd hlen hu hi =>
      have Nn:(123::(od ns is true ++ [125]):ak).length≤100000000000:=hb
      simp only[List.length_append,List.length_cons,List.length_nil]at Nn
      show bf _ [123,125] is (is.length:Int) 0 (zs ([] ++ [123])) ⟨7,⟨0,0⟩, [],ns,is⟩ (fun MT Mr=>cR (decide ((1:Int)<(MT.length:Int))) (ad ((MT.getD 1 0).toNat:Int) Mr (fun OS=>k (sU OS))))=k (123::(od ns is true ++ [125]))
      simp only at C2
      have hz:zi ⟨7,⟨0,0⟩, [],ns,is⟩ 0=od ns is true:=rfl
      rw[hz]at C2
      rw[Mb,C2 _ _ _ _ (fun _=>⟨hlen,fun t ht=>⟨GZ ns [] hu t ht,MB t ht⟩⟩) hi]
      rotate_left
      · simp only[List.length_cons,List.length_nil]; omega
      · simp only[List.length_append,List.length_cons,List.length_nil]; omega
      show ad ((125:UInt8).toNat:Int) (zs (([] ++ [123])++od ns is true)) (fun Ms=>k (sU Ms))=_
      rw[wb _ _ (by unfold I8; simp only[List.length_append,List.length_cons,List.length_nil]; omega),uT]
      simp only[List.append_assoc,List.cons_append,List.nil_append]

end Go.Proofs.YtmlkkgfenfdndaaGreatDoor

namespace Go.ax
open Go.RowKit Go.Proofs.YtmlkkgfenfdndaaGreatDoor Go.ChangeShapes Go.WideShapes

mutual
inductive Wt:Nat→V→Prop where
  | int {n:Nat} {k:IntKind} {z:Int} (h1:1≤n) (h:k.has z):Wt n (.int k z)
  | bool {n:Nat} (h1:1≤n) (b:Bool):Wt n (.bool b)
  | str {n:Nat} {s:ak} (h:s.length+1≤n):Wt n (.str s)
  | sl {n m:Nat} {T:Ty} {l:List T.den} (h:m+1≤n) (he:QR m (l.map T.cells)):Wt n (.sl T l .no)
inductive JM:Nat→List V→Prop where
  | nil:JM 0 []
  | cons {a b:Nat} {v:V} {vs:List V} (h:Wt a v) (t:JM b vs):JM (a+b) (v::vs)
inductive QR:Nat→List (List V)→Prop where
  | nil:QR 0 []
  | cons {a b:Nat} {v:List V} {vs:List (List V)} (h:JM a v) (t:QR b vs):QR (a+b) (v::vs)
end

theorem JM.append:∀ {x y:List V} {a b:Nat},JM a x→JM b y→JM (a+b) (x++y)
  | [],_,_,_, .nil,h=>by rw[Nat.zero_add]; exact h
  | v::x,y,_,b, .cons (a:=p) (b:=q) h t,h'=>by
    rw[Nat.add_assoc]
    exact .cons h (JM.append t h')
theorem Wt.one {p:eH} {x:p.den} {n:Nat} (h:Wt n (p.enc x)):JM n [p.enc x] := .cons (b:=0) h .nil

section
variable {H:Type} {enc:TypeId × Value→H} {P:Program} {tt:dB} {w:World} {spare:Nat→Bool} {held:Bool}

def pZ (w:World) (N:Nat) (ls:List eH) (cs:List Value):Prop:=∃vs n,B2 ls vs∧cz w [] JT vs cs∧JM n vs∧n≤N
theorem pZ.append {N M:Nat} {a b:List eH} {x y:List Value} (h:pZ w N a x) (k:pZ w M b y):pZ w (N+M) (a++b) (x++y):=by
  obtain ⟨u,n,h1,h2,h3,h4⟩:=h
  obtain ⟨v,m,k1,k2,k3,k4⟩:=k
  exact ⟨u++v,n+m,h1.append k1,h2.append k2,h3.append k3,by omega⟩
theorem pZ.nil {N:Nat}:pZ w N [] []:=⟨[],0, .nil, .nil, .nil,Nat.zero_le _⟩
theorem pZ.one {N:Nat} {p:eH} {x:p.den} {d:Value} (h:dw w [] JT (p.enc x) d) (s:Wt N (p.enc x)):pZ w N [p] [d] :=
  ⟨[p.enc x],N, .one p x, .cons h .nil,Wt.one s,Nat.le_refl _⟩
theorem pZ.le {N M:Nat} {ls:List eH} {cs:List Value} (h:pZ w N ls cs) (hm:N≤M):pZ w M ls cs:=by
  obtain ⟨u,n,h1,h2,h3,h4⟩:=h
  exact ⟨u,n,h1,h2,h3,by omega⟩
theorem To {T:Ty}:∀(l:List T.den) (es:List (DataW H)),l.length=es.length→(∀(i:Nat) (y:T.den) (e:DataW H),l[i]? = some y→es[i]? = some e→∃n,JM n (T.cells y)∧n≤Rows.uptoBulk e)→∃m,QR m (l.map T.cells)∧m≤Rows.uptoBulkAll es
  | [],es,_,_=>⟨0, .nil,Nat.zero_le _⟩
  | y::l, [],h,_=>by cases h
  | y::l,e::es,h,hh=>by
    obtain ⟨n,h1,h2⟩:=hh 0 y e rfl rfl
    obtain ⟨m,h3,h4⟩:=To l es (by simpa using h) fun i y e hy he=>hh (i+1) y e hy he
    exact ⟨n+m, .cons h1 h3,by simp only[Rows.uptoBulkAll]; omega⟩

theorem Ih {n m:Nat} (ih:∀(t:TypeId) (cs:List Value) (x:DataW H × List MemPlace) (ls:List eH),DataW.trod enc P w 0 spare held n t cs=some x→mW P tt m t=some ls→Rows.uptoBulk x.1≤mx→pZ w (Rows.uptoBulk x.1) ls cs) (cs:List Value) :
    ∀(fs:List Field) (j:Nat) (xs:List (DataW H × List MemPlace)) (ls:List eH),(fs.mapM fun f=>DataW.trod enc P w 0 spare held n f.type ((cs.drop f.offset).take (P.cellsOf f.type)))=some xs →
      EC P (mW P tt m) fs j cs.length=some ls→Rows.uptoBulkAll (xs.map (·.1))≤mx→pZ w (Rows.uptoBulkAll (xs.map (·.1))) ls (cs.drop j)
  | [],j,xs,ls,_,hl,_=>by
    unfold EC at hl
    split at hl
    · rename_i hj
      cases hl
      rw[List.drop_eq_nil_of_le (by omega)]
      exact .nil
    · cases hl
  | f::fs,j,xs,ls,hx,hl,hb=>by
    simp only[List.mapM_cons,Option.pure_def,Option.bind_eq_bind,Option.bind_eq_some_iff]at hx
    obtain ⟨y,hy,ys,hys,e⟩:=hx
    cases e
    simp only[List.map_cons,Rows.uptoBulkAll]at hb
    unfold EC at hl
    split at hl
    · rename_i ho
      split at hl
      · rename_i a ha
        split at hl
        · rename_i p6
          split at hl
          · rename_i b o6
            cases hl
            rw[ho]at hy
            have r1:=ih _ _ _ _ hy ha (by omega)
            have r2:=Ih ih cs fs (j+a.length) ys b hys o6 (by omega)
            have e:cs.drop j=(cs.drop j).take (P.cellsOf f.type)++cs.drop (j+a.length):=by
              rw[←p6,←List.drop_drop]
              exact (List.take_append_drop a.length (cs.drop j)).symm
            rw[e]
            exact r1.append r2
          · cases hl
        · cases hl
      · cases hl
    · cases hl

theorem NV {n m:Nat} {e:TypeId} (ih:∀(t:TypeId) (cs:List Value) (x:DataW H × List MemPlace) (ls:List eH),DataW.trod enc P w 0 spare held n t cs=some x→mW P tt m t=some ls→Rows.uptoBulk x.1≤mx→pZ w (Rows.uptoBulk x.1) ls cs) (cs:List Value) {a:List eH} (ha:mW P tt m e=some a) :
    ∀(k i:Nat) (ls:List eH) (es:List (DataW H)),es.length=k→(∀q y,es[q]? = some y→∃x,DataW.trod enc P w 0 spare held n e ((cs.drop ((i+q)*P.cellsOf e)).take (P.cellsOf e))=some x∧x.1=y)→Rows.uptoBulkAll es≤mx →
      xP (some a) (P.cellsOf e) k (i*P.cellsOf e) cs.length=some ls→pZ w (Rows.uptoBulkAll es) ls (cs.drop (i*P.cellsOf e))
  | 0,i,ls,es,_,_,_,hl=>by
    unfold xP at hl
    split at hl
    · rename_i hj
      cases hl
      rw[List.drop_eq_nil_of_le (by omega)]
      exact .nil
    · cases hl
  | k+1,i,ls, [],h0,hx,hbm,hl=>by cases h0
  | k+1,i,ls,y0::es,h0,hx,hbm,hl=>by
    unfold xP at hl
    simp only at hl
    split at hl
    · rename_i p6
      split at hl
      · rename_i b o6
        cases hl
        obtain ⟨x,h1,rfl⟩:=hx 0 y0 rfl
        simp only[Rows.uptoBulkAll]at hbm ⊢
        have r1:=ih _ _ _ _ h1 ha (by omega)
        rw[p6]at o6
        have e1:i*P.cellsOf e+P.cellsOf e=(i+1)*P.cellsOf e:=by rw[Nat.add_mul]; omega
        rw[e1]at o6
        have r2:=NV ih cs ha k (i+1) b es (by simpa using h0) (fun q y hq=>by
          have:=hx (q+1) y hq
          rw[show i+(q+1)=i+1+q by omega]at this
          exact this) (by omega) o6
        have e:cs.drop (i*P.cellsOf e)=(cs.drop (i*P.cellsOf e)).take (P.cellsOf e)++cs.drop ((i+1)*P.cellsOf e):=by
          rw[←e1,←List.drop_drop]
          exact (List.take_append_drop _ _).symm
        rw[e]
        exact r1.append r2
      · cases hl
    · cases hl

theorem DL (zo:ED P tt):∀(n:Nat) (t:TypeId) (cs:List Value) (x:DataW H × List MemPlace) (m:Nat) (ls:List eH),DataW.trod enc P w 0 spare held n t cs=some x→mW P tt m t=some ls →
    Rows.uptoBulk x.1≤mx→pZ w (Rows.uptoBulk x.1) ls cs
  | 0,_,_,_,_,_,h,_,_=>by simp[DataW.trod]at h
  | n+1,t,cs,x,0,ls,_,hl,_=>by simp[mW]at hl
  | n+1,t,cs,x,m+1,ls,h,hl,hb=>by
    have ih:∀(t:TypeId) (cs:List Value) (x:DataW H × List MemPlace) (ls:List eH),DataW.trod enc P w 0 spare held n t cs=some x→mW P tt m t=some ls→Rows.uptoBulk x.1≤mx→pZ w (Rows.uptoBulk x.1) ls cs :=
      fun t cs x ls h1 h2 h3=>DL zo n t cs x m ls h1 h2 h3
    have ih8:∀(t:TypeId) (cs:List Value) (x:DataW H × List MemPlace) (ls:List eH),DataW.trod enc P w 0 spare held n t cs=some x→mW P tt 8 t=some ls→Rows.uptoBulk x.1≤mx→pZ w (Rows.uptoBulk x.1) ls cs :=
      fun t cs x ls h1 h2 h3=>DL zo n t cs x 8 ls h1 h2 h3
    unfold mW at hl
    unfold DataW.trod at h
    cases hu:P.underlying t with
    | none=>rw[hu]at hl; cases hl
    | some u =>
      rw[hu]at hl h
      cases u <;> simp only at hl <;> try (first|cases hl)
      case some.bool.refl =>
        rcases cs with _|⟨c,_|⟨c2,r⟩⟩
        · simp at h
        · cases c <;> simp at h
          exact .one (p := .bool) (.bool _) (.bool (Hu _) _)
        · simp at h
      case some.int.refl k =>
        rcases cs with _|⟨c,_|⟨c2,r⟩⟩
        · simp at h
        · cases c <;> simp at h
          rename_i k' z
          obtain ⟨⟨rfl,hw⟩,_⟩:=h
          have hk:IntKind.has k' z:=by
            simp only[Lit.wf,Bool.and_eq_true,decide_eq_true_eq]at hw
            exact hw
          exact .one (p := .int k') (x:=z) (.int hk) (.int (Hu _) hk)
        · simp at h
      case some.string.refl =>
        rcases cs with _|⟨c,_|⟨c2,r⟩⟩
        · simp at h
        · cases c <;> simp at h
          rename_i s
          obtain ⟨hs,rfl⟩:=h
          have o6:s.data.toList.length+1≤mx:=by simp only[Rows.uptoBulk]at hb; omega
          have p6:s.size≤mx:=by
            have e:s.data.toList.length=s.size:=by rw[Array.length_toList]; rfl
            omega
          exact .one (p := .str) (x:=s.data.toList) (.str p6) (.str (by simp only[Rows.uptoBulk]; omega))
        · simp at h
      case some.slice e =>
        split at hl <;> try (first|cases hl)
        rename_i T hT
        split at hl <;> try (first|cases hl)
        rename_i p6
        rcases cs with _|⟨c,_|⟨c2,r⟩⟩
        · simp at h
        · cases c <;> try (simp at h; done)
          rename_i A len cap
          cases A with
          | none =>
            have h0:len=0∧cap=0:=by
              split at h <;> simp_all
            obtain ⟨rfl,rfl⟩:=h0
            refine .one (p := .sl T) (x := []) ?_ (.sl (m:=0) (Hu _) .nil)
            exact dw.sl (T:=T) (l := []) (t := .no) (A:=none) (cap:=0) (fun _ _=>undef) (Nat.le_refl _) (Nat.zero_le _) (fun i j hi=>by simp at hi) (fun i j x v hx=>by simp at hx) (by simp) (by simp)
          | some a =>
            simp only[Nat.zero_le,true_and]at h
            split at h <;> try (first|cases h)
            rename_i hc
            simp only[Option.bind_eq_some_iff,Option.map_eq_some_iff]at h
            obtain ⟨elems,he,rest,hr,rfl⟩:=h
            obtain ⟨g1,g2⟩:=Hv he
            simp only[List.length_range]at g1
            simp only[Rows.uptoBulk]at hb
            have hlen:len≤mx:=by
              have:=W5 (elems.map (·.1))
              simp only[List.length_map]at this
              omega
            have key:∀i,i<len→∃y:T.den,∃ds:List Value,w.cells? 0 (a.add (i*P.cellsOf e)) (P.cellsOf e)=some ds∧cz w [] JT (T.cells y) ds∧∃n,JM n (T.cells y)∧∀z,elems[i]? = some z→n≤Rows.uptoBulk z.1:=by
              intro i hi
              obtain ⟨z,hz,hz2⟩:=g2 i i (by simp[hi])
              simp only[Option.bind_eq_some_iff]at hz2
              obtain ⟨ds,hd1,VI⟩:=hz2
              have hmem:z.1∈elems.map (·.1):=List.mem_map.2 ⟨z,List.mem_of_getElem? hz,rfl⟩
              obtain ⟨vs,nw,⟨q,rfl⟩,k2,k3,k4⟩:=ih8 _ _ _ _ VI (zo e T hT) (by have:=Uz hmem; omega)
              obtain ⟨y,hy⟩:=Ht T q
              rw[←hy]at k2 k3
              exact ⟨y,ds,hd1,k2,nw,k3,fun z' hz'=>by rw[hz]at hz'; cases hz'; exact k4⟩
            obtain ⟨l,hl1,SD⟩:=S3 _ len key
            obtain ⟨mm,hm1,YV⟩:=To l (elems.map (·.1)) (by simp; omega) fun i y e hy he=>by
              obtain ⟨_,_,_,nn,hn1,hn2⟩:=SD i y hy
              rw[List.getElem?_map]at he
              obtain ⟨z,hz,rfl⟩:=Option.map_eq_some_iff.1 he
              exact ⟨nn,hn1,hn2 z hz⟩
            refine .one (p := .sl T) (x:=l) ?_ (.sl (m:=mm) (by simp only[Rows.uptoBulk]; omega) hm1)
            · have hv:(Value.slice (some a) len cap) = .slice (some a) l.length cap:=by rw[hl1]
              rw[hv]
              refine dw.sl (fun i j=>(w.cell? ((a.add (i*T.sz)).add j)).getD undef) (by omega) (Nat.le_trans hc.2 (Nat.le_of_ble_eq_true rfl)) (fun i j hi hj => ?_) (fun i j y v hy hv => ?_) (by simp) (by simp)
              · obtain ⟨y,hy⟩:∃y,l[i]? = some y:=⟨l[i],by simp[hi]⟩
                obtain ⟨ds,d1,d2,_⟩:=SD i y hy
                rw[p6]at d1
                obtain ⟨c1,c2⟩:=GD d1
                obtain ⟨v,v1,v2⟩:=c2 j hj
                have ea:a=⟨a.block,a.off,none⟩:=by
                  have hs0:a.spot=none:=by
                    obtain ⟨y0,hy0⟩:∃y,l[0]? = some y:=⟨l[0],by simp⟩
                    obtain ⟨ds0,d01,_,_⟩:=SD 0 y0 hy0
                    rw[p6]at d01
                    obtain ⟨_,c02⟩:=GD d01
                    obtain ⟨v0,_,v02⟩:=c02 0 (Ty.Da T)
                    simp only[Nat.zero_mul,Addr.add,if_true]at v02
                    exact UA v02
                  cases a; simp_all
                refine ⟨a.block,a.off,by rw[←ea],?_,free0 _ _⟩
                have e2:=addr_add (a:=a) (by rw[ea]) (i*T.sz) j
                rw[e2,v2]; rfl
              · have hi:i<l.length:=(List.getElem?_eq_some_iff.1 hy).1
                obtain ⟨ds,d1,d2,_⟩:=SD i y hy
                rw[p6]at d1
                obtain ⟨c1,c2⟩:=GD d1
                have hj:j<T.sz:=by rw[←T.lh y]; exact (List.getElem?_eq_some_iff.1 hv).1
                obtain ⟨u,v1,v2⟩:=c2 j hj
                rw[v2]
                exact d2.2 j v u hv v1
        · simp at h
      case some.struct fs =>
        simp only at h
        split at h
        · rename_i By
          simp only[Option.map_eq_some_iff]at h
          obtain ⟨xs,hx,rfl⟩:=h
          simp only[Rows.uptoBulk]at hb
          rw[←By]at hl
          have:=Ih ih cs fs.toList 0 xs ls hx hl (by omega)
          exact pZ.le (by simpa using this) (by simp only[Rows.uptoBulk]; omega)
        · cases h
      case some.array k e =>
        simp only at h
        split at h
        · rename_i By
          simp only[Option.map_eq_some_iff]at h
          obtain ⟨xs,hx,rfl⟩:=h
          simp only[Rows.uptoBulk]at hb
          rw[←By]at hl
          obtain ⟨g1,g2⟩:=Hv hx
          cases ha:mW P tt m e with
          | none =>
            rw[ha]at hl
            cases k with
            | zero =>
              unfold xP at hl
              split at hl
              · rename_i hj
                cases hl
                have:cs = []:=List.eq_nil_of_length_eq_zero hj.symm
                subst this
                exact .nil
              · cases hl
            | succ k=>simp[xP]at hl
          | some a =>
            rw[ha]at hl
            have:=NV ih cs ha k 0 ls (xs.map (·.1)) (by simpa using g1) (fun q y hy=>by
              rw[List.getElem?_map]at hy
              obtain ⟨z,hz,rfl⟩:=Option.map_eq_some_iff.1 hy
              have hq:q<k:=by
                have:=(List.getElem?_eq_some_iff.1 hz).1
                simp at g1
                omega
              obtain ⟨y2,hy1,hy2⟩:=g2 q q (by simp[hq])
              rw[hz]at hy1
              cases hy1
              exact ⟨z,by rw[Nat.zero_add]; exact hy2,rfl⟩) (by omega) (by simpa using hl)
            exact pZ.le (by simpa using this) (by simp only[Rows.uptoBulk]; omega)
        · cases h

theorem QS {N:Nat} (zo:ED P tt) {t:TypeId} {v:Value} {d:DataW H} {ps:List MemPlace} {p:eH} {base:Nat} (ho:S5 P t=true) (hl:mW P tt 8 t=some [p]) (BA:Value.okWide P w .any base t v)
    (h:DataW.Trod enc P w 0 spare held t v d ps) (hb:Rows.uptoBulk d≤N) (hN:N≤mx):∃x:p.den,dw w [] JT (p.enc x) v∧∃n,Wt n (p.enc x)∧n≤N:=by
  obtain ⟨n,h⟩:=h
  obtain ⟨vs,nw,⟨x,rfl⟩,h2,h3,h4⟩:=DL zo n t _ _ 8 _ h hl (Nat.le_trans hb hN)
  have hc:v.cells.toList = [v]:=by
    unfold S5 at ho
    unfold Value.okWide at BA
    cases hu:P.underlying t with
    | none=>rw[hu]at ho; cases ho
    | some u =>
      rw[hu]at ho BA
      cases u <;> simp only at ho <;> try (first|cases ho) <;> (cases v <;> simp[Cell.okWide,Cell.ok,hu]at BA <;> rfl)
  rw[hc]at h2
  have h3':JM nw [p.enc x.1]:=h3
  cases h3' with
  | cons a b=>cases b; exact ⟨x.1,h2.head,_,a,Nat.le_trans h4 hb⟩

theorem QT {N:Nat} (zo:ED P tt) {t:TypeId} {v:Value} {d:DataW H} {ps:List MemPlace} {T:Ty} {base:Nat} (ho:S6 P t=true) (hl:mW P tt 8 t=some T.leaves) (BA:Value.okWide P w .any base t v)
    (h:DataW.Trod enc P w 0 spare held t v d ps) (hb:Rows.uptoBulk d≤N) (hN:N≤mx):∃x:T.den,dw w [] JT (.agg (T.cells x)) v∧∃n,JM n (T.cells x)∧n≤N:=by
  obtain ⟨n,h⟩:=h
  obtain ⟨vs,nw,⟨x,rfl⟩,h2,h3,h4⟩:=DL zo n t _ _ 8 _ h hl (Nat.le_trans hb hN)
  obtain ⟨y,hy⟩:=Ht T x
  rw[←hy]at h2 h3
  have hc:∃cs,v = .agg cs:=by
    unfold S6 at ho
    unfold Value.okWide at BA
    cases hu:P.underlying t with
    | none=>rw[hu]at ho; cases ho
    | some u =>
      rw[hu]at ho BA
      cases u <;> simp only at ho <;> try (first|cases ho) <;> (obtain ⟨cs,hc,_⟩:=BA; exact ⟨cs,hc⟩)
  obtain ⟨cs,rfl⟩:=hc
  exact ⟨y, .agg (by have:=h2.1; simpa [Value.cells]using this) fun j v d hv hd=>h2.2 j v d hv (by simpa [Value.cells]using hd),nw,h3,Nat.le_trans h4 hb⟩
end
end Go.ax

/-
  Functions of the program as pure Lean functions, and the ties; printed by wip/tools/emit.py.
-/
set_option maxRecDepth 100000
namespace Go.Proofs.YtmlkkgfenfdndaaGreatDoor
open Go Go.ax

/-! ### humpyard/humpyardlaw04.Fit -/
abbrev dn (R:Type):Type:=Raw→Int→(Json→Option R)→Option R
abbrev oN:List bJ := [.agg [.int .i64, .int .i64, .int .i64, .sl (.int .i64), .sl .raw], .leaf (.int .i64)]
abbrev oO:List aF := []
noncomputable def lb {R:Type} (fn:dn R):bJ.au oN→aF.au oO→(V→ay→Option R)→Option R:=fun x y k=>fn (⟨x.1.1,x.1.2.1,x.1.2.2.1,x.1.2.2.2.1,x.1.2.2.2.2.1⟩:Raw) x.2.1 (fun q0=>k (.agg [.int .i64 q0.kind, .int .i64 q0.num.aw, .int .i64 q0.num.exp, .str q0.text, .sl .str q0.names .no, .sl .json q0.items .no]) [])
abbrev jy (R:Type):Type:=Nat→Int→Int→Int→ak→Bool→Int→Raw→Int→Int→Int→ak→Int→Int→Int→ak→(List ak)→(List Json)→Raw→(Int→Int→Int→ak→Bool→Raw→Int→Int→Int→ak→Int→Int→Int→ak→(List ak)→(List Json)→Raw→Option R)→Option R
abbrev lg (R:Type):Type:=Nat→Int→Int→Int→Raw→Int→Int→Int→ak→Int→Int→Int→ak→(List ak)→(List Json)→(Int→Int→Int→ak→Int→Int→Int→ak→(List ak)→(List Json)→Option R)→Option R
noncomputable def nt (R:Type) (br:fI R) (cZ:lU R) (aG:dn R) (eI:oR R):Env R:=fun i=>match i with
  | 37=>some (true,(az sV sW (yz br) aZ))
  | 28=>some (true,(az yQ yR (Dq cZ) aZ))
  | 16=>some (true,(az oN oO (lb aG) aZ))
  | 35=>some (true,(az Ae Af (F2 eI) aZ))
  | _=>none
theorem M6 (R:Type) (aG:dn R) (Cs:ax.Spec.Ok Tryz.prog 16 (az oN oO (lb aG) aZ)):po Tryz.prog (nt R br cZ aG eI):=by
  intro i b sp h
  unfold nt at h
  split at h
  · cases h; exact ⟨(zw R _ (aM _)),fun h=>nomatch h⟩
  · cases h; exact ⟨(EH R _ (aM _)),fun h=>nomatch h⟩
  · cases h; exact ⟨Cs,fun h=>nomatch h⟩
  · cases h; exact ⟨(JU R _ (aM _)),fun h=>nomatch h⟩
  · cases h

noncomputable def td {R:Type} (gm:Int→Int→Int→ak→Bool→Int→Raw→Int→Int→Int→ak→Int→Int→Int→ak→(List ak)→(List Json)→Raw→Option R) (Zt:Int) (Vr:Int) (Vs:Int) (Ph:ak) (x27:Bool) (YH:Int) (HV:Raw) (Tg:Int) (x31:Int) (x32:Int) (x33:ak) (x34:Int) (x35:Int) (x36:Int) (x37:ak) (x38:List ak) (x39:List Json) (Sw:Raw) (e0:Int→Int→Int→ak→Bool→Raw→Int→Int→Int→ak→Int→Int→Int→ak→(List ak)→(List Json)→Raw→Option R):Option R :=
  bif (decide (YH<(x38.length:Int)))then (bif x27 then (gm Zt Vr Vs Ph true (IntKind.i64.wrap (YH+1)) (⟨HV.kind,HV.aw,HV.exp,HV.text,HV.items⟩:Raw) Tg x31 x32 x33 x34 x35 x36 x37 x38 x39 (⟨Sw.kind,Sw.aw,Sw.exp,Sw.text,Sw.items⟩:Raw))else (cR (decide ((0:Int)≤YH)&&decide (YH<x38.length)) (gm Zt Vr Vs Ph ((x38.getD YH.toNat (Ty.cg .str))==Ph) (IntKind.i64.wrap (YH+1)) (⟨HV.kind,HV.aw,HV.exp,HV.text,HV.items⟩:Raw) Tg x31 x32 x33 x34 x35 x36 x37 x38 x39 (⟨Sw.kind,Sw.aw,Sw.exp,Sw.text,Sw.items⟩:Raw))))else (e0 Zt Vr Vs Ph x27 (⟨HV.kind,HV.aw,HV.exp,HV.text,HV.items⟩:Raw) Tg x31 x32 x33 x34 x35 x36 x37 x38 x39 (⟨Sw.kind,Sw.aw,Sw.exp,Sw.text,Sw.items⟩:Raw))
noncomputable def bw {R:Type}:jy R
  | 0,_,_,_,_,_,_,_,_,_,_,_,_,_,_,_,_,_,_,_=>none
  | n+1,mQ,mR,nI,xl,FE,FF,OU,OV,OW,OX,DC,GX,Md,Me,Yj,Yk,Yl,Ym,e0=>td (fun mQ mR nI xl FE FF OU OV OW OX DC GX Md Me Yj Yk Yl Ym=>bw n mQ mR nI xl FE FF OU OV OW OX DC GX Md Me Yj Yk Yl Ym e0) mQ mR nI xl FE FF OU OV OW OX DC GX Md Me Yj Yk Yl Ym e0
noncomputable def tf:Hint := { live := [1,2,4,5,6,7,8,9,10,11],own := [],rows := [],cells := [],drop := [],out := [1,2,4,5,6,7,8,9,10] }
abbrev kj:Type:=Int × Int × Int × ak × Bool × Int × Raw × Int × Int × Int × ak × Int × Int × Int × ak × (List ak) × (List Json) × Raw
noncomputable def qx:kj→St:=fun d=>⟨[.undef, .int .i64 d.1, .ptr 0 0, .undef, .ptr 1 0, .int .i64 d.2.1, .ptr 2 0, .int .i64 d.2.2.1, .ptr 3 0, .str d.2.2.2.1, .bool d.2.2.2.2.1, .int .i64 d.2.2.2.2.2.1, .undef, .undef, .undef, .undef, .undef, .undef, .undef, .undef, .undef, .undef, .undef, .undef, .undef, .undef, .undef, .undef, .undef, .undef, .undef, .undef, .undef, .undef, .undef, .undef, .undef, .undef, .undef, .undef, .undef, .undef, .undef, .undef, .undef, .undef, .undef, .undef, .undef, .undef, .undef, .undef, .undef, .undef, .undef, .undef, .undef, .undef, .undef, .undef, .undef, .undef, .undef, .undef, .undef, .undef, .undef, .undef, .undef, .undef, .undef, .undef, .undef, .undef, .undef, .undef, .undef, .undef, .undef, .undef, .undef, .undef, .undef, .undef, .undef, .undef, .undef, .undef, .undef, .undef, .undef, .undef, .undef, .undef, .undef, .undef, .undef, .undef, .undef, .undef, .undef, .undef, .undef, .undef, .undef], [.cells [.int .i64 d.2.2.2.2.2.2.1.kind, .int .i64 d.2.2.2.2.2.2.1.aw, .int .i64 d.2.2.2.2.2.2.1.exp, .sl (.int .i64) d.2.2.2.2.2.2.1.text .no, .sl .raw d.2.2.2.2.2.2.1.items .no], .cells [.int .i64 d.2.2.2.2.2.2.2.1, .int .i64 d.2.2.2.2.2.2.2.2.1, .int .i64 d.2.2.2.2.2.2.2.2.2.1, .str d.2.2.2.2.2.2.2.2.2.2.1, .cw, .cw], .cells [.int .i64 d.2.2.2.2.2.2.2.2.2.2.2.1, .int .i64 d.2.2.2.2.2.2.2.2.2.2.2.2.1, .int .i64 d.2.2.2.2.2.2.2.2.2.2.2.2.2.1, .str d.2.2.2.2.2.2.2.2.2.2.2.2.2.2.1, .sl .str d.2.2.2.2.2.2.2.2.2.2.2.2.2.2.2.1 (.own 4), .sl .json d.2.2.2.2.2.2.2.2.2.2.2.2.2.2.2.2.1 (.own 5)], .cells [.int .i64 d.2.2.2.2.2.2.2.2.2.2.2.2.2.2.2.2.2.kind, .int .i64 d.2.2.2.2.2.2.2.2.2.2.2.2.2.2.2.2.2.aw, .int .i64 d.2.2.2.2.2.2.2.2.2.2.2.2.2.2.2.2.2.exp, .sl (.int .i64) d.2.2.2.2.2.2.2.2.2.2.2.2.2.2.2.2.2.text .no, .sl .raw d.2.2.2.2.2.2.2.2.2.2.2.2.2.2.2.2.2.items .no], .tok, .tok]⟩
noncomputable def xd {R:Type} (K:Ex→St→Option R) (q0:Int) (q1:Int) (q2:Int) (q3:ak) (q4:Bool) (q5:Raw) (q6:Int) (q7:Int) (q8:Int) (q9:ak) (L4:Int) (q11:Int) (q12:Int) (q13:ak) (q14:List ak) (q15:List Json) (q16:Raw):Option R:=K (.exit 3) ⟨[.undef, .int .i64 q0, .ptr 0 0, .undef, .ptr 1 0, .int .i64 q1, .ptr 2 0, .int .i64 q2, .ptr 3 0, .str q3, .bool q4, .undef, .undef, .undef, .undef, .undef, .undef, .undef, .undef, .undef, .undef, .undef, .undef, .undef, .undef, .undef, .undef, .undef, .undef, .undef, .undef, .undef, .undef, .undef, .undef, .undef, .undef, .undef, .undef, .undef, .undef, .undef, .undef, .undef, .undef, .undef, .undef, .undef, .undef, .undef, .undef, .undef, .undef, .undef, .undef, .undef, .undef, .undef, .undef, .undef, .undef, .undef, .undef, .undef, .undef, .undef, .undef, .undef, .undef, .undef, .undef, .undef, .undef, .undef, .undef, .undef, .undef, .undef, .undef, .undef, .undef, .undef, .undef, .undef, .undef, .undef, .undef, .undef, .undef, .undef, .undef, .undef, .undef, .undef, .undef, .undef, .undef, .undef, .undef, .undef, .undef, .undef, .undef, .undef, .undef], [.cells [.int .i64 q5.kind, .int .i64 q5.aw, .int .i64 q5.exp, .sl (.int .i64) q5.text .no, .sl .raw q5.items .no], .cells [.int .i64 q6, .int .i64 q7, .int .i64 q8, .str q9, .cw, .cw], .cells [.int .i64 L4, .int .i64 q11, .int .i64 q12, .str q13, .sl .str q14 (.own 4), .sl .json q15 (.own 5)], .cells [.int .i64 q16.kind, .int .i64 q16.aw, .int .i64 q16.exp, .sl (.int .i64) q16.text .no, .sl .raw q16.items .no], .tok, .tok]⟩
noncomputable def yp {R:Type} (K:Ex→St→Option R) (rc:kj→Option R) (d:kj):Option R:=td (fun z0 z1 z2 z3 z4 z5 z6 z7 z8 z9 OY vn z12 Qp z14 Zu z16 z17=>rc (z0,z1,z2,z3,z4,z5,z6,z7,z8,z9,OY,vn,z12,Qp,z14,Zu,z16,z17)) d.1 d.2.1 d.2.2.1 d.2.2.2.1 d.2.2.2.2.1 d.2.2.2.2.2.1 d.2.2.2.2.2.2.1 d.2.2.2.2.2.2.2.1 d.2.2.2.2.2.2.2.2.1 d.2.2.2.2.2.2.2.2.2.1 d.2.2.2.2.2.2.2.2.2.2.1 d.2.2.2.2.2.2.2.2.2.2.2.1 d.2.2.2.2.2.2.2.2.2.2.2.2.1 d.2.2.2.2.2.2.2.2.2.2.2.2.2.1 d.2.2.2.2.2.2.2.2.2.2.2.2.2.2.1 d.2.2.2.2.2.2.2.2.2.2.2.2.2.2.2.1 d.2.2.2.2.2.2.2.2.2.2.2.2.2.2.2.2.1 d.2.2.2.2.2.2.2.2.2.2.2.2.2.2.2.2.2 (xd K)
noncomputable def nD {R:Type} (K:Ex→St→Option R) (n:Nat) (d:kj):Option R:=bw n d.1 d.2.1 d.2.2.1 d.2.2.2.1 d.2.2.2.2.1 d.2.2.2.2.2.1 d.2.2.2.2.2.2.1 d.2.2.2.2.2.2.2.1 d.2.2.2.2.2.2.2.2.1 d.2.2.2.2.2.2.2.2.2.1 d.2.2.2.2.2.2.2.2.2.2.1 d.2.2.2.2.2.2.2.2.2.2.2.1 d.2.2.2.2.2.2.2.2.2.2.2.2.1 d.2.2.2.2.2.2.2.2.2.2.2.2.2.1 d.2.2.2.2.2.2.2.2.2.2.2.2.2.2.1 d.2.2.2.2.2.2.2.2.2.2.2.2.2.2.2.1 d.2.2.2.2.2.2.2.2.2.2.2.2.2.2.2.2.1 d.2.2.2.2.2.2.2.2.2.2.2.2.2.2.2.2.2 (xd K)
abbrev kk:List bJ := [.leaf (.undef), .leaf (.int .i64), .leaf (.ptr 0 0), .leaf (.undef), .leaf (.ptr 1 0), .leaf (.int .i64), .leaf (.ptr 2 0), .leaf (.int .i64), .leaf (.ptr 3 0), .leaf (.str), .leaf (.bool), .leaf (.int .i64), .leaf (.undef), .leaf (.undef), .leaf (.undef), .leaf (.undef), .leaf (.undef), .leaf (.undef), .leaf (.undef), .leaf (.undef), .leaf (.undef), .leaf (.undef), .leaf (.undef), .leaf (.undef), .leaf (.undef), .leaf (.undef), .leaf (.undef), .leaf (.undef), .leaf (.undef), .leaf (.undef), .leaf (.undef), .leaf (.undef), .leaf (.undef), .leaf (.undef), .leaf (.undef), .leaf (.undef), .leaf (.undef), .leaf (.undef), .leaf (.undef), .leaf (.undef), .leaf (.undef), .leaf (.undef), .leaf (.undef), .leaf (.undef), .leaf (.undef), .leaf (.undef), .leaf (.undef), .leaf (.undef), .leaf (.undef), .leaf (.undef), .leaf (.undef), .leaf (.undef), .leaf (.undef), .leaf (.undef), .leaf (.undef), .leaf (.undef), .leaf (.undef), .leaf (.undef), .leaf (.undef), .leaf (.undef), .leaf (.undef), .leaf (.undef), .leaf (.undef), .leaf (.undef), .leaf (.undef), .leaf (.undef), .leaf (.undef), .leaf (.undef), .leaf (.undef), .leaf (.undef), .leaf (.undef), .leaf (.undef), .leaf (.undef), .leaf (.undef), .leaf (.undef), .leaf (.undef), .leaf (.undef), .leaf (.undef), .leaf (.undef), .leaf (.undef), .leaf (.undef), .leaf (.undef), .leaf (.undef), .leaf (.undef), .leaf (.undef), .leaf (.undef), .leaf (.undef), .leaf (.undef), .leaf (.undef), .leaf (.undef), .leaf (.undef), .leaf (.undef), .leaf (.undef), .leaf (.undef), .leaf (.undef), .leaf (.undef), .leaf (.undef), .leaf (.undef), .leaf (.undef), .leaf (.undef), .leaf (.undef), .leaf (.undef), .leaf (.undef), .leaf (.undef), .leaf (.undef)]
abbrev kl:List aF := [.cells [.int .i64, .int .i64, .int .i64, .sl (.int .i64), .sl .raw], .cells [.int .i64, .int .i64, .int .i64, .str, .cw, .cw], .cells [.int .i64, .int .i64, .int .i64, .str, .Mp .str 4, .Mp .json 5], .cells [.int .i64, .int .i64, .int .i64, .sl (.int .i64), .sl .raw], .tok, .tok]
noncomputable def yq (x:bJ.au kk) (y:aF.au kl):Nat:=(Int.natAbs x.2.1+Int.natAbs x.2.2.2.2.2.1+Int.natAbs x.2.2.2.2.2.2.2.1+List.length x.2.2.2.2.2.2.2.2.2.1+Int.natAbs x.2.2.2.2.2.2.2.2.2.2.2.1+Raw.fu (⟨y.1.1,y.1.2.1,y.1.2.2.1,y.1.2.2.2.1,y.1.2.2.2.2.1⟩:Raw)+Int.natAbs y.2.1.1+Int.natAbs y.2.1.2.1+Int.natAbs y.2.1.2.2.1+List.length y.2.1.2.2.2.1+Int.natAbs y.2.2.1.1+Int.natAbs y.2.2.1.2.1+Int.natAbs y.2.2.1.2.2.1+List.length y.2.2.1.2.2.2.1+List.length y.2.2.1.2.2.2.2.1+List.length y.2.2.1.2.2.2.2.2.1+Raw.fu (⟨y.2.2.2.1.1,y.2.2.2.1.2.1,y.2.2.2.1.2.2.1,y.2.2.2.1.2.2.2.1,y.2.2.2.1.2.2.2.2.1⟩:Raw)+64)
noncomputable def yr (x:bJ.au kk) (y:aF.au kl):kj:=(x.2.1,x.2.2.2.2.2.1,x.2.2.2.2.2.2.2.1,x.2.2.2.2.2.2.2.2.2.1,x.2.2.2.2.2.2.2.2.2.2.1,x.2.2.2.2.2.2.2.2.2.2.2.1,(⟨y.1.1,y.1.2.1,y.1.2.2.1,y.1.2.2.2.1,y.1.2.2.2.2.1⟩:Raw),y.2.1.1,y.2.1.2.1,y.2.1.2.2.1,y.2.1.2.2.2.1,y.2.2.1.1,y.2.2.1.2.1,y.2.2.1.2.2.1,y.2.2.1.2.2.2.1,y.2.2.1.2.2.2.2.1,y.2.2.1.2.2.2.2.2.1,(⟨y.2.2.2.1.1,y.2.2.2.1.2.1,y.2.2.2.1.2.2.1,y.2.2.2.1.2.2.2.1,y.2.2.2.1.2.2.2.2.1⟩:Raw))
noncomputable def xe {R:Type} (L:jy R):bJ.au kk→aF.au kl→(Ex→St→Option R)→Option R:=fun x y K=>L (yq x y) x.2.1 x.2.2.2.2.2.1 x.2.2.2.2.2.2.2.1 x.2.2.2.2.2.2.2.2.2.1 x.2.2.2.2.2.2.2.2.2.2.1 x.2.2.2.2.2.2.2.2.2.2.2.1 (⟨y.1.1,y.1.2.1,y.1.2.2.1,y.1.2.2.2.1,y.1.2.2.2.2.1⟩:Raw) y.2.1.1 y.2.1.2.1 y.2.1.2.2.1 y.2.1.2.2.2.1 y.2.2.1.1 y.2.2.1.2.1 y.2.2.1.2.2.1 y.2.2.1.2.2.2.1 y.2.2.1.2.2.2.2.1 y.2.2.1.2.2.2.2.2.1 (⟨y.2.2.2.1.1,y.2.2.2.1.2.1,y.2.2.2.1.2.2.1,y.2.2.2.1.2.2.2.1,y.2.2.2.1.2.2.2.2.1⟩:Raw) (xd K)
noncomputable def lR {R:Type} (br:fI R) (aG:dn R) (bw:jy R) (gm:Int→Int→Int→Raw→Int→Int→Int→ak→Int→Int→Int→ak→(List ak)→(List Json)→Option R) (x7:Int) (x8:Int) (x9:Int) (Bq:Raw) (QZ:Int) (x12:Int) (Su:Int) (Tc:ak) (pj:Int) (sK:Int) (mz:Int) (sL:ak) (Cb:List ak) (zT:List Json) (e0:Int→Int→Int→ak→Int→Int→Int→ak→(List ak)→(List Json)→Option R):Option R :=
  bif (decide (x9<(Bq.items.length:Int)))then (bif (decide (x9<(12:Int)))then (bif (decide (x7<(16:Int)))then (cR (decide ((0:Int)≤x9)&&decide (x9<Bq.items.length)) (cR (decide ((0:Int)≤(min (((Bq.items.getD x9.toNat (Ty.cg .raw)).text).length:Int) 8))&&decide ((min (((Bq.items.getD x9.toNat (Ty.cg .raw)).text).length:Int) 8)≤((Bq.items.getD x9.toNat (Ty.cg .raw)).text).length)) (cR (decide ((0:Int)≤(min (((Bq.items.getD x9.toNat (Ty.cg .raw)).text).length:Int) 8))) (br ((((Bq.items.getD x9.toNat (Ty.cg .raw)).text).drop 0).take ((min (((Bq.items.getD x9.toNat (Ty.cg .raw)).text).length:Int) 8).toNat - 0)) (fun Vo=>bif (x8==7)then (bw (Int.natAbs x7+Int.natAbs x8+Int.natAbs x9+List.length Vo+Int.natAbs 0+Raw.fu (⟨Bq.kind,Bq.aw,Bq.exp,Bq.text,Bq.items⟩:Raw)+Int.natAbs QZ+Int.natAbs x12+Int.natAbs Su+List.length Tc+Int.natAbs pj+Int.natAbs sK+Int.natAbs mz+List.length sL+List.length Cb+List.length zT+Raw.fu (⟨(Bq.items.getD x9.toNat (Ty.cg .raw)).kind,(Bq.items.getD x9.toNat (Ty.cg .raw)).aw,(Bq.items.getD x9.toNat (Ty.cg .raw)).exp,(Bq.items.getD x9.toNat (Ty.cg .raw)).text,(Bq.items.getD x9.toNat (Ty.cg .raw)).items⟩:Raw)+64) x7 x8 x9 Vo false 0 (⟨Bq.kind,Bq.aw,Bq.exp,Bq.text,Bq.items⟩:Raw) QZ x12 Su Tc pj sK mz sL Cb zT (⟨(Bq.items.getD x9.toNat (Ty.cg .raw)).kind,(Bq.items.getD x9.toNat (Ty.cg .raw)).aw,(Bq.items.getD x9.toNat (Ty.cg .raw)).exp,(Bq.items.getD x9.toNat (Ty.cg .raw)).text,(Bq.items.getD x9.toNat (Ty.cg .raw)).items⟩:Raw) (fun Sj Vp Vq Zs Zv MW Vt XE XF XG Vu XH XI Zw UQ UR US=>bif Zv then (gm Sj Vp (IntKind.i64.wrap (Vq+1)) (⟨MW.kind,MW.aw,MW.exp,MW.text,MW.items⟩:Raw) Vt XE XF XG Vu XH XI Zw UQ UR)else (cR (decide ((UQ.length+1)*16≤140737488355328)) (aG (⟨US.kind,US.aw,US.exp,US.text,US.items⟩:Raw) (IntKind.i64.wrap (Sj+1)) (fun Sk=>cR (decide ((UR.length+1)*88≤140737488355328)) (gm Sj Vp (IntKind.i64.wrap (Vq+1)) (⟨MW.kind,MW.aw,MW.exp,MW.text,MW.items⟩:Raw) Vt XE XF XG Vu XH XI Zw (UQ++([Zs]:List ak)) (UR++([(⟨Sk.kind,⟨Sk.num.aw,Sk.num.exp⟩,Sk.text,Sk.names,Sk.items⟩:Json)]:List Json))))))))else (aG (⟨(Bq.items.getD x9.toNat (Ty.cg .raw)).kind,(Bq.items.getD x9.toNat (Ty.cg .raw)).aw,(Bq.items.getD x9.toNat (Ty.cg .raw)).exp,(Bq.items.getD x9.toNat (Ty.cg .raw)).text,(Bq.items.getD x9.toNat (Ty.cg .raw)).items⟩:Raw) (IntKind.i64.wrap (x7+1)) (fun Ta=>cR (decide ((zT.length+1)*88≤140737488355328)) (gm x7 x8 (IntKind.i64.wrap (x9+1)) (⟨Bq.kind,Bq.aw,Bq.exp,Bq.text,Bq.items⟩:Raw) QZ x12 Su Tc pj sK mz sL Cb (zT++([(⟨Ta.kind,⟨Ta.num.aw,Ta.num.exp⟩,Ta.text,Ta.names,Ta.items⟩:Json)]:List Json))))))))))else (e0 QZ x12 Su Tc pj sK mz sL Cb zT))else (e0 QZ x12 Su Tc pj sK mz sL Cb zT))else (e0 QZ x12 Su Tc pj sK mz sL Cb zT)
noncomputable def bh {R:Type} (aG:dn R):lg R
  | 0,_,_,_,_,_,_,_,_,_,_,_,_,_,_,_=>none
  | n+1,mQ,mR,nI,xl,FE,FF,OU,OV,OW,OX,DC,GX,Md,Me,e0=>lR br aG bw (fun mQ mR nI xl FE FF OU OV OW OX DC GX Md Me=>bh aG n mQ mR nI xl FE FF OU OV OW OX DC GX Md Me e0) mQ mR nI xl FE FF OU OV OW OX DC GX Md Me e0
noncomputable def tg:Hint := { live := [1,2,4,5,6,7],own := [],rows := [],cells := [(2,4, .str,false),(2,5, .json,false)],drop := [],out := [4,6] }
abbrev km:Type:=Int × Int × Int × Raw × Int × Int × Int × ak × Int × Int × Int × ak × (List ak) × (List Json)
noncomputable def qy:km→St:=fun d=>⟨[.undef, .int .i64 d.1, .ptr 0 0, .undef, .ptr 1 0, .int .i64 d.2.1, .ptr 2 0, .int .i64 d.2.2.1, .undef, .undef, .undef, .undef, .undef, .undef, .undef, .undef, .undef, .undef, .undef, .undef, .undef, .undef, .undef, .undef, .undef, .undef, .undef, .undef, .undef, .undef, .undef, .undef, .undef, .undef, .undef, .undef, .undef, .undef, .undef, .undef, .undef, .undef, .undef, .undef, .undef, .undef, .undef, .undef, .undef, .undef, .undef, .undef, .undef, .undef, .undef, .undef, .undef, .undef, .undef, .undef, .undef, .undef, .undef, .undef, .undef, .undef, .undef, .undef, .undef, .undef, .undef, .undef, .undef, .undef, .undef, .undef, .undef, .undef, .undef, .undef, .undef, .undef, .undef, .undef, .undef, .undef, .undef, .undef, .undef, .undef, .undef, .undef, .undef, .undef, .undef, .undef, .undef, .undef, .undef, .undef, .undef, .undef, .undef, .undef, .undef], [.cells [.int .i64 d.2.2.2.1.kind, .int .i64 d.2.2.2.1.aw, .int .i64 d.2.2.2.1.exp, .sl (.int .i64) d.2.2.2.1.text .no, .sl .raw d.2.2.2.1.items .no], .cells [.int .i64 d.2.2.2.2.1, .int .i64 d.2.2.2.2.2.1, .int .i64 d.2.2.2.2.2.2.1, .str d.2.2.2.2.2.2.2.1, .cw, .cw], .cells [.int .i64 d.2.2.2.2.2.2.2.2.1, .int .i64 d.2.2.2.2.2.2.2.2.2.1, .int .i64 d.2.2.2.2.2.2.2.2.2.2.1, .str d.2.2.2.2.2.2.2.2.2.2.2.1, .sl .str d.2.2.2.2.2.2.2.2.2.2.2.2.1 (.own 3), .sl .json d.2.2.2.2.2.2.2.2.2.2.2.2.2 (.own 4)], .tok, .tok]⟩
noncomputable def xf {R:Type} (K:Ex→St→Option R) (q0:Int) (q1:Int) (q2:Int) (q3:ak) (q4:Int) (q5:Int) (q6:Int) (q7:ak) (q8:List ak) (q9:List Json):Option R:=K (.exit 1) ⟨[.undef, .undef, .undef, .undef, .ptr 0 0, .undef, .ptr 1 0, .undef, .undef, .undef, .undef, .undef, .undef, .undef, .undef, .undef, .undef, .undef, .undef, .undef, .undef, .undef, .undef, .undef, .undef, .undef, .undef, .undef, .undef, .undef, .undef, .undef, .undef, .undef, .undef, .undef, .undef, .undef, .undef, .undef, .undef, .undef, .undef, .undef, .undef, .undef, .undef, .undef, .undef, .undef, .undef, .undef, .undef, .undef, .undef, .undef, .undef, .undef, .undef, .undef, .undef, .undef, .undef, .undef, .undef, .undef, .undef, .undef, .undef, .undef, .undef, .undef, .undef, .undef, .undef, .undef, .undef, .undef, .undef, .undef, .undef, .undef, .undef, .undef, .undef, .undef, .undef, .undef, .undef, .undef, .undef, .undef, .undef, .undef, .undef, .undef, .undef, .undef, .undef, .undef, .undef, .undef, .undef, .undef, .undef], [.cells [.int .i64 q0, .int .i64 q1, .int .i64 q2, .str q3, .cw, .cw], .cells [.int .i64 q4, .int .i64 q5, .int .i64 q6, .str q7, .sl .str q8 (.own 2), .sl .json q9 (.own 3)], .tok, .tok]⟩
noncomputable def yt {R:Type} (br:fI R) (aG:dn R) (bw:jy R) (K:Ex→St→Option R) (rc:km→Option R) (d:km):Option R:=lR br aG bw (fun z0 z1 z2 z3 z4 z5 z6 z7 z8 z9 OY vn z12 Qp=>rc (z0,z1,z2,z3,z4,z5,z6,z7,z8,z9,OY,vn,z12,Qp)) d.1 d.2.1 d.2.2.1 d.2.2.2.1 d.2.2.2.2.1 d.2.2.2.2.2.1 d.2.2.2.2.2.2.1 d.2.2.2.2.2.2.2.1 d.2.2.2.2.2.2.2.2.1 d.2.2.2.2.2.2.2.2.2.1 d.2.2.2.2.2.2.2.2.2.2.1 d.2.2.2.2.2.2.2.2.2.2.2.1 d.2.2.2.2.2.2.2.2.2.2.2.2.1 d.2.2.2.2.2.2.2.2.2.2.2.2.2 (xf K)
noncomputable def nE {R:Type} (aG:dn R) (K:Ex→St→Option R) (n:Nat) (d:km):Option R:=bh aG n d.1 d.2.1 d.2.2.1 d.2.2.2.1 d.2.2.2.2.1 d.2.2.2.2.2.1 d.2.2.2.2.2.2.1 d.2.2.2.2.2.2.2.1 d.2.2.2.2.2.2.2.2.1 d.2.2.2.2.2.2.2.2.2.1 d.2.2.2.2.2.2.2.2.2.2.1 d.2.2.2.2.2.2.2.2.2.2.2.1 d.2.2.2.2.2.2.2.2.2.2.2.2.1 d.2.2.2.2.2.2.2.2.2.2.2.2.2 (xf K)
abbrev kn:List bJ := [.leaf (.undef), .leaf (.int .i64), .leaf (.ptr 0 0), .leaf (.undef), .leaf (.ptr 1 0), .leaf (.int .i64), .leaf (.ptr 2 0), .leaf (.int .i64), .leaf (.undef), .leaf (.undef), .leaf (.undef), .leaf (.undef), .leaf (.undef), .leaf (.undef), .leaf (.undef), .leaf (.undef), .leaf (.undef), .leaf (.undef), .leaf (.undef), .leaf (.undef), .leaf (.undef), .leaf (.undef), .leaf (.undef), .leaf (.undef), .leaf (.undef), .leaf (.undef), .leaf (.undef), .leaf (.undef), .leaf (.undef), .leaf (.undef), .leaf (.undef), .leaf (.undef), .leaf (.undef), .leaf (.undef), .leaf (.undef), .leaf (.undef), .leaf (.undef), .leaf (.undef), .leaf (.undef), .leaf (.undef), .leaf (.undef), .leaf (.undef), .leaf (.undef), .leaf (.undef), .leaf (.undef), .leaf (.undef), .leaf (.undef), .leaf (.undef), .leaf (.undef), .leaf (.undef), .leaf (.undef), .leaf (.undef), .leaf (.undef), .leaf (.undef), .leaf (.undef), .leaf (.undef), .leaf (.undef), .leaf (.undef), .leaf (.undef), .leaf (.undef), .leaf (.undef), .leaf (.undef), .leaf (.undef), .leaf (.undef), .leaf (.undef), .leaf (.undef), .leaf (.undef), .leaf (.undef), .leaf (.undef), .leaf (.undef), .leaf (.undef), .leaf (.undef), .leaf (.undef), .leaf (.undef), .leaf (.undef), .leaf (.undef), .leaf (.undef), .leaf (.undef), .leaf (.undef), .leaf (.undef), .leaf (.undef), .leaf (.undef), .leaf (.undef), .leaf (.undef), .leaf (.undef), .leaf (.undef), .leaf (.undef), .leaf (.undef), .leaf (.undef), .leaf (.undef), .leaf (.undef), .leaf (.undef), .leaf (.undef), .leaf (.undef), .leaf (.undef), .leaf (.undef), .leaf (.undef), .leaf (.undef), .leaf (.undef), .leaf (.undef), .leaf (.undef), .leaf (.undef), .leaf (.undef), .leaf (.undef), .leaf (.undef)]
abbrev ko:List aF := [.cells [.int .i64, .int .i64, .int .i64, .sl (.int .i64), .sl .raw], .cells [.int .i64, .int .i64, .int .i64, .str, .cw, .cw], .cells [.int .i64, .int .i64, .int .i64, .str, .Mp .str 3, .Mp .json 4], .tok, .tok]
noncomputable def yu (x:bJ.au kn) (y:aF.au ko):Nat:=(Int.natAbs x.2.1+Int.natAbs x.2.2.2.2.2.1+Int.natAbs x.2.2.2.2.2.2.2.1+Raw.fu (⟨y.1.1,y.1.2.1,y.1.2.2.1,y.1.2.2.2.1,y.1.2.2.2.2.1⟩:Raw)+Int.natAbs y.2.1.1+Int.natAbs y.2.1.2.1+Int.natAbs y.2.1.2.2.1+List.length y.2.1.2.2.2.1+Int.natAbs y.2.2.1.1+Int.natAbs y.2.2.1.2.1+Int.natAbs y.2.2.1.2.2.1+List.length y.2.2.1.2.2.2.1+List.length y.2.2.1.2.2.2.2.1+List.length y.2.2.1.2.2.2.2.2.1+64)
noncomputable def yv (x:bJ.au kn) (y:aF.au ko):km:=(x.2.1,x.2.2.2.2.2.1,x.2.2.2.2.2.2.2.1,(⟨y.1.1,y.1.2.1,y.1.2.2.1,y.1.2.2.2.1,y.1.2.2.2.2.1⟩:Raw),y.2.1.1,y.2.1.2.1,y.2.1.2.2.1,y.2.1.2.2.2.1,y.2.2.1.1,y.2.2.1.2.1,y.2.2.1.2.2.1,y.2.2.1.2.2.2.1,y.2.2.1.2.2.2.2.1,y.2.2.1.2.2.2.2.2.1)
noncomputable def xg {R:Type} (L:lg R):bJ.au kn→aF.au ko→(Ex→St→Option R)→Option R:=fun x y K=>L (yu x y) x.2.1 x.2.2.2.2.2.1 x.2.2.2.2.2.2.2.1 (⟨y.1.1,y.1.2.1,y.1.2.2.1,y.1.2.2.2.1,y.1.2.2.2.2.1⟩:Raw) y.2.1.1 y.2.1.2.1 y.2.1.2.2.1 y.2.1.2.2.2.1 y.2.2.1.1 y.2.2.1.2.1 y.2.2.1.2.2.1 y.2.2.1.2.2.2.1 y.2.2.1.2.2.2.2.1 y.2.2.1.2.2.2.2.2.1 (xf K)
noncomputable def qd (R:Type) (bw:jy R) (bh:lg R):Nat→Option (Hint × cd R):=fun i=>match i with
  | 11=>some (tg,(gq kn ko (xg bh) qg))
  | 18=>some (tf,(gq kk kl (xe bw) qg))
  | _=>none

theorem FO {R:Type} (br:fI R) (cZ:lU R) (aG:dn R) (eI:oR R) (bw:jy R) (bh:lg R) (K:Ex→St→Option R) (rc:St→Option R) (d:kj):roundOf tt (nt R br cZ aG eI) (qd R bw bh) 0 ((aO (aI Tryz.f16)).getD 1 .skip) tf (qx d) rc K=yp K (fun d=>rc (qx d)) d:=by kernel_rfl
theorem Eg {R:Type} (K:Ex→St→Option R) (n:Nat) (d:kj):nD K (n+1) d=yp K (nD K n) d:=by kernel_rfl
theorem Eh {R:Type} (K:Ex→St→Option R) (d:kj):nD K 0 d=none:=by kernel_rfl
theorem FP (x:bJ.au kk) (y:aF.au kl):(⟨bJ.cL kk x,aF.cL kl y⟩:St)=qx (yr x y):=by kernel_rfl
theorem FQ {R:Type} (x:bJ.au kk) (y:aF.au kl) (K:Ex→St→Option R):xe (bw) x y K=nD K (yq x y) (yr x y):=by kernel_rfl
theorem Ii {R:Type} (aG:dn R) (other:cd R) (ho:ph tt (nt R br cZ aG eI) (qd R bw (bh aG)) 0 ((aO (aI Tryz.f16)).getD 1 .skip) tf other):ph tt (nt R br cZ aG eI) (qd R bw (bh aG)) 0 ((aO (aI Tryz.f16)).getD 1 .skip) tf (gq kk kl (xe (bw)) other) :=
  gQ (A:=nD) ho (kO qx (yp) (nD) (Eh) (FO br cZ aG eI bw (bh aG)) (Eg)) yq yr FP (FQ)

theorem FR {R:Type} (br:fI R) (cZ:lU R) (aG:dn R) (eI:oR R) (bw:jy R) (bh:lg R) (K:Ex→St→Option R) (rc:St→Option R) (d:km):roundOf tt (nt R br cZ aG eI) (qd R bw bh) 0 ((aO (aI Tryz.f16)).getD 0 .skip) tg (qy d) rc K=yt br aG bw K (fun d=>rc (qy d)) d:=by kernel_rfl
theorem Ei {R:Type} (aG:dn R) (K:Ex→St→Option R) (n:Nat) (d:km):nE aG K (n+1) d=yt br aG bw K (nE aG K n) d:=by kernel_rfl
theorem Ej {R:Type} (aG:dn R) (K:Ex→St→Option R) (d:km):nE aG K 0 d=none:=by kernel_rfl
theorem FT (x:bJ.au kn) (y:aF.au ko):(⟨bJ.cL kn x,aF.cL ko y⟩:St)=qy (yv x y):=by kernel_rfl
theorem FU {R:Type} (aG:dn R) (x:bJ.au kn) (y:aF.au ko) (K:Ex→St→Option R):xg (bh aG) x y K=nE aG K (yu x y) (yv x y):=by kernel_rfl
theorem Ij {R:Type} (aG:dn R) (other:cd R) (ho:ph tt (nt R br cZ aG eI) (qd R bw (bh aG)) 0 ((aO (aI Tryz.f16)).getD 0 .skip) tg other):ph tt (nt R br cZ aG eI) (qd R bw (bh aG)) 0 ((aO (aI Tryz.f16)).getD 0 .skip) tg (gq kn ko (xg (bh aG)) other) :=
  gQ (A:=nE aG) ho (kO qy (yt br aG bw) (nE aG) (Ej aG) (FR br cZ aG eI bw (bh aG)) (Ei aG)) yu yv FT (FU aG)

noncomputable def nu {R:Type} (br:fI R) (cZ:lU R) (eI:oR R) (bh:lg R) (x1:Raw) (x2:Int) (k0:Json→Option R):Option R :=
  eI x1.kind 7 (fun y3=>bif ((IntKind.i64.wrap (1+y3))==4)then (cZ x1.aw x1.exp (fun y4=>k0 (⟨(IntKind.i64.wrap (1+y3)),⟨y4.aw,y4.exp⟩,([]:ak),([]:List ak),([]:List Json)⟩:Json)))else (bif ((IntKind.i64.wrap (1+y3))==5)then (cR (decide ((0:Int)≤(min (x1.text.length:Int) 20))&&decide ((min (x1.text.length:Int) 20)≤x1.text.length)) (cR (decide ((0:Int)≤(min (x1.text.length:Int) 20))) (br ((x1.text.drop 0).take ((min (x1.text.length:Int) 20).toNat - 0)) (fun y5=>k0 (⟨(IntKind.i64.wrap (1+y3)),⟨0,0⟩,y5,([]:List ak),([]:List Json)⟩:Json)))))else (let j71:=fun (z6:Bool)=>bif z6 then (bh (Int.natAbs x2+Int.natAbs (IntKind.i64.wrap (1+y3))+Int.natAbs 0+Raw.fu (⟨x1.kind,x1.aw,x1.exp,x1.text,x1.items⟩:Raw)+Int.natAbs 0+Int.natAbs 0+Int.natAbs 0+List.length ([]:ak)+Int.natAbs (IntKind.i64.wrap (1+y3))+Int.natAbs 0+Int.natAbs 0+List.length ([]:ak)+List.length ([]:List ak)+List.length ([]:List Json)+64) x2 (IntKind.i64.wrap (1+y3)) 0 (⟨x1.kind,x1.aw,x1.exp,x1.text,x1.items⟩:Raw) 0 0 0 ([]:ak) (IntKind.i64.wrap (1+y3)) 0 0 ([]:ak) ([]:List ak) ([]:List Json) (fun y61 y62 y63 y64 y65 y66 y67 y68 y69 y70=>k0 (⟨y65,⟨y66,y67⟩,y68,y69,y70⟩:Json)))else (k0 (⟨(IntKind.i64.wrap (1+y3)),⟨0,0⟩,([]:ak),([]:List ak),([]:List Json)⟩:Json)); bif ((IntKind.i64.wrap (1+y3))==6)then (j71 ((IntKind.i64.wrap (1+y3))==6))else (j71 ((IntKind.i64.wrap (1+y3))==7)))))
noncomputable def E8 {R:Type} (aG:dn R):dn R:=fun x1 x2 k0=>nu br cZ eI (bh aG) x1 x2 k0
theorem Pb {R:Type} (br:fI R) (cZ:lU R) (aG:dn R) (eI:oR R) (bw:jy R) (bh:lg R) (x1:Raw) (x2:Int) (k:V→ay→Option R):iq tt (nt R br cZ aG eI) (qd R bw bh) false Tryz.f16 (aI Tryz.f16) [.agg [.int .i64 x1.kind, .int .i64 x1.aw, .int .i64 x1.exp, .sl (.int .i64) x1.text .no, .sl .raw x1.items .no], .int .i64 x2] [] k =
    nu br cZ eI bh x1 x2 (fun q0=>k (.agg [.int .i64 q0.kind, .int .i64 q0.num.aw, .int .i64 q0.num.exp, .str q0.text, .sl .str q0.names .no, .sl .json q0.items .no]) []):=by kernel_rfl
theorem Kg (R:Type) (aG:dn R):∀a∈aO (aI Tryz.f16),cG tt (nt R br cZ aG eI) (qd R bw (bh aG)) 0 a:=by
  refine bB 2 (by kernel_rfl) fun i hi => ?_
  match i,hi with
  | 0,_=>exact fT (by kernel_rfl) (Ij aG _ jA)
  | 1,_=>exact fT (by kernel_rfl) (Ii aG _ jA)
  | n+2,hi=>omega
theorem Kh (R:Type) (aG:dn R) (Cs:ax.Spec.Ok Tryz.prog 16 (az oN oO (lb aG) aZ)) (other:ax.Spec R) (ho:ax.Spec.Ok Tryz.prog 16 other):ax.Spec.Ok Tryz.prog 16 (az oN oO (lb (E8 aG)) other) :=
  bm ho (bc TT mixed (M6 R aG Cs) (keep:=false) rfl rfl rfl rfl 0 (Kg R aG)) fun (x:bJ.au oN) (y:aF.au oO) k=>Pb br cZ aG eI bw (bh aG) (⟨x.1.1,x.1.2.1,x.1.2.2.1,x.1.2.2.2.1,x.1.2.2.2.2.1⟩:Raw) x.2.1 k
noncomputable def jz {R:Type}:Nat→dn R
  | 0,_,_,_=>none
  | n+1,mQ,mR,Zo=>E8 (jz n) mQ mR Zo
theorem Vd {R:Type} (n:Nat):jz (R:=R) (n+1)=E8 (jz n):=by kernel_rfl
theorem Mf (R:Type):∀n,ax.Spec.Ok Tryz.prog 16 (az oN oO (lb (jz (R:=R) n)) aZ) :=
  vF (run:=fun n=>lb (jz (R:=R) n)) (fun x y k=>by kernel_rfl) fun n hyp=>Kh R (jz n) hyp aZ (aM _)
noncomputable def ll {R:Type}:dn R:=fun x1 x2 k0=>jz (Raw.depth x1+2) x1 x2 k0
theorem Mg (R:Type):lb (R:=R) ll=fun x y k=>lb (jz (Raw.depth (⟨x.1.1,x.1.2.1,x.1.2.2.1,x.1.2.2.2.1,x.1.2.2.2.2.1⟩:Raw)+2)) x y k:=by kernel_rfl
theorem Mh (R:Type) (other:ax.Spec R) (ho:ax.Spec.Ok Tryz.prog 16 other):ax.Spec.Ok Tryz.prog 16 (az oN oO (lb ll) other) :=
  Bd (CI (run:=fun n=>lb (jz (R:=R) n)) (fun x y=>(Raw.depth (⟨x.1.1,x.1.2.1,x.1.2.2.1,x.1.2.2.2.1,x.1.2.2.2.2.1⟩:Raw)+2)) ho (Mf R)) (Mg R)

end Go.Proofs.YtmlkkgfenfdndaaGreatDoor

set_option maxRecDepth 100000
namespace Go.Proofs.YtmlkkgfenfdndaaGreatDoor
open Go Go.ax Go.Lib

mutual
def Raw.tot:Raw→Nat
  | ⟨_,_,_,_,is⟩=>Raw.totL is+1
def Raw.totL:List Raw→Nat
  | []=>0
  | x::l=>Raw.tot x+Raw.totL l
end
mutual
def Raw.ok:Raw→Prop
  | ⟨k,m,e,t,is⟩=>(CK k∧CK m∧CK e∧∀c∈t,CK c)∧(t.length≤1048576∧is.length≤1048576)∧Raw.okL is
def Raw.okL:List Raw→Prop
  | []=>True
  | x::l=>Raw.ok x∧Raw.okL l
end
theorem E9 {T:Ty}:∀(l:List T.den) (m:Nat),QR m (l.map T.cells)→(∀(x:T.den) n,JM n (T.cells x)→1≤n)→l.length≤m
  | [],_,_,_=>Nat.zero_le _
  | x::l,_, .cons h t,hh=>by
    have h1:=hh x _ h
    have h2:=E9 l _ t hh
    simp only[List.length_cons]
    omega
theorem Pc {n:Nat} {v:V} (h:Wt n v):1≤n:=by
  cases h <;> omega
theorem Kx:∀(l:List (Ty.den (.int .i64))) (m:Nat),QR m (l.map (Ty.cells (.int .i64)))→∀c∈(l:List Int),CK c
  | [],_,_,c,hc=>by cases hc
  | x::l,_, .cons h t,c,hc=>by
    rcases List.mem_cons.1 hc with rfl|hc
    · have h':JM _ [V.int .i64 c]:=h
      cases h' with
      | cons a b=>cases a with|int _ hk=>exact Ku.1 hk
    · exact Kx l _ t c hc
mutual
theorem Yn:∀(x:Raw) (n:Nat),n≤1048576→JM n (Ty.cells .raw x)→Raw.tot x≤n∧Raw.ok x
  | ⟨k,m,e,t,is⟩,n,hn,h=>by
    have hL:=Tp is
    have h':JM n [.int .i64 k, .int .i64 m, .int .i64 e, .sl (.int .i64) t .no, .sl .raw is .no]:=h
    cases h' with
    | cons a1 h'=>cases h' with
      | cons a2 h'=>cases h' with
        | cons a3 h'=>cases h' with
          | cons a4 h'=>cases h' with
            | cons a5 h' =>
              cases h'
              cases a1 with|int p1 k1 =>
              cases a2 with|int p2 k2 =>
              cases a3 with|int p3 k3 =>
              cases a4 with|sl p4 w4 =>
              cases a5 with|sl p5 w5 =>
              have hl4:=E9 (T := .int .i64) t _ w4 (fun x n h=>by
                have h':JM n [V.int .i64 x]:=h
                cases h' with|cons a b=>have:=Pc a; omega)
              have hl5:=E9 (T := .raw) is _ w5 (fun x n h=>by
                have h':JM n (.int .i64 x.kind::_):=h
                cases h' with|cons a b=>have:=Pc a; omega)
              obtain ⟨g1,g2⟩:=hL _ (by omega) w5
              refine ⟨by simp only[Raw.tot]; omega,⟨Ku.1 k1,Ku.1 k2,Ku.1 k3,Kx t _ w4⟩,⟨Nat.le_trans hl4 (by omega),Nat.le_trans hl5 (by omega)⟩,g2⟩
theorem Tp:∀(l:List Raw) (n:Nat),n≤1048576→QR n (l.map (Ty.cells .raw))→Raw.totL l≤n∧Raw.okL l
  | [],_,_,_=>⟨Nat.zero_le _,trivial⟩
  | x::l,_,hn, .cons h t=>by
    obtain ⟨a1,a2⟩:=Yn x _ (by omega) h
    obtain ⟨b1,b2⟩:=Tp l _ (by omega) t
    exact ⟨by simp only[Raw.totL]; omega,a2,b2⟩
end
theorem Pd:∀ {l:List Raw} {x:Raw},Raw.okL l→x∈l→Raw.ok x
  | y::l,x,h,hx=>by
    rcases List.mem_cons.1 hx with rfl|hx
    · exact h.1
    · exact Pd h.2 hx
theorem Sx {l:List Raw} {y:Raw} (h:y∈l):y.depth≤Raw.Bc l:=by
  induction l with
  | nil=>cases h
  | cons a l ih =>
    simp only[Raw.Bc]
    rcases List.mem_cons.1 h with rfl|h
    · exact Nat.le_max_left _ _
    · exact Nat.le_trans (ih h) (Nat.le_max_right _ _)
theorem QU {x y:Raw} (h:y∈x.items):y.depth<x.depth:=by
  have:x.depth=Raw.Bc x.items+1:=by cases x; simp[Raw.depth]
  rw[this]
  exact Nat.lt_succ_of_le (Sx h)

theorem QV:∀(ns seen:List ak) (n:ak),uC seen (ns ++ [n])=(uC seen ns&&((!(seen.contains n||ns.contains n))&&iu n))
  | [],seen,n=>by simp[uC]
  | m::ns,seen,n=>by
    simp only[List.cons_append,uC,QV ns (m::seen) n,List.contains_cons]
    cases seen.contains m <;> cases iu m <;> cases uC (m::seen) ns <;> cases n==m <;> cases seen.contains n <;> rfl

theorem Tq (t:ak):(QG t).length≤6*t.length+2:=by
  unfold QG
  have:∀l:ak,(l.flatMap qb).length≤6*l.length:=by
    intro l
    induction l with
    | nil=>simp
    | cons b l ih =>
      have:=qb_len b
      simp only[List.flatMap_cons,List.length_append,List.length_cons]
      omega
  have:=this t
  simp only[List.length_cons,List.length_append,List.length_nil]
  omega

theorem Yo {R:Type} (d q i:Int) (y:ak) (raw:Raw) (a1 a2 a3:Int) (a4:ak) (b1 b2 b3:Int) (b4:ak) (ns:List ak) (hl:ns.length≤1000000) (is:List Json) (ri:Raw) (e0):∀(F j:Nat) (b:Bool),j≤ns.length→ns.length - j<F →
    bw (R:=R) F d q i y b (j:Int) raw a1 a2 a3 a4 b1 b2 b3 b4 ns is ri e0=e0 d q i y (b||(ns.drop j).contains y) raw a1 a2 a3 a4 b1 b2 b3 b4 ns is ri:=by
  intro F
  induction F with
  | zero=>intro j b _ h; omega
  | succ F ih =>
    intro j b hj hF
    show td (fun mQ mR nI xl FE FF OU OV OW OX DC GX Md Me Yj Yk Yl Ym=>bw F mQ mR nI xl FE FF OU OV OW OX DC GX Md Me Yj Yk Yl Ym e0) d q i y b (j:Int) raw a1 a2 a3 a4 b1 b2 b3 b4 ns is ri e0=_
    unfold td
    simp only[Raw.eta]
    by_cases h:j<ns.length
    · have h1:decide ((j:Int)<(ns.length:Int))=true:=by simp; omega
      have h2:(decide ((0:Int)≤(j:Int))&&true)=true:=by simp
      have hw:IntKind.i64.wrap ((j:Int)+1)=((j+1:Nat):Int):=by rw[ef (by omega) (by omega)]; omega
      have hg:ns.getD (j:Int).toNat (Ty.cg .str)=ns[j]:=getD_at h _
      rw[h1,cond_true,bH h2,hg,hw,List.drop_eq_getElem_cons h,List.contains_cons]
      cases b with
      | true =>
        rw[cond_true,ih (j+1) true (by omega) (by omega)]
        rfl
      | false =>
        rw[cond_false,ih (j+1) _ (by omega) (by omega),Bool.false_or]
        have:(ns[j]==y)=(y==ns[j]):=by rw[Bool.eq_iff_iff,beq_iff_eq,beq_iff_eq]; exact eq_comm
        rw[this]
    · have h1:decide ((j:Int)<(ns.length:Int))=false:=by simp; omega
      rw[h1,cond_false,List.drop_eq_nil_of_le (by omega),List.contains_nil,Bool.or_false]

structure Mi (R:Type) (v:Json) (d:Int) (n:Nat):Prop where
  right:fg v d=true
  len:FN v=true
  size:(oX v).length+5000≤10000*n

theorem Mj:∀(l:List Json) (x:Json) (b:Bool),(nS (l ++ [x]) b).length≤(nS l b).length+1+(oX x).length
  | [],x,b=>by cases b <;> simp[nS] <;> omega
  | y::l,x,b=>by
    have:=Mj l x false
    simp only[List.cons_append,nS,List.length_append]
    omega
theorem Mk:∀(ns:List ak) (l:List Json) (n:ak) (x:Json) (b:Bool),ns.length=l.length→(od (ns ++ [n]) (l ++ [x]) b).length≤(od ns l b).length+2+(QG n).length+(oX x).length
  | [], [],n,x,b,_=>by cases b <;> simp[od] <;> omega
  | m::ns,y::l,n,x,b,h=>by
    have:=Mk ns l n x false (by simpa using h)
    simp only[List.cons_append,od,List.headD_cons,List.tail_cons,List.length_append,List.length_cons]
    omega
  | [],_::_,_,_,_,h=>by cases h
  | _::_, [],_,_,_,h=>by cases h
theorem G0:∀(l:List Json) (x:Json) (d:Int),gB (l ++ [x]) d=(gB l d&&fg x d)
  | [],x,d=>by simp[gB]
  | y::l,x,d=>by simp only[List.cons_append,gB,G0 l x d,Bool.and_assoc]
theorem Ml:∀(l:List Json) (x:Json),Kb (l ++ [x])=(Kb l&&FN x)
  | [],x=>by simp[Kb]
  | y::l,x=>by simp only[List.cons_append,Kb,Ml l x,Bool.and_assoc]
theorem totL_take (l:List Raw) (i:Nat) (h:i<l.length):Raw.totL (l.take (i+1))=Raw.totL (l.take i)+Raw.tot l[i]:=by
  induction l generalizing i with
  | nil=>cases h
  | cons y l ih =>
    cases i with
    | zero=>simp[Raw.totL]
    | succ i =>
      have:=ih i (by simpa using h)
      simp only[List.take_succ_cons,Raw.totL,List.getElem_cons_succ]
      omega
theorem totL_take_le (l:List Raw) (i:Nat):Raw.totL (l.take i)≤Raw.totL l:=by
  induction l generalizing i with
  | nil=>simp
  | cons y l ih =>
    cases i with
    | zero=>simp[Raw.totL]
    | succ i =>
      have:=ih i
      simp only[List.take_succ_cons,Raw.totL]
      omega

structure Ve (q:Int) (d:Int) (ns:List ak) (is:List Json) (n:Nat):Prop where
  right:gB is (d+1)=true
  len:Kb is=true
  count:is.length≤12
  names:(q=7∧ns.length=is.length∧uC [] ns=true∧(∀t∈ns,t.length≤1000)∧(od ns is true).length≤10000*n)∨(q=6∧ns = []∧(nS is true).length≤10000*n)

theorem Ve.fit {R:Type} {q d:Int} (hd:d≤16) {ns:List ak} {is:List Json} {n m:Nat} (h:Ve q d ns is n) (hn:n≤m):Mi R ⟨q,⟨0,0⟩, [],ns,is⟩ d (m+1):=by
  obtain ⟨h1,h2,h3,h4⟩:=h
  rcases h4 with ⟨rfl,g1,g2,g3,g4⟩|⟨rfl,rfl,g4⟩
  · refine ⟨iG.2 (.obj ns is d hd g1 g2 h1),Bo.2 ⟨by simp only; omega,by simp only; omega,h2,by simp,fun t ht=>by have:=g3 t ht; omega⟩,?_⟩
    show (123::(od ns is true ++ [125]):ak).length+5000≤_
    simp only[List.length_cons,List.length_append,List.length_nil]
    omega
  · refine ⟨iG.2 (.arr is d hd h1),Bo.2 ⟨by simp,by simp only; omega,h2,by simp,by simp⟩,?_⟩
    show (91::(nS is true ++ [93]):ak).length+5000≤_
    simp only[List.length_cons,List.length_append,List.length_nil]
    omega
end Go.Proofs.YtmlkkgfenfdndaaGreatDoor

/-
  Functions of the program as pure Lean functions, and the ties; printed by wip/tools/emit.py.
-/
set_option maxRecDepth 100000
namespace Go.Proofs.YtmlkkgfenfdndaaGreatDoor
open Go Go.ax

end Go.Proofs.YtmlkkgfenfdndaaGreatDoor

set_option maxRecDepth 100000
namespace Go.Proofs.YtmlkkgfenfdndaaGreatDoor
open Go Go.ax Go.Lib

theorem ZJ {R:Type} (k:Bool→Option R):jx k=k true:=by kernel_rfl

theorem pick04 {R:Type} (c n:Int) (hc:CK c) (h0:0<n) (hn:n≤9223372036854775807):∃r:Int,0≤r∧r<n∧∀k:Int→Option R,eI c n k=k r:=LD c n hc h0 hn


theorem Sy {R:Type} (E7:dn R) (d:Int) (hd:1≤d∧d≤16) (q:Int) (hq:q=6∨q=7) (raw:Raw) (hl:raw.items.length≤1048576) (sP:Raw.okL raw.items) (hf:d<16→∀x∈raw.items,∃v,Mi R v (d+1) (Raw.tot x)∧∀k:Json→Option R,E7 x (d+1) k=k v) :
    ∀(F i:Nat) (ns:List ak) (is:List Json),i≤raw.items.length→raw.items.length - i<F→is.length≤i→Ve q d ns is (Raw.totL (raw.items.take i)) →
    ∃Q1 Q2,Ve q d Q1 Q2 (Raw.totL raw.items)∧∀e0,bh E7 F d q (i:Int) raw 0 0 0 [] q 0 0 [] ns is e0=e0 0 0 0 [] q 0 0 [] Q1 Q2:=by
  intro F
  induction F with
  | zero=>intro i ns is _ h; omega
  | succ F ih =>
    intro i ns is hi hF hc hh
    have e1:∀e0,bh E7 (F+1) d q (i:Int) raw 0 0 0 [] q 0 0 [] ns is e0=lR br E7 bw (fun mQ mR nI xl FE FF OU OV OW OX DC GX Md Me=>bh E7 F mQ mR nI xl FE FF OU OV OW OX DC GX Md Me e0) d q (i:Int) raw 0 0 0 [] q 0 0 [] ns is e0:=fun e0=>rfl
    have stop:(∀e0,bh E7 (F+1) d q (i:Int) raw 0 0 0 [] q 0 0 [] ns is e0=e0 0 0 0 [] q 0 0 [] ns is)→∃Q1 Q2,Ve q d Q1 Q2 (Raw.totL raw.items)∧∀e0,bh E7 (F+1) d q (i:Int) raw 0 0 0 [] q 0 0 [] ns is e0=e0 0 0 0 [] q 0 0 [] Q1 Q2:=fun h=>by
      refine ⟨ns,is,⟨hh.right,hh.len,hh.count,?_⟩,h⟩
      have hle:=totL_take_le raw.items i
      rcases hh.names with ⟨g1,g2,g3,g4,g5⟩|⟨g1,g2,g3⟩
      · exact .inl ⟨g1,g2,g3,g4,by omega⟩
      · exact .inr ⟨g1,g2,by omega⟩
    by_cases h:i<raw.items.length
    rotate_left
    · refine stop fun e0 => ?_
      rw[e1]
      unfold lR
      have h1:decide ((i:Int)<(raw.items.length:Int))=false:=by simp; omega
      rw[h1]
      rfl
    have h1:decide ((i:Int)<(raw.items.length:Int))=true:=by simp; omega
    by_cases h12:i<12
    rotate_left
    · refine stop fun e0 => ?_
      rw[e1]
      unfold lR
      have h2:decide ((i:Int)<12)=false:=by simp; omega
      rw[h1,h2]
      rfl
    have h2:decide ((i:Int)<12)=true:=by simp; omega
    by_cases QL:d<16
    rotate_left
    · refine stop fun e0 => ?_
      rw[e1]
      unfold lR
      have h3:decide (d<16)=false:=by simp; omega
      rw[h1,h2,h3]
      rfl
    have h3:decide (d<16)=true:=by simpa using QL
    have hw:IntKind.i64.wrap ((i:Int)+1)=((i+1:Nat):Int):=by rw[ef (by omega) (by omega)]; omega
    have hwd:IntKind.i64.wrap (d+1)=d+1:=ef (by omega) (by omega)
    have hg:raw.items.getD (i:Int).toNat (Ty.cg .raw)=raw.items[i]:=getD_at h _
    have hxok:=Pd sP (List.getElem_mem h)
    obtain ⟨v,hv,mn⟩:=hf QL raw.items[i] (List.getElem_mem h)
    generalize hx:raw.items[i]=x at *
    have Oj:∀c∈x.text,CK c:=by
      obtain ⟨k1,m1,Z2,t1,is1⟩:=x
      exact hxok.1.2.2.2
    have hxl:x.text.length≤1048576:=by
      obtain ⟨k1,m1,Z2,t1,is1⟩:=x
      exact hxok.2.1.1
    have VB:min (x.text.length:Int) 8=((min x.text.length 8:Nat):Int):=by omega
    obtain ⟨rs,r1,r2,r3,r4⟩:=HG (R:=R) (x.text.take (min x.text.length 8)) (fun c hc=>Oj c (List.mem_of_mem_take hc))
    have BA:iu (cL rs)=true:=xR.2 ⟨rs,r1,rfl⟩
    have Yp:Raw.totL (raw.items.take (i+1))=Raw.totL (raw.items.take i)+Raw.tot x:=by rw[totL_take _ _ h,hx]
    have hqt:=Tq (cL rs)
    have e2:∀e0,bh E7 (F+1) d q (i:Int) raw 0 0 0 [] q 0 0 [] ns is e0 =
        (bif (q==7)then (bw (Int.natAbs d+Int.natAbs q+Int.natAbs (i:Int)+List.length (cL rs)+Int.natAbs 0+Raw.fu raw+Int.natAbs 0+Int.natAbs 0+Int.natAbs 0+List.length ([]:ak)+Int.natAbs q+Int.natAbs 0+Int.natAbs 0+List.length ([]:ak)+List.length ns+List.length is+Raw.fu x+64) d q (i:Int) (cL rs) false 0 raw 0 0 0 [] q 0 0 [] ns is x (fun Sj Vp Vq Zs Zv MW Vt XE XF XG Vu XH XI Zw UQ UR US=>bif Zv then (bh E7 F Sj Vp (IntKind.i64.wrap (Vq+1)) MW Vt XE XF XG Vu XH XI Zw UQ UR e0)else (cR (decide ((UQ.length+1)*16≤140737488355328)) (E7 US (IntKind.i64.wrap (Sj+1)) (fun Sk=>cR (decide ((UR.length+1)*88≤140737488355328)) (bh E7 F Sj Vp (IntKind.i64.wrap (Vq+1)) MW Vt XE XF XG Vu XH XI Zw (UQ++([Zs]:List ak)) (UR++([Sk]:List Json)) e0))))))
        else (E7 x (IntKind.i64.wrap (d+1)) (fun Ta=>cR (decide ((is.length+1)*88≤140737488355328)) (bh E7 F d q (IntKind.i64.wrap ((i:Int)+1)) raw 0 0 0 [] q 0 0 [] ns (is++([Ta]:List Json)) e0)))):=fun e0=>by
      rw[e1]
      unfold lR
      simp only[Raw.eta,Json.eta]
      rw[h1,cond_true,h2,cond_true,h3,cond_true,bH (by simp),hg,VB,bH (by rw[cu (by omega),cu (by omega)]; rfl),bH (cu (by omega)),Int.toNat_natCast,List.drop_zero,Nat.sub_zero,r4]
    have c1:decide ((ns.length+1)*16≤140737488355328)=true:=by
      rw[decide_eq_true_eq]
      have:=hh.count
      rcases hh.names with ⟨_,g2,_⟩|⟨_,g2,_⟩
      · omega
      · rw[g2]; simp
    have c2:decide ((is.length+1)*88≤140737488355328)=true:=by
      rw[decide_eq_true_eq]
      have:=hh.count
      omega
    have p6:=hv.size
    rcases hq with rfl|rfl
    · -- an array
      rcases hh.names with ⟨g1,_⟩|⟨_,g2,g3⟩
      · cases g1
      have hpe:=Mj is v true
      obtain ⟨Q1,Q2,hh',QW⟩:=ih (i+1) ns (is ++ [v]) (by omega) (by omega) (by simp; omega) ⟨by rw[G0,hh.right,hv.right]; rfl,by rw[Ml,hh.len,hv.len]; rfl,by simp; omega, .inr ⟨rfl,g2,by rw[Yp]; omega⟩⟩
      refine ⟨Q1,Q2,hh',fun e0 => ?_⟩
      rw[e2]
      show E7 x (IntKind.i64.wrap (d+1)) _=_
      rw[hwd,mn,bH c2,hw,QW]
    · -- an object
      rcases hh.names with ⟨_,g2,g3,g4,g5⟩|⟨g1,_⟩
      rotate_left
      · cases g1
      have Zd:=fun e=>Yo (R:=R) d 7 (i:Int) (cL rs) raw 0 0 0 [] 7 0 0 [] ns (by have:=hh.count; omega) is x e (Int.natAbs d+Int.natAbs 7+Int.natAbs (i:Int)+List.length (cL rs)+Int.natAbs 0+Raw.fu raw+Int.natAbs 0+Int.natAbs 0+Int.natAbs 0+List.length ([]:ak)+Int.natAbs 7+Int.natAbs 0+Int.natAbs 0+List.length ([]:ak)+List.length ns+List.length is+Raw.fu x+64) 0 false (by omega) (by omega)
      cases hcn:ns.contains (cL rs)with
      | true =>
        obtain ⟨Q1,Q2,hh',QW⟩:=ih (i+1) ns is (by omega) (by omega) (by omega) ⟨hh.right,hh.len,hh.count, .inl ⟨rfl,g2,g3,g4,by rw[Yp]; omega⟩⟩
        refine ⟨Q1,Q2,hh',fun e0 => ?_⟩
        rw[e2]
        refine (Zd _).trans ?_
        rw[List.drop_zero,hcn]
        show bh E7 F d 7 (IntKind.i64.wrap ((i:Int)+1)) raw 0 0 0 [] 7 0 0 [] ns is e0=_
        rw[hw,QW]
      | false =>
        have hpe:=Mk ns is (cL rs) v true g2
        obtain ⟨Q1,Q2,hh',QW⟩:=ih (i+1) (ns ++ [cL rs]) (is ++ [v]) (by omega) (by omega) (by simp; omega) ⟨by rw[G0,hh.right,hv.right]; rfl,by rw[Ml,hh.len,hv.len]; rfl,by simp; omega,
          .inl ⟨rfl,by simp[g2],by rw[QV,g3,hcn,BA]; rfl,fun t ht=>by
            rcases List.mem_append.1 ht with ht|ht
            · exact g4 t ht
            · simp only[List.mem_singleton]at ht
              rw[ht]; omega,by rw[Yp]; omega⟩⟩
        refine ⟨Q1,Q2,hh',fun e0 => ?_⟩
        rw[e2]
        refine (Zd _).trans ?_
        rw[List.drop_zero,hcn]
        show cR (decide ((ns.length+1)*16≤140737488355328)) (E7 x (IntKind.i64.wrap (d+1)) _)=_
        rw[bH c1,hwd,mn,bH c2,hw,QW]

theorem Yq {d:iH} (h:Fm d):(BL d).length≤60:=by
  have e:BL d=MV d:=by unfold BL; rw[Ia.2 h]; rfl
  rw[e]
  exact (NP h).2.2

theorem fit_N {R:Type}:∀(n:Nat) (x:Raw) (d:Int),Raw.ok x→x.depth<n→1≤d→d≤16→∃v,Mi R v d (Raw.tot x)∧∀k:Json→Option R,jz n x d k=k v:=by
  intro n
  induction n with
  | zero=>intro x d _ h; omega
  | succ n ih =>
    intro x d hx hn hd1 VI
    have e0:∀k:Json→Option R,jz (n+1) x d k=nu br cZ eI (bh (jz n)) x d k:=fun k=>rfl
    have hdep:∀z∈x.items,z.depth<n:=fun z hz=>by have:=QU hz; omega
    obtain ⟨kd,mt,ex,tx,is⟩:=x
    obtain ⟨⟨i1,i2,i3,i4⟩,⟨l1,l2⟩,i5⟩:=hx
    simp only at hdep
    have Yp:Raw.tot ⟨kd,mt,ex,tx,is⟩=Raw.totL is+1:=rfl
    obtain ⟨y,y0,y1,hy⟩:=pick04 (R:=R) kd 7 i1 (by omega) (by omega)
    have hw:IntKind.i64.wrap (1+y)=1+y:=ef (by omega) (by omega)
    have hq:y=0∨y=1∨y=2∨y=3∨y=4∨y=5∨y=6:=by omega
    have hlp:∀q:Int,q=6∨q=7→∃Q1 Q2,Ve q d Q1 Q2 (Raw.totL is)∧∀e0,bh (R:=R) (jz n) (Int.natAbs d+Int.natAbs q+Int.natAbs 0+Raw.fu ⟨kd,mt,ex,tx,is⟩+Int.natAbs 0+Int.natAbs 0+Int.natAbs 0+List.length ([]:ak)+Int.natAbs q+Int.natAbs 0+Int.natAbs 0+List.length ([]:ak)+List.length ([]:List ak)+List.length ([]:List Json)+64) d q ((0:Nat):Int) ⟨kd,mt,ex,tx,is⟩ 0 0 0 [] q 0 0 [] [] [] e0=e0 0 0 0 [] q 0 0 [] Q1 Q2:=fun q hq=>by
      refine Sy (jz n) d ⟨hd1,VI⟩ q hq ⟨kd,mt,ex,tx,is⟩ l2 i5 (fun QL z hz=>ih z (d+1) (Pd i5 hz) (hdep z hz) (by omega) (by omega)) _ 0 [] [] (by omega) (by simp only[Raw.fu]; omega) (by simp) ⟨rfl,rfl,by simp,?_⟩
      rcases hq with rfl|rfl
      · exact .inr ⟨rfl,rfl,by simp[nS]⟩
      · exact .inl ⟨rfl,rfl,rfl,by simp,by simp[od]⟩
    have hnm:∀q:Int,q=1∨q=2∨q=3→Mi R ⟨q,⟨0,0⟩, [], [], []⟩ d (Raw.totL is+1):=fun q hq=>by
      refine ⟨iG.2 (.name q d VI hq),rfl,?_⟩
      rcases hq with rfl|rfl|rfl
      · show xC.length+5000≤_
        have:xC.length=4:=rfl
        omega
      · show rq.length+5000≤_
        have:rq.length=5:=rfl
        omega
      · show xB.length+5000≤_
        have:xB.length=4:=rfl
        omega
    rw[Yp]
    rcases hq with rfl|rfl|rfl|rfl|rfl|rfl|rfl
    · refine ⟨_,hnm 1 (by omega),fun k => ?_⟩
      rw[e0]
      unfold nu
      rw[hy]
      rfl
    · refine ⟨_,hnm 2 (by omega),fun k => ?_⟩
      rw[e0]
      unfold nu
      rw[hy]
      rfl
    · refine ⟨_,hnm 3 (by omega),fun k => ?_⟩
      rw[e0]
      unfold nu
      rw[hy]
      rfl
    · obtain ⟨dc,hdc,mn⟩:=fit_ok (R:=R) mt ex i2 i3
      refine ⟨⟨4,dc, [], [], []⟩,⟨iG.2 (.num dc d VI hdc),rfl,?_⟩,fun k => ?_⟩
      · show (BL dc).length+5000≤_
        have:=Yq hdc
        omega
      · rw[e0]
        unfold nu
        rw[hy]
        show cZ mt ex _=_
        rw[mn]
        rfl
    · have VB:min (tx.length:Int) 20=((min tx.length 20:Nat):Int):=by omega
      obtain ⟨rs,r1,r2,r3,r4⟩:=HG (R:=R) (tx.take (min tx.length 20)) (fun c hc=>i4 c (List.mem_of_mem_take hc))
      have hqt:=Tq (cL rs)
      refine ⟨⟨5,⟨0,0⟩,cL rs, [], []⟩,⟨iG.2 (.text _ d VI (xR.2 ⟨rs,r1,rfl⟩)),Bo.2 ⟨by simp,by simp,rfl,by simp only; omega,by simp⟩,?_⟩,fun k => ?_⟩
      · show (QG (cL rs)).length+5000≤_
        omega
      · rw[e0]
        unfold nu
        rw[hy]
        show cR (decide ((0:Int)≤(min (tx.length:Int) 20))&&decide ((min (tx.length:Int) 20)≤(tx.length:Int))) (cR (decide ((0:Int)≤(min (tx.length:Int) 20))) (br ((tx.drop 0).take ((min (tx.length:Int) 20).toNat - 0)) _))=_
        rw[VB,bH (by rw[cu (by omega),cu (by omega)]; rfl),bH (cu (by omega)),Int.toNat_natCast,List.drop_zero,Nat.sub_zero,r4]
        rfl
    · obtain ⟨Q1,Q2,hh,mn⟩:=hlp 6 (.inl rfl)
      refine ⟨_,hh.fit VI (Nat.le_refl _),fun k => ?_⟩
      rw[e0]
      unfold nu
      rw[hy]
      exact mn _
    · obtain ⟨Q1,Q2,hh,mn⟩:=hlp 7 (.inr rfl)
      refine ⟨_,hh.fit VI (Nat.le_refl _),fun k => ?_⟩
      rw[e0]
      unfold nu
      rw[hy]
      exact mn _

theorem jfit {R:Type} (x:Raw) (hx:Raw.ok x) (d:Int) (h1:1≤d) (h2:d≤16):∃v,Mi R v d (Raw.tot x)∧∀k:Json→Option R,ll x d k=k v:=fit_N (x.depth+2) x d hx (by omega) h1 h2

theorem Yr {R:Type} (a b:List ak) (hl:a.length=b.length) (ha:a.length≤1099511627776) (k:Bool→Option R):∀(F i:Nat),i≤a.length→a.length - i<F →
    aQ F a b (a.length:Int) (i:Int) (k true) k=k (decide (a.drop i=b.drop i)):=by
  intro F
  induction F with
  | zero=>intro i _ h; omega
  | succ F ih =>
    intro i hi hF
    show ij (fun x0 x1 x2 x3=>aQ F x0 x1 x2 x3 _ _) a b (a.length:Int) (i:Int) _ _=_
    unfold ij
    by_cases h:i<a.length
    · have hb:i<b.length:=by omega
      have h1:decide ((i:Int)<(a.length:Int))=true:=by simp; omega
      have h2:(decide ((0:Int)≤(i:Int))&&true)=true:=by simp
      have h3:(decide ((0:Int)≤(i:Int))&&decide ((i:Int)<(b.length:Int)))=true:=by simp; omega
      have hw:IntKind.i64.wrap ((i:Int)+1)=((i+1:Nat):Int):=by rw[ef (by omega) (by omega)]; omega
      have hg:a.getD (i:Int).toNat (Ty.cg .str)=a[i]:=getD_at h _
      have hg':b.getD (i:Int).toNat (Ty.cg .str)=b[i]:=getD_at hb _
      rw[h1,cond_true,bH h2,bH h3,hg,hg',hw,List.drop_eq_getElem_cons h,List.drop_eq_getElem_cons hb]
      by_cases hq:a[i]=b[i]
      · have e:(a[i]==b[i])=true:=by simpa using hq
        rw[e,Bool.not_true,cond_false]
        simp only[List.cons.injEq,hq,true_and]
        exact ih (i+1) (by omega) (by omega)
      · have e:(a[i]==b[i])=false:=by simpa using hq
        rw[e,Bool.not_false,cond_true]
        have lp:¬(a[i]::a.drop (i+1)=b[i]::b.drop (i+1)):=fun h=>hq (List.cons.inj h).1
        rw[decide_eq_false lp]
    · have h1:decide ((i:Int)<(a.length:Int))=false:=by simp; omega
      rw[h1,cond_false,List.drop_eq_nil_of_le (by omega),List.drop_eq_nil_of_le (by omega)]
      simp
theorem Vf {R:Type} (a b:List ak) (ha:a.length≤1099511627776) (k:Bool→Option R):bS a b k=k (decide (a=b)):=by
  have e:bS a b k=bif ((a.length:Int) != (b.length:Int))then (k false)else (aQ (List.length a+List.length b+Int.natAbs (a.length:Int)+Int.natAbs 0+64) a b (a.length:Int) 0 (k true) (fun y7=>k y7)):=rfl
  rw[e]
  by_cases hl:a.length=b.length
  · have h1:((a.length:Int) != (b.length:Int))=false:=by rw[hl]; simp
    have:=Yr a b hl ha k (List.length a+List.length b+Int.natAbs (a.length:Int)+Int.natAbs 0+64) 0 (by omega) (by omega)
    rw[h1,cond_false]
    rw[List.drop_zero,List.drop_zero]at this
    exact this
  · have h1:((a.length:Int) != (b.length:Int))=true:=by simp; omega
    have:a≠b:=fun e=>hl (by rw[e])
    rw[h1,cond_true]
    simp[this]

theorem Ys {R:Type} (f:cv R) (a b:List Json) (hl:a.length=b.length) (ha:a.length≤1099511627776) (hf:∀x∈a,∀y∈b,∃r:Bool,(r=true↔x=y)∧∀k,f x y k=k r):∀(F i:Nat),i≤a.length→a.length - i<F →
    ∃r:Bool,(r=true↔a.drop i=b.drop i)∧∀k:Bool→Option R,av f F b a (a.length:Int) (i:Int) (k true) k=k r:=by
  intro F
  induction F with
  | zero=>intro i _ h; omega
  | succ F ih =>
    intro i hi hF
    by_cases h:i<a.length
    · have hb:i<b.length:=by omega
      have h1:decide ((i:Int)<(a.length:Int))=true:=by simp; omega
      have h2:(decide ((0:Int)≤(i:Int))&&true)=true:=by simp
      have h3:(decide ((0:Int)≤(i:Int))&&decide ((i:Int)<(b.length:Int)))=true:=by simp; omega
      have hw:IntKind.i64.wrap ((i:Int)+1)=((i+1:Nat):Int):=by rw[ef (by omega) (by omega)]; omega
      have hg:a.getD (i:Int).toNat (Ty.cg .json)=a[i]:=getD_at h _
      have hg':b.getD (i:Int).toNat (Ty.cg .json)=b[i]:=getD_at hb _
      obtain ⟨r,hr,hk⟩:=hf a[i] (List.getElem_mem h) b[i] (List.getElem_mem hb)
      obtain ⟨r2,hr2,Gq⟩:=ih (i+1) (by omega) (by omega)
      refine ⟨r&&r2,?_,fun k => ?_⟩
      · rw[List.drop_eq_getElem_cons h,List.drop_eq_getElem_cons hb]
        simp only[Bool.and_eq_true,hr,hr2,List.cons.injEq]
      · show cN f (fun x0 x1 x2 x3=>av f F x0 x1 x2 x3 (k true) k) b a (a.length:Int) (i:Int) (k true) k=_
        unfold cN
        simp only[Json.eta]
        rw[h1,cond_true,bH h2,bH h3,hg,hg',hk,hw,Gq]
        cases r <;> rfl
    · refine ⟨true,?_,fun k => ?_⟩
      · rw[List.drop_eq_nil_of_le (by omega),List.drop_eq_nil_of_le (by omega)]
        simp
      · show cN f (fun x0 x1 x2 x3=>av f F x0 x1 x2 x3 (k true) k) b a (a.length:Int) (i:Int) (k true) k=_
        unfold cN
        have h1:decide ((i:Int)<(a.length:Int))=false:=by simp; omega
        rw[h1]
        rfl
theorem Vg {R:Type} (f:cv R) (a b:List Json) (ha:a.length≤1099511627776) (hf:∀x∈a,∀y∈b,∃r:Bool,(r=true↔x=y)∧∀k,f x y k=k r) :
    ∃r:Bool,(r=true↔a=b)∧∀k:Bool→Option R,bb f a b k=k r:=by
  have e:∀k,bb f a b k=bif ((a.length:Int) != (b.length:Int))then (k false)else (av f (List.length b+List.length a+Int.natAbs (a.length:Int)+Int.natAbs 0+64) b a (a.length:Int) 0 (k true) (fun y8=>k y8)):=fun k=>rfl
  by_cases hl:a.length=b.length
  · have h1:((a.length:Int) != (b.length:Int))=false:=by rw[hl]; simp
    obtain ⟨r,hr,hk⟩:=Ys f a b hl ha hf (List.length b+List.length a+Int.natAbs (a.length:Int)+Int.natAbs 0+64) 0 (by omega) (by omega)
    rw[List.drop_zero,List.drop_zero]at hr
    refine ⟨r,hr,fun k => ?_⟩
    rw[e,h1,cond_false]
    exact hk k
  · have h1:((a.length:Int) != (b.length:Int))=true:=by simp; omega
    refine ⟨false,?_,fun k => ?_⟩
    · constructor
      · intro h; cases h
      · rintro rfl; exact (hl rfl).elim
    · rw[e,h1,cond_true]

theorem ZK {R:Type}:∀(n:Nat) (v w:Json),FN v=true→v.depth<n→∃r:Bool,(r=true↔v=w)∧∀k:Bool→Option R,ki n v w k=k r:=by
  intro n
  induction n with
  | zero=>intro v w _ h; omega
  | succ n ih =>
    intro v w hl hd
    obtain ⟨Ik,Kv,Ua,_⟩:=Bo.1 hl
    obtain ⟨r,hr,hk⟩:=Vg (R:=R) (ki n) v.items w.items Kv fun x hx y _=>ih x y (E2 Ua hx) (by have:=E3 hx; omega)
    have e0:∀k:Bool→Option R,ki (n+1) v w k=Cd (bb (ki n)) bS v w k:=fun k=>rfl
    obtain ⟨k1,⟨m1,x1⟩,t1,ns1,is1⟩:=v
    obtain ⟨k2,⟨m2,x2⟩,t2,ns2,is2⟩:=w
    refine ⟨(k1==k2)&&((m1==m2&&(x1==x2&&true))&&((t1==t2)&&(decide (ns1=ns2)&&r))),?_,fun k => ?_⟩
    · simp only[Bool.and_eq_true,beq_iff_eq,decide_eq_true_eq,hr,Json.mk.injEq,iH.mk.injEq]
      constructor
      · rintro ⟨h1,⟨h2,h3,_⟩,h4,h5,h6⟩; exact ⟨h1,⟨h2,h3⟩,h4,h5,h6⟩
      · rintro ⟨h1,⟨h2,h3⟩,h4,h5,h6⟩; exact ⟨h1,⟨h2,h3,trivial⟩,h4,h5,h6⟩
    · rw[e0]
      unfold Cd
      simp only
      rw[Vf ns1 ns2 Ik]
      simp only[hk]
      cases k1==k2 <;> cases (m1==m2&&(x1==x2&&true)) <;> cases t1==t2 <;> cases decide (ns1=ns2) <;> rfl

theorem Tr {R:Type} (v w:Json) (hl:FN v=true):∃r:Bool,(r=true↔v=w)∧∀k:Bool→Option R,c8 v w k=k r:=ZK (v.depth+2) v w hl (by omega)
end Go.Proofs.YtmlkkgfenfdndaaGreatDoor

/-
  Functions of the program as pure Lean functions, and the ties; printed by wip/tools/emit.py.
-/
set_option maxRecDepth 100000
namespace Go.Proofs.YtmlkkgfenfdndaaGreatDoor
open Go Go.ax

end Go.Proofs.YtmlkkgfenfdndaaGreatDoor

/-
  Functions of the program as pure Lean functions, and the ties; printed by wip/tools/emit.py.
-/
set_option maxRecDepth 100000
namespace Go.Proofs.YtmlkkgfenfdndaaGreatDoor
open Go Go.ax

end Go.Proofs.YtmlkkgfenfdndaaGreatDoor

/-
  Functions of the program as pure Lean functions, and the ties; printed by wip/tools/emit.py.
-/
set_option maxRecDepth 100000
namespace Go.Proofs.YtmlkkgfenfdndaaGreatDoor
open Go Go.ax

end Go.Proofs.YtmlkkgfenfdndaaGreatDoor

/-
  Functions of the program as pure Lean functions, and the ties; printed by wip/tools/emit.py.
-/
set_option maxRecDepth 100000
namespace Go.Proofs.YtmlkkgfenfdndaaGreatDoor
open Go Go.ax

end Go.Proofs.YtmlkkgfenfdndaaGreatDoor

/-
  Functions of the program as pure Lean functions, and the ties; printed by wip/tools/emit.py.
-/
set_option maxRecDepth 100000
namespace Go.Proofs.YtmlkkgfenfdndaaGreatDoor
open Go Go.ax

/-! ### humpyard/humpyardlaw04.JsonNames -/
abbrev Bu (R:Type):Type:=Raw→Raw→(List Int)→(List Int)→(Bool→Option R)→Option R
abbrev rT:List bJ := [.agg [.int .i64, .int .i64, .int .i64, .sl (.int .i64), .sl .raw], .agg [.int .i64, .int .i64, .int .i64, .sl (.int .i64), .sl .raw], .leaf (.sl (.int .i64)), .leaf (.sl (.int .i64))]
abbrev rU:List aF := []
noncomputable def Bv {R:Type} (fn:Bu R):bJ.au rT→aF.au rU→(V→ay→Option R)→Option R:=fun x y k=>fn (⟨x.1.1,x.1.2.1,x.1.2.2.1,x.1.2.2.2.1,x.1.2.2.2.2.1⟩:Raw) (⟨x.2.1.1,x.2.1.2.1,x.2.1.2.2.1,x.2.1.2.2.2.1,x.2.1.2.2.2.2.1⟩:Raw) x.2.2.1 x.2.2.2.1 (fun q0=>k (.bool q0) [])
noncomputable def rV (R:Type) (br:fI R) (ll:dn R) (jx:sJ R) (dt:nr R) (cp:jC R) (c8:cv R):Env R:=fun i=>match i with
  | 37=>some (true,(az sV sW (yz br) aZ))
  | 16=>some (true,(az oN oO (lb ll) aZ))
  | 30=>some (true,(az yJ yK (E6 jx) aZ))
  | 17=>some (true,(az wO wP (Cl dt) aZ))
  | 32=>some (true,(az s5 s6 (yD cp) aZ))
  | 21=>some (true,(az ly lz (hZ c8) aZ))
  | _=>none
theorem FV (R:Type):po Tryz.prog (rV R br ll jx dt cp c8):=by
  intro i b sp h
  unfold rV at h
  split at h
  · cases h; exact ⟨(zw R _ (aM _)),fun h=>nomatch h⟩
  · cases h; exact ⟨(Mh R _ (aM _)),fun h=>nomatch h⟩
  · cases h; exact ⟨(Jk R _ (aM _)),fun h=>nomatch h⟩
  · cases h; exact ⟨(DS R _ (aM _)),fun h=>nomatch h⟩
  · cases h; exact ⟨(zx R _ (aM _)),fun h=>nomatch h⟩
  · cases h; exact ⟨(E5 R _ (aM _)),fun h=>nomatch h⟩
  · cases h

noncomputable def Ce (R:Type):Nat→Option (Hint × cd R):=fun i=>match i with
  | _=>none

noncomputable def rW {R:Type} (br:fI R) (ll:dn R) (jx:sJ R) (dt:nr R) (cp:jC R) (c8:cv R) (x1:Raw) (x2:Raw) (x3:List Int) (x4:List Int) (k0:Bool→Option R):Option R :=
  jx (fun y5=>ll (⟨x1.kind,x1.aw,x1.exp,x1.text,x1.items⟩:Raw) 3 (fun y6=>ll (⟨x2.kind,x2.aw,x2.exp,x2.text,x2.items⟩:Raw) 3 (fun y7=>cR (decide ((0:Int)≤(min (x3.length:Int) 9))&&decide ((min (x3.length:Int) 9)≤x3.length)) (cR (decide ((0:Int)≤(min (x3.length:Int) 9))) (br ((x3.drop 0).take ((min (x3.length:Int) 9).toNat - 0)) (fun y8=>cR (decide ((0:Int)≤(min (x4.length:Int) 9))&&decide ((min (x4.length:Int) 9)≤x4.length)) (cR (decide ((0:Int)≤(min (x4.length:Int) 9))) (br ((x4.drop 0).take ((min (x4.length:Int) 9).toNat - 0)) (fun y9=>bif y5 then (cp (⟨7,⟨0,0⟩,([]:ak),([y8,y9]:List ak),([(⟨y6.kind,⟨y6.num.aw,y6.num.exp⟩,y6.text,y6.names,y6.items⟩:Json),(⟨y7.kind,⟨y7.num.aw,y7.num.exp⟩,y7.text,y7.names,y7.items⟩:Json)]:List Json)⟩:Json) (fun B5=>bif (B5==(!(y8==y9)))then (c8 (⟨7,⟨0,0⟩,([]:ak),([y8,y9]:List ak),([(⟨y6.kind,⟨y6.num.aw,y6.num.exp⟩,y6.text,y6.names,y6.items⟩:Json),(⟨y7.kind,⟨y7.num.aw,y7.num.exp⟩,y7.text,y7.names,y7.items⟩:Json)]:List Json)⟩:Json) (⟨7,⟨0,0⟩,([]:ak),([y9,y8]:List ak),([(⟨y7.kind,⟨y7.num.aw,y7.num.exp⟩,y7.text,y7.names,y7.items⟩:Json),(⟨y6.kind,⟨y6.num.aw,y6.num.exp⟩,y6.text,y6.names,y6.items⟩:Json)]:List Json)⟩:Json) (fun B6=>bif (y8==y9)then (c8 (⟨y6.kind,⟨y6.num.aw,y6.num.exp⟩,y6.text,y6.names,y6.items⟩:Json) (⟨y7.kind,⟨y7.num.aw,y7.num.exp⟩,y7.text,y7.names,y7.items⟩:Json) (fun HM=>bif (B6==HM)then (cp (⟨6,⟨0,0⟩,([]:ak),([]:List ak),([(⟨y6.kind,⟨y6.num.aw,y6.num.exp⟩,y6.text,y6.names,y6.items⟩:Json),(⟨y7.kind,⟨y7.num.aw,y7.num.exp⟩,y7.text,y7.names,y7.items⟩:Json)]:List Json)⟩:Json) (fun Il=>bif Il then (c8 (⟨6,⟨0,0⟩,([]:ak),([]:List ak),([(⟨y6.kind,⟨y6.num.aw,y6.num.exp⟩,y6.text,y6.names,y6.items⟩:Json),(⟨y7.kind,⟨y7.num.aw,y7.num.exp⟩,y7.text,y7.names,y7.items⟩:Json)]:List Json)⟩:Json) (⟨6,⟨0,0⟩,([]:ak),([]:List ak),([(⟨y7.kind,⟨y7.num.aw,y7.num.exp⟩,y7.text,y7.names,y7.items⟩:Json),(⟨y6.kind,⟨y6.num.aw,y6.num.exp⟩,y6.text,y6.names,y6.items⟩:Json)]:List Json)⟩:Json) (fun GK=>c8 (⟨y6.kind,⟨y6.num.aw,y6.num.exp⟩,y6.text,y6.names,y6.items⟩:Json) (⟨y7.kind,⟨y7.num.aw,y7.num.exp⟩,y7.text,y7.names,y7.items⟩:Json) (fun JG=>bif (GK==JG)then (dt (⟨6,⟨0,0⟩,([]:ak),([]:List ak),([(⟨y6.kind,⟨y6.num.aw,y6.num.exp⟩,y6.text,y6.names,y6.items⟩:Json),(⟨y7.kind,⟨y7.num.aw,y7.num.exp⟩,y7.text,y7.names,y7.items⟩:Json)]:List Json)⟩:Json) (fun MR=>dt (⟨6,⟨0,0⟩,([]:ak),([]:List ak),([(⟨y7.kind,⟨y7.num.aw,y7.num.exp⟩,y7.text,y7.names,y7.items⟩:Json),(⟨y6.kind,⟨y6.num.aw,y6.num.exp⟩,y6.text,y6.names,y6.items⟩:Json)]:List Json)⟩:Json) (fun QY=>c8 (⟨y6.kind,⟨y6.num.aw,y6.num.exp⟩,y6.text,y6.names,y6.items⟩:Json) (⟨y7.kind,⟨y7.num.aw,y7.num.exp⟩,y7.text,y7.names,y7.items⟩:Json) (fun Mq=>k0 ((MR==QY)==Mq)))))else (k0 false))))else (k0 false)))else (k0 false)))else (bif (B6==false)then (cp (⟨6,⟨0,0⟩,([]:ak),([]:List ak),([(⟨y6.kind,⟨y6.num.aw,y6.num.exp⟩,y6.text,y6.names,y6.items⟩:Json),(⟨y7.kind,⟨y7.num.aw,y7.num.exp⟩,y7.text,y7.names,y7.items⟩:Json)]:List Json)⟩:Json) (fun XC=>bif XC then (c8 (⟨6,⟨0,0⟩,([]:ak),([]:List ak),([(⟨y6.kind,⟨y6.num.aw,y6.num.exp⟩,y6.text,y6.names,y6.items⟩:Json),(⟨y7.kind,⟨y7.num.aw,y7.num.exp⟩,y7.text,y7.names,y7.items⟩:Json)]:List Json)⟩:Json) (⟨6,⟨0,0⟩,([]:ak),([]:List ak),([(⟨y7.kind,⟨y7.num.aw,y7.num.exp⟩,y7.text,y7.names,y7.items⟩:Json),(⟨y6.kind,⟨y6.num.aw,y6.num.exp⟩,y6.text,y6.names,y6.items⟩:Json)]:List Json)⟩:Json) (fun Td=>c8 (⟨y6.kind,⟨y6.num.aw,y6.num.exp⟩,y6.text,y6.names,y6.items⟩:Json) (⟨y7.kind,⟨y7.num.aw,y7.num.exp⟩,y7.text,y7.names,y7.items⟩:Json) (fun MS=>bif (Td==MS)then (dt (⟨6,⟨0,0⟩,([]:ak),([]:List ak),([(⟨y6.kind,⟨y6.num.aw,y6.num.exp⟩,y6.text,y6.names,y6.items⟩:Json),(⟨y7.kind,⟨y7.num.aw,y7.num.exp⟩,y7.text,y7.names,y7.items⟩:Json)]:List Json)⟩:Json) (fun Vo=>dt (⟨6,⟨0,0⟩,([]:ak),([]:List ak),([(⟨y7.kind,⟨y7.num.aw,y7.num.exp⟩,y7.text,y7.names,y7.items⟩:Json),(⟨y6.kind,⟨y6.num.aw,y6.num.exp⟩,y6.text,y6.names,y6.items⟩:Json)]:List Json)⟩:Json) (fun Zp=>c8 (⟨y6.kind,⟨y6.num.aw,y6.num.exp⟩,y6.text,y6.names,y6.items⟩:Json) (⟨y7.kind,⟨y7.num.aw,y7.num.exp⟩,y7.text,y7.names,y7.items⟩:Json) (fun Zq=>k0 ((Vo==Zp)==Zq)))))else (k0 false))))else (k0 false)))else (k0 false))))else (k0 false)))else (k0 false))))))))))
noncomputable def qR {R:Type}:Bu R:=fun x1 x2 x3 x4 k0=>rW br ll jx dt cp c8 x1 x2 x3 x4 k0
theorem G1 {R:Type} (br:fI R) (ll:dn R) (jx:sJ R) (dt:nr R) (cp:jC R) (c8:cv R) (x1:Raw) (x2:Raw) (x3:List Int) (x4:List Int) (k:V→ay→Option R):iq tt (rV R br ll jx dt cp c8) (Ce R) false Tryz.f15 (aI Tryz.f15) [.agg [.int .i64 x1.kind, .int .i64 x1.aw, .int .i64 x1.exp, .sl (.int .i64) x1.text .no, .sl .raw x1.items .no], .agg [.int .i64 x2.kind, .int .i64 x2.aw, .int .i64 x2.exp, .sl (.int .i64) x2.text .no, .sl .raw x2.items .no], .sl (.int .i64) x3 .no, .sl (.int .i64) x4 .no] [] k =
    rW br ll jx dt cp c8 x1 x2 x3 x4 (fun q0=>k (.bool q0) []):=by kernel_rfl
theorem Ek (R:Type):∀a∈aO (aI Tryz.f15),cG tt (rV R br ll jx dt cp c8) (Ce R) 0 a:=by
  refine bB 0 (by kernel_rfl) fun i hi => ?_
  omega
theorem Fa (R:Type) (other:ax.Spec R) (ho:ax.Spec.Ok Tryz.prog 15 other):ax.Spec.Ok Tryz.prog 15 (az rT rU (Bv qR) other) :=
  bm ho (bc TT mixed (FV R) (keep:=false) rfl rfl rfl rfl 0 (Ek R)) fun (x:bJ.au rT) (y:aF.au rU) k=>G1 br ll jx dt cp c8 (⟨x.1.1,x.1.2.1,x.1.2.2.1,x.1.2.2.2.1,x.1.2.2.2.2.1⟩:Raw) (⟨x.2.1.1,x.2.1.2.1,x.2.1.2.2.1,x.2.1.2.2.2.1,x.2.1.2.2.2.2.1⟩:Raw) x.2.2.1 x.2.2.2.1 k

end Go.Proofs.YtmlkkgfenfdndaaGreatDoor

set_option maxRecDepth 100000
namespace Go.Proofs.YtmlkkgfenfdndaaGreatDoor
open Go Go.ax Go.Lib

theorem QX {x:Raw} (h:∃n,JM n (Ty.cells .raw x)∧n≤1048576):Raw.ok x∧Raw.tot x≤1048576:=by
  obtain ⟨n,h1,h2⟩:=h
  obtain ⟨g1,g2⟩:=Yn x n h2 h1
  exact ⟨g2,by omega⟩

mutual
theorem zj:∀(v:Json) (d:Int),fg v (d+1)=true→fg v d=true
  | ⟨k,n,t,ns,is⟩,d,h=>by
    have hL:=JN is
    cases iG.1 h with
    | name _ _ hd hk=>exact iG.2 (.name _ _ (by omega) hk)
    | num _ _ hd hn=>exact iG.2 (.num _ _ (by omega) hn)
    | text _ _ hd ht=>exact iG.2 (.text _ _ (by omega) ht)
    | arr _ _ hd hi=>exact iG.2 (.arr _ _ (by omega) (hL _ hi))
    | obj _ _ _ hd hl hu hi=>exact iG.2 (.obj _ _ _ (by omega) hl hu (hL _ hi))
theorem JN:∀(l:List Json) (d:Int),gB l (d+1)=true→gB l d=true
  | [],_,_=>rfl
  | x::l,d,h=>by
    have h1:=zj x d
    have h2:=JN l d
    simp only[gB,Bool.and_eq_true]at h ⊢
    exact ⟨h1 h.1,h2 h.2⟩
end

theorem Vh {R:Type} {v w:Json} (hv:Mi R v 3 1048576) (hw:Mi R w 3 1048576) (k:Bool→Option R) :
    cp ⟨6,⟨0,0⟩, [], [], [v,w]⟩ (fun Il=>bif Il then (c8 ⟨6,⟨0,0⟩, [], [], [v,w]⟩ ⟨6,⟨0,0⟩, [], [], [w,v]⟩ (fun GK=>c8 v w (fun JG=>bif (GK==JG)then (dt ⟨6,⟨0,0⟩, [], [], [v,w]⟩ (fun MR=>dt ⟨6,⟨0,0⟩, [], [], [w,v]⟩ (fun QY=>c8 v w (fun Mq=>k ((MR==QY)==Mq)))))else (k false))))else (k false))=k true:=by
  have rL:∀v w:Json,Mi R v 3 1048576→Mi R w 3 1048576→fg ⟨6,⟨0,0⟩, [], [], [v,w]⟩ 1=true∧FN ⟨6,⟨0,0⟩, [], [], [v,w]⟩=true∧(oX ⟨6,⟨0,0⟩, [], [], [v,w]⟩).length≤100000000000:=fun v w hv hw=>by
    refine ⟨iG.2 (.arr _ _ (by omega) ?_),?_,?_⟩
    · simp only[gB,Bool.and_eq_true,and_true]
      exact ⟨zj v 2 hv.right,zj w 2 hw.right⟩
    · simp[FN,Kb,hv.len,hw.len]
    · show (91::(nS [v,w] true ++ [93]):ak).length≤_
      have h1:=hv.size
      have h2:=hw.size
      simp only[nS,if_true,Bool.false_eq_true,if_false,List.length_cons,List.length_append,List.length_nil]
      omega
  obtain ⟨a1,a2,a3⟩:=rL v w hv hw
  obtain ⟨b1,b2,b3⟩:=rL w v hw hv
  obtain ⟨r,hr,hs⟩:=Tr (R:=R) v w hv.len
  obtain ⟨r2,hr2,UX⟩:=Tr (R:=R) ⟨6,⟨0,0⟩, [], [], [v,w]⟩ ⟨6,⟨0,0⟩, [], [], [w,v]⟩ a2
  have hLL:(⟨6,⟨0,0⟩, [], [], [v,w]⟩:Json)=⟨6,⟨0,0⟩, [], [], [w,v]⟩↔v=w:=by
    simp only[Json.mk.injEq,List.cons.injEq,and_true,true_and]
    exact ⟨fun h=>h.1,fun h=>⟨h,h.symm⟩⟩
  have e1:r2=r:=by rw[Bool.eq_iff_iff,hr2,hr,hLL]
  have err:(r==r)=true:=by cases r <;> rfl
  rw[GW _ a2,a1,cond_true,UX,hs,e1,err,cond_true]
  rw[Mc _ a1 a2 a3,Mc _ b1 b2 b3,hs]
  have:((oX ⟨6,⟨0,0⟩, [], [], [v,w]⟩==oX ⟨6,⟨0,0⟩, [], [], [w,v]⟩)==r)=true:=by
    rw[beq_iff_eq,Bool.eq_iff_iff,beq_iff_eq,hr,←hLL]
    exact ⟨Vc a1 b1,fun h=>by rw[h]⟩
  rw[this]

theorem Mm {R:Type} (x1 x2:Raw) (a b:List Int) (h1:∃n,JM n (Ty.cells .raw x1)∧n≤1048576) (h2:∃n,JM n (Ty.cells .raw x2)∧n≤1048576) (ha:∃n,Wt n (.sl (.int .i64) a .no)∧n≤1048576) (hb:∃n,Wt n (.sl (.int .i64) b .no)∧n≤1048576) (k:Bool→Option R):qR x1 x2 a b k=k true:=by
  obtain ⟨o1,t1⟩:=QX h1
  obtain ⟨o2,t2⟩:=QX h2
  have hai:(∀c∈a,CK c)∧a.length≤1048576:=by
    obtain ⟨n,h,hn⟩:=ha
    cases h with
    | sl p w=>exact ⟨Kx a _ w,Nat.le_trans (E9 (T := .int .i64) a _ w (fun x n h=>by
        have h':JM n [V.int .i64 x]:=h
        cases h' with|cons a b=>have:=Pc a; omega)) (by omega)⟩
  have hbi:(∀c∈b,CK c)∧b.length≤1048576:=by
    obtain ⟨n,h,hn⟩:=hb
    cases h with
    | sl p w=>exact ⟨Kx b _ w,Nat.le_trans (E9 (T := .int .i64) b _ w (fun x n h=>by
        have h':JM n [V.int .i64 x]:=h
        cases h' with|cons a b=>have:=Pc a; omega)) (by omega)⟩
  obtain ⟨v,hv,rv⟩:=jfit (R:=R) x1 o1 3 (by omega) (by omega)
  obtain ⟨w,hw,rw'⟩:=jfit (R:=R) x2 o2 3 (by omega) (by omega)
  have ma:min (a.length:Int) 9=((min a.length 9:Nat):Int):=by omega
  have mb:min (b.length:Int) 9=((min b.length 9:Nat):Int):=by omega
  obtain ⟨ra,ra1,ra2,ra3,ra4⟩:=HG (R:=R) (a.take (min a.length 9)) (fun c hc=>hai.1 c (List.mem_of_mem_take hc))
  obtain ⟨rb,rb1,rb2,rb3,rb4⟩:=HG (R:=R) (b.take (min b.length 9)) (fun c hc=>hbi.1 c (List.mem_of_mem_take hc))
  have va:iu (cL ra)=true:=xR.2 ⟨ra,ra1,rfl⟩
  have vb:iu (cL rb)=true:=xR.2 ⟨rb,rb1,rfl⟩
  have e:qR x1 x2 a b k=rW br ll jx dt cp c8 x1 x2 a b k:=rfl
  rw[e]
  unfold rW
  simp only[Raw.eta,Json.eta]
  rw[ZJ,rv,rw',ma,bH (by rw[cu (by omega),cu (by omega)]; rfl),bH (cu (by omega)),Int.toNat_natCast,List.drop_zero,Nat.sub_zero,ra4,mb,bH (by rw[cu (by omega),cu (by omega)]; rfl),bH (cu (by omega)),Int.toNat_natCast,List.drop_zero,Nat.sub_zero,rb4,cond_true]
  generalize hA:cL ra=A at *
  generalize hB:cL rb=B at *
  have YU:Mi R v 3 1048576:=⟨hv.right,hv.len,by have:=hv.size; omega⟩
  have hw':Mi R w 3 1048576:=⟨hw.right,hw.len,by have:=hw.size; omega⟩
  have oLen:FN ⟨7,⟨0,0⟩, [], [A,B], [v,w]⟩=true:=by
    simp[FN,Kb,hv.len,hw.len]
    omega
  have oRight:fg ⟨7,⟨0,0⟩, [], [A,B], [v,w]⟩ 1 = !(A==B):=by
    have h1:=zj v 2 hv.right
    have h2:=zj w 2 hw.right
    simp[fg,gB,uC,va,vb,h1,h2]
    rw[Bool.eq_iff_iff]
    simp
    exact eq_comm
  obtain ⟨r,hr,hs⟩:=Tr (R:=R) v w hv.len
  obtain ⟨r2,hr2,UX⟩:=Tr (R:=R) ⟨7,⟨0,0⟩, [], [A,B], [v,w]⟩ ⟨7,⟨0,0⟩, [], [B,A], [w,v]⟩ oLen
  have e1:r2=((A==B)&&r):=by
    rw[Bool.eq_iff_iff,hr2,Bool.and_eq_true,beq_iff_eq,hr]
    simp only[Json.mk.injEq,List.cons.injEq,and_true,true_and]
    exact ⟨fun h=>⟨h.1.1,h.2.1⟩,fun h=>⟨⟨h.1,h.1.symm⟩,⟨h.2,h.2.symm⟩⟩⟩
  have hp:=Vh YU hw' k
  have eb:((!(A==B))==(!(A==B)))=true:=by cases A==B <;> rfl
  have err:(r==r)=true:=by cases r <;> rfl
  have V4:(false==false)=true:=rfl
  rw[GW _ oLen,oRight,eb,cond_true,UX,e1]
  cases hAB:A==B with
  | true =>
    rw[Bool.true_and,cond_true,hs,err,cond_true]
    exact hp
  | false =>
    rw[Bool.false_and,cond_false,V4,cond_true]
    exact hp
end Go.Proofs.YtmlkkgfenfdndaaGreatDoor

set_option maxRecDepth 100000
namespace Go.Proofs.YtmlkkgfenfdndaaGreatDoor.jsonNames
open Go.ChangeShapes Go.WideShapes Go.ChangeAt Go.RowKit Go.ax Door

theorem run (a0:Raw) (a1:Raw) (a2:List Int) (a3:List Int):az rT rU (Bv qR) aZ [.agg [.int .i64 a0.kind, .int .i64 a0.aw, .int .i64 a0.exp, .sl (.int .i64) a0.text .no, .sl .raw a0.items .no], .agg [.int .i64 a1.kind, .int .i64 a1.aw, .int .i64 a1.exp, .sl (.int .i64) a1.text .no, .sl .raw a1.items .no], .sl (.int .i64) a2 .no, .sl (.int .i64) a3 .no] [] kOk=qR a0 a1 a2 a3 (fun q0=>kOk (.bool q0) []):=by kernel_rfl

theorem Yt (H:Type) (enc:TypeId × Value→H) (W:World) (base:Nat) (args:Array Value) (ds gs:List (DataW H)) (before:List MemPlace)
    (BA:∀(j:Nat) t v,Tryz.f15.params[j]? = some t→args[j]? = some v→Value.okWide Tryz.prog W .any base t v)
    (hW:DataW.Whole enc Tryz.prog Tryz.f15.params.toList Rows.jsonNamesSpec.vars false W args.toList ds gs before) (hL:laidMetH Tryz.prog Rows.jsonNamesUptoRow.laid W) (hk:Rows.uptoSmall H (ds++gs)=true) :
    Calls Tryz.prog 15 args W fun e W'=>∃v,e = .returned v∧Rows.jsonNamesSpec.post enc Tryz.prog Tryz.f15 false true false false W args v W':=by
  have hW':=hW
  obtain ⟨p,q,Z0,hV,hpq,SI,DX⟩:=hW
  have hA:DataW.TrodAll enc Tryz.prog W 0 (fun _=>true) true [25,25,22,22] args.toList ds p:=Z0
  have BA:∀(j:Nat) t v,(#[25,25,22,22]:Array Nat)[j]? = some t→args[j]? = some v→Value.okWide Tryz.prog W .any base t v:=BA
  obtain ⟨v0,vs0,d0,ds0,p0,q0,SV,rfl,rfl,h0,r0⟩:=trodAll_cons hA
  obtain ⟨v1,vs1,d1,ds1,p1,q1,rfl,rfl,rfl,h1,r1⟩:=trodAll_cons r0
  obtain ⟨v2,vs2,d2,ds2,p2,q2,rfl,rfl,rfl,h2,r2⟩:=trodAll_cons r1
  obtain ⟨v3,vs3,d3,ds3,p3,q3,rfl,rfl,rfl,h3,r3⟩:=trodAll_cons r2
  obtain ⟨rfl,rfl,rfl⟩:=trodAll_nil r3
  obtain rfl:args = #[v0,v1,v2,v3]:=by cases args; simp_all
  have hV':DataW.TrodVars enc Tryz.prog W (fun _=>true) [] gs q:=hV
  obtain ⟨rfl,rfl⟩:=trodVars_none hV'
  have hb:Rows.uptoBulkAll ([d0,d1,d2,d3] ++ [])≤1048576:=of_decide_eq_true hk
  simp only[List.append_nil,Rows.uptoBulkAll]at hb
  obtain ⟨a0,q0,s0⟩:=QT (T := .raw) (N:=1048576) leaves (by kernel_rfl) (by kernel_rfl) (BA 0 25 v0 rfl rfl) h0 (by omega) (Nat.le_of_ble_eq_true rfl)
  obtain ⟨a1,q1,s1⟩:=QT (T := .raw) (N:=1048576) leaves (by kernel_rfl) (by kernel_rfl) (BA 1 25 v1 rfl rfl) h1 (by omega) (Nat.le_of_ble_eq_true rfl)
  obtain ⟨a2,q2,s2⟩:=QS (p := .sl (.int .i64)) (N:=1048576) leaves (by kernel_rfl) (by kernel_rfl) (BA 2 22 v2 rfl rfl) h2 (by omega) (Nat.le_of_ble_eq_true rfl)
  obtain ⟨a3,q3,s3⟩:=QS (p := .sl (.int .i64)) (N:=1048576) leaves (by kernel_rfl) (by kernel_rfl) (BA 3 22 v3 rfl rfl) h3 (by omega) (Nat.le_of_ble_eq_true rfl)
  have ra:cz W [] JT [.agg [.int .i64 a0.kind, .int .i64 a0.aw, .int .i64 a0.exp, .sl (.int .i64) a0.text .no, .sl .raw a0.items .no], .agg [.int .i64 a1.kind, .int .i64 a1.aw, .int .i64 a1.exp, .sl (.int .i64) a1.text .no, .sl .raw a1.items .no], .sl (.int .i64) a2 .no, .sl (.int .i64) a3 .no] #[v0,v1,v2,v3].toList:=(.cons q0 (.cons q1 (.cons q2 (.cons q3 .nil))))
  obtain ⟨hsays,ZL⟩:=Zl (W:=W) hL
  refine (RW Tryz.func15 rfl rfl (Fa Unit _ (aM _)) hsays ZL ra ((run a0 a1 a2 a3).trans (Mm a0 a1 a2 a3 s0 s1 s2 s3 (fun q0=>kOk (.bool q0) [])))).mono fun e W' ⟨he,L⟩=>⟨_,he,?_⟩
  exact UC (by kernel_rfl) (UB (by kernel_rfl)) rfl rfl rfl (show Tryz.prog.underlying 4=some .bool by kernel_rfl) hW' L

theorem reads (os:Os) {H:Type} (enc:TypeId × Value→H):(DataW.whole enc Tryz.prog ((IM os).forCall (fun _ _=>0) ⟨#[], #[.agg #[.int .i64 0, .int .i64 0, .int .i64 0, .slice none 0 0, .slice none 0 0], .agg #[.int .i64 0, .int .i64 0, .int .i64 0, .slice none 0 0, .slice none 0 0], .slice none 0 0, .slice none 0 0], []⟩).memory Tryz.f15.params.toList Rows.jsonNamesSpec.vars false (#[.agg #[.int .i64 0, .int .i64 0, .int .i64 0, .slice none 0 0, .slice none 0 0], .agg #[.int .i64 0, .int .i64 0, .int .i64 0, .slice none 0 0, .slice none 0 0], .slice none 0 0, .slice none 0 0]:Array Value).toList 8).map (fun x=>(x.1,x.2.1))=some ([.agg [.lit (.int .i64 0), .lit (.int .i64 0), .lit (.int .i64 0), .nil, .nil], .agg [.lit (.int .i64 0), .lit (.int .i64 0), .lit (.int .i64 0), .nil, .nil], .nil, .nil], []):=by kernel_rfl
theorem lifted (os:Os) (started:os.Started) (H:Type) (enc:TypeId × Value→H) (F:Stop.Interp) :
    ReturnsInHanded {} Tryz.checked os 15 .any ((Rows.OpenSpec.upto Rows.jsonNamesSpec).preRow enc Tryz.prog Tryz.f15 Rows.jsonNamesUptoRow.domain false Rows.jsonNamesUptoRow.laid) (((Rows.OpenSpec.upto Rows.jsonNamesSpec).at F).post enc Tryz.prog Tryz.f15 false true false false):=by
  obtain ⟨⟨x1,x2,x3⟩,hx,hx1⟩:=Option.map_eq_some_iff.1 (reads os enc)
  simp only[Prod.mk.injEq]at hx1
  obtain ⟨rfl,rfl⟩:=hx1
  refine returnsInHanded_of_row (C:=Tryz.checked) (s:=Rows.OpenSpec.upto Rows.jsonNamesSpec) own started (by kernel_rfl) Tryz.func15
    (witness_row_atRef (enc:=enc) (C:=Tryz.checked) false (IM os) #[.agg #[.int .i64 0, .int .i64 0, .int .i64 0, .slice none 0 0, .slice none 0 0], .agg #[.int .i64 0, .int .i64 0, .int .i64 0, .slice none 0 0, .slice none 0 0], .slice none 0 0, .slice none 0 0] rfl (by kernel_rfl) (by kernel_rfl) (by kernel_rfl)
      (OpenSpec.preRow_of_cond 8 hx (by kernel_rfl) (fun k hk=>by cases hk; kernel_rfl) (by kernel_rfl) (Xc os _))) ?_
  intro W base args ds gs before BA hW _ wj _ hL _ _
  exact Yt H enc W base args ds gs before BA hW hL (wj _ rfl)

theorem Yu:Rows.JsonNamesUptoSaid :=
  OpenClaim.holds_of_cond 15 Tryz.f15 rfl rfl rfl rfl rfl rfl rfl ⟨rfl,rfl,rfl,rfl,rfl⟩ rfl rfl rfl rfl rfl (by kernel_rfl) Tryz.func15 (by kernel_rfl)
    (of_decide_eq_true (by kernel_rfl)) (by unfold Func.isWrapper; first|(rw[if_pos (by decide +kernel)]; kernel_rfl)|(rw[if_neg (by decide +kernel)]; exact ⟨rfl,rfl⟩))
    (fun os started H enc _ F=>by rw[OpenClaim.pre_eq_preRow]; exact lifted os started H enc F)

theorem plain (f:FuncId) (fn:Func) (hf:Tryz.pinned.checked.prog.funcNamed "humpyard/humpyardlaw04.JsonNames" = some f) (hfn:Tryz.pinned.checked.prog.funcs[f]? = some fn) :
    true=Tryz.pinned.checked.prog.looks []∧∀(j:Nat) t,fn.params[j]? = some t→Tryz.pinned.checked.prog.wantsStandIn t=false:=by
  obtain rfl:f=15:=Option.some.inj ((show Tryz.prog.funcNamed "humpyard/humpyardlaw04.JsonNames" = some 15 by kernel_rfl).symm.trans hf) |>.symm
  obtain rfl:fn=Tryz.f15:=(Option.some.inj (Tryz.func15.symm.trans hfn)).symm
  refine ⟨by kernel_rfl,fun j t ht => ?_⟩
  have zo:Tryz.f15.params.toList.all (fun t => !Tryz.prog.wantsStandIn t)=true:=by kernel_rfl
  have hm:t∈Tryz.f15.params.toList:=Array.mem_toList_iff.2 (Array.mem_of_getElem? ht)
  have:=List.all_eq_true.1 zo t hm
  exact (show Tryz.prog.wantsStandIn t=false by simpa using this)
end Go.Proofs.YtmlkkgfenfdndaaGreatDoor.jsonNames
namespace Go.Proofs.YtmlkkgfenfdndaaGreatDoor
open Go.RowKit
theorem jsonNames_card_upto:Rows.JsonNamesUptoCardSaid :=
  Claim7.holds_tied_plain_at .later [] _ _ _ _ jsonNames.Yu (fun _ h=>by cases h) (by kernel_rfl) (fun _ h=>by cases h) jsonNamesUpto_row_tie rfl ⟨rfl,rfl⟩ (by kernel_rfl) rfl jsonNames.plain (by kernel_rfl)
end Go.Proofs.YtmlkkgfenfdndaaGreatDoor

