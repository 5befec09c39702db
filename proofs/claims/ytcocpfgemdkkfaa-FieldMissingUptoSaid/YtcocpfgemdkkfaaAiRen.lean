/-
  The abstract interpreter, part 21: other names for the objects. Own work.
-/
import Derived.Test.YtcocpfgemdkkfaaAiOpX
namespace Go.Yard
open Go.RowKit

section
variable {w w' : World} {h h2 : Heap} {c c2 : Cfg}

theorem renL_eq (ρ : Nat → Option Nat) : ∀ l : List V, V.renL ρ l = l.map (V.ren ρ)
  | [] => rfl
  | v :: l => by simp only [V.renL, List.map_cons, renL_eq ρ l]

theorem renL_len (ρ : Nat → Option Nat) (l : List V) : (V.renL ρ l).length = l.length := by simp [renL_eq]
theorem renL_get (ρ : Nat → Option Nat) (l : List V) (j : Nat) : (V.renL ρ l)[j]? = (l[j]?).map (V.ren ρ) := by simp [renL_eq]

/-- What new names must keep. -/
structure RenOK (ρ : Nat → Option Nat) (h : Heap) (c : Cfg) (h2 : Heap) (c2 : Cfg) : Prop where
  used : ∀ i j, ρ i = some j → Used h i → Used h2 j
  obj : ∀ i j, ρ i = some j → h2.at j ≠ .dead → h.at i ≠ .dead ∧ c2.blk j = c.blk i ∧ c2.off j = c.off i
  tok : ∀ i j, ρ i = some j → h2.at j = .tok → h.at i = .tok
  row : ∀ i j, ρ i = some j → ∀ (T : Ty) (l : List T.den), h2.at j = .row T l → h.at i = .row T l
  free : ∀ b x, Free h c b x → Free h2 c2 b x

theorem Rep.ren {ρ : Nat → Option Nat} (k : RenOK ρ h c h2 c2) {v : V} {d : Value} (r : Rep w h c v d) : Rep w h2 c2 (v.ren ρ) d := by
  induction r with
  | undef v => exact .undef v
  | int hn => exact .int hn
  | bool b => exact .bool b
  | str hl => exact .str hl
  | nilptr => exact .nilptr
  | nilsl => exact .nilsl
  | nilfunc => exact .nilfunc
  | nilmap => exact .nilmap
  | niliface => exact .niliface
  | anyb b => exact .anyb b
  | @ptr i o v hi hv =>
    obtain ⟨b, hv, hb⟩ := hv
    simp only [V.ren]
    cases e : ρ i with
    | none => exact .undef _
    | some j => exact .ptr (k.used i j e hi) ⟨b, hv, fun hd => by obtain ⟨h1, h2, _⟩ := k.obj i j e hd; rw [h2]; exact hb h1⟩
  | @map i v hi hv =>
    obtain ⟨b, hv, hb⟩ := hv
    simp only [V.ren]
    cases e : ρ i with
    | none => exact .undef _
    | some j => exact .map (k.used i j e hi) ⟨b, hv, fun hd => by obtain ⟨h1, h2, _⟩ := k.obj i j e hd; rw [h2]; exact hb h1⟩
  | @iptr cs b o f hc _ ih =>
    simp only [V.ren]
    refine .iptr f (fun j hj => ?_) (fun j v hv => ?_)
    · rw [renL_len] at hj
      exact ⟨(hc j hj).1, k.free _ _ (hc j hj).2⟩
    · rw [renL_get] at hv
      cases e : cs[j]? with
      | none => rw [e] at hv; cases hv
      | some u => rw [e] at hv; simp at hv; subst hv; exact ih j u e
  | @sl T l t A cap f hcap hmx hc hr hnil hown ih =>
    simp only [V.ren]
    refine .sl f hcap hmx (fun i j hi hj => ?_) (fun i j x v hx hv => ?_) (fun ht => ?_) (fun j ht => ?_)
    · obtain ⟨b, o, hA, h1, h2⟩ := hc i j hi hj
      exact ⟨b, o, hA, h1, k.free _ _ h2⟩
    · have := ih i j x v hx hv
      have e : v.ren ρ = v := by
        have hcl : ∀ (T : Ty) (x : T.den) (j : Nat) (v : V), (T.cells x)[j]? = some v → v.ren ρ = v := by
          intro T x
          have : ∀ v ∈ T.cells x, v.ren ρ = v := by
            cases T <;> simp [Ty.cells, V.ren, Tok.ren]
          intro j v hv
          exact this v (List.mem_of_getElem? hv)
        exact hcl T x j v hv
      rw [e] at this; exact this
    · cases t with
      | no => cases ht
      | nil => exact hnil rfl
      | own i => simp only [Tok.ren] at ht; split at ht <;> cases ht
    · cases t with
      | no => cases ht
      | nil => cases ht
      | own i =>
        simp only [Tok.ren] at ht
        split at ht
        · rename_i j' e
          cases ht
          obtain ⟨hu, ho⟩ := hown i rfl
          refine ⟨k.used i j e hu, fun htok => ?_⟩
          obtain ⟨_, e1, e2⟩ := k.obj i j e (by rw [htok]; simp)
          rw [e1, e2]
          exact ho (k.tok i j e htok)
        · cases ht
  | @vsl n sz cs A hn hmx f hc _ ih =>
    simp only [V.ren]
    refine .vsl (sz := sz) (by rw [renL_len]; exact hn) hmx f (fun j hj => ?_) (fun j v hv => ?_)
    · rw [renL_len] at hj
      obtain ⟨b, o, hA, h1, h2⟩ := hc j hj
      exact ⟨b, o, hA, h1, k.free _ _ h2⟩
    · rw [renL_get] at hv
      cases e : cs[j]? with
      | none => rw [e] at hv; cases hv
      | some u => rw [e] at hv; simp at hv; subst hv; exact ih j u e
  | @row i n v hi hn hv =>
    simp only [V.ren]
    cases e : ρ i with
    | none => exact .undef _
    | some j =>
      obtain ⟨A, cap, hv1, hA, hv⟩ := hv
      refine .row (k.used i j e hi) hn ⟨A, cap, hv1, hA, fun T l he => ?_⟩
      obtain ⟨_, e1, e2⟩ := k.obj i j e (by rw [he]; simp)
      rw [e1, e2]
      exact hv T l (k.row i j e T l he)
  | @rptr i n q o v hi hv =>
    simp only [V.ren]
    cases e : ρ i with
    | none => exact .undef _
    | some j =>
      obtain ⟨a, ha, hv⟩ := hv
      refine .rptr (k.used i j e hi) ⟨a, ha, fun T l he hn hj => ?_⟩
      obtain ⟨_, e1, e2⟩ := k.obj i j e (by rw [he]; simp)
      rw [e1, e2]
      exact hv T l (k.row i j e T l he) hn hj
  | @func f a b x y ha hb _ _ iha ihb =>
    simp only [V.ren]
    refine .func (by rw [renL_len]; exact ha) (by rw [renL_len]; exact hb) (fun j v d hv hd => ?_) (fun j v d hv hd => ?_)
    · rw [renL_get] at hv
      cases e : a[j]? with
      | none => rw [e] at hv; cases hv
      | some u => rw [e] at hv; simp at hv; subst hv; exact iha j u d e hd
    · rw [renL_get] at hv
      cases e : b[j]? with
      | none => rw [e] at hv; cases hv
      | some u => rw [e] at hv; simp at hv; subst hv; exact ihb j u d e hd
  | @agg cs x hl _ ih =>
    simp only [V.ren]
    refine .agg (by rw [renL_len]; exact hl) (fun j v d hv hd => ?_)
    rw [renL_get] at hv
    cases e : cs[j]? with
    | none => rw [e] at hv; cases hv
    | some u => rw [e] at hv; simp at hv; subst hv; exact ih j u d e hd
  | @tuple cs x hl _ ih =>
    simp only [V.ren]
    refine .tuple (by rw [renL_len]; exact hl) (fun j v d hv hd => ?_)
    rw [renL_get] at hv
    cases e : cs[j]? with
    | none => rw [e] at hv; cases hv
    | some u => rw [e] at hv; simp at hv; subst hv; exact ih j u d e hd

theorem RepL.ren {ρ : Nat → Option Nat} (k : RenOK ρ h c h2 c2) {cs : List V} {ds : List Value} (r : RepL w h c cs ds) : RepL w h2 c2 (V.renL ρ cs) ds := by
  refine ⟨by rw [renL_len]; exact r.1, fun j v d hv hd => ?_⟩
  rw [renL_get] at hv
  cases e : cs[j]? with
  | none => rw [e] at hv; cases hv
  | some u => rw [e] at hv; simp at hv; subst hv; exact (r.2 j u d e hd).ren k

theorem cells_ren (ρ : Nat → Option Nat) (T : Ty) (x : T.den) : ∀ v ∈ T.cells x, v.ren ρ = v := by cases T <;> simp [Ty.cells, V.ren, Tok.ren]

/-- An object under other names. -/
theorem ObjOK.ren {ρ : Nat → Option Nat} (k : RenOK ρ h c h2 c2) {i j : Nat} {o : AObj} (e1 : c2.blk j = c.blk i) (e2 : c2.off j = c.off i) (ho : ObjOK w h c i o) : ObjOK w h2 c2 j (o.ren ρ) := by
  cases o <;> simp only [ObjOK, AObj.ren] at ho ⊢
  · obtain ⟨b, arr, e, h1, h2', h3⟩ := ho
    exact ⟨b, arr, e, e1 ▸ h1, h2', h3.ren k⟩
  · rw [e1, e2]
    rcases ho with h1 | ⟨b, arr, e, fz, h1, h2', h3, h4, h5⟩
    · exact .inl h1
    · refine .inr ⟨b, arr, e, fz, h1, h2', h3, h4, fun n q x v hx hv => ?_⟩
      obtain ⟨d, g1, g2⟩ := h5 n q x v hx hv
      refine ⟨d, g1, ?_⟩
      have := g2.ren k
      rw [cells_ren ρ _ x v (List.mem_of_getElem? hv)] at this
      exact this
  · rw [e1, e2]; exact ho
  · rw [e1]; exact ho

/-! ### a choice of objects -/
def Cfg.pick (c : Cfg) (ord : List Nat) (ext : Nat → Nat → Prop) : Cfg :=
  ⟨fun j => (ord[j]?).bind c.blk, fun j => c.off (ord.getD j 0), ext⟩

theorem posIn_some {ord : List Nat} {i j : Nat} (e : posIn ord i = some j) : ord[j]? = some i := by
  unfold posIn at e
  simp only at e
  split at e
  · rename_i hlt
    cases e
    rw [List.getElem?_eq_getElem hlt, List.getElem_idxOf hlt]
  · cases e

theorem pick_at (h : Heap) (ord : List Nat) (j : Nat) : Heap.at (h.pick ord) j = match ord[j]? with | some i => (h.at i).ren (posIn ord) | none => .dead := by
  unfold Heap.at Heap.pick
  simp only [List.getD, List.getElem?_map]
  cases ord[j]? <;> rfl

theorem ren_dead {ρ : Nat → Option Nat} {o : AObj} : o.ren ρ = .dead ↔ o = .dead := by cases o <;> simp [AObj.ren]
theorem ren_free {ρ : Nat → Option Nat} {o : AObj} : o.ren ρ = .free ↔ o = .free := by cases o <;> simp [AObj.ren]
theorem ren_tok {ρ : Nat → Option Nat} {o : AObj} : o.ren ρ = .tok ↔ o = .tok := by cases o <;> simp [AObj.ren]
theorem ren_row {ρ : Nat → Option Nat} {o : AObj} {T : Ty} {l : List T.den} : o.ren ρ = .row T l ↔ o = .row T l := by cases o <;> simp [AObj.ren]
theorem ren_from {ρ : Nat → Option Nat} {o : AObj} {f : Nat} : (o.ren ρ).from_ f = o.from_ f := by cases o <;> rfl
theorem ren_live {ρ : Nat → Option Nat} {o : AObj} : (o.ren ρ).live ↔ o.live := by cases o <;> simp [AObj.ren, AObj.live]

theorem pick_owns {ord : List Nat} {ext : Nat → Nat → Prop} {b x : Nat} (ho : Owns (h.pick ord) (c.pick ord ext) b x) : ∃ i ∈ ord, ∃ f, c.blk i = some b ∧ (h.at i).from_ (c.off i) = some f ∧ f ≤ x := by
  obtain ⟨j, f, g1, g2, g3⟩ := ho
  rw [pick_at] at g2
  cases e : ord[j]? with
  | none => rw [e] at g2; cases g2
  | some i =>
    rw [e] at g2
    simp only [Cfg.pick, e, Option.bind_some] at g1
    simp only [ren_from, Cfg.pick, List.getD, e, Option.getD_some] at g2
    exact ⟨i, List.mem_of_getElem? e, f, g1, g2, g3⟩

theorem pick_ren {ord : List Nat} {ext : Nat → Nat → Prop} (hfree : ∀ b x, Free h c b x → ¬ ext b x) : RenOK (posIn ord) h c (h.pick ord) (c.pick ord ext) where
  used := fun i j e hu => by
    have hj := posIn_some e
    refine ⟨?_, ?_⟩
    · have := (List.getElem?_eq_some_iff.1 hj).1
      simpa [Heap.pick] using this
    · rw [pick_at, hj]
      simp only [ne_eq, ren_free]
      exact hu.2
  obj := fun i j e hd => by
    have hj := posIn_some e
    rw [pick_at, hj] at hd
    simp only [ne_eq, ren_dead] at hd
    exact ⟨hd, by simp [Cfg.pick, hj], by simp [Cfg.pick, List.getD, hj]⟩
  tok := fun i j e ht => by
    rw [pick_at, posIn_some e] at ht
    exact ren_tok.1 ht
  row := fun i j e T l ht => by
    rw [pick_at, posIn_some e] at ht
    exact ren_row.1 ht
  free := fun b x hf => ⟨fun ho => by
    obtain ⟨i, _, f, g1, g2, g3⟩ := pick_owns ho
    exact hf.1 ⟨i, f, g1, g2, g3⟩, hfree b x hf⟩

theorem pick_wf (wf : WF w h c) {ord : List Nat} (hnd : ord.Nodup) {ext : Nat → Nat → Prop} (hfree : ∀ b x, Free h c b x → ¬ ext b x) (hlt : ∀ b x, ext b x → b < w.heap.size)
    (hdis : ∀ b x, (∃ i ∈ ord, ∃ f, c.blk i = some b ∧ (h.at i).from_ (c.off i) = some f ∧ f ≤ x) → ¬ ext b x) : WF w (h.pick ord) (c.pick ord ext) where
  disj := fun b x ho => hdis b x (pick_owns ho)
  extlt := hlt
  obj := fun j hj => by
    rw [pick_at]
    cases e : ord[j]? with
    | none => trivial
    | some i =>
      by_cases hl : (h.at i).live
      · exact (wf.obj i (Heap.at_live rfl (live_ne_dead hl))).ren (pick_ren hfree) (by simp [Cfg.pick, e]) (by simp [Cfg.pick, List.getD, e])
      · have h0 : h.at i = .free ∨ h.at i = .dead := by revert hl; cases h.at i <;> simp [AObj.live]
        rcases h0 with h0 | h0 <;> simp only [h0, AObj.ren] <;> trivial
  inj := fun j k b hj hk h1 h2 => by
    rw [pick_at] at hj hk
    cases e1 : ord[j]? with
    | none => rw [e1] at hj; exact hj.elim
    | some i1 =>
      cases e2 : ord[k]? with
      | none => rw [e2] at hk; exact hk.elim
      | some i2 =>
        rw [e1] at hj; rw [e2] at hk
        simp only [Cfg.pick, e1, e2, Option.bind_some] at h1 h2
        have := wf.inj i1 i2 b (ren_live.1 hj) (ren_live.1 hk) h1 h2
        subst this
        obtain ⟨hj', e1'⟩ := List.getElem?_eq_some_iff.1 e1
        obtain ⟨hk', e2'⟩ := List.getElem?_eq_some_iff.1 e2
        have hp := List.pairwise_iff_getElem.1 hnd
        rcases Nat.lt_trichotomy j k with hlt | rfl | hlt
        · exact (hp j k hj' hk' hlt (e1'.trans e2'.symm)).elim
        · rfl
        · exact (hp k j hk' hj' hlt (e2'.trans e1'.symm)).elim

theorem reach_nodup (h : Heap) : ∀ (n : Nat) (todo seen : List Nat), seen.Nodup → (reach h n todo seen).Nodup
  | 0, _, _, hn => hn
  | n + 1, [], _, hn => hn
  | n + 1, i :: todo, seen, hn => by
    simp only [reach]
    split
    · exact reach_nodup h n _ _ hn
    · rename_i hc
      refine reach_nodup h n _ _ ?_
      rw [List.nodup_append]
      refine ⟨hn, by simp, fun a ha b hb => ?_⟩
      simp at hb; subst hb
      rintro rfl
      simp at hc
      exact hc ha
end
end Go.Yard
