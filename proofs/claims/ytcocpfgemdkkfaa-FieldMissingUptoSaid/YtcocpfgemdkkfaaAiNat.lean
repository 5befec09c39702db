/-
  The abstract interpreter, part 23: an operation gives one result, whatever goes on behind it; it asks its operands alone. Own work.
-/
import Derived.Test.YtcocpfgemdkkfaaAiBack
namespace Go.Yard
open Go.RowKit

section
variable {tt : TTab} {h : Heap} {R : Type}

theorem chk_true {k : Option R} : chk true k = k := rfl
theorem chk_some' {b : Bool} {k : Option R} {r : R} (h : chk b k = some r) : b = true ∧ k = some r := chk_some h

theorem partK_nat {t off : Nat} {cs : List V} {k0 : V → Option R} {r : R} (hk : partK tt t cs off k0 = some r) :
    ∃ v, k0 v = some r ∧ ∀ k : V → Option R, partK tt t cs off k = k v := by
  unfold partK at hk
  split at hk
  · rename_i hok
    split at hk
    · rename_i hagg
      split at hk
      · rename_i hsz
        exact ⟨_, hk, fun k => by simp [partK, hok, hagg, hsz]⟩
      · cases hk
    · rename_i hagg
      split at hk
      · rename_i v hv
        exact ⟨_, hk, fun k => by simp [partK, hok, hagg, hv]⟩
      · cases hk
  · cases hk

theorem binK_nat {op : BinOp} {x y : V} {k0 : V → Option R} {r : R} (hk : binK op x y k0 = some r) :
    ∃ v, k0 v = some r ∧ ∀ k : V → Option R, binK op x y k = k v := by
  unfold binK at hk
  split at hk
  · obtain ⟨hb, hk⟩ := chk_some hk
    exact ⟨_, hk, fun k => by simp [binK, chk, hb]⟩
  · obtain ⟨hb, hk⟩ := chk_some hk
    exact ⟨_, hk, fun k => by simp [binK, chk, hb]⟩
  · split at hk
    · rename_i hij
      subst hij
      split at hk <;> first
        | (exact ⟨_, hk, fun k => by simp [binK]⟩)
        | (obtain ⟨hb, hk⟩ := chk_some hk; exact ⟨_, hk, fun k => by simp only [binK, hb, chk, cond_true, if_true]⟩)
        | cases hk
    · cases hk
  · split at hk <;> first
        | (exact ⟨_, hk, fun k => by simp [binK]⟩)
        | (obtain ⟨hb, hk⟩ := chk_some hk; exact ⟨_, hk, fun k => by simp only [binK, hb, chk, cond_true]⟩)
        | cases hk
  · split at hk
    · exact ⟨_, hk, fun k => by simp [binK, *]⟩
    · cases hk
  · split at hk
    · exact ⟨_, hk, fun k => by simp [binK, *]⟩
    · cases hk
  · cases hk

theorem ptrK_nat {op : BinOp} {x y : V} {k0 : V → Option R} {r : R} (hk : ptrK op x y k0 = some r) :
    ∃ v, k0 v = some r ∧ ∀ k : V → Option R, ptrK op x y k = k v := by
  unfold ptrK at hk
  split at hk
  · split at hk
    · exact ⟨_, hk, fun k => by simp [ptrK, *]⟩
    · exact ⟨_, hk, fun k => by simp [ptrK, *]⟩
    · cases hk
  · cases hk

theorem nilOf_nat {a : V} {neg : Bool} {k0 : V → Option R} {r : R} (hk : nilOf a (fun r => k0 (nilAns neg r)) = some r) :
    ∃ v, k0 v = some r ∧ ∀ k : V → Option R, nilOf a (fun r => k (nilAns neg r)) = k v := by
  unfold nilOf at hk
  split at hk <;> try cases hk
  · exact ⟨_, hk, fun k => by simp [nilOf]⟩
  · rename_i l _
    cases hl : l.isEmpty with
    | true => rw [hl] at hk; exact ⟨_, hk, fun k => by simp only [nilOf, hl]; rfl⟩
    | false => rw [hl] at hk; exact ⟨_, hk, fun k => by simp only [nilOf, hl]; rfl⟩
  · rename_i n
    cases hl : decide (n = 0) with
    | true => rw [hl] at hk; exact ⟨_, hk, fun k => by simp only [nilOf, hl]; rfl⟩
    | false => rw [hl] at hk; exact ⟨_, hk, fun k => by simp only [nilOf, hl]; rfl⟩

theorem slK_nat {op : BinOp} {x y : V} {k0 : V → Option R} {r : R} (hk : slK op x y k0 = some r) :
    ∃ v, k0 v = some r ∧ ∀ k : V → Option R, slK op x y k = k v := by
  unfold slK at hk
  split at hk
  · split at hk
    · obtain ⟨v, h1, h2⟩ := nilOf_nat hk
      exact ⟨v, h1, fun k => by simp [slK, h2]⟩
    · obtain ⟨v, h1, h2⟩ := nilOf_nat hk
      exact ⟨v, h1, fun k => by simp [slK, h2]⟩
    · cases hk
  · cases hk

theorem optI_nat {v : Option V} {d : Int} {k0 : Int → Option R} {r : R} (hk : optI v d k0 = some r) :
    ∃ n, k0 n = some r ∧ ∀ k : Int → Option R, optI v d k = k n := by
  unfold optI at hk
  split at hk
  · exact ⟨_, hk, fun k => rfl⟩
  · exact ⟨_, hk, fun k => rfl⟩
  · cases hk

theorem opP_nat {o : Op} {ρ : Operand → V} {k0 : V → Option R} {r : R} (hk : opP tt o ρ k0 = some r) :
    ∃ v, k0 v = some r ∧ ∀ k : V → Option R, opP tt o ρ k = k v := by
  cases o <;> simp only [opP] at hk ⊢ <;> try (first | cases hk)
  case move x => exact ⟨_, hk, fun k => rfl⟩
  case assign x => exact ⟨_, hk, fun k => rfl⟩
  case pick c a b =>
    split at hk
    · rename_i t ht
      split at hk
      · rename_i u v hu hv
        exact ⟨_, hk, fun k => by simp [ht, hu, hv]⟩
      · rename_i u v hn
        refine ⟨bif t then ρ a else ρ b, by cases t <;> exact hk, fun k => ?_⟩
        cases t <;> rfl
    · cases hk
  case nilCheck x =>
    split at hk <;> first | (exact ⟨_, hk, fun k => by simp [*]⟩) | cases hk
  case binOp op t x y _ =>
    split at hk
    · split at hk
      · obtain ⟨v, h1, h2⟩ := binK_nat hk
        exact ⟨v, h1, fun k => by simp [*]⟩
      · cases hk
    · split at hk
      · obtain ⟨v, h1, h2⟩ := binK_nat hk
        exact ⟨v, h1, fun k => by simp [*]⟩
      · cases hk
    · obtain ⟨v, h1, h2⟩ := binK_nat hk
      exact ⟨v, h1, fun k => by simp [*]⟩
    · obtain ⟨v, h1, h2⟩ := binK_nat hk
      exact ⟨v, h1, fun k => by simp [*]⟩
    · rename_i n1 n2 n3 n4
      split at hk
      · rename_i hd
        obtain ⟨v, h1, h2⟩ := ptrK_nat hk
        exact ⟨v, h1, fun k => by simp [*]⟩
      · rename_i hd
        obtain ⟨v, h1, h2⟩ := slK_nat hk
        exact ⟨v, h1, fun k => by simp [*]⟩
      · cases hk
  case unOp op _ x =>
    split at hk <;> first | (exact ⟨_, hk, fun k => by simp [*]⟩) | cases hk
  case convert s d x =>
    split at hk
    · cases hk
    · split at hk
      · exact ⟨_, hk, fun k => by simp [*]⟩
      · split at hk
        · exact ⟨_, hk, fun k => by simp [*]⟩
        · cases hk
      · cases hk
  case fieldAddr s x f =>
    split at hk <;> try (first | cases hk)
    split at hk <;> try (first | cases hk)
    split at hk <;> try (first | cases hk)
    split at hk <;> first | (exact ⟨_, hk, fun k => by simp_all⟩) | cases hk
  case field s x f =>
    split at hk <;> try (first | cases hk)
    split at hk <;> try (first | cases hk)
    obtain ⟨v, h1, h2⟩ := partK_nat hk
    exact ⟨v, h1, fun k => by simp [*]⟩
  case indexAddr t x i =>
    unfold idxOf at hk ⊢
    split at hk <;> try (first | cases hk)
    split at hk <;> try (first | cases hk)
    · split at hk <;> try (first | cases hk)
      obtain ⟨hb, hk⟩ := chk_some hk
      exact ⟨_, hk, fun k => by simp_all [chk]⟩
    · split at hk <;> try (first | cases hk)
      obtain ⟨hb, hk⟩ := chk_some hk
      exact ⟨_, hk, fun k => by simp_all [chk]⟩
  case index t x i =>
    unfold idxOf at hk ⊢
    split at hk <;> try (first | cases hk)
    split at hk <;> try (first | cases hk)
    · obtain ⟨hb, hk⟩ := chk_some hk
      exact ⟨_, hk, fun k => by simp_all [chk]⟩
    · obtain ⟨hb, hk⟩ := chk_some hk
      obtain ⟨v, h1, h2⟩ := partK_nat hk
      exact ⟨v, h1, fun k => by simp_all [chk]⟩
  case slice t x lo hi mx =>
    split at hk <;> try (first | cases hk)
    split at hk <;> try (first | cases hk)
    · rename_i hd hx
      obtain ⟨n, hk, e1⟩ := optI_nat hk
      obtain ⟨m, hk, e2⟩ := optI_nat hk
      obtain ⟨hb, hk⟩ := chk_some hk
      obtain ⟨hb2, hk⟩ := chk_some hk
      exact ⟨_, hk, fun k => by simp only [hd, hx, e1, e2, hb, hb2, chk, cond_true]⟩
    · rename_i hd hx
      split at hk <;> try (first | cases hk)
      rename_i hc
      obtain ⟨n, hk, e1⟩ := optI_nat hk
      split at hk
      · obtain ⟨hb, hk⟩ := chk_some hk
        exact ⟨_, hk, fun k => by simp only [hd, hx, hc, e1, hb, chk, cond_true, if_true]⟩
      · obtain ⟨m, hk, e2⟩ := optI_nat hk
        obtain ⟨hb, hk⟩ := chk_some hk
        obtain ⟨hb2, hk⟩ := chk_some hk
        exact ⟨_, hk, fun k => by simp only [hd, hx, hc, e1, e2, hb, hb2, chk, cond_true, if_true]⟩
    · rename_i hd hx
      split at hk <;> try (first | cases hk)
      rename_i hc
      obtain ⟨n, hk, e1⟩ := optI_nat hk
      obtain ⟨m, hk, e2⟩ := optI_nat hk
      obtain ⟨hb, hk⟩ := chk_some hk
      exact ⟨_, hk, fun k => by rw [if_neg hc]; simp only [e1, e2, hb, chk, cond_true]⟩
  case makeFunc f first cap =>
    cases f <;> simp only at hk ⊢ <;> first | (exact ⟨_, hk, fun k => rfl⟩) | cases hk
  case extract t i =>
    split at hk <;> try (first | cases hk)
    split at hk <;> try (first | cases hk)
    exact ⟨_, hk, fun k => by simp [*]⟩
  case build t parts =>
    split at hk <;> try (first | cases hk)
    all_goals
      rename_i hd
      split at hk <;> try (first | cases hk)
      rename_i hc
      split at hk <;> try (first | cases hk)
      rename_i hf
      exact ⟨_, hk, fun k => by rw [if_neg hc]⟩
  case call c =>
    split at hk <;> try (first | cases hk)
    · split at hk <;> try (first | cases hk)
      split at hk <;> try (first | cases hk)
      all_goals exact ⟨_, hk, fun k => by simp [*]⟩
    · split at hk <;> try (first | cases hk)
      split at hk <;> try (first | cases hk)
      exact ⟨_, hk, fun k => by simp [*]⟩
    · split at hk <;> try (first | cases hk)
      split at hk <;> try (first | cases hk)
      exact ⟨_, hk, fun k => by simp [*]⟩

theorem opR_nat {o : Op} {ρ : Operand → V} {lim : Option Nat} {k0 : V → Option R} {r : R} (hk : opR tt o ρ h lim k0 = some r) :
    ∃ v, k0 v = some r ∧ ∀ (h2 : Heap), (∀ i, limOk lim i = true → h2.at i = h.at i) → ∀ k : V → Option R, opR tt o ρ h2 lim k = k v := by
  cases o <;> simp only [opR] at hk ⊢ <;> try (first | cases hk)
  case load t x =>
    split at hk <;> try (first | cases hk)
    · split at hk <;> try (first | cases hk)
      rename_i hl
      split at hk <;> try (first | cases hk)
      rename_i hc
      obtain ⟨v, h1, h2⟩ := partK_nat hk
      exact ⟨v, h1, fun hh e k => by simp only [*, if_true]⟩
    · obtain ⟨v, h1, h2⟩ := partK_nat hk
      exact ⟨v, h1, fun hh e k => by simp only [*]⟩
    · split at hk <;> try (first | cases hk)
      rename_i hl
      split at hk <;> try (first | cases hk)
      rename_i T l hc
      split at hk <;> try (first | cases hk)
      rename_i hs
      obtain ⟨hb, hk⟩ := chk_some hk
      obtain ⟨v, h1, h2⟩ := partK_nat hk
      exact ⟨v, h1, fun hh e k => by simp only [*, if_true, chk, cond_true]⟩
  case convert s d x =>
    split at hk <;> try (first | cases hk)
    · rename_i e i n h1 h2 h3
      split at hk <;> try (first | cases hk)
      rename_i hl
      split at hk <;> try (first | cases hk)
      rename_i h4 h5
      exact ⟨_, hk, fun hh e k => by simp only [*, if_true]⟩
    · rename_i h1 h2 h3
      split at hk <;> try (first | cases hk)
      · rename_i h4
        exact ⟨_, hk, fun hh e k => by simp only [*]⟩
      · rename_i h4
        obtain ⟨hb, hk⟩ := chk_some hk
        exact ⟨_, hk, fun hh e k => by simp only [*, chk, cond_true]⟩

theorem opA_nat {o : Op} {ρ : Operand → V} {k0 : AObj → (Nat → V) → Option R} {r : R} (hk : opA tt o ρ k0 = some r) :
    ∃ ob mk, k0 ob mk = some r ∧ ∀ k : AObj → (Nat → V) → Option R, opA tt o ρ k = k ob mk := by
  cases o <;> simp only [opA] at hk ⊢ <;> try (first | cases hk)
  case alloc t =>
    split at hk <;> try (first | cases hk)
    exact ⟨_, _, hk, fun k => by simp [*]⟩
  case box t x =>
    split at hk <;> try (first | cases hk)
    split at hk <;> try (first | cases hk)
    exact ⟨_, _, hk, fun k => by simp only [*, if_true]⟩
  case buildSlice t len parts =>
    split at hk <;> try (first | cases hk)
    split at hk <;> try (first | cases hk)
    rename_i hc
    split at hk <;> try (first | cases hk)
    · rename_i h1 h2
      split at hk <;> try (first | cases hk)
      rename_i h3
      split at hk
      · exact ⟨_, _, hk, fun k => by simp only [*, if_true, if_false]; rfl⟩
      split at hk
      · exact ⟨_, _, hk, fun k => by simp only [*, if_true, if_false]; rfl⟩
      · exact ⟨_, _, hk, fun k => by simp only [*, if_true, if_false]; rfl⟩
    · exact ⟨_, _, hk, fun k => by simp only [*, if_true, if_false]; rfl⟩
  case makeSlice t n c =>
    split at hk <;> try (first | cases hk)
    split at hk <;> try (first | cases hk)
    split at hk <;> try (first | cases hk)
    split at hk <;> try (first | cases hk)
    rename_i h3
    obtain ⟨hb, hk⟩ := chk_some hk
    exact ⟨_, _, hk, fun k => by simp only [*, if_true, chk, cond_true]⟩
  case convert s d x =>
    split at hk <;> try (first | cases hk)
    split at hk <;> try (first | cases hk)
    exact ⟨_, _, hk, fun k => by simp [*]⟩
  case range t x =>
    split at hk <;> try (first | cases hk)
    exact ⟨_, _, hk, fun k => by simp [*]⟩

/-! ### what it asks -/
theorem mapF {β : Type} {ρ ρ' : Operand → V} (f : Nat → V → β) (ps : List (Nat × Operand)) (h : ∀ x ∈ ps.map (·.2), ρ x = ρ' x) :
    (ps.map fun (i, x) => f i (ρ x)) = (ps.map fun (i, x) => f i (ρ' x)) :=
  List.map_congr_left fun p hm => by
    obtain ⟨i, x⟩ := p
    simp only [h x (List.mem_map.2 ⟨(i, x), hm, rfl⟩)]

theorem opP_congr {o : Op} {ρ ρ' : Operand → V} (h : ∀ x ∈ o.operands, ρ x = ρ' x) {k : V → Option R} : opP tt o ρ k = opP tt o ρ' k := by
  cases o <;> simp only [Op.operands] at h <;> simp only [opP]
  case build t ps =>
    have hp : ∀ x ∈ ps.toList.map (·.2), ρ x = ρ' x := fun x hx => h x (by simpa using hx)
    split
    · rename_i fs hd
      rw [mapF (fun i v => ((fs.getD i (0, 0)).1, if i < fs.length then (tt.at (fs.getD i (0, 0)).2).size else 1000000, v)) ps.toList hp]
    · rename_i e hd
      rw [mapF (fun i v => (i * (tt.at e).size, (tt.at e).size, v)) ps.toList hp]
    · rfl
  case makeFunc f first cap =>
    cases f <;> simp only
    rw [List.map_congr_left (l := first.toList) (g := ρ') fun x hx => h x (by simp at hx ⊢; exact .inl hx), List.map_congr_left (l := cap.toList) (g := ρ') fun x hx => h x (by simp at hx ⊢; exact .inr hx)]
  case slice t x lo hi mx => cases lo <;> cases hi <;> cases mx <;> simp_all
  case call c =>
    obtain ⟨callee, args, argTypes⟩ := c
    have ha : ∀ x ∈ args.toList, ρ x = ρ' x := fun x hx => h x (by simp [Call.operands] at hx ⊢; exact .inr hx)
    simp only
    split
    · rename_i x e; rw [ha x (by rw [e]; simp)]
    · rename_i x y e; rw [ha x (by rw [e]; simp), ha y (by rw [e]; simp)]
    · rename_i x y e; rw [ha x (by rw [e]; simp), ha y (by rw [e]; simp)]
    · rfl
  all_goals (first | rfl | (simp_all; done))

theorem opR_congr {o : Op} {ρ ρ' : Operand → V} (h' : ∀ x ∈ o.operands, ρ x = ρ' x) {lim : Option Nat} {k : V → Option R} : opR tt o ρ h lim k = opR tt o ρ' h lim k := by
  cases o <;> simp only [Op.operands] at h' <;> simp only [opR]
  all_goals (first | rfl | (simp_all; done))

theorem opA_congr {o : Op} {ρ ρ' : Operand → V} (h' : ∀ x ∈ o.operands, ρ x = ρ' x) {k : AObj → (Nat → V) → Option R} : opA tt o ρ k = opA tt o ρ' k := by
  cases o <;> simp only [Op.operands] at h' <;> simp only [opA]
  case buildSlice t len ps =>
    have hp : ∀ x ∈ ps.toList.map (·.2), ρ x = ρ' x := fun x hx => h' x (by simpa using hx)
    split
    · rename_i e hd
      rw [mapF (fun i v => (i * (tt.at e).size, (tt.at e).size, v)) ps.toList hp]
    · rfl
  all_goals (first | rfl | (simp_all; done))

theorem opW_congr {o : Op} {ρ ρ' : Operand → V} (h' : ∀ x ∈ o.operands, ρ x = ρ' x) {id : Nat} {k : V → Heap → Option R} : opW tt o ρ h id k = opW tt o ρ' h id k := by
  cases o <;> simp only [Op.operands] at h' <;> simp only [opW]
  case call c =>
    obtain ⟨callee, args, argTypes⟩ := c
    have ha : ∀ x ∈ args.toList, ρ x = ρ' x := fun x hx => h' x (by simp [Call.operands] at hx ⊢; exact .inr hx)
    simp only
    split
    · rename_i x y t xt e et; rw [ha x (by rw [e]; simp), ha y (by rw [e]; simp)]
    · rfl
  all_goals (first | rfl | (simp_all; done))
end
end Go.Yard
