/-
  FieldTells: for every input whose bulk is at most 1048576 the law returns true, and each argument reads behind the call as it read before; part 7 of 9 of the proof: an interpreter of the model's code over typed data, proved sound; the functions that the law reaches, printed as Lean functions and tied; the plain law. Own texts laid one behind the other.
-/
import Derived.Test.YtcocpfgemdkkfaaFieldTellsB6
/-
  What FieldMakes computes: true. Plain Lean over the printed functions. Own work.
-/
set_option linter.unusedVariables false
namespace Go.Proofs.Ytcocpfgemdkkfaa
open Go Go.Yard

/-! ### put together -/
def mk : List Str → List Json → List Str → List Json → List Str × List Json
  | n :: ns, x :: xs, a, b => if a.contains n then mk ns xs a b else mk ns xs (a ++ [n]) (b ++ [x])
  | [], _, a, b => (a, b)
  | _ :: _, [], a, b => (a, b)

theorem mk_len : ∀ (ns : List Str) (xs : List Json) (a : List Str) (b : List Json), a.length = b.length → (mk ns xs a b).1.length = (mk ns xs a b).2.length ∧ (mk ns xs a b).1.length ≤ a.length + ns.length
  | [], _, a, b, h => ⟨h, by simp [mk]⟩
  | _ :: _, [], a, b, h => ⟨h, by simp [mk]⟩
  | n :: ns, x :: xs, a, b, h => by
    simp only [mk]
    split
    · have := mk_len ns xs a b h
      exact ⟨this.1, by have := this.2; simp; omega⟩
    · have := mk_len ns xs (a ++ [n]) (b ++ [x]) (by simp [h])
      exact ⟨this.1, by have := this.2; simp at this ⊢; omega⟩

theorem mk_mem : ∀ (ns : List Str) (xs : List Json) (a : List Str) (b : List Json), (∀ s ∈ (mk ns xs a b).1, s ∈ a ∨ s ∈ ns) ∧ ∀ y ∈ (mk ns xs a b).2, y ∈ b ∨ y ∈ xs
  | [], _, a, b => ⟨fun s h => .inl h, fun y h => .inl h⟩
  | _ :: _, [], a, b => ⟨fun s h => .inl h, fun y h => .inl h⟩
  | n :: ns, x :: xs, a, b => by
    simp only [mk]
    split
    · obtain ⟨h1, h2⟩ := mk_mem ns xs a b
      exact ⟨fun s h => (h1 s h).imp id (List.mem_cons_of_mem _), fun y h => (h2 y h).imp id (List.mem_cons_of_mem _)⟩
    · obtain ⟨h1, h2⟩ := mk_mem ns xs (a ++ [n]) (b ++ [x])
      refine ⟨fun s h => ?_, fun y h => ?_⟩
      · rcases h1 s h with h | h
        · rcases List.mem_append.1 h with h | h
          · exact .inl h
          · simp at h; subst h; exact .inr (by simp)
        · exact .inr (List.mem_cons_of_mem _ h)
      · rcases h2 y h with h | h
        · rcases List.mem_append.1 h with h | h
          · exact .inl h
          · simp at h; subst h; exact .inr (by simp)
        · exact .inr (List.mem_cons_of_mem _ h)

theorem look_append (s n : Str) (x : Json) : ∀ (a : List Str) (b : List Json), a.length = b.length → look s (a ++ [n]) (b ++ [x]) = (look s a b).or (if s == n then some x else none)
  | [], [], _ => by simp [look]
  | p :: a, y :: b, h => by
    simp only [List.cons_append, look]
    cases (s == p) with
    | true => simp
    | false => simpa using look_append s n x a b (by simpa using h)

theorem look_has (s : Str) : ∀ (a : List Str) (b : List Json), a.length = b.length → (look s a b).isSome = a.contains s
  | [], [], _ => rfl
  | p :: a, y :: b, h => by
    simp only [look, List.contains_cons]
    cases hq : (s == p) with
    | true => simp
    | false => simpa using look_has s a b (by simpa using h)

theorem look_mk (s : Str) : ∀ (ns : List Str) (xs : List Json) (a : List Str) (b : List Json), a.length = b.length → look s (mk ns xs a b).1 (mk ns xs a b).2 = (look s a b).or (look s ns xs)
  | [], xs, a, b, h => by simp [mk, look]
  | _ :: _, [], a, b, h => by simp [mk, look]
  | n :: ns, x :: xs, a, b, h => by
    simp only [mk]
    split
    · rename_i hc
      rw [look_mk s ns xs a b h]
      simp only [look]
      cases hq : (s == n) with
      | false => simp
      | true =>
        have e : s = n := by simpa using hq
        have := look_has s a b h
        rw [e, hc, Option.isSome_iff_exists] at this
        obtain ⟨y, hy⟩ := this
        rw [e, hy]
        simp
    · rename_i hc
      rw [look_mk s ns xs (a ++ [n]) (b ++ [x]) (by simp [h]), look_append s n x a b h]
      simp only [look]
      cases hq : (s == n) with
      | false => simp
      | true => cases look s a b <;> simp

theorem make_loop {R : Type} (ns : List Str) (xs : List Json) (hx : xs.length ≤ ns.length) (hn : ns.length ≤ 1048576) (hj : ∀ y ∈ xs, JOk y) (p q r : Int) (t : Str) (a b c : Int) (u : Str)
    (e0 : Int → Int → Int → Str → Int → Int → Int → Str → List Str → List Json → Option R) : ∀ (n i : Nat) (l : List Str) (m : List Json), i ≤ xs.length → xs.length - i < n → l.length = m.length → l.length ≤ i →
    field_Make_3_0_L n ns xs (xs.length : Int) (i : Int) p q r t a b c u l m e0 = e0 p q r t a b c u (mk (ns.drop i) (xs.drop i) l m).1 (mk (ns.drop i) (xs.drop i) l m).2 := by
  intro n
  induction n with
  | zero => intro i l m _ h; omega
  | succ n ih =>
    intro i l m hi hni hlm hli
    show field_Make_3_0_B slices_Contains_stringstring field_fresh (fun x1 x2 x3 x4 x5 x6 x7 x8 x9 x10 x11 x12 x13 x14 => field_Make_3_0_L n x1 x2 x3 x4 x5 x6 x7 x8 x9 x10 x11 x12 x13 x14 e0) _ _ _ _ _ _ _ _ _ _ _ _ _ _ e0 = _
    unfold field_Make_3_0_B
    by_cases h : i < xs.length
    · have h1 : decide ((i : Int) < (xs.length : Int)) = true := by simp; omega
      have h2 : (decide ((0 : Int) ≤ (i : Int)) && true) = true := by simp
      have h2' : (decide ((0 : Int) ≤ (i : Int)) && decide ((i : Int) < ns.length)) = true := by simp; omega
      have hw : IntKind.i64.wrap ((i : Int) + 1) = ((i + 1 : Nat) : Int) := by rw [wrap_id (by omega) (by omega)]; omega
      have hg : xs.getD (i : Int).toNat (Ty.dflt .json) = xs[i] := getD_at h _
      have hg' : ns.getD (i : Int).toNat (Ty.dflt .str) = ns[i] := getD_at (by omega) _
      have hr1 : decide ((l.length + 1) * 16 ≤ 140737488355328) = true := by simp; omega
      have hr2 : decide ((m.length + 1) * 88 ≤ 140737488355328) = true := by simp; omega
      rw [h1, cond_true, chk_pos h2, chk_pos h2', hg, hg', contains_eq l (by omega), Json.eta, hw]
      rw [List.drop_eq_getElem_cons h, List.drop_eq_getElem_cons (show i < ns.length by omega)]
      simp only [mk]
      cases hc : l.contains ns[i] with
      | true =>
        simp only [Bool.not_true, cond_false, if_true]
        exact ih (i + 1) l m (by omega) (by omega) hlm (by omega)
      | false =>
        simp only [Bool.not_false, cond_true, Bool.false_eq_true, if_false]
        rw [chk_pos h2', chk_pos hr1, fresh_eq _ (hj _ (List.getElem_mem h)), chk_pos hr2, Json.eta]
        exact ih (i + 1) (l ++ [ns[i]]) (m ++ [xs[i]]) (by omega) (by omega) (by simp [hlm]) (by first | omega | (simp; done) | (simp; omega))
    · have h1 : decide ((i : Int) < (xs.length : Int)) = false := by simp; omega
      rw [h1, cond_false, List.drop_eq_nil_of_le (show xs.length ≤ i by omega)]
      have : ∀ ns : List Str, mk ns [] l m = (l, m) := fun ns => by cases ns <;> rfl
      rw [this]

theorem make_eq {R : Type} (ns : List Str) (xs : List Json) (hn : ns.length ≤ 1048576) (hj : ∀ y ∈ xs, JOk y) (k : Json → Option R) :
    field_Make ns xs k = k ⟨7, ⟨0, 0⟩, [], (mk ns xs [] []).1, (mk ns xs [] []).2⟩ := by
  unfold field_Make field_Make_X
  have hm : (min (xs.length : Int) (ns.length : Int)).toNat - 0 = min xs.length ns.length := by omega
  rw [chk_pos (by first | omega | (simp; done) | (simp; omega)), chk_pos (by first | omega | (simp; done) | (simp; omega)), hm, List.drop_zero]
  have hl : (xs.take (min xs.length ns.length)).length = min xs.length ns.length := by simp
  refine (make_loop ns (xs.take (min xs.length ns.length)) (by rw [hl]; omega) hn (fun y hy => hj y (List.mem_of_mem_take hy)) 0 0 0 [] 7 0 0 [] _ _ 0 [] [] (by omega) (by first | omega | (simp; done) | (simp; omega)) rfl (by simp)).trans ?_
  have key : ∀ (ns : List Str) (xs : List Json) (a : List Str) (b : List Json), mk ns (xs.take (min xs.length ns.length)) a b = mk ns xs a b := by
    intro ns
    induction ns with
    | nil => intro xs a b; cases xs <;> simp [mk]
    | cons n ns ih =>
      intro xs a b
      cases xs with
      | nil => simp
      | cons x xs =>
        have : min (x :: xs).length (n :: ns).length = min xs.length ns.length + 1 := by simp only [List.length_cons]; omega
        rw [this, List.take_succ_cons]
        simp only [mk, ih]
  simp only [List.drop_zero, key]

theorem get_eq {R : Type} (v : Json) (hv : JOk v) (s : Str) (k : Json → Bool → Option R) :
    field_Get v s k = match (if v.kind = 7 then look s v.names v.items else none) with | some x => k x true | none => k zeroJ false := by
  unfold field_Get field_Get_X field_of_Json_ebf4 field_of_Json_ebf4_X field_Get_1 field_Get_1_X
  simp only [Json.eta]
  rw [find_eq v hv]
  generalize hq : (if v.kind = 7 then look s v.names v.items else none) = q
  cases q with
  | some x =>
    have hmem : JOk x := by
      split at hq
      · rw [look_index] at hq
        cases hp : v.names.findIdx? (s == ·) with
        | none => rw [hp] at hq; cases hq
        | some j =>
          rw [hp] at hq
          exact hv.item (List.mem_of_getElem? hq)
      · cases hq
    simp only [Bool.not_true, cond_false]
    rw [fresh_eq x hmem]
    rfl
  | none => rfl

/-! ### the statement -/
theorem bcomm (a b : Str) : (a == b) = (b == a) := by
  by_cases h : a = b
  · rw [h]
  · have h1 : (a == b) = false := by simpa using h
    have h2 : (b == a) = false := by simpa using fun e : b = a => h e.symm
    rw [h1, h2]

theorem makes_fit {R : Type} (ns : List Str) (l : List Raw) (hl : l.length ≤ 1048576) (hr : ∀ x ∈ l, RawOk x) (o : Str) (b : Bool) : ∀ (n i : Nat) (xs : List Json), i ≤ l.length → i ≤ 12 → l.length - i < n → xs.length ≤ i → (∀ y ∈ xs, JOk y) →
    ∃ xs' : List Json, xs'.length ≤ 12 ∧ (∀ y ∈ xs', JOk y) ∧ ∀ e0 : List Str → Str → Bool → List Json → Option R, law05_FieldMakes_4_0_L n ns l o b xs (i : Int) e0 = e0 ns o b xs' := by
  intro n
  induction n with
  | zero => intro i xs _ _ h; omega
  | succ n ih =>
    intro i xs hi h12 hn hx hxs
    by_cases h : i < l.length ∧ i < 12
    · obtain ⟨h, h2⟩ := h
      have c1 : decide ((i : Int) < (l.length : Int)) = true := by simp; omega
      have c2 : decide ((i : Int) < (12 : Int)) = true := by simp; omega
      have c3 : (decide ((0 : Int) ≤ (i : Int)) && true) = true := by simp
      have hw : IntKind.i64.wrap ((i : Int) + 1) = ((i + 1 : Nat) : Int) := by rw [wrap_id (by omega) (by omega)]; omega
      have hg : l.getD (i : Int).toNat (Ty.dflt .raw) = l[i] := getD_at h _
      obtain ⟨j, hj1, hj2⟩ := fit_eq (R := R) l[i] (hr _ (List.getElem_mem h)) 2 (by decide) (by decide)
      obtain ⟨xs', g1, g2, g3⟩ := ih (i + 1) (xs ++ [j]) (by omega) (by omega) (by omega) (by first | omega | (simp; done) | (simp; omega)) (fun y hy => by
        rcases List.mem_append.1 hy with hy | hy
        · exact hxs y hy
        · simp at hy; subst hy; exact hj1)
      refine ⟨xs', g1, g2, fun e0 => ?_⟩
      rw [← g3 e0]
      show law05_FieldMakes_4_0_B law04_Fit (fun a1 a2 a3 a4 a5 a6 => law05_FieldMakes_4_0_L n a1 a2 a3 a4 a5 a6 e0) _ _ _ _ _ _ e0 = _
      unfold law05_FieldMakes_4_0_B
      simp only [c1, c2, cond_true, hg, hw, Raw.eta, Json.eta]
      rw [chk_pos c3, hj2, chk_pos (by first | omega | (simp; done) | (simp; omega))]
    · refine ⟨xs, by omega, hxs, fun e0 => ?_⟩
      show law05_FieldMakes_4_0_B law04_Fit _ _ _ _ _ _ _ e0 = _
      unfold law05_FieldMakes_4_0_B
      by_cases h1 : i < l.length
      · have c1 : decide ((i : Int) < (l.length : Int)) = true := by simp; omega
        have c2 : decide ((i : Int) < (12 : Int)) = false := by simp; omega
        simp only [c1, c2, cond_true, cond_false]
      · have c1 : decide ((i : Int) < (l.length : Int)) = false := by simp; omega
        simp only [c1, cond_false]

theorem makes_first {R : Type} (ns : List Str) (hn : ns.length ≤ 1048576) (o : Str) (b : Bool) (xs : List Json) (m : Int) (q : Bool) (i : Nat) (hi : i < ns.length) (v : Json)
    (e0 : List Str → Str → Bool → List Json → Int → Bool → Int → Int → Json → Option R) : ∀ (k n : Nat) (f : Int), k ≤ ns.length → k < n →
    law05_FieldMakes_16_0_L n ns o b xs m q (i : Int) f ((k : Int) - 1) v e0 = e0 ns o b xs m q (i : Int) (match (ns.take k).findIdx? (ns[i] == ·) with | some j => (j : Int) | none => f) v := by
  intro k
  induction k with
  | zero =>
    intro n f _ hn
    cases n with
    | zero => omega
    | succ n =>
      show law05_FieldMakes_16_0_B _ _ _ _ _ _ _ _ _ _ _ e0 = _
      unfold law05_FieldMakes_16_0_B
      simp only [Json.eta]
      rfl
  | succ k ih =>
    intro n f hk hkn
    cases n with
    | zero => omega
    | succ n =>
      show law05_FieldMakes_16_0_B (fun a1 a2 a3 a4 a5 a6 a7 a8 a9 a10 => law05_FieldMakes_16_0_L n a1 a2 a3 a4 a5 a6 a7 a8 a9 a10 e0) _ _ _ _ _ _ _ _ _ _ e0 = _
      unfold law05_FieldMakes_16_0_B
      have h0 : ((k + 1 : Nat) : Int) - 1 = (k : Int) := by omega
      rw [h0]
      have c1 : decide ((k : Int) ≥ (0 : Int)) = true := by simp
      have c2 : (true && decide ((k : Int) < ns.length)) = true := by simp; omega
      have c3 : (decide ((0 : Int) ≤ (i : Int)) && decide ((i : Int) < ns.length)) = true := by simp; omega
      have hw : IntKind.i64.wrap ((k : Int) - 1) = (k : Int) - 1 := wrap_id (by omega) (by omega)
      have hg : ns.getD (k : Int).toNat (Ty.dflt .str) = ns[k] := getD_at (by omega) _
      have hg' : ns.getD (i : Int).toNat (Ty.dflt .str) = ns[i] := getD_at hi _
      have e1 := fun w => ih n w (by omega) (by omega)
      have hge : ((k : Int) ≥ 0) := by omega
      rw [c1, cond_true]
      have c2' : (decide ((0 : Int) ≤ (k : Int)) && decide ((k : Int) < ns.length)) = true := by simp; omega
      first | rw [chk_pos c2', chk_pos c3] | rw [chk_pos c2, chk_pos c3]
      simp only [hw, hg, hg', Json.eta, e1]
      have ht : ns.take (k + 1) = ns.take k ++ [ns[k]] := by rw [List.take_add_one]; simp [show k < ns.length by omega]
      rw [ht, List.findIdx?_append]
      cases hq : (ns.take k).findIdx? (ns[i] == ·) with
      | some j => cases (ns[k] == ns[i]) <;> simp
      | none =>
        rw [bcomm ns[k] ns[i]]
        cases hf : (ns[i] == ns[k]) with
        | true => simp [hf, Nat.min_eq_left (show k ≤ ns.length by omega)]
        | false => simp [hf]

theorem first_le (s : Str) (ns : List Str) (i : Nat) (hi : i < ns.length) (hs : ns[i] = s) : ∃ j, j ≤ i ∧ (ns.take (i + 1)).findIdx? (s == ·) = some j ∧ ns.findIdx? (s == ·) = some j := by
  have ht : ns = ns.take (i + 1) ++ ns.drop (i + 1) := (List.take_append_drop _ _).symm
  cases hq : (ns.take (i + 1)).findIdx? (s == ·) with
  | none =>
    rw [List.findIdx?_eq_none_iff] at hq
    have := hq ns[i] (by rw [List.mem_take_iff_getElem]; exact ⟨i, by omega, rfl⟩)
    rw [hs] at this
    simp at this
  | some j =>
    refine ⟨j, ?_, rfl, ?_⟩
    · obtain ⟨hj, _, _⟩ := List.findIdx?_eq_some_iff_getElem.1 hq
      simp at hj; omega
    · conv => lhs; rw [ht]
      rw [List.findIdx?_append, hq]
      rfl

theorem makes_loop {R : Type} (ns : List Str) (hn : ns.length ≤ 1048576) (o : Str) (xs : List Json) (hxs : ∀ y ∈ xs, JOk y) (v : Json) (hv : JOk v) (h7 : v.kind = 7) (hlook : ∀ s, look s v.names v.items = look s ns xs) (m : Nat) (hm1 : m ≤ ns.length) (hm2 : m ≤ xs.length)
    (e0 : Str → Bool → Bool → Json → Option R) (e1 : Str → Bool → Bool → Bool → Json → Option R) : ∀ (n i : Nat) (q : Bool), i ≤ m → m - i < n →
    law05_FieldMakes_11_0_L n ns o true xs (m : Int) q (i : Int) v e0 e1 = e0 o true (q || ((ns.take m).drop i).contains o) v := by
  intro n
  induction n with
  | zero => intro i q _ h; omega
  | succ n ih =>
    intro i q hi hin
    show law05_FieldMakes_11_0_B field_Get ref04_Same law05_FieldMakes_16_0_L (fun a1 a2 a3 a4 a5 a6 a7 a8 => law05_FieldMakes_11_0_L n a1 a2 a3 a4 a5 a6 a7 a8 e0 e1) _ _ _ _ _ _ _ _ e0 e1 = _
    unfold law05_FieldMakes_11_0_B
    by_cases h : i < m
    · have c1 : decide ((i : Int) < (m : Int)) = true := by simp; omega
      have c2 : (decide ((0 : Int) ≤ (i : Int)) && decide ((i : Int) < ns.length)) = true := by simp; omega
      have hw : IntKind.i64.wrap ((i : Int) + 1) = ((i + 1 : Nat) : Int) := by rw [wrap_id (by omega) (by omega)]; omega
      have hg : ns.getD (i : Int).toNat (Ty.dflt .str) = ns[i] := getD_at (by omega) _
      obtain ⟨j, hj1, hj2, hj3⟩ := first_le ns[i] ns i (by omega) rfl
      have hjx : xs[j]? = some xs[j] := by simp [show j < xs.length by omega]
      have hl : (if v.kind = 7 then look ns[i] v.names v.items else none) = some xs[j] := by
        rw [if_pos h7, hlook, look_index, hj3]
        exact hjx
      have c4 : (decide ((0 : Int) ≤ (j : Int)) && decide ((j : Int) < xs.length)) = true := by simp; omega
      have hgj : xs.getD (j : Int).toNat (Ty.dflt .json) = xs[j] := getD_at (by omega) _
      have step : ∀ z : Bool, law05_FieldMakes_16_0_L (List.length ns + List.length o + List.length xs + Int.natAbs (m : Int) + Int.natAbs (i : Int) + Int.natAbs (i : Int) + Int.natAbs (i : Int) + Json.fu v + 3) ns o true xs (m : Int) z (i : Int) (i : Int) (i : Int) v
          (fun y39 y40 y41 y42 y43 y44 y45 y46 y47 => chk (decide ((0 : Int) ≤ y45) && decide (y45 < y39.length)) (field_Get y47 (y39.getD y45.toNat (Ty.dflt .str)) (fun y48 y49 => bif (!y49) then (e1 y40 false y41 y44 y47) else (chk (decide ((0 : Int) ≤ y46) && decide (y46 < y42.length)) (ref04_Same y48 (y42.getD y46.toNat (Ty.dflt .json)) (fun y50 => bif (!y50) then (e1 y40 false y41 y44 y47) else (law05_FieldMakes_11_0_L n y39 y40 y41 y42 y43 y44 (IntKind.i64.wrap (y45 + 1)) y47 e0 e1))))))) =
          e0 o true (z || ((ns.take m).drop (i + 1)).contains o) v := by
        intro z
        have hk : ((i + 1 : Nat) : Int) - 1 = (i : Int) := by omega
        have := makes_first (R := R) ns hn o true xs (m : Int) z i (by omega) v
          (fun y39 y40 y41 y42 y43 y44 y45 y46 y47 => chk (decide ((0 : Int) ≤ y45) && decide (y45 < y39.length)) (field_Get y47 (y39.getD y45.toNat (Ty.dflt .str)) (fun y48 y49 => bif (!y49) then (e1 y40 false y41 y44 y47) else (chk (decide ((0 : Int) ≤ y46) && decide (y46 < y42.length)) (ref04_Same y48 (y42.getD y46.toNat (Ty.dflt .json)) (fun y50 => bif (!y50) then (e1 y40 false y41 y44 y47) else (law05_FieldMakes_11_0_L n y39 y40 y41 y42 y43 y44 (IntKind.i64.wrap (y45 + 1)) y47 e0 e1)))))))
          (i + 1) (List.length ns + List.length o + List.length xs + Int.natAbs (m : Int) + Int.natAbs (i : Int) + Int.natAbs (i : Int) + Int.natAbs (i : Int) + Json.fu v + 3) (i : Int) (by omega) (by omega)
        rw [hk, hj2] at this
        refine this.trans ?_
        simp only [Json.eta]
        rw [chk_pos c2, hg, get_eq v hv, hl]
        simp only [Bool.not_true, cond_false]
        rw [chk_pos c4, hgj, same_refl _ (hxs _ (List.getElem_mem _))]
        simp only [Bool.not_true, cond_false, hw]
        exact ih (i + 1) z (by omega) (by omega)
      simp only [c1, cond_true, hg]
      have hd : (ns.take m).drop i = ns[i] :: (ns.take m).drop (i + 1) := by
        rw [List.drop_eq_getElem_cons (by first | omega | (simp; done) | (simp; omega))]
        simp
      rw [hd]
      cases q with
      | true =>
        simp only [cond_true, Bool.true_or, Json.eta]
        refine (step true).trans ?_
        simp
      | false =>
        simp only [cond_false, Json.eta]
        rw [chk_pos c2]
        refine (step _).trans ?_
        rw [List.contains_cons, bcomm o ns[i]]
        simp
    · have c1 : decide ((i : Int) < (m : Int)) = false := by simp; omega
      simp only [c1, cond_false, Json.eta]
      rw [List.drop_eq_nil_of_le (by first | omega | (simp; done) | (simp; omega))]
      simp

theorem look_some (s : Str) : ∀ (ns : List Str) (xs : List Json), (look s ns xs).isSome = (ns.take (min ns.length xs.length)).contains s
  | [], xs => by simp [look]
  | n :: ns, [] => by simp [look]
  | n :: ns, x :: xs => by
    have e : min (n :: ns).length (x :: xs).length = min ns.length xs.length + 1 := by simp only [List.length_cons]; omega
    rw [e, List.take_succ_cons, List.contains_cons]
    simp only [look]
    cases hq : (s == n) with
    | true => simp
    | false => simpa using look_some s ns xs

theorem law05_FieldMakes_true {R : Type} (ns : List Str) (l : List Raw) (o : Str) (hns : Small 1048576 (.sl .str ns .no)) (hl : Small 1048576 (.sl .raw l .no)) (ho : Small 1048576 (.str o)) (k : Bool → Option R) : law05_FieldMakes ns l o k = k true := by
  have hn : List.length (α := Str) ns ≤ 1048576 := hns.sl_inv.1
  have hr : ∀ x ∈ l, RawOk x := fun x hx => hl.sl_inv.2 x hx
  unfold law05_FieldMakes law05_FieldMakes_X
  rw [law05_awake_true]
  obtain ⟨xs, g1, g2, g3⟩ := makes_fit (R := R) ns l hl.sl_inv.1 hr o true (List.length ns + List.length l + List.length o + List.length ([] : List Json) + Int.natAbs 0 + 3) 0 [] (by omega) (by omega) (by omega) (by simp) (by simp)
  refine (g3 _).trans ?_
  rw [make_eq ns xs hn g2]
  have hml := mk_len ns xs [] [] rfl
  have hmm := mk_mem ns xs [] []
  have h2 : (mk ns xs [] []).1.length ≤ ns.length := by simpa using hml.2
  have h3 : (mk ns xs [] []).2.length = (mk ns xs [] []).1.length := hml.1.symm
  have hv : JOk ⟨7, ⟨0, 0⟩, [], (mk ns xs [] []).1, (mk ns xs [] []).2⟩ := by
    refine jok_mk ⟨by decide, by decide⟩ ⟨by decide, by decide⟩ ⟨by decide, by decide⟩ (by simp) (by omega) (fun s hs => ?_) (by omega) (fun y hy => ?_)
    · rcases hmm.1 s hs with h | h
      · cases h
      · exact (hns.sl_inv.2 s h (.str s) (by simp [Ty.cells])).str_inv
    · rcases hmm.2 y hy with h | h
      · cases h
      · exact g2 y h
  have hlook : ∀ s, look s (mk ns xs [] []).1 (mk ns xs [] []).2 = look s ns xs := fun s => by rw [look_mk s ns xs [] [] rfl]; simp [look]
  have hm : min (ns.length : Int) (xs.length : Int) = ((min ns.length xs.length : Nat) : Int) := by omega
  rw [hm]
  refine (makes_loop (R := R) ns hn o xs g2 _ hv rfl hlook (min ns.length xs.length) (by omega) (by omega) _ _ _ 0 false (by omega) (by omega)).trans ?_
  simp only [Json.eta]
  rw [get_eq _ hv]
  simp only [if_true, hlook, Bool.false_or, List.drop_zero]
  have hls := look_some o ns xs
  have c1 : (((mk ns xs [] []).1.length : Int) == ((mk ns xs [] []).2.length : Int)) = true := by simp [hml.1]
  cases hq : look o ns xs with
  | some x =>
    rw [hq] at hls
    simp only [cond_true, c1, ← hls]
    rfl
  | none =>
    rw [hq] at hls
    simp only [cond_true, c1, ← hls]
    rfl
end Go.Proofs.Ytcocpfgemdkkfaa

/-
  What field's Num, Text, Flag, List and Check compute. Plain Lean over the printed functions. Own work.
-/
set_option linter.unusedVariables false
namespace Go.Proofs.Ytcocpfgemdkkfaa
open Go Go.Yard

theorem JOk.kindI {x : Json} (h : JOk x) : I64 x.kind := i64_has.1 (h (.int .i64 x.kind) (by simp [Ty.cells])).int_inv
theorem JOk.mant {x : Json} (h : JOk x) : I64 x.num.mant := i64_has.1 (h (.int .i64 x.num.mant) (by simp [Ty.cells])).int_inv
theorem JOk.exp {x : Json} (h : JOk x) : I64 x.num.exp := i64_has.1 (h (.int .i64 x.num.exp) (by simp [Ty.cells])).int_inv

/-! ### whole numbers -/
def shiftN : Nat → Int → Option Int
  | 0, n => some n
  | k + 1, n => if -100000000000000000 ≤ n ∧ n ≤ 100000000000000000 then shiftN k (n * 10) else none

def rightB (d : Dcm) : Bool := if d.mant = 0 then decide (d.exp = 0) else (decide (Int.tmod d.mant 10 ≠ 0) && (decide (-1000000000000000 ≤ d.mant) && decide (d.mant ≤ 1000000000000000))) && (decide (-9 ≤ d.exp) && decide (d.exp ≤ 9))

def decInt (d : Dcm) : Option Int := if rightB d = true ∧ 0 ≤ d.exp then shiftN d.exp.toNat d.mant else none

theorem within_eq {R : Type} (a b c : Int) (k : Bool → Option R) : decimal_within_int a b c k = k (decide (a ≤ b) && decide (b ≤ c)) := by
  unfold decimal_within_int decimal_within_int_X
  cases decide (a ≤ b) <;> rfl

theorem right_eq {R : Type} (d : Dcm) (k : Bool → Option R) : decimal_Right d k = k (rightB d) := by
  unfold decimal_Right decimal_Right_X rightB
  simp only [within_eq]
  by_cases h : d.mant = 0
  · have h1 : (d.mant == 0) = true := by simpa using h
    rw [h1, cond_true, if_pos h]
    rfl
  · have h1 : (d.mant == 0) = false := by simpa using h
    rw [h1, cond_false, if_neg h]
    by_cases hq : Int.tmod d.mant 10 = 0
    · have h2 : (Int.tmod d.mant 10 != 0) = false := by simp [hq]
      rw [h2, cond_false]
      simp [hq]
    · have h2 : (Int.tmod d.mant 10 != 0) = true := by simp [hq]
      rw [h2, cond_true]
      cases hw : (decide (-1000000000000000 ≤ d.mant) && decide (d.mant ≤ 1000000000000000)) with
      | true => simp [hq]
      | false => simp [hq]

theorem shift_loop {R : Type} (e0 : Int → Option R) (e1 : Int → Bool → Int → Option R) (f : Int → Bool → Option R) (h1 : ∀ x, e1 0 false x = f 0 false) (h0 : ∀ x, e0 x = f x true) (m : Nat) (hm : m ≤ 9223372036854775806) :
    ∀ (n i : Nat) (x : Int), i ≤ m → m - i < n → -1000000000000000000 ≤ x → x ≤ 1000000000000000000 →
    decimal_shifted_3_0_L n x (m : Int) (i : Int) e0 e1 = match shiftN (m - i) x with | some y => f y true | none => f 0 false := by
  intro n
  induction n with
  | zero => intro i x _ h; omega
  | succ n ih =>
    intro i x hi hn hx1 hx2
    show decimal_shifted_3_0_B decimal_within_int (fun a b c => decimal_shifted_3_0_L n a b c e0 e1) _ _ _ e0 e1 = _
    unfold decimal_shifted_3_0_B
    by_cases h : i < m
    · have c1 : decide ((i : Int) < (m : Int)) = true := by simp; omega
      have hw : IntKind.i64.wrap ((i : Int) + 1) = ((i + 1 : Nat) : Int) := by rw [wrap_id (by omega) (by omega)]; omega
      have e : m - i = (m - (i + 1)) + 1 := by omega
      rw [c1, cond_true, within_eq, e]
      simp only [shiftN]
      by_cases hb : -100000000000000000 ≤ x ∧ x ≤ 100000000000000000
      · have hd : (decide (-100000000000000000 ≤ x) && decide (x ≤ 100000000000000000)) = true := by simp; exact hb
        rw [hd, if_pos hb]
        simp only [Bool.not_true, cond_false, hw]
        rw [wrap_id (by omega) (by omega)]
        exact ih (i + 1) (x * 10) (by omega) (by omega) (by omega) (by omega)
      · have hd : (decide (-100000000000000000 ≤ x) && decide (x ≤ 100000000000000000)) = false := by
          simp only [Bool.and_eq_false_imp, decide_eq_true_eq, decide_eq_false_iff_not]
          exact fun q1 q2 => hb ⟨q1, q2⟩
        rw [hd, if_neg hb]
        simp only [Bool.not_false, cond_true]
        exact h1 x
    · have c1 : decide ((i : Int) < (m : Int)) = false := by simp; omega
      have e : m - i = 0 := by omega
      rw [c1, cond_false, e]
      exact h0 x

theorem decInt_eq {R : Type} (d : Dcm) (k : Int → Bool → Option R) : decimal_Int d k = match decInt d with | some n => k n true | none => k 0 false := by
  unfold decimal_Int decimal_Int_X
  rw [right_eq]
  cases hr : rightB d with
  | false =>
    have : decInt d = none := by unfold decInt; rw [if_neg (by simp [hr])]
    rw [this]; rfl
  | true =>
    by_cases he : d.exp < 0
    · have : decInt d = none := by unfold decInt; rw [if_neg (by omega)]
      have c : decide (d.exp < (0 : Int)) = true := by simpa using he
      rw [this]
      simp only [Bool.not_true, cond_false, c, cond_true]
    · have c : decide (d.exp < (0 : Int)) = false := by simpa using he
      have hb : -1000000000000000 ≤ d.mant ∧ d.mant ≤ 1000000000000000 ∧ d.exp ≤ 9 := by
        unfold rightB at hr
        split at hr
        · simp at hr; omega
        · simp at hr; omega
      have e : decInt d = shiftN d.exp.toNat d.mant := by unfold decInt; rw [if_pos ⟨hr, by omega⟩]
      rw [e]
      simp only [Bool.not_true, cond_false, c]
      unfold decimal_shifted decimal_shifted_X
      rw [wrap_id (by omega) (by omega)]
      have ec : d.exp - 0 = ((d.exp.toNat : Nat) : Int) := by omega
      rw [ec]
      exact shift_loop _ _ (fun a b => k a b) (fun x => rfl) (fun x => rfl) d.exp.toNat (by omega) _ 0 d.mant (by omega) (by omega) (by omega) (by omega)

/-! ### what an item is -/
def numF (x : Json) : Option Int := if x.kind = 4 then decInt x.num else none

theorem num_eq {R : Type} (x : Json) (k : Int → Bool → Option R) : ∃ z : Int, field_num x k = match numF x with | some n => k n true | none => k z false := by
  unfold field_num field_num_X numF
  have eta : (⟨x.num.mant, x.num.exp⟩ : Dcm) = x.num := rfl
  simp only [decInt_eq]
  by_cases h : x.kind = 4
  · have h1 : (x.kind == 4) = true := by simpa using h
    refine ⟨0, ?_⟩
    rw [if_pos h]
    cases hd : decInt x.num with
    | some n => simp only [hd, cond_true, h1]
    | none => simp only [hd, cond_false]
  · have h1 : (x.kind == 4) = false := by simpa using h
    refine ⟨(decInt x.num).getD 0, ?_⟩
    rw [if_neg h]
    cases hd : decInt x.num with
    | some n => simp only [hd, cond_true, h1, Option.getD_some]
    | none => simp only [hd, cond_false, Option.getD_none]

def at7 (v : Json) (s : Str) : Option Json := if v.kind = 7 then look s v.names v.items else none

theorem at7_ok {v : Json} (hv : JOk v) {s : Str} {x : Json} (h : at7 v s = some x) : JOk x := by
  unfold at7 at h
  split at h
  · rw [look_index] at h
    cases hp : v.names.findIdx? (s == ·) with
    | none => rw [hp] at h; cases h
    | some j => rw [hp] at h; exact hv.item (List.mem_of_getElem? h)
  · cases h

theorem Num_eq {R : Type} (v : Json) (hv : JOk v) (s : Str) (k : Int → Bool → Option R) : field_Num v s k = match (at7 v s).bind numF with | some n => k n true | none => k 0 false := by
  unfold field_Num field_Num_X field_of_int_b5fb field_of_int_b5fb_X
  simp only [Json.eta]
  rw [find_eq v hv]
  show (match at7 v s with | some x => _ | none => _) = _
  cases at7 v s with
  | none => rfl
  | some x =>
    simp only [Bool.not_true, cond_false, Option.bind_some]
    obtain ⟨z, hz⟩ := num_eq x (fun y5 y6 => bif y6 then (k y5 true) else (k 0 false))
    refine hz.trans ?_
    cases numF x <;> rfl

def textF (x : Json) : Option Str := if x.kind = 5 then some x.text else none
theorem Text_eq {R : Type} (v : Json) (hv : JOk v) (s : Str) (k : Str → Bool → Option R) : field_Text v s k = match (at7 v s).bind textF with | some n => k n true | none => k [] false := by
  unfold field_Text field_Text_X field_of_string_d6f4 field_of_string_d6f4_X field_Text_1 field_Text_1_X
  simp only [Json.eta]
  rw [find_eq v hv]
  show (match at7 v s with | some x => _ | none => _) = _
  cases at7 v s with
  | none => rfl
  | some x =>
    simp only [Bool.not_true, cond_false, Option.bind_some, textF]
    by_cases h : x.kind = 5
    · have h1 : (x.kind == 5) = true := by simpa using h
      simp only [h1, cond_true, if_pos h]
    · have h1 : (x.kind == 5) = false := by simpa using h
      simp only [h1, cond_false, if_neg h]

def flagF (x : Json) : Option Bool := if x.kind = 3 then some true else if x.kind = 2 then some false else none
theorem flag_eq {R : Type} (x : Json) (k : Bool → Bool → Option R) : field_flag x k = match flagF x with | some b => k b true | none => k false false := by
  unfold field_flag field_flag_X flagF
  by_cases h : x.kind = 3
  · have h1 : (x.kind == 3) = true := by simpa using h
    simp only [h1, cond_true, if_pos h]
  · have h1 : (x.kind == 3) = false := by simpa using h
    by_cases h' : x.kind = 2
    · have h2 : (x.kind == 2) = true := by simpa using h'
      simp only [h1, h2, cond_false, if_neg h, if_pos h']
    · have h2 : (x.kind == 2) = false := by simpa using h'
      simp only [h1, h2, cond_false, if_neg h, if_neg h']

theorem Flag_eq {R : Type} (v : Json) (hv : JOk v) (s : Str) (k : Bool → Bool → Option R) : field_Flag v s k = match (at7 v s).bind flagF with | some n => k n true | none => k false false := by
  unfold field_Flag field_Flag_X field_of_bool_775c field_of_bool_775c_X
  simp only [Json.eta]
  rw [find_eq v hv]
  show (match at7 v s with | some x => _ | none => _) = _
  cases at7 v s with
  | none => rfl
  | some x =>
    simp only [Bool.not_true, cond_false, Option.bind_some, flag_eq]
    cases flagF x <;> rfl

def listF (x : Json) : Option (List Json) := if x.kind = 6 then some x.items else none
theorem List_eq {R : Type} (v : Json) (hv : JOk v) (s : Str) (k : List Json → Bool → Option R) : field_List v s k = match (at7 v s).bind listF with | some n => k n true | none => k [] false := by
  unfold field_List field_List_X field_of_Json_7b3b field_of_Json_7b3b_X field_List_1 field_List_1_X
  simp only [Json.eta]
  rw [find_eq v hv]
  show (match at7 v s with | some x => _ | none => _) = _
  cases hq : at7 v s with
  | none => rfl
  | some x =>
    simp only [Bool.not_true, cond_false, Option.bind_some, listF]
    rw [fresh_eq x (at7_ok hv hq)]
    by_cases h : x.kind = 6
    · have h1 : (x.kind == 6) = true := by simpa using h
      simp only [h1, cond_true, if_pos h]
    · have h1 : (x.kind == 6) = false := by simpa using h
      simp only [h1, cond_false, if_neg h]

/-! ### a schema's fields -/
def fitsB (x : Json) (f : Fld) : Bool :=
  if f.kind = 8 then (flagF x).isSome
  else if f.kind = 4 then (match numF x with | some n => decide (n ≥ f.low) && decide (n ≤ f.high) | none => false)
  else if f.kind = 5 then (match textF x with | some t => decide ((t.length : Int) ≥ f.low) && decide ((t.length : Int) ≤ f.high) | none => false)
  else if f.kind = 6 then (match listF x with | some l => decide ((l.length : Int) ≥ f.low) && decide ((l.length : Int) ≤ f.high) | none => false)
  else decide (x.kind = f.kind)

theorem fits_eq {R : Type} (x : Json) (f : Fld) (k : Bool → Option R) : field_fits x f k = k (fitsB x f) := by
  unfold field_fits field_fits_X fitsB
  simp only [Json.eta]
  by_cases h8 : f.kind = 8
  · have c8 : (f.kind == 8) = true := by simpa using h8
    simp only [c8, cond_true, if_pos h8, flag_eq]
    cases flagF x <;> rfl
  · have c8 : (f.kind == 8) = false := by simpa using h8
    simp only [c8, cond_false, if_neg h8]
    by_cases h4 : f.kind = 4
    · have c4 : (f.kind == 4) = true := by simpa using h4
      simp only [c4, cond_true, if_pos h4]
      obtain ⟨z, hz⟩ := num_eq x (fun y5 y6 => bif y6 then (bif (decide (y5 ≥ f.low)) then (k (decide (y5 ≤ f.high))) else (k false)) else (k false))
      refine hz.trans ?_
      cases numF x with
      | none => rfl
      | some n => simp only [cond_true]; cases decide (n ≥ f.low) <;> rfl
    · have c4 : (f.kind == 4) = false := by simpa using h4
      simp only [c4, cond_false, if_neg h4]
      by_cases h5 : f.kind = 5
      · have c5 : (f.kind == 5) = true := by simpa using h5
        simp only [c5, cond_true, if_pos h5, textF]
        by_cases hk : x.kind = 5
        · have ck : (x.kind == f.kind) = true := by simp [hk, h5]
          simp only [ck, cond_true, if_pos hk]
          cases decide ((x.text.length : Int) ≥ f.low) <;> rfl
        · have ck : (x.kind == f.kind) = false := by simpa [h5] using hk
          simp only [ck, cond_false, if_neg hk]
      · have c5 : (f.kind == 5) = false := by simpa using h5
        simp only [c5, cond_false, if_neg h5]
        by_cases h6 : f.kind = 6
        · have c6 : (f.kind == 6) = true := by simpa using h6
          simp only [c6, cond_true, if_pos h6, listF]
          by_cases hk : x.kind = 6
          · have ck : (x.kind == f.kind) = true := by simp [hk, h6]
            simp only [ck, cond_true, if_pos hk]
            cases decide ((x.items.length : Int) ≥ f.low) <;> rfl
          · have ck : (x.kind == f.kind) = false := by simpa [h6] using hk
            simp only [ck, cond_false, if_neg hk]
        · have c6 : (f.kind == 6) = false := by simpa using h6
          simp only [c6, cond_false, if_neg h6]
          rfl

def bad (v : Json) (f : Fld) : Bool := !decide (v.kind = 7) || (match at7 v f.name with | none => !f.free | some x => !fitsB x f)

theorem Check_loop {R : Type} (v : Json) (hv : JOk v) (l : List Fld) (hl : l.length ≤ 1048576) (e1 : Option R) (e0 : Int → Option R) : ∀ (n i : Nat), i ≤ l.length → l.length - i < n →
    field_Check_2_0_L n l (l.length : Int) (i : Int) v e1 e0 = match (l.drop i).findIdx? (bad v) with | some j => e0 ((i + j : Nat) : Int) | none => e1 := by
  intro n
  induction n with
  | zero => intro i _ h; omega
  | succ n ih =>
    intro i hi hn
    show field_Check_2_0_B field_find field_fits (fun a b c d => field_Check_2_0_L n a b c d e1 e0) l (l.length : Int) (i : Int) v e1 e0 = _
    unfold field_Check_2_0_B
    by_cases h : i < l.length
    · have h1 : decide ((i : Int) < (l.length : Int)) = true := by simp; omega
      have h2 : (decide ((0 : Int) ≤ (i : Int)) && true) = true := by simp
      have hw : IntKind.i64.wrap ((i : Int) + 1) = ((i + 1 : Nat) : Int) := by rw [wrap_id (by omega) (by omega)]; omega
      have hg : l.getD (i : Int).toNat (Ty.dflt .fld) = l[i] := getD_at h _
      have e1' := ih (i + 1) (by omega) (by omega)
      have hd : l.drop i = l[i] :: l.drop (i + 1) := List.drop_eq_getElem_cons h
      have tail : (match (l.drop (i + 1)).findIdx? (bad v) with | some j => e0 ((i + 1 + j : Nat) : Int) | none => e1) = match ((l.drop (i + 1)).findIdx? (bad v)).map (· + 1) with | some j => e0 ((i + j : Nat) : Int) | none => e1 := by
        cases (l.drop (i + 1)).findIdx? (bad v) with
        | none => rfl
        | some j =>
          show e0 ((i + 1 + j : Nat) : Int) = e0 ((i + (j + 1) : Nat) : Int)
          rw [show i + 1 + j = i + (j + 1) by omega]
      rw [h1, cond_true, chk_pos h2]
      simp only [Json.eta, hg, hw, e1']
      rw [find_eq v hv, hd, List.findIdx?_cons]
      show (match at7 v (l[i] : Fld).name with | some x => _ | none => _) = _
      by_cases h7 : v.kind = 7
      · have c7 : (v.kind != 7) = false := by simp [h7]
        cases hq : at7 v (l[i] : Fld).name with
        | none =>
          have hb : bad v l[i] = !(l[i] : Fld).free := by unfold bad; rw [hq]; simp [h7]
          rw [hb]
          simp only [c7, cond_false, Bool.not_false, cond_true]
          rcases Bool.eq_false_or_eq_true (l[i] : Fld).free with hf | hf
          · simp only [hf, Bool.not_true, cond_false, Bool.false_eq_true, if_false]
            exact tail
          · simp only [hf, Bool.not_false, cond_true, if_true]
            rfl
        | some x =>
          have hb : bad v l[i] = !fitsB x l[i] := by unfold bad; rw [hq]; simp [h7]
          rw [hb]
          simp only [c7, cond_false, Bool.not_true, cond_true, Json.eta, fits_eq]
          cases fitsB x l[i] with
          | true => simp only [Bool.not_true, cond_false, Bool.false_eq_true, if_false]; exact tail
          | false => simp only [Bool.not_false, cond_true, if_true]; rfl
      · have c7 : (v.kind != 7) = true := by simp [h7]
        have hb : bad v l[i] = true := by unfold bad; simp [h7]
        have h0 : at7 v (l[i] : Fld).name = none := by unfold at7; rw [if_neg h7]
        rw [hb, h0]
        simp only [c7, cond_true, if_true]
        rfl
    · have h1 : decide ((i : Int) < (l.length : Int)) = false := by simp; omega
      rw [h1, cond_false, List.drop_eq_nil_of_le (by omega)]
      rfl

theorem Check_eq {R : Type} (v : Json) (hv : JOk v) (l : List Fld) (hl : l.length ≤ 1048576) (k : Int → Option R) : field_Check v l k = k (match l.findIdx? (bad v) with | some j => (j : Int) | none => -1) := by
  unfold field_Check field_Check_X
  simp only [Json.eta]
  refine (Check_loop v hv l hl _ _ _ 0 (by omega) (by omega)).trans ?_
  simp only [List.drop_zero, Nat.zero_add]
  cases l.findIdx? (bad v) <;> rfl
end Go.Proofs.Ytcocpfgemdkkfaa

/-
  Functions of the program as pure Lean functions, and the ties; printed by wip/tools/emit.py.
-/
set_option maxRecDepth 100000
set_option linter.unusedVariables false
namespace Go.Proofs.Ytcocpfgemdkkfaa
open Go Go.Yard

/-! ### humpyard/humpyardlaw05.FieldChecks -/
abbrev law05_FieldChecks_ty (R : Type) : Type := (List Fld) → (List Raw) → (Bool → Option R) → Option R
abbrev law05_FieldChecks_p : List Pat := [.leaf (.sl .fld), .leaf (.sl .raw)]
abbrev law05_FieldChecks_q : List HPat := []
noncomputable def law05_FieldChecks_rr {R : Type} (fn : law05_FieldChecks_ty R) : Pat.dens law05_FieldChecks_p → HPat.dens law05_FieldChecks_q → (V → Heap → Option R) → Option R := fun x y k => fn x.1 x.2.1 (fun q0 => k (.bool q0) [])
abbrev law05_FieldChecks_7_0_ty (R : Type) : Type := Nat → (List Fld) → (List Raw) → Bool → (List Str) → (List Json) → Int → ((List Fld) → Bool → (List Str) → (List Json) → Option R) → Option R
abbrev law05_FieldChecks_19_0_ty (R : Type) : Type := Nat → (List Fld) → Bool → Int → Int → Int → Json → ((List Fld) → Bool → Int → Json → Option R) → ((List Fld) → Bool → Bool → Int → Json → Option R) → Option R
noncomputable def law05_FieldChecks_E (R : Type) (law05_awake : law05_awake_ty R) (law04_Fit : law04_Fit_ty R) (field_Make : field_Make_ty R) (field_Check : field_Check_ty R) (field_Get : field_Get_ty R) (field_Num : field_Num_ty R) (field_Text : field_Text_ty R) (field_Flag : field_Flag_ty R) (field_List : field_List_ty R) : Env R := fun i => match i with
  | 22 => some (true, (specBy law05_awake_p law05_awake_q (law05_awake_rr law05_awake) specNo))
  | 23 => some (true, (specBy law04_Fit_p law04_Fit_q (law04_Fit_rr law04_Fit) specNo))
  | 24 => some (true, (specBy field_Make_p field_Make_q (field_Make_rr field_Make) specNo))
  | 25 => some (true, (specBy field_Check_p field_Check_q (field_Check_rr field_Check) specNo))
  | 26 => some (true, (specBy field_Get_p field_Get_q (field_Get_rr field_Get) specNo))
  | 28 => some (true, (specBy field_Num_p field_Num_q (field_Num_rr field_Num) specNo))
  | 29 => some (true, (specBy field_Text_p field_Text_q (field_Text_rr field_Text) specNo))
  | 30 => some (true, (specBy field_Flag_p field_Flag_q (field_Flag_rr field_Flag) specNo))
  | 31 => some (true, (specBy field_List_p field_List_q (field_List_rr field_List) specNo))
  | _ => none
theorem law05_FieldChecks_EOk (R : Type) : EOk Try.prog (law05_FieldChecks_E R law05_awake law04_Fit field_Make field_Check field_Get field_Num field_Text field_Flag field_List) := by
  intro i b sp h
  unfold law05_FieldChecks_E at h
  split at h
  · cases h; exact (law05_awake_S_ok R _ (specNo_ok _))
  · cases h; exact (law04_Fit_S_ok R _ (specNo_ok _))
  · cases h; exact (field_Make_S_ok R _ (specNo_ok _))
  · cases h; exact (field_Check_S_ok R _ (specNo_ok _))
  · cases h; exact (field_Get_S_ok R _ (specNo_ok _))
  · cases h; exact (field_Num_S_ok R _ (specNo_ok _))
  · cases h; exact (field_Text_S_ok R _ (specNo_ok _))
  · cases h; exact (field_Flag_S_ok R _ (specNo_ok _))
  · cases h; exact (field_List_S_ok R _ (specNo_ok _))
  · cases h

noncomputable def law05_FieldChecks_7_0_B {R : Type} (law04_Fit : law04_Fit_ty R) (rec' : (List Fld) → (List Raw) → Bool → (List Str) → (List Json) → Int → Option R) (x5 : List Fld) (x6 : List Raw) (x7 : Bool) (x8 : List Str) (x9 : List Json) (x10 : Int) (e0 : (List Fld) → Bool → (List Str) → (List Json) → Option R) : Option R :=
  bif (decide (x10 < (x5.length : Int))) then (bif (decide (x10 < (x6.length : Int))) then (chk (decide ((0 : Int) ≤ x10) && decide (x10 < x5.length)) (chk (decide ((x8.length + 1) * 16 ≤ 140737488355328)) (chk (decide ((0 : Int) ≤ x10) && decide (x10 < x6.length)) (law04_Fit (⟨(x6.getD x10.toNat (Ty.dflt .raw)).kind, (x6.getD x10.toNat (Ty.dflt .raw)).mant, (x6.getD x10.toNat (Ty.dflt .raw)).exp, (x6.getD x10.toNat (Ty.dflt .raw)).text, (x6.getD x10.toNat (Ty.dflt .raw)).items⟩ : Raw) 2 (fun y12 => chk (decide ((x9.length + 1) * 88 ≤ 140737488355328)) (rec' x5 x6 x7 (x8 ++ ([(x5.getD x10.toNat (Ty.dflt .fld)).name] : List Str)) (x9 ++ ([(⟨y12.kind, ⟨y12.num.mant, y12.num.exp⟩, y12.text, y12.names, y12.items⟩ : Json)] : List Json)) (IntKind.i64.wrap (x10 + 1)))))))) else (e0 x5 x7 x8 x9)) else (e0 x5 x7 x8 x9)
noncomputable def law05_FieldChecks_7_0_L {R : Type} : law05_FieldChecks_7_0_ty R
  | 0, _, _, _, _, _, _, _ => none
  | n + 1, x0', x1', x2', x3', x4', x5', e0 => law05_FieldChecks_7_0_B law04_Fit (fun x0' x1' x2' x3' x4' x5' => law05_FieldChecks_7_0_L n x0' x1' x2' x3' x4' x5' e0) x0' x1' x2' x3' x4' x5' e0
noncomputable def law05_FieldChecks_7_0_h : Hint := { live := [0, 1, 5, 6, 7, 8], own := [(6, .str), (7, .json)], rows := [], cells := [], drop := [], out := [0, 4, 5, 6, 7] }
abbrev law05_FieldChecks_7_0_D : Type := (List Fld) × (List Raw) × Bool × (List Str) × (List Json) × Int
noncomputable def law05_FieldChecks_7_0_enc : law05_FieldChecks_7_0_D → St := fun d => ⟨[.sl .fld d.1 .no, .sl .raw d.2.1 .no, .undef, .undef, .undef, .bool d.2.2.1, .sl .str d.2.2.2.1 (.own 0), .sl .json d.2.2.2.2.1 (.own 1), .int .i64 d.2.2.2.2.2, .undef, .undef, .undef, .undef, .undef, .undef, .undef, .undef, .undef, .undef, .undef, .undef, .undef, .undef, .undef, .undef, .undef, .undef, .undef, .undef, .undef, .undef, .undef, .undef, .undef, .undef, .undef, .undef, .undef, .undef, .undef, .undef, .undef, .undef, .undef, .undef, .undef, .undef, .undef, .undef, .undef, .undef, .undef, .undef, .undef, .undef, .undef, .undef, .undef, .undef, .undef, .undef, .undef, .undef, .undef, .undef, .undef, .undef, .undef, .undef, .undef, .undef, .undef, .undef, .undef, .undef, .undef, .undef, .undef, .undef, .undef, .undef, .undef, .undef, .undef, .undef, .undef, .undef, .undef, .undef, .undef, .undef, .undef, .undef, .undef, .undef, .undef, .undef, .undef, .undef, .undef, .undef, .undef, .undef, .undef, .undef, .undef, .undef, .undef, .undef, .undef, .undef, .undef, .undef, .undef, .undef, .undef, .undef, .undef, .undef, .undef, .undef, .undef, .undef, .undef, .undef, .undef, .undef, .undef, .undef, .undef, .undef, .undef, .undef, .undef, .undef, .undef, .undef, .undef, .undef, .undef, .undef, .undef, .undef, .undef, .undef, .undef, .undef, .undef, .undef, .undef, .undef, .undef, .undef, .undef, .undef, .undef, .undef, .undef, .undef, .undef, .undef, .undef, .undef, .undef, .undef, .undef, .undef, .undef, .undef, .undef, .undef, .undef, .undef, .undef, .undef, .undef, .undef, .undef, .undef, .undef, .undef, .undef, .undef, .undef, .undef, .undef, .undef, .undef, .undef, .undef, .undef, .undef, .undef, .undef, .undef, .undef, .undef, .undef, .undef, .undef, .undef, .undef, .undef, .undef, .undef, .undef, .undef, .undef, .undef, .undef, .undef, .undef, .undef, .undef, .undef, .undef, .undef, .undef, .undef, .undef, .undef, .undef, .undef], [.tok, .tok]⟩
noncomputable def law05_FieldChecks_7_0_x0 {R : Type} (K : Ex → St → Option R) (q0 : List Fld) (q1 : Bool) (q2 : List Str) (q3 : List Json) : Option R := K (.exit 0) ⟨[.sl .fld q0 .no, .undef, .undef, .undef, .undef, .bool q1, .sl .str q2 (.own 0), .sl .json q3 (.own 1), .undef, .undef, .undef, .undef, .undef, .undef, .undef, .undef, .undef, .undef, .undef, .undef, .undef, .undef, .undef, .undef, .undef, .undef, .undef, .undef, .undef, .undef, .undef, .undef, .undef, .undef, .undef, .undef, .undef, .undef, .undef, .undef, .undef, .undef, .undef, .undef, .undef, .undef, .undef, .undef, .undef, .undef, .undef, .undef, .undef, .undef, .undef, .undef, .undef, .undef, .undef, .undef, .undef, .undef, .undef, .undef, .undef, .undef, .undef, .undef, .undef, .undef, .undef, .undef, .undef, .undef, .undef, .undef, .undef, .undef, .undef, .undef, .undef, .undef, .undef, .undef, .undef, .undef, .undef, .undef, .undef, .undef, .undef, .undef, .undef, .undef, .undef, .undef, .undef, .undef, .undef, .undef, .undef, .undef, .undef, .undef, .undef, .undef, .undef, .undef, .undef, .undef, .undef, .undef, .undef, .undef, .undef, .undef, .undef, .undef, .undef, .undef, .undef, .undef, .undef, .undef, .undef, .undef, .undef, .undef, .undef, .undef, .undef, .undef, .undef, .undef, .undef, .undef, .undef, .undef, .undef, .undef, .undef, .undef, .undef, .undef, .undef, .undef, .undef, .undef, .undef, .undef, .undef, .undef, .undef, .undef, .undef, .undef, .undef, .undef, .undef, .undef, .undef, .undef, .undef, .undef, .undef, .undef, .undef, .undef, .undef, .undef, .undef, .undef, .undef, .undef, .undef, .undef, .undef, .undef, .undef, .undef, .undef, .undef, .undef, .undef, .undef, .undef, .undef, .undef, .undef, .undef, .undef, .undef, .undef, .undef, .undef, .undef, .undef, .undef, .undef, .undef, .undef, .undef, .undef, .undef, .undef, .undef, .undef, .undef, .undef, .undef, .undef, .undef, .undef, .undef, .undef, .undef, .undef, .undef, .undef, .undef, .undef, .undef, .undef], [.tok, .tok]⟩
noncomputable def law05_FieldChecks_7_0_s {R : Type} (law04_Fit : law04_Fit_ty R) (K : Ex → St → Option R) (rc : law05_FieldChecks_7_0_D → Option R) (d : law05_FieldChecks_7_0_D) : Option R := law05_FieldChecks_7_0_B law04_Fit (fun z0 z1 z2 z3 z4 z5 => rc (z0, z1, z2, z3, z4, z5)) d.1 d.2.1 d.2.2.1 d.2.2.2.1 d.2.2.2.2.1 d.2.2.2.2.2 (law05_FieldChecks_7_0_x0 K)
noncomputable def law05_FieldChecks_7_0_A {R : Type} (K : Ex → St → Option R) (n : Nat) (d : law05_FieldChecks_7_0_D) : Option R := law05_FieldChecks_7_0_L n d.1 d.2.1 d.2.2.1 d.2.2.2.1 d.2.2.2.2.1 d.2.2.2.2.2 (law05_FieldChecks_7_0_x0 K)
abbrev law05_FieldChecks_7_0_p : List Pat := [.leaf (.sl .fld), .leaf (.sl .raw), .leaf (.undef), .leaf (.undef), .leaf (.undef), .leaf (.bool), .leaf (.slo .str 0), .leaf (.slo .json 1), .leaf (.int .i64), .leaf (.undef), .leaf (.undef), .leaf (.undef), .leaf (.undef), .leaf (.undef), .leaf (.undef), .leaf (.undef), .leaf (.undef), .leaf (.undef), .leaf (.undef), .leaf (.undef), .leaf (.undef), .leaf (.undef), .leaf (.undef), .leaf (.undef), .leaf (.undef), .leaf (.undef), .leaf (.undef), .leaf (.undef), .leaf (.undef), .leaf (.undef), .leaf (.undef), .leaf (.undef), .leaf (.undef), .leaf (.undef), .leaf (.undef), .leaf (.undef), .leaf (.undef), .leaf (.undef), .leaf (.undef), .leaf (.undef), .leaf (.undef), .leaf (.undef), .leaf (.undef), .leaf (.undef), .leaf (.undef), .leaf (.undef), .leaf (.undef), .leaf (.undef), .leaf (.undef), .leaf (.undef), .leaf (.undef), .leaf (.undef), .leaf (.undef), .leaf (.undef), .leaf (.undef), .leaf (.undef), .leaf (.undef), .leaf (.undef), .leaf (.undef), .leaf (.undef), .leaf (.undef), .leaf (.undef), .leaf (.undef), .leaf (.undef), .leaf (.undef), .leaf (.undef), .leaf (.undef), .leaf (.undef), .leaf (.undef), .leaf (.undef), .leaf (.undef), .leaf (.undef), .leaf (.undef), .leaf (.undef), .leaf (.undef), .leaf (.undef), .leaf (.undef), .leaf (.undef), .leaf (.undef), .leaf (.undef), .leaf (.undef), .leaf (.undef), .leaf (.undef), .leaf (.undef), .leaf (.undef), .leaf (.undef), .leaf (.undef), .leaf (.undef), .leaf (.undef), .leaf (.undef), .leaf (.undef), .leaf (.undef), .leaf (.undef), .leaf (.undef), .leaf (.undef), .leaf (.undef), .leaf (.undef), .leaf (.undef), .leaf (.undef), .leaf (.undef), .leaf (.undef), .leaf (.undef), .leaf (.undef), .leaf (.undef), .leaf (.undef), .leaf (.undef), .leaf (.undef), .leaf (.undef), .leaf (.undef), .leaf (.undef), .leaf (.undef), .leaf (.undef), .leaf (.undef), .leaf (.undef), .leaf (.undef), .leaf (.undef), .leaf (.undef), .leaf (.undef), .leaf (.undef), .leaf (.undef), .leaf (.undef), .leaf (.undef), .leaf (.undef), .leaf (.undef), .leaf (.undef), .leaf (.undef), .leaf (.undef), .leaf (.undef), .leaf (.undef), .leaf (.undef), .leaf (.undef), .leaf (.undef), .leaf (.undef), .leaf (.undef), .leaf (.undef), .leaf (.undef), .leaf (.undef), .leaf (.undef), .leaf (.undef), .leaf (.undef), .leaf (.undef), .leaf (.undef), .leaf (.undef), .leaf (.undef), .leaf (.undef), .leaf (.undef), .leaf (.undef), .leaf (.undef), .leaf (.undef), .leaf (.undef), .leaf (.undef), .leaf (.undef), .leaf (.undef), .leaf (.undef), .leaf (.undef), .leaf (.undef), .leaf (.undef), .leaf (.undef), .leaf (.undef), .leaf (.undef), .leaf (.undef), .leaf (.undef), .leaf (.undef), .leaf (.undef), .leaf (.undef), .leaf (.undef), .leaf (.undef), .leaf (.undef), .leaf (.undef), .leaf (.undef), .leaf (.undef), .leaf (.undef), .leaf (.undef), .leaf (.undef), .leaf (.undef), .leaf (.undef), .leaf (.undef), .leaf (.undef), .leaf (.undef), .leaf (.undef), .leaf (.undef), .leaf (.undef), .leaf (.undef), .leaf (.undef), .leaf (.undef), .leaf (.undef), .leaf (.undef), .leaf (.undef), .leaf (.undef), .leaf (.undef), .leaf (.undef), .leaf (.undef), .leaf (.undef), .leaf (.undef), .leaf (.undef), .leaf (.undef), .leaf (.undef), .leaf (.undef), .leaf (.undef), .leaf (.undef), .leaf (.undef), .leaf (.undef), .leaf (.undef), .leaf (.undef), .leaf (.undef), .leaf (.undef), .leaf (.undef), .leaf (.undef), .leaf (.undef), .leaf (.undef), .leaf (.undef), .leaf (.undef), .leaf (.undef), .leaf (.undef), .leaf (.undef), .leaf (.undef), .leaf (.undef), .leaf (.undef), .leaf (.undef), .leaf (.undef), .leaf (.undef), .leaf (.undef), .leaf (.undef)]
abbrev law05_FieldChecks_7_0_q : List HPat := [.tok, .tok]
noncomputable def law05_FieldChecks_7_0_f (x : Pat.dens law05_FieldChecks_7_0_p) (y : HPat.dens law05_FieldChecks_7_0_q) : Nat := (List.length x.1 + List.length x.2.1 + List.length x.2.2.2.2.2.2.1 + List.length x.2.2.2.2.2.2.2.1 + Int.natAbs x.2.2.2.2.2.2.2.2.1 + 3)
noncomputable def law05_FieldChecks_7_0_d (x : Pat.dens law05_FieldChecks_7_0_p) (y : HPat.dens law05_FieldChecks_7_0_q) : law05_FieldChecks_7_0_D := (x.1, x.2.1, x.2.2.2.2.2.1, x.2.2.2.2.2.2.1, x.2.2.2.2.2.2.2.1, x.2.2.2.2.2.2.2.2.1)
noncomputable def law05_FieldChecks_7_0_rr {R : Type} (L : law05_FieldChecks_7_0_ty R) : Pat.dens law05_FieldChecks_7_0_p → HPat.dens law05_FieldChecks_7_0_q → (Ex → St → Option R) → Option R := fun x y K => L (law05_FieldChecks_7_0_f x y) x.1 x.2.1 x.2.2.2.2.2.1 x.2.2.2.2.2.2.1 x.2.2.2.2.2.2.2.1 x.2.2.2.2.2.2.2.2.1 (law05_FieldChecks_7_0_x0 K)
noncomputable def law05_FieldChecks_19_0_B {R : Type} (field_Get : field_Get_ty R) (field_Num : field_Num_ty R) (field_Text : field_Text_ty R) (field_Flag : field_Flag_ty R) (field_List : field_List_ty R) (rec' : (List Fld) → Bool → Int → Int → Int → Json → Option R) (x21 : List Fld) (x22 : Bool) (x23 : Int) (x24 : Int) (x25 : Int) (x26 : Json) (e0 : (List Fld) → Bool → Int → Json → Option R) (e1 : (List Fld) → Bool → Bool → Int → Json → Option R) : Option R :=
  bif (decide (x25 < x24)) then (chk (decide ((0 : Int) ≤ x25) && decide (x25 < x21.length)) (field_Get (⟨x26.kind, ⟨x26.num.mant, x26.num.exp⟩, x26.text, x26.names, x26.items⟩ : Json) ((x21.getD x25.toNat (Ty.dflt .fld)).name) (fun y27 y28 => bif (!y28) then (bif (!(x21.getD x25.toNat (Ty.dflt .fld)).free) then (e1 x21 false x22 x23 (⟨x26.kind, ⟨x26.num.mant, x26.num.exp⟩, x26.text, x26.names, x26.items⟩ : Json)) else (rec' x21 x22 x23 x24 (IntKind.i64.wrap (x25 + 1)) (⟨x26.kind, ⟨x26.num.mant, x26.num.exp⟩, x26.text, x26.names, x26.items⟩ : Json))) else (field_Num (⟨x26.kind, ⟨x26.num.mant, x26.num.exp⟩, x26.text, x26.names, x26.items⟩ : Json) ((x21.getD x25.toNat (Ty.dflt .fld)).name) (fun y29 y30 => field_Text (⟨x26.kind, ⟨x26.num.mant, x26.num.exp⟩, x26.text, x26.names, x26.items⟩ : Json) ((x21.getD x25.toNat (Ty.dflt .fld)).name) (fun y31 y32 => field_Flag (⟨x26.kind, ⟨x26.num.mant, x26.num.exp⟩, x26.text, x26.names, x26.items⟩ : Json) ((x21.getD x25.toNat (Ty.dflt .fld)).name) (fun y33 y34 => field_List (⟨x26.kind, ⟨x26.num.mant, x26.num.exp⟩, x26.text, x26.names, x26.items⟩ : Json) ((x21.getD x25.toNat (Ty.dflt .fld)).name) (fun y35 y36 => bif ((x21.getD x25.toNat (Ty.dflt .fld)).kind == 4) then (bif (!y30) then (e1 x21 false x22 x23 (⟨x26.kind, ⟨x26.num.mant, x26.num.exp⟩, x26.text, x26.names, x26.items⟩ : Json)) else (bif (decide (y29 < (x21.getD x25.toNat (Ty.dflt .fld)).low)) then (e1 x21 false x22 x23 (⟨x26.kind, ⟨x26.num.mant, x26.num.exp⟩, x26.text, x26.names, x26.items⟩ : Json)) else (bif (decide (y29 > (x21.getD x25.toNat (Ty.dflt .fld)).high)) then (e1 x21 false x22 x23 (⟨x26.kind, ⟨x26.num.mant, x26.num.exp⟩, x26.text, x26.names, x26.items⟩ : Json)) else (bif ((x21.getD x25.toNat (Ty.dflt .fld)).kind == 5) then (bif (!y32) then (e1 x21 false x22 x23 (⟨x26.kind, ⟨x26.num.mant, x26.num.exp⟩, x26.text, x26.names, x26.items⟩ : Json)) else (bif (decide ((y31.length : Int) < (x21.getD x25.toNat (Ty.dflt .fld)).low)) then (e1 x21 false x22 x23 (⟨x26.kind, ⟨x26.num.mant, x26.num.exp⟩, x26.text, x26.names, x26.items⟩ : Json)) else (bif (decide ((y31.length : Int) > (x21.getD x25.toNat (Ty.dflt .fld)).high)) then (e1 x21 false x22 x23 (⟨x26.kind, ⟨x26.num.mant, x26.num.exp⟩, x26.text, x26.names, x26.items⟩ : Json)) else (bif ((x21.getD x25.toNat (Ty.dflt .fld)).kind == 8) then (bif (!y34) then (e1 x21 false x22 x23 (⟨x26.kind, ⟨x26.num.mant, x26.num.exp⟩, x26.text, x26.names, x26.items⟩ : Json)) else (bif ((x21.getD x25.toNat (Ty.dflt .fld)).kind == 6) then (bif (!y36) then (e1 x21 false x22 x23 (⟨x26.kind, ⟨x26.num.mant, x26.num.exp⟩, x26.text, x26.names, x26.items⟩ : Json)) else (bif (decide ((y35.length : Int) < (x21.getD x25.toNat (Ty.dflt .fld)).low)) then (e1 x21 false x22 x23 (⟨x26.kind, ⟨x26.num.mant, x26.num.exp⟩, x26.text, x26.names, x26.items⟩ : Json)) else (bif (decide ((y35.length : Int) > (x21.getD x25.toNat (Ty.dflt .fld)).high)) then (e1 x21 false x22 x23 (⟨x26.kind, ⟨x26.num.mant, x26.num.exp⟩, x26.text, x26.names, x26.items⟩ : Json)) else (rec' x21 x22 x23 x24 (IntKind.i64.wrap (x25 + 1)) (⟨x26.kind, ⟨x26.num.mant, x26.num.exp⟩, x26.text, x26.names, x26.items⟩ : Json))))) else (rec' x21 x22 x23 x24 (IntKind.i64.wrap (x25 + 1)) (⟨x26.kind, ⟨x26.num.mant, x26.num.exp⟩, x26.text, x26.names, x26.items⟩ : Json)))) else (bif ((x21.getD x25.toNat (Ty.dflt .fld)).kind == 6) then (bif (!y36) then (e1 x21 false x22 x23 (⟨x26.kind, ⟨x26.num.mant, x26.num.exp⟩, x26.text, x26.names, x26.items⟩ : Json)) else (bif (decide ((y35.length : Int) < (x21.getD x25.toNat (Ty.dflt .fld)).low)) then (e1 x21 false x22 x23 (⟨x26.kind, ⟨x26.num.mant, x26.num.exp⟩, x26.text, x26.names, x26.items⟩ : Json)) else (bif (decide ((y35.length : Int) > (x21.getD x25.toNat (Ty.dflt .fld)).high)) then (e1 x21 false x22 x23 (⟨x26.kind, ⟨x26.num.mant, x26.num.exp⟩, x26.text, x26.names, x26.items⟩ : Json)) else (rec' x21 x22 x23 x24 (IntKind.i64.wrap (x25 + 1)) (⟨x26.kind, ⟨x26.num.mant, x26.num.exp⟩, x26.text, x26.names, x26.items⟩ : Json))))) else (rec' x21 x22 x23 x24 (IntKind.i64.wrap (x25 + 1)) (⟨x26.kind, ⟨x26.num.mant, x26.num.exp⟩, x26.text, x26.names, x26.items⟩ : Json))))))) else (bif ((x21.getD x25.toNat (Ty.dflt .fld)).kind == 8) then (bif (!y34) then (e1 x21 false x22 x23 (⟨x26.kind, ⟨x26.num.mant, x26.num.exp⟩, x26.text, x26.names, x26.items⟩ : Json)) else (bif ((x21.getD x25.toNat (Ty.dflt .fld)).kind == 6) then (bif (!y36) then (e1 x21 false x22 x23 (⟨x26.kind, ⟨x26.num.mant, x26.num.exp⟩, x26.text, x26.names, x26.items⟩ : Json)) else (bif (decide ((y35.length : Int) < (x21.getD x25.toNat (Ty.dflt .fld)).low)) then (e1 x21 false x22 x23 (⟨x26.kind, ⟨x26.num.mant, x26.num.exp⟩, x26.text, x26.names, x26.items⟩ : Json)) else (bif (decide ((y35.length : Int) > (x21.getD x25.toNat (Ty.dflt .fld)).high)) then (e1 x21 false x22 x23 (⟨x26.kind, ⟨x26.num.mant, x26.num.exp⟩, x26.text, x26.names, x26.items⟩ : Json)) else (rec' x21 x22 x23 x24 (IntKind.i64.wrap (x25 + 1)) (⟨x26.kind, ⟨x26.num.mant, x26.num.exp⟩, x26.text, x26.names, x26.items⟩ : Json))))) else (rec' x21 x22 x23 x24 (IntKind.i64.wrap (x25 + 1)) (⟨x26.kind, ⟨x26.num.mant, x26.num.exp⟩, x26.text, x26.names, x26.items⟩ : Json)))) else (bif ((x21.getD x25.toNat (Ty.dflt .fld)).kind == 6) then (bif (!y36) then (e1 x21 false x22 x23 (⟨x26.kind, ⟨x26.num.mant, x26.num.exp⟩, x26.text, x26.names, x26.items⟩ : Json)) else (bif (decide ((y35.length : Int) < (x21.getD x25.toNat (Ty.dflt .fld)).low)) then (e1 x21 false x22 x23 (⟨x26.kind, ⟨x26.num.mant, x26.num.exp⟩, x26.text, x26.names, x26.items⟩ : Json)) else (bif (decide ((y35.length : Int) > (x21.getD x25.toNat (Ty.dflt .fld)).high)) then (e1 x21 false x22 x23 (⟨x26.kind, ⟨x26.num.mant, x26.num.exp⟩, x26.text, x26.names, x26.items⟩ : Json)) else (rec' x21 x22 x23 x24 (IntKind.i64.wrap (x25 + 1)) (⟨x26.kind, ⟨x26.num.mant, x26.num.exp⟩, x26.text, x26.names, x26.items⟩ : Json))))) else (rec' x21 x22 x23 x24 (IntKind.i64.wrap (x25 + 1)) (⟨x26.kind, ⟨x26.num.mant, x26.num.exp⟩, x26.text, x26.names, x26.items⟩ : Json)))))))) else (bif ((x21.getD x25.toNat (Ty.dflt .fld)).kind == 5) then (bif (!y32) then (e1 x21 false x22 x23 (⟨x26.kind, ⟨x26.num.mant, x26.num.exp⟩, x26.text, x26.names, x26.items⟩ : Json)) else (bif (decide ((y31.length : Int) < (x21.getD x25.toNat (Ty.dflt .fld)).low)) then (e1 x21 false x22 x23 (⟨x26.kind, ⟨x26.num.mant, x26.num.exp⟩, x26.text, x26.names, x26.items⟩ : Json)) else (bif (decide ((y31.length : Int) > (x21.getD x25.toNat (Ty.dflt .fld)).high)) then (e1 x21 false x22 x23 (⟨x26.kind, ⟨x26.num.mant, x26.num.exp⟩, x26.text, x26.names, x26.items⟩ : Json)) else (bif ((x21.getD x25.toNat (Ty.dflt .fld)).kind == 8) then (bif (!y34) then (e1 x21 false x22 x23 (⟨x26.kind, ⟨x26.num.mant, x26.num.exp⟩, x26.text, x26.names, x26.items⟩ : Json)) else (bif ((x21.getD x25.toNat (Ty.dflt .fld)).kind == 6) then (bif (!y36) then (e1 x21 false x22 x23 (⟨x26.kind, ⟨x26.num.mant, x26.num.exp⟩, x26.text, x26.names, x26.items⟩ : Json)) else (bif (decide ((y35.length : Int) < (x21.getD x25.toNat (Ty.dflt .fld)).low)) then (e1 x21 false x22 x23 (⟨x26.kind, ⟨x26.num.mant, x26.num.exp⟩, x26.text, x26.names, x26.items⟩ : Json)) else (bif (decide ((y35.length : Int) > (x21.getD x25.toNat (Ty.dflt .fld)).high)) then (e1 x21 false x22 x23 (⟨x26.kind, ⟨x26.num.mant, x26.num.exp⟩, x26.text, x26.names, x26.items⟩ : Json)) else (rec' x21 x22 x23 x24 (IntKind.i64.wrap (x25 + 1)) (⟨x26.kind, ⟨x26.num.mant, x26.num.exp⟩, x26.text, x26.names, x26.items⟩ : Json))))) else (rec' x21 x22 x23 x24 (IntKind.i64.wrap (x25 + 1)) (⟨x26.kind, ⟨x26.num.mant, x26.num.exp⟩, x26.text, x26.names, x26.items⟩ : Json)))) else (bif ((x21.getD x25.toNat (Ty.dflt .fld)).kind == 6) then (bif (!y36) then (e1 x21 false x22 x23 (⟨x26.kind, ⟨x26.num.mant, x26.num.exp⟩, x26.text, x26.names, x26.items⟩ : Json)) else (bif (decide ((y35.length : Int) < (x21.getD x25.toNat (Ty.dflt .fld)).low)) then (e1 x21 false x22 x23 (⟨x26.kind, ⟨x26.num.mant, x26.num.exp⟩, x26.text, x26.names, x26.items⟩ : Json)) else (bif (decide ((y35.length : Int) > (x21.getD x25.toNat (Ty.dflt .fld)).high)) then (e1 x21 false x22 x23 (⟨x26.kind, ⟨x26.num.mant, x26.num.exp⟩, x26.text, x26.names, x26.items⟩ : Json)) else (rec' x21 x22 x23 x24 (IntKind.i64.wrap (x25 + 1)) (⟨x26.kind, ⟨x26.num.mant, x26.num.exp⟩, x26.text, x26.names, x26.items⟩ : Json))))) else (rec' x21 x22 x23 x24 (IntKind.i64.wrap (x25 + 1)) (⟨x26.kind, ⟨x26.num.mant, x26.num.exp⟩, x26.text, x26.names, x26.items⟩ : Json))))))) else (bif ((x21.getD x25.toNat (Ty.dflt .fld)).kind == 8) then (bif (!y34) then (e1 x21 false x22 x23 (⟨x26.kind, ⟨x26.num.mant, x26.num.exp⟩, x26.text, x26.names, x26.items⟩ : Json)) else (bif ((x21.getD x25.toNat (Ty.dflt .fld)).kind == 6) then (bif (!y36) then (e1 x21 false x22 x23 (⟨x26.kind, ⟨x26.num.mant, x26.num.exp⟩, x26.text, x26.names, x26.items⟩ : Json)) else (bif (decide ((y35.length : Int) < (x21.getD x25.toNat (Ty.dflt .fld)).low)) then (e1 x21 false x22 x23 (⟨x26.kind, ⟨x26.num.mant, x26.num.exp⟩, x26.text, x26.names, x26.items⟩ : Json)) else (bif (decide ((y35.length : Int) > (x21.getD x25.toNat (Ty.dflt .fld)).high)) then (e1 x21 false x22 x23 (⟨x26.kind, ⟨x26.num.mant, x26.num.exp⟩, x26.text, x26.names, x26.items⟩ : Json)) else (rec' x21 x22 x23 x24 (IntKind.i64.wrap (x25 + 1)) (⟨x26.kind, ⟨x26.num.mant, x26.num.exp⟩, x26.text, x26.names, x26.items⟩ : Json))))) else (rec' x21 x22 x23 x24 (IntKind.i64.wrap (x25 + 1)) (⟨x26.kind, ⟨x26.num.mant, x26.num.exp⟩, x26.text, x26.names, x26.items⟩ : Json)))) else (bif ((x21.getD x25.toNat (Ty.dflt .fld)).kind == 6) then (bif (!y36) then (e1 x21 false x22 x23 (⟨x26.kind, ⟨x26.num.mant, x26.num.exp⟩, x26.text, x26.names, x26.items⟩ : Json)) else (bif (decide ((y35.length : Int) < (x21.getD x25.toNat (Ty.dflt .fld)).low)) then (e1 x21 false x22 x23 (⟨x26.kind, ⟨x26.num.mant, x26.num.exp⟩, x26.text, x26.names, x26.items⟩ : Json)) else (bif (decide ((y35.length : Int) > (x21.getD x25.toNat (Ty.dflt .fld)).high)) then (e1 x21 false x22 x23 (⟨x26.kind, ⟨x26.num.mant, x26.num.exp⟩, x26.text, x26.names, x26.items⟩ : Json)) else (rec' x21 x22 x23 x24 (IntKind.i64.wrap (x25 + 1)) (⟨x26.kind, ⟨x26.num.mant, x26.num.exp⟩, x26.text, x26.names, x26.items⟩ : Json))))) else (rec' x21 x22 x23 x24 (IntKind.i64.wrap (x25 + 1)) (⟨x26.kind, ⟨x26.num.mant, x26.num.exp⟩, x26.text, x26.names, x26.items⟩ : Json))))))))))))) else (e0 x21 x22 x23 (⟨x26.kind, ⟨x26.num.mant, x26.num.exp⟩, x26.text, x26.names, x26.items⟩ : Json))
noncomputable def law05_FieldChecks_19_0_L {R : Type} : law05_FieldChecks_19_0_ty R
  | 0, _, _, _, _, _, _, _, _ => none
  | n + 1, x0', x1', x2', x3', x4', x5', e0, e1 => law05_FieldChecks_19_0_B field_Get field_Num field_Text field_Flag field_List (fun x0' x1' x2' x3' x4' x5' => law05_FieldChecks_19_0_L n x0' x1' x2' x3' x4' x5' e0 e1) x0' x1' x2' x3' x4' x5' e0 e1
noncomputable def law05_FieldChecks_19_0_h : Hint := { live := [0, 5, 9, 10, 11, 12], own := [], rows := [], cells := [], drop := [], out := [0, 4, 5, 9, 10] }
abbrev law05_FieldChecks_19_0_D : Type := (List Fld) × Bool × Int × Int × Int × Json
noncomputable def law05_FieldChecks_19_0_enc : law05_FieldChecks_19_0_D → St := fun d => ⟨[.sl .fld d.1 .no, .undef, .undef, .undef, .undef, .bool d.2.1, .undef, .undef, .undef, .ptr 0 0, .int .i64 d.2.2.1, .int .i64 d.2.2.2.1, .int .i64 d.2.2.2.2.1, .undef, .undef, .undef, .undef, .undef, .undef, .undef, .undef, .undef, .undef, .undef, .undef, .undef, .undef, .undef, .undef, .undef, .undef, .undef, .undef, .undef, .undef, .undef, .undef, .undef, .undef, .undef, .undef, .undef, .undef, .undef, .undef, .undef, .undef, .undef, .undef, .undef, .undef, .undef, .undef, .undef, .undef, .undef, .undef, .undef, .undef, .undef, .undef, .undef, .undef, .undef, .undef, .undef, .undef, .undef, .undef, .undef, .undef, .undef, .undef, .undef, .undef, .undef, .undef, .undef, .undef, .undef, .undef, .undef, .undef, .undef, .undef, .undef, .undef, .undef, .undef, .undef, .undef, .undef, .undef, .undef, .undef, .undef, .undef, .undef, .undef, .undef, .undef, .undef, .undef, .undef, .undef, .undef, .undef, .undef, .undef, .undef, .undef, .undef, .undef, .undef, .undef, .undef, .undef, .undef, .undef, .undef, .undef, .undef, .undef, .undef, .undef, .undef, .undef, .undef, .undef, .undef, .undef, .undef, .undef, .undef, .undef, .undef, .undef, .undef, .undef, .undef, .undef, .undef, .undef, .undef, .undef, .undef, .undef, .undef, .undef, .undef, .undef, .undef, .undef, .undef, .undef, .undef, .undef, .undef, .undef, .undef, .undef, .undef, .undef, .undef, .undef, .undef, .undef, .undef, .undef, .undef, .undef, .undef, .undef, .undef, .undef, .undef, .undef, .undef, .undef, .undef, .undef, .undef, .undef, .undef, .undef, .undef, .undef, .undef, .undef, .undef, .undef, .undef, .undef, .undef, .undef, .undef, .undef, .undef, .undef, .undef, .undef, .undef, .undef, .undef, .undef, .undef, .undef, .undef, .undef, .undef, .undef, .undef, .undef, .undef, .undef, .undef, .undef, .undef, .undef, .undef, .undef, .undef, .undef], [.cells [.int .i64 d.2.2.2.2.2.kind, .int .i64 d.2.2.2.2.2.num.mant, .int .i64 d.2.2.2.2.2.num.exp, .str d.2.2.2.2.2.text, .sl .str d.2.2.2.2.2.names .no, .sl .json d.2.2.2.2.2.items .no]]⟩
noncomputable def law05_FieldChecks_19_0_x0 {R : Type} (K : Ex → St → Option R) (q0 : List Fld) (q1 : Bool) (q2 : Int) (q3 : Json) : Option R := K (.exit 2) ⟨[.sl .fld q0 .no, .undef, .undef, .undef, .undef, .bool q1, .undef, .undef, .undef, .ptr 0 0, .int .i64 q2, .undef, .undef, .undef, .undef, .undef, .undef, .undef, .undef, .undef, .undef, .undef, .undef, .undef, .undef, .undef, .undef, .undef, .undef, .undef, .undef, .undef, .undef, .undef, .undef, .undef, .undef, .undef, .undef, .undef, .undef, .undef, .undef, .undef, .undef, .undef, .undef, .undef, .undef, .undef, .undef, .undef, .undef, .undef, .undef, .undef, .undef, .undef, .undef, .undef, .undef, .undef, .undef, .undef, .undef, .undef, .undef, .undef, .undef, .undef, .undef, .undef, .undef, .undef, .undef, .undef, .undef, .undef, .undef, .undef, .undef, .undef, .undef, .undef, .undef, .undef, .undef, .undef, .undef, .undef, .undef, .undef, .undef, .undef, .undef, .undef, .undef, .undef, .undef, .undef, .undef, .undef, .undef, .undef, .undef, .undef, .undef, .undef, .undef, .undef, .undef, .undef, .undef, .undef, .undef, .undef, .undef, .undef, .undef, .undef, .undef, .undef, .undef, .undef, .undef, .undef, .undef, .undef, .undef, .undef, .undef, .undef, .undef, .undef, .undef, .undef, .undef, .undef, .undef, .undef, .undef, .undef, .undef, .undef, .undef, .undef, .undef, .undef, .undef, .undef, .undef, .undef, .undef, .undef, .undef, .undef, .undef, .undef, .undef, .undef, .undef, .undef, .undef, .undef, .undef, .undef, .undef, .undef, .undef, .undef, .undef, .undef, .undef, .undef, .undef, .undef, .undef, .undef, .undef, .undef, .undef, .undef, .undef, .undef, .undef, .undef, .undef, .undef, .undef, .undef, .undef, .undef, .undef, .undef, .undef, .undef, .undef, .undef, .undef, .undef, .undef, .undef, .undef, .undef, .undef, .undef, .undef, .undef, .undef, .undef, .undef, .undef, .undef, .undef, .undef, .undef, .undef, .undef, .undef, .undef, .undef, .undef, .undef], [.cells [.int .i64 q3.kind, .int .i64 q3.num.mant, .int .i64 q3.num.exp, .str q3.text, .sl .str q3.names .no, .sl .json q3.items .no]]⟩
noncomputable def law05_FieldChecks_19_0_x1 {R : Type} (K : Ex → St → Option R) (q0 : List Fld) (q1 : Bool) (q2 : Bool) (q3 : Int) (q4 : Json) : Option R := K (.ret) ⟨[.sl .fld q0 .no, .undef, .undef, .undef, .bool q1, .bool q2, .undef, .undef, .undef, .ptr 0 0, .int .i64 q3, .undef, .undef, .undef, .undef, .undef, .undef, .undef, .undef, .undef, .undef, .undef, .undef, .undef, .undef, .undef, .undef, .undef, .undef, .undef, .undef, .undef, .undef, .undef, .undef, .undef, .undef, .undef, .undef, .undef, .undef, .undef, .undef, .undef, .undef, .undef, .undef, .undef, .undef, .undef, .undef, .undef, .undef, .undef, .undef, .undef, .undef, .undef, .undef, .undef, .undef, .undef, .undef, .undef, .undef, .undef, .undef, .undef, .undef, .undef, .undef, .undef, .undef, .undef, .undef, .undef, .undef, .undef, .undef, .undef, .undef, .undef, .undef, .undef, .undef, .undef, .undef, .undef, .undef, .undef, .undef, .undef, .undef, .undef, .undef, .undef, .undef, .undef, .undef, .undef, .undef, .undef, .undef, .undef, .undef, .undef, .undef, .undef, .undef, .undef, .undef, .undef, .undef, .undef, .undef, .undef, .undef, .undef, .undef, .undef, .undef, .undef, .undef, .undef, .undef, .undef, .undef, .undef, .undef, .undef, .undef, .undef, .undef, .undef, .undef, .undef, .undef, .undef, .undef, .undef, .undef, .undef, .undef, .undef, .undef, .undef, .undef, .undef, .undef, .undef, .undef, .undef, .undef, .undef, .undef, .undef, .undef, .undef, .undef, .undef, .undef, .undef, .undef, .undef, .undef, .undef, .undef, .undef, .undef, .undef, .undef, .undef, .undef, .undef, .undef, .undef, .undef, .undef, .undef, .undef, .undef, .undef, .undef, .undef, .undef, .undef, .undef, .undef, .undef, .undef, .undef, .undef, .undef, .undef, .undef, .undef, .undef, .undef, .undef, .undef, .undef, .undef, .undef, .undef, .undef, .undef, .undef, .undef, .undef, .undef, .undef, .undef, .undef, .undef, .undef, .undef, .undef, .undef, .undef, .undef, .undef, .undef, .undef], [.cells [.int .i64 q4.kind, .int .i64 q4.num.mant, .int .i64 q4.num.exp, .str q4.text, .sl .str q4.names .no, .sl .json q4.items .no]]⟩
noncomputable def law05_FieldChecks_19_0_s {R : Type} (field_Get : field_Get_ty R) (field_Num : field_Num_ty R) (field_Text : field_Text_ty R) (field_Flag : field_Flag_ty R) (field_List : field_List_ty R) (K : Ex → St → Option R) (rc : law05_FieldChecks_19_0_D → Option R) (d : law05_FieldChecks_19_0_D) : Option R := law05_FieldChecks_19_0_B field_Get field_Num field_Text field_Flag field_List (fun z0 z1 z2 z3 z4 z5 => rc (z0, z1, z2, z3, z4, z5)) d.1 d.2.1 d.2.2.1 d.2.2.2.1 d.2.2.2.2.1 d.2.2.2.2.2 (law05_FieldChecks_19_0_x0 K) (law05_FieldChecks_19_0_x1 K)
noncomputable def law05_FieldChecks_19_0_A {R : Type} (K : Ex → St → Option R) (n : Nat) (d : law05_FieldChecks_19_0_D) : Option R := law05_FieldChecks_19_0_L n d.1 d.2.1 d.2.2.1 d.2.2.2.1 d.2.2.2.2.1 d.2.2.2.2.2 (law05_FieldChecks_19_0_x0 K) (law05_FieldChecks_19_0_x1 K)
abbrev law05_FieldChecks_19_0_p : List Pat := [.leaf (.sl .fld), .leaf (.undef), .leaf (.undef), .leaf (.undef), .leaf (.undef), .leaf (.bool), .leaf (.undef), .leaf (.undef), .leaf (.undef), .leaf (.ptr 0 0), .leaf (.int .i64), .leaf (.int .i64), .leaf (.int .i64), .leaf (.undef), .leaf (.undef), .leaf (.undef), .leaf (.undef), .leaf (.undef), .leaf (.undef), .leaf (.undef), .leaf (.undef), .leaf (.undef), .leaf (.undef), .leaf (.undef), .leaf (.undef), .leaf (.undef), .leaf (.undef), .leaf (.undef), .leaf (.undef), .leaf (.undef), .leaf (.undef), .leaf (.undef), .leaf (.undef), .leaf (.undef), .leaf (.undef), .leaf (.undef), .leaf (.undef), .leaf (.undef), .leaf (.undef), .leaf (.undef), .leaf (.undef), .leaf (.undef), .leaf (.undef), .leaf (.undef), .leaf (.undef), .leaf (.undef), .leaf (.undef), .leaf (.undef), .leaf (.undef), .leaf (.undef), .leaf (.undef), .leaf (.undef), .leaf (.undef), .leaf (.undef), .leaf (.undef), .leaf (.undef), .leaf (.undef), .leaf (.undef), .leaf (.undef), .leaf (.undef), .leaf (.undef), .leaf (.undef), .leaf (.undef), .leaf (.undef), .leaf (.undef), .leaf (.undef), .leaf (.undef), .leaf (.undef), .leaf (.undef), .leaf (.undef), .leaf (.undef), .leaf (.undef), .leaf (.undef), .leaf (.undef), .leaf (.undef), .leaf (.undef), .leaf (.undef), .leaf (.undef), .leaf (.undef), .leaf (.undef), .leaf (.undef), .leaf (.undef), .leaf (.undef), .leaf (.undef), .leaf (.undef), .leaf (.undef), .leaf (.undef), .leaf (.undef), .leaf (.undef), .leaf (.undef), .leaf (.undef), .leaf (.undef), .leaf (.undef), .leaf (.undef), .leaf (.undef), .leaf (.undef), .leaf (.undef), .leaf (.undef), .leaf (.undef), .leaf (.undef), .leaf (.undef), .leaf (.undef), .leaf (.undef), .leaf (.undef), .leaf (.undef), .leaf (.undef), .leaf (.undef), .leaf (.undef), .leaf (.undef), .leaf (.undef), .leaf (.undef), .leaf (.undef), .leaf (.undef), .leaf (.undef), .leaf (.undef), .leaf (.undef), .leaf (.undef), .leaf (.undef), .leaf (.undef), .leaf (.undef), .leaf (.undef), .leaf (.undef), .leaf (.undef), .leaf (.undef), .leaf (.undef), .leaf (.undef), .leaf (.undef), .leaf (.undef), .leaf (.undef), .leaf (.undef), .leaf (.undef), .leaf (.undef), .leaf (.undef), .leaf (.undef), .leaf (.undef), .leaf (.undef), .leaf (.undef), .leaf (.undef), .leaf (.undef), .leaf (.undef), .leaf (.undef), .leaf (.undef), .leaf (.undef), .leaf (.undef), .leaf (.undef), .leaf (.undef), .leaf (.undef), .leaf (.undef), .leaf (.undef), .leaf (.undef), .leaf (.undef), .leaf (.undef), .leaf (.undef), .leaf (.undef), .leaf (.undef), .leaf (.undef), .leaf (.undef), .leaf (.undef), .leaf (.undef), .leaf (.undef), .leaf (.undef), .leaf (.undef), .leaf (.undef), .leaf (.undef), .leaf (.undef), .leaf (.undef), .leaf (.undef), .leaf (.undef), .leaf (.undef), .leaf (.undef), .leaf (.undef), .leaf (.undef), .leaf (.undef), .leaf (.undef), .leaf (.undef), .leaf (.undef), .leaf (.undef), .leaf (.undef), .leaf (.undef), .leaf (.undef), .leaf (.undef), .leaf (.undef), .leaf (.undef), .leaf (.undef), .leaf (.undef), .leaf (.undef), .leaf (.undef), .leaf (.undef), .leaf (.undef), .leaf (.undef), .leaf (.undef), .leaf (.undef), .leaf (.undef), .leaf (.undef), .leaf (.undef), .leaf (.undef), .leaf (.undef), .leaf (.undef), .leaf (.undef), .leaf (.undef), .leaf (.undef), .leaf (.undef), .leaf (.undef), .leaf (.undef), .leaf (.undef), .leaf (.undef), .leaf (.undef), .leaf (.undef), .leaf (.undef), .leaf (.undef), .leaf (.undef), .leaf (.undef), .leaf (.undef), .leaf (.undef), .leaf (.undef), .leaf (.undef), .leaf (.undef), .leaf (.undef), .leaf (.undef), .leaf (.undef), .leaf (.undef), .leaf (.undef), .leaf (.undef)]
abbrev law05_FieldChecks_19_0_q : List HPat := [.cells [.int .i64, .int .i64, .int .i64, .str, .sl .str, .sl .json]]
noncomputable def law05_FieldChecks_19_0_f (x : Pat.dens law05_FieldChecks_19_0_p) (y : HPat.dens law05_FieldChecks_19_0_q) : Nat := (List.length x.1 + Int.natAbs x.2.2.2.2.2.2.2.2.2.2.1 + Int.natAbs x.2.2.2.2.2.2.2.2.2.2.2.1 + Int.natAbs x.2.2.2.2.2.2.2.2.2.2.2.2.1 + Json.fu (⟨y.1.1, ⟨y.1.2.1, y.1.2.2.1⟩, y.1.2.2.2.1, y.1.2.2.2.2.1, y.1.2.2.2.2.2.1⟩ : Json) + 3)
noncomputable def law05_FieldChecks_19_0_d (x : Pat.dens law05_FieldChecks_19_0_p) (y : HPat.dens law05_FieldChecks_19_0_q) : law05_FieldChecks_19_0_D := (x.1, x.2.2.2.2.2.1, x.2.2.2.2.2.2.2.2.2.2.1, x.2.2.2.2.2.2.2.2.2.2.2.1, x.2.2.2.2.2.2.2.2.2.2.2.2.1, (⟨y.1.1, ⟨y.1.2.1, y.1.2.2.1⟩, y.1.2.2.2.1, y.1.2.2.2.2.1, y.1.2.2.2.2.2.1⟩ : Json))
noncomputable def law05_FieldChecks_19_0_rr {R : Type} (L : law05_FieldChecks_19_0_ty R) : Pat.dens law05_FieldChecks_19_0_p → HPat.dens law05_FieldChecks_19_0_q → (Ex → St → Option R) → Option R := fun x y K => L (law05_FieldChecks_19_0_f x y) x.1 x.2.2.2.2.2.1 x.2.2.2.2.2.2.2.2.2.2.1 x.2.2.2.2.2.2.2.2.2.2.2.1 x.2.2.2.2.2.2.2.2.2.2.2.2.1 (⟨y.1.1, ⟨y.1.2.1, y.1.2.2.1⟩, y.1.2.2.2.1, y.1.2.2.2.2.1, y.1.2.2.2.2.2.1⟩ : Json) (law05_FieldChecks_19_0_x0 K) (law05_FieldChecks_19_0_x1 K)
noncomputable def law05_FieldChecks_T (R : Type) (law05_FieldChecks_7_0_L : law05_FieldChecks_7_0_ty R) (law05_FieldChecks_19_0_L : law05_FieldChecks_19_0_ty R) : Nat → Option (Hint × LSpec R) := fun i => match i with
  | 7 => some (law05_FieldChecks_7_0_h, (loopBy law05_FieldChecks_7_0_p law05_FieldChecks_7_0_q (law05_FieldChecks_7_0_rr law05_FieldChecks_7_0_L) loopNo))
  | 19 => some (law05_FieldChecks_19_0_h, (loopBy law05_FieldChecks_19_0_p law05_FieldChecks_19_0_q (law05_FieldChecks_19_0_rr law05_FieldChecks_19_0_L) loopNo))
  | _ => none

theorem law05_FieldChecks_7_0_B_ok {R : Type} (law05_awake : law05_awake_ty R) (law04_Fit : law04_Fit_ty R) (field_Make : field_Make_ty R) (field_Check : field_Check_ty R) (field_Get : field_Get_ty R) (field_Num : field_Num_ty R) (field_Text : field_Text_ty R) (field_Flag : field_Flag_ty R) (field_List : field_List_ty R) (law05_FieldChecks_7_0_L : law05_FieldChecks_7_0_ty R) (law05_FieldChecks_19_0_L : law05_FieldChecks_19_0_ty R) (K : Ex → St → Option R) (rc : St → Option R) (d : law05_FieldChecks_7_0_D) : roundOf tt (law05_FieldChecks_E R law05_awake law04_Fit field_Make field_Check field_Get field_Num field_Text field_Flag field_List) (law05_FieldChecks_T R law05_FieldChecks_7_0_L law05_FieldChecks_19_0_L) 0 ((loopsOf (codeOf Try.f8)).getD 0 .skip) law05_FieldChecks_7_0_h (law05_FieldChecks_7_0_enc d) rc K = law05_FieldChecks_7_0_s law04_Fit K (fun d => rc (law05_FieldChecks_7_0_enc d)) d := by kernel_rfl
theorem law05_FieldChecks_7_0_A_succ {R : Type} (K : Ex → St → Option R) (n : Nat) (d : law05_FieldChecks_7_0_D) : law05_FieldChecks_7_0_A K (n + 1) d = law05_FieldChecks_7_0_s law04_Fit K (law05_FieldChecks_7_0_A K n) d := by kernel_rfl
theorem law05_FieldChecks_7_0_A_zero {R : Type} (K : Ex → St → Option R) (d : law05_FieldChecks_7_0_D) : law05_FieldChecks_7_0_A K 0 d = none := by kernel_rfl
theorem law05_FieldChecks_7_0_e_ok (x : Pat.dens law05_FieldChecks_7_0_p) (y : HPat.dens law05_FieldChecks_7_0_q) : (⟨Pat.encL law05_FieldChecks_7_0_p x, HPat.encL law05_FieldChecks_7_0_q y⟩ : St) = law05_FieldChecks_7_0_enc (law05_FieldChecks_7_0_d x y) := by kernel_rfl
theorem law05_FieldChecks_7_0_r_ok {R : Type} (x : Pat.dens law05_FieldChecks_7_0_p) (y : HPat.dens law05_FieldChecks_7_0_q) (K : Ex → St → Option R) : law05_FieldChecks_7_0_rr (law05_FieldChecks_7_0_L) x y K = law05_FieldChecks_7_0_A K (law05_FieldChecks_7_0_f x y) (law05_FieldChecks_7_0_d x y) := by kernel_rfl
theorem law05_FieldChecks_7_0_ok {R : Type} (other : LSpec R) (ho : LsOk tt (law05_FieldChecks_E R law05_awake law04_Fit field_Make field_Check field_Get field_Num field_Text field_Flag field_List) (law05_FieldChecks_T R law05_FieldChecks_7_0_L law05_FieldChecks_19_0_L) 0 ((loopsOf (codeOf Try.f8)).getD 0 .skip) law05_FieldChecks_7_0_h other) : LsOk tt (law05_FieldChecks_E R law05_awake law04_Fit field_Make field_Check field_Get field_Num field_Text field_Flag field_List) (law05_FieldChecks_T R law05_FieldChecks_7_0_L law05_FieldChecks_19_0_L) 0 ((loopsOf (codeOf Try.f8)).getD 0 .skip) law05_FieldChecks_7_0_h (loopBy law05_FieldChecks_7_0_p law05_FieldChecks_7_0_q (law05_FieldChecks_7_0_rr (law05_FieldChecks_7_0_L)) other) :=
  loopBy_tie (A := law05_FieldChecks_7_0_A) ho (loop_tie law05_FieldChecks_7_0_enc (law05_FieldChecks_7_0_s law04_Fit) (law05_FieldChecks_7_0_A) (law05_FieldChecks_7_0_A_zero) (law05_FieldChecks_7_0_B_ok law05_awake law04_Fit field_Make field_Check field_Get field_Num field_Text field_Flag field_List law05_FieldChecks_7_0_L law05_FieldChecks_19_0_L) (law05_FieldChecks_7_0_A_succ)) law05_FieldChecks_7_0_f law05_FieldChecks_7_0_d law05_FieldChecks_7_0_e_ok (law05_FieldChecks_7_0_r_ok)

theorem law05_FieldChecks_19_0_B_ok {R : Type} (law05_awake : law05_awake_ty R) (law04_Fit : law04_Fit_ty R) (field_Make : field_Make_ty R) (field_Check : field_Check_ty R) (field_Get : field_Get_ty R) (field_Num : field_Num_ty R) (field_Text : field_Text_ty R) (field_Flag : field_Flag_ty R) (field_List : field_List_ty R) (law05_FieldChecks_7_0_L : law05_FieldChecks_7_0_ty R) (law05_FieldChecks_19_0_L : law05_FieldChecks_19_0_ty R) (K : Ex → St → Option R) (rc : St → Option R) (d : law05_FieldChecks_19_0_D) : roundOf tt (law05_FieldChecks_E R law05_awake law04_Fit field_Make field_Check field_Get field_Num field_Text field_Flag field_List) (law05_FieldChecks_T R law05_FieldChecks_7_0_L law05_FieldChecks_19_0_L) 0 ((loopsOf (codeOf Try.f8)).getD 1 .skip) law05_FieldChecks_19_0_h (law05_FieldChecks_19_0_enc d) rc K = law05_FieldChecks_19_0_s field_Get field_Num field_Text field_Flag field_List K (fun d => rc (law05_FieldChecks_19_0_enc d)) d := by kernel_rfl
theorem law05_FieldChecks_19_0_A_succ {R : Type} (K : Ex → St → Option R) (n : Nat) (d : law05_FieldChecks_19_0_D) : law05_FieldChecks_19_0_A K (n + 1) d = law05_FieldChecks_19_0_s field_Get field_Num field_Text field_Flag field_List K (law05_FieldChecks_19_0_A K n) d := by kernel_rfl
theorem law05_FieldChecks_19_0_A_zero {R : Type} (K : Ex → St → Option R) (d : law05_FieldChecks_19_0_D) : law05_FieldChecks_19_0_A K 0 d = none := by kernel_rfl
theorem law05_FieldChecks_19_0_e_ok (x : Pat.dens law05_FieldChecks_19_0_p) (y : HPat.dens law05_FieldChecks_19_0_q) : (⟨Pat.encL law05_FieldChecks_19_0_p x, HPat.encL law05_FieldChecks_19_0_q y⟩ : St) = law05_FieldChecks_19_0_enc (law05_FieldChecks_19_0_d x y) := by kernel_rfl
theorem law05_FieldChecks_19_0_r_ok {R : Type} (x : Pat.dens law05_FieldChecks_19_0_p) (y : HPat.dens law05_FieldChecks_19_0_q) (K : Ex → St → Option R) : law05_FieldChecks_19_0_rr (law05_FieldChecks_19_0_L) x y K = law05_FieldChecks_19_0_A K (law05_FieldChecks_19_0_f x y) (law05_FieldChecks_19_0_d x y) := by kernel_rfl
theorem law05_FieldChecks_19_0_ok {R : Type} (other : LSpec R) (ho : LsOk tt (law05_FieldChecks_E R law05_awake law04_Fit field_Make field_Check field_Get field_Num field_Text field_Flag field_List) (law05_FieldChecks_T R law05_FieldChecks_7_0_L law05_FieldChecks_19_0_L) 0 ((loopsOf (codeOf Try.f8)).getD 1 .skip) law05_FieldChecks_19_0_h other) : LsOk tt (law05_FieldChecks_E R law05_awake law04_Fit field_Make field_Check field_Get field_Num field_Text field_Flag field_List) (law05_FieldChecks_T R law05_FieldChecks_7_0_L law05_FieldChecks_19_0_L) 0 ((loopsOf (codeOf Try.f8)).getD 1 .skip) law05_FieldChecks_19_0_h (loopBy law05_FieldChecks_19_0_p law05_FieldChecks_19_0_q (law05_FieldChecks_19_0_rr (law05_FieldChecks_19_0_L)) other) :=
  loopBy_tie (A := law05_FieldChecks_19_0_A) ho (loop_tie law05_FieldChecks_19_0_enc (law05_FieldChecks_19_0_s field_Get field_Num field_Text field_Flag field_List) (law05_FieldChecks_19_0_A) (law05_FieldChecks_19_0_A_zero) (law05_FieldChecks_19_0_B_ok law05_awake law04_Fit field_Make field_Check field_Get field_Num field_Text field_Flag field_List law05_FieldChecks_7_0_L law05_FieldChecks_19_0_L) (law05_FieldChecks_19_0_A_succ)) law05_FieldChecks_19_0_f law05_FieldChecks_19_0_d law05_FieldChecks_19_0_e_ok (law05_FieldChecks_19_0_r_ok)

noncomputable def law05_FieldChecks_X {R : Type} (law05_awake : law05_awake_ty R) (field_Make : field_Make_ty R) (field_Check : field_Check_ty R) (law05_FieldChecks_7_0_L : law05_FieldChecks_7_0_ty R) (law05_FieldChecks_19_0_L : law05_FieldChecks_19_0_ty R) (x1 : List Fld) (x2 : List Raw) (k0 : Bool → Option R) : Option R :=
  law05_awake (fun y3 => let j51 := fun (z4 : List Fld) => law05_FieldChecks_7_0_L (List.length z4 + List.length x2 + List.length ([] : List Str) + List.length ([] : List Json) + Int.natAbs 0 + 3) z4 x2 y3 ([] : List Str) ([] : List Json) 0 (fun y13 y14 y15 y16 => field_Make y15 y16 (fun y17 => field_Check (⟨y17.kind, ⟨y17.num.mant, y17.num.exp⟩, y17.text, y17.names, y17.items⟩ : Json) y13 (fun y18 => bif (decide (y18 < (-1 : Int))) then (k0 false) else (bif (decide (y18 ≥ (y13.length : Int))) then (k0 false) else (let j50 := fun (z20 : Int) => law05_FieldChecks_19_0_L (List.length y13 + Int.natAbs y18 + Int.natAbs z20 + Int.natAbs 0 + Json.fu (⟨y17.kind, ⟨y17.num.mant, y17.num.exp⟩, y17.text, y17.names, y17.items⟩ : Json) + 3) y13 y14 y18 z20 0 (⟨y17.kind, ⟨y17.num.mant, y17.num.exp⟩, y17.text, y17.names, y17.items⟩ : Json) (fun y38 y39 y40 y41 => bif y39 then (bif (decide (y40 < (0 : Int))) then (k0 true) else (chk (decide ((0 : Int) ≤ y40) && decide (y40 ≤ y38.length)) (chk (decide ((0 : Int) ≤ y40)) (field_Check (⟨y41.kind, ⟨y41.num.mant, y41.num.exp⟩, y41.text, y41.names, y41.items⟩ : Json) ((y38.drop 0).take (y40.toNat - 0)) (fun y47 => bif (y47 == (-1)) then (chk (decide ((0 : Int) ≤ (IntKind.i64.wrap (y40 + 1))) && decide ((IntKind.i64.wrap (y40 + 1)) ≤ y38.length)) (chk (decide ((0 : Int) ≤ y40) && decide (y40 ≤ (IntKind.i64.wrap (y40 + 1)))) (field_Check (⟨y41.kind, ⟨y41.num.mant, y41.num.exp⟩, y41.text, y41.names, y41.items⟩ : Json) ((y38.drop y40.toNat).take ((IntKind.i64.wrap (y40 + 1)).toNat - y40.toNat)) (fun y48 => k0 (y48 == 0))))) else (k0 false)))))) else (k0 false)) (fun y42 y43 y44 y45 y46 => k0 y43); bif (decide (y18 < (0 : Int))) then (j50 (y13.length : Int)) else (j50 y18)))))); bif (decide ((x1.length : Int) > (8 : Int))) then (chk (decide ((8 : Int) ≤ x1.length)) (j51 ((x1.drop 0).take (8 - 0)))) else (j51 x1))
noncomputable def law05_FieldChecks {R : Type} : law05_FieldChecks_ty R := fun x1 x2 k0 => law05_FieldChecks_X law05_awake field_Make field_Check law05_FieldChecks_7_0_L law05_FieldChecks_19_0_L x1 x2 k0
theorem law05_FieldChecks_ok {R : Type} (law05_awake : law05_awake_ty R) (law04_Fit : law04_Fit_ty R) (field_Make : field_Make_ty R) (field_Check : field_Check_ty R) (field_Get : field_Get_ty R) (field_Num : field_Num_ty R) (field_Text : field_Text_ty R) (field_Flag : field_Flag_ty R) (field_List : field_List_ty R) (law05_FieldChecks_7_0_L : law05_FieldChecks_7_0_ty R) (law05_FieldChecks_19_0_L : law05_FieldChecks_19_0_ty R) (x1 : List Fld) (x2 : List Raw) (k : V → Heap → Option R) : funK tt (law05_FieldChecks_E R law05_awake law04_Fit field_Make field_Check field_Get field_Num field_Text field_Flag field_List) (law05_FieldChecks_T R law05_FieldChecks_7_0_L law05_FieldChecks_19_0_L) false Try.f8 (codeOf Try.f8) [.sl .fld x1 .no, .sl .raw x2 .no] [] k =
    law05_FieldChecks_X law05_awake field_Make field_Check law05_FieldChecks_7_0_L law05_FieldChecks_19_0_L x1 x2 (fun q0 => k (.bool q0) []) := by kernel_rfl
theorem law05_FieldChecks_loops (R : Type) : ∀ a ∈ loopsOf (codeOf Try.f8), LoopOk tt (law05_FieldChecks_E R law05_awake law04_Fit field_Make field_Check field_Get field_Num field_Text field_Flag field_List) (law05_FieldChecks_T R law05_FieldChecks_7_0_L law05_FieldChecks_19_0_L) 0 a := by
  refine loops_ok 2 (by kernel_rfl) fun i hi => ?_
  match i, hi with
  | 0, _ => exact loopOk_some (by kernel_rfl) (law05_FieldChecks_7_0_ok _ loopNo_ok)
  | 1, _ => exact loopOk_some (by kernel_rfl) (law05_FieldChecks_19_0_ok _ loopNo_ok)
  | n + 2, hi => omega
theorem law05_FieldChecks_S_ok (R : Type) (other : Yard.Spec R) (ho : Yard.Spec.Ok Try.prog 8 other) : Yard.Spec.Ok Try.prog 8 (specBy law05_FieldChecks_p law05_FieldChecks_q (law05_FieldChecks_rr law05_FieldChecks) other) :=
  specBy_ok ho (funK_sound TT mixed (law05_FieldChecks_EOk R) (keep := false) rfl rfl rfl rfl 0 (law05_FieldChecks_loops R)) fun (x : Pat.dens law05_FieldChecks_p) (y : HPat.dens law05_FieldChecks_q) k => law05_FieldChecks_ok law05_awake law04_Fit field_Make field_Check field_Get field_Num field_Text field_Flag field_List law05_FieldChecks_7_0_L law05_FieldChecks_19_0_L x.1 x.2.1 k

end Go.Proofs.Ytcocpfgemdkkfaa

/-
  Functions of the program as pure Lean functions, and the ties; printed by wip/tools/emit.py.
-/
set_option maxRecDepth 100000
set_option linter.unusedVariables false
namespace Go.Proofs.Ytcocpfgemdkkfaa
open Go Go.Yard

/-! ### humpyard/humpyardref05.Get -/
abbrev ref05_Get_ty (R : Type) : Type := Json → Str → (Json → Bool → Option R) → Option R
abbrev ref05_Get_p : List Pat := [.agg [.int .i64, .int .i64, .int .i64, .str, .sl .str, .sl .json], .leaf (.str)]
abbrev ref05_Get_q : List HPat := []
noncomputable def ref05_Get_rr {R : Type} (fn : ref05_Get_ty R) : Pat.dens ref05_Get_p → HPat.dens ref05_Get_q → (V → Heap → Option R) → Option R := fun x y k => fn (⟨x.1.1, ⟨x.1.2.1, x.1.2.2.1⟩, x.1.2.2.2.1, x.1.2.2.2.2.1, x.1.2.2.2.2.2.1⟩ : Json) x.2.1 (fun q0 q1 => k (.tuple [.agg [.int .i64 q0.kind, .int .i64 q0.num.mant, .int .i64 q0.num.exp, .str q0.text, .sl .str q0.names .no, .sl .json q0.items .no], .bool q1]) [])
abbrev ref05_Get_2_0_ty (R : Type) : Type := Nat → Str → Int → Json → Int → Int → Int → Str → (Int → Int → Int → Str → Option R) → (Bool → Json → Option R) → Option R
noncomputable def ref05_Get_E (R : Type) : Env R := fun i => match i with
  | _ => none
theorem ref05_Get_EOk (R : Type) : EOk Try.prog (ref05_Get_E R) := by
  intro i b sp h
  unfold ref05_Get_E at h
  split at h
  · cases h

noncomputable def ref05_Get_2_0_B {R : Type} (rec' : Str → Int → Json → Int → Int → Int → Str → Option R) (x3 : Str) (x4 : Int) (x5 : Json) (x6 : Int) (x7 : Int) (x8 : Int) (x9 : Str) (e0 : Int → Int → Int → Str → Option R) (e1 : Bool → Json → Option R) : Option R :=
  bif (decide (x4 < (x5.names.length : Int))) then (bif (decide (x4 < (x5.items.length : Int))) then (bif (x5.kind == 7) then (chk (decide ((0 : Int) ≤ x4) && decide (x4 < x5.names.length)) (bif ((x5.names.getD x4.toNat (Ty.dflt .str)) == x3) then (chk (decide ((0 : Int) ≤ x4) && decide (x4 < x5.items.length)) (e1 true (⟨(x5.items.getD x4.toNat (Ty.dflt .json)).kind, ⟨(x5.items.getD x4.toNat (Ty.dflt .json)).num.mant, (x5.items.getD x4.toNat (Ty.dflt .json)).num.exp⟩, (x5.items.getD x4.toNat (Ty.dflt .json)).text, (x5.items.getD x4.toNat (Ty.dflt .json)).names, (x5.items.getD x4.toNat (Ty.dflt .json)).items⟩ : Json))) else (rec' x3 (IntKind.i64.wrap (x4 + 1)) (⟨x5.kind, ⟨x5.num.mant, x5.num.exp⟩, x5.text, x5.names, x5.items⟩ : Json) x6 x7 x8 x9))) else (e0 x6 x7 x8 x9)) else (e0 x6 x7 x8 x9)) else (e0 x6 x7 x8 x9)
noncomputable def ref05_Get_2_0_L {R : Type} : ref05_Get_2_0_ty R
  | 0, _, _, _, _, _, _, _, _, _ => none
  | n + 1, x0', x1', x2', x3', x4', x5', x6', e0, e1 => ref05_Get_2_0_B (fun x0' x1' x2' x3' x4' x5' x6' => ref05_Get_2_0_L n x0' x1' x2' x3' x4' x5' x6' e0 e1) x0' x1' x2' x3' x4' x5' x6' e0 e1
noncomputable def ref05_Get_2_0_h : Hint := { live := [1, 2, 4, 6], own := [], rows := [], cells := [], drop := [], out := [4, 5] }
abbrev ref05_Get_2_0_D : Type := Str × Int × Json × Int × Int × Int × Str
noncomputable def ref05_Get_2_0_enc : ref05_Get_2_0_D → St := fun d => ⟨[.undef, .str d.1, .ptr 0 0, .undef, .ptr 1 0, .undef, .int .i64 d.2.1, .undef, .undef, .undef, .undef, .undef, .undef, .undef, .undef, .undef, .undef, .undef, .undef, .undef, .undef, .undef, .undef, .undef, .undef, .undef, .undef, .undef, .undef, .undef, .undef, .undef, .undef, .undef, .undef, .undef, .undef, .undef, .undef], [.cells [.int .i64 d.2.2.1.kind, .int .i64 d.2.2.1.num.mant, .int .i64 d.2.2.1.num.exp, .str d.2.2.1.text, .sl .str d.2.2.1.names .no, .sl .json d.2.2.1.items .no], .cells [.int .i64 d.2.2.2.1, .int .i64 d.2.2.2.2.1, .int .i64 d.2.2.2.2.2.1, .str d.2.2.2.2.2.2, .nilsl, .nilsl]]⟩
noncomputable def ref05_Get_2_0_x0 {R : Type} (K : Ex → St → Option R) (q0 : Int) (q1 : Int) (q2 : Int) (q3 : Str) : Option R := K (.exit 0) ⟨[.undef, .undef, .undef, .undef, .ptr 0 0, .undef, .undef, .undef, .undef, .undef, .undef, .undef, .undef, .undef, .undef, .undef, .undef, .undef, .undef, .undef, .undef, .undef, .undef, .undef, .undef, .undef, .undef, .undef, .undef, .undef, .undef, .undef, .undef, .undef, .undef, .undef, .undef, .undef, .undef], [.cells [.int .i64 q0, .int .i64 q1, .int .i64 q2, .str q3, .nilsl, .nilsl]]⟩
noncomputable def ref05_Get_2_0_x1 {R : Type} (K : Ex → St → Option R) (q0 : Bool) (q1 : Json) : Option R := K (.ret) ⟨[.undef, .undef, .undef, .undef, .ptr 0 0, .bool q0, .undef, .undef, .undef, .undef, .undef, .undef, .undef, .undef, .undef, .undef, .undef, .undef, .undef, .undef, .undef, .undef, .undef, .undef, .undef, .undef, .undef, .undef, .undef, .undef, .undef, .undef, .undef, .undef, .undef, .undef, .undef, .undef, .undef], [.cells [.int .i64 q1.kind, .int .i64 q1.num.mant, .int .i64 q1.num.exp, .str q1.text, .sl .str q1.names .no, .sl .json q1.items .no]]⟩
noncomputable def ref05_Get_2_0_s {R : Type} (K : Ex → St → Option R) (rc : ref05_Get_2_0_D → Option R) (d : ref05_Get_2_0_D) : Option R := ref05_Get_2_0_B (fun z0 z1 z2 z3 z4 z5 z6 => rc (z0, z1, z2, z3, z4, z5, z6)) d.1 d.2.1 d.2.2.1 d.2.2.2.1 d.2.2.2.2.1 d.2.2.2.2.2.1 d.2.2.2.2.2.2 (ref05_Get_2_0_x0 K) (ref05_Get_2_0_x1 K)
noncomputable def ref05_Get_2_0_A {R : Type} (K : Ex → St → Option R) (n : Nat) (d : ref05_Get_2_0_D) : Option R := ref05_Get_2_0_L n d.1 d.2.1 d.2.2.1 d.2.2.2.1 d.2.2.2.2.1 d.2.2.2.2.2.1 d.2.2.2.2.2.2 (ref05_Get_2_0_x0 K) (ref05_Get_2_0_x1 K)
abbrev ref05_Get_2_0_p : List Pat := [.leaf (.undef), .leaf (.str), .leaf (.ptr 0 0), .leaf (.undef), .leaf (.ptr 1 0), .leaf (.undef), .leaf (.int .i64), .leaf (.undef), .leaf (.undef), .leaf (.undef), .leaf (.undef), .leaf (.undef), .leaf (.undef), .leaf (.undef), .leaf (.undef), .leaf (.undef), .leaf (.undef), .leaf (.undef), .leaf (.undef), .leaf (.undef), .leaf (.undef), .leaf (.undef), .leaf (.undef), .leaf (.undef), .leaf (.undef), .leaf (.undef), .leaf (.undef), .leaf (.undef), .leaf (.undef), .leaf (.undef), .leaf (.undef), .leaf (.undef), .leaf (.undef), .leaf (.undef), .leaf (.undef), .leaf (.undef), .leaf (.undef), .leaf (.undef), .leaf (.undef)]
abbrev ref05_Get_2_0_q : List HPat := [.cells [.int .i64, .int .i64, .int .i64, .str, .sl .str, .sl .json], .cells [.int .i64, .int .i64, .int .i64, .str, .nilsl, .nilsl]]
noncomputable def ref05_Get_2_0_f (x : Pat.dens ref05_Get_2_0_p) (y : HPat.dens ref05_Get_2_0_q) : Nat := (List.length x.2.1 + Int.natAbs x.2.2.2.2.2.2.1 + Json.fu (⟨y.1.1, ⟨y.1.2.1, y.1.2.2.1⟩, y.1.2.2.2.1, y.1.2.2.2.2.1, y.1.2.2.2.2.2.1⟩ : Json) + Int.natAbs y.2.1.1 + Int.natAbs y.2.1.2.1 + Int.natAbs y.2.1.2.2.1 + List.length y.2.1.2.2.2.1 + 3)
noncomputable def ref05_Get_2_0_d (x : Pat.dens ref05_Get_2_0_p) (y : HPat.dens ref05_Get_2_0_q) : ref05_Get_2_0_D := (x.2.1, x.2.2.2.2.2.2.1, (⟨y.1.1, ⟨y.1.2.1, y.1.2.2.1⟩, y.1.2.2.2.1, y.1.2.2.2.2.1, y.1.2.2.2.2.2.1⟩ : Json), y.2.1.1, y.2.1.2.1, y.2.1.2.2.1, y.2.1.2.2.2.1)
noncomputable def ref05_Get_2_0_rr {R : Type} (L : ref05_Get_2_0_ty R) : Pat.dens ref05_Get_2_0_p → HPat.dens ref05_Get_2_0_q → (Ex → St → Option R) → Option R := fun x y K => L (ref05_Get_2_0_f x y) x.2.1 x.2.2.2.2.2.2.1 (⟨y.1.1, ⟨y.1.2.1, y.1.2.2.1⟩, y.1.2.2.2.1, y.1.2.2.2.2.1, y.1.2.2.2.2.2.1⟩ : Json) y.2.1.1 y.2.1.2.1 y.2.1.2.2.1 y.2.1.2.2.2.1 (ref05_Get_2_0_x0 K) (ref05_Get_2_0_x1 K)
noncomputable def ref05_Get_T (R : Type) (ref05_Get_2_0_L : ref05_Get_2_0_ty R) : Nat → Option (Hint × LSpec R) := fun i => match i with
  | 2 => some (ref05_Get_2_0_h, (loopBy ref05_Get_2_0_p ref05_Get_2_0_q (ref05_Get_2_0_rr ref05_Get_2_0_L) loopNo))
  | _ => none

theorem ref05_Get_2_0_B_ok {R : Type} (ref05_Get_2_0_L : ref05_Get_2_0_ty R) (K : Ex → St → Option R) (rc : St → Option R) (d : ref05_Get_2_0_D) : roundOf tt (ref05_Get_E R) (ref05_Get_T R ref05_Get_2_0_L) 0 ((loopsOf (codeOf Try.f33)).getD 0 .skip) ref05_Get_2_0_h (ref05_Get_2_0_enc d) rc K = ref05_Get_2_0_s K (fun d => rc (ref05_Get_2_0_enc d)) d := by kernel_rfl
theorem ref05_Get_2_0_A_succ {R : Type} (K : Ex → St → Option R) (n : Nat) (d : ref05_Get_2_0_D) : ref05_Get_2_0_A K (n + 1) d = ref05_Get_2_0_s K (ref05_Get_2_0_A K n) d := by kernel_rfl
theorem ref05_Get_2_0_A_zero {R : Type} (K : Ex → St → Option R) (d : ref05_Get_2_0_D) : ref05_Get_2_0_A K 0 d = none := by kernel_rfl
theorem ref05_Get_2_0_e_ok (x : Pat.dens ref05_Get_2_0_p) (y : HPat.dens ref05_Get_2_0_q) : (⟨Pat.encL ref05_Get_2_0_p x, HPat.encL ref05_Get_2_0_q y⟩ : St) = ref05_Get_2_0_enc (ref05_Get_2_0_d x y) := by kernel_rfl
theorem ref05_Get_2_0_r_ok {R : Type} (x : Pat.dens ref05_Get_2_0_p) (y : HPat.dens ref05_Get_2_0_q) (K : Ex → St → Option R) : ref05_Get_2_0_rr (ref05_Get_2_0_L) x y K = ref05_Get_2_0_A K (ref05_Get_2_0_f x y) (ref05_Get_2_0_d x y) := by kernel_rfl
theorem ref05_Get_2_0_ok {R : Type} (other : LSpec R) (ho : LsOk tt (ref05_Get_E R) (ref05_Get_T R ref05_Get_2_0_L) 0 ((loopsOf (codeOf Try.f33)).getD 0 .skip) ref05_Get_2_0_h other) : LsOk tt (ref05_Get_E R) (ref05_Get_T R ref05_Get_2_0_L) 0 ((loopsOf (codeOf Try.f33)).getD 0 .skip) ref05_Get_2_0_h (loopBy ref05_Get_2_0_p ref05_Get_2_0_q (ref05_Get_2_0_rr (ref05_Get_2_0_L)) other) :=
  loopBy_tie (A := ref05_Get_2_0_A) ho (loop_tie ref05_Get_2_0_enc (ref05_Get_2_0_s) (ref05_Get_2_0_A) (ref05_Get_2_0_A_zero) (ref05_Get_2_0_B_ok ref05_Get_2_0_L) (ref05_Get_2_0_A_succ)) ref05_Get_2_0_f ref05_Get_2_0_d ref05_Get_2_0_e_ok (ref05_Get_2_0_r_ok)

noncomputable def ref05_Get_X {R : Type} (ref05_Get_2_0_L : ref05_Get_2_0_ty R) (x1 : Json) (x2 : Str) (k0 : Json → Bool → Option R) : Option R :=
  ref05_Get_2_0_L (List.length x2 + Int.natAbs 0 + Json.fu (⟨x1.kind, ⟨x1.num.mant, x1.num.exp⟩, x1.text, x1.names, x1.items⟩ : Json) + Int.natAbs 0 + Int.natAbs 0 + Int.natAbs 0 + List.length ([] : Str) + 3) x2 0 (⟨x1.kind, ⟨x1.num.mant, x1.num.exp⟩, x1.text, x1.names, x1.items⟩ : Json) 0 0 0 ([] : Str) (fun y11 y12 y13 y14 => k0 (⟨0, ⟨0, 0⟩, ([] : Str), ([] : List Str), ([] : List Json)⟩ : Json) false) (fun y15 y16 => k0 (⟨y16.kind, ⟨y16.num.mant, y16.num.exp⟩, y16.text, y16.names, y16.items⟩ : Json) y15)
noncomputable def ref05_Get {R : Type} : ref05_Get_ty R := fun x1 x2 k0 => ref05_Get_X ref05_Get_2_0_L x1 x2 k0
theorem ref05_Get_ok {R : Type} (ref05_Get_2_0_L : ref05_Get_2_0_ty R) (x1 : Json) (x2 : Str) (k : V → Heap → Option R) : funK tt (ref05_Get_E R) (ref05_Get_T R ref05_Get_2_0_L) false Try.f33 (codeOf Try.f33) [.agg [.int .i64 x1.kind, .int .i64 x1.num.mant, .int .i64 x1.num.exp, .str x1.text, .sl .str x1.names .no, .sl .json x1.items .no], .str x2] [] k =
    ref05_Get_X ref05_Get_2_0_L x1 x2 (fun q0 q1 => k (.tuple [.agg [.int .i64 q0.kind, .int .i64 q0.num.mant, .int .i64 q0.num.exp, .str q0.text, .sl .str q0.names .no, .sl .json q0.items .no], .bool q1]) []) := by kernel_rfl
theorem ref05_Get_loops (R : Type) : ∀ a ∈ loopsOf (codeOf Try.f33), LoopOk tt (ref05_Get_E R) (ref05_Get_T R ref05_Get_2_0_L) 0 a := by
  refine loops_ok 1 (by kernel_rfl) fun i hi => ?_
  match i, hi with
  | 0, _ => exact loopOk_some (by kernel_rfl) (ref05_Get_2_0_ok _ loopNo_ok)
  | n + 1, hi => omega
theorem ref05_Get_S_ok (R : Type) (other : Yard.Spec R) (ho : Yard.Spec.Ok Try.prog 33 other) : Yard.Spec.Ok Try.prog 33 (specBy ref05_Get_p ref05_Get_q (ref05_Get_rr ref05_Get) other) :=
  specBy_ok ho (funK_sound TT mixed (ref05_Get_EOk R) (keep := false) rfl rfl rfl rfl 0 (ref05_Get_loops R)) fun (x : Pat.dens ref05_Get_p) (y : HPat.dens ref05_Get_q) k => ref05_Get_ok ref05_Get_2_0_L (⟨x.1.1, ⟨x.1.2.1, x.1.2.2.1⟩, x.1.2.2.2.1, x.1.2.2.2.2.1, x.1.2.2.2.2.2.1⟩ : Json) x.2.1 k

/-! ### humpyard/humpyardref05.Make -/
abbrev ref05_Make_ty (R : Type) : Type := (List Str) → (List Json) → (Json → Option R) → Option R
abbrev ref05_Make_p : List Pat := [.leaf (.sl .str), .leaf (.sl .json)]
abbrev ref05_Make_q : List HPat := []
noncomputable def ref05_Make_rr {R : Type} (fn : ref05_Make_ty R) : Pat.dens ref05_Make_p → HPat.dens ref05_Make_q → (V → Heap → Option R) → Option R := fun x y k => fn x.1 x.2.1 (fun q0 => k (.agg [.int .i64 q0.kind, .int .i64 q0.num.mant, .int .i64 q0.num.exp, .str q0.text, .sl .str q0.names .no, .sl .json q0.items .no]) [])
abbrev ref05_Make_3_0_ty (R : Type) : Type := Nat → (List Str) → (List Json) → Int → Int → Int → Int → Str → Int → Int → Int → Str → (List Str) → (List Json) → (Int → Int → Int → Str → Int → Int → Int → Str → (List Str) → (List Json) → Option R) → Option R
noncomputable def ref05_Make_E (R : Type) (ref05_Get : ref05_Get_ty R) : Env R := fun i => match i with
  | 33 => some (true, (specBy ref05_Get_p ref05_Get_q (ref05_Get_rr ref05_Get) specNo))
  | _ => none
theorem ref05_Make_EOk (R : Type) : EOk Try.prog (ref05_Make_E R ref05_Get) := by
  intro i b sp h
  unfold ref05_Make_E at h
  split at h
  · cases h; exact (ref05_Get_S_ok R _ (specNo_ok _))
  · cases h

noncomputable def ref05_Make_3_0_B {R : Type} (ref05_Get : ref05_Get_ty R) (rec' : (List Str) → (List Json) → Int → Int → Int → Int → Str → Int → Int → Int → Str → (List Str) → (List Json) → Option R) (x3 : List Str) (x4 : List Json) (x5 : Int) (x6 : Int) (x7 : Int) (x8 : Int) (x9 : Str) (x10 : Int) (x11 : Int) (x12 : Int) (x13 : Str) (x14 : List Str) (x15 : List Json) (e0 : Int → Int → Int → Str → Int → Int → Int → Str → (List Str) → (List Json) → Option R) : Option R :=
  bif (decide (x5 < (x3.length : Int))) then (bif (decide (x5 < (x4.length : Int))) then (chk (decide ((0 : Int) ≤ x5) && decide (x5 < x3.length)) (ref05_Get (⟨x10, ⟨x11, x12⟩, x13, x14, x15⟩ : Json) (x3.getD x5.toNat (Ty.dflt .str)) (fun y17 y18 => bif (!y18) then (chk (decide ((0 : Int) ≤ x5) && decide (x5 < x3.length)) (chk (decide ((x14.length + 1) * 16 ≤ 140737488355328)) (chk (decide ((0 : Int) ≤ x5) && decide (x5 < x4.length)) (chk (decide ((x15.length + 1) * 88 ≤ 140737488355328)) (rec' x3 x4 (IntKind.i64.wrap (x5 + 1)) x6 x7 x8 x9 x10 x11 x12 x13 (x14 ++ ([(x3.getD x5.toNat (Ty.dflt .str))] : List Str)) (x15 ++ ([(⟨(x4.getD x5.toNat (Ty.dflt .json)).kind, ⟨(x4.getD x5.toNat (Ty.dflt .json)).num.mant, (x4.getD x5.toNat (Ty.dflt .json)).num.exp⟩, (x4.getD x5.toNat (Ty.dflt .json)).text, (x4.getD x5.toNat (Ty.dflt .json)).names, (x4.getD x5.toNat (Ty.dflt .json)).items⟩ : Json)] : List Json))))))) else (rec' x3 x4 (IntKind.i64.wrap (x5 + 1)) x6 x7 x8 x9 x10 x11 x12 x13 x14 x15)))) else (e0 x6 x7 x8 x9 x10 x11 x12 x13 x14 x15)) else (e0 x6 x7 x8 x9 x10 x11 x12 x13 x14 x15)
noncomputable def ref05_Make_3_0_L {R : Type} : ref05_Make_3_0_ty R
  | 0, _, _, _, _, _, _, _, _, _, _, _, _, _, _ => none
  | n + 1, x0', x1', x2', x3', x4', x5', x6', x7', x8', x9', x10', x11', x12', e0 => ref05_Make_3_0_B ref05_Get (fun x0' x1' x2' x3' x4' x5' x6' x7' x8' x9' x10' x11' x12' => ref05_Make_3_0_L n x0' x1' x2' x3' x4' x5' x6' x7' x8' x9' x10' x11' x12' e0) x0' x1' x2' x3' x4' x5' x6' x7' x8' x9' x10' x11' x12' e0
noncomputable def ref05_Make_3_0_h : Hint := { live := [0, 1, 4, 5, 6], own := [], rows := [], cells := [(1, 4, .str, false), (1, 5, .json, false)], drop := [], out := [4, 5] }
abbrev ref05_Make_3_0_D : Type := (List Str) × (List Json) × Int × Int × Int × Int × Str × Int × Int × Int × Str × (List Str) × (List Json)
noncomputable def ref05_Make_3_0_enc : ref05_Make_3_0_D → St := fun d => ⟨[.sl .str d.1 .no, .sl .json d.2.1 .no, .undef, .undef, .ptr 0 0, .ptr 1 0, .int .i64 d.2.2.1, .undef, .undef, .undef, .undef, .undef, .undef, .undef, .undef, .undef, .undef, .undef, .undef, .undef, .undef, .undef, .undef, .undef, .undef, .undef, .undef, .undef, .undef, .undef, .undef, .undef, .undef, .undef, .undef, .undef, .undef, .undef, .undef, .undef, .undef, .undef, .undef, .undef, .undef, .undef, .undef, .undef, .undef, .undef, .undef, .undef], [.cells [.int .i64 d.2.2.2.1, .int .i64 d.2.2.2.2.1, .int .i64 d.2.2.2.2.2.1, .str d.2.2.2.2.2.2.1, .nilsl, .nilsl], .cells [.int .i64 d.2.2.2.2.2.2.2.1, .int .i64 d.2.2.2.2.2.2.2.2.1, .int .i64 d.2.2.2.2.2.2.2.2.2.1, .str d.2.2.2.2.2.2.2.2.2.2.1, .sl .str d.2.2.2.2.2.2.2.2.2.2.2.1 (.own 2), .sl .json d.2.2.2.2.2.2.2.2.2.2.2.2 (.own 3)], .tok, .tok]⟩
noncomputable def ref05_Make_3_0_x0 {R : Type} (K : Ex → St → Option R) (q0 : Int) (q1 : Int) (q2 : Int) (q3 : Str) (q4 : Int) (q5 : Int) (q6 : Int) (q7 : Str) (q8 : List Str) (q9 : List Json) : Option R := K (.exit 0) ⟨[.undef, .undef, .undef, .undef, .ptr 0 0, .ptr 1 0, .undef, .undef, .undef, .undef, .undef, .undef, .undef, .undef, .undef, .undef, .undef, .undef, .undef, .undef, .undef, .undef, .undef, .undef, .undef, .undef, .undef, .undef, .undef, .undef, .undef, .undef, .undef, .undef, .undef, .undef, .undef, .undef, .undef, .undef, .undef, .undef, .undef, .undef, .undef, .undef, .undef, .undef, .undef, .undef, .undef, .undef], [.cells [.int .i64 q0, .int .i64 q1, .int .i64 q2, .str q3, .nilsl, .nilsl], .cells [.int .i64 q4, .int .i64 q5, .int .i64 q6, .str q7, .sl .str q8 (.own 2), .sl .json q9 (.own 3)], .tok, .tok]⟩
noncomputable def ref05_Make_3_0_s {R : Type} (ref05_Get : ref05_Get_ty R) (K : Ex → St → Option R) (rc : ref05_Make_3_0_D → Option R) (d : ref05_Make_3_0_D) : Option R := ref05_Make_3_0_B ref05_Get (fun z0 z1 z2 z3 z4 z5 z6 z7 z8 z9 z10 z11 z12 => rc (z0, z1, z2, z3, z4, z5, z6, z7, z8, z9, z10, z11, z12)) d.1 d.2.1 d.2.2.1 d.2.2.2.1 d.2.2.2.2.1 d.2.2.2.2.2.1 d.2.2.2.2.2.2.1 d.2.2.2.2.2.2.2.1 d.2.2.2.2.2.2.2.2.1 d.2.2.2.2.2.2.2.2.2.1 d.2.2.2.2.2.2.2.2.2.2.1 d.2.2.2.2.2.2.2.2.2.2.2.1 d.2.2.2.2.2.2.2.2.2.2.2.2 (ref05_Make_3_0_x0 K)
noncomputable def ref05_Make_3_0_A {R : Type} (K : Ex → St → Option R) (n : Nat) (d : ref05_Make_3_0_D) : Option R := ref05_Make_3_0_L n d.1 d.2.1 d.2.2.1 d.2.2.2.1 d.2.2.2.2.1 d.2.2.2.2.2.1 d.2.2.2.2.2.2.1 d.2.2.2.2.2.2.2.1 d.2.2.2.2.2.2.2.2.1 d.2.2.2.2.2.2.2.2.2.1 d.2.2.2.2.2.2.2.2.2.2.1 d.2.2.2.2.2.2.2.2.2.2.2.1 d.2.2.2.2.2.2.2.2.2.2.2.2 (ref05_Make_3_0_x0 K)
abbrev ref05_Make_3_0_p : List Pat := [.leaf (.sl .str), .leaf (.sl .json), .leaf (.undef), .leaf (.undef), .leaf (.ptr 0 0), .leaf (.ptr 1 0), .leaf (.int .i64), .leaf (.undef), .leaf (.undef), .leaf (.undef), .leaf (.undef), .leaf (.undef), .leaf (.undef), .leaf (.undef), .leaf (.undef), .leaf (.undef), .leaf (.undef), .leaf (.undef), .leaf (.undef), .leaf (.undef), .leaf (.undef), .leaf (.undef), .leaf (.undef), .leaf (.undef), .leaf (.undef), .leaf (.undef), .leaf (.undef), .leaf (.undef), .leaf (.undef), .leaf (.undef), .leaf (.undef), .leaf (.undef), .leaf (.undef), .leaf (.undef), .leaf (.undef), .leaf (.undef), .leaf (.undef), .leaf (.undef), .leaf (.undef), .leaf (.undef), .leaf (.undef), .leaf (.undef), .leaf (.undef), .leaf (.undef), .leaf (.undef), .leaf (.undef), .leaf (.undef), .leaf (.undef), .leaf (.undef), .leaf (.undef), .leaf (.undef), .leaf (.undef)]
abbrev ref05_Make_3_0_q : List HPat := [.cells [.int .i64, .int .i64, .int .i64, .str, .nilsl, .nilsl], .cells [.int .i64, .int .i64, .int .i64, .str, .slo .str 2, .slo .json 3], .tok, .tok]
noncomputable def ref05_Make_3_0_f (x : Pat.dens ref05_Make_3_0_p) (y : HPat.dens ref05_Make_3_0_q) : Nat := (List.length x.1 + List.length x.2.1 + Int.natAbs x.2.2.2.2.2.2.1 + Int.natAbs y.1.1 + Int.natAbs y.1.2.1 + Int.natAbs y.1.2.2.1 + List.length y.1.2.2.2.1 + Int.natAbs y.2.1.1 + Int.natAbs y.2.1.2.1 + Int.natAbs y.2.1.2.2.1 + List.length y.2.1.2.2.2.1 + List.length y.2.1.2.2.2.2.1 + List.length y.2.1.2.2.2.2.2.1 + 3)
noncomputable def ref05_Make_3_0_d (x : Pat.dens ref05_Make_3_0_p) (y : HPat.dens ref05_Make_3_0_q) : ref05_Make_3_0_D := (x.1, x.2.1, x.2.2.2.2.2.2.1, y.1.1, y.1.2.1, y.1.2.2.1, y.1.2.2.2.1, y.2.1.1, y.2.1.2.1, y.2.1.2.2.1, y.2.1.2.2.2.1, y.2.1.2.2.2.2.1, y.2.1.2.2.2.2.2.1)
noncomputable def ref05_Make_3_0_rr {R : Type} (L : ref05_Make_3_0_ty R) : Pat.dens ref05_Make_3_0_p → HPat.dens ref05_Make_3_0_q → (Ex → St → Option R) → Option R := fun x y K => L (ref05_Make_3_0_f x y) x.1 x.2.1 x.2.2.2.2.2.2.1 y.1.1 y.1.2.1 y.1.2.2.1 y.1.2.2.2.1 y.2.1.1 y.2.1.2.1 y.2.1.2.2.1 y.2.1.2.2.2.1 y.2.1.2.2.2.2.1 y.2.1.2.2.2.2.2.1 (ref05_Make_3_0_x0 K)
noncomputable def ref05_Make_T (R : Type) (ref05_Make_3_0_L : ref05_Make_3_0_ty R) : Nat → Option (Hint × LSpec R) := fun i => match i with
  | 3 => some (ref05_Make_3_0_h, (loopBy ref05_Make_3_0_p ref05_Make_3_0_q (ref05_Make_3_0_rr ref05_Make_3_0_L) loopNo))
  | _ => none

theorem ref05_Make_3_0_B_ok {R : Type} (ref05_Get : ref05_Get_ty R) (ref05_Make_3_0_L : ref05_Make_3_0_ty R) (K : Ex → St → Option R) (rc : St → Option R) (d : ref05_Make_3_0_D) : roundOf tt (ref05_Make_E R ref05_Get) (ref05_Make_T R ref05_Make_3_0_L) 0 ((loopsOf (codeOf Try.f32)).getD 0 .skip) ref05_Make_3_0_h (ref05_Make_3_0_enc d) rc K = ref05_Make_3_0_s ref05_Get K (fun d => rc (ref05_Make_3_0_enc d)) d := by kernel_rfl
theorem ref05_Make_3_0_A_succ {R : Type} (K : Ex → St → Option R) (n : Nat) (d : ref05_Make_3_0_D) : ref05_Make_3_0_A K (n + 1) d = ref05_Make_3_0_s ref05_Get K (ref05_Make_3_0_A K n) d := by kernel_rfl
theorem ref05_Make_3_0_A_zero {R : Type} (K : Ex → St → Option R) (d : ref05_Make_3_0_D) : ref05_Make_3_0_A K 0 d = none := by kernel_rfl
theorem ref05_Make_3_0_e_ok (x : Pat.dens ref05_Make_3_0_p) (y : HPat.dens ref05_Make_3_0_q) : (⟨Pat.encL ref05_Make_3_0_p x, HPat.encL ref05_Make_3_0_q y⟩ : St) = ref05_Make_3_0_enc (ref05_Make_3_0_d x y) := by kernel_rfl
theorem ref05_Make_3_0_r_ok {R : Type} (x : Pat.dens ref05_Make_3_0_p) (y : HPat.dens ref05_Make_3_0_q) (K : Ex → St → Option R) : ref05_Make_3_0_rr (ref05_Make_3_0_L) x y K = ref05_Make_3_0_A K (ref05_Make_3_0_f x y) (ref05_Make_3_0_d x y) := by kernel_rfl
theorem ref05_Make_3_0_ok {R : Type} (other : LSpec R) (ho : LsOk tt (ref05_Make_E R ref05_Get) (ref05_Make_T R ref05_Make_3_0_L) 0 ((loopsOf (codeOf Try.f32)).getD 0 .skip) ref05_Make_3_0_h other) : LsOk tt (ref05_Make_E R ref05_Get) (ref05_Make_T R ref05_Make_3_0_L) 0 ((loopsOf (codeOf Try.f32)).getD 0 .skip) ref05_Make_3_0_h (loopBy ref05_Make_3_0_p ref05_Make_3_0_q (ref05_Make_3_0_rr (ref05_Make_3_0_L)) other) :=
  loopBy_tie (A := ref05_Make_3_0_A) ho (loop_tie ref05_Make_3_0_enc (ref05_Make_3_0_s ref05_Get) (ref05_Make_3_0_A) (ref05_Make_3_0_A_zero) (ref05_Make_3_0_B_ok ref05_Get ref05_Make_3_0_L) (ref05_Make_3_0_A_succ)) ref05_Make_3_0_f ref05_Make_3_0_d ref05_Make_3_0_e_ok (ref05_Make_3_0_r_ok)

noncomputable def ref05_Make_X {R : Type} (ref05_Make_3_0_L : ref05_Make_3_0_ty R) (x1 : List Str) (x2 : List Json) (k0 : Json → Option R) : Option R :=
  ref05_Make_3_0_L (List.length x1 + List.length x2 + Int.natAbs 0 + Int.natAbs 0 + Int.natAbs 0 + Int.natAbs 0 + List.length ([] : Str) + Int.natAbs 7 + Int.natAbs 0 + Int.natAbs 0 + List.length ([] : Str) + List.length ([] : List Str) + List.length ([] : List Json) + 3) x1 x2 0 0 0 0 ([] : Str) 7 0 0 ([] : Str) ([] : List Str) ([] : List Json) (fun y19 y20 y21 y22 y23 y24 y25 y26 y27 y28 => k0 (⟨y23, ⟨y24, y25⟩, y26, y27, y28⟩ : Json))
noncomputable def ref05_Make {R : Type} : ref05_Make_ty R := fun x1 x2 k0 => ref05_Make_X ref05_Make_3_0_L x1 x2 k0
theorem ref05_Make_ok {R : Type} (ref05_Get : ref05_Get_ty R) (ref05_Make_3_0_L : ref05_Make_3_0_ty R) (x1 : List Str) (x2 : List Json) (k : V → Heap → Option R) : funK tt (ref05_Make_E R ref05_Get) (ref05_Make_T R ref05_Make_3_0_L) false Try.f32 (codeOf Try.f32) [.sl .str x1 .no, .sl .json x2 .no] [] k =
    ref05_Make_X ref05_Make_3_0_L x1 x2 (fun q0 => k (.agg [.int .i64 q0.kind, .int .i64 q0.num.mant, .int .i64 q0.num.exp, .str q0.text, .sl .str q0.names .no, .sl .json q0.items .no]) []) := by kernel_rfl
theorem ref05_Make_loops (R : Type) : ∀ a ∈ loopsOf (codeOf Try.f32), LoopOk tt (ref05_Make_E R ref05_Get) (ref05_Make_T R ref05_Make_3_0_L) 0 a := by
  refine loops_ok 1 (by kernel_rfl) fun i hi => ?_
  match i, hi with
  | 0, _ => exact loopOk_some (by kernel_rfl) (ref05_Make_3_0_ok _ loopNo_ok)
  | n + 1, hi => omega
theorem ref05_Make_S_ok (R : Type) (other : Yard.Spec R) (ho : Yard.Spec.Ok Try.prog 32 other) : Yard.Spec.Ok Try.prog 32 (specBy ref05_Make_p ref05_Make_q (ref05_Make_rr ref05_Make) other) :=
  specBy_ok ho (funK_sound TT mixed (ref05_Make_EOk R) (keep := false) rfl rfl rfl rfl 0 (ref05_Make_loops R)) fun (x : Pat.dens ref05_Make_p) (y : HPat.dens ref05_Make_q) k => ref05_Make_ok ref05_Get ref05_Make_3_0_L x.1 x.2.1 k

/-! ### humpyard/humpyardref01.Make -/
abbrev ref01_Make_ty (R : Type) : Type := Int → Int → (Dcm → Bool → Option R) → Option R
abbrev ref01_Make_p : List Pat := [.leaf (.int .i64), .leaf (.int .i64)]
abbrev ref01_Make_q : List HPat := []
noncomputable def ref01_Make_rr {R : Type} (fn : ref01_Make_ty R) : Pat.dens ref01_Make_p → HPat.dens ref01_Make_q → (V → Heap → Option R) → Option R := fun x y k => fn x.1 x.2.1 (fun q0 q1 => k (.tuple [.agg [.int .i64 q0.mant, .int .i64 q0.exp], .bool q1]) [])
abbrev ref01_Make_3_0_ty (R : Type) : Type := Nat → Int → Int → Dcm → (Int → Int → Dcm → Option R) → (Int → Int → Bool → Dcm → Option R) → Option R
noncomputable def ref01_Make_E (R : Type) : Env R := fun i => match i with
  | _ => none
theorem ref01_Make_EOk (R : Type) : EOk Try.prog (ref01_Make_E R) := by
  intro i b sp h
  unfold ref01_Make_E at h
  split at h
  · cases h

noncomputable def ref01_Make_3_0_B {R : Type} (rec' : Int → Int → Dcm → Option R) (x3 : Int) (x4 : Int) (x5 : Dcm) (e0 : Int → Int → Dcm → Option R) (e1 : Int → Int → Bool → Dcm → Option R) : Option R :=
  bif ((Int.tmod x3 10) == 0) then (bif (decide (x4 > (1099511627776 : Int))) then (e1 (IntKind.i64.wrap (Int.tdiv x3 10)) x4 false (⟨0, 0⟩ : Dcm)) else (rec' (IntKind.i64.wrap (Int.tdiv x3 10)) (IntKind.i64.wrap (x4 + 1)) x5)) else (e0 x3 x4 x5)
noncomputable def ref01_Make_3_0_L {R : Type} : ref01_Make_3_0_ty R
  | 0, _, _, _, _, _ => none
  | n + 1, x0', x1', x2', e0, e1 => ref01_Make_3_0_B (fun x0' x1' x2' => ref01_Make_3_0_L n x0' x1' x2' e0 e1) x0' x1' x2' e0 e1
noncomputable def ref01_Make_3_0_h : Hint := { live := [0, 1, 4], own := [], rows := [], cells := [], drop := [], out := [0, 1, 4, 5] }
abbrev ref01_Make_3_0_D : Type := Int × Int × Dcm
noncomputable def ref01_Make_3_0_enc : ref01_Make_3_0_D → St := fun d => ⟨[.int .i64 d.1, .int .i64 d.2.1, .undef, .undef, .ptr 0 0, .undef, .undef, .undef, .undef, .undef, .undef, .undef, .undef, .undef, .undef, .undef, .undef, .undef, .undef, .undef, .undef, .undef, .undef, .undef, .undef, .undef, .undef, .undef, .undef, .undef, .undef, .undef, .undef, .undef, .undef, .undef, .undef], [.cells [.int .i64 d.2.2.mant, .int .i64 d.2.2.exp]]⟩
noncomputable def ref01_Make_3_0_x0 {R : Type} (K : Ex → St → Option R) (q0 : Int) (q1 : Int) (q2 : Dcm) : Option R := K (.exit 0) ⟨[.int .i64 q0, .int .i64 q1, .undef, .undef, .ptr 0 0, .undef, .undef, .undef, .undef, .undef, .undef, .undef, .undef, .undef, .undef, .undef, .undef, .undef, .undef, .undef, .undef, .undef, .undef, .undef, .undef, .undef, .undef, .undef, .undef, .undef, .undef, .undef, .undef, .undef, .undef, .undef, .undef], [.cells [.int .i64 q2.mant, .int .i64 q2.exp]]⟩
noncomputable def ref01_Make_3_0_x1 {R : Type} (K : Ex → St → Option R) (q0 : Int) (q1 : Int) (q2 : Bool) (q3 : Dcm) : Option R := K (.ret) ⟨[.int .i64 q0, .int .i64 q1, .undef, .undef, .ptr 0 0, .bool q2, .undef, .undef, .undef, .undef, .undef, .undef, .undef, .undef, .undef, .undef, .undef, .undef, .undef, .undef, .undef, .undef, .undef, .undef, .undef, .undef, .undef, .undef, .undef, .undef, .undef, .undef, .undef, .undef, .undef, .undef, .undef], [.cells [.int .i64 q3.mant, .int .i64 q3.exp]]⟩
noncomputable def ref01_Make_3_0_s {R : Type} (K : Ex → St → Option R) (rc : ref01_Make_3_0_D → Option R) (d : ref01_Make_3_0_D) : Option R := ref01_Make_3_0_B (fun z0 z1 z2 => rc (z0, z1, z2)) d.1 d.2.1 d.2.2 (ref01_Make_3_0_x0 K) (ref01_Make_3_0_x1 K)
noncomputable def ref01_Make_3_0_A {R : Type} (K : Ex → St → Option R) (n : Nat) (d : ref01_Make_3_0_D) : Option R := ref01_Make_3_0_L n d.1 d.2.1 d.2.2 (ref01_Make_3_0_x0 K) (ref01_Make_3_0_x1 K)
abbrev ref01_Make_3_0_p : List Pat := [.leaf (.int .i64), .leaf (.int .i64), .leaf (.undef), .leaf (.undef), .leaf (.ptr 0 0), .leaf (.undef), .leaf (.undef), .leaf (.undef), .leaf (.undef), .leaf (.undef), .leaf (.undef), .leaf (.undef), .leaf (.undef), .leaf (.undef), .leaf (.undef), .leaf (.undef), .leaf (.undef), .leaf (.undef), .leaf (.undef), .leaf (.undef), .leaf (.undef), .leaf (.undef), .leaf (.undef), .leaf (.undef), .leaf (.undef), .leaf (.undef), .leaf (.undef), .leaf (.undef), .leaf (.undef), .leaf (.undef), .leaf (.undef), .leaf (.undef), .leaf (.undef), .leaf (.undef), .leaf (.undef), .leaf (.undef), .leaf (.undef)]
abbrev ref01_Make_3_0_q : List HPat := [.cells [.int .i64, .int .i64]]
noncomputable def ref01_Make_3_0_f (x : Pat.dens ref01_Make_3_0_p) (y : HPat.dens ref01_Make_3_0_q) : Nat := (Int.natAbs x.1 + Int.natAbs x.2.1 + Dcm.fu (⟨y.1.1, y.1.2.1⟩ : Dcm) + 3)
noncomputable def ref01_Make_3_0_d (x : Pat.dens ref01_Make_3_0_p) (y : HPat.dens ref01_Make_3_0_q) : ref01_Make_3_0_D := (x.1, x.2.1, (⟨y.1.1, y.1.2.1⟩ : Dcm))
noncomputable def ref01_Make_3_0_rr {R : Type} (L : ref01_Make_3_0_ty R) : Pat.dens ref01_Make_3_0_p → HPat.dens ref01_Make_3_0_q → (Ex → St → Option R) → Option R := fun x y K => L (ref01_Make_3_0_f x y) x.1 x.2.1 (⟨y.1.1, y.1.2.1⟩ : Dcm) (ref01_Make_3_0_x0 K) (ref01_Make_3_0_x1 K)
noncomputable def ref01_Make_T (R : Type) (ref01_Make_3_0_L : ref01_Make_3_0_ty R) : Nat → Option (Hint × LSpec R) := fun i => match i with
  | 3 => some (ref01_Make_3_0_h, (loopBy ref01_Make_3_0_p ref01_Make_3_0_q (ref01_Make_3_0_rr ref01_Make_3_0_L) loopNo))
  | _ => none

theorem ref01_Make_3_0_B_ok {R : Type} (ref01_Make_3_0_L : ref01_Make_3_0_ty R) (K : Ex → St → Option R) (rc : St → Option R) (d : ref01_Make_3_0_D) : roundOf tt (ref01_Make_E R) (ref01_Make_T R ref01_Make_3_0_L) 0 ((loopsOf (codeOf Try.f83)).getD 0 .skip) ref01_Make_3_0_h (ref01_Make_3_0_enc d) rc K = ref01_Make_3_0_s K (fun d => rc (ref01_Make_3_0_enc d)) d := by kernel_rfl
theorem ref01_Make_3_0_A_succ {R : Type} (K : Ex → St → Option R) (n : Nat) (d : ref01_Make_3_0_D) : ref01_Make_3_0_A K (n + 1) d = ref01_Make_3_0_s K (ref01_Make_3_0_A K n) d := by kernel_rfl
theorem ref01_Make_3_0_A_zero {R : Type} (K : Ex → St → Option R) (d : ref01_Make_3_0_D) : ref01_Make_3_0_A K 0 d = none := by kernel_rfl
theorem ref01_Make_3_0_e_ok (x : Pat.dens ref01_Make_3_0_p) (y : HPat.dens ref01_Make_3_0_q) : (⟨Pat.encL ref01_Make_3_0_p x, HPat.encL ref01_Make_3_0_q y⟩ : St) = ref01_Make_3_0_enc (ref01_Make_3_0_d x y) := by kernel_rfl
theorem ref01_Make_3_0_r_ok {R : Type} (x : Pat.dens ref01_Make_3_0_p) (y : HPat.dens ref01_Make_3_0_q) (K : Ex → St → Option R) : ref01_Make_3_0_rr (ref01_Make_3_0_L) x y K = ref01_Make_3_0_A K (ref01_Make_3_0_f x y) (ref01_Make_3_0_d x y) := by kernel_rfl
theorem ref01_Make_3_0_ok {R : Type} (other : LSpec R) (ho : LsOk tt (ref01_Make_E R) (ref01_Make_T R ref01_Make_3_0_L) 0 ((loopsOf (codeOf Try.f83)).getD 0 .skip) ref01_Make_3_0_h other) : LsOk tt (ref01_Make_E R) (ref01_Make_T R ref01_Make_3_0_L) 0 ((loopsOf (codeOf Try.f83)).getD 0 .skip) ref01_Make_3_0_h (loopBy ref01_Make_3_0_p ref01_Make_3_0_q (ref01_Make_3_0_rr (ref01_Make_3_0_L)) other) :=
  loopBy_tie (A := ref01_Make_3_0_A) ho (loop_tie ref01_Make_3_0_enc (ref01_Make_3_0_s) (ref01_Make_3_0_A) (ref01_Make_3_0_A_zero) (ref01_Make_3_0_B_ok ref01_Make_3_0_L) (ref01_Make_3_0_A_succ)) ref01_Make_3_0_f ref01_Make_3_0_d ref01_Make_3_0_e_ok (ref01_Make_3_0_r_ok)

noncomputable def ref01_Make_X {R : Type} (ref01_Make_3_0_L : ref01_Make_3_0_ty R) (x1 : Int) (x2 : Int) (k0 : Dcm → Bool → Option R) : Option R :=
  bif (x1 == 0) then (k0 (⟨0, 0⟩ : Dcm) true) else (ref01_Make_3_0_L (Int.natAbs x1 + Int.natAbs x2 + Dcm.fu (⟨0, 0⟩ : Dcm) + 3) x1 x2 (⟨0, 0⟩ : Dcm) (fun y6 y7 y8 => bif (decide (y6 > (1000000000000000 : Int))) then (k0 (⟨0, 0⟩ : Dcm) false) else (bif (decide (y6 < (-1000000000000000 : Int))) then (k0 (⟨0, 0⟩ : Dcm) false) else (bif (decide (y7 > (9 : Int))) then (k0 (⟨0, 0⟩ : Dcm) false) else (bif (decide (y7 < (-9 : Int))) then (k0 (⟨0, 0⟩ : Dcm) false) else (k0 (⟨y6, y7⟩ : Dcm) true))))) (fun y9 y10 y11 y12 => k0 y12 y11))
noncomputable def ref01_Make {R : Type} : ref01_Make_ty R := fun x1 x2 k0 => ref01_Make_X ref01_Make_3_0_L x1 x2 k0
theorem ref01_Make_ok {R : Type} (ref01_Make_3_0_L : ref01_Make_3_0_ty R) (x1 : Int) (x2 : Int) (k : V → Heap → Option R) : funK tt (ref01_Make_E R) (ref01_Make_T R ref01_Make_3_0_L) false Try.f83 (codeOf Try.f83) [.int .i64 x1, .int .i64 x2] [] k =
    ref01_Make_X ref01_Make_3_0_L x1 x2 (fun q0 q1 => k (.tuple [.agg [.int .i64 q0.mant, .int .i64 q0.exp], .bool q1]) []) := by kernel_rfl
theorem ref01_Make_loops (R : Type) : ∀ a ∈ loopsOf (codeOf Try.f83), LoopOk tt (ref01_Make_E R) (ref01_Make_T R ref01_Make_3_0_L) 0 a := by
  refine loops_ok 1 (by kernel_rfl) fun i hi => ?_
  match i, hi with
  | 0, _ => exact loopOk_some (by kernel_rfl) (ref01_Make_3_0_ok _ loopNo_ok)
  | n + 1, hi => omega
theorem ref01_Make_S_ok (R : Type) (other : Yard.Spec R) (ho : Yard.Spec.Ok Try.prog 83 other) : Yard.Spec.Ok Try.prog 83 (specBy ref01_Make_p ref01_Make_q (ref01_Make_rr ref01_Make) other) :=
  specBy_ok ho (funK_sound TT mixed (ref01_Make_EOk R) (keep := false) rfl rfl rfl rfl 0 (ref01_Make_loops R)) fun (x : Pat.dens ref01_Make_p) (y : HPat.dens ref01_Make_q) k => ref01_Make_ok ref01_Make_3_0_L x.1 x.2.1 k

/-! ### humpyard/humpyardref01.Right -/
abbrev ref01_Right_ty (R : Type) : Type := Dcm → (Bool → Option R) → Option R
abbrev ref01_Right_p : List Pat := [.agg [.int .i64, .int .i64]]
abbrev ref01_Right_q : List HPat := []
noncomputable def ref01_Right_rr {R : Type} (fn : ref01_Right_ty R) : Pat.dens ref01_Right_p → HPat.dens ref01_Right_q → (V → Heap → Option R) → Option R := fun x y k => fn (⟨x.1.1, x.1.2.1⟩ : Dcm) (fun q0 => k (.bool q0) [])
noncomputable def ref01_Right_E (R : Type) (ref01_Make : ref01_Make_ty R) : Env R := fun i => match i with
  | 83 => some (true, (specBy ref01_Make_p ref01_Make_q (ref01_Make_rr ref01_Make) specNo))
  | _ => none
theorem ref01_Right_EOk (R : Type) : EOk Try.prog (ref01_Right_E R ref01_Make) := by
  intro i b sp h
  unfold ref01_Right_E at h
  split at h
  · cases h; exact (ref01_Make_S_ok R _ (specNo_ok _))
  · cases h

noncomputable def ref01_Right_T (R : Type) : Nat → Option (Hint × LSpec R) := fun i => match i with
  | _ => none

noncomputable def ref01_Right_X {R : Type} (ref01_Make : ref01_Make_ty R) (x1 : Dcm) (k0 : Bool → Option R) : Option R :=
  ref01_Make x1.mant x1.exp (fun y2 y3 => bif y3 then (k0 (y2.mant == x1.mant && (y2.exp == x1.exp && true))) else (k0 false))
noncomputable def ref01_Right {R : Type} : ref01_Right_ty R := fun x1 k0 => ref01_Right_X ref01_Make x1 k0
theorem ref01_Right_ok {R : Type} (ref01_Make : ref01_Make_ty R) (x1 : Dcm) (k : V → Heap → Option R) : funK tt (ref01_Right_E R ref01_Make) (ref01_Right_T R) false Try.f94 (codeOf Try.f94) [.agg [.int .i64 x1.mant, .int .i64 x1.exp]] [] k =
    ref01_Right_X ref01_Make x1 (fun q0 => k (.bool q0) []) := by kernel_rfl
theorem ref01_Right_loops (R : Type) : ∀ a ∈ loopsOf (codeOf Try.f94), LoopOk tt (ref01_Right_E R ref01_Make) (ref01_Right_T R) 0 a := by
  refine loops_ok 0 (by kernel_rfl) fun i hi => ?_
  omega
theorem ref01_Right_S_ok (R : Type) (other : Yard.Spec R) (ho : Yard.Spec.Ok Try.prog 94 other) : Yard.Spec.Ok Try.prog 94 (specBy ref01_Right_p ref01_Right_q (ref01_Right_rr ref01_Right) other) :=
  specBy_ok ho (funK_sound TT mixed (ref01_Right_EOk R) (keep := false) rfl rfl rfl rfl 0 (ref01_Right_loops R)) fun (x : Pat.dens ref01_Right_p) (y : HPat.dens ref01_Right_q) k => ref01_Right_ok ref01_Make (⟨x.1.1, x.1.2.1⟩ : Dcm) k

/-! ### humpyard/humpyardref01.Int -/
abbrev ref01_Int_ty (R : Type) : Type := Dcm → (Int → Bool → Option R) → Option R
abbrev ref01_Int_p : List Pat := [.agg [.int .i64, .int .i64]]
abbrev ref01_Int_q : List HPat := []
noncomputable def ref01_Int_rr {R : Type} (fn : ref01_Int_ty R) : Pat.dens ref01_Int_p → HPat.dens ref01_Int_q → (V → Heap → Option R) → Option R := fun x y k => fn (⟨x.1.1, x.1.2.1⟩ : Dcm) (fun q0 q1 => k (.tuple [.int .i64 q0, .bool q1]) [])
abbrev ref01_Int_6_0_ty (R : Type) : Type := Nat → Int → Int → Dcm → (Int → Option R) → (Int → Bool → Int → Option R) → Option R
noncomputable def ref01_Int_E (R : Type) (ref01_Right : ref01_Right_ty R) : Env R := fun i => match i with
  | 94 => some (true, (specBy ref01_Right_p ref01_Right_q (ref01_Right_rr ref01_Right) specNo))
  | _ => none
theorem ref01_Int_EOk (R : Type) : EOk Try.prog (ref01_Int_E R ref01_Right) := by
  intro i b sp h
  unfold ref01_Int_E at h
  split at h
  · cases h; exact (ref01_Right_S_ok R _ (specNo_ok _))
  · cases h

noncomputable def ref01_Int_6_0_B {R : Type} (rec' : Int → Int → Dcm → Option R) (x4 : Int) (x5 : Int) (x6 : Dcm) (e0 : Int → Option R) (e1 : Int → Bool → Int → Option R) : Option R :=
  bif (decide (x5 < x6.exp)) then (bif (decide (x4 > (100000000000000000 : Int))) then (e1 0 false x4) else (bif (decide (x4 < (-100000000000000000 : Int))) then (e1 0 false x4) else (rec' (IntKind.i64.wrap (10 * x4)) (IntKind.i64.wrap (x5 + 1)) x6))) else (e0 x4)
noncomputable def ref01_Int_6_0_L {R : Type} : ref01_Int_6_0_ty R
  | 0, _, _, _, _, _ => none
  | n + 1, x0', x1', x2', e0, e1 => ref01_Int_6_0_B (fun x0' x1' x2' => ref01_Int_6_0_L n x0' x1' x2' e0 e1) x0' x1' x2' e0 e1
noncomputable def ref01_Int_6_0_h : Hint := { live := [1, 5, 6], own := [], rows := [], cells := [], drop := [], out := [2, 3, 5] }
abbrev ref01_Int_6_0_D : Type := Int × Int × Dcm
noncomputable def ref01_Int_6_0_enc : ref01_Int_6_0_D → St := fun d => ⟨[.undef, .ptr 0 0, .undef, .undef, .undef, .int .i64 d.1, .int .i64 d.2.1, .undef, .undef, .undef, .undef, .undef, .undef, .undef, .undef, .undef, .undef, .undef, .undef, .undef, .undef, .undef, .undef, .undef, .undef, .undef, .undef, .undef, .undef, .undef, .undef, .undef, .undef], [.cells [.int .i64 d.2.2.mant, .int .i64 d.2.2.exp]]⟩
noncomputable def ref01_Int_6_0_x0 {R : Type} (K : Ex → St → Option R) (q0 : Int) : Option R := K (.exit 0) ⟨[.undef, .undef, .undef, .undef, .undef, .int .i64 q0, .undef, .undef, .undef, .undef, .undef, .undef, .undef, .undef, .undef, .undef, .undef, .undef, .undef, .undef, .undef, .undef, .undef, .undef, .undef, .undef, .undef, .undef, .undef, .undef, .undef, .undef, .undef], []⟩
noncomputable def ref01_Int_6_0_x1 {R : Type} (K : Ex → St → Option R) (q0 : Int) (q1 : Bool) (q2 : Int) : Option R := K (.ret) ⟨[.undef, .undef, .int .i64 q0, .bool q1, .undef, .int .i64 q2, .undef, .undef, .undef, .undef, .undef, .undef, .undef, .undef, .undef, .undef, .undef, .undef, .undef, .undef, .undef, .undef, .undef, .undef, .undef, .undef, .undef, .undef, .undef, .undef, .undef, .undef, .undef], []⟩
noncomputable def ref01_Int_6_0_s {R : Type} (K : Ex → St → Option R) (rc : ref01_Int_6_0_D → Option R) (d : ref01_Int_6_0_D) : Option R := ref01_Int_6_0_B (fun z0 z1 z2 => rc (z0, z1, z2)) d.1 d.2.1 d.2.2 (ref01_Int_6_0_x0 K) (ref01_Int_6_0_x1 K)
noncomputable def ref01_Int_6_0_A {R : Type} (K : Ex → St → Option R) (n : Nat) (d : ref01_Int_6_0_D) : Option R := ref01_Int_6_0_L n d.1 d.2.1 d.2.2 (ref01_Int_6_0_x0 K) (ref01_Int_6_0_x1 K)
abbrev ref01_Int_6_0_p : List Pat := [.leaf (.undef), .leaf (.ptr 0 0), .leaf (.undef), .leaf (.undef), .leaf (.undef), .leaf (.int .i64), .leaf (.int .i64), .leaf (.undef), .leaf (.undef), .leaf (.undef), .leaf (.undef), .leaf (.undef), .leaf (.undef), .leaf (.undef), .leaf (.undef), .leaf (.undef), .leaf (.undef), .leaf (.undef), .leaf (.undef), .leaf (.undef), .leaf (.undef), .leaf (.undef), .leaf (.undef), .leaf (.undef), .leaf (.undef), .leaf (.undef), .leaf (.undef), .leaf (.undef), .leaf (.undef), .leaf (.undef), .leaf (.undef), .leaf (.undef), .leaf (.undef)]
abbrev ref01_Int_6_0_q : List HPat := [.cells [.int .i64, .int .i64]]
noncomputable def ref01_Int_6_0_f (x : Pat.dens ref01_Int_6_0_p) (y : HPat.dens ref01_Int_6_0_q) : Nat := (Int.natAbs x.2.2.2.2.2.1 + Int.natAbs x.2.2.2.2.2.2.1 + Dcm.fu (⟨y.1.1, y.1.2.1⟩ : Dcm) + 3)
noncomputable def ref01_Int_6_0_d (x : Pat.dens ref01_Int_6_0_p) (y : HPat.dens ref01_Int_6_0_q) : ref01_Int_6_0_D := (x.2.2.2.2.2.1, x.2.2.2.2.2.2.1, (⟨y.1.1, y.1.2.1⟩ : Dcm))
noncomputable def ref01_Int_6_0_rr {R : Type} (L : ref01_Int_6_0_ty R) : Pat.dens ref01_Int_6_0_p → HPat.dens ref01_Int_6_0_q → (Ex → St → Option R) → Option R := fun x y K => L (ref01_Int_6_0_f x y) x.2.2.2.2.2.1 x.2.2.2.2.2.2.1 (⟨y.1.1, y.1.2.1⟩ : Dcm) (ref01_Int_6_0_x0 K) (ref01_Int_6_0_x1 K)
noncomputable def ref01_Int_T (R : Type) (ref01_Int_6_0_L : ref01_Int_6_0_ty R) : Nat → Option (Hint × LSpec R) := fun i => match i with
  | 6 => some (ref01_Int_6_0_h, (loopBy ref01_Int_6_0_p ref01_Int_6_0_q (ref01_Int_6_0_rr ref01_Int_6_0_L) loopNo))
  | _ => none

theorem ref01_Int_6_0_B_ok {R : Type} (ref01_Right : ref01_Right_ty R) (ref01_Int_6_0_L : ref01_Int_6_0_ty R) (K : Ex → St → Option R) (rc : St → Option R) (d : ref01_Int_6_0_D) : roundOf tt (ref01_Int_E R ref01_Right) (ref01_Int_T R ref01_Int_6_0_L) 0 ((loopsOf (codeOf Try.f80)).getD 0 .skip) ref01_Int_6_0_h (ref01_Int_6_0_enc d) rc K = ref01_Int_6_0_s K (fun d => rc (ref01_Int_6_0_enc d)) d := by kernel_rfl
theorem ref01_Int_6_0_A_succ {R : Type} (K : Ex → St → Option R) (n : Nat) (d : ref01_Int_6_0_D) : ref01_Int_6_0_A K (n + 1) d = ref01_Int_6_0_s K (ref01_Int_6_0_A K n) d := by kernel_rfl
theorem ref01_Int_6_0_A_zero {R : Type} (K : Ex → St → Option R) (d : ref01_Int_6_0_D) : ref01_Int_6_0_A K 0 d = none := by kernel_rfl
theorem ref01_Int_6_0_e_ok (x : Pat.dens ref01_Int_6_0_p) (y : HPat.dens ref01_Int_6_0_q) : (⟨Pat.encL ref01_Int_6_0_p x, HPat.encL ref01_Int_6_0_q y⟩ : St) = ref01_Int_6_0_enc (ref01_Int_6_0_d x y) := by kernel_rfl
theorem ref01_Int_6_0_r_ok {R : Type} (x : Pat.dens ref01_Int_6_0_p) (y : HPat.dens ref01_Int_6_0_q) (K : Ex → St → Option R) : ref01_Int_6_0_rr (ref01_Int_6_0_L) x y K = ref01_Int_6_0_A K (ref01_Int_6_0_f x y) (ref01_Int_6_0_d x y) := by kernel_rfl
theorem ref01_Int_6_0_ok {R : Type} (other : LSpec R) (ho : LsOk tt (ref01_Int_E R ref01_Right) (ref01_Int_T R ref01_Int_6_0_L) 0 ((loopsOf (codeOf Try.f80)).getD 0 .skip) ref01_Int_6_0_h other) : LsOk tt (ref01_Int_E R ref01_Right) (ref01_Int_T R ref01_Int_6_0_L) 0 ((loopsOf (codeOf Try.f80)).getD 0 .skip) ref01_Int_6_0_h (loopBy ref01_Int_6_0_p ref01_Int_6_0_q (ref01_Int_6_0_rr (ref01_Int_6_0_L)) other) :=
  loopBy_tie (A := ref01_Int_6_0_A) ho (loop_tie ref01_Int_6_0_enc (ref01_Int_6_0_s) (ref01_Int_6_0_A) (ref01_Int_6_0_A_zero) (ref01_Int_6_0_B_ok ref01_Right ref01_Int_6_0_L) (ref01_Int_6_0_A_succ)) ref01_Int_6_0_f ref01_Int_6_0_d ref01_Int_6_0_e_ok (ref01_Int_6_0_r_ok)

noncomputable def ref01_Int_X {R : Type} (ref01_Right : ref01_Right_ty R) (ref01_Int_6_0_L : ref01_Int_6_0_ty R) (x1 : Dcm) (k0 : Int → Bool → Option R) : Option R :=
  ref01_Right x1 (fun y2 => bif (!y2) then (k0 0 false) else (bif (decide (x1.exp < (0 : Int))) then (k0 0 false) else (ref01_Int_6_0_L (Int.natAbs x1.mant + Int.natAbs 0 + Dcm.fu x1 + 3) x1.mant 0 x1 (fun y8 => k0 y8 true) (fun y9 y10 y11 => k0 y9 y10))))
noncomputable def ref01_Int {R : Type} : ref01_Int_ty R := fun x1 k0 => ref01_Int_X ref01_Right ref01_Int_6_0_L x1 k0
theorem ref01_Int_ok {R : Type} (ref01_Right : ref01_Right_ty R) (ref01_Int_6_0_L : ref01_Int_6_0_ty R) (x1 : Dcm) (k : V → Heap → Option R) : funK tt (ref01_Int_E R ref01_Right) (ref01_Int_T R ref01_Int_6_0_L) false Try.f80 (codeOf Try.f80) [.agg [.int .i64 x1.mant, .int .i64 x1.exp]] [] k =
    ref01_Int_X ref01_Right ref01_Int_6_0_L x1 (fun q0 q1 => k (.tuple [.int .i64 q0, .bool q1]) []) := by kernel_rfl
theorem ref01_Int_loops (R : Type) : ∀ a ∈ loopsOf (codeOf Try.f80), LoopOk tt (ref01_Int_E R ref01_Right) (ref01_Int_T R ref01_Int_6_0_L) 0 a := by
  refine loops_ok 1 (by kernel_rfl) fun i hi => ?_
  match i, hi with
  | 0, _ => exact loopOk_some (by kernel_rfl) (ref01_Int_6_0_ok _ loopNo_ok)
  | n + 1, hi => omega
theorem ref01_Int_S_ok (R : Type) (other : Yard.Spec R) (ho : Yard.Spec.Ok Try.prog 80 other) : Yard.Spec.Ok Try.prog 80 (specBy ref01_Int_p ref01_Int_q (ref01_Int_rr ref01_Int) other) :=
  specBy_ok ho (funK_sound TT mixed (ref01_Int_EOk R) (keep := false) rfl rfl rfl rfl 0 (ref01_Int_loops R)) fun (x : Pat.dens ref01_Int_p) (y : HPat.dens ref01_Int_q) k => ref01_Int_ok ref01_Right ref01_Int_6_0_L (⟨x.1.1, x.1.2.1⟩ : Dcm) k

/-! ### humpyard/humpyardref05.Num -/
abbrev ref05_Num_ty (R : Type) : Type := Json → Str → (Int → Bool → Option R) → Option R
abbrev ref05_Num_p : List Pat := [.agg [.int .i64, .int .i64, .int .i64, .str, .sl .str, .sl .json], .leaf (.str)]
abbrev ref05_Num_q : List HPat := []
noncomputable def ref05_Num_rr {R : Type} (fn : ref05_Num_ty R) : Pat.dens ref05_Num_p → HPat.dens ref05_Num_q → (V → Heap → Option R) → Option R := fun x y k => fn (⟨x.1.1, ⟨x.1.2.1, x.1.2.2.1⟩, x.1.2.2.2.1, x.1.2.2.2.2.1, x.1.2.2.2.2.2.1⟩ : Json) x.2.1 (fun q0 q1 => k (.tuple [.int .i64 q0, .bool q1]) [])
noncomputable def ref05_Num_E (R : Type) (ref05_Get : ref05_Get_ty R) (ref01_Int : ref01_Int_ty R) : Env R := fun i => match i with
  | 33 => some (true, (specBy ref05_Get_p ref05_Get_q (ref05_Get_rr ref05_Get) specNo))
  | 80 => some (true, (specBy ref01_Int_p ref01_Int_q (ref01_Int_rr ref01_Int) specNo))
  | _ => none
theorem ref05_Num_EOk (R : Type) : EOk Try.prog (ref05_Num_E R ref05_Get ref01_Int) := by
  intro i b sp h
  unfold ref05_Num_E at h
  split at h
  · cases h; exact (ref05_Get_S_ok R _ (specNo_ok _))
  · cases h; exact (ref01_Int_S_ok R _ (specNo_ok _))
  · cases h

noncomputable def ref05_Num_T (R : Type) : Nat → Option (Hint × LSpec R) := fun i => match i with
  | _ => none

noncomputable def ref05_Num_X {R : Type} (ref05_Get : ref05_Get_ty R) (ref01_Int : ref01_Int_ty R) (x1 : Json) (x2 : Str) (k0 : Int → Bool → Option R) : Option R :=
  ref05_Get (⟨x1.kind, ⟨x1.num.mant, x1.num.exp⟩, x1.text, x1.names, x1.items⟩ : Json) x2 (fun y3 y4 => bif (!y4) then (k0 0 false) else (bif (y3.kind != 4) then (k0 0 false) else (ref01_Int y3.num (fun y6 y7 => k0 y6 y7))))
noncomputable def ref05_Num {R : Type} : ref05_Num_ty R := fun x1 x2 k0 => ref05_Num_X ref05_Get ref01_Int x1 x2 k0
theorem ref05_Num_ok {R : Type} (ref05_Get : ref05_Get_ty R) (ref01_Int : ref01_Int_ty R) (x1 : Json) (x2 : Str) (k : V → Heap → Option R) : funK tt (ref05_Num_E R ref05_Get ref01_Int) (ref05_Num_T R) false Try.f34 (codeOf Try.f34) [.agg [.int .i64 x1.kind, .int .i64 x1.num.mant, .int .i64 x1.num.exp, .str x1.text, .sl .str x1.names .no, .sl .json x1.items .no], .str x2] [] k =
    ref05_Num_X ref05_Get ref01_Int x1 x2 (fun q0 q1 => k (.tuple [.int .i64 q0, .bool q1]) []) := by kernel_rfl
theorem ref05_Num_loops (R : Type) : ∀ a ∈ loopsOf (codeOf Try.f34), LoopOk tt (ref05_Num_E R ref05_Get ref01_Int) (ref05_Num_T R) 0 a := by
  refine loops_ok 0 (by kernel_rfl) fun i hi => ?_
  omega
theorem ref05_Num_S_ok (R : Type) (other : Yard.Spec R) (ho : Yard.Spec.Ok Try.prog 34 other) : Yard.Spec.Ok Try.prog 34 (specBy ref05_Num_p ref05_Num_q (ref05_Num_rr ref05_Num) other) :=
  specBy_ok ho (funK_sound TT mixed (ref05_Num_EOk R) (keep := false) rfl rfl rfl rfl 0 (ref05_Num_loops R)) fun (x : Pat.dens ref05_Num_p) (y : HPat.dens ref05_Num_q) k => ref05_Num_ok ref05_Get ref01_Int (⟨x.1.1, ⟨x.1.2.1, x.1.2.2.1⟩, x.1.2.2.2.1, x.1.2.2.2.2.1, x.1.2.2.2.2.2.1⟩ : Json) x.2.1 k

/-! ### humpyard/humpyardref05.Text -/
abbrev ref05_Text_ty (R : Type) : Type := Json → Str → (Str → Bool → Option R) → Option R
abbrev ref05_Text_p : List Pat := [.agg [.int .i64, .int .i64, .int .i64, .str, .sl .str, .sl .json], .leaf (.str)]
abbrev ref05_Text_q : List HPat := []
noncomputable def ref05_Text_rr {R : Type} (fn : ref05_Text_ty R) : Pat.dens ref05_Text_p → HPat.dens ref05_Text_q → (V → Heap → Option R) → Option R := fun x y k => fn (⟨x.1.1, ⟨x.1.2.1, x.1.2.2.1⟩, x.1.2.2.2.1, x.1.2.2.2.2.1, x.1.2.2.2.2.2.1⟩ : Json) x.2.1 (fun q0 q1 => k (.tuple [.str q0, .bool q1]) [])
noncomputable def ref05_Text_E (R : Type) (ref05_Get : ref05_Get_ty R) : Env R := fun i => match i with
  | 33 => some (true, (specBy ref05_Get_p ref05_Get_q (ref05_Get_rr ref05_Get) specNo))
  | _ => none
theorem ref05_Text_EOk (R : Type) : EOk Try.prog (ref05_Text_E R ref05_Get) := by
  intro i b sp h
  unfold ref05_Text_E at h
  split at h
  · cases h; exact (ref05_Get_S_ok R _ (specNo_ok _))
  · cases h

noncomputable def ref05_Text_T (R : Type) : Nat → Option (Hint × LSpec R) := fun i => match i with
  | _ => none

noncomputable def ref05_Text_X {R : Type} (ref05_Get : ref05_Get_ty R) (x1 : Json) (x2 : Str) (k0 : Str → Bool → Option R) : Option R :=
  ref05_Get (⟨x1.kind, ⟨x1.num.mant, x1.num.exp⟩, x1.text, x1.names, x1.items⟩ : Json) x2 (fun y3 y4 => bif (!y4) then (k0 ([] : Str) false) else (bif (y3.kind != 5) then (k0 ([] : Str) false) else (k0 y3.text true)))
noncomputable def ref05_Text {R : Type} : ref05_Text_ty R := fun x1 x2 k0 => ref05_Text_X ref05_Get x1 x2 k0
theorem ref05_Text_ok {R : Type} (ref05_Get : ref05_Get_ty R) (x1 : Json) (x2 : Str) (k : V → Heap → Option R) : funK tt (ref05_Text_E R ref05_Get) (ref05_Text_T R) false Try.f35 (codeOf Try.f35) [.agg [.int .i64 x1.kind, .int .i64 x1.num.mant, .int .i64 x1.num.exp, .str x1.text, .sl .str x1.names .no, .sl .json x1.items .no], .str x2] [] k =
    ref05_Text_X ref05_Get x1 x2 (fun q0 q1 => k (.tuple [.str q0, .bool q1]) []) := by kernel_rfl
theorem ref05_Text_loops (R : Type) : ∀ a ∈ loopsOf (codeOf Try.f35), LoopOk tt (ref05_Text_E R ref05_Get) (ref05_Text_T R) 0 a := by
  refine loops_ok 0 (by kernel_rfl) fun i hi => ?_
  omega
theorem ref05_Text_S_ok (R : Type) (other : Yard.Spec R) (ho : Yard.Spec.Ok Try.prog 35 other) : Yard.Spec.Ok Try.prog 35 (specBy ref05_Text_p ref05_Text_q (ref05_Text_rr ref05_Text) other) :=
  specBy_ok ho (funK_sound TT mixed (ref05_Text_EOk R) (keep := false) rfl rfl rfl rfl 0 (ref05_Text_loops R)) fun (x : Pat.dens ref05_Text_p) (y : HPat.dens ref05_Text_q) k => ref05_Text_ok ref05_Get (⟨x.1.1, ⟨x.1.2.1, x.1.2.2.1⟩, x.1.2.2.2.1, x.1.2.2.2.2.1, x.1.2.2.2.2.2.1⟩ : Json) x.2.1 k

/-! ### humpyard/humpyardref05.Flag -/
abbrev ref05_Flag_ty (R : Type) : Type := Json → Str → (Bool → Bool → Option R) → Option R
abbrev ref05_Flag_p : List Pat := [.agg [.int .i64, .int .i64, .int .i64, .str, .sl .str, .sl .json], .leaf (.str)]
abbrev ref05_Flag_q : List HPat := []
noncomputable def ref05_Flag_rr {R : Type} (fn : ref05_Flag_ty R) : Pat.dens ref05_Flag_p → HPat.dens ref05_Flag_q → (V → Heap → Option R) → Option R := fun x y k => fn (⟨x.1.1, ⟨x.1.2.1, x.1.2.2.1⟩, x.1.2.2.2.1, x.1.2.2.2.2.1, x.1.2.2.2.2.2.1⟩ : Json) x.2.1 (fun q0 q1 => k (.tuple [.bool q0, .bool q1]) [])
noncomputable def ref05_Flag_E (R : Type) (ref05_Get : ref05_Get_ty R) : Env R := fun i => match i with
  | 33 => some (true, (specBy ref05_Get_p ref05_Get_q (ref05_Get_rr ref05_Get) specNo))
  | _ => none
theorem ref05_Flag_EOk (R : Type) : EOk Try.prog (ref05_Flag_E R ref05_Get) := by
  intro i b sp h
  unfold ref05_Flag_E at h
  split at h
  · cases h; exact (ref05_Get_S_ok R _ (specNo_ok _))
  · cases h

noncomputable def ref05_Flag_T (R : Type) : Nat → Option (Hint × LSpec R) := fun i => match i with
  | _ => none

noncomputable def ref05_Flag_X {R : Type} (ref05_Get : ref05_Get_ty R) (x1 : Json) (x2 : Str) (k0 : Bool → Bool → Option R) : Option R :=
  ref05_Get (⟨x1.kind, ⟨x1.num.mant, x1.num.exp⟩, x1.text, x1.names, x1.items⟩ : Json) x2 (fun y3 y4 => bif y4 then (bif y4 then (bif (y3.kind == 3) then (k0 (y3.kind == 3) true) else (k0 (y3.kind == 3) (y3.kind == 2))) else (k0 (y3.kind == 3) false)) else (bif y4 then (bif (y3.kind == 3) then (k0 false true) else (k0 false (y3.kind == 2))) else (k0 false false)))
noncomputable def ref05_Flag {R : Type} : ref05_Flag_ty R := fun x1 x2 k0 => ref05_Flag_X ref05_Get x1 x2 k0
theorem ref05_Flag_ok {R : Type} (ref05_Get : ref05_Get_ty R) (x1 : Json) (x2 : Str) (k : V → Heap → Option R) : funK tt (ref05_Flag_E R ref05_Get) (ref05_Flag_T R) false Try.f36 (codeOf Try.f36) [.agg [.int .i64 x1.kind, .int .i64 x1.num.mant, .int .i64 x1.num.exp, .str x1.text, .sl .str x1.names .no, .sl .json x1.items .no], .str x2] [] k =
    ref05_Flag_X ref05_Get x1 x2 (fun q0 q1 => k (.tuple [.bool q0, .bool q1]) []) := by kernel_rfl
theorem ref05_Flag_loops (R : Type) : ∀ a ∈ loopsOf (codeOf Try.f36), LoopOk tt (ref05_Flag_E R ref05_Get) (ref05_Flag_T R) 0 a := by
  refine loops_ok 0 (by kernel_rfl) fun i hi => ?_
  omega
theorem ref05_Flag_S_ok (R : Type) (other : Yard.Spec R) (ho : Yard.Spec.Ok Try.prog 36 other) : Yard.Spec.Ok Try.prog 36 (specBy ref05_Flag_p ref05_Flag_q (ref05_Flag_rr ref05_Flag) other) :=
  specBy_ok ho (funK_sound TT mixed (ref05_Flag_EOk R) (keep := false) rfl rfl rfl rfl 0 (ref05_Flag_loops R)) fun (x : Pat.dens ref05_Flag_p) (y : HPat.dens ref05_Flag_q) k => ref05_Flag_ok ref05_Get (⟨x.1.1, ⟨x.1.2.1, x.1.2.2.1⟩, x.1.2.2.2.1, x.1.2.2.2.2.1, x.1.2.2.2.2.2.1⟩ : Json) x.2.1 k

/-! ### humpyard/humpyardref05.List -/
abbrev ref05_List_ty (R : Type) : Type := Json → Str → ((List Json) → Bool → Option R) → Option R
abbrev ref05_List_p : List Pat := [.agg [.int .i64, .int .i64, .int .i64, .str, .sl .str, .sl .json], .leaf (.str)]
abbrev ref05_List_q : List HPat := []
noncomputable def ref05_List_rr {R : Type} (fn : ref05_List_ty R) : Pat.dens ref05_List_p → HPat.dens ref05_List_q → (V → Heap → Option R) → Option R := fun x y k => fn (⟨x.1.1, ⟨x.1.2.1, x.1.2.2.1⟩, x.1.2.2.2.1, x.1.2.2.2.2.1, x.1.2.2.2.2.2.1⟩ : Json) x.2.1 (fun q0 q1 => k (.tuple [.sl .json q0 .no, .bool q1]) [])
noncomputable def ref05_List_E (R : Type) (ref05_Get : ref05_Get_ty R) : Env R := fun i => match i with
  | 33 => some (true, (specBy ref05_Get_p ref05_Get_q (ref05_Get_rr ref05_Get) specNo))
  | _ => none
theorem ref05_List_EOk (R : Type) : EOk Try.prog (ref05_List_E R ref05_Get) := by
  intro i b sp h
  unfold ref05_List_E at h
  split at h
  · cases h; exact (ref05_Get_S_ok R _ (specNo_ok _))
  · cases h

noncomputable def ref05_List_T (R : Type) : Nat → Option (Hint × LSpec R) := fun i => match i with
  | _ => none

noncomputable def ref05_List_X {R : Type} (ref05_Get : ref05_Get_ty R) (x1 : Json) (x2 : Str) (k0 : (List Json) → Bool → Option R) : Option R :=
  ref05_Get (⟨x1.kind, ⟨x1.num.mant, x1.num.exp⟩, x1.text, x1.names, x1.items⟩ : Json) x2 (fun y3 y4 => bif (!y4) then (k0 ([] : List Json) false) else (bif (y3.kind != 6) then (k0 ([] : List Json) false) else (chk (decide ((0 + y3.items.length) * 88 ≤ 140737488355328)) (k0 y3.items true))))
noncomputable def ref05_List {R : Type} : ref05_List_ty R := fun x1 x2 k0 => ref05_List_X ref05_Get x1 x2 k0
theorem ref05_List_ok {R : Type} (ref05_Get : ref05_Get_ty R) (x1 : Json) (x2 : Str) (k : V → Heap → Option R) : funK tt (ref05_List_E R ref05_Get) (ref05_List_T R) false Try.f37 (codeOf Try.f37) [.agg [.int .i64 x1.kind, .int .i64 x1.num.mant, .int .i64 x1.num.exp, .str x1.text, .sl .str x1.names .no, .sl .json x1.items .no], .str x2] [] k =
    ref05_List_X ref05_Get x1 x2 (fun q0 q1 => k (.tuple [.sl .json q0 .no, .bool q1]) []) := by kernel_rfl
theorem ref05_List_loops (R : Type) : ∀ a ∈ loopsOf (codeOf Try.f37), LoopOk tt (ref05_List_E R ref05_Get) (ref05_List_T R) 0 a := by
  refine loops_ok 0 (by kernel_rfl) fun i hi => ?_
  omega
theorem ref05_List_S_ok (R : Type) (other : Yard.Spec R) (ho : Yard.Spec.Ok Try.prog 37 other) : Yard.Spec.Ok Try.prog 37 (specBy ref05_List_p ref05_List_q (ref05_List_rr ref05_List) other) :=
  specBy_ok ho (funK_sound TT mixed (ref05_List_EOk R) (keep := false) rfl rfl rfl rfl 0 (ref05_List_loops R)) fun (x : Pat.dens ref05_List_p) (y : HPat.dens ref05_List_q) k => ref05_List_ok ref05_Get (⟨x.1.1, ⟨x.1.2.1, x.1.2.2.1⟩, x.1.2.2.2.1, x.1.2.2.2.2.1, x.1.2.2.2.2.2.1⟩ : Json) x.2.1 k

/-! ### humpyard/humpyardlaw05.Lists -/
abbrev law05_Lists_ty (R : Type) : Type := (List Json) → (List Json) → (Bool → Option R) → Option R
abbrev law05_Lists_p : List Pat := [.leaf (.sl .json), .leaf (.sl .json)]
abbrev law05_Lists_q : List HPat := []
noncomputable def law05_Lists_rr {R : Type} (fn : law05_Lists_ty R) : Pat.dens law05_Lists_p → HPat.dens law05_Lists_q → (V → Heap → Option R) → Option R := fun x y k => fn x.1 x.2.1 (fun q0 => k (.bool q0) [])
noncomputable def law05_Lists_E (R : Type) (ref04_Same : ref04_Same_ty R) : Env R := fun i => match i with
  | 27 => some (true, (specBy ref04_Same_p ref04_Same_q (ref04_Same_rr ref04_Same) specNo))
  | _ => none
theorem law05_Lists_EOk (R : Type) : EOk Try.prog (law05_Lists_E R ref04_Same) := by
  intro i b sp h
  unfold law05_Lists_E at h
  split at h
  · cases h; exact (ref04_Same_S_ok R _ (specNo_ok _))
  · cases h

noncomputable def law05_Lists_T (R : Type) : Nat → Option (Hint × LSpec R) := fun i => match i with
  | _ => none

noncomputable def law05_Lists_X {R : Type} (ref04_Same : ref04_Same_ty R) (x1 : List Json) (x2 : List Json) (k0 : Bool → Option R) : Option R :=
  ref04_Same (⟨6, ⟨0, 0⟩, ([] : Str), ([] : List Str), x1⟩ : Json) (⟨6, ⟨0, 0⟩, ([] : Str), ([] : List Str), x2⟩ : Json) (fun y3 => k0 y3)
noncomputable def law05_Lists {R : Type} : law05_Lists_ty R := fun x1 x2 k0 => law05_Lists_X ref04_Same x1 x2 k0
theorem law05_Lists_ok {R : Type} (ref04_Same : ref04_Same_ty R) (x1 : List Json) (x2 : List Json) (k : V → Heap → Option R) : funK tt (law05_Lists_E R ref04_Same) (law05_Lists_T R) false Try.f38 (codeOf Try.f38) [.sl .json x1 .no, .sl .json x2 .no] [] k =
    law05_Lists_X ref04_Same x1 x2 (fun q0 => k (.bool q0) []) := by kernel_rfl
theorem law05_Lists_loops (R : Type) : ∀ a ∈ loopsOf (codeOf Try.f38), LoopOk tt (law05_Lists_E R ref04_Same) (law05_Lists_T R) 0 a := by
  refine loops_ok 0 (by kernel_rfl) fun i hi => ?_
  omega
theorem law05_Lists_S_ok (R : Type) (other : Yard.Spec R) (ho : Yard.Spec.Ok Try.prog 38 other) : Yard.Spec.Ok Try.prog 38 (specBy law05_Lists_p law05_Lists_q (law05_Lists_rr law05_Lists) other) :=
  specBy_ok ho (funK_sound TT mixed (law05_Lists_EOk R) (keep := false) rfl rfl rfl rfl 0 (law05_Lists_loops R)) fun (x : Pat.dens law05_Lists_p) (y : HPat.dens law05_Lists_q) k => law05_Lists_ok ref04_Same x.1 x.2.1 k

end Go.Proofs.Ytcocpfgemdkkfaa

/-
  Functions of the program as pure Lean functions, and the ties; printed by wip/tools/emit.py.
-/
set_option maxRecDepth 100000
set_option linter.unusedVariables false
namespace Go.Proofs.Ytcocpfgemdkkfaa
open Go Go.Yard

/-! ### humpyard/humpyardref05.fits -/
abbrev ref05_fits_ty (R : Type) : Type := Json → Fld → (Bool → Option R) → Option R
abbrev ref05_fits_p : List Pat := [.agg [.int .i64, .int .i64, .int .i64, .str, .sl .str, .sl .json], .agg [.str, .int .i64, .int .i64, .int .i64, .bool]]
abbrev ref05_fits_q : List HPat := []
noncomputable def ref05_fits_rr {R : Type} (fn : ref05_fits_ty R) : Pat.dens ref05_fits_p → HPat.dens ref05_fits_q → (V → Heap → Option R) → Option R := fun x y k => fn (⟨x.1.1, ⟨x.1.2.1, x.1.2.2.1⟩, x.1.2.2.2.1, x.1.2.2.2.2.1, x.1.2.2.2.2.2.1⟩ : Json) (⟨x.2.1.1, x.2.1.2.1, x.2.1.2.2.1, x.2.1.2.2.2.1, x.2.1.2.2.2.2.1⟩ : Fld) (fun q0 => k (.bool q0) [])
noncomputable def ref05_fits_E (R : Type) (ref01_Int : ref01_Int_ty R) : Env R := fun i => match i with
  | 80 => some (true, (specBy ref01_Int_p ref01_Int_q (ref01_Int_rr ref01_Int) specNo))
  | _ => none
theorem ref05_fits_EOk (R : Type) : EOk Try.prog (ref05_fits_E R ref01_Int) := by
  intro i b sp h
  unfold ref05_fits_E at h
  split at h
  · cases h; exact (ref01_Int_S_ok R _ (specNo_ok _))
  · cases h

noncomputable def ref05_fits_T (R : Type) : Nat → Option (Hint × LSpec R) := fun i => match i with
  | _ => none

noncomputable def ref05_fits_X {R : Type} (ref01_Int : ref01_Int_ty R) (x1 : Json) (x2 : Fld) (k0 : Bool → Option R) : Option R :=
  bif (x2.kind == 8) then (bif (x1.kind == 3) then (k0 true) else (k0 (x1.kind == 2))) else (bif (x2.kind == 4) then (ref01_Int x1.num (fun y4 y5 => bif (x1.kind != 4) then (k0 false) else (bif (!y5) then (k0 false) else (bif (x1.kind == x2.kind) then (bif (decide (y4 ≥ x2.low)) then (k0 (decide (y4 ≤ x2.high))) else (k0 false)) else (k0 false))))) else (bif (x2.kind == 5) then (bif (x1.kind == x2.kind) then (bif (decide ((x1.text.length : Int) ≥ x2.low)) then (k0 (decide ((x1.text.length : Int) ≤ x2.high))) else (k0 false)) else (k0 false)) else (bif (x2.kind == 6) then (bif (x1.kind == x2.kind) then (bif (decide ((x1.items.length : Int) ≥ x2.low)) then (k0 (decide ((x1.items.length : Int) ≤ x2.high))) else (k0 false)) else (k0 false)) else (k0 (x1.kind == x2.kind)))))
noncomputable def ref05_fits {R : Type} : ref05_fits_ty R := fun x1 x2 k0 => ref05_fits_X ref01_Int x1 x2 k0
theorem ref05_fits_ok {R : Type} (ref01_Int : ref01_Int_ty R) (x1 : Json) (x2 : Fld) (k : V → Heap → Option R) : funK tt (ref05_fits_E R ref01_Int) (ref05_fits_T R) false Try.f81 (codeOf Try.f81) [.agg [.int .i64 x1.kind, .int .i64 x1.num.mant, .int .i64 x1.num.exp, .str x1.text, .sl .str x1.names .no, .sl .json x1.items .no], .agg [.str x2.name, .int .i64 x2.kind, .int .i64 x2.low, .int .i64 x2.high, .bool x2.free]] [] k =
    ref05_fits_X ref01_Int x1 x2 (fun q0 => k (.bool q0) []) := by kernel_rfl
theorem ref05_fits_loops (R : Type) : ∀ a ∈ loopsOf (codeOf Try.f81), LoopOk tt (ref05_fits_E R ref01_Int) (ref05_fits_T R) 0 a := by
  refine loops_ok 0 (by kernel_rfl) fun i hi => ?_
  omega
theorem ref05_fits_S_ok (R : Type) (other : Yard.Spec R) (ho : Yard.Spec.Ok Try.prog 81 other) : Yard.Spec.Ok Try.prog 81 (specBy ref05_fits_p ref05_fits_q (ref05_fits_rr ref05_fits) other) :=
  specBy_ok ho (funK_sound TT mixed (ref05_fits_EOk R) (keep := false) rfl rfl rfl rfl 0 (ref05_fits_loops R)) fun (x : Pat.dens ref05_fits_p) (y : HPat.dens ref05_fits_q) k => ref05_fits_ok ref01_Int (⟨x.1.1, ⟨x.1.2.1, x.1.2.2.1⟩, x.1.2.2.2.1, x.1.2.2.2.2.1, x.1.2.2.2.2.2.1⟩ : Json) (⟨x.2.1.1, x.2.1.2.1, x.2.1.2.2.1, x.2.1.2.2.2.1, x.2.1.2.2.2.2.1⟩ : Fld) k

/-! ### humpyard/humpyardref05.Check -/
abbrev ref05_Check_ty (R : Type) : Type := Json → (List Fld) → (Int → Option R) → Option R
abbrev ref05_Check_p : List Pat := [.agg [.int .i64, .int .i64, .int .i64, .str, .sl .str, .sl .json], .leaf (.sl .fld)]
abbrev ref05_Check_q : List HPat := []
noncomputable def ref05_Check_rr {R : Type} (fn : ref05_Check_ty R) : Pat.dens ref05_Check_p → HPat.dens ref05_Check_q → (V → Heap → Option R) → Option R := fun x y k => fn (⟨x.1.1, ⟨x.1.2.1, x.1.2.2.1⟩, x.1.2.2.2.1, x.1.2.2.2.2.1, x.1.2.2.2.2.2.1⟩ : Json) x.2.1 (fun q0 => k (.int .i64 q0) [])
abbrev ref05_Check_4_0_ty (R : Type) : Type := Nat → (List Fld) → Int → Json → (Option R) → (Int → Option R) → Option R
noncomputable def ref05_Check_E (R : Type) (ref05_Get : ref05_Get_ty R) (ref05_fits : ref05_fits_ty R) : Env R := fun i => match i with
  | 33 => some (true, (specBy ref05_Get_p ref05_Get_q (ref05_Get_rr ref05_Get) specNo))
  | 81 => some (true, (specBy ref05_fits_p ref05_fits_q (ref05_fits_rr ref05_fits) specNo))
  | _ => none
theorem ref05_Check_EOk (R : Type) : EOk Try.prog (ref05_Check_E R ref05_Get ref05_fits) := by
  intro i b sp h
  unfold ref05_Check_E at h
  split at h
  · cases h; exact (ref05_Get_S_ok R _ (specNo_ok _))
  · cases h; exact (ref05_fits_S_ok R _ (specNo_ok _))
  · cases h

noncomputable def ref05_Check_4_0_B {R : Type} (ref05_Get : ref05_Get_ty R) (ref05_fits : ref05_fits_ty R) (rec' : (List Fld) → Int → Json → Option R) (x4 : List Fld) (x5 : Int) (x6 : Json) (e0 : Option R) (e1 : Int → Option R) : Option R :=
  bif (decide (x5 < (x4.length : Int))) then (chk (decide ((0 : Int) ≤ x5) && decide (x5 < x4.length)) (ref05_Get (⟨x6.kind, ⟨x6.num.mant, x6.num.exp⟩, x6.text, x6.names, x6.items⟩ : Json) ((x4.getD x5.toNat (Ty.dflt .fld)).name) (fun y7 y8 => bif (!y8) then (chk (decide ((0 : Int) ≤ x5) && decide (x5 < x4.length)) (bif (!(x4.getD x5.toNat (Ty.dflt .fld)).free) then (e1 x5) else (rec' x4 (IntKind.i64.wrap (x5 + 1)) (⟨x6.kind, ⟨x6.num.mant, x6.num.exp⟩, x6.text, x6.names, x6.items⟩ : Json)))) else (chk (decide ((0 : Int) ≤ x5) && decide (x5 < x4.length)) (ref05_fits (⟨y7.kind, ⟨y7.num.mant, y7.num.exp⟩, y7.text, y7.names, y7.items⟩ : Json) (x4.getD x5.toNat (Ty.dflt .fld)) (fun y9 => bif (!y9) then (e1 x5) else (rec' x4 (IntKind.i64.wrap (x5 + 1)) (⟨x6.kind, ⟨x6.num.mant, x6.num.exp⟩, x6.text, x6.names, x6.items⟩ : Json)))))))) else (e0)
noncomputable def ref05_Check_4_0_L {R : Type} : ref05_Check_4_0_ty R
  | 0, _, _, _, _, _ => none
  | n + 1, x0', x1', x2', e0, e1 => ref05_Check_4_0_B ref05_Get ref05_fits (fun x0' x1' x2' => ref05_Check_4_0_L n x0' x1' x2' e0 e1) x0' x1' x2' e0 e1
noncomputable def ref05_Check_4_0_h : Hint := { live := [1, 2, 5], own := [], rows := [], cells := [], drop := [], out := [4] }
abbrev ref05_Check_4_0_D : Type := (List Fld) × Int × Json
noncomputable def ref05_Check_4_0_enc : ref05_Check_4_0_D → St := fun d => ⟨[.undef, .sl .fld d.1 .no, .ptr 0 0, .undef, .undef, .int .i64 d.2.1, .undef, .undef, .undef, .undef, .undef, .undef, .undef, .undef, .undef, .undef, .undef, .undef, .undef, .undef, .undef, .undef, .undef, .undef, .undef, .undef, .undef, .undef, .undef, .undef, .undef, .undef, .undef, .undef, .undef, .undef, .undef, .undef, .undef, .undef, .undef, .undef, .undef, .undef, .undef, .undef, .undef, .undef, .undef, .undef, .undef], [.cells [.int .i64 d.2.2.kind, .int .i64 d.2.2.num.mant, .int .i64 d.2.2.num.exp, .str d.2.2.text, .sl .str d.2.2.names .no, .sl .json d.2.2.items .no]]⟩
noncomputable def ref05_Check_4_0_x0 {R : Type} (K : Ex → St → Option R) : Option R := K (.exit 0) ⟨[.undef, .undef, .undef, .undef, .undef, .undef, .undef, .undef, .undef, .undef, .undef, .undef, .undef, .undef, .undef, .undef, .undef, .undef, .undef, .undef, .undef, .undef, .undef, .undef, .undef, .undef, .undef, .undef, .undef, .undef, .undef, .undef, .undef, .undef, .undef, .undef, .undef, .undef, .undef, .undef, .undef, .undef, .undef, .undef, .undef, .undef, .undef, .undef, .undef, .undef, .undef], []⟩
noncomputable def ref05_Check_4_0_x1 {R : Type} (K : Ex → St → Option R) (q0 : Int) : Option R := K (.ret) ⟨[.undef, .undef, .undef, .undef, .int .i64 q0, .undef, .undef, .undef, .undef, .undef, .undef, .undef, .undef, .undef, .undef, .undef, .undef, .undef, .undef, .undef, .undef, .undef, .undef, .undef, .undef, .undef, .undef, .undef, .undef, .undef, .undef, .undef, .undef, .undef, .undef, .undef, .undef, .undef, .undef, .undef, .undef, .undef, .undef, .undef, .undef, .undef, .undef, .undef, .undef, .undef, .undef], []⟩
noncomputable def ref05_Check_4_0_s {R : Type} (ref05_Get : ref05_Get_ty R) (ref05_fits : ref05_fits_ty R) (K : Ex → St → Option R) (rc : ref05_Check_4_0_D → Option R) (d : ref05_Check_4_0_D) : Option R := ref05_Check_4_0_B ref05_Get ref05_fits (fun z0 z1 z2 => rc (z0, z1, z2)) d.1 d.2.1 d.2.2 (ref05_Check_4_0_x0 K) (ref05_Check_4_0_x1 K)
noncomputable def ref05_Check_4_0_A {R : Type} (K : Ex → St → Option R) (n : Nat) (d : ref05_Check_4_0_D) : Option R := ref05_Check_4_0_L n d.1 d.2.1 d.2.2 (ref05_Check_4_0_x0 K) (ref05_Check_4_0_x1 K)
abbrev ref05_Check_4_0_p : List Pat := [.leaf (.undef), .leaf (.sl .fld), .leaf (.ptr 0 0), .leaf (.undef), .leaf (.undef), .leaf (.int .i64), .leaf (.undef), .leaf (.undef), .leaf (.undef), .leaf (.undef), .leaf (.undef), .leaf (.undef), .leaf (.undef), .leaf (.undef), .leaf (.undef), .leaf (.undef), .leaf (.undef), .leaf (.undef), .leaf (.undef), .leaf (.undef), .leaf (.undef), .leaf (.undef), .leaf (.undef), .leaf (.undef), .leaf (.undef), .leaf (.undef), .leaf (.undef), .leaf (.undef), .leaf (.undef), .leaf (.undef), .leaf (.undef), .leaf (.undef), .leaf (.undef), .leaf (.undef), .leaf (.undef), .leaf (.undef), .leaf (.undef), .leaf (.undef), .leaf (.undef), .leaf (.undef), .leaf (.undef), .leaf (.undef), .leaf (.undef), .leaf (.undef), .leaf (.undef), .leaf (.undef), .leaf (.undef), .leaf (.undef), .leaf (.undef), .leaf (.undef), .leaf (.undef)]
abbrev ref05_Check_4_0_q : List HPat := [.cells [.int .i64, .int .i64, .int .i64, .str, .sl .str, .sl .json]]
noncomputable def ref05_Check_4_0_f (x : Pat.dens ref05_Check_4_0_p) (y : HPat.dens ref05_Check_4_0_q) : Nat := (List.length x.2.1 + Int.natAbs x.2.2.2.2.2.1 + Json.fu (⟨y.1.1, ⟨y.1.2.1, y.1.2.2.1⟩, y.1.2.2.2.1, y.1.2.2.2.2.1, y.1.2.2.2.2.2.1⟩ : Json) + 3)
noncomputable def ref05_Check_4_0_d (x : Pat.dens ref05_Check_4_0_p) (y : HPat.dens ref05_Check_4_0_q) : ref05_Check_4_0_D := (x.2.1, x.2.2.2.2.2.1, (⟨y.1.1, ⟨y.1.2.1, y.1.2.2.1⟩, y.1.2.2.2.1, y.1.2.2.2.2.1, y.1.2.2.2.2.2.1⟩ : Json))
noncomputable def ref05_Check_4_0_rr {R : Type} (L : ref05_Check_4_0_ty R) : Pat.dens ref05_Check_4_0_p → HPat.dens ref05_Check_4_0_q → (Ex → St → Option R) → Option R := fun x y K => L (ref05_Check_4_0_f x y) x.2.1 x.2.2.2.2.2.1 (⟨y.1.1, ⟨y.1.2.1, y.1.2.2.1⟩, y.1.2.2.2.1, y.1.2.2.2.2.1, y.1.2.2.2.2.2.1⟩ : Json) (ref05_Check_4_0_x0 K) (ref05_Check_4_0_x1 K)
noncomputable def ref05_Check_T (R : Type) (ref05_Check_4_0_L : ref05_Check_4_0_ty R) : Nat → Option (Hint × LSpec R) := fun i => match i with
  | 4 => some (ref05_Check_4_0_h, (loopBy ref05_Check_4_0_p ref05_Check_4_0_q (ref05_Check_4_0_rr ref05_Check_4_0_L) loopNo))
  | _ => none

theorem ref05_Check_4_0_B_ok {R : Type} (ref05_Get : ref05_Get_ty R) (ref05_fits : ref05_fits_ty R) (ref05_Check_4_0_L : ref05_Check_4_0_ty R) (K : Ex → St → Option R) (rc : St → Option R) (d : ref05_Check_4_0_D) : roundOf tt (ref05_Check_E R ref05_Get ref05_fits) (ref05_Check_T R ref05_Check_4_0_L) 0 ((loopsOf (codeOf Try.f39)).getD 0 .skip) ref05_Check_4_0_h (ref05_Check_4_0_enc d) rc K = ref05_Check_4_0_s ref05_Get ref05_fits K (fun d => rc (ref05_Check_4_0_enc d)) d := by kernel_rfl
theorem ref05_Check_4_0_A_succ {R : Type} (K : Ex → St → Option R) (n : Nat) (d : ref05_Check_4_0_D) : ref05_Check_4_0_A K (n + 1) d = ref05_Check_4_0_s ref05_Get ref05_fits K (ref05_Check_4_0_A K n) d := by kernel_rfl
theorem ref05_Check_4_0_A_zero {R : Type} (K : Ex → St → Option R) (d : ref05_Check_4_0_D) : ref05_Check_4_0_A K 0 d = none := by kernel_rfl
theorem ref05_Check_4_0_e_ok (x : Pat.dens ref05_Check_4_0_p) (y : HPat.dens ref05_Check_4_0_q) : (⟨Pat.encL ref05_Check_4_0_p x, HPat.encL ref05_Check_4_0_q y⟩ : St) = ref05_Check_4_0_enc (ref05_Check_4_0_d x y) := by kernel_rfl
theorem ref05_Check_4_0_r_ok {R : Type} (x : Pat.dens ref05_Check_4_0_p) (y : HPat.dens ref05_Check_4_0_q) (K : Ex → St → Option R) : ref05_Check_4_0_rr (ref05_Check_4_0_L) x y K = ref05_Check_4_0_A K (ref05_Check_4_0_f x y) (ref05_Check_4_0_d x y) := by kernel_rfl
theorem ref05_Check_4_0_ok {R : Type} (other : LSpec R) (ho : LsOk tt (ref05_Check_E R ref05_Get ref05_fits) (ref05_Check_T R ref05_Check_4_0_L) 0 ((loopsOf (codeOf Try.f39)).getD 0 .skip) ref05_Check_4_0_h other) : LsOk tt (ref05_Check_E R ref05_Get ref05_fits) (ref05_Check_T R ref05_Check_4_0_L) 0 ((loopsOf (codeOf Try.f39)).getD 0 .skip) ref05_Check_4_0_h (loopBy ref05_Check_4_0_p ref05_Check_4_0_q (ref05_Check_4_0_rr (ref05_Check_4_0_L)) other) :=
  loopBy_tie (A := ref05_Check_4_0_A) ho (loop_tie ref05_Check_4_0_enc (ref05_Check_4_0_s ref05_Get ref05_fits) (ref05_Check_4_0_A) (ref05_Check_4_0_A_zero) (ref05_Check_4_0_B_ok ref05_Get ref05_fits ref05_Check_4_0_L) (ref05_Check_4_0_A_succ)) ref05_Check_4_0_f ref05_Check_4_0_d ref05_Check_4_0_e_ok (ref05_Check_4_0_r_ok)

noncomputable def ref05_Check_X {R : Type} (ref05_Check_4_0_L : ref05_Check_4_0_ty R) (x1 : Json) (x2 : List Fld) (k0 : Int → Option R) : Option R :=
  bif (x1.kind != 7) then (bif (decide ((x2.length : Int) > (0 : Int))) then (k0 0) else (ref05_Check_4_0_L (List.length x2 + Int.natAbs 0 + Json.fu (⟨x1.kind, ⟨x1.num.mant, x1.num.exp⟩, x1.text, x1.names, x1.items⟩ : Json) + 3) x2 0 (⟨x1.kind, ⟨x1.num.mant, x1.num.exp⟩, x1.text, x1.names, x1.items⟩ : Json) (k0 (-1)) (fun y11 => k0 y11))) else (ref05_Check_4_0_L (List.length x2 + Int.natAbs 0 + Json.fu (⟨x1.kind, ⟨x1.num.mant, x1.num.exp⟩, x1.text, x1.names, x1.items⟩ : Json) + 3) x2 0 (⟨x1.kind, ⟨x1.num.mant, x1.num.exp⟩, x1.text, x1.names, x1.items⟩ : Json) (k0 (-1)) (fun y12 => k0 y12))
noncomputable def ref05_Check {R : Type} : ref05_Check_ty R := fun x1 x2 k0 => ref05_Check_X ref05_Check_4_0_L x1 x2 k0
theorem ref05_Check_ok {R : Type} (ref05_Get : ref05_Get_ty R) (ref05_fits : ref05_fits_ty R) (ref05_Check_4_0_L : ref05_Check_4_0_ty R) (x1 : Json) (x2 : List Fld) (k : V → Heap → Option R) : funK tt (ref05_Check_E R ref05_Get ref05_fits) (ref05_Check_T R ref05_Check_4_0_L) false Try.f39 (codeOf Try.f39) [.agg [.int .i64 x1.kind, .int .i64 x1.num.mant, .int .i64 x1.num.exp, .str x1.text, .sl .str x1.names .no, .sl .json x1.items .no], .sl .fld x2 .no] [] k =
    ref05_Check_X ref05_Check_4_0_L x1 x2 (fun q0 => k (.int .i64 q0) []) := by kernel_rfl
theorem ref05_Check_loops (R : Type) : ∀ a ∈ loopsOf (codeOf Try.f39), LoopOk tt (ref05_Check_E R ref05_Get ref05_fits) (ref05_Check_T R ref05_Check_4_0_L) 0 a := by
  refine loops_ok 1 (by kernel_rfl) fun i hi => ?_
  match i, hi with
  | 0, _ => exact loopOk_some (by kernel_rfl) (ref05_Check_4_0_ok _ loopNo_ok)
  | n + 1, hi => omega
theorem ref05_Check_S_ok (R : Type) (other : Yard.Spec R) (ho : Yard.Spec.Ok Try.prog 39 other) : Yard.Spec.Ok Try.prog 39 (specBy ref05_Check_p ref05_Check_q (ref05_Check_rr ref05_Check) other) :=
  specBy_ok ho (funK_sound TT mixed (ref05_Check_EOk R) (keep := false) rfl rfl rfl rfl 0 (ref05_Check_loops R)) fun (x : Pat.dens ref05_Check_p) (y : HPat.dens ref05_Check_q) k => ref05_Check_ok ref05_Get ref05_fits ref05_Check_4_0_L (⟨x.1.1, ⟨x.1.2.1, x.1.2.2.1⟩, x.1.2.2.2.1, x.1.2.2.2.2.1, x.1.2.2.2.2.2.1⟩ : Json) x.2.1 k

/-! ### humpyard/humpyardref05.Int -/
abbrev ref05_Int_ty (R : Type) : Type := Int → (Json → Option R) → Option R
abbrev ref05_Int_p : List Pat := [.leaf (.int .i64)]
abbrev ref05_Int_q : List HPat := []
noncomputable def ref05_Int_rr {R : Type} (fn : ref05_Int_ty R) : Pat.dens ref05_Int_p → HPat.dens ref05_Int_q → (V → Heap → Option R) → Option R := fun x y k => fn x.1 (fun q0 => k (.agg [.int .i64 q0.kind, .int .i64 q0.num.mant, .int .i64 q0.num.exp, .str q0.text, .sl .str q0.names .no, .sl .json q0.items .no]) [])
noncomputable def ref05_Int_E (R : Type) (ref01_Make : ref01_Make_ty R) : Env R := fun i => match i with
  | 83 => some (true, (specBy ref01_Make_p ref01_Make_q (ref01_Make_rr ref01_Make) specNo))
  | _ => none
theorem ref05_Int_EOk (R : Type) : EOk Try.prog (ref05_Int_E R ref01_Make) := by
  intro i b sp h
  unfold ref05_Int_E at h
  split at h
  · cases h; exact (ref01_Make_S_ok R _ (specNo_ok _))
  · cases h

noncomputable def ref05_Int_T (R : Type) : Nat → Option (Hint × LSpec R) := fun i => match i with
  | _ => none

noncomputable def ref05_Int_X {R : Type} (ref01_Make : ref01_Make_ty R) (x1 : Int) (k0 : Json → Option R) : Option R :=
  ref01_Make x1 0 (fun y2 y3 => bif (!y3) then (k0 (⟨1, ⟨0, 0⟩, ([] : Str), ([] : List Str), ([] : List Json)⟩ : Json)) else (k0 (⟨4, ⟨y2.mant, y2.exp⟩, ([] : Str), ([] : List Str), ([] : List Json)⟩ : Json)))
noncomputable def ref05_Int {R : Type} : ref05_Int_ty R := fun x1 k0 => ref05_Int_X ref01_Make x1 k0
theorem ref05_Int_ok {R : Type} (ref01_Make : ref01_Make_ty R) (x1 : Int) (k : V → Heap → Option R) : funK tt (ref05_Int_E R ref01_Make) (ref05_Int_T R) false Try.f41 (codeOf Try.f41) [.int .i64 x1] [] k =
    ref05_Int_X ref01_Make x1 (fun q0 => k (.agg [.int .i64 q0.kind, .int .i64 q0.num.mant, .int .i64 q0.num.exp, .str q0.text, .sl .str q0.names .no, .sl .json q0.items .no]) []) := by kernel_rfl
theorem ref05_Int_loops (R : Type) : ∀ a ∈ loopsOf (codeOf Try.f41), LoopOk tt (ref05_Int_E R ref01_Make) (ref05_Int_T R) 0 a := by
  refine loops_ok 0 (by kernel_rfl) fun i hi => ?_
  omega
theorem ref05_Int_S_ok (R : Type) (other : Yard.Spec R) (ho : Yard.Spec.Ok Try.prog 41 other) : Yard.Spec.Ok Try.prog 41 (specBy ref05_Int_p ref05_Int_q (ref05_Int_rr ref05_Int) other) :=
  specBy_ok ho (funK_sound TT mixed (ref05_Int_EOk R) (keep := false) rfl rfl rfl rfl 0 (ref05_Int_loops R)) fun (x : Pat.dens ref05_Int_p) (y : HPat.dens ref05_Int_q) k => ref05_Int_ok ref01_Make x.1 k

/-! ### humpyard/humpyardref05.Str -/
abbrev ref05_Str_ty (R : Type) : Type := Str → (Json → Option R) → Option R
abbrev ref05_Str_p : List Pat := [.leaf (.str)]
abbrev ref05_Str_q : List HPat := []
noncomputable def ref05_Str_rr {R : Type} (fn : ref05_Str_ty R) : Pat.dens ref05_Str_p → HPat.dens ref05_Str_q → (V → Heap → Option R) → Option R := fun x y k => fn x.1 (fun q0 => k (.agg [.int .i64 q0.kind, .int .i64 q0.num.mant, .int .i64 q0.num.exp, .str q0.text, .sl .str q0.names .no, .sl .json q0.items .no]) [])
noncomputable def ref05_Str_E (R : Type) : Env R := fun i => match i with
  | _ => none
theorem ref05_Str_EOk (R : Type) : EOk Try.prog (ref05_Str_E R) := by
  intro i b sp h
  unfold ref05_Str_E at h
  split at h
  · cases h

noncomputable def ref05_Str_T (R : Type) : Nat → Option (Hint × LSpec R) := fun i => match i with
  | _ => none

noncomputable def ref05_Str_X {R : Type} (x1 : Str) (k0 : Json → Option R) : Option R :=
  k0 (⟨5, ⟨0, 0⟩, x1, ([] : List Str), ([] : List Json)⟩ : Json)
noncomputable def ref05_Str {R : Type} : ref05_Str_ty R := fun x1 k0 => ref05_Str_X x1 k0
theorem ref05_Str_ok {R : Type} (x1 : Str) (k : V → Heap → Option R) : funK tt (ref05_Str_E R) (ref05_Str_T R) false Try.f43 (codeOf Try.f43) [.str x1] [] k =
    ref05_Str_X x1 (fun q0 => k (.agg [.int .i64 q0.kind, .int .i64 q0.num.mant, .int .i64 q0.num.exp, .str q0.text, .sl .str q0.names .no, .sl .json q0.items .no]) []) := by kernel_rfl
theorem ref05_Str_loops (R : Type) : ∀ a ∈ loopsOf (codeOf Try.f43), LoopOk tt (ref05_Str_E R) (ref05_Str_T R) 0 a := by
  refine loops_ok 0 (by kernel_rfl) fun i hi => ?_
  omega
theorem ref05_Str_S_ok (R : Type) (other : Yard.Spec R) (ho : Yard.Spec.Ok Try.prog 43 other) : Yard.Spec.Ok Try.prog 43 (specBy ref05_Str_p ref05_Str_q (ref05_Str_rr ref05_Str) other) :=
  specBy_ok ho (funK_sound TT mixed (ref05_Str_EOk R) (keep := false) rfl rfl rfl rfl 0 (ref05_Str_loops R)) fun (x : Pat.dens ref05_Str_p) (y : HPat.dens ref05_Str_q) k => ref05_Str_ok x.1 k

/-! ### humpyard/humpyardref05.Yes -/
abbrev ref05_Yes_ty (R : Type) : Type := Bool → (Json → Option R) → Option R
abbrev ref05_Yes_p : List Pat := [.leaf (.bool)]
abbrev ref05_Yes_q : List HPat := []
noncomputable def ref05_Yes_rr {R : Type} (fn : ref05_Yes_ty R) : Pat.dens ref05_Yes_p → HPat.dens ref05_Yes_q → (V → Heap → Option R) → Option R := fun x y k => fn x.1 (fun q0 => k (.agg [.int .i64 q0.kind, .int .i64 q0.num.mant, .int .i64 q0.num.exp, .str q0.text, .sl .str q0.names .no, .sl .json q0.items .no]) [])
noncomputable def ref05_Yes_E (R : Type) : Env R := fun i => match i with
  | _ => none
theorem ref05_Yes_EOk (R : Type) : EOk Try.prog (ref05_Yes_E R) := by
  intro i b sp h
  unfold ref05_Yes_E at h
  split at h
  · cases h

noncomputable def ref05_Yes_T (R : Type) : Nat → Option (Hint × LSpec R) := fun i => match i with
  | _ => none

noncomputable def ref05_Yes_X {R : Type} (x1 : Bool) (k0 : Json → Option R) : Option R :=
  bif x1 then (k0 (⟨3, ⟨0, 0⟩, ([] : Str), ([] : List Str), ([] : List Json)⟩ : Json)) else (k0 (⟨2, ⟨0, 0⟩, ([] : Str), ([] : List Str), ([] : List Json)⟩ : Json))
noncomputable def ref05_Yes {R : Type} : ref05_Yes_ty R := fun x1 k0 => ref05_Yes_X x1 k0
theorem ref05_Yes_ok {R : Type} (x1 : Bool) (k : V → Heap → Option R) : funK tt (ref05_Yes_E R) (ref05_Yes_T R) false Try.f45 (codeOf Try.f45) [.bool x1] [] k =
    ref05_Yes_X x1 (fun q0 => k (.agg [.int .i64 q0.kind, .int .i64 q0.num.mant, .int .i64 q0.num.exp, .str q0.text, .sl .str q0.names .no, .sl .json q0.items .no]) []) := by kernel_rfl
theorem ref05_Yes_loops (R : Type) : ∀ a ∈ loopsOf (codeOf Try.f45), LoopOk tt (ref05_Yes_E R) (ref05_Yes_T R) 0 a := by
  refine loops_ok 0 (by kernel_rfl) fun i hi => ?_
  omega
theorem ref05_Yes_S_ok (R : Type) (other : Yard.Spec R) (ho : Yard.Spec.Ok Try.prog 45 other) : Yard.Spec.Ok Try.prog 45 (specBy ref05_Yes_p ref05_Yes_q (ref05_Yes_rr ref05_Yes) other) :=
  specBy_ok ho (funK_sound TT mixed (ref05_Yes_EOk R) (keep := false) rfl rfl rfl rfl 0 (ref05_Yes_loops R)) fun (x : Pat.dens ref05_Yes_p) (y : HPat.dens ref05_Yes_q) k => ref05_Yes_ok x.1 k

/-! ### humpyard/field.Arr -/
abbrev field_Arr_ty (R : Type) : Type := (List Json) → (Json → Option R) → Option R
abbrev field_Arr_p : List Pat := [.leaf (.sl .json)]
abbrev field_Arr_q : List HPat := []
noncomputable def field_Arr_rr {R : Type} (fn : field_Arr_ty R) : Pat.dens field_Arr_p → HPat.dens field_Arr_q → (V → Heap → Option R) → Option R := fun x y k => fn x.1 (fun q0 => k (.agg [.int .i64 q0.kind, .int .i64 q0.num.mant, .int .i64 q0.num.exp, .str q0.text, .sl .str q0.names .no, .sl .json q0.items .no]) [])
noncomputable def field_Arr_E (R : Type) (field_fresh : field_fresh_ty R) : Env R := fun i => match i with
  | 67 => some (true, (specBy field_fresh_p field_fresh_q (field_fresh_rr field_fresh) specNo))
  | _ => none
theorem field_Arr_EOk (R : Type) : EOk Try.prog (field_Arr_E R field_fresh) := by
  intro i b sp h
  unfold field_Arr_E at h
  split at h
  · cases h; exact (field_fresh_S_ok R _ (specNo_ok _))
  · cases h

noncomputable def field_Arr_T (R : Type) : Nat → Option (Hint × LSpec R) := fun i => match i with
  | _ => none

noncomputable def field_Arr_X {R : Type} (field_fresh : field_fresh_ty R) (x1 : List Json) (k0 : Json → Option R) : Option R :=
  field_fresh (⟨6, ⟨0, 0⟩, ([] : Str), ([] : List Str), x1⟩ : Json) (fun y2 => k0 (⟨y2.kind, ⟨y2.num.mant, y2.num.exp⟩, y2.text, y2.names, y2.items⟩ : Json))
noncomputable def field_Arr {R : Type} : field_Arr_ty R := fun x1 k0 => field_Arr_X field_fresh x1 k0
theorem field_Arr_ok {R : Type} (field_fresh : field_fresh_ty R) (x1 : List Json) (k : V → Heap → Option R) : funK tt (field_Arr_E R field_fresh) (field_Arr_T R) false Try.f46 (codeOf Try.f46) [.sl .json x1 .no] [] k =
    field_Arr_X field_fresh x1 (fun q0 => k (.agg [.int .i64 q0.kind, .int .i64 q0.num.mant, .int .i64 q0.num.exp, .str q0.text, .sl .str q0.names .no, .sl .json q0.items .no]) []) := by kernel_rfl
theorem field_Arr_loops (R : Type) : ∀ a ∈ loopsOf (codeOf Try.f46), LoopOk tt (field_Arr_E R field_fresh) (field_Arr_T R) 0 a := by
  refine loops_ok 0 (by kernel_rfl) fun i hi => ?_
  omega
theorem field_Arr_S_ok (R : Type) (other : Yard.Spec R) (ho : Yard.Spec.Ok Try.prog 46 other) : Yard.Spec.Ok Try.prog 46 (specBy field_Arr_p field_Arr_q (field_Arr_rr field_Arr) other) :=
  specBy_ok ho (funK_sound TT mixed (field_Arr_EOk R) (keep := false) rfl rfl rfl rfl 0 (field_Arr_loops R)) fun (x : Pat.dens field_Arr_p) (y : HPat.dens field_Arr_q) k => field_Arr_ok field_fresh x.1 k

/-! ### humpyard/humpyardref05.Arr -/
abbrev ref05_Arr_ty (R : Type) : Type := (List Json) → (Json → Option R) → Option R
abbrev ref05_Arr_p : List Pat := [.leaf (.sl .json)]
abbrev ref05_Arr_q : List HPat := []
noncomputable def ref05_Arr_rr {R : Type} (fn : ref05_Arr_ty R) : Pat.dens ref05_Arr_p → HPat.dens ref05_Arr_q → (V → Heap → Option R) → Option R := fun x y k => fn x.1 (fun q0 => k (.agg [.int .i64 q0.kind, .int .i64 q0.num.mant, .int .i64 q0.num.exp, .str q0.text, .sl .str q0.names .no, .sl .json q0.items .no]) [])
noncomputable def ref05_Arr_E (R : Type) : Env R := fun i => match i with
  | _ => none
theorem ref05_Arr_EOk (R : Type) : EOk Try.prog (ref05_Arr_E R) := by
  intro i b sp h
  unfold ref05_Arr_E at h
  split at h
  · cases h

noncomputable def ref05_Arr_T (R : Type) : Nat → Option (Hint × LSpec R) := fun i => match i with
  | _ => none

noncomputable def ref05_Arr_X {R : Type} (x1 : List Json) (k0 : Json → Option R) : Option R :=
  chk (decide ((0 + x1.length) * 88 ≤ 140737488355328)) (k0 (⟨6, ⟨0, 0⟩, ([] : Str), ([] : List Str), x1⟩ : Json))
noncomputable def ref05_Arr {R : Type} : ref05_Arr_ty R := fun x1 k0 => ref05_Arr_X x1 k0
theorem ref05_Arr_ok {R : Type} (x1 : List Json) (k : V → Heap → Option R) : funK tt (ref05_Arr_E R) (ref05_Arr_T R) false Try.f47 (codeOf Try.f47) [.sl .json x1 .no] [] k =
    ref05_Arr_X x1 (fun q0 => k (.agg [.int .i64 q0.kind, .int .i64 q0.num.mant, .int .i64 q0.num.exp, .str q0.text, .sl .str q0.names .no, .sl .json q0.items .no]) []) := by kernel_rfl
theorem ref05_Arr_loops (R : Type) : ∀ a ∈ loopsOf (codeOf Try.f47), LoopOk tt (ref05_Arr_E R) (ref05_Arr_T R) 0 a := by
  refine loops_ok 0 (by kernel_rfl) fun i hi => ?_
  omega
theorem ref05_Arr_S_ok (R : Type) (other : Yard.Spec R) (ho : Yard.Spec.Ok Try.prog 47 other) : Yard.Spec.Ok Try.prog 47 (specBy ref05_Arr_p ref05_Arr_q (ref05_Arr_rr ref05_Arr) other) :=
  specBy_ok ho (funK_sound TT mixed (ref05_Arr_EOk R) (keep := false) rfl rfl rfl rfl 0 (ref05_Arr_loops R)) fun (x : Pat.dens ref05_Arr_p) (y : HPat.dens ref05_Arr_q) k => ref05_Arr_ok x.1 k

end Go.Proofs.Ytcocpfgemdkkfaa

/-
  The reference of chapter 05 (Get, Num, Text, Flag, List, Check, Make, Int) computes what field's functions compute. Plain Lean over the printed functions. Own work.
-/
set_option linter.unusedVariables false
namespace Go.Proofs.Ytcocpfgemdkkfaa
open Go Go.Yard

theorem jok_zero : JOk zeroJ := jok_mk ⟨by decide, by decide⟩ ⟨by decide, by decide⟩ ⟨by decide, by decide⟩ (by simp) (by simp) (by simp) (by simp) (by simp)

/-! ### numbers made -/
theorem tmod_zero {m : Int} (h0 : m ≠ 0) (h : Int.tmod m 10 = 0) : ∃ c : Int, m = 10 * c ∧ c ≠ 0 ∧ Int.tdiv m 10 = c := by
  obtain ⟨c, rfl⟩ := Int.dvd_of_tmod_eq_zero h
  exact ⟨c, rfl, by rintro rfl; exact h0 rfl, Int.mul_tdiv_cancel_left c (by decide)⟩

theorem made_loops {R : Type} (d : Dcm) : ∀ (j : Nat) (m e : Int) (n : Nat), m ≠ 0 → m.natAbs < 10 ^ j → m.natAbs < n → 0 ≤ e → e + j ≤ 19 → I64 m →
    ∃ m' e' : Int, I64 m' ∧ I64 e' ∧ (∀ e0, decimal_Make_4_0_L (R := R) n m e d e0 = e0 m' e' d) ∧ (∀ e0 e1, ref01_Make_3_0_L (R := R) n m e d e0 e1 = e0 m' e' d) := by
  intro j
  induction j with
  | zero => intro m e n h0 h; omega
  | succ j ih =>
    intro m e n h0 h hn he hej hm
    obtain ⟨hm1, hm2⟩ := hm
    cases n with
    | zero => omega
    | succ n =>
      by_cases hq : Int.tmod m 10 = 0
      · have c1 : (Int.tmod m 10 == 0) = true := by simpa using hq
        have c2 : decide (e > (1099511627776 : Int)) = false := decide_eq_false (by omega)
        obtain ⟨c, hc, hc0, hcd⟩ := tmod_zero h0 hq
        have hp : 10 ^ (j + 1) = 10 * 10 ^ j := by rw [Nat.pow_succ, Nat.mul_comm]
        obtain ⟨m', e', g1, g2, g3, g4⟩ := ih c (e + 1) n hc0 (by rw [hp] at h; omega) (by omega) (by omega) (by omega) ⟨by omega, by omega⟩
        refine ⟨m', e', g1, g2, fun e0 => ?_, fun e0 e1 => ?_⟩
        · show decimal_Make_4_0_B (fun a b c => decimal_Make_4_0_L n a b c e0) m e d e0 = _
          unfold decimal_Make_4_0_B
          rw [c1, cond_true, hcd, wrap_id (by omega) (by omega), wrap_id (by omega) (by omega)]
          exact g3 e0
        · show ref01_Make_3_0_B (fun a b c => ref01_Make_3_0_L n a b c e0 e1) m e d e0 e1 = _
          unfold ref01_Make_3_0_B
          rw [c1, cond_true, c2, cond_false, hcd, wrap_id (by omega) (by omega), wrap_id (by omega) (by omega)]
          exact g4 e0 e1
      · have c1 : (Int.tmod m 10 == 0) = false := by simpa using hq
        refine ⟨m, e, ⟨hm1, hm2⟩, ⟨by omega, by omega⟩, fun e0 => ?_, fun e0 e1 => ?_⟩
        · show decimal_Make_4_0_B _ m e d e0 = _
          unfold decimal_Make_4_0_B
          rw [c1, cond_false]
        · show ref01_Make_3_0_B _ m e d e0 e1 = _
          unfold ref01_Make_3_0_B
          rw [c1, cond_false]

theorem made_same {R : Type} (n : Int) (hn : I64 n) : ∃ (d : Dcm) (b : Bool), I64 d.mant ∧ I64 d.exp ∧ (∀ k : Dcm → Bool → Option R, decimal_Make n 0 k = k d b) ∧ ∀ k : Dcm → Bool → Option R, ref01_Make n 0 k = k d b := by
  obtain ⟨hn1, hn2⟩ := hn
  by_cases h0 : n = 0
  · subst h0
    exact ⟨⟨0, 0⟩, true, ⟨by decide, by decide⟩, ⟨by decide, by decide⟩, fun k => rfl, fun k => rfl⟩
  · have c0 : (n == 0) = false := by simpa using h0
    have c5 : min (0 : Int) 1000000 = 0 := by decide
    obtain ⟨m', e', g1, g2, g3, g4⟩ := made_loops (R := R) ⟨0, 0⟩ 19 n 0 (Int.natAbs n + Int.natAbs 0 + Dcm.fu (⟨0, 0⟩ : Dcm) + 3) h0 (by omega) (by omega) (by omega) (by omega) ⟨hn1, hn2⟩
    by_cases hb : (-1000000000000000 ≤ m' ∧ m' ≤ 1000000000000000) ∧ (-9 ≤ e' ∧ e' ≤ 9)
    · refine ⟨⟨m', e'⟩, true, g1, g2, fun k => ?_, fun k => ?_⟩
      · unfold decimal_Make decimal_Make_X
        rw [c0, cond_false, c5, g3, within_eq]
        have d1 : (decide (-1000000000000000 ≤ m') && decide (m' ≤ 1000000000000000)) = true := by simp; omega
        have d2 : (decide (-9 ≤ e') && decide (e' ≤ 9)) = true := by simp; omega
        rw [d1, Bool.not_true, cond_false, within_eq, d2, Bool.not_true, cond_false]
      · unfold ref01_Make ref01_Make_X
        rw [c0, cond_false, g4]
        have d1 : decide (m' > (1000000000000000 : Int)) = false := decide_eq_false (by omega)
        have d2 : decide (m' < (-1000000000000000 : Int)) = false := decide_eq_false (by omega)
        have d3 : decide (e' > (9 : Int)) = false := decide_eq_false (by omega)
        have d4 : decide (e' < (-9 : Int)) = false := decide_eq_false (by omega)
        simp only [d1, d2, d3, d4, cond_false]
    · refine ⟨⟨0, 0⟩, false, ⟨by decide, by decide⟩, ⟨by decide, by decide⟩, fun k => ?_, fun k => ?_⟩
      · unfold decimal_Make decimal_Make_X
        rw [c0, cond_false, c5, g3, within_eq]
        by_cases hm : -1000000000000000 ≤ m' ∧ m' ≤ 1000000000000000
        · have d1 : (decide (-1000000000000000 ≤ m') && decide (m' ≤ 1000000000000000)) = true := by simp; omega
          have d2 : (decide (-9 ≤ e') && decide (e' ≤ 9)) = false := by simp only [Bool.and_eq_false_imp, decide_eq_true_eq, decide_eq_false_iff_not]; omega
          rw [d1, Bool.not_true, cond_false, within_eq, d2, Bool.not_false, cond_true]
        · have d1 : (decide (-1000000000000000 ≤ m') && decide (m' ≤ 1000000000000000)) = false := by simp only [Bool.and_eq_false_imp, decide_eq_true_eq, decide_eq_false_iff_not]; omega
          rw [d1, Bool.not_false, cond_true]
      · unfold ref01_Make ref01_Make_X
        rw [c0, cond_false, g4]
        by_cases d1 : m' > (1000000000000000 : Int)
        · simp only [decide_eq_true d1, cond_true]
        · by_cases d2 : m' < (-1000000000000000 : Int)
          · simp only [decide_eq_false d1, decide_eq_true d2, cond_true, cond_false]
          · by_cases d3 : e' > (9 : Int)
            · simp only [decide_eq_false d1, decide_eq_false d2, decide_eq_true d3, cond_true, cond_false]
            · have d4 : e' < (-9 : Int) := by omega
              simp only [decide_eq_false d1, decide_eq_false d2, decide_eq_false d3, decide_eq_true d4, cond_true, cond_false]

theorem Int_same {R : Type} (n : Int) (hn : I64 n) : ∃ x : Json, JOk x ∧ (∀ k : Json → Option R, field_Int n k = k x) ∧ ∀ k : Json → Option R, ref05_Int n k = k x := by
  obtain ⟨d, b, h1, h2, g1, g2⟩ := made_same (R := R) n hn
  refine ⟨bif !b then ⟨1, ⟨0, 0⟩, [], [], []⟩ else ⟨4, ⟨d.mant, d.exp⟩, [], [], []⟩, ?_, fun k => ?_, fun k => ?_⟩
  · cases b
    · exact jok_mk ⟨by decide, by decide⟩ ⟨by decide, by decide⟩ ⟨by decide, by decide⟩ (by simp) (by simp) (by simp) (by simp) (by simp)
    · exact jok_mk ⟨by decide, by decide⟩ h1 h2 (by simp) (by simp) (by simp) (by simp) (by simp)
  · unfold field_Int field_Int_X
    rw [g1]
    cases b <;> rfl
  · unfold ref05_Int ref05_Int_X
    rw [g2]
    cases b <;> rfl

/-! ### whole numbers -/
theorem rmake_shrinks {R : Type} (d : Dcm) : ∀ (n : Nat) (m e : Int), m ≠ 0 → m.natAbs < n → I64 m → I64 e →
    (∃ m' e' : Int, m'.natAbs ≤ m.natAbs ∧ Int.tmod m' 10 ≠ 0 ∧ (Int.tmod m 10 ≠ 0 → m' = m ∧ e' = e) ∧ (Int.tmod m 10 = 0 → m' ≠ m) ∧ ∀ e0 e1, ref01_Make_3_0_L (R := R) n m e d e0 e1 = e0 m' e' d) ∨
    (Int.tmod m 10 = 0 ∧ ∃ m' e' : Int, ∀ e0 e1, ref01_Make_3_0_L (R := R) n m e d e0 e1 = e1 m' e' false ⟨0, 0⟩) := by
  intro n
  induction n with
  | zero => intro m e _ h; omega
  | succ n ih =>
    intro m e h0 hn hm he
    obtain ⟨hm1, hm2⟩ := hm
    obtain ⟨he1, he2⟩ := he
    by_cases hq : Int.tmod m 10 = 0
    · have c1 : (Int.tmod m 10 == 0) = true := by simpa using hq
      obtain ⟨c, hc, hc0, hcd⟩ := tmod_zero h0 hq
      by_cases hb : e > (1099511627776 : Int)
      · refine .inr ⟨hq, IntKind.i64.wrap c, e, fun e0 e1 => ?_⟩
        show ref01_Make_3_0_B (fun a b c => ref01_Make_3_0_L n a b c e0 e1) m e d e0 e1 = _
        unfold ref01_Make_3_0_B
        rw [c1, cond_true, decide_eq_true hb, cond_true, hcd]
      · have c2 : decide (e > (1099511627776 : Int)) = false := decide_eq_false hb
        have step : ∀ e0 e1, ref01_Make_3_0_L (R := R) (n + 1) m e d e0 e1 = ref01_Make_3_0_L n c (e + 1) d e0 e1 := fun e0 e1 => by
          show ref01_Make_3_0_B (fun a b c => ref01_Make_3_0_L n a b c e0 e1) m e d e0 e1 = _
          unfold ref01_Make_3_0_B
          rw [c1, cond_true, c2, cond_false, hcd, wrap_id (by omega) (by omega), wrap_id (by omega) (by omega)]
        rcases ih c (e + 1) hc0 (by omega) ⟨by omega, by omega⟩ ⟨by omega, by omega⟩ with ⟨m', e', g1, g2, g3, g4, g5⟩ | ⟨_, m', e', g⟩
        · refine .inl ⟨m', e', by omega, g2, fun h => (h hq).elim, fun _ h => ?_, fun e0 e1 => (step e0 e1).trans (g5 e0 e1)⟩
          rw [h] at g2
          exact g2 hq
        · exact .inr ⟨hq, m', e', fun e0 e1 => (step e0 e1).trans (g e0 e1)⟩
    · have c1 : (Int.tmod m 10 == 0) = false := by simpa using hq
      refine .inl ⟨m, e, Nat.le_refl _, hq, fun _ => ⟨rfl, rfl⟩, fun h => (hq h).elim, fun e0 e1 => ?_⟩
      show ref01_Make_3_0_B _ m e d e0 e1 = _
      unfold ref01_Make_3_0_B
      rw [c1, cond_false]

theorem rright_eq {R : Type} (d : Dcm) (h1 : I64 d.mant) (h2 : I64 d.exp) (k : Bool → Option R) : ref01_Right d k = k (rightB d) := by
  unfold ref01_Right ref01_Right_X ref01_Make ref01_Make_X rightB
  by_cases h : d.mant = 0
  · have c : (d.mant == 0) = true := by simpa using h
    rw [c, cond_true, if_pos h]
    show k ((0 : Int) == d.mant && ((0 : Int) == d.exp && true)) = _
    congr 1
    rw [h]
    by_cases hq : d.exp = 0
    · rw [hq]; rfl
    · have hq' : ¬ (0 : Int) = d.exp := fun e => hq e.symm
      simp [hq, hq']
  · have c : (d.mant == 0) = false := by simpa using h
    rw [c, cond_false, if_neg h]
    rcases rmake_shrinks (R := R) ⟨0, 0⟩ (Int.natAbs d.mant + Int.natAbs d.exp + Dcm.fu (⟨0, 0⟩ : Dcm) + 3) d.mant d.exp h (by omega) h1 h2 with ⟨m', e', g1, g2, g3, g4, g5⟩ | ⟨hq, m', e', g⟩
    · rw [g5]
      by_cases hq : Int.tmod d.mant 10 = 0
      · have hne := g4 hq
        have hf : (decide (Int.tmod d.mant 10 ≠ 0) && (decide (-1000000000000000 ≤ d.mant) && decide (d.mant ≤ 1000000000000000)) && (decide (-9 ≤ d.exp) && decide (d.exp ≤ 9))) = false := by simp [hq]
        rw [hf]
        have hm : (m' == d.mant) = false := by simpa using hne
        cases decide (m' > (1000000000000000 : Int)) <;> cases decide (m' < (-1000000000000000 : Int)) <;> cases decide (e' > (9 : Int)) <;> cases decide (e' < (-9 : Int)) <;> simp only [cond_true, cond_false, hm, Bool.false_and]
      · obtain ⟨rfl, rfl⟩ := g3 hq
        have t : decide (Int.tmod d.mant 10 ≠ 0) = true := decide_eq_true hq
        rw [t, Bool.true_and]
        by_cases d1 : d.mant > (1000000000000000 : Int)
        · have : (decide (-1000000000000000 ≤ d.mant) && decide (d.mant ≤ 1000000000000000) && (decide (-9 ≤ d.exp) && decide (d.exp ≤ 9))) = false := by simp; omega
          rw [this]
          simp only [decide_eq_true d1, cond_true, cond_false]
        · by_cases d2 : d.mant < (-1000000000000000 : Int)
          · have : (decide (-1000000000000000 ≤ d.mant) && decide (d.mant ≤ 1000000000000000) && (decide (-9 ≤ d.exp) && decide (d.exp ≤ 9))) = false := by simp; omega
            rw [this]
            simp only [decide_eq_false d1, decide_eq_true d2, cond_true, cond_false]
          · by_cases d3 : d.exp > (9 : Int)
            · have : (decide (-1000000000000000 ≤ d.mant) && decide (d.mant ≤ 1000000000000000) && (decide (-9 ≤ d.exp) && decide (d.exp ≤ 9))) = false := by simp; omega
              rw [this]
              simp only [decide_eq_false d1, decide_eq_false d2, decide_eq_true d3, cond_true, cond_false]
            · by_cases d4 : d.exp < (-9 : Int)
              · have : (decide (-1000000000000000 ≤ d.mant) && decide (d.mant ≤ 1000000000000000) && (decide (-9 ≤ d.exp) && decide (d.exp ≤ 9))) = false := by simp; omega
                rw [this]
                simp only [decide_eq_false d1, decide_eq_false d2, decide_eq_false d3, decide_eq_true d4, cond_true, cond_false]
              · have : (decide (-1000000000000000 ≤ d.mant) && decide (d.mant ≤ 1000000000000000) && (decide (-9 ≤ d.exp) && decide (d.exp ≤ 9))) = true := by simp; omega
                rw [this]
                simp only [decide_eq_false d1, decide_eq_false d2, decide_eq_false d3, decide_eq_false d4, cond_true, cond_false, beq_self_eq_true, Bool.and_self]
    · rw [g]
      have hf : (decide (Int.tmod d.mant 10 ≠ 0) && (decide (-1000000000000000 ≤ d.mant) && decide (d.mant ≤ 1000000000000000)) && (decide (-9 ≤ d.exp) && decide (d.exp ≤ 9))) = false := by simp [hq]
      rw [hf]
      rfl

theorem rshift_loop {R : Type} (d : Dcm) (e0 : Int → Option R) (e1 : Int → Bool → Int → Option R) (f : Int → Bool → Option R) (h1 : ∀ x, e1 0 false x = f 0 false) (h0 : ∀ x, e0 x = f x true) (m : Nat) (hm : d.exp = (m : Int)) (hm2 : m ≤ 9223372036854775806) :
    ∀ (n i : Nat) (x : Int), i ≤ m → m - i < n → -1000000000000000000 ≤ x → x ≤ 1000000000000000000 →
    ref01_Int_6_0_L n x (i : Int) d e0 e1 = match shiftN (m - i) x with | some y => f y true | none => f 0 false := by
  intro n
  induction n with
  | zero => intro i x _ h; omega
  | succ n ih =>
    intro i x hi hn hx1 hx2
    show ref01_Int_6_0_B (fun a b c => ref01_Int_6_0_L n a b c e0 e1) _ _ _ e0 e1 = _
    unfold ref01_Int_6_0_B
    rw [hm]
    by_cases h : i < m
    · have c1 : decide ((i : Int) < (m : Int)) = true := decide_eq_true (by omega)
      have hw : IntKind.i64.wrap ((i : Int) + 1) = ((i + 1 : Nat) : Int) := by rw [wrap_id (by omega) (by omega)]; omega
      have e : m - i = (m - (i + 1)) + 1 := by omega
      rw [c1, cond_true, e]
      simp only [shiftN]
      by_cases b1 : x > (100000000000000000 : Int)
      · rw [decide_eq_true b1, cond_true, if_neg (by omega)]
        exact h1 x
      · rw [decide_eq_false b1, cond_false]
        by_cases b2 : x < (-100000000000000000 : Int)
        · rw [decide_eq_true b2, cond_true, if_neg (by omega)]
          exact h1 x
        · rw [decide_eq_false b2, cond_false, if_pos (by omega), hw, wrap_id (by omega) (by omega), Int.mul_comm 10 x]
          exact ih (i + 1) (x * 10) (by omega) (by omega) (by omega) (by omega)
    · have c1 : decide ((i : Int) < (m : Int)) = false := decide_eq_false (by omega)
      have e : m - i = 0 := by omega
      rw [c1, cond_false, e]
      exact h0 x

theorem rInt_eq {R : Type} (d : Dcm) (h1 : I64 d.mant) (h2 : I64 d.exp) (k : Int → Bool → Option R) : ref01_Int d k = match decInt d with | some n => k n true | none => k 0 false := by
  unfold ref01_Int ref01_Int_X
  rw [rright_eq d h1 h2]
  cases hr : rightB d with
  | false =>
    have : decInt d = none := by unfold decInt; rw [if_neg (by simp [hr])]
    rw [this]; rfl
  | true =>
    by_cases he : d.exp < 0
    · have : decInt d = none := by unfold decInt; rw [if_neg (by omega)]
      rw [this]
      simp only [Bool.not_true, cond_false, decide_eq_true he, cond_true]
    · have hb : -1000000000000000 ≤ d.mant ∧ d.mant ≤ 1000000000000000 ∧ d.exp ≤ 9 := by
        unfold rightB at hr
        split at hr
        · simp at hr; omega
        · simp at hr; omega
      have e : decInt d = shiftN d.exp.toNat d.mant := by unfold decInt; rw [if_pos ⟨hr, by omega⟩]
      rw [e]
      simp only [Bool.not_true, cond_false, decide_eq_false he]
      exact rshift_loop d _ _ (fun a b => k a b) (fun x => rfl) (fun x => rfl) d.exp.toNat (by omega) (by omega) _ 0 d.mant (by omega) (by unfold Dcm.fu; omega) (by omega) (by omega)

/-! ### items found -/
theorem rget_loop {R : Type} (v : Json) (hv : JOk v) (s : Str) (a b c : Int) (t : Str) (k : Json → Bool → Option R) : ∀ (n i : Nat), i ≤ v.names.length → v.names.length - i < n →
    ref05_Get_2_0_L n s (i : Int) v a b c t (fun _ _ _ _ => k zeroJ false) (fun y z => k z y) = match (if v.kind = 7 then look s (v.names.drop i) (v.items.drop i) else none) with | some x => k x true | none => k zeroJ false := by
  intro n
  induction n with
  | zero => intro i _ h; omega
  | succ n ih =>
    intro i hi hn
    show ref05_Get_2_0_B (fun x1 x2 x3 x4 x5 x6 x7 => ref05_Get_2_0_L n x1 x2 x3 x4 x5 x6 x7 _ _) _ _ _ _ _ _ _ _ _ = _
    unfold ref05_Get_2_0_B
    simp only [Json.eta]
    have hnl := hv.names
    by_cases h : i < v.names.length
    · have c1 : decide ((i : Int) < (v.names.length : Int)) = true := decide_eq_true (by omega)
      by_cases h2 : i < v.items.length
      · have c2 : decide ((i : Int) < (v.items.length : Int)) = true := decide_eq_true (by omega)
        by_cases h7 : v.kind = 7
        · have c7 : (v.kind == 7) = true := by simpa using h7
          have p1 : (decide ((0 : Int) ≤ (i : Int)) && decide ((i : Int) < v.names.length)) = true := by simp; omega
          have p2 : (decide ((0 : Int) ≤ (i : Int)) && decide ((i : Int) < v.items.length)) = true := by simp; omega
          have p3 : (decide ((0 : Int) ≤ (i : Int)) && true) = true := by simp
          have hw : IntKind.i64.wrap ((i : Int) + 1) = ((i + 1 : Nat) : Int) := by rw [wrap_id (by omega) (by omega)]; omega
          have hg : v.names.getD (i : Int).toNat (Ty.dflt .str) = v.names[i] := getD_at h _
          have hg' : v.items.getD (i : Int).toNat (Ty.dflt .json) = v.items[i] := getD_at h2 _
          have e1' := ih (i + 1) (by omega) (by omega)
          rw [c1, cond_true, c2, cond_true, c7, cond_true, chk_pos (by first | exact p1 | exact p3), hg, hw]
          simp only [hg']
          rw [chk_pos (by first | exact p2 | exact p3), if_pos h7, List.drop_eq_getElem_cons h, List.drop_eq_getElem_cons h2]
          simp only [look]
          rw [show (s == v.names[i]) = (v.names[i] == s) from bcomm _ _]
          cases hq : (v.names[i] == s) with
          | true => simp
          | false =>
            rw [if_pos h7] at e1'
            simpa using e1'
        · have c7 : (v.kind == 7) = false := by simpa using h7
          rw [c1, cond_true, c2, cond_true, c7, cond_false, if_neg h7]
      · have c2 : decide ((i : Int) < (v.items.length : Int)) = false := decide_eq_false (by omega)
        rw [c1, cond_true, c2, cond_false, List.drop_eq_nil_of_le (show v.items.length ≤ i by omega)]
        have : ∀ l : List Str, look s l [] = none := fun l => by cases l <;> rfl
        simp [this]
    · have c1 : decide ((i : Int) < (v.names.length : Int)) = false := decide_eq_false (by omega)
      rw [c1, cond_false, List.drop_eq_nil_of_le (show v.names.length ≤ i by omega)]
      simp [look]

theorem rget_eq {R : Type} (v : Json) (hv : JOk v) (s : Str) (k : Json → Bool → Option R) : ref05_Get v s k = match at7 v s with | some x => k x true | none => k zeroJ false := by
  unfold ref05_Get ref05_Get_X
  simp only [Json.eta]
  have h := rget_loop (R := R) v hv s 0 0 0 [] k (List.length s + Int.natAbs 0 + Json.fu v + Int.natAbs 0 + Int.natAbs 0 + Int.natAbs 0 + List.length ([] : Str) + 3) 0 (by omega) (by unfold Json.fu; omega)
  simp only [List.drop_zero] at h
  exact h

theorem Get_same {R : Type} (v : Json) (hv : JOk v) (s : Str) : ∃ (x : Json) (b : Bool), JOk x ∧ (∀ k : Json → Bool → Option R, field_Get v s k = k x b) ∧ ∀ k : Json → Bool → Option R, ref05_Get v s k = k x b := by
  cases hq : at7 v s with
  | none => exact ⟨zeroJ, false, jok_zero, fun k => by rw [get_eq v hv]; unfold at7 at hq; rw [hq], fun k => by rw [rget_eq v hv, hq]⟩
  | some x => exact ⟨x, true, at7_ok hv hq, fun k => by rw [get_eq v hv]; unfold at7 at hq; rw [hq], fun k => by rw [rget_eq v hv, hq]⟩

theorem Num_same {R : Type} (v : Json) (hv : JOk v) (s : Str) : ∃ (x : Int) (b : Bool), (∀ k : Int → Bool → Option R, field_Num v s k = k x b) ∧ ∀ k : Int → Bool → Option R, ref05_Num v s k = k x b := by
  have hr : ∀ k : Int → Bool → Option R, ref05_Num v s k = match (at7 v s).bind numF with | some n => k n true | none => k 0 false := fun k => by
    unfold ref05_Num ref05_Num_X
    simp only [Json.eta]
    rw [rget_eq v hv]
    cases hq : at7 v s with
    | none => rfl
    | some x =>
      have eta : (⟨x.num.mant, x.num.exp⟩ : Dcm) = x.num := rfl
      have hx := at7_ok hv hq
      simp only [Bool.not_true, cond_false, Option.bind_some, numF, eta]
      by_cases h : x.kind = 4
      · have c : (x.kind != 4) = false := by simp [h]
        rw [c, cond_false, if_pos h, rInt_eq x.num hx.mant hx.exp]
      · have c : (x.kind != 4) = true := by simp [h]
        rw [c, cond_true, if_neg h]
  cases hq : (at7 v s).bind numF with
  | none => exact ⟨0, false, fun k => by rw [Num_eq v hv, hq], fun k => by rw [hr, hq]⟩
  | some n => exact ⟨n, true, fun k => by rw [Num_eq v hv, hq], fun k => by rw [hr, hq]⟩

theorem Text_same {R : Type} (v : Json) (hv : JOk v) (s : Str) : ∃ (x : Str) (b : Bool), (∀ k : Str → Bool → Option R, field_Text v s k = k x b) ∧ ∀ k : Str → Bool → Option R, ref05_Text v s k = k x b := by
  have hr : ∀ k : Str → Bool → Option R, ref05_Text v s k = match (at7 v s).bind textF with | some n => k n true | none => k [] false := fun k => by
    unfold ref05_Text ref05_Text_X
    simp only [Json.eta]
    rw [rget_eq v hv]
    cases hq : at7 v s with
    | none => rfl
    | some x =>
      simp only [Bool.not_true, cond_false, Option.bind_some, textF]
      by_cases h : x.kind = 5
      · have c : (x.kind != 5) = false := by simp [h]
        rw [c, cond_false, if_pos h]
      · have c : (x.kind != 5) = true := by simp [h]
        rw [c, cond_true, if_neg h]
  cases hq : (at7 v s).bind textF with
  | none => exact ⟨[], false, fun k => by rw [Text_eq v hv, hq], fun k => by rw [hr, hq]⟩
  | some n => exact ⟨n, true, fun k => by rw [Text_eq v hv, hq], fun k => by rw [hr, hq]⟩

theorem Flag_same {R : Type} (v : Json) (hv : JOk v) (s : Str) : ∃ (x : Bool) (b : Bool), (∀ k : Bool → Bool → Option R, field_Flag v s k = k x b) ∧ ∀ k : Bool → Bool → Option R, ref05_Flag v s k = k x b := by
  have hr : ∀ k : Bool → Bool → Option R, ref05_Flag v s k = match (at7 v s).bind flagF with | some n => k n true | none => k false false := fun k => by
    unfold ref05_Flag ref05_Flag_X
    simp only [Json.eta]
    rw [rget_eq v hv]
    cases hq : at7 v s with
    | none => rfl
    | some x =>
      simp only [cond_true, Option.bind_some, flagF]
      by_cases h : x.kind = 3
      · have c : (x.kind == 3) = true := by simpa using h
        rw [c, cond_true, if_pos h]
      · have c : (x.kind == 3) = false := by simpa using h
        rw [c, cond_false, if_neg h]
        by_cases h2 : x.kind = 2
        · have c2 : (x.kind == 2) = true := by simpa using h2
          rw [c2, if_pos h2]
        · have c2 : (x.kind == 2) = false := by simpa using h2
          rw [c2, if_neg h2]
  cases hq : (at7 v s).bind flagF with
  | none => exact ⟨false, false, fun k => by rw [Flag_eq v hv, hq], fun k => by rw [hr, hq]⟩
  | some n => exact ⟨n, true, fun k => by rw [Flag_eq v hv, hq], fun k => by rw [hr, hq]⟩

theorem List_same {R : Type} (v : Json) (hv : JOk v) (s : Str) : ∃ (x : List Json) (b : Bool), (x.length ≤ 1048576 ∧ ∀ y ∈ x, JOk y) ∧ (∀ k : List Json → Bool → Option R, field_List v s k = k x b) ∧ ∀ k : List Json → Bool → Option R, ref05_List v s k = k x b := by
  have hr : ∀ k : List Json → Bool → Option R, ref05_List v s k = match (at7 v s).bind listF with | some n => k n true | none => k [] false := fun k => by
    unfold ref05_List ref05_List_X
    simp only [Json.eta]
    rw [rget_eq v hv]
    cases hq : at7 v s with
    | none => rfl
    | some x =>
      have hx := (at7_ok hv hq).items
      simp only [Bool.not_true, cond_false, Option.bind_some, listF]
      by_cases h : x.kind = 6
      · have c : (x.kind != 6) = false := by simp [h]
        rw [c, cond_false, if_pos h, chk_pos (by simp; omega)]
      · have c : (x.kind != 6) = true := by simp [h]
        rw [c, cond_true, if_neg h]
  cases hq : (at7 v s).bind listF with
  | none => exact ⟨[], false, ⟨by simp, by simp⟩, fun k => by rw [List_eq v hv, hq], fun k => by rw [hr, hq]⟩
  | some n =>
    refine ⟨n, true, ?_, fun k => by rw [List_eq v hv, hq], fun k => by rw [hr, hq]⟩
    cases hp : at7 v s with
    | none => rw [hp] at hq; cases hq
    | some x =>
      rw [hp, Option.bind_some] at hq
      have hx := at7_ok hv hp
      unfold listF at hq
      split at hq
      · cases hq
        exact ⟨hx.items, fun y hy => hx.item hy⟩
      · cases hq

/-! ### schemas -/
theorem rfits_eq {R : Type} (x : Json) (hx : JOk x) (f : Fld) (k : Bool → Option R) : ref05_fits x f k = k (fitsB x f) := by
  unfold ref05_fits ref05_fits_X fitsB
  have eta : (⟨x.num.mant, x.num.exp⟩ : Dcm) = x.num := rfl
  simp only [eta, rInt_eq x.num hx.mant hx.exp]
  by_cases h8 : f.kind = 8
  · have c8 : (f.kind == 8) = true := by simpa using h8
    rw [c8, cond_true, if_pos h8]
    unfold flagF
    by_cases h3 : x.kind = 3
    · have c3 : (x.kind == 3) = true := by simpa using h3
      rw [c3, cond_true, if_pos h3]; rfl
    · have c3 : (x.kind == 3) = false := by simpa using h3
      rw [c3, cond_false, if_neg h3]
      by_cases h2 : x.kind = 2
      · have c2 : (x.kind == 2) = true := by simpa using h2
        rw [c2, if_pos h2]; rfl
      · have c2 : (x.kind == 2) = false := by simpa using h2
        rw [c2, if_neg h2]; rfl
  · have c8 : (f.kind == 8) = false := by simpa using h8
    rw [c8, cond_false, if_neg h8]
    by_cases h4 : f.kind = 4
    · have c4 : (f.kind == 4) = true := by simpa using h4
      rw [c4, cond_true, if_pos h4]
      unfold numF
      by_cases hk : x.kind = 4
      · have ck : (x.kind != 4) = false := by simp [hk]
        have ck' : (x.kind == f.kind) = true := by simp [hk, h4]
        rw [if_pos hk]
        cases decInt x.num with
        | none => simp only [ck, cond_false, Bool.not_false, cond_true]
        | some n =>
          simp only [ck, cond_false, Bool.not_true, ck', cond_true]
          cases decide (n ≥ f.low) <;> rfl
      · have ck : (x.kind != 4) = true := by simp [hk]
        rw [if_neg hk]
        cases decInt x.num <;> simp only [ck, cond_true]
    · have c4 : (f.kind == 4) = false := by simpa using h4
      rw [c4, cond_false, if_neg h4]
      by_cases h5 : f.kind = 5
      · have c5 : (f.kind == 5) = true := by simpa using h5
        rw [c5, cond_true, if_pos h5]
        unfold textF
        by_cases hk : x.kind = 5
        · have ck' : (x.kind == f.kind) = true := by simp [hk, h5]
          rw [if_pos hk, ck', cond_true]
          show _ = k (decide ((x.text.length : Int) ≥ f.low) && decide ((x.text.length : Int) ≤ f.high))
          cases decide ((x.text.length : Int) ≥ f.low) <;> rfl
        · have ck' : (x.kind == f.kind) = false := by simp [hk, h5]
          rw [if_neg hk, ck', cond_false]
      · have c5 : (f.kind == 5) = false := by simpa using h5
        rw [c5, cond_false, if_neg h5]
        by_cases h6 : f.kind = 6
        · have c6 : (f.kind == 6) = true := by simpa using h6
          rw [c6, cond_true, if_pos h6]
          unfold listF
          by_cases hk : x.kind = 6
          · have ck' : (x.kind == f.kind) = true := by simp [hk, h6]
            rw [if_pos hk, ck', cond_true]
            show _ = k (decide ((x.items.length : Int) ≥ f.low) && decide ((x.items.length : Int) ≤ f.high))
            cases decide ((x.items.length : Int) ≥ f.low) <;> rfl
          · have ck' : (x.kind == f.kind) = false := by simp [hk, h6]
            rw [if_neg hk, ck', cond_false]
        · have c6 : (f.kind == 6) = false := by simpa using h6
          rw [c6, cond_false, if_neg h6]
          rfl

theorem rCheck_loop {R : Type} (v : Json) (hv : JOk v) (h7 : v.kind = 7) (l : List Fld) (hl : l.length ≤ 1048576) (e1 : Option R) (e0 : Int → Option R) : ∀ (n i : Nat), i ≤ l.length → l.length - i < n →
    ref05_Check_4_0_L n l (i : Int) v e1 e0 = match (l.drop i).findIdx? (bad v) with | some j => e0 ((i + j : Nat) : Int) | none => e1 := by
  intro n
  induction n with
  | zero => intro i _ h; omega
  | succ n ih =>
    intro i hi hn
    show ref05_Check_4_0_B ref05_Get ref05_fits (fun x1 x2 x3 => ref05_Check_4_0_L n x1 x2 x3 e1 e0) _ _ _ e1 e0 = _
    unfold ref05_Check_4_0_B
    by_cases h : i < l.length
    · have h1 : decide ((i : Int) < (l.length : Int)) = true := decide_eq_true (by omega)
      have p1 : (decide ((0 : Int) ≤ (i : Int)) && decide ((i : Int) < l.length)) = true := by simp; omega
      have p3 : (decide ((0 : Int) ≤ (i : Int)) && true) = true := by simp
      have hw : IntKind.i64.wrap ((i : Int) + 1) = ((i + 1 : Nat) : Int) := by rw [wrap_id (by omega) (by omega)]; omega
      have hg : l.getD (i : Int).toNat (Ty.dflt .fld) = l[i] := getD_at h _
      have e1' := ih (i + 1) (by omega) (by omega)
      have tail : ref05_Check_4_0_L n l ((i + 1 : Nat) : Int) v e1 e0 = match ((l.drop (i + 1)).findIdx? (bad v)).map (· + 1) with | some j => e0 ((i + j : Nat) : Int) | none => e1 := by
        rw [e1']
        cases (l.drop (i + 1)).findIdx? (bad v) with
        | none => rfl
        | some j =>
          show e0 ((i + 1 + j : Nat) : Int) = e0 ((i + (j + 1) : Nat) : Int)
          rw [show i + 1 + j = i + (j + 1) by omega]
      rw [h1, cond_true, chk_pos (by first | exact p1 | exact p3), List.drop_eq_getElem_cons h, List.findIdx?_cons]
      simp only [Json.eta, hg, hw]
      rw [rget_eq v hv]
      cases hq : at7 v (l[i] : Fld).name with
      | none =>
        have hb : bad v l[i] = !(l[i] : Fld).free := by unfold bad; rw [hq]; simp [h7]
        rw [hb]
        simp only [Bool.not_false, cond_true]
        rw [chk_pos (by first | exact p1 | exact p3)]
        cases (l[i] : Fld).free with
        | true => simp only [Bool.not_true, cond_false, Bool.false_eq_true, if_false]; exact tail
        | false => simp only [Bool.not_false, cond_true, if_true]; rfl
      | some x =>
        have hb : bad v l[i] = !fitsB x l[i] := by unfold bad; rw [hq]; simp [h7]
        rw [hb]
        simp only [Bool.not_true, cond_false]
        rw [chk_pos (by first | exact p1 | exact p3)]
        have fe : (⟨(l[i] : Fld).name, (l[i] : Fld).kind, (l[i] : Fld).low, (l[i] : Fld).high, (l[i] : Fld).free⟩ : Fld) = l[i] := rfl
        simp only [fe, rfits_eq x (at7_ok hv hq)]
        cases fitsB x l[i] with
        | true => simp only [Bool.not_true, cond_false, Bool.false_eq_true, if_false]; exact tail
        | false => simp only [Bool.not_false, cond_true, if_true]; rfl
    · have h1 : decide ((i : Int) < (l.length : Int)) = false := decide_eq_false (by omega)
      rw [h1, cond_false, List.drop_eq_nil_of_le (by omega)]
      rfl

theorem rCheck_eq {R : Type} (v : Json) (hv : JOk v) (l : List Fld) (hl : l.length ≤ 1048576) (k : Int → Option R) : ref05_Check v l k = k (match l.findIdx? (bad v) with | some j => (j : Int) | none => -1) := by
  unfold ref05_Check ref05_Check_X
  simp only [Json.eta]
  by_cases h7 : v.kind = 7
  · have c7 : (v.kind != 7) = false := by simp [h7]
    rw [c7, cond_false]
    refine (rCheck_loop v hv h7 l hl _ _ _ 0 (by omega) (by omega)).trans ?_
    simp only [List.drop_zero, Nat.zero_add]
    cases l.findIdx? (bad v) <;> rfl
  · have c7 : (v.kind != 7) = true := by simp [h7]
    rw [c7, cond_true]
    cases l with
    | nil => rfl
    | cons f l =>
      have c : decide (((f :: l).length : Int) > (0 : Int)) = true := decide_eq_true (by simp only [List.length_cons]; omega)
      have hb : bad v f = true := by unfold bad; simp [h7]
      rw [c, cond_true, List.findIdx?_cons, hb]
      rfl

/-! ### put together -/
theorem rmake_loop {R : Type} (ns : List Str) (xs : List Json) (hn : ns.length ≤ 1048576) (hns : ∀ s ∈ ns, s.length ≤ 1048576) (hj : ∀ y ∈ xs, JOk y) (p q r : Int) (t : Str)
    (e0 : Int → Int → Int → Str → Int → Int → Int → Str → List Str → List Json → Option R) : ∀ (n i : Nat) (l : List Str) (m : List Json), i ≤ ns.length → ns.length - i < n → l.length = m.length → l.length ≤ i →
    (∀ s ∈ l, s.length ≤ 1048576) → (∀ y ∈ m, JOk y) →
    ref05_Make_3_0_L n ns xs (i : Int) p q r t 7 0 0 [] l m e0 = e0 p q r t 7 0 0 [] (mk (ns.drop i) (xs.drop i) l m).1 (mk (ns.drop i) (xs.drop i) l m).2 := by
  intro n
  induction n with
  | zero => intro i l m _ h; omega
  | succ n ih =>
    intro i l m hi hni hlm hli hls hms
    show ref05_Make_3_0_B ref05_Get (fun x1 x2 x3 x4 x5 x6 x7 x8 x9 x10 x11 x12 x13 => ref05_Make_3_0_L n x1 x2 x3 x4 x5 x6 x7 x8 x9 x10 x11 x12 x13 e0) _ _ _ _ _ _ _ _ _ _ _ _ _ e0 = _
    unfold ref05_Make_3_0_B
    by_cases h : i < ns.length
    · have h1 : decide ((i : Int) < (ns.length : Int)) = true := decide_eq_true (by omega)
      by_cases h2 : i < xs.length
      · have c2 : decide ((i : Int) < (xs.length : Int)) = true := decide_eq_true (by omega)
        have p1 : (decide ((0 : Int) ≤ (i : Int)) && decide ((i : Int) < ns.length)) = true := by simp; omega
        have p2 : (decide ((0 : Int) ≤ (i : Int)) && decide ((i : Int) < xs.length)) = true := by simp; omega
        have p3 : (decide ((0 : Int) ≤ (i : Int)) && true) = true := by simp
        have hw : IntKind.i64.wrap ((i : Int) + 1) = ((i + 1 : Nat) : Int) := by rw [wrap_id (by omega) (by omega)]; omega
        have hg : xs.getD (i : Int).toNat (Ty.dflt .json) = xs[i] := getD_at h2 _
        have hg' : ns.getD (i : Int).toNat (Ty.dflt .str) = ns[i] := getD_at h _
        have hr1 : decide ((l.length + 1) * 16 ≤ 140737488355328) = true := by simp; omega
        have hr2 : decide ((m.length + 1) * 88 ≤ 140737488355328) = true := by simp; omega
        have hv : JOk ⟨7, ⟨0, 0⟩, [], l, m⟩ := jok_mk ⟨by decide, by decide⟩ ⟨by decide, by decide⟩ ⟨by decide, by decide⟩ (by simp) (by omega) hls (by omega) hms
        rw [h1, cond_true, c2, cond_true, chk_pos (by first | exact p1 | exact p3), hg, hg', rget_eq _ hv, hw, Json.eta]
        rw [List.drop_eq_getElem_cons h2, List.drop_eq_getElem_cons h]
        have hlk : at7 ⟨7, ⟨0, 0⟩, [], l, m⟩ ns[i] = look ns[i] l m := by unfold at7; rw [if_pos rfl]
        have hhas := look_has ns[i] l m hlm
        rw [hlk]
        simp only [mk]
        cases hq : look ns[i] l m with
        | some x =>
          rw [hq] at hhas
          rw [← hhas]
          simp only [Bool.not_true, cond_false, Option.isSome_some, if_true]
          exact ih (i + 1) l m (by omega) (by omega) hlm (by omega) hls hms
        | none =>
          rw [hq] at hhas
          rw [← hhas]
          simp only [Bool.not_false, cond_true, Option.isSome_none, Bool.false_eq_true, if_false]
          rw [chk_pos (by first | exact p1 | exact p3), chk_pos hr1, chk_pos (by first | exact p2 | exact p3), chk_pos hr2]
          refine ih (i + 1) (l ++ [ns[i]]) (m ++ [xs[i]]) (by omega) (by omega) (by simp [hlm]) (by simp; omega) (fun s hs => ?_) (fun y hy => ?_)
          · rcases List.mem_append.1 hs with hs | hs
            · exact hls s hs
            · simp only [List.mem_singleton] at hs; subst hs; exact hns _ (List.getElem_mem h)
          · rcases List.mem_append.1 hy with hy | hy
            · exact hms y hy
            · simp only [List.mem_singleton] at hy; subst hy; exact hj _ (List.getElem_mem h2)
      · have c2 : decide ((i : Int) < (xs.length : Int)) = false := decide_eq_false (by omega)
        rw [h1, cond_true, c2, cond_false, List.drop_eq_nil_of_le (show xs.length ≤ i by omega)]
        have : ∀ ns : List Str, mk ns [] l m = (l, m) := fun ns => by cases ns <;> rfl
        rw [this]
    · have h1 : decide ((i : Int) < (ns.length : Int)) = false := decide_eq_false (by omega)
      rw [h1, cond_false, List.drop_eq_nil_of_le (show ns.length ≤ i by omega)]
      have : ∀ xs : List Json, mk [] xs l m = (l, m) := fun xs => by cases xs <;> rfl
      rw [this]

theorem rmake_eq {R : Type} (ns : List Str) (xs : List Json) (hn : ns.length ≤ 1048576) (hns : ∀ s ∈ ns, s.length ≤ 1048576) (hj : ∀ y ∈ xs, JOk y) (k : Json → Option R) :
    ref05_Make ns xs k = k ⟨7, ⟨0, 0⟩, [], (mk ns xs [] []).1, (mk ns xs [] []).2⟩ := by
  unfold ref05_Make ref05_Make_X
  exact rmake_loop ns xs hn hns hj 0 0 0 [] _ _ 0 [] [] (by omega) (by omega) rfl (by simp) (by simp) (by simp)
end Go.Proofs.Ytcocpfgemdkkfaa

