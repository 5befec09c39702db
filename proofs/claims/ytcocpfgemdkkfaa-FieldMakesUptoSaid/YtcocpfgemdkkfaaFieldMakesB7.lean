/-
  FieldMakes: for every input whose bulk is at most 1048576 the law returns true, and each argument reads behind the call as it read before; part 7 of 8 of the proof: an interpreter of the model's code over typed data, proved sound; the functions that the law reaches, printed as Lean functions and tied; the plain law. Own texts laid one behind the other.
-/
import Derived.Test.YtcocpfgemdkkfaaFieldMakesB6
/-
  What FieldMakes computes: true. Plain Lean over the printed functions. Own work.
-/
set_option linter.unusedVariables false
namespace Go.Proofs.Ytcocpfgemdkkfaa
open Go Go.Yard

/-! ### put together -/
def mk : List Str → List Json → List Str → List Json → List Str × List Json
  | n :: ns, x :: xs, a, b => if a.contains n then mk ns xs a b else mk ns xs (a ++ [n]) (b ++ [x])
  | [], _, a, b => (a, b)
  | _ :: _, [], a, b => (a, b)

theorem mk_len : ∀ (ns : List Str) (xs : List Json) (a : List Str) (b : List Json), a.length = b.length → (mk ns xs a b).1.length = (mk ns xs a b).2.length ∧ (mk ns xs a b).1.length ≤ a.length + ns.length
  | [], _, a, b, h => ⟨h, by simp [mk]⟩
  | _ :: _, [], a, b, h => ⟨h, by simp [mk]⟩
  | n :: ns, x :: xs, a, b, h => by
    simp only [mk]
    split
    · have := mk_len ns xs a b h
      exact ⟨this.1, by have := this.2; simp; omega⟩
    · have := mk_len ns xs (a ++ [n]) (b ++ [x]) (by simp [h])
      exact ⟨this.1, by have := this.2; simp at this ⊢; omega⟩

theorem mk_mem : ∀ (ns : List Str) (xs : List Json) (a : List Str) (b : List Json), (∀ s ∈ (mk ns xs a b).1, s ∈ a ∨ s ∈ ns) ∧ ∀ y ∈ (mk ns xs a b).2, y ∈ b ∨ y ∈ xs
  | [], _, a, b => ⟨fun s h => .inl h, fun y h => .inl h⟩
  | _ :: _, [], a, b => ⟨fun s h => .inl h, fun y h => .inl h⟩
  | n :: ns, x :: xs, a, b => by
    simp only [mk]
    split
    · obtain ⟨h1, h2⟩ := mk_mem ns xs a b
      exact ⟨fun s h => (h1 s h).imp id (List.mem_cons_of_mem _), fun y h => (h2 y h).imp id (List.mem_cons_of_mem _)⟩
    · obtain ⟨h1, h2⟩ := mk_mem ns xs (a ++ [n]) (b ++ [x])
      refine ⟨fun s h => ?_, fun y h => ?_⟩
      · rcases h1 s h with h | h
        · rcases List.mem_append.1 h with h | h
          · exact .inl h
          · simp at h; subst h; exact .inr (by simp)
        · exact .inr (List.mem_cons_of_mem _ h)
      · rcases h2 y h with h | h
        · rcases List.mem_append.1 h with h | h
          · exact .inl h
          · simp at h; subst h; exact .inr (by simp)
        · exact .inr (List.mem_cons_of_mem _ h)

theorem look_append (s n : Str) (x : Json) : ∀ (a : List Str) (b : List Json), a.length = b.length → look s (a ++ [n]) (b ++ [x]) = (look s a b).or (if s == n then some x else none)
  | [], [], _ => by simp [look]
  | p :: a, y :: b, h => by
    simp only [List.cons_append, look]
    cases (s == p) with
    | true => simp
    | false => simpa using look_append s n x a b (by simpa using h)

theorem look_has (s : Str) : ∀ (a : List Str) (b : List Json), a.length = b.length → (look s a b).isSome = a.contains s
  | [], [], _ => rfl
  | p :: a, y :: b, h => by
    simp only [look, List.contains_cons]
    cases hq : (s == p) with
    | true => simp
    | false => simpa using look_has s a b (by simpa using h)

theorem look_mk (s : Str) : ∀ (ns : List Str) (xs : List Json) (a : List Str) (b : List Json), a.length = b.length → look s (mk ns xs a b).1 (mk ns xs a b).2 = (look s a b).or (look s ns xs)
  | [], xs, a, b, h => by simp [mk, look]
  | _ :: _, [], a, b, h => by simp [mk, look]
  | n :: ns, x :: xs, a, b, h => by
    simp only [mk]
    split
    · rename_i hc
      rw [look_mk s ns xs a b h]
      simp only [look]
      cases hq : (s == n) with
      | false => simp
      | true =>
        have e : s = n := by simpa using hq
        have := look_has s a b h
        rw [e, hc, Option.isSome_iff_exists] at this
        obtain ⟨y, hy⟩ := this
        rw [e, hy]
        simp
    · rename_i hc
      rw [look_mk s ns xs (a ++ [n]) (b ++ [x]) (by simp [h]), look_append s n x a b h]
      simp only [look]
      cases hq : (s == n) with
      | false => simp
      | true => cases look s a b <;> simp

theorem make_loop {R : Type} (ns : List Str) (xs : List Json) (hx : xs.length ≤ ns.length) (hn : ns.length ≤ 1048576) (hj : ∀ y ∈ xs, JOk y) (p q r : Int) (t : Str) (a b c : Int) (u : Str)
    (e0 : Int → Int → Int → Str → Int → Int → Int → Str → List Str → List Json → Option R) : ∀ (n i : Nat) (l : List Str) (m : List Json), i ≤ xs.length → xs.length - i < n → l.length = m.length → l.length ≤ i →
    field_Make_3_0_L n ns xs (xs.length : Int) (i : Int) p q r t a b c u l m e0 = e0 p q r t a b c u (mk (ns.drop i) (xs.drop i) l m).1 (mk (ns.drop i) (xs.drop i) l m).2 := by
  intro n
  induction n with
  | zero => intro i l m _ h; omega
  | succ n ih =>
    intro i l m hi hni hlm hli
    show field_Make_3_0_B slices_Contains_stringstring field_fresh (fun x1 x2 x3 x4 x5 x6 x7 x8 x9 x10 x11 x12 x13 x14 => field_Make_3_0_L n x1 x2 x3 x4 x5 x6 x7 x8 x9 x10 x11 x12 x13 x14 e0) _ _ _ _ _ _ _ _ _ _ _ _ _ _ e0 = _
    unfold field_Make_3_0_B
    by_cases h : i < xs.length
    · have h1 : decide ((i : Int) < (xs.length : Int)) = true := by simp; omega
      have h2 : (decide ((0 : Int) ≤ (i : Int)) && true) = true := by simp
      have h2' : (decide ((0 : Int) ≤ (i : Int)) && decide ((i : Int) < ns.length)) = true := by simp; omega
      have hw : IntKind.i64.wrap ((i : Int) + 1) = ((i + 1 : Nat) : Int) := by rw [wrap_id (by omega) (by omega)]; omega
      have hg : xs.getD (i : Int).toNat (Ty.dflt .json) = xs[i] := getD_at h _
      have hg' : ns.getD (i : Int).toNat (Ty.dflt .str) = ns[i] := getD_at (by omega) _
      have hr1 : decide ((l.length + 1) * 16 ≤ 140737488355328) = true := by simp; omega
      have hr2 : decide ((m.length + 1) * 88 ≤ 140737488355328) = true := by simp; omega
      rw [h1, cond_true, chk_pos h2, chk_pos h2', hg, hg', contains_eq l (by omega), Json.eta, hw]
      rw [List.drop_eq_getElem_cons h, List.drop_eq_getElem_cons (show i < ns.length by omega)]
      simp only [mk]
      cases hc : l.contains ns[i] with
      | true =>
        simp only [Bool.not_true, cond_false, if_true]
        exact ih (i + 1) l m (by omega) (by omega) hlm (by omega)
      | false =>
        simp only [Bool.not_false, cond_true, Bool.false_eq_true, if_false]
        rw [chk_pos h2', chk_pos hr1, fresh_eq _ (hj _ (List.getElem_mem h)), chk_pos hr2, Json.eta]
        exact ih (i + 1) (l ++ [ns[i]]) (m ++ [xs[i]]) (by omega) (by omega) (by simp [hlm]) (by first | omega | (simp; done) | (simp; omega))
    · have h1 : decide ((i : Int) < (xs.length : Int)) = false := by simp; omega
      rw [h1, cond_false, List.drop_eq_nil_of_le (show xs.length ≤ i by omega)]
      have : ∀ ns : List Str, mk ns [] l m = (l, m) := fun ns => by cases ns <;> rfl
      rw [this]

theorem make_eq {R : Type} (ns : List Str) (xs : List Json) (hn : ns.length ≤ 1048576) (hj : ∀ y ∈ xs, JOk y) (k : Json → Option R) :
    field_Make ns xs k = k ⟨7, ⟨0, 0⟩, [], (mk ns xs [] []).1, (mk ns xs [] []).2⟩ := by
  unfold field_Make field_Make_X
  have hm : (min (xs.length : Int) (ns.length : Int)).toNat - 0 = min xs.length ns.length := by omega
  rw [chk_pos (by first | omega | (simp; done) | (simp; omega)), chk_pos (by first | omega | (simp; done) | (simp; omega)), hm, List.drop_zero]
  have hl : (xs.take (min xs.length ns.length)).length = min xs.length ns.length := by simp
  refine (make_loop ns (xs.take (min xs.length ns.length)) (by rw [hl]; omega) hn (fun y hy => hj y (List.mem_of_mem_take hy)) 0 0 0 [] 7 0 0 [] _ _ 0 [] [] (by omega) (by first | omega | (simp; done) | (simp; omega)) rfl (by simp)).trans ?_
  have key : ∀ (ns : List Str) (xs : List Json) (a : List Str) (b : List Json), mk ns (xs.take (min xs.length ns.length)) a b = mk ns xs a b := by
    intro ns
    induction ns with
    | nil => intro xs a b; cases xs <;> simp [mk]
    | cons n ns ih =>
      intro xs a b
      cases xs with
      | nil => simp
      | cons x xs =>
        have : min (x :: xs).length (n :: ns).length = min xs.length ns.length + 1 := by simp only [List.length_cons]; omega
        rw [this, List.take_succ_cons]
        simp only [mk, ih]
  simp only [List.drop_zero, key]

theorem get_eq {R : Type} (v : Json) (hv : JOk v) (s : Str) (k : Json → Bool → Option R) :
    field_Get v s k = match (if v.kind = 7 then look s v.names v.items else none) with | some x => k x true | none => k zeroJ false := by
  unfold field_Get field_Get_X field_of_Json_ebf4 field_of_Json_ebf4_X field_Get_1 field_Get_1_X
  simp only [Json.eta]
  rw [find_eq v hv]
  generalize hq : (if v.kind = 7 then look s v.names v.items else none) = q
  cases q with
  | some x =>
    have hmem : JOk x := by
      split at hq
      · rw [look_index] at hq
        cases hp : v.names.findIdx? (s == ·) with
        | none => rw [hp] at hq; cases hq
        | some j =>
          rw [hp] at hq
          exact hv.item (List.mem_of_getElem? hq)
      · cases hq
    simp only [Bool.not_true, cond_false]
    rw [fresh_eq x hmem]
    rfl
  | none => rfl

/-! ### the statement -/
theorem bcomm (a b : Str) : (a == b) = (b == a) := by
  by_cases h : a = b
  · rw [h]
  · have h1 : (a == b) = false := by simpa using h
    have h2 : (b == a) = false := by simpa using fun e : b = a => h e.symm
    rw [h1, h2]

theorem makes_fit {R : Type} (ns : List Str) (l : List Raw) (hl : l.length ≤ 1048576) (hr : ∀ x ∈ l, RawOk x) (o : Str) (b : Bool) : ∀ (n i : Nat) (xs : List Json), i ≤ l.length → i ≤ 12 → l.length - i < n → xs.length ≤ i → (∀ y ∈ xs, JOk y) →
    ∃ xs' : List Json, xs'.length ≤ 12 ∧ (∀ y ∈ xs', JOk y) ∧ ∀ e0 : List Str → Str → Bool → List Json → Option R, law05_FieldMakes_4_0_L n ns l o b xs (i : Int) e0 = e0 ns o b xs' := by
  intro n
  induction n with
  | zero => intro i xs _ _ h; omega
  | succ n ih =>
    intro i xs hi h12 hn hx hxs
    by_cases h : i < l.length ∧ i < 12
    · obtain ⟨h, h2⟩ := h
      have c1 : decide ((i : Int) < (l.length : Int)) = true := by simp; omega
      have c2 : decide ((i : Int) < (12 : Int)) = true := by simp; omega
      have c3 : (decide ((0 : Int) ≤ (i : Int)) && true) = true := by simp
      have hw : IntKind.i64.wrap ((i : Int) + 1) = ((i + 1 : Nat) : Int) := by rw [wrap_id (by omega) (by omega)]; omega
      have hg : l.getD (i : Int).toNat (Ty.dflt .raw) = l[i] := getD_at h _
      obtain ⟨j, hj1, hj2⟩ := fit_eq (R := R) l[i] (hr _ (List.getElem_mem h)) 2 (by decide) (by decide)
      obtain ⟨xs', g1, g2, g3⟩ := ih (i + 1) (xs ++ [j]) (by omega) (by omega) (by omega) (by first | omega | (simp; done) | (simp; omega)) (fun y hy => by
        rcases List.mem_append.1 hy with hy | hy
        · exact hxs y hy
        · simp at hy; subst hy; exact hj1)
      refine ⟨xs', g1, g2, fun e0 => ?_⟩
      rw [← g3 e0]
      show law05_FieldMakes_4_0_B law04_Fit (fun a1 a2 a3 a4 a5 a6 => law05_FieldMakes_4_0_L n a1 a2 a3 a4 a5 a6 e0) _ _ _ _ _ _ e0 = _
      unfold law05_FieldMakes_4_0_B
      simp only [c1, c2, cond_true, hg, hw, Raw.eta, Json.eta]
      rw [chk_pos c3, hj2, chk_pos (by first | omega | (simp; done) | (simp; omega))]
    · refine ⟨xs, by omega, hxs, fun e0 => ?_⟩
      show law05_FieldMakes_4_0_B law04_Fit _ _ _ _ _ _ _ e0 = _
      unfold law05_FieldMakes_4_0_B
      by_cases h1 : i < l.length
      · have c1 : decide ((i : Int) < (l.length : Int)) = true := by simp; omega
        have c2 : decide ((i : Int) < (12 : Int)) = false := by simp; omega
        simp only [c1, c2, cond_true, cond_false]
      · have c1 : decide ((i : Int) < (l.length : Int)) = false := by simp; omega
        simp only [c1, cond_false]

theorem makes_first {R : Type} (ns : List Str) (hn : ns.length ≤ 1048576) (o : Str) (b : Bool) (xs : List Json) (m : Int) (q : Bool) (i : Nat) (hi : i < ns.length) (v : Json)
    (e0 : List Str → Str → Bool → List Json → Int → Bool → Int → Int → Json → Option R) : ∀ (k n : Nat) (f : Int), k ≤ ns.length → k < n →
    law05_FieldMakes_16_0_L n ns o b xs m q (i : Int) f ((k : Int) - 1) v e0 = e0 ns o b xs m q (i : Int) (match (ns.take k).findIdx? (ns[i] == ·) with | some j => (j : Int) | none => f) v := by
  intro k
  induction k with
  | zero =>
    intro n f _ hn
    cases n with
    | zero => omega
    | succ n =>
      show law05_FieldMakes_16_0_B _ _ _ _ _ _ _ _ _ _ _ e0 = _
      unfold law05_FieldMakes_16_0_B
      simp only [Json.eta]
      rfl
  | succ k ih =>
    intro n f hk hkn
    cases n with
    | zero => omega
    | succ n =>
      show law05_FieldMakes_16_0_B (fun a1 a2 a3 a4 a5 a6 a7 a8 a9 a10 => law05_FieldMakes_16_0_L n a1 a2 a3 a4 a5 a6 a7 a8 a9 a10 e0) _ _ _ _ _ _ _ _ _ _ e0 = _
      unfold law05_FieldMakes_16_0_B
      have h0 : ((k + 1 : Nat) : Int) - 1 = (k : Int) := by omega
      rw [h0]
      have c1 : decide ((k : Int) ≥ (0 : Int)) = true := by simp
      have c2 : (true && decide ((k : Int) < ns.length)) = true := by simp; omega
      have c3 : (decide ((0 : Int) ≤ (i : Int)) && decide ((i : Int) < ns.length)) = true := by simp; omega
      have hw : IntKind.i64.wrap ((k : Int) - 1) = (k : Int) - 1 := wrap_id (by omega) (by omega)
      have hg : ns.getD (k : Int).toNat (Ty.dflt .str) = ns[k] := getD_at (by omega) _
      have hg' : ns.getD (i : Int).toNat (Ty.dflt .str) = ns[i] := getD_at hi _
      have e1 := fun w => ih n w (by omega) (by omega)
      have hge : ((k : Int) ≥ 0) := by omega
      rw [c1, cond_true]
      have c2' : (decide ((0 : Int) ≤ (k : Int)) && decide ((k : Int) < ns.length)) = true := by simp; omega
      first | rw [chk_pos c2', chk_pos c3] | rw [chk_pos c2, chk_pos c3]
      simp only [hw, hg, hg', Json.eta, e1]
      have ht : ns.take (k + 1) = ns.take k ++ [ns[k]] := by rw [List.take_add_one]; simp [show k < ns.length by omega]
      rw [ht, List.findIdx?_append]
      cases hq : (ns.take k).findIdx? (ns[i] == ·) with
      | some j => cases (ns[k] == ns[i]) <;> simp
      | none =>
        rw [bcomm ns[k] ns[i]]
        cases hf : (ns[i] == ns[k]) with
        | true => simp [hf, Nat.min_eq_left (show k ≤ ns.length by omega)]
        | false => simp [hf]

theorem first_le (s : Str) (ns : List Str) (i : Nat) (hi : i < ns.length) (hs : ns[i] = s) : ∃ j, j ≤ i ∧ (ns.take (i + 1)).findIdx? (s == ·) = some j ∧ ns.findIdx? (s == ·) = some j := by
  have ht : ns = ns.take (i + 1) ++ ns.drop (i + 1) := (List.take_append_drop _ _).symm
  cases hq : (ns.take (i + 1)).findIdx? (s == ·) with
  | none =>
    rw [List.findIdx?_eq_none_iff] at hq
    have := hq ns[i] (by rw [List.mem_take_iff_getElem]; exact ⟨i, by omega, rfl⟩)
    rw [hs] at this
    simp at this
  | some j =>
    refine ⟨j, ?_, rfl, ?_⟩
    · obtain ⟨hj, _, _⟩ := List.findIdx?_eq_some_iff_getElem.1 hq
      simp at hj; omega
    · conv => lhs; rw [ht]
      rw [List.findIdx?_append, hq]
      rfl

theorem makes_loop {R : Type} (ns : List Str) (hn : ns.length ≤ 1048576) (o : Str) (xs : List Json) (hxs : ∀ y ∈ xs, JOk y) (v : Json) (hv : JOk v) (h7 : v.kind = 7) (hlook : ∀ s, look s v.names v.items = look s ns xs) (m : Nat) (hm1 : m ≤ ns.length) (hm2 : m ≤ xs.length)
    (e0 : Str → Bool → Bool → Json → Option R) (e1 : Str → Bool → Bool → Bool → Json → Option R) : ∀ (n i : Nat) (q : Bool), i ≤ m → m - i < n →
    law05_FieldMakes_11_0_L n ns o true xs (m : Int) q (i : Int) v e0 e1 = e0 o true (q || ((ns.take m).drop i).contains o) v := by
  intro n
  induction n with
  | zero => intro i q _ h; omega
  | succ n ih =>
    intro i q hi hin
    show law05_FieldMakes_11_0_B field_Get ref04_Same law05_FieldMakes_16_0_L (fun a1 a2 a3 a4 a5 a6 a7 a8 => law05_FieldMakes_11_0_L n a1 a2 a3 a4 a5 a6 a7 a8 e0 e1) _ _ _ _ _ _ _ _ e0 e1 = _
    unfold law05_FieldMakes_11_0_B
    by_cases h : i < m
    · have c1 : decide ((i : Int) < (m : Int)) = true := by simp; omega
      have c2 : (decide ((0 : Int) ≤ (i : Int)) && decide ((i : Int) < ns.length)) = true := by simp; omega
      have hw : IntKind.i64.wrap ((i : Int) + 1) = ((i + 1 : Nat) : Int) := by rw [wrap_id (by omega) (by omega)]; omega
      have hg : ns.getD (i : Int).toNat (Ty.dflt .str) = ns[i] := getD_at (by omega) _
      obtain ⟨j, hj1, hj2, hj3⟩ := first_le ns[i] ns i (by omega) rfl
      have hjx : xs[j]? = some xs[j] := by simp [show j < xs.length by omega]
      have hl : (if v.kind = 7 then look ns[i] v.names v.items else none) = some xs[j] := by
        rw [if_pos h7, hlook, look_index, hj3]
        exact hjx
      have c4 : (decide ((0 : Int) ≤ (j : Int)) && decide ((j : Int) < xs.length)) = true := by simp; omega
      have hgj : xs.getD (j : Int).toNat (Ty.dflt .json) = xs[j] := getD_at (by omega) _
      have step : ∀ z : Bool, law05_FieldMakes_16_0_L (List.length ns + List.length o + List.length xs + Int.natAbs (m : Int) + Int.natAbs (i : Int) + Int.natAbs (i : Int) + Int.natAbs (i : Int) + Json.fu v + 3) ns o true xs (m : Int) z (i : Int) (i : Int) (i : Int) v
          (fun y39 y40 y41 y42 y43 y44 y45 y46 y47 => chk (decide ((0 : Int) ≤ y45) && decide (y45 < y39.length)) (field_Get y47 (y39.getD y45.toNat (Ty.dflt .str)) (fun y48 y49 => bif (!y49) then (e1 y40 false y41 y44 y47) else (chk (decide ((0 : Int) ≤ y46) && decide (y46 < y42.length)) (ref04_Same y48 (y42.getD y46.toNat (Ty.dflt .json)) (fun y50 => bif (!y50) then (e1 y40 false y41 y44 y47) else (law05_FieldMakes_11_0_L n y39 y40 y41 y42 y43 y44 (IntKind.i64.wrap (y45 + 1)) y47 e0 e1))))))) =
          e0 o true (z || ((ns.take m).drop (i + 1)).contains o) v := by
        intro z
        have hk : ((i + 1 : Nat) : Int) - 1 = (i : Int) := by omega
        have := makes_first (R := R) ns hn o true xs (m : Int) z i (by omega) v
          (fun y39 y40 y41 y42 y43 y44 y45 y46 y47 => chk (decide ((0 : Int) ≤ y45) && decide (y45 < y39.length)) (field_Get y47 (y39.getD y45.toNat (Ty.dflt .str)) (fun y48 y49 => bif (!y49) then (e1 y40 false y41 y44 y47) else (chk (decide ((0 : Int) ≤ y46) && decide (y46 < y42.length)) (ref04_Same y48 (y42.getD y46.toNat (Ty.dflt .json)) (fun y50 => bif (!y50) then (e1 y40 false y41 y44 y47) else (law05_FieldMakes_11_0_L n y39 y40 y41 y42 y43 y44 (IntKind.i64.wrap (y45 + 1)) y47 e0 e1)))))))
          (i + 1) (List.length ns + List.length o + List.length xs + Int.natAbs (m : Int) + Int.natAbs (i : Int) + Int.natAbs (i : Int) + Int.natAbs (i : Int) + Json.fu v + 3) (i : Int) (by omega) (by omega)
        rw [hk, hj2] at this
        refine this.trans ?_
        simp only [Json.eta]
        rw [chk_pos c2, hg, get_eq v hv, hl]
        simp only [Bool.not_true, cond_false]
        rw [chk_pos c4, hgj, same_refl _ (hxs _ (List.getElem_mem _))]
        simp only [Bool.not_true, cond_false, hw]
        exact ih (i + 1) z (by omega) (by omega)
      simp only [c1, cond_true, hg]
      have hd : (ns.take m).drop i = ns[i] :: (ns.take m).drop (i + 1) := by
        rw [List.drop_eq_getElem_cons (by first | omega | (simp; done) | (simp; omega))]
        simp
      rw [hd]
      cases q with
      | true =>
        simp only [cond_true, Bool.true_or, Json.eta]
        refine (step true).trans ?_
        simp
      | false =>
        simp only [cond_false, Json.eta]
        rw [chk_pos c2]
        refine (step _).trans ?_
        rw [List.contains_cons, bcomm o ns[i]]
        simp
    · have c1 : decide ((i : Int) < (m : Int)) = false := by simp; omega
      simp only [c1, cond_false, Json.eta]
      rw [List.drop_eq_nil_of_le (by first | omega | (simp; done) | (simp; omega))]
      simp

theorem look_some (s : Str) : ∀ (ns : List Str) (xs : List Json), (look s ns xs).isSome = (ns.take (min ns.length xs.length)).contains s
  | [], xs => by simp [look]
  | n :: ns, [] => by simp [look]
  | n :: ns, x :: xs => by
    have e : min (n :: ns).length (x :: xs).length = min ns.length xs.length + 1 := by simp only [List.length_cons]; omega
    rw [e, List.take_succ_cons, List.contains_cons]
    simp only [look]
    cases hq : (s == n) with
    | true => simp
    | false => simpa using look_some s ns xs

theorem law05_FieldMakes_true {R : Type} (ns : List Str) (l : List Raw) (o : Str) (hns : Small 1048576 (.sl .str ns .no)) (hl : Small 1048576 (.sl .raw l .no)) (ho : Small 1048576 (.str o)) (k : Bool → Option R) : law05_FieldMakes ns l o k = k true := by
  have hn : List.length (α := Str) ns ≤ 1048576 := hns.sl_inv.1
  have hr : ∀ x ∈ l, RawOk x := fun x hx => hl.sl_inv.2 x hx
  unfold law05_FieldMakes law05_FieldMakes_X
  rw [law05_awake_true]
  obtain ⟨xs, g1, g2, g3⟩ := makes_fit (R := R) ns l hl.sl_inv.1 hr o true (List.length ns + List.length l + List.length o + List.length ([] : List Json) + Int.natAbs 0 + 3) 0 [] (by omega) (by omega) (by omega) (by simp) (by simp)
  refine (g3 _).trans ?_
  rw [make_eq ns xs hn g2]
  have hml := mk_len ns xs [] [] rfl
  have hmm := mk_mem ns xs [] []
  have h2 : (mk ns xs [] []).1.length ≤ ns.length := by simpa using hml.2
  have h3 : (mk ns xs [] []).2.length = (mk ns xs [] []).1.length := hml.1.symm
  have hv : JOk ⟨7, ⟨0, 0⟩, [], (mk ns xs [] []).1, (mk ns xs [] []).2⟩ := by
    refine jok_mk ⟨by decide, by decide⟩ ⟨by decide, by decide⟩ ⟨by decide, by decide⟩ (by simp) (by omega) (fun s hs => ?_) (by omega) (fun y hy => ?_)
    · rcases hmm.1 s hs with h | h
      · cases h
      · exact (hns.sl_inv.2 s h (.str s) (by simp [Ty.cells])).str_inv
    · rcases hmm.2 y hy with h | h
      · cases h
      · exact g2 y h
  have hlook : ∀ s, look s (mk ns xs [] []).1 (mk ns xs [] []).2 = look s ns xs := fun s => by rw [look_mk s ns xs [] [] rfl]; simp [look]
  have hm : min (ns.length : Int) (xs.length : Int) = ((min ns.length xs.length : Nat) : Int) := by omega
  rw [hm]
  refine (makes_loop (R := R) ns hn o xs g2 _ hv rfl hlook (min ns.length xs.length) (by omega) (by omega) _ _ _ 0 false (by omega) (by omega)).trans ?_
  simp only [Json.eta]
  rw [get_eq _ hv]
  simp only [if_true, hlook, Bool.false_or, List.drop_zero]
  have hls := look_some o ns xs
  have c1 : (((mk ns xs [] []).1.length : Int) == ((mk ns xs [] []).2.length : Int)) = true := by simp [hml.1]
  cases hq : look o ns xs with
  | some x =>
    rw [hq] at hls
    simp only [cond_true, c1, ← hls]
    rfl
  | none =>
    rw [hq] at hls
    simp only [cond_true, c1, ← hls]
    rfl
end Go.Proofs.Ytcocpfgemdkkfaa

