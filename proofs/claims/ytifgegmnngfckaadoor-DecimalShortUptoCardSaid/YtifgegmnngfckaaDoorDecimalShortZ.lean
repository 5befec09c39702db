/-
  DecimalShort: for every input whose bulk is at most 1048576 the law returns true, and each argument reads behind the call as it read before; part 10 of 10 of the proof: an interpreter of the model's code over typed data, proved sound; the functions that the law reaches, printed as Lean functions and tied; the plain law. Own texts laid one behind the other.
-/
import Derived.Test.YtifgegmnngfckaaDoorDecimalShortB9
set_option linter.unusedSimpArgs false
set_option linter.unnecessarySimpa false
set_option linter.unusedVariables false
set_option linter.unusedSectionVars false
/-
  The document's own answer for texts, part 5: escapes and Unquote. Own work.
-/
set_option linter.unusedVariables false
set_option maxRecDepth 100000
namespace Go.Proofs.YtifgegmnngfckaaDoor
open Go Go.Yard Go.Lib

theorem drop_cons {s : Str} {p : Nat} (h : p < s.length) : s.drop p = s.getD p 0 :: s.drop (p + 1) := by
  rw [List.drop_eq_getElem_cons h]; simp [List.getD, h]

theorem pre2 (a b : UInt8) (s : Str) (p : Nat) : ([a, b] : Str).isPrefixOf (s.drop p) = (decide (p + 2 ≤ s.length) && (a == s.getD p 0 && b == s.getD (p + 1) 0)) := by
  by_cases h : p + 2 ≤ s.length
  · rw [dtrue h, drop_cons (show p < s.length by omega), drop_cons (show p + 1 < s.length by omega)]
    simp [List.isPrefixOf]
  · rw [dfalse h, Bool.false_and]
    by_cases h1 : p < s.length
    · rw [drop_cons h1]
      have : s.drop (p + 1) = [] := List.drop_eq_nil_of_le (by omega)
      rw [this]
      simp [List.isPrefixOf]
    · have : s.drop p = [] := List.drop_eq_nil_of_le (by omega)
      rw [this]
      rfl

theorem beqN (b : UInt8) (n : Nat) (hn : n < 256) : (UInt8.ofNat n == b) = decide (b.toNat = n) := by
  by_cases h : b.toNat = n
  · rw [dtrue h]
    subst h
    simp
  · rw [dfalse h]
    exact u8_ne hn h

theorem neI (n m : Nat) : ((n : Int) != (m : Int)) = decide (n ≠ m) := by
  by_cases h : n = m
  · subst h; simp
  · have : ¬ ((n : Int) = (m : Int)) := by omega
    simp [h, this]

/-- What follows 'u', by the reference. -/
theorem uni_ok {R : Type} (s : Str) (p : Nat) (hs : s.length ≤ 9000000000000) (hp : p + 1 ≤ s.length) (k : List Int → Int → Option R) :
    (match longP (s.drop (p + 1)) with
     | some (c, r) => ∃ n : Nat, 1 ≤ n ∧ p + n ≤ s.length ∧ r = s.drop (p + n) ∧ (ref02_four s (IntKind.i64.wrap ((p : Int) + 1)) (fun y4 => let j14 := bif (decide (y4 < (55296 : Int))) then (ref02_laid y4 (fun y8 => k y8 5)) else (bif (decide (y4 > (57343 : Int))) then (ref02_laid y4 (fun y9 => k y9 5)) else (bif (decide ((IntKind.i64.wrap ((p : Int) + 7)) > (s.length : Int))) then (k ([] : List Int) 0) else (chk (decide ((0 : Int) ≤ (IntKind.i64.wrap ((p : Int) + 5))) && decide ((IntKind.i64.wrap ((p : Int) + 5)) < s.length)) (bif (((s.getD ((IntKind.i64.wrap ((p : Int) + 5)).toNat) 0).toNat : Int) != 92) then (k ([] : List Int) 0) else (chk (decide ((0 : Int) ≤ (IntKind.i64.wrap ((p : Int) + 6))) && decide ((IntKind.i64.wrap ((p : Int) + 6)) < s.length)) (bif (((s.getD ((IntKind.i64.wrap ((p : Int) + 6)).toNat) 0).toNat : Int) != 117) then (k ([] : List Int) 0) else (ref02_four s (IntKind.i64.wrap ((p : Int) + 7)) (fun y11 => bif (decide (y11 < (56320 : Int))) then (k ([] : List Int) 0) else (bif (decide (y11 > (57343 : Int))) then (k ([] : List Int) 0) else (ref02_laid (IntKind.i64.wrap ((IntKind.i64.wrap ((IntKind.i64.wrap (65536 + (IntKind.i64.wrap ((IntKind.i64.wrap (y4 - 55296)) * 2 ^ (min 10 IntKind.i64.bits))))) + y11)) - 56320)) (fun y13 => k y13 11))))))))))); bif (decide (y4 < (0 : Int))) then (k ([] : List Int) 0) else (bif (decide (y4 ≥ (56320 : Int))) then (bif (decide (y4 ≤ (57343 : Int))) then (k ([] : List Int) 0) else (j14)) else (j14)))) = k (zs (enc c)) (n : Int)
     | none => (ref02_four s (IntKind.i64.wrap ((p : Int) + 1)) (fun y4 => let j14 := bif (decide (y4 < (55296 : Int))) then (ref02_laid y4 (fun y8 => k y8 5)) else (bif (decide (y4 > (57343 : Int))) then (ref02_laid y4 (fun y9 => k y9 5)) else (bif (decide ((IntKind.i64.wrap ((p : Int) + 7)) > (s.length : Int))) then (k ([] : List Int) 0) else (chk (decide ((0 : Int) ≤ (IntKind.i64.wrap ((p : Int) + 5))) && decide ((IntKind.i64.wrap ((p : Int) + 5)) < s.length)) (bif (((s.getD ((IntKind.i64.wrap ((p : Int) + 5)).toNat) 0).toNat : Int) != 92) then (k ([] : List Int) 0) else (chk (decide ((0 : Int) ≤ (IntKind.i64.wrap ((p : Int) + 6))) && decide ((IntKind.i64.wrap ((p : Int) + 6)) < s.length)) (bif (((s.getD ((IntKind.i64.wrap ((p : Int) + 6)).toNat) 0).toNat : Int) != 117) then (k ([] : List Int) 0) else (ref02_four s (IntKind.i64.wrap ((p : Int) + 7)) (fun y11 => bif (decide (y11 < (56320 : Int))) then (k ([] : List Int) 0) else (bif (decide (y11 > (57343 : Int))) then (k ([] : List Int) 0) else (ref02_laid (IntKind.i64.wrap ((IntKind.i64.wrap ((IntKind.i64.wrap (65536 + (IntKind.i64.wrap ((IntKind.i64.wrap (y4 - 55296)) * 2 ^ (min 10 IntKind.i64.bits))))) + y11)) - 56320)) (fun y13 => k y13 11))))))))))); bif (decide (y4 < (0 : Int))) then (k ([] : List Int) 0) else (bif (decide (y4 ≥ (56320 : Int))) then (bif (decide (y4 ≤ (57343 : Int))) then (k ([] : List Int) 0) else (j14)) else (j14)))) = k [] 0) := by
  have w1 : IntKind.i64.wrap ((p : Int) + 1) = ((p + 1 : Nat) : Int) := by rw [wrap_id (by omega) (by omega)]; omega
  have w5 : IntKind.i64.wrap ((p : Int) + 5) = ((p + 5 : Nat) : Int) := by rw [wrap_id (by omega) (by omega)]; omega
  have w6 : IntKind.i64.wrap ((p : Int) + 6) = ((p + 6 : Nat) : Int) := by rw [wrap_id (by omega) (by omega)]; omega
  have w7 : IntKind.i64.wrap ((p : Int) + 7) = ((p + 7 : Nat) : Int) := by rw [wrap_id (by omega) (by omega)]; omega
  have n92 : ∀ x : Nat, ((x : Int) != 92) = decide (x ≠ 92) := fun x => neI x 92
  have n117 : ∀ x : Nat, ((x : Int) != 117) = decide (x ≠ 117) := fun x => neI x 117
  simp only [w1, w5, w6, w7, four_ok s (p + 1) (by omega) hp, Int.toNat_natCast, n92, n117]
  unfold longP
  cases hu : unitP (s.drop (p + 1)) with
  | none =>
    simp only
    rw [dtrue (show (-1 : Int) < 0 by omega), cond_true]
  | some q =>
    obtain ⟨v, r⟩ := q
    obtain ⟨hv, hl, hr⟩ := unitP_lt hu
    rw [List.length_drop] at hl
    rw [List.drop_drop] at hr
    have hr5 : r = s.drop (p + 5) := by rw [hr]
    simp only
    rw [dfalse (show ¬ (v : Int) < 0 by omega)]
    by_cases h1 : v < 55296
    · rw [if_pos (.inl h1), dfalse (show ¬ (v : Int) ≥ 56320 by omega), dtrue (show (v : Int) < 55296 by omega)]
      simp only [cond_true, cond_false]
      exact ⟨5, by omega, by omega, hr5, laid_ok (by unfold vr; omega) _⟩
    by_cases h2 : 57344 ≤ v
    · rw [if_pos (.inr h2), dtrue (show (v : Int) ≥ 56320 by omega), dfalse (show ¬ (v : Int) ≤ 57343 by omega), dfalse (show ¬ (v : Int) < 55296 by omega), dtrue (show (v : Int) > 57343 by omega)]
      simp only [cond_true, cond_false]
      exact ⟨5, by omega, by omega, hr5, laid_ok (by unfold vr; omega) _⟩
    rw [if_neg (by omega)]
    by_cases h3 : 56320 ≤ v
    · rw [if_pos h3, dtrue (show (v : Int) ≥ 56320 by omega), dtrue (show (v : Int) ≤ 57343 by omega)]
      rfl
    rw [if_neg h3, dfalse (show ¬ (v : Int) ≥ 56320 by omega), dfalse (show ¬ (v : Int) < 55296 by omega), dfalse (show ¬ (v : Int) > 57343 by omega)]
    simp only [cond_false]
    rw [hr5, pre2]
    by_cases h7 : p + 7 ≤ s.length
    · have e92 : ((92 : UInt8) == s.getD (p + 5) 0) = decide ((s.getD (p + 5) 0).toNat = 92) := beqN _ 92 (by omega)
      have e117 : ((117 : UInt8) == s.getD (p + 5 + 1) 0) = decide ((s.getD (p + 6) 0).toNat = 117) := beqN _ 117 (by omega)
      rw [dtrue (show p + 5 + 2 ≤ s.length by omega), dfalse (show ¬ ((p + 7 : Nat) : Int) > (s.length : Int) by omega), cond_false, chk_pos (by rw [dtrue (by omega), dtrue (by omega)]; rfl), chk_pos (by rw [dtrue (by omega), dtrue (by omega)]; rfl), e92, e117]
      by_cases g1 : (s.getD (p + 5) 0).toNat = 92
      · by_cases g2 : (s.getD (p + 6) 0).toNat = 117
        · rw [dtrue g1, dtrue g2, dfalse (show ¬ (s.getD (p + 5) 0).toNat ≠ 92 from fun h => h g1), dfalse (show ¬ (s.getD (p + 6) 0).toNat ≠ 117 from fun h => h g2)]
          simp only [Bool.and_self, if_true, cond_false, List.drop_drop]
          rw [four_ok s (p + 7) (by omega) h7]
          have e57 : p + 5 + 2 = p + 7 := rfl
          rw [e57]
          cases hu2 : unitP (s.drop (p + 7)) with
          | none =>
            simp only
            rw [dtrue (show (-1 : Int) < 56320 by omega), cond_true]
          | some q2 =>
            obtain ⟨w, r2⟩ := q2
            obtain ⟨hw, hl2, hr2⟩ := unitP_lt hu2
            rw [List.length_drop] at hl2
            rw [List.drop_drop] at hr2
            simp only
            by_cases h4 : 56320 ≤ w ∧ w < 57344
            · rw [if_pos h4, dfalse (show ¬ (w : Int) < 56320 by omega), cond_false, dfalse (show ¬ (w : Int) > 57343 by omega), cond_false]
              simp only
              have k1 : IntKind.i64.wrap ((v : Int) - 55296) = ((v - 55296 : Nat) : Int) := by rw [wrap_id (by omega) (by omega)]; omega
              have k2 : IntKind.i64.wrap ((((v - 55296 : Nat) : Int)) * 2 ^ (min 10 IntKind.i64.bits)) = (((v - 55296) * 1024 : Nat) : Int) := by
                have e : (((v - 55296 : Nat) : Int)) * 2 ^ (min 10 IntKind.i64.bits) = (((v - 55296) * 1024 : Nat) : Int) := by
                  show (((v - 55296 : Nat) : Int)) * 2 ^ 10 = _
                  omega
                rw [e, wrap_id (by omega) (by omega)]
              rw [k1, k2, wrap_id (n := 65536 + (((v - 55296) * 1024 : Nat) : Int)) (by omega) (by omega), wrap_id (n := 65536 + (((v - 55296) * 1024 : Nat) : Int) + (w : Int)) (by omega) (by omega), wrap_id (by omega) (by omega)]
              have e3 : 65536 + (((v - 55296) * 1024 : Nat) : Int) + (w : Int) - 56320 = ((65536 + (v - 55296) * 1024 + (w - 56320) : Nat) : Int) := by omega
              rw [e3]
              exact ⟨11, by omega, by omega, by rw [hr2], laid_ok (by unfold vr; omega) _⟩
            · rw [if_neg h4]
              simp only
              by_cases h5 : w < 56320
              · rw [dtrue (show (w : Int) < 56320 by omega), cond_true]
              · rw [dfalse (show ¬ (w : Int) < 56320 by omega), cond_false, dtrue (show (w : Int) > 57343 by omega), cond_true]
        · rw [dtrue g1, dfalse g2, dfalse (show ¬ (s.getD (p + 5) 0).toNat ≠ 92 from fun h => h g1), dtrue (show (s.getD (p + 6) 0).toNat ≠ 117 from g2)]
          rfl
      · rw [dfalse g1, dtrue (show (s.getD (p + 5) 0).toNat ≠ 92 from g1)]
        rfl
    · rw [dfalse (show ¬ p + 5 + 2 ≤ s.length by omega), dtrue (show ((p + 7 : Nat) : Int) > (s.length : Int) by omega)]
      rfl

theorem escape_ok {R : Type} (s : Str) (p : Nat) (hs : s.length ≤ 9000000000000) (k : List Int → Int → Option R) :
    match escP (s.drop p) with
    | some (c, r) => ∃ n : Nat, 1 ≤ n ∧ p + n ≤ s.length ∧ r = s.drop (p + n) ∧ ref02_escape s (p : Int) k = k (zs (enc c)) (n : Int)
    | none => ref02_escape s (p : Int) k = k [] 0 := by
  have e : ref02_escape s (p : Int) k = ref02_escape_X ref02_four ref02_laid s (p : Int) k := rfl
  rw [e]
  unfold ref02_escape_X
  by_cases h : p < s.length
  · have hu := uni_ok (R := R) s p hs (by omega) k
    rw [drop_cons h, dfalse (show ¬ (p : Int) ≥ (s.length : Int) by omega), cond_false, chk_pos (by rw [dtrue (by omega), dtrue (by omega)]; rfl)]
    dsimp only
    rw [Int.toNat_natCast, chk_pos (by rw [dtrue (by omega), dtrue (by omega)]; rfl)]
    dsimp only at hu
    generalize hF : ref02_four s (IntKind.i64.wrap ((p : Int) + 1)) _ = F at hu ⊢
    simp only [escP]
    have hb := UInt8.toNat_lt (s.getD p 0)
    have hz : ∀ b : UInt8, ([(b.toNat : Int)] : List Int) = zs (enc b.toNat) ∨ 128 ≤ b.toNat := fun b => by
      by_cases h1 : b.toNat < 128
      · left; rw [enc1 h1]; simp
      · right; omega
    have hz := hz (s.getD p 0)
    generalize (s.getD p 0).toNat = b at *
    have q34 : ((b : Int) == 34) = decide (b = 34) := eqI _ 34
    have q92 : ((b : Int) == 92) = decide (b = 92) := eqI _ 92
    have q47 : ((b : Int) == 47) = decide (b = 47) := eqI _ 47
    have q98 : ((b : Int) == 98) = decide (b = 98) := eqI _ 98
    have q102 : ((b : Int) == 102) = decide (b = 102) := eqI _ 102
    have q110 : ((b : Int) == 110) = decide (b = 110) := eqI _ 110
    have q114 : ((b : Int) == 114) = decide (b = 114) := eqI _ 114
    have q116 : ((b : Int) == 116) = decide (b = 116) := eqI _ 116
    have q117 : ((b : Int) == 117) = decide (b = 117) := eqI _ 117
    rw [q34, q92, q47, q98, q102, q110, q114, q116, q117]
    have one : ∀ c : Nat, c < 128 → ∀ l : List Int, l = [(c : Int)] → ∃ n : Nat, 1 ≤ n ∧ p + n ≤ s.length ∧ s.drop (p + 1) = s.drop (p + n) ∧ k l 1 = k (zs (enc c)) (n : Int) := fun c hc l hl => by
      refine ⟨1, by omega, by omega, rfl, ?_⟩
      rw [hl, enc1 hc]
      simp only [zs, List.map_cons, List.map_nil, zs_nat c (by omega)]
      rfl
    by_cases h34 : b = 34
    · subst h34; exact one 34 (by omega) _ rfl
    by_cases h92 : b = 92
    · subst h92; exact one 92 (by omega) _ rfl
    by_cases h47 : b = 47
    · subst h47; exact one 47 (by omega) _ rfl
    simp only [h34, h92, h47, decide_false, cond_false, or_self, if_false]
    by_cases h98 : b = 98
    · subst h98; exact one 8 (by omega) _ rfl
    by_cases h102 : b = 102
    · subst h102; exact one 12 (by omega) _ rfl
    by_cases h110 : b = 110
    · subst h110; exact one 10 (by omega) _ rfl
    by_cases h114 : b = 114
    · subst h114; exact one 13 (by omega) _ rfl
    by_cases h116 : b = 116
    · subst h116; exact one 9 (by omega) _ rfl
    simp only [h98, h102, h110, h114, h116, decide_false, cond_false, if_false]
    by_cases h117 : b = 117
    · simp only [h117, decide_true, cond_true, if_true]
      exact hu
    · simp only [h117, decide_false, cond_false, if_false]
  · have : s.drop p = [] := List.drop_eq_nil_of_le (by omega)
    rw [this, dtrue (show (p : Int) ≥ (s.length : Int) by omega), cond_true]
    rfl
end Go.Proofs.YtifgegmnngfckaaDoor

/-
  DecimalShort. Own work.
-/
set_option linter.unusedVariables false
set_option maxRecDepth 100000
namespace Go.Proofs.YtifgegmnngfckaaDoor
open Go Go.Yard Go.Lib

theorem dec_all (u : Nat) : ∀ b ∈ decDigits u, 48 ≤ b.toNat ∧ b.toNat ≤ 57 := by
  induction u using Nat.strongRecOn with
  | _ u ih =>
    intro b hb
    by_cases h : u < 10
    · rw [decDigits, dif_pos h] at hb
      simp only [List.mem_cons, List.not_mem_nil, or_false] at hb
      subst hb
      rw [u8_nat _ (by omega)]; omega
    · rw [decDigits, dif_neg h] at hb
      rcases List.mem_append.1 hb with hb | hb
      · exact ih (u / 10) (by omega) b hb
      · simp only [List.mem_cons, List.not_mem_nil, or_false] at hb
        subst hb
        rw [u8_nat _ (by omega)]; omega
theorem dec_first (u : Nat) (hu : 0 < u) : ∃ b t, decDigits u = b :: t ∧ b.toNat ≠ 48 := by
  induction u using Nat.strongRecOn with
  | _ u ih =>
    by_cases h : u < 10
    · exact ⟨_, [], by rw [decDigits, dif_pos h], by rw [u8_nat _ (by omega)]; omega⟩
    · obtain ⟨b, t, e, hb⟩ := ih (u / 10) (by omega) (by omega)
      exact ⟨b, t ++ [UInt8.ofNat (48 + u % 10)], by rw [decDigits, dif_neg h, e]; rfl, hb⟩
theorem dec_last (u : Nat) : ∃ l, decDigits u = l ++ [UInt8.ofNat (48 + u % 10)] := by
  by_cases h : u < 10
  · exact ⟨[], by rw [decDigits, dif_pos h, Nat.mod_eq_of_lt h]; rfl⟩
  · exact ⟨decDigits (u / 10), by rw [decDigits, dif_neg h]⟩

theorem tmod_abs {m : Int} (h : Int.tmod m 10 ≠ 0) : m.natAbs % 10 ≠ 0 := by
  intro h2
  apply h
  have e : m = (m / 10) * 10 := by omega
  rw [e]
  exact Int.mul_tmod_left _ _

theorem getD_app_ge (a b : Str) (j : Nat) : (a ++ b).getD (a.length + j) 0 = b.getD j 0 := by
  show ((a ++ b)[a.length + j]?).getD 0 = (b[j]?).getD 0
  rw [List.getElem?_append_right (by omega), Nat.add_sub_cancel_left]

/-- A place of a number's text: a digit, or a point that stands between others. -/
def okAt (z : Str) (j : Nat) : Prop := ((z.getD j 0).toNat = 46 ∧ j ≠ 0 ∧ j + 1 ≠ z.length) ∨ (48 ≤ (z.getD j 0).toNat ∧ (z.getD j 0).toNat ≤ 57)

def dots (z : Str) : Nat := (z.filter fun b => decide (b.toNat = 46)).length
theorem dots_cons (b : UInt8) (z : Str) : dots (b :: z) = (if b.toNat = 46 then 1 else 0) + dots z := by
  unfold dots
  by_cases h : b.toNat = 46
  · simp [h]; omega
  · simp [h]
theorem dots_app (a b : Str) : dots (a ++ b) = dots a + dots b := by unfold dots; rw [List.filter_append, List.length_append]
theorem dots_digits {z : Str} (h : ∀ b ∈ z, 48 ≤ b.toNat ∧ b.toNat ≤ 57) : dots z = 0 := by
  unfold dots
  rw [List.length_eq_zero_iff, List.filter_eq_nil_iff]
  intro b hb
  have := h b hb
  simp
  omega
theorem dots_le (z : Str) : dots z ≤ z.length := List.length_filter_le _ _

theorem short_loop {R : Type} (z : Str) (hz : z.length ≤ 1000) (e0 : Str → Int → Option R) (e1 : Bool → Str → Int → Option R) : ∀ (n i c : Nat), z.length - i < n → i ≤ z.length → c ≤ i → (∀ j, i ≤ j → j < z.length → okAt z j) →
    law01_DecimalShort_10_0_L n z (c : Int) (i : Int) e0 e1 = e0 z ((c + dots (z.drop i) : Nat) : Int) := by
  intro n
  induction n with
  | zero => intro i c h; omega
  | succ n ih =>
    intro i c h hi hc hok
    have e : law01_DecimalShort_10_0_L (n + 1) z (c : Int) (i : Int) e0 e1 = law01_DecimalShort_10_0_B (fun x0' x1' x2' => law01_DecimalShort_10_0_L n x0' x1' x2' e0 e1) z (c : Int) (i : Int) e0 e1 := rfl
    rw [e]
    unfold law01_DecimalShort_10_0_B
    by_cases hlt : i < z.length
    · have hd := drop_cons hlt
      have w1 : IntKind.i64.wrap ((i : Int) + 1) = ((i + 1 : Nat) : Int) := by rw [wrap_id (by omega) (by omega)]; omega
      have w2 : IntKind.i64.wrap ((c : Int) + 1) = ((c + 1 : Nat) : Int) := by rw [wrap_id (by omega) (by omega)]; omega
      have w3 : IntKind.i64.wrap ((z.length : Int) - 1) = ((z.length - 1 : Nat) : Int) := by rw [wrap_id (by omega) (by omega)]; omega
      have hch : (decide ((0 : Int) ≤ (i : Int)) && decide ((i : Int) < (z.length : Int))) = true := by rw [dtrue (by omega), dtrue (by omega)]; rfl
      rw [hch, dtrue (show (i : Int) < (z.length : Int) by omega), cond_true]
      simp only [chk_pos rfl, Int.toNat_natCast, w1, w2, w3]
      rw [hd, dots_cons]
      have hk := hok i (Nat.le_refl _) hlt
      unfold okAt at hk
      have q46 : (((z.getD i 0).toNat : Int) == 46) = decide ((z.getD i 0).toNat = 46) := eqI _ 46
      have q0 : ((i : Int) == 0) = decide (i = 0) := eqI _ 0
      have ql : ((i : Int) == ((z.length - 1 : Nat) : Int)) = decide (i = z.length - 1) := eqI _ _
      rw [q46, q0, ql]
      rcases hk with ⟨h1, h2, h3⟩ | ⟨h1, h2⟩
      · rw [dtrue h1, cond_true, dfalse h2, cond_false, dfalse (show ¬ i = z.length - 1 by omega), cond_false, if_pos h1]
        rw [ih (i + 1) (c + 1) (by omega) (by omega) (by omega) (fun j hj => hok j (by omega))]
        congr 2
        omega
      · rw [dfalse (show ¬ (z.getD i 0).toNat = 46 by omega), cond_false, dfalse (show ¬ ((z.getD i 0).toNat : Int) < 48 by omega), cond_false, dfalse (show ¬ ((z.getD i 0).toNat : Int) > 57 by omega), cond_false, if_neg (by omega)]
        rw [ih (i + 1) c (by omega) (by omega) (by omega) (fun j hj => hok j (by omega))]
        congr 2
        omega
    · rw [dfalse (show ¬ (i : Int) < (z.length : Int) by omega), cond_false]
      have : z.drop i = [] := List.drop_eq_nil_of_le (by omega)
      rw [this]
      rfl

theorem getD_mem {z : Str} {j : Nat} (h : j < z.length) : z.getD j 0 ∈ z := by
  have : z.getD j 0 = z[j] := by simp [List.getD, h]
  rw [this]
  exact List.getElem_mem h

/-- What a number's text without its sign is like. -/
theorem body_ok (d : Dcm) (hd : Fm d) : ∃ z : Str, z = body (decDigits d.mant.natAbs) d.exp ∧ 1 ≤ z.length ∧ z.length ≤ 30 ∧ (∀ j, j < z.length → okAt z j) ∧ 48 ≤ (z.getD 0 0).toNat ∧
    ((dots z = 0 ∧ ((z.getD 0 0).toNat ≠ 48 ∨ z.length = 1)) ∨ (dots z = 1 ∧ (z.getD (z.length - 1) 0).toNat ≠ 48 ∧ 2 ≤ z.length ∧ ((z.getD 0 0).toNat ≠ 48 ∨ (z.getD 1 0).toNat = 46))) := by
  have b := hd.bounds
  refine ⟨_, rfl, ?_⟩
  have hall := dec_all d.mant.natAbs
  have hlen : (decDigits d.mant.natAbs).length ≤ 16 := by rw [decDigits_length]; exact digits16 (by omega)
  have hpos : 1 ≤ (decDigits d.mant.natAbs).length := by rw [decDigits_length]; exact nDigits_pos _
  by_cases he : 0 ≤ d.exp
  · have hb : body (decDigits d.mant.natAbs) d.exp = decDigits d.mant.natAbs ++ zeros d.exp.toNat := by unfold body; rw [if_pos he]
    rw [hb]
    have hdig : ∀ x ∈ decDigits d.mant.natAbs ++ zeros d.exp.toNat, 48 ≤ x.toNat ∧ x.toNat ≤ 57 := by
      intro x hx
      rcases List.mem_append.1 hx with hx | hx
      · exact hall x hx
      · have := List.eq_of_mem_replicate hx
        subst this; decide
    have hl : (decDigits d.mant.natAbs ++ zeros d.exp.toNat).length = (decDigits d.mant.natAbs).length + d.exp.toNat := by rw [List.length_append, zeros_len]
    refine ⟨by omega, by omega, fun j hj => .inr (hdig _ (getD_mem hj)), (hdig _ (getD_mem (by omega))).1, .inl ⟨dots_digits hdig, ?_⟩⟩
    by_cases h0 : d.mant = 0
    · right
      have := hd.zero h0
      subst this
      show (decDigits 0 ++ zeros 0).length = 1
      rw [decDigits_one (by omega)]
      rfl
    · left
      obtain ⟨x, t, e, hx⟩ := dec_first d.mant.natAbs (by omega)
      rw [e]
      exact hx
  · have h0 : d.mant ≠ 0 := by
      intro h
      have := hd.zero h
      rw [this] at he
      exact he (Int.le_refl _)
    obtain ⟨l, hlast⟩ := dec_last d.mant.natAbs
    have hmod := tmod_abs (hd.nz h0)
    obtain ⟨x0, t0, hfirst, hx0⟩ := dec_first d.mant.natAbs (by omega)
    generalize hL : decDigits d.mant.natAbs = L at *
    have hb : body L d.exp = (zeros (max 0 (1 - d.exp - (L.length : Int))).toNat ++ L).take (((zeros (max 0 (1 - d.exp - (L.length : Int))).toNat ++ L).length : Int) + d.exp).toNat ++ [46] ++ (zeros (max 0 (1 - d.exp - (L.length : Int))).toNat ++ L).drop (((zeros (max 0 (1 - d.exp - (L.length : Int))).toNat ++ L).length : Int) + d.exp).toNat := by
      unfold body; rw [if_neg he]
    rw [hb]
    have tl : (zeros (max 0 (1 - d.exp - (L.length : Int))).toNat ++ L).length = (max 0 (1 - d.exp - (L.length : Int))).toNat + L.length := by rw [List.length_append, zeros_len]
    have tdig : ∀ x ∈ zeros (max 0 (1 - d.exp - (L.length : Int))).toNat ++ L, 48 ≤ x.toNat ∧ x.toNat ≤ 57 := by
      intro x hx
      rcases List.mem_append.1 hx with hx | hx
      · have := List.eq_of_mem_replicate hx
        subst this; decide
      · exact hall x hx
    have tlast : ∃ l', zeros (max 0 (1 - d.exp - (L.length : Int))).toNat ++ L = l' ++ [UInt8.ofNat (48 + d.mant.natAbs % 10)] := ⟨zeros (max 0 (1 - d.exp - (L.length : Int))).toNat ++ l, by rw [hlast, List.append_assoc]⟩
    have tfirst : (zeros (max 0 (1 - d.exp - (L.length : Int))).toNat ++ L).getD 0 0 = (if (max 0 (1 - d.exp - (L.length : Int))).toNat = 0 then x0 else 48) := by
      rw [hfirst]
      cases hz : (max 0 (1 - d.exp - ((x0 :: t0).length : Int))).toNat with
      | zero => rfl
      | succ q => rfl
    generalize hz : (max 0 (1 - d.exp - (L.length : Int))).toNat = z at *
    generalize ht : zeros z ++ L = t at *
    have hat : ((t.length : Int) + d.exp).toNat = t.length - d.exp.natAbs := by omega
    rw [hat]
    have h1 : d.exp.natAbs + 1 ≤ t.length := by omega
    have la : (t.take (t.length - d.exp.natAbs)).length = t.length - d.exp.natAbs := by rw [List.length_take]; omega
    have lb : (t.drop (t.length - d.exp.natAbs)).length = d.exp.natAbs := by rw [List.length_drop]; omega
    generalize hA : t.take (t.length - d.exp.natAbs) = A at *
    generalize hB : t.drop (t.length - d.exp.natAbs) = B at *
    have hAB : A ++ B = t := by rw [← hA, ← hB, List.take_append_drop]
    have lz : (A ++ [46] ++ B).length = A.length + 1 + B.length := by simp only [List.length_append, List.length_cons, List.length_nil]
    have dA : ∀ x ∈ A, 48 ≤ x.toNat ∧ x.toNat ≤ 57 := fun x hx => tdig x (by rw [← hAB]; exact List.mem_append_left _ hx)
    have dB : ∀ x ∈ B, 48 ≤ x.toNat ∧ x.toNat ≤ 57 := fun x hx => tdig x (by rw [← hAB]; exact List.mem_append_right _ hx)
    have gA : ∀ j, j < A.length → (A ++ [46] ++ B).getD j 0 = A.getD j 0 := fun j hj => by
      rw [List.append_assoc]; exact getD_app_lt hj
    have gM : (A ++ [46] ++ B).getD A.length 0 = 46 := by rw [List.append_assoc]; exact getD_app_at
    have gB : ∀ j, j < B.length → (A ++ [46] ++ B).getD (A.length + 1 + j) 0 = B.getD j 0 := fun j hj => by
      have e : A.length + 1 + j = (A ++ [46]).length + j := by simp
      rw [e]
      exact getD_app_ge _ _ _
    have he1 : 1 ≤ d.exp.natAbs := by omega
    refine ⟨by omega, by omega, fun j hj => ?_, ?_, .inr ⟨?_, ?_, by omega, ?_⟩⟩
    · rcases Nat.lt_trichotomy j A.length with h | h | h
      · right; rw [gA j h]; exact dA _ (getD_mem h)
      · left; subst h; rw [gM]; exact ⟨rfl, by omega, by omega⟩
      · right
        obtain ⟨q, rfl⟩ : ∃ q, j = A.length + 1 + q := ⟨j - A.length - 1, by omega⟩
        rw [gB q (by omega)]; exact dB _ (getD_mem (by omega))
    · rw [gA 0 (by omega)]; exact (dA _ (getD_mem (by omega))).1
    · rw [dots_app, dots_app, dots_digits dA, dots_digits dB]; rfl
    · have e : (A ++ [46] ++ B).length - 1 = A.length + 1 + (B.length - 1) := by omega
      rw [e, gB _ (by omega)]
      obtain ⟨l', hl'⟩ := tlast
      have hBl : B.getD (B.length - 1) 0 = UInt8.ofNat (48 + d.mant.natAbs % 10) := by
        have e2 : t.getD (t.length - 1) 0 = UInt8.ofNat (48 + d.mant.natAbs % 10) := by
          rw [hl']
          have : (l' ++ [UInt8.ofNat (48 + d.mant.natAbs % 10)]).length - 1 = l'.length := by simp
          rw [this]
          exact getD_app_at
        have e3 : t.getD (t.length - 1) 0 = B.getD (B.length - 1) 0 := by
          rw [← hAB]
          have : (A ++ B).length - 1 = A.length + (B.length - 1) := by rw [List.length_append]; omega
          rw [this]
          exact getD_app_ge _ _ _
        rw [← e3, e2]
      rw [hBl, u8_nat _ (by omega)]
      omega
    · have hA0 : A.getD 0 0 = t.getD 0 0 := by rw [← hAB]; exact (getD_app_lt (by omega)).symm
      rw [gA 0 (by omega), hA0, tfirst]
      by_cases hzz : z = 0
      · left; rw [if_pos hzz]; exact hx0
      · right
        have : A.length = 1 := by omega
        have e : (A ++ [46] ++ B).getD 1 0 = 46 := by rw [← this]; exact gM
        rw [e]; rfl

theorem decimalShort_true {R : Type} (mant ex : Int) (hm : Small 1048576 (.int .i64 mant)) (he : Small 1048576 (.int .i64 ex)) (k : Bool → Option R) : law01_DecimalShort mant ex k = k true := by
  have e : law01_DecimalShort mant ex k = law01_DecimalShort_X law01_awake law01_Fit decimal_Print law01_DecimalShort_10_0_L mant ex k := rfl
  rw [e]
  unfold law01_DecimalShort_X
  rw [awake01]
  obtain ⟨d, hd, hf⟩ := fit_ok (R := R) mant ex (i64_has.1 hm.int_inv) (i64_has.1 he.int_inv)
  rw [hf, print_ok hd]
  obtain ⟨z, hz, z1, z2, z3, z48, z4⟩ := body_ok d hd
  have hp : prt d = (if d.mant < 0 then [45] else []) ++ z := by unfold prt; rw [hz]
  rw [Bool.not_true, cond_false]
  have hne : (prt d == ([] : Str)) = false := by
    rw [beq_eq_false_iff_ne]
    intro h
    rw [hp] at h
    have := congrArg List.length h
    rw [List.length_append, List.length_nil] at this
    omega
  rw [hne, cond_false]
  dsimp only
  -- behind the sign
  have key : ∀ F : Nat, z.length < F → law01_DecimalShort_10_0_L F z 0 0 (fun y14 y15 => bif (decide (y15 > (1 : Int))) then (k false) else (bif (y15 == 1) then (chk (decide ((0 : Int) ≤ (IntKind.i64.wrap ((y14.length : Int) - 1))) && decide ((IntKind.i64.wrap ((y14.length : Int) - 1)) < y14.length)) (bif (((y14.getD ((IntKind.i64.wrap ((y14.length : Int) - 1)).toNat) 0).toNat : Int) == 48) then (k false) else (bif ((y14.length : Int) == 0) then (k false) else (chk (decide ((0 : Int) < y14.length)) (bif (((y14.getD 0 0).toNat : Int) != 48) then (k true) else (bif ((y14.length : Int) == 1) then (k true) else (chk (decide ((1 : Int) < y14.length)) (k (((y14.getD 1 0).toNat : Int) == 46))))))))) else (bif ((y14.length : Int) == 0) then (k false) else (chk (decide ((0 : Int) < y14.length)) (bif (((y14.getD 0 0).toNat : Int) != 48) then (k true) else (bif ((y14.length : Int) == 1) then (k true) else (chk (decide ((1 : Int) < y14.length)) (k (((y14.getD 1 0).toNat : Int) == 46))))))))) (fun y16 y17 y18 => k y16) = k true := by
    intro F hF
    refine (short_loop (R := R) z (by omega) _ _ F 0 0 (by omega) (by omega) (by omega) (fun j _ hj => z3 j hj)).trans ?_
    rw [List.drop_zero, Nat.zero_add]
    have w3 : IntKind.i64.wrap ((z.length : Int) - 1) = ((z.length - 1 : Nat) : Int) := by rw [wrap_id (by omega) (by omega)]; omega
    simp only [w3, Int.toNat_natCast]
    have l0 : ((z.length : Int) == 0) = false := by rw [beq_eq_false_iff_ne]; omega
    have q48 : ∀ x : Nat, ((x : Int) == 48) = decide (x = 48) := fun x => eqI x 48
    have n48 : ∀ x : Nat, ((x : Int) != 48) = decide (x ≠ 48) := fun x => neI x 48
    have ql : ((z.length : Int) == 1) = decide (z.length = 1) := eqI _ 1
    have q46 : ∀ x : Nat, ((x : Int) == 46) = decide (x = 46) := fun x => eqI x 46
    rw [l0, q48, n48, ql, q46]
    rcases z4 with ⟨g1, g2⟩ | ⟨g1, g2, g3, g4⟩
    · rw [g1, dfalse (show ¬ (((0 : Nat) : Int) > 1) by omega)]
      have : ((((0 : Nat) : Int)) == 1) = false := rfl
      rw [this]
      simp only [cond_false]
      rw [chk_pos (dtrue (by omega))]
      by_cases h : (z.getD 0 0).toNat = 48
      · rw [dfalse (show ¬ (z.getD 0 0).toNat ≠ 48 from fun x => x h), cond_false, dtrue (g2.resolve_left (fun x => x h)), cond_true]
      · rw [dtrue (show (z.getD 0 0).toNat ≠ 48 from h), cond_true]
    · rw [g1, dfalse (show ¬ (((1 : Nat) : Int) > 1) by omega)]
      have : ((((1 : Nat) : Int)) == 1) = true := rfl
      rw [this]
      simp only [cond_false, cond_true]
      rw [chk_pos (by rw [dtrue (by omega), dtrue (by omega)]; rfl), dfalse g2, cond_false, chk_pos (dtrue (by omega))]
      by_cases h : (z.getD 0 0).toNat = 48
      · rw [dfalse (show ¬ (z.getD 0 0).toNat ≠ 48 from fun x => x h), cond_false, dfalse (show ¬ z.length = 1 by omega), cond_false, chk_pos (dtrue (by omega)), dtrue (g4.resolve_left (fun x => x h))]
      · rw [dtrue (show (z.getD 0 0).toNat ≠ 48 from h), cond_true]
  have q45 : ∀ x : Nat, ((x : Int) == 45) = decide (x = 45) := fun x => eqI x 45
  rw [q45]
  by_cases hs : d.mant < 0
  · have hp2 : prt d = 45 :: z := by rw [hp, if_pos hs]; rfl
    rw [hp2]
    have hg : ((45 :: z : Str).getD 0 0).toNat = 45 := rfl
    have hdr : ((45 :: z : Str).drop 1).take ((((45 :: z : Str).length : Nat) : Int).toNat - 1) = z := by
      rw [Int.toNat_natCast, List.drop_succ_cons, List.drop_zero, List.length_cons, Nat.add_sub_cancel, List.take_length]
    rw [hg, dtrue (rfl : (45 : Nat) = 45), cond_true, hdr, chk_pos (dtrue (by simp only [List.length_cons]; omega)), chk_pos (by rw [dtrue (by omega), dtrue (by omega)]; rfl), chk_pos (dtrue (by simp only [List.length_cons]; omega))]
    exact key _ (by omega)
  · have hp2 : prt d = z := by rw [hp, if_neg hs]; rfl
    rw [hp2, dfalse (show ¬ (z.getD 0 0).toNat = 45 by omega), cond_false, chk_pos (dtrue (by omega))]
    exact key _ (by omega)
end Go.Proofs.YtifgegmnngfckaaDoor

/-
  DecimalShort: the statement where what it reads is of bulk at most 1048576: for every such input the law returns true, and each argument reads behind the call as it read before. Out of the plain law; printed by wip/tools/row.py.
-/
set_option linter.unusedVariables false
set_option maxRecDepth 100000
namespace Go.Proofs.YtifgegmnngfckaaDoor.decimalShort
open Go.ChangeShapes Go.WideShapes Go.ChangeAt Go.RowKit Go.Yard Door

theorem run (a0 : Int) (a1 : Int) : specBy law01_DecimalShort_p law01_DecimalShort_q (law01_DecimalShort_rr law01_DecimalShort) specNo [.int .i64 a0, .int .i64 a1] [] kOk = law01_DecimalShort a0 a1 (fun q0 => kOk (.bool q0) []) := by kernel_rfl

theorem contract (H : Type) (enc : TypeId × Value → H) (W : World) (base : Nat) (args : Array Value) (ds gs : List (DataW H)) (before : List MemPlace)
    (hval : ∀ (j : Nat) t v, Tryd.f13.params[j]? = some t → args[j]? = some v → Value.okWide Tryd.prog W .any base t v)
    (hW : DataW.Whole enc Tryd.prog Tryd.f13.params.toList Rows.decimalShortSpec.vars false W args.toList ds gs before) (hL : laidMetH Tryd.prog Rows.decimalShortUptoRow.laid W) (hk : Rows.uptoSmall H (ds ++ gs) = true) :
    Calls Tryd.prog 13 args W fun e W' => ∃ v, e = .returned v ∧ Rows.decimalShortSpec.post enc Tryd.prog Tryd.f13 false true false false W args v W' := by
  have hW' := hW
  obtain ⟨p, q, hA0, hV, hpq, hfz, hnd⟩ := hW
  have hA : DataW.TrodAll enc Tryd.prog W 0 (fun _ => true) true [3, 3] args.toList ds p := hA0
  have hval : ∀ (j : Nat) t v, (#[3, 3] : Array Nat)[j]? = some t → args[j]? = some v → Value.okWide Tryd.prog W .any base t v := hval
  obtain ⟨v0, vs0, d0, ds0, p0, q0, hargs, rfl, rfl, h0, r0⟩ := trodAll_cons hA
  obtain ⟨v1, vs1, d1, ds1, p1, q1, rfl, rfl, rfl, h1, r1⟩ := trodAll_cons r0
  obtain ⟨rfl, rfl, rfl⟩ := trodAll_nil r1
  obtain rfl : args = #[v0, v1] := by cases args; simp_all
  have hV' : DataW.TrodVars enc Tryd.prog W (fun _ => true) [] gs q := hV
  obtain ⟨rfl, rfl⟩ := trodVars_none hV'
  have hb : Rows.uptoBulkAll ([d0, d1] ++ []) ≤ 1048576 := of_decide_eq_true hk
  simp only [List.append_nil, Rows.uptoBulkAll] at hb
  obtain ⟨a0, q0, s0⟩ := arg_one (p := .int .i64) (N := 1048576) leaves (by kernel_rfl) (by kernel_rfl) (hval 0 3 v0 rfl rfl) h0 (by omega) (Nat.le_of_ble_eq_true rfl)
  obtain ⟨a1, q1, s1⟩ := arg_one (p := .int .i64) (N := 1048576) leaves (by kernel_rfl) (by kernel_rfl) (hval 1 3 v1 rfl rfl) h1 (by omega) (Nat.le_of_ble_eq_true rfl)
  have ra : RepL W [] cfg0 [.int .i64 a0, .int .i64 a1] #[v0, v1].toList := (.cons q0 (.cons q1 .nil))
  obtain ⟨hsays, hblocks⟩ := lay_met (W := W) hL
  refine (calls_true Tryd.func13 rfl rfl (law01_DecimalShort_S_ok Unit _ (specNo_ok _)) hsays hblocks ra ((run a0 a1).trans (decimalShort_true a0 a1 s0 s1 (fun q0 => kOk (.bool q0) [])))).mono fun e W' ⟨he, L⟩ => ⟨_, he, ?_⟩
  exact post_true (by kernel_rfl) (params_ok (by kernel_rfl)) rfl rfl rfl (show Tryd.prog.underlying 4 = some .bool by kernel_rfl) hW' L

theorem reads (os : Os) {H : Type} (enc : TypeId × Value → H) : (DataW.whole enc Tryd.prog ((laidWorld os).forCall (fun _ _ => 0) ⟨#[], #[.int .i64 0, .int .i64 0], []⟩).memory Tryd.f13.params.toList Rows.decimalShortSpec.vars false (#[.int .i64 0, .int .i64 0] : Array Value).toList 8).map (fun x => (x.1, x.2.1)) = some ([.lit (.int .i64 0), .lit (.int .i64 0)], []) := by kernel_rfl
theorem lifted (os : Os) (started : os.Started) (H : Type) (enc : TypeId × Value → H) (F : Stop.Interp) :
    ReturnsInHanded {} Tryd.checked os 13 .any ((Rows.OpenSpec.upto Rows.decimalShortSpec).preRow enc Tryd.prog Tryd.f13 Rows.decimalShortUptoRow.domain false Rows.decimalShortUptoRow.laid) (((Rows.OpenSpec.upto Rows.decimalShortSpec).at F).post enc Tryd.prog Tryd.f13 false true false false) := by
  obtain ⟨⟨x1, x2, x3⟩, hx, hx1⟩ := Option.map_eq_some_iff.1 (reads os enc)
  simp only [Prod.mk.injEq] at hx1
  obtain ⟨rfl, rfl⟩ := hx1
  refine returnsInHanded_of_row (C := Tryd.checked) (s := Rows.OpenSpec.upto Rows.decimalShortSpec) own started (by kernel_rfl) Tryd.func13
    (witness_row_atRef (enc := enc) (C := Tryd.checked) false (laidWorld os) #[.int .i64 0, .int .i64 0] rfl (by kernel_rfl) (by kernel_rfl) (by kernel_rfl)
      (OpenSpec.preRow_of_cond 8 hx (by kernel_rfl) (fun k hk => by cases hk; kernel_rfl) (by kernel_rfl) (laid_met os _))) ?_
  intro W base args ds gs before hval hW _ hcond _ hL _ _
  exact contract H enc W base args ds gs before hval hW hL (hcond _ rfl)

theorem saidUpto : Rows.DecimalShortUptoSaid :=
  OpenClaim.holds_of_cond 13 Tryd.f13 rfl rfl rfl rfl rfl rfl rfl ⟨rfl, rfl, rfl, rfl, rfl⟩ rfl rfl rfl rfl rfl (by kernel_rfl) Tryd.func13 (by kernel_rfl)
    (of_decide_eq_true (by kernel_rfl)) (by unfold Func.isWrapper; first | (rw [if_pos (by decide +kernel)]; kernel_rfl) | (rw [if_neg (by decide +kernel)]; exact ⟨rfl, rfl⟩))
    (fun os started H enc _ F => by rw [OpenClaim.pre_eq_preRow]; exact lifted os started H enc F)

theorem plain (f : FuncId) (fn : Func) (hf : Tryd.pinned.checked.prog.funcNamed "humpyard/humpyardlaw01.DecimalShort" = some f) (hfn : Tryd.pinned.checked.prog.funcs[f]? = some fn) :
    true = Tryd.pinned.checked.prog.looks [] ∧ ∀ (j : Nat) t, fn.params[j]? = some t → Tryd.pinned.checked.prog.wantsStandIn t = false := by
  obtain rfl : f = 13 := Option.some.inj ((show Tryd.prog.funcNamed "humpyard/humpyardlaw01.DecimalShort" = some 13 by kernel_rfl).symm.trans hf) |>.symm
  obtain rfl : fn = Tryd.f13 := (Option.some.inj (Tryd.func13.symm.trans hfn)).symm
  refine ⟨by kernel_rfl, fun j t ht => ?_⟩
  have hall : Tryd.f13.params.toList.all (fun t => !Tryd.prog.wantsStandIn t) = true := by kernel_rfl
  have hm : t ∈ Tryd.f13.params.toList := Array.mem_toList_iff.2 (Array.mem_of_getElem? ht)
  have := List.all_eq_true.1 hall t hm
  exact (show Tryd.prog.wantsStandIn t = false by simpa using this)
end Go.Proofs.YtifgegmnngfckaaDoor.decimalShort
namespace Go.Proofs.YtifgegmnngfckaaDoor
open Go.RowKit
/-- THE SECOND FORM's CARD. -/
theorem decimalShort_card_upto : Rows.DecimalShortUptoCardSaid :=
  Claim7.holds_tied_plain_at .later [] _ _ _ _ decimalShort.saidUpto (fun _ h => by cases h) (by kernel_rfl) (fun _ h => by cases h) decimalShortUpto_row_tie rfl ⟨rfl, rfl⟩ (by kernel_rfl) rfl decimalShort.plain (by kernel_rfl)
end Go.Proofs.YtifgegmnngfckaaDoor

