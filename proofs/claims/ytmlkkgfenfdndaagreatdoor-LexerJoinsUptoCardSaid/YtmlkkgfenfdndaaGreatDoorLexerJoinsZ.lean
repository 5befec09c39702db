/-
  LexerJoins: for every input whose bulk is at most 1048576 the law returns true, and each argument reads behind the call as it read before; part 9 of 9 of the proof: an interpreter of the model's code over typed data, proved sound; the functions that the law reaches, printed as Lean functions and tied; the plain law. Own texts laid one behind the other.
-/
import Derived.Test.YtmlkkgfenfdndaaGreatDoorLexerJoinsB8
set_option linter.unusedSimpArgs false
set_option linter.unnecessarySimpa false
set_option linter.unusedVariables false
set_option linter.unusedSectionVars false
set_option linter.unusedVariables false
set_option maxRecDepth 100000
namespace Go.Proofs.YtmlkkgfenfdndaaGreatDoor
open Go Go.Yard Go.Lib

abbrev isD (b : UInt8) : Bool := digS.contains b
theorem isD_ok (b : UInt8) : isD b = decide (48 ≤ b.toNat ∧ b.toNat ≤ 57) := digS_ok b
abbrev takeD (s : Str) : Str := s.takeWhile isD
abbrev dropD (s : Str) : Str := s.dropWhile isD

theorem take_dig (s : Str) : ∀ x ∈ takeD s, isDig x := fun x hx => by
  have h := List.all_takeWhile (l := s) (p := isD)
  have := List.all_eq_true.1 h x hx
  rw [isD_ok] at this
  exact of_decide_eq_true (p := 48 ≤ x.toNat ∧ x.toNat ≤ 57) this
theorem drop_dig (s : Str) : ∀ b t, dropD s = b :: t → ¬ isDig b := fun b t h hb => by
  have h2 : isD b = false := by
    have := List.head?_dropWhile_not isD s
    have e : s.dropWhile isD = b :: t := h
    rw [e] at this
    simpa using this
  rw [isD_ok, dtrue (p := 48 ≤ b.toNat ∧ b.toNat ≤ 57) hb] at h2
  cases h2
theorem take_le (s : Str) : (takeD s).length ≤ s.length := by
  have := congrArg List.length (List.takeWhile_append_dropWhile (p := isD) (l := s))
  rw [List.length_append] at this
  unfold takeD
  omega
theorem dropD_le (s : Str) : (dropD s).length ≤ s.length := drop_le _ _
theorem digits_any {R : Type} (s : Str) (hl : s.length ≤ 4000000000) (k : Str → Str → Option R) : decimal_reader_digits_abbd s k = k (takeD s) (dropD s) := by
  have e : takeD s ++ dropD s = s := List.takeWhile_append_dropWhile
  have h := digits_ok (R := R) (takeD s) (dropD s) (take_dig s) (drop_dig s) (by rw [e]; exact hl) k
  rw [e] at h
  exact h
theorem signP_le (g s : Str) : (signP g s).2.length ≤ s.length := by
  unfold signP
  cases s with
  | nil => simp
  | cons b t => simp only; split <;> simp

def valD : Str → Nat → Nat
  | [], v => v
  | b :: s, v => valD s (10 * v + (b.toNat - 48))
theorem valD_app : ∀ (a b : Str) (v : Nat), valD (a ++ b) v = valD b (valD a v)
  | [], _, _ => rfl
  | x :: a, b, v => valD_app a b _
theorem valD_ge : ∀ (s : Str) (v : Nat), v * 10 ^ s.length ≤ valD s v
  | [], v => by simp [valD]
  | b :: s, v => by
    have := valD_ge s (10 * v + (b.toNat - 48))
    have h2 : 10 * v * 10 ^ s.length ≤ (10 * v + (b.toNat - 48)) * 10 ^ s.length := Nat.mul_le_mul_right _ (by omega)
    have e : v * 10 ^ (b :: s).length = 10 * v * 10 ^ s.length := by rw [List.length_cons, Nat.pow_succ, Nat.mul_comm 10, Nat.mul_assoc, Nat.mul_comm 10]
    simp only [valD]
    omega
theorem valD_self (s : Str) (v : Nat) : v ≤ valD s v := Nat.le_trans (Nat.le_mul_of_pos_right _ (Nat.pos_of_ne_zero (by simp))) (valD_ge s v)
theorem valD_lt : ∀ (s : Str) (v : Nat), (∀ x ∈ s, isDig x) → valD s v < (v + 1) * 10 ^ s.length
  | [], v, _ => by simp [valD]
  | b :: s, v, h => by
    have hb := h b (by simp)
    unfold isDig at hb
    have := valD_lt s (10 * v + (b.toNat - 48)) fun x hx => h x (by simp [hx])
    have h2 : (10 * v + (b.toNat - 48) + 1) * 10 ^ s.length ≤ ((v + 1) * 10) * 10 ^ s.length := Nat.mul_le_mul_right _ (by omega)
    have e : (v + 1) * 10 ^ (b :: s).length = ((v + 1) * 10) * 10 ^ s.length := by rw [List.length_cons, Nat.pow_succ, Nat.mul_assoc, Nat.mul_comm 10]
    simp only [valD]
    omega

theorem uint_dig : ∀ (D : Str) (acc : Nat), (∀ x ∈ D, isDig x) →
    (valD D acc < 18446744073709551616 → parseUint10 acc D = .ok (valD D acc)) ∧ (acc < 18446744073709551616 → 18446744073709551616 ≤ valD D acc → parseUint10 acc D = .range)
  | [], acc, _ => ⟨fun _ => rfl, fun h1 h2 => by simp only [valD] at h2; omega⟩
  | b :: D, acc, h => by
    have hb := h b (by simp)
    unfold isDig at hb
    obtain ⟨i1, i2⟩ := uint_dig D (10 * acc + (b.toNat - 48)) fun x hx => h x (by simp [hx])
    have hs := valD_self D (10 * acc + (b.toNat - 48))
    have e : acc * 10 + (b.toNat - 48) = 10 * acc + (b.toNat - 48) := by omega
    simp only [valD, parseUint10]
    rw [if_pos hb, e]
    refine ⟨fun h1 => ?_, fun h1 h2 => ?_⟩
    · rw [if_neg (by omega), if_neg (by omega)]
      exact i1 h1
    · by_cases g1 : 1844674407370955162 ≤ acc
      · rw [if_pos g1]
      · rw [if_neg g1]
        by_cases g2 : 18446744073709551616 ≤ 10 * acc + (b.toNat - 48)
        · rw [if_pos g2]
        · rw [if_neg g2]
          exact i2 (by omega) h2

theorem atoi_dig (D : Str) (hD : ∀ x ∈ D, isDig x) (h0 : D ≠ []) :
    (valD D 0 < 9223372036854775808 → atoiAll D = .ok (valD D 0 : Int)) ∧ (9223372036854775808 ≤ valD D 0 → atoiAll D = .range) := by
  obtain ⟨i1, i2⟩ := uint_dig D 0 hD
  cases D with
  | nil => exact (h0 rfl).elim
  | cons b D =>
    have hb := hD b (by simp)
    unfold isDig at hb
    have e : (if b.toNat = 43 ∨ b.toNat = 45 then D else b :: D) = b :: D := if_neg (by omega)
    have m : parseMag (b :: D) = parseUint10 0 (b :: D) := by unfold parseMag; rw [if_neg (by simp)]
    unfold atoiAll
    simp only
    rw [e, m]
    refine ⟨fun h => ?_, fun h => ?_⟩
    · rw [i1 (by omega)]
      simp only
      rw [if_neg (by omega), if_neg (fun h2 => absurd h2.1 (by omega)), if_neg (by omega)]
    · by_cases h2 : valD (b :: D) 0 < 18446744073709551616
      · rw [i1 h2]
        simp only
        rw [if_pos ⟨by omega, h⟩]
      · rw [i2 (by omega) (by omega)]

def expP (X : Str) : Int × Bool × Str :=
  let q := signP [43, 45] X
  let v : Int := min (valD (takeD q.2) 0 : Int) 1000000
  (if q.1 = 45 then -v else v, !(takeD q.2 == []), dropD q.2)

theorem exp_any {R : Type} (X : Str) (hl : X.length ≤ 4000000000) (k : Int → Bool → Str → Option R) : decimal_reader_exponent_abbd X k = k (expP X).1 (expP X).2.1 (expP X).2.2 := by
  have e : decimal_reader_exponent_abbd X k = decimal_reader_exponent_abbd_X decimal_reader_sign_e74a decimal_reader_digits_abbd X k := rfl
  rw [e]
  unfold decimal_reader_exponent_abbd_X
  have h1 := signP_le [43, 45] X
  rw [sign_ok _ _ hl]
  unfold expP
  simp only
  generalize signP [43, 45] X = q at *
  rw [digits_any _ (by omega)]
  have h2 := take_le q.2
  have hD := take_dig q.2
  generalize takeD q.2 = D at *
  generalize dropD q.2 = r at *
  have q45 : ((q.1 : Int) == 45) = decide (q.1 = 45) := eqI _ 45
  rw [chk_pos (dtrue (by omega)), q45]
  by_cases h0 : D = []
  · subst h0
    have a1 : atoiOk [] = false := rfl
    have a2 : atoiVal [] = 0 := rfl
    rw [a1, a2]
    simp only [cond_false, valD]
    by_cases hq : q.1 = 45
    · rw [dtrue hq, if_pos hq]; rfl
    · rw [dfalse hq, if_neg hq]; rfl
  · have hne : (D == ([] : Str)) = false := by rw [beq_eq_false_iff_ne]; exact h0
    obtain ⟨i1, i2⟩ := atoi_dig D hD h0
    rw [hne]
    simp only [Bool.not_false, cond_true]
    by_cases hv : valD D 0 < 9223372036854775808
    · have a1 : atoiOk D = true := by unfold atoiOk; rw [i1 hv]
      have a2 : atoiVal D = (valD D 0 : Int) := by unfold atoiVal; rw [i1 hv]
      rw [a1, a2, cond_true]
      by_cases hb : (valD D 0 : Int) > 1000000
      · rw [dtrue hb, cond_true, Int.min_eq_right (by omega)]
        by_cases hq : q.1 = 45
        · rw [dtrue hq, if_pos hq]; rfl
        · rw [dfalse hq, if_neg hq]; rfl
      · rw [dfalse hb, cond_false, Int.min_eq_left (by omega), wrap_id (by omega) (by omega)]
        by_cases hq : q.1 = 45
        · rw [dtrue hq, if_pos hq, cond_true]; congr 1; omega
        · rw [dfalse hq, if_neg hq, cond_false]
    · have a1 : atoiOk D = false := by unfold atoiOk; rw [i2 (by omega)]
      rw [a1, cond_false, Int.min_eq_right (by omega)]
      by_cases hq : q.1 = 45
      · rw [dtrue hq, if_pos hq]; rfl
      · rw [dfalse hq, if_neg hq]; rfl

theorem trimL_head (a : Str) : ∀ b t, trimL a [48] = b :: t → b ≠ 48 := fun b t h hb => by
  have h2 := List.head?_dropWhile_not (([48] : Str).contains ·) a
  have e : a.dropWhile (([48] : Str).contains ·) = b :: t := h
  rw [e] at h2
  subst hb
  exact absurd (show (([48] : Str).contains 48) = false from h2) (by decide)
theorem trimL_sub (a : Str) : ∀ x ∈ trimL a [48], x ∈ a := fun x hx => (List.dropWhile_sublist _).subset hx
theorem trimR_cases (a : Str) : trimR a [48] = [] ∨ ∃ l b, trimR a [48] = l ++ [b] ∧ b ≠ 48 := by
  unfold trimR
  have h2 := List.head?_dropWhile_not (([48] : Str).contains ·) a.reverse
  cases h : a.reverse.dropWhile (([48] : Str).contains ·) with
  | nil => exact .inl rfl
  | cons b t =>
    rw [h] at h2
    refine .inr ⟨t.reverse, b, by simp, fun hb => ?_⟩
    subst hb
    exact absurd (show (([48] : Str).contains 48) = false from h2) (by decide)
theorem trimR_pre (a : Str) : ∃ n, a = trimR a [48] ++ zeros n := by
  have h := List.takeWhile_append_dropWhile (p := (([48] : Str).contains ·)) (l := a.reverse)
  have h2 := congrArg List.reverse h
  rw [List.reverse_append, List.reverse_reverse] at h2
  refine ⟨(a.reverse.takeWhile (([48] : Str).contains ·)).length, ?_⟩
  have hz : (a.reverse.takeWhile (([48] : Str).contains ·)).reverse = zeros (a.reverse.takeWhile (([48] : Str).contains ·)).length := by
    unfold zeros
    rw [List.eq_replicate_iff]
    refine ⟨List.length_reverse, fun x hx => ?_⟩
    have h3 := List.all_takeWhile (l := a.reverse) (p := (([48] : Str).contains ·))
    have := List.all_eq_true.1 h3 x (List.mem_reverse.1 hx)
    simpa using this
  rw [← hz]
  exact h2.symm

def finD (neg : Bool) (all : Str) (x : Int) : Dcm × Bool :=
  if trimR (trimL all [48]) [48] = [] then (⟨0, 0⟩, true)
  else mkD (if neg then -(valD (trimR (trimL all [48]) [48]) 0 : Int) else (valD (trimR (trimL all [48]) [48]) 0 : Int)) (x + (((trimL all [48]).length : Int) - ((trimR (trimL all [48]) [48]).length : Int)))

theorem make_min {R : Type} (m x : Int) (k : Dcm → Bool → Option R) : decimal_Make m x k = decimal_Make m (min x 1000000) k := by
  have e : ∀ x, decimal_Make m x k = decimal_Make_X decimal_within_int decimal_Make_4_0_L m x k := fun _ => rfl
  rw [e, e]
  unfold decimal_Make_X
  have : min (min x 1000000) 1000000 = min x 1000000 := by omega
  rw [this]
theorem mkD_min (u x : Int) : mkD u (min x 1000000) = mkD u x := by
  unfold mkD
  by_cases h : x ≤ 1000000
  · rw [Int.min_eq_left h]
  · rw [if_neg (by omega), if_neg (by omega)]
theorem make_unit {R : Type} (u x : Int) (hu : Int.tmod u 10 ≠ 0) (hb : I64 u) (hx : -9223372036854775808 ≤ x) (k : Dcm → Bool → Option R) : decimal_Make u x k = k (mkD u x).1 (mkD u x).2 := by
  rw [make_min, ← mkD_min u x]
  have := make_ok (R := R) u 0 (min x 1000000) hu (by simpa using hb) (by omega) (by omega) k
  simpa using this

theorem short_facts (all : Str) (h : ∀ x ∈ all, isDig x) (h0 : trimR (trimL all [48]) [48] ≠ []) :
    (∀ x ∈ trimR (trimL all [48]) [48], isDig x) ∧ valD (trimR (trimL all [48]) [48]) 0 % 10 ≠ 0 ∧ 10 ^ ((trimR (trimL all [48]) [48]).length - 1) ≤ valD (trimR (trimL all [48]) [48]) 0 := by
  obtain ⟨n, hn⟩ := trimR_pre (trimL all [48])
  have hd : ∀ x ∈ trimR (trimL all [48]) [48], isDig x := fun x hx => h x (trimL_sub _ _ (by rw [hn]; simp [hx]))
  refine ⟨hd, ?_, ?_⟩
  · rcases trimR_cases (trimL all [48]) with e | ⟨l, b, e, hb⟩
    · exact (h0 e).elim
    · have hbd := hd b (by rw [e]; simp)
      rw [e, valD_app]
      simp only [valD]
      unfold isDig at hbd
      have : b.toNat ≠ 48 := fun h => hb (UInt8.toNat_inj.1 h)
      omega
  · cases e : trimR (trimL all [48]) [48] with
    | nil => exact (h0 e).elim
    | cons b t =>
      have hb : b ≠ 48 := trimL_head all b (t ++ zeros n) (by rw [hn, e]; rfl)
      have hbd := hd b (by rw [e]; simp)
      unfold isDig at hbd
      have h48 : b.toNat ≠ 48 := fun h => hb (UInt8.toNat_inj.1 h)
      have := valD_ge t (10 * 0 + (b.toNat - 48))
      have h2 : 1 * 10 ^ t.length ≤ (10 * 0 + (b.toNat - 48)) * 10 ^ t.length := Nat.mul_le_mul_right _ (by omega)
      simp only [valD, List.length_cons, Nat.add_sub_cancel]
      omega

theorem mkD_far {u : Int} (x : Int) (h : 1000000000000000 < u.natAbs) : mkD u x = (⟨0, 0⟩, false) := by
  unfold mkD
  rw [if_neg (by omega)]

theorem fin_ok {R : Type} (y2 : Int) (z11 : Str) (z19 : Int) (z20 : Str) (h : ∀ x ∈ z11, isDig x) (hl : z11.length ≤ 1000) (hx : -2000000 ≤ z19 ∧ z19 ≤ 2000000) (k0 : Dcm → Bool → Option R) :
    (chk (isAsc ([48] : Str) && decide (([48] : Str).length < 4294967281)) (chk (isAsc ([48] : Str) && decide (([48] : Str).length < 4294967281)) (bif (!(z20 == ([] : Str))) then (k0 (⟨0, 0⟩ : Dcm) false) else (bif (decide (((trimR (trimL z11 ([48] : Str)) ([48] : Str)).length : Int) > (18 : Int))) then (k0 (⟨0, 0⟩ : Dcm) false) else (chk (decide (1 + (trimR (trimL z11 ([48] : Str)) ([48] : Str)).length ≤ 9223372036854775807)) (chk (decide ((([48] : Str) ++ (trimR (trimL z11 ([48] : Str)) ([48] : Str))).length ≤ 281474976710656)) (bif atoiOk (([48] : Str) ++ (trimR (trimL z11 ([48] : Str)) ([48] : Str))) then (bif (y2 != 0) then (decimal_Make (IntKind.i64.wrap (0 - (atoiVal (([48] : Str) ++ (trimR (trimL z11 ([48] : Str)) ([48] : Str)))))) (IntKind.i64.wrap (z19 + (IntKind.i64.wrap (((trimL z11 ([48] : Str)).length : Int) - ((trimR (trimL z11 ([48] : Str)) ([48] : Str)).length : Int))))) (fun y25 y26 => k0 y25 y26)) else (decimal_Make (atoiVal (([48] : Str) ++ (trimR (trimL z11 ([48] : Str)) ([48] : Str)))) (IntKind.i64.wrap (z19 + (IntKind.i64.wrap (((trimL z11 ([48] : Str)).length : Int) - ((trimR (trimL z11 ([48] : Str)) ([48] : Str)).length : Int))))) (fun y27 y28 => k0 y27 y28))) else (bif (y2 != 0) then (decimal_Make (IntKind.i64.wrap (0 - (atoiVal (([48] : Str) ++ (trimR (trimL z11 ([48] : Str)) ([48] : Str)))))) (IntKind.i64.wrap (z19 + (IntKind.i64.wrap (((trimL z11 ([48] : Str)).length : Int) - ((trimR (trimL z11 ([48] : Str)) ([48] : Str)).length : Int))))) (fun y25 y26 => k0 y25 y26)) else (decimal_Make (atoiVal (([48] : Str) ++ (trimR (trimL z11 ([48] : Str)) ([48] : Str)))) (IntKind.i64.wrap (z19 + (IntKind.i64.wrap (((trimL z11 ([48] : Str)).length : Int) - ((trimR (trimL z11 ([48] : Str)) ([48] : Str)).length : Int))))) (fun y27 y28 => k0 y27 y28)))))))))) =
    if z20 = [] then k0 (finD (y2 != 0) z11 z19).1 (finD (y2 != 0) z11 z19).2 else k0 ⟨0, 0⟩ false := by
  have q3 : (isAsc ([48] : Str) && decide (([48] : Str).length < 4294967281)) = true := rfl
  have htl : (trimL z11 [48]).length ≤ z11.length := drop_le _ _
  obtain ⟨n, hn⟩ := trimR_pre (trimL z11 [48])
  have htr : (trimL z11 [48]).length = (trimR (trimL z11 [48]) [48]).length + n := by have := congrArg List.length hn; rw [List.length_append, zeros_len] at this; exact this
  rw [q3, chk_pos rfl, chk_pos rfl]
  by_cases hz : z20 = []
  · subst hz
    have hbe : ((([] : Str) == ([] : Str))) = true := rfl
    rw [hbe, if_pos rfl]
    simp only [Bool.not_true, cond_false]
    have w0 : IntKind.i64.wrap (((trimL z11 [48]).length : Int) - ((trimR (trimL z11 [48]) [48]).length : Int)) = ((trimL z11 [48]).length : Int) - ((trimR (trimL z11 [48]) [48]).length : Int) := wrap_id (by omega) (by omega)
    have w1 : IntKind.i64.wrap (z19 + (((trimL z11 [48]).length : Int) - ((trimR (trimL z11 [48]) [48]).length : Int))) = z19 + (((trimL z11 [48]).length : Int) - ((trimR (trimL z11 [48]) [48]).length : Int)) := wrap_id (by omega) (by omega)
    rw [w0, w1, chk_pos (dtrue (by omega)), chk_pos (dtrue (by simp only [List.length_append, List.length_cons, List.length_nil]; omega)), Bool.cond_self]
    unfold finD
    have hc : (([48] : Str) ++ (trimR (trimL z11 ([48] : Str)) ([48] : Str))) = 48 :: trimR (trimL z11 [48]) [48] := rfl
    rw [hc]
    by_cases h0 : trimR (trimL z11 [48]) [48] = []
    · rw [h0, if_pos rfl]
      have a0 : atoiVal (48 :: ([] : Str)) = 0 := by decide +kernel
      have a1 : decide (((([] : Str)).length : Int) > 18) = false := rfl
      have a2 : IntKind.i64.wrap (0 - 0) = 0 := by decide
      rw [a0, a1, cond_false, a2, make_zero, Bool.cond_self]
    · rw [if_neg h0]
      obtain ⟨f1, f2, f3⟩ := short_facts z11 h h0
      have hX : -3000000 ≤ z19 + (((trimL z11 [48]).length : Int) - ((trimR (trimL z11 [48]) [48]).length : Int)) := by omega
      generalize trimR (trimL z11 [48]) [48] = sh at *
      generalize (z19 + (((trimL z11 [48]).length : Int) - (sh.length : Int))) = X at *
      have hpos : 1 ≤ sh.length := by cases sh with | nil => exact (h0 rfl).elim | cons _ _ => simp
      by_cases h18 : sh.length ≤ 18
      · rw [dfalse (show ¬ (sh.length : Int) > 18 by omega), cond_false]
        have hlt := valD_lt sh 0 f1
        have hp : (10 : Nat) ^ sh.length ≤ 10 ^ 18 := Nat.pow_le_pow_right (by omega) h18
        have e18 : (10 : Nat) ^ 18 = 1000000000000000000 := rfl
        have v48 : valD (48 :: sh) 0 = valD sh 0 := rfl
        have ha : atoiVal (48 :: sh) = (valD sh 0 : Int) := by
          obtain ⟨i1, _⟩ := atoi_dig (48 :: sh) (fun x hx => by rcases List.mem_cons.1 hx with rfl | hx; (unfold isDig; decide); exact f1 x hx) (by simp)
          unfold atoiVal
          rw [i1 (by rw [v48]; omega), v48]
        rw [ha]
        have hm : Int.tmod (valD sh 0 : Int) 10 ≠ 0 := by rw [Int.tmod_eq_emod_of_nonneg (by omega)]; omega
        cases hy : (y2 != 0) with
        | true =>
          rw [cond_true, if_pos rfl, wrap_id (by omega) (by omega)]
          have e0 : (0 - (valD sh 0 : Int)) = -(valD sh 0 : Int) := by omega
          rw [e0]
          exact make_unit _ _ (tmod_neg hm) (by unfold I64; omega) (by omega) _
        | false =>
          rw [cond_false, if_neg (by simp)]
          exact make_unit _ _ hm (by unfold I64; omega) (by omega) _
      · rw [dtrue (show (sh.length : Int) > 18 by omega), cond_true]
        have hp : (10 : Nat) ^ 18 ≤ 10 ^ (sh.length - 1) := Nat.pow_le_pow_right (by omega) (by omega)
        have e18 : (10 : Nat) ^ 18 = 1000000000000000000 := rfl
        rw [mkD_far _ (by split <;> omega)]
  · have hbe : (z20 == ([] : Str)) = false := by rw [beq_eq_false_iff_ne]; exact hz
    rw [hbe, if_neg hz]
    rfl

def noD : Dcm × Bool := (⟨0, 0⟩, false)
def tailD (neg : Bool) (all : Str) (x : Int) (X : Str) : Dcm × Bool :=
  if (signP [101, 69] X).1 = 0 then (if (signP [101, 69] X).2 = [] then finD neg all x else noD)
  else if (expP (signP [101, 69] X).2).2.1 = false then noD
  else if (expP (signP [101, 69] X).2).2.2 = [] then finD neg all (x + (expP (signP [101, 69] X).2).1) else noD

def parseS (s : Str) : Dcm × Bool :=
  let q := signP [45] s
  let I := takeD q.2
  let r := dropD q.2
  if 400 < s.length then noD else if I = [] then noD else if 1 < I.length ∧ (I.getD 0 0).toNat = 48 then noD
  else if (signP [46] r).1 = 0 then tailD (q.1 != 0) I 0 (signP [46] r).2
  else if takeD (signP [46] r).2 = [] then noD
  else tailD (q.1 != 0) (I ++ takeD (signP [46] r).2) (-((takeD (signP [46] r).2).length : Int)) (dropD (signP [46] r).2)

theorem expP_lim (X : Str) : -1000000 ≤ (expP X).1 ∧ (expP X).1 ≤ 1000000 := by
  unfold expP
  simp only
  split <;> omega

theorem neN (n : Nat) : (((n : Nat) : Int) != 0) = (n != 0) := by
  cases n with
  | zero => rfl
  | succ n => rw [bne_iff_ne.2 (by omega), bne_iff_ne.2 (by omega)]

theorem tailD_ok {R : Type} (q : Nat) (all : Str) (x : Int) (X : Str) (ha : ∀ c ∈ all, isDig c) (hl : all.length ≤ 900) (h1 : -1000 ≤ x) (h2 : x ≤ 0) (hX : X.length ≤ 1000) (k : Dcm → Bool → Option R) :
    decimal_reader_sign_e74a ([101, 69] : Str) X (fun y14 y15 => bif (y14 != 0) then (decimal_reader_exponent_abbd y15 (fun y16 y17 y18 => bif (!y17) then (k (⟨0, 0⟩ : Dcm) false) else (chk (isAsc ([48] : Str) && decide (([48] : Str).length < 4294967281)) (chk (isAsc ([48] : Str) && decide (([48] : Str).length < 4294967281)) (bif (!(y18 == ([] : Str))) then (k (⟨0, 0⟩ : Dcm) false) else (bif (decide (((trimR (trimL all ([48] : Str)) ([48] : Str)).length : Int) > (18 : Int))) then (k (⟨0, 0⟩ : Dcm) false) else (chk (decide (1 + (trimR (trimL all ([48] : Str)) ([48] : Str)).length ≤ 9223372036854775807)) (chk (decide ((([48] : Str) ++ (trimR (trimL all ([48] : Str)) ([48] : Str))).length ≤ 281474976710656)) (bif atoiOk (([48] : Str) ++ (trimR (trimL all ([48] : Str)) ([48] : Str))) then (bif ((q : Int) != 0) then (decimal_Make (IntKind.i64.wrap (0 - (atoiVal (([48] : Str) ++ (trimR (trimL all ([48] : Str)) ([48] : Str)))))) (IntKind.i64.wrap ((IntKind.i64.wrap (x + y16)) + (IntKind.i64.wrap (((trimL all ([48] : Str)).length : Int) - ((trimR (trimL all ([48] : Str)) ([48] : Str)).length : Int))))) (fun y25 y26 => k y25 y26)) else (decimal_Make (atoiVal (([48] : Str) ++ (trimR (trimL all ([48] : Str)) ([48] : Str)))) (IntKind.i64.wrap ((IntKind.i64.wrap (x + y16)) + (IntKind.i64.wrap (((trimL all ([48] : Str)).length : Int) - ((trimR (trimL all ([48] : Str)) ([48] : Str)).length : Int))))) (fun y27 y28 => k y27 y28))) else (bif ((q : Int) != 0) then (decimal_Make (IntKind.i64.wrap (0 - (atoiVal (([48] : Str) ++ (trimR (trimL all ([48] : Str)) ([48] : Str)))))) (IntKind.i64.wrap ((IntKind.i64.wrap (x + y16)) + (IntKind.i64.wrap (((trimL all ([48] : Str)).length : Int) - ((trimR (trimL all ([48] : Str)) ([48] : Str)).length : Int))))) (fun y25 y26 => k y25 y26)) else (decimal_Make (atoiVal (([48] : Str) ++ (trimR (trimL all ([48] : Str)) ([48] : Str)))) (IntKind.i64.wrap ((IntKind.i64.wrap (x + y16)) + (IntKind.i64.wrap (((trimL all ([48] : Str)).length : Int) - ((trimR (trimL all ([48] : Str)) ([48] : Str)).length : Int))))) (fun y27 y28 => k y27 y28)))))))))))) else (chk (isAsc ([48] : Str) && decide (([48] : Str).length < 4294967281)) (chk (isAsc ([48] : Str) && decide (([48] : Str).length < 4294967281)) (bif (!(y15 == ([] : Str))) then (k (⟨0, 0⟩ : Dcm) false) else (bif (decide (((trimR (trimL all ([48] : Str)) ([48] : Str)).length : Int) > (18 : Int))) then (k (⟨0, 0⟩ : Dcm) false) else (chk (decide (1 + (trimR (trimL all ([48] : Str)) ([48] : Str)).length ≤ 9223372036854775807)) (chk (decide ((([48] : Str) ++ (trimR (trimL all ([48] : Str)) ([48] : Str))).length ≤ 281474976710656)) (bif atoiOk (([48] : Str) ++ (trimR (trimL all ([48] : Str)) ([48] : Str))) then (bif ((q : Int) != 0) then (decimal_Make (IntKind.i64.wrap (0 - (atoiVal (([48] : Str) ++ (trimR (trimL all ([48] : Str)) ([48] : Str)))))) (IntKind.i64.wrap (x + (IntKind.i64.wrap (((trimL all ([48] : Str)).length : Int) - ((trimR (trimL all ([48] : Str)) ([48] : Str)).length : Int))))) (fun y25 y26 => k y25 y26)) else (decimal_Make (atoiVal (([48] : Str) ++ (trimR (trimL all ([48] : Str)) ([48] : Str)))) (IntKind.i64.wrap (x + (IntKind.i64.wrap (((trimL all ([48] : Str)).length : Int) - ((trimR (trimL all ([48] : Str)) ([48] : Str)).length : Int))))) (fun y27 y28 => k y27 y28))) else (bif ((q : Int) != 0) then (decimal_Make (IntKind.i64.wrap (0 - (atoiVal (([48] : Str) ++ (trimR (trimL all ([48] : Str)) ([48] : Str)))))) (IntKind.i64.wrap (x + (IntKind.i64.wrap (((trimL all ([48] : Str)).length : Int) - ((trimR (trimL all ([48] : Str)) ([48] : Str)).length : Int))))) (fun y25 y26 => k y25 y26)) else (decimal_Make (atoiVal (([48] : Str) ++ (trimR (trimL all ([48] : Str)) ([48] : Str)))) (IntKind.i64.wrap (x + (IntKind.i64.wrap (((trimL all ([48] : Str)).length : Int) - ((trimR (trimL all ([48] : Str)) ([48] : Str)).length : Int))))) (fun y27 y28 => k y27 y28))))))))))) = k (tailD (q != 0) all x X).1 (tailD (q != 0) all x X).2 := by
  rw [sign_ok _ _ (by omega)]
  unfold tailD
  have l5 := signP_le [101, 69] X
  generalize signP [101, 69] X = g at *
  rw [neN]
  by_cases hg : g.1 = 0
  · rw [if_pos hg, hg]
    simp only [bne_self_eq_false, cond_false]
    rw [fin_ok _ _ _ _ ha (by omega) (by omega), neN]
    split <;> rfl
  · rw [if_neg hg, bne_iff_ne.2 hg, cond_true, exp_any _ (by omega)]
    have hlim := expP_lim g.2
    generalize expP g.2 = z at *
    rw [wrap_id (n := x + z.1) (by omega) (by omega)]
    cases hz : z.2.1 with
    | false => rfl
    | true =>
      rw [Bool.not_true, cond_false, fin_ok _ _ _ _ ha (by omega) (by omega), neN, if_neg (show ¬ (true = false) by simp)]
      split <;> rfl

theorem parse_any {R : Type} (s : Str) (hs : s.length ≤ 4000000000) (k : Dcm → Bool → Option R) : decimal_Parse s k = k (parseS s).1 (parseS s).2 := by
  have e : decimal_Parse s k = decimal_Parse_X decimal_Make decimal_reader_sign_e74a decimal_reader_digits_abbd decimal_reader_exponent_abbd s k := rfl
  rw [e]
  unfold decimal_Parse_X
  have l1 := signP_le [45] s
  rw [sign_ok _ _ hs]
  unfold parseS
  simp only
  generalize signP [45] s = q at *
  rw [digits_any _ (by omega)]
  have l2 := take_le q.2
  have l3 := dropD_le q.2
  have dI := take_dig q.2
  generalize takeD q.2 = I at *
  generalize dropD q.2 = r at *
  by_cases h400 : 400 < s.length
  · rw [dtrue (show (s.length : Int) > 400 by omega), cond_true, if_pos h400]
    rfl
  rw [dfalse (show ¬ (s.length : Int) > 400 by omega), cond_false, if_neg h400]
  by_cases hI : I = []
  · subst hI
    rw [if_pos rfl]
    rfl
  have hne : (I == ([] : Str)) = false := by rw [beq_eq_false_iff_ne]; exact hI
  rw [hne, cond_false, if_neg hI]
  have hpos : 1 ≤ I.length := by cases I with | nil => exact (hI rfl).elim | cons _ _ => simp
  have q48 : (((I.getD 0 0).toNat : Int) == 48) = decide ((I.getD 0 0).toNat = 48) := eqI _ 48
  rw [chk_pos (dtrue (show (0 : Int) < I.length by omega)), q48]
  by_cases h48 : 1 < I.length ∧ (I.getD 0 0).toNat = 48
  · rw [if_pos h48, dtrue (show (I.length : Int) > 1 by omega), dtrue h48.2]
    rfl
  rw [if_neg h48]
  have cut : ∀ x : Option R, (bif decide ((I.length : Int) > 1) then (bif decide ((I.getD 0 0).toNat = 48) then k ⟨0, 0⟩ false else x) else x) = x := fun x => by
    by_cases h1 : 1 < I.length
    · rw [dtrue (show (I.length : Int) > 1 by omega), dfalse (fun h => h48 ⟨h1, h⟩)]; rfl
    · rw [dfalse (show ¬ (I.length : Int) > 1 by omega)]; rfl
  rw [cut]
  rw [sign_ok _ _ (by omega)]
  have l4 := signP_le [46] r
  generalize signP [46] r = p at *
  rw [neN]
  by_cases hp : p.1 = 0
  · rw [if_pos hp, hp]
    simp only [bne_self_eq_false, cond_false]
    exact tailD_ok q.1 I 0 p.2 dI (by omega) (by omega) (by omega) (by omega) k
  · rw [if_neg hp, bne_iff_ne.2 hp, cond_true, digits_any _ (by omega)]
    have l5 := take_le p.2
    have l6 := dropD_le p.2
    have dF := take_dig p.2
    generalize takeD p.2 = F at *
    generalize dropD p.2 = Y at *
    by_cases hF : F = []
    · subst hF
      rw [if_pos rfl]
      rfl
    have hne : (F == ([] : Str)) = false := by rw [beq_eq_false_iff_ne]; exact hF
    rw [hne, cond_false, if_neg hF, chk_pos (dtrue (by omega)), wrap_id (n := 0 - (F.length : Int)) (by omega) (by omega)]
    have e0 : (0 : Int) - (F.length : Int) = -(F.length : Int) := by omega
    rw [e0]
    exact tailD_ok q.1 (I ++ F) (-(F.length : Int)) Y (fun c hc => (List.mem_append.1 hc).elim (dI c) (dF c)) (by rw [List.length_append]; omega) (by omega) (by omega) (by omega) k
end Go.Proofs.YtmlkkgfenfdndaaGreatDoor

set_option linter.unusedVariables false
set_option maxRecDepth 100000
namespace Go.Proofs.YtmlkkgfenfdndaaGreatDoor
open Go Go.Yard Go.Lib

theorem longP_sfx {s r : Str} {c : Nat} (h : longP s = some (c, r)) : r <:+ s := by
  unfold longP at h
  split at h
  · cases h
  · rename_i v r1 hu
    obtain ⟨_, _, hr⟩ := unitP_lt hu
    have s1 : r1 <:+ s := by rw [hr]; exact List.drop_suffix _ _
    split at h
    · cases h; exact s1
    · split at h
      · cases h
      · split at h
        · split at h
          · cases h
          · rename_i w r2 hu2
            obtain ⟨_, _, hr2⟩ := unitP_lt hu2
            split at h
            · simp only [Option.some.injEq, Prod.mk.injEq] at h
              obtain ⟨_, rfl⟩ := h
              rw [hr2]
              exact ((List.drop_suffix _ _).trans (List.drop_suffix _ _)).trans s1
            · cases h
        · cases h
theorem escP_sfx {s r : Str} {c : Nat} (h : escP s = some (c, r)) : r <:+ s := by
  cases s with
  | nil => cases h
  | cons b t =>
    have st : t <:+ b :: t := List.suffix_cons b t
    simp only [escP] at h
    split at h
    · cases h; exact st
    split at h
    · cases h; exact st
    split at h
    · cases h; exact st
    split at h
    · cases h; exact st
    split at h
    · cases h; exact st
    split at h
    · cases h; exact st
    split at h
    · exact (longP_sfx h).trans st
    · cases h
theorem plainP_sfx {s r : Str} {c : Nat} (h : plainP s = some (c, r)) : r <:+ s := by
  unfold plainP at h
  split at h
  · cases h
  split at h
  · cases h
  split at h
  · cases h
  simp only [Option.some.injEq, Prod.mk.injEq] at h
  rw [← h.2]
  exact List.drop_suffix _ _
theorem stepU_sfx {s r : Str} {c : Nat} (h : stepU s = some (c, r)) : r <:+ s := by
  unfold stepU at h
  split at h
  · exact (escP_sfx h).trans (List.drop_suffix _ _)
  · exact plainP_sfx h
theorem uq_sfx : ∀ (n : Nat) (s o o' r : Str), uq n s o = some (o', r) → r <:+ s ∧ r.length < s.length ∧ ∃ rs : List Nat, (∀ c ∈ rs, vr c) ∧ o' = o ++ encL rs
  | 0, _, _, _, _, h => by cases h
  | n + 1, s, o, o', r, h => by
    simp only [uq] at h
    split at h
    · rename_i h34
      simp only [Option.some.injEq, Prod.mk.injEq] at h
      obtain ⟨rfl, rfl⟩ := h
      refine ⟨List.drop_suffix _ _, ?_, [], by simp, by simp [encL]⟩
      cases s with
      | nil => cases h34
      | cons b t => simp
    · split at h
      · cases h
      · rename_i c r1 hs
        obtain ⟨h1, h2, rs, h3, h4⟩ := uq_sfx n r1 (o ++ enc c) o' r h
        obtain ⟨hv, hl⟩ := stepU_ok hs
        refine ⟨h1.trans (stepU_sfx hs), by omega, c :: rs, fun x hx => ?_, ?_⟩
        · rcases List.mem_cons.1 hx with rfl | hx
          · exact hv
          · exact h3 x hx
        · rw [h4]; simp [encL]
theorem uqS_sfx {s o r : Str} (h : uqS s = some (o, r)) : r <:+ s ∧ r.length + 1 < s.length ∧ ∃ rs : List Nat, (∀ c ∈ rs, vr c) ∧ o = encL rs := by
  unfold uqS at h
  split at h
  · rename_i h34
    obtain ⟨h1, h2, rs, h3, h4⟩ := uq_sfx _ _ _ _ _ h
    refine ⟨h1.trans (List.drop_suffix _ _), ?_, rs, h3, by simpa using h4⟩
    rw [List.length_drop] at h2
    omega
  · cases h
theorem sfx_drop {s r : Str} (h : r <:+ s) : r = s.drop (s.length - r.length) := by
  obtain ⟨t, rfl⟩ := h
  rw [List.length_append, Nat.add_sub_cancel, List.drop_left]

def numS : Str := [48, 49, 50, 51, 52, 53, 54, 55, 56, 57, 43, 45, 46, 101, 69]
def letS : Str := [97, 98, 99, 100, 101, 102, 103, 104, 105, 106, 107, 108, 109, 110, 111, 112, 113, 114, 115, 116, 117, 118, 119, 120, 121, 122]
def blaS : Str := [32, 9, 10, 13]
def sigS : Str := [123, 125, 91, 93, 44, 58]
def numB (b : UInt8) : Bool := numS.contains b
def letB (b : UInt8) : Bool := letS.contains b
def blaB (b : UInt8) : Bool := blaS.contains b
def sigB (b : UInt8) : Bool := sigS.contains b
def trueS : Str := [116, 114, 117, 101]
def falseS : Str := [102, 97, 108, 115, 101]
def nullS : Str := [110, 117, 108, 108]

def tokS (s : Str) : Option (Token × Str) :=
  match s with
  | [] => none
  | c :: t =>
    if c.toNat = 45 ∨ (48 ≤ c.toNat ∧ c.toNat ≤ 57) then
      (if (parseS (s.takeWhile numB)).2 then some (⟨3, s.takeWhile numB, (parseS (s.takeWhile numB)).1, 0⟩, s.dropWhile numB) else none)
    else if c.toNat = 34 then (match uqS s with | some (o, r) => some (⟨2, o, ⟨0, 0⟩, 0⟩, r) | none => none)
    else if sigB c then some (⟨1, [c], ⟨0, 0⟩, 0⟩, t)
    else if s.takeWhile letB = trueS ∨ s.takeWhile letB = falseS ∨ s.takeWhile letB = nullS then some (⟨4, s.takeWhile letB, ⟨0, 0⟩, 0⟩, s.dropWhile letB)
    else none

theorem tw_nil {p : UInt8 → Bool} {c : UInt8} {t : Str} (h : p c = true) : ((c :: t).dropWhile p).length < (c :: t : Str).length := by
  rw [List.dropWhile_cons, if_pos h]
  have := drop_le p t
  simp only [List.length_cons]
  omega

theorem tokS_sfx {s r : Str} {t : Token} (h : tokS s = some (t, r)) : r <:+ s ∧ r.length < s.length := by
  cases s with
  | nil => cases h
  | cons c u =>
    simp only [tokS] at h
    split at h
    · rename_i hc
      split at h
      · simp only [Option.some.injEq, Prod.mk.injEq] at h
        rw [← h.2]
        refine ⟨List.dropWhile_suffix _, tw_nil ?_⟩
        have all : ∀ n : Fin 256, (n.val = 45 ∨ (48 ≤ n.val ∧ n.val ≤ 57)) → numB (UInt8.ofNat n.val) = true := by decide +kernel
        have := all ⟨c.toNat, UInt8.toNat_lt c⟩ hc
        simpa using this
      · cases h
    · split at h
      · split at h
        · rename_i o q hq
          simp only [Option.some.injEq, Prod.mk.injEq] at h
          obtain ⟨_, rfl⟩ := h
          obtain ⟨h1, h2, _⟩ := uqS_sfx hq
          exact ⟨h1, by omega⟩
        · cases h
      · split at h
        · simp only [Option.some.injEq, Prod.mk.injEq] at h
          rw [← h.2]
          exact ⟨List.suffix_cons _ _, by simp⟩
        · split at h
          · rename_i hw
            simp only [Option.some.injEq, Prod.mk.injEq] at h
            rw [← h.2]
            refine ⟨List.dropWhile_suffix _, tw_nil ?_⟩
            cases hl : letB c with
            | true => rfl
            | false =>
              have e : (c :: u).takeWhile letB = [] := by rw [List.takeWhile_cons, hl]; rfl
              rw [e] at hw
              rcases hw with hw | hw | hw <;> cases hw
          · cases h

def putT (t : Token) (n : Int) : Token := ⟨t.kind, t.text, t.num, n⟩

def scanN : Nat → Nat → Str → List Token → List Token × Int × Int
  | 0, _, _, _ => ([], 0, 0)
  | n + 1, p, s, out =>
    if s.dropWhile blaB = [] then (out ++ [⟨5, [], ⟨0, 0⟩, ((p + (s.takeWhile blaB).length : Nat) : Int)⟩], 0, 0)
    else match tokS (s.dropWhile blaB) with
      | none => ([], 30, ((p + (s.takeWhile blaB).length : Nat) : Int))
      | some (t, r) => scanN n (p + (s.length - r.length)) r (out ++ [putT t ((p + (s.takeWhile blaB).length : Nat) : Int)])

def scanS (s : Str) : List Token × Int × Int := if 20000 < s.length then ([], 30, 0) else scanN (s.length + 1) 0 s []

theorem scanN_fuel : ∀ (n m p : Nat) (s : Str) (out : List Token), s.length < n → s.length < m → scanN n p s out = scanN m p s out
  | 0, _, _, _, _, h, _ => by omega
  | _, 0, _, _, _, _, h => by omega
  | n + 1, m + 1, p, s, out, h1, h2 => by
    simp only [scanN]
    split
    · rfl
    · split
      · rfl
      · rename_i t r hr
        have h3 := (tokS_sfx hr).2
        have h4 := drop_le blaB s
        exact scanN_fuel n m _ r _ (by omega) (by omega)

abbrev Item3 := Str × Str × Token
def layW : List Item3 → Str → Str
  | [], z => z
  | x :: l, z => x.1 ++ (x.2.1 ++ layW l z)
def okW : List Item3 → Str → Prop
  | [], _ => True
  | x :: l, z => (∀ b ∈ x.1, blaB b = true) ∧ (∃ c u, x.2.1 = c :: u ∧ blaB c = false) ∧ tokS (x.2.1 ++ layW l z) = some (x.2.2, layW l z) ∧ okW l z
def tokW : Nat → List Item3 → List Token
  | _, [] => []
  | p, x :: l => putT x.2.2 ((p + x.1.length : Nat) : Int) :: tokW (p + x.1.length + x.2.1.length) l
def lenW : List Item3 → Nat
  | [] => 0
  | x :: l => x.1.length + x.2.1.length + lenW l
theorem layW_len : ∀ (l : List Item3) (z : Str), (layW l z).length = lenW l + z.length
  | [], z => by simp [layW, lenW]
  | x :: l, z => by simp only [layW, lenW, List.length_append, layW_len l z]; omega

theorem tw_gap : ∀ (g r : Str), (∀ b ∈ g, blaB b = true) → (∃ c u, r = c :: u ∧ blaB c = false) ∨ r = [] → (g ++ r).takeWhile blaB = g ∧ (g ++ r).dropWhile blaB = r
  | [], r, _, h => by
    rcases h with ⟨c, u, rfl, hc⟩ | rfl
    · exact ⟨by rw [List.nil_append, List.takeWhile_cons, hc]; rfl, by rw [List.nil_append, List.dropWhile_cons, hc]; rfl⟩
    · exact ⟨rfl, rfl⟩
  | b :: g, r, hg, h => by
    have hb := hg b (by simp)
    obtain ⟨h1, h2⟩ := tw_gap g r (fun x hx => hg x (by simp [hx])) h
    refine ⟨?_, ?_⟩
    · rw [List.cons_append, List.takeWhile_cons, hb, if_pos rfl, h1]
    · rw [List.cons_append, List.dropWhile_cons, hb, if_pos rfl, h2]

theorem scan_words : ∀ (l : List Item3) (z : Str) (n p : Nat) (out : List Token), okW l z → l.length < n → scanN n p (layW l z) out = scanN (n - l.length) (p + lenW l) z (out ++ tokW p l)
  | [], z, n, p, out, _, _ => by simp [layW, lenW, tokW]
  | x :: l, z, n, p, out, h, hn => by
    obtain ⟨h1, ⟨c, u, h2, h3⟩, h4, h5⟩ := h
    obtain ⟨n, rfl⟩ : ∃ m, n = m + 1 := ⟨n - 1, by omega⟩
    simp only [List.length_cons] at hn
    obtain ⟨t1, t2⟩ := tw_gap x.1 (x.2.1 ++ layW l z) h1 (.inl ⟨c, u ++ layW l z, by rw [h2]; rfl, h3⟩)
    have hlay : layW (x :: l) z = x.1 ++ (x.2.1 ++ layW l z) := rfl
    have hne : ¬ (x.2.1 ++ layW l z = []) := by rw [h2]; simp
    have hw : 0 < x.2.1.length := by rw [h2]; simp
    simp only [scanN]
    rw [hlay, t1, t2, if_neg hne, h4]
    simp only
    have e1 : (x.1 ++ (x.2.1 ++ layW l z)).length - (layW l z).length = x.1.length + x.2.1.length := by simp only [List.length_append]; omega
    rw [e1, scan_words l z n _ _ h5 (by omega)]
    have e2 : n + 1 - (x :: l).length = n - l.length := by simp
    have e3 : p + (x.1.length + x.2.1.length) + lenW l = p + lenW (x :: l) := by simp only [lenW]; omega
    have e4 : p + (x.1.length + x.2.1.length) = p + x.1.length + x.2.1.length := by omega
    rw [e2, e3]
    simp only [tokW, List.append_assoc, List.singleton_append]
    rw [e4]

theorem scan_end {g : Str} (hg : ∀ b ∈ g, blaB b = true) (n p : Nat) (out : List Token) : scanN (n + 1) p g out = (out ++ [⟨5, [], ⟨0, 0⟩, ((p + g.length : Nat) : Int)⟩], 0, 0) := by
  obtain ⟨t1, t2⟩ := tw_gap g [] hg (.inr rfl)
  rw [List.append_nil] at t1 t2
  simp only [scanN]
  rw [t1, t2, if_pos rfl]
theorem scanS_words (l : List Item3) (g : Str) (hg : ∀ b ∈ g, blaB b = true) (h : okW l g) (hl : lenW l + g.length ≤ 20000) : scanS (layW l g) = (tokW 0 l ++ [⟨5, [], ⟨0, 0⟩, ((lenW l + g.length : Nat) : Int)⟩], 0, 0) := by
  unfold scanS
  have hlen := layW_len l g
  rw [if_neg (by omega)]
  have hcount : l.length ≤ lenW l := by
    clear hl hlen
    induction l with
    | nil => simp [lenW]
    | cons x l ih =>
      obtain ⟨_, ⟨c, u, h2, _⟩, _, h5⟩ := h
      have := ih h5
      have hw : 0 < x.2.1.length := by rw [h2]; simp
      simp only [lenW, List.length_cons]
      omega
  rw [scan_words l g _ 0 [] h (by omega), hlen]
  obtain ⟨m, hm⟩ : ∃ m, lenW l + g.length + 1 - l.length = m + 1 := ⟨lenW l + g.length - l.length, by omega⟩
  rw [hm, scan_end hg]
  simp

def stopR (r : Str) : Prop := r = [] ∨ ∃ b u, r = b :: u ∧ numB b = false ∧ letB b = false
def Word (w : Str) (t : Token) : Prop := (∃ c u, w = c :: u ∧ blaB c = false) ∧ ∀ r, stopR r → tokS (w ++ r) = some (t, r)

theorem tw_stop {p : UInt8 → Bool} : ∀ (w r : Str), (∀ b ∈ w, p b = true) → (r = [] ∨ ∃ b u, r = b :: u ∧ p b = false) → (w ++ r).takeWhile p = w ∧ (w ++ r).dropWhile p = r
  | [], r, _, h => by
    rcases h with rfl | ⟨b, u, rfl, hb⟩
    · exact ⟨rfl, rfl⟩
    · exact ⟨by rw [List.nil_append, List.takeWhile_cons, hb]; rfl, by rw [List.nil_append, List.dropWhile_cons, hb]; rfl⟩
  | b :: w, r, hw, h => by
    have hb := hw b (by simp)
    obtain ⟨h1, h2⟩ := tw_stop w r (fun x hx => hw x (by simp [hx])) h
    exact ⟨by rw [List.cons_append, List.takeWhile_cons, hb, if_pos rfl, h1], by rw [List.cons_append, List.dropWhile_cons, hb, if_pos rfl, h2]⟩
theorem stop_num {r : Str} (h : stopR r) : r = [] ∨ ∃ b u, r = b :: u ∧ numB b = false := h.imp id fun ⟨b, u, e, h1, _⟩ => ⟨b, u, e, h1⟩
theorem stop_let {r : Str} (h : stopR r) : r = [] ∨ ∃ b u, r = b :: u ∧ letB b = false := h.imp id fun ⟨b, u, e, _, h1⟩ => ⟨b, u, e, h1⟩

theorem word_sign (c : UInt8) (h : sigB c = true) : Word [c] ⟨1, [c], ⟨0, 0⟩, 0⟩ := by
  have all : ∀ n : Fin 256, sigB (UInt8.ofNat n.val) = true → blaB (UInt8.ofNat n.val) = false ∧ ¬ (n.val = 45 ∨ (48 ≤ n.val ∧ n.val ≤ 57)) ∧ ¬ n.val = 34 := by decide +kernel
  obtain ⟨h1, h2, h3⟩ := all ⟨c.toNat, UInt8.toNat_lt c⟩ (by simpa using h)
  refine ⟨⟨c, [], rfl, by simpa using h1⟩, fun r _ => ?_⟩
  show tokS (c :: r) = _
  simp only [tokS]
  rw [if_neg h2, if_neg h3, if_pos h]

theorem word_name {w : Str} (h : w = trueS ∨ w = falseS ∨ w = nullS) : Word w ⟨4, w, ⟨0, 0⟩, 0⟩ := by
  have hl : ∀ b ∈ w, letB b = true := by rcases h with rfl | rfl | rfl <;> decide
  have hc : ∃ c u, w = c :: u ∧ blaB c = false ∧ ¬ (c.toNat = 45 ∨ (48 ≤ c.toNat ∧ c.toNat ≤ 57)) ∧ ¬ c.toNat = 34 ∧ sigB c = false := by
    rcases h with rfl | rfl | rfl <;> exact ⟨_, _, rfl, by decide, by decide, by decide, by decide⟩
  obtain ⟨c, u, rfl, h1, h2, h3, h4⟩ := hc
  refine ⟨⟨c, u, rfl, h1⟩, fun r hr => ?_⟩
  obtain ⟨t1, t2⟩ := tw_stop (c :: u) r hl (stop_let hr)
  show tokS (c :: (u ++ r)) = _
  have e : (c :: (u ++ r) : Str) = (c :: u) ++ r := rfl
  simp only [tokS]
  rw [if_neg h2, if_neg h3, h4, if_neg (by simp), e, t1, t2, if_pos h]

theorem word_text {rs : List Nat} (hr : ∀ c ∈ rs, vr c) : Word (qt rs) ⟨2, encL rs, ⟨0, 0⟩, 0⟩ := by
  have e : qt rs = 34 :: (qcL rs ++ [34]) := by unfold qt; simp
  refine ⟨⟨34, _, e, by decide⟩, fun r _ => ?_⟩
  have hu := uqS_qt rs hr r
  have e2 : qt rs ++ r = 34 :: (qcL rs ++ [34] ++ r) := by rw [e]; rfl
  rw [e2] at hu ⊢
  simp only [tokS]
  rw [if_neg (by decide), if_pos (by decide), hu]

theorem parseS_prt {d : Dcm} (hd : Fm d) : parseS (prt d) = (d, true) := by
  have key : ∀ k : Dcm → Bool → Option (Dcm × Bool), decimal_Parse (prt d) k = k d true := fun k => by
    by_cases h0 : d.mant = 0
    · rw [hd.zero h0, prt_zero, parse_zero]
    · have := parse_prt hd h0 [] 0 (.inl ⟨rfl, rfl⟩) (by omega) (by simp) k
      rw [List.append_nil, Int.add_zero, make_same hd h0] at this
      exact this
  have hl : (prt d).length ≤ 4000000000 := by
    by_cases h0 : d.mant = 0
    · rw [hd.zero h0, prt_zero]; simp
    · obtain ⟨I, F, pt, a, b, e1, e2, i0, i1, f0, f1, fl, il, iD, fD⟩ := prt_parts d hd h0
      rw [e1]
      cases hdn : decide (d.mant < 0) <;> cases pt <;> simp <;> omega
  have h1 := parse_any (prt d) hl (fun a b => some (a, b))
  rw [key] at h1
  simp only [Option.some.injEq] at h1
  rw [h1]

theorem prt_chars {d : Dcm} (hd : Fm d) : (∀ b ∈ prt d, numB b = true) ∧ (∃ c u, prt d = c :: u ∧ (c.toNat = 45 ∨ (48 ≤ c.toNat ∧ c.toNat ≤ 57))) ∧ (prt d).length ≤ 60 := by
  have dig : ∀ b : UInt8, isDig b → numB b = true := fun b hb => by
    have all : ∀ n : Fin 256, (48 ≤ n.val ∧ n.val ≤ 57) → numB (UInt8.ofNat n.val) = true := by decide +kernel
    have := all ⟨b.toNat, UInt8.toNat_lt b⟩ hb
    simpa using this
  by_cases h0 : d.mant = 0
  · rw [hd.zero h0, prt_zero]
    exact ⟨by decide, ⟨48, [], rfl, by decide⟩, by simp⟩
  · obtain ⟨I, F, pt, a, b, e1, e2, i0, i1, f0, f1, fl, il, iD, fD⟩ := prt_parts d hd h0
    rw [e1]
    refine ⟨fun x hx => ?_, ?_, ?_⟩
    · rcases List.mem_append.1 hx with hx | hx
      · split at hx
        · simp at hx; subst hx; decide
        · simp at hx
      · rcases List.mem_append.1 hx with hx | hx
        · exact dig x (iD x hx)
        · split at hx
          · rcases List.mem_cons.1 hx with rfl | hx
            · decide
            · exact dig x (fD x hx)
          · simp at hx
    · cases I with
      | nil => exact (i0 rfl).elim
      | cons c I =>
        cases decide (d.mant < 0) with
        | true => exact ⟨45, _, rfl, by decide⟩
        | false => exact ⟨c, _, rfl, .inr (iD c (by simp))⟩
    · cases hdn : decide (d.mant < 0) <;> cases pt <;> simp <;> omega

theorem word_num {d : Dcm} (hd : Fm d) : Word (prt d) ⟨3, prt d, d, 0⟩ := by
  obtain ⟨h1, ⟨c, u, h2, h3⟩, _⟩ := prt_chars hd
  have hp := parseS_prt hd
  have hb : blaB c = false := by
    have all : ∀ n : Fin 256, (n.val = 45 ∨ (48 ≤ n.val ∧ n.val ≤ 57)) → blaB (UInt8.ofNat n.val) = false := by decide +kernel
    have := all ⟨c.toNat, UInt8.toNat_lt c⟩ h3
    simpa using this
  refine ⟨⟨c, u, h2, hb⟩, fun r hr => ?_⟩
  obtain ⟨t1, t2⟩ := tw_stop (prt d) r h1 (stop_num hr)
  have e : prt d ++ r = c :: (u ++ r) := by rw [h2]; rfl
  rw [e] at t1 t2 ⊢
  simp only [tokS]
  rw [if_pos h3, t1, t2, hp]
  rfl
def sg (c : UInt8) : Item3 := ([], [c], ⟨1, [c], ⟨0, 0⟩, 0⟩)
theorem layW_app : ∀ (a b : List Item3) (z : Str), layW (a ++ b) z = layW a (layW b z)
  | [], _, _ => rfl
  | x :: a, b, z => by simp only [List.cons_append, layW, layW_app a b z]

theorem okW_app : ∀ (a b : List Item3) (z : Str), okW (a ++ b) z ↔ okW a (layW b z) ∧ okW b z
  | [], b, z => by simp [okW]
  | x :: a, b, z => by simp only [List.cons_append, okW, okW_app a b z, layW_app, and_assoc]

theorem sign_any {c : UInt8} (h : sigB c = true) (z : Str) : okW [sg c] z := by
  refine ⟨by simp [sg], (word_sign c h).1, ?_, trivial⟩
  have all : ∀ n : Fin 256, sigB (UInt8.ofNat n.val) = true → ¬ (n.val = 45 ∨ (48 ≤ n.val ∧ n.val ≤ 57)) ∧ ¬ n.val = 34 := by decide +kernel
  obtain ⟨h2, h3⟩ := all ⟨c.toNat, UInt8.toNat_lt c⟩ (by simpa using h)
  show tokS (c :: z) = some (⟨1, [c], ⟨0, 0⟩, 0⟩, z)
  simp only [tokS]
  rw [if_neg h2, if_neg h3, if_pos h]
theorem stop_sign {c : UInt8} (h : sigB c = true) (z : Str) : stopR (c :: z) := by
  have all : ∀ n : Fin 256, sigB (UInt8.ofNat n.val) = true → numB (UInt8.ofNat n.val) = false ∧ letB (UInt8.ofNat n.val) = false := by decide +kernel
  obtain ⟨h2, h3⟩ := all ⟨c.toNat, UInt8.toNat_lt c⟩ (by simpa using h)
  exact .inr ⟨c, z, rfl, by simpa using h2, by simpa using h3⟩

end Go.Proofs.YtmlkkgfenfdndaaGreatDoor

set_option linter.unusedVariables false
set_option maxRecDepth 100000
namespace Go.Proofs.YtmlkkgfenfdndaaGreatDoor
open Go Go.Yard Go.Lib

theorem tw_dw_len (p : UInt8 → Bool) (s : Str) : (s.takeWhile p).length + (s.dropWhile p).length = s.length := by
  have := congrArg List.length (List.takeWhile_append_dropWhile (p := p) (l := s))
  rwa [List.length_append] at this
theorem take_tw (p : UInt8 → Bool) (s : Str) : s.take (s.takeWhile p).length = s.takeWhile p := by
  have := List.take_left (l₁ := s.takeWhile p) (l₂ := s.dropWhile p)
  rwa [List.takeWhile_append_dropWhile] at this
theorem drop_tw (p : UInt8 → Bool) (s : Str) : s.drop (s.takeWhile p).length = s.dropWhile p := by
  have := List.drop_left (l₁ := s.takeWhile p) (l₂ := s.dropWhile p)
  rwa [List.takeWhile_append_dropWhile] at this

theorem while_ok {R : Type} (s cs : Str) (hs : s.length ≤ 4000000000) (h1 : isAsc cs = true) (h2 : cs.length < 4294967281) (k : Str → Option R) : lexer_while s cs k = k (s.takeWhile (cs.contains ·)) := by
  have e : lexer_while s cs k = lexer_while_X s cs k := rfl
  rw [e]
  unfold lexer_while_X
  have hl := tw_dw_len (cs.contains ·) s
  have ht : (trimL s cs).length = (s.dropWhile (cs.contains ·)).length := rfl
  have hw : IntKind.i64.wrap ((s.length : Int) - ((trimL s cs).length : Int)) = ((s.takeWhile (cs.contains ·)).length : Int) := by rw [ht, wrap_id (by omega) (by omega)]; omega
  rw [hw, h1, chk_pos (by rw [dtrue h2]; rfl), chk_pos (by rw [dtrue (by omega), dtrue (by omega)]; rfl), chk_pos (dtrue (by omega)), List.drop_zero, Nat.sub_zero, Int.toNat_natCast, take_tw]

theorem sign_has (c : UInt8) : decide (idxByte sigS (c.toNat : Int) ≥ 0) = sigB c := by
  have hi : idxByte sigS (c.toNat : Int) = Go.Lib.indexByte sigS c := by
    unfold idxByte
    rw [Int.toNat_natCast]
    simp
  have h := idx_neg c sigS
  rw [hi]
  unfold sigB
  cases hc : sigS.contains c with
  | true =>
    apply dtrue
    have : ¬ Go.Lib.indexByte sigS c < 0 := fun g => by rw [h.1 g] at hc; cases hc
    omega
  | false =>
    apply dfalse
    have := h.2 hc
    omega

theorem next_ok {R : Type} (s : Str) (hs : s.length ≤ 4000000000) (h0 : s ≠ []) (k : Token → Int → Option R) :
    lexer_next s k = match tokS s with | some (t, r) => k t ((s.length - r.length : Nat) : Int) | none => k ⟨0, [], ⟨0, 0⟩, 0⟩ 0 := by
  have e : lexer_next s k = lexer_next_X quote_Unquote decimal_Parse lexer_while s k := rfl
  rw [e]
  unfold lexer_next_X
  cases s with
  | nil => exact (h0 rfl).elim
  | cons c u =>
    have hlen : (c :: u : Str).length = u.length + 1 := rfl
    have hg : (c :: u : Str).getD 0 0 = c := rfl
    simp only [List.length_cons] at hs
    rw [hg, chk_pos (dtrue (by rw [hlen]; omega))]
    simp only
    have q45 : ((c.toNat : Int) == 45) = decide (c.toNat = 45) := eqI _ 45
    have q34 : ((c.toNat : Int) == 34) = decide (c.toNat = 34) := eqI _ 34
    have l48 : decide ((c.toNat : Int) ≥ 48) = decide (48 ≤ c.toNat) := by
      by_cases h : 48 ≤ c.toNat
      · rw [dtrue h, dtrue (by omega)]
      · rw [dfalse h, dfalse (by omega)]
    have l57 : decide ((c.toNat : Int) ≤ 57) = decide (c.toNat ≤ 57) := by
      by_cases h : c.toNat ≤ 57
      · rw [dtrue h, dtrue (by omega)]
      · rw [dfalse h, dfalse (by omega)]
    have hsg : decide (idxByte ([123, 125, 91, 93, 44, 58] : Str) (c.toNat : Int) ≥ 0) = sigB c := sign_has c
    have hlt : ∀ p : UInt8 → Bool, ((c :: u).takeWhile p).length ≤ (c :: u).length := fun p => by have := tw_dw_len p (c :: u); omega
    have num : ∀ k : Token → Int → Option R, lexer_while (c :: u) ([48, 49, 50, 51, 52, 53, 54, 55, 56, 57, 43, 45, 46, 101, 69] : Str) (fun y6 => decimal_Parse y6 (fun y7 y8 => bif (!y8) then (k (⟨0, ([] : Str), ⟨0, 0⟩, 0⟩ : Token) 0) else (k (⟨3, y6, ⟨y7.mant, y7.exp⟩, 0⟩ : Token) (y6.length : Int)))) =
        (if (parseS ((c :: u).takeWhile numB)).2 then k ⟨3, (c :: u).takeWhile numB, (parseS ((c :: u).takeWhile numB)).1, 0⟩ (((c :: u).length - ((c :: u).dropWhile numB).length : Nat) : Int) else k ⟨0, [], ⟨0, 0⟩, 0⟩ 0) := fun k => by
      rw [while_ok _ _ (by rw [hlen]; omega) rfl (by decide)]
      have e : (c :: u).takeWhile (fun x => List.contains [48, 49, 50, 51, 52, 53, 54, 55, 56, 57, 43, 45, 46, 101, 69] x) = (c :: u).takeWhile numB := rfl
      have hl := hlt numB
      have hd := tw_dw_len numB (c :: u)
      rw [e, parse_any _ (by omega)]
      have el : (c :: u).length - ((c :: u).dropWhile numB).length = ((c :: u).takeWhile numB).length := by omega
      rw [el]
      cases (parseS ((c :: u).takeWhile numB)).2 <;> rfl
    have txt : ∀ k : Token → Int → Option R, quote_Unquote (c :: u) (fun y15 y16 y17 => bif (!y17) then (k (⟨0, ([] : Str), ⟨0, 0⟩, 0⟩ : Token) 0) else (k (⟨2, y15, ⟨0, 0⟩, 0⟩ : Token) y16)) =
        match uqS (c :: u) with | some (o, r) => k ⟨2, o, ⟨0, 0⟩, 0⟩ (((c :: u).length - r.length : Nat) : Int) | none => k ⟨0, [], ⟨0, 0⟩, 0⟩ 0 := fun k => by
      rw [unquote_ok _ (by rw [hlen]; omega)]
      cases hu : uqS (c :: u) with
      | none => rfl
      | some p =>
        obtain ⟨o, r⟩ := p
        obtain ⟨_, hr, _⟩ := uqS_sfx hu
        simp only [Bool.not_true, cond_false]
        rw [wrap_id (by omega) (by omega)]
        congr 1
        omega
    have nam : ∀ k : Token → Int → Option R, lexer_while (c :: u) ([97, 98, 99, 100, 101, 102, 103, 104, 105, 106, 107, 108, 109, 110, 111, 112, 113, 114, 115, 116, 117, 118, 119, 120, 121, 122] : Str) (fun y21 => bif (y21 == ([116, 114, 117, 101] : Str)) then (k (⟨4, y21, ⟨0, 0⟩, 0⟩ : Token) (y21.length : Int)) else (bif (y21 == ([102, 97, 108, 115, 101] : Str)) then (k (⟨4, y21, ⟨0, 0⟩, 0⟩ : Token) (y21.length : Int)) else (bif (!(y21 == ([110, 117, 108, 108] : Str))) then (k (⟨0, ([] : Str), ⟨0, 0⟩, 0⟩ : Token) 0) else (k (⟨4, y21, ⟨0, 0⟩, 0⟩ : Token) (y21.length : Int))))) =
        (if (c :: u).takeWhile letB = trueS ∨ (c :: u).takeWhile letB = falseS ∨ (c :: u).takeWhile letB = nullS then k ⟨4, (c :: u).takeWhile letB, ⟨0, 0⟩, 0⟩ (((c :: u).length - ((c :: u).dropWhile letB).length : Nat) : Int) else k ⟨0, [], ⟨0, 0⟩, 0⟩ 0) := fun k => by
      rw [while_ok _ _ (by rw [hlen]; omega) rfl (by decide)]
      have e : (c :: u).takeWhile (fun x => List.contains [97, 98, 99, 100, 101, 102, 103, 104, 105, 106, 107, 108, 109, 110, 111, 112, 113, 114, 115, 116, 117, 118, 119, 120, 121, 122] x) = (c :: u).takeWhile letB := rfl
      have hd := tw_dw_len letB (c :: u)
      have el : (c :: u).length - ((c :: u).dropWhile letB).length = ((c :: u).takeWhile letB).length := by omega
      rw [e, el]
      generalize (c :: u).takeWhile letB = w
      have eq : ∀ a : Str, (w == a) = decide (w = a) := fun a => by
        by_cases h : w = a
        · rw [dtrue h]; exact beq_iff_eq.2 h
        · rw [dfalse h]; exact beq_eq_false_iff_ne.2 h
      rw [eq, eq, eq]
      by_cases h1 : w = trueS
      · rw [dtrue (show w = [116, 114, 117, 101] from h1), if_pos (.inl h1)]; rfl
      · by_cases h2 : w = falseS
        · rw [dfalse (show ¬ w = [116, 114, 117, 101] from h1), dtrue (show w = [102, 97, 108, 115, 101] from h2), if_pos (.inr (.inl h2))]; rfl
        · by_cases h3 : w = nullS
          · rw [dfalse (show ¬ w = [116, 114, 117, 101] from h1), dfalse (show ¬ w = [102, 97, 108, 115, 101] from h2), dtrue (show w = [110, 117, 108, 108] from h3), if_pos (.inr (.inr h3))]; rfl
          · rw [dfalse (show ¬ w = [116, 114, 117, 101] from h1), dfalse (show ¬ w = [102, 97, 108, 115, 101] from h2), dfalse (show ¬ w = [110, 117, 108, 108] from h3), if_neg (by rintro (h | h | h); exact h1 h; exact h2 h; exact h3 h)]; rfl
    have sgn1 : ∀ k : Token → Int → Option R, chk (decide ((1 : Int) ≤ ((c :: u : Str).length : Int))) (k (⟨1, (((c :: u : Str).drop 0).take (1 - 0)), ⟨0, 0⟩, 0⟩ : Token) 1) = k ⟨1, [c], ⟨0, 0⟩, 0⟩ (((c :: u).length - u.length : Nat) : Int) := fun k => by
      have e1 : (c :: u).length - u.length = 1 := by rw [hlen]; omega
      rw [chk_pos (dtrue (by rw [hlen]; omega)), e1]
      rfl
    simp only [tokS]
    rw [q45, q34, l48, l57, hsg]
    by_cases h45 : c.toNat = 45
    · rw [dtrue h45, cond_true, if_pos (.inl h45)]
      refine (num k).trans ?_
      split <;> rfl
    · rw [dfalse h45, cond_false]
      have rest : ¬ (48 ≤ c.toNat ∧ c.toNat ≤ 57) → (bif decide (c.toNat = 34) then quote_Unquote (c :: u) (fun y15 y16 y17 => bif (!y17) then (k (⟨0, ([] : Str), ⟨0, 0⟩, 0⟩ : Token) 0) else (k (⟨2, y15, ⟨0, 0⟩, 0⟩ : Token) y16)) else (bif sigB c then chk (decide ((1 : Int) ≤ ((c :: u : Str).length : Int))) (k (⟨1, (((c :: u : Str).drop 0).take (1 - 0)), ⟨0, 0⟩, 0⟩ : Token) 1) else lexer_while (c :: u) ([97, 98, 99, 100, 101, 102, 103, 104, 105, 106, 107, 108, 109, 110, 111, 112, 113, 114, 115, 116, 117, 118, 119, 120, 121, 122] : Str) (fun y21 => bif (y21 == ([116, 114, 117, 101] : Str)) then (k (⟨4, y21, ⟨0, 0⟩, 0⟩ : Token) (y21.length : Int)) else (bif (y21 == ([102, 97, 108, 115, 101] : Str)) then (k (⟨4, y21, ⟨0, 0⟩, 0⟩ : Token) (y21.length : Int)) else (bif (!(y21 == ([110, 117, 108, 108] : Str))) then (k (⟨0, ([] : Str), ⟨0, 0⟩, 0⟩ : Token) 0) else (k (⟨4, y21, ⟨0, 0⟩, 0⟩ : Token) (y21.length : Int))))))) =
          match (if c.toNat = 45 ∨ (48 ≤ c.toNat ∧ c.toNat ≤ 57) then (if (parseS ((c :: u).takeWhile numB)).2 then some (⟨3, (c :: u).takeWhile numB, (parseS ((c :: u).takeWhile numB)).1, 0⟩, (c :: u).dropWhile numB) else none) else if c.toNat = 34 then (match uqS (c :: u) with | some (o, r) => some (⟨2, o, ⟨0, 0⟩, 0⟩, r) | none => none) else if sigB c then some ((⟨1, [c], ⟨0, 0⟩, 0⟩ : Token), u) else if (c :: u).takeWhile letB = trueS ∨ (c :: u).takeWhile letB = falseS ∨ (c :: u).takeWhile letB = nullS then some (⟨4, (c :: u).takeWhile letB, ⟨0, 0⟩, 0⟩, (c :: u).dropWhile letB) else none) with
          | some (t, r) => k t (((c :: u).length - r.length : Nat) : Int) | none => k ⟨0, [], ⟨0, 0⟩, 0⟩ 0 := by
        intro hd
        rw [if_neg (by rintro (h | h); exact h45 h; exact hd h)]
        by_cases h34 : c.toNat = 34
        · rw [dtrue h34, cond_true, if_pos h34, txt]
          cases uqS (c :: u) with
          | none => rfl
          | some p => rfl
        · rw [dfalse h34, cond_false, if_neg h34]
          cases hs' : sigB c with
          | true => rw [cond_true, sgn1, if_pos rfl]
          | false =>
            rw [cond_false, nam, if_neg (show ¬ (false = true) by simp)]
            split <;> rfl
      by_cases h48 : 48 ≤ c.toNat
      · rw [dtrue h48, cond_true]
        by_cases h57 : c.toNat ≤ 57
        · rw [dtrue h57, cond_true, if_pos (.inr ⟨h48, h57⟩)]
          refine (num k).trans ?_
          split <;> rfl
        · rw [dfalse h57, cond_false]
          exact rest (fun h => h57 h.2)
      · rw [dfalse h48, cond_false]
        exact rest (fun h => h48 h.1)

theorem scan_loop {R : Type} (s : Str) (hs : s.length ≤ 20000) (e0 : List Token → Int → Int → Option R) (e1 : Int → Int → Option R) (hz : ∀ a b, e0 [] a b = e1 a b) : ∀ (n p : Nat) (out : List Token), s.length - p < n → p ≤ s.length → out.length ≤ p →
    lexer_Scan_3_0_L n s out (p : Int) e0 e1 = e0 (scanN n p (s.drop p) out).1 (scanN n p (s.drop p) out).2.1 (scanN n p (s.drop p) out).2.2 := by
  intro n
  induction n with
  | zero => intro p out h; omega
  | succ n ih =>
    intro p out h1 h2 h3
    rw [lexer_Scan_3_0_L]
    unfold lexer_Scan_3_0_B
    have hsub : ∀ q : Nat, (s.drop q).take ((s.length : Int).toNat - q) = s.drop q := fun q => List.take_of_length_le (by rw [List.length_drop, Int.toNat_natCast]; exact Nat.le_refl _)
    have hl := tw_dw_len blaB (s.drop p)
    rw [List.length_drop] at hl
    have hdl : (s.drop p).length = s.length - p := List.length_drop
    rw [chk_pos (by rw [dtrue (by omega), dtrue (by omega)]; rfl), chk_pos (by rw [dtrue (by omega), dtrue (by omega)]; rfl), Int.toNat_natCast p, hsub, while_ok _ _ (by omega) rfl (by decide)]
    have eb : (s.drop p).takeWhile (fun x => List.contains [32, 9, 10, 13] x) = (s.drop p).takeWhile blaB := rfl
    rw [eb]
    have hdd : s.drop (p + ((s.drop p).takeWhile blaB).length) = (s.drop p).dropWhile blaB := by rw [← drop_tw blaB (s.drop p), List.drop_drop]
    have hw : IntKind.i64.wrap ((p : Int) + (((s.drop p).takeWhile blaB).length : Int)) = ((p + ((s.drop p).takeWhile blaB).length : Nat) : Int) := by rw [wrap_id (by omega) (by omega)]; omega
    rw [hw]
    simp only [scanN]
    generalize hq : p + ((s.drop p).takeWhile blaB).length = q at *
    by_cases hend : (s.drop p).dropWhile blaB = []
    · have hqe : q = s.length := by rw [hend] at hl; simp at hl; omega
      have e1' : (((q : Nat) : Int) == (s.length : Int)) = true := by rw [hqe]; simp
      rw [e1', cond_true, chk_pos (dtrue (by omega)), if_pos hend]
    · have hpos : 0 < ((s.drop p).dropWhile blaB).length := List.length_pos_iff.2 hend
      have e1' : (((q : Nat) : Int) == (s.length : Int)) = false := by rw [beq_eq_false_iff_ne]; omega
      rw [e1', cond_false, chk_pos (by rw [dtrue (by omega), dtrue (by omega)]; rfl), chk_pos (by rw [dtrue (by omega), dtrue (by omega)]; rfl), Int.toNat_natCast q, hsub, hdd, next_ok _ (by omega) hend, if_neg hend]
      cases ht : tokS ((s.drop p).dropWhile blaB) with
      | none =>
        have e0' : ((0 : Int) == 0) = true := rfl
        simp only
        rw [e0', cond_true, hz]
      | some x =>
        obtain ⟨t, r⟩ := x
        obtain ⟨f1, f2⟩ := tokS_sfx ht
        have hn : ((((s.drop p).dropWhile blaB).length - r.length : Nat) : Int) ≠ 0 := by omega
        simp only
        rw [beq_eq_false_iff_ne.2 hn, cond_false, chk_pos (dtrue (by omega))]
        have hq2 : IntKind.i64.wrap (((q : Nat) : Int) + ((((s.drop p).dropWhile blaB).length - r.length : Nat) : Int)) = ((p + ((s.drop p).length - r.length) : Nat) : Int) := by rw [wrap_id (by omega) (by omega)]; omega
        rw [hq2]
        have hr : s.drop (p + ((s.drop p).length - r.length)) = r := by
          have := sfx_drop (f1.trans (List.dropWhile_suffix blaB))
          rw [← List.drop_drop, ← this]
        have key := ih (p + ((s.drop p).length - r.length)) (out ++ [putT t ((q : Nat) : Int)]) (by omega) (by omega) (by simp; omega)
        rw [hr] at key
        exact key

theorem scan_ok {R : Type} (s : Str) (k : List Token → Int → Int → Option R) : lexer_Scan s k = k (scanS s).1 (scanS s).2.1 (scanS s).2.2 := by
  have e : lexer_Scan s k = lexer_Scan_X lexer_Scan_3_0_L s k := rfl
  rw [e]
  unfold lexer_Scan_X scanS
  by_cases h : 20000 < s.length
  · rw [dtrue (show (s.length : Int) > 20000 by omega), cond_true, if_pos h]
  · rw [dfalse (show ¬ (s.length : Int) > 20000 by omega), cond_false, if_neg h]
    have key := scan_loop (R := R) s (by omega) (fun y8 y9 y10 => k y8 y9 y10) (fun y11 y12 => k [] y11 y12) (fun _ _ => rfl) (List.length s + List.length ([] : List Token) + Int.natAbs 0 + 64) 0 [] (by omega) (by omega) (by simp)
    rw [List.drop_zero, scanN_fuel _ (s.length + 1) 0 s [] (by omega) (by omega)] at key
    exact key
end Go.Proofs.YtmlkkgfenfdndaaGreatDoor

/-
  Functions of the program as pure Lean functions, and the ties; printed by wip/tools/emit.py.
-/
set_option maxRecDepth 100000
set_option linter.unusedVariables false
namespace Go.Proofs.YtmlkkgfenfdndaaGreatDoor
open Go Go.Yard

end Go.Proofs.YtmlkkgfenfdndaaGreatDoor

set_option linter.unusedVariables false
set_option maxRecDepth 100000
namespace Go.Proofs.YtmlkkgfenfdndaaGreatDoor
open Go Go.Yard Go.Lib

theorem awake03' {R : Type} (k : Bool → Option R) : law03_awake k = k true := by kernel_rfl
theorem pick03 {R : Type} (c n : Int) (hc : I64 c) (h0 : 0 < n) (hn : n ≤ 9223372036854775807) : ∃ r : Int, 0 ≤ r ∧ r < n ∧ ∀ k : Int → Option R, law03_pick c n k = k r := pick_raw c n hc h0 hn

structure RawW (R : Type) (x : Raw3) (p : Str × Token) : Prop where
  word : Word p.1 p.2
  len : p.1.length ≤ 182
  run : ∀ k : Str → Option R, law03_Word x k = k p.1
  kind : ∃ q : Int, p.2.kind = 1 + q ∧ 0 ≤ q ∧ q < 4 ∧ ∀ k : Int → Option R, law03_pick x.kind 4 k = k q
  text : p.2.kind = 2 → ∀ k : Str → Bool → Option R, quote_Quote p.2.text k = k p.1 true
  other : p.2.kind ≠ 2 → p.2.text = p.1
  num : p.2.kind = 3 → ∀ k : Dcm → Option R, law01_Fit x.mant x.exp k = k p.2.num

def RawOk (x : Raw3) : Prop := I64 x.kind ∧ I64 x.mant ∧ I64 x.exp ∧ ∀ c ∈ x.text, I64 c

theorem raw_word {R : Type} (x : Raw3) (hx : RawOk x) : ∃ p, RawW R x p := by
  obtain ⟨hk, hm, he, ht⟩ := hx
  obtain ⟨q, q0, q1, hq⟩ := pick03 (R := R) x.kind 4 hk (by omega) (by omega)
  have e : ∀ k : Str → Option R, law03_Word x k = law03_Word_X law02_Text quote_Quote law01_Fit decimal_Print law03_pick x k := fun _ => rfl
  have eq : ∀ m : Int, (q == m) = decide (q = m) := fun m => by
    by_cases h : q = m
    · rw [dtrue h]; exact beq_iff_eq.2 h
    · rw [dfalse h]; exact beq_eq_false_iff_ne.2 h
  by_cases c0 : q = 0
  · obtain ⟨a, a0, a1, ha⟩ := pick03 (R := R) x.mant 6 hm (by omega) (by omega)
    have hs : ∃ c : UInt8, sigB c = true ∧ ([([123] : Str), ([125] : Str), ([91] : Str), ([93] : Str), ([44] : Str), ([58] : Str)] : List Str).getD a.toNat (Ty.dflt .str) = [c] := by
      have h : a = 0 ∨ a = 1 ∨ a = 2 ∨ a = 3 ∨ a = 4 ∨ a = 5 := by omega
      rcases h with rfl | rfl | rfl | rfl | rfl | rfl <;> exact ⟨_, by decide, rfl⟩
    obtain ⟨c, hc, hget⟩ := hs
    refine ⟨([c], ⟨1, [c], ⟨0, 0⟩, 0⟩), word_sign c hc, by simp, fun k => ?_, ⟨q, by rw [c0]; rfl, q0, q1, hq⟩, fun h => by simp at h, fun _ => rfl, fun h => by simp at h⟩
    rw [e]
    unfold law03_Word_X
    rw [hq, eq, dtrue c0, cond_true, ha, chk_pos (by rw [dtrue a0, dtrue a1]; rfl), hget]
  · by_cases c1 : q = 1
    · have hmin : min (x.text.length : Int) 30 = ((min x.text.length 30 : Nat) : Int) := by omega
      obtain ⟨rs, r1, r2, r3, r4⟩ := text_ok2 (R := R) (x.text.take (min x.text.length 30)) (fun c hc => ht c (List.mem_of_mem_take hc))
      rw [List.length_take] at r3
      have hcnt := qcL_count rs r1
      have hlen : (qt rs).length = (qcL rs).length + 2 := by unfold qt; simp
      refine ⟨(qt rs, ⟨2, encL rs, ⟨0, 0⟩, 0⟩), word_text r1, by simp only; omega, fun k => ?_, ⟨q, by rw [c1]; rfl, q0, q1, hq⟩, fun _ k => quote_ok rs r1 (by omega) k, fun h => (h rfl).elim, fun h => by simp at h⟩
      rw [e]
      unfold law03_Word_X
      rw [hq, eq, dfalse c0, cond_false, eq, dtrue c1, cond_true, hmin, chk_pos (by rw [dtrue (by omega), dtrue (by omega)]; rfl), chk_pos (dtrue (by omega)), List.drop_zero, Nat.sub_zero, Int.toNat_natCast, r4, quote_ok rs r1 (by omega)]
    · by_cases c2 : q = 2
      · obtain ⟨d, hd, hf⟩ := fit_ok (R := R) x.mant x.exp hm he
        obtain ⟨_, _, hl⟩ := prt_chars hd
        refine ⟨(prt d, ⟨3, prt d, d, 0⟩), word_num hd, by simp only; omega, fun k => ?_, ⟨q, by rw [c2]; rfl, q0, q1, hq⟩, fun h => by simp at h, fun _ => rfl, fun _ => hf⟩
        rw [e]
        unfold law03_Word_X
        rw [hq, eq, dfalse c0, cond_false, eq, dfalse c1, cond_false, eq, dtrue c2, cond_true, hf, print_ok hd]
      · obtain ⟨a, a0, a1, ha⟩ := pick03 (R := R) x.mant 3 hm (by omega) (by omega)
        have hs : ∃ w : Str, (w = trueS ∨ w = falseS ∨ w = nullS) ∧ ([([116, 114, 117, 101] : Str), ([102, 97, 108, 115, 101] : Str), ([110, 117, 108, 108] : Str)] : List Str).getD a.toNat (Ty.dflt .str) = w := by
          have h : a = 0 ∨ a = 1 ∨ a = 2 := by omega
          rcases h with rfl | rfl | rfl
          · exact ⟨trueS, .inl rfl, rfl⟩
          · exact ⟨falseS, .inr (.inl rfl), rfl⟩
          · exact ⟨nullS, .inr (.inr rfl), rfl⟩
        obtain ⟨w, hw, hget⟩ := hs
        have hq3 : (4 : Int) = 1 + q := by omega
        refine ⟨(w, ⟨4, w, ⟨0, 0⟩, 0⟩), word_name hw, by rcases hw with rfl | rfl | rfl <;> decide, fun k => ?_, ⟨q, hq3, q0, q1, hq⟩, fun h => by simp at h, fun _ => rfl, fun h => by simp at h⟩
        rw [e]
        unfold law03_Word_X
        rw [hq, eq, dfalse c0, cond_false, eq, dfalse c1, cond_false, eq, dfalse c2, cond_false, ha, chk_pos (by rw [dtrue a0, dtrue a1]; rfl), hget]

theorem raw_words (R : Type) : ∃ f : Raw3 → Str × Token, ∀ x, RawOk x → RawW R x (f x) := by
  have : ∀ x : Raw3, ∃ p : Str × Token, RawOk x → RawW R x p := fun x => by
    by_cases h : RawOk x
    · obtain ⟨p, hp⟩ := raw_word (R := R) x h
      exact ⟨p, fun _ => hp⟩
    · exact ⟨([], Token.z), fun h' => (h h').elim⟩
  exact Classical.axiomOfChoice this

theorem small_raw3 {l : List Raw3} (h : Small 1048576 (.sl .raw3 l .no)) : l.length ≤ 1048576 ∧ ∀ x ∈ l, RawOk x := by
  obtain ⟨h1, h2⟩ := h.sl_inv
  refine ⟨h1, fun x hx => ?_⟩
  have hc := h2 x hx
  simp only [Ty.cells, List.mem_cons, List.not_mem_nil, or_false] at hc
  refine ⟨i64_has.1 (hc _ (.inl rfl)).int_inv, i64_has.1 (hc _ (.inr (.inl rfl))).int_inv, i64_has.1 (hc _ (.inr (.inr (.inl rfl)))).int_inv, fun c hcc => ?_⟩
  have := (hc _ (.inr (.inr (.inr rfl)))).sl_inv.2 c hcc
  exact i64_has.1 (this (.int .i64 c) (by simp [Ty.cells])).int_inv

abbrev ItemT := Str × Str × Token
def layT (l : List ItemT) : Str := l.flatMap fun x => x.1 ++ x.2.1
def toW (g : Str) : List ItemT → List Item3
  | [] => []
  | x :: l => (g, x.1, x.2.2) :: toW x.2.1 l
def lastG (g : Str) : List ItemT → Str
  | [] => g
  | x :: l => lastG x.2.1 l
def posT : Nat → List ItemT → List Token
  | _, [] => []
  | p, x :: l => putT x.2.2 (p : Int) :: posT (p + x.1.length + x.2.1.length) l

def BlT (g : Str) : Prop := g ≠ [] ∧ ∀ b ∈ g, blaB b = true
def OkT (l : List ItemT) : Prop := ∀ x ∈ l, Word x.1 x.2.2 ∧ BlT x.2.1

theorem lay_toW : ∀ (l : List ItemT) (g z : Str), layW (toW g l) (lastG g l ++ z) = g ++ (layT l ++ z)
  | [], g, z => by simp [toW, lastG, layW, layT]
  | x :: l, g, z => by
    simp only [toW, lastG, layW]
    rw [lay_toW l x.2.1 z]
    simp [layT]
theorem tok_toW : ∀ (l : List ItemT) (g : Str) (p : Nat), tokW p (toW g l) = posT (p + g.length) l
  | [], _, _ => rfl
  | x :: l, g, p => by simp only [toW, tokW, posT]; rw [tok_toW l x.2.1]
theorem len_toW : ∀ (l : List ItemT) (g : Str), lenW (toW g l) + (lastG g l).length = g.length + (layT l).length
  | [], g => by simp [toW, lastG, lenW, layT]
  | x :: l, g => by
    have := len_toW l x.2.1
    have e : (layT (x :: l)).length = x.1.length + x.2.1.length + (layT l).length := by simp [layT]; omega
    simp only [toW, lastG, lenW, e]
    omega
theorem stop_bl {g : Str} (h : BlT g) (z : Str) : stopR (g ++ z) := by
  obtain ⟨h1, h2⟩ := h
  cases g with
  | nil => exact (h1 rfl).elim
  | cons b g =>
    have all : ∀ n : Fin 256, blaB (UInt8.ofNat n.val) = true → numB (UInt8.ofNat n.val) = false ∧ letB (UInt8.ofNat n.val) = false := by decide +kernel
    obtain ⟨k1, k2⟩ := all ⟨b.toNat, UInt8.toNat_lt b⟩ (by simpa using h2 b (by simp))
    exact .inr ⟨b, g ++ z, rfl, by simpa using k1, by simpa using k2⟩
theorem ok_toW : ∀ (l : List ItemT) (g z : Str), (∀ b ∈ g, blaB b = true) → OkT l → okW (toW g l) (lastG g l ++ z)
  | [], _, _, _, _ => trivial
  | x :: l, g, z, hg, h => by
    obtain ⟨hw, hb⟩ := h x (by simp)
    have h' : OkT l := fun y hy => h y (by simp [hy])
    refine ⟨hg, hw.1, ?_, ok_toW l x.2.1 z hb.2 h'⟩
    have e : layW (toW x.2.1 l) (lastG g (x :: l) ++ z) = x.2.1 ++ (layT l ++ z) := lay_toW l x.2.1 z
    show tokS (x.1 ++ layW (toW x.2.1 l) (lastG g (x :: l) ++ z)) = some (x.2.2, layW (toW x.2.1 l) (lastG g (x :: l) ++ z))
    rw [e]
    exact hw.2 _ (stop_bl hb _)
theorem last_bl : ∀ (l : List ItemT) (g : Str), (∀ b ∈ g, blaB b = true) → OkT l → ∀ b ∈ lastG g l, blaB b = true
  | [], _, hg, _ => hg
  | x :: l, g, hg, h => last_bl l x.2.1 (h x (by simp)).2.2 fun y hy => h y (by simp [hy])

theorem scanS_T (l : List ItemT) (h : OkT l) (hl : (layT l).length ≤ 20000) : scanS (layT l) = (posT 0 l ++ [⟨5, [], ⟨0, 0⟩, ((layT l).length : Int)⟩], 0, 0) := by
  have e := lay_toW l [] []
  rw [List.append_nil, List.nil_append, List.append_nil] at e
  have hlen := len_toW l []
  have ok := ok_toW l [] [] (by simp) h
  rw [List.append_nil] at ok
  have := scanS_words (toW [] l) (lastG [] l) (last_bl l [] (by simp) h) ok (by simp at hlen; omega)
  rw [e] at this
  rw [this, tok_toW]
  simp only [List.length_nil, Nat.zero_add] at hlen ⊢
  rw [hlen]

theorem layT_snoc (l : List ItemT) (x : ItemT) : layT (l ++ [x]) = layT l ++ (x.1 ++ x.2.1) := by simp [layT]
theorem posT_len : ∀ (l : List ItemT) (p : Nat), (posT p l).length = l.length
  | [], _ => rfl
  | x :: l, p => by simp [posT, posT_len l]

def bk (p : Str × Token) : ItemT := (p.1, [32], p.2)
theorem bk_ok {R : Type} {raw : List Raw3} {f : Raw3 → Str × Token} (hf : ∀ x ∈ raw, RawW R x (f x)) : OkT ((raw.map f).map bk) := by
  intro y hy
  simp only [List.mem_map] at hy
  obtain ⟨p, ⟨x, hx, rfl⟩, rfl⟩ := hy
  exact ⟨(hf x hx).word, by simp [bk], by intro b hb; simp [bk] at hb; subst hb; decide⟩
theorem bk_len {R : Type} : ∀ {raw : List Raw3} {f : Raw3 → Str × Token}, (∀ x ∈ raw, RawW R x (f x)) → (layT ((raw.map f).map bk)).length ≤ 183 * raw.length
  | [], f, _ => by simp [layT]
  | x :: raw, f, h => by
    have h1 := (h x (by simp)).len
    have h2 := bk_len (raw := raw) (f := f) fun y hy => h y (by simp [hy])
    have e : (layT (((x :: raw).map f).map bk)).length = (f x).1.length + 1 + (layT ((raw.map f).map bk)).length := by simp [layT, bk]; omega
    rw [e, List.length_cons]
    omega

theorem take_snoc {α : Type} (l : List α) (i : Nat) (h : i < l.length) : l.take (i + 1) = l.take i ++ [l[i]] := List.take_succ_eq_append_getElem h

end Go.Proofs.YtmlkkgfenfdndaaGreatDoor

/-
  Functions of the program as pure Lean functions, and the ties; printed by wip/tools/emit.py.
-/
set_option maxRecDepth 100000
set_option linter.unusedVariables false
namespace Go.Proofs.YtmlkkgfenfdndaaGreatDoor
open Go Go.Yard

/-! ### humpyard/humpyardlaw03.Words -/
abbrev law03_Words_ty (R : Type) : Type := (List Token) → (List Token) → (Bool → Option R) → Option R
abbrev law03_Words_p : List Pat := [.leaf (.sl .token), .leaf (.sl .token)]
abbrev law03_Words_q : List HPat := []
noncomputable def law03_Words_rr {R : Type} (fn : law03_Words_ty R) : Pat.dens law03_Words_p → HPat.dens law03_Words_q → (V → Heap → Option R) → Option R := fun x y k => fn x.1 x.2.1 (fun q0 => k (.bool q0) [])
abbrev law03_Words_4_0_ty (R : Type) : Type := Nat → (List Token) → (List Token) → Int → (Option R) → (Bool → Option R) → Option R
noncomputable def law03_Words_E (R : Type) : Env R := fun i => match i with
  | _ => none
theorem law03_Words_EOk (R : Type) : EOk Tryz.prog (law03_Words_E R) := by
  intro i b sp h
  unfold law03_Words_E at h
  split at h
  · cases h

noncomputable def law03_Words_4_0_B {R : Type} (rec' : (List Token) → (List Token) → Int → Option R) (x3 : List Token) (x4 : List Token) (x5 : Int) (e0 : Option R) (e1 : Bool → Option R) : Option R :=
  bif (decide (x5 < (x3.length : Int))) then (chk (decide ((0 : Int) ≤ x5) && decide (x5 < x3.length)) (chk (decide ((0 : Int) ≤ x5) && decide (x5 < x4.length)) (bif ((x3.getD x5.toNat (Ty.dflt .token)).kind != (x4.getD x5.toNat (Ty.dflt .token)).kind) then (e1 false) else (chk (decide ((0 : Int) ≤ x5) && decide (x5 < x3.length)) (chk (decide ((0 : Int) ≤ x5) && decide (x5 < x4.length)) (bif (!((x3.getD x5.toNat (Ty.dflt .token)).text == (x4.getD x5.toNat (Ty.dflt .token)).text)) then (e1 false) else (chk (decide ((0 : Int) ≤ x5) && decide (x5 < x3.length)) (chk (decide ((0 : Int) ≤ x5) && decide (x5 < x4.length)) (bif (!((x3.getD x5.toNat (Ty.dflt .token)).num.mant == (x4.getD x5.toNat (Ty.dflt .token)).num.mant && ((x3.getD x5.toNat (Ty.dflt .token)).num.exp == (x4.getD x5.toNat (Ty.dflt .token)).num.exp && true))) then (e1 false) else (rec' x3 x4 (IntKind.i64.wrap (x5 + 1)))))))))))) else (e0)
noncomputable def law03_Words_4_0_L {R : Type} : law03_Words_4_0_ty R
  | 0, _, _, _, _, _ => none
  | n + 1, x0', x1', x2', e0, e1 => law03_Words_4_0_B (fun x0' x1' x2' => law03_Words_4_0_L n x0' x1' x2' e0 e1) x0' x1' x2' e0 e1
noncomputable def law03_Words_4_0_h : Hint := { live := [0, 1, 5], own := [], rows := [], cells := [], drop := [], out := [4] }
abbrev law03_Words_4_0_D : Type := (List Token) × (List Token) × Int
noncomputable def law03_Words_4_0_enc : law03_Words_4_0_D → St := fun d => ⟨[.sl .token d.1 .no, .sl .token d.2.1 .no, .undef, .undef, .undef, .int .i64 d.2.2, .undef, .undef, .undef, .undef, .undef, .undef, .undef, .undef, .undef, .undef, .undef, .undef, .undef, .undef, .undef, .undef, .undef, .undef, .undef, .undef, .undef, .undef, .undef, .undef, .undef, .undef, .undef, .undef, .undef, .undef, .undef, .undef, .undef, .undef, .undef, .undef, .undef, .undef, .undef, .undef, .undef, .undef, .undef, .undef, .undef, .undef, .undef, .undef], []⟩
noncomputable def law03_Words_4_0_x0 {R : Type} (K : Ex → St → Option R) : Option R := K (.exit 0) ⟨[.undef, .undef, .undef, .undef, .undef, .undef, .undef, .undef, .undef, .undef, .undef, .undef, .undef, .undef, .undef, .undef, .undef, .undef, .undef, .undef, .undef, .undef, .undef, .undef, .undef, .undef, .undef, .undef, .undef, .undef, .undef, .undef, .undef, .undef, .undef, .undef, .undef, .undef, .undef, .undef, .undef, .undef, .undef, .undef, .undef, .undef, .undef, .undef, .undef, .undef, .undef, .undef, .undef, .undef], []⟩
noncomputable def law03_Words_4_0_x1 {R : Type} (K : Ex → St → Option R) (q0 : Bool) : Option R := K (.ret) ⟨[.undef, .undef, .undef, .undef, .bool q0, .undef, .undef, .undef, .undef, .undef, .undef, .undef, .undef, .undef, .undef, .undef, .undef, .undef, .undef, .undef, .undef, .undef, .undef, .undef, .undef, .undef, .undef, .undef, .undef, .undef, .undef, .undef, .undef, .undef, .undef, .undef, .undef, .undef, .undef, .undef, .undef, .undef, .undef, .undef, .undef, .undef, .undef, .undef, .undef, .undef, .undef, .undef, .undef, .undef], []⟩
noncomputable def law03_Words_4_0_s {R : Type} (K : Ex → St → Option R) (rc : law03_Words_4_0_D → Option R) (d : law03_Words_4_0_D) : Option R := law03_Words_4_0_B (fun z0 z1 z2 => rc (z0, z1, z2)) d.1 d.2.1 d.2.2 (law03_Words_4_0_x0 K) (law03_Words_4_0_x1 K)
noncomputable def law03_Words_4_0_A {R : Type} (K : Ex → St → Option R) (n : Nat) (d : law03_Words_4_0_D) : Option R := law03_Words_4_0_L n d.1 d.2.1 d.2.2 (law03_Words_4_0_x0 K) (law03_Words_4_0_x1 K)
abbrev law03_Words_4_0_p : List Pat := [.leaf (.sl .token), .leaf (.sl .token), .leaf (.undef), .leaf (.undef), .leaf (.undef), .leaf (.int .i64), .leaf (.undef), .leaf (.undef), .leaf (.undef), .leaf (.undef), .leaf (.undef), .leaf (.undef), .leaf (.undef), .leaf (.undef), .leaf (.undef), .leaf (.undef), .leaf (.undef), .leaf (.undef), .leaf (.undef), .leaf (.undef), .leaf (.undef), .leaf (.undef), .leaf (.undef), .leaf (.undef), .leaf (.undef), .leaf (.undef), .leaf (.undef), .leaf (.undef), .leaf (.undef), .leaf (.undef), .leaf (.undef), .leaf (.undef), .leaf (.undef), .leaf (.undef), .leaf (.undef), .leaf (.undef), .leaf (.undef), .leaf (.undef), .leaf (.undef), .leaf (.undef), .leaf (.undef), .leaf (.undef), .leaf (.undef), .leaf (.undef), .leaf (.undef), .leaf (.undef), .leaf (.undef), .leaf (.undef), .leaf (.undef), .leaf (.undef), .leaf (.undef), .leaf (.undef), .leaf (.undef), .leaf (.undef)]
abbrev law03_Words_4_0_q : List HPat := []
noncomputable def law03_Words_4_0_f (x : Pat.dens law03_Words_4_0_p) (y : HPat.dens law03_Words_4_0_q) : Nat := (List.length x.1 + List.length x.2.1 + Int.natAbs x.2.2.2.2.2.1 + 64)
noncomputable def law03_Words_4_0_d (x : Pat.dens law03_Words_4_0_p) (y : HPat.dens law03_Words_4_0_q) : law03_Words_4_0_D := (x.1, x.2.1, x.2.2.2.2.2.1)
noncomputable def law03_Words_4_0_rr {R : Type} (L : law03_Words_4_0_ty R) : Pat.dens law03_Words_4_0_p → HPat.dens law03_Words_4_0_q → (Ex → St → Option R) → Option R := fun x y K => L (law03_Words_4_0_f x y) x.1 x.2.1 x.2.2.2.2.2.1 (law03_Words_4_0_x0 K) (law03_Words_4_0_x1 K)
noncomputable def law03_Words_T (R : Type) (law03_Words_4_0_L : law03_Words_4_0_ty R) : Nat → Option (Hint × LSpec R) := fun i => match i with
  | 4 => some (law03_Words_4_0_h, (loopBy law03_Words_4_0_p law03_Words_4_0_q (law03_Words_4_0_rr law03_Words_4_0_L) loopNo))
  | _ => none

theorem law03_Words_4_0_B_ok {R : Type} (law03_Words_4_0_L : law03_Words_4_0_ty R) (K : Ex → St → Option R) (rc : St → Option R) (d : law03_Words_4_0_D) : roundOf tt (law03_Words_E R) (law03_Words_T R law03_Words_4_0_L) 0 ((loopsOf (codeOf Tryz.f29)).getD 0 .skip) law03_Words_4_0_h (law03_Words_4_0_enc d) rc K = law03_Words_4_0_s K (fun d => rc (law03_Words_4_0_enc d)) d := by kernel_rfl
theorem law03_Words_4_0_A_succ {R : Type} (K : Ex → St → Option R) (n : Nat) (d : law03_Words_4_0_D) : law03_Words_4_0_A K (n + 1) d = law03_Words_4_0_s K (law03_Words_4_0_A K n) d := by kernel_rfl
theorem law03_Words_4_0_A_zero {R : Type} (K : Ex → St → Option R) (d : law03_Words_4_0_D) : law03_Words_4_0_A K 0 d = none := by kernel_rfl
theorem law03_Words_4_0_e_ok (x : Pat.dens law03_Words_4_0_p) (y : HPat.dens law03_Words_4_0_q) : (⟨Pat.encL law03_Words_4_0_p x, HPat.encL law03_Words_4_0_q y⟩ : St) = law03_Words_4_0_enc (law03_Words_4_0_d x y) := by kernel_rfl
theorem law03_Words_4_0_r_ok {R : Type} (x : Pat.dens law03_Words_4_0_p) (y : HPat.dens law03_Words_4_0_q) (K : Ex → St → Option R) : law03_Words_4_0_rr (law03_Words_4_0_L) x y K = law03_Words_4_0_A K (law03_Words_4_0_f x y) (law03_Words_4_0_d x y) := by kernel_rfl
theorem law03_Words_4_0_ok {R : Type} (other : LSpec R) (ho : LsOk tt (law03_Words_E R) (law03_Words_T R law03_Words_4_0_L) 0 ((loopsOf (codeOf Tryz.f29)).getD 0 .skip) law03_Words_4_0_h other) : LsOk tt (law03_Words_E R) (law03_Words_T R law03_Words_4_0_L) 0 ((loopsOf (codeOf Tryz.f29)).getD 0 .skip) law03_Words_4_0_h (loopBy law03_Words_4_0_p law03_Words_4_0_q (law03_Words_4_0_rr (law03_Words_4_0_L)) other) :=
  loopBy_tie (A := law03_Words_4_0_A) ho (loop_tie law03_Words_4_0_enc (law03_Words_4_0_s) (law03_Words_4_0_A) (law03_Words_4_0_A_zero) (law03_Words_4_0_B_ok law03_Words_4_0_L) (law03_Words_4_0_A_succ)) law03_Words_4_0_f law03_Words_4_0_d law03_Words_4_0_e_ok (law03_Words_4_0_r_ok)

noncomputable def law03_Words_X {R : Type} (law03_Words_4_0_L : law03_Words_4_0_ty R) (x1 : List Token) (x2 : List Token) (k0 : Bool → Option R) : Option R :=
  bif ((x1.length : Int) != (x2.length : Int)) then (k0 false) else (law03_Words_4_0_L (List.length x1 + List.length x2 + Int.natAbs 0 + 64) x1 x2 0 (k0 true) (fun y7 => k0 y7))
noncomputable def law03_Words {R : Type} : law03_Words_ty R := fun x1 x2 k0 => law03_Words_X law03_Words_4_0_L x1 x2 k0
theorem law03_Words_ok {R : Type} (law03_Words_4_0_L : law03_Words_4_0_ty R) (x1 : List Token) (x2 : List Token) (k : V → Heap → Option R) : funK tt (law03_Words_E R) (law03_Words_T R law03_Words_4_0_L) false Tryz.f29 (codeOf Tryz.f29) [.sl .token x1 .no, .sl .token x2 .no] [] k =
    law03_Words_X law03_Words_4_0_L x1 x2 (fun q0 => k (.bool q0) []) := by kernel_rfl
theorem law03_Words_loops (R : Type) : ∀ a ∈ loopsOf (codeOf Tryz.f29), LoopOk tt (law03_Words_E R) (law03_Words_T R law03_Words_4_0_L) 0 a := by
  refine loops_ok 1 (by kernel_rfl) fun i hi => ?_
  match i, hi with
  | 0, _ => exact loopOk_some (by kernel_rfl) (law03_Words_4_0_ok _ loopNo_ok)
  | n + 1, hi => omega
theorem law03_Words_S_ok (R : Type) (other : Yard.Spec R) (ho : Yard.Spec.Ok Tryz.prog 29 other) : Yard.Spec.Ok Tryz.prog 29 (specBy law03_Words_p law03_Words_q (law03_Words_rr law03_Words) other) :=
  specBy_ok ho (funK_sound TT mixed (law03_Words_EOk R) (keep := false) rfl rfl rfl rfl 0 (law03_Words_loops R)) fun (x : Pat.dens law03_Words_p) (y : HPat.dens law03_Words_q) k => law03_Words_ok law03_Words_4_0_L x.1 x.2.1 k

end Go.Proofs.YtmlkkgfenfdndaaGreatDoor

/-
  Functions of the program as pure Lean functions, and the ties; printed by wip/tools/emit.py.
-/
set_option maxRecDepth 100000
set_option linter.unusedVariables false
namespace Go.Proofs.YtmlkkgfenfdndaaGreatDoor
open Go Go.Yard

end Go.Proofs.YtmlkkgfenfdndaaGreatDoor

set_option linter.unusedVariables false
set_option maxRecDepth 100000
namespace Go.Proofs.YtmlkkgfenfdndaaGreatDoor
open Go Go.Yard Go.Lib

def stT (t : Token) : Int × Str × Dcm := (t.kind, t.text, t.num)
theorem words_loop {R : Type} (a b : List Token) (hl : a.length ≤ 1000000) (h : a.map stT = b.map stT) (e0 : Option R) (e1 : Bool → Option R) : ∀ (n i : Nat), a.length - i < n → i ≤ a.length → law03_Words_4_0_L n a b (i : Int) e0 e1 = e0 := by
  have hlen : a.length = b.length := by have := congrArg List.length h; simpa using this
  intro n
  induction n with
  | zero => intro i h; omega
  | succ n ih =>
    intro i h1 h2
    rw [law03_Words_4_0_L]
    unfold law03_Words_4_0_B
    by_cases hi : i < a.length
    · have ga : a.getD i (Ty.dflt .token) = a[i] := getD_at hi _
      have gb : b.getD i (Ty.dflt .token) = b[i] := getD_at (by omega) _
      have hs : stT a[i] = stT b[i] := by
        have := congrArg (fun l => l[i]?) h
        simp only [List.getElem?_map, List.getElem?_eq_getElem hi, List.getElem?_eq_getElem (show i < b.length by omega), Option.map_some, Option.some.injEq] at this
        exact this
      unfold stT at hs
      simp only [Prod.mk.injEq] at hs
      obtain ⟨k1, k2, k3⟩ := hs
      have ck1 : (decide ((0 : Int) ≤ (i : Int)) && true) = true := by rw [dtrue (by omega)]; rfl
      have ck2 : (decide ((0 : Int) ≤ (i : Int)) && decide ((i : Int) < (b.length : Int))) = true := by rw [dtrue (by omega), dtrue (by omega)]; rfl
      have b1 : (b[i].kind != b[i].kind) = false := bne_self_eq_false _
      have b2 : (!(b[i].text == b[i].text)) = false := by rw [beq_self_eq_true]; rfl
      have b3 : (!(b[i].num.mant == b[i].num.mant && (b[i].num.exp == b[i].num.exp && true))) = false := by rw [beq_self_eq_true, beq_self_eq_true]; rfl
      rw [dtrue (show (i : Int) < (a.length : Int) by omega), cond_true, Int.toNat_natCast, ga, gb, k1, k2, k3, chk_pos ck1, chk_pos ck2, b1, cond_false, chk_pos ck1, chk_pos ck2, b2, cond_false, chk_pos ck1, chk_pos ck2, b3, cond_false, wrap_id (n := (i : Int) + 1) (by omega) (by omega)]
      exact ih (i + 1) (by omega) (by omega)
    · rw [dfalse (show ¬ (i : Int) < (a.length : Int) by omega), cond_false]
theorem words_same {R : Type} (a b : List Token) (hl : a.length ≤ 1000000) (h : a.map stT = b.map stT) (k : Bool → Option R) : law03_Words a b k = k true := by
  have e : law03_Words a b k = law03_Words_X law03_Words_4_0_L a b k := rfl
  rw [e]
  unfold law03_Words_X
  have hlen : a.length = b.length := by have := congrArg List.length h; simpa using this
  have hn : ((a.length : Int) != (b.length : Int)) = false := by rw [hlen]; exact bne_self_eq_false _
  rw [hn, cond_false]
  exact words_loop a b hl h _ _ _ 0 (by omega) (by omega)

theorem posT_st : ∀ (l : List ItemT) (p : Nat), (posT p l).map stT = l.map fun x => stT x.2.2
  | [], _ => rfl
  | x :: l, p => by simp only [posT, List.map_cons, posT_st l]; rfl
theorem tokW_st : ∀ (l : List Item3) (p : Nat), (tokW p l).map stT = l.map fun x => stT x.2.2
  | [], _ => rfl
  | x :: l, p => by simp only [tokW, List.map_cons, tokW_st l]; rfl

end Go.Proofs.YtmlkkgfenfdndaaGreatDoor

/-
  Functions of the program as pure Lean functions, and the ties; printed by wip/tools/emit.py.
-/
set_option maxRecDepth 100000
set_option linter.unusedVariables false
namespace Go.Proofs.YtmlkkgfenfdndaaGreatDoor
open Go Go.Yard

/-! ### humpyard/humpyardlaw03.LexerJoins -/
abbrev law03_LexerJoins_ty (R : Type) : Type := (List Raw3) → (List Raw3) → Int → (Bool → Option R) → Option R
abbrev law03_LexerJoins_p : List Pat := [.leaf (.sl .raw3), .leaf (.sl .raw3), .leaf (.int .i64)]
abbrev law03_LexerJoins_q : List HPat := []
noncomputable def law03_LexerJoins_rr {R : Type} (fn : law03_LexerJoins_ty R) : Pat.dens law03_LexerJoins_p → HPat.dens law03_LexerJoins_q → (V → Heap → Option R) → Option R := fun x y k => fn x.1 x.2.1 x.2.2.1 (fun q0 => k (.bool q0) [])
abbrev law03_LexerJoins_4_0_ty (R : Type) : Type := Nat → (List Raw3) → (List Raw3) → Int → Bool → Str → Int → ((List Raw3) → Int → Bool → Str → Option R) → Option R
abbrev law03_LexerJoins_9_0_ty (R : Type) : Type := Nat → (List Raw3) → Int → Bool → Str → Str → Int → (Int → Bool → Str → Str → Option R) → Option R
noncomputable def law03_LexerJoins_E (R : Type) (law03_Word : law03_Word_ty R) (law03_Words : law03_Words_ty R) (law03_awake : law03_awake_ty R) (law03_pick : law03_pick_ty R) (lexer_Scan : lexer_Scan_ty R) : Env R := fun i => match i with
  | 24 => some (true, (specBy law03_Word_p law03_Word_q (law03_Word_rr law03_Word) specNo))
  | 29 => some (true, (specBy law03_Words_p law03_Words_q (law03_Words_rr law03_Words) specNo))
  | 23 => some (true, (specBy law03_awake_p law03_awake_q (law03_awake_rr law03_awake) specNo))
  | 27 => some (true, (specBy law03_pick_p law03_pick_q (law03_pick_rr law03_pick) specNo))
  | 25 => some (true, (specBy lexer_Scan_p lexer_Scan_q (lexer_Scan_rr lexer_Scan) specNo))
  | _ => none
theorem law03_LexerJoins_EOk (R : Type) : EOk Tryz.prog (law03_LexerJoins_E R law03_Word law03_Words law03_awake law03_pick lexer_Scan) := by
  intro i b sp h
  unfold law03_LexerJoins_E at h
  split at h
  · cases h; exact ⟨(law03_Word_S_ok R _ (specNo_ok _)), fun h => nomatch h⟩
  · cases h; exact ⟨(law03_Words_S_ok R _ (specNo_ok _)), fun h => nomatch h⟩
  · cases h; exact ⟨(law03_awake_S_ok R _ (specNo_ok _)), fun h => nomatch h⟩
  · cases h; exact ⟨(law03_pick_S_ok R _ (specNo_ok _)), fun h => nomatch h⟩
  · cases h; exact ⟨(lexer_Scan_S_ok R _ (specNo_ok _)), fun h => nomatch h⟩
  · cases h

noncomputable def law03_LexerJoins_4_0_B {R : Type} (law03_Word : law03_Word_ty R) (rec' : (List Raw3) → (List Raw3) → Int → Bool → Str → Int → Option R) (x5 : List Raw3) (x6 : List Raw3) (x7 : Int) (x8 : Bool) (x9 : Str) (x10 : Int) (e0 : (List Raw3) → Int → Bool → Str → Option R) : Option R :=
  bif (decide (x10 < (x5.length : Int))) then (bif (decide (x10 < (20 : Int))) then (chk (decide ((0 : Int) ≤ x10) && decide (x10 < x5.length)) (law03_Word (x5.getD x10.toNat (Ty.dflt .raw3)) (fun y12 => chk (decide (x9.length + y12.length ≤ 9223372036854775807)) (chk (decide ((x9 ++ y12).length + 1 ≤ 9223372036854775807)) (rec' x5 x6 x7 x8 ((x9 ++ y12) ++ ([32] : Str)) (IntKind.i64.wrap (x10 + 1))))))) else (e0 x6 x7 x8 x9)) else (e0 x6 x7 x8 x9)
noncomputable def law03_LexerJoins_4_0_L {R : Type} : law03_LexerJoins_4_0_ty R
  | 0, _, _, _, _, _, _, _ => none
  | n + 1, x0', x1', x2', x3', x4', x5', e0 => law03_LexerJoins_4_0_B law03_Word (fun x0' x1' x2' x3' x4' x5' => law03_LexerJoins_4_0_L n x0' x1' x2' x3' x4' x5' e0) x0' x1' x2' x3' x4' x5' e0
noncomputable def law03_LexerJoins_4_0_h : Hint := { live := [0, 1, 2, 7, 8, 9], own := [], rows := [], cells := [], drop := [], out := [1, 2, 6, 7, 8] }
abbrev law03_LexerJoins_4_0_D : Type := (List Raw3) × (List Raw3) × Int × Bool × Str × Int
noncomputable def law03_LexerJoins_4_0_enc : law03_LexerJoins_4_0_D → St := fun d => ⟨[.sl .raw3 d.1 .no, .sl .raw3 d.2.1 .no, .int .i64 d.2.2.1, .undef, .undef, .undef, .undef, .bool d.2.2.2.1, .str d.2.2.2.2.1, .int .i64 d.2.2.2.2.2, .undef, .undef, .undef, .undef, .undef, .undef, .undef, .undef, .undef, .undef, .undef, .undef, .undef, .undef, .undef, .undef, .undef, .undef, .undef, .undef, .undef, .undef, .undef, .undef, .undef, .undef, .undef, .undef, .undef, .undef, .undef, .undef, .undef, .undef, .undef, .undef, .undef, .undef, .undef, .undef, .undef, .undef, .undef, .undef, .undef, .undef, .undef, .undef, .undef, .undef, .undef, .undef, .undef, .undef, .undef, .undef, .undef, .undef, .undef, .undef, .undef, .undef, .undef, .undef, .undef, .undef, .undef, .undef, .undef, .undef, .undef, .undef, .undef, .undef, .undef, .undef, .undef, .undef, .undef, .undef, .undef, .undef, .undef, .undef, .undef, .undef, .undef, .undef, .undef, .undef, .undef, .undef, .undef, .undef, .undef, .undef, .undef, .undef, .undef, .undef, .undef, .undef, .undef, .undef, .undef, .undef, .undef, .undef, .undef, .undef, .undef, .undef, .undef, .undef, .undef, .undef, .undef, .undef, .undef, .undef, .undef], []⟩
noncomputable def law03_LexerJoins_4_0_x0 {R : Type} (K : Ex → St → Option R) (q0 : List Raw3) (q1 : Int) (q2 : Bool) (q3 : Str) : Option R := K (.exit 0) ⟨[.undef, .sl .raw3 q0 .no, .int .i64 q1, .undef, .undef, .undef, .undef, .bool q2, .str q3, .undef, .undef, .undef, .undef, .undef, .undef, .undef, .undef, .undef, .undef, .undef, .undef, .undef, .undef, .undef, .undef, .undef, .undef, .undef, .undef, .undef, .undef, .undef, .undef, .undef, .undef, .undef, .undef, .undef, .undef, .undef, .undef, .undef, .undef, .undef, .undef, .undef, .undef, .undef, .undef, .undef, .undef, .undef, .undef, .undef, .undef, .undef, .undef, .undef, .undef, .undef, .undef, .undef, .undef, .undef, .undef, .undef, .undef, .undef, .undef, .undef, .undef, .undef, .undef, .undef, .undef, .undef, .undef, .undef, .undef, .undef, .undef, .undef, .undef, .undef, .undef, .undef, .undef, .undef, .undef, .undef, .undef, .undef, .undef, .undef, .undef, .undef, .undef, .undef, .undef, .undef, .undef, .undef, .undef, .undef, .undef, .undef, .undef, .undef, .undef, .undef, .undef, .undef, .undef, .undef, .undef, .undef, .undef, .undef, .undef, .undef, .undef, .undef, .undef, .undef, .undef, .undef, .undef, .undef, .undef, .undef, .undef], []⟩
noncomputable def law03_LexerJoins_4_0_s {R : Type} (law03_Word : law03_Word_ty R) (K : Ex → St → Option R) (rc : law03_LexerJoins_4_0_D → Option R) (d : law03_LexerJoins_4_0_D) : Option R := law03_LexerJoins_4_0_B law03_Word (fun z0 z1 z2 z3 z4 z5 => rc (z0, z1, z2, z3, z4, z5)) d.1 d.2.1 d.2.2.1 d.2.2.2.1 d.2.2.2.2.1 d.2.2.2.2.2 (law03_LexerJoins_4_0_x0 K)
noncomputable def law03_LexerJoins_4_0_A {R : Type} (K : Ex → St → Option R) (n : Nat) (d : law03_LexerJoins_4_0_D) : Option R := law03_LexerJoins_4_0_L n d.1 d.2.1 d.2.2.1 d.2.2.2.1 d.2.2.2.2.1 d.2.2.2.2.2 (law03_LexerJoins_4_0_x0 K)
abbrev law03_LexerJoins_4_0_p : List Pat := [.leaf (.sl .raw3), .leaf (.sl .raw3), .leaf (.int .i64), .leaf (.undef), .leaf (.undef), .leaf (.undef), .leaf (.undef), .leaf (.bool), .leaf (.str), .leaf (.int .i64), .leaf (.undef), .leaf (.undef), .leaf (.undef), .leaf (.undef), .leaf (.undef), .leaf (.undef), .leaf (.undef), .leaf (.undef), .leaf (.undef), .leaf (.undef), .leaf (.undef), .leaf (.undef), .leaf (.undef), .leaf (.undef), .leaf (.undef), .leaf (.undef), .leaf (.undef), .leaf (.undef), .leaf (.undef), .leaf (.undef), .leaf (.undef), .leaf (.undef), .leaf (.undef), .leaf (.undef), .leaf (.undef), .leaf (.undef), .leaf (.undef), .leaf (.undef), .leaf (.undef), .leaf (.undef), .leaf (.undef), .leaf (.undef), .leaf (.undef), .leaf (.undef), .leaf (.undef), .leaf (.undef), .leaf (.undef), .leaf (.undef), .leaf (.undef), .leaf (.undef), .leaf (.undef), .leaf (.undef), .leaf (.undef), .leaf (.undef), .leaf (.undef), .leaf (.undef), .leaf (.undef), .leaf (.undef), .leaf (.undef), .leaf (.undef), .leaf (.undef), .leaf (.undef), .leaf (.undef), .leaf (.undef), .leaf (.undef), .leaf (.undef), .leaf (.undef), .leaf (.undef), .leaf (.undef), .leaf (.undef), .leaf (.undef), .leaf (.undef), .leaf (.undef), .leaf (.undef), .leaf (.undef), .leaf (.undef), .leaf (.undef), .leaf (.undef), .leaf (.undef), .leaf (.undef), .leaf (.undef), .leaf (.undef), .leaf (.undef), .leaf (.undef), .leaf (.undef), .leaf (.undef), .leaf (.undef), .leaf (.undef), .leaf (.undef), .leaf (.undef), .leaf (.undef), .leaf (.undef), .leaf (.undef), .leaf (.undef), .leaf (.undef), .leaf (.undef), .leaf (.undef), .leaf (.undef), .leaf (.undef), .leaf (.undef), .leaf (.undef), .leaf (.undef), .leaf (.undef), .leaf (.undef), .leaf (.undef), .leaf (.undef), .leaf (.undef), .leaf (.undef), .leaf (.undef), .leaf (.undef), .leaf (.undef), .leaf (.undef), .leaf (.undef), .leaf (.undef), .leaf (.undef), .leaf (.undef), .leaf (.undef), .leaf (.undef), .leaf (.undef), .leaf (.undef), .leaf (.undef), .leaf (.undef), .leaf (.undef), .leaf (.undef), .leaf (.undef), .leaf (.undef), .leaf (.undef), .leaf (.undef), .leaf (.undef), .leaf (.undef), .leaf (.undef)]
abbrev law03_LexerJoins_4_0_q : List HPat := []
noncomputable def law03_LexerJoins_4_0_f (x : Pat.dens law03_LexerJoins_4_0_p) (y : HPat.dens law03_LexerJoins_4_0_q) : Nat := (List.length x.1 + List.length x.2.1 + Int.natAbs x.2.2.1 + List.length x.2.2.2.2.2.2.2.2.1 + Int.natAbs x.2.2.2.2.2.2.2.2.2.1 + 64)
noncomputable def law03_LexerJoins_4_0_d (x : Pat.dens law03_LexerJoins_4_0_p) (y : HPat.dens law03_LexerJoins_4_0_q) : law03_LexerJoins_4_0_D := (x.1, x.2.1, x.2.2.1, x.2.2.2.2.2.2.2.1, x.2.2.2.2.2.2.2.2.1, x.2.2.2.2.2.2.2.2.2.1)
noncomputable def law03_LexerJoins_4_0_rr {R : Type} (L : law03_LexerJoins_4_0_ty R) : Pat.dens law03_LexerJoins_4_0_p → HPat.dens law03_LexerJoins_4_0_q → (Ex → St → Option R) → Option R := fun x y K => L (law03_LexerJoins_4_0_f x y) x.1 x.2.1 x.2.2.1 x.2.2.2.2.2.2.2.1 x.2.2.2.2.2.2.2.2.1 x.2.2.2.2.2.2.2.2.2.1 (law03_LexerJoins_4_0_x0 K)
noncomputable def law03_LexerJoins_9_0_B {R : Type} (law03_Word : law03_Word_ty R) (rec' : (List Raw3) → Int → Bool → Str → Str → Int → Option R) (x17 : List Raw3) (x18 : Int) (x19 : Bool) (x20 : Str) (x21 : Str) (x22 : Int) (e0 : Int → Bool → Str → Str → Option R) : Option R :=
  bif (decide (x22 < (x17.length : Int))) then (bif (decide (x22 < (20 : Int))) then (chk (decide (x21.length + 1 ≤ 9223372036854775807)) (chk (decide ((0 : Int) ≤ x22) && decide (x22 < x17.length)) (law03_Word (x17.getD x22.toNat (Ty.dflt .raw3)) (fun y24 => chk (decide ((x21 ++ ([32] : Str)).length + y24.length ≤ 9223372036854775807)) (rec' x17 x18 x19 x20 ((x21 ++ ([32] : Str)) ++ y24) (IntKind.i64.wrap (x22 + 1))))))) else (e0 x18 x19 x20 x21)) else (e0 x18 x19 x20 x21)
noncomputable def law03_LexerJoins_9_0_L {R : Type} : law03_LexerJoins_9_0_ty R
  | 0, _, _, _, _, _, _, _ => none
  | n + 1, x0', x1', x2', x3', x4', x5', e0 => law03_LexerJoins_9_0_B law03_Word (fun x0' x1' x2' x3' x4' x5' => law03_LexerJoins_9_0_L n x0' x1' x2' x3' x4' x5' e0) x0' x1' x2' x3' x4' x5' e0
noncomputable def law03_LexerJoins_9_0_h : Hint := { live := [1, 2, 7, 8, 10, 11], own := [], rows := [], cells := [], drop := [], out := [2, 6, 7, 8, 10] }
abbrev law03_LexerJoins_9_0_D : Type := (List Raw3) × Int × Bool × Str × Str × Int
noncomputable def law03_LexerJoins_9_0_enc : law03_LexerJoins_9_0_D → St := fun d => ⟨[.undef, .sl .raw3 d.1 .no, .int .i64 d.2.1, .undef, .undef, .undef, .undef, .bool d.2.2.1, .str d.2.2.2.1, .undef, .str d.2.2.2.2.1, .int .i64 d.2.2.2.2.2, .undef, .undef, .undef, .undef, .undef, .undef, .undef, .undef, .undef, .undef, .undef, .undef, .undef, .undef, .undef, .undef, .undef, .undef, .undef, .undef, .undef, .undef, .undef, .undef, .undef, .undef, .undef, .undef, .undef, .undef, .undef, .undef, .undef, .undef, .undef, .undef, .undef, .undef, .undef, .undef, .undef, .undef, .undef, .undef, .undef, .undef, .undef, .undef, .undef, .undef, .undef, .undef, .undef, .undef, .undef, .undef, .undef, .undef, .undef, .undef, .undef, .undef, .undef, .undef, .undef, .undef, .undef, .undef, .undef, .undef, .undef, .undef, .undef, .undef, .undef, .undef, .undef, .undef, .undef, .undef, .undef, .undef, .undef, .undef, .undef, .undef, .undef, .undef, .undef, .undef, .undef, .undef, .undef, .undef, .undef, .undef, .undef, .undef, .undef, .undef, .undef, .undef, .undef, .undef, .undef, .undef, .undef, .undef, .undef, .undef, .undef, .undef, .undef, .undef, .undef, .undef, .undef, .undef, .undef], []⟩
noncomputable def law03_LexerJoins_9_0_x0 {R : Type} (K : Ex → St → Option R) (q0 : Int) (q1 : Bool) (q2 : Str) (q3 : Str) : Option R := K (.exit 2) ⟨[.undef, .undef, .int .i64 q0, .undef, .undef, .undef, .undef, .bool q1, .str q2, .undef, .str q3, .undef, .undef, .undef, .undef, .undef, .undef, .undef, .undef, .undef, .undef, .undef, .undef, .undef, .undef, .undef, .undef, .undef, .undef, .undef, .undef, .undef, .undef, .undef, .undef, .undef, .undef, .undef, .undef, .undef, .undef, .undef, .undef, .undef, .undef, .undef, .undef, .undef, .undef, .undef, .undef, .undef, .undef, .undef, .undef, .undef, .undef, .undef, .undef, .undef, .undef, .undef, .undef, .undef, .undef, .undef, .undef, .undef, .undef, .undef, .undef, .undef, .undef, .undef, .undef, .undef, .undef, .undef, .undef, .undef, .undef, .undef, .undef, .undef, .undef, .undef, .undef, .undef, .undef, .undef, .undef, .undef, .undef, .undef, .undef, .undef, .undef, .undef, .undef, .undef, .undef, .undef, .undef, .undef, .undef, .undef, .undef, .undef, .undef, .undef, .undef, .undef, .undef, .undef, .undef, .undef, .undef, .undef, .undef, .undef, .undef, .undef, .undef, .undef, .undef, .undef, .undef, .undef, .undef, .undef, .undef], []⟩
noncomputable def law03_LexerJoins_9_0_s {R : Type} (law03_Word : law03_Word_ty R) (K : Ex → St → Option R) (rc : law03_LexerJoins_9_0_D → Option R) (d : law03_LexerJoins_9_0_D) : Option R := law03_LexerJoins_9_0_B law03_Word (fun z0 z1 z2 z3 z4 z5 => rc (z0, z1, z2, z3, z4, z5)) d.1 d.2.1 d.2.2.1 d.2.2.2.1 d.2.2.2.2.1 d.2.2.2.2.2 (law03_LexerJoins_9_0_x0 K)
noncomputable def law03_LexerJoins_9_0_A {R : Type} (K : Ex → St → Option R) (n : Nat) (d : law03_LexerJoins_9_0_D) : Option R := law03_LexerJoins_9_0_L n d.1 d.2.1 d.2.2.1 d.2.2.2.1 d.2.2.2.2.1 d.2.2.2.2.2 (law03_LexerJoins_9_0_x0 K)
abbrev law03_LexerJoins_9_0_p : List Pat := [.leaf (.undef), .leaf (.sl .raw3), .leaf (.int .i64), .leaf (.undef), .leaf (.undef), .leaf (.undef), .leaf (.undef), .leaf (.bool), .leaf (.str), .leaf (.undef), .leaf (.str), .leaf (.int .i64), .leaf (.undef), .leaf (.undef), .leaf (.undef), .leaf (.undef), .leaf (.undef), .leaf (.undef), .leaf (.undef), .leaf (.undef), .leaf (.undef), .leaf (.undef), .leaf (.undef), .leaf (.undef), .leaf (.undef), .leaf (.undef), .leaf (.undef), .leaf (.undef), .leaf (.undef), .leaf (.undef), .leaf (.undef), .leaf (.undef), .leaf (.undef), .leaf (.undef), .leaf (.undef), .leaf (.undef), .leaf (.undef), .leaf (.undef), .leaf (.undef), .leaf (.undef), .leaf (.undef), .leaf (.undef), .leaf (.undef), .leaf (.undef), .leaf (.undef), .leaf (.undef), .leaf (.undef), .leaf (.undef), .leaf (.undef), .leaf (.undef), .leaf (.undef), .leaf (.undef), .leaf (.undef), .leaf (.undef), .leaf (.undef), .leaf (.undef), .leaf (.undef), .leaf (.undef), .leaf (.undef), .leaf (.undef), .leaf (.undef), .leaf (.undef), .leaf (.undef), .leaf (.undef), .leaf (.undef), .leaf (.undef), .leaf (.undef), .leaf (.undef), .leaf (.undef), .leaf (.undef), .leaf (.undef), .leaf (.undef), .leaf (.undef), .leaf (.undef), .leaf (.undef), .leaf (.undef), .leaf (.undef), .leaf (.undef), .leaf (.undef), .leaf (.undef), .leaf (.undef), .leaf (.undef), .leaf (.undef), .leaf (.undef), .leaf (.undef), .leaf (.undef), .leaf (.undef), .leaf (.undef), .leaf (.undef), .leaf (.undef), .leaf (.undef), .leaf (.undef), .leaf (.undef), .leaf (.undef), .leaf (.undef), .leaf (.undef), .leaf (.undef), .leaf (.undef), .leaf (.undef), .leaf (.undef), .leaf (.undef), .leaf (.undef), .leaf (.undef), .leaf (.undef), .leaf (.undef), .leaf (.undef), .leaf (.undef), .leaf (.undef), .leaf (.undef), .leaf (.undef), .leaf (.undef), .leaf (.undef), .leaf (.undef), .leaf (.undef), .leaf (.undef), .leaf (.undef), .leaf (.undef), .leaf (.undef), .leaf (.undef), .leaf (.undef), .leaf (.undef), .leaf (.undef), .leaf (.undef), .leaf (.undef), .leaf (.undef), .leaf (.undef), .leaf (.undef), .leaf (.undef), .leaf (.undef), .leaf (.undef), .leaf (.undef)]
abbrev law03_LexerJoins_9_0_q : List HPat := []
noncomputable def law03_LexerJoins_9_0_f (x : Pat.dens law03_LexerJoins_9_0_p) (y : HPat.dens law03_LexerJoins_9_0_q) : Nat := (List.length x.2.1 + Int.natAbs x.2.2.1 + List.length x.2.2.2.2.2.2.2.2.1 + List.length x.2.2.2.2.2.2.2.2.2.2.1 + Int.natAbs x.2.2.2.2.2.2.2.2.2.2.2.1 + 64)
noncomputable def law03_LexerJoins_9_0_d (x : Pat.dens law03_LexerJoins_9_0_p) (y : HPat.dens law03_LexerJoins_9_0_q) : law03_LexerJoins_9_0_D := (x.2.1, x.2.2.1, x.2.2.2.2.2.2.2.1, x.2.2.2.2.2.2.2.2.1, x.2.2.2.2.2.2.2.2.2.2.1, x.2.2.2.2.2.2.2.2.2.2.2.1)
noncomputable def law03_LexerJoins_9_0_rr {R : Type} (L : law03_LexerJoins_9_0_ty R) : Pat.dens law03_LexerJoins_9_0_p → HPat.dens law03_LexerJoins_9_0_q → (Ex → St → Option R) → Option R := fun x y K => L (law03_LexerJoins_9_0_f x y) x.2.1 x.2.2.1 x.2.2.2.2.2.2.2.1 x.2.2.2.2.2.2.2.2.1 x.2.2.2.2.2.2.2.2.2.2.1 x.2.2.2.2.2.2.2.2.2.2.2.1 (law03_LexerJoins_9_0_x0 K)
noncomputable def law03_LexerJoins_T (R : Type) (law03_LexerJoins_4_0_L : law03_LexerJoins_4_0_ty R) (law03_LexerJoins_9_0_L : law03_LexerJoins_9_0_ty R) : Nat → Option (Hint × LSpec R) := fun i => match i with
  | 4 => some (law03_LexerJoins_4_0_h, (loopBy law03_LexerJoins_4_0_p law03_LexerJoins_4_0_q (law03_LexerJoins_4_0_rr law03_LexerJoins_4_0_L) loopNo))
  | 9 => some (law03_LexerJoins_9_0_h, (loopBy law03_LexerJoins_9_0_p law03_LexerJoins_9_0_q (law03_LexerJoins_9_0_rr law03_LexerJoins_9_0_L) loopNo))
  | _ => none

theorem law03_LexerJoins_4_0_B_ok {R : Type} (law03_Word : law03_Word_ty R) (law03_Words : law03_Words_ty R) (law03_awake : law03_awake_ty R) (law03_pick : law03_pick_ty R) (lexer_Scan : lexer_Scan_ty R) (law03_LexerJoins_4_0_L : law03_LexerJoins_4_0_ty R) (law03_LexerJoins_9_0_L : law03_LexerJoins_9_0_ty R) (K : Ex → St → Option R) (rc : St → Option R) (d : law03_LexerJoins_4_0_D) : roundOf tt (law03_LexerJoins_E R law03_Word law03_Words law03_awake law03_pick lexer_Scan) (law03_LexerJoins_T R law03_LexerJoins_4_0_L law03_LexerJoins_9_0_L) 0 ((loopsOf (codeOf Tryz.f7)).getD 0 .skip) law03_LexerJoins_4_0_h (law03_LexerJoins_4_0_enc d) rc K = law03_LexerJoins_4_0_s law03_Word K (fun d => rc (law03_LexerJoins_4_0_enc d)) d := by kernel_rfl
theorem law03_LexerJoins_4_0_A_succ {R : Type} (K : Ex → St → Option R) (n : Nat) (d : law03_LexerJoins_4_0_D) : law03_LexerJoins_4_0_A K (n + 1) d = law03_LexerJoins_4_0_s law03_Word K (law03_LexerJoins_4_0_A K n) d := by kernel_rfl
theorem law03_LexerJoins_4_0_A_zero {R : Type} (K : Ex → St → Option R) (d : law03_LexerJoins_4_0_D) : law03_LexerJoins_4_0_A K 0 d = none := by kernel_rfl
theorem law03_LexerJoins_4_0_e_ok (x : Pat.dens law03_LexerJoins_4_0_p) (y : HPat.dens law03_LexerJoins_4_0_q) : (⟨Pat.encL law03_LexerJoins_4_0_p x, HPat.encL law03_LexerJoins_4_0_q y⟩ : St) = law03_LexerJoins_4_0_enc (law03_LexerJoins_4_0_d x y) := by kernel_rfl
theorem law03_LexerJoins_4_0_r_ok {R : Type} (x : Pat.dens law03_LexerJoins_4_0_p) (y : HPat.dens law03_LexerJoins_4_0_q) (K : Ex → St → Option R) : law03_LexerJoins_4_0_rr (law03_LexerJoins_4_0_L) x y K = law03_LexerJoins_4_0_A K (law03_LexerJoins_4_0_f x y) (law03_LexerJoins_4_0_d x y) := by kernel_rfl
theorem law03_LexerJoins_4_0_ok {R : Type} (other : LSpec R) (ho : LsOk tt (law03_LexerJoins_E R law03_Word law03_Words law03_awake law03_pick lexer_Scan) (law03_LexerJoins_T R law03_LexerJoins_4_0_L law03_LexerJoins_9_0_L) 0 ((loopsOf (codeOf Tryz.f7)).getD 0 .skip) law03_LexerJoins_4_0_h other) : LsOk tt (law03_LexerJoins_E R law03_Word law03_Words law03_awake law03_pick lexer_Scan) (law03_LexerJoins_T R law03_LexerJoins_4_0_L law03_LexerJoins_9_0_L) 0 ((loopsOf (codeOf Tryz.f7)).getD 0 .skip) law03_LexerJoins_4_0_h (loopBy law03_LexerJoins_4_0_p law03_LexerJoins_4_0_q (law03_LexerJoins_4_0_rr (law03_LexerJoins_4_0_L)) other) :=
  loopBy_tie (A := law03_LexerJoins_4_0_A) ho (loop_tie law03_LexerJoins_4_0_enc (law03_LexerJoins_4_0_s law03_Word) (law03_LexerJoins_4_0_A) (law03_LexerJoins_4_0_A_zero) (law03_LexerJoins_4_0_B_ok law03_Word law03_Words law03_awake law03_pick lexer_Scan law03_LexerJoins_4_0_L law03_LexerJoins_9_0_L) (law03_LexerJoins_4_0_A_succ)) law03_LexerJoins_4_0_f law03_LexerJoins_4_0_d law03_LexerJoins_4_0_e_ok (law03_LexerJoins_4_0_r_ok)

theorem law03_LexerJoins_9_0_B_ok {R : Type} (law03_Word : law03_Word_ty R) (law03_Words : law03_Words_ty R) (law03_awake : law03_awake_ty R) (law03_pick : law03_pick_ty R) (lexer_Scan : lexer_Scan_ty R) (law03_LexerJoins_4_0_L : law03_LexerJoins_4_0_ty R) (law03_LexerJoins_9_0_L : law03_LexerJoins_9_0_ty R) (K : Ex → St → Option R) (rc : St → Option R) (d : law03_LexerJoins_9_0_D) : roundOf tt (law03_LexerJoins_E R law03_Word law03_Words law03_awake law03_pick lexer_Scan) (law03_LexerJoins_T R law03_LexerJoins_4_0_L law03_LexerJoins_9_0_L) 0 ((loopsOf (codeOf Tryz.f7)).getD 1 .skip) law03_LexerJoins_9_0_h (law03_LexerJoins_9_0_enc d) rc K = law03_LexerJoins_9_0_s law03_Word K (fun d => rc (law03_LexerJoins_9_0_enc d)) d := by kernel_rfl
theorem law03_LexerJoins_9_0_A_succ {R : Type} (K : Ex → St → Option R) (n : Nat) (d : law03_LexerJoins_9_0_D) : law03_LexerJoins_9_0_A K (n + 1) d = law03_LexerJoins_9_0_s law03_Word K (law03_LexerJoins_9_0_A K n) d := by kernel_rfl
theorem law03_LexerJoins_9_0_A_zero {R : Type} (K : Ex → St → Option R) (d : law03_LexerJoins_9_0_D) : law03_LexerJoins_9_0_A K 0 d = none := by kernel_rfl
theorem law03_LexerJoins_9_0_e_ok (x : Pat.dens law03_LexerJoins_9_0_p) (y : HPat.dens law03_LexerJoins_9_0_q) : (⟨Pat.encL law03_LexerJoins_9_0_p x, HPat.encL law03_LexerJoins_9_0_q y⟩ : St) = law03_LexerJoins_9_0_enc (law03_LexerJoins_9_0_d x y) := by kernel_rfl
theorem law03_LexerJoins_9_0_r_ok {R : Type} (x : Pat.dens law03_LexerJoins_9_0_p) (y : HPat.dens law03_LexerJoins_9_0_q) (K : Ex → St → Option R) : law03_LexerJoins_9_0_rr (law03_LexerJoins_9_0_L) x y K = law03_LexerJoins_9_0_A K (law03_LexerJoins_9_0_f x y) (law03_LexerJoins_9_0_d x y) := by kernel_rfl
theorem law03_LexerJoins_9_0_ok {R : Type} (other : LSpec R) (ho : LsOk tt (law03_LexerJoins_E R law03_Word law03_Words law03_awake law03_pick lexer_Scan) (law03_LexerJoins_T R law03_LexerJoins_4_0_L law03_LexerJoins_9_0_L) 0 ((loopsOf (codeOf Tryz.f7)).getD 1 .skip) law03_LexerJoins_9_0_h other) : LsOk tt (law03_LexerJoins_E R law03_Word law03_Words law03_awake law03_pick lexer_Scan) (law03_LexerJoins_T R law03_LexerJoins_4_0_L law03_LexerJoins_9_0_L) 0 ((loopsOf (codeOf Tryz.f7)).getD 1 .skip) law03_LexerJoins_9_0_h (loopBy law03_LexerJoins_9_0_p law03_LexerJoins_9_0_q (law03_LexerJoins_9_0_rr (law03_LexerJoins_9_0_L)) other) :=
  loopBy_tie (A := law03_LexerJoins_9_0_A) ho (loop_tie law03_LexerJoins_9_0_enc (law03_LexerJoins_9_0_s law03_Word) (law03_LexerJoins_9_0_A) (law03_LexerJoins_9_0_A_zero) (law03_LexerJoins_9_0_B_ok law03_Word law03_Words law03_awake law03_pick lexer_Scan law03_LexerJoins_4_0_L law03_LexerJoins_9_0_L) (law03_LexerJoins_9_0_A_succ)) law03_LexerJoins_9_0_f law03_LexerJoins_9_0_d law03_LexerJoins_9_0_e_ok (law03_LexerJoins_9_0_r_ok)

noncomputable def law03_LexerJoins_X {R : Type} (law03_Words : law03_Words_ty R) (law03_awake : law03_awake_ty R) (law03_pick : law03_pick_ty R) (lexer_Scan : lexer_Scan_ty R) (law03_LexerJoins_4_0_L : law03_LexerJoins_4_0_ty R) (law03_LexerJoins_9_0_L : law03_LexerJoins_9_0_ty R) (x1 : List Raw3) (x2 : List Raw3) (x3 : Int) (k0 : Bool → Option R) : Option R :=
  law03_awake (fun y4 => law03_LexerJoins_4_0_L (List.length x1 + List.length x2 + Int.natAbs x3 + List.length ([] : Str) + Int.natAbs 0 + 64) x1 x2 x3 y4 ([] : Str) 0 (fun y13 y14 y15 y16 => law03_LexerJoins_9_0_L (List.length y13 + Int.natAbs y14 + List.length y16 + List.length ([] : Str) + Int.natAbs 0 + 64) y13 y14 y15 y16 ([] : Str) 0 (fun y25 y26 y27 y28 => law03_pick y25 6 (fun y29 => chk (decide ((0 : Int) ≤ y29) && decide (y29 < (6 : Int))) (lexer_Scan y27 (fun y30 y31 y32 => lexer_Scan y28 (fun y33 y34 y35 => chk (decide ((0 : Int) ≤ (max (IntKind.i64.wrap ((y27.length : Int) - 1)) 0)) && decide ((max (IntKind.i64.wrap ((y27.length : Int) - 1)) 0) ≤ y27.length)) (chk (decide ((0 : Int) ≤ (max (IntKind.i64.wrap ((y27.length : Int) - 1)) 0))) (chk (decide (((y27.drop 0).take ((max (IntKind.i64.wrap ((y27.length : Int) - 1)) 0).toNat - 0)).length + (([([123] : Str), ([125] : Str), ([91] : Str), ([93] : Str), ([44] : Str), ([58] : Str)] : List Str).getD y29.toNat (Ty.dflt .str)).length ≤ 9223372036854775807)) (chk (decide ((((y27.drop 0).take ((max (IntKind.i64.wrap ((y27.length : Int) - 1)) 0).toNat - 0)) ++ (([([123] : Str), ([125] : Str), ([91] : Str), ([93] : Str), ([44] : Str), ([58] : Str)] : List Str).getD y29.toNat (Ty.dflt .str))).length + y28.length ≤ 9223372036854775807)) (lexer_Scan ((((y27.drop 0).take ((max (IntKind.i64.wrap ((y27.length : Int) - 1)) 0).toNat - 0)) ++ (([([123] : Str), ([125] : Str), ([91] : Str), ([93] : Str), ([44] : Str), ([58] : Str)] : List Str).getD y29.toNat (Ty.dflt .str))) ++ y28) (fun y36 y37 y38 => bif (!y26) then (k0 false) else (bif (y31 != 0) then (k0 false) else (bif (y34 != 0) then (k0 false) else (bif (y37 != 0) then (k0 false) else (bif ((y30.length : Int) == 0) then (k0 false) else (bif ((y33.length : Int) == 0) then (k0 false) else (chk (decide ((0 : Int) ≤ (IntKind.i64.wrap ((y30.length : Int) - 1))) && decide ((IntKind.i64.wrap ((y30.length : Int) - 1)) ≤ y30.length)) (chk (decide ((0 : Int) ≤ (IntKind.i64.wrap ((y30.length : Int) - 1)))) (chk (decide ((0 + ((y30.drop 0).take ((IntKind.i64.wrap ((y30.length : Int) - 1)).toNat - 0)).length) * 48 ≤ 140737488355328)) (chk (decide ((((y30.drop 0).take ((IntKind.i64.wrap ((y30.length : Int) - 1)).toNat - 0)).length + 1) * 48 ≤ 140737488355328)) (chk (decide (((((y30.drop 0).take ((IntKind.i64.wrap ((y30.length : Int) - 1)).toNat - 0)) ++ ([(⟨1, (([([123] : Str), ([125] : Str), ([91] : Str), ([93] : Str), ([44] : Str), ([58] : Str)] : List Str).getD y29.toNat (Ty.dflt .str)), ⟨0, 0⟩, 0⟩ : Token)] : List Token)).length + y33.length) * 48 ≤ 140737488355328)) (law03_Words y36 ((((y30.drop 0).take ((IntKind.i64.wrap ((y30.length : Int) - 1)).toNat - 0)) ++ ([(⟨1, (([([123] : Str), ([125] : Str), ([91] : Str), ([93] : Str), ([44] : Str), ([58] : Str)] : List Str).getD y29.toNat (Ty.dflt .str)), ⟨0, 0⟩, 0⟩ : Token)] : List Token)) ++ y33) (fun y40 => k0 y40))))))))))))))))))))))))
noncomputable def law03_LexerJoins {R : Type} : law03_LexerJoins_ty R := fun x1 x2 x3 k0 => law03_LexerJoins_X law03_Words law03_awake law03_pick lexer_Scan law03_LexerJoins_4_0_L law03_LexerJoins_9_0_L x1 x2 x3 k0
theorem law03_LexerJoins_ok {R : Type} (law03_Word : law03_Word_ty R) (law03_Words : law03_Words_ty R) (law03_awake : law03_awake_ty R) (law03_pick : law03_pick_ty R) (lexer_Scan : lexer_Scan_ty R) (law03_LexerJoins_4_0_L : law03_LexerJoins_4_0_ty R) (law03_LexerJoins_9_0_L : law03_LexerJoins_9_0_ty R) (x1 : List Raw3) (x2 : List Raw3) (x3 : Int) (k : V → Heap → Option R) : funK tt (law03_LexerJoins_E R law03_Word law03_Words law03_awake law03_pick lexer_Scan) (law03_LexerJoins_T R law03_LexerJoins_4_0_L law03_LexerJoins_9_0_L) false Tryz.f7 (codeOf Tryz.f7) [.sl .raw3 x1 .no, .sl .raw3 x2 .no, .int .i64 x3] [] k =
    law03_LexerJoins_X law03_Words law03_awake law03_pick lexer_Scan law03_LexerJoins_4_0_L law03_LexerJoins_9_0_L x1 x2 x3 (fun q0 => k (.bool q0) []) := by kernel_rfl
theorem law03_LexerJoins_loops (R : Type) : ∀ a ∈ loopsOf (codeOf Tryz.f7), LoopOk tt (law03_LexerJoins_E R law03_Word law03_Words law03_awake law03_pick lexer_Scan) (law03_LexerJoins_T R law03_LexerJoins_4_0_L law03_LexerJoins_9_0_L) 0 a := by
  refine loops_ok 2 (by kernel_rfl) fun i hi => ?_
  match i, hi with
  | 0, _ => exact loopOk_some (by kernel_rfl) (law03_LexerJoins_4_0_ok _ loopNo_ok)
  | 1, _ => exact loopOk_some (by kernel_rfl) (law03_LexerJoins_9_0_ok _ loopNo_ok)
  | n + 2, hi => omega
theorem law03_LexerJoins_S_ok (R : Type) (other : Yard.Spec R) (ho : Yard.Spec.Ok Tryz.prog 7 other) : Yard.Spec.Ok Tryz.prog 7 (specBy law03_LexerJoins_p law03_LexerJoins_q (law03_LexerJoins_rr law03_LexerJoins) other) :=
  specBy_ok ho (funK_sound TT mixed (law03_LexerJoins_EOk R) (keep := false) rfl rfl rfl rfl 0 (law03_LexerJoins_loops R)) fun (x : Pat.dens law03_LexerJoins_p) (y : HPat.dens law03_LexerJoins_q) k => law03_LexerJoins_ok law03_Word law03_Words law03_awake law03_pick lexer_Scan law03_LexerJoins_4_0_L law03_LexerJoins_9_0_L x.1 x.2.1 x.2.2.1 k

end Go.Proofs.YtmlkkgfenfdndaaGreatDoor

set_option linter.unusedVariables false
set_option maxRecDepth 100000
namespace Go.Proofs.YtmlkkgfenfdndaaGreatDoor
open Go Go.Yard Go.Lib

theorem layW_z : ∀ (l : List Item3) (z : Str), layW l z = layW l [] ++ z
  | [], z => by simp [layW]
  | x :: l, z => by simp only [layW]; rw [layW_z l z]; simp
theorem stop_toW : ∀ (l : List ItemT) (g z : Str), BlT g → stopR z → stopR (layW (toW g l) z)
  | [], _, _, _, hz => hz
  | x :: l, g, z, hg, _ => stop_bl hg _
theorem ok_toW2 : ∀ (l : List ItemT) (g z : Str), (∀ b ∈ g, blaB b = true) → OkT l → stopR z → okW (toW g l) z
  | [], _, _, _, _, _ => trivial
  | x :: l, g, z, hg, h, hz => by
    obtain ⟨hw, hb⟩ := h x (by simp)
    exact ⟨hg, hw.1, hw.2 _ (stop_toW l x.2.1 z hb hz), ok_toW2 l x.2.1 z hb.2 (fun y hy => h y (by simp [hy])) hz⟩

def jn (p : Str × Token) : Item3 := ([32], p.1, p.2)
theorem stop_jn : ∀ (l : List (Str × Token)), stopR (layW (l.map jn) [])
  | [] => .inl rfl
  | x :: l => .inr ⟨32, _, rfl, by decide, by decide⟩
theorem ok_jn : ∀ (l : List (Str × Token)), (∀ p ∈ l, Word p.1 p.2) → okW (l.map jn) []
  | [], _ => trivial
  | x :: l, h => ⟨by intro b hb; simp [jn] at hb; subst hb; decide, (h x (by simp)).1, (h x (by simp)).2 _ (stop_jn l), ok_jn l fun y hy => h y (by simp [hy])⟩
theorem jn_snoc (l : List Item3) (x : Item3) : layW (l ++ [x]) [] = layW l [] ++ (x.1 ++ x.2.1) := by rw [layW_app, layW_z]; simp [layW]

theorem joins4 {R : Type} (raw two : List Raw3) (sign : Int) (hl : raw.length ≤ 1048576) (f : Raw3 → Str × Token) (hf : ∀ x ∈ raw, RawW R x (f x)) (ok : Bool) (e0 : List Raw3 → Int → Bool → Str → Option R) : ∀ (n i : Nat), raw.length - i < n → i ≤ raw.length → i ≤ 20 →
    law03_LexerJoins_4_0_L n raw two sign ok (layT (((raw.take i).map f).map bk)) (i : Int) e0 = e0 two sign ok (layT (((raw.take 20).map f).map bk)) := by
  intro n
  induction n with
  | zero => intro i h; omega
  | succ n ih =>
    intro i h1 h2 h3
    rw [law03_LexerJoins_4_0_L]
    unfold law03_LexerJoins_4_0_B
    by_cases hi : i < raw.length
    · rw [dtrue (show (i : Int) < (raw.length : Int) by omega), cond_true]
      by_cases h40 : i < 20
      · have hx : RawW R raw[i] (f raw[i]) := hf _ (List.getElem_mem hi)
        have hg : raw.getD i (Ty.dflt .raw3) = raw[i] := getD_at hi _
        have hbl := bk_len (raw := raw.take i) (f := f) (R := R) fun x hx => hf x (List.mem_of_mem_take hx)
        have htl : (raw.take i).length = i := by rw [List.length_take]; omega
        rw [htl] at hbl
        have hwl := hx.len
        rw [dtrue (show (i : Int) < 20 by omega), cond_true, chk_pos (by rw [dtrue (show (0 : Int) ≤ (i : Int) by omega)]; rfl), Int.toNat_natCast, hg, hx.run, chk_pos (dtrue (by omega)), chk_pos (dtrue (by rw [List.length_append]; omega)), wrap_id (n := (i : Int) + 1) (by omega) (by omega)]
        have e1 : layT (((raw.take i).map f).map bk) ++ (f raw[i]).1 ++ [32] = layT (((raw.take (i + 1)).map f).map bk) := by
          rw [take_snoc raw i hi, List.map_append, List.map_append]
          simp only [List.map_cons, List.map_nil]
          rw [layT_snoc]
          simp [bk]
        have := ih (i + 1) (by omega) (by omega) (by omega)
        rw [← e1] at this
        exact this
      · rw [dfalse (show ¬ (i : Int) < 20 by omega), cond_false]
        have : i = 20 := by omega
        rw [this]
    · rw [dfalse (show ¬ (i : Int) < (raw.length : Int) by omega), cond_false, List.take_of_length_le (by omega), List.take_of_length_le (by omega)]

theorem jn_len {R : Type} : ∀ {raw : List Raw3} {f : Raw3 → Str × Token}, (∀ x ∈ raw, RawW R x (f x)) → (layW ((raw.map f).map jn) []).length ≤ 183 * raw.length
  | [], f, _ => by simp [layW]
  | x :: raw, f, h => by
    have h1 := (h x (by simp)).len
    have h2 := jn_len (raw := raw) (f := f) fun y hy => h y (by simp [hy])
    have e : (layW (((x :: raw).map f).map jn) []).length = 1 + ((f x).1.length + (layW ((raw.map f).map jn) []).length) := by simp [layW, jn]; omega
    rw [e, List.length_cons]
    omega

theorem joins9 {R : Type} (raw : List Raw3) (sign : Int) (s : Str) (hl : raw.length ≤ 1048576) (f : Raw3 → Str × Token) (hf : ∀ x ∈ raw, RawW R x (f x)) (ok : Bool) (e0 : Int → Bool → Str → Str → Option R) : ∀ (n i : Nat), raw.length - i < n → i ≤ raw.length → i ≤ 20 →
    law03_LexerJoins_9_0_L n raw sign ok s (layW (((raw.take i).map f).map jn) []) (i : Int) e0 = e0 sign ok s (layW (((raw.take 20).map f).map jn) []) := by
  intro n
  induction n with
  | zero => intro i h; omega
  | succ n ih =>
    intro i h1 h2 h3
    rw [law03_LexerJoins_9_0_L]
    unfold law03_LexerJoins_9_0_B
    by_cases hi : i < raw.length
    · rw [dtrue (show (i : Int) < (raw.length : Int) by omega), cond_true]
      by_cases h40 : i < 20
      · have hx : RawW R raw[i] (f raw[i]) := hf _ (List.getElem_mem hi)
        have hg : raw.getD i (Ty.dflt .raw3) = raw[i] := getD_at hi _
        have hbl := jn_len (raw := raw.take i) (f := f) (R := R) fun x hx => hf x (List.mem_of_mem_take hx)
        have htl : (raw.take i).length = i := by rw [List.length_take]; omega
        rw [htl] at hbl
        have hwl := hx.len
        have lone : ([32] : Str).length = 1 := rfl
        rw [dtrue (show (i : Int) < 20 by omega), cond_true, chk_pos (dtrue (by omega)), chk_pos (by rw [dtrue (show (0 : Int) ≤ (i : Int) by omega)]; rfl), Int.toNat_natCast, hg, hx.run, chk_pos (dtrue (by rw [List.length_append, lone]; omega)), wrap_id (n := (i : Int) + 1) (by omega) (by omega)]
        have e1 : layW (((raw.take i).map f).map jn) [] ++ [32] ++ (f raw[i]).1 = layW (((raw.take (i + 1)).map f).map jn) [] := by
          rw [take_snoc raw i hi, List.map_append, List.map_append]
          simp only [List.map_cons, List.map_nil]
          rw [jn_snoc]
          simp [jn]
        have := ih (i + 1) (by omega) (by omega) (by omega)
        rw [← e1] at this
        exact this
      · rw [dfalse (show ¬ (i : Int) < 20 by omega), cond_false]
        have : i = 20 := by omega
        rw [this]
    · rw [dfalse (show ¬ (i : Int) < (raw.length : Int) by omega), cond_false, List.take_of_length_le (by omega), List.take_of_length_le (by omega)]

theorem tokW_len : ∀ (l : List Item3) (p : Nat), (tokW p l).length = l.length
  | [], _ => rfl
  | x :: l, p => by simp [tokW, tokW_len l]

theorem cut_bk (l : List (Str × Token)) : (layT (l.map bk)).take ((layT (l.map bk)).length - 1) = layW (toW [] (l.map bk)) [] := by
  have e := lay_toW (l.map bk) [] []
  rw [List.append_nil, List.nil_append, List.append_nil, layW_z] at e
  have last : ∀ (l : List (Str × Token)) (g : Str), (g = [] ∨ g = [32]) → l ≠ [] ∨ g = [32] → lastG g (l.map bk) = [32] := by
    intro l
    induction l with
    | nil => intro g _ h; exact h.elim (fun h => (h rfl).elim) id
    | cons x l ih => intro g _ _; exact ih [32] (.inr rfl) (.inr rfl)
  cases l with
  | nil => rfl
  | cons x l =>
    have hl := last (x :: l) [] (.inl rfl) (.inl (by simp))
    rw [hl] at e
    rw [← e, List.length_append]
    simp

theorem lexerJoins_true {R : Type} (one two : List Raw3) (sign : Int) (h1 : Small 1048576 (.sl .raw3 one .no)) (h2 : Small 1048576 (.sl .raw3 two .no)) (hs : Small 1048576 (.int .i64 sign)) (k : Bool → Option R) : law03_LexerJoins one two sign k = k true := by
  obtain ⟨hl1, hok1⟩ := small_raw3 h1
  obtain ⟨hl2, hok2⟩ := small_raw3 h2
  obtain ⟨f, hf0⟩ := raw_words R
  have hf1 : ∀ x ∈ one, RawW R x (f x) := fun x hx => hf0 x (hok1 x hx)
  have hf2 : ∀ x ∈ two, RawW R x (f x) := fun x hx => hf0 x (hok2 x hx)
  have e : law03_LexerJoins one two sign k = law03_LexerJoins_X law03_Words law03_awake law03_pick lexer_Scan law03_LexerJoins_4_0_L law03_LexerJoins_9_0_L one two sign k := rfl
  rw [e]
  unfold law03_LexerJoins_X
  rw [awake03']
  have c0 : ((0 : Nat) : Int) = 0 := rfl
  have z1 : layT (((one.take 0).map f).map bk) = [] := by simp [layT]
  have z2 : layW (((two.take 0).map f).map jn) [] = [] := by simp [layW]
  have k4 := fun (F : Nat) (hF : one.length < F) (e0 : List Raw3 → Int → Bool → Str → Option R) => joins4 one two sign hl1 f hf1 true e0 F 0 (by omega) (by omega) (by omega)
  rw [z1, c0] at k4
  rw [k4 _ (by omega)]
  have k9 := fun (s : Str) (F : Nat) (hF : two.length < F) (e0 : Int → Bool → Str → Str → Option R) => joins9 two sign s hl2 f hf2 true e0 F 0 (by omega) (by omega) (by omega)
  rw [z2, c0] at k9
  rw [k9 _ _ (by omega)]
  obtain ⟨y, y0, y1, hy⟩ := pick03 (R := R) sign 6 (i64_has.1 hs.int_inv) (by omega) (by omega)
  rw [hy, chk_pos (by rw [dtrue y0, dtrue y1]; rfl)]
  have hsg : ∃ c : UInt8, sigB c = true ∧ ([([123] : Str), ([125] : Str), ([91] : Str), ([93] : Str), ([44] : Str), ([58] : Str)] : List Str).getD y.toNat (Ty.dflt .str) = [c] := by
    have h : y = 0 ∨ y = 1 ∨ y = 2 ∨ y = 3 ∨ y = 4 ∨ y = 5 := by omega
    rcases h with rfl | rfl | rfl | rfl | rfl | rfl <;> exact ⟨_, by decide, rfl⟩
  obtain ⟨c, hc, hget⟩ := hsg
  rw [hget]
  have hfm1 : ∀ x ∈ one.take 20, RawW R x (f x) := fun x hx => hf1 x (List.mem_of_mem_take hx)
  have hfm2 : ∀ x ∈ two.take 20, RawW R x (f x) := fun x hx => hf2 x (List.mem_of_mem_take hx)
  have t1 : (one.take 20).length ≤ 20 := by rw [List.length_take]; omega
  have t2 : (two.take 20).length ≤ 20 := by rw [List.length_take]; omega
  have b1 := bk_len (raw := one.take 20) (f := f) (R := R) hfm1
  have b2 := jn_len (raw := two.take 20) (f := f) (R := R) hfm2
  have ok1 := bk_ok hfm1
  have ok2 : okW (((two.take 20).map f).map jn) [] := ok_jn _ fun p hp => by
    obtain ⟨x, hx, rfl⟩ := List.mem_map.1 hp
    exact (hfm2 x hx).word
  have stp : stopR ([c] ++ layW (((two.take 20).map f).map jn) []) := stop_sign hc _
  have cut := cut_bk ((one.take 20).map f)
  have m1 : ((one.take 20).map f).length ≤ 20 := by rw [List.length_map]; exact t1
  have m2 : ((two.take 20).map f).length ≤ 20 := by rw [List.length_map]; exact t2
  generalize hA : (one.take 20).map f = A at *
  generalize hB : (two.take 20).map f = B at *
  have s1 := scanS_T (A.map bk) ok1 (by omega)
  have s2 := scanS_words (B.map jn) [] (by simp) ok2 (by have := layW_len (B.map jn) []; simp at this; simp; omega)
  have hdlay : layW (toW [] (A.map bk)) [] ++ [c] ++ layW (B.map jn) [] = layW (toW [] (A.map bk) ++ ([sg c] ++ B.map jn)) [] := by
    rw [layW_app, layW_app, layW_z (toW [] (A.map bk)) (layW ([sg c] : List ItemT) _)]
    simp [layW, sg]
  have ok3 : okW (toW [] (A.map bk) ++ ([sg c] ++ B.map jn)) [] := by
    rw [okW_app, okW_app]
    refine ⟨ok_toW2 _ _ _ (by simp) ok1 ?_, sign_any hc _, ok2⟩
    rw [layW_app]
    exact stp
  have hcl : (layW (toW [] (A.map bk)) []).length ≤ 20 * 183 := by rw [← cut, List.length_take]; omega
  have lapp : ∀ a b : Str, (a ++ b).length = a.length + b.length := fun a b => List.length_append
  have lone : ([c] : Str).length = 1 := rfl
  have s3 := scanS_words (toW [] (A.map bk) ++ ([sg c] ++ B.map jn)) [] (by simp) ok3 (by
    have h := layW_len (toW [] (A.map bk) ++ ([sg c] ++ B.map jn)) []
    rw [← hdlay, lapp, lapp, lone] at h
    simp only [List.length_nil, Nat.add_zero] at h ⊢
    omega)
  have hmax : max (IntKind.i64.wrap (((layT (A.map bk)).length : Int) - 1)) 0 = (((layT (A.map bk)).length - 1 : Nat) : Int) := by rw [wrap_id (by omega) (by omega)]; omega
  rw [scan_ok, s1]
  simp only
  rw [scan_ok, s2]
  simp only
  rw [hmax, Int.toNat_natCast, List.drop_zero, Nat.sub_zero, cut, chk_pos (by rw [dtrue (by omega), dtrue (by omega)]; rfl), chk_pos (dtrue (by omega)), chk_pos (dtrue (by rw [lone]; omega)), chk_pos (dtrue (by rw [lapp, lone]; omega)), hdlay, scan_ok, s3]
  simp only
  have pl : (posT 0 (A.map bk)).length = A.length := by rw [posT_len, List.length_map]
  have ja : (posT 0 (A.map bk) ++ ([⟨5, [], ⟨0, 0⟩, ((layT (A.map bk)).length : Int)⟩] : List Token)).length = A.length + 1 := by rw [List.length_append, pl]; rfl
  have jb : ∀ t : Token, (tokW 0 (B.map jn) ++ ([t] : List Token)).length = B.length + 1 := fun t => by rw [List.length_append, tokW_len, List.length_map]; rfl
  have q0 : ((0 : Int) != 0) = false := rfl
  have q1 : (((A.length + 1 : Nat) : Int) == 0) = false := by rw [beq_eq_false_iff_ne]; omega
  have q2 : (((B.length + 1 : Nat) : Int) == 0) = false := by rw [beq_eq_false_iff_ne]; omega
  have ht : (posT 0 (A.map bk) ++ ([⟨5, [], ⟨0, 0⟩, ((layT (A.map bk)).length : Int)⟩] : List Token)).take A.length = posT 0 (A.map bk) := by rw [← pl]; exact List.take_left
  have wA : IntKind.i64.wrap (((A.length + 1 : Nat) : Int) - 1) = (A.length : Int) := by rw [wrap_id (by omega) (by omega)]; omega
  simp only [List.length_nil, Nat.add_zero]
  rw [Bool.not_true, cond_false, q0, cond_false, cond_false, cond_false, ja, q1, cond_false]
  simp only [jb]
  rw [q2, cond_false, wA, chk_pos (by rw [dtrue (by omega), dtrue (by omega)]; rfl), chk_pos (dtrue (by omega)), Int.toNat_natCast, Nat.sub_zero, List.drop_zero, ht, pl, chk_pos (dtrue (by omega)), chk_pos (dtrue (by omega)), chk_pos (dtrue (by rw [List.length_append, pl]; simp only [List.length_cons, List.length_nil]; omega))]
  have toW_le : ∀ (l : List ItemT) (g : Str), (toW g l).length = l.length := by
    intro l
    induction l with
    | nil => intro g; rfl
    | cons x l ih => intro g; simp [toW, ih]
  have twl : (toW [] (A.map bk)).length = A.length := by rw [toW_le, List.length_map]
  refine words_same _ _ (by rw [List.length_append, tokW_len]; simp only [List.length_append, List.length_cons, List.length_nil, List.length_map]; omega) ?_ k
  have toW_st : ∀ (l : List ItemT) (g : Str), ((toW g l).map fun x => stT x.2.2) = l.map fun x => stT x.2.2 := by
    intro l
    induction l with
    | nil => intro g; rfl
    | cons x l ih => intro g; simp only [toW, List.map_cons, ih]
  simp only [List.map_append, tokW_st, posT_st, toW_st, List.map_cons, List.map_nil, List.append_assoc]
  rfl
end Go.Proofs.YtmlkkgfenfdndaaGreatDoor

set_option linter.unusedVariables false
set_option maxRecDepth 100000
namespace Go.Proofs.YtmlkkgfenfdndaaGreatDoor.lexerJoins
open Go.ChangeShapes Go.WideShapes Go.ChangeAt Go.RowKit Go.Yard Door

theorem run (a0 : List Raw3) (a1 : List Raw3) (a2 : Int) : specBy law03_LexerJoins_p law03_LexerJoins_q (law03_LexerJoins_rr law03_LexerJoins) specNo [.sl .raw3 a0 .no, .sl .raw3 a1 .no, .int .i64 a2] [] kOk = law03_LexerJoins a0 a1 a2 (fun q0 => kOk (.bool q0) []) := by kernel_rfl

theorem contract (H : Type) (enc : TypeId × Value → H) (W : World) (base : Nat) (args : Array Value) (ds gs : List (DataW H)) (before : List MemPlace)
    (hval : ∀ (j : Nat) t v, Tryz.f7.params[j]? = some t → args[j]? = some v → Value.okWide Tryz.prog W .any base t v)
    (hW : DataW.Whole enc Tryz.prog Tryz.f7.params.toList Rows.lexerJoinsSpec.vars false W args.toList ds gs before) (hL : laidMetH Tryz.prog Rows.lexerJoinsUptoRow.laid W) (hk : Rows.uptoSmall H (ds ++ gs) = true) :
    Calls Tryz.prog 7 args W fun e W' => ∃ v, e = .returned v ∧ Rows.lexerJoinsSpec.post enc Tryz.prog Tryz.f7 false true false false W args v W' := by
  have hW' := hW
  obtain ⟨p, q, hA0, hV, hpq, hfz, hnd⟩ := hW
  have hA : DataW.TrodAll enc Tryz.prog W 0 (fun _ => true) true [44, 44, 3] args.toList ds p := hA0
  have hval : ∀ (j : Nat) t v, (#[44, 44, 3] : Array Nat)[j]? = some t → args[j]? = some v → Value.okWide Tryz.prog W .any base t v := hval
  obtain ⟨v0, vs0, d0, ds0, p0, q0, hargs, rfl, rfl, h0, r0⟩ := trodAll_cons hA
  obtain ⟨v1, vs1, d1, ds1, p1, q1, rfl, rfl, rfl, h1, r1⟩ := trodAll_cons r0
  obtain ⟨v2, vs2, d2, ds2, p2, q2, rfl, rfl, rfl, h2, r2⟩ := trodAll_cons r1
  obtain ⟨rfl, rfl, rfl⟩ := trodAll_nil r2
  obtain rfl : args = #[v0, v1, v2] := by cases args; simp_all
  have hV' : DataW.TrodVars enc Tryz.prog W (fun _ => true) [] gs q := hV
  obtain ⟨rfl, rfl⟩ := trodVars_none hV'
  have hb : Rows.uptoBulkAll ([d0, d1, d2] ++ []) ≤ 1048576 := of_decide_eq_true hk
  simp only [List.append_nil, Rows.uptoBulkAll] at hb
  obtain ⟨a0, q0, s0⟩ := arg_one (p := .sl .raw3) (N := 1048576) leaves (by kernel_rfl) (by kernel_rfl) (hval 0 44 v0 rfl rfl) h0 (by omega) (Nat.le_of_ble_eq_true rfl)
  obtain ⟨a1, q1, s1⟩ := arg_one (p := .sl .raw3) (N := 1048576) leaves (by kernel_rfl) (by kernel_rfl) (hval 1 44 v1 rfl rfl) h1 (by omega) (Nat.le_of_ble_eq_true rfl)
  obtain ⟨a2, q2, s2⟩ := arg_one (p := .int .i64) (N := 1048576) leaves (by kernel_rfl) (by kernel_rfl) (hval 2 3 v2 rfl rfl) h2 (by omega) (Nat.le_of_ble_eq_true rfl)
  have ra : RepL W [] cfg0 [.sl .raw3 a0 .no, .sl .raw3 a1 .no, .int .i64 a2] #[v0, v1, v2].toList := (.cons q0 (.cons q1 (.cons q2 .nil)))
  obtain ⟨hsays, hblocks⟩ := lay_met (W := W) hL
  refine (calls_true Tryz.func7 rfl rfl (law03_LexerJoins_S_ok Unit _ (specNo_ok _)) hsays hblocks ra ((run a0 a1 a2).trans (lexerJoins_true a0 a1 a2 s0 s1 s2 (fun q0 => kOk (.bool q0) [])))).mono fun e W' ⟨he, L⟩ => ⟨_, he, ?_⟩
  exact post_true (by kernel_rfl) (params_ok (by kernel_rfl)) rfl rfl rfl (show Tryz.prog.underlying 4 = some .bool by kernel_rfl) hW' L

theorem reads (os : Os) {H : Type} (enc : TypeId × Value → H) : (DataW.whole enc Tryz.prog ((laidWorld os).forCall (fun _ _ => 0) ⟨#[], #[.slice none 0 0, .slice none 0 0, .int .i64 0], []⟩).memory Tryz.f7.params.toList Rows.lexerJoinsSpec.vars false (#[.slice none 0 0, .slice none 0 0, .int .i64 0] : Array Value).toList 8).map (fun x => (x.1, x.2.1)) = some ([.nil, .nil, .lit (.int .i64 0)], []) := by kernel_rfl
theorem lifted (os : Os) (started : os.Started) (H : Type) (enc : TypeId × Value → H) (F : Stop.Interp) :
    ReturnsInHanded {} Tryz.checked os 7 .any ((Rows.OpenSpec.upto Rows.lexerJoinsSpec).preRow enc Tryz.prog Tryz.f7 Rows.lexerJoinsUptoRow.domain false Rows.lexerJoinsUptoRow.laid) (((Rows.OpenSpec.upto Rows.lexerJoinsSpec).at F).post enc Tryz.prog Tryz.f7 false true false false) := by
  obtain ⟨⟨x1, x2, x3⟩, hx, hx1⟩ := Option.map_eq_some_iff.1 (reads os enc)
  simp only [Prod.mk.injEq] at hx1
  obtain ⟨rfl, rfl⟩ := hx1
  refine returnsInHanded_of_row (C := Tryz.checked) (s := Rows.OpenSpec.upto Rows.lexerJoinsSpec) own started (by kernel_rfl) Tryz.func7
    (witness_row_atRef (enc := enc) (C := Tryz.checked) false (laidWorld os) #[.slice none 0 0, .slice none 0 0, .int .i64 0] rfl (by kernel_rfl) (by kernel_rfl) (by kernel_rfl)
      (OpenSpec.preRow_of_cond 8 hx (by kernel_rfl) (fun k hk => by cases hk; kernel_rfl) (by kernel_rfl) (laid_met os _))) ?_
  intro W base args ds gs before hval hW _ hcond _ hL _ _
  exact contract H enc W base args ds gs before hval hW hL (hcond _ rfl)

theorem saidUpto : Rows.LexerJoinsUptoSaid :=
  OpenClaim.holds_of_cond 7 Tryz.f7 rfl rfl rfl rfl rfl rfl rfl ⟨rfl, rfl, rfl, rfl, rfl⟩ rfl rfl rfl rfl rfl (by kernel_rfl) Tryz.func7 (by kernel_rfl)
    (of_decide_eq_true (by kernel_rfl)) (by unfold Func.isWrapper; first | (rw [if_pos (by decide +kernel)]; kernel_rfl) | (rw [if_neg (by decide +kernel)]; exact ⟨rfl, rfl⟩))
    (fun os started H enc _ F => by rw [OpenClaim.pre_eq_preRow]; exact lifted os started H enc F)

theorem plain (f : FuncId) (fn : Func) (hf : Tryz.pinned.checked.prog.funcNamed "humpyard/humpyardlaw03.LexerJoins" = some f) (hfn : Tryz.pinned.checked.prog.funcs[f]? = some fn) :
    true = Tryz.pinned.checked.prog.looks [] ∧ ∀ (j : Nat) t, fn.params[j]? = some t → Tryz.pinned.checked.prog.wantsStandIn t = false := by
  obtain rfl : f = 7 := Option.some.inj ((show Tryz.prog.funcNamed "humpyard/humpyardlaw03.LexerJoins" = some 7 by kernel_rfl).symm.trans hf) |>.symm
  obtain rfl : fn = Tryz.f7 := (Option.some.inj (Tryz.func7.symm.trans hfn)).symm
  refine ⟨by kernel_rfl, fun j t ht => ?_⟩
  have hall : Tryz.f7.params.toList.all (fun t => !Tryz.prog.wantsStandIn t) = true := by kernel_rfl
  have hm : t ∈ Tryz.f7.params.toList := Array.mem_toList_iff.2 (Array.mem_of_getElem? ht)
  have := List.all_eq_true.1 hall t hm
  exact (show Tryz.prog.wantsStandIn t = false by simpa using this)
end Go.Proofs.YtmlkkgfenfdndaaGreatDoor.lexerJoins
namespace Go.Proofs.YtmlkkgfenfdndaaGreatDoor
open Go.RowKit
theorem lexerJoins_card_upto : Rows.LexerJoinsUptoCardSaid :=
  Claim7.holds_tied_plain_at .later [] _ _ _ _ lexerJoins.saidUpto (fun _ h => by cases h) (by kernel_rfl) (fun _ h => by cases h) lexerJoinsUpto_row_tie rfl ⟨rfl, rfl⟩ (by kernel_rfl) rfl lexerJoins.plain (by kernel_rfl)
end Go.Proofs.YtmlkkgfenfdndaaGreatDoor

