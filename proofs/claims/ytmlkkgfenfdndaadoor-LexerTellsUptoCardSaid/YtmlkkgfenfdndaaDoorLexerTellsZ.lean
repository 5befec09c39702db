/-
  LexerTells: for every input whose bulk is at most 1048576 the law returns true, and each argument reads behind the call as it read before; part 9 of 9 of the proof: an interpreter of the model's code over typed data, proved sound; the functions that the law reaches, printed as Lean functions and tied; the plain law. Own texts laid one behind the other.
-/
import Derived.Test.YtmlkkgfenfdndaaDoorLexerTellsB8
set_option linter.unusedSimpArgs false
set_option linter.unnecessarySimpa false
set_option linter.unusedVariables false
set_option linter.unusedSectionVars false
set_option linter.unusedVariables false
set_option maxRecDepth 100000
namespace Go.Proofs.YtmlkkgfenfdndaaDoor
open Go Go.Yard Go.Lib

theorem top2 : ∀ b : Fin 256, (IntKind.u8.wrap ((BitVec.ofInt IntKind.u8.bits (b.val : Int) &&& BitVec.ofInt IntKind.u8.bits 192).toNat : Int) != 128) = decide (b.val / 64 ≠ 2) := by decide +kernel
theorem and31 : ∀ b : Fin 256, IntKind.i64.wrap (IntKind.u8.wrap ((BitVec.ofInt IntKind.u8.bits (b.val : Int) &&& BitVec.ofInt IntKind.u8.bits 31).toNat : Int)) = ((b.val % 32 : Nat) : Int) := by decide +kernel
theorem and15b : ∀ b : Fin 256, IntKind.i64.wrap (IntKind.u8.wrap ((BitVec.ofInt IntKind.u8.bits (b.val : Int) &&& BitVec.ofInt IntKind.u8.bits 15).toNat : Int)) = ((b.val % 16 : Nat) : Int) := by decide +kernel
theorem and7 : ∀ b : Fin 256, IntKind.i64.wrap (IntKind.u8.wrap ((BitVec.ofInt IntKind.u8.bits (b.val : Int) &&& BitVec.ofInt IntKind.u8.bits 7).toNat : Int)) = ((b.val % 8 : Nat) : Int) := by decide +kernel

theorem of64 (n : Nat) (h : n < 18446744073709551616) : (BitVec.ofInt IntKind.i64.bits (n : Int)).toNat = n := by
  rw [BitVec.toNat_ofInt]
  show ((n : Int) % ((2 ^ 64 : Nat) : Int)).toNat = n
  omega

theorem or6 (v x : Nat) (hv : v < 1073741824) (hx : x < 64) :
    IntKind.i64.wrap ((BitVec.ofInt IntKind.i64.bits (IntKind.i64.wrap ((v : Int) * 2 ^ (min 6 IntKind.i64.bits))) ||| BitVec.ofInt IntKind.i64.bits (IntKind.i64.wrap (x : Int))).toNat : Int) = ((v * 64 + x : Nat) : Int) := by
  have e : (v : Int) * 2 ^ (min 6 IntKind.i64.bits) = ((v * 64 : Nat) : Int) := by
    show (v : Int) * 2 ^ 6 = _
    omega
  rw [e, wrap_id (n := ((v * 64 : Nat) : Int)) (by omega) (by omega), wrap_id (n := (x : Int)) (by omega) (by omega), BitVec.toNat_or, of64 _ (by omega), of64 _ (by omega)]
  have h2 : v * 64 ||| x = v * 64 + x := by
    have := Nat.two_pow_add_eq_or_of_lt (i := 6) (b := x) (by omega) v
    rw [show (2 : Nat) ^ 6 = 64 from rfl] at this
    rw [Nat.mul_comm v 64]
    exact this.symm
  rw [h2, wrap_id (by omega) (by omega)]

theorem one_round {R : Type} {s : Str} {i n low v k : Nat} (hs : s.length ≤ 9000000000000000) (hk : k < n) (hi : i + k < s.length) (hv : v < 1073741824) (rec' : Str → Int → Int → Int → Int → Int → Option R) (e0 : Int → Int → Int → Option R) (e1 : Int → Int → Int → Int → Option R) :
    ref02_one_23_0_B rec' s (i : Int) (n : Int) (low : Int) (v : Int) (k : Int) e0 e1 = if (s.getD (i + k) 0).toNat / 64 = 2 then rec' s (i : Int) (n : Int) (low : Int) ((v * 64 + (s.getD (i + k) 0).toNat % 64 : Nat) : Int) ((k + 1 : Nat) : Int) else e1 0 (n : Int) (low : Int) (v : Int) := by
  unfold ref02_one_23_0_B
  have hw : IntKind.i64.wrap ((i : Int) + (k : Int)) = ((i + k : Nat) : Int) := by rw [wrap_id (by omega) (by omega)]; omega
  have hk1 : IntKind.i64.wrap ((k : Int) + 1) = ((k + 1 : Nat) : Int) := by rw [wrap_id (by omega) (by omega)]; omega
  rw [hw, hk1, Int.toNat_natCast, dtrue (show (k : Int) < (n : Int) by omega), cond_true, chk_pos (by rw [dtrue (by omega), dtrue (by omega)]; rfl)]
  have hb := UInt8.toNat_lt (s.getD (i + k) 0)
  generalize (s.getD (i + k) 0).toNat = b at *
  have t := top2 ⟨b, hb⟩
  simp only at t
  rw [t]
  by_cases h : b / 64 = 2
  · rw [dfalse (show ¬ b / 64 ≠ 2 by omega), cond_false, if_pos h, chk_pos (by rw [dtrue (by omega), dtrue (by omega)]; rfl)]
    have a := and63 ⟨b, hb⟩
    simp only at a
    rw [a, or6 v (b % 64) hv (Nat.mod_lt _ (by omega))]
  · rw [dtrue h, cond_true, if_neg h]

def oneN (t : Str) : Nat := if good t then (decodeL t).2 else 0

def tail (low v n : Nat) : Nat := if v < low ∨ 1114111 < v ∨ (55296 ≤ v ∧ v ≤ 57343) then 0 else n
theorem tail_ok {R : Type} (low v n : Nat) (k : Int → Option R) : (bif (decide ((v : Int) < (low : Int))) then (k 0) else (bif (decide ((v : Int) > (1114111 : Int))) then (k 0) else (bif (decide ((v : Int) ≥ (55296 : Int))) then (bif (decide ((v : Int) ≤ (57343 : Int))) then (k 0) else (k (n : Int))) else (k (n : Int))))) = k (tail low v n : Int) := by
  unfold tail
  by_cases h1 : v < low
  · rw [dtrue (show (v : Int) < (low : Int) by omega), if_pos (.inl h1)]; rfl
  rw [dfalse (show ¬ (v : Int) < (low : Int) by omega), cond_false]
  by_cases h2 : 1114111 < v
  · rw [dtrue (show (v : Int) > 1114111 by omega), if_pos (.inr (.inl h2))]; rfl
  rw [dfalse (show ¬ (v : Int) > 1114111 by omega), cond_false]
  by_cases h3 : 55296 ≤ v
  · rw [dtrue (show (v : Int) ≥ 55296 by omega), cond_true]
    by_cases h4 : v ≤ 57343
    · rw [dtrue (show (v : Int) ≤ 57343 by omega), if_pos (.inr (.inr ⟨h3, h4⟩))]; rfl
    · rw [dfalse (show ¬ (v : Int) ≤ 57343 by omega), if_neg (by omega)]; rfl
  · rw [dfalse (show ¬ (v : Int) ≥ 55296 by omega), if_neg (by omega)]; rfl

def refN (l b0 b1 b2 b3 : Nat) : Nat :=
  if b0 < 128 then 1
  else if 194 ≤ b0 ∧ b0 ≤ 223 then (if l < 2 then 0 else if b1 / 64 = 2 then tail 128 (b0 % 32 * 64 + b1 % 64) 2 else 0)
  else if 224 ≤ b0 ∧ b0 ≤ 239 then (if l < 3 then 0 else if b1 / 64 = 2 then (if b2 / 64 = 2 then tail 2048 ((b0 % 16 * 64 + b1 % 64) * 64 + b2 % 64) 3 else 0) else 0)
  else if 240 ≤ b0 ∧ b0 ≤ 244 then (if l < 4 then 0 else if b1 / 64 = 2 then (if b2 / 64 = 2 then (if b3 / 64 = 2 then tail 65536 (((b0 % 8 * 64 + b1 % 64) * 64 + b2 % 64) * 64 + b3 % 64) 4 else 0) else 0) else 0)
  else 0

set_option maxHeartbeats 4000000 in
theorem refN_eq (l b0 b1 b2 b3 : Nat) (hl : 1 ≤ l) (h0 : b0 < 256) (h1 : b1 < 256) (h2 : b2 < 256) (h3 : b3 < 256) :
    refN l b0 b1 b2 b3 = if (decodeN l b0 b1 b2 b3).1 = 65533 ∧ (decodeN l b0 b1 b2 b3).2 = 1 then 0 else (decodeN l b0 b1 b2 b3).2 := by
  unfold refN tail decodeN
  by_cases c0 : b0 < 128
  · simp only [c0, if_true]
    rw [if_neg (by omega)]
  simp only [c0, if_false]
  by_cases c1 : 194 ≤ b0 ∧ b0 ≤ 223
  · simp only [c1, and_self, if_true]
    have d6 : b0 / 32 = 6 := by omega
    have d14 : ¬ b0 / 16 = 14 := by omega
    have d30 : ¬ b0 / 8 = 30 := by omega
    simp only [d6, d14, d30, true_and, false_and, if_false]
    (repeat' split) <;> first | rfl | omega | (simp at *; omega)
  simp only [c1, if_false]
  by_cases c2 : 224 ≤ b0 ∧ b0 ≤ 239
  · simp only [c2, and_self, if_true]
    have d6 : ¬ b0 / 32 = 6 := by omega
    have d14 : b0 / 16 = 14 := by omega
    have d30 : ¬ b0 / 8 = 30 := by omega
    simp only [d6, d14, d30, true_and, false_and, if_false]
    have hv : (b0 % 16 * 64 + b1 % 64) * 64 + b2 % 64 = b0 % 16 * 4096 + b1 % 64 * 64 + b2 % 64 := by omega
    rw [hv]
    generalize b0 % 16 * 4096 + b1 % 64 * 64 + b2 % 64 = v
    (repeat' split) <;> first | rfl | omega | (simp at *; omega)
  simp only [c2, if_false]
  by_cases c3 : 240 ≤ b0 ∧ b0 ≤ 244
  · simp only [c3, and_self, if_true]
    have d6 : ¬ b0 / 32 = 6 := by omega
    have d14 : ¬ b0 / 16 = 14 := by omega
    have d30 : b0 / 8 = 30 := by omega
    simp only [d6, d14, d30, true_and, false_and, if_false]
    have hv : ((b0 % 8 * 64 + b1 % 64) * 64 + b2 % 64) * 64 + b3 % 64 = b0 % 8 * 262144 + b1 % 64 * 4096 + b2 % 64 * 64 + b3 % 64 := by omega
    rw [hv]
    generalize b0 % 8 * 262144 + b1 % 64 * 4096 + b2 % 64 * 64 + b3 % 64 = v
    (repeat' split) <;> first | rfl | omega | (simp at *; omega)
  simp only [c3, if_false]
  (repeat' split) <;> first | rfl | omega | (simp at *; omega)
end Go.Proofs.YtmlkkgfenfdndaaDoor

set_option linter.unusedVariables false
set_option maxRecDepth 100000
namespace Go.Proofs.YtmlkkgfenfdndaaDoor
open Go Go.Yard Go.Lib

theorem one_L {R : Type} (n : Nat) (s : Str) (a b c d e : Int) (e0 : Int → Int → Int → Option R) (e1 : Int → Int → Int → Int → Option R) :
    ref02_one_23_0_L (n + 1) s a b c d e e0 e1 = ref02_one_23_0_B (fun x0' x1' x2' x3' x4' x5' => ref02_one_23_0_L n x0' x1' x2' x3' x4' x5' e0 e1) s a b c d e e0 e1 := rfl

theorem one_end {R : Type} (s : Str) (i n low v : Int) (rec' : Str → Int → Int → Int → Int → Int → Option R) (e0 : Int → Int → Int → Option R) (e1 : Int → Int → Int → Int → Option R) :
    ref02_one_23_0_B rec' s i n low v n e0 e1 = e0 n low v := by
  unfold ref02_one_23_0_B
  rw [dfalse (Int.lt_irrefl _), cond_false]

theorem one2 {R : Type} {s : Str} {i low v F : Nat} (hs : s.length ≤ 9000000000000000) (hi : i + 2 ≤ s.length) (hv : v < 64) (hF : 3 ≤ F) (e0 : Int → Int → Int → Option R) (e1 : Int → Int → Int → Int → Option R) :
    ref02_one_23_0_L F s (i : Int) 2 (low : Int) (v : Int) 1 e0 e1 = if (s.getD (i + 1) 0).toNat / 64 = 2 then e0 2 (low : Int) ((v * 64 + (s.getD (i + 1) 0).toNat % 64 : Nat) : Int) else e1 0 2 (low : Int) (v : Int) := by
  obtain ⟨n, rfl⟩ : ∃ n, F = n + 2 := ⟨F - 2, by omega⟩
  rw [one_L]
  refine (one_round (n := 2) (k := 1) hs (by omega) (by omega) (by omega) _ e0 e1).trans ?_
  by_cases h : (s.getD (i + 1) 0).toNat / 64 = 2
  · rw [if_pos h, if_pos h]
    show ref02_one_23_0_L (n + 1) s (i : Int) ((2 : Nat) : Int) (low : Int) _ ((1 + 1 : Nat) : Int) e0 e1 = _
    rw [one_L]
    exact one_end s i 2 low _ _ e0 e1
  · rw [if_neg h, if_neg h]; rfl

theorem one3 {R : Type} {s : Str} {i low v F : Nat} (hs : s.length ≤ 9000000000000000) (hi : i + 3 ≤ s.length) (hv : v < 64) (hF : 4 ≤ F) (e0 : Int → Int → Int → Option R) (k : Int → Option R) :
    ref02_one_23_0_L F s (i : Int) 3 (low : Int) (v : Int) 1 e0 (fun y21 _ _ _ => k y21) = if (s.getD (i + 1) 0).toNat / 64 = 2 then (if (s.getD (i + 2) 0).toNat / 64 = 2 then e0 3 (low : Int) (((v * 64 + (s.getD (i + 1) 0).toNat % 64) * 64 + (s.getD (i + 2) 0).toNat % 64 : Nat) : Int) else k 0) else k 0 := by
  obtain ⟨n, rfl⟩ : ∃ n, F = n + 3 := ⟨F - 3, by omega⟩
  rw [one_L]
  refine (one_round (n := 3) (k := 1) hs (by omega) (by omega) (by omega) _ e0 _).trans ?_
  by_cases h : (s.getD (i + 1) 0).toNat / 64 = 2
  · rw [if_pos h, if_pos h]
    show ref02_one_23_0_L (n + 2) s (i : Int) ((3 : Nat) : Int) (low : Int) _ ((2 : Nat) : Int) e0 _ = _
    rw [one_L]
    refine (one_round (n := 3) (k := 2) hs (by omega) (by omega) (by omega) _ e0 _).trans ?_
    by_cases h2 : (s.getD (i + 2) 0).toNat / 64 = 2
    · rw [if_pos h2, if_pos h2]
      show ref02_one_23_0_L (n + 1) s (i : Int) ((3 : Nat) : Int) (low : Int) _ ((3 : Nat) : Int) e0 _ = _
      rw [one_L]
      exact one_end s i 3 low _ _ e0 _
    · rw [if_neg h2, if_neg h2]
  · rw [if_neg h, if_neg h]

theorem one4 {R : Type} {s : Str} {i low v F : Nat} (hs : s.length ≤ 9000000000000000) (hi : i + 4 ≤ s.length) (hv : v < 64) (hF : 5 ≤ F) (e0 : Int → Int → Int → Option R) (k : Int → Option R) :
    ref02_one_23_0_L F s (i : Int) 4 (low : Int) (v : Int) 1 e0 (fun y21 _ _ _ => k y21) = if (s.getD (i + 1) 0).toNat / 64 = 2 then (if (s.getD (i + 2) 0).toNat / 64 = 2 then (if (s.getD (i + 3) 0).toNat / 64 = 2 then
      e0 4 (low : Int) ((((v * 64 + (s.getD (i + 1) 0).toNat % 64) * 64 + (s.getD (i + 2) 0).toNat % 64) * 64 + (s.getD (i + 3) 0).toNat % 64 : Nat) : Int) else k 0) else k 0) else k 0 := by
  obtain ⟨n, rfl⟩ : ∃ n, F = n + 4 := ⟨F - 4, by omega⟩
  rw [one_L]
  refine (one_round (n := 4) (k := 1) hs (by omega) (by omega) (by omega) _ e0 _).trans ?_
  by_cases h : (s.getD (i + 1) 0).toNat / 64 = 2
  · rw [if_pos h, if_pos h]
    show ref02_one_23_0_L (n + 3) s (i : Int) ((4 : Nat) : Int) (low : Int) _ ((2 : Nat) : Int) e0 _ = _
    rw [one_L]
    refine (one_round (n := 4) (k := 2) hs (by omega) (by omega) (by omega) _ e0 _).trans ?_
    by_cases h2 : (s.getD (i + 2) 0).toNat / 64 = 2
    · rw [if_pos h2, if_pos h2]
      show ref02_one_23_0_L (n + 2) s (i : Int) ((4 : Nat) : Int) (low : Int) _ ((3 : Nat) : Int) e0 _ = _
      rw [one_L]
      refine (one_round (n := 4) (k := 3) hs (by omega) (by omega) (by omega) _ e0 _).trans ?_
      by_cases h3 : (s.getD (i + 3) 0).toNat / 64 = 2
      · rw [if_pos h3, if_pos h3]
        show ref02_one_23_0_L (n + 1) s (i : Int) ((4 : Nat) : Int) (low : Int) _ ((4 : Nat) : Int) e0 _ = _
        rw [one_L]
        exact one_end s i 4 low _ _ e0 _
      · rw [if_neg h3, if_neg h3]
    · rw [if_neg h2, if_neg h2]
  · rw [if_neg h, if_neg h]

theorem getD_at' (s : Str) (i j : Nat) : (s.drop i).getD j 0 = s.getD (i + j) 0 := by simp [List.getD, List.getElem?_drop]

theorem oneN_ref (s : Str) (i : Nat) (hi : i < s.length) : oneN (s.drop i) = refN (s.length - i) (s.getD i 0).toNat (s.getD (i + 1) 0).toNat (s.getD (i + 2) 0).toNat (s.getD (i + 3) 0).toNat := by
  rw [refN_eq _ _ _ _ _ (by omega) (UInt8.toNat_lt _) (UInt8.toNat_lt _) (UInt8.toNat_lt _) (UInt8.toNat_lt _)]
  have e : decodeL (s.drop i) = decodeN (s.length - i) (s.getD i 0).toNat (s.getD (i + 1) 0).toNat (s.getD (i + 2) 0).toNat (s.getD (i + 3) 0).toNat := by
    rw [decodeL_N, List.length_drop, getD_at', getD_at', getD_at', getD_at', Nat.add_zero]
  unfold oneN
  by_cases h : good (s.drop i)
  · rw [if_pos h]
    unfold good at h
    rw [e] at h ⊢
    rw [if_neg h]
  · rw [if_neg h]
    have h' := Decidable.not_not.1 h
    rw [e] at h'
    rw [if_pos h']

theorem one_ok {R : Type} (s : Str) (i : Nat) (hi : i < s.length) (hs : s.length ≤ 9000000000000000) (k : Int → Option R) : ref02_one s (i : Int) k = k (oneN (s.drop i) : Int) := by
  have e : ref02_one s (i : Int) k = ref02_one_X ref02_one_23_0_L s (i : Int) k := rfl
  rw [e, oneN_ref s i hi]
  unfold ref02_one_X
  rw [chk_pos (by rw [dtrue (by omega), dtrue (by omega)]; rfl)]
  dsimp only
  rw [Int.toNat_natCast]
  have hb := UInt8.toNat_lt (s.getD i 0)
  have hF : ∀ a b c d e : Nat, 5 ≤ a + b + c + d + e + Int.natAbs 1 + 64 := fun a b c d e => by omega
  unfold refN
  have L2 := fun F (hF : 3 ≤ F) low v (hv : v < 64) (h : i + 2 ≤ s.length) e0 => one2 (R := R) (low := low) hs h hv hF e0 (fun y21 _ _ _ => k y21)
  have L3 := fun F (hF : 4 ≤ F) low v (hv : v < 64) (h : i + 3 ≤ s.length) e0 => one3 (R := R) (low := low) hs h hv hF e0 k
  have L4 := fun F (hF : 5 ≤ F) low v (hv : v < 64) (h : i + 4 ≤ s.length) e0 => one4 (R := R) (low := low) hs h hv hF e0 k
  have a31 := and31 ⟨(s.getD i 0).toNat, hb⟩
  have a15 := and15b ⟨(s.getD i 0).toNat, hb⟩
  have a7 := and7 ⟨(s.getD i 0).toNat, hb⟩
  simp only at a31 a15 a7
  rw [a31, a15, a7]
  generalize (s.getD i 0).toNat = b at *
  have w2 : IntKind.i64.wrap ((i : Int) + 2) = ((i + 2 : Nat) : Int) := by rw [wrap_id (by omega) (by omega)]; omega
  have w3 : IntKind.i64.wrap ((i : Int) + 3) = ((i + 3 : Nat) : Int) := by rw [wrap_id (by omega) (by omega)]; omega
  have w4 : IntKind.i64.wrap ((i : Int) + 4) = ((i + 4 : Nat) : Int) := by rw [wrap_id (by omega) (by omega)]; omega
  rw [w2, w3, w4]
  by_cases c0 : b < 128
  · rw [dtrue (show (b : Int) < 128 by omega), cond_true, if_pos c0]; rfl
  rw [dfalse (show ¬ (b : Int) < 128 by omega), cond_false, if_neg c0]
  by_cases c1 : 194 ≤ b ∧ b ≤ 223
  · rw [dtrue (show (b : Int) ≥ 194 by omega), cond_true, dtrue (show (b : Int) ≤ 223 by omega), cond_true, if_pos c1]
    by_cases hl : s.length - i < 2
    · rw [dtrue (show ((i + 2 : Nat) : Int) > (s.length : Int) by omega), cond_true, if_pos hl]; rfl
    · rw [dfalse (show ¬ ((i + 2 : Nat) : Int) > (s.length : Int) by omega), cond_false, if_neg hl]
      refine (L2 _ (by omega) 128 (b % 32) (by omega) (by omega) _).trans ?_
      by_cases h : (s.getD (i + 1) 0).toNat / 64 = 2
      · rw [if_pos h, if_pos h]
        exact tail_ok 128 _ 2 k
      · rw [if_neg h, if_neg h]; rfl
  rw [if_neg c1]
  have j8 : ∀ x z : Option R, (bif (decide ((b : Int) ≥ 194)) then (bif (decide ((b : Int) ≤ 223)) then x else z) else z) = z := by
    intro x z
    by_cases h : (b : Int) ≥ 194
    · rw [dtrue h, cond_true, dfalse (show ¬ (b : Int) ≤ 223 by omega), cond_false]
    · rw [dfalse h, cond_false]
  simp only [cond_false]
  rw [j8]
  by_cases c2 : 224 ≤ b ∧ b ≤ 239
  · rw [dtrue (show (b : Int) ≥ 224 by omega), cond_true, dtrue (show (b : Int) ≤ 239 by omega), cond_true, if_pos c2]
    by_cases hl : s.length - i < 3
    · rw [dtrue (show ((i + 3 : Nat) : Int) > (s.length : Int) by omega), cond_true, if_pos hl]; rfl
    · rw [dfalse (show ¬ ((i + 3 : Nat) : Int) > (s.length : Int) by omega), cond_false, if_neg hl]
      refine (L3 _ (by omega) 2048 (b % 16) (by omega) (by omega) _).trans ?_
      by_cases h : (s.getD (i + 1) 0).toNat / 64 = 2
      · rw [if_pos h, if_pos h]
        by_cases h2 : (s.getD (i + 2) 0).toNat / 64 = 2
        · rw [if_pos h2, if_pos h2]
          exact tail_ok 2048 _ 3 k
        · rw [if_neg h2, if_neg h2]; rfl
      · rw [if_neg h, if_neg h]; rfl
  rw [if_neg c2]
  by_cases c3 : 240 ≤ b ∧ b ≤ 244
  · have fin : (bif (decide (((i + 4 : Nat) : Int) > (s.length : Int))) then (k 0) else (ref02_one_23_0_L (List.length s + Int.natAbs (i : Int) + Int.natAbs 4 + Int.natAbs 65536 + Int.natAbs ((b % 8 : Nat) : Int) + Int.natAbs 1 + 64) s (i : Int) 4 65536 ((b % 8 : Nat) : Int) 1 (fun y18 y19 y20 => bif (decide (y20 < y19)) then (k 0) else (bif (decide (y20 > (1114111 : Int))) then (k 0) else (bif (decide (y20 ≥ (55296 : Int))) then (bif (decide (y20 ≤ (57343 : Int))) then (k 0) else (k y18)) else (k y18)))) (fun y21 y22 y23 y24 => k y21))) =
      k ((if s.length - i < 4 then 0 else if (s.getD (i + 1) 0).toNat / 64 = 2 then (if (s.getD (i + 2) 0).toNat / 64 = 2 then (if (s.getD (i + 3) 0).toNat / 64 = 2 then tail 65536 (((b % 8 * 64 + (s.getD (i + 1) 0).toNat % 64) * 64 + (s.getD (i + 2) 0).toNat % 64) * 64 + (s.getD (i + 3) 0).toNat % 64) 4 else 0) else 0) else 0 : Nat) : Int) := by
      by_cases hl : s.length - i < 4
      · rw [dtrue (show ((i + 4 : Nat) : Int) > (s.length : Int) by omega), cond_true, if_pos hl]; rfl
      · rw [dfalse (show ¬ ((i + 4 : Nat) : Int) > (s.length : Int) by omega), cond_false, if_neg hl]
        refine (L4 _ (by omega) 65536 (b % 8) (by omega) (by omega) _).trans ?_
        by_cases h : (s.getD (i + 1) 0).toNat / 64 = 2
        · rw [if_pos h, if_pos h]
          by_cases h2 : (s.getD (i + 2) 0).toNat / 64 = 2
          · rw [if_pos h2, if_pos h2]
            by_cases h3 : (s.getD (i + 3) 0).toNat / 64 = 2
            · rw [if_pos h3, if_pos h3]
              exact tail_ok 65536 _ 4 k
            · rw [if_neg h3, if_neg h3]; rfl
          · rw [if_neg h2, if_neg h2]; rfl
        · rw [if_neg h, if_neg h]; rfl
    rw [dtrue (show (b : Int) ≥ 224 by omega), cond_true, dfalse (show ¬ (b : Int) ≤ 239 by omega), cond_false, dtrue (show (b : Int) ≥ 240 by omega), cond_true, dtrue (show (b : Int) ≤ 244 by omega), cond_true, if_pos c3]
    exact fin
  · rw [if_neg c3]
    by_cases h1 : (b : Int) ≥ 224
    · rw [dtrue h1, cond_true, dfalse (show ¬ (b : Int) ≤ 239 by omega), cond_false]
      by_cases h2 : (b : Int) ≥ 240
      · rw [dtrue h2, cond_true, dfalse (show ¬ (b : Int) ≤ 244 by omega)]; rfl
      · rw [dfalse h2]; rfl
    · rw [dfalse h1, cond_false]
      by_cases h2 : (b : Int) ≥ 240
      · rw [dtrue h2, cond_true, dfalse (show ¬ (b : Int) ≤ 244 by omega)]; rfl
      · rw [dfalse h2]; rfl

theorem oneN_zero {t : Str} : oneN t = 0 ↔ ¬ good t := by
  unfold oneN
  have h := decodeL_width t
  by_cases hg : good t
  · rw [if_pos hg]; constructor
    · intro e; omega
    · intro e; exact (e hg).elim
  · rw [if_neg hg]; exact ⟨fun _ => hg, fun _ => rfl⟩

end Go.Proofs.YtmlkkgfenfdndaaDoor

set_option linter.unusedVariables false
set_option maxRecDepth 100000
namespace Go.Proofs.YtmlkkgfenfdndaaDoor
open Go Go.Yard Go.Lib

theorem eqI (n m : Nat) : ((n : Int) == (m : Int)) = decide (n = m) := by
  by_cases h : n = m
  · subst h; simp
  · have : ¬ ((n : Int) = (m : Int)) := by omega
    simp [h, this]

theorem unz (s : Str) : (List.map (fun n : Int => UInt8.ofNat n.toNat) (zs s) : Str) = s := bstr_zs s

end Go.Proofs.YtmlkkgfenfdndaaDoor

set_option linter.unusedVariables false
set_option maxRecDepth 100000
namespace Go.Proofs.YtmlkkgfenfdndaaDoor
open Go Go.Yard Go.Lib

theorem wrap8m {a b : Nat} (h : b ≤ a) (ha : a < 256) : IntKind.u8.wrap ((a : Int) - (b : Int)) = ((a - b : Nat) : Int) := by
  have : (a : Int) - (b : Int) = ((a - b : Nat) : Int) := by omega
  rw [this, wrap8, Nat.mod_eq_of_lt (by omega)]

theorem four_round {R : Type} {s : Str} {p k v : Nat} (hs : s.length ≤ 9000000000000000) (hp : p ≤ s.length) (hk : k < p + 4) (hi : k < s.length) (hv : v < 4096) (rec' : Str → Int → Int → Int → Option R) (e0 : Int → Option R) (e1 : Int → Int → Option R) :
    ref02_four_5_0_B rec' s (p : Int) (v : Int) (k : Int) e0 e1 = match hexv (s.getD k 0) with | some d => rec' s (p : Int) ((16 * v + d : Nat) : Int) ((k + 1 : Nat) : Int) | none => e1 (-1) (v : Int) := by
  unfold ref02_four_5_0_B
  have hw : IntKind.i64.wrap ((p : Int) + 4) = ((p + 4 : Nat) : Int) := by rw [wrap_id (by omega) (by omega)]; omega
  have hk1 : IntKind.i64.wrap ((k : Int) + 1) = ((k + 1 : Nat) : Int) := by rw [wrap_id (by omega) (by omega)]; omega
  rw [hw, hk1, Int.toNat_natCast, dtrue (show (k : Int) < ((p + 4 : Nat) : Int) by omega), cond_true, chk_pos (by rw [dtrue (by omega), dtrue (by omega)]; rfl)]
  dsimp only
  have hb := UInt8.toNat_lt (s.getD k 0)
  unfold hexv
  simp only
  generalize (s.getD k 0).toNat = b at *
  have k1 : IntKind.i64.wrap (16 * (v : Int)) = ((16 * v : Nat) : Int) := by rw [wrap_id (by omega) (by omega)]; omega
  have fin : ∀ (z : Int) (d : Nat), z = (d : Int) → d < 16 → IntKind.i64.wrap ((IntKind.i64.wrap (16 * (v : Int))) + z) = ((16 * v + d : Nat) : Int) := by
    intro z d hz hd
    rw [k1, hz, wrap_id (by omega) (by omega)]
    omega
  by_cases h1 : 48 ≤ b ∧ b ≤ 57
  · rw [dtrue (show (b : Int) ≥ 48 by omega), cond_true, dtrue (show (b : Int) ≤ 57 by omega), cond_true, if_pos h1]
    have e : IntKind.u8.wrap ((b : Int) - 48) = ((b - 48 : Nat) : Int) := wrap8m (b := 48) h1.1 hb
    rw [fin _ (b - 48) (by rw [e, wrap_id (by omega) (by omega)]) (by omega)]
  rw [if_neg h1]
  have j12 : ∀ x z : Option R, (bif (decide ((b : Int) ≥ 48)) then (bif (decide ((b : Int) ≤ 57)) then x else z) else z) = z := by
    intro x z
    by_cases h : (b : Int) ≥ 48
    · rw [dtrue h, cond_true, dfalse (show ¬ (b : Int) ≤ 57 by omega), cond_false]
    · rw [dfalse h, cond_false]
  simp only [cond_false]
  rw [j12]
  by_cases h2 : 65 ≤ b ∧ b ≤ 70
  · rw [if_pos h2, dfalse (show ¬ (b : Int) ≥ 97 by omega), cond_false, dtrue (show (b : Int) ≥ 65 by omega), cond_true, dtrue (show (b : Int) ≤ 70 by omega), cond_true]
    have e : IntKind.u8.wrap ((b : Int) - 65) = ((b - 65 : Nat) : Int) := wrap8m (b := 65) h2.1 hb
    rw [fin _ (b - 55) (by rw [e, wrap_id (n := ((b - 65 : Nat) : Int)) (by omega) (by omega), wrap_id (by omega) (by omega)]; omega) (by omega)]
  rw [if_neg h2]
  have j65 : ∀ x z : Option R, (bif (decide ((b : Int) ≥ 65)) then (bif (decide ((b : Int) ≤ 70)) then x else z) else z) = z := by
    intro x z
    by_cases h : (b : Int) ≥ 65
    · rw [dtrue h, cond_true, dfalse (show ¬ (b : Int) ≤ 70 by omega), cond_false]
    · rw [dfalse h, cond_false]
  rw [j65]
  by_cases h3 : 97 ≤ b ∧ b ≤ 102
  · rw [if_pos h3, dtrue (show (b : Int) ≥ 97 by omega), cond_true, dtrue (show (b : Int) ≤ 102 by omega), cond_true]
    have e : IntKind.u8.wrap ((b : Int) - 97) = ((b - 97 : Nat) : Int) := wrap8m (b := 97) h3.1 hb
    rw [fin _ (b - 87) (by rw [e, wrap_id (n := ((b - 97 : Nat) : Int)) (by omega) (by omega), wrap_id (by omega) (by omega)]; omega) (by omega)]
  rw [if_neg h3]
  by_cases h4 : (b : Int) ≥ 97
  · rw [dtrue h4, cond_true, dfalse (show ¬ (b : Int) ≤ 102 by omega), cond_false]
  · rw [dfalse h4, cond_false]

theorem getD_drop_take (s : Str) (k m : Nat) (hm : 0 < m) (hk : k < s.length) : (s.drop k).take m = s.getD k 0 :: (s.drop (k + 1)).take (m - 1) := by
  obtain ⟨j, rfl⟩ : ∃ j, m = j + 1 := ⟨m - 1, by omega⟩
  rw [List.drop_eq_getElem_cons hk, List.take_succ_cons]
  simp [List.getD, hk]

theorem four_loop {R : Type} {s : Str} {p : Nat} (hs : s.length ≤ 9000000000000000) (hp : p + 4 ≤ s.length) (e0 : Int → Option R) (e1 : Int → Int → Option R) : ∀ (m n k v : Nat), k + m = p + 4 → m < n → v < 16 ^ (4 - m) → m ≤ 4 →
    (match hexN ((s.drop k).take m) v with
     | some u => ref02_four_5_0_L n s (p : Int) (v : Int) (k : Int) e0 e1 = e0 (u : Int)
     | none => ∃ w, ref02_four_5_0_L n s (p : Int) (v : Int) (k : Int) e0 e1 = e1 (-1) w) := by
  intro m
  induction m with
  | zero =>
    intro n k v hk hn hv _
    obtain ⟨n, rfl⟩ : ∃ j, n = j + 1 := ⟨n - 1, by omega⟩
    rw [List.take_zero]
    simp only [hexN]
    have e : ref02_four_5_0_L (n + 1) s (p : Int) (v : Int) (k : Int) e0 e1 = ref02_four_5_0_B (fun x0' x1' x2' x3' => ref02_four_5_0_L n x0' x1' x2' x3' e0 e1) s (p : Int) (v : Int) (k : Int) e0 e1 := rfl
    rw [e]
    unfold ref02_four_5_0_B
    have hw : IntKind.i64.wrap ((p : Int) + 4) = ((p + 4 : Nat) : Int) := by rw [wrap_id (by omega) (by omega)]; omega
    rw [hw, dfalse (show ¬ (k : Int) < ((p + 4 : Nat) : Int) by omega), cond_false]
  | succ m ih =>
    intro n k v hk hn hv hm
    obtain ⟨n, rfl⟩ : ∃ j, n = j + 1 := ⟨n - 1, by omega⟩
    have hv2 : v < 4096 := by
      have : 16 ^ (4 - (m + 1)) ≤ 16 ^ 3 := Nat.pow_le_pow_right (by omega) (by omega)
      have e : (16 : Nat) ^ 3 = 4096 := rfl
      omega
    have e : ref02_four_5_0_L (n + 1) s (p : Int) (v : Int) (k : Int) e0 e1 = ref02_four_5_0_B (fun x0' x1' x2' x3' => ref02_four_5_0_L n x0' x1' x2' x3' e0 e1) s (p : Int) (v : Int) (k : Int) e0 e1 := rfl
    rw [e, four_round hs (by omega) (by omega) (by omega) hv2, getD_drop_take s k (m + 1) (by omega) (by omega)]
    simp only [hexN, Nat.add_sub_cancel]
    cases hx : hexv (s.getD k 0) with
    | none => exact ⟨_, rfl⟩
    | some d =>
      have hd := hexv_lt hx
      have h16 : 16 ^ (4 - m) = 16 ^ (4 - (m + 1)) * 16 := by rw [← Nat.pow_succ]; congr 1; omega
      exact ih n (k + 1) (16 * v + d) (by omega) (by omega) (by omega) (by omega)

theorem four_ok {R : Type} (s : Str) (p : Nat) (hs : s.length ≤ 9000000000000000) (hp : p ≤ s.length) (f : Int → Option R) : ref02_four s (p : Int) f = match unitP (s.drop p) with | some (v, _) => f (v : Int) | none => f (-1) := by
  have e : ref02_four s (p : Int) f = ref02_four_X ref02_four_5_0_L s (p : Int) f := rfl
  rw [e]
  unfold ref02_four_X unitP
  have hw : IntKind.i64.wrap ((p : Int) + 4) = ((p + 4 : Nat) : Int) := by rw [wrap_id (by omega) (by omega)]; omega
  rw [hw, List.length_drop]
  by_cases h : s.length - p < 4
  · rw [dtrue (show ((p + 4 : Nat) : Int) > (s.length : Int) by omega), cond_true, if_pos h]
  · rw [dfalse (show ¬ ((p + 4 : Nat) : Int) > (s.length : Int) by omega), cond_false, if_neg h]
    have := four_loop (R := R) hs (show p + 4 ≤ s.length by omega) (fun y15 => f y15) (fun y16 y17 => f y16) 4 (List.length s + Int.natAbs (p : Int) + Int.natAbs 0 + Int.natAbs (p : Int) + 64) p 0 rfl (by omega) (by omega) (by omega)
    cases hx : hexN ((s.drop p).take 4) 0 with
    | some u => rw [hx] at this; exact this
    | none => rw [hx] at this; obtain ⟨w, h2⟩ := this; exact h2

theorem lor128 : ∀ x : Fin 64, IntKind.u8.wrap (IntKind.i64.wrap ((BitVec.ofInt IntKind.i64.bits 128 ||| BitVec.ofInt IntKind.i64.bits (x.val : Int)).toNat : Int)) = ((128 + x.val : Nat) : Int) := by decide +kernel
theorem lor192 : ∀ x : Fin 32, IntKind.u8.wrap (IntKind.i64.wrap ((BitVec.ofInt IntKind.i64.bits 192 ||| BitVec.ofInt IntKind.i64.bits (x.val : Int)).toNat : Int)) = ((192 + x.val : Nat) : Int) := by decide +kernel
theorem lor224 : ∀ x : Fin 16, IntKind.u8.wrap (IntKind.i64.wrap ((BitVec.ofInt IntKind.i64.bits 224 ||| BitVec.ofInt IntKind.i64.bits (x.val : Int)).toNat : Int)) = ((224 + x.val : Nat) : Int) := by decide +kernel
theorem lor240 : ∀ x : Fin 8, IntKind.u8.wrap (IntKind.i64.wrap ((BitVec.ofInt IntKind.i64.bits 240 ||| BitVec.ofInt IntKind.i64.bits (x.val : Int)).toNat : Int)) = ((240 + x.val : Nat) : Int) := by decide +kernel
theorem land63 (n : Nat) (h : n < 1114112) : IntKind.i64.wrap ((BitVec.ofInt IntKind.i64.bits (n : Int) &&& BitVec.ofInt IntKind.i64.bits 63).toNat : Int) = ((n % 64 : Nat) : Int) := by
  have h2 : (BitVec.ofInt IntKind.i64.bits 63).toNat = 63 := by decide
  rw [BitVec.toNat_and, of64 n (by omega), h2]
  have h3 : n &&& 63 = n % 64 := Nat.and_two_pow_sub_one_eq_mod n 6
  rw [h3, wrap_id (by omega) (by omega)]

theorem laid_ok {R : Type} {c : Nat} (hv : vr c) (k : List Int → Option R) : ref02_laid (c : Int) k = k (zs (enc c)) := by
  have hlt := vr_lt hv
  have e : ref02_laid (c : Int) k = ref02_laid_X (c : Int) k := rfl
  rw [e]
  unfold ref02_laid_X
  have s6 := shr64 c 6 (by omega)
  have s12 := shr64 c 12 (by omega)
  have s18 := shr64 c 18 (by omega)
  have p6 : c / 2 ^ 6 = c / 64 := rfl
  have p12 : c / 2 ^ 12 = c / 4096 := rfl
  have p18 : c / 2 ^ 18 = c / 262144 := rfl
  rw [p6] at s6; rw [p12] at s12; rw [p18] at s18
  have cn : ∀ x : Nat, x < 64 → IntKind.u8.wrap (IntKind.i64.wrap ((BitVec.ofInt IntKind.i64.bits 128 ||| BitVec.ofInt IntKind.i64.bits (x : Int)).toNat : Int)) = ((128 + x : Nat) : Int) := fun x hx => lor128 ⟨x, hx⟩
  rcases enc_cases hv with ⟨h1, e⟩ | ⟨h0, h1, e⟩ | ⟨h0, h1, e⟩ | ⟨h0, e⟩ <;> rw [e]
  · rw [dtrue (show (c : Int) < 128 by omega), cond_true, wrap8, Nat.mod_eq_of_lt (by omega), zs_enc1 c (by omega)]
  · rw [dfalse (show ¬ (c : Int) < 128 by omega), cond_false, dtrue (show (c : Int) < 2048 by omega), cond_true, s6, land63 c hlt, cn _ (by omega)]
    have l := lor192 ⟨c / 64, by omega⟩
    simp only at l
    rw [l]
    simp only [zs, List.map_cons, List.map_nil, zs_nat (192 + c / 64) (by omega), zs_nat (128 + c % 64) (by omega)]
  · rw [dfalse (show ¬ (c : Int) < 128 by omega), cond_false, dfalse (show ¬ (c : Int) < 2048 by omega), cond_false, dtrue (show (c : Int) < 65536 by omega), cond_true, s6, s12, land63 c hlt, land63 (c / 64) (by omega), cn _ (by omega), cn _ (by omega)]
    have l := lor224 ⟨c / 4096, by omega⟩
    simp only at l
    rw [l]
    simp only [zs, List.map_cons, List.map_nil, zs_nat (224 + c / 4096) (by omega), zs_nat (128 + c % 64) (by omega), zs_nat (128 + c / 64 % 64) (by omega)]
  · rw [dfalse (show ¬ (c : Int) < 128 by omega), cond_false, dfalse (show ¬ (c : Int) < 2048 by omega), cond_false, dfalse (show ¬ (c : Int) < 65536 by omega), cond_false, s6, s12, s18, land63 c hlt, land63 (c / 64) (by omega), land63 (c / 4096) (by omega), cn _ (by omega), cn _ (by omega), cn _ (by omega)]
    have l := lor240 ⟨c / 262144, by omega⟩
    simp only at l
    rw [l]
    simp only [zs, List.map_cons, List.map_nil, zs_nat (240 + c / 262144) (by omega), zs_nat (128 + c % 64) (by omega), zs_nat (128 + c / 64 % 64) (by omega), zs_nat (128 + c / 4096 % 64) (by omega)]
end Go.Proofs.YtmlkkgfenfdndaaDoor

set_option linter.unusedVariables false
set_option maxRecDepth 100000
namespace Go.Proofs.YtmlkkgfenfdndaaDoor
open Go Go.Yard Go.Lib

theorem drop_cons {s : Str} {p : Nat} (h : p < s.length) : s.drop p = s.getD p 0 :: s.drop (p + 1) := by
  rw [List.drop_eq_getElem_cons h]; simp [List.getD, h]

theorem pre2 (a b : UInt8) (s : Str) (p : Nat) : ([a, b] : Str).isPrefixOf (s.drop p) = (decide (p + 2 ≤ s.length) && (a == s.getD p 0 && b == s.getD (p + 1) 0)) := by
  by_cases h : p + 2 ≤ s.length
  · rw [dtrue h, drop_cons (show p < s.length by omega), drop_cons (show p + 1 < s.length by omega)]
    simp [List.isPrefixOf]
  · rw [dfalse h, Bool.false_and]
    by_cases h1 : p < s.length
    · rw [drop_cons h1]
      have : s.drop (p + 1) = [] := List.drop_eq_nil_of_le (by omega)
      rw [this]
      simp [List.isPrefixOf]
    · have : s.drop p = [] := List.drop_eq_nil_of_le (by omega)
      rw [this]
      rfl

theorem beqN (b : UInt8) (n : Nat) (hn : n < 256) : (UInt8.ofNat n == b) = decide (b.toNat = n) := by
  by_cases h : b.toNat = n
  · rw [dtrue h]
    subst h
    simp
  · rw [dfalse h]
    exact u8_ne hn h

theorem neI (n m : Nat) : ((n : Int) != (m : Int)) = decide (n ≠ m) := by
  by_cases h : n = m
  · subst h; simp
  · have : ¬ ((n : Int) = (m : Int)) := by omega
    simp [h, this]

theorem uni_ok {R : Type} (s : Str) (p : Nat) (hs : s.length ≤ 9000000000000) (hp : p + 1 ≤ s.length) (k : List Int → Int → Option R) :
    (match longP (s.drop (p + 1)) with
     | some (c, r) => ∃ n : Nat, 1 ≤ n ∧ p + n ≤ s.length ∧ r = s.drop (p + n) ∧ (ref02_four s (IntKind.i64.wrap ((p : Int) + 1)) (fun y4 => let j14 := bif (decide (y4 < (55296 : Int))) then (ref02_laid y4 (fun y8 => k y8 5)) else (bif (decide (y4 > (57343 : Int))) then (ref02_laid y4 (fun y9 => k y9 5)) else (bif (decide ((IntKind.i64.wrap ((p : Int) + 7)) > (s.length : Int))) then (k ([] : List Int) 0) else (chk (decide ((0 : Int) ≤ (IntKind.i64.wrap ((p : Int) + 5))) && decide ((IntKind.i64.wrap ((p : Int) + 5)) < s.length)) (bif (((s.getD ((IntKind.i64.wrap ((p : Int) + 5)).toNat) 0).toNat : Int) != 92) then (k ([] : List Int) 0) else (chk (decide ((0 : Int) ≤ (IntKind.i64.wrap ((p : Int) + 6))) && decide ((IntKind.i64.wrap ((p : Int) + 6)) < s.length)) (bif (((s.getD ((IntKind.i64.wrap ((p : Int) + 6)).toNat) 0).toNat : Int) != 117) then (k ([] : List Int) 0) else (ref02_four s (IntKind.i64.wrap ((p : Int) + 7)) (fun y11 => bif (decide (y11 < (56320 : Int))) then (k ([] : List Int) 0) else (bif (decide (y11 > (57343 : Int))) then (k ([] : List Int) 0) else (ref02_laid (IntKind.i64.wrap ((IntKind.i64.wrap ((IntKind.i64.wrap (65536 + (IntKind.i64.wrap ((IntKind.i64.wrap (y4 - 55296)) * 2 ^ (min 10 IntKind.i64.bits))))) + y11)) - 56320)) (fun y13 => k y13 11))))))))))); bif (decide (y4 < (0 : Int))) then (k ([] : List Int) 0) else (bif (decide (y4 ≥ (56320 : Int))) then (bif (decide (y4 ≤ (57343 : Int))) then (k ([] : List Int) 0) else (j14)) else (j14)))) = k (zs (enc c)) (n : Int)
     | none => (ref02_four s (IntKind.i64.wrap ((p : Int) + 1)) (fun y4 => let j14 := bif (decide (y4 < (55296 : Int))) then (ref02_laid y4 (fun y8 => k y8 5)) else (bif (decide (y4 > (57343 : Int))) then (ref02_laid y4 (fun y9 => k y9 5)) else (bif (decide ((IntKind.i64.wrap ((p : Int) + 7)) > (s.length : Int))) then (k ([] : List Int) 0) else (chk (decide ((0 : Int) ≤ (IntKind.i64.wrap ((p : Int) + 5))) && decide ((IntKind.i64.wrap ((p : Int) + 5)) < s.length)) (bif (((s.getD ((IntKind.i64.wrap ((p : Int) + 5)).toNat) 0).toNat : Int) != 92) then (k ([] : List Int) 0) else (chk (decide ((0 : Int) ≤ (IntKind.i64.wrap ((p : Int) + 6))) && decide ((IntKind.i64.wrap ((p : Int) + 6)) < s.length)) (bif (((s.getD ((IntKind.i64.wrap ((p : Int) + 6)).toNat) 0).toNat : Int) != 117) then (k ([] : List Int) 0) else (ref02_four s (IntKind.i64.wrap ((p : Int) + 7)) (fun y11 => bif (decide (y11 < (56320 : Int))) then (k ([] : List Int) 0) else (bif (decide (y11 > (57343 : Int))) then (k ([] : List Int) 0) else (ref02_laid (IntKind.i64.wrap ((IntKind.i64.wrap ((IntKind.i64.wrap (65536 + (IntKind.i64.wrap ((IntKind.i64.wrap (y4 - 55296)) * 2 ^ (min 10 IntKind.i64.bits))))) + y11)) - 56320)) (fun y13 => k y13 11))))))))))); bif (decide (y4 < (0 : Int))) then (k ([] : List Int) 0) else (bif (decide (y4 ≥ (56320 : Int))) then (bif (decide (y4 ≤ (57343 : Int))) then (k ([] : List Int) 0) else (j14)) else (j14)))) = k [] 0) := by
  have w1 : IntKind.i64.wrap ((p : Int) + 1) = ((p + 1 : Nat) : Int) := by rw [wrap_id (by omega) (by omega)]; omega
  have w5 : IntKind.i64.wrap ((p : Int) + 5) = ((p + 5 : Nat) : Int) := by rw [wrap_id (by omega) (by omega)]; omega
  have w6 : IntKind.i64.wrap ((p : Int) + 6) = ((p + 6 : Nat) : Int) := by rw [wrap_id (by omega) (by omega)]; omega
  have w7 : IntKind.i64.wrap ((p : Int) + 7) = ((p + 7 : Nat) : Int) := by rw [wrap_id (by omega) (by omega)]; omega
  have n92 : ∀ x : Nat, ((x : Int) != 92) = decide (x ≠ 92) := fun x => neI x 92
  have n117 : ∀ x : Nat, ((x : Int) != 117) = decide (x ≠ 117) := fun x => neI x 117
  simp only [w1, w5, w6, w7, four_ok s (p + 1) (by omega) hp, Int.toNat_natCast, n92, n117]
  unfold longP
  cases hu : unitP (s.drop (p + 1)) with
  | none =>
    simp only
    rw [dtrue (show (-1 : Int) < 0 by omega), cond_true]
  | some q =>
    obtain ⟨v, r⟩ := q
    obtain ⟨hv, hl, hr⟩ := unitP_lt hu
    rw [List.length_drop] at hl
    rw [List.drop_drop] at hr
    have hr5 : r = s.drop (p + 5) := by rw [hr]
    simp only
    rw [dfalse (show ¬ (v : Int) < 0 by omega)]
    by_cases h1 : v < 55296
    · rw [if_pos (.inl h1), dfalse (show ¬ (v : Int) ≥ 56320 by omega), dtrue (show (v : Int) < 55296 by omega)]
      simp only [cond_true, cond_false]
      exact ⟨5, by omega, by omega, hr5, laid_ok (by unfold vr; omega) _⟩
    by_cases h2 : 57344 ≤ v
    · rw [if_pos (.inr h2), dtrue (show (v : Int) ≥ 56320 by omega), dfalse (show ¬ (v : Int) ≤ 57343 by omega), dfalse (show ¬ (v : Int) < 55296 by omega), dtrue (show (v : Int) > 57343 by omega)]
      simp only [cond_true, cond_false]
      exact ⟨5, by omega, by omega, hr5, laid_ok (by unfold vr; omega) _⟩
    rw [if_neg (by omega)]
    by_cases h3 : 56320 ≤ v
    · rw [if_pos h3, dtrue (show (v : Int) ≥ 56320 by omega), dtrue (show (v : Int) ≤ 57343 by omega)]
      rfl
    rw [if_neg h3, dfalse (show ¬ (v : Int) ≥ 56320 by omega), dfalse (show ¬ (v : Int) < 55296 by omega), dfalse (show ¬ (v : Int) > 57343 by omega)]
    simp only [cond_false]
    rw [hr5, pre2]
    by_cases h7 : p + 7 ≤ s.length
    · have e92 : ((92 : UInt8) == s.getD (p + 5) 0) = decide ((s.getD (p + 5) 0).toNat = 92) := beqN _ 92 (by omega)
      have e117 : ((117 : UInt8) == s.getD (p + 5 + 1) 0) = decide ((s.getD (p + 6) 0).toNat = 117) := beqN _ 117 (by omega)
      rw [dtrue (show p + 5 + 2 ≤ s.length by omega), dfalse (show ¬ ((p + 7 : Nat) : Int) > (s.length : Int) by omega), cond_false, chk_pos (by rw [dtrue (by omega), dtrue (by omega)]; rfl), chk_pos (by rw [dtrue (by omega), dtrue (by omega)]; rfl), e92, e117]
      by_cases g1 : (s.getD (p + 5) 0).toNat = 92
      · by_cases g2 : (s.getD (p + 6) 0).toNat = 117
        · rw [dtrue g1, dtrue g2, dfalse (show ¬ (s.getD (p + 5) 0).toNat ≠ 92 from fun h => h g1), dfalse (show ¬ (s.getD (p + 6) 0).toNat ≠ 117 from fun h => h g2)]
          simp only [Bool.and_self, if_true, cond_false, List.drop_drop]
          rw [four_ok s (p + 7) (by omega) h7]
          have e57 : p + 5 + 2 = p + 7 := rfl
          rw [e57]
          cases hu2 : unitP (s.drop (p + 7)) with
          | none =>
            simp only
            rw [dtrue (show (-1 : Int) < 56320 by omega), cond_true]
          | some q2 =>
            obtain ⟨w, r2⟩ := q2
            obtain ⟨hw, hl2, hr2⟩ := unitP_lt hu2
            rw [List.length_drop] at hl2
            rw [List.drop_drop] at hr2
            simp only
            by_cases h4 : 56320 ≤ w ∧ w < 57344
            · rw [if_pos h4, dfalse (show ¬ (w : Int) < 56320 by omega), cond_false, dfalse (show ¬ (w : Int) > 57343 by omega), cond_false]
              simp only
              have k1 : IntKind.i64.wrap ((v : Int) - 55296) = ((v - 55296 : Nat) : Int) := by rw [wrap_id (by omega) (by omega)]; omega
              have k2 : IntKind.i64.wrap ((((v - 55296 : Nat) : Int)) * 2 ^ (min 10 IntKind.i64.bits)) = (((v - 55296) * 1024 : Nat) : Int) := by
                have e : (((v - 55296 : Nat) : Int)) * 2 ^ (min 10 IntKind.i64.bits) = (((v - 55296) * 1024 : Nat) : Int) := by
                  show (((v - 55296 : Nat) : Int)) * 2 ^ 10 = _
                  omega
                rw [e, wrap_id (by omega) (by omega)]
              rw [k1, k2, wrap_id (n := 65536 + (((v - 55296) * 1024 : Nat) : Int)) (by omega) (by omega), wrap_id (n := 65536 + (((v - 55296) * 1024 : Nat) : Int) + (w : Int)) (by omega) (by omega), wrap_id (by omega) (by omega)]
              have e3 : 65536 + (((v - 55296) * 1024 : Nat) : Int) + (w : Int) - 56320 = ((65536 + (v - 55296) * 1024 + (w - 56320) : Nat) : Int) := by omega
              rw [e3]
              exact ⟨11, by omega, by omega, by rw [hr2], laid_ok (by unfold vr; omega) _⟩
            · rw [if_neg h4]
              simp only
              by_cases h5 : w < 56320
              · rw [dtrue (show (w : Int) < 56320 by omega), cond_true]
              · rw [dfalse (show ¬ (w : Int) < 56320 by omega), cond_false, dtrue (show (w : Int) > 57343 by omega), cond_true]
        · rw [dtrue g1, dfalse g2, dfalse (show ¬ (s.getD (p + 5) 0).toNat ≠ 92 from fun h => h g1), dtrue (show (s.getD (p + 6) 0).toNat ≠ 117 from g2)]
          rfl
      · rw [dfalse g1, dtrue (show (s.getD (p + 5) 0).toNat ≠ 92 from g1)]
        rfl
    · rw [dfalse (show ¬ p + 5 + 2 ≤ s.length by omega), dtrue (show ((p + 7 : Nat) : Int) > (s.length : Int) by omega)]
      rfl

theorem escape_ok {R : Type} (s : Str) (p : Nat) (hs : s.length ≤ 9000000000000) (k : List Int → Int → Option R) :
    match escP (s.drop p) with
    | some (c, r) => ∃ n : Nat, 1 ≤ n ∧ p + n ≤ s.length ∧ r = s.drop (p + n) ∧ ref02_escape s (p : Int) k = k (zs (enc c)) (n : Int)
    | none => ref02_escape s (p : Int) k = k [] 0 := by
  have e : ref02_escape s (p : Int) k = ref02_escape_X ref02_four ref02_laid s (p : Int) k := rfl
  rw [e]
  unfold ref02_escape_X
  by_cases h : p < s.length
  · have hu := uni_ok (R := R) s p hs (by omega) k
    rw [drop_cons h, dfalse (show ¬ (p : Int) ≥ (s.length : Int) by omega), cond_false, chk_pos (by rw [dtrue (by omega), dtrue (by omega)]; rfl)]
    dsimp only
    rw [Int.toNat_natCast, chk_pos (by rw [dtrue (by omega), dtrue (by omega)]; rfl)]
    dsimp only at hu
    generalize hF : ref02_four s (IntKind.i64.wrap ((p : Int) + 1)) _ = F at hu ⊢
    simp only [escP]
    have hb := UInt8.toNat_lt (s.getD p 0)
    have hz : ∀ b : UInt8, ([(b.toNat : Int)] : List Int) = zs (enc b.toNat) ∨ 128 ≤ b.toNat := fun b => by
      by_cases h1 : b.toNat < 128
      · left; rw [enc1 h1]; simp
      · right; omega
    have hz := hz (s.getD p 0)
    generalize (s.getD p 0).toNat = b at *
    have q34 : ((b : Int) == 34) = decide (b = 34) := eqI _ 34
    have q92 : ((b : Int) == 92) = decide (b = 92) := eqI _ 92
    have q47 : ((b : Int) == 47) = decide (b = 47) := eqI _ 47
    have q98 : ((b : Int) == 98) = decide (b = 98) := eqI _ 98
    have q102 : ((b : Int) == 102) = decide (b = 102) := eqI _ 102
    have q110 : ((b : Int) == 110) = decide (b = 110) := eqI _ 110
    have q114 : ((b : Int) == 114) = decide (b = 114) := eqI _ 114
    have q116 : ((b : Int) == 116) = decide (b = 116) := eqI _ 116
    have q117 : ((b : Int) == 117) = decide (b = 117) := eqI _ 117
    rw [q34, q92, q47, q98, q102, q110, q114, q116, q117]
    have one : ∀ c : Nat, c < 128 → ∀ l : List Int, l = [(c : Int)] → ∃ n : Nat, 1 ≤ n ∧ p + n ≤ s.length ∧ s.drop (p + 1) = s.drop (p + n) ∧ k l 1 = k (zs (enc c)) (n : Int) := fun c hc l hl => by
      refine ⟨1, by omega, by omega, rfl, ?_⟩
      rw [hl, enc1 hc]
      simp only [zs, List.map_cons, List.map_nil, zs_nat c (by omega)]
      rfl
    by_cases h34 : b = 34
    · subst h34; exact one 34 (by omega) _ rfl
    by_cases h92 : b = 92
    · subst h92; exact one 92 (by omega) _ rfl
    by_cases h47 : b = 47
    · subst h47; exact one 47 (by omega) _ rfl
    simp only [h34, h92, h47, decide_false, cond_false, or_self, if_false]
    by_cases h98 : b = 98
    · subst h98; exact one 8 (by omega) _ rfl
    by_cases h102 : b = 102
    · subst h102; exact one 12 (by omega) _ rfl
    by_cases h110 : b = 110
    · subst h110; exact one 10 (by omega) _ rfl
    by_cases h114 : b = 114
    · subst h114; exact one 13 (by omega) _ rfl
    by_cases h116 : b = 116
    · subst h116; exact one 9 (by omega) _ rfl
    simp only [h98, h102, h110, h114, h116, decide_false, cond_false, if_false]
    by_cases h117 : b = 117
    · simp only [h117, decide_true, cond_true, if_true]
      exact hu
    · simp only [h117, decide_false, cond_false, if_false]
  · have : s.drop p = [] := List.drop_eq_nil_of_le (by omega)
    rw [this, dtrue (show (p : Int) ≥ (s.length : Int) by omega), cond_true]
    rfl
end Go.Proofs.YtmlkkgfenfdndaaDoor


set_option linter.unusedVariables false
set_option maxRecDepth 100000
namespace Go.Proofs.YtmlkkgfenfdndaaDoor
open Go Go.Yard Go.Lib

end Go.Proofs.YtmlkkgfenfdndaaDoor

set_option linter.unusedVariables false
set_option maxRecDepth 100000
namespace Go.Proofs.YtmlkkgfenfdndaaDoor
open Go Go.Yard Go.Lib

theorem idx_neg (c : UInt8) : ∀ l : Str, Go.Lib.indexByte l c < 0 ↔ l.contains c = false
  | [] => by simp [Go.Lib.indexByte]
  | x :: l => by
    have ih := idx_neg c l
    have hg := Go.Lib.indexByte_ge l c
    unfold Go.Lib.indexByte
    rw [List.contains_cons]
    by_cases h : x = c
    · subst h; simp
    · have h2 : (c == x) = false := by rw [beq_eq_false_iff_ne]; exact fun e => h e.symm
      rw [h2, Bool.false_or, ← ih]
      split
      · rename_i h3; exact (h (beq_iff_eq.1 h3)).elim
      · split
        · rename_i h4
          have := beq_iff_eq.1 h4
          omega
        · rename_i h4
          have : ¬ Go.Lib.indexByte l c = -1 := fun e => h4 (beq_iff_eq.2 e)
          omega

def signP (signs s : Str) : Nat × Str := match s with | [] => (0, []) | b :: t => if signs.contains b then (b.toNat, t) else (0, b :: t)

theorem sign_ok {R : Type} (signs s : Str) (hs : s.length ≤ 4000000000) (k : Int → Str → Option R) : decimal_reader_sign_e74a signs s k = k ((signP signs s).1 : Int) (signP signs s).2 := by
  have e : decimal_reader_sign_e74a signs s k = decimal_reader_sign_e74a_X signs s k := rfl
  rw [e]
  unfold decimal_reader_sign_e74a_X
  cases s with
  | nil => rfl
  | cons b t =>
    simp only [List.length_cons] at hs
    have hne : ((b :: t : Str) == ([] : Str)) = false := rfl
    have hg : ((b :: t : Str).getD 0 0) = b := rfl
    have hd : ((b :: t : Str).drop 1).take (((b :: t : Str).length : Int).toNat - 1) = t := by
      rw [Int.toNat_natCast, List.drop_succ_cons, List.drop_zero, List.length_cons, Nat.add_sub_cancel, List.take_length]
    have hi : idxByte signs ((b.toNat : Nat) : Int) = Go.Lib.indexByte signs b := by
      unfold idxByte
      rw [Int.toNat_natCast]
      simp
    have hl : (b :: t : Str).length = t.length + 1 := rfl
    rw [hne, cond_false, hg, hd, hi, hl, chk_pos (dtrue (by omega))]
    unfold signP
    cases hc : signs.contains b with
    | false =>
      rw [dtrue ((idx_neg b signs).2 hc), cond_true]
      simp only [hc, Bool.false_eq_true, if_false]
      rfl
    | true =>
      have : ¬ Go.Lib.indexByte signs b < 0 := fun h => by rw [(idx_neg b signs).1 h] at hc; cases hc
      rw [dfalse this, cond_false, chk_pos (dtrue (by omega)), chk_pos (by rw [dtrue (show (0 : Int) ≤ ((t.length + 1 : Nat) : Int) by omega), dtrue (by omega)]; rfl), chk_pos (dtrue (by omega))]
      simp only [hc, if_true]

def digS : Str := [48, 49, 50, 51, 52, 53, 54, 55, 56, 57]
def isDig (b : UInt8) : Prop := 48 ≤ b.toNat ∧ b.toNat ≤ 57
theorem digS_all : ∀ n : Fin 256, digS.contains (UInt8.ofNat n.val) = decide (48 ≤ n.val ∧ n.val ≤ 57) := by decide +kernel
theorem digS_ok (b : UInt8) : digS.contains b = decide (48 ≤ b.toNat ∧ b.toNat ≤ 57) := by
  have := digS_all ⟨b.toNat, UInt8.toNat_lt b⟩
  simpa using this

theorem dropW_app (p : UInt8 → Bool) : ∀ (a r : Str), (∀ x ∈ a, p x = true) → (a ++ r).dropWhile p = r.dropWhile p
  | [], r, _ => rfl
  | x :: a, r, h => by
    rw [List.cons_append, List.dropWhile_cons, h x (by simp), if_pos rfl]
    exact dropW_app p a r fun y hy => h y (by simp [hy])
theorem dropW_head (p : UInt8 → Bool) (r : Str) (h : ∀ b t, r = b :: t → p b = false) : r.dropWhile p = r := by
  cases r with
  | nil => rfl
  | cons b t => rw [List.dropWhile_cons, h b t rfl]; rfl

theorem digits_ok {R : Type} (a r : Str) (ha : ∀ x ∈ a, isDig x) (hr : ∀ b t, r = b :: t → ¬ isDig b) (hl : (a ++ r).length ≤ 4000000000) (k : Str → Str → Option R) : decimal_reader_digits_abbd (a ++ r) k = k a r := by
  have e : decimal_reader_digits_abbd (a ++ r) k = decimal_reader_digits_abbd_X (a ++ r) k := rfl
  rw [e]
  unfold decimal_reader_digits_abbd_X
  have ht : trimL (a ++ r) ([48, 49, 50, 51, 52, 53, 54, 55, 56, 57] : Str) = r := by
    unfold trimL
    have h1 := dropW_app (fun x => digS.contains x) a r (fun x hx => by rw [digS_ok]; exact dtrue (ha x hx))
    have h2 := dropW_head (fun x => digS.contains x) r (fun b t hb => by rw [digS_ok]; exact dfalse (hr b t hb))
    exact h1.trans h2
  rw [ht]
  have hlen : (a ++ r).length = a.length + r.length := List.length_append
  have hw : IntKind.i64.wrap (((a ++ r).length : Int) - (r.length : Int)) = (a.length : Int) := by rw [hlen, wrap_id (by omega) (by omega)]; omega
  rw [hw, chk_pos (by rfl), chk_pos (by rw [dtrue (by omega), dtrue (by omega)]; rfl), chk_pos (dtrue (by omega)), List.drop_zero, Int.toNat_natCast, Nat.sub_zero, List.take_left]

end Go.Proofs.YtmlkkgfenfdndaaDoor

set_option linter.unusedVariables false
set_option maxRecDepth 100000
namespace Go.Proofs.YtmlkkgfenfdndaaDoor
open Go Go.Yard Go.Lib

theorem zeros_add (a b : Nat) : zeros a ++ zeros b = zeros (a + b) := by unfold zeros; rw [List.replicate_append_replicate]
theorem zeros_snoc (a : Nat) : zeros a ++ [48] = zeros (a + 1) := zeros_add a 1
end Go.Proofs.YtmlkkgfenfdndaaDoor

set_option linter.unusedVariables false
set_option maxRecDepth 100000
namespace Go.Proofs.YtmlkkgfenfdndaaDoor
open Go Go.Yard Go.Lib

abbrev isD (b : UInt8) : Bool := digS.contains b
theorem isD_ok (b : UInt8) : isD b = decide (48 ≤ b.toNat ∧ b.toNat ≤ 57) := digS_ok b
abbrev takeD (s : Str) : Str := s.takeWhile isD
abbrev dropD (s : Str) : Str := s.dropWhile isD

theorem take_dig (s : Str) : ∀ x ∈ takeD s, isDig x := fun x hx => by
  have h := List.all_takeWhile (l := s) (p := isD)
  have := List.all_eq_true.1 h x hx
  rw [isD_ok] at this
  exact of_decide_eq_true (p := 48 ≤ x.toNat ∧ x.toNat ≤ 57) this
theorem drop_dig (s : Str) : ∀ b t, dropD s = b :: t → ¬ isDig b := fun b t h hb => by
  have h2 : isD b = false := by
    have := List.head?_dropWhile_not isD s
    have e : s.dropWhile isD = b :: t := h
    rw [e] at this
    simpa using this
  rw [isD_ok, dtrue (p := 48 ≤ b.toNat ∧ b.toNat ≤ 57) hb] at h2
  cases h2
theorem take_le (s : Str) : (takeD s).length ≤ s.length := by
  have := congrArg List.length (List.takeWhile_append_dropWhile (p := isD) (l := s))
  rw [List.length_append] at this
  unfold takeD
  omega
theorem dropD_le (s : Str) : (dropD s).length ≤ s.length := drop_le _ _
theorem digits_any {R : Type} (s : Str) (hl : s.length ≤ 4000000000) (k : Str → Str → Option R) : decimal_reader_digits_abbd s k = k (takeD s) (dropD s) := by
  have e : takeD s ++ dropD s = s := List.takeWhile_append_dropWhile
  have h := digits_ok (R := R) (takeD s) (dropD s) (take_dig s) (drop_dig s) (by rw [e]; exact hl) k
  rw [e] at h
  exact h
theorem signP_le (g s : Str) : (signP g s).2.length ≤ s.length := by
  unfold signP
  cases s with
  | nil => simp
  | cons b t => simp only; split <;> simp

def valD : Str → Nat → Nat
  | [], v => v
  | b :: s, v => valD s (10 * v + (b.toNat - 48))
theorem valD_app : ∀ (a b : Str) (v : Nat), valD (a ++ b) v = valD b (valD a v)
  | [], _, _ => rfl
  | x :: a, b, v => valD_app a b _
theorem valD_ge : ∀ (s : Str) (v : Nat), v * 10 ^ s.length ≤ valD s v
  | [], v => by simp [valD]
  | b :: s, v => by
    have := valD_ge s (10 * v + (b.toNat - 48))
    have h2 : 10 * v * 10 ^ s.length ≤ (10 * v + (b.toNat - 48)) * 10 ^ s.length := Nat.mul_le_mul_right _ (by omega)
    have e : v * 10 ^ (b :: s).length = 10 * v * 10 ^ s.length := by rw [List.length_cons, Nat.pow_succ, Nat.mul_comm 10, Nat.mul_assoc, Nat.mul_comm 10]
    simp only [valD]
    omega
theorem valD_self (s : Str) (v : Nat) : v ≤ valD s v := Nat.le_trans (Nat.le_mul_of_pos_right _ (Nat.pos_of_ne_zero (by simp))) (valD_ge s v)
theorem valD_lt : ∀ (s : Str) (v : Nat), (∀ x ∈ s, isDig x) → valD s v < (v + 1) * 10 ^ s.length
  | [], v, _ => by simp [valD]
  | b :: s, v, h => by
    have hb := h b (by simp)
    unfold isDig at hb
    have := valD_lt s (10 * v + (b.toNat - 48)) fun x hx => h x (by simp [hx])
    have h2 : (10 * v + (b.toNat - 48) + 1) * 10 ^ s.length ≤ ((v + 1) * 10) * 10 ^ s.length := Nat.mul_le_mul_right _ (by omega)
    have e : (v + 1) * 10 ^ (b :: s).length = ((v + 1) * 10) * 10 ^ s.length := by rw [List.length_cons, Nat.pow_succ, Nat.mul_assoc, Nat.mul_comm 10]
    simp only [valD]
    omega

theorem uint_dig : ∀ (D : Str) (acc : Nat), (∀ x ∈ D, isDig x) →
    (valD D acc < 18446744073709551616 → parseUint10 acc D = .ok (valD D acc)) ∧ (acc < 18446744073709551616 → 18446744073709551616 ≤ valD D acc → parseUint10 acc D = .range)
  | [], acc, _ => ⟨fun _ => rfl, fun h1 h2 => by simp only [valD] at h2; omega⟩
  | b :: D, acc, h => by
    have hb := h b (by simp)
    unfold isDig at hb
    obtain ⟨i1, i2⟩ := uint_dig D (10 * acc + (b.toNat - 48)) fun x hx => h x (by simp [hx])
    have hs := valD_self D (10 * acc + (b.toNat - 48))
    have e : acc * 10 + (b.toNat - 48) = 10 * acc + (b.toNat - 48) := by omega
    simp only [valD, parseUint10]
    rw [if_pos hb, e]
    refine ⟨fun h1 => ?_, fun h1 h2 => ?_⟩
    · rw [if_neg (by omega), if_neg (by omega)]
      exact i1 h1
    · by_cases g1 : 1844674407370955162 ≤ acc
      · rw [if_pos g1]
      · rw [if_neg g1]
        by_cases g2 : 18446744073709551616 ≤ 10 * acc + (b.toNat - 48)
        · rw [if_pos g2]
        · rw [if_neg g2]
          exact i2 (by omega) h2

theorem atoi_dig (D : Str) (hD : ∀ x ∈ D, isDig x) (h0 : D ≠ []) :
    (valD D 0 < 9223372036854775808 → atoiAll D = .ok (valD D 0 : Int)) ∧ (9223372036854775808 ≤ valD D 0 → atoiAll D = .range) := by
  obtain ⟨i1, i2⟩ := uint_dig D 0 hD
  cases D with
  | nil => exact (h0 rfl).elim
  | cons b D =>
    have hb := hD b (by simp)
    unfold isDig at hb
    have e : (if b.toNat = 43 ∨ b.toNat = 45 then D else b :: D) = b :: D := if_neg (by omega)
    have m : parseMag (b :: D) = parseUint10 0 (b :: D) := by unfold parseMag; rw [if_neg (by simp)]
    unfold atoiAll
    simp only
    rw [e, m]
    refine ⟨fun h => ?_, fun h => ?_⟩
    · rw [i1 (by omega)]
      simp only
      rw [if_neg (by omega), if_neg (fun h2 => absurd h2.1 (by omega)), if_neg (by omega)]
    · by_cases h2 : valD (b :: D) 0 < 18446744073709551616
      · rw [i1 h2]
        simp only
        rw [if_pos ⟨by omega, h⟩]
      · rw [i2 (by omega) (by omega)]

def expP (X : Str) : Int × Bool × Str :=
  let q := signP [43, 45] X
  let v : Int := min (valD (takeD q.2) 0 : Int) 1000000
  (if q.1 = 45 then -v else v, !(takeD q.2 == []), dropD q.2)

theorem exp_any {R : Type} (X : Str) (hl : X.length ≤ 4000000000) (k : Int → Bool → Str → Option R) : decimal_reader_exponent_abbd X k = k (expP X).1 (expP X).2.1 (expP X).2.2 := by
  have e : decimal_reader_exponent_abbd X k = decimal_reader_exponent_abbd_X decimal_reader_sign_e74a decimal_reader_digits_abbd X k := rfl
  rw [e]
  unfold decimal_reader_exponent_abbd_X
  have h1 := signP_le [43, 45] X
  rw [sign_ok _ _ hl]
  unfold expP
  simp only
  generalize signP [43, 45] X = q at *
  rw [digits_any _ (by omega)]
  have h2 := take_le q.2
  have hD := take_dig q.2
  generalize takeD q.2 = D at *
  generalize dropD q.2 = r at *
  have q45 : ((q.1 : Int) == 45) = decide (q.1 = 45) := eqI _ 45
  rw [chk_pos (dtrue (by omega)), q45]
  by_cases h0 : D = []
  · subst h0
    have a1 : atoiOk [] = false := rfl
    have a2 : atoiVal [] = 0 := rfl
    rw [a1, a2]
    simp only [cond_false, valD]
    by_cases hq : q.1 = 45
    · rw [dtrue hq, if_pos hq]; rfl
    · rw [dfalse hq, if_neg hq]; rfl
  · have hne : (D == ([] : Str)) = false := by rw [beq_eq_false_iff_ne]; exact h0
    obtain ⟨i1, i2⟩ := atoi_dig D hD h0
    rw [hne]
    simp only [Bool.not_false, cond_true]
    by_cases hv : valD D 0 < 9223372036854775808
    · have a1 : atoiOk D = true := by unfold atoiOk; rw [i1 hv]
      have a2 : atoiVal D = (valD D 0 : Int) := by unfold atoiVal; rw [i1 hv]
      rw [a1, a2, cond_true]
      by_cases hb : (valD D 0 : Int) > 1000000
      · rw [dtrue hb, cond_true, Int.min_eq_right (by omega)]
        by_cases hq : q.1 = 45
        · rw [dtrue hq, if_pos hq]; rfl
        · rw [dfalse hq, if_neg hq]; rfl
      · rw [dfalse hb, cond_false, Int.min_eq_left (by omega), wrap_id (by omega) (by omega)]
        by_cases hq : q.1 = 45
        · rw [dtrue hq, if_pos hq, cond_true]; congr 1; omega
        · rw [dfalse hq, if_neg hq, cond_false]
    · have a1 : atoiOk D = false := by unfold atoiOk; rw [i2 (by omega)]
      rw [a1, cond_false, Int.min_eq_right (by omega)]
      by_cases hq : q.1 = 45
      · rw [dtrue hq, if_pos hq]; rfl
      · rw [dfalse hq, if_neg hq]; rfl

theorem trimL_head (a : Str) : ∀ b t, trimL a [48] = b :: t → b ≠ 48 := fun b t h hb => by
  have h2 := List.head?_dropWhile_not (([48] : Str).contains ·) a
  have e : a.dropWhile (([48] : Str).contains ·) = b :: t := h
  rw [e] at h2
  subst hb
  exact absurd (show (([48] : Str).contains 48) = false from h2) (by decide)
theorem trimL_sub (a : Str) : ∀ x ∈ trimL a [48], x ∈ a := fun x hx => (List.dropWhile_sublist _).subset hx
theorem trimR_cases (a : Str) : trimR a [48] = [] ∨ ∃ l b, trimR a [48] = l ++ [b] ∧ b ≠ 48 := by
  unfold trimR
  have h2 := List.head?_dropWhile_not (([48] : Str).contains ·) a.reverse
  cases h : a.reverse.dropWhile (([48] : Str).contains ·) with
  | nil => exact .inl rfl
  | cons b t =>
    rw [h] at h2
    refine .inr ⟨t.reverse, b, by simp, fun hb => ?_⟩
    subst hb
    exact absurd (show (([48] : Str).contains 48) = false from h2) (by decide)
theorem trimR_pre (a : Str) : ∃ n, a = trimR a [48] ++ zeros n := by
  have h := List.takeWhile_append_dropWhile (p := (([48] : Str).contains ·)) (l := a.reverse)
  have h2 := congrArg List.reverse h
  rw [List.reverse_append, List.reverse_reverse] at h2
  refine ⟨(a.reverse.takeWhile (([48] : Str).contains ·)).length, ?_⟩
  have hz : (a.reverse.takeWhile (([48] : Str).contains ·)).reverse = zeros (a.reverse.takeWhile (([48] : Str).contains ·)).length := by
    unfold zeros
    rw [List.eq_replicate_iff]
    refine ⟨List.length_reverse, fun x hx => ?_⟩
    have h3 := List.all_takeWhile (l := a.reverse) (p := (([48] : Str).contains ·))
    have := List.all_eq_true.1 h3 x (List.mem_reverse.1 hx)
    simpa using this
  rw [← hz]
  exact h2.symm

def finD (neg : Bool) (all : Str) (x : Int) : Dcm × Bool :=
  if trimR (trimL all [48]) [48] = [] then (⟨0, 0⟩, true)
  else mkD (if neg then -(valD (trimR (trimL all [48]) [48]) 0 : Int) else (valD (trimR (trimL all [48]) [48]) 0 : Int)) (x + (((trimL all [48]).length : Int) - ((trimR (trimL all [48]) [48]).length : Int)))

theorem make_min {R : Type} (m x : Int) (k : Dcm → Bool → Option R) : decimal_Make m x k = decimal_Make m (min x 1000000) k := by
  have e : ∀ x, decimal_Make m x k = decimal_Make_X decimal_within_int decimal_Make_4_0_L m x k := fun _ => rfl
  rw [e, e]
  unfold decimal_Make_X
  have : min (min x 1000000) 1000000 = min x 1000000 := by omega
  rw [this]
theorem mkD_min (u x : Int) : mkD u (min x 1000000) = mkD u x := by
  unfold mkD
  by_cases h : x ≤ 1000000
  · rw [Int.min_eq_left h]
  · rw [if_neg (by omega), if_neg (by omega)]
theorem make_unit {R : Type} (u x : Int) (hu : Int.tmod u 10 ≠ 0) (hb : I64 u) (hx : -9223372036854775808 ≤ x) (k : Dcm → Bool → Option R) : decimal_Make u x k = k (mkD u x).1 (mkD u x).2 := by
  rw [make_min, ← mkD_min u x]
  have := make_ok (R := R) u 0 (min x 1000000) hu (by simpa using hb) (by omega) (by omega) k
  simpa using this

theorem short_facts (all : Str) (h : ∀ x ∈ all, isDig x) (h0 : trimR (trimL all [48]) [48] ≠ []) :
    (∀ x ∈ trimR (trimL all [48]) [48], isDig x) ∧ valD (trimR (trimL all [48]) [48]) 0 % 10 ≠ 0 ∧ 10 ^ ((trimR (trimL all [48]) [48]).length - 1) ≤ valD (trimR (trimL all [48]) [48]) 0 := by
  obtain ⟨n, hn⟩ := trimR_pre (trimL all [48])
  have hd : ∀ x ∈ trimR (trimL all [48]) [48], isDig x := fun x hx => h x (trimL_sub _ _ (by rw [hn]; simp [hx]))
  refine ⟨hd, ?_, ?_⟩
  · rcases trimR_cases (trimL all [48]) with e | ⟨l, b, e, hb⟩
    · exact (h0 e).elim
    · have hbd := hd b (by rw [e]; simp)
      rw [e, valD_app]
      simp only [valD]
      unfold isDig at hbd
      have : b.toNat ≠ 48 := fun h => hb (UInt8.toNat_inj.1 h)
      omega
  · cases e : trimR (trimL all [48]) [48] with
    | nil => exact (h0 e).elim
    | cons b t =>
      have hb : b ≠ 48 := trimL_head all b (t ++ zeros n) (by rw [hn, e]; rfl)
      have hbd := hd b (by rw [e]; simp)
      unfold isDig at hbd
      have h48 : b.toNat ≠ 48 := fun h => hb (UInt8.toNat_inj.1 h)
      have := valD_ge t (10 * 0 + (b.toNat - 48))
      have h2 : 1 * 10 ^ t.length ≤ (10 * 0 + (b.toNat - 48)) * 10 ^ t.length := Nat.mul_le_mul_right _ (by omega)
      simp only [valD, List.length_cons, Nat.add_sub_cancel]
      omega

theorem mkD_far {u : Int} (x : Int) (h : 1000000000000000 < u.natAbs) : mkD u x = (⟨0, 0⟩, false) := by
  unfold mkD
  rw [if_neg (by omega)]

theorem fin_ok {R : Type} (y2 : Int) (z11 : Str) (z19 : Int) (z20 : Str) (h : ∀ x ∈ z11, isDig x) (hl : z11.length ≤ 1000) (hx : -2000000 ≤ z19 ∧ z19 ≤ 2000000) (k0 : Dcm → Bool → Option R) :
    (chk (isAsc ([48] : Str) && decide (([48] : Str).length < 4294967281)) (chk (isAsc ([48] : Str) && decide (([48] : Str).length < 4294967281)) (bif (!(z20 == ([] : Str))) then (k0 (⟨0, 0⟩ : Dcm) false) else (bif (decide (((trimR (trimL z11 ([48] : Str)) ([48] : Str)).length : Int) > (18 : Int))) then (k0 (⟨0, 0⟩ : Dcm) false) else (chk (decide (1 + (trimR (trimL z11 ([48] : Str)) ([48] : Str)).length ≤ 9223372036854775807)) (chk (decide ((([48] : Str) ++ (trimR (trimL z11 ([48] : Str)) ([48] : Str))).length ≤ 281474976710656)) (bif atoiOk (([48] : Str) ++ (trimR (trimL z11 ([48] : Str)) ([48] : Str))) then (bif (y2 != 0) then (decimal_Make (IntKind.i64.wrap (0 - (atoiVal (([48] : Str) ++ (trimR (trimL z11 ([48] : Str)) ([48] : Str)))))) (IntKind.i64.wrap (z19 + (IntKind.i64.wrap (((trimL z11 ([48] : Str)).length : Int) - ((trimR (trimL z11 ([48] : Str)) ([48] : Str)).length : Int))))) (fun y25 y26 => k0 y25 y26)) else (decimal_Make (atoiVal (([48] : Str) ++ (trimR (trimL z11 ([48] : Str)) ([48] : Str)))) (IntKind.i64.wrap (z19 + (IntKind.i64.wrap (((trimL z11 ([48] : Str)).length : Int) - ((trimR (trimL z11 ([48] : Str)) ([48] : Str)).length : Int))))) (fun y27 y28 => k0 y27 y28))) else (bif (y2 != 0) then (decimal_Make (IntKind.i64.wrap (0 - (atoiVal (([48] : Str) ++ (trimR (trimL z11 ([48] : Str)) ([48] : Str)))))) (IntKind.i64.wrap (z19 + (IntKind.i64.wrap (((trimL z11 ([48] : Str)).length : Int) - ((trimR (trimL z11 ([48] : Str)) ([48] : Str)).length : Int))))) (fun y25 y26 => k0 y25 y26)) else (decimal_Make (atoiVal (([48] : Str) ++ (trimR (trimL z11 ([48] : Str)) ([48] : Str)))) (IntKind.i64.wrap (z19 + (IntKind.i64.wrap (((trimL z11 ([48] : Str)).length : Int) - ((trimR (trimL z11 ([48] : Str)) ([48] : Str)).length : Int))))) (fun y27 y28 => k0 y27 y28)))))))))) =
    if z20 = [] then k0 (finD (y2 != 0) z11 z19).1 (finD (y2 != 0) z11 z19).2 else k0 ⟨0, 0⟩ false := by
  have q3 : (isAsc ([48] : Str) && decide (([48] : Str).length < 4294967281)) = true := rfl
  have htl : (trimL z11 [48]).length ≤ z11.length := drop_le _ _
  obtain ⟨n, hn⟩ := trimR_pre (trimL z11 [48])
  have htr : (trimL z11 [48]).length = (trimR (trimL z11 [48]) [48]).length + n := by have := congrArg List.length hn; rw [List.length_append, zeros_len] at this; exact this
  rw [q3, chk_pos rfl, chk_pos rfl]
  by_cases hz : z20 = []
  · subst hz
    have hbe : ((([] : Str) == ([] : Str))) = true := rfl
    rw [hbe, if_pos rfl]
    simp only [Bool.not_true, cond_false]
    have w0 : IntKind.i64.wrap (((trimL z11 [48]).length : Int) - ((trimR (trimL z11 [48]) [48]).length : Int)) = ((trimL z11 [48]).length : Int) - ((trimR (trimL z11 [48]) [48]).length : Int) := wrap_id (by omega) (by omega)
    have w1 : IntKind.i64.wrap (z19 + (((trimL z11 [48]).length : Int) - ((trimR (trimL z11 [48]) [48]).length : Int))) = z19 + (((trimL z11 [48]).length : Int) - ((trimR (trimL z11 [48]) [48]).length : Int)) := wrap_id (by omega) (by omega)
    rw [w0, w1, chk_pos (dtrue (by omega)), chk_pos (dtrue (by simp only [List.length_append, List.length_cons, List.length_nil]; omega)), Bool.cond_self]
    unfold finD
    have hc : (([48] : Str) ++ (trimR (trimL z11 ([48] : Str)) ([48] : Str))) = 48 :: trimR (trimL z11 [48]) [48] := rfl
    rw [hc]
    by_cases h0 : trimR (trimL z11 [48]) [48] = []
    · rw [h0, if_pos rfl]
      have a0 : atoiVal (48 :: ([] : Str)) = 0 := by decide +kernel
      have a1 : decide (((([] : Str)).length : Int) > 18) = false := rfl
      have a2 : IntKind.i64.wrap (0 - 0) = 0 := by decide
      rw [a0, a1, cond_false, a2, make_zero, Bool.cond_self]
    · rw [if_neg h0]
      obtain ⟨f1, f2, f3⟩ := short_facts z11 h h0
      have hX : -3000000 ≤ z19 + (((trimL z11 [48]).length : Int) - ((trimR (trimL z11 [48]) [48]).length : Int)) := by omega
      generalize trimR (trimL z11 [48]) [48] = sh at *
      generalize (z19 + (((trimL z11 [48]).length : Int) - (sh.length : Int))) = X at *
      have hpos : 1 ≤ sh.length := by cases sh with | nil => exact (h0 rfl).elim | cons _ _ => simp
      by_cases h18 : sh.length ≤ 18
      · rw [dfalse (show ¬ (sh.length : Int) > 18 by omega), cond_false]
        have hlt := valD_lt sh 0 f1
        have hp : (10 : Nat) ^ sh.length ≤ 10 ^ 18 := Nat.pow_le_pow_right (by omega) h18
        have e18 : (10 : Nat) ^ 18 = 1000000000000000000 := rfl
        have v48 : valD (48 :: sh) 0 = valD sh 0 := rfl
        have ha : atoiVal (48 :: sh) = (valD sh 0 : Int) := by
          obtain ⟨i1, _⟩ := atoi_dig (48 :: sh) (fun x hx => by rcases List.mem_cons.1 hx with rfl | hx; (unfold isDig; decide); exact f1 x hx) (by simp)
          unfold atoiVal
          rw [i1 (by rw [v48]; omega), v48]
        rw [ha]
        have hm : Int.tmod (valD sh 0 : Int) 10 ≠ 0 := by rw [Int.tmod_eq_emod_of_nonneg (by omega)]; omega
        cases hy : (y2 != 0) with
        | true =>
          rw [cond_true, if_pos rfl, wrap_id (by omega) (by omega)]
          have e0 : (0 - (valD sh 0 : Int)) = -(valD sh 0 : Int) := by omega
          rw [e0]
          exact make_unit _ _ (tmod_neg hm) (by unfold I64; omega) (by omega) _
        | false =>
          rw [cond_false, if_neg (by simp)]
          exact make_unit _ _ hm (by unfold I64; omega) (by omega) _
      · rw [dtrue (show (sh.length : Int) > 18 by omega), cond_true]
        have hp : (10 : Nat) ^ 18 ≤ 10 ^ (sh.length - 1) := Nat.pow_le_pow_right (by omega) (by omega)
        have e18 : (10 : Nat) ^ 18 = 1000000000000000000 := rfl
        rw [mkD_far _ (by split <;> omega)]
  · have hbe : (z20 == ([] : Str)) = false := by rw [beq_eq_false_iff_ne]; exact hz
    rw [hbe, if_neg hz]
    rfl

def noD : Dcm × Bool := (⟨0, 0⟩, false)
def tailD (neg : Bool) (all : Str) (x : Int) (X : Str) : Dcm × Bool :=
  if (signP [101, 69] X).1 = 0 then (if (signP [101, 69] X).2 = [] then finD neg all x else noD)
  else if (expP (signP [101, 69] X).2).2.1 = false then noD
  else if (expP (signP [101, 69] X).2).2.2 = [] then finD neg all (x + (expP (signP [101, 69] X).2).1) else noD

def parseS (s : Str) : Dcm × Bool :=
  let q := signP [45] s
  let I := takeD q.2
  let r := dropD q.2
  if 400 < s.length then noD else if I = [] then noD else if 1 < I.length ∧ (I.getD 0 0).toNat = 48 then noD
  else if (signP [46] r).1 = 0 then tailD (q.1 != 0) I 0 (signP [46] r).2
  else if takeD (signP [46] r).2 = [] then noD
  else tailD (q.1 != 0) (I ++ takeD (signP [46] r).2) (-((takeD (signP [46] r).2).length : Int)) (dropD (signP [46] r).2)

theorem expP_lim (X : Str) : -1000000 ≤ (expP X).1 ∧ (expP X).1 ≤ 1000000 := by
  unfold expP
  simp only
  split <;> omega

theorem neN (n : Nat) : (((n : Nat) : Int) != 0) = (n != 0) := by
  cases n with
  | zero => rfl
  | succ n => rw [bne_iff_ne.2 (by omega), bne_iff_ne.2 (by omega)]

theorem tailD_ok {R : Type} (q : Nat) (all : Str) (x : Int) (X : Str) (ha : ∀ c ∈ all, isDig c) (hl : all.length ≤ 900) (h1 : -1000 ≤ x) (h2 : x ≤ 0) (hX : X.length ≤ 1000) (k : Dcm → Bool → Option R) :
    decimal_reader_sign_e74a ([101, 69] : Str) X (fun y14 y15 => bif (y14 != 0) then (decimal_reader_exponent_abbd y15 (fun y16 y17 y18 => bif (!y17) then (k (⟨0, 0⟩ : Dcm) false) else (chk (isAsc ([48] : Str) && decide (([48] : Str).length < 4294967281)) (chk (isAsc ([48] : Str) && decide (([48] : Str).length < 4294967281)) (bif (!(y18 == ([] : Str))) then (k (⟨0, 0⟩ : Dcm) false) else (bif (decide (((trimR (trimL all ([48] : Str)) ([48] : Str)).length : Int) > (18 : Int))) then (k (⟨0, 0⟩ : Dcm) false) else (chk (decide (1 + (trimR (trimL all ([48] : Str)) ([48] : Str)).length ≤ 9223372036854775807)) (chk (decide ((([48] : Str) ++ (trimR (trimL all ([48] : Str)) ([48] : Str))).length ≤ 281474976710656)) (bif atoiOk (([48] : Str) ++ (trimR (trimL all ([48] : Str)) ([48] : Str))) then (bif ((q : Int) != 0) then (decimal_Make (IntKind.i64.wrap (0 - (atoiVal (([48] : Str) ++ (trimR (trimL all ([48] : Str)) ([48] : Str)))))) (IntKind.i64.wrap ((IntKind.i64.wrap (x + y16)) + (IntKind.i64.wrap (((trimL all ([48] : Str)).length : Int) - ((trimR (trimL all ([48] : Str)) ([48] : Str)).length : Int))))) (fun y25 y26 => k y25 y26)) else (decimal_Make (atoiVal (([48] : Str) ++ (trimR (trimL all ([48] : Str)) ([48] : Str)))) (IntKind.i64.wrap ((IntKind.i64.wrap (x + y16)) + (IntKind.i64.wrap (((trimL all ([48] : Str)).length : Int) - ((trimR (trimL all ([48] : Str)) ([48] : Str)).length : Int))))) (fun y27 y28 => k y27 y28))) else (bif ((q : Int) != 0) then (decimal_Make (IntKind.i64.wrap (0 - (atoiVal (([48] : Str) ++ (trimR (trimL all ([48] : Str)) ([48] : Str)))))) (IntKind.i64.wrap ((IntKind.i64.wrap (x + y16)) + (IntKind.i64.wrap (((trimL all ([48] : Str)).length : Int) - ((trimR (trimL all ([48] : Str)) ([48] : Str)).length : Int))))) (fun y25 y26 => k y25 y26)) else (decimal_Make (atoiVal (([48] : Str) ++ (trimR (trimL all ([48] : Str)) ([48] : Str)))) (IntKind.i64.wrap ((IntKind.i64.wrap (x + y16)) + (IntKind.i64.wrap (((trimL all ([48] : Str)).length : Int) - ((trimR (trimL all ([48] : Str)) ([48] : Str)).length : Int))))) (fun y27 y28 => k y27 y28)))))))))))) else (chk (isAsc ([48] : Str) && decide (([48] : Str).length < 4294967281)) (chk (isAsc ([48] : Str) && decide (([48] : Str).length < 4294967281)) (bif (!(y15 == ([] : Str))) then (k (⟨0, 0⟩ : Dcm) false) else (bif (decide (((trimR (trimL all ([48] : Str)) ([48] : Str)).length : Int) > (18 : Int))) then (k (⟨0, 0⟩ : Dcm) false) else (chk (decide (1 + (trimR (trimL all ([48] : Str)) ([48] : Str)).length ≤ 9223372036854775807)) (chk (decide ((([48] : Str) ++ (trimR (trimL all ([48] : Str)) ([48] : Str))).length ≤ 281474976710656)) (bif atoiOk (([48] : Str) ++ (trimR (trimL all ([48] : Str)) ([48] : Str))) then (bif ((q : Int) != 0) then (decimal_Make (IntKind.i64.wrap (0 - (atoiVal (([48] : Str) ++ (trimR (trimL all ([48] : Str)) ([48] : Str)))))) (IntKind.i64.wrap (x + (IntKind.i64.wrap (((trimL all ([48] : Str)).length : Int) - ((trimR (trimL all ([48] : Str)) ([48] : Str)).length : Int))))) (fun y25 y26 => k y25 y26)) else (decimal_Make (atoiVal (([48] : Str) ++ (trimR (trimL all ([48] : Str)) ([48] : Str)))) (IntKind.i64.wrap (x + (IntKind.i64.wrap (((trimL all ([48] : Str)).length : Int) - ((trimR (trimL all ([48] : Str)) ([48] : Str)).length : Int))))) (fun y27 y28 => k y27 y28))) else (bif ((q : Int) != 0) then (decimal_Make (IntKind.i64.wrap (0 - (atoiVal (([48] : Str) ++ (trimR (trimL all ([48] : Str)) ([48] : Str)))))) (IntKind.i64.wrap (x + (IntKind.i64.wrap (((trimL all ([48] : Str)).length : Int) - ((trimR (trimL all ([48] : Str)) ([48] : Str)).length : Int))))) (fun y25 y26 => k y25 y26)) else (decimal_Make (atoiVal (([48] : Str) ++ (trimR (trimL all ([48] : Str)) ([48] : Str)))) (IntKind.i64.wrap (x + (IntKind.i64.wrap (((trimL all ([48] : Str)).length : Int) - ((trimR (trimL all ([48] : Str)) ([48] : Str)).length : Int))))) (fun y27 y28 => k y27 y28))))))))))) = k (tailD (q != 0) all x X).1 (tailD (q != 0) all x X).2 := by
  rw [sign_ok _ _ (by omega)]
  unfold tailD
  have l5 := signP_le [101, 69] X
  generalize signP [101, 69] X = g at *
  rw [neN]
  by_cases hg : g.1 = 0
  · rw [if_pos hg, hg]
    simp only [bne_self_eq_false, cond_false]
    rw [fin_ok _ _ _ _ ha (by omega) (by omega), neN]
    split <;> rfl
  · rw [if_neg hg, bne_iff_ne.2 hg, cond_true, exp_any _ (by omega)]
    have hlim := expP_lim g.2
    generalize expP g.2 = z at *
    rw [wrap_id (n := x + z.1) (by omega) (by omega)]
    cases hz : z.2.1 with
    | false => rfl
    | true =>
      rw [Bool.not_true, cond_false, fin_ok _ _ _ _ ha (by omega) (by omega), neN, if_neg (show ¬ (true = false) by simp)]
      split <;> rfl

theorem parse_any {R : Type} (s : Str) (hs : s.length ≤ 4000000000) (k : Dcm → Bool → Option R) : decimal_Parse s k = k (parseS s).1 (parseS s).2 := by
  have e : decimal_Parse s k = decimal_Parse_X decimal_Make decimal_reader_sign_e74a decimal_reader_digits_abbd decimal_reader_exponent_abbd s k := rfl
  rw [e]
  unfold decimal_Parse_X
  have l1 := signP_le [45] s
  rw [sign_ok _ _ hs]
  unfold parseS
  simp only
  generalize signP [45] s = q at *
  rw [digits_any _ (by omega)]
  have l2 := take_le q.2
  have l3 := dropD_le q.2
  have dI := take_dig q.2
  generalize takeD q.2 = I at *
  generalize dropD q.2 = r at *
  by_cases h400 : 400 < s.length
  · rw [dtrue (show (s.length : Int) > 400 by omega), cond_true, if_pos h400]
    rfl
  rw [dfalse (show ¬ (s.length : Int) > 400 by omega), cond_false, if_neg h400]
  by_cases hI : I = []
  · subst hI
    rw [if_pos rfl]
    rfl
  have hne : (I == ([] : Str)) = false := by rw [beq_eq_false_iff_ne]; exact hI
  rw [hne, cond_false, if_neg hI]
  have hpos : 1 ≤ I.length := by cases I with | nil => exact (hI rfl).elim | cons _ _ => simp
  have q48 : (((I.getD 0 0).toNat : Int) == 48) = decide ((I.getD 0 0).toNat = 48) := eqI _ 48
  rw [chk_pos (dtrue (show (0 : Int) < I.length by omega)), q48]
  by_cases h48 : 1 < I.length ∧ (I.getD 0 0).toNat = 48
  · rw [if_pos h48, dtrue (show (I.length : Int) > 1 by omega), dtrue h48.2]
    rfl
  rw [if_neg h48]
  have cut : ∀ x : Option R, (bif decide ((I.length : Int) > 1) then (bif decide ((I.getD 0 0).toNat = 48) then k ⟨0, 0⟩ false else x) else x) = x := fun x => by
    by_cases h1 : 1 < I.length
    · rw [dtrue (show (I.length : Int) > 1 by omega), dfalse (fun h => h48 ⟨h1, h⟩)]; rfl
    · rw [dfalse (show ¬ (I.length : Int) > 1 by omega)]; rfl
  rw [cut]
  rw [sign_ok _ _ (by omega)]
  have l4 := signP_le [46] r
  generalize signP [46] r = p at *
  rw [neN]
  by_cases hp : p.1 = 0
  · rw [if_pos hp, hp]
    simp only [bne_self_eq_false, cond_false]
    exact tailD_ok q.1 I 0 p.2 dI (by omega) (by omega) (by omega) (by omega) k
  · rw [if_neg hp, bne_iff_ne.2 hp, cond_true, digits_any _ (by omega)]
    have l5 := take_le p.2
    have l6 := dropD_le p.2
    have dF := take_dig p.2
    generalize takeD p.2 = F at *
    generalize dropD p.2 = Y at *
    by_cases hF : F = []
    · subst hF
      rw [if_pos rfl]
      rfl
    have hne : (F == ([] : Str)) = false := by rw [beq_eq_false_iff_ne]; exact hF
    rw [hne, cond_false, if_neg hF, chk_pos (dtrue (by omega)), wrap_id (n := 0 - (F.length : Int)) (by omega) (by omega)]
    have e0 : (0 : Int) - (F.length : Int) = -(F.length : Int) := by omega
    rw [e0]
    exact tailD_ok q.1 (I ++ F) (-(F.length : Int)) Y (fun c hc => (List.mem_append.1 hc).elim (dI c) (dF c)) (by rw [List.length_append]; omega) (by omega) (by omega) (by omega) k
end Go.Proofs.YtmlkkgfenfdndaaDoor

set_option linter.unusedVariables false
set_option maxRecDepth 100000
namespace Go.Proofs.YtmlkkgfenfdndaaDoor
open Go Go.Yard Go.Lib

theorem longP_sfx {s r : Str} {c : Nat} (h : longP s = some (c, r)) : r <:+ s := by
  unfold longP at h
  split at h
  · cases h
  · rename_i v r1 hu
    obtain ⟨_, _, hr⟩ := unitP_lt hu
    have s1 : r1 <:+ s := by rw [hr]; exact List.drop_suffix _ _
    split at h
    · cases h; exact s1
    · split at h
      · cases h
      · split at h
        · split at h
          · cases h
          · rename_i w r2 hu2
            obtain ⟨_, _, hr2⟩ := unitP_lt hu2
            split at h
            · simp only [Option.some.injEq, Prod.mk.injEq] at h
              obtain ⟨_, rfl⟩ := h
              rw [hr2]
              exact ((List.drop_suffix _ _).trans (List.drop_suffix _ _)).trans s1
            · cases h
        · cases h
theorem escP_sfx {s r : Str} {c : Nat} (h : escP s = some (c, r)) : r <:+ s := by
  cases s with
  | nil => cases h
  | cons b t =>
    have st : t <:+ b :: t := List.suffix_cons b t
    simp only [escP] at h
    split at h
    · cases h; exact st
    split at h
    · cases h; exact st
    split at h
    · cases h; exact st
    split at h
    · cases h; exact st
    split at h
    · cases h; exact st
    split at h
    · cases h; exact st
    split at h
    · exact (longP_sfx h).trans st
    · cases h
theorem plainP_sfx {s r : Str} {c : Nat} (h : plainP s = some (c, r)) : r <:+ s := by
  unfold plainP at h
  split at h
  · cases h
  split at h
  · cases h
  split at h
  · cases h
  simp only [Option.some.injEq, Prod.mk.injEq] at h
  rw [← h.2]
  exact List.drop_suffix _ _
theorem stepU_sfx {s r : Str} {c : Nat} (h : stepU s = some (c, r)) : r <:+ s := by
  unfold stepU at h
  split at h
  · exact (escP_sfx h).trans (List.drop_suffix _ _)
  · exact plainP_sfx h
theorem uq_sfx : ∀ (n : Nat) (s o o' r : Str), uq n s o = some (o', r) → r <:+ s ∧ r.length < s.length ∧ ∃ rs : List Nat, (∀ c ∈ rs, vr c) ∧ o' = o ++ encL rs
  | 0, _, _, _, _, h => by cases h
  | n + 1, s, o, o', r, h => by
    simp only [uq] at h
    split at h
    · rename_i h34
      simp only [Option.some.injEq, Prod.mk.injEq] at h
      obtain ⟨rfl, rfl⟩ := h
      refine ⟨List.drop_suffix _ _, ?_, [], by simp, by simp [encL]⟩
      cases s with
      | nil => cases h34
      | cons b t => simp
    · split at h
      · cases h
      · rename_i c r1 hs
        obtain ⟨h1, h2, rs, h3, h4⟩ := uq_sfx n r1 (o ++ enc c) o' r h
        obtain ⟨hv, hl⟩ := stepU_ok hs
        refine ⟨h1.trans (stepU_sfx hs), by omega, c :: rs, fun x hx => ?_, ?_⟩
        · rcases List.mem_cons.1 hx with rfl | hx
          · exact hv
          · exact h3 x hx
        · rw [h4]; simp [encL]
theorem uqS_sfx {s o r : Str} (h : uqS s = some (o, r)) : r <:+ s ∧ r.length + 1 < s.length ∧ ∃ rs : List Nat, (∀ c ∈ rs, vr c) ∧ o = encL rs := by
  unfold uqS at h
  split at h
  · rename_i h34
    obtain ⟨h1, h2, rs, h3, h4⟩ := uq_sfx _ _ _ _ _ h
    refine ⟨h1.trans (List.drop_suffix _ _), ?_, rs, h3, by simpa using h4⟩
    rw [List.length_drop] at h2
    omega
  · cases h
theorem sfx_drop {s r : Str} (h : r <:+ s) : r = s.drop (s.length - r.length) := by
  obtain ⟨t, rfl⟩ := h
  rw [List.length_append, Nat.add_sub_cancel, List.drop_left]

def numS : Str := [48, 49, 50, 51, 52, 53, 54, 55, 56, 57, 43, 45, 46, 101, 69]
def letS : Str := [97, 98, 99, 100, 101, 102, 103, 104, 105, 106, 107, 108, 109, 110, 111, 112, 113, 114, 115, 116, 117, 118, 119, 120, 121, 122]
def blaS : Str := [32, 9, 10, 13]
def sigS : Str := [123, 125, 91, 93, 44, 58]
def numB (b : UInt8) : Bool := numS.contains b
def letB (b : UInt8) : Bool := letS.contains b
def blaB (b : UInt8) : Bool := blaS.contains b
def sigB (b : UInt8) : Bool := sigS.contains b
def trueS : Str := [116, 114, 117, 101]
def falseS : Str := [102, 97, 108, 115, 101]
def nullS : Str := [110, 117, 108, 108]

def tokS (s : Str) : Option (Token × Str) :=
  match s with
  | [] => none
  | c :: t =>
    if c.toNat = 45 ∨ (48 ≤ c.toNat ∧ c.toNat ≤ 57) then
      (if (parseS (s.takeWhile numB)).2 then some (⟨3, s.takeWhile numB, (parseS (s.takeWhile numB)).1, 0⟩, s.dropWhile numB) else none)
    else if c.toNat = 34 then (match uqS s with | some (o, r) => some (⟨2, o, ⟨0, 0⟩, 0⟩, r) | none => none)
    else if sigB c then some (⟨1, [c], ⟨0, 0⟩, 0⟩, t)
    else if s.takeWhile letB = trueS ∨ s.takeWhile letB = falseS ∨ s.takeWhile letB = nullS then some (⟨4, s.takeWhile letB, ⟨0, 0⟩, 0⟩, s.dropWhile letB)
    else none

theorem tw_nil {p : UInt8 → Bool} {c : UInt8} {t : Str} (h : p c = true) : ((c :: t).dropWhile p).length < (c :: t : Str).length := by
  rw [List.dropWhile_cons, if_pos h]
  have := drop_le p t
  simp only [List.length_cons]
  omega

theorem tokS_sfx {s r : Str} {t : Token} (h : tokS s = some (t, r)) : r <:+ s ∧ r.length < s.length := by
  cases s with
  | nil => cases h
  | cons c u =>
    simp only [tokS] at h
    split at h
    · rename_i hc
      split at h
      · simp only [Option.some.injEq, Prod.mk.injEq] at h
        rw [← h.2]
        refine ⟨List.dropWhile_suffix _, tw_nil ?_⟩
        have all : ∀ n : Fin 256, (n.val = 45 ∨ (48 ≤ n.val ∧ n.val ≤ 57)) → numB (UInt8.ofNat n.val) = true := by decide +kernel
        have := all ⟨c.toNat, UInt8.toNat_lt c⟩ hc
        simpa using this
      · cases h
    · split at h
      · split at h
        · rename_i o q hq
          simp only [Option.some.injEq, Prod.mk.injEq] at h
          obtain ⟨_, rfl⟩ := h
          obtain ⟨h1, h2, _⟩ := uqS_sfx hq
          exact ⟨h1, by omega⟩
        · cases h
      · split at h
        · simp only [Option.some.injEq, Prod.mk.injEq] at h
          rw [← h.2]
          exact ⟨List.suffix_cons _ _, by simp⟩
        · split at h
          · rename_i hw
            simp only [Option.some.injEq, Prod.mk.injEq] at h
            rw [← h.2]
            refine ⟨List.dropWhile_suffix _, tw_nil ?_⟩
            cases hl : letB c with
            | true => rfl
            | false =>
              have e : (c :: u).takeWhile letB = [] := by rw [List.takeWhile_cons, hl]; rfl
              rw [e] at hw
              rcases hw with hw | hw | hw <;> cases hw
          · cases h

def putT (t : Token) (n : Int) : Token := ⟨t.kind, t.text, t.num, n⟩

def scanN : Nat → Nat → Str → List Token → List Token × Int × Int
  | 0, _, _, _ => ([], 0, 0)
  | n + 1, p, s, out =>
    if s.dropWhile blaB = [] then (out ++ [⟨5, [], ⟨0, 0⟩, ((p + (s.takeWhile blaB).length : Nat) : Int)⟩], 0, 0)
    else match tokS (s.dropWhile blaB) with
      | none => ([], 30, ((p + (s.takeWhile blaB).length : Nat) : Int))
      | some (t, r) => scanN n (p + (s.length - r.length)) r (out ++ [putT t ((p + (s.takeWhile blaB).length : Nat) : Int)])

def scanS (s : Str) : List Token × Int × Int := if 20000 < s.length then ([], 30, 0) else scanN (s.length + 1) 0 s []

theorem scanN_fuel : ∀ (n m p : Nat) (s : Str) (out : List Token), s.length < n → s.length < m → scanN n p s out = scanN m p s out
  | 0, _, _, _, _, h, _ => by omega
  | _, 0, _, _, _, _, h => by omega
  | n + 1, m + 1, p, s, out, h1, h2 => by
    simp only [scanN]
    split
    · rfl
    · split
      · rfl
      · rename_i t r hr
        have h3 := (tokS_sfx hr).2
        have h4 := drop_le blaB s
        exact scanN_fuel n m _ r _ (by omega) (by omega)

abbrev Item3 := Str × Str × Token
def stopR (r : Str) : Prop := r = [] ∨ ∃ b u, r = b :: u ∧ numB b = false ∧ letB b = false
def Word (w : Str) (t : Token) : Prop := (∃ c u, w = c :: u ∧ blaB c = false) ∧ ∀ r, stopR r → tokS (w ++ r) = some (t, r)

theorem word_sign (c : UInt8) (h : sigB c = true) : Word [c] ⟨1, [c], ⟨0, 0⟩, 0⟩ := by
  have all : ∀ n : Fin 256, sigB (UInt8.ofNat n.val) = true → blaB (UInt8.ofNat n.val) = false ∧ ¬ (n.val = 45 ∨ (48 ≤ n.val ∧ n.val ≤ 57)) ∧ ¬ n.val = 34 := by decide +kernel
  obtain ⟨h1, h2, h3⟩ := all ⟨c.toNat, UInt8.toNat_lt c⟩ (by simpa using h)
  refine ⟨⟨c, [], rfl, by simpa using h1⟩, fun r _ => ?_⟩
  show tokS (c :: r) = _
  simp only [tokS]
  rw [if_neg h2, if_neg h3, if_pos h]

def sg (c : UInt8) : Item3 := ([], [c], ⟨1, [c], ⟨0, 0⟩, 0⟩)
end Go.Proofs.YtmlkkgfenfdndaaDoor

set_option linter.unusedVariables false
set_option maxRecDepth 100000
namespace Go.Proofs.YtmlkkgfenfdndaaDoor
open Go Go.Yard Go.Lib

theorem tw_dw_len (p : UInt8 → Bool) (s : Str) : (s.takeWhile p).length + (s.dropWhile p).length = s.length := by
  have := congrArg List.length (List.takeWhile_append_dropWhile (p := p) (l := s))
  rwa [List.length_append] at this
theorem take_tw (p : UInt8 → Bool) (s : Str) : s.take (s.takeWhile p).length = s.takeWhile p := by
  have := List.take_left (l₁ := s.takeWhile p) (l₂ := s.dropWhile p)
  rwa [List.takeWhile_append_dropWhile] at this
theorem drop_tw (p : UInt8 → Bool) (s : Str) : s.drop (s.takeWhile p).length = s.dropWhile p := by
  have := List.drop_left (l₁ := s.takeWhile p) (l₂ := s.dropWhile p)
  rwa [List.takeWhile_append_dropWhile] at this

theorem while_ok {R : Type} (s cs : Str) (hs : s.length ≤ 4000000000) (h1 : isAsc cs = true) (h2 : cs.length < 4294967281) (k : Str → Option R) : lexer_while s cs k = k (s.takeWhile (cs.contains ·)) := by
  have e : lexer_while s cs k = lexer_while_X s cs k := rfl
  rw [e]
  unfold lexer_while_X
  have hl := tw_dw_len (cs.contains ·) s
  have ht : (trimL s cs).length = (s.dropWhile (cs.contains ·)).length := rfl
  have hw : IntKind.i64.wrap ((s.length : Int) - ((trimL s cs).length : Int)) = ((s.takeWhile (cs.contains ·)).length : Int) := by rw [ht, wrap_id (by omega) (by omega)]; omega
  rw [hw, h1, chk_pos (by rw [dtrue h2]; rfl), chk_pos (by rw [dtrue (by omega), dtrue (by omega)]; rfl), chk_pos (dtrue (by omega)), List.drop_zero, Nat.sub_zero, Int.toNat_natCast, take_tw]

theorem sign_has (c : UInt8) : decide (idxByte sigS (c.toNat : Int) ≥ 0) = sigB c := by
  have hi : idxByte sigS (c.toNat : Int) = Go.Lib.indexByte sigS c := by
    unfold idxByte
    rw [Int.toNat_natCast]
    simp
  have h := idx_neg c sigS
  rw [hi]
  unfold sigB
  cases hc : sigS.contains c with
  | true =>
    apply dtrue
    have : ¬ Go.Lib.indexByte sigS c < 0 := fun g => by rw [h.1 g] at hc; cases hc
    omega
  | false =>
    apply dfalse
    have := h.2 hc
    omega

theorem next_ok {R : Type} (s : Str) (hs : s.length ≤ 4000000000) (h0 : s ≠ []) (k : Token → Int → Option R) :
    lexer_next s k = match tokS s with | some (t, r) => k t ((s.length - r.length : Nat) : Int) | none => k ⟨0, [], ⟨0, 0⟩, 0⟩ 0 := by
  have e : lexer_next s k = lexer_next_X quote_Unquote decimal_Parse lexer_while s k := rfl
  rw [e]
  unfold lexer_next_X
  cases s with
  | nil => exact (h0 rfl).elim
  | cons c u =>
    have hlen : (c :: u : Str).length = u.length + 1 := rfl
    have hg : (c :: u : Str).getD 0 0 = c := rfl
    simp only [List.length_cons] at hs
    rw [hg, chk_pos (dtrue (by rw [hlen]; omega))]
    simp only
    have q45 : ((c.toNat : Int) == 45) = decide (c.toNat = 45) := eqI _ 45
    have q34 : ((c.toNat : Int) == 34) = decide (c.toNat = 34) := eqI _ 34
    have l48 : decide ((c.toNat : Int) ≥ 48) = decide (48 ≤ c.toNat) := by
      by_cases h : 48 ≤ c.toNat
      · rw [dtrue h, dtrue (by omega)]
      · rw [dfalse h, dfalse (by omega)]
    have l57 : decide ((c.toNat : Int) ≤ 57) = decide (c.toNat ≤ 57) := by
      by_cases h : c.toNat ≤ 57
      · rw [dtrue h, dtrue (by omega)]
      · rw [dfalse h, dfalse (by omega)]
    have hsg : decide (idxByte ([123, 125, 91, 93, 44, 58] : Str) (c.toNat : Int) ≥ 0) = sigB c := sign_has c
    have hlt : ∀ p : UInt8 → Bool, ((c :: u).takeWhile p).length ≤ (c :: u).length := fun p => by have := tw_dw_len p (c :: u); omega
    have num : ∀ k : Token → Int → Option R, lexer_while (c :: u) ([48, 49, 50, 51, 52, 53, 54, 55, 56, 57, 43, 45, 46, 101, 69] : Str) (fun y6 => decimal_Parse y6 (fun y7 y8 => bif (!y8) then (k (⟨0, ([] : Str), ⟨0, 0⟩, 0⟩ : Token) 0) else (k (⟨3, y6, ⟨y7.mant, y7.exp⟩, 0⟩ : Token) (y6.length : Int)))) =
        (if (parseS ((c :: u).takeWhile numB)).2 then k ⟨3, (c :: u).takeWhile numB, (parseS ((c :: u).takeWhile numB)).1, 0⟩ (((c :: u).length - ((c :: u).dropWhile numB).length : Nat) : Int) else k ⟨0, [], ⟨0, 0⟩, 0⟩ 0) := fun k => by
      rw [while_ok _ _ (by rw [hlen]; omega) rfl (by decide)]
      have e : (c :: u).takeWhile (fun x => List.contains [48, 49, 50, 51, 52, 53, 54, 55, 56, 57, 43, 45, 46, 101, 69] x) = (c :: u).takeWhile numB := rfl
      have hl := hlt numB
      have hd := tw_dw_len numB (c :: u)
      rw [e, parse_any _ (by omega)]
      have el : (c :: u).length - ((c :: u).dropWhile numB).length = ((c :: u).takeWhile numB).length := by omega
      rw [el]
      cases (parseS ((c :: u).takeWhile numB)).2 <;> rfl
    have txt : ∀ k : Token → Int → Option R, quote_Unquote (c :: u) (fun y15 y16 y17 => bif (!y17) then (k (⟨0, ([] : Str), ⟨0, 0⟩, 0⟩ : Token) 0) else (k (⟨2, y15, ⟨0, 0⟩, 0⟩ : Token) y16)) =
        match uqS (c :: u) with | some (o, r) => k ⟨2, o, ⟨0, 0⟩, 0⟩ (((c :: u).length - r.length : Nat) : Int) | none => k ⟨0, [], ⟨0, 0⟩, 0⟩ 0 := fun k => by
      rw [unquote_ok _ (by rw [hlen]; omega)]
      cases hu : uqS (c :: u) with
      | none => rfl
      | some p =>
        obtain ⟨o, r⟩ := p
        obtain ⟨_, hr, _⟩ := uqS_sfx hu
        simp only [Bool.not_true, cond_false]
        rw [wrap_id (by omega) (by omega)]
        congr 1
        omega
    have nam : ∀ k : Token → Int → Option R, lexer_while (c :: u) ([97, 98, 99, 100, 101, 102, 103, 104, 105, 106, 107, 108, 109, 110, 111, 112, 113, 114, 115, 116, 117, 118, 119, 120, 121, 122] : Str) (fun y21 => bif (y21 == ([116, 114, 117, 101] : Str)) then (k (⟨4, y21, ⟨0, 0⟩, 0⟩ : Token) (y21.length : Int)) else (bif (y21 == ([102, 97, 108, 115, 101] : Str)) then (k (⟨4, y21, ⟨0, 0⟩, 0⟩ : Token) (y21.length : Int)) else (bif (!(y21 == ([110, 117, 108, 108] : Str))) then (k (⟨0, ([] : Str), ⟨0, 0⟩, 0⟩ : Token) 0) else (k (⟨4, y21, ⟨0, 0⟩, 0⟩ : Token) (y21.length : Int))))) =
        (if (c :: u).takeWhile letB = trueS ∨ (c :: u).takeWhile letB = falseS ∨ (c :: u).takeWhile letB = nullS then k ⟨4, (c :: u).takeWhile letB, ⟨0, 0⟩, 0⟩ (((c :: u).length - ((c :: u).dropWhile letB).length : Nat) : Int) else k ⟨0, [], ⟨0, 0⟩, 0⟩ 0) := fun k => by
      rw [while_ok _ _ (by rw [hlen]; omega) rfl (by decide)]
      have e : (c :: u).takeWhile (fun x => List.contains [97, 98, 99, 100, 101, 102, 103, 104, 105, 106, 107, 108, 109, 110, 111, 112, 113, 114, 115, 116, 117, 118, 119, 120, 121, 122] x) = (c :: u).takeWhile letB := rfl
      have hd := tw_dw_len letB (c :: u)
      have el : (c :: u).length - ((c :: u).dropWhile letB).length = ((c :: u).takeWhile letB).length := by omega
      rw [e, el]
      generalize (c :: u).takeWhile letB = w
      have eq : ∀ a : Str, (w == a) = decide (w = a) := fun a => by
        by_cases h : w = a
        · rw [dtrue h]; exact beq_iff_eq.2 h
        · rw [dfalse h]; exact beq_eq_false_iff_ne.2 h
      rw [eq, eq, eq]
      by_cases h1 : w = trueS
      · rw [dtrue (show w = [116, 114, 117, 101] from h1), if_pos (.inl h1)]; rfl
      · by_cases h2 : w = falseS
        · rw [dfalse (show ¬ w = [116, 114, 117, 101] from h1), dtrue (show w = [102, 97, 108, 115, 101] from h2), if_pos (.inr (.inl h2))]; rfl
        · by_cases h3 : w = nullS
          · rw [dfalse (show ¬ w = [116, 114, 117, 101] from h1), dfalse (show ¬ w = [102, 97, 108, 115, 101] from h2), dtrue (show w = [110, 117, 108, 108] from h3), if_pos (.inr (.inr h3))]; rfl
          · rw [dfalse (show ¬ w = [116, 114, 117, 101] from h1), dfalse (show ¬ w = [102, 97, 108, 115, 101] from h2), dfalse (show ¬ w = [110, 117, 108, 108] from h3), if_neg (by rintro (h | h | h); exact h1 h; exact h2 h; exact h3 h)]; rfl
    have sgn1 : ∀ k : Token → Int → Option R, chk (decide ((1 : Int) ≤ ((c :: u : Str).length : Int))) (k (⟨1, (((c :: u : Str).drop 0).take (1 - 0)), ⟨0, 0⟩, 0⟩ : Token) 1) = k ⟨1, [c], ⟨0, 0⟩, 0⟩ (((c :: u).length - u.length : Nat) : Int) := fun k => by
      have e1 : (c :: u).length - u.length = 1 := by rw [hlen]; omega
      rw [chk_pos (dtrue (by rw [hlen]; omega)), e1]
      rfl
    simp only [tokS]
    rw [q45, q34, l48, l57, hsg]
    by_cases h45 : c.toNat = 45
    · rw [dtrue h45, cond_true, if_pos (.inl h45)]
      refine (num k).trans ?_
      split <;> rfl
    · rw [dfalse h45, cond_false]
      have rest : ¬ (48 ≤ c.toNat ∧ c.toNat ≤ 57) → (bif decide (c.toNat = 34) then quote_Unquote (c :: u) (fun y15 y16 y17 => bif (!y17) then (k (⟨0, ([] : Str), ⟨0, 0⟩, 0⟩ : Token) 0) else (k (⟨2, y15, ⟨0, 0⟩, 0⟩ : Token) y16)) else (bif sigB c then chk (decide ((1 : Int) ≤ ((c :: u : Str).length : Int))) (k (⟨1, (((c :: u : Str).drop 0).take (1 - 0)), ⟨0, 0⟩, 0⟩ : Token) 1) else lexer_while (c :: u) ([97, 98, 99, 100, 101, 102, 103, 104, 105, 106, 107, 108, 109, 110, 111, 112, 113, 114, 115, 116, 117, 118, 119, 120, 121, 122] : Str) (fun y21 => bif (y21 == ([116, 114, 117, 101] : Str)) then (k (⟨4, y21, ⟨0, 0⟩, 0⟩ : Token) (y21.length : Int)) else (bif (y21 == ([102, 97, 108, 115, 101] : Str)) then (k (⟨4, y21, ⟨0, 0⟩, 0⟩ : Token) (y21.length : Int)) else (bif (!(y21 == ([110, 117, 108, 108] : Str))) then (k (⟨0, ([] : Str), ⟨0, 0⟩, 0⟩ : Token) 0) else (k (⟨4, y21, ⟨0, 0⟩, 0⟩ : Token) (y21.length : Int))))))) =
          match (if c.toNat = 45 ∨ (48 ≤ c.toNat ∧ c.toNat ≤ 57) then (if (parseS ((c :: u).takeWhile numB)).2 then some (⟨3, (c :: u).takeWhile numB, (parseS ((c :: u).takeWhile numB)).1, 0⟩, (c :: u).dropWhile numB) else none) else if c.toNat = 34 then (match uqS (c :: u) with | some (o, r) => some (⟨2, o, ⟨0, 0⟩, 0⟩, r) | none => none) else if sigB c then some ((⟨1, [c], ⟨0, 0⟩, 0⟩ : Token), u) else if (c :: u).takeWhile letB = trueS ∨ (c :: u).takeWhile letB = falseS ∨ (c :: u).takeWhile letB = nullS then some (⟨4, (c :: u).takeWhile letB, ⟨0, 0⟩, 0⟩, (c :: u).dropWhile letB) else none) with
          | some (t, r) => k t (((c :: u).length - r.length : Nat) : Int) | none => k ⟨0, [], ⟨0, 0⟩, 0⟩ 0 := by
        intro hd
        rw [if_neg (by rintro (h | h); exact h45 h; exact hd h)]
        by_cases h34 : c.toNat = 34
        · rw [dtrue h34, cond_true, if_pos h34, txt]
          cases uqS (c :: u) with
          | none => rfl
          | some p => rfl
        · rw [dfalse h34, cond_false, if_neg h34]
          cases hs' : sigB c with
          | true => rw [cond_true, sgn1, if_pos rfl]
          | false =>
            rw [cond_false, nam, if_neg (show ¬ (false = true) by simp)]
            split <;> rfl
      by_cases h48 : 48 ≤ c.toNat
      · rw [dtrue h48, cond_true]
        by_cases h57 : c.toNat ≤ 57
        · rw [dtrue h57, cond_true, if_pos (.inr ⟨h48, h57⟩)]
          refine (num k).trans ?_
          split <;> rfl
        · rw [dfalse h57, cond_false]
          exact rest (fun h => h57 h.2)
      · rw [dfalse h48, cond_false]
        exact rest (fun h => h48 h.1)

theorem scan_loop {R : Type} (s : Str) (hs : s.length ≤ 20000) (e0 : List Token → Int → Int → Option R) (e1 : Int → Int → Option R) (hz : ∀ a b, e0 [] a b = e1 a b) : ∀ (n p : Nat) (out : List Token), s.length - p < n → p ≤ s.length → out.length ≤ p →
    lexer_Scan_3_0_L n s out (p : Int) e0 e1 = e0 (scanN n p (s.drop p) out).1 (scanN n p (s.drop p) out).2.1 (scanN n p (s.drop p) out).2.2 := by
  intro n
  induction n with
  | zero => intro p out h; omega
  | succ n ih =>
    intro p out h1 h2 h3
    rw [lexer_Scan_3_0_L]
    unfold lexer_Scan_3_0_B
    have hsub : ∀ q : Nat, (s.drop q).take ((s.length : Int).toNat - q) = s.drop q := fun q => List.take_of_length_le (by rw [List.length_drop, Int.toNat_natCast]; exact Nat.le_refl _)
    have hl := tw_dw_len blaB (s.drop p)
    rw [List.length_drop] at hl
    have hdl : (s.drop p).length = s.length - p := List.length_drop
    rw [chk_pos (by rw [dtrue (by omega), dtrue (by omega)]; rfl), chk_pos (by rw [dtrue (by omega), dtrue (by omega)]; rfl), Int.toNat_natCast p, hsub, while_ok _ _ (by omega) rfl (by decide)]
    have eb : (s.drop p).takeWhile (fun x => List.contains [32, 9, 10, 13] x) = (s.drop p).takeWhile blaB := rfl
    rw [eb]
    have hdd : s.drop (p + ((s.drop p).takeWhile blaB).length) = (s.drop p).dropWhile blaB := by rw [← drop_tw blaB (s.drop p), List.drop_drop]
    have hw : IntKind.i64.wrap ((p : Int) + (((s.drop p).takeWhile blaB).length : Int)) = ((p + ((s.drop p).takeWhile blaB).length : Nat) : Int) := by rw [wrap_id (by omega) (by omega)]; omega
    rw [hw]
    simp only [scanN]
    generalize hq : p + ((s.drop p).takeWhile blaB).length = q at *
    by_cases hend : (s.drop p).dropWhile blaB = []
    · have hqe : q = s.length := by rw [hend] at hl; simp at hl; omega
      have e1' : (((q : Nat) : Int) == (s.length : Int)) = true := by rw [hqe]; simp
      rw [e1', cond_true, chk_pos (dtrue (by omega)), if_pos hend]
    · have hpos : 0 < ((s.drop p).dropWhile blaB).length := List.length_pos_iff.2 hend
      have e1' : (((q : Nat) : Int) == (s.length : Int)) = false := by rw [beq_eq_false_iff_ne]; omega
      rw [e1', cond_false, chk_pos (by rw [dtrue (by omega), dtrue (by omega)]; rfl), chk_pos (by rw [dtrue (by omega), dtrue (by omega)]; rfl), Int.toNat_natCast q, hsub, hdd, next_ok _ (by omega) hend, if_neg hend]
      cases ht : tokS ((s.drop p).dropWhile blaB) with
      | none =>
        have e0' : ((0 : Int) == 0) = true := rfl
        simp only
        rw [e0', cond_true, hz]
      | some x =>
        obtain ⟨t, r⟩ := x
        obtain ⟨f1, f2⟩ := tokS_sfx ht
        have hn : ((((s.drop p).dropWhile blaB).length - r.length : Nat) : Int) ≠ 0 := by omega
        simp only
        rw [beq_eq_false_iff_ne.2 hn, cond_false, chk_pos (dtrue (by omega))]
        have hq2 : IntKind.i64.wrap (((q : Nat) : Int) + ((((s.drop p).dropWhile blaB).length - r.length : Nat) : Int)) = ((p + ((s.drop p).length - r.length) : Nat) : Int) := by rw [wrap_id (by omega) (by omega)]; omega
        rw [hq2]
        have hr : s.drop (p + ((s.drop p).length - r.length)) = r := by
          have := sfx_drop (f1.trans (List.dropWhile_suffix blaB))
          rw [← List.drop_drop, ← this]
        have key := ih (p + ((s.drop p).length - r.length)) (out ++ [putT t ((q : Nat) : Int)]) (by omega) (by omega) (by simp; omega)
        rw [hr] at key
        exact key

theorem scan_ok {R : Type} (s : Str) (k : List Token → Int → Int → Option R) : lexer_Scan s k = k (scanS s).1 (scanS s).2.1 (scanS s).2.2 := by
  have e : lexer_Scan s k = lexer_Scan_X lexer_Scan_3_0_L s k := rfl
  rw [e]
  unfold lexer_Scan_X scanS
  by_cases h : 20000 < s.length
  · rw [dtrue (show (s.length : Int) > 20000 by omega), cond_true, if_pos h]
  · rw [dfalse (show ¬ (s.length : Int) > 20000 by omega), cond_false, if_neg h]
    have key := scan_loop (R := R) s (by omega) (fun y8 y9 y10 => k y8 y9 y10) (fun y11 y12 => k [] y11 y12) (fun _ _ => rfl) (List.length s + List.length ([] : List Token) + Int.natAbs 0 + 64) 0 [] (by omega) (by omega) (by simp)
    rw [List.drop_zero, scanN_fuel _ (s.length + 1) 0 s [] (by omega) (by omega)] at key
    exact key
end Go.Proofs.YtmlkkgfenfdndaaDoor

set_option linter.unusedVariables false
set_option maxRecDepth 100000
namespace Go.Proofs.YtmlkkgfenfdndaaDoor
open Go Go.Yard Go.Lib

theorem awake03 {R : Type} (k : Bool → Option R) : law03_awake k = k true := by kernel_rfl

end Go.Proofs.YtmlkkgfenfdndaaDoor

set_option linter.unusedVariables false
set_option maxRecDepth 100000
namespace Go.Proofs.YtmlkkgfenfdndaaDoor
open Go Go.Yard Go.Lib

theorem plain_low {b : UInt8} {t : Str} (h : b.toNat < 32) : plainP (b :: t) = none := by
  unfold plainP
  rw [if_neg (by simp), decodeL_ascii b t (by omega)]
  simp only
  rw [if_neg (by omega), if_pos h]

theorem plain_enc {s r : Str} {c : Nat} (h : plainP s = some (c, r)) : s = enc c ++ r ∧ good s ∧ (decodeL s).2 = (enc c).length ∧ c = (decodeL s).1 := by
  unfold plainP at h
  split at h
  · cases h
  · rename_i hne
    split at h
    · cases h
    · rename_i hg
      split at h
      · cases h
      · simp only [Option.some.injEq, Prod.mk.injEq] at h
        obtain ⟨rfl, rfl⟩ := h
        obtain ⟨e1, e2⟩ := dec_good hne hg
        exact ⟨e1, hg, e2.symm, rfl⟩

theorem refUnq_loop {R : Type} (s : Str) (hs : s.length ≤ 9000000000) (e1 : Str → Int → Bool → Option R) : ∀ (n i : Nat) (o : Str), s.length - i < n → 1 ≤ i → i ≤ s.length → o.length + 4 * (s.length - i) ≤ 90000000000 →
    ref02_Unquote_5_0_L n s (zs o) (i : Int) (e1 [] 0 false) e1 = match uq n (s.drop i) o with | some (o', r) => e1 o' (((s.length - r.length : Nat)) : Int) true | none => e1 [] 0 false := by
  intro n
  induction n with
  | zero => intro i o h; omega
  | succ n ih =>
    intro i o h h1 hil hb
    have e : ref02_Unquote_5_0_L (n + 1) s (zs o) (i : Int) (e1 [] 0 false) e1 = ref02_Unquote_5_0_B ref02_escape ref02_one (fun x0' x1' x2' => ref02_Unquote_5_0_L n x0' x1' x2' (e1 [] 0 false) e1) s (zs o) (i : Int) (e1 [] 0 false) e1 := rfl
    rw [e]
    unfold ref02_Unquote_5_0_B
    simp only [uq]
    have w1 : IntKind.i64.wrap ((i : Int) + 1) = ((i + 1 : Nat) : Int) := by rw [wrap_id (by omega) (by omega)]; omega
    by_cases hi : i < s.length
    · have hd := drop_cons hi
      have fin : ∀ (c j : Nat), vr c → i < j → j ≤ s.length → (fun x0' x1' x2' => ref02_Unquote_5_0_L n x0' x1' x2' (e1 [] 0 false) e1) s (zs o ++ zs (enc c)) (j : Int) = match uq n (s.drop j) (o ++ enc c) with | some (o', r) => e1 o' (((s.length - r.length : Nat)) : Int) true | none => e1 [] 0 false := fun c j hv hj hjl => by
        have := enc_len hv
        show ref02_Unquote_5_0_L n s (zs o ++ zs (enc c)) (j : Int) (e1 [] 0 false) e1 = _
        rw [← zs_app]
        exact ih j (o ++ enc c) (by omega) (by omega) hjl (by rw [List.length_append]; omega)
      have hchk : (decide ((0 : Int) ≤ (i : Int)) && decide ((i : Int) < (s.length : Int))) = true := by rw [dtrue (by omega), dtrue (by omega)]; rfl
      rw [dtrue (show (i : Int) < (s.length : Int) by omega), cond_true]
      simp only [Bool.and_true, dtrue (show (0 : Int) ≤ (i : Int) by omega), chk_pos rfl, Int.toNat_natCast, w1]
      have hbt := UInt8.toNat_lt (s.getD i 0)
      have e34 : ([34] : Str).isPrefixOf (s.drop i) = decide ((s.getD i 0).toNat = 34) := by rw [hd, pre_cons]; exact beqN _ 34 (by omega)
      have hd1 : (s.drop i).drop 1 = s.drop (i + 1) := by rw [List.drop_drop]
      have q34 : (((s.getD i 0).toNat : Int) == 34) = decide ((s.getD i 0).toNat = 34) := eqI _ 34
      have q92 : (((s.getD i 0).toNat : Int) == 92) = decide ((s.getD i 0).toNat = 92) := eqI _ 92
      rw [e34, q34, q92]
      by_cases h34 : (s.getD i 0).toNat = 34
      · rw [dtrue h34, cond_true]
        simp only [if_true]
        rw [unz]
        rw [hd1]
        have : s.length - (s.drop (i + 1)).length = i + 1 := by rw [List.length_drop]; omega
        rw [this]
      rw [dfalse h34, cond_false]
      simp only [Bool.false_eq_true, if_false]
      have e92 : ([92] : Str).isPrefixOf (s.drop i) = decide ((s.getD i 0).toNat = 92) := by rw [hd, pre_cons]; exact beqN _ 92 (by omega)
      unfold stepU
      rw [e92]
      by_cases h32 : (s.getD i 0).toNat < 32
      · rw [dtrue (show ((s.getD i 0).toNat : Int) < 32 by omega), cond_true, dfalse (show ¬ (s.getD i 0).toNat = 92 by omega)]
        simp only [Bool.false_eq_true, if_false]
        have hpl : plainP (s.drop i) = none := by rw [hd]; exact plain_low h32
        rw [hpl]
      rw [dfalse (show ¬ ((s.getD i 0).toNat : Int) < 32 by omega), cond_false]
      by_cases h92 : (s.getD i 0).toNat = 92
      · rw [dtrue h92, cond_true]
        simp only [if_true, hd1]
        have hk := escape_ok (R := R) s (i + 1) (by omega) (fun y6 y7 => bif (y7 == 0) then (e1 ([] : Str) 0 false) else (chk (decide (((zs o).length + y6.length) * 1 ≤ 140737488355328)) (ref02_Unquote_5_0_L n s ((zs o : List Int) ++ (y6 : List Int)) (IntKind.i64.wrap (((i + 1 : Nat) : Int) + y7)) (e1 [] 0 false) e1)))
        cases he : escP (s.drop (i + 1)) with
        | none =>
          rw [he] at hk
          simp only at hk ⊢
          exact hk.trans rfl
        | some q =>
          obtain ⟨c, r⟩ := q
          rw [he] at hk
          obtain ⟨m, m1, m2, rfl, hk⟩ := hk
          obtain ⟨hv, _⟩ := escP_ok he
          have hel := enc_len hv
          simp only
          refine hk.trans ?_
          have em : ((m : Int) == 0) = false := by rw [beq_eq_false_iff_ne]; omega
          rw [em, cond_false, chk_pos (dtrue (by rw [zs_len, zs_len]; omega))]
          have ew : IntKind.i64.wrap (((i + 1 : Nat) : Int) + (m : Int)) = ((i + 1 + m : Nat) : Int) := by rw [wrap_id (by omega) (by omega)]; omega
          rw [ew]
          exact fin c (i + 1 + m) hv (by omega) m2
      rw [dfalse h92, cond_false]
      simp only [Bool.false_eq_true, if_false]
      rw [one_ok s i hi (by omega)]
      cases he : plainP (s.drop i) with
      | none =>
        have hz : oneN (s.drop i) = 0 := by
          rw [oneN_zero]
          intro hg
          have hne : s.drop i ≠ [] := by rw [hd]; simp
          obtain ⟨g1, g2⟩ := dec_good hne hg
          unfold plainP at he
          unfold good at hg
          rw [if_neg hne, if_neg hg] at he
          split at he
          · rename_i hc
            have g3 := enc1 (show (decodeL (s.drop i)).1 < 128 by omega)
            rw [g3, hd] at g1
            have g4 : s.getD i 0 = UInt8.ofNat (decodeL (s.getD i 0 :: s.drop (i + 1))).1 := by
              have := congrArg (fun l => l.head?) g1
              simpa using this
            rw [hd] at hc
            rw [g4, u8_nat _ (by omega)] at h32
            omega
          · cases he
        rw [hz]
        rfl
      | some q =>
        obtain ⟨c, r⟩ := q
        obtain ⟨g1, g2, g3, g4⟩ := plain_enc he
        obtain ⟨hv, _⟩ := plainP_ok he
        have hel := enc_len hv
        have ho : oneN (s.drop i) = (enc c).length := by unfold oneN; rw [if_pos g2, g3]
        have hlen : i + (enc c).length ≤ s.length := by
          have := congrArg List.length g1
          rw [List.length_drop, List.length_append] at this
          omega
        have hr : r = s.drop (i + (enc c).length) := by
          have := congrArg (List.drop (enc c).length) g1
          rw [List.drop_left, List.drop_drop] at this
          exact this.symm
        rw [ho]
        have em : (((enc c).length : Int) == 0) = false := by rw [beq_eq_false_iff_ne]; omega
        have ew : IntKind.i64.wrap ((i : Int) + ((enc c).length : Int)) = ((i + (enc c).length : Nat) : Int) := by rw [wrap_id (by omega) (by omega)]; omega
        have et : (s.drop i).take (((i + (enc c).length : Nat) : Int).toNat - i) = enc c := by
          rw [Int.toNat_natCast, Nat.add_sub_cancel_left]
          have := congrArg (List.take (enc c).length) g1
          rw [List.take_left] at this
          exact this
        simp only
        rw [em, cond_false, ew, chk_pos (by rw [dtrue (by omega), dtrue (by omega)]; rfl), chk_pos (by rw [dtrue (show (i : Int) ≤ ((i + (enc c).length : Nat) : Int) by omega)]; rfl), chk_pos (dtrue (by rw [et, zs_bytesN, zs_len, zs_len]; omega)), et, zs_bytesN, hr]
        exact fin c (i + (enc c).length) hv (by omega) hlen
    · have : s.drop i = [] := List.drop_eq_nil_of_le (by omega)
      rw [this, dfalse (show ¬ (i : Int) < (s.length : Int) by omega), cond_false]
      rfl

theorem refUnquote_ok {R : Type} (s : Str) (hs : s.length ≤ 9000000000) (k : Str → Int → Bool → Option R) :
    ref02_Unquote s k = match uqS s with | some (o, r) => k o (((s.length - r.length : Nat)) : Int) true | none => k [] 0 false := by
  have e : ref02_Unquote s k = ref02_Unquote_X ref02_Unquote_5_0_L s k := rfl
  rw [e]
  unfold ref02_Unquote_X uqS
  match s, hs with
  | [], _ => rfl
  | [b], _ =>
    by_cases h : ([34] : Str).isPrefixOf [b] = true
    · rw [if_pos h]; rfl
    · rw [if_neg h]; rfl
  | b :: c :: t, hs =>
    generalize hS : b :: c :: t = s at *
    have hl : 2 ≤ s.length := by rw [← hS]; simp
    have hg : s.getD 0 0 = b := by rw [← hS]; rfl
    rw [dfalse (show ¬ (s.length : Int) < 2 by omega), cond_false, chk_pos (dtrue (by omega)), hg]
    have q : ((b.toNat : Int) != 34) = decide (b.toNat ≠ 34) := neI _ 34
    have e34 : ([34] : Str).isPrefixOf s = decide (b.toNat = 34) := by rw [← hS, pre_cons]; exact beqN _ 34 (by omega)
    rw [q, e34]
    by_cases h : b.toNat = 34
    · rw [dtrue h, dfalse (show ¬ b.toNat ≠ 34 from fun x => x h), cond_false]
      simp only [if_true]
      have key := refUnq_loop (R := R) s hs (fun y9 y10 y11 => k y9 y10 y11) (List.length s + List.length ([] : List Int) + Int.natAbs 1 + 64) 1 [] (by omega) (by omega) (by omega) (by simp only [List.length_nil]; omega)
      rw [uq_fuel _ (s.length + 1) _ _ (by rw [List.length_drop]; omega) (by rw [List.length_drop]; omega)] at key
      exact key
    · rw [dfalse h, dtrue (show b.toNat ≠ 34 from h), cond_true]
      rfl

end Go.Proofs.YtmlkkgfenfdndaaDoor

set_option linter.unusedVariables false
set_option maxRecDepth 100000
namespace Go.Proofs.YtmlkkgfenfdndaaDoor
open Go Go.Yard Go.Lib

noncomputable def Jref01_Parse_j76 {R : Type} (k0 : Dcm → Bool → Option R) (z40 : Str) (z41 : Int) (z42 : Int) (z43 : Str) (z44 : Int) (z45 : Dcm) : Option R :=
  bif (z41 != (z40.length : Int)) then (k0 (⟨0, 0⟩ : Dcm) false) else (ref01_Parse_41_0_L (Int.natAbs z42 + List.length z43 + Int.natAbs z44 + Dcm.fu z45 + 64) z42 z43 z44 z45 (fun y51 y52 y53 y54 => ref01_Parse_43_0_L (Int.natAbs y51 + List.length y52 + Int.natAbs y53 + Dcm.fu y54 + 64) y51 y52 y53 y54 (fun y60 y61 y62 y63 => bif (decide ((y61.length : Int) > (17 : Int))) then (k0 (⟨0, 0⟩ : Dcm) false) else (ref01_Parse_50_0_L (Int.natAbs y60 + List.length y61 + Int.natAbs y62 + Int.natAbs 0 + Int.natAbs 0 + Dcm.fu y63 + 64) y60 y61 y62 0 0 y63 (fun y70 y71 y72 y73 => ref01_Make (IntKind.i64.wrap (y70 * y72)) y71 (fun y74 y75 => k0 y74 y75))))))
noncomputable def Jref01_Parse_j38 {R : Type} (k0 : Dcm → Bool → Option R) (x1 : Str) (z4 : Int) (z11 : Str) (z12 : Int) (z15 : Int) (z16 : Bool) : Option R :=
  ref01_digits x1 z15 (fun y17 => bif (y17 == 0) then (k0 (⟨0, 0⟩ : Dcm) false) else (ref01_Parse_32_0_L (List.length x1 + Int.natAbs z15 + Int.natAbs z4 + Int.natAbs y17 + List.length z11 + Int.natAbs z12 + Int.natAbs 0 + Int.natAbs z15 + Dcm.fu (⟨0, 0⟩ : Dcm) + 64) x1 z15 z4 y17 z11 z12 z16 0 z15 (⟨0, 0⟩ : Dcm) (fun y28 y29 y30 y31 y32 y33 y34 y35 y36 => bif y34 then (Jref01_Parse_j76 k0 y28 (IntKind.i64.wrap (y29 + y31)) y30 y32 (IntKind.i64.wrap (y33 + (IntKind.i64.wrap (0 - y35)))) y36) else (Jref01_Parse_j76 k0 y28 (IntKind.i64.wrap (y29 + y31)) y30 y32 (IntKind.i64.wrap (y33 + y35)) y36))))
noncomputable def Jref01_Parse_j39 {R : Type} (k0 : Dcm → Bool → Option R) (x1 : Str) (z4 : Int) (z10 : Int) (z11 : Str) (z12 : Int) (z13 : Bool) : Option R :=
  bif z13 then (bif (decide ((IntKind.i64.wrap (z10 + 1)) < (x1.length : Int))) then (chk (decide ((0 : Int) ≤ (IntKind.i64.wrap (z10 + 1))) && decide ((IntKind.i64.wrap (z10 + 1)) < x1.length)) (bif (((x1.getD ((IntKind.i64.wrap (z10 + 1)).toNat) 0).toNat : Int) == 43) then (chk (decide ((0 : Int) ≤ (IntKind.i64.wrap (z10 + 1))) && decide ((IntKind.i64.wrap (z10 + 1)) < x1.length)) (Jref01_Parse_j38 k0 x1 z4 z11 z12 (IntKind.i64.wrap ((IntKind.i64.wrap (z10 + 1)) + 1)) (((x1.getD ((IntKind.i64.wrap (z10 + 1)).toNat) 0).toNat : Int) == 45))) else (chk (decide ((0 : Int) ≤ (IntKind.i64.wrap (z10 + 1))) && decide ((IntKind.i64.wrap (z10 + 1)) < x1.length)) (bif (((x1.getD ((IntKind.i64.wrap (z10 + 1)).toNat) 0).toNat : Int) == 45) then (chk (decide ((0 : Int) ≤ (IntKind.i64.wrap (z10 + 1))) && decide ((IntKind.i64.wrap (z10 + 1)) < x1.length)) (Jref01_Parse_j38 k0 x1 z4 z11 z12 (IntKind.i64.wrap ((IntKind.i64.wrap (z10 + 1)) + 1)) (((x1.getD ((IntKind.i64.wrap (z10 + 1)).toNat) 0).toNat : Int) == 45))) else (Jref01_Parse_j38 k0 x1 z4 z11 z12 (IntKind.i64.wrap (z10 + 1)) false))))) else (Jref01_Parse_j38 k0 x1 z4 z11 z12 (IntKind.i64.wrap (z10 + 1)) false)) else (Jref01_Parse_j76 k0 x1 z10 z4 z11 z12 (⟨0, 0⟩ : Dcm))
noncomputable def Jref01_Parse_j77 {R : Type} (k0 : Dcm → Bool → Option R) (x1 : Str) (z4 : Int) (z10 : Int) (z11 : Str) (z12 : Int) : Option R :=
  bif (decide (z10 < (x1.length : Int))) then (chk (decide ((0 : Int) ≤ z10) && decide (z10 < x1.length)) (bif (((x1.getD z10.toNat 0).toNat : Int) == 101) then (Jref01_Parse_j39 k0 x1 z4 z10 z11 z12 true) else (chk (decide ((0 : Int) ≤ z10) && decide (z10 < x1.length)) (Jref01_Parse_j39 k0 x1 z4 z10 z11 z12 (((x1.getD z10.toNat 0).toNat : Int) == 69))))) else (Jref01_Parse_j39 k0 x1 z4 z10 z11 z12 false)
noncomputable def Jref01_Parse_j9 {R : Type} (k0 : Dcm → Bool → Option R) (x1 : Str) (z3 : Int) (z4 : Int) (y5 : Int) (z7 : Bool) : Option R :=
  bif z7 then (ref01_digits x1 (IntKind.i64.wrap ((IntKind.i64.wrap (z3 + y5)) + 1)) (fun y8 => bif (y8 == 0) then (k0 (⟨0, 0⟩ : Dcm) false) else (chk (decide ((0 : Int) ≤ (IntKind.i64.wrap ((IntKind.i64.wrap ((IntKind.i64.wrap (z3 + y5)) + 1)) + y8))) && decide ((IntKind.i64.wrap ((IntKind.i64.wrap ((IntKind.i64.wrap (z3 + y5)) + 1)) + y8)) ≤ x1.length)) (chk (decide ((0 : Int) ≤ (IntKind.i64.wrap ((IntKind.i64.wrap (z3 + y5)) + 1))) && decide ((IntKind.i64.wrap ((IntKind.i64.wrap (z3 + y5)) + 1)) ≤ (IntKind.i64.wrap ((IntKind.i64.wrap ((IntKind.i64.wrap (z3 + y5)) + 1)) + y8)))) (chk (decide (((x1.drop z3.toNat).take ((IntKind.i64.wrap (z3 + y5)).toNat - z3.toNat)).length + ((x1.drop (IntKind.i64.wrap ((IntKind.i64.wrap (z3 + y5)) + 1)).toNat).take ((IntKind.i64.wrap ((IntKind.i64.wrap ((IntKind.i64.wrap (z3 + y5)) + 1)) + y8)).toNat - (IntKind.i64.wrap ((IntKind.i64.wrap (z3 + y5)) + 1)).toNat)).length ≤ 9223372036854775807)) (Jref01_Parse_j77 k0 x1 z4 (IntKind.i64.wrap ((IntKind.i64.wrap ((IntKind.i64.wrap (z3 + y5)) + 1)) + y8)) (((x1.drop z3.toNat).take ((IntKind.i64.wrap (z3 + y5)).toNat - z3.toNat)) ++ ((x1.drop (IntKind.i64.wrap ((IntKind.i64.wrap (z3 + y5)) + 1)).toNat).take ((IntKind.i64.wrap ((IntKind.i64.wrap ((IntKind.i64.wrap (z3 + y5)) + 1)) + y8)).toNat - (IntKind.i64.wrap ((IntKind.i64.wrap (z3 + y5)) + 1)).toNat))) (IntKind.i64.wrap (0 - y8)))))))) else (Jref01_Parse_j77 k0 x1 z4 (IntKind.i64.wrap (z3 + y5)) ((x1.drop z3.toNat).take ((IntKind.i64.wrap (z3 + y5)).toNat - z3.toNat)) 0)
noncomputable def Jref01_Parse_j78 {R : Type} (k0 : Dcm → Bool → Option R) (x1 : Str) (z3 : Int) (z4 : Int) (y5 : Int) : Option R :=
  chk (decide ((0 : Int) ≤ (IntKind.i64.wrap (z3 + y5))) && decide ((IntKind.i64.wrap (z3 + y5)) ≤ x1.length)) (chk (decide ((0 : Int) ≤ z3) && decide (z3 ≤ (IntKind.i64.wrap (z3 + y5)))) (bif (decide ((IntKind.i64.wrap (z3 + y5)) < (x1.length : Int))) then (chk (decide ((0 : Int) ≤ (IntKind.i64.wrap (z3 + y5))) && decide ((IntKind.i64.wrap (z3 + y5)) < x1.length)) (Jref01_Parse_j9 k0 x1 z3 z4 y5 (((x1.getD ((IntKind.i64.wrap (z3 + y5)).toNat) 0).toNat : Int) == 46))) else (Jref01_Parse_j9 k0 x1 z3 z4 y5 false)))
noncomputable def Jref01_Parse_j79 {R : Type} (k0 : Dcm → Bool → Option R) (x1 : Str) (z3 : Int) (z4 : Int) : Option R :=
  ref01_digits x1 z3 (fun y5 => bif (y5 == 0) then (k0 (⟨0, 0⟩ : Dcm) false) else (bif (decide (y5 > (1 : Int))) then (chk (decide ((0 : Int) ≤ z3) && decide (z3 < x1.length)) (bif (((x1.getD z3.toNat 0).toNat : Int) == 48) then (k0 (⟨0, 0⟩ : Dcm) false) else (Jref01_Parse_j78 k0 x1 z3 z4 y5))) else (Jref01_Parse_j78 k0 x1 z3 z4 y5)))

theorem Jref01_Parse_eq {R : Type} (x1 : Str) (k0 : Dcm → Bool → Option R) : ref01_Parse_X ref01_Make ref01_digits ref01_Parse_32_0_L ref01_Parse_41_0_L ref01_Parse_43_0_L ref01_Parse_50_0_L x1 k0 =
  bif (decide ((x1.length : Int) > (400 : Int))) then (k0 (⟨0, 0⟩ : Dcm) false) else (bif (decide ((0 : Int) < (x1.length : Int))) then (chk (decide ((0 : Int) < x1.length)) (bif (((x1.getD 0 0).toNat : Int) == 45) then (Jref01_Parse_j79 k0 x1 1 (-1)) else (Jref01_Parse_j79 k0 x1 0 1))) else (Jref01_Parse_j79 k0 x1 0 1)) := rfl

theorem refMake_end {R : Type} (u x : Int) (k : Dcm → Bool → Option R) :
    (bif (decide (u > (1000000000000000 : Int))) then (k (⟨0, 0⟩ : Dcm) false) else (bif (decide (u < (-1000000000000000 : Int))) then (k (⟨0, 0⟩ : Dcm) false) else (bif (decide (x > (9 : Int))) then (k (⟨0, 0⟩ : Dcm) false) else (bif (decide (x < (-9 : Int))) then (k (⟨0, 0⟩ : Dcm) false) else (k (⟨u, x⟩ : Dcm) true))))) = k (mkD u x).1 (mkD u x).2 := by
  unfold mkD
  by_cases h1 : u > 1000000000000000
  · rw [dtrue h1, if_neg (by omega)]; rfl
  · rw [dfalse h1, cond_false]
    by_cases h2 : u < -1000000000000000
    · rw [dtrue h2, if_neg (by omega)]; rfl
    · rw [dfalse h2, cond_false]
      by_cases h3 : x > 9
      · rw [dtrue h3, if_neg (by omega)]; rfl
      · rw [dfalse h3, cond_false]
        by_cases h4 : x < -9
        · rw [dtrue h4, if_neg (by omega)]; rfl
        · rw [dfalse h4, cond_false, if_pos (by omega)]

theorem refMake_loop {R : Type} (k : Dcm → Bool → Option R) : ∀ (j n : Nat) (u x : Int) (d : Dcm), j < n → Int.tmod u 10 ≠ 0 → I64 (u * 10 ^ j) → I64 x →
    ref01_Make_3_0_L n (u * 10 ^ j) x d (fun y6 y7 y8 => bif (decide (y6 > (1000000000000000 : Int))) then (k (⟨0, 0⟩ : Dcm) false) else (bif (decide (y6 < (-1000000000000000 : Int))) then (k (⟨0, 0⟩ : Dcm) false) else (bif (decide (y7 > (9 : Int))) then (k (⟨0, 0⟩ : Dcm) false) else (bif (decide (y7 < (-9 : Int))) then (k (⟨0, 0⟩ : Dcm) false) else (k (⟨y6, y7⟩ : Dcm) true))))) (fun y9 y10 y11 y12 => k y12 y11) = k (mkD u (x + j)).1 (mkD u (x + j)).2 := by
  intro j
  induction j with
  | zero =>
    intro n u x d hn hu hb hx
    obtain ⟨m, rfl⟩ : ∃ m, n = m + 1 := ⟨n - 1, by omega⟩
    rw [ref01_Make_3_0_L]
    unfold ref01_Make_3_0_B
    have e1 : u * 10 ^ 0 = u := by simp
    have e2 : (Int.tmod u 10 == 0) = false := by rw [beq_eq_false_iff_ne]; exact hu
    have e3 : x + ((0 : Nat) : Int) = x := by omega
    rw [e1, e2, cond_false, e3]
    exact refMake_end u x k
  | succ j ih =>
    intro n u x d hn hu hb hx
    obtain ⟨m, rfl⟩ : ∃ m, n = m + 1 := ⟨n - 1, by omega⟩
    rw [ref01_Make_3_0_L]
    unfold ref01_Make_3_0_B
    have ep : u * 10 ^ (j + 1) = u * 10 ^ j * 10 := by rw [Int.pow_succ, Int.mul_assoc]
    unfold I64 at hb hx
    rw [ep] at hb ⊢
    have e1 : (Int.tmod (u * 10 ^ j * 10) 10 == 0) = true := by rw [Int.mul_tmod_left]; rfl
    have e2 : Int.tdiv (u * 10 ^ j * 10) 10 = u * 10 ^ j := Int.mul_tdiv_cancel _ (by omega)
    rw [e1, cond_true, e2, wrap_id (n := u * 10 ^ j) (by omega) (by omega)]
    by_cases hx2 : x > 1099511627776
    · rw [dtrue hx2, cond_true]
      unfold mkD
      rw [if_neg (by omega)]
    · rw [dfalse hx2, cond_false, wrap_id (n := x + 1) (by omega) (by omega)]
      refine (ih m u (x + 1) d (by omega) hu (by unfold I64; omega) (by unfold I64; omega)).trans ?_
      have : x + 1 + (j : Int) = x + ((j + 1 : Nat) : Int) := by omega
      rw [this]

theorem refMake_ok {R : Type} (u : Int) (j : Nat) (x : Int) (hu : Int.tmod u 10 ≠ 0) (hb : I64 (u * 10 ^ j)) (hx : I64 x) (k : Dcm → Bool → Option R) : ref01_Make (u * 10 ^ j) x k = k (mkD u (x + j)).1 (mkD u (x + j)).2 := by
  have e : ref01_Make (u * 10 ^ j) x k = ref01_Make_X ref01_Make_3_0_L (u * 10 ^ j) x k := rfl
  rw [e]
  unfold ref01_Make_X
  have hu0 : u ≠ 0 := by rintro rfl; exact hu rfl
  have ha := abs_le_mul u j
  have h64 := noughts_64 hu0 hb
  have h0 : (u * 10 ^ j == 0) = false := by rw [beq_eq_false_iff_ne]; omega
  rw [h0, cond_false]
  exact refMake_loop k j _ u x _ (by omega) hu hb hx
theorem refMake_zero {R : Type} (x : Int) (k : Dcm → Bool → Option R) : ref01_Make 0 x k = k ⟨0, 0⟩ true := by
  have e : ref01_Make 0 x k = ref01_Make_X ref01_Make_3_0_L 0 x k := rfl
  rw [e]
  rfl

theorem take_len (s : Str) : s.take (takeD s).length = takeD s := by
  have e : takeD s ++ dropD s = s := List.takeWhile_append_dropWhile
  have := List.take_left (l₁ := takeD s) (l₂ := dropD s)
  rw [e] at this
  exact this
theorem drop_len (s : Str) : s.drop (takeD s).length = dropD s := by
  have e : takeD s ++ dropD s = s := List.takeWhile_append_dropWhile
  have := List.drop_left (l₁ := takeD s) (l₂ := dropD s)
  rw [e] at this
  exact this
theorem dig_at (t : Str) (j : Nat) (h1 : j ≤ (takeD t).length) (h2 : j < t.length) : isDig (t.getD j 0) ↔ j < (takeD t).length := by
  constructor
  · intro h
    rcases Nat.lt_or_ge j (takeD t).length with h3 | h3
    · exact h3
    · exfalso
      have hj : j = (takeD t).length := by omega
      have hd : dropD t = t.drop j := by rw [hj, drop_len]
      exact drop_dig t _ _ (hd.trans (drop_cons h2)) h
  · intro h
    have e : takeD t ++ dropD t = t := List.takeWhile_append_dropWhile
    have e2 := getD_app_lt (s := takeD t) (t := dropD t) h
    rw [e] at e2
    rw [e2]
    apply take_dig t
    rw [getD_at h]
    exact List.getElem_mem h

theorem refDig_loop {R : Type} (s : Str) (i : Nat) (hs : s.length ≤ 4000000000) (e0 : Int → Option R) : ∀ (n j : Nat), (takeD (s.drop i)).length - j < n → j ≤ (takeD (s.drop i)).length → i ≤ s.length →
    ref01_digits_2_0_L n s (i : Int) (j : Int) e0 = e0 ((takeD (s.drop i)).length : Int) := by
  intro n
  induction n with
  | zero => intro j h; omega
  | succ n ih =>
    intro j h1 h2 h3
    rw [ref01_digits_2_0_L]
    unfold ref01_digits_2_0_B
    have hl := take_le (s.drop i)
    rw [List.length_drop] at hl
    rw [wrap_id (n := (i : Int) + (j : Int)) (by omega) (by omega)]
    by_cases hi : i + j < s.length
    · have hd := dig_at (s.drop i) j h2 (by rw [List.length_drop]; omega)
      rw [getD_at'] at hd
      have e1 : ((i : Int) + (j : Int)).toNat = i + j := by omega
      rw [dtrue (show (i : Int) + (j : Int) < (s.length : Int) by omega), cond_true, e1]
      simp only [dtrue (show (0 : Int) ≤ (i : Int) + (j : Int) by omega), Bool.and_self, chk_pos rfl]
      unfold isDig at hd
      by_cases hj : j < (takeD (s.drop i)).length
      · have := hd.2 hj
        rw [dtrue (show ((s.getD (i + j) 0).toNat : Int) ≥ 48 by omega), cond_true, dtrue (show ((s.getD (i + j) 0).toNat : Int) ≤ 57 by omega), cond_true, wrap_id (n := (j : Int) + 1) (by omega) (by omega)]
        exact ih (j + 1) (by omega) (by omega) h3
      · have hn : ¬ (48 ≤ (s.getD (i + j) 0).toNat ∧ (s.getD (i + j) 0).toNat ≤ 57) := fun h => hj (hd.1 h)
        have ej : j = (takeD (s.drop i)).length := by omega
        by_cases g : (48 : Int) ≤ ((s.getD (i + j) 0).toNat : Int)
        · rw [dtrue (show ((s.getD (i + j) 0).toNat : Int) ≥ 48 from g), cond_true, dfalse (show ¬ ((s.getD (i + j) 0).toNat : Int) ≤ 57 by omega), cond_false, ← ej]
        · rw [dfalse (show ¬ ((s.getD (i + j) 0).toNat : Int) ≥ 48 from g), cond_false, ← ej]
    · rw [dfalse (by omega), cond_false]
      have : j = (takeD (s.drop i)).length := by omega
      rw [← this]

theorem refDigits_ok {R : Type} (s : Str) (i : Nat) (hs : s.length ≤ 4000000000) (hi : i ≤ s.length) (k : Int → Option R) : ref01_digits s (i : Int) k = k ((takeD (s.drop i)).length : Int) := by
  have hl := take_le (s.drop i)
  rw [List.length_drop] at hl
  exact refDig_loop s i hs (fun y => k y) (List.length s + Int.natAbs (i : Int) + Int.natAbs 0 + 64) 0 (by omega) (by omega) hi

def strip0 : Str → Str
  | b :: c :: t => if b.toNat = 48 then strip0 (c :: t) else b :: c :: t
  | s => s
theorem strip0_eq : ∀ s : Str, s ≠ [] → (trimL s [48] = [] ∧ strip0 s = [48]) ∨ (trimL s [48] ≠ [] ∧ strip0 s = trimL s [48])
  | [], h => (h rfl).elim
  | [b], _ => by
    by_cases hb : b = 48
    · subst hb; exact .inl ⟨rfl, rfl⟩
    · have : trimL [b] [48] = [b] := by unfold trimL; simp [List.dropWhile_cons, hb]
      exact .inr ⟨by rw [this]; simp, by rw [this]; rfl⟩
  | b :: c :: t, _ => by
    by_cases hb : b = 48
    · subst hb
      have e1 : strip0 (48 :: c :: t) = strip0 (c :: t) := rfl
      have e2 : trimL (48 :: c :: t) [48] = trimL (c :: t) [48] := rfl
      rw [e1, e2]
      exact strip0_eq (c :: t) (by simp)
    · have hn : b.toNat ≠ 48 := fun h => hb (UInt8.toNat_inj.1 h)
      have : trimL (b :: c :: t) [48] = b :: c :: t := by unfold trimL; simp [List.dropWhile_cons, hb]
      refine .inr ⟨by rw [this]; simp, ?_⟩
      rw [this]
      unfold strip0
      rw [if_neg hn]

theorem ref41 {R : Type} (sg x : Int) (d : Dcm) (e0 : Int → Str → Int → Dcm → Option R) : ∀ (n : Nat) (a : Str), a.length < n → a.length ≤ 2000 →
    ref01_Parse_41_0_L n sg a x d e0 = e0 sg (strip0 a) x d := by
  intro n
  induction n with
  | zero => intro a h; omega
  | succ n ih =>
    intro a h hl
    rw [ref01_Parse_41_0_L]
    unfold ref01_Parse_41_0_B
    match a, h, hl with
    | [], _, _ => rfl
    | [b], _, _ => rfl
    | b :: c :: t, h, hl =>
      simp only [List.length_cons] at h hl
      have hlen : (b :: c :: t : Str).length = t.length + 2 := rfl
      have hg : (b :: c :: t : Str).getD 0 0 = b := rfl
      have q48 : ((b.toNat : Int) == 48) = decide (b.toNat = 48) := eqI _ 48
      rw [hlen, hg, q48, dtrue (show ((t.length + 2 : Nat) : Int) > 1 by omega), cond_true, chk_pos (dtrue (by omega))]
      unfold strip0
      by_cases hb : b.toNat = 48
      · rw [dtrue hb, cond_true, if_pos hb, chk_pos (by rw [dtrue (by omega), dtrue (by omega)]; rfl), chk_pos (dtrue (by omega))]
        have e : ((b :: c :: t : Str).drop 1).take (((t.length + 2 : Nat) : Int).toNat - 1) = c :: t := by
          rw [Int.toNat_natCast]
          show (c :: t).take (t.length + 1) = c :: t
          exact List.take_length (l := c :: t)
        rw [e]
        exact ih (c :: t) (by simp only [List.length_cons]; omega) (by simp only [List.length_cons]; omega)
      · rw [dfalse hb, cond_false, if_neg hb]

theorem getD_last (l : Str) (b : UInt8) : (l ++ [b]).getD l.length 0 = b := getD_app_at (s := l) (t := [])

theorem ref43 {R : Type} (sg : Int) (d : Dcm) (l : Str) (b : UInt8) (hb : b ≠ 48) (hl : l.length ≤ 2000) (e0 : Int → Str → Int → Dcm → Option R) : ∀ (m n : Nat) (x : Int), m < n → m ≤ 2000 → -4000000000 ≤ x → x + m ≤ 4000000000 →
    ref01_Parse_43_0_L n sg (l ++ [b] ++ zeros m) x d e0 = e0 sg (l ++ [b]) (x + m) d := by
  intro m
  induction m with
  | zero =>
    intro n x h1 h2 h3 h4
    obtain ⟨n, rfl⟩ : ∃ q, n = q + 1 := ⟨n - 1, by omega⟩
    rw [ref01_Parse_43_0_L]
    unfold ref01_Parse_43_0_B
    have e0' : l ++ [b] ++ zeros 0 = l ++ [b] := by simp [zeros]
    have ex : x + ((0 : Nat) : Int) = x := by omega
    have hlen : (l ++ [b]).length = l.length + 1 := by simp
    rw [e0', ex, hlen, wrap_id (n := ((l.length + 1 : Nat) : Int) - 1) (by omega) (by omega)]
    have en : (((l.length + 1 : Nat) : Int) - 1).toNat = l.length := by omega
    rw [en, getD_last]
    have hn : b.toNat ≠ 48 := fun h => hb (UInt8.toNat_inj.1 h)
    have q48 : ((b.toNat : Int) == 48) = false := by rw [beq_eq_false_iff_ne]; omega
    rw [q48, chk_pos (by rw [dtrue (by omega), dtrue (by omega)]; rfl)]
    simp only [cond_false, Bool.cond_self]
  | succ m ih =>
    intro n x h1 h2 h3 h4
    obtain ⟨n, rfl⟩ : ∃ q, n = q + 1 := ⟨n - 1, by omega⟩
    rw [ref01_Parse_43_0_L]
    unfold ref01_Parse_43_0_B
    have e1 : l ++ [b] ++ zeros (m + 1) = (l ++ [b] ++ zeros m) ++ [48] := by rw [List.append_assoc (l ++ [b]), zeros_snoc]
    have hlen : (l ++ [b] ++ zeros (m + 1)).length = l.length + 1 + (m + 1) := by rw [List.length_append, List.length_append, zeros_len]; rfl
    have hlen2 : (l ++ [b] ++ zeros m).length = l.length + 1 + m := by rw [List.length_append, List.length_append, zeros_len]; rfl
    rw [hlen, wrap_id (n := ((l.length + 1 + (m + 1) : Nat) : Int) - 1) (by omega) (by omega)]
    have en : (((l.length + 1 + (m + 1) : Nat) : Int) - 1).toNat = (l ++ [b] ++ zeros m).length := by omega
    rw [en, e1, getD_last]
    have q48 : (((48 : UInt8).toNat : Int) == 48) = true := rfl
    rw [q48, dtrue (show ((l.length + 1 + (m + 1) : Nat) : Int) > 1 by omega), cond_true, chk_pos (by rw [dtrue (by omega), dtrue (by omega)]; rfl), cond_true, chk_pos (by rw [dtrue (by omega), dtrue (by omega)]; rfl), chk_pos (dtrue (by omega)), wrap_id (n := x + 1) (by omega) (by omega), List.drop_zero, Nat.sub_zero, List.take_left]
    refine (ih n (x + 1) (by omega) (by omega) (by omega) (by omega)).trans ?_
    have : x + 1 + (m : Int) = x + ((m + 1 : Nat) : Int) := by omega
    rw [this]

theorem valD_take (a : Str) (j : Nat) (hj : j < a.length) : valD (a.take (j + 1)) 0 = 10 * valD (a.take j) 0 + ((a.getD j 0).toNat - 48) := by
  rw [List.take_succ_eq_append_getElem hj, valD_app, getD_at hj]
  rfl

theorem ref50 {R : Type} (sg x : Int) (a : Str) (d : Dcm) (ha : ∀ c ∈ a, isDig c) (hl : a.length ≤ 17) (e0 : Int → Int → Int → Dcm → Option R) : ∀ (n j : Nat), a.length - j < n → j ≤ a.length →
    ref01_Parse_50_0_L n sg a x (valD (a.take j) 0 : Int) (j : Int) d e0 = e0 sg x (valD a 0 : Int) d := by
  intro n
  induction n with
  | zero => intro j h; omega
  | succ n ih =>
    intro j h1 h2
    rw [ref01_Parse_50_0_L]
    unfold ref01_Parse_50_0_B
    by_cases hj : j < a.length
    · have hd := ha (a.getD j 0) (by rw [getD_at hj]; exact List.getElem_mem hj)
      unfold isDig at hd
      have hv := valD_lt (a.take j) 0 fun c hc => ha c (List.mem_of_mem_take hc)
      have hp : (10 : Nat) ^ (a.take j).length ≤ 10 ^ 16 := Nat.pow_le_pow_right (by omega) (by rw [List.length_take]; omega)
      have e16 : (10 : Nat) ^ 16 = 10000000000000000 := rfl
      have w8 := wrap8m (a := (a.getD j 0).toNat) (b := 48) hd.1 (by have := UInt8.toNat_lt (a.getD j 0); omega)
      have c48 : ((48 : Nat) : Int) = 48 := rfl
      rw [c48] at w8
      rw [dtrue (show (j : Int) < (a.length : Int) by omega), cond_true, chk_pos (by rw [dtrue (show (0 : Int) ≤ (j : Int) by omega)]; rfl), Int.toNat_natCast, w8, wrap_id (n := 10 * (valD (a.take j) 0 : Int)) (by omega) (by omega), wrap_id (n := (((a.getD j 0).toNat - 48 : Nat) : Int)) (by omega) (by omega), wrap_id (n := (j : Int) + 1) (by omega) (by omega)]
      have e := valD_take a j hj
      rw [wrap_id (n := 10 * (valD (a.take j) 0 : Int) + (((a.getD j 0).toNat - 48 : Nat) : Int)) (by omega) (by omega)]
      have e2 : 10 * (valD (a.take j) 0 : Int) + (((a.getD j 0).toNat - 48 : Nat) : Int) = (valD (a.take (j + 1)) 0 : Int) := by omega
      rw [e2]
      exact ih (j + 1) (by omega) (by omega)
    · rw [dfalse (show ¬ (j : Int) < (a.length : Int) by omega), cond_false, List.take_of_length_le (by omega)]

theorem refEnd_ok {R : Type} (k : Dcm → Bool → Option R) (s : Str) (i : Nat) (sg : Int) (hsg : sg = 1 ∨ sg = -1) (all : Str) (x : Int) (d : Dcm) (ha : ∀ c ∈ all, isDig c) (h0 : all ≠ []) (hl : all.length ≤ 900) (hx : -2000000 ≤ x ∧ x ≤ 2000000) :
    Jref01_Parse_j76 k s (i : Int) sg all x d = if i = s.length then k (finD (decide (sg = -1)) all x).1 (finD (decide (sg = -1)) all x).2 else k ⟨0, 0⟩ false := by
  unfold Jref01_Parse_j76
  by_cases hi : i = s.length
  · have e1 : ((i : Int) != (s.length : Int)) = false := by rw [hi]; simp
    rw [e1, cond_false, if_pos hi, ref41 _ _ _ _ _ _ (by omega) (by omega)]
    unfold finD
    have htl : (trimL all [48]).length ≤ all.length := drop_le _ _
    rcases strip0_eq all h0 with ⟨t1, t2⟩ | ⟨t1, t2⟩
    · rw [t2, t1]
      have r1 : ref01_Parse_43_0_L (R := R) (Int.natAbs sg + List.length ([48] : Str) + Int.natAbs x + Dcm.fu d + 64) sg [48] x d = fun e0 => e0 sg [48] x d := by
        funext e0
        rw [show Int.natAbs sg + List.length ([48] : Str) + Int.natAbs x + Dcm.fu d + 64 = (Int.natAbs sg + List.length ([48] : Str) + Int.natAbs x + Dcm.fu d + 63) + 1 by omega, ref01_Parse_43_0_L]
        rfl
      rw [r1]
      have r2 : ∀ (n : Nat) (h : 2 ≤ n) (e0 : Int → Int → Int → Dcm → Option R), ref01_Parse_50_0_L n sg [48] x 0 0 d e0 = e0 sg x 0 d := fun n h e0 => ref50 sg x [48] d (by intro c hc; simp at hc; subst hc; unfold isDig; decide) (by simp) e0 n 0 (by simp; omega) (by simp)
      have hlen : decide (((([48] : Str)).length : Int) > 17) = false := rfl
      simp only [hlen, cond_false]
      rw [r2 _ (by omega)]
      have w0 : IntKind.i64.wrap (sg * 0) = 0 := by rw [Int.mul_zero]; decide
      rw [w0, refMake_zero]
      rfl
    · rw [t2]
      obtain ⟨m, hm⟩ := trimR_pre (trimL all [48])
      have hne : trimR (trimL all [48]) [48] ≠ [] := by
        intro e
        rw [e, List.nil_append] at hm
        cases m with
        | zero => exact t1 hm
        | succ m => exact trimL_head all 48 (zeros m) (by rw [hm]; rfl) rfl
      obtain ⟨f1, f2, f3⟩ := short_facts all ha hne
      rw [if_neg hne]
      rcases trimR_cases (trimL all [48]) with e | ⟨l, b, e, hb⟩
      · exact (hne e).elim
      generalize trimR (trimL all [48]) [48] = sh at *
      have hlen : (trimL all [48]).length = sh.length + m := by have := congrArg List.length hm; rw [List.length_append, zeros_len] at this; exact this
      have hsl : sh.length = l.length + 1 := by rw [e]; simp
      rw [hm, e, ref43 _ _ l b hb (by omega) _ _ _ _ (by rw [← e, ← hm]; omega) (by omega) (by omega) (by omega), ← e]
      have hxx : x + (((sh ++ zeros m).length : Int) - (sh.length : Int)) = x + m := by rw [List.length_append, zeros_len]; omega
      rw [hxx]
      have hsn : (decide (sg = -1) = true → sg = -1) ∧ (decide (sg = -1) = false → sg = 1) := by
        rcases hsg with h | h <;> subst h <;> decide
      by_cases h17 : sh.length ≤ 17
      · rw [dfalse (show ¬ (sh.length : Int) > 17 by omega), cond_false]
        have key := ref50 (R := R) sg (x + m) sh d f1 h17 (fun y70 y71 y72 y73 => ref01_Make (IntKind.i64.wrap (y70 * y72)) y71 (fun y74 y75 => k y74 y75)) (Int.natAbs sg + List.length sh + Int.natAbs (x + m) + Int.natAbs 0 + Int.natAbs 0 + Dcm.fu d + 64) 0 (by omega) (by omega)
        have v0 : valD (sh.take 0) 0 = 0 := rfl
        rw [v0] at key
        refine key.trans ?_
        have hv := valD_lt sh 0 f1
        have hp : (10 : Nat) ^ sh.length ≤ 10 ^ 17 := Nat.pow_le_pow_right (by omega) h17
        have e17 : (10 : Nat) ^ 17 = 100000000000000000 := rfl
        have hm10 : Int.tmod (valD sh 0 : Int) 10 ≠ 0 := by rw [Int.tmod_eq_emod_of_nonneg (by omega)]; omega
        have unit : ∀ u : Int, Int.tmod u 10 ≠ 0 → I64 u → ref01_Make u (x + m) (fun y74 y75 => k y74 y75) = k (mkD u (x + m)).1 (mkD u (x + m)).2 := fun u h1 h2 => by
          have := refMake_ok (R := R) u 0 (x + m) h1 (by simpa using h2) (by unfold I64; omega) k
          simpa using this
        cases hd : decide (sg = -1) with
        | true =>
          have := hsn.1 hd
          subst this
          have en : (-1 : Int) * (valD sh 0 : Int) = -(valD sh 0 : Int) := by omega
          rw [en, wrap_id (by omega) (by omega), if_pos rfl]
          exact unit _ (tmod_neg hm10) (by unfold I64; omega)
        | false =>
          have := hsn.2 hd
          subst this
          rw [Int.one_mul, wrap_id (by omega) (by omega), if_neg (by simp)]
          exact unit _ hm10 (by unfold I64; omega)
      · rw [dtrue (show (sh.length : Int) > 17 by omega), cond_true]
        have hp : (10 : Nat) ^ 17 ≤ 10 ^ (sh.length - 1) := Nat.pow_le_pow_right (by omega) (by omega)
        have e17 : (10 : Nat) ^ 17 = 100000000000000000 := rfl
        rw [mkD_far _ (by split <;> omega)]
  · have e1 : ((i : Int) != (s.length : Int)) = true := by rw [bne_iff_ne]; omega
    rw [e1, cond_true, if_neg hi]

theorem getD_take (s : Str) (i j : Nat) (hj : j < (takeD (s.drop i)).length) : s.getD (i + j) 0 = (takeD (s.drop i)).getD j 0 := by
  have e : takeD (s.drop i) ++ dropD (s.drop i) = s.drop i := List.takeWhile_append_dropWhile
  have e2 := getD_app_lt (s := takeD (s.drop i)) (t := dropD (s.drop i)) hj
  rw [e, getD_at'] at e2
  exact e2

theorem ref32 {R : Type} (s : Str) (i : Nat) (hs : s.length ≤ 4000000000) (hi : i ≤ s.length) (sg : Int) (all : Str) (x : Int) (mi : Bool) (d : Dcm) (e0 : Str → Int → Int → Int → Str → Int → Bool → Int → Dcm → Option R) : ∀ (n j : Nat), (takeD (s.drop i)).length - j < n → j ≤ (takeD (s.drop i)).length →
    ref01_Parse_32_0_L n s (i : Int) sg ((takeD (s.drop i)).length : Int) all x mi ((min (valD ((takeD (s.drop i)).take j) 0) 100000 : Nat) : Int) ((i + j : Nat) : Int) d e0 =
      e0 s (i : Int) sg ((takeD (s.drop i)).length : Int) all x mi ((min (valD (takeD (s.drop i)) 0) 100000 : Nat) : Int) d := by
  intro n
  induction n with
  | zero => intro j h; omega
  | succ n ih =>
    intro j h1 h2
    rw [ref01_Parse_32_0_L]
    unfold ref01_Parse_32_0_B
    have hl := take_le (s.drop i)
    rw [List.length_drop] at hl
    rw [wrap_id (n := (i : Int) + ((takeD (s.drop i)).length : Int)) (by omega) (by omega)]
    by_cases hj : j < (takeD (s.drop i)).length
    · have hd := take_dig (s.drop i) ((takeD (s.drop i)).getD j 0) (by rw [getD_at hj]; exact List.getElem_mem hj)
      have hv := valD_take (takeD (s.drop i)) j hj
      have hg := getD_take s i j hj
      unfold isDig at hd
      rw [dtrue (show ((i + j : Nat) : Int) < (i : Int) + ((takeD (s.drop i)).length : Int) by omega), cond_true, chk_pos (by rw [dtrue (by omega), dtrue (by omega)]; rfl), Int.toNat_natCast, hg]
      generalize (takeD (s.drop i)).getD j 0 = b at *
      have w8 := wrap8m (a := b.toNat) (b := 48) hd.1 (by have := UInt8.toNat_lt b; omega)
      have c48 : ((48 : Nat) : Int) = 48 := rfl
      rw [c48] at w8
      generalize valD ((takeD (s.drop i)).take j) 0 = v at *
      rw [w8, wrap_id (n := 10 * ((min v 100000 : Nat) : Int)) (by omega) (by omega), wrap_id (n := ((b.toNat - 48 : Nat) : Int)) (by omega) (by omega), wrap_id (n := ((i + j : Nat) : Int) + 1) (by omega) (by omega), wrap_id (n := 10 * ((min v 100000 : Nat) : Int) + ((b.toNat - 48 : Nat) : Int)) (by omega) (by omega)]
      have e1 : min (10 * ((min v 100000 : Nat) : Int) + ((b.toNat - 48 : Nat) : Int)) 100000 = ((min (valD ((takeD (s.drop i)).take (j + 1)) 0) 100000 : Nat) : Int) := by rw [hv]; omega
      have e2 : ((i + j : Nat) : Int) + 1 = ((i + (j + 1) : Nat) : Int) := by omega
      rw [e1, e2]
      exact ih (j + 1) (by omega) (by omega)
    · rw [dfalse (show ¬ ((i + j : Nat) : Int) < (i : Int) + ((takeD (s.drop i)).length : Int) by omega), cond_false, List.take_of_length_le (by omega)]

theorem mkD_out {u x : Int} (h : x < -9 ∨ 9 < x) : mkD u x = (⟨0, 0⟩, false) := by
  unfold mkD
  rw [if_neg (by omega)]
theorem finD_clip (neg : Bool) (all : Str) (hl : all.length ≤ 900) (x : Int) (hx : -1000 ≤ x ∧ x ≤ 1000) (v : Nat) (mi : Bool) :
    finD neg all (x + (if mi then -((min v 100000 : Nat) : Int) else ((min v 100000 : Nat) : Int))) = finD neg all (x + (if mi then -(min (v : Int) 1000000) else min (v : Int) 1000000)) := by
  by_cases hv : v ≤ 100000
  · have e : ((min v 100000 : Nat) : Int) = min (v : Int) 1000000 := by omega
    rw [e]
  · unfold finD
    have h1 : (trimL all [48]).length ≤ all.length := drop_le _ _
    obtain ⟨m, hm⟩ := trimR_pre (trimL all [48])
    have hlen : (trimL all [48]).length = (trimR (trimL all [48]) [48]).length + m := by have := congrArg List.length hm; rw [List.length_append, zeros_len] at this; exact this
    split
    · rfl
    · cases mi with
      | true => rw [if_pos rfl, if_pos rfl, mkD_out (by omega), mkD_out (by omega)]
      | false => rw [if_neg (show ¬ (false = true) by simp), if_neg (show ¬ (false = true) by simp), mkD_out (by omega), mkD_out (by omega)]

theorem drop_nil {s : Str} {i : Nat} (hi : i ≤ s.length) : dropD (s.drop i) = [] ↔ i + (takeD (s.drop i)).length = s.length := by
  have e : takeD (s.drop i) ++ dropD (s.drop i) = s.drop i := List.takeWhile_append_dropWhile
  have hl := congrArg List.length e
  rw [List.length_append, List.length_drop] at hl
  constructor
  · intro h; rw [h] at hl; simp at hl; omega
  · intro h; exact List.eq_nil_of_length_eq_zero (by omega)

def outD {R : Type} (k : Dcm → Bool → Option R) (r : Dcm × Bool) : Option R := k r.1 r.2

section
variable {R : Type} (k : Dcm → Bool → Option R) (s : Str) (hs : s.length ≤ 4000000000) (sg : Int) (hsg : sg = 1 ∨ sg = -1) (all : Str) (x : Int) (ha : ∀ c ∈ all, isDig c) (h0 : all ≠ []) (hl : all.length ≤ 900) (hx : -1000 ≤ x ∧ x ≤ 0)
include hs hsg ha h0 hl hx

theorem ref38 (i : Nat) (hi : i ≤ s.length) (mi : Bool) : Jref01_Parse_j38 k s sg all x (i : Int) mi =
    if takeD (s.drop i) = [] then k ⟨0, 0⟩ false else if dropD (s.drop i) = [] then outD k (finD (decide (sg = -1)) all (x + (if mi then -(min (valD (takeD (s.drop i)) 0 : Int) 1000000) else min (valD (takeD (s.drop i)) 0 : Int) 1000000))) else k ⟨0, 0⟩ false := by
  unfold Jref01_Parse_j38
  have hdl := take_le (s.drop i)
  rw [List.length_drop] at hdl
  rw [refDigits_ok s i hs hi]
  by_cases hD : takeD (s.drop i) = []
  · rw [if_pos hD, hD]
    rfl
  · have hne : (((takeD (s.drop i)).length : Int) == 0) = false := by
      rw [beq_eq_false_iff_ne]
      intro h
      exact hD (List.eq_nil_of_length_eq_zero (by omega))
    rw [hne, cond_false, if_neg hD]
    have key := ref32 (R := R) s i hs hi sg all x mi (⟨0, 0⟩ : Dcm) (fun y28 y29 y30 y31 y32 y33 y34 y35 y36 => bif y34 then (Jref01_Parse_j76 k y28 (IntKind.i64.wrap (y29 + y31)) y30 y32 (IntKind.i64.wrap (y33 + (IntKind.i64.wrap (0 - y35)))) y36) else (Jref01_Parse_j76 k y28 (IntKind.i64.wrap (y29 + y31)) y30 y32 (IntKind.i64.wrap (y33 + y35)) y36)) (List.length s + Int.natAbs (i : Int) + Int.natAbs sg + Int.natAbs ((takeD (s.drop i)).length : Int) + List.length all + Int.natAbs x + Int.natAbs 0 + Int.natAbs (i : Int) + Dcm.fu (⟨0, 0⟩ : Dcm) + 64) 0 (by omega) (by omega)
    have v0 : ((min (valD ((takeD (s.drop i)).take 0) 0) 100000 : Nat) : Int) = 0 := rfl
    rw [v0, Nat.add_zero] at key
    refine key.trans ?_
    have w1 : IntKind.i64.wrap ((i : Int) + ((takeD (s.drop i)).length : Int)) = ((i + (takeD (s.drop i)).length : Nat) : Int) := by rw [wrap_id (by omega) (by omega)]; omega
    have hclip := finD_clip (decide (sg = -1)) all hl x (by omega) (valD (takeD (s.drop i)) 0) mi
    have hdn := drop_nil hi
    cases mi with
    | true =>
      simp only [cond_true]
      rw [w1, wrap_id (n := 0 - ((min (valD (takeD (s.drop i)) 0) 100000 : Nat) : Int)) (by omega) (by omega), wrap_id (n := x + (0 - ((min (valD (takeD (s.drop i)) 0) 100000 : Nat) : Int))) (by omega) (by omega), refEnd_ok k s _ sg hsg all _ _ ha h0 hl (by omega)]
      have e1 : x + (0 - ((min (valD (takeD (s.drop i)) 0) 100000 : Nat) : Int)) = x + (if true = true then -((min (valD (takeD (s.drop i)) 0) 100000 : Nat) : Int) else ((min (valD (takeD (s.drop i)) 0) 100000 : Nat) : Int)) := by rw [if_pos rfl]; omega
      rw [e1, hclip]
      by_cases hn : dropD (s.drop i) = []
      · rw [if_pos hn, if_pos (hdn.1 hn)]; rfl
      · rw [if_neg hn, if_neg (fun h => hn (hdn.2 h))]
    | false =>
      simp only [cond_false]
      rw [w1, wrap_id (n := x + ((min (valD (takeD (s.drop i)) 0) 100000 : Nat) : Int)) (by omega) (by omega), refEnd_ok k s _ sg hsg all _ _ ha h0 hl (by omega)]
      have e1 : x + ((min (valD (takeD (s.drop i)) 0) 100000 : Nat) : Int) = x + (if false = true then -((min (valD (takeD (s.drop i)) 0) 100000 : Nat) : Int) else ((min (valD (takeD (s.drop i)) 0) 100000 : Nat) : Int)) := by rw [if_neg (by simp)]
      rw [e1, hclip]
      by_cases hn : dropD (s.drop i) = []
      · rw [if_pos hn, if_pos (hdn.1 hn)]; rfl
      · rw [if_neg hn, if_neg (fun h => hn (hdn.2 h))]

theorem ref39 (i : Nat) (hi : i < s.length) : Jref01_Parse_j39 k s sg (i : Int) all x true =
    if (expP (s.drop (i + 1))).2.1 = false then k ⟨0, 0⟩ false else if (expP (s.drop (i + 1))).2.2 = [] then outD k (finD (decide (sg = -1)) all (x + (expP (s.drop (i + 1))).1)) else k ⟨0, 0⟩ false := by
  unfold Jref01_Parse_j39
  have w1 : IntKind.i64.wrap ((i : Int) + 1) = ((i + 1 : Nat) : Int) := by rw [wrap_id (by omega) (by omega)]; omega
  have w2 : IntKind.i64.wrap (((i + 1 : Nat) : Int) + 1) = ((i + 1 + 1 : Nat) : Int) := by rw [wrap_id (by omega) (by omega)]; omega
  rw [cond_true, w1, w2]
  -- one sign or none
  have fin : ∀ (j : Nat) (mi : Bool) (q1 : Nat), j ≤ s.length → signP [43, 45] (s.drop (i + 1)) = (q1, s.drop j) → (mi = true ↔ q1 = 45) → Jref01_Parse_j38 k s sg all x (j : Int) mi =
      if (expP (s.drop (i + 1))).2.1 = false then k ⟨0, 0⟩ false else if (expP (s.drop (i + 1))).2.2 = [] then outD k (finD (decide (sg = -1)) all (x + (expP (s.drop (i + 1))).1)) else k ⟨0, 0⟩ false := by
    intro j mi q1 hj hq hmi
    rw [ref38 k s hs sg hsg all x ha h0 hl hx j hj mi]
    unfold expP
    rw [hq]
    simp only
    by_cases hD : takeD (s.drop j) = []
    · rw [if_pos hD, hD, if_pos (by rfl)]
    · have hne : (takeD (s.drop j) == ([] : Str)) = false := by rw [beq_eq_false_iff_ne]; exact hD
      rw [if_neg hD, hne, if_neg (show ¬ ((!false) = false) by decide)]
      have : (if mi = true then -(min (valD (takeD (s.drop j)) 0 : Int) 1000000) else min (valD (takeD (s.drop j)) 0 : Int) 1000000) = (if q1 = 45 then -(min (valD (takeD (s.drop j)) 0 : Int) 1000000) else min (valD (takeD (s.drop j)) 0 : Int) 1000000) := by
        by_cases h : mi = true
        · rw [if_pos h, if_pos (hmi.1 h)]
        · rw [if_neg h, if_neg (fun g => h (hmi.2 g))]
      rw [this]
  by_cases h1 : i + 1 < s.length
  · have hd := drop_cons h1
    rw [dtrue (show ((i + 1 : Nat) : Int) < (s.length : Int) by omega), cond_true, Int.toNat_natCast]
    simp only [dtrue (show (0 : Int) ≤ ((i + 1 : Nat) : Int) by omega), Bool.and_true, chk_pos rfl]
    generalize s.getD (i + 1) 0 = b at *
    have q43 : ((b.toNat : Int) == 43) = decide (b.toNat = 43) := eqI _ 43
    have q45 : ((b.toNat : Int) == 45) = decide (b.toNat = 45) := eqI _ 45
    rw [q43, q45]
    have hg : signP [43, 45] (s.drop (i + 1)) = if ([43, 45] : Str).contains b then (b.toNat, s.drop (i + 1 + 1)) else (0, s.drop (i + 1)) := by rw [hd]; rfl
    by_cases g43 : b.toNat = 43
    · have hb : b = 43 := UInt8.toNat_inj.1 g43
      rw [dtrue g43, cond_true]
      rw [hb, if_pos (by rfl)] at hg
      exact fin _ _ _ (by omega) hg (by rw [hb]; simp)
    · rw [dfalse g43, cond_false]
      by_cases g45 : b.toNat = 45
      · have hb : b = 45 := UInt8.toNat_inj.1 g45
        rw [dtrue g45, cond_true]
        rw [hb, if_pos (by rfl)] at hg
        exact fin _ _ _ (by omega) hg (by simp)
      · rw [dfalse g45, cond_false]
        have hc : ([43, 45] : Str).contains b = false := by
          have h1 : b ≠ 43 := fun h => g43 (by rw [h]; rfl)
          have h2 : b ≠ 45 := fun h => g45 (by rw [h]; rfl)
          simp [h1, h2]
        rw [hc, if_neg (by simp)] at hg
        exact fin _ _ _ (by omega) hg (by simp)
  · rw [dfalse (show ¬ ((i + 1 : Nat) : Int) < (s.length : Int) by omega), cond_false]
    refine fin _ _ 0 (by omega) ?_ (by simp)
    rw [List.drop_of_length_le (by omega)]
    rfl

theorem ref77 (i : Nat) (hi : i ≤ s.length) : Jref01_Parse_j77 k s sg (i : Int) all x = outD k (tailD (decide (sg = -1)) all x (s.drop i)) := by
  unfold Jref01_Parse_j77
  have no : Jref01_Parse_j39 k s sg (i : Int) all x false = if i = s.length then outD k (finD (decide (sg = -1)) all x) else k ⟨0, 0⟩ false := by
    have e : Jref01_Parse_j39 k s sg (i : Int) all x false = Jref01_Parse_j76 k s (i : Int) sg all x (⟨0, 0⟩ : Dcm) := rfl
    rw [e, refEnd_ok k s i sg hsg all x _ ha h0 hl (by omega)]
    rfl
  unfold tailD
  by_cases h1 : i < s.length
  · have hd := drop_cons h1
    rw [dtrue (show (i : Int) < (s.length : Int) by omega), cond_true, Int.toNat_natCast]
    simp only [dtrue (show (0 : Int) ≤ (i : Int) by omega), Bool.and_true, chk_pos rfl]
    have hg : signP [101, 69] (s.drop i) = if ([101, 69] : Str).contains (s.getD i 0) then ((s.getD i 0).toNat, s.drop (i + 1)) else (0, s.drop i) := by rw [hd]; rfl
    generalize s.getD i 0 = b at *
    have q1 : ((b.toNat : Int) == 101) = decide (b.toNat = 101) := eqI _ 101
    have q2 : ((b.toNat : Int) == 69) = decide (b.toNat = 69) := eqI _ 69
    rw [q1, q2]
    have yes : ([101, 69] : Str).contains b = true → b.toNat ≠ 0 → Jref01_Parse_j39 k s sg (i : Int) all x true = outD k (if (signP [101, 69] (s.drop i)).1 = 0 then (if (signP [101, 69] (s.drop i)).2 = [] then finD (decide (sg = -1)) all x else noD)
        else if (expP (signP [101, 69] (s.drop i)).2).2.1 = false then noD else if (expP (signP [101, 69] (s.drop i)).2).2.2 = [] then finD (decide (sg = -1)) all (x + (expP (signP [101, 69] (s.drop i)).2).1) else noD) := by
      intro hc hb
      rw [ref39 k s hs sg hsg all x ha h0 hl hx i h1, hg, hc, if_pos rfl]
      simp only
      rw [if_neg hb]
      split
      · rfl
      · split <;> rfl
    by_cases g1 : b.toNat = 101
    · have hb : b = 101 := UInt8.toNat_inj.1 g1
      rw [dtrue g1, cond_true]
      exact yes (by rw [hb]; rfl) (by omega)
    · rw [dfalse g1, cond_false]
      by_cases g2 : b.toNat = 69
      · have hb : b = 69 := UInt8.toNat_inj.1 g2
        rw [dtrue g2]
        exact yes (by rw [hb]; rfl) (by omega)
      · rw [dfalse g2, no, if_neg (by omega)]
        have hc : ([101, 69] : Str).contains b = false := by
          have h1 : b ≠ 101 := fun h => g1 (by rw [h]; rfl)
          have h2 : b ≠ 69 := fun h => g2 (by rw [h]; rfl)
          simp [h1, h2]
        rw [hg, hc, if_neg (show ¬ (false = true) by simp), if_pos (show ((0 : Nat), s.drop i).1 = 0 from rfl), if_neg (show ¬ ((0 : Nat), s.drop i).2 = [] by rw [hd]; simp)]
        rfl
  · have hi2 : i = s.length := by omega
    rw [dfalse (show ¬ (i : Int) < (s.length : Int) by omega), cond_false, no, if_pos hi2, List.drop_of_length_le (by omega)]
    rfl
end

theorem ref79 {R : Type} (k : Dcm → Bool → Option R) (s : Str) (hs : s.length ≤ 400) (sg : Int) (hsg : sg = 1 ∨ sg = -1) (i : Nat) (hi : i ≤ s.length) : Jref01_Parse_j79 k s (i : Int) sg =
    outD k (if takeD (s.drop i) = [] then noD else if 1 < (takeD (s.drop i)).length ∧ ((takeD (s.drop i)).getD 0 0).toNat = 48 then noD
      else if (signP [46] (dropD (s.drop i))).1 = 0 then tailD (decide (sg = -1)) (takeD (s.drop i)) 0 (signP [46] (dropD (s.drop i))).2
      else if takeD (signP [46] (dropD (s.drop i))).2 = [] then noD
      else tailD (decide (sg = -1)) (takeD (s.drop i) ++ takeD (signP [46] (dropD (s.drop i))).2) (-((takeD (signP [46] (dropD (s.drop i))).2).length : Int)) (dropD (signP [46] (dropD (s.drop i))).2)) := by
  unfold Jref01_Parse_j79
  have hdl := take_le (s.drop i)
  rw [List.length_drop] at hdl
  rw [refDigits_ok s i (by omega) hi]
  have hI := take_dig (s.drop i)
  have htk := take_len (s.drop i)
  have hdr := drop_len (s.drop i)
  have hg0 : takeD (s.drop i) ≠ [] → s.getD i 0 = (takeD (s.drop i)).getD 0 0 := fun h => by
    have := getD_take s i 0 (by cases hT : takeD (s.drop i) with | nil => exact (h hT).elim | cons _ _ => simp)
    simpa using this
  rw [List.drop_drop] at hdr
  generalize hIe : takeD (s.drop i) = I at *
  by_cases h0 : I = []
  · rw [if_pos h0, h0]
    rfl
  have hpos : 1 ≤ I.length := by cases I with | nil => exact (h0 rfl).elim | cons _ _ => simp
  have hne : ((I.length : Int) == 0) = false := by rw [beq_eq_false_iff_ne]; omega
  rw [hne, cond_false, if_neg h0, Int.toNat_natCast, hg0 h0]
  have q48 : (((I.getD 0 0).toNat : Int) == 48) = decide ((I.getD 0 0).toNat = 48) := eqI _ 48
  rw [q48, chk_pos (by rw [dtrue (by omega), dtrue (by omega)]; rfl)]
  by_cases h48 : 1 < I.length ∧ (I.getD 0 0).toNat = 48
  · rw [if_pos h48, dtrue (show (I.length : Int) > 1 by omega), dtrue h48.2]
    rfl
  rw [if_neg h48]
  have cut : ∀ y : Option R, (bif decide ((I.length : Int) > 1) then (bif decide ((I.getD 0 0).toNat = 48) then k ⟨0, 0⟩ false else y) else y) = y := fun y => by
    by_cases h1 : 1 < I.length
    · rw [dtrue (show (I.length : Int) > 1 by omega), dfalse (fun h => h48 ⟨h1, h⟩)]; rfl
    · rw [dfalse (show ¬ (I.length : Int) > 1 by omega)]; rfl
  rw [cut]
  unfold Jref01_Parse_j78
  have w1 : IntKind.i64.wrap ((i : Int) + (I.length : Int)) = ((i + I.length : Nat) : Int) := by rw [wrap_id (by omega) (by omega)]; omega
  rw [w1, chk_pos (by rw [dtrue (by omega), dtrue (by omega)]; rfl), chk_pos (by rw [dtrue (by omega), dtrue (by omega)]; rfl)]
  have hsub : ((s.drop i).take (((i + I.length : Nat) : Int).toNat - i)) = I := by
    rw [Int.toNat_natCast, Nat.add_sub_cancel_left]; exact htk
  have nodot : (signP [46] (dropD (s.drop i))).1 = 0 → (signP [46] (dropD (s.drop i))).2 = s.drop (i + I.length) → Jref01_Parse_j9 k s (i : Int) sg (I.length : Int) false = outD k (tailD (decide (sg = -1)) I 0 (signP [46] (dropD (s.drop i))).2) := by
    intro g1 g2
    have e : Jref01_Parse_j9 k s (i : Int) sg (I.length : Int) false = Jref01_Parse_j77 k s sg (IntKind.i64.wrap ((i : Int) + (I.length : Int))) ((s.drop i).take ((IntKind.i64.wrap ((i : Int) + (I.length : Int))).toNat - i)) 0 := rfl
    rw [e, w1, hsub, g2]
    exact ref77 k s (by omega) sg hsg I 0 hI h0 (by omega) (by omega) _ (by omega)
  by_cases h1 : i + I.length < s.length
  · have hd := drop_cons h1
    rw [dtrue (show ((i + I.length : Nat) : Int) < (s.length : Int) by omega), cond_true, chk_pos (by rw [dtrue (show (0 : Int) ≤ ((i + I.length : Nat) : Int) by omega)]; rfl), Int.toNat_natCast]
    have q46 : (((s.getD (i + I.length) 0).toNat : Int) == 46) = decide ((s.getD (i + I.length) 0).toNat = 46) := eqI _ 46
    rw [q46]
    by_cases g : (s.getD (i + I.length) 0).toNat = 46
    · have hb : s.getD (i + I.length) 0 = 46 := UInt8.toNat_inj.1 g
      have hsp : signP [46] (dropD (s.drop i)) = (46, s.drop (i + I.length + 1)) := by rw [← hdr, hd, hb]; rfl
      rw [dtrue g, hsp]
      simp only
      rw [if_neg (by omega)]
      have w2 : IntKind.i64.wrap (((i + I.length : Nat) : Int) + 1) = ((i + I.length + 1 : Nat) : Int) := by rw [wrap_id (by omega) (by omega)]; omega
      unfold Jref01_Parse_j9
      rw [cond_true, w1, w2, refDigits_ok s _ (by omega) (by omega)]
      have hfl := take_le (s.drop (i + I.length + 1))
      rw [List.length_drop] at hfl
      have hF := take_dig (s.drop (i + I.length + 1))
      have htk2 := take_len (s.drop (i + I.length + 1))
      have hdr2 := drop_len (s.drop (i + I.length + 1))
      rw [List.drop_drop] at hdr2
      generalize takeD (s.drop (i + I.length + 1)) = F at *
      by_cases hF0 : F = []
      · rw [if_pos hF0, hF0]
        rfl
      have hne2 : ((F.length : Int) == 0) = false := by
        rw [beq_eq_false_iff_ne]
        intro h
        exact hF0 (List.eq_nil_of_length_eq_zero (by omega))
      have w3 : IntKind.i64.wrap (((i + I.length + 1 : Nat) : Int) + (F.length : Int)) = ((i + I.length + 1 + F.length : Nat) : Int) := by rw [wrap_id (by omega) (by omega)]; omega
      have hsub2 : ((s.drop (i + I.length + 1)).take (((i + I.length + 1 + F.length : Nat) : Int).toNat - (i + I.length + 1))) = F := by
        rw [Int.toNat_natCast, Nat.add_sub_cancel_left]; exact htk2
      rw [hne2, cond_false, if_neg hF0, w3, chk_pos (by rw [dtrue (by omega), dtrue (by omega)]; rfl), chk_pos (by rw [dtrue (by omega), dtrue (by omega)]; rfl)]
      rw [Int.toNat_natCast i, hsub, Int.toNat_natCast (i + I.length + 1), hsub2, chk_pos (dtrue (by omega)), wrap_id (n := 0 - (F.length : Int)) (by omega) (by omega)]
      have e0 : (0 : Int) - (F.length : Int) = -(F.length : Int) := by omega
      rw [e0, ← hdr2]
      exact ref77 k s (by omega) sg hsg (I ++ F) (-(F.length : Int)) (fun c hc => (List.mem_append.1 hc).elim (hI c) (hF c)) (by simp [h0]) (by rw [List.length_append]; omega) (by omega) _ (by omega)
    · have hb : ([46] : Str).contains (s.getD (i + I.length) 0) = false := by
        have : s.getD (i + I.length) 0 ≠ 46 := fun h => g (by rw [h]; rfl)
        simp only [List.contains_cons, List.contains_nil, Bool.or_false, beq_eq_false_iff_ne]
        exact this
      have hsp : signP [46] (dropD (s.drop i)) = (0, s.drop (i + I.length)) := by
        rw [← hdr, hd]
        show (if ([46] : Str).contains (s.getD (i + I.length) 0) then _ else _) = _
        rw [hb]; rfl
      rw [dfalse g, if_pos (by rw [hsp])]
      exact nodot (by rw [hsp]) (by rw [hsp])
  · have hsp : signP [46] (dropD (s.drop i)) = (0, s.drop (i + I.length)) := by
      rw [← hdr, List.drop_of_length_le (by omega)]
      rfl
    rw [dfalse (show ¬ ((i + I.length : Nat) : Int) < (s.length : Int) by omega), cond_false, if_pos (by rw [hsp])]
    exact nodot (by rw [hsp]) (by rw [hsp])

theorem refParse_ok {R : Type} (s : Str) (k : Dcm → Bool → Option R) : ref01_Parse s k = k (parseS s).1 (parseS s).2 := by
  have e : ref01_Parse s k = ref01_Parse_X ref01_Make ref01_digits ref01_Parse_32_0_L ref01_Parse_41_0_L ref01_Parse_43_0_L ref01_Parse_50_0_L s k := rfl
  rw [e, Jref01_Parse_eq]
  unfold parseS
  simp only
  by_cases h400 : 400 < s.length
  · rw [dtrue (show (s.length : Int) > 400 by omega), cond_true, if_pos h400]
    rfl
  rw [dfalse (show ¬ (s.length : Int) > 400 by omega), cond_false, if_neg h400]
  have plain : ∀ q : Nat × Str, q = (0, s) → Jref01_Parse_j79 k s 0 1 = k (if takeD q.2 = [] then noD else if 1 < (takeD q.2).length ∧ ((takeD q.2).getD 0 0).toNat = 48 then noD
      else if (signP [46] (dropD q.2)).1 = 0 then tailD (q.1 != 0) (takeD q.2) 0 (signP [46] (dropD q.2)).2
      else if takeD (signP [46] (dropD q.2)).2 = [] then noD
      else tailD (q.1 != 0) (takeD q.2 ++ takeD (signP [46] (dropD q.2)).2) (-((takeD (signP [46] (dropD q.2)).2).length : Int)) (dropD (signP [46] (dropD q.2)).2)).1 (if takeD q.2 = [] then noD else if 1 < (takeD q.2).length ∧ ((takeD q.2).getD 0 0).toNat = 48 then noD
      else if (signP [46] (dropD q.2)).1 = 0 then tailD (q.1 != 0) (takeD q.2) 0 (signP [46] (dropD q.2)).2
      else if takeD (signP [46] (dropD q.2)).2 = [] then noD
      else tailD (q.1 != 0) (takeD q.2 ++ takeD (signP [46] (dropD q.2)).2) (-((takeD (signP [46] (dropD q.2)).2).length : Int)) (dropD (signP [46] (dropD q.2)).2)).2 := by
    rintro q rfl
    exact ref79 k s (by omega) 1 (.inl rfl) 0 (by omega)
  by_cases h1 : 0 < s.length
  · rw [dtrue (show (0 : Int) < (s.length : Int) by omega), cond_true, chk_pos rfl]
    have hd := drop_cons h1
    rw [List.drop_zero] at hd
    have q45 : (((s.getD 0 0).toNat : Int) == 45) = decide ((s.getD 0 0).toNat = 45) := eqI _ 45
    rw [q45]
    by_cases g : (s.getD 0 0).toNat = 45
    · have hb : s.getD 0 0 = 45 := UInt8.toNat_inj.1 g
      have hq : signP [45] s = (45, s.drop 1) := by
        conv => lhs; rw [hd, hb]
        rfl
      rw [dtrue g, cond_true, hq]
      exact ref79 k s (by omega) (-1) (.inr rfl) 1 (by omega)
    · have hq : signP [45] s = (0, s) := by
        have hc : ([45] : Str).contains (s.getD 0 0) = false := by
          have : s.getD 0 0 ≠ 45 := fun h => g (by rw [h]; rfl)
          simp only [List.contains_cons, List.contains_nil, Bool.or_false, beq_eq_false_iff_ne]
          exact this
        conv => lhs; rw [hd]
        show (if ([45] : Str).contains (s.getD 0 0) then _ else (0, _)) = _
        rw [hc]
        simp only [Bool.false_eq_true, if_false]
        rw [← hd]
      rw [dfalse g, cond_false]
      exact plain _ hq
  · have hn : s = [] := List.eq_nil_of_length_eq_zero (by omega)
    subst hn
    exact plain _ rfl
end Go.Proofs.YtmlkkgfenfdndaaDoor

set_option linter.unusedVariables false
set_option maxRecDepth 100000
namespace Go.Proofs.YtmlkkgfenfdndaaDoor
open Go Go.Yard Go.Lib

theorem tw_at (p : UInt8 → Bool) (t : Str) (j : Nat) (h1 : j ≤ (t.takeWhile p).length) (h2 : j < t.length) : p (t.getD j 0) = decide (j < (t.takeWhile p).length) := by
  by_cases h : j < (t.takeWhile p).length
  · rw [dtrue h]
    have e := List.takeWhile_append_dropWhile (p := p) (l := t)
    have e2 := getD_app_lt (s := t.takeWhile p) (t := t.dropWhile p) h
    rw [e] at e2
    rw [e2, getD_at h]
    have := List.all_eq_true.1 (List.all_takeWhile (l := t) (p := p)) _ (List.getElem_mem h)
    exact this
  · rw [dfalse h]
    have hj : j = (t.takeWhile p).length := by omega
    have hd : t.dropWhile p = t.drop j := by rw [hj, drop_tw]
    have hc := drop_cons h2
    have h3 := List.head?_dropWhile_not p t
    rw [hd, hc] at h3
    simpa using h3

theorem numB_ok (b : UInt8) : numB b = (decide (48 ≤ b.toNat ∧ b.toNat ≤ 57) || (decide (b.toNat = 43) || (decide (b.toNat = 45) || (decide (b.toNat = 46) || (decide (b.toNat = 101) || decide (b.toNat = 69)))))) := by
  have all : ∀ n : Fin 256, numB (UInt8.ofNat n.val) = (decide (48 ≤ n.val ∧ n.val ≤ 57) || (decide (n.val = 43) || (decide (n.val = 45) || (decide (n.val = 46) || (decide (n.val = 101) || decide (n.val = 69)))))) := by decide +kernel
  have := all ⟨b.toNat, UInt8.toNat_lt b⟩
  simpa using this
theorem letB_ok (b : UInt8) : letB b = decide (97 ≤ b.toNat ∧ b.toNat ≤ 122) := by
  have all : ∀ n : Fin 256, letB (UInt8.ofNat n.val) = decide (97 ≤ n.val ∧ n.val ≤ 122) := by decide +kernel
  have := all ⟨b.toNat, UInt8.toNat_lt b⟩
  simpa using this

def kindB (number : Bool) : UInt8 → Bool := if number then numB else letB

theorem refWord_round {R : Type} (b : UInt8) (number : Bool) (x y : Option R) :
    (bif number then (bif (decide ((b.toNat : Int) ≥ (48 : Int))) then (bif (decide ((b.toNat : Int) ≤ (57 : Int))) then x else (bif ((b.toNat : Int) == 43) then x else (bif ((b.toNat : Int) == 45) then x else (bif ((b.toNat : Int) == 46) then x else (bif ((b.toNat : Int) == 101) then x else (bif (!((b.toNat : Int) == 69)) then y else x)))))) else (bif ((b.toNat : Int) == 43) then x else (bif ((b.toNat : Int) == 45) then x else (bif ((b.toNat : Int) == 46) then x else (bif ((b.toNat : Int) == 101) then x else (bif (!((b.toNat : Int) == 69)) then y else x)))))) else
      (bif (decide ((b.toNat : Int) < (97 : Int))) then y else (bif (decide ((b.toNat : Int) > (122 : Int))) then y else x))) = if kindB number b then x else y := by
  have q : ∀ m : Nat, ((b.toNat : Int) == (m : Int)) = decide (b.toNat = m) := fun m => eqI _ m
  have q43 := q 43
  have q45 := q 45
  have q46 := q 46
  have q101 := q 101
  have q69 := q 69
  cases number with
  | true =>
    show _ = if numB b then x else y
    rw [numB_ok, cond_true]
    have e43 : (((43 : Nat) : Int)) = 43 := rfl
    have e45 : (((45 : Nat) : Int)) = 45 := rfl
    have e46 : (((46 : Nat) : Int)) = 46 := rfl
    have e101 : (((101 : Nat) : Int)) = 101 := rfl
    have e69 : (((69 : Nat) : Int)) = 69 := rfl
    rw [e43] at q43; rw [e45] at q45; rw [e46] at q46; rw [e101] at q101; rw [e69] at q69
    rw [q43, q45, q46, q101, q69]
    have tail : (bif decide (b.toNat = 43) then x else (bif decide (b.toNat = 45) then x else (bif decide (b.toNat = 46) then x else (bif decide (b.toNat = 101) then x else (bif (!decide (b.toNat = 69)) then y else x))))) = if (decide (b.toNat = 43) || (decide (b.toNat = 45) || (decide (b.toNat = 46) || (decide (b.toNat = 101) || decide (b.toNat = 69))))) = true then x else y := by
      cases decide (b.toNat = 43) <;> cases decide (b.toNat = 45) <;> cases decide (b.toNat = 46) <;> cases decide (b.toNat = 101) <;> cases decide (b.toNat = 69) <;> rfl
    rw [tail]
    by_cases h1 : 48 ≤ b.toNat
    · rw [dtrue (show (b.toNat : Int) ≥ 48 by omega), cond_true]
      by_cases h2 : b.toNat ≤ 57
      · rw [dtrue (show (b.toNat : Int) ≤ 57 by omega), cond_true, dtrue (show 48 ≤ b.toNat ∧ b.toNat ≤ 57 from ⟨h1, h2⟩), Bool.true_or, if_pos rfl]
      · rw [dfalse (show ¬ (b.toNat : Int) ≤ 57 by omega), cond_false, dfalse (show ¬ (48 ≤ b.toNat ∧ b.toNat ≤ 57) by omega), Bool.false_or]
    · rw [dfalse (show ¬ (b.toNat : Int) ≥ 48 by omega), cond_false, dfalse (show ¬ (48 ≤ b.toNat ∧ b.toNat ≤ 57) by omega), Bool.false_or]
  | false =>
    show _ = if letB b then x else y
    rw [letB_ok, cond_false]
    by_cases h1 : 97 ≤ b.toNat
    · rw [dfalse (show ¬ (b.toNat : Int) < 97 by omega), cond_false]
      by_cases h2 : b.toNat ≤ 122
      · rw [dfalse (show ¬ (b.toNat : Int) > 122 by omega), cond_false, dtrue (show 97 ≤ b.toNat ∧ b.toNat ≤ 122 from ⟨h1, h2⟩), if_pos rfl]
      · rw [dtrue (show (b.toNat : Int) > 122 by omega), cond_true, dfalse (show ¬ (97 ≤ b.toNat ∧ b.toNat ≤ 122) by omega), if_neg (by simp)]
    · rw [dtrue (show (b.toNat : Int) < 97 by omega), cond_true, dfalse (show ¬ (97 ≤ b.toNat ∧ b.toNat ≤ 122) by omega), if_neg (by simp)]

theorem refWord_loop {R : Type} (s : Str) (i : Nat) (number : Bool) (hs : s.length ≤ 4000000000) (hi : i ≤ s.length) (e0 : Str → Int → Int → Option R) : ∀ (n j : Nat), ((s.drop i).takeWhile (kindB number)).length - j < n → j ≤ ((s.drop i).takeWhile (kindB number)).length →
    ref03_word_2_0_L n s (i : Int) number (j : Int) e0 = e0 s (i : Int) (((s.drop i).takeWhile (kindB number)).length : Int) := by
  intro n
  induction n with
  | zero => intro j h; omega
  | succ n ih =>
    intro j h1 h2
    rw [ref03_word_2_0_L]
    unfold ref03_word_2_0_B
    have hl := tw_dw_len (kindB number) (s.drop i)
    rw [List.length_drop] at hl
    rw [wrap_id (n := (i : Int) + (j : Int)) (by omega) (by omega)]
    by_cases hj : i + j < s.length
    · have hd := tw_at (kindB number) (s.drop i) j h2 (by rw [List.length_drop]; omega)
      rw [getD_at'] at hd
      have e1 : ((i : Int) + (j : Int)).toNat = i + j := by omega
      rw [dtrue (show (i : Int) + (j : Int) < (s.length : Int) by omega), cond_true, e1, chk_pos (by rw [dtrue (show (0 : Int) ≤ (i : Int) + (j : Int) by omega)]; rfl)]
      have fin : (if kindB number (s.getD (i + j) 0) = true then ref03_word_2_0_L n s (i : Int) number (IntKind.i64.wrap ((j : Int) + 1)) e0 else e0 s (i : Int) (j : Int)) = e0 s (i : Int) (((s.drop i).takeWhile (kindB number)).length : Int) := by
        rw [hd]
        by_cases hlt : j < ((s.drop i).takeWhile (kindB number)).length
        · rw [dtrue hlt, if_pos rfl, wrap_id (n := (j : Int) + 1) (by omega) (by omega)]
          exact ih (j + 1) (by omega) (by omega)
        · have : j = ((s.drop i).takeWhile (kindB number)).length := by omega
          rw [dfalse hlt, if_neg (by simp), ← this]
      have key := (refWord_round (R := R) (s.getD (i + j) 0) number (ref03_word_2_0_L n s (i : Int) number (IntKind.i64.wrap ((j : Int) + 1)) e0) (e0 s (i : Int) (j : Int))).trans fin
      cases number with
      | true => exact key
      | false => exact key
    · rw [dfalse (show ¬ (i : Int) + (j : Int) < (s.length : Int) by omega), cond_false]
      have : j = ((s.drop i).takeWhile (kindB number)).length := by omega
      rw [← this]

theorem refWord_ok {R : Type} (s : Str) (i : Nat) (number : Bool) (hs : s.length ≤ 4000000000) (hi : i ≤ s.length) (k : Str → Option R) : ref03_word s (i : Int) number k = k ((s.drop i).takeWhile (kindB number)) := by
  have hl := tw_dw_len (kindB number) (s.drop i)
  rw [List.length_drop] at hl
  have e : ref03_word s (i : Int) number k = ref03_word_X ref03_word_2_0_L s (i : Int) number k := rfl
  rw [e]
  unfold ref03_word_X
  have key := refWord_loop (R := R) s i number hs hi
  have c0 : ((0 : Nat) : Int) = 0 := rfl
  have key0 := fun (e0 : Str → Int → Int → Option R) (F : Nat) (hF : s.length < F) => key e0 F 0 (by omega) (by omega)
  rw [c0] at key0
  rw [key0 _ _ (by omega), wrap_id (by omega) (by omega), chk_pos (by rw [dtrue (by omega), dtrue (by omega)]; rfl), chk_pos (by rw [dtrue (by omega), dtrue (by omega)]; rfl)]
  have e2 : ((i : Int) + (((s.drop i).takeWhile (kindB number)).length : Int)).toNat - (i : Int).toNat = ((s.drop i).takeWhile (kindB number)).length := by omega
  rw [e2, Int.toNat_natCast, take_tw]

theorem sig_ok (b : UInt8) : sigB b = (decide (b.toNat = 123) || (decide (b.toNat = 125) || (decide (b.toNat = 91) || (decide (b.toNat = 93) || (decide (b.toNat = 44) || decide (b.toNat = 58)))))) := by
  have all : ∀ n : Fin 256, sigB (UInt8.ofNat n.val) = (decide (n.val = 123) || (decide (n.val = 125) || (decide (n.val = 91) || (decide (n.val = 93) || (decide (n.val = 44) || decide (n.val = 58)))))) := by decide +kernel
  have := all ⟨b.toNat, UInt8.toNat_lt b⟩
  simpa using this
theorem bla_ok (b : UInt8) : blaB b = (decide (b.toNat = 32) || (decide (b.toNat = 9) || (decide (b.toNat = 10) || decide (b.toNat = 13)))) := by
  have all : ∀ n : Fin 256, blaB (UInt8.ofNat n.val) = (decide (n.val = 32) || (decide (n.val = 9) || (decide (n.val = 10) || decide (n.val = 13)))) := by decide +kernel
  have := all ⟨b.toNat, UInt8.toNat_lt b⟩
  simpa using this

theorem refTok_ok {R : Type} (s : Str) (i : Nat) (hs : s.length ≤ 4000000000) (hi : i < s.length) (k : Token → Int → Option R) :
    ref03_token s (i : Int) k = match tokS (s.drop i) with | some (t, r) => k (putT t (i : Int)) (((s.drop i).length - r.length : Nat) : Int) | none => k ⟨0, [], ⟨0, 0⟩, 0⟩ 0 := by
  have e : ref03_token s (i : Int) k = ref03_token_X ref02_Unquote ref01_Parse ref03_word s (i : Int) k := rfl
  rw [e]
  unfold ref03_token_X
  have hd := drop_cons hi
  have hdl : (s.drop i).length = s.length - i := List.length_drop
  rw [chk_pos (by rw [dtrue (by omega), dtrue (by omega)]; rfl), Int.toNat_natCast]
  simp only
  have w1 : IntKind.i64.wrap ((i : Int) + 1) = ((i + 1 : Nat) : Int) := by rw [wrap_id (by omega) (by omega)]; omega
  have hsub : (s.drop i).take ((s.length : Int).toNat - i) = s.drop i := List.take_of_length_le (by rw [List.length_drop, Int.toNat_natCast]; exact Nat.le_refl _)
  have one : (s.drop i).take (((i + 1 : Nat) : Int).toNat - i) = [s.getD i 0] := by
    rw [hd]
    have : ((i + 1 : Nat) : Int).toNat - i = 1 := by omega
    rw [this]; rfl
  have hl1 := tw_dw_len numB (s.drop i)
  have hl2 := tw_dw_len letB (s.drop i)
  have num := refWord_ok (R := R) s i true hs (by omega)
  have nam := refWord_ok (R := R) s i false hs (by omega)
  have kt : kindB true = numB := rfl
  have kf : kindB false = letB := rfl
  rw [kt] at num
  rw [kf] at nam
  rw [w1, hsub, one]
  have unq := refUnquote_ok (R := R) (s.drop i) (by omega)
  generalize hc : s.getD i 0 = c at *
  generalize hD : s.drop i = D at *
  have q : ∀ m : Nat, ((c.toNat : Int) == (m : Int)) = decide (c.toNat = m) := fun m => eqI _ m
  by_cases hs : sigB c = true
  · have hk : k (⟨1, [c], ⟨0, 0⟩, (i : Int)⟩ : Token) 1 = match tokS D with | some (t, r) => k (putT t (i : Int)) ((D.length - r.length : Nat) : Int) | none => k ⟨0, [], ⟨0, 0⟩, 0⟩ 0 := by
      have := (word_sign c hs).2
      have all : ∀ n : Fin 256, sigB (UInt8.ofNat n.val) = true → ¬ (n.val = 45 ∨ (48 ≤ n.val ∧ n.val ≤ 57)) ∧ ¬ n.val = 34 := by decide +kernel
      obtain ⟨h2, h3⟩ := all ⟨c.toNat, UInt8.toNat_lt c⟩ (by simpa using hs)
      rw [hd]
      simp only [tokS]
      rw [if_neg h2, if_neg h3, if_pos hs]
      have e1 : (c :: s.drop (i + 1) : Str).length - (s.drop (i + 1)).length = 1 := by simp
      simp only [e1]
      rfl
    rw [← hk]
    rw [chk_pos (by rw [dtrue (by omega), dtrue (by omega)]; rfl), chk_pos (by rw [dtrue (by omega), dtrue (by omega)]; rfl)]
    rw [sig_ok] at hs
    simp only [Bool.or_eq_true, decide_eq_true_eq] at hs
    rcases hs with h | h | h | h | h | h
    all_goals (rw [h]; rfl)
  · have hs' : sigB c = false := by simpa using hs
    rw [sig_ok] at hs
    simp only [Bool.or_eq_true, decide_eq_true_eq, not_or] at hs
    obtain ⟨n1, n2, n3, n4, n5, n6⟩ := hs
    have f : ∀ m : Nat, c.toNat ≠ m → ((c.toNat : Int) == (m : Int)) = false := fun m h => by rw [q, dfalse h]
    have f1 := f 123 n1
    have f2 := f 125 n2
    have f3 := f 91 n3
    have f4 := f 93 n4
    have f5 := f 44 n5
    have f6 := f 58 n6
    have e1 : ((123 : Nat) : Int) = 123 := rfl
    have e2 : ((125 : Nat) : Int) = 125 := rfl
    have e3 : ((91 : Nat) : Int) = 91 := rfl
    have e4 : ((93 : Nat) : Int) = 93 := rfl
    have e5 : ((44 : Nat) : Int) = 44 := rfl
    have e6 : ((58 : Nat) : Int) = 58 := rfl
    rw [e1] at f1; rw [e2] at f2; rw [e3] at f3; rw [e4] at f4; rw [e5] at f5; rw [e6] at f6
    rw [f1, f2, f3, f4, f5, f6]
    simp only [cond_false]
    have q34 := q 34
    have e34 : ((34 : Nat) : Int) = 34 := rfl
    rw [e34] at q34
    have q45 := q 45
    have e45 : ((45 : Nat) : Int) = 45 := rfl
    rw [e45] at q45
    rw [q34, q45, hd]
    simp only [tokS]
    rw [hs', ← hd]
    by_cases h34 : c.toNat = 34
    · rw [dtrue h34, cond_true, if_neg (by omega), if_pos h34, chk_pos (by rw [dtrue (by omega), dtrue (by omega)]; rfl), chk_pos (by rw [dtrue (by omega), dtrue (by omega)]; rfl), unq]
      cases uqS D with
      | none => rfl
      | some p => rfl
    · rw [dfalse h34, cond_false]
      -- a number
      have numR : (c.toNat = 45 ∨ (48 ≤ c.toNat ∧ c.toNat ≤ 57)) → (ref03_word s (i : Int) true (fun y8 => ref01_Parse y8 (fun y9 y10 => bif (!y10) then (k (⟨0, ([] : Str), ⟨0, 0⟩, 0⟩ : Token) 0) else (k (⟨3, y8, ⟨y9.mant, y9.exp⟩, (i : Int)⟩ : Token) (y8.length : Int))))) =
          match (if c.toNat = 45 ∨ (48 ≤ c.toNat ∧ c.toNat ≤ 57) then (if (parseS (D.takeWhile numB)).2 then some (⟨3, D.takeWhile numB, (parseS (D.takeWhile numB)).1, 0⟩, D.dropWhile numB) else none) else if c.toNat = 34 then (match uqS D with | some (o, r) => some (⟨2, o, ⟨0, 0⟩, 0⟩, r) | none => none) else if false = true then some ((⟨1, [c], ⟨0, 0⟩, 0⟩ : Token), s.drop (i + 1)) else if D.takeWhile letB = trueS ∨ D.takeWhile letB = falseS ∨ D.takeWhile letB = nullS then some (⟨4, D.takeWhile letB, ⟨0, 0⟩, 0⟩, D.dropWhile letB) else none) with
          | some (t, r) => k (putT t (i : Int)) ((D.length - r.length : Nat) : Int) | none => k ⟨0, [], ⟨0, 0⟩, 0⟩ 0 := by
        intro h
        rw [if_pos h, num, refParse_ok]
        have el : D.length - (D.dropWhile numB).length = (D.takeWhile numB).length := by omega
        cases (parseS (D.takeWhile numB)).2 with
        | true => simp only [if_true]; rw [el]; rfl
        | false => rfl
      have namR : ¬ (c.toNat = 45 ∨ (48 ≤ c.toNat ∧ c.toNat ≤ 57)) → (let j14 := fun (z11 : Bool) => bif z11 then (ref03_word s (i : Int) false (fun y12 => bif (y12 == ([116, 114, 117, 101] : Str)) then (k (⟨4, y12, ⟨0, 0⟩, (i : Int)⟩ : Token) (y12.length : Int)) else (bif (y12 == ([102, 97, 108, 115, 101] : Str)) then (k (⟨4, y12, ⟨0, 0⟩, (i : Int)⟩ : Token) (y12.length : Int)) else (bif (y12 == ([110, 117, 108, 108] : Str)) then (k (⟨4, y12, ⟨0, 0⟩, (i : Int)⟩ : Token) (y12.length : Int)) else (k (⟨0, ([] : Str), ⟨0, 0⟩, 0⟩ : Token) 0))))) else (k (⟨0, ([] : Str), ⟨0, 0⟩, 0⟩ : Token) 0); bif (decide ((c.toNat : Int) ≥ (97 : Int))) then (j14 (decide ((c.toNat : Int) ≤ (122 : Int)))) else (j14 false)) =
          match (if c.toNat = 45 ∨ (48 ≤ c.toNat ∧ c.toNat ≤ 57) then (if (parseS (D.takeWhile numB)).2 then some (⟨3, D.takeWhile numB, (parseS (D.takeWhile numB)).1, 0⟩, D.dropWhile numB) else none) else if c.toNat = 34 then (match uqS D with | some (o, r) => some (⟨2, o, ⟨0, 0⟩, 0⟩, r) | none => none) else if false = true then some ((⟨1, [c], ⟨0, 0⟩, 0⟩ : Token), s.drop (i + 1)) else if D.takeWhile letB = trueS ∨ D.takeWhile letB = falseS ∨ D.takeWhile letB = nullS then some (⟨4, D.takeWhile letB, ⟨0, 0⟩, 0⟩, D.dropWhile letB) else none) with
          | some (t, r) => k (putT t (i : Int)) ((D.length - r.length : Nat) : Int) | none => k ⟨0, [], ⟨0, 0⟩, 0⟩ 0 := by
        intro h
        rw [if_neg h, if_neg h34, if_neg (show ¬ (false = true) by simp)]
        have el : D.length - (D.dropWhile letB).length = (D.takeWhile letB).length := by omega
        simp only
        by_cases hlet : letB c = true
        · have hl := hlet
          rw [letB_ok] at hl
          have hl := of_decide_eq_true hl
          rw [dtrue (show (c.toNat : Int) ≥ 97 by omega), dtrue (show (c.toNat : Int) ≤ 122 by omega), cond_true, cond_true, nam]
          generalize D.takeWhile letB = w at *
          have eq : ∀ a : Str, (w == a) = decide (w = a) := fun a => by
            by_cases h : w = a
            · rw [dtrue h]; exact beq_iff_eq.2 h
            · rw [dfalse h]; exact beq_eq_false_iff_ne.2 h
          rw [eq, eq, eq]
          by_cases h1 : w = trueS
          · rw [dtrue (show w = [116, 114, 117, 101] from h1), if_pos (.inl h1)]; simp only [el]; rfl
          · by_cases h2 : w = falseS
            · rw [dfalse (show ¬ w = [116, 114, 117, 101] from h1), dtrue (show w = [102, 97, 108, 115, 101] from h2), if_pos (.inr (.inl h2))]; simp only [el]; rfl
            · by_cases h3 : w = nullS
              · rw [dfalse (show ¬ w = [116, 114, 117, 101] from h1), dfalse (show ¬ w = [102, 97, 108, 115, 101] from h2), dtrue (show w = [110, 117, 108, 108] from h3), if_pos (.inr (.inr h3))]; simp only [el]; rfl
              · rw [dfalse (show ¬ w = [116, 114, 117, 101] from h1), dfalse (show ¬ w = [102, 97, 108, 115, 101] from h2), dfalse (show ¬ w = [110, 117, 108, 108] from h3), if_neg (by rintro (h | h | h); exact h1 h; exact h2 h; exact h3 h)]; rfl
        · have hlf : letB c = false := by simpa using hlet
          have hn : D.takeWhile letB = [] := by rw [hd, List.takeWhile_cons, hlf]; rfl
          rw [hn, if_neg (by rintro (h | h | h) <;> cases h)]
          have hl := hlf
          rw [letB_ok] at hl
          have hl := of_decide_eq_false hl
          by_cases h97 : 97 ≤ c.toNat
          · rw [dtrue (show (c.toNat : Int) ≥ 97 by omega), dfalse (show ¬ (c.toNat : Int) ≤ 122 by omega)]; rfl
          · rw [dfalse (show ¬ (c.toNat : Int) ≥ 97 by omega)]; rfl
      by_cases h48 : 48 ≤ c.toNat
      · rw [dtrue (show (c.toNat : Int) ≥ 48 by omega), cond_true]
        by_cases h57 : c.toNat ≤ 57
        · rw [dtrue (show (c.toNat : Int) ≤ 57 by omega), cond_true, cond_true]
          exact numR (.inr ⟨h48, h57⟩)
        · rw [dfalse (show ¬ (c.toNat : Int) ≤ 57 by omega), cond_false, dfalse (show ¬ c.toNat = 45 by omega), cond_false]
          exact namR (by omega)
      · rw [dfalse (show ¬ (c.toNat : Int) ≥ 48 by omega), cond_false]
        by_cases h45 : c.toNat = 45
        · rw [dtrue h45, cond_true]
          exact numR (.inl h45)
        · rw [dfalse h45, cond_false]
          exact namR (by omega)

theorem scanN_blank (n p : Nat) (b : UInt8) (u : Str) (out : List Token) (hb : blaB b = true) : scanN (n + 1) p (b :: u) out = scanN (n + 1) (p + 1) u out := by
  have e1 : (b :: u).dropWhile blaB = u.dropWhile blaB := by rw [List.dropWhile_cons, hb, if_pos rfl]
  have e2 : p + ((b :: u).takeWhile blaB).length = p + 1 + (u.takeWhile blaB).length := by rw [List.takeWhile_cons, hb, if_pos rfl, List.length_cons]; omega
  simp only [scanN]
  rw [e1, e2]
  split
  · rfl
  · split
    · rfl
    · rename_i t r hr
      have h1 := (tokS_sfx hr).2
      have h2 := drop_le blaB u
      have e3 : p + ((b :: u).length - r.length) = p + 1 + (u.length - r.length) := by simp only [List.length_cons]; omega
      rw [e3]

theorem refScan_loop {R : Type} (s : Str) (hs : s.length ≤ 20000) (k : List Token → Int → Int → Option R) : ∀ (n p : Nat) (out : List Token), s.length - p < n → p ≤ s.length → out.length ≤ p →
    ref03_Scan_5_0_L n s out (p : Int) (fun y8 y9 => chk (decide ((y8.length + 1) * 48 ≤ 140737488355328)) (k (y8 ++ ([(⟨5, ([] : Str), ⟨0, 0⟩, y9⟩ : Token)] : List Token)) 0 0)) (fun y10 y11 y12 y13 => k ([] : List Token) y10 y11) =
      k (scanN n p (s.drop p) out).1 (scanN n p (s.drop p) out).2.1 (scanN n p (s.drop p) out).2.2 := by
  intro n
  induction n with
  | zero => intro p out h; omega
  | succ n ih =>
    intro p out h1 h2 h3
    rw [ref03_Scan_5_0_L]
    unfold ref03_Scan_5_0_B
    by_cases hp : p < s.length
    · have hd := drop_cons hp
      have hdl : (s.drop p).length = s.length - p := List.length_drop
      have w1 : IntKind.i64.wrap ((p : Int) + 1) = ((p + 1 : Nat) : Int) := by rw [wrap_id (by omega) (by omega)]; omega
      have hchk : (decide ((0 : Int) ≤ (p : Int)) && decide ((p : Int) < (s.length : Int))) = true := by rw [dtrue (by omega), dtrue (by omega)]; rfl
      rw [dtrue (show (p : Int) < (s.length : Int) by omega), cond_true]
      simp only [Bool.and_true, dtrue (show (0 : Int) ≤ (p : Int) by omega), chk_pos rfl, Int.toNat_natCast, w1]
      have htok := fun (k : Token → Int → Option R) => refTok_ok s p (by omega) hp k
      generalize hc : s.getD p 0 = c at *
      by_cases hb : blaB c = true
      · have hrec : ref03_Scan_5_0_L n s out ((p + 1 : Nat) : Int) (fun y8 y9 => chk (decide ((y8.length + 1) * 48 ≤ 140737488355328)) (k (y8 ++ ([(⟨5, ([] : Str), ⟨0, 0⟩, y9⟩ : Token)] : List Token)) 0 0)) (fun y10 y11 y12 y13 => k ([] : List Token) y10 y11) =
            k (scanN (n + 1) p (s.drop p) out).1 (scanN (n + 1) p (s.drop p) out).2.1 (scanN (n + 1) p (s.drop p) out).2.2 := by
          rw [ih (p + 1) out (by omega) (by omega) (by omega), hd, scanN_blank n p c _ out hb, scanN_fuel n (n + 1) (p + 1) _ out (by rw [List.length_drop]; omega) (by rw [List.length_drop]; omega)]
        rw [bla_ok] at hb
        simp only [Bool.or_eq_true, decide_eq_true_eq] at hb
        rcases hb with h | h | h | h
        all_goals (rw [h]; exact hrec)
      · have hbf : blaB c = false := by simpa using hb
        rw [bla_ok] at hb
        simp only [Bool.or_eq_true, decide_eq_true_eq, not_or] at hb
        obtain ⟨n1, n2, n3, n4⟩ := hb
        have f : ∀ m : Nat, c.toNat ≠ m → ((c.toNat : Int) == (m : Int)) = false := fun m h => by rw [eqI, dfalse h]
        have f1 := f 32 n1
        have f2 := f 9 n2
        have f3 := f 10 n3
        have f4 := f 13 n4
        have e1 : ((32 : Nat) : Int) = 32 := rfl
        have e2 : ((9 : Nat) : Int) = 9 := rfl
        have e3 : ((10 : Nat) : Int) = 10 := rfl
        have e4 : ((13 : Nat) : Int) = 13 := rfl
        rw [e1] at f1; rw [e2] at f2; rw [e3] at f3; rw [e4] at f4
        rw [f1, f2, f3, f4]
        simp only [cond_false]
        rw [htok]
        have tw : (s.drop p).takeWhile blaB = [] := by rw [hd, List.takeWhile_cons, hbf]; rfl
        have dw : (s.drop p).dropWhile blaB = s.drop p := by rw [hd, List.dropWhile_cons, hbf]; rfl
        simp only [scanN]
        rw [tw, dw, if_neg (by rw [hd]; simp)]
        have ep : p + ([] : Str).length = p := rfl
        rw [ep]
        cases ht : tokS (s.drop p) with
        | none => rfl
        | some x =>
          obtain ⟨t, r⟩ := x
          obtain ⟨g1, g2⟩ := tokS_sfx ht
          have hn : (((s.drop p).length - r.length : Nat) : Int) ≠ 0 := by omega
          simp only
          rw [beq_eq_false_iff_ne.2 hn, cond_false, chk_pos (dtrue (by omega))]
          have hq2 : IntKind.i64.wrap ((p : Int) + (((s.drop p).length - r.length : Nat) : Int)) = ((p + ((s.drop p).length - r.length) : Nat) : Int) := by rw [wrap_id (by omega) (by omega)]; omega
          rw [hq2]
          have hr : s.drop (p + ((s.drop p).length - r.length)) = r := by rw [← List.drop_drop, ← sfx_drop g1]
          have key := ih (p + ((s.drop p).length - r.length)) (out ++ [putT t (p : Int)]) (by omega) (by omega) (by simp; omega)
          rw [hr] at key
          exact key
    · have hpe : p = s.length := by omega
      have hdn : s.drop p = [] := List.drop_of_length_le (by omega)
      rw [dfalse (show ¬ (p : Int) < (s.length : Int) by omega), cond_false, hdn]
      show chk (decide ((out.length + 1) * 48 ≤ 140737488355328)) (k (out ++ ([(⟨5, ([] : Str), ⟨0, 0⟩, (p : Int)⟩ : Token)] : List Token)) 0 0) = _
      rw [chk_pos (dtrue (by omega))]
      rfl

theorem refScan_ok {R : Type} (s : Str) (k : List Token → Int → Int → Option R) : ref03_Scan s k = k (scanS s).1 (scanS s).2.1 (scanS s).2.2 := by
  have e : ref03_Scan s k = ref03_Scan_X ref03_Scan_5_0_L s k := rfl
  rw [e]
  unfold ref03_Scan_X scanS
  by_cases h : 20000 < s.length
  · rw [dtrue (show (s.length : Int) > 20000 by omega), cond_true, if_pos h]
  · rw [dfalse (show ¬ (s.length : Int) > 20000 by omega), cond_false, if_neg h]
    have key := refScan_loop (R := R) s (by omega) k (List.length s + List.length ([] : List Token) + Int.natAbs 0 + 64) 0 [] (by omega) (by omega) (by simp)
    rw [List.drop_zero, scanN_fuel _ (s.length + 1) 0 s [] (by omega) (by omega)] at key
    exact key

theorem scanN_len : ∀ (n p : Nat) (s : Str) (out : List Token), (scanN n p s out).1.length ≤ out.length + s.length + 1
  | 0, _, _, _ => by simp [scanN]
  | n + 1, p, s, out => by
    simp only [scanN]
    split
    · simp <;> omega
    · split
      · simp
      · rename_i t r hr
        have h1 := (tokS_sfx hr).2
        have h2 := drop_le blaB s
        have h3 := scanN_len n (p + (s.length - r.length)) r (out ++ [putT t ((p + (s.takeWhile blaB).length : Nat) : Int)])
        rw [List.length_append, List.length_cons, List.length_nil] at h3
        omega

theorem tok_self (t : Token) : (t.kind == t.kind && (t.text == t.text && (t.num.mant == t.num.mant && (t.num.exp == t.num.exp && (t.at_ == t.at_ && true))))) = true := by
  rw [beq_self_eq_true, beq_self_eq_true, beq_self_eq_true, beq_self_eq_true, beq_self_eq_true]; rfl
theorem same_loop {R : Type} (l : List Token) (hl : l.length ≤ 1000000) (e0 : Option R) (e1 : Bool → Option R) : ∀ (n i : Nat), l.length - i < n → i ≤ l.length → law03_Same_4_0_L n l l (i : Int) e0 e1 = e0 := by
  intro n
  induction n with
  | zero => intro i h; omega
  | succ n ih =>
    intro i h1 h2
    rw [law03_Same_4_0_L]
    unfold law03_Same_4_0_B
    by_cases hi : i < l.length
    · rw [dtrue (show (i : Int) < (l.length : Int) by omega), cond_true, chk_pos (by rw [dtrue (show (0 : Int) ≤ (i : Int) by omega)]; rfl), chk_pos (by rw [dtrue (show (0 : Int) ≤ (i : Int) by omega)]; rfl), tok_self, wrap_id (n := (i : Int) + 1) (by omega) (by omega)]
      exact ih (i + 1) (by omega) (by omega)
    · rw [dfalse (show ¬ (i : Int) < (l.length : Int) by omega), cond_false]
theorem same_self {R : Type} (l : List Token) (hl : l.length ≤ 1000000) (k : Bool → Option R) : law03_Same l l k = k true := by
  have e : law03_Same l l k = law03_Same_X law03_Same_4_0_L l l k := rfl
  rw [e]
  unfold law03_Same_X
  have hn : ((l.length : Int) != (l.length : Int)) = false := bne_self_eq_false _
  rw [hn, cond_false]
  exact same_loop l hl _ _ _ 0 (by omega) (by omega)

theorem scanS_len (s : Str) : (scanS s).1.length ≤ 20002 := by
  unfold scanS
  split
  · simp
  · have := scanN_len (s.length + 1) 0 s []
    simp at this
    omega

theorem lexerTells_true {R : Type} (s : Str) (hs : Small 1048576 (.str s)) (k : Bool → Option R) : law03_LexerTells s k = k true := by
  have e : law03_LexerTells s k = law03_LexerTells_X law03_Same law03_awake ref03_Scan lexer_Scan s k := rfl
  rw [e]
  unfold law03_LexerTells_X
  have hl := scanS_len s
  have b1 : ∀ v : Int, (v == v) = true := fun v => beq_self_eq_true v
  rw [awake03, scan_ok, refScan_ok, cond_true, same_self _ (by omega), cond_true, b1, cond_true, b1, Bool.cond_self, Bool.cond_self]
end Go.Proofs.YtmlkkgfenfdndaaDoor

set_option linter.unusedVariables false
set_option maxRecDepth 100000
namespace Go.Proofs.YtmlkkgfenfdndaaDoor.lexerTells
open Go.ChangeShapes Go.WideShapes Go.ChangeAt Go.RowKit Go.Yard Door

theorem run (a0 : Str) : specBy law03_LexerTells_p law03_LexerTells_q (law03_LexerTells_rr law03_LexerTells) specNo [.str a0] [] kOk = law03_LexerTells a0 (fun q0 => kOk (.bool q0) []) := by kernel_rfl

theorem contract (H : Type) (enc : TypeId × Value → H) (W : World) (base : Nat) (args : Array Value) (ds gs : List (DataW H)) (before : List MemPlace)
    (hval : ∀ (j : Nat) t v, Tryd.f3.params[j]? = some t → args[j]? = some v → Value.okWide Tryd.prog W .any base t v)
    (hW : DataW.Whole enc Tryd.prog Tryd.f3.params.toList Rows.lexerTellsSpec.vars false W args.toList ds gs before) (hL : laidMetH Tryd.prog Rows.lexerTellsUptoRow.laid W) (hk : Rows.uptoSmall H (ds ++ gs) = true) :
    Calls Tryd.prog 3 args W fun e W' => ∃ v, e = .returned v ∧ Rows.lexerTellsSpec.post enc Tryd.prog Tryd.f3 false true false false W args v W' := by
  have hW' := hW
  obtain ⟨p, q, hA0, hV, hpq, hfz, hnd⟩ := hW
  have hA : DataW.TrodAll enc Tryd.prog W 0 (fun _ => true) true [9] args.toList ds p := hA0
  have hval : ∀ (j : Nat) t v, (#[9] : Array Nat)[j]? = some t → args[j]? = some v → Value.okWide Tryd.prog W .any base t v := hval
  obtain ⟨v0, vs0, d0, ds0, p0, q0, hargs, rfl, rfl, h0, r0⟩ := trodAll_cons hA
  obtain ⟨rfl, rfl, rfl⟩ := trodAll_nil r0
  obtain rfl : args = #[v0] := by cases args; simp_all
  have hV' : DataW.TrodVars enc Tryd.prog W (fun _ => true) [] gs q := hV
  obtain ⟨rfl, rfl⟩ := trodVars_none hV'
  have hb : Rows.uptoBulkAll ([d0] ++ []) ≤ 1048576 := of_decide_eq_true hk
  simp only [List.append_nil, Rows.uptoBulkAll] at hb
  obtain ⟨a0, q0, s0⟩ := arg_one (p := .str) (N := 1048576) leaves (by kernel_rfl) (by kernel_rfl) (hval 0 9 v0 rfl rfl) h0 (by omega) (Nat.le_of_ble_eq_true rfl)
  have ra : RepL W [] cfg0 [.str a0] #[v0].toList := (.cons q0 .nil)
  obtain ⟨hsays, hblocks⟩ := lay_met (W := W) hL
  refine (calls_true Tryd.func3 rfl rfl (law03_LexerTells_S_ok Unit _ (specNo_ok _)) hsays hblocks ra ((run a0).trans (lexerTells_true a0 s0 (fun q0 => kOk (.bool q0) [])))).mono fun e W' ⟨he, L⟩ => ⟨_, he, ?_⟩
  exact post_true (by kernel_rfl) (params_ok (by kernel_rfl)) rfl rfl rfl (show Tryd.prog.underlying 4 = some .bool by kernel_rfl) hW' L

theorem reads (os : Os) {H : Type} (enc : TypeId × Value → H) : (DataW.whole enc Tryd.prog ((laidWorld os).forCall (fun _ _ => 0) ⟨#[], #[.string .empty], []⟩).memory Tryd.f3.params.toList Rows.lexerTellsSpec.vars false (#[.string .empty] : Array Value).toList 8).map (fun x => (x.1, x.2.1)) = some ([.lit (.string [])], []) := by kernel_rfl
theorem lifted (os : Os) (started : os.Started) (H : Type) (enc : TypeId × Value → H) (F : Stop.Interp) :
    ReturnsInHanded {} Tryd.checked os 3 .any ((Rows.OpenSpec.upto Rows.lexerTellsSpec).preRow enc Tryd.prog Tryd.f3 Rows.lexerTellsUptoRow.domain false Rows.lexerTellsUptoRow.laid) (((Rows.OpenSpec.upto Rows.lexerTellsSpec).at F).post enc Tryd.prog Tryd.f3 false true false false) := by
  obtain ⟨⟨x1, x2, x3⟩, hx, hx1⟩ := Option.map_eq_some_iff.1 (reads os enc)
  simp only [Prod.mk.injEq] at hx1
  obtain ⟨rfl, rfl⟩ := hx1
  refine returnsInHanded_of_row (C := Tryd.checked) (s := Rows.OpenSpec.upto Rows.lexerTellsSpec) own started (by kernel_rfl) Tryd.func3
    (witness_row_atRef (enc := enc) (C := Tryd.checked) false (laidWorld os) #[.string .empty] rfl (by kernel_rfl) (by kernel_rfl) (by kernel_rfl)
      (OpenSpec.preRow_of_cond 8 hx (by kernel_rfl) (fun k hk => by cases hk; kernel_rfl) (by kernel_rfl) (laid_met os _))) ?_
  intro W base args ds gs before hval hW _ hcond _ hL _ _
  exact contract H enc W base args ds gs before hval hW hL (hcond _ rfl)

theorem saidUpto : Rows.LexerTellsUptoSaid :=
  OpenClaim.holds_of_cond 3 Tryd.f3 rfl rfl rfl rfl rfl rfl rfl ⟨rfl, rfl, rfl, rfl, rfl⟩ rfl rfl rfl rfl rfl (by kernel_rfl) Tryd.func3 (by kernel_rfl)
    (of_decide_eq_true (by kernel_rfl)) (by unfold Func.isWrapper; first | (rw [if_pos (by decide +kernel)]; kernel_rfl) | (rw [if_neg (by decide +kernel)]; exact ⟨rfl, rfl⟩))
    (fun os started H enc _ F => by rw [OpenClaim.pre_eq_preRow]; exact lifted os started H enc F)

theorem plain (f : FuncId) (fn : Func) (hf : Tryd.pinned.checked.prog.funcNamed "humpyard/humpyardlaw03.LexerTells" = some f) (hfn : Tryd.pinned.checked.prog.funcs[f]? = some fn) :
    true = Tryd.pinned.checked.prog.looks [] ∧ ∀ (j : Nat) t, fn.params[j]? = some t → Tryd.pinned.checked.prog.wantsStandIn t = false := by
  obtain rfl : f = 3 := Option.some.inj ((show Tryd.prog.funcNamed "humpyard/humpyardlaw03.LexerTells" = some 3 by kernel_rfl).symm.trans hf) |>.symm
  obtain rfl : fn = Tryd.f3 := (Option.some.inj (Tryd.func3.symm.trans hfn)).symm
  refine ⟨by kernel_rfl, fun j t ht => ?_⟩
  have hall : Tryd.f3.params.toList.all (fun t => !Tryd.prog.wantsStandIn t) = true := by kernel_rfl
  have hm : t ∈ Tryd.f3.params.toList := Array.mem_toList_iff.2 (Array.mem_of_getElem? ht)
  have := List.all_eq_true.1 hall t hm
  exact (show Tryd.prog.wantsStandIn t = false by simpa using this)
end Go.Proofs.YtmlkkgfenfdndaaDoor.lexerTells
namespace Go.Proofs.YtmlkkgfenfdndaaDoor
open Go.RowKit
theorem lexerTells_card_upto : Rows.LexerTellsUptoCardSaid :=
  Claim7.holds_tied_plain_at .later [] _ _ _ _ lexerTells.saidUpto (fun _ h => by cases h) (by kernel_rfl) (fun _ h => by cases h) lexerTellsUpto_row_tie rfl ⟨rfl, rfl⟩ (by kernel_rfl) rfl lexerTells.plain (by kernel_rfl)
end Go.Proofs.YtmlkkgfenfdndaaDoor

