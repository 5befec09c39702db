/-
  DecimalShort: for every input whose bulk is at most 1048576 the law returns true, and each argument reads behind the call as it read before; part 9 of 10 of the proof: an interpreter of the model's code over typed data, proved sound; the functions that the law reaches, printed as Lean functions and tied; the plain law. Own texts laid one behind the other.
-/
import Derived.Test.YtifgegmnngfckaaDoorDecimalShortB8
set_option linter.unusedSimpArgs false
set_option linter.unnecessarySimpa false
set_option linter.unusedVariables false
set_option linter.unusedSectionVars false
/-
  Decimals: Print; DecimalShort. Own work.
-/
set_option linter.unusedVariables false
set_option maxRecDepth 100000
namespace Go.Proofs.YtifgegmnngfckaaDoor
open Go Go.Yard Go.Lib

def zeros (n : Nat) : Str := List.replicate n 48
theorem zeros_len (n : Nat) : (zeros n).length = n := List.length_replicate
theorem repeatL_zeros : ∀ n : Nat, repeatL [48] n = zeros n
  | 0 => rfl
  | n + 1 => by
    have := repeatL_zeros n
    simp [repeatL, zeros, List.replicate_succ] at this ⊢
    try exact this
theorem repS_zeros (z : Int) : repS [48] z = zeros z.toNat := repeatL_zeros _

/-- A number's text without its sign. -/
def body (L : Str) (e : Int) : Str :=
  if 0 ≤ e then L ++ zeros e.toNat
  else
    let t := zeros (max 0 (1 - e - (L.length : Int))).toNat ++ L
    t.take ((t.length : Int) + e).toNat ++ [46] ++ t.drop ((t.length : Int) + e).toNat
def prt (d : Dcm) : Str := (if d.mant < 0 then [45] else []) ++ body (decDigits d.mant.natAbs) d.exp

theorem wsn {R : Type} (x : Str) (hx : x.length ≤ 100000000000) (k : Int → List Int → Option R) : strings_Builder_WriteString_fb8e x k = k (x.length : Int) (zs x) := by
  show chk (decide ((0 + (bytesN x).length) * 1 ≤ 140737488355328)) (k (x.length : Int) (bytesN x)) = _
  rw [zs_bytesN, chk_pos (dtrue (by rw [zs_len]; omega))]

theorem print_ok {R : Type} {d : Dcm} (h : Fm d) (k : Str → Option R) : decimal_Print d k = k (prt d) := by
  have b := h.bounds
  have e : decimal_Print d k = decimal_Print_X decimal_Right strings_Builder_WriteByte_b66c strings_Builder_WriteString_df1e strings_Builder_WriteString_fb8e d k := rfl
  rw [e]
  unfold decimal_Print_X
  rw [right_ok h, Bool.not_true, cond_false]
  have hL : itoaS (max d.mant (IntKind.i64.wrap (0 - d.mant))) = decDigits d.mant.natAbs := by
    rw [wrap_id (n := 0 - d.mant) (by omega) (by omega)]
    have hm : max d.mant (0 - d.mant) = (d.mant.natAbs : Int) := by omega
    rw [hm]
    exact itoa_nonneg _
  have hlen : (decDigits d.mant.natAbs).length ≤ 16 := by rw [decDigits_length]; exact digits16 (by omega)
  simp only [hL, repS_zeros]
  unfold prt
  generalize decDigits d.mant.natAbs = L at *
  have w1 : IntKind.i64.wrap (1 - d.exp) = 1 - d.exp := wrap_id (by omega) (by omega)
  have w2 : IntKind.i64.wrap (1 - d.exp - (L.length : Int)) = 1 - d.exp - (L.length : Int) := wrap_id (by omega) (by omega)
  rw [w1, w2]
  have one : (([48] : Str).length : Int) = 1 := rfl
  rw [one]
  have z0 : 0 ≤ max 0 (1 - d.exp - (L.length : Int)) := by omega
  have zl : max 0 (1 - d.exp - (L.length : Int)) ≤ 10 := by omega
  have zL : 1 - d.exp ≤ max 0 (1 - d.exp - (L.length : Int)) + L.length := by omega
  unfold body
  simp only
  generalize max 0 (1 - d.exp - (L.length : Int)) = z at *
  have tl : (zeros z.toNat ++ L).length = z.toNat + L.length := by rw [List.length_append, zeros_len]
  generalize zeros z.toNat ++ L = t at *
  have lapp : ∀ a b : Str, (a ++ b).length = a.length + b.length := fun a b => List.length_append
  have lone : ([46] : Str).length = 1 := rfl
  have e45 : ([45] : List Int) = zs [45] := rfl
  have q2 : ∀ (x : Int) (f : List Int → Option R), strings_Builder_WriteByte_b66c x f = f [x] := fun _ _ => rfl
  have lim45 : Lim [45] := by unfold Lim; simp
  by_cases he : 0 ≤ d.exp
  · rw [dtrue (show d.exp ≥ 0 from he), if_pos he]
    by_cases hm : d.mant < 0
    · rw [dtrue hm, if_pos hm]
      simp only [cond_true]
      rw [q2, chk_pos (by rw [dtrue (show 1 * d.exp ≤ 140737488355328 by omega)]; rfl), chk_pos (dtrue (by rw [zeros_len]; omega)), e45, ws _ _ (by rw [lapp, zeros_len]; omega) lim45, bstr_zs]
    · rw [dfalse hm, if_neg hm]
      simp only [cond_true, cond_false]
      rw [chk_pos (by rw [dtrue (show 1 * d.exp ≤ 140737488355328 by omega)]; rfl), chk_pos (dtrue (by rw [zeros_len]; omega)), wsn _ (by rw [lapp, zeros_len]; omega), bstr_zs]
      rfl
  · have wt : IntKind.i64.wrap ((t.length : Int) + d.exp) = (t.length : Int) + d.exp := wrap_id (by omega) (by omega)
    rw [dfalse (show ¬ d.exp ≥ 0 from he), if_neg he]
    simp only [wt, List.drop_zero, Nat.sub_zero, Int.toNat_natCast, cond_false]
    have l1 : (t.take ((t.length : Int) + d.exp).toNat).length ≤ t.length := by rw [List.length_take]; omega
    have l2 : (t.drop ((t.length : Int) + d.exp).toNat).length ≤ t.length := by rw [List.length_drop]; omega
    have c1 : (decide ((0 : Int) ≤ (t.length : Int) + d.exp) && decide ((t.length : Int) + d.exp ≤ (t.length : Int))) = true := by rw [dtrue (by omega), dtrue (by omega)]; rfl
    have c2 : (decide ((0 : Int) ≤ (t.length : Int)) && decide ((t.length : Int) ≤ (t.length : Int))) = true := by rw [dtrue (by omega), dtrue (by omega)]; rfl
    have c3 : (decide ((0 : Int) ≤ z) && decide (1 * z ≤ 140737488355328)) = true := by rw [dtrue z0, dtrue (by omega)]; rfl
    have et : (t.drop ((t.length : Int) + d.exp).toNat).take (t.length - ((t.length : Int) + d.exp).toNat) = t.drop ((t.length : Int) + d.exp).toNat := List.take_of_length_le (by rw [List.length_drop]; exact Nat.le_refl _)
    rw [et]
    by_cases hm : d.mant < 0
    · rw [dtrue hm, if_pos hm]
      simp only [cond_true]
      rw [q2, chk_pos c3, chk_pos (dtrue (by rw [zeros_len]; omega)), chk_pos c1, chk_pos (dtrue (by omega)), chk_pos (dtrue (by omega)), chk_pos c2, chk_pos c1, chk_pos (dtrue (by rw [lapp, lone]; omega)), e45, ws _ _ (by rw [lapp, lapp, lone]; omega) lim45, bstr_zs]
    · rw [dfalse hm, if_neg hm]
      simp only [cond_false]
      rw [chk_pos c3, chk_pos (dtrue (by rw [zeros_len]; omega)), chk_pos c1, chk_pos (dtrue (by omega)), chk_pos (dtrue (by omega)), chk_pos c2, chk_pos c1, chk_pos (dtrue (by rw [lapp, lone]; omega)), wsn _ (by rw [lapp, lapp, lone]; omega), bstr_zs]
      rfl
end Go.Proofs.YtifgegmnngfckaaDoor

/-
  Unquote, part 1: what its reader reads. Own work.
-/
set_option linter.unusedVariables false
set_option maxRecDepth 100000
namespace Go.Proofs.YtifgegmnngfckaaDoor
open Go Go.Yard Go.Lib

theorem band2 {p q : Prop} [Decidable p] [Decidable q] (hp : p) (hq : q) : (decide p && decide q) = true := by rw [dtrue hp, dtrue hq]; rfl

/-! ### skip -/
theorem take_pre : ∀ (p s : Str), (s.take p.length == p) = p.isPrefixOf s
  | [], s => by simp
  | a :: p, [] => by simp
  | a :: p, b :: s => by
    have := take_pre p s
    simp only [List.length_cons, List.take_succ_cons, List.isPrefixOf]
    rw [List.cons_beq_cons, this]
    congr 1
    exact Bool.beq_comm

theorem skip_ok {R : Type} (p s : Str) (hp : p.length ≤ 1000) (hs : s.length ≤ 9000000000000000000) (k : Bool → Str → Option R) :
    quote_reader_skip_e74a p s k = if p.isPrefixOf s then k true (s.drop p.length) else k false s := by
  have e1 : ∀ f : Str → Bool → Option R, strings_CutPrefix s p f = internal_stringslite_CutPrefix s p f := fun _ => rfl
  show strings_CutPrefix s p (fun y3 y4 => k y4 y3) = _
  rw [e1]
  show internal_stringslite_CutPrefix_X internal_stringslite_HasPrefix s p (fun y3 y4 => k y4 y3) = _
  unfold internal_stringslite_CutPrefix_X
  have e2 : ∀ f : Bool → Option R, internal_stringslite_HasPrefix s p f = f (p.isPrefixOf s) := by
    intro f
    show internal_stringslite_HasPrefix_X s p f = _
    unfold internal_stringslite_HasPrefix_X
    by_cases h : p.length ≤ s.length
    · rw [dtrue (show (s.length : Int) ≥ (p.length : Int) by omega), cond_true, chk_pos (by rw [dtrue (show (0 : Int) ≤ (p.length : Int) by omega)]; rfl), chk_pos (dtrue (by omega))]
      rw [List.drop_zero, Int.toNat_natCast, Nat.sub_zero, take_pre]
    · rw [dfalse (show ¬ (s.length : Int) ≥ (p.length : Int) by omega), cond_false]
      congr 1
      rw [← take_pre]
      symm
      rw [beq_eq_false_iff_ne]
      intro e
      have := congrArg List.length e
      rw [List.length_take] at this
      omega
  rw [e2]
  cases hp2 : p.isPrefixOf s with
  | false => simp
  | true =>
    have hle : p.length ≤ s.length := (List.IsPrefix.length_le (List.isPrefixOf_iff_prefix.1 hp2))
    rw [Bool.not_true, cond_false, chk_pos (band2 (by omega) (by omega)), chk_pos (band2 (by omega) (by omega))]
    simp only [Int.toNat_natCast, if_true]
    rw [List.take_of_length_le (by rw [List.length_drop]; exact Nat.le_refl _)]

/-! ### a plain character -/
theorem decRune_eq {s : Str} (h : s ≠ []) : decRune s = decodeL s := by
  unfold decRune
  have : s.isEmpty = false := by cases s with | nil => exact (h rfl).elim | cons _ _ => rfl
  rw [this]
  rfl

def plainP (s : Str) : Option (Nat × Str) :=
  if s = [] then none else if (decodeL s).1 = 65533 ∧ (decodeL s).2 = 1 then none else if (decodeL s).1 < 32 then none else some ((decodeL s).1, s.drop (decodeL s).2)

theorem plain_ok {R : Type} (s : Str) (hs : s.length ≤ 9000000000000000000) (k : Int → Str → Option R) :
    quote_reader_plain_abbd s k = match plainP s with | some (c, r) => k (c : Int) r | none => k (-1) s := by
  show quote_reader_plain_abbd_X s k = _
  unfold quote_reader_plain_abbd_X
  by_cases h0 : s = []
  · subst h0; rfl
  rw [decRune_eq h0]
  have hw := decodeL_width s
  have hle := decodeL_le s h0
  have hj : (chk (decide ((0 : Int) ≤ (s.length : Int)) && decide ((s.length : Int) ≤ s.length)) (chk (decide ((0 : Int) ≤ ((decodeL s).2 : Int)) && decide (((decodeL s).2 : Int) ≤ (s.length : Int))) (k ((decodeL s).1 : Int) ((s.drop ((decodeL s).2 : Int).toNat).take ((s.length : Int).toNat - ((decodeL s).2 : Int).toNat))))) = k ((decodeL s).1 : Int) (s.drop (decodeL s).2) := by
    rw [chk_pos (band2 (by omega) (by omega)), chk_pos (band2 (by omega) (by omega)), Int.toNat_natCast, Int.toNat_natCast, List.take_of_length_le (by rw [List.length_drop]; exact Nat.le_refl _)]
  simp only [hj]
  unfold plainP
  rw [if_neg h0]
  by_cases h1 : (decodeL s).1 = 65533
  · have e1 : (((decodeL s).1 : Int) == 65533) = true := by rw [h1]; rfl
    rw [e1, cond_true]
    by_cases h2 : (decodeL s).2 = 1
    · rw [dtrue (show ((decodeL s).2 : Int) < 2 by omega), cond_true, if_pos ⟨h1, h2⟩]
    · rw [dfalse (show ¬ ((decodeL s).2 : Int) < 2 by omega), cond_false, dfalse (show ¬ ((decodeL s).1 : Int) < 32 by omega), cond_false, if_neg (fun h => h2 h.2), if_neg (by omega)]
  · have e1 : (((decodeL s).1 : Int) == 65533) = false := by rw [beq_eq_false_iff_ne]; omega
    rw [e1, cond_false, if_neg (fun h => h1 h.1)]
    by_cases h3 : (decodeL s).1 < 32
    · rw [dtrue (show ((decodeL s).1 : Int) < 32 by omega), cond_true, if_pos h3]
    · rw [dfalse (show ¬ ((decodeL s).1 : Int) < 32 by omega), cond_false, if_neg h3]

/-! ### four digits -/
def hexv (b : UInt8) : Option Nat :=
  let n := b.toNat
  if 48 ≤ n ∧ n ≤ 57 then some (n - 48) else if 65 ≤ n ∧ n ≤ 70 then some (n - 55) else if 97 ≤ n ∧ n ≤ 102 then some (n - 87) else none
def hexN : Str → Nat → Option Nat
  | [], v => some v
  | b :: t, v => match hexv b with | some d => hexN t (16 * v + d) | none => none

def lowI (b : Int) : Int := IntKind.u8.wrap ((BitVec.ofInt IntKind.u8.bits b ||| BitVec.ofInt IntKind.u8.bits 32).toNat : Int)

def hexB (b : Nat) : Bool :=
  (!(decide (48 ≤ b) && decide (b ≤ 57)) || decide (IntKind.u8.wrap ((b : Int) - 48) = ((b - 48 : Nat) : Int))) &&
  (!(decide ((97 : Int) ≤ lowI b) && decide (lowI b ≤ 122)) || (!(decide (48 ≤ b) && decide (b ≤ 57)) && decide (b ≠ 95) && decide (IntKind.u8.wrap ((IntKind.u8.wrap (lowI b - 97)) + 10) = lowI b - 87) &&
    (!decide (lowI b - 87 < 16) || ((decide (65 ≤ b) && decide (b ≤ 70) && decide (lowI b - 87 = ((b - 55 : Nat) : Int))) || (decide (97 ≤ b) && decide (b ≤ 102) && decide (lowI b - 87 = ((b - 87 : Nat) : Int))))) &&
    (!decide (16 ≤ lowI b - 87) || (!(decide (65 ≤ b) && decide (b ≤ 70)) && !(decide (97 ≤ b) && decide (b ≤ 102)))))) &&
  ((decide ((97 : Int) ≤ lowI b) && decide (lowI b ≤ 122)) || (!(decide (65 ≤ b) && decide (b ≤ 70)) && !(decide (97 ≤ b) && decide (b ≤ 102))))
theorem hexB_all : ∀ b : Fin 256, hexB b.val = true := by decide +kernel
theorem hex_fact (b : Nat) (hb : b < 256) :
    ((48 ≤ b ∧ b ≤ 57) → IntKind.u8.wrap ((b : Int) - 48) = ((b - 48 : Nat) : Int)) ∧
    ((97 : Int) ≤ lowI b → lowI b ≤ 122 → ¬ (48 ≤ b ∧ b ≤ 57) ∧ b ≠ 95 ∧ IntKind.u8.wrap ((IntKind.u8.wrap (lowI b - 97)) + 10) = lowI b - 87 ∧
      (lowI b - 87 < 16 → ((65 ≤ b ∧ b ≤ 70) ∧ lowI b - 87 = ((b - 55 : Nat) : Int)) ∨ ((97 ≤ b ∧ b ≤ 102) ∧ lowI b - 87 = ((b - 87 : Nat) : Int))) ∧
      (16 ≤ lowI b - 87 → ¬ (65 ≤ b ∧ b ≤ 70) ∧ ¬ (97 ≤ b ∧ b ≤ 102))) ∧
    (¬ ((97 : Int) ≤ lowI b ∧ lowI b ≤ 122) → ¬ (65 ≤ b ∧ b ≤ 70) ∧ ¬ (97 ≤ b ∧ b ≤ 102)) := by
  have h := hexB_all ⟨b, hb⟩
  unfold hexB at h
  generalize lowI (b : Int) = l at *
  simp only [Bool.and_eq_true, Bool.or_eq_true, Bool.not_eq_true', Bool.and_eq_false_iff, decide_eq_true_eq, decide_eq_false_iff_not] at h
  obtain ⟨⟨h1, h2⟩, h3⟩ := h
  refine ⟨fun q => ?_, fun q1 q2 => ?_, fun q => ?_⟩
  · rcases h1 with h1 | h1
    · omega
    · exact h1
  · rcases h2 with h2 | ⟨⟨⟨⟨g1, g2⟩, g3⟩, g4⟩, g5⟩
    · omega
    · refine ⟨by omega, g2, g3, fun q => ?_, fun q => ?_⟩
      · rcases g4 with g4 | g4
        · omega
        · rcases g4 with ⟨⟨k1, k2⟩, k3⟩ | ⟨⟨k1, k2⟩, k3⟩
          · exact .inl ⟨⟨k1, k2⟩, k3⟩
          · exact .inr ⟨⟨k1, k2⟩, k3⟩
      · rcases g5 with g5 | ⟨k1, k2⟩
        · omega
        · exact ⟨by omega, by omega⟩
  · rcases h3 with h3 | ⟨k1, k2⟩
    · omega
    · exact ⟨by omega, by omega⟩

theorem hexv_lt {b : UInt8} {d : Nat} (h : hexv b = some d) : d < 16 := by
  unfold hexv at h
  simp only at h
  split at h
  · cases h; omega
  · split at h
    · cases h; omega
    · split at h
      · cases h; omega
      · cases h

theorem u64w {n : Int} (h0 : 0 ≤ n) (h : n ≤ 18446744073709551615) : IntKind.u64.wrap n = n := by
  simp only [IntKind.wrap, IntKind.bits, IntKind.signed]
  simp
  omega

/-- A ROUND of ParseUint's loop. -/
theorem uint_round {R : Type} {s x22 : Str} {i v : Nat} (hi : i < s.length) (hs : s.length ≤ 1000) (hv : v < 4096) (rec' : Int → Bool → Str → Int → Int → Bool → Int → Nat → Int → Int → (List Int) → Option R) (e0 : Str → Bool → Int → Option R) (e1 e2 : Int → Str → Bool → Int → Option R) (e3 : Int → Str → Bool → Option R) :
    internal_strconv_ParseUint_36_0_B internal_strconv_lower rec' 16 false x22 1152921504606846976 65535 false (v : Int) s.length (s.length : Int) (i : Int) (bytesN s) e0 e1 e2 e3 =
      match hexv (s[i]) with
      | some d => rec' 16 false x22 1152921504606846976 65535 false ((16 * v + d : Nat) : Int) s.length (s.length : Int) ((i + 1 : Nat) : Int) (bytesN s)
      | none => e1 0 x22 false (v : Int) := by
  unfold internal_strconv_ParseUint_36_0_B
  have hlow : ∀ (n : Int) (f : Int → Option R), internal_strconv_lower n f = f (lowI n) := fun _ _ => rfl
  have hget : (bytesN s).getD (i : Int).toNat (Ty.dflt (.int .u8)) = (s[i].toNat : Int) := by
    rw [Int.toNat_natCast]
    show (s.map fun b => (b.toNat : Int)).getD i _ = _
    simp [List.getD, hi]
    rfl
  rw [dtrue (show (i : Int) < (s.length : Int) by omega), cond_true, chk_pos (by rw [dtrue (show (0 : Int) ≤ (i : Int) by omega)]; rfl),
    chk_pos (dtrue (by rw [Int.toNat_natCast, zs_bytesN, zs_len]; exact hi))]
  simp only [hget, hlow]
  obtain ⟨f1, f2, f3⟩ := hex_fact s[i].toNat (UInt8.toNat_lt _)
  have hb := UInt8.toNat_lt s[i]
  generalize hbn : s[i].toNat = b at *
  have hw16 : IntKind.u8.wrap 16 = 16 := by decide
  have hw64 : IntKind.u64.wrap 16 = 16 := by decide
  have hi1 : IntKind.i64.wrap ((i : Int) + 1) = ((i + 1 : Nat) : Int) := by rw [wrap_id (by omega) (by omega)]; omega
  -- a digit's value, if it is below 16
  have fit : ∀ d : Nat, d < 16 → ∀ z : Int, z = (d : Int) → (bif (decide (z ≥ (IntKind.u8.wrap 16))) then (e1 0 x22 false (v : Int)) else (bif (decide ((v : Int) ≥ 1152921504606846976)) then (e2 65535 x22 false (v : Int)) else (bif (decide ((IntKind.u64.wrap ((IntKind.u64.wrap ((v : Int) * (IntKind.u64.wrap 16))) + (IntKind.u64.wrap z))) < (IntKind.u64.wrap ((v : Int) * (IntKind.u64.wrap 16))))) then (e2 65535 x22 false (IntKind.u64.wrap ((v : Int) * (IntKind.u64.wrap 16)))) else (bif (decide ((IntKind.u64.wrap ((IntKind.u64.wrap ((v : Int) * (IntKind.u64.wrap 16))) + (IntKind.u64.wrap z))) > 65535)) then (e2 65535 x22 false (IntKind.u64.wrap ((v : Int) * (IntKind.u64.wrap 16)))) else (rec' 16 false x22 1152921504606846976 65535 false (IntKind.u64.wrap ((IntKind.u64.wrap ((v : Int) * (IntKind.u64.wrap 16))) + (IntKind.u64.wrap z))) s.length (s.length : Int) (IntKind.i64.wrap ((i : Int) + 1)) (bytesN s)))))) =
      rec' 16 false x22 1152921504606846976 65535 false ((16 * v + d : Nat) : Int) s.length (s.length : Int) ((i + 1 : Nat) : Int) (bytesN s) := by
    intro d hd z hz
    subst hz
    have k1 : IntKind.u64.wrap ((v : Int) * 16) = (v : Int) * 16 := u64w (by omega) (by omega)
    have k2 : IntKind.u64.wrap (d : Int) = d := u64w (by omega) (by omega)
    have k3 : IntKind.u64.wrap ((v : Int) * 16 + (d : Int)) = (v : Int) * 16 + (d : Int) := u64w (by omega) (by omega)
    rw [hw16, hw64, k1, k2, k3, hi1, dfalse (show ¬ (d : Int) ≥ 16 by omega), cond_false, dfalse (show ¬ (v : Int) ≥ 1152921504606846976 by omega), cond_false, dfalse (show ¬ (v : Int) * 16 + (d : Int) < (v : Int) * 16 by omega), cond_false,
      dfalse (show ¬ (v : Int) * 16 + (d : Int) > 65535 by omega), cond_false]
    have : (v : Int) * 16 + (d : Int) = ((16 * v + d : Nat) : Int) := by omega
    rw [this]
  rw [cond_false, Bool.cond_self]
  unfold hexv
  simp only [hbn]
  by_cases h1 : 48 ≤ b ∧ b ≤ 57
  · rw [dtrue (show (48 : Int) ≤ (b : Int) by omega), cond_true, dtrue (show (b : Int) ≤ 57 by omega), cond_true, if_pos h1]
    exact fit (b - 48) (by omega) _ (f1 h1)
  · rw [if_neg h1]
    have h48 : ∀ x z : Option R, (bif (decide ((48 : Int) ≤ (b : Int))) then (bif (decide ((b : Int) ≤ (57 : Int))) then x else z) else z) = z := by
      intro x z
      by_cases h : (48 : Int) ≤ (b : Int)
      · rw [dtrue h, cond_true, dfalse (show ¬ (b : Int) ≤ 57 by omega), cond_false]
      · rw [dfalse h, cond_false]
    simp only [cond_false]
    rw [h48]
    by_cases h2 : (97 : Int) ≤ lowI b
    · rw [dtrue h2, cond_true]
      by_cases h3 : lowI b ≤ 122
      · rw [dtrue h3, cond_true]
        obtain ⟨_, _, g1, g2, g3⟩ := f2 h2 h3
        rw [g1]
        by_cases h4 : lowI b - 87 < 16
        · rcases g2 h4 with ⟨q1, q2⟩ | ⟨q1, q2⟩
          · rw [if_pos q1]
            exact fit (b - 55) (by omega) _ q2
          · rw [if_neg (by omega), if_pos q1]
            exact fit (b - 87) (by omega) _ q2
        · obtain ⟨q1, q2⟩ := g3 (by omega)
          rw [hw16, dtrue (show lowI b - 87 ≥ 16 by omega), cond_true, if_neg q1, if_neg q2]
      · rw [dfalse h3, cond_false]
        obtain ⟨q1, q2⟩ := f3 (by omega)
        rw [if_neg q1, if_neg q2]
    · rw [dfalse h2, cond_false]
      obtain ⟨q1, q2⟩ := f3 (by omega)
      rw [if_neg q1, if_neg q2]

theorem hexN_step (s : Str) (i v : Nat) (hi : i < s.length) : hexN (s.drop i) v = match hexv s[i] with | some d => hexN (s.drop (i + 1)) (16 * v + d) | none => none := by
  rw [List.drop_eq_getElem_cons hi]
  rfl

theorem uint_loop {R : Type} {s x22 : Str} (hs : s.length ≤ 4) (e0 : Str → Bool → Int → Option R) (e1 e2 : Int → Str → Bool → Int → Option R) (e3 : Int → Str → Bool → Option R) : ∀ (n i v : Nat), s.length - i < n → i ≤ s.length → v < 16 ^ i →
    (match hexN (s.drop i) v with
     | some u => internal_strconv_ParseUint_36_0_L n 16 false x22 1152921504606846976 65535 false (v : Int) s.length (s.length : Int) (i : Int) (bytesN s) e0 e1 e2 e3 = e0 x22 false (u : Int)
     | none => ∃ w, internal_strconv_ParseUint_36_0_L n 16 false x22 1152921504606846976 65535 false (v : Int) s.length (s.length : Int) (i : Int) (bytesN s) e0 e1 e2 e3 = e1 0 x22 false w) := by
  intro n
  induction n with
  | zero => intro i v h; omega
  | succ n ih =>
    intro i v h hi hv
    by_cases hlt : i < s.length
    · have hv2 : v < 4096 := by
        have : 16 ^ i ≤ 16 ^ 3 := Nat.pow_le_pow_right (by omega) (by omega)
        have e : (16 : Nat) ^ 3 = 4096 := rfl
        omega
      have hr := uint_round (R := R) (x22 := x22) hlt (by omega) hv2 (fun x0' x1' x2' x3' x4' x5' x6' x7' x8' x9' x10' => internal_strconv_ParseUint_36_0_L n x0' x1' x2' x3' x4' x5' x6' x7' x8' x9' x10' e0 e1 e2 e3) e0 e1 e2 e3
      have hL : internal_strconv_ParseUint_36_0_L (n + 1) 16 false x22 1152921504606846976 65535 false (v : Int) s.length (s.length : Int) (i : Int) (bytesN s) e0 e1 e2 e3 =
        internal_strconv_ParseUint_36_0_B internal_strconv_lower (fun x0' x1' x2' x3' x4' x5' x6' x7' x8' x9' x10' => internal_strconv_ParseUint_36_0_L n x0' x1' x2' x3' x4' x5' x6' x7' x8' x9' x10' e0 e1 e2 e3) 16 false x22 1152921504606846976 65535 false (v : Int) s.length (s.length : Int) (i : Int) (bytesN s) e0 e1 e2 e3 := rfl
      rw [hL, hr, hexN_step s i v hlt]
      cases hx : hexv s[i] with
      | none => exact ⟨_, rfl⟩
      | some d =>
        have hd := hexv_lt hx
        have : (16 : Nat) ^ (i + 1) = 16 ^ i * 16 := Nat.pow_succ ..
        exact ih (i + 1) (16 * v + d) (by omega) (by omega) (by omega)
    · have e : s.drop i = [] := List.drop_eq_nil_of_le (by omega)
      rw [e]
      simp only [hexN]
      show internal_strconv_ParseUint_36_0_B internal_strconv_lower _ 16 false x22 1152921504606846976 65535 false (v : Int) s.length (s.length : Int) (i : Int) (bytesN s) e0 e1 e2 e3 = _
      unfold internal_strconv_ParseUint_36_0_B
      rw [dfalse (show ¬ (i : Int) < (s.length : Int) by omega), cond_false]

end Go.Proofs.YtifgegmnngfckaaDoor

/-
  Unquote, part 2: four digits. Own work.
-/
set_option linter.unusedVariables false
set_option maxRecDepth 100000
namespace Go.Proofs.YtifgegmnngfckaaDoor
open Go Go.Yard Go.Lib

theorem parse4 {R : Type} {s : Str} (hs : s.length = 4) (k0 k1 : Int → Option R) : strconv_ParseUint s 16 16 k0 k1 = match hexN s 0 with | some u => k1 (u : Int) | none => k0 0 := by
  show strconv_ParseUint_X internal_strconv_ParseUint s 16 16 k0 k1 = _
  unfold strconv_ParseUint_X
  show internal_strconv_ParseUint_X internal_strconv_lower internal_strconv_underscoreOK internal_strconv_ParseUint_36_0_L s 16 16 _ _ _ _ _ = _
  unfold internal_strconv_ParseUint_X
  have h1 : (s == ([] : Str)) = false := by rw [beq_eq_false_iff_ne]; rintro rfl; simp at hs
  rw [h1, cond_false]
  have c1 : decide ((2 : Int) ≤ 16) = true := by decide
  have c2 : decide ((16 : Int) ≤ 36) = true := by decide
  have c3 : ((16 : Int) == 0) = false := by decide
  have c4 : decide ((16 : Int) < 0) = false := by decide
  have c5 : decide ((16 : Int) > 64) = false := by decide
  have c6 : ((16 : Int) == 10) = false := by decide
  have c7 : ((16 : Int) == 16) = true := by decide
  have c8 : decide ((0 : Int) ≤ IntKind.u64.wrap 16) = true := by decide
  have c9 : (IntKind.u64.wrap ((IntKind.u64.wrap (1 * 2 ^ (min ((IntKind.u64.wrap 16).toNat) IntKind.u64.bits))) - 1)) = 65535 := by decide +kernel
  dsimp only
  rw [c1, cond_true, c2, cond_true, c3, cond_false, c4, cond_false, c5, cond_false, c6, cond_false, c7, cond_true]
  rw [c8, chk_pos rfl, c9]
  have hb : decide (s.length ≤ 281474976710656) = true := dtrue (by omega)
  have key := fun (n : Nat) (hn : 4 < n) (e0 : Str → Bool → Int → Option R) (e1 e2 : Int → Str → Bool → Int → Option R) (e3 : Int → Str → Bool → Option R) => uint_loop (R := R) (s := s) (x22 := s) (by omega) e0 e1 e2 e3 n 0 0 (by omega) (by omega) (by omega)
  have z0 : (((0 : Nat) : Int)) = 0 := rfl
  simp only [List.drop_zero, z0] at key
  cases hx : hexN s 0 with
  | some u =>
    simp only [hx] at key
    rw [key _ (by omega)]
    rfl
  | none =>
    simp only [hx] at key
    generalize hF : (Int.natAbs 16 + List.length s + Int.natAbs 1152921504606846976 + Int.natAbs 65535 + Int.natAbs 0 + Int.natAbs (s.length : Int) + Int.natAbs 0 + List.length (bytesN s) + 64) = F at *
    obtain ⟨w, hw⟩ := key F (by rw [← hF]; omega) _ _ _ _
    rw [hw, chk_pos (by rfl), hb, chk_pos rfl]
end Go.Proofs.YtifgegmnngfckaaDoor

/-
  Unquote, part 3: units, escapes, and the whole. Own work.
-/
set_option linter.unusedVariables false
set_option maxRecDepth 100000
namespace Go.Proofs.YtifgegmnngfckaaDoor
open Go Go.Yard Go.Lib

theorem hexN_bound : ∀ (l : Str) (v u : Nat), hexN l v = some u → u < (v + 1) * 16 ^ l.length
  | [], v, u, h => by cases h; simp
  | b :: t, v, u, h => by
    simp only [hexN] at h
    cases hx : hexv b with
    | none => rw [hx] at h; cases h
    | some d =>
      rw [hx] at h
      have h1 := hexN_bound t _ _ h
      have hd := hexv_lt hx
      have h2 : (16 * v + d + 1) * 16 ^ t.length ≤ ((v + 1) * 16) * 16 ^ t.length := Nat.mul_le_mul_right _ (by omega)
      rw [List.length_cons, Nat.pow_succ]
      have h3 : (v + 1) * 16 * 16 ^ t.length = (v + 1) * (16 ^ t.length * 16) := by rw [Nat.mul_assoc, Nat.mul_comm 16]
      omega
theorem hexN_all : ∀ (l : Str) (v u : Nat), hexN l v = some u → ∀ b ∈ l, (hexv b).isSome = true
  | [], v, u, h => by simp
  | b :: t, v, u, h => by
    simp only [hexN] at h
    cases hx : hexv b with
    | none => rw [hx] at h; cases h
    | some d =>
      rw [hx] at h
      intro c hc
      rcases List.mem_cons.1 hc with rfl | hc
      · rw [hx]; rfl
      · exact hexN_all t _ _ h c hc
theorem hexv_asc {b : UInt8} (h : (hexv b).isSome = true) : b.toNat < 128 ∧ b.toNat ≠ 43 ∧ b.toNat ≠ 45 ∧ b.toNat ≠ 95 := by
  unfold hexv at h
  simp only at h
  revert h
  (repeat' split) <;> intro h <;> first | omega | cases h

theorem hasAny_none (cs : Str) : ∀ s : Str, (∀ b ∈ s, cs.contains b = false) → hasAny s cs = false := by
  have key : ∀ s : Str, (∀ b ∈ s, cs.contains b = false) → indexAny s cs = -1 := by
    intro s
    induction s with
    | nil => intro _; rfl
    | cons b s ih =>
      intro h
      unfold indexAny
      rw [h b (by simp)]
      have := ih fun x hx => h x (by simp [hx])
      simp [this]
  intro s h
  unfold hasAny containsAny
  rw [key s h]
  rfl

def unitP (s : Str) : Option (Nat × Str) := if s.length < 4 then none else match hexN (s.take 4) 0 with | some v => some (v, s.drop 4) | none => none
theorem unitP_lt {s r : Str} {v : Nat} (h : unitP s = some (v, r)) : v < 65536 ∧ 4 ≤ s.length ∧ r = s.drop 4 := by
  unfold unitP at h
  split at h
  · cases h
  · rename_i hl
    split at h
    · rename_i u hu
      cases h
      have := hexN_bound _ _ _ hu
      rw [List.length_take, Nat.min_eq_left (by omega)] at this
      exact ⟨by omega, by omega, rfl⟩
    · cases h

theorem wrap32s {n : Nat} (h : n < 1114112) : IntKind.i32.wrap (n : Int) = (n : Int) := wrap32_id (by omega) (by omega)

theorem unit_ok {R : Type} (s : Str) (hs : s.length ≤ 9000000000000000000) (k : Int → Str → Option R) :
    quote_reader_unit_abbd s k = match unitP s with | some (v, r) => k (v : Int) r | none => k (-1) s := by
  show quote_reader_unit_abbd_X strconv_ParseUint s k = _
  unfold quote_reader_unit_abbd_X
  by_cases hl : s.length < 4
  · rw [dtrue (show (s.length : Int) < 4 by omega), cond_true]
    unfold unitP
    rw [if_pos hl]
  · rw [dfalse (show ¬ (s.length : Int) < 4 by omega), cond_false, chk_pos (dtrue (by omega))]
    have h4 : (s.drop 0).take (4 - 0) = s.take 4 := rfl
    rw [h4, parse4 (by rw [List.length_take]; omega)]
    unfold unitP
    rw [if_neg hl]
    cases hu : hexN (s.take 4) 0 with
    | none => rfl
    | some v =>
      have hall := hexN_all _ _ _ hu
      have hasc : isAsc (s.take 4) = true := List.all_eq_true.2 fun b hb => dtrue (hexv_asc (hall b hb)).1
      have hno : hasAny (s.take 4) [43, 45, 95] = false := hasAny_none _ _ fun b hb => by
        obtain ⟨_, g1, g2, g3⟩ := hexv_asc (hall b hb)
        have e : ∀ x : UInt8, b.toNat ≠ x.toNat → (b == x) = false := fun x hx => by
          rw [beq_eq_false_iff_ne]; rintro rfl; exact hx rfl
        simp only [List.contains_cons, List.contains_nil, e 43 g1, e 45 g2, e 95 g3]
        rfl
      have hv := (unitP_lt (s := s) (r := s.drop 4) (v := v) (by unfold unitP; rw [if_neg hl, hu])).1
      have hb2 : isAsc ([43, 45, 95] : Str) = true := by decide
      simp only
      rw [chk_pos (by rw [hasc, hb2, dtrue (show (s.take 4).length < 4294967281 by rw [List.length_take]; omega)]; rfl), hno, cond_false, chk_pos (by rw [dtrue (show (0 : Int) ≤ (s.length : Int) by omega), dtrue (show (s.length : Int) ≤ s.length by omega)]; rfl), chk_pos (dtrue (by omega))]
      rw [wrap32s (by omega), Int.toNat_natCast, List.take_of_length_le (by rw [List.length_drop]; exact Nat.le_refl _)]

def longP (s : Str) : Option (Nat × Str) :=
  match unitP s with
  | none => none
  | some (v, r) =>
    if v < 55296 ∨ 57344 ≤ v then some (v, r) else if 56320 ≤ v then none
    else if ([92, 117] : Str).isPrefixOf r then
      match unitP (r.drop 2) with
      | none => none
      | some (w, r2) => if 56320 ≤ w ∧ w < 57344 then some (65536 + (v - 55296) * 1024 + (w - 56320), r2) else none
    else none

theorem shl10 (n : Nat) (h : n < 1024) : IntKind.i32.wrap ((n : Int) * 2 ^ (min 10 IntKind.i32.bits)) = ((n * 1024 : Nat) : Int) := by
  have e : (n : Int) * 2 ^ (min 10 IntKind.i32.bits) = ((n * 1024 : Nat) : Int) := by
    show (n : Int) * 2 ^ 10 = _
    omega
  rw [e, wrap32s (by omega)]

theorem long_ok {R : Type} (s : Str) (hs : s.length ≤ 9000000000000000000) (k : Int → Str → Option R) :
    match longP s with | some (c, r) => quote_reader_long_abbd s k = k (c : Int) r | none => ∃ r, quote_reader_long_abbd s k = k (-1) r := by
  have e0 : quote_reader_long_abbd s k = quote_reader_long_abbd_X quote_reader_skip_e74a quote_reader_unit_abbd s k := rfl
  rw [e0]
  unfold quote_reader_long_abbd_X
  rw [unit_ok s hs]
  unfold longP
  cases hu : unitP s with
  | none =>
    simp only
    exact ⟨s, by rw [dtrue (show (-1 : Int) < 55296 by omega), cond_true]⟩
  | some p =>
    obtain ⟨v, r⟩ := p
    obtain ⟨hv, hl, hr⟩ := unitP_lt hu
    have hrl : r.length ≤ 9000000000000000000 := by rw [hr, List.length_drop]; omega
    simp only
    by_cases h1 : v < 55296
    · rw [if_pos (.inl h1), dtrue (show (v : Int) < 55296 by omega)]
      simp only [cond_true]
    rw [dfalse (show ¬ (v : Int) < 55296 by omega), cond_false]
    by_cases h2 : 57344 ≤ v
    · rw [if_pos (.inr h2), dtrue (show (v : Int) ≥ 57344 by omega)]
      simp only [cond_true]
    rw [if_neg (by omega), dfalse (show ¬ (v : Int) ≥ 57344 by omega), cond_false]
    by_cases h3 : 56320 ≤ v
    · rw [if_pos h3]
      exact ⟨r, by rw [dtrue (show (v : Int) ≥ 56320 by omega), cond_true]⟩
    rw [if_neg h3, dfalse (show ¬ (v : Int) ≥ 56320 by omega), cond_false, skip_ok _ _ (by simp) hrl]
    cases hp : ([92, 117] : Str).isPrefixOf r with
    | false =>
      simp only [Bool.false_eq_true, if_false]
      exact ⟨r, rfl⟩
    | true =>
      simp only [if_true]
      have hrl2 : (r.drop 2).length ≤ 9000000000000000000 := by rw [List.length_drop]; omega
      have e2 : r.drop ([92, 117] : Str).length = r.drop 2 := rfl
      rw [Bool.not_true, cond_false, e2, unit_ok _ hrl2]
      cases hu2 : unitP (r.drop 2) with
      | none =>
        simp only
        exact ⟨r.drop 2, by rw [dtrue (show (-1 : Int) < 56320 by omega), cond_true]⟩
      | some q =>
        obtain ⟨w, r2⟩ := q
        obtain ⟨hw, hl2, hr2⟩ := unitP_lt hu2
        simp only
        by_cases h4 : 56320 ≤ w ∧ w < 57344
        · rw [if_pos h4]
          simp only
          rw [dfalse (show ¬ (w : Int) < 56320 by omega), cond_false, dfalse (show ¬ (w : Int) ≥ 57344 by omega), cond_false]
          have k1 : IntKind.i32.wrap ((v : Int) - 55296) = ((v - 55296 : Nat) : Int) := by
            have : (v : Int) - 55296 = ((v - 55296 : Nat) : Int) := by omega
            rw [this, wrap32s (by omega)]
          rw [k1, shl10 _ (by omega)]
          have k2 : IntKind.i32.wrap (65536 + (((v - 55296) * 1024 : Nat) : Int)) = ((65536 + (v - 55296) * 1024 : Nat) : Int) := by
            have : 65536 + (((v - 55296) * 1024 : Nat) : Int) = ((65536 + (v - 55296) * 1024 : Nat) : Int) := by omega
            rw [this, wrap32s (by omega)]
          have k3 : IntKind.i32.wrap (((65536 + (v - 55296) * 1024 : Nat) : Int) + (w : Int)) = ((65536 + (v - 55296) * 1024 + w : Nat) : Int) := by
            have : ((65536 + (v - 55296) * 1024 : Nat) : Int) + (w : Int) = ((65536 + (v - 55296) * 1024 + w : Nat) : Int) := by omega
            rw [this]
            simp only [IntKind.wrap, IntKind.bits, IntKind.signed]
            simp
            omega
          have k4 : IntKind.i32.wrap (((65536 + (v - 55296) * 1024 + w : Nat) : Int) - 56320) = ((65536 + (v - 55296) * 1024 + (w - 56320) : Nat) : Int) := by
            have : ((65536 + (v - 55296) * 1024 + w : Nat) : Int) - 56320 = ((65536 + (v - 55296) * 1024 + (w - 56320) : Nat) : Int) := by omega
            rw [this, wrap32s (by omega)]
          rw [k2, k3, k4]
        · rw [if_neg h4]
          refine ⟨r2, ?_⟩
          by_cases h5 : w < 56320
          · rw [dtrue (show (w : Int) < 56320 by omega), cond_true]
          · rw [dfalse (show ¬ (w : Int) < 56320 by omega), cond_false, dtrue (show (w : Int) ≥ 57344 by omega), cond_true]

def escP : Str → Option (Nat × Str)
  | [] => none
  | b :: t =>
    if b.toNat = 34 ∨ b.toNat = 92 ∨ b.toNat = 47 then some (b.toNat, t) else if b.toNat = 98 then some (8, t) else if b.toNat = 102 then some (12, t) else if b.toNat = 110 then some (10, t)
    else if b.toNat = 114 then some (13, t) else if b.toNat = 116 then some (9, t) else if b.toNat = 117 then longP t else none

theorem esc_ok {R : Type} (s : Str) (hs : s.length ≤ 9000000000000000000) (k : Int → Str → Option R) :
    match escP s with | some (c, r) => quote_reader_escaped_abbd s k = k (c : Int) r | none => ∃ r, quote_reader_escaped_abbd s k = k (-1) r := by
  have e0 : quote_reader_escaped_abbd s k = quote_reader_escaped_abbd_X quote_reader_long_abbd s k := rfl
  rw [e0]
  unfold quote_reader_escaped_abbd_X
  cases s with
  | nil => exact ⟨[], rfl⟩
  | cons b t =>
    have hne : ((b :: t : Str) == ([] : Str)) = false := rfl
    simp only [List.length_cons] at hs
    have ht : (((b :: t : Str).drop 1).take (((b :: t : Str).length : Int).toNat - 1)) = t := by
      rw [Int.toNat_natCast, List.drop_succ_cons, List.drop_zero, List.length_cons, Nat.add_sub_cancel, List.take_length]
    have hg : ((b :: t : Str).getD 0 0).toNat = b.toNat := rfl
    rw [hne, cond_false, chk_pos (dtrue (show (0 : Int) < ((b :: t : Str).length : Int) by simp only [List.length_cons]; omega)),
      chk_pos (by rw [dtrue (show (0 : Int) ≤ ((b :: t : Str).length : Int) by omega), dtrue (show ((b :: t : Str).length : Int) ≤ (b :: t : Str).length by omega)]; rfl),
      chk_pos (dtrue (show (1 : Int) ≤ ((b :: t : Str).length : Int) by simp only [List.length_cons]; omega))]
    simp only [ht, hg]
    have hb := UInt8.toNat_lt b
    simp only [escP]
    generalize b.toNat = n at *
    have q : ∀ m : Nat, ((n : Int) == (m : Int)) = decide (n = m) := fun m => by
      by_cases h : n = m
      · subst h; simp
      · have : ¬ ((n : Int) = (m : Int)) := by omega
        simp [h, this]
    have q34 : ((n : Int) == 34) = decide (n = 34) := q 34
    have q92 : ((n : Int) == 92) = decide (n = 92) := q 92
    have q47 : ((n : Int) == 47) = decide (n = 47) := q 47
    have q98 : ((n : Int) == 98) = decide (n = 98) := q 98
    have q102 : ((n : Int) == 102) = decide (n = 102) := q 102
    have q110 : ((n : Int) == 110) = decide (n = 110) := q 110
    have q114 : ((n : Int) == 114) = decide (n = 114) := q 114
    have q116 : ((n : Int) == 116) = decide (n = 116) := q 116
    have q117 : ((n : Int) == 117) = decide (n = 117) := q 117
    simp only [q34, q92, q47, q98, q102, q110, q114, q116, q117, wrap32s (show n < 1114112 by omega)]
    by_cases h34 : n = 34
    · subst h34; simp
    by_cases h92 : n = 92
    · subst h92; simp
    by_cases h47 : n = 47
    · subst h47; simp
    simp only [h34, h92, h47, decide_false, cond_false, or_self, if_false]
    by_cases h98 : n = 98
    · subst h98; simp
    by_cases h102 : n = 102
    · subst h102; simp
    by_cases h110 : n = 110
    · subst h110; simp
    by_cases h114 : n = 114
    · subst h114; simp
    by_cases h116 : n = 116
    · subst h116; simp
    by_cases h117 : n = 117
    · subst h117
      have := long_ok (R := R) t (by omega) k
      simp only [decide_true, decide_false, cond_true, cond_false, if_true, show ¬ ((117 : Nat) = 98) by decide, show ¬ ((117 : Nat) = 102) by decide, show ¬ ((117 : Nat) = 110) by decide, show ¬ ((117 : Nat) = 114) by decide, show ¬ ((117 : Nat) = 116) by decide, if_false]
      exact this
    simp only [h98, h102, h110, h114, h116, h117, decide_false, cond_false, if_false]
    exact ⟨t, rfl⟩
end Go.Proofs.YtifgegmnngfckaaDoor

/-
  Quote: what it writes. Own work.
-/
set_option linter.unusedVariables false
set_option maxRecDepth 100000
namespace Go.Proofs.YtifgegmnngfckaaDoor
open Go Go.Yard Go.Lib

def hexS : Str := [48, 49, 50, 51, 52, 53, 54, 55, 56, 57, 97, 98, 99, 100, 101, 102]
/-- What stands behind a backslash for a rune; 0: nothing. -/
def shortC (c : Nat) : Nat := if c = 34 ∨ c = 92 then c else if c = 8 then 98 else if c = 12 then 102 else if c = 10 then 110 else if c = 13 then 114 else if c = 9 then 116 else 0
/-- A rune, quoted. -/
def qc (c : Nat) : Str := if shortC c ≠ 0 then [92, UInt8.ofNat (shortC c)] else if c < 32 then [92, 117, 48, 48, hexS.getD (c / 16) 0, hexS.getD (c % 16) 0] else enc c
def qcL (rs : List Nat) : Str := rs.flatMap qc
/-- A text of runes, quoted. -/
def qt (rs : List Nat) : Str := 34 :: (qcL rs ++ [34])

theorem shortC_lt (c : Nat) : shortC c < 256 := by unfold shortC; (repeat' split) <;> omega
theorem short_ok {R : Type} (c : Nat) (k : Int → Option R) : quote_short (c : Int) k = k (shortC c : Int) := by
  show quote_short_X (c : Int) k = _
  unfold quote_short_X shortC
  have b : ∀ n : Nat, ((c : Int) == (n : Int)) = decide (c = n) := fun n => by
    by_cases h : c = n
    · subst h; simp
    · have : ¬ ((c : Int) = (n : Int)) := by omega
      simp [h, this]
  have b34 : ((c : Int) == 34) = decide (c = 34) := b 34
  have b92 : ((c : Int) == 92) = decide (c = 92) := b 92
  have b8 : ((c : Int) == 8) = decide (c = 8) := b 8
  have b12 : ((c : Int) == 12) = decide (c = 12) := b 12
  have b10 : ((c : Int) == 10) = decide (c = 10) := b 10
  have b13 : ((c : Int) == 13) = decide (c = 13) := b 13
  have b9 : ((c : Int) == 9) = decide (c = 9) := b 9
  rw [b34, b92, b8, b12, b10, b13, b9]
  have w : IntKind.u8.wrap (c : Int) = ((c % 256 : Nat) : Int) := wrap8 c
  by_cases h34 : c = 34
  · subst h34; rfl
  by_cases h92 : c = 92
  · subst h92; rfl
  simp only [h34, h92, decide_false, cond_false, or_self, if_false]
  by_cases h8 : c = 8
  · subst h8; rfl
  by_cases h12 : c = 12
  · subst h12; rfl
  by_cases h10 : c = 10
  · subst h10; rfl
  by_cases h13 : c = 13
  · subst h13; rfl
  by_cases h9 : c = 9
  · subst h9; rfl
  simp [h8, h12, h10, h13, h9]

theorem runeAt_drop (s : Str) (pos : Nat) : runeAt s pos = decodeL (s.drop pos) := by
  unfold runeAt
  exact (decodeL_drop ⟨s.toArray⟩ pos).symm

theorem enc_head (rs : List Nat) (c : Nat) (t : List Nat) : encL (rs ++ c :: t) = encL rs ++ (enc c ++ encL t) := by simp [encL]

theorem hexdig : ∀ c : Fin 32, (Int.fdiv (c.val : Int) (2 ^ (min 4 IntKind.i32.bits))) = ((c.val / 16 : Nat) : Int) ∧ IntKind.i32.wrap ((BitVec.ofInt IntKind.i32.bits (c.val : Int) &&& BitVec.ofInt IntKind.i32.bits 15).toNat : Int) = ((c.val % 16 : Nat) : Int) := by decide +kernel

theorem qc_len {c : Nat} (hv : vr c) : (qc c).length ≤ 6 := by
  unfold qc
  split
  · simp
  · split
    · simp
    · have := enc_len hv; omega

/-- A ROUND of Quote's loop. -/
theorem quote_round {R : Type} {x : Str} {pos c : Nat} (hp : pos < x.length) {t : Str} (hd : x.drop pos = enc c ++ t) (hv : vr c) (o : Str) (ho : o.length ≤ 90000000000) (rec' : List Int → Str → Nat → Option R) (e0 : List Int → Option R) :
    quote_Quote_6_0_B strings_Builder_WriteByte_4b84 quote_short strings_Builder_WriteString_df1e strings_Builder_WriteRune_dc6e rec' (zs o) x pos e0 = rec' (zs (o ++ qc c)) x (pos + (enc c).length) := by
  unfold quote_Quote_6_0_B
  have hr : runeAt x pos = (c, (enc c).length) := by rw [runeAt_drop, hd, dec_enc hv]
  rw [hr, dtrue hp, cond_true]
  simp only
  rw [short_ok]
  have hlim : ∀ z : Str, z.length ≤ 10 → Lim (o ++ z) := fun z hz => by unfold Lim; rw [List.length_append]; omega
  have hlim0 : Lim o := by unfold Lim; omega
  by_cases hs : shortC c ≠ 0
  · have e : ((shortC c : Int) != 0) = true := by
      exact bne_iff_ne.2 (by omega)
    rw [e, cond_true]
    have h92 : (92 : Int) = ((92 : UInt8).toNat : Int) := rfl
    rw [h92, wb _ o hlim0]
    have h2 : (shortC c : Int) = ((UInt8.ofNat (shortC c)).toNat : Int) := by rw [u8_nat _ (shortC_lt c)]
    rw [h2, wb _ _ (hlim [92] (by simp))]
    have : qc c = [92, UInt8.ofNat (shortC c)] := by unfold qc; rw [if_pos hs]
    rw [this, List.append_assoc]
    rfl
  · have hs0 : shortC c = 0 := by omega
    have e : ((shortC c : Int) != 0) = false := by rw [hs0]; rfl
    rw [e, cond_false]
    by_cases h32 : c < 32
    · rw [dtrue (show (c : Int) < 32 by omega), cond_true, ws _ o (by simp) hlim0]
      obtain ⟨k1, k2⟩ := hexdig ⟨c, h32⟩
      simp only at k1 k2
      rw [k1, k2, chk_pos (by rw [dtrue (by omega), dtrue (by omega)]; rfl)]
      rw [Int.toNat_natCast, Int.toNat_natCast, wb _ _ (hlim [92, 117, 48, 48] (by simp)), chk_pos (by rw [dtrue (by omega), dtrue (by omega)]; rfl)]
      rw [List.append_assoc o, wb _ _ (hlim _ (by simp))]
      have : qc c = [92, 117, 48, 48, hexS.getD (c / 16) 0, hexS.getD (c % 16) 0] := by unfold qc; rw [if_neg hs, if_pos h32]
      rw [this, List.append_assoc o]
      rfl
    · rw [dfalse (show ¬ (c : Int) < 32 by omega), cond_false]
      obtain ⟨n, hn⟩ := wr hv o hlim0 (fun y14 y15 => rec' y15 x (pos + (enc c).length))
      rw [hn]
      have : qc c = enc c := by unfold qc; rw [if_neg hs, if_neg h32]
      rw [this]

theorem quote_loop {R : Type} (rs : List Nat) : ∀ (n : Nat) (done : List Nat) (o : Str), rs.length < n → (∀ c ∈ rs, vr c) → (∀ c ∈ done, vr c) → o.length + 6 * rs.length ≤ 80000000000 → ∀ e0 : List Int → Option R,
    quote_Quote_6_0_L n (zs o) (encL (done ++ rs)) (encL done).length e0 = e0 (zs (o ++ qcL rs)) := by
  induction rs with
  | nil =>
    intro n done o hn _ _ _ e0
    obtain ⟨m, rfl⟩ : ∃ m, n = m + 1 := ⟨n - 1, by simp at hn; omega⟩
    show quote_Quote_6_0_B strings_Builder_WriteByte_4b84 quote_short strings_Builder_WriteString_df1e strings_Builder_WriteRune_dc6e _ (zs o) (encL (done ++ [])) (encL done).length e0 = _
    unfold quote_Quote_6_0_B
    rw [List.append_nil, dfalse (Nat.lt_irrefl _), cond_false]
    simp [qcL]
  | cons c rs ih =>
    intro n done o hn hr hd hl e0
    obtain ⟨m, rfl⟩ : ∃ m, n = m + 1 := ⟨n - 1, by simp at hn; omega⟩
    have hv := hr c (by simp)
    have he := enc_len hv
    have hq := qc_len hv
    simp only [List.length_cons] at hn hl
    show quote_Quote_6_0_B strings_Builder_WriteByte_4b84 quote_short strings_Builder_WriteString_df1e strings_Builder_WriteRune_dc6e (fun x0' x1' x2' => quote_Quote_6_0_L m x0' x1' x2' e0) (zs o) (encL (done ++ c :: rs)) (encL done).length e0 = _
    rw [quote_round (c := c) (t := encL rs) (by rw [enc_head, List.length_append, List.length_append]; omega) (by rw [enc_head, List.drop_left]) hv o (by omega)]
    have e1 : done ++ c :: rs = (done ++ [c]) ++ rs := by simp
    have e2 : (encL done).length + (enc c).length = (encL (done ++ [c])).length := by rw [encL_snoc, List.length_append]
    rw [e1, e2, ih m (done ++ [c]) (o ++ qc c) (by omega) (fun x hx => hr x (by simp [hx])) (fun x hx => by
      rcases List.mem_append.1 hx with h | h
      · exact hd x h
      · simp at h; subst h; exact hv) (by rw [List.length_append]; omega)]
    rw [List.append_assoc]
    rfl

theorem encL_count : ∀ (rs : List Nat), (∀ c ∈ rs, vr c) → rs.length ≤ (encL rs).length ∧ (encL rs).length ≤ 4 * rs.length
  | [], _ => by simp [encL]
  | c :: rs, h => by
    have h1 := enc_len (h c (by simp))
    have h2 := encL_count rs (fun x hx => h x (by simp [hx]))
    have : encL (c :: rs) = enc c ++ encL rs := by simp [encL]
    rw [this, List.length_append, List.length_cons]
    omega
theorem qcL_count : ∀ (rs : List Nat), (∀ c ∈ rs, vr c) → (qcL rs).length ≤ 6 * rs.length
  | [], _ => by simp [qcL]
  | c :: rs, h => by
    have h1 := qc_len (h c (by simp))
    have h2 := qcL_count rs (fun x hx => h x (by simp [hx]))
    have : qcL (c :: rs) = qc c ++ qcL rs := by simp [qcL]
    rw [this, List.length_append, List.length_cons]
    omega

/-- QUOTE of a text of runes. -/
theorem quote_ok {R : Type} (rs : List Nat) (hr : ∀ c ∈ rs, vr c) (hl : rs.length ≤ 10000000000) (k : Str → Bool → Option R) : quote_Quote (encL rs) k = k (qt rs) true := by
  have hc := encL_count rs hr
  have hq := qcL_count rs hr
  have hw : validS (encL rs) = true := whole_iff.2 ⟨rs, hr, rfl⟩
  show quote_Quote_X quote_Whole strings_Builder_WriteByte_b66c strings_Builder_WriteByte_4b84 quote_Quote_6_0_L (encL rs) k = _
  unfold quote_Quote_X
  have q : ∀ (x : Str) (f : Bool → Option R), quote_Whole x f = f (validS x) := fun _ _ => rfl
  have q2 : ∀ (x : Int) (f : List Int → Option R), strings_Builder_WriteByte_b66c x f = f [x] := fun _ _ => rfl
  rw [q, hw, Bool.not_true, cond_false, q2]
  have e34 : ([34] : List Int) = zs [34] := rfl
  rw [e34]
  have := quote_loop (R := R) rs (List.length (zs [34]) + List.length (encL rs) + 64) [] [34] (by omega) hr (by simp) (by simp; omega)
  rw [List.nil_append] at this
  have e0 : (encL []).length = 0 := rfl
  rw [e0] at this
  rw [this]
  have h34 : (34 : Int) = ((34 : UInt8).toNat : Int) := rfl
  rw [h34, wb _ _ (by unfold Lim; rw [List.length_append]; simp; omega), bstr_zs]
  rfl

/-- QUOTE of what is not whole. -/
theorem quote_bad {R : Type} (s : Str) (h : validS s = false) (k : Str → Bool → Option R) : quote_Quote s k = k [] false := by
  show quote_Quote_X quote_Whole strings_Builder_WriteByte_b66c strings_Builder_WriteByte_4b84 quote_Quote_6_0_L s k = _
  unfold quote_Quote_X
  have q : ∀ (x : Str) (f : Bool → Option R), quote_Whole x f = f (validS x) := fun _ _ => rfl
  rw [q, h]
  rfl
end Go.Proofs.YtifgegmnngfckaaDoor

/-
  Unquote, part 4: its loop, and what it answers. Own work.
-/
set_option linter.unusedVariables false
set_option maxRecDepth 100000
namespace Go.Proofs.YtifgegmnngfckaaDoor
open Go Go.Yard Go.Lib

def stepU (s : Str) : Option (Nat × Str) := if ([92] : Str).isPrefixOf s then escP (s.drop 1) else plainP s
def uq : Nat → Str → Str → Option (Str × Str)
  | 0, _, _ => none
  | n + 1, s, o => if ([34] : Str).isPrefixOf s then some (o, s.drop 1) else match stepU s with | none => none | some (c, r) => uq n r (o ++ enc c)

theorem longP_ok {s r : Str} {c : Nat} (h : longP s = some (c, r)) : vr c ∧ r.length + 4 ≤ s.length := by
  unfold longP at h
  split at h
  · cases h
  · rename_i v r1 hu
    obtain ⟨hv, hl, hr⟩ := unitP_lt hu
    split at h
    · cases h
      refine ⟨by unfold vr; omega, ?_⟩
      rw [hr, List.length_drop]; omega
    · split at h
      · cases h
      · split at h
        · split at h
          · cases h
          · rename_i w r2 hu2
            obtain ⟨hw, hl2, hr2⟩ := unitP_lt hu2
            split at h
            · simp only [Option.some.injEq, Prod.mk.injEq] at h
              obtain ⟨hc, rfl⟩ := h
              refine ⟨by unfold vr; omega, ?_⟩
              rw [hr2, hr]
              simp only [List.length_drop]
              rw [hr] at hl2
              simp only [List.length_drop] at hl2
              omega
            · cases h
        · cases h

theorem escP_ok {s r : Str} {c : Nat} (h : escP s = some (c, r)) : vr c ∧ r.length < s.length := by
  cases s with
  | nil => cases h
  | cons b t =>
    simp only [escP] at h
    have hb := UInt8.toNat_lt b
    split at h
    · cases h; exact ⟨by unfold vr; omega, by simp⟩
    split at h
    · cases h; exact ⟨by unfold vr; omega, by simp⟩
    split at h
    · cases h; exact ⟨by unfold vr; omega, by simp⟩
    split at h
    · cases h; exact ⟨by unfold vr; omega, by simp⟩
    split at h
    · cases h; exact ⟨by unfold vr; omega, by simp⟩
    split at h
    · cases h; exact ⟨by unfold vr; omega, by simp⟩
    split at h
    · obtain ⟨h1, h2⟩ := longP_ok h
      exact ⟨h1, by simp only [List.length_cons]; omega⟩
    · cases h

theorem plainP_ok {s r : Str} {c : Nat} (h : plainP s = some (c, r)) : vr c ∧ r.length < s.length := by
  unfold plainP at h
  split at h
  · cases h
  · rename_i hne
    split at h
    · cases h
    · split at h
      · cases h
      · cases h
        have h1 := decodeL_width s
        have h2 : 0 < s.length := List.length_pos_iff.2 hne
        exact ⟨dec_vr s, by rw [List.length_drop]; omega⟩

theorem stepU_ok {s r : Str} {c : Nat} (h : stepU s = some (c, r)) : vr c ∧ r.length < s.length := by
  unfold stepU at h
  split at h
  · obtain ⟨h1, h2⟩ := escP_ok h
    exact ⟨h1, by rw [List.length_drop] at h2; omega⟩
  · exact plainP_ok h

theorem uq_fuel : ∀ (n m : Nat) (s o : Str), s.length < n → s.length < m → uq n s o = uq m s o
  | 0, _, _, _, h, _ => by omega
  | _ + 1, 0, _, _, _, h => by omega
  | n + 1, m + 1, s, o, hn, hm => by
    unfold uq
    split
    · rfl
    · cases hs : stepU s with
      | none => rfl
      | some p =>
        obtain ⟨c, r⟩ := p
        obtain ⟨_, h2⟩ := stepU_ok hs
        exact uq_fuel n m r _ (by omega) (by omega)

theorem unq_loop {R : Type} (x : Str) (e0 : Str → Str → List Int → Option R) (e1 : Str → Str → Int → Bool → Str → List Int → Option R) : ∀ (n : Nat) (s o : Str), s.length < n → o.length + 4 * s.length ≤ 90000000000 →
    (match uq n s o with
     | some (o', r) => quote_Unquote_5_0_L n x s (zs o) e0 e1 = e0 x r (zs o')
     | none => ∃ a b, quote_Unquote_5_0_L n x s (zs o) e0 e1 = e1 x [] 0 false a b) := by
  intro n
  induction n with
  | zero => intro s o h; omega
  | succ n ih =>
    intro s o h hb
    have hL : quote_Unquote_5_0_L (n + 1) x s (zs o) e0 e1 = quote_Unquote_5_0_B strings_Builder_WriteRune_dc6e quote_reader_skip_e74a quote_reader_plain_abbd quote_reader_escaped_abbd (fun x0' x1' x2' => quote_Unquote_5_0_L n x0' x1' x2' e0 e1) x s (zs o) e0 e1 := rfl
    rw [hL]
    unfold quote_Unquote_5_0_B
    rw [skip_ok _ _ (by simp) (by omega)]
    simp only [uq]
    have hlim : Lim o := by unfold Lim; omega
    by_cases h34 : ([34] : Str).isPrefixOf s = true
    · rw [if_pos h34, if_pos h34]
      rfl
    · rw [if_neg h34, if_neg h34, Bool.not_false, cond_true, skip_ok _ _ (by simp) (by omega)]
      have fin : ∀ (c : Nat) (r : Str), vr c → r.length < s.length →
          (match uq n r (o ++ enc c) with
           | some (o', r') => quote_Unquote_5_0_L n x r (zs (o ++ enc c)) e0 e1 = e0 x r' (zs o')
           | none => ∃ a b, quote_Unquote_5_0_L n x r (zs (o ++ enc c)) e0 e1 = e1 x [] 0 false a b) := fun c r hv hr => by
        have := enc_len hv
        exact ih r (o ++ enc c) (by omega) (by rw [List.length_append]; omega)
      unfold stepU
      by_cases h92 : ([92] : Str).isPrefixOf s = true
      · rw [if_pos h92, if_pos h92]
        have e1' : s.drop ([92] : Str).length = s.drop 1 := rfl
        rw [e1', cond_true]
        have hk := esc_ok (R := R) (s.drop 1) (by rw [List.length_drop]; omega) (fun y11 y12 => bif (decide (y11 < (0 : Int))) then (e1 x ([] : Str) 0 false y12 (zs o)) else (strings_Builder_WriteRune_dc6e y11 (zs o) (fun y13 y14 => quote_Unquote_5_0_L n x y12 y14 e0 e1)))
        cases he : escP (s.drop 1) with
        | none =>
          rw [he] at hk
          obtain ⟨r, hk⟩ := hk
          exact ⟨r, zs o, hk.trans (by rw [dtrue (show (-1 : Int) < 0 by omega), cond_true])⟩
        | some p =>
          obtain ⟨c, r⟩ := p
          rw [he] at hk
          obtain ⟨hv, hr⟩ := escP_ok he
          rw [List.length_drop] at hr
          simp only at hk ⊢
          rw [hk, dfalse (show ¬ (c : Int) < 0 by omega), cond_false]
          obtain ⟨q, hq⟩ := wr hv o hlim (fun y13 y14 => quote_Unquote_5_0_L n x r y14 e0 e1)
          rw [hq]
          exact fin c r hv (by omega)
      · rw [if_neg h92, if_neg h92, cond_false]
        have hk := plain_ok (R := R) s (by omega) (fun y15 y16 => bif (decide (y15 < (0 : Int))) then (e1 x ([] : Str) 0 false y16 (zs o)) else (strings_Builder_WriteRune_dc6e y15 (zs o) (fun y17 y18 => quote_Unquote_5_0_L n x y16 y18 e0 e1)))
        cases he : plainP s with
        | none =>
          rw [he] at hk
          simp only at hk ⊢
          exact ⟨s, zs o, hk.trans (by rw [dtrue (show (-1 : Int) < 0 by omega), cond_true])⟩
        | some p =>
          obtain ⟨c, r⟩ := p
          rw [he] at hk
          obtain ⟨hv, hr⟩ := plainP_ok he
          simp only at hk ⊢
          rw [hk, dfalse (show ¬ (c : Int) < 0 by omega), cond_false]
          obtain ⟨q, hq⟩ := wr hv o hlim (fun y17 y18 => quote_Unquote_5_0_L n x r y18 e0 e1)
          rw [hq]
          exact fin c r hv (by omega)

/-- What Unquote answers: the text, and what is left. -/
def uqS (s : Str) : Option (Str × Str) := if ([34] : Str).isPrefixOf s then uq (s.length + 1) (s.drop 1) [] else none

theorem unquote_ok {R : Type} (s : Str) (hs : s.length ≤ 20000000000) (k : Str → Int → Bool → Option R) :
    quote_Unquote s k = match uqS s with | some (o, r) => k o (IntKind.i64.wrap ((s.length : Int) - (r.length : Int))) true | none => k [] 0 false := by
  have e : quote_Unquote s k = quote_Unquote_X quote_reader_skip_e74a quote_Unquote_5_0_L s k := rfl
  rw [e]
  unfold quote_Unquote_X uqS
  rw [skip_ok _ _ (by simp) (by omega)]
  by_cases h34 : ([34] : Str).isPrefixOf s = true
  · rw [if_pos h34, if_pos h34, Bool.not_true, cond_false]
    have e1 : s.drop ([34] : Str).length = s.drop 1 := rfl
    rw [e1]
    have hd : (s.drop 1).length ≤ s.length := by rw [List.length_drop]; omega
    have key := unq_loop (R := R) s (fun y19 y20 y21 => k (bstr y21) (IntKind.i64.wrap ((y19.length : Int) - (y20.length : Int))) true) (fun y22 y23 y24 y25 y26 y27 => k y23 y24 y25) (List.length s + List.length (s.drop 1) + List.length ([] : List Int) + 64) (s.drop 1) [] (by omega) (by simp only [List.length_nil]; omega)
    rw [uq_fuel _ (s.length + 1) (s.drop 1) [] (by omega) (by omega)] at key
    cases hu : uq (s.length + 1) (s.drop 1) [] with
    | none =>
      rw [hu] at key
      obtain ⟨a, b, key⟩ := key
      exact key
    | some p =>
      obtain ⟨o, r⟩ := p
      rw [hu] at key
      simp only at key ⊢
      refine Eq.trans key ?_
      rw [bstr_zs]
  · rw [if_neg h34, if_neg h34]
    rfl

/-! ### what Quote wrote -/
theorem pre_cons (a b : UInt8) (t : Str) : ([a] : Str).isPrefixOf (b :: t) = (a == b) := by
  simp [List.isPrefixOf]

theorem hex_back : ∀ c : Fin 32, hexN [48, 48, hexS.getD (c.val / 16) 0, hexS.getD (c.val % 16) 0] 0 = some c.val := by decide +kernel

theorem u8_ne {b : UInt8} {n : Nat} (hn : n < 256) (h : b.toNat ≠ n) : ((UInt8.ofNat n) == b) = false := by
  rw [beq_eq_false_iff_ne]
  rintro rfl
  rw [u8_nat n hn] at h
  exact h rfl

theorem enc_first {c : Nat} (hv : vr c) (h : 32 ≤ c) (h34 : c ≠ 34) (h92 : c ≠ 92) : ∃ b t, enc c = b :: t ∧ b.toNat ≠ 34 ∧ b.toNat ≠ 92 := by
  have hlt := vr_lt hv
  rcases enc_cases hv with ⟨h1, e⟩ | ⟨h0, h1, e⟩ | ⟨h0, h1, e⟩ | ⟨h0, e⟩
  · exact ⟨_, _, e, by rw [u8_nat _ (by omega)]; exact h34, by rw [u8_nat _ (by omega)]; exact h92⟩
  · exact ⟨_, _, e, by rw [u8_nat _ (by omega)]; omega, by rw [u8_nat _ (by omega)]; omega⟩
  · exact ⟨_, _, e, by rw [u8_nat _ (by omega)]; omega, by rw [u8_nat _ (by omega)]; omega⟩
  · exact ⟨_, _, e, by rw [u8_nat _ (by omega)]; omega, by rw [u8_nat _ (by omega)]; omega⟩

theorem shortC_cases (c : Nat) : (shortC c = 0 ∧ c ≠ 34 ∧ c ≠ 92) ∨ c = 34 ∨ c = 92 ∨ c = 8 ∨ c = 12 ∨ c = 10 ∨ c = 13 ∨ c = 9 := by
  unfold shortC
  by_cases h1 : c = 34 <;> by_cases h2 : c = 92 <;> by_cases h3 : c = 8 <;> by_cases h4 : c = 12 <;> by_cases h5 : c = 10 <;> by_cases h6 : c = 13 <;> by_cases h7 : c = 9 <;> simp [h1, h2, h3, h4, h5, h6, h7]

theorem qc_hex {c : Nat} (h0 : shortC c = 0) (h : c < 32) : qc c = [92, 117, 48, 48, hexS.getD (c / 16) 0, hexS.getD (c % 16) 0] := by unfold qc; rw [if_neg (by omega), if_pos h]
theorem qc_enc {c : Nat} (h0 : shortC c = 0) (h : ¬ c < 32) : qc c = enc c := by unfold qc; rw [if_neg (by omega), if_neg h]

/-- What stands quoted is read back. -/
theorem step_qc {c : Nat} (hv : vr c) (t : Str) : ([34] : Str).isPrefixOf (qc c ++ t) = false ∧ stepU (qc c ++ t) = some (c, t) := by
  rcases shortC_cases c with ⟨h0, h34, h92⟩ | rfl | rfl | rfl | rfl | rfl | rfl | rfl
  · by_cases h32 : c < 32
    · rw [qc_hex h0 h32]
      refine ⟨rfl, ?_⟩
      have hb := hex_back ⟨c, h32⟩
      simp only at hb
      show longP (48 :: 48 :: hexS.getD (c / 16) 0 :: hexS.getD (c % 16) 0 :: t) = some (c, t)
      have hu : unitP (48 :: 48 :: hexS.getD (c / 16) 0 :: hexS.getD (c % 16) 0 :: t) = some (c, t) := by
        unfold unitP
        rw [if_neg (by simp only [List.length_cons]; omega)]
        have e : List.take 4 (48 :: 48 :: hexS.getD (c / 16) 0 :: hexS.getD (c % 16) 0 :: t) = [48, 48, hexS.getD (c / 16) 0, hexS.getD (c % 16) 0] := rfl
        rw [e, hb]
        rfl
      unfold longP
      rw [hu]
      simp only
      rw [if_pos (.inl (by omega))]
    · rw [qc_enc h0 h32]
      obtain ⟨b, u, e, g1, g2⟩ := enc_first hv (by omega) h34 h92
      have e2 : enc c ++ t = b :: (u ++ t) := by rw [e]; rfl
      refine ⟨?_, ?_⟩
      · rw [e2, pre_cons]
        exact u8_ne (n := 34) (by omega) g1
      · unfold stepU
        have : ([92] : Str).isPrefixOf (enc c ++ t) = false := by
          rw [e2, pre_cons]
          exact u8_ne (n := 92) (by omega) g2
        rw [this]
        simp only [Bool.false_eq_true, if_false]
        unfold plainP
        rw [if_neg (enc_ne hv t), dec_enc hv t]
        simp only
        have hg := good_enc hv t
        unfold good at hg
        rw [dec_enc hv t] at hg
        simp only at hg
        rw [if_neg hg, if_neg h32, List.drop_left]
  · exact ⟨rfl, rfl⟩
  · exact ⟨rfl, rfl⟩
  · exact ⟨rfl, rfl⟩
  · exact ⟨rfl, rfl⟩
  · exact ⟨rfl, rfl⟩
  · exact ⟨rfl, rfl⟩
  · exact ⟨rfl, rfl⟩

theorem uq_qc : ∀ (rs : List Nat), (∀ c ∈ rs, vr c) → ∀ (n : Nat) (o more : Str), rs.length < n → uq n (qcL rs ++ 34 :: more) o = some (o ++ encL rs, more)
  | [], _, n, o, more, hn => by
    obtain ⟨m, rfl⟩ : ∃ m, n = m + 1 := ⟨n - 1, by simp at hn; omega⟩
    have : qcL [] ++ 34 :: more = 34 :: more := rfl
    rw [this]
    simp [uq, List.isPrefixOf, encL]
  | c :: rs, hr, n, o, more, hn => by
    obtain ⟨m, rfl⟩ : ∃ m, n = m + 1 := ⟨n - 1, by simp at hn; omega⟩
    have hv := hr c (by simp)
    have e : qcL (c :: rs) ++ 34 :: more = qc c ++ (qcL rs ++ 34 :: more) := by simp [qcL]
    obtain ⟨h1, h2⟩ := step_qc hv (qcL rs ++ 34 :: more)
    rw [e]
    simp only [uq, h1, h2, Bool.false_eq_true, if_false]
    rw [uq_qc rs (fun x hx => hr x (by simp [hx])) m (o ++ enc c) more (by simp at hn; omega)]
    simp [encL]

theorem qc_pos {c : Nat} (hv : vr c) : 1 ≤ (qc c).length := by
  unfold qc
  split
  · simp
  · split
    · simp
    · exact (enc_len hv).1
theorem qcL_pos : ∀ (rs : List Nat), (∀ c ∈ rs, vr c) → rs.length ≤ (qcL rs).length
  | [], _ => by simp [qcL]
  | c :: rs, h => by
    have h1 := qc_pos (h c (by simp))
    have h2 := qcL_pos rs (fun x hx => h x (by simp [hx]))
    have : qcL (c :: rs) = qc c ++ qcL rs := by simp [qcL]
    rw [this, List.length_append, List.length_cons]
    omega

/-- UNQUOTE UNDOES QUOTE, whatever stands behind. -/
theorem uqS_qt (rs : List Nat) (hr : ∀ c ∈ rs, vr c) (more : Str) : uqS (qt rs ++ more) = some (encL rs, more) := by
  have e : qt rs ++ more = 34 :: (qcL rs ++ 34 :: more) := by unfold qt; simp
  have hq := qcL_pos rs hr
  rw [e]
  unfold uqS
  rw [pre_cons]
  simp only [BEq.rfl, if_true, List.drop_succ_cons, List.drop_zero]
  have := uq_qc rs hr ((34 :: (qcL rs ++ 34 :: more)).length + 1) [] more (by simp only [List.length_cons, List.length_append]; omega)
  rw [this]
  rfl
end Go.Proofs.YtifgegmnngfckaaDoor

/-
  Functions of the program as pure Lean functions, and the ties; printed by wip/tools/emit.py.
-/
set_option maxRecDepth 100000
set_option linter.unusedVariables false
namespace Go.Proofs.YtifgegmnngfckaaDoor
open Go Go.Yard

/-! ### humpyard/humpyardref02.one -/
abbrev ref02_one_ty (R : Type) : Type := Str → Int → (Int → Option R) → Option R
abbrev ref02_one_p : List Pat := [.leaf (.str), .leaf (.int .i64)]
abbrev ref02_one_q : List HPat := []
noncomputable def ref02_one_rr {R : Type} (fn : ref02_one_ty R) : Pat.dens ref02_one_p → HPat.dens ref02_one_q → (V → Heap → Option R) → Option R := fun x y k => fn x.1 x.2.1 (fun q0 => k (.int .i64 q0) [])
abbrev ref02_one_23_0_ty (R : Type) : Type := Nat → Str → Int → Int → Int → Int → Int → (Int → Int → Int → Option R) → (Int → Int → Int → Int → Option R) → Option R
noncomputable def ref02_one_E (R : Type) : Env R := fun i => match i with
  | _ => none
theorem ref02_one_EOk (R : Type) : EOk Tryd.prog (ref02_one_E R) := by
  intro i b sp h
  unfold ref02_one_E at h
  split at h
  · cases h

noncomputable def ref02_one_23_0_B {R : Type} (rec' : Str → Int → Int → Int → Int → Int → Option R) (x12 : Str) (x13 : Int) (x14 : Int) (x15 : Int) (x16 : Int) (x17 : Int) (e0 : Int → Int → Int → Option R) (e1 : Int → Int → Int → Int → Option R) : Option R :=
  bif (decide (x17 < x14)) then (chk (decide ((0 : Int) ≤ (IntKind.i64.wrap (x13 + x17))) && decide ((IntKind.i64.wrap (x13 + x17)) < x12.length)) (bif ((IntKind.u8.wrap ((BitVec.ofInt IntKind.u8.bits ((x12.getD ((IntKind.i64.wrap (x13 + x17)).toNat) 0).toNat : Int) &&& BitVec.ofInt IntKind.u8.bits 192).toNat : Int)) != 128) then (e1 0 x14 x15 x16) else (chk (decide ((0 : Int) ≤ (IntKind.i64.wrap (x13 + x17))) && decide ((IntKind.i64.wrap (x13 + x17)) < x12.length)) (rec' x12 x13 x14 x15 (IntKind.i64.wrap ((BitVec.ofInt IntKind.i64.bits (IntKind.i64.wrap (x16 * 2 ^ (min 6 IntKind.i64.bits))) ||| BitVec.ofInt IntKind.i64.bits (IntKind.i64.wrap (IntKind.u8.wrap ((BitVec.ofInt IntKind.u8.bits ((x12.getD ((IntKind.i64.wrap (x13 + x17)).toNat) 0).toNat : Int) &&& BitVec.ofInt IntKind.u8.bits 63).toNat : Int)))).toNat : Int)) (IntKind.i64.wrap (x17 + 1)))))) else (e0 x14 x15 x16)
noncomputable def ref02_one_23_0_L {R : Type} : ref02_one_23_0_ty R
  | 0, _, _, _, _, _, _, _, _ => none
  | n + 1, x0', x1', x2', x3', x4', x5', e0, e1 => ref02_one_23_0_B (fun x0' x1' x2' x3' x4' x5' => ref02_one_23_0_L n x0' x1' x2' x3' x4' x5' e0 e1) x0' x1' x2' x3' x4' x5' e0 e1
noncomputable def ref02_one_23_0_h : Hint := { live := [0, 1, 6, 7, 8, 9], own := [], rows := [], cells := [], drop := [], out := [4, 6, 7, 8] }
abbrev ref02_one_23_0_D : Type := Str × Int × Int × Int × Int × Int
noncomputable def ref02_one_23_0_enc : ref02_one_23_0_D → St := fun d => ⟨[.str d.1, .int .i64 d.2.1, .undef, .undef, .undef, .undef, .int .i64 d.2.2.1, .int .i64 d.2.2.2.1, .int .i64 d.2.2.2.2.1, .int .i64 d.2.2.2.2.2, .undef, .undef, .undef, .undef, .undef, .undef, .undef, .undef, .undef, .undef, .undef, .undef, .undef, .undef, .undef, .undef, .undef, .undef, .undef, .undef, .undef, .undef, .undef, .undef, .undef, .undef, .undef, .undef, .undef, .undef, .undef, .undef, .undef, .undef, .undef, .undef, .undef, .undef, .undef, .undef, .undef, .undef, .undef, .undef, .undef, .undef, .undef, .undef, .undef, .undef, .undef, .undef, .undef, .undef, .undef, .undef, .undef, .undef, .undef, .undef, .undef, .undef, .undef, .undef, .undef, .undef, .undef, .undef, .undef, .undef, .undef, .undef, .undef, .undef, .undef, .undef, .undef, .undef, .undef, .undef], []⟩
noncomputable def ref02_one_23_0_x0 {R : Type} (K : Ex → St → Option R) (q0 : Int) (q1 : Int) (q2 : Int) : Option R := K (.exit 1) ⟨[.undef, .undef, .undef, .undef, .undef, .undef, .int .i64 q0, .int .i64 q1, .int .i64 q2, .undef, .undef, .undef, .undef, .undef, .undef, .undef, .undef, .undef, .undef, .undef, .undef, .undef, .undef, .undef, .undef, .undef, .undef, .undef, .undef, .undef, .undef, .undef, .undef, .undef, .undef, .undef, .undef, .undef, .undef, .undef, .undef, .undef, .undef, .undef, .undef, .undef, .undef, .undef, .undef, .undef, .undef, .undef, .undef, .undef, .undef, .undef, .undef, .undef, .undef, .undef, .undef, .undef, .undef, .undef, .undef, .undef, .undef, .undef, .undef, .undef, .undef, .undef, .undef, .undef, .undef, .undef, .undef, .undef, .undef, .undef, .undef, .undef, .undef, .undef, .undef, .undef, .undef, .undef, .undef, .undef], []⟩
noncomputable def ref02_one_23_0_x1 {R : Type} (K : Ex → St → Option R) (q0 : Int) (q1 : Int) (q2 : Int) (q3 : Int) : Option R := K (.ret) ⟨[.undef, .undef, .undef, .undef, .int .i64 q0, .undef, .int .i64 q1, .int .i64 q2, .int .i64 q3, .undef, .undef, .undef, .undef, .undef, .undef, .undef, .undef, .undef, .undef, .undef, .undef, .undef, .undef, .undef, .undef, .undef, .undef, .undef, .undef, .undef, .undef, .undef, .undef, .undef, .undef, .undef, .undef, .undef, .undef, .undef, .undef, .undef, .undef, .undef, .undef, .undef, .undef, .undef, .undef, .undef, .undef, .undef, .undef, .undef, .undef, .undef, .undef, .undef, .undef, .undef, .undef, .undef, .undef, .undef, .undef, .undef, .undef, .undef, .undef, .undef, .undef, .undef, .undef, .undef, .undef, .undef, .undef, .undef, .undef, .undef, .undef, .undef, .undef, .undef, .undef, .undef, .undef, .undef, .undef, .undef], []⟩
noncomputable def ref02_one_23_0_s {R : Type} (K : Ex → St → Option R) (rc : ref02_one_23_0_D → Option R) (d : ref02_one_23_0_D) : Option R := ref02_one_23_0_B (fun z0 z1 z2 z3 z4 z5 => rc (z0, z1, z2, z3, z4, z5)) d.1 d.2.1 d.2.2.1 d.2.2.2.1 d.2.2.2.2.1 d.2.2.2.2.2 (ref02_one_23_0_x0 K) (ref02_one_23_0_x1 K)
noncomputable def ref02_one_23_0_A {R : Type} (K : Ex → St → Option R) (n : Nat) (d : ref02_one_23_0_D) : Option R := ref02_one_23_0_L n d.1 d.2.1 d.2.2.1 d.2.2.2.1 d.2.2.2.2.1 d.2.2.2.2.2 (ref02_one_23_0_x0 K) (ref02_one_23_0_x1 K)
abbrev ref02_one_23_0_p : List Pat := [.leaf (.str), .leaf (.int .i64), .leaf (.undef), .leaf (.undef), .leaf (.undef), .leaf (.undef), .leaf (.int .i64), .leaf (.int .i64), .leaf (.int .i64), .leaf (.int .i64), .leaf (.undef), .leaf (.undef), .leaf (.undef), .leaf (.undef), .leaf (.undef), .leaf (.undef), .leaf (.undef), .leaf (.undef), .leaf (.undef), .leaf (.undef), .leaf (.undef), .leaf (.undef), .leaf (.undef), .leaf (.undef), .leaf (.undef), .leaf (.undef), .leaf (.undef), .leaf (.undef), .leaf (.undef), .leaf (.undef), .leaf (.undef), .leaf (.undef), .leaf (.undef), .leaf (.undef), .leaf (.undef), .leaf (.undef), .leaf (.undef), .leaf (.undef), .leaf (.undef), .leaf (.undef), .leaf (.undef), .leaf (.undef), .leaf (.undef), .leaf (.undef), .leaf (.undef), .leaf (.undef), .leaf (.undef), .leaf (.undef), .leaf (.undef), .leaf (.undef), .leaf (.undef), .leaf (.undef), .leaf (.undef), .leaf (.undef), .leaf (.undef), .leaf (.undef), .leaf (.undef), .leaf (.undef), .leaf (.undef), .leaf (.undef), .leaf (.undef), .leaf (.undef), .leaf (.undef), .leaf (.undef), .leaf (.undef), .leaf (.undef), .leaf (.undef), .leaf (.undef), .leaf (.undef), .leaf (.undef), .leaf (.undef), .leaf (.undef), .leaf (.undef), .leaf (.undef), .leaf (.undef), .leaf (.undef), .leaf (.undef), .leaf (.undef), .leaf (.undef), .leaf (.undef), .leaf (.undef), .leaf (.undef), .leaf (.undef), .leaf (.undef), .leaf (.undef), .leaf (.undef), .leaf (.undef), .leaf (.undef), .leaf (.undef), .leaf (.undef)]
abbrev ref02_one_23_0_q : List HPat := []
noncomputable def ref02_one_23_0_f (x : Pat.dens ref02_one_23_0_p) (y : HPat.dens ref02_one_23_0_q) : Nat := (List.length x.1 + Int.natAbs x.2.1 + Int.natAbs x.2.2.2.2.2.2.1 + Int.natAbs x.2.2.2.2.2.2.2.1 + Int.natAbs x.2.2.2.2.2.2.2.2.1 + Int.natAbs x.2.2.2.2.2.2.2.2.2.1 + 64)
noncomputable def ref02_one_23_0_d (x : Pat.dens ref02_one_23_0_p) (y : HPat.dens ref02_one_23_0_q) : ref02_one_23_0_D := (x.1, x.2.1, x.2.2.2.2.2.2.1, x.2.2.2.2.2.2.2.1, x.2.2.2.2.2.2.2.2.1, x.2.2.2.2.2.2.2.2.2.1)
noncomputable def ref02_one_23_0_rr {R : Type} (L : ref02_one_23_0_ty R) : Pat.dens ref02_one_23_0_p → HPat.dens ref02_one_23_0_q → (Ex → St → Option R) → Option R := fun x y K => L (ref02_one_23_0_f x y) x.1 x.2.1 x.2.2.2.2.2.2.1 x.2.2.2.2.2.2.2.1 x.2.2.2.2.2.2.2.2.1 x.2.2.2.2.2.2.2.2.2.1 (ref02_one_23_0_x0 K) (ref02_one_23_0_x1 K)
noncomputable def ref02_one_T (R : Type) (ref02_one_23_0_L : ref02_one_23_0_ty R) : Nat → Option (Hint × LSpec R) := fun i => match i with
  | 23 => some (ref02_one_23_0_h, (loopBy ref02_one_23_0_p ref02_one_23_0_q (ref02_one_23_0_rr ref02_one_23_0_L) loopNo))
  | _ => none

theorem ref02_one_23_0_B_ok {R : Type} (ref02_one_23_0_L : ref02_one_23_0_ty R) (K : Ex → St → Option R) (rc : St → Option R) (d : ref02_one_23_0_D) : roundOf tt (ref02_one_E R) (ref02_one_T R ref02_one_23_0_L) 0 ((loopsOf (codeOf Tryd.f54)).getD 0 .skip) ref02_one_23_0_h (ref02_one_23_0_enc d) rc K = ref02_one_23_0_s K (fun d => rc (ref02_one_23_0_enc d)) d := by kernel_rfl
theorem ref02_one_23_0_A_succ {R : Type} (K : Ex → St → Option R) (n : Nat) (d : ref02_one_23_0_D) : ref02_one_23_0_A K (n + 1) d = ref02_one_23_0_s K (ref02_one_23_0_A K n) d := by kernel_rfl
theorem ref02_one_23_0_A_zero {R : Type} (K : Ex → St → Option R) (d : ref02_one_23_0_D) : ref02_one_23_0_A K 0 d = none := by kernel_rfl
theorem ref02_one_23_0_e_ok (x : Pat.dens ref02_one_23_0_p) (y : HPat.dens ref02_one_23_0_q) : (⟨Pat.encL ref02_one_23_0_p x, HPat.encL ref02_one_23_0_q y⟩ : St) = ref02_one_23_0_enc (ref02_one_23_0_d x y) := by kernel_rfl
theorem ref02_one_23_0_r_ok {R : Type} (x : Pat.dens ref02_one_23_0_p) (y : HPat.dens ref02_one_23_0_q) (K : Ex → St → Option R) : ref02_one_23_0_rr (ref02_one_23_0_L) x y K = ref02_one_23_0_A K (ref02_one_23_0_f x y) (ref02_one_23_0_d x y) := by kernel_rfl
theorem ref02_one_23_0_ok {R : Type} (other : LSpec R) (ho : LsOk tt (ref02_one_E R) (ref02_one_T R ref02_one_23_0_L) 0 ((loopsOf (codeOf Tryd.f54)).getD 0 .skip) ref02_one_23_0_h other) : LsOk tt (ref02_one_E R) (ref02_one_T R ref02_one_23_0_L) 0 ((loopsOf (codeOf Tryd.f54)).getD 0 .skip) ref02_one_23_0_h (loopBy ref02_one_23_0_p ref02_one_23_0_q (ref02_one_23_0_rr (ref02_one_23_0_L)) other) :=
  loopBy_tie (A := ref02_one_23_0_A) ho (loop_tie ref02_one_23_0_enc (ref02_one_23_0_s) (ref02_one_23_0_A) (ref02_one_23_0_A_zero) (ref02_one_23_0_B_ok ref02_one_23_0_L) (ref02_one_23_0_A_succ)) ref02_one_23_0_f ref02_one_23_0_d ref02_one_23_0_e_ok (ref02_one_23_0_r_ok)

noncomputable def ref02_one_X {R : Type} (ref02_one_23_0_L : ref02_one_23_0_ty R) (x1 : Str) (x2 : Int) (k0 : Int → Option R) : Option R :=
  chk (decide ((0 : Int) ≤ x2) && decide (x2 < x1.length)) (let j26 := fun (z9 : Int) (z10 : Int) (z11 : Int) => bif (decide ((IntKind.i64.wrap (x2 + z9)) > (x1.length : Int))) then (k0 0) else (ref02_one_23_0_L (List.length x1 + Int.natAbs x2 + Int.natAbs z9 + Int.natAbs z10 + Int.natAbs z11 + Int.natAbs 1 + 64) x1 x2 z9 z10 z11 1 (fun y18 y19 y20 => bif (decide (y20 < y19)) then (k0 0) else (bif (decide (y20 > (1114111 : Int))) then (k0 0) else (bif (decide (y20 ≥ (55296 : Int))) then (bif (decide (y20 ≤ (57343 : Int))) then (k0 0) else (k0 y18)) else (k0 y18)))) (fun y21 y22 y23 y24 => k0 y21)); bif (decide (((x1.getD x2.toNat 0).toNat : Int) < (128 : Int))) then (k0 1) else (let j8 := fun (z3 : Bool) => bif z3 then (j26 2 128 (IntKind.i64.wrap (IntKind.u8.wrap ((BitVec.ofInt IntKind.u8.bits ((x1.getD x2.toNat 0).toNat : Int) &&& BitVec.ofInt IntKind.u8.bits 31).toNat : Int)))) else (bif (decide (((x1.getD x2.toNat 0).toNat : Int) ≥ (224 : Int))) then (bif (decide (((x1.getD x2.toNat 0).toNat : Int) ≤ (239 : Int))) then (j26 3 2048 (IntKind.i64.wrap (IntKind.u8.wrap ((BitVec.ofInt IntKind.u8.bits ((x1.getD x2.toNat 0).toNat : Int) &&& BitVec.ofInt IntKind.u8.bits 15).toNat : Int)))) else (bif (decide (((x1.getD x2.toNat 0).toNat : Int) ≥ (240 : Int))) then (bif (decide (((x1.getD x2.toNat 0).toNat : Int) ≤ (244 : Int))) then (j26 4 65536 (IntKind.i64.wrap (IntKind.u8.wrap ((BitVec.ofInt IntKind.u8.bits ((x1.getD x2.toNat 0).toNat : Int) &&& BitVec.ofInt IntKind.u8.bits 7).toNat : Int)))) else (k0 0)) else (k0 0))) else (bif (decide (((x1.getD x2.toNat 0).toNat : Int) ≥ (240 : Int))) then (bif (decide (((x1.getD x2.toNat 0).toNat : Int) ≤ (244 : Int))) then (j26 4 65536 (IntKind.i64.wrap (IntKind.u8.wrap ((BitVec.ofInt IntKind.u8.bits ((x1.getD x2.toNat 0).toNat : Int) &&& BitVec.ofInt IntKind.u8.bits 7).toNat : Int)))) else (k0 0)) else (k0 0))); bif (decide (((x1.getD x2.toNat 0).toNat : Int) ≥ (194 : Int))) then (j8 (decide (((x1.getD x2.toNat 0).toNat : Int) ≤ (223 : Int)))) else (j8 false)))
noncomputable def ref02_one {R : Type} : ref02_one_ty R := fun x1 x2 k0 => ref02_one_X ref02_one_23_0_L x1 x2 k0
theorem ref02_one_ok {R : Type} (ref02_one_23_0_L : ref02_one_23_0_ty R) (x1 : Str) (x2 : Int) (k : V → Heap → Option R) : funK tt (ref02_one_E R) (ref02_one_T R ref02_one_23_0_L) false Tryd.f54 (codeOf Tryd.f54) [.str x1, .int .i64 x2] [] k =
    ref02_one_X ref02_one_23_0_L x1 x2 (fun q0 => k (.int .i64 q0) []) := by kernel_rfl
theorem ref02_one_loops (R : Type) : ∀ a ∈ loopsOf (codeOf Tryd.f54), LoopOk tt (ref02_one_E R) (ref02_one_T R ref02_one_23_0_L) 0 a := by
  refine loops_ok 1 (by kernel_rfl) fun i hi => ?_
  match i, hi with
  | 0, _ => exact loopOk_some (by kernel_rfl) (ref02_one_23_0_ok _ loopNo_ok)
  | n + 1, hi => omega
theorem ref02_one_S_ok (R : Type) (other : Yard.Spec R) (ho : Yard.Spec.Ok Tryd.prog 54 other) : Yard.Spec.Ok Tryd.prog 54 (specBy ref02_one_p ref02_one_q (ref02_one_rr ref02_one) other) :=
  specBy_ok ho (funK_sound TT mixed (ref02_one_EOk R) (keep := false) rfl rfl rfl rfl 0 (ref02_one_loops R)) fun (x : Pat.dens ref02_one_p) (y : HPat.dens ref02_one_q) k => ref02_one_ok ref02_one_23_0_L x.1 x.2.1 k

/-! ### humpyard/humpyardref02.Whole -/
abbrev ref02_Whole_ty (R : Type) : Type := Str → (Bool → Option R) → Option R
abbrev ref02_Whole_p : List Pat := [.leaf (.str)]
abbrev ref02_Whole_q : List HPat := []
noncomputable def ref02_Whole_rr {R : Type} (fn : ref02_Whole_ty R) : Pat.dens ref02_Whole_p → HPat.dens ref02_Whole_q → (V → Heap → Option R) → Option R := fun x y k => fn x.1 (fun q0 => k (.bool q0) [])
abbrev ref02_Whole_2_0_ty (R : Type) : Type := Nat → Str → Int → (Option R) → (Bool → Option R) → Option R
noncomputable def ref02_Whole_E (R : Type) (ref02_one : ref02_one_ty R) : Env R := fun i => match i with
  | 54 => some (true, (specBy ref02_one_p ref02_one_q (ref02_one_rr ref02_one) specNo))
  | _ => none
theorem ref02_Whole_EOk (R : Type) : EOk Tryd.prog (ref02_Whole_E R ref02_one) := by
  intro i b sp h
  unfold ref02_Whole_E at h
  split at h
  · cases h; exact ⟨(ref02_one_S_ok R _ (specNo_ok _)), fun h => nomatch h⟩
  · cases h

noncomputable def ref02_Whole_2_0_B {R : Type} (ref02_one : ref02_one_ty R) (rec' : Str → Int → Option R) (x2 : Str) (x3 : Int) (e0 : Option R) (e1 : Bool → Option R) : Option R :=
  bif (decide (x3 < (x2.length : Int))) then (ref02_one x2 x3 (fun y4 => bif (y4 == 0) then (e1 false) else (rec' x2 (IntKind.i64.wrap (x3 + y4))))) else (e0)
noncomputable def ref02_Whole_2_0_L {R : Type} : ref02_Whole_2_0_ty R
  | 0, _, _, _, _ => none
  | n + 1, x0', x1', e0, e1 => ref02_Whole_2_0_B ref02_one (fun x0' x1' => ref02_Whole_2_0_L n x0' x1' e0 e1) x0' x1' e0 e1
noncomputable def ref02_Whole_2_0_h : Hint := { live := [0, 3], own := [], rows := [], cells := [], drop := [], out := [2] }
abbrev ref02_Whole_2_0_D : Type := Str × Int
noncomputable def ref02_Whole_2_0_enc : ref02_Whole_2_0_D → St := fun d => ⟨[.str d.1, .undef, .undef, .int .i64 d.2, .undef, .undef, .undef, .undef, .undef, .undef, .undef, .undef, .undef, .undef, .undef, .undef, .undef], []⟩
noncomputable def ref02_Whole_2_0_x0 {R : Type} (K : Ex → St → Option R) : Option R := K (.exit 0) ⟨[.undef, .undef, .undef, .undef, .undef, .undef, .undef, .undef, .undef, .undef, .undef, .undef, .undef, .undef, .undef, .undef, .undef], []⟩
noncomputable def ref02_Whole_2_0_x1 {R : Type} (K : Ex → St → Option R) (q0 : Bool) : Option R := K (.ret) ⟨[.undef, .undef, .bool q0, .undef, .undef, .undef, .undef, .undef, .undef, .undef, .undef, .undef, .undef, .undef, .undef, .undef, .undef], []⟩
noncomputable def ref02_Whole_2_0_s {R : Type} (ref02_one : ref02_one_ty R) (K : Ex → St → Option R) (rc : ref02_Whole_2_0_D → Option R) (d : ref02_Whole_2_0_D) : Option R := ref02_Whole_2_0_B ref02_one (fun z0 z1 => rc (z0, z1)) d.1 d.2 (ref02_Whole_2_0_x0 K) (ref02_Whole_2_0_x1 K)
noncomputable def ref02_Whole_2_0_A {R : Type} (K : Ex → St → Option R) (n : Nat) (d : ref02_Whole_2_0_D) : Option R := ref02_Whole_2_0_L n d.1 d.2 (ref02_Whole_2_0_x0 K) (ref02_Whole_2_0_x1 K)
abbrev ref02_Whole_2_0_p : List Pat := [.leaf (.str), .leaf (.undef), .leaf (.undef), .leaf (.int .i64), .leaf (.undef), .leaf (.undef), .leaf (.undef), .leaf (.undef), .leaf (.undef), .leaf (.undef), .leaf (.undef), .leaf (.undef), .leaf (.undef), .leaf (.undef), .leaf (.undef), .leaf (.undef), .leaf (.undef)]
abbrev ref02_Whole_2_0_q : List HPat := []
noncomputable def ref02_Whole_2_0_f (x : Pat.dens ref02_Whole_2_0_p) (y : HPat.dens ref02_Whole_2_0_q) : Nat := (List.length x.1 + Int.natAbs x.2.2.2.1 + 64)
noncomputable def ref02_Whole_2_0_d (x : Pat.dens ref02_Whole_2_0_p) (y : HPat.dens ref02_Whole_2_0_q) : ref02_Whole_2_0_D := (x.1, x.2.2.2.1)
noncomputable def ref02_Whole_2_0_rr {R : Type} (L : ref02_Whole_2_0_ty R) : Pat.dens ref02_Whole_2_0_p → HPat.dens ref02_Whole_2_0_q → (Ex → St → Option R) → Option R := fun x y K => L (ref02_Whole_2_0_f x y) x.1 x.2.2.2.1 (ref02_Whole_2_0_x0 K) (ref02_Whole_2_0_x1 K)
noncomputable def ref02_Whole_T (R : Type) (ref02_Whole_2_0_L : ref02_Whole_2_0_ty R) : Nat → Option (Hint × LSpec R) := fun i => match i with
  | 2 => some (ref02_Whole_2_0_h, (loopBy ref02_Whole_2_0_p ref02_Whole_2_0_q (ref02_Whole_2_0_rr ref02_Whole_2_0_L) loopNo))
  | _ => none

theorem ref02_Whole_2_0_B_ok {R : Type} (ref02_one : ref02_one_ty R) (ref02_Whole_2_0_L : ref02_Whole_2_0_ty R) (K : Ex → St → Option R) (rc : St → Option R) (d : ref02_Whole_2_0_D) : roundOf tt (ref02_Whole_E R ref02_one) (ref02_Whole_T R ref02_Whole_2_0_L) 0 ((loopsOf (codeOf Tryd.f25)).getD 0 .skip) ref02_Whole_2_0_h (ref02_Whole_2_0_enc d) rc K = ref02_Whole_2_0_s ref02_one K (fun d => rc (ref02_Whole_2_0_enc d)) d := by kernel_rfl
theorem ref02_Whole_2_0_A_succ {R : Type} (K : Ex → St → Option R) (n : Nat) (d : ref02_Whole_2_0_D) : ref02_Whole_2_0_A K (n + 1) d = ref02_Whole_2_0_s ref02_one K (ref02_Whole_2_0_A K n) d := by kernel_rfl
theorem ref02_Whole_2_0_A_zero {R : Type} (K : Ex → St → Option R) (d : ref02_Whole_2_0_D) : ref02_Whole_2_0_A K 0 d = none := by kernel_rfl
theorem ref02_Whole_2_0_e_ok (x : Pat.dens ref02_Whole_2_0_p) (y : HPat.dens ref02_Whole_2_0_q) : (⟨Pat.encL ref02_Whole_2_0_p x, HPat.encL ref02_Whole_2_0_q y⟩ : St) = ref02_Whole_2_0_enc (ref02_Whole_2_0_d x y) := by kernel_rfl
theorem ref02_Whole_2_0_r_ok {R : Type} (x : Pat.dens ref02_Whole_2_0_p) (y : HPat.dens ref02_Whole_2_0_q) (K : Ex → St → Option R) : ref02_Whole_2_0_rr (ref02_Whole_2_0_L) x y K = ref02_Whole_2_0_A K (ref02_Whole_2_0_f x y) (ref02_Whole_2_0_d x y) := by kernel_rfl
theorem ref02_Whole_2_0_ok {R : Type} (other : LSpec R) (ho : LsOk tt (ref02_Whole_E R ref02_one) (ref02_Whole_T R ref02_Whole_2_0_L) 0 ((loopsOf (codeOf Tryd.f25)).getD 0 .skip) ref02_Whole_2_0_h other) : LsOk tt (ref02_Whole_E R ref02_one) (ref02_Whole_T R ref02_Whole_2_0_L) 0 ((loopsOf (codeOf Tryd.f25)).getD 0 .skip) ref02_Whole_2_0_h (loopBy ref02_Whole_2_0_p ref02_Whole_2_0_q (ref02_Whole_2_0_rr (ref02_Whole_2_0_L)) other) :=
  loopBy_tie (A := ref02_Whole_2_0_A) ho (loop_tie ref02_Whole_2_0_enc (ref02_Whole_2_0_s ref02_one) (ref02_Whole_2_0_A) (ref02_Whole_2_0_A_zero) (ref02_Whole_2_0_B_ok ref02_one ref02_Whole_2_0_L) (ref02_Whole_2_0_A_succ)) ref02_Whole_2_0_f ref02_Whole_2_0_d ref02_Whole_2_0_e_ok (ref02_Whole_2_0_r_ok)

noncomputable def ref02_Whole_X {R : Type} (ref02_Whole_2_0_L : ref02_Whole_2_0_ty R) (x1 : Str) (k0 : Bool → Option R) : Option R :=
  ref02_Whole_2_0_L (List.length x1 + Int.natAbs 0 + 64) x1 0 (k0 true) (fun y5 => k0 y5)
noncomputable def ref02_Whole {R : Type} : ref02_Whole_ty R := fun x1 k0 => ref02_Whole_X ref02_Whole_2_0_L x1 k0
theorem ref02_Whole_ok {R : Type} (ref02_one : ref02_one_ty R) (ref02_Whole_2_0_L : ref02_Whole_2_0_ty R) (x1 : Str) (k : V → Heap → Option R) : funK tt (ref02_Whole_E R ref02_one) (ref02_Whole_T R ref02_Whole_2_0_L) false Tryd.f25 (codeOf Tryd.f25) [.str x1] [] k =
    ref02_Whole_X ref02_Whole_2_0_L x1 (fun q0 => k (.bool q0) []) := by kernel_rfl
theorem ref02_Whole_loops (R : Type) : ∀ a ∈ loopsOf (codeOf Tryd.f25), LoopOk tt (ref02_Whole_E R ref02_one) (ref02_Whole_T R ref02_Whole_2_0_L) 0 a := by
  refine loops_ok 1 (by kernel_rfl) fun i hi => ?_
  match i, hi with
  | 0, _ => exact loopOk_some (by kernel_rfl) (ref02_Whole_2_0_ok _ loopNo_ok)
  | n + 1, hi => omega
theorem ref02_Whole_S_ok (R : Type) (other : Yard.Spec R) (ho : Yard.Spec.Ok Tryd.prog 25 other) : Yard.Spec.Ok Tryd.prog 25 (specBy ref02_Whole_p ref02_Whole_q (ref02_Whole_rr ref02_Whole) other) :=
  specBy_ok ho (funK_sound TT mixed (ref02_Whole_EOk R) (keep := false) rfl rfl rfl rfl 0 (ref02_Whole_loops R)) fun (x : Pat.dens ref02_Whole_p) (y : HPat.dens ref02_Whole_q) k => ref02_Whole_ok ref02_one ref02_Whole_2_0_L x.1 k

/-! ### humpyard/humpyardref02.hex -/
abbrev ref02_hex_ty (R : Type) : Type := Int → (Int → Option R) → Option R
abbrev ref02_hex_p : List Pat := [.leaf (.int .i64)]
abbrev ref02_hex_q : List HPat := []
noncomputable def ref02_hex_rr {R : Type} (fn : ref02_hex_ty R) : Pat.dens ref02_hex_p → HPat.dens ref02_hex_q → (V → Heap → Option R) → Option R := fun x y k => fn x.1 (fun q0 => k (.int .u8 q0) [])
noncomputable def ref02_hex_E (R : Type) : Env R := fun i => match i with
  | _ => none
theorem ref02_hex_EOk (R : Type) : EOk Tryd.prog (ref02_hex_E R) := by
  intro i b sp h
  unfold ref02_hex_E at h
  split at h
  · cases h

noncomputable def ref02_hex_T (R : Type) : Nat → Option (Hint × LSpec R) := fun i => match i with
  | _ => none

noncomputable def ref02_hex_X {R : Type} (x1 : Int) (k0 : Int → Option R) : Option R :=
  chk (decide ((0 : Int) ≤ (Int.tmod x1 16)) && decide ((Int.tmod x1 16) < (16 : Int))) (k0 ((([48, 49, 50, 51, 52, 53, 54, 55, 56, 57, 97, 98, 99, 100, 101, 102] : Str).getD ((Int.tmod x1 16).toNat) 0).toNat : Int))
noncomputable def ref02_hex {R : Type} : ref02_hex_ty R := fun x1 k0 => ref02_hex_X x1 k0
theorem ref02_hex_ok {R : Type} (x1 : Int) (k : V → Heap → Option R) : funK tt (ref02_hex_E R) (ref02_hex_T R) false Tryd.f44 (codeOf Tryd.f44) [.int .i64 x1] [] k =
    ref02_hex_X x1 (fun q0 => k (.int .u8 q0) []) := by kernel_rfl
theorem ref02_hex_loops (R : Type) : ∀ a ∈ loopsOf (codeOf Tryd.f44), LoopOk tt (ref02_hex_E R) (ref02_hex_T R) 0 a := by
  refine loops_ok 0 (by kernel_rfl) fun i hi => ?_
  omega
theorem ref02_hex_S_ok (R : Type) (other : Yard.Spec R) (ho : Yard.Spec.Ok Tryd.prog 44 other) : Yard.Spec.Ok Tryd.prog 44 (specBy ref02_hex_p ref02_hex_q (ref02_hex_rr ref02_hex) other) :=
  specBy_ok ho (funK_sound TT mixed (ref02_hex_EOk R) (keep := false) rfl rfl rfl rfl 0 (ref02_hex_loops R)) fun (x : Pat.dens ref02_hex_p) (y : HPat.dens ref02_hex_q) k => ref02_hex_ok x.1 k

/-! ### humpyard/humpyardref02.Quote -/
abbrev ref02_Quote_ty (R : Type) : Type := Str → (Str → Bool → Option R) → Option R
abbrev ref02_Quote_p : List Pat := [.leaf (.str)]
abbrev ref02_Quote_q : List HPat := []
noncomputable def ref02_Quote_rr {R : Type} (fn : ref02_Quote_ty R) : Pat.dens ref02_Quote_p → HPat.dens ref02_Quote_q → (V → Heap → Option R) → Option R := fun x y k => fn x.1 (fun q0 q1 => k (.tuple [.str q0, .bool q1]) [])
abbrev ref02_Quote_6_0_ty (R : Type) : Type := Nat → Str → (List Int) → Int → ((List Int) → Option R) → Option R
noncomputable def ref02_Quote_E (R : Type) (ref02_Whole : ref02_Whole_ty R) (ref02_hex : ref02_hex_ty R) : Env R := fun i => match i with
  | 25 => some (true, (specBy ref02_Whole_p ref02_Whole_q (ref02_Whole_rr ref02_Whole) specNo))
  | 44 => some (true, (specBy ref02_hex_p ref02_hex_q (ref02_hex_rr ref02_hex) specNo))
  | _ => none
theorem ref02_Quote_EOk (R : Type) : EOk Tryd.prog (ref02_Quote_E R ref02_Whole ref02_hex) := by
  intro i b sp h
  unfold ref02_Quote_E at h
  split at h
  · cases h; exact ⟨(ref02_Whole_S_ok R _ (specNo_ok _)), fun h => nomatch h⟩
  · cases h; exact ⟨(ref02_hex_S_ok R _ (specNo_ok _)), fun h => nomatch h⟩
  · cases h

noncomputable def ref02_Quote_6_0_B {R : Type} (ref02_hex : ref02_hex_ty R) (rec' : Str → (List Int) → Int → Option R) (x3 : Str) (x4 : List Int) (x5 : Int) (e0 : (List Int) → Option R) : Option R :=
  bif (decide (x5 < (x3.length : Int))) then (chk (decide ((0 : Int) ≤ x5) && decide (x5 < x3.length)) (let j9 := fun (z6 : Bool) => bif z6 then (chk (decide ((x4.length + 2) * 1 ≤ 140737488355328)) (rec' x3 ((x4 : List Int) ++ (([92, ((x3.getD x5.toNat 0).toNat : Int)] : List Int) : List Int)) (IntKind.i64.wrap (x5 + 1)))) else (bif (((x3.getD x5.toNat 0).toNat : Int) == 8) then (chk (decide ((x4.length + 2) * 1 ≤ 140737488355328)) (rec' x3 ((x4 : List Int) ++ (([92, 98] : List Int) : List Int)) (IntKind.i64.wrap (x5 + 1)))) else (bif (((x3.getD x5.toNat 0).toNat : Int) == 9) then (chk (decide ((x4.length + 2) * 1 ≤ 140737488355328)) (rec' x3 ((x4 : List Int) ++ (([92, 116] : List Int) : List Int)) (IntKind.i64.wrap (x5 + 1)))) else (bif (((x3.getD x5.toNat 0).toNat : Int) == 10) then (chk (decide ((x4.length + 2) * 1 ≤ 140737488355328)) (rec' x3 ((x4 : List Int) ++ (([92, 110] : List Int) : List Int)) (IntKind.i64.wrap (x5 + 1)))) else (bif (((x3.getD x5.toNat 0).toNat : Int) == 12) then (chk (decide ((x4.length + 2) * 1 ≤ 140737488355328)) (rec' x3 ((x4 : List Int) ++ (([92, 102] : List Int) : List Int)) (IntKind.i64.wrap (x5 + 1)))) else (bif (((x3.getD x5.toNat 0).toNat : Int) == 13) then (chk (decide ((x4.length + 2) * 1 ≤ 140737488355328)) (rec' x3 ((x4 : List Int) ++ (([92, 114] : List Int) : List Int)) (IntKind.i64.wrap (x5 + 1)))) else (bif (decide (((x3.getD x5.toNat 0).toNat : Int) < (32 : Int))) then (ref02_hex (IntKind.i64.wrap (Int.tdiv (IntKind.i64.wrap ((x3.getD x5.toNat 0).toNat : Int)) 16)) (fun y7 => ref02_hex (IntKind.i64.wrap ((x3.getD x5.toNat 0).toNat : Int)) (fun y8 => chk (decide ((x4.length + 6) * 1 ≤ 140737488355328)) (rec' x3 ((x4 : List Int) ++ (([92, 117, 48, 48, y7, y8] : List Int) : List Int)) (IntKind.i64.wrap (x5 + 1)))))) else (chk (decide ((x4.length + 1) * 1 ≤ 140737488355328)) (rec' x3 ((x4 : List Int) ++ (([((x3.getD x5.toNat 0).toNat : Int)] : List Int) : List Int)) (IntKind.i64.wrap (x5 + 1)))))))))); bif (((x3.getD x5.toNat 0).toNat : Int) == 34) then (j9 true) else (j9 (((x3.getD x5.toNat 0).toNat : Int) == 92)))) else (e0 x4)
noncomputable def ref02_Quote_6_0_L {R : Type} : ref02_Quote_6_0_ty R
  | 0, _, _, _, _ => none
  | n + 1, x0', x1', x2', e0 => ref02_Quote_6_0_B ref02_hex (fun x0' x1' x2' => ref02_Quote_6_0_L n x0' x1' x2' e0) x0' x1' x2' e0
noncomputable def ref02_Quote_6_0_h : Hint := { live := [0, 5, 6], own := [], rows := [], cells := [], drop := [], out := [2, 3, 5] }
abbrev ref02_Quote_6_0_D : Type := Str × (List Int) × Int
noncomputable def ref02_Quote_6_0_enc : ref02_Quote_6_0_D → St := fun d => ⟨[.str d.1, .undef, .undef, .undef, .undef, .sl (.int .u8) d.2.1 (.own 0), .int .i64 d.2.2, .undef, .undef, .undef, .undef, .undef, .undef, .undef, .undef, .undef, .undef, .undef, .undef, .undef, .undef, .undef, .undef, .undef, .undef, .undef, .undef, .undef, .undef, .undef, .undef, .undef, .undef, .undef, .undef, .undef, .undef, .undef, .undef, .undef, .undef, .undef, .undef, .undef, .undef, .undef, .undef, .undef, .undef, .undef, .undef, .undef, .undef, .undef, .undef, .undef, .undef, .undef, .undef, .undef, .undef, .undef, .undef, .undef, .undef, .undef, .undef, .undef, .undef, .undef, .undef, .undef, .undef, .undef, .undef, .undef, .undef, .undef, .undef, .undef, .undef, .undef, .undef, .undef], [.tok]⟩
noncomputable def ref02_Quote_6_0_x0 {R : Type} (K : Ex → St → Option R) (q0 : List Int) : Option R := K (.exit 0) ⟨[.undef, .undef, .undef, .undef, .undef, .sl (.int .u8) q0 (.own 0), .undef, .undef, .undef, .undef, .undef, .undef, .undef, .undef, .undef, .undef, .undef, .undef, .undef, .undef, .undef, .undef, .undef, .undef, .undef, .undef, .undef, .undef, .undef, .undef, .undef, .undef, .undef, .undef, .undef, .undef, .undef, .undef, .undef, .undef, .undef, .undef, .undef, .undef, .undef, .undef, .undef, .undef, .undef, .undef, .undef, .undef, .undef, .undef, .undef, .undef, .undef, .undef, .undef, .undef, .undef, .undef, .undef, .undef, .undef, .undef, .undef, .undef, .undef, .undef, .undef, .undef, .undef, .undef, .undef, .undef, .undef, .undef, .undef, .undef, .undef, .undef, .undef, .undef], [.tok]⟩
noncomputable def ref02_Quote_6_0_s {R : Type} (ref02_hex : ref02_hex_ty R) (K : Ex → St → Option R) (rc : ref02_Quote_6_0_D → Option R) (d : ref02_Quote_6_0_D) : Option R := ref02_Quote_6_0_B ref02_hex (fun z0 z1 z2 => rc (z0, z1, z2)) d.1 d.2.1 d.2.2 (ref02_Quote_6_0_x0 K)
noncomputable def ref02_Quote_6_0_A {R : Type} (K : Ex → St → Option R) (n : Nat) (d : ref02_Quote_6_0_D) : Option R := ref02_Quote_6_0_L n d.1 d.2.1 d.2.2 (ref02_Quote_6_0_x0 K)
abbrev ref02_Quote_6_0_p : List Pat := [.leaf (.str), .leaf (.undef), .leaf (.undef), .leaf (.undef), .leaf (.undef), .leaf (.slo (.int .u8) 0), .leaf (.int .i64), .leaf (.undef), .leaf (.undef), .leaf (.undef), .leaf (.undef), .leaf (.undef), .leaf (.undef), .leaf (.undef), .leaf (.undef), .leaf (.undef), .leaf (.undef), .leaf (.undef), .leaf (.undef), .leaf (.undef), .leaf (.undef), .leaf (.undef), .leaf (.undef), .leaf (.undef), .leaf (.undef), .leaf (.undef), .leaf (.undef), .leaf (.undef), .leaf (.undef), .leaf (.undef), .leaf (.undef), .leaf (.undef), .leaf (.undef), .leaf (.undef), .leaf (.undef), .leaf (.undef), .leaf (.undef), .leaf (.undef), .leaf (.undef), .leaf (.undef), .leaf (.undef), .leaf (.undef), .leaf (.undef), .leaf (.undef), .leaf (.undef), .leaf (.undef), .leaf (.undef), .leaf (.undef), .leaf (.undef), .leaf (.undef), .leaf (.undef), .leaf (.undef), .leaf (.undef), .leaf (.undef), .leaf (.undef), .leaf (.undef), .leaf (.undef), .leaf (.undef), .leaf (.undef), .leaf (.undef), .leaf (.undef), .leaf (.undef), .leaf (.undef), .leaf (.undef), .leaf (.undef), .leaf (.undef), .leaf (.undef), .leaf (.undef), .leaf (.undef), .leaf (.undef), .leaf (.undef), .leaf (.undef), .leaf (.undef), .leaf (.undef), .leaf (.undef), .leaf (.undef), .leaf (.undef), .leaf (.undef), .leaf (.undef), .leaf (.undef), .leaf (.undef), .leaf (.undef), .leaf (.undef), .leaf (.undef)]
abbrev ref02_Quote_6_0_q : List HPat := [.tok]
noncomputable def ref02_Quote_6_0_f (x : Pat.dens ref02_Quote_6_0_p) (y : HPat.dens ref02_Quote_6_0_q) : Nat := (List.length x.1 + List.length x.2.2.2.2.2.1 + Int.natAbs x.2.2.2.2.2.2.1 + 64)
noncomputable def ref02_Quote_6_0_d (x : Pat.dens ref02_Quote_6_0_p) (y : HPat.dens ref02_Quote_6_0_q) : ref02_Quote_6_0_D := (x.1, x.2.2.2.2.2.1, x.2.2.2.2.2.2.1)
noncomputable def ref02_Quote_6_0_rr {R : Type} (L : ref02_Quote_6_0_ty R) : Pat.dens ref02_Quote_6_0_p → HPat.dens ref02_Quote_6_0_q → (Ex → St → Option R) → Option R := fun x y K => L (ref02_Quote_6_0_f x y) x.1 x.2.2.2.2.2.1 x.2.2.2.2.2.2.1 (ref02_Quote_6_0_x0 K)
noncomputable def ref02_Quote_T (R : Type) (ref02_Quote_6_0_L : ref02_Quote_6_0_ty R) : Nat → Option (Hint × LSpec R) := fun i => match i with
  | 6 => some (ref02_Quote_6_0_h, (loopBy ref02_Quote_6_0_p ref02_Quote_6_0_q (ref02_Quote_6_0_rr ref02_Quote_6_0_L) loopNo))
  | _ => none

theorem ref02_Quote_6_0_B_ok {R : Type} (ref02_Whole : ref02_Whole_ty R) (ref02_hex : ref02_hex_ty R) (ref02_Quote_6_0_L : ref02_Quote_6_0_ty R) (K : Ex → St → Option R) (rc : St → Option R) (d : ref02_Quote_6_0_D) : roundOf tt (ref02_Quote_E R ref02_Whole ref02_hex) (ref02_Quote_T R ref02_Quote_6_0_L) 0 ((loopsOf (codeOf Tryd.f19)).getD 0 .skip) ref02_Quote_6_0_h (ref02_Quote_6_0_enc d) rc K = ref02_Quote_6_0_s ref02_hex K (fun d => rc (ref02_Quote_6_0_enc d)) d := by kernel_rfl
theorem ref02_Quote_6_0_A_succ {R : Type} (K : Ex → St → Option R) (n : Nat) (d : ref02_Quote_6_0_D) : ref02_Quote_6_0_A K (n + 1) d = ref02_Quote_6_0_s ref02_hex K (ref02_Quote_6_0_A K n) d := by kernel_rfl
theorem ref02_Quote_6_0_A_zero {R : Type} (K : Ex → St → Option R) (d : ref02_Quote_6_0_D) : ref02_Quote_6_0_A K 0 d = none := by kernel_rfl
theorem ref02_Quote_6_0_e_ok (x : Pat.dens ref02_Quote_6_0_p) (y : HPat.dens ref02_Quote_6_0_q) : (⟨Pat.encL ref02_Quote_6_0_p x, HPat.encL ref02_Quote_6_0_q y⟩ : St) = ref02_Quote_6_0_enc (ref02_Quote_6_0_d x y) := by kernel_rfl
theorem ref02_Quote_6_0_r_ok {R : Type} (x : Pat.dens ref02_Quote_6_0_p) (y : HPat.dens ref02_Quote_6_0_q) (K : Ex → St → Option R) : ref02_Quote_6_0_rr (ref02_Quote_6_0_L) x y K = ref02_Quote_6_0_A K (ref02_Quote_6_0_f x y) (ref02_Quote_6_0_d x y) := by kernel_rfl
theorem ref02_Quote_6_0_ok {R : Type} (other : LSpec R) (ho : LsOk tt (ref02_Quote_E R ref02_Whole ref02_hex) (ref02_Quote_T R ref02_Quote_6_0_L) 0 ((loopsOf (codeOf Tryd.f19)).getD 0 .skip) ref02_Quote_6_0_h other) : LsOk tt (ref02_Quote_E R ref02_Whole ref02_hex) (ref02_Quote_T R ref02_Quote_6_0_L) 0 ((loopsOf (codeOf Tryd.f19)).getD 0 .skip) ref02_Quote_6_0_h (loopBy ref02_Quote_6_0_p ref02_Quote_6_0_q (ref02_Quote_6_0_rr (ref02_Quote_6_0_L)) other) :=
  loopBy_tie (A := ref02_Quote_6_0_A) ho (loop_tie ref02_Quote_6_0_enc (ref02_Quote_6_0_s ref02_hex) (ref02_Quote_6_0_A) (ref02_Quote_6_0_A_zero) (ref02_Quote_6_0_B_ok ref02_Whole ref02_hex ref02_Quote_6_0_L) (ref02_Quote_6_0_A_succ)) ref02_Quote_6_0_f ref02_Quote_6_0_d ref02_Quote_6_0_e_ok (ref02_Quote_6_0_r_ok)

noncomputable def ref02_Quote_X {R : Type} (ref02_Whole : ref02_Whole_ty R) (ref02_Quote_6_0_L : ref02_Quote_6_0_ty R) (x1 : Str) (k0 : Str → Bool → Option R) : Option R :=
  ref02_Whole x1 (fun y2 => bif (!y2) then (k0 ([] : Str) false) else (ref02_Quote_6_0_L (List.length x1 + List.length ([34] : List Int) + Int.natAbs 0 + 64) x1 ([34] : List Int) 0 (fun y11 => chk (decide ((y11.length + 1) * 1 ≤ 140737488355328)) (k0 (List.map (fun n : Int => UInt8.ofNat n.toNat) ((y11 : List Int) ++ (([34] : List Int) : List Int)) : Str) true))))
noncomputable def ref02_Quote {R : Type} : ref02_Quote_ty R := fun x1 k0 => ref02_Quote_X ref02_Whole ref02_Quote_6_0_L x1 k0
theorem ref02_Quote_ok {R : Type} (ref02_Whole : ref02_Whole_ty R) (ref02_hex : ref02_hex_ty R) (ref02_Quote_6_0_L : ref02_Quote_6_0_ty R) (x1 : Str) (k : V → Heap → Option R) : funK tt (ref02_Quote_E R ref02_Whole ref02_hex) (ref02_Quote_T R ref02_Quote_6_0_L) false Tryd.f19 (codeOf Tryd.f19) [.str x1] [] k =
    ref02_Quote_X ref02_Whole ref02_Quote_6_0_L x1 (fun q0 q1 => k (.tuple [.str q0, .bool q1]) []) := by kernel_rfl
theorem ref02_Quote_loops (R : Type) : ∀ a ∈ loopsOf (codeOf Tryd.f19), LoopOk tt (ref02_Quote_E R ref02_Whole ref02_hex) (ref02_Quote_T R ref02_Quote_6_0_L) 0 a := by
  refine loops_ok 1 (by kernel_rfl) fun i hi => ?_
  match i, hi with
  | 0, _ => exact loopOk_some (by kernel_rfl) (ref02_Quote_6_0_ok _ loopNo_ok)
  | n + 1, hi => omega
theorem ref02_Quote_S_ok (R : Type) (other : Yard.Spec R) (ho : Yard.Spec.Ok Tryd.prog 19 other) : Yard.Spec.Ok Tryd.prog 19 (specBy ref02_Quote_p ref02_Quote_q (ref02_Quote_rr ref02_Quote) other) :=
  specBy_ok ho (funK_sound TT mixed (ref02_Quote_EOk R) (keep := false) rfl rfl rfl rfl 0 (ref02_Quote_loops R)) fun (x : Pat.dens ref02_Quote_p) (y : HPat.dens ref02_Quote_q) k => ref02_Quote_ok ref02_Whole ref02_hex ref02_Quote_6_0_L x.1 k

end Go.Proofs.YtifgegmnngfckaaDoor

/-
  Functions of the program as pure Lean functions, and the ties; printed by wip/tools/emit.py.
-/
set_option maxRecDepth 100000
set_option linter.unusedVariables false
namespace Go.Proofs.YtifgegmnngfckaaDoor
open Go Go.Yard

/-! ### humpyard/humpyardref02.four -/
abbrev ref02_four_ty (R : Type) : Type := Str → Int → (Int → Option R) → Option R
abbrev ref02_four_p : List Pat := [.leaf (.str), .leaf (.int .i64)]
abbrev ref02_four_q : List HPat := []
noncomputable def ref02_four_rr {R : Type} (fn : ref02_four_ty R) : Pat.dens ref02_four_p → HPat.dens ref02_four_q → (V → Heap → Option R) → Option R := fun x y k => fn x.1 x.2.1 (fun q0 => k (.int .i64 q0) [])
abbrev ref02_four_5_0_ty (R : Type) : Type := Nat → Str → Int → Int → Int → (Int → Option R) → (Int → Int → Option R) → Option R
noncomputable def ref02_four_E (R : Type) : Env R := fun i => match i with
  | _ => none
theorem ref02_four_EOk (R : Type) : EOk Tryd.prog (ref02_four_E R) := by
  intro i b sp h
  unfold ref02_four_E at h
  split at h
  · cases h

noncomputable def ref02_four_5_0_B {R : Type} (rec' : Str → Int → Int → Int → Option R) (x3 : Str) (x4 : Int) (x5 : Int) (x6 : Int) (e0 : Int → Option R) (e1 : Int → Int → Option R) : Option R :=
  bif (decide (x6 < (IntKind.i64.wrap (x4 + 4)))) then (chk (decide ((0 : Int) ≤ x6) && decide (x6 < x3.length)) (let j12 := fun (z7 : Bool) => bif z7 then (rec' x3 x4 (IntKind.i64.wrap ((IntKind.i64.wrap (16 * x5)) + (IntKind.i64.wrap (IntKind.u8.wrap (((x3.getD x6.toNat 0).toNat : Int) - 48))))) (IntKind.i64.wrap (x6 + 1))) else (bif (decide (((x3.getD x6.toNat 0).toNat : Int) ≥ (97 : Int))) then (bif (decide (((x3.getD x6.toNat 0).toNat : Int) ≤ (102 : Int))) then (rec' x3 x4 (IntKind.i64.wrap ((IntKind.i64.wrap (16 * x5)) + (IntKind.i64.wrap ((IntKind.i64.wrap (IntKind.u8.wrap (((x3.getD x6.toNat 0).toNat : Int) - 97))) + 10)))) (IntKind.i64.wrap (x6 + 1))) else (bif (decide (((x3.getD x6.toNat 0).toNat : Int) ≥ (65 : Int))) then (bif (decide (((x3.getD x6.toNat 0).toNat : Int) ≤ (70 : Int))) then (rec' x3 x4 (IntKind.i64.wrap ((IntKind.i64.wrap (16 * x5)) + (IntKind.i64.wrap ((IntKind.i64.wrap (IntKind.u8.wrap (((x3.getD x6.toNat 0).toNat : Int) - 65))) + 10)))) (IntKind.i64.wrap (x6 + 1))) else (e1 (-1) x5)) else (e1 (-1) x5))) else (bif (decide (((x3.getD x6.toNat 0).toNat : Int) ≥ (65 : Int))) then (bif (decide (((x3.getD x6.toNat 0).toNat : Int) ≤ (70 : Int))) then (rec' x3 x4 (IntKind.i64.wrap ((IntKind.i64.wrap (16 * x5)) + (IntKind.i64.wrap ((IntKind.i64.wrap (IntKind.u8.wrap (((x3.getD x6.toNat 0).toNat : Int) - 65))) + 10)))) (IntKind.i64.wrap (x6 + 1))) else (e1 (-1) x5)) else (e1 (-1) x5))); bif (decide (((x3.getD x6.toNat 0).toNat : Int) ≥ (48 : Int))) then (j12 (decide (((x3.getD x6.toNat 0).toNat : Int) ≤ (57 : Int)))) else (j12 false))) else (e0 x5)
noncomputable def ref02_four_5_0_L {R : Type} : ref02_four_5_0_ty R
  | 0, _, _, _, _, _, _ => none
  | n + 1, x0', x1', x2', x3', e0, e1 => ref02_four_5_0_B (fun x0' x1' x2' x3' => ref02_four_5_0_L n x0' x1' x2' x3' e0 e1) x0' x1' x2' x3' e0 e1
noncomputable def ref02_four_5_0_h : Hint := { live := [0, 1, 5, 6], own := [], rows := [], cells := [], drop := [], out := [4, 5] }
abbrev ref02_four_5_0_D : Type := Str × Int × Int × Int
noncomputable def ref02_four_5_0_enc : ref02_four_5_0_D → St := fun d => ⟨[.str d.1, .int .i64 d.2.1, .undef, .undef, .undef, .int .i64 d.2.2.1, .int .i64 d.2.2.2, .undef, .undef, .undef, .undef, .undef, .undef, .undef, .undef, .undef, .undef, .undef, .undef, .undef, .undef, .undef, .undef, .undef, .undef, .undef, .undef, .undef, .undef, .undef, .undef, .undef, .undef, .undef, .undef, .undef, .undef, .undef, .undef, .undef, .undef, .undef, .undef, .undef, .undef, .undef, .undef, .undef, .undef, .undef, .undef, .undef, .undef, .undef, .undef, .undef, .undef, .undef, .undef, .undef, .undef], []⟩
noncomputable def ref02_four_5_0_x0 {R : Type} (K : Ex → St → Option R) (q0 : Int) : Option R := K (.exit 0) ⟨[.undef, .undef, .undef, .undef, .undef, .int .i64 q0, .undef, .undef, .undef, .undef, .undef, .undef, .undef, .undef, .undef, .undef, .undef, .undef, .undef, .undef, .undef, .undef, .undef, .undef, .undef, .undef, .undef, .undef, .undef, .undef, .undef, .undef, .undef, .undef, .undef, .undef, .undef, .undef, .undef, .undef, .undef, .undef, .undef, .undef, .undef, .undef, .undef, .undef, .undef, .undef, .undef, .undef, .undef, .undef, .undef, .undef, .undef, .undef, .undef, .undef, .undef], []⟩
noncomputable def ref02_four_5_0_x1 {R : Type} (K : Ex → St → Option R) (q0 : Int) (q1 : Int) : Option R := K (.ret) ⟨[.undef, .undef, .undef, .undef, .int .i64 q0, .int .i64 q1, .undef, .undef, .undef, .undef, .undef, .undef, .undef, .undef, .undef, .undef, .undef, .undef, .undef, .undef, .undef, .undef, .undef, .undef, .undef, .undef, .undef, .undef, .undef, .undef, .undef, .undef, .undef, .undef, .undef, .undef, .undef, .undef, .undef, .undef, .undef, .undef, .undef, .undef, .undef, .undef, .undef, .undef, .undef, .undef, .undef, .undef, .undef, .undef, .undef, .undef, .undef, .undef, .undef, .undef, .undef], []⟩
noncomputable def ref02_four_5_0_s {R : Type} (K : Ex → St → Option R) (rc : ref02_four_5_0_D → Option R) (d : ref02_four_5_0_D) : Option R := ref02_four_5_0_B (fun z0 z1 z2 z3 => rc (z0, z1, z2, z3)) d.1 d.2.1 d.2.2.1 d.2.2.2 (ref02_four_5_0_x0 K) (ref02_four_5_0_x1 K)
noncomputable def ref02_four_5_0_A {R : Type} (K : Ex → St → Option R) (n : Nat) (d : ref02_four_5_0_D) : Option R := ref02_four_5_0_L n d.1 d.2.1 d.2.2.1 d.2.2.2 (ref02_four_5_0_x0 K) (ref02_four_5_0_x1 K)
abbrev ref02_four_5_0_p : List Pat := [.leaf (.str), .leaf (.int .i64), .leaf (.undef), .leaf (.undef), .leaf (.undef), .leaf (.int .i64), .leaf (.int .i64), .leaf (.undef), .leaf (.undef), .leaf (.undef), .leaf (.undef), .leaf (.undef), .leaf (.undef), .leaf (.undef), .leaf (.undef), .leaf (.undef), .leaf (.undef), .leaf (.undef), .leaf (.undef), .leaf (.undef), .leaf (.undef), .leaf (.undef), .leaf (.undef), .leaf (.undef), .leaf (.undef), .leaf (.undef), .leaf (.undef), .leaf (.undef), .leaf (.undef), .leaf (.undef), .leaf (.undef), .leaf (.undef), .leaf (.undef), .leaf (.undef), .leaf (.undef), .leaf (.undef), .leaf (.undef), .leaf (.undef), .leaf (.undef), .leaf (.undef), .leaf (.undef), .leaf (.undef), .leaf (.undef), .leaf (.undef), .leaf (.undef), .leaf (.undef), .leaf (.undef), .leaf (.undef), .leaf (.undef), .leaf (.undef), .leaf (.undef), .leaf (.undef), .leaf (.undef), .leaf (.undef), .leaf (.undef), .leaf (.undef), .leaf (.undef), .leaf (.undef), .leaf (.undef), .leaf (.undef), .leaf (.undef)]
abbrev ref02_four_5_0_q : List HPat := []
noncomputable def ref02_four_5_0_f (x : Pat.dens ref02_four_5_0_p) (y : HPat.dens ref02_four_5_0_q) : Nat := (List.length x.1 + Int.natAbs x.2.1 + Int.natAbs x.2.2.2.2.2.1 + Int.natAbs x.2.2.2.2.2.2.1 + 64)
noncomputable def ref02_four_5_0_d (x : Pat.dens ref02_four_5_0_p) (y : HPat.dens ref02_four_5_0_q) : ref02_four_5_0_D := (x.1, x.2.1, x.2.2.2.2.2.1, x.2.2.2.2.2.2.1)
noncomputable def ref02_four_5_0_rr {R : Type} (L : ref02_four_5_0_ty R) : Pat.dens ref02_four_5_0_p → HPat.dens ref02_four_5_0_q → (Ex → St → Option R) → Option R := fun x y K => L (ref02_four_5_0_f x y) x.1 x.2.1 x.2.2.2.2.2.1 x.2.2.2.2.2.2.1 (ref02_four_5_0_x0 K) (ref02_four_5_0_x1 K)
noncomputable def ref02_four_T (R : Type) (ref02_four_5_0_L : ref02_four_5_0_ty R) : Nat → Option (Hint × LSpec R) := fun i => match i with
  | 5 => some (ref02_four_5_0_h, (loopBy ref02_four_5_0_p ref02_four_5_0_q (ref02_four_5_0_rr ref02_four_5_0_L) loopNo))
  | _ => none

theorem ref02_four_5_0_B_ok {R : Type} (ref02_four_5_0_L : ref02_four_5_0_ty R) (K : Ex → St → Option R) (rc : St → Option R) (d : ref02_four_5_0_D) : roundOf tt (ref02_four_E R) (ref02_four_T R ref02_four_5_0_L) 0 ((loopsOf (codeOf Tryd.f77)).getD 0 .skip) ref02_four_5_0_h (ref02_four_5_0_enc d) rc K = ref02_four_5_0_s K (fun d => rc (ref02_four_5_0_enc d)) d := by kernel_rfl
theorem ref02_four_5_0_A_succ {R : Type} (K : Ex → St → Option R) (n : Nat) (d : ref02_four_5_0_D) : ref02_four_5_0_A K (n + 1) d = ref02_four_5_0_s K (ref02_four_5_0_A K n) d := by kernel_rfl
theorem ref02_four_5_0_A_zero {R : Type} (K : Ex → St → Option R) (d : ref02_four_5_0_D) : ref02_four_5_0_A K 0 d = none := by kernel_rfl
theorem ref02_four_5_0_e_ok (x : Pat.dens ref02_four_5_0_p) (y : HPat.dens ref02_four_5_0_q) : (⟨Pat.encL ref02_four_5_0_p x, HPat.encL ref02_four_5_0_q y⟩ : St) = ref02_four_5_0_enc (ref02_four_5_0_d x y) := by kernel_rfl
theorem ref02_four_5_0_r_ok {R : Type} (x : Pat.dens ref02_four_5_0_p) (y : HPat.dens ref02_four_5_0_q) (K : Ex → St → Option R) : ref02_four_5_0_rr (ref02_four_5_0_L) x y K = ref02_four_5_0_A K (ref02_four_5_0_f x y) (ref02_four_5_0_d x y) := by kernel_rfl
theorem ref02_four_5_0_ok {R : Type} (other : LSpec R) (ho : LsOk tt (ref02_four_E R) (ref02_four_T R ref02_four_5_0_L) 0 ((loopsOf (codeOf Tryd.f77)).getD 0 .skip) ref02_four_5_0_h other) : LsOk tt (ref02_four_E R) (ref02_four_T R ref02_four_5_0_L) 0 ((loopsOf (codeOf Tryd.f77)).getD 0 .skip) ref02_four_5_0_h (loopBy ref02_four_5_0_p ref02_four_5_0_q (ref02_four_5_0_rr (ref02_four_5_0_L)) other) :=
  loopBy_tie (A := ref02_four_5_0_A) ho (loop_tie ref02_four_5_0_enc (ref02_four_5_0_s) (ref02_four_5_0_A) (ref02_four_5_0_A_zero) (ref02_four_5_0_B_ok ref02_four_5_0_L) (ref02_four_5_0_A_succ)) ref02_four_5_0_f ref02_four_5_0_d ref02_four_5_0_e_ok (ref02_four_5_0_r_ok)

noncomputable def ref02_four_X {R : Type} (ref02_four_5_0_L : ref02_four_5_0_ty R) (x1 : Str) (x2 : Int) (k0 : Int → Option R) : Option R :=
  bif (decide ((IntKind.i64.wrap (x2 + 4)) > (x1.length : Int))) then (k0 (-1)) else (ref02_four_5_0_L (List.length x1 + Int.natAbs x2 + Int.natAbs 0 + Int.natAbs x2 + 64) x1 x2 0 x2 (fun y15 => k0 y15) (fun y16 y17 => k0 y16))
noncomputable def ref02_four {R : Type} : ref02_four_ty R := fun x1 x2 k0 => ref02_four_X ref02_four_5_0_L x1 x2 k0
theorem ref02_four_ok {R : Type} (ref02_four_5_0_L : ref02_four_5_0_ty R) (x1 : Str) (x2 : Int) (k : V → Heap → Option R) : funK tt (ref02_four_E R) (ref02_four_T R ref02_four_5_0_L) false Tryd.f77 (codeOf Tryd.f77) [.str x1, .int .i64 x2] [] k =
    ref02_four_X ref02_four_5_0_L x1 x2 (fun q0 => k (.int .i64 q0) []) := by kernel_rfl
theorem ref02_four_loops (R : Type) : ∀ a ∈ loopsOf (codeOf Tryd.f77), LoopOk tt (ref02_four_E R) (ref02_four_T R ref02_four_5_0_L) 0 a := by
  refine loops_ok 1 (by kernel_rfl) fun i hi => ?_
  match i, hi with
  | 0, _ => exact loopOk_some (by kernel_rfl) (ref02_four_5_0_ok _ loopNo_ok)
  | n + 1, hi => omega
theorem ref02_four_S_ok (R : Type) (other : Yard.Spec R) (ho : Yard.Spec.Ok Tryd.prog 77 other) : Yard.Spec.Ok Tryd.prog 77 (specBy ref02_four_p ref02_four_q (ref02_four_rr ref02_four) other) :=
  specBy_ok ho (funK_sound TT mixed (ref02_four_EOk R) (keep := false) rfl rfl rfl rfl 0 (ref02_four_loops R)) fun (x : Pat.dens ref02_four_p) (y : HPat.dens ref02_four_q) k => ref02_four_ok ref02_four_5_0_L x.1 x.2.1 k

/-! ### humpyard/humpyardref02.laid -/
abbrev ref02_laid_ty (R : Type) : Type := Int → ((List Int) → Option R) → Option R
abbrev ref02_laid_p : List Pat := [.leaf (.int .i64)]
abbrev ref02_laid_q : List HPat := []
noncomputable def ref02_laid_rr {R : Type} (fn : ref02_laid_ty R) : Pat.dens ref02_laid_p → HPat.dens ref02_laid_q → (V → Heap → Option R) → Option R := fun x y k => fn x.1 (fun q0 => k (.sl (.int .u8) q0 .no) [])
noncomputable def ref02_laid_E (R : Type) : Env R := fun i => match i with
  | _ => none
theorem ref02_laid_EOk (R : Type) : EOk Tryd.prog (ref02_laid_E R) := by
  intro i b sp h
  unfold ref02_laid_E at h
  split at h
  · cases h

noncomputable def ref02_laid_T (R : Type) : Nat → Option (Hint × LSpec R) := fun i => match i with
  | _ => none

noncomputable def ref02_laid_X {R : Type} (x1 : Int) (k0 : (List Int) → Option R) : Option R :=
  bif (decide (x1 < (128 : Int))) then (k0 ([(IntKind.u8.wrap x1)] : List Int)) else (bif (decide (x1 < (2048 : Int))) then (k0 ([(IntKind.u8.wrap (IntKind.i64.wrap ((BitVec.ofInt IntKind.i64.bits 192 ||| BitVec.ofInt IntKind.i64.bits (Int.fdiv x1 (2 ^ (min 6 IntKind.i64.bits)))).toNat : Int))), (IntKind.u8.wrap (IntKind.i64.wrap ((BitVec.ofInt IntKind.i64.bits 128 ||| BitVec.ofInt IntKind.i64.bits (IntKind.i64.wrap ((BitVec.ofInt IntKind.i64.bits x1 &&& BitVec.ofInt IntKind.i64.bits 63).toNat : Int))).toNat : Int)))] : List Int)) else (bif (decide (x1 < (65536 : Int))) then (k0 ([(IntKind.u8.wrap (IntKind.i64.wrap ((BitVec.ofInt IntKind.i64.bits 224 ||| BitVec.ofInt IntKind.i64.bits (Int.fdiv x1 (2 ^ (min 12 IntKind.i64.bits)))).toNat : Int))), (IntKind.u8.wrap (IntKind.i64.wrap ((BitVec.ofInt IntKind.i64.bits 128 ||| BitVec.ofInt IntKind.i64.bits (IntKind.i64.wrap ((BitVec.ofInt IntKind.i64.bits (Int.fdiv x1 (2 ^ (min 6 IntKind.i64.bits))) &&& BitVec.ofInt IntKind.i64.bits 63).toNat : Int))).toNat : Int))), (IntKind.u8.wrap (IntKind.i64.wrap ((BitVec.ofInt IntKind.i64.bits 128 ||| BitVec.ofInt IntKind.i64.bits (IntKind.i64.wrap ((BitVec.ofInt IntKind.i64.bits x1 &&& BitVec.ofInt IntKind.i64.bits 63).toNat : Int))).toNat : Int)))] : List Int)) else (k0 ([(IntKind.u8.wrap (IntKind.i64.wrap ((BitVec.ofInt IntKind.i64.bits 240 ||| BitVec.ofInt IntKind.i64.bits (Int.fdiv x1 (2 ^ (min 18 IntKind.i64.bits)))).toNat : Int))), (IntKind.u8.wrap (IntKind.i64.wrap ((BitVec.ofInt IntKind.i64.bits 128 ||| BitVec.ofInt IntKind.i64.bits (IntKind.i64.wrap ((BitVec.ofInt IntKind.i64.bits (Int.fdiv x1 (2 ^ (min 12 IntKind.i64.bits))) &&& BitVec.ofInt IntKind.i64.bits 63).toNat : Int))).toNat : Int))), (IntKind.u8.wrap (IntKind.i64.wrap ((BitVec.ofInt IntKind.i64.bits 128 ||| BitVec.ofInt IntKind.i64.bits (IntKind.i64.wrap ((BitVec.ofInt IntKind.i64.bits (Int.fdiv x1 (2 ^ (min 6 IntKind.i64.bits))) &&& BitVec.ofInt IntKind.i64.bits 63).toNat : Int))).toNat : Int))), (IntKind.u8.wrap (IntKind.i64.wrap ((BitVec.ofInt IntKind.i64.bits 128 ||| BitVec.ofInt IntKind.i64.bits (IntKind.i64.wrap ((BitVec.ofInt IntKind.i64.bits x1 &&& BitVec.ofInt IntKind.i64.bits 63).toNat : Int))).toNat : Int)))] : List Int))))
noncomputable def ref02_laid {R : Type} : ref02_laid_ty R := fun x1 k0 => ref02_laid_X x1 k0
theorem ref02_laid_ok {R : Type} (x1 : Int) (k : V → Heap → Option R) : funK tt (ref02_laid_E R) (ref02_laid_T R) false Tryd.f78 (codeOf Tryd.f78) [.int .i64 x1] [] k =
    ref02_laid_X x1 (fun q0 => k (.sl (.int .u8) q0 .no) []) := by kernel_rfl
theorem ref02_laid_loops (R : Type) : ∀ a ∈ loopsOf (codeOf Tryd.f78), LoopOk tt (ref02_laid_E R) (ref02_laid_T R) 0 a := by
  refine loops_ok 0 (by kernel_rfl) fun i hi => ?_
  omega
theorem ref02_laid_S_ok (R : Type) (other : Yard.Spec R) (ho : Yard.Spec.Ok Tryd.prog 78 other) : Yard.Spec.Ok Tryd.prog 78 (specBy ref02_laid_p ref02_laid_q (ref02_laid_rr ref02_laid) other) :=
  specBy_ok ho (funK_sound TT mixed (ref02_laid_EOk R) (keep := false) rfl rfl rfl rfl 0 (ref02_laid_loops R)) fun (x : Pat.dens ref02_laid_p) (y : HPat.dens ref02_laid_q) k => ref02_laid_ok x.1 k

/-! ### humpyard/humpyardref02.escape -/
abbrev ref02_escape_ty (R : Type) : Type := Str → Int → ((List Int) → Int → Option R) → Option R
abbrev ref02_escape_p : List Pat := [.leaf (.str), .leaf (.int .i64)]
abbrev ref02_escape_q : List HPat := []
noncomputable def ref02_escape_rr {R : Type} (fn : ref02_escape_ty R) : Pat.dens ref02_escape_p → HPat.dens ref02_escape_q → (V → Heap → Option R) → Option R := fun x y k => fn x.1 x.2.1 (fun q0 q1 => k (.tuple [.sl (.int .u8) q0 .no, .int .i64 q1]) [])
noncomputable def ref02_escape_E (R : Type) (ref02_four : ref02_four_ty R) (ref02_laid : ref02_laid_ty R) : Env R := fun i => match i with
  | 77 => some (true, (specBy ref02_four_p ref02_four_q (ref02_four_rr ref02_four) specNo))
  | 78 => some (true, (specBy ref02_laid_p ref02_laid_q (ref02_laid_rr ref02_laid) specNo))
  | _ => none
theorem ref02_escape_EOk (R : Type) : EOk Tryd.prog (ref02_escape_E R ref02_four ref02_laid) := by
  intro i b sp h
  unfold ref02_escape_E at h
  split at h
  · cases h; exact ⟨(ref02_four_S_ok R _ (specNo_ok _)), fun h => nomatch h⟩
  · cases h; exact ⟨(ref02_laid_S_ok R _ (specNo_ok _)), fun h => nomatch h⟩
  · cases h

noncomputable def ref02_escape_T (R : Type) : Nat → Option (Hint × LSpec R) := fun i => match i with
  | _ => none

noncomputable def ref02_escape_X {R : Type} (ref02_four : ref02_four_ty R) (ref02_laid : ref02_laid_ty R) (x1 : Str) (x2 : Int) (k0 : (List Int) → Int → Option R) : Option R :=
  bif (decide (x2 ≥ (x1.length : Int))) then (k0 ([] : List Int) 0) else (chk (decide ((0 : Int) ≤ x2) && decide (x2 < x1.length)) (let j15 := fun (z3 : Bool) => bif z3 then (chk (decide ((0 : Int) ≤ x2) && decide (x2 < x1.length)) (k0 ([((x1.getD x2.toNat 0).toNat : Int)] : List Int) 1)) else (bif (((x1.getD x2.toNat 0).toNat : Int) == 98) then (k0 ([8] : List Int) 1) else (bif (((x1.getD x2.toNat 0).toNat : Int) == 102) then (k0 ([12] : List Int) 1) else (bif (((x1.getD x2.toNat 0).toNat : Int) == 110) then (k0 ([10] : List Int) 1) else (bif (((x1.getD x2.toNat 0).toNat : Int) == 114) then (k0 ([13] : List Int) 1) else (bif (((x1.getD x2.toNat 0).toNat : Int) == 116) then (k0 ([9] : List Int) 1) else (bif (((x1.getD x2.toNat 0).toNat : Int) == 117) then (ref02_four x1 (IntKind.i64.wrap (x2 + 1)) (fun y4 => let j14 := bif (decide (y4 < (55296 : Int))) then (ref02_laid y4 (fun y8 => k0 y8 5)) else (bif (decide (y4 > (57343 : Int))) then (ref02_laid y4 (fun y9 => k0 y9 5)) else (bif (decide ((IntKind.i64.wrap (x2 + 7)) > (x1.length : Int))) then (k0 ([] : List Int) 0) else (chk (decide ((0 : Int) ≤ (IntKind.i64.wrap (x2 + 5))) && decide ((IntKind.i64.wrap (x2 + 5)) < x1.length)) (bif (((x1.getD ((IntKind.i64.wrap (x2 + 5)).toNat) 0).toNat : Int) != 92) then (k0 ([] : List Int) 0) else (chk (decide ((0 : Int) ≤ (IntKind.i64.wrap (x2 + 6))) && decide ((IntKind.i64.wrap (x2 + 6)) < x1.length)) (bif (((x1.getD ((IntKind.i64.wrap (x2 + 6)).toNat) 0).toNat : Int) != 117) then (k0 ([] : List Int) 0) else (ref02_four x1 (IntKind.i64.wrap (x2 + 7)) (fun y11 => bif (decide (y11 < (56320 : Int))) then (k0 ([] : List Int) 0) else (bif (decide (y11 > (57343 : Int))) then (k0 ([] : List Int) 0) else (ref02_laid (IntKind.i64.wrap ((IntKind.i64.wrap ((IntKind.i64.wrap (65536 + (IntKind.i64.wrap ((IntKind.i64.wrap (y4 - 55296)) * 2 ^ (min 10 IntKind.i64.bits))))) + y11)) - 56320)) (fun y13 => k0 y13 11))))))))))); bif (decide (y4 < (0 : Int))) then (k0 ([] : List Int) 0) else (bif (decide (y4 ≥ (56320 : Int))) then (bif (decide (y4 ≤ (57343 : Int))) then (k0 ([] : List Int) 0) else (j14)) else (j14)))) else (k0 ([] : List Int) 0))))))); bif (((x1.getD x2.toNat 0).toNat : Int) == 34) then (j15 (((x1.getD x2.toNat 0).toNat : Int) == 34)) else (bif (((x1.getD x2.toNat 0).toNat : Int) == 92) then (j15 (((x1.getD x2.toNat 0).toNat : Int) == 92)) else (j15 (((x1.getD x2.toNat 0).toNat : Int) == 47)))))
noncomputable def ref02_escape {R : Type} : ref02_escape_ty R := fun x1 x2 k0 => ref02_escape_X ref02_four ref02_laid x1 x2 k0
theorem ref02_escape_ok {R : Type} (ref02_four : ref02_four_ty R) (ref02_laid : ref02_laid_ty R) (x1 : Str) (x2 : Int) (k : V → Heap → Option R) : funK tt (ref02_escape_E R ref02_four ref02_laid) (ref02_escape_T R) false Tryd.f53 (codeOf Tryd.f53) [.str x1, .int .i64 x2] [] k =
    ref02_escape_X ref02_four ref02_laid x1 x2 (fun q0 q1 => k (.tuple [.sl (.int .u8) q0 .no, .int .i64 q1]) []) := by kernel_rfl
theorem ref02_escape_loops (R : Type) : ∀ a ∈ loopsOf (codeOf Tryd.f53), LoopOk tt (ref02_escape_E R ref02_four ref02_laid) (ref02_escape_T R) 0 a := by
  refine loops_ok 0 (by kernel_rfl) fun i hi => ?_
  omega
theorem ref02_escape_S_ok (R : Type) (other : Yard.Spec R) (ho : Yard.Spec.Ok Tryd.prog 53 other) : Yard.Spec.Ok Tryd.prog 53 (specBy ref02_escape_p ref02_escape_q (ref02_escape_rr ref02_escape) other) :=
  specBy_ok ho (funK_sound TT mixed (ref02_escape_EOk R) (keep := false) rfl rfl rfl rfl 0 (ref02_escape_loops R)) fun (x : Pat.dens ref02_escape_p) (y : HPat.dens ref02_escape_q) k => ref02_escape_ok ref02_four ref02_laid x.1 x.2.1 k

end Go.Proofs.YtifgegmnngfckaaDoor

/-
  Functions of the program as pure Lean functions, and the ties; printed by wip/tools/emit.py.
-/
set_option maxRecDepth 100000
set_option linter.unusedVariables false
namespace Go.Proofs.YtifgegmnngfckaaDoor
open Go Go.Yard

/-! ### humpyard/humpyardlaw02.QuoteBack -/
abbrev law02_QuoteBack_ty (R : Type) : Type := Str → (List Int) → Str → (Bool → Option R) → Option R
abbrev law02_QuoteBack_p : List Pat := [.leaf (.str), .leaf (.sl (.int .i64)), .leaf (.str)]
abbrev law02_QuoteBack_q : List HPat := []
noncomputable def law02_QuoteBack_rr {R : Type} (fn : law02_QuoteBack_ty R) : Pat.dens law02_QuoteBack_p → HPat.dens law02_QuoteBack_q → (V → Heap → Option R) → Option R := fun x y k => fn x.1 x.2.1 x.2.2.1 (fun q0 => k (.bool q0) [])
abbrev law02_QuoteBack_3_0_ty (R : Type) : Type := Nat → (List Int) → Str → Bool → (List Str) → Int → Int → ((List Int) → Bool → Option R) → ((List Int) → Bool → Bool → Option R) → Option R
noncomputable def law02_QuoteBack_E (R : Type) (law02_awake : law02_awake_ty R) (law02_Text : law02_Text_ty R) (quote_Quote : quote_Quote_ty R) (quote_Unquote : quote_Unquote_ty R) (quote_Whole : quote_Whole_ty R) : Env R := fun i => match i with
  | 17 => some (true, (specBy law02_awake_p law02_awake_q (law02_awake_rr law02_awake) specNo))
  | 18 => some (true, (specBy law02_Text_p law02_Text_q (law02_Text_rr law02_Text) specNo))
  | 21 => some (true, (specBy quote_Quote_p quote_Quote_q (quote_Quote_rr quote_Quote) specNo))
  | 22 => some (true, (specBy quote_Unquote_p quote_Unquote_q (quote_Unquote_rr quote_Unquote) specNo))
  | 24 => some (true, (specBy quote_Whole_p quote_Whole_q (quote_Whole_rr quote_Whole) specNo))
  | _ => none
theorem law02_QuoteBack_EOk (R : Type) : EOk Tryd.prog (law02_QuoteBack_E R law02_awake law02_Text quote_Quote quote_Unquote quote_Whole) := by
  intro i b sp h
  unfold law02_QuoteBack_E at h
  split at h
  · cases h; exact ⟨(law02_awake_S_ok R _ (specNo_ok _)), fun h => nomatch h⟩
  · cases h; exact ⟨(law02_Text_S_ok R _ (specNo_ok _)), fun h => nomatch h⟩
  · cases h; exact ⟨(quote_Quote_S_ok R _ (specNo_ok _)), fun h => nomatch h⟩
  · cases h; exact ⟨(quote_Unquote_S_ok R _ (specNo_ok _)), fun h => nomatch h⟩
  · cases h; exact ⟨(quote_Whole_S_ok R _ (specNo_ok _)), fun h => nomatch h⟩
  · cases h

noncomputable def law02_QuoteBack_3_0_B {R : Type} (quote_Quote : quote_Quote_ty R) (quote_Unquote : quote_Unquote_ty R) (quote_Whole : quote_Whole_ty R) (rec' : (List Int) → Str → Bool → (List Str) → Int → Int → Option R) (x6 : List Int) (x7 : Str) (x8 : Bool) (x9 : List Str) (x10 : Int) (x11 : Int) (e0 : (List Int) → Bool → Option R) (e1 : (List Int) → Bool → Bool → Option R) : Option R :=
  bif (decide (x11 < x10)) then (chk (decide ((0 : Int) ≤ x11) && decide (x11 < x9.length)) (quote_Quote (x9.getD x11.toNat (Ty.dflt .str)) (fun y12 y13 => quote_Whole (x9.getD x11.toNat (Ty.dflt .str)) (fun y14 => bif (!(y13 == y14)) then (e1 x6 false x8) else (bif (!(y13 == (!(y12 == ([] : Str))))) then (e1 x6 false x8) else (bif (!y13) then (rec' x6 x7 x8 x9 x10 (IntKind.i64.wrap (x11 + 1))) else (chk (decide (y12.length + x7.length ≤ 9223372036854775807)) (quote_Unquote (y12 ++ x7) (fun y16 y17 y18 => bif (!y18) then (e1 x6 false x8) else (bif (!(y16 == (x9.getD x11.toNat (Ty.dflt .str)))) then (e1 x6 false x8) else (bif (y17 != (y12.length : Int)) then (e1 x6 false x8) else (rec' x6 x7 x8 x9 x10 (IntKind.i64.wrap (x11 + 1)))))))))))))) else (e0 x6 x8)
noncomputable def law02_QuoteBack_3_0_L {R : Type} : law02_QuoteBack_3_0_ty R
  | 0, _, _, _, _, _, _, _, _ => none
  | n + 1, x0', x1', x2', x3', x4', x5', e0, e1 => law02_QuoteBack_3_0_B quote_Quote quote_Unquote quote_Whole (fun x0' x1' x2' x3' x4' x5' => law02_QuoteBack_3_0_L n x0' x1' x2' x3' x4' x5' e0 e1) x0' x1' x2' x3' x4' x5' e0 e1
noncomputable def law02_QuoteBack_3_0_h : Hint := { live := [1, 2, 7, 19, 20, 21], own := [], rows := [], cells := [], drop := [], out := [1, 6, 7] }
abbrev law02_QuoteBack_3_0_D : Type := (List Int) × Str × Bool × (List Str) × Int × Int
noncomputable def law02_QuoteBack_3_0_enc : law02_QuoteBack_3_0_D → St := fun d => ⟨[.undef, .sl (.int .i64) d.1 .no, .str d.2.1, .undef, .undef, .undef, .undef, .bool d.2.2.1, .undef, .undef, .undef, .undef, .undef, .undef, .undef, .undef, .undef, .undef, .undef, .sl .str d.2.2.2.1 (.own 0), .int .i64 d.2.2.2.2.1, .int .i64 d.2.2.2.2.2, .undef, .undef, .undef, .undef, .undef, .undef, .undef, .undef, .undef, .undef, .undef, .undef, .undef, .undef, .undef, .undef, .undef, .undef, .undef, .undef, .undef, .undef, .undef, .undef, .undef, .undef, .undef, .undef, .undef, .undef, .undef, .undef, .undef, .undef, .undef, .undef, .undef, .undef, .undef, .undef, .undef, .undef, .undef, .undef, .undef, .undef, .undef, .undef], [.tok]⟩
noncomputable def law02_QuoteBack_3_0_x0 {R : Type} (K : Ex → St → Option R) (q0 : List Int) (q1 : Bool) : Option R := K (.exit 0) ⟨[.undef, .sl (.int .i64) q0 .no, .undef, .undef, .undef, .undef, .undef, .bool q1, .undef, .undef, .undef, .undef, .undef, .undef, .undef, .undef, .undef, .undef, .undef, .undef, .undef, .undef, .undef, .undef, .undef, .undef, .undef, .undef, .undef, .undef, .undef, .undef, .undef, .undef, .undef, .undef, .undef, .undef, .undef, .undef, .undef, .undef, .undef, .undef, .undef, .undef, .undef, .undef, .undef, .undef, .undef, .undef, .undef, .undef, .undef, .undef, .undef, .undef, .undef, .undef, .undef, .undef, .undef, .undef, .undef, .undef, .undef, .undef, .undef, .undef], []⟩
noncomputable def law02_QuoteBack_3_0_x1 {R : Type} (K : Ex → St → Option R) (q0 : List Int) (q1 : Bool) (q2 : Bool) : Option R := K (.ret) ⟨[.undef, .sl (.int .i64) q0 .no, .undef, .undef, .undef, .undef, .bool q1, .bool q2, .undef, .undef, .undef, .undef, .undef, .undef, .undef, .undef, .undef, .undef, .undef, .undef, .undef, .undef, .undef, .undef, .undef, .undef, .undef, .undef, .undef, .undef, .undef, .undef, .undef, .undef, .undef, .undef, .undef, .undef, .undef, .undef, .undef, .undef, .undef, .undef, .undef, .undef, .undef, .undef, .undef, .undef, .undef, .undef, .undef, .undef, .undef, .undef, .undef, .undef, .undef, .undef, .undef, .undef, .undef, .undef, .undef, .undef, .undef, .undef, .undef, .undef], []⟩
noncomputable def law02_QuoteBack_3_0_s {R : Type} (quote_Quote : quote_Quote_ty R) (quote_Unquote : quote_Unquote_ty R) (quote_Whole : quote_Whole_ty R) (K : Ex → St → Option R) (rc : law02_QuoteBack_3_0_D → Option R) (d : law02_QuoteBack_3_0_D) : Option R := law02_QuoteBack_3_0_B quote_Quote quote_Unquote quote_Whole (fun z0 z1 z2 z3 z4 z5 => rc (z0, z1, z2, z3, z4, z5)) d.1 d.2.1 d.2.2.1 d.2.2.2.1 d.2.2.2.2.1 d.2.2.2.2.2 (law02_QuoteBack_3_0_x0 K) (law02_QuoteBack_3_0_x1 K)
noncomputable def law02_QuoteBack_3_0_A {R : Type} (K : Ex → St → Option R) (n : Nat) (d : law02_QuoteBack_3_0_D) : Option R := law02_QuoteBack_3_0_L n d.1 d.2.1 d.2.2.1 d.2.2.2.1 d.2.2.2.2.1 d.2.2.2.2.2 (law02_QuoteBack_3_0_x0 K) (law02_QuoteBack_3_0_x1 K)
abbrev law02_QuoteBack_3_0_p : List Pat := [.leaf (.undef), .leaf (.sl (.int .i64)), .leaf (.str), .leaf (.undef), .leaf (.undef), .leaf (.undef), .leaf (.undef), .leaf (.bool), .leaf (.undef), .leaf (.undef), .leaf (.undef), .leaf (.undef), .leaf (.undef), .leaf (.undef), .leaf (.undef), .leaf (.undef), .leaf (.undef), .leaf (.undef), .leaf (.undef), .leaf (.slo .str 0), .leaf (.int .i64), .leaf (.int .i64), .leaf (.undef), .leaf (.undef), .leaf (.undef), .leaf (.undef), .leaf (.undef), .leaf (.undef), .leaf (.undef), .leaf (.undef), .leaf (.undef), .leaf (.undef), .leaf (.undef), .leaf (.undef), .leaf (.undef), .leaf (.undef), .leaf (.undef), .leaf (.undef), .leaf (.undef), .leaf (.undef), .leaf (.undef), .leaf (.undef), .leaf (.undef), .leaf (.undef), .leaf (.undef), .leaf (.undef), .leaf (.undef), .leaf (.undef), .leaf (.undef), .leaf (.undef), .leaf (.undef), .leaf (.undef), .leaf (.undef), .leaf (.undef), .leaf (.undef), .leaf (.undef), .leaf (.undef), .leaf (.undef), .leaf (.undef), .leaf (.undef), .leaf (.undef), .leaf (.undef), .leaf (.undef), .leaf (.undef), .leaf (.undef), .leaf (.undef), .leaf (.undef), .leaf (.undef), .leaf (.undef), .leaf (.undef)]
abbrev law02_QuoteBack_3_0_q : List HPat := [.tok]
noncomputable def law02_QuoteBack_3_0_f (x : Pat.dens law02_QuoteBack_3_0_p) (y : HPat.dens law02_QuoteBack_3_0_q) : Nat := (List.length x.2.1 + List.length x.2.2.1 + List.length x.2.2.2.2.2.2.2.2.2.2.2.2.2.2.2.2.2.2.2.1 + Int.natAbs x.2.2.2.2.2.2.2.2.2.2.2.2.2.2.2.2.2.2.2.2.1 + Int.natAbs x.2.2.2.2.2.2.2.2.2.2.2.2.2.2.2.2.2.2.2.2.2.1 + 64)
noncomputable def law02_QuoteBack_3_0_d (x : Pat.dens law02_QuoteBack_3_0_p) (y : HPat.dens law02_QuoteBack_3_0_q) : law02_QuoteBack_3_0_D := (x.2.1, x.2.2.1, x.2.2.2.2.2.2.2.1, x.2.2.2.2.2.2.2.2.2.2.2.2.2.2.2.2.2.2.2.1, x.2.2.2.2.2.2.2.2.2.2.2.2.2.2.2.2.2.2.2.2.1, x.2.2.2.2.2.2.2.2.2.2.2.2.2.2.2.2.2.2.2.2.2.1)
noncomputable def law02_QuoteBack_3_0_rr {R : Type} (L : law02_QuoteBack_3_0_ty R) : Pat.dens law02_QuoteBack_3_0_p → HPat.dens law02_QuoteBack_3_0_q → (Ex → St → Option R) → Option R := fun x y K => L (law02_QuoteBack_3_0_f x y) x.2.1 x.2.2.1 x.2.2.2.2.2.2.2.1 x.2.2.2.2.2.2.2.2.2.2.2.2.2.2.2.2.2.2.2.1 x.2.2.2.2.2.2.2.2.2.2.2.2.2.2.2.2.2.2.2.2.1 x.2.2.2.2.2.2.2.2.2.2.2.2.2.2.2.2.2.2.2.2.2.1 (law02_QuoteBack_3_0_x0 K) (law02_QuoteBack_3_0_x1 K)
noncomputable def law02_QuoteBack_T (R : Type) (law02_QuoteBack_3_0_L : law02_QuoteBack_3_0_ty R) : Nat → Option (Hint × LSpec R) := fun i => match i with
  | 3 => some (law02_QuoteBack_3_0_h, (loopBy law02_QuoteBack_3_0_p law02_QuoteBack_3_0_q (law02_QuoteBack_3_0_rr law02_QuoteBack_3_0_L) loopNo))
  | _ => none

theorem law02_QuoteBack_3_0_B_ok {R : Type} (law02_awake : law02_awake_ty R) (law02_Text : law02_Text_ty R) (quote_Quote : quote_Quote_ty R) (quote_Unquote : quote_Unquote_ty R) (quote_Whole : quote_Whole_ty R) (law02_QuoteBack_3_0_L : law02_QuoteBack_3_0_ty R) (K : Ex → St → Option R) (rc : St → Option R) (d : law02_QuoteBack_3_0_D) : roundOf tt (law02_QuoteBack_E R law02_awake law02_Text quote_Quote quote_Unquote quote_Whole) (law02_QuoteBack_T R law02_QuoteBack_3_0_L) 0 ((loopsOf (codeOf Tryd.f4)).getD 0 .skip) law02_QuoteBack_3_0_h (law02_QuoteBack_3_0_enc d) rc K = law02_QuoteBack_3_0_s quote_Quote quote_Unquote quote_Whole K (fun d => rc (law02_QuoteBack_3_0_enc d)) d := by kernel_rfl
theorem law02_QuoteBack_3_0_A_succ {R : Type} (K : Ex → St → Option R) (n : Nat) (d : law02_QuoteBack_3_0_D) : law02_QuoteBack_3_0_A K (n + 1) d = law02_QuoteBack_3_0_s quote_Quote quote_Unquote quote_Whole K (law02_QuoteBack_3_0_A K n) d := by kernel_rfl
theorem law02_QuoteBack_3_0_A_zero {R : Type} (K : Ex → St → Option R) (d : law02_QuoteBack_3_0_D) : law02_QuoteBack_3_0_A K 0 d = none := by kernel_rfl
theorem law02_QuoteBack_3_0_e_ok (x : Pat.dens law02_QuoteBack_3_0_p) (y : HPat.dens law02_QuoteBack_3_0_q) : (⟨Pat.encL law02_QuoteBack_3_0_p x, HPat.encL law02_QuoteBack_3_0_q y⟩ : St) = law02_QuoteBack_3_0_enc (law02_QuoteBack_3_0_d x y) := by kernel_rfl
theorem law02_QuoteBack_3_0_r_ok {R : Type} (x : Pat.dens law02_QuoteBack_3_0_p) (y : HPat.dens law02_QuoteBack_3_0_q) (K : Ex → St → Option R) : law02_QuoteBack_3_0_rr (law02_QuoteBack_3_0_L) x y K = law02_QuoteBack_3_0_A K (law02_QuoteBack_3_0_f x y) (law02_QuoteBack_3_0_d x y) := by kernel_rfl
theorem law02_QuoteBack_3_0_ok {R : Type} (other : LSpec R) (ho : LsOk tt (law02_QuoteBack_E R law02_awake law02_Text quote_Quote quote_Unquote quote_Whole) (law02_QuoteBack_T R law02_QuoteBack_3_0_L) 0 ((loopsOf (codeOf Tryd.f4)).getD 0 .skip) law02_QuoteBack_3_0_h other) : LsOk tt (law02_QuoteBack_E R law02_awake law02_Text quote_Quote quote_Unquote quote_Whole) (law02_QuoteBack_T R law02_QuoteBack_3_0_L) 0 ((loopsOf (codeOf Tryd.f4)).getD 0 .skip) law02_QuoteBack_3_0_h (loopBy law02_QuoteBack_3_0_p law02_QuoteBack_3_0_q (law02_QuoteBack_3_0_rr (law02_QuoteBack_3_0_L)) other) :=
  loopBy_tie (A := law02_QuoteBack_3_0_A) ho (loop_tie law02_QuoteBack_3_0_enc (law02_QuoteBack_3_0_s quote_Quote quote_Unquote quote_Whole) (law02_QuoteBack_3_0_A) (law02_QuoteBack_3_0_A_zero) (law02_QuoteBack_3_0_B_ok law02_awake law02_Text quote_Quote quote_Unquote quote_Whole law02_QuoteBack_3_0_L) (law02_QuoteBack_3_0_A_succ)) law02_QuoteBack_3_0_f law02_QuoteBack_3_0_d law02_QuoteBack_3_0_e_ok (law02_QuoteBack_3_0_r_ok)

noncomputable def law02_QuoteBack_X {R : Type} (law02_awake : law02_awake_ty R) (law02_Text : law02_Text_ty R) (quote_Whole : quote_Whole_ty R) (law02_QuoteBack_3_0_L : law02_QuoteBack_3_0_ty R) (x1 : Str) (x2 : List Int) (x3 : Str) (k0 : Bool → Option R) : Option R :=
  law02_awake (fun y4 => law02_Text x2 (fun y5 => law02_QuoteBack_3_0_L (List.length x2 + List.length x3 + List.length ([x1, y5] : List Str) + Int.natAbs 2 + Int.natAbs 0 + 64) x2 x3 y4 ([x1, y5] : List Str) 2 0 (fun y20 y21 => bif y21 then (law02_Text y20 (fun y25 => quote_Whole y25 (fun y26 => k0 y26))) else (k0 false)) (fun y22 y23 y24 => k0 y23)))
noncomputable def law02_QuoteBack {R : Type} : law02_QuoteBack_ty R := fun x1 x2 x3 k0 => law02_QuoteBack_X law02_awake law02_Text quote_Whole law02_QuoteBack_3_0_L x1 x2 x3 k0
theorem law02_QuoteBack_ok {R : Type} (law02_awake : law02_awake_ty R) (law02_Text : law02_Text_ty R) (quote_Quote : quote_Quote_ty R) (quote_Unquote : quote_Unquote_ty R) (quote_Whole : quote_Whole_ty R) (law02_QuoteBack_3_0_L : law02_QuoteBack_3_0_ty R) (x1 : Str) (x2 : List Int) (x3 : Str) (k : V → Heap → Option R) : funK tt (law02_QuoteBack_E R law02_awake law02_Text quote_Quote quote_Unquote quote_Whole) (law02_QuoteBack_T R law02_QuoteBack_3_0_L) false Tryd.f4 (codeOf Tryd.f4) [.str x1, .sl (.int .i64) x2 .no, .str x3] [] k =
    law02_QuoteBack_X law02_awake law02_Text quote_Whole law02_QuoteBack_3_0_L x1 x2 x3 (fun q0 => k (.bool q0) []) := by kernel_rfl
theorem law02_QuoteBack_loops (R : Type) : ∀ a ∈ loopsOf (codeOf Tryd.f4), LoopOk tt (law02_QuoteBack_E R law02_awake law02_Text quote_Quote quote_Unquote quote_Whole) (law02_QuoteBack_T R law02_QuoteBack_3_0_L) 0 a := by
  refine loops_ok 1 (by kernel_rfl) fun i hi => ?_
  match i, hi with
  | 0, _ => exact loopOk_some (by kernel_rfl) (law02_QuoteBack_3_0_ok _ loopNo_ok)
  | n + 1, hi => omega
theorem law02_QuoteBack_S_ok (R : Type) (other : Yard.Spec R) (ho : Yard.Spec.Ok Tryd.prog 4 other) : Yard.Spec.Ok Tryd.prog 4 (specBy law02_QuoteBack_p law02_QuoteBack_q (law02_QuoteBack_rr law02_QuoteBack) other) :=
  specBy_ok ho (funK_sound TT mixed (law02_QuoteBack_EOk R) (keep := false) rfl rfl rfl rfl 0 (law02_QuoteBack_loops R)) fun (x : Pat.dens law02_QuoteBack_p) (y : HPat.dens law02_QuoteBack_q) k => law02_QuoteBack_ok law02_awake law02_Text quote_Quote quote_Unquote quote_Whole law02_QuoteBack_3_0_L x.1 x.2.1 x.2.2.1 k

end Go.Proofs.YtifgegmnngfckaaDoor

/-
  QuoteBack and QuoteCut. Own work.
-/
set_option linter.unusedVariables false
set_option maxRecDepth 100000
namespace Go.Proofs.YtifgegmnngfckaaDoor
open Go Go.Yard Go.Lib

theorem whole_eq {R : Type} (x : Str) (f : Bool → Option R) : quote_Whole x f = f (validS x) := rfl

/-- QUOTE of any text. -/
theorem quote_any {R : Type} (s : Str) (hl : s.length ≤ 10000000000) : (∃ rs : List Nat, (∀ c ∈ rs, vr c) ∧ rs.length ≤ s.length ∧ s = encL rs ∧ validS s = true ∧ ∀ k : Str → Bool → Option R, quote_Quote s k = k (qt rs) true) ∨
    (validS s = false ∧ ∀ k : Str → Bool → Option R, quote_Quote s k = k [] false) := by
  cases h : validS s with
  | true =>
    obtain ⟨rs, hr, rfl⟩ := whole_iff.1 h
    have := encL_count rs hr
    exact .inl ⟨rs, hr, this.1, rfl, rfl, fun k => quote_ok rs hr (by omega) k⟩
  | false => exact .inr ⟨rfl, fun k => quote_bad s h k⟩

theorem qt_len (rs : List Nat) : (qt rs).length = (qcL rs).length + 2 := by unfold qt; simp

theorem back_round {R : Type} {raw : List Int} {more : Str} (hm : more.length ≤ 1048576) {l : List Str} (hlen : l.length ≤ 2) {i : Nat} (hi : i < l.length) {s : Str} (hg : l[i]? = some s) (hs : s.length ≤ 1048576) (y : Bool)
    (rec' : (List Int) → Str → Bool → (List Str) → Int → Int → Option R) (e0 : (List Int) → Bool → Option R) (e1 : (List Int) → Bool → Bool → Option R) :
    law02_QuoteBack_3_0_B quote_Quote quote_Unquote quote_Whole rec' raw more y l (l.length : Int) (i : Int) e0 e1 = rec' raw more y l (l.length : Int) ((i + 1 : Nat) : Int) := by
  unfold law02_QuoteBack_3_0_B
  have hget : l.getD (i : Int).toNat (Ty.dflt .str) = s := by
    rw [Int.toNat_natCast]
    show (l[i]?).getD _ = s
    rw [hg]
    rfl
  have hw : IntKind.i64.wrap ((i : Int) + 1) = ((i + 1 : Nat) : Int) := by rw [wrap_id (by omega) (by omega)]; omega
  rw [dtrue (show (i : Int) < (l.length : Int) by omega), cond_true, chk_pos (by rw [dtrue (show (0 : Int) ≤ (i : Int) by omega)]; rfl), hget, hw]
  rcases quote_any (R := R) s (by omega) with ⟨rs, hr, hrl, hse, hv, hq⟩ | ⟨hv, hq⟩
  · have h1 := qcL_count rs hr
    have h2 := qt_len rs
    have hne : (qt rs == ([] : Str)) = false := rfl
    rw [hq, whole_eq, hv, hne]
    simp only [BEq.rfl, Bool.not_true, Bool.not_false, cond_false]
    rw [chk_pos (dtrue (by omega)), unquote_ok _ (by rw [List.length_append]; omega), uqS_qt rs hr more]
    simp only [Bool.not_true, cond_false]
    rw [← hse]
    have e : IntKind.i64.wrap (((qt rs ++ more).length : Int) - (more.length : Int)) = ((qt rs).length : Int) := by
      rw [List.length_append, wrap_id (by omega) (by omega)]; omega
    rw [e]
    simp
  · rw [hq, whole_eq, hv]
    rfl

theorem quoteBack_true {R : Type} (s : Str) (raw : List Int) (more : Str) (hs : Small 1048576 (.str s)) (hr : Small 1048576 (.sl (.int .i64) raw .no)) (hm : Small 1048576 (.str more)) (k : Bool → Option R) : law02_QuoteBack s raw more k = k true := by
  obtain ⟨rs, h1, h2, h3⟩ := text_ok (R := R) raw (small_i64 hr).2
  have hsl := hs.str_inv
  have hml := hm.str_inv
  have e : law02_QuoteBack s raw more k = law02_QuoteBack_X law02_awake law02_Text quote_Whole law02_QuoteBack_3_0_L s raw more k := rfl
  rw [e]
  unfold law02_QuoteBack_X
  rw [awake02]
  simp only [h3]
  have hw : validS (encL rs) = true := whole_iff.2 ⟨rs, h1, rfl⟩
  have key : ∀ (F : Nat) (e0 : List Int → Bool → Option R) (e1 : List Int → Bool → Bool → Option R), law02_QuoteBack_3_0_L (F + 3) raw more true [s, encL rs] 2 0 e0 e1 = e0 raw true := by
    intro F e0 e1
    have s1 : law02_QuoteBack_3_0_L (F + 3) raw more true [s, encL rs] 2 0 e0 e1 = law02_QuoteBack_3_0_B quote_Quote quote_Unquote quote_Whole (fun x0' x1' x2' x3' x4' x5' => law02_QuoteBack_3_0_L (F + 2) x0' x1' x2' x3' x4' x5' e0 e1) raw more true [s, encL rs] (([s, encL rs] : List Str).length : Int) ((0 : Nat) : Int) e0 e1 := rfl
    rw [s1, back_round hml (by simp) (by simp) (by rfl) hsl]
    have s2 : law02_QuoteBack_3_0_L (F + 2) raw more true [s, encL rs] (([s, encL rs] : List Str).length : Int) ((0 + 1 : Nat) : Int) e0 e1 = law02_QuoteBack_3_0_B quote_Quote quote_Unquote quote_Whole (fun x0' x1' x2' x3' x4' x5' => law02_QuoteBack_3_0_L (F + 1) x0' x1' x2' x3' x4' x5' e0 e1) raw more true [s, encL rs] (([s, encL rs] : List Str).length : Int) ((1 : Nat) : Int) e0 e1 := rfl
    rw [s2, back_round hml (by simp) (by simp) (by rfl) (by omega)]
    rfl
  have hF : ∀ a b c : Nat, a + b + c + Int.natAbs 2 + Int.natAbs 0 + 64 = (a + b + c + 63) + 3 := fun a b c => by
    have : Int.natAbs 2 = 2 := rfl
    have : Int.natAbs 0 = 0 := rfl
    omega
  rw [hF, key]
  simp only [cond_true, h3, whole_eq, hw]

/-! ### what is cut off -/
theorem dec_cut {c : Nat} (hv : vr c) {m : Nat} (h0 : 0 < m) (hm : m < (enc c).length) : ¬ good ((enc c).take m) := by
  intro hg
  have hne : (enc c).take m ≠ [] := by
    intro e
    have := congrArg List.length e
    rw [List.length_take, List.length_nil] at this
    omega
  obtain ⟨e1, e2⟩ := dec_good hne hg
  have hv' := dec_vr ((enc c).take m)
  generalize (decodeL ((enc c).take m)).1 = c' at *
  have h1 := dec_enc hv []
  rw [List.append_nil] at h1
  have e3 : enc c = enc c' ++ (((enc c).take m).drop (decodeL ((enc c).take m)).2 ++ (enc c).drop m) := by
    rw [← List.append_assoc, ← e1, List.take_append_drop]
  rw [e3, dec_enc hv'] at h1
  have h2 : c' = c := congrArg Prod.fst h1
  have h3 := congrArg List.length e1
  rw [List.length_append, List.length_take, h2] at h3
  omega

theorem uq_cut1 {c : Nat} (hv : vr c) {m : Nat} (hm : m < (qc c).length) (n : Nat) (o : Str) : uq n ((qc c).take m) o = none := by
  cases n with
  | zero => rfl
  | succ n =>
    have key : ∀ p : Str, ([34] : Str).isPrefixOf p = false → stepU p = none → uq (n + 1) p o = none := by
      intro p h1 h2
      simp only [uq, h1, h2, Bool.false_eq_true, if_false]
    by_cases hm0 : m = 0
    · subst hm0
      exact key _ rfl rfl
    rcases shortC_cases c with ⟨h0, h34, h92⟩ | h
    · by_cases h32 : c < 32
      · rw [qc_hex h0 h32] at hm ⊢
        simp only [List.length_cons, List.length_nil] at hm
        match m, hm0, hm with
        | 1, _, _ => exact key _ rfl rfl
        | 2, _, _ => exact key _ rfl rfl
        | 3, _, _ => exact key _ rfl rfl
        | 4, _, _ => exact key _ rfl rfl
        | 5, _, _ => exact key _ rfl rfl
        | 0, h, _ => exact (h rfl).elim
        | m + 6, _, h => omega
      · rw [qc_enc h0 h32] at hm ⊢
        obtain ⟨b, u, e, g1, g2⟩ := enc_first hv (by omega) h34 h92
        have hc := dec_cut hv (by omega) hm
        have e2 : (enc c).take m = b :: u.take (m - 1) := by
          rw [e]
          obtain ⟨j, rfl⟩ : ∃ j, m = j + 1 := ⟨m - 1, by omega⟩
          rfl
        refine key _ ?_ ?_
        · rw [e2, pre_cons]; exact u8_ne (n := 34) (by omega) g1
        · unfold stepU
          have : ([92] : Str).isPrefixOf ((enc c).take m) = false := by rw [e2, pre_cons]; exact u8_ne (n := 92) (by omega) g2
          rw [this]
          simp only [Bool.false_eq_true, if_false]
          unfold plainP
          rw [if_neg (by rw [e2]; simp), if_pos (Decidable.not_not.1 hc)]
    · have hl2 : ∃ x, qc c = [92, x] := by rcases h with rfl | rfl | rfl | rfl | rfl | rfl | rfl <;> exact ⟨_, rfl⟩
      obtain ⟨x, hx⟩ := hl2
      rw [hx] at hm ⊢
      simp only [List.length_cons, List.length_nil] at hm
      obtain rfl : m = 1 := by omega
      exact key _ rfl rfl

theorem uq_cut : ∀ (rs : List Nat), (∀ c ∈ rs, vr c) → ∀ (n m : Nat) (o : Str), m < (qcL rs).length + 1 → uq n ((qcL rs ++ [34]).take m) o = none
  | [], _, n, m, o, hm => by
    have : m = 0 := by simp [qcL] at hm; omega
    subst this
    cases n <;> rfl
  | c :: rs, hr, n, m, o, hm => by
    have hv := hr c (by simp)
    have e : qcL (c :: rs) ++ [34] = qc c ++ (qcL rs ++ [34]) := by simp [qcL]
    have e2 : (qcL (c :: rs)).length = (qc c).length + (qcL rs).length := by simp [qcL]
    rw [e]
    by_cases h : m < (qc c).length
    · rw [List.take_append_of_le_length (by omega)]
      exact uq_cut1 hv h n o
    · rw [List.take_append, List.take_of_length_le (by omega)]
      cases n with
      | zero => rfl
      | succ n =>
        obtain ⟨h1, h2⟩ := step_qc hv ((qcL rs ++ [34]).take (m - (qc c).length))
        simp only [uq, h1, h2, Bool.false_eq_true, if_false]
        exact uq_cut rs (fun x hx => hr x (by simp [hx])) n _ _ (by omega)

theorem uqS_cut (rs : List Nat) (hr : ∀ c ∈ rs, vr c) (m : Nat) (hm : m < (qt rs).length) : uqS ((qt rs).take m) = none := by
  rw [qt_len] at hm
  unfold uqS
  cases m with
  | zero => rfl
  | succ m =>
    have e : (qt rs).take (m + 1) = 34 :: (qcL rs ++ [34]).take m := rfl
    rw [e, pre_cons]
    simp only [BEq.rfl, if_true, List.drop_succ_cons, List.drop_zero]
    exact uq_cut rs hr _ m [] (by omega)

theorem quoteCut_true {R : Type} (raw : List Int) (cut : Int) (hr : Small 1048576 (.sl (.int .i64) raw .no)) (hc : Small 1048576 (.int .i64 cut)) (k : Bool → Option R) : law02_QuoteCut raw cut k = k true := by
  obtain ⟨rs, h1, h2, h3⟩ := text_ok (R := R) raw (small_i64 hr).2
  have hci := i64_has.1 hc.int_inv
  have hcount := encL_count rs h1
  have hq := qcL_count rs h1
  have hl := qt_len rs
  have e : law02_QuoteCut raw cut k = law02_QuoteCut_X law02_awake law02_Text law02_pick quote_Quote quote_Unquote raw cut k := rfl
  rw [e]
  unfold law02_QuoteCut_X
  rw [awake02]
  simp only [h3, quote_ok rs h1 (by omega), Bool.not_true, cond_false]
  have hne : (qt rs == ([] : Str)) = false := rfl
  obtain ⟨p, p0, p1, hp⟩ := pick02 (R := R) cut ((qt rs).length : Int) hci (by omega) (by omega)
  rw [hne, cond_false, hp, chk_pos (by rw [dtrue p0, dtrue (by omega)]; rfl), chk_pos (dtrue p0), List.drop_zero, Nat.sub_zero, unquote_ok _ (by rw [List.length_take]; omega), uqS_cut rs h1 p.toNat (by omega)]
  rfl
end Go.Proofs.YtifgegmnngfckaaDoor

/-
  Functions of the program as pure Lean functions, and the ties; printed by wip/tools/emit.py.
-/
set_option maxRecDepth 100000
set_option linter.unusedVariables false
namespace Go.Proofs.YtifgegmnngfckaaDoor
open Go Go.Yard

/-! ### humpyard/humpyardlaw02.QuoteForth -/
abbrev law02_QuoteForth_ty (R : Type) : Type := Str → (List Int) → Int → Str → (Bool → Option R) → Option R
abbrev law02_QuoteForth_p : List Pat := [.leaf (.str), .leaf (.sl (.int .i64)), .leaf (.int .i64), .leaf (.str)]
abbrev law02_QuoteForth_q : List HPat := []
noncomputable def law02_QuoteForth_rr {R : Type} (fn : law02_QuoteForth_ty R) : Pat.dens law02_QuoteForth_p → HPat.dens law02_QuoteForth_q → (V → Heap → Option R) → Option R := fun x y k => fn x.1 x.2.1 x.2.2.1 x.2.2.2.1 (fun q0 => k (.bool q0) [])
abbrev law02_QuoteForth_5_0_ty (R : Type) : Type := Nat → Bool → (List Str) → Int → Int → (Bool → Option R) → (Bool → Bool → Option R) → Option R
noncomputable def law02_QuoteForth_E (R : Type) (law02_awake : law02_awake_ty R) (law02_Text : law02_Text_ty R) (law02_pick : law02_pick_ty R) (quote_Quote : quote_Quote_ty R) (quote_Unquote : quote_Unquote_ty R) (quote_Whole : quote_Whole_ty R) : Env R := fun i => match i with
  | 17 => some (true, (specBy law02_awake_p law02_awake_q (law02_awake_rr law02_awake) specNo))
  | 18 => some (true, (specBy law02_Text_p law02_Text_q (law02_Text_rr law02_Text) specNo))
  | 20 => some (true, (specBy law02_pick_p law02_pick_q (law02_pick_rr law02_pick) specNo))
  | 21 => some (true, (specBy quote_Quote_p quote_Quote_q (quote_Quote_rr quote_Quote) specNo))
  | 22 => some (true, (specBy quote_Unquote_p quote_Unquote_q (quote_Unquote_rr quote_Unquote) specNo))
  | 24 => some (true, (specBy quote_Whole_p quote_Whole_q (quote_Whole_rr quote_Whole) specNo))
  | _ => none
theorem law02_QuoteForth_EOk (R : Type) : EOk Tryd.prog (law02_QuoteForth_E R law02_awake law02_Text law02_pick quote_Quote quote_Unquote quote_Whole) := by
  intro i b sp h
  unfold law02_QuoteForth_E at h
  split at h
  · cases h; exact ⟨(law02_awake_S_ok R _ (specNo_ok _)), fun h => nomatch h⟩
  · cases h; exact ⟨(law02_Text_S_ok R _ (specNo_ok _)), fun h => nomatch h⟩
  · cases h; exact ⟨(law02_pick_S_ok R _ (specNo_ok _)), fun h => nomatch h⟩
  · cases h; exact ⟨(quote_Quote_S_ok R _ (specNo_ok _)), fun h => nomatch h⟩
  · cases h; exact ⟨(quote_Unquote_S_ok R _ (specNo_ok _)), fun h => nomatch h⟩
  · cases h; exact ⟨(quote_Whole_S_ok R _ (specNo_ok _)), fun h => nomatch h⟩
  · cases h

noncomputable def law02_QuoteForth_5_0_B {R : Type} (quote_Quote : quote_Quote_ty R) (quote_Unquote : quote_Unquote_ty R) (quote_Whole : quote_Whole_ty R) (rec' : Bool → (List Str) → Int → Int → Option R) (x10 : Bool) (x11 : List Str) (x12 : Int) (x13 : Int) (e0 : Bool → Option R) (e1 : Bool → Bool → Option R) : Option R :=
  bif (decide (x13 < x12)) then (chk (decide ((0 : Int) ≤ x13) && decide (x13 < x11.length)) (quote_Unquote (x11.getD x13.toNat (Ty.dflt .str)) (fun y14 y15 y16 => bif (!y16) then (bif (!(y14 == ([] : Str))) then (e1 false x10) else (bif (y15 != 0) then (e1 false x10) else (rec' x10 x11 x12 (IntKind.i64.wrap (x13 + 1))))) else (quote_Quote y14 (fun y18 y19 => quote_Unquote y18 (fun y20 y21 y22 => quote_Whole y14 (fun y23 => bif (!y23) then (e1 false x10) else (bif (!y19) then (e1 false x10) else (bif (!y22) then (e1 false x10) else (bif (!(y20 == y14)) then (e1 false x10) else (bif (y21 != (y18.length : Int)) then (e1 false x10) else (bif (decide (y15 < (2 : Int))) then (e1 false x10) else (bif (decide (y15 > ((x11.getD x13.toNat (Ty.dflt .str)).length : Int))) then (e1 false x10) else (rec' x10 x11 x12 (IntKind.i64.wrap (x13 + 1)))))))))))))))) else (e0 x10)
noncomputable def law02_QuoteForth_5_0_L {R : Type} : law02_QuoteForth_5_0_ty R
  | 0, _, _, _, _, _, _ => none
  | n + 1, x0', x1', x2', x3', e0, e1 => law02_QuoteForth_5_0_B quote_Quote quote_Unquote quote_Whole (fun x0' x1' x2' x3' => law02_QuoteForth_5_0_L n x0' x1' x2' x3' e0 e1) x0' x1' x2' x3' e0 e1
noncomputable def law02_QuoteForth_5_0_h : Hint := { live := [9, 47, 48, 49], own := [], rows := [], cells := [], drop := [], out := [8, 9] }
abbrev law02_QuoteForth_5_0_D : Type := Bool × (List Str) × Int × Int
noncomputable def law02_QuoteForth_5_0_enc : law02_QuoteForth_5_0_D → St := fun d => ⟨[.undef, .undef, .undef, .undef, .undef, .undef, .undef, .undef, .undef, .bool d.1, .undef, .undef, .undef, .undef, .undef, .undef, .undef, .undef, .undef, .undef, .undef, .undef, .undef, .undef, .undef, .undef, .undef, .undef, .undef, .undef, .undef, .undef, .undef, .undef, .undef, .undef, .undef, .undef, .undef, .undef, .undef, .undef, .undef, .undef, .undef, .undef, .undef, .sl .str d.2.1 (.own 0), .int .i64 d.2.2.1, .int .i64 d.2.2.2, .undef, .undef, .undef, .undef, .undef, .undef, .undef, .undef, .undef, .undef, .undef, .undef, .undef, .undef, .undef, .undef, .undef, .undef, .undef, .undef, .undef, .undef, .undef, .undef, .undef, .undef, .undef, .undef, .undef, .undef, .undef, .undef, .undef, .undef, .undef, .undef, .undef, .undef, .undef, .undef, .undef, .undef, .undef, .undef, .undef, .undef, .undef, .undef, .undef, .undef, .undef, .undef, .undef, .undef, .undef, .undef, .undef, .undef, .undef, .undef, .undef, .undef], [.tok]⟩
noncomputable def law02_QuoteForth_5_0_x0 {R : Type} (K : Ex → St → Option R) (q0 : Bool) : Option R := K (.exit 0) ⟨[.undef, .undef, .undef, .undef, .undef, .undef, .undef, .undef, .undef, .bool q0, .undef, .undef, .undef, .undef, .undef, .undef, .undef, .undef, .undef, .undef, .undef, .undef, .undef, .undef, .undef, .undef, .undef, .undef, .undef, .undef, .undef, .undef, .undef, .undef, .undef, .undef, .undef, .undef, .undef, .undef, .undef, .undef, .undef, .undef, .undef, .undef, .undef, .undef, .undef, .undef, .undef, .undef, .undef, .undef, .undef, .undef, .undef, .undef, .undef, .undef, .undef, .undef, .undef, .undef, .undef, .undef, .undef, .undef, .undef, .undef, .undef, .undef, .undef, .undef, .undef, .undef, .undef, .undef, .undef, .undef, .undef, .undef, .undef, .undef, .undef, .undef, .undef, .undef, .undef, .undef, .undef, .undef, .undef, .undef, .undef, .undef, .undef, .undef, .undef, .undef, .undef, .undef, .undef, .undef, .undef, .undef, .undef, .undef, .undef, .undef, .undef, .undef], []⟩
noncomputable def law02_QuoteForth_5_0_x1 {R : Type} (K : Ex → St → Option R) (q0 : Bool) (q1 : Bool) : Option R := K (.ret) ⟨[.undef, .undef, .undef, .undef, .undef, .undef, .undef, .undef, .bool q0, .bool q1, .undef, .undef, .undef, .undef, .undef, .undef, .undef, .undef, .undef, .undef, .undef, .undef, .undef, .undef, .undef, .undef, .undef, .undef, .undef, .undef, .undef, .undef, .undef, .undef, .undef, .undef, .undef, .undef, .undef, .undef, .undef, .undef, .undef, .undef, .undef, .undef, .undef, .undef, .undef, .undef, .undef, .undef, .undef, .undef, .undef, .undef, .undef, .undef, .undef, .undef, .undef, .undef, .undef, .undef, .undef, .undef, .undef, .undef, .undef, .undef, .undef, .undef, .undef, .undef, .undef, .undef, .undef, .undef, .undef, .undef, .undef, .undef, .undef, .undef, .undef, .undef, .undef, .undef, .undef, .undef, .undef, .undef, .undef, .undef, .undef, .undef, .undef, .undef, .undef, .undef, .undef, .undef, .undef, .undef, .undef, .undef, .undef, .undef, .undef, .undef, .undef, .undef], []⟩
noncomputable def law02_QuoteForth_5_0_s {R : Type} (quote_Quote : quote_Quote_ty R) (quote_Unquote : quote_Unquote_ty R) (quote_Whole : quote_Whole_ty R) (K : Ex → St → Option R) (rc : law02_QuoteForth_5_0_D → Option R) (d : law02_QuoteForth_5_0_D) : Option R := law02_QuoteForth_5_0_B quote_Quote quote_Unquote quote_Whole (fun z0 z1 z2 z3 => rc (z0, z1, z2, z3)) d.1 d.2.1 d.2.2.1 d.2.2.2 (law02_QuoteForth_5_0_x0 K) (law02_QuoteForth_5_0_x1 K)
noncomputable def law02_QuoteForth_5_0_A {R : Type} (K : Ex → St → Option R) (n : Nat) (d : law02_QuoteForth_5_0_D) : Option R := law02_QuoteForth_5_0_L n d.1 d.2.1 d.2.2.1 d.2.2.2 (law02_QuoteForth_5_0_x0 K) (law02_QuoteForth_5_0_x1 K)
abbrev law02_QuoteForth_5_0_p : List Pat := [.leaf (.undef), .leaf (.undef), .leaf (.undef), .leaf (.undef), .leaf (.undef), .leaf (.undef), .leaf (.undef), .leaf (.undef), .leaf (.undef), .leaf (.bool), .leaf (.undef), .leaf (.undef), .leaf (.undef), .leaf (.undef), .leaf (.undef), .leaf (.undef), .leaf (.undef), .leaf (.undef), .leaf (.undef), .leaf (.undef), .leaf (.undef), .leaf (.undef), .leaf (.undef), .leaf (.undef), .leaf (.undef), .leaf (.undef), .leaf (.undef), .leaf (.undef), .leaf (.undef), .leaf (.undef), .leaf (.undef), .leaf (.undef), .leaf (.undef), .leaf (.undef), .leaf (.undef), .leaf (.undef), .leaf (.undef), .leaf (.undef), .leaf (.undef), .leaf (.undef), .leaf (.undef), .leaf (.undef), .leaf (.undef), .leaf (.undef), .leaf (.undef), .leaf (.undef), .leaf (.undef), .leaf (.slo .str 0), .leaf (.int .i64), .leaf (.int .i64), .leaf (.undef), .leaf (.undef), .leaf (.undef), .leaf (.undef), .leaf (.undef), .leaf (.undef), .leaf (.undef), .leaf (.undef), .leaf (.undef), .leaf (.undef), .leaf (.undef), .leaf (.undef), .leaf (.undef), .leaf (.undef), .leaf (.undef), .leaf (.undef), .leaf (.undef), .leaf (.undef), .leaf (.undef), .leaf (.undef), .leaf (.undef), .leaf (.undef), .leaf (.undef), .leaf (.undef), .leaf (.undef), .leaf (.undef), .leaf (.undef), .leaf (.undef), .leaf (.undef), .leaf (.undef), .leaf (.undef), .leaf (.undef), .leaf (.undef), .leaf (.undef), .leaf (.undef), .leaf (.undef), .leaf (.undef), .leaf (.undef), .leaf (.undef), .leaf (.undef), .leaf (.undef), .leaf (.undef), .leaf (.undef), .leaf (.undef), .leaf (.undef), .leaf (.undef), .leaf (.undef), .leaf (.undef), .leaf (.undef), .leaf (.undef), .leaf (.undef), .leaf (.undef), .leaf (.undef), .leaf (.undef), .leaf (.undef), .leaf (.undef), .leaf (.undef), .leaf (.undef), .leaf (.undef), .leaf (.undef), .leaf (.undef), .leaf (.undef)]
abbrev law02_QuoteForth_5_0_q : List HPat := [.tok]
noncomputable def law02_QuoteForth_5_0_f (x : Pat.dens law02_QuoteForth_5_0_p) (y : HPat.dens law02_QuoteForth_5_0_q) : Nat := (List.length x.2.2.2.2.2.2.2.2.2.2.2.2.2.2.2.2.2.2.2.2.2.2.2.2.2.2.2.2.2.2.2.2.2.2.2.2.2.2.2.2.2.2.2.2.2.2.2.1 + Int.natAbs x.2.2.2.2.2.2.2.2.2.2.2.2.2.2.2.2.2.2.2.2.2.2.2.2.2.2.2.2.2.2.2.2.2.2.2.2.2.2.2.2.2.2.2.2.2.2.2.2.1 + Int.natAbs x.2.2.2.2.2.2.2.2.2.2.2.2.2.2.2.2.2.2.2.2.2.2.2.2.2.2.2.2.2.2.2.2.2.2.2.2.2.2.2.2.2.2.2.2.2.2.2.2.2.1 + 64)
noncomputable def law02_QuoteForth_5_0_d (x : Pat.dens law02_QuoteForth_5_0_p) (y : HPat.dens law02_QuoteForth_5_0_q) : law02_QuoteForth_5_0_D := (x.2.2.2.2.2.2.2.2.2.1, x.2.2.2.2.2.2.2.2.2.2.2.2.2.2.2.2.2.2.2.2.2.2.2.2.2.2.2.2.2.2.2.2.2.2.2.2.2.2.2.2.2.2.2.2.2.2.2.1, x.2.2.2.2.2.2.2.2.2.2.2.2.2.2.2.2.2.2.2.2.2.2.2.2.2.2.2.2.2.2.2.2.2.2.2.2.2.2.2.2.2.2.2.2.2.2.2.2.1, x.2.2.2.2.2.2.2.2.2.2.2.2.2.2.2.2.2.2.2.2.2.2.2.2.2.2.2.2.2.2.2.2.2.2.2.2.2.2.2.2.2.2.2.2.2.2.2.2.2.1)
noncomputable def law02_QuoteForth_5_0_rr {R : Type} (L : law02_QuoteForth_5_0_ty R) : Pat.dens law02_QuoteForth_5_0_p → HPat.dens law02_QuoteForth_5_0_q → (Ex → St → Option R) → Option R := fun x y K => L (law02_QuoteForth_5_0_f x y) x.2.2.2.2.2.2.2.2.2.1 x.2.2.2.2.2.2.2.2.2.2.2.2.2.2.2.2.2.2.2.2.2.2.2.2.2.2.2.2.2.2.2.2.2.2.2.2.2.2.2.2.2.2.2.2.2.2.2.1 x.2.2.2.2.2.2.2.2.2.2.2.2.2.2.2.2.2.2.2.2.2.2.2.2.2.2.2.2.2.2.2.2.2.2.2.2.2.2.2.2.2.2.2.2.2.2.2.2.1 x.2.2.2.2.2.2.2.2.2.2.2.2.2.2.2.2.2.2.2.2.2.2.2.2.2.2.2.2.2.2.2.2.2.2.2.2.2.2.2.2.2.2.2.2.2.2.2.2.2.1 (law02_QuoteForth_5_0_x0 K) (law02_QuoteForth_5_0_x1 K)
noncomputable def law02_QuoteForth_T (R : Type) (law02_QuoteForth_5_0_L : law02_QuoteForth_5_0_ty R) : Nat → Option (Hint × LSpec R) := fun i => match i with
  | 5 => some (law02_QuoteForth_5_0_h, (loopBy law02_QuoteForth_5_0_p law02_QuoteForth_5_0_q (law02_QuoteForth_5_0_rr law02_QuoteForth_5_0_L) loopNo))
  | _ => none

theorem law02_QuoteForth_5_0_B_ok {R : Type} (law02_awake : law02_awake_ty R) (law02_Text : law02_Text_ty R) (law02_pick : law02_pick_ty R) (quote_Quote : quote_Quote_ty R) (quote_Unquote : quote_Unquote_ty R) (quote_Whole : quote_Whole_ty R) (law02_QuoteForth_5_0_L : law02_QuoteForth_5_0_ty R) (K : Ex → St → Option R) (rc : St → Option R) (d : law02_QuoteForth_5_0_D) : roundOf tt (law02_QuoteForth_E R law02_awake law02_Text law02_pick quote_Quote quote_Unquote quote_Whole) (law02_QuoteForth_T R law02_QuoteForth_5_0_L) 0 ((loopsOf (codeOf Tryd.f5)).getD 0 .skip) law02_QuoteForth_5_0_h (law02_QuoteForth_5_0_enc d) rc K = law02_QuoteForth_5_0_s quote_Quote quote_Unquote quote_Whole K (fun d => rc (law02_QuoteForth_5_0_enc d)) d := by kernel_rfl
theorem law02_QuoteForth_5_0_A_succ {R : Type} (K : Ex → St → Option R) (n : Nat) (d : law02_QuoteForth_5_0_D) : law02_QuoteForth_5_0_A K (n + 1) d = law02_QuoteForth_5_0_s quote_Quote quote_Unquote quote_Whole K (law02_QuoteForth_5_0_A K n) d := by kernel_rfl
theorem law02_QuoteForth_5_0_A_zero {R : Type} (K : Ex → St → Option R) (d : law02_QuoteForth_5_0_D) : law02_QuoteForth_5_0_A K 0 d = none := by kernel_rfl
theorem law02_QuoteForth_5_0_e_ok (x : Pat.dens law02_QuoteForth_5_0_p) (y : HPat.dens law02_QuoteForth_5_0_q) : (⟨Pat.encL law02_QuoteForth_5_0_p x, HPat.encL law02_QuoteForth_5_0_q y⟩ : St) = law02_QuoteForth_5_0_enc (law02_QuoteForth_5_0_d x y) := by kernel_rfl
theorem law02_QuoteForth_5_0_r_ok {R : Type} (x : Pat.dens law02_QuoteForth_5_0_p) (y : HPat.dens law02_QuoteForth_5_0_q) (K : Ex → St → Option R) : law02_QuoteForth_5_0_rr (law02_QuoteForth_5_0_L) x y K = law02_QuoteForth_5_0_A K (law02_QuoteForth_5_0_f x y) (law02_QuoteForth_5_0_d x y) := by kernel_rfl
theorem law02_QuoteForth_5_0_ok {R : Type} (other : LSpec R) (ho : LsOk tt (law02_QuoteForth_E R law02_awake law02_Text law02_pick quote_Quote quote_Unquote quote_Whole) (law02_QuoteForth_T R law02_QuoteForth_5_0_L) 0 ((loopsOf (codeOf Tryd.f5)).getD 0 .skip) law02_QuoteForth_5_0_h other) : LsOk tt (law02_QuoteForth_E R law02_awake law02_Text law02_pick quote_Quote quote_Unquote quote_Whole) (law02_QuoteForth_T R law02_QuoteForth_5_0_L) 0 ((loopsOf (codeOf Tryd.f5)).getD 0 .skip) law02_QuoteForth_5_0_h (loopBy law02_QuoteForth_5_0_p law02_QuoteForth_5_0_q (law02_QuoteForth_5_0_rr (law02_QuoteForth_5_0_L)) other) :=
  loopBy_tie (A := law02_QuoteForth_5_0_A) ho (loop_tie law02_QuoteForth_5_0_enc (law02_QuoteForth_5_0_s quote_Quote quote_Unquote quote_Whole) (law02_QuoteForth_5_0_A) (law02_QuoteForth_5_0_A_zero) (law02_QuoteForth_5_0_B_ok law02_awake law02_Text law02_pick quote_Quote quote_Unquote quote_Whole law02_QuoteForth_5_0_L) (law02_QuoteForth_5_0_A_succ)) law02_QuoteForth_5_0_f law02_QuoteForth_5_0_d law02_QuoteForth_5_0_e_ok (law02_QuoteForth_5_0_r_ok)

noncomputable def law02_QuoteForth_X {R : Type} (law02_awake : law02_awake_ty R) (law02_Text : law02_Text_ty R) (law02_pick : law02_pick_ty R) (quote_Quote : quote_Quote_ty R) (law02_QuoteForth_5_0_L : law02_QuoteForth_5_0_ty R) (x1 : Str) (x2 : List Int) (x3 : Int) (x4 : Str) (k0 : Bool → Option R) : Option R :=
  law02_awake (fun y5 => law02_Text x2 (fun y6 => quote_Quote y6 (fun y7 y8 => law02_pick x3 (IntKind.i64.wrap ((y7.length : Int) + 1)) (fun y9 => chk (decide (1 + x1.length ≤ 9223372036854775807)) (chk (decide ((([34] : Str) ++ x1).length + 1 ≤ 9223372036854775807)) (chk (decide ((0 : Int) ≤ y9) && decide (y9 ≤ y7.length)) (chk (decide ((0 : Int) ≤ y9)) (chk (decide (((y7.drop 0).take (y9.toNat - 0)).length + x4.length ≤ 9223372036854775807)) (chk (decide ((0 : Int) ≤ (y7.length : Int)) && decide ((y7.length : Int) ≤ y7.length)) (chk (decide ((0 : Int) ≤ y9) && decide (y9 ≤ (y7.length : Int))) (chk (decide ((((y7.drop 0).take (y9.toNat - 0)) ++ x4).length + ((y7.drop y9.toNat).take ((y7.length : Int).toNat - y9.toNat)).length ≤ 9223372036854775807)) (law02_QuoteForth_5_0_L (List.length ([((([34] : Str) ++ x1) ++ ([34] : Str)), ((((y7.drop 0).take (y9.toNat - 0)) ++ x4) ++ ((y7.drop y9.toNat).take ((y7.length : Int).toNat - y9.toNat)))] : List Str) + Int.natAbs 2 + Int.natAbs 0 + 64) y5 ([((([34] : Str) ++ x1) ++ ([34] : Str)), ((((y7.drop 0).take (y9.toNat - 0)) ++ x4) ++ ((y7.drop y9.toNat).take ((y7.length : Int).toNat - y9.toNat)))] : List Str) 2 0 (fun y25 => k0 y25) (fun y26 y27 => k0 y26)))))))))))))
noncomputable def law02_QuoteForth {R : Type} : law02_QuoteForth_ty R := fun x1 x2 x3 x4 k0 => law02_QuoteForth_X law02_awake law02_Text law02_pick quote_Quote law02_QuoteForth_5_0_L x1 x2 x3 x4 k0
theorem law02_QuoteForth_ok {R : Type} (law02_awake : law02_awake_ty R) (law02_Text : law02_Text_ty R) (law02_pick : law02_pick_ty R) (quote_Quote : quote_Quote_ty R) (quote_Unquote : quote_Unquote_ty R) (quote_Whole : quote_Whole_ty R) (law02_QuoteForth_5_0_L : law02_QuoteForth_5_0_ty R) (x1 : Str) (x2 : List Int) (x3 : Int) (x4 : Str) (k : V → Heap → Option R) : funK tt (law02_QuoteForth_E R law02_awake law02_Text law02_pick quote_Quote quote_Unquote quote_Whole) (law02_QuoteForth_T R law02_QuoteForth_5_0_L) false Tryd.f5 (codeOf Tryd.f5) [.str x1, .sl (.int .i64) x2 .no, .int .i64 x3, .str x4] [] k =
    law02_QuoteForth_X law02_awake law02_Text law02_pick quote_Quote law02_QuoteForth_5_0_L x1 x2 x3 x4 (fun q0 => k (.bool q0) []) := by kernel_rfl
theorem law02_QuoteForth_loops (R : Type) : ∀ a ∈ loopsOf (codeOf Tryd.f5), LoopOk tt (law02_QuoteForth_E R law02_awake law02_Text law02_pick quote_Quote quote_Unquote quote_Whole) (law02_QuoteForth_T R law02_QuoteForth_5_0_L) 0 a := by
  refine loops_ok 1 (by kernel_rfl) fun i hi => ?_
  match i, hi with
  | 0, _ => exact loopOk_some (by kernel_rfl) (law02_QuoteForth_5_0_ok _ loopNo_ok)
  | n + 1, hi => omega
theorem law02_QuoteForth_S_ok (R : Type) (other : Yard.Spec R) (ho : Yard.Spec.Ok Tryd.prog 5 other) : Yard.Spec.Ok Tryd.prog 5 (specBy law02_QuoteForth_p law02_QuoteForth_q (law02_QuoteForth_rr law02_QuoteForth) other) :=
  specBy_ok ho (funK_sound TT mixed (law02_QuoteForth_EOk R) (keep := false) rfl rfl rfl rfl 0 (law02_QuoteForth_loops R)) fun (x : Pat.dens law02_QuoteForth_p) (y : HPat.dens law02_QuoteForth_q) k => law02_QuoteForth_ok law02_awake law02_Text law02_pick quote_Quote quote_Unquote quote_Whole law02_QuoteForth_5_0_L x.1 x.2.1 x.2.2.1 x.2.2.2.1 k

/-! ### humpyard/humpyardlaw02.QuoteUnits -/
abbrev law02_QuoteUnits_ty (R : Type) : Type := Int → Bool → (Bool → Option R) → Option R
abbrev law02_QuoteUnits_p : List Pat := [.leaf (.int .i64), .leaf (.bool)]
abbrev law02_QuoteUnits_q : List HPat := []
noncomputable def law02_QuoteUnits_rr {R : Type} (fn : law02_QuoteUnits_ty R) : Pat.dens law02_QuoteUnits_p → HPat.dens law02_QuoteUnits_q → (V → Heap → Option R) → Option R := fun x y k => fn x.1 x.2.1 (fun q0 => k (.bool q0) [])
noncomputable def law02_QuoteUnits_E (R : Type) (law02_awake : law02_awake_ty R) (law02_pick : law02_pick_ty R) (quote_Unquote : quote_Unquote_ty R) : Env R := fun i => match i with
  | 17 => some (true, (specBy law02_awake_p law02_awake_q (law02_awake_rr law02_awake) specNo))
  | 20 => some (true, (specBy law02_pick_p law02_pick_q (law02_pick_rr law02_pick) specNo))
  | 22 => some (true, (specBy quote_Unquote_p quote_Unquote_q (quote_Unquote_rr quote_Unquote) specNo))
  | _ => none
theorem law02_QuoteUnits_EOk (R : Type) : EOk Tryd.prog (law02_QuoteUnits_E R law02_awake law02_pick quote_Unquote) := by
  intro i b sp h
  unfold law02_QuoteUnits_E at h
  split at h
  · cases h; exact ⟨(law02_awake_S_ok R _ (specNo_ok _)), fun h => nomatch h⟩
  · cases h; exact ⟨(law02_pick_S_ok R _ (specNo_ok _)), fun h => nomatch h⟩
  · cases h; exact ⟨(quote_Unquote_S_ok R _ (specNo_ok _)), fun h => nomatch h⟩
  · cases h

noncomputable def law02_QuoteUnits_T (R : Type) : Nat → Option (Hint × LSpec R) := fun i => match i with
  | _ => none

noncomputable def law02_QuoteUnits_X {R : Type} (law02_awake : law02_awake_ty R) (law02_pick : law02_pick_ty R) (quote_Unquote : quote_Unquote_ty R) (x1 : Int) (x2 : Bool) (k0 : Bool → Option R) : Option R :=
  law02_awake (fun y3 => law02_pick x1 65536 (fun y4 => let j12 := fun (z5 : Str) => chk (decide ((0 : Int) ≤ (Int.fdiv y4 (2 ^ (min 12 IntKind.i64.bits)))) && decide ((Int.fdiv y4 (2 ^ (min 12 IntKind.i64.bits))) < z5.length)) (chk (decide ((0 : Int) ≤ (IntKind.i64.wrap ((BitVec.ofInt IntKind.i64.bits (Int.fdiv y4 (2 ^ (min 8 IntKind.i64.bits))) &&& BitVec.ofInt IntKind.i64.bits 15).toNat : Int))) && decide ((IntKind.i64.wrap ((BitVec.ofInt IntKind.i64.bits (Int.fdiv y4 (2 ^ (min 8 IntKind.i64.bits))) &&& BitVec.ofInt IntKind.i64.bits 15).toNat : Int)) < z5.length)) (chk (decide ((0 : Int) ≤ (IntKind.i64.wrap ((BitVec.ofInt IntKind.i64.bits (Int.fdiv y4 (2 ^ (min 4 IntKind.i64.bits))) &&& BitVec.ofInt IntKind.i64.bits 15).toNat : Int))) && decide ((IntKind.i64.wrap ((BitVec.ofInt IntKind.i64.bits (Int.fdiv y4 (2 ^ (min 4 IntKind.i64.bits))) &&& BitVec.ofInt IntKind.i64.bits 15).toNat : Int)) < z5.length)) (chk (decide ((0 : Int) ≤ (IntKind.i64.wrap ((BitVec.ofInt IntKind.i64.bits y4 &&& BitVec.ofInt IntKind.i64.bits 15).toNat : Int))) && decide ((IntKind.i64.wrap ((BitVec.ofInt IntKind.i64.bits y4 &&& BitVec.ofInt IntKind.i64.bits 15).toNat : Int)) < z5.length)) (chk (decide (3 + (List.map (fun n : Int => UInt8.ofNat n.toNat) ([((z5.getD ((Int.fdiv y4 (2 ^ (min 12 IntKind.i64.bits))).toNat) 0).toNat : Int), ((z5.getD ((IntKind.i64.wrap ((BitVec.ofInt IntKind.i64.bits (Int.fdiv y4 (2 ^ (min 8 IntKind.i64.bits))) &&& BitVec.ofInt IntKind.i64.bits 15).toNat : Int)).toNat) 0).toNat : Int), ((z5.getD ((IntKind.i64.wrap ((BitVec.ofInt IntKind.i64.bits (Int.fdiv y4 (2 ^ (min 4 IntKind.i64.bits))) &&& BitVec.ofInt IntKind.i64.bits 15).toNat : Int)).toNat) 0).toNat : Int), ((z5.getD ((IntKind.i64.wrap ((BitVec.ofInt IntKind.i64.bits y4 &&& BitVec.ofInt IntKind.i64.bits 15).toNat : Int)).toNat) 0).toNat : Int)] : List Int) : Str).length ≤ 9223372036854775807)) (chk (decide ((([34, 92, 117] : Str) ++ (List.map (fun n : Int => UInt8.ofNat n.toNat) ([((z5.getD ((Int.fdiv y4 (2 ^ (min 12 IntKind.i64.bits))).toNat) 0).toNat : Int), ((z5.getD ((IntKind.i64.wrap ((BitVec.ofInt IntKind.i64.bits (Int.fdiv y4 (2 ^ (min 8 IntKind.i64.bits))) &&& BitVec.ofInt IntKind.i64.bits 15).toNat : Int)).toNat) 0).toNat : Int), ((z5.getD ((IntKind.i64.wrap ((BitVec.ofInt IntKind.i64.bits (Int.fdiv y4 (2 ^ (min 4 IntKind.i64.bits))) &&& BitVec.ofInt IntKind.i64.bits 15).toNat : Int)).toNat) 0).toNat : Int), ((z5.getD ((IntKind.i64.wrap ((BitVec.ofInt IntKind.i64.bits y4 &&& BitVec.ofInt IntKind.i64.bits 15).toNat : Int)).toNat) 0).toNat : Int)] : List Int) : Str)).length + 1 ≤ 9223372036854775807)) (quote_Unquote ((([34, 92, 117] : Str) ++ (List.map (fun n : Int => UInt8.ofNat n.toNat) ([((z5.getD ((Int.fdiv y4 (2 ^ (min 12 IntKind.i64.bits))).toNat) 0).toNat : Int), ((z5.getD ((IntKind.i64.wrap ((BitVec.ofInt IntKind.i64.bits (Int.fdiv y4 (2 ^ (min 8 IntKind.i64.bits))) &&& BitVec.ofInt IntKind.i64.bits 15).toNat : Int)).toNat) 0).toNat : Int), ((z5.getD ((IntKind.i64.wrap ((BitVec.ofInt IntKind.i64.bits (Int.fdiv y4 (2 ^ (min 4 IntKind.i64.bits))) &&& BitVec.ofInt IntKind.i64.bits 15).toNat : Int)).toNat) 0).toNat : Int), ((z5.getD ((IntKind.i64.wrap ((BitVec.ofInt IntKind.i64.bits y4 &&& BitVec.ofInt IntKind.i64.bits 15).toNat : Int)).toNat) 0).toNat : Int)] : List Int) : Str)) ++ ([34] : Str)) (fun y6 y7 y8 => bif (decide (y4 ≥ (55296 : Int))) then (bif (decide (y4 ≤ (57343 : Int))) then (bif y3 then (bif (!y8) then (bif (y6 == ([] : Str)) then (k0 (y7 == 0)) else (k0 false)) else (k0 false)) else (k0 false)) else (bif y3 then (bif y8 then (bif (y7 == 8) then (k0 (y6 == (runesB ([(IntKind.i32.wrap y4)] : List Int)))) else (k0 false)) else (k0 false)) else (k0 false))) else (bif y3 then (bif y8 then (bif (y7 == 8) then (k0 (y6 == (runesB ([(IntKind.i32.wrap y4)] : List Int)))) else (k0 false)) else (k0 false)) else (k0 false))))))))); bif x2 then (j12 ([48, 49, 50, 51, 52, 53, 54, 55, 56, 57, 65, 66, 67, 68, 69, 70] : Str)) else (j12 ([48, 49, 50, 51, 52, 53, 54, 55, 56, 57, 97, 98, 99, 100, 101, 102] : Str))))
noncomputable def law02_QuoteUnits {R : Type} : law02_QuoteUnits_ty R := fun x1 x2 k0 => law02_QuoteUnits_X law02_awake law02_pick quote_Unquote x1 x2 k0
theorem law02_QuoteUnits_ok {R : Type} (law02_awake : law02_awake_ty R) (law02_pick : law02_pick_ty R) (quote_Unquote : quote_Unquote_ty R) (x1 : Int) (x2 : Bool) (k : V → Heap → Option R) : funK tt (law02_QuoteUnits_E R law02_awake law02_pick quote_Unquote) (law02_QuoteUnits_T R) false Tryd.f7 (codeOf Tryd.f7) [.int .i64 x1, .bool x2] [] k =
    law02_QuoteUnits_X law02_awake law02_pick quote_Unquote x1 x2 (fun q0 => k (.bool q0) []) := by kernel_rfl
theorem law02_QuoteUnits_loops (R : Type) : ∀ a ∈ loopsOf (codeOf Tryd.f7), LoopOk tt (law02_QuoteUnits_E R law02_awake law02_pick quote_Unquote) (law02_QuoteUnits_T R) 0 a := by
  refine loops_ok 0 (by kernel_rfl) fun i hi => ?_
  omega
theorem law02_QuoteUnits_S_ok (R : Type) (other : Yard.Spec R) (ho : Yard.Spec.Ok Tryd.prog 7 other) : Yard.Spec.Ok Tryd.prog 7 (specBy law02_QuoteUnits_p law02_QuoteUnits_q (law02_QuoteUnits_rr law02_QuoteUnits) other) :=
  specBy_ok ho (funK_sound TT mixed (law02_QuoteUnits_EOk R) (keep := false) rfl rfl rfl rfl 0 (law02_QuoteUnits_loops R)) fun (x : Pat.dens law02_QuoteUnits_p) (y : HPat.dens law02_QuoteUnits_q) k => law02_QuoteUnits_ok law02_awake law02_pick quote_Unquote x.1 x.2.1 k

end Go.Proofs.YtifgegmnngfckaaDoor

/-
  QuoteForth and QuoteUnits. Own work.
-/
set_option linter.unusedVariables false
set_option maxRecDepth 100000
namespace Go.Proofs.YtifgegmnngfckaaDoor
open Go Go.Yard Go.Lib

theorem uq_enc : ∀ (n : Nat) (s o o' r : Str), uq n s o = some (o', r) → (∃ rs : List Nat, (∀ c ∈ rs, vr c) ∧ o' = o ++ encL rs ∧ rs.length ≤ s.length) ∧ r.length + 1 ≤ s.length
  | 0, _, _, _, _, h => by cases h
  | n + 1, s, o, o', r, h => by
    simp only [uq] at h
    split at h
    · rename_i hp
      simp only [Option.some.injEq, Prod.mk.injEq] at h
      obtain ⟨rfl, rfl⟩ := h
      have hl : 1 ≤ s.length := by
        cases s with
        | nil => cases hp
        | cons b t => simp
      exact ⟨⟨[], by simp, by simp [encL], by simp⟩, by rw [List.length_drop]; omega⟩
    · cases hs : stepU s with
      | none => rw [hs] at h; cases h
      | some p =>
        obtain ⟨c, r1⟩ := p
        rw [hs] at h
        obtain ⟨hv, hl⟩ := stepU_ok hs
        obtain ⟨⟨rs, h1, h2, h3⟩, h4⟩ := uq_enc n r1 (o ++ enc c) o' r h
        refine ⟨⟨c :: rs, fun x hx => ?_, ?_, by simp only [List.length_cons]; omega⟩, by omega⟩
        · rcases List.mem_cons.1 hx with rfl | hx
          · exact hv
          · exact h1 x hx
        · rw [h2]; simp [encL]

theorem uqS_enc {s o r : Str} (h : uqS s = some (o, r)) : (∃ rs : List Nat, (∀ c ∈ rs, vr c) ∧ o = encL rs ∧ rs.length ≤ s.length) ∧ r.length + 2 ≤ s.length := by
  unfold uqS at h
  split at h
  · rename_i hp
    obtain ⟨⟨rs, h1, h2, h3⟩, h4⟩ := uq_enc _ _ _ _ _ h
    rw [List.length_drop] at h3 h4
    exact ⟨⟨rs, h1, by simpa using h2, by omega⟩, by omega⟩
  · cases h

theorem forth_round {R : Type} {l : List Str} (hlen : l.length ≤ 2) {i : Nat} (hi : i < l.length) {s : Str} (hg : l[i]? = some s) (hs : s.length ≤ 9000000) (y : Bool)
    (rec' : Bool → (List Str) → Int → Int → Option R) (e0 : Bool → Option R) (e1 : Bool → Bool → Option R) :
    law02_QuoteForth_5_0_B quote_Quote quote_Unquote quote_Whole rec' y l (l.length : Int) (i : Int) e0 e1 = rec' y l (l.length : Int) ((i + 1 : Nat) : Int) := by
  unfold law02_QuoteForth_5_0_B
  have hget : l.getD (i : Int).toNat (Ty.dflt .str) = s := by
    rw [Int.toNat_natCast]
    show (l[i]?).getD _ = s
    rw [hg]
    rfl
  have hw : IntKind.i64.wrap ((i : Int) + 1) = ((i + 1 : Nat) : Int) := by rw [wrap_id (by omega) (by omega)]; omega
  rw [dtrue (show (i : Int) < (l.length : Int) by omega), cond_true, chk_pos (by rw [dtrue (show (0 : Int) ≤ (i : Int) by omega)]; rfl), hget, hw, unquote_ok _ (by omega)]
  cases hu : uqS s with
  | none => rfl
  | some p =>
    obtain ⟨o, r⟩ := p
    obtain ⟨⟨rs, h1, rfl, h3⟩, h4⟩ := uqS_enc hu
    have hq := qcL_count rs h1
    have hl := qt_len rs
    have hv : validS (encL rs) = true := whole_iff.2 ⟨rs, h1, rfl⟩
    have hu2 := uqS_qt rs h1 []
    rw [List.append_nil] at hu2
    simp only [Bool.not_true, cond_false, quote_ok rs h1 (show rs.length ≤ 10000000000 by omega), whole_eq, hv]
    rw [unquote_ok _ (by omega), hu2]
    have e : IntKind.i64.wrap (((qt rs).length : Int) - (([] : Str).length : Int)) = ((qt rs).length : Int) := by
      rw [wrap_id (by simp) (by simp only [List.length_nil]; omega)]; simp
    have e2 : IntKind.i64.wrap ((s.length : Int) - (r.length : Int)) = (s.length : Int) - (r.length : Int) := wrap_id (by omega) (by omega)
    simp only [e, e2, Bool.not_true, cond_false, BEq.rfl]
    have e3 : (((qt rs).length : Int) != ((qt rs).length : Int)) = false := by simp
    rw [e3, cond_false, dfalse (show ¬ (s.length : Int) - (r.length : Int) < 2 by omega), cond_false, dfalse (show ¬ (s.length : Int) - (r.length : Int) > (s.length : Int) by omega), cond_false]

theorem quoteForth_true {R : Type} (s : Str) (raw : List Int) (at_ : Int) (more : Str) (hs : Small 1048576 (.str s)) (hr : Small 1048576 (.sl (.int .i64) raw .no)) (ha : Small 1048576 (.int .i64 at_)) (hm : Small 1048576 (.str more)) (k : Bool → Option R) :
    law02_QuoteForth s raw at_ more k = k true := by
  obtain ⟨rs, h1, h2, h3⟩ := text_ok (R := R) raw (small_i64 hr).2
  have hsl := hs.str_inv
  have hml := hm.str_inv
  have hai := i64_has.1 ha.int_inv
  have hcount := encL_count rs h1
  have hq := qcL_count rs h1
  have hl := qt_len rs
  have e : law02_QuoteForth s raw at_ more k = law02_QuoteForth_X law02_awake law02_Text law02_pick quote_Quote law02_QuoteForth_5_0_L s raw at_ more k := rfl
  rw [e]
  unfold law02_QuoteForth_X
  rw [awake02]
  simp only [h3, quote_ok rs h1 (by omega)]
  have ew : IntKind.i64.wrap (((qt rs).length : Int) + 1) = ((qt rs).length : Int) + 1 := wrap_id (by omega) (by omega)
  obtain ⟨p, p0, p1, hp⟩ := pick02 (R := R) at_ (((qt rs).length : Int) + 1) hai (by omega) (by omega)
  have c1 : (([34] : Str) ++ s).length = s.length + 1 := by simp
  have c2 : ((List.drop 0 (qt rs)).take (p.toNat - 0)).length ≤ (qt rs).length := by rw [List.length_take, List.length_drop]; omega
  have c3 : ((List.drop p.toNat (qt rs)).take (((qt rs).length : Int).toNat - p.toNat)).length ≤ (qt rs).length := by rw [List.length_take, List.length_drop]; omega
  rw [ew, hp, chk_pos (dtrue (by omega)), chk_pos (dtrue (by omega)), chk_pos (by rw [dtrue p0, dtrue (by omega)]; rfl), chk_pos (dtrue p0), chk_pos (dtrue (by omega)),
    chk_pos (by rw [dtrue (show (0 : Int) ≤ ((qt rs).length : Int) by omega), dtrue (show ((qt rs).length : Int) ≤ (qt rs).length by omega)]; rfl), chk_pos (by rw [dtrue p0, dtrue (by omega)]; rfl), chk_pos (dtrue (by rw [List.length_append]; omega))]
  generalize hA : (([34] : Str) ++ s) ++ ([34] : Str) = A
  generalize hB : ((List.drop 0 (qt rs)).take (p.toNat - 0) ++ more) ++ (List.drop p.toNat (qt rs)).take (((qt rs).length : Int).toNat - p.toNat) = B
  have lA : A.length ≤ 9000000 := by rw [← hA, List.length_append, c1]; simp only [List.length_cons, List.length_nil]; omega
  have lB : B.length ≤ 9000000 := by rw [← hB, List.length_append, List.length_append]; omega
  have key : ∀ (F : Nat) (e0 : Bool → Option R) (e1 : Bool → Bool → Option R), law02_QuoteForth_5_0_L (F + 3) true [A, B] 2 0 e0 e1 = e0 true := by
    intro F e0 e1
    have s1 : law02_QuoteForth_5_0_L (F + 3) true [A, B] 2 0 e0 e1 = law02_QuoteForth_5_0_B quote_Quote quote_Unquote quote_Whole (fun x0' x1' x2' x3' => law02_QuoteForth_5_0_L (F + 2) x0' x1' x2' x3' e0 e1) true [A, B] (([A, B] : List Str).length : Int) ((0 : Nat) : Int) e0 e1 := rfl
    rw [s1, forth_round (by simp) (by simp) (by rfl) lA]
    have s2 : law02_QuoteForth_5_0_L (F + 2) true [A, B] (([A, B] : List Str).length : Int) ((0 + 1 : Nat) : Int) e0 e1 = law02_QuoteForth_5_0_B quote_Quote quote_Unquote quote_Whole (fun x0' x1' x2' x3' => law02_QuoteForth_5_0_L (F + 1) x0' x1' x2' x3' e0 e1) true [A, B] (([A, B] : List Str).length : Int) ((1 : Nat) : Int) e0 e1 := rfl
    rw [s2, forth_round (by simp) (by simp) (by rfl) lB]
    rfl
  have hF : List.length ([A, B] : List Str) + Int.natAbs 2 + Int.natAbs 0 + 64 = 65 + 3 := rfl
  rw [hF, key]

/-! ### QuoteUnits -/
theorem and15 (n : Nat) (h : n < 65536) : IntKind.i64.wrap ((BitVec.ofInt IntKind.i64.bits (n : Int) &&& BitVec.ofInt IntKind.i64.bits 15).toNat : Int) = ((n % 16 : Nat) : Int) := by
  have h1 : (BitVec.ofInt IntKind.i64.bits (n : Int)).toNat = n := by
    rw [BitVec.toNat_ofInt]
    show ((n : Int) % ((2 ^ 64 : Nat) : Int)).toNat = n
    omega
  have h2 : (BitVec.ofInt IntKind.i64.bits 15).toNat = 15 := by decide
  rw [BitVec.toNat_and, h1, h2]
  have h3 : n &&& 15 = n % 16 := Nat.and_two_pow_sub_one_eq_mod n 4
  rw [h3, wrap_id (by omega) (by omega)]
theorem shr64 (c n : Nat) (h : n ≤ 64) : Int.fdiv (c : Int) (2 ^ (min n IntKind.i64.bits)) = ((c / 2 ^ n : Nat) : Int) := by
  have e : min n IntKind.i64.bits = n := Nat.min_eq_left h
  rw [e, Int.fdiv_eq_ediv_of_nonneg _ (by exact Int.le_of_lt (Int.pow_pos (by omega)))]
  rw [Int.natCast_ediv]
  congr 1

def upS : Str := [48, 49, 50, 51, 52, 53, 54, 55, 56, 57, 65, 66, 67, 68, 69, 70]
theorem hexv_lo : ∀ i : Fin 16, hexv (hexS.getD i.val 0) = some i.val := by decide +kernel
theorem hexv_up : ∀ i : Fin 16, hexv (upS.getD i.val 0) = some i.val := by decide +kernel

theorem unit_text {z : Str} (hz : ∀ i : Fin 16, hexv (z.getD i.val 0) = some i.val) {v : Nat} (hv : v < 65536) :
    uqS (34 :: 92 :: 117 :: z.getD (v / 4096) 0 :: z.getD (v / 256 % 16) 0 :: z.getD (v / 16 % 16) 0 :: z.getD (v % 16) 0 :: [34]) = if v < 55296 ∨ 57344 ≤ v then some (enc v, []) else none := by
  have hu : unitP (z.getD (v / 4096) 0 :: z.getD (v / 256 % 16) 0 :: z.getD (v / 16 % 16) 0 :: z.getD (v % 16) 0 :: [34]) = some (v, [34]) := by
    unfold unitP
    rw [if_neg (by simp only [List.length_cons]; omega)]
    have e : List.take 4 (z.getD (v / 4096) 0 :: z.getD (v / 256 % 16) 0 :: z.getD (v / 16 % 16) 0 :: z.getD (v % 16) 0 :: [34]) = [z.getD (v / 4096) 0, z.getD (v / 256 % 16) 0, z.getD (v / 16 % 16) 0, z.getD (v % 16) 0] := rfl
    have d3 := hz ⟨v / 4096, by omega⟩
    have d2 := hz ⟨v / 256 % 16, by omega⟩
    have d1 := hz ⟨v / 16 % 16, by omega⟩
    have d0 := hz ⟨v % 16, by omega⟩
    simp only at d3 d2 d1 d0
    rw [e]
    simp only [hexN, d3, d2, d1, d0]
    have : 16 * (16 * (16 * (16 * 0 + v / 4096) + v / 256 % 16) + v / 16 % 16) + v % 16 = v := by omega
    rw [this]
    rfl
  generalize z.getD (v / 4096) 0 = a at *
  generalize z.getD (v / 256 % 16) 0 = b at *
  generalize z.getD (v / 16 % 16) 0 = c at *
  generalize z.getD (v % 16) 0 = d at *
  unfold uqS
  rw [pre_cons]
  simp only [BEq.rfl, if_true, List.drop_succ_cons, List.drop_zero]
  have hstep : stepU (92 :: 117 :: a :: b :: c :: d :: [34]) = longP (a :: b :: c :: d :: [34]) := rfl
  have hlen : (34 :: 92 :: 117 :: a :: b :: c :: d :: ([34] : Str)).length + 1 = 7 + 1 + 1 := rfl
  rw [hlen]
  have hp : ([34] : Str).isPrefixOf (92 :: 117 :: a :: b :: c :: d :: [34]) = false := rfl
  have hunf : ∀ (n : Nat) (s o : Str), uq (n + 1) s o = if ([34] : Str).isPrefixOf s then some (o, s.drop 1) else match stepU s with | none => none | some (c, r) => uq n r (o ++ enc c) := fun _ _ _ => rfl
  rw [hunf, hp, hstep]
  simp only [Bool.false_eq_true, if_false]
  unfold longP
  rw [hu]
  simp only
  by_cases h1 : v < 55296 ∨ 57344 ≤ v
  · rw [if_pos h1, if_pos h1]
    rfl
  · rw [if_neg h1, if_neg h1]
    by_cases h2 : 56320 ≤ v
    · rw [if_pos h2]
    · rw [if_neg h2]
      rfl

theorem quoteUnits_true {R : Type} (n : Int) (great : Bool) (hn : Small 1048576 (.int .i64 n)) (hg : Small 1048576 (.bool great)) (k : Bool → Option R) : law02_QuoteUnits n great k = k true := by
  have hni := i64_has.1 hn.int_inv
  have e : law02_QuoteUnits n great k = law02_QuoteUnits_X law02_awake law02_pick quote_Unquote n great k := rfl
  rw [e]
  unfold law02_QuoteUnits_X
  rw [awake02]
  obtain ⟨p, p0, p1, hp⟩ := pick02 (R := R) n 65536 hni (by omega) (by omega)
  obtain ⟨v, rfl⟩ := Int.eq_ofNat_of_zero_le p0
  have hv : v < 65536 := by omega
  rw [hp]
  dsimp only
  have a3 := shr64 v 12 (by omega)
  have a2 := shr64 v 8 (by omega)
  have a1 := shr64 v 4 (by omega)
  have p12 : v / 2 ^ 12 = v / 4096 := rfl
  have p8 : v / 2 ^ 8 = v / 256 := rfl
  have p4 : v / 2 ^ 4 = v / 16 := rfl
  rw [p12] at a3; rw [p8] at a2; rw [p4] at a1
  rw [a3, a2, a1, and15 (v / 256) (by omega), and15 (v / 16) (by omega), and15 v hv]
  simp only [Int.toNat_natCast]
  have key : ∀ z : Str, z.length = 16 → (∀ i : Fin 16, hexv (z.getD i.val 0) = some i.val) →
      (chk (decide ((0 : Int) ≤ ((v / 4096 : Nat) : Int)) && decide (((v / 4096 : Nat) : Int) < z.length)) (chk (decide ((0 : Int) ≤ ((v / 256 % 16 : Nat) : Int)) && decide (((v / 256 % 16 : Nat) : Int) < z.length)) (chk (decide ((0 : Int) ≤ ((v / 16 % 16 : Nat) : Int)) && decide (((v / 16 % 16 : Nat) : Int) < z.length)) (chk (decide ((0 : Int) ≤ ((v % 16 : Nat) : Int)) && decide (((v % 16 : Nat) : Int) < z.length))
        (chk (decide (3 + (List.map (fun n : Int => UInt8.ofNat n.toNat) ([((z.getD (v / 4096) 0).toNat : Int), ((z.getD (v / 256 % 16) 0).toNat : Int), ((z.getD (v / 16 % 16) 0).toNat : Int), ((z.getD (v % 16) 0).toNat : Int)] : List Int) : Str).length ≤ 9223372036854775807))
        (chk (decide ((([34, 92, 117] : Str) ++ (List.map (fun n : Int => UInt8.ofNat n.toNat) ([((z.getD (v / 4096) 0).toNat : Int), ((z.getD (v / 256 % 16) 0).toNat : Int), ((z.getD (v / 16 % 16) 0).toNat : Int), ((z.getD (v % 16) 0).toNat : Int)] : List Int) : Str)).length + 1 ≤ 9223372036854775807))
        (quote_Unquote ((([34, 92, 117] : Str) ++ (List.map (fun n : Int => UInt8.ofNat n.toNat) ([((z.getD (v / 4096) 0).toNat : Int), ((z.getD (v / 256 % 16) 0).toNat : Int), ((z.getD (v / 16 % 16) 0).toNat : Int), ((z.getD (v % 16) 0).toNat : Int)] : List Int) : Str)) ++ ([34] : Str)) (fun y6 y7 y8 => bif (decide ((v : Int) ≥ (55296 : Int))) then (bif (decide ((v : Int) ≤ (57343 : Int))) then (bif true then (bif (!y8) then (bif (y6 == ([] : Str)) then (k (y7 == 0)) else (k false)) else (k false)) else (k false)) else (bif true then (bif y8 then (bif (y7 == 8) then (k (y6 == (runesB ([(IntKind.i32.wrap (v : Int))] : List Int)))) else (k false)) else (k false)) else (k false))) else (bif true then (bif y8 then (bif (y7 == 8) then (k (y6 == (runesB ([(IntKind.i32.wrap (v : Int))] : List Int)))) else (k false)) else (k false)) else (k false)))))))))) = k true := by
    intro z hz hx
    have em : (List.map (fun n : Int => UInt8.ofNat n.toNat) ([((z.getD (v / 4096) 0).toNat : Int), ((z.getD (v / 256 % 16) 0).toNat : Int), ((z.getD (v / 16 % 16) 0).toNat : Int), ((z.getD (v % 16) 0).toNat : Int)] : List Int) : Str) = [z.getD (v / 4096) 0, z.getD (v / 256 % 16) 0, z.getD (v / 16 % 16) 0, z.getD (v % 16) 0] := by
      simp only [List.map_cons, List.map_nil, Int.toNat_natCast, UInt8.ofNat_toNat]
    rw [em, hz]
    have el : ∀ a b c d : UInt8, ([a, b, c, d] : Str).length = 4 := fun _ _ _ _ => rfl
    have el2 : ∀ a b c d : UInt8, (([34, 92, 117] : Str) ++ [a, b, c, d]).length = 7 := fun _ _ _ _ => rfl
    rw [el, el2, chk_pos (by rw [dtrue (by omega), dtrue (by omega)]; rfl), chk_pos (by rw [dtrue (by omega), dtrue (by omega)]; rfl), chk_pos (by rw [dtrue (by omega), dtrue (by omega)]; rfl), chk_pos (by rw [dtrue (by omega), dtrue (by omega)]; rfl), chk_pos (dtrue (by omega)), chk_pos (dtrue (by omega))]
    have es : (([34, 92, 117] : Str) ++ [z.getD (v / 4096) 0, z.getD (v / 256 % 16) 0, z.getD (v / 16 % 16) 0, z.getD (v % 16) 0]) ++ ([34] : Str) = 34 :: 92 :: 117 :: z.getD (v / 4096) 0 :: z.getD (v / 256 % 16) 0 :: z.getD (v / 16 % 16) 0 :: z.getD (v % 16) 0 :: [34] := rfl
    rw [es, unquote_ok _ (by simp only [List.length_cons, List.length_nil]; omega), unit_text hx hv]
    by_cases h1 : v < 55296 ∨ 57344 ≤ v
    · rw [if_pos h1]
      simp only
      have hvr : vr v := by unfold vr; omega
      have hr : runesB ([(IntKind.i32.wrap (v : Int))] : List Int) = enc v := by rw [wrap32s (by omega)]; exact runesB_enc hvr
      have h8 : ∀ a b c d : UInt8, IntKind.i64.wrap (((34 :: 92 :: 117 :: a :: b :: c :: d :: ([34] : Str)).length : Int) - (([] : Str).length : Int)) = 8 := fun _ _ _ _ => (by decide : IntKind.i64.wrap (((8 : Nat) : Int) - ((0 : Nat) : Int)) = 8)
      rw [hr, h8]
      by_cases h2 : v < 55296
      · rw [dfalse (show ¬ (v : Int) ≥ 55296 by omega)]
        simp
      · rw [dtrue (show (v : Int) ≥ 55296 by omega), dfalse (show ¬ (v : Int) ≤ 57343 by omega)]
        simp
    · rw [if_neg h1]
      simp only
      rw [dtrue (show (v : Int) ≥ 55296 by omega), dtrue (show (v : Int) ≤ 57343 by omega)]
      rfl
  cases great with
  | true => exact key upS rfl hexv_up
  | false => exact key hexS rfl hexv_lo
end Go.Proofs.YtifgegmnngfckaaDoor

/-
  The document's own answer for texts, part 1: one character, what is whole, Quote. Own work.
-/
set_option linter.unusedVariables false
set_option maxRecDepth 100000
namespace Go.Proofs.YtifgegmnngfckaaDoor
open Go Go.Yard Go.Lib

theorem top2 : ∀ b : Fin 256, (IntKind.u8.wrap ((BitVec.ofInt IntKind.u8.bits (b.val : Int) &&& BitVec.ofInt IntKind.u8.bits 192).toNat : Int) != 128) = decide (b.val / 64 ≠ 2) := by decide +kernel
theorem and31 : ∀ b : Fin 256, IntKind.i64.wrap (IntKind.u8.wrap ((BitVec.ofInt IntKind.u8.bits (b.val : Int) &&& BitVec.ofInt IntKind.u8.bits 31).toNat : Int)) = ((b.val % 32 : Nat) : Int) := by decide +kernel
theorem and15b : ∀ b : Fin 256, IntKind.i64.wrap (IntKind.u8.wrap ((BitVec.ofInt IntKind.u8.bits (b.val : Int) &&& BitVec.ofInt IntKind.u8.bits 15).toNat : Int)) = ((b.val % 16 : Nat) : Int) := by decide +kernel
theorem and7 : ∀ b : Fin 256, IntKind.i64.wrap (IntKind.u8.wrap ((BitVec.ofInt IntKind.u8.bits (b.val : Int) &&& BitVec.ofInt IntKind.u8.bits 7).toNat : Int)) = ((b.val % 8 : Nat) : Int) := by decide +kernel

theorem of64 (n : Nat) (h : n < 18446744073709551616) : (BitVec.ofInt IntKind.i64.bits (n : Int)).toNat = n := by
  rw [BitVec.toNat_ofInt]
  show ((n : Int) % ((2 ^ 64 : Nat) : Int)).toNat = n
  omega

theorem or6 (v x : Nat) (hv : v < 1073741824) (hx : x < 64) :
    IntKind.i64.wrap ((BitVec.ofInt IntKind.i64.bits (IntKind.i64.wrap ((v : Int) * 2 ^ (min 6 IntKind.i64.bits))) ||| BitVec.ofInt IntKind.i64.bits (IntKind.i64.wrap (x : Int))).toNat : Int) = ((v * 64 + x : Nat) : Int) := by
  have e : (v : Int) * 2 ^ (min 6 IntKind.i64.bits) = ((v * 64 : Nat) : Int) := by
    show (v : Int) * 2 ^ 6 = _
    omega
  rw [e, wrap_id (n := ((v * 64 : Nat) : Int)) (by omega) (by omega), wrap_id (n := (x : Int)) (by omega) (by omega), BitVec.toNat_or, of64 _ (by omega), of64 _ (by omega)]
  have h2 : v * 64 ||| x = v * 64 + x := by
    have := Nat.two_pow_add_eq_or_of_lt (i := 6) (b := x) (by omega) v
    rw [show (2 : Nat) ^ 6 = 64 from rfl] at this
    rw [Nat.mul_comm v 64]
    exact this.symm
  rw [h2, wrap_id (by omega) (by omega)]

/-- A ROUND of one's loop. -/
theorem one_round {R : Type} {s : Str} {i n low v k : Nat} (hs : s.length ≤ 9000000000000000) (hk : k < n) (hi : i + k < s.length) (hv : v < 1073741824) (rec' : Str → Int → Int → Int → Int → Int → Option R) (e0 : Int → Int → Int → Option R) (e1 : Int → Int → Int → Int → Option R) :
    ref02_one_23_0_B rec' s (i : Int) (n : Int) (low : Int) (v : Int) (k : Int) e0 e1 = if (s.getD (i + k) 0).toNat / 64 = 2 then rec' s (i : Int) (n : Int) (low : Int) ((v * 64 + (s.getD (i + k) 0).toNat % 64 : Nat) : Int) ((k + 1 : Nat) : Int) else e1 0 (n : Int) (low : Int) (v : Int) := by
  unfold ref02_one_23_0_B
  have hw : IntKind.i64.wrap ((i : Int) + (k : Int)) = ((i + k : Nat) : Int) := by rw [wrap_id (by omega) (by omega)]; omega
  have hk1 : IntKind.i64.wrap ((k : Int) + 1) = ((k + 1 : Nat) : Int) := by rw [wrap_id (by omega) (by omega)]; omega
  rw [hw, hk1, Int.toNat_natCast, dtrue (show (k : Int) < (n : Int) by omega), cond_true, chk_pos (by rw [dtrue (by omega), dtrue (by omega)]; rfl)]
  have hb := UInt8.toNat_lt (s.getD (i + k) 0)
  generalize (s.getD (i + k) 0).toNat = b at *
  have t := top2 ⟨b, hb⟩
  simp only at t
  rw [t]
  by_cases h : b / 64 = 2
  · rw [dfalse (show ¬ b / 64 ≠ 2 by omega), cond_false, if_pos h, chk_pos (by rw [dtrue (by omega), dtrue (by omega)]; rfl)]
    have a := and63 ⟨b, hb⟩
    simp only at a
    rw [a, or6 v (b % 64) hv (Nat.mod_lt _ (by omega))]
  · rw [dtrue h, cond_true, if_neg h]

/-- How many bytes the character has that stands ahead; 0: none that is right. -/
def oneN (t : Str) : Nat := if good t then (decodeL t).2 else 0

/-- Is this one of the numbers that may be so written? -/
def tail (low v n : Nat) : Nat := if v < low ∨ 1114111 < v ∨ (55296 ≤ v ∧ v ≤ 57343) then 0 else n
theorem tail_ok {R : Type} (low v n : Nat) (k : Int → Option R) : (bif (decide ((v : Int) < (low : Int))) then (k 0) else (bif (decide ((v : Int) > (1114111 : Int))) then (k 0) else (bif (decide ((v : Int) ≥ (55296 : Int))) then (bif (decide ((v : Int) ≤ (57343 : Int))) then (k 0) else (k (n : Int))) else (k (n : Int))))) = k (tail low v n : Int) := by
  unfold tail
  by_cases h1 : v < low
  · rw [dtrue (show (v : Int) < (low : Int) by omega), if_pos (.inl h1)]; rfl
  rw [dfalse (show ¬ (v : Int) < (low : Int) by omega), cond_false]
  by_cases h2 : 1114111 < v
  · rw [dtrue (show (v : Int) > 1114111 by omega), if_pos (.inr (.inl h2))]; rfl
  rw [dfalse (show ¬ (v : Int) > 1114111 by omega), cond_false]
  by_cases h3 : 55296 ≤ v
  · rw [dtrue (show (v : Int) ≥ 55296 by omega), cond_true]
    by_cases h4 : v ≤ 57343
    · rw [dtrue (show (v : Int) ≤ 57343 by omega), if_pos (.inr (.inr ⟨h3, h4⟩))]; rfl
    · rw [dfalse (show ¬ (v : Int) ≤ 57343 by omega), if_neg (by omega)]; rfl
  · rw [dfalse (show ¬ (v : Int) ≥ 55296 by omega), if_neg (by omega)]; rfl

/-- What the reference reckons, out of the bytes. -/
def refN (l b0 b1 b2 b3 : Nat) : Nat :=
  if b0 < 128 then 1
  else if 194 ≤ b0 ∧ b0 ≤ 223 then (if l < 2 then 0 else if b1 / 64 = 2 then tail 128 (b0 % 32 * 64 + b1 % 64) 2 else 0)
  else if 224 ≤ b0 ∧ b0 ≤ 239 then (if l < 3 then 0 else if b1 / 64 = 2 then (if b2 / 64 = 2 then tail 2048 ((b0 % 16 * 64 + b1 % 64) * 64 + b2 % 64) 3 else 0) else 0)
  else if 240 ≤ b0 ∧ b0 ≤ 244 then (if l < 4 then 0 else if b1 / 64 = 2 then (if b2 / 64 = 2 then (if b3 / 64 = 2 then tail 65536 (((b0 % 8 * 64 + b1 % 64) * 64 + b2 % 64) * 64 + b3 % 64) 4 else 0) else 0) else 0)
  else 0

set_option maxHeartbeats 4000000 in
theorem refN_eq (l b0 b1 b2 b3 : Nat) (hl : 1 ≤ l) (h0 : b0 < 256) (h1 : b1 < 256) (h2 : b2 < 256) (h3 : b3 < 256) :
    refN l b0 b1 b2 b3 = if (decodeN l b0 b1 b2 b3).1 = 65533 ∧ (decodeN l b0 b1 b2 b3).2 = 1 then 0 else (decodeN l b0 b1 b2 b3).2 := by
  unfold refN tail decodeN
  by_cases c0 : b0 < 128
  · simp only [c0, if_true]
    rw [if_neg (by omega)]
  simp only [c0, if_false]
  by_cases c1 : 194 ≤ b0 ∧ b0 ≤ 223
  · simp only [c1, and_self, if_true]
    have d6 : b0 / 32 = 6 := by omega
    have d14 : ¬ b0 / 16 = 14 := by omega
    have d30 : ¬ b0 / 8 = 30 := by omega
    simp only [d6, d14, d30, true_and, false_and, if_false]
    (repeat' split) <;> first | rfl | omega | (simp at *; omega)
  simp only [c1, if_false]
  by_cases c2 : 224 ≤ b0 ∧ b0 ≤ 239
  · simp only [c2, and_self, if_true]
    have d6 : ¬ b0 / 32 = 6 := by omega
    have d14 : b0 / 16 = 14 := by omega
    have d30 : ¬ b0 / 8 = 30 := by omega
    simp only [d6, d14, d30, true_and, false_and, if_false]
    have hv : (b0 % 16 * 64 + b1 % 64) * 64 + b2 % 64 = b0 % 16 * 4096 + b1 % 64 * 64 + b2 % 64 := by omega
    rw [hv]
    generalize b0 % 16 * 4096 + b1 % 64 * 64 + b2 % 64 = v
    (repeat' split) <;> first | rfl | omega | (simp at *; omega)
  simp only [c2, if_false]
  by_cases c3 : 240 ≤ b0 ∧ b0 ≤ 244
  · simp only [c3, and_self, if_true]
    have d6 : ¬ b0 / 32 = 6 := by omega
    have d14 : ¬ b0 / 16 = 14 := by omega
    have d30 : b0 / 8 = 30 := by omega
    simp only [d6, d14, d30, true_and, false_and, if_false]
    have hv : ((b0 % 8 * 64 + b1 % 64) * 64 + b2 % 64) * 64 + b3 % 64 = b0 % 8 * 262144 + b1 % 64 * 4096 + b2 % 64 * 64 + b3 % 64 := by omega
    rw [hv]
    generalize b0 % 8 * 262144 + b1 % 64 * 4096 + b2 % 64 * 64 + b3 % 64 = v
    (repeat' split) <;> first | rfl | omega | (simp at *; omega)
  simp only [c3, if_false]
  (repeat' split) <;> first | rfl | omega | (simp at *; omega)
end Go.Proofs.YtifgegmnngfckaaDoor

/-
  The document's own answer for texts, part 2: one character, what is whole, Quote. Own work.
-/
set_option linter.unusedVariables false
set_option maxRecDepth 100000
namespace Go.Proofs.YtifgegmnngfckaaDoor
open Go Go.Yard Go.Lib

theorem one_L {R : Type} (n : Nat) (s : Str) (a b c d e : Int) (e0 : Int → Int → Int → Option R) (e1 : Int → Int → Int → Int → Option R) :
    ref02_one_23_0_L (n + 1) s a b c d e e0 e1 = ref02_one_23_0_B (fun x0' x1' x2' x3' x4' x5' => ref02_one_23_0_L n x0' x1' x2' x3' x4' x5' e0 e1) s a b c d e e0 e1 := rfl

theorem one_end {R : Type} (s : Str) (i n low v : Int) (rec' : Str → Int → Int → Int → Int → Int → Option R) (e0 : Int → Int → Int → Option R) (e1 : Int → Int → Int → Int → Option R) :
    ref02_one_23_0_B rec' s i n low v n e0 e1 = e0 n low v := by
  unfold ref02_one_23_0_B
  rw [dfalse (Int.lt_irrefl _), cond_false]

theorem one2 {R : Type} {s : Str} {i low v F : Nat} (hs : s.length ≤ 9000000000000000) (hi : i + 2 ≤ s.length) (hv : v < 64) (hF : 3 ≤ F) (e0 : Int → Int → Int → Option R) (e1 : Int → Int → Int → Int → Option R) :
    ref02_one_23_0_L F s (i : Int) 2 (low : Int) (v : Int) 1 e0 e1 = if (s.getD (i + 1) 0).toNat / 64 = 2 then e0 2 (low : Int) ((v * 64 + (s.getD (i + 1) 0).toNat % 64 : Nat) : Int) else e1 0 2 (low : Int) (v : Int) := by
  obtain ⟨n, rfl⟩ : ∃ n, F = n + 2 := ⟨F - 2, by omega⟩
  rw [one_L]
  refine (one_round (n := 2) (k := 1) hs (by omega) (by omega) (by omega) _ e0 e1).trans ?_
  by_cases h : (s.getD (i + 1) 0).toNat / 64 = 2
  · rw [if_pos h, if_pos h]
    show ref02_one_23_0_L (n + 1) s (i : Int) ((2 : Nat) : Int) (low : Int) _ ((1 + 1 : Nat) : Int) e0 e1 = _
    rw [one_L]
    exact one_end s i 2 low _ _ e0 e1
  · rw [if_neg h, if_neg h]; rfl

theorem one3 {R : Type} {s : Str} {i low v F : Nat} (hs : s.length ≤ 9000000000000000) (hi : i + 3 ≤ s.length) (hv : v < 64) (hF : 4 ≤ F) (e0 : Int → Int → Int → Option R) (k : Int → Option R) :
    ref02_one_23_0_L F s (i : Int) 3 (low : Int) (v : Int) 1 e0 (fun y21 _ _ _ => k y21) = if (s.getD (i + 1) 0).toNat / 64 = 2 then (if (s.getD (i + 2) 0).toNat / 64 = 2 then e0 3 (low : Int) (((v * 64 + (s.getD (i + 1) 0).toNat % 64) * 64 + (s.getD (i + 2) 0).toNat % 64 : Nat) : Int) else k 0) else k 0 := by
  obtain ⟨n, rfl⟩ : ∃ n, F = n + 3 := ⟨F - 3, by omega⟩
  rw [one_L]
  refine (one_round (n := 3) (k := 1) hs (by omega) (by omega) (by omega) _ e0 _).trans ?_
  by_cases h : (s.getD (i + 1) 0).toNat / 64 = 2
  · rw [if_pos h, if_pos h]
    show ref02_one_23_0_L (n + 2) s (i : Int) ((3 : Nat) : Int) (low : Int) _ ((2 : Nat) : Int) e0 _ = _
    rw [one_L]
    refine (one_round (n := 3) (k := 2) hs (by omega) (by omega) (by omega) _ e0 _).trans ?_
    by_cases h2 : (s.getD (i + 2) 0).toNat / 64 = 2
    · rw [if_pos h2, if_pos h2]
      show ref02_one_23_0_L (n + 1) s (i : Int) ((3 : Nat) : Int) (low : Int) _ ((3 : Nat) : Int) e0 _ = _
      rw [one_L]
      exact one_end s i 3 low _ _ e0 _
    · rw [if_neg h2, if_neg h2]
  · rw [if_neg h, if_neg h]

theorem one4 {R : Type} {s : Str} {i low v F : Nat} (hs : s.length ≤ 9000000000000000) (hi : i + 4 ≤ s.length) (hv : v < 64) (hF : 5 ≤ F) (e0 : Int → Int → Int → Option R) (k : Int → Option R) :
    ref02_one_23_0_L F s (i : Int) 4 (low : Int) (v : Int) 1 e0 (fun y21 _ _ _ => k y21) = if (s.getD (i + 1) 0).toNat / 64 = 2 then (if (s.getD (i + 2) 0).toNat / 64 = 2 then (if (s.getD (i + 3) 0).toNat / 64 = 2 then
      e0 4 (low : Int) ((((v * 64 + (s.getD (i + 1) 0).toNat % 64) * 64 + (s.getD (i + 2) 0).toNat % 64) * 64 + (s.getD (i + 3) 0).toNat % 64 : Nat) : Int) else k 0) else k 0) else k 0 := by
  obtain ⟨n, rfl⟩ : ∃ n, F = n + 4 := ⟨F - 4, by omega⟩
  rw [one_L]
  refine (one_round (n := 4) (k := 1) hs (by omega) (by omega) (by omega) _ e0 _).trans ?_
  by_cases h : (s.getD (i + 1) 0).toNat / 64 = 2
  · rw [if_pos h, if_pos h]
    show ref02_one_23_0_L (n + 3) s (i : Int) ((4 : Nat) : Int) (low : Int) _ ((2 : Nat) : Int) e0 _ = _
    rw [one_L]
    refine (one_round (n := 4) (k := 2) hs (by omega) (by omega) (by omega) _ e0 _).trans ?_
    by_cases h2 : (s.getD (i + 2) 0).toNat / 64 = 2
    · rw [if_pos h2, if_pos h2]
      show ref02_one_23_0_L (n + 2) s (i : Int) ((4 : Nat) : Int) (low : Int) _ ((3 : Nat) : Int) e0 _ = _
      rw [one_L]
      refine (one_round (n := 4) (k := 3) hs (by omega) (by omega) (by omega) _ e0 _).trans ?_
      by_cases h3 : (s.getD (i + 3) 0).toNat / 64 = 2
      · rw [if_pos h3, if_pos h3]
        show ref02_one_23_0_L (n + 1) s (i : Int) ((4 : Nat) : Int) (low : Int) _ ((4 : Nat) : Int) e0 _ = _
        rw [one_L]
        exact one_end s i 4 low _ _ e0 _
      · rw [if_neg h3, if_neg h3]
    · rw [if_neg h2, if_neg h2]
  · rw [if_neg h, if_neg h]

theorem getD_at' (s : Str) (i j : Nat) : (s.drop i).getD j 0 = s.getD (i + j) 0 := by simp [List.getD, List.getElem?_drop]

theorem oneN_ref (s : Str) (i : Nat) (hi : i < s.length) : oneN (s.drop i) = refN (s.length - i) (s.getD i 0).toNat (s.getD (i + 1) 0).toNat (s.getD (i + 2) 0).toNat (s.getD (i + 3) 0).toNat := by
  rw [refN_eq _ _ _ _ _ (by omega) (UInt8.toNat_lt _) (UInt8.toNat_lt _) (UInt8.toNat_lt _) (UInt8.toNat_lt _)]
  have e : decodeL (s.drop i) = decodeN (s.length - i) (s.getD i 0).toNat (s.getD (i + 1) 0).toNat (s.getD (i + 2) 0).toNat (s.getD (i + 3) 0).toNat := by
    rw [decodeL_N, List.length_drop, getD_at', getD_at', getD_at', getD_at', Nat.add_zero]
  unfold oneN
  by_cases h : good (s.drop i)
  · rw [if_pos h]
    unfold good at h
    rw [e] at h ⊢
    rw [if_neg h]
  · rw [if_neg h]
    have h' := Decidable.not_not.1 h
    rw [e] at h'
    rw [if_pos h']

/-- ONE of the reference. -/
theorem one_ok {R : Type} (s : Str) (i : Nat) (hi : i < s.length) (hs : s.length ≤ 9000000000000000) (k : Int → Option R) : ref02_one s (i : Int) k = k (oneN (s.drop i) : Int) := by
  have e : ref02_one s (i : Int) k = ref02_one_X ref02_one_23_0_L s (i : Int) k := rfl
  rw [e, oneN_ref s i hi]
  unfold ref02_one_X
  rw [chk_pos (by rw [dtrue (by omega), dtrue (by omega)]; rfl)]
  dsimp only
  rw [Int.toNat_natCast]
  have hb := UInt8.toNat_lt (s.getD i 0)
  have hF : ∀ a b c d e : Nat, 5 ≤ a + b + c + d + e + Int.natAbs 1 + 64 := fun a b c d e => by omega
  unfold refN
  have L2 := fun F (hF : 3 ≤ F) low v (hv : v < 64) (h : i + 2 ≤ s.length) e0 => one2 (R := R) (low := low) hs h hv hF e0 (fun y21 _ _ _ => k y21)
  have L3 := fun F (hF : 4 ≤ F) low v (hv : v < 64) (h : i + 3 ≤ s.length) e0 => one3 (R := R) (low := low) hs h hv hF e0 k
  have L4 := fun F (hF : 5 ≤ F) low v (hv : v < 64) (h : i + 4 ≤ s.length) e0 => one4 (R := R) (low := low) hs h hv hF e0 k
  have a31 := and31 ⟨(s.getD i 0).toNat, hb⟩
  have a15 := and15b ⟨(s.getD i 0).toNat, hb⟩
  have a7 := and7 ⟨(s.getD i 0).toNat, hb⟩
  simp only at a31 a15 a7
  rw [a31, a15, a7]
  generalize (s.getD i 0).toNat = b at *
  have w2 : IntKind.i64.wrap ((i : Int) + 2) = ((i + 2 : Nat) : Int) := by rw [wrap_id (by omega) (by omega)]; omega
  have w3 : IntKind.i64.wrap ((i : Int) + 3) = ((i + 3 : Nat) : Int) := by rw [wrap_id (by omega) (by omega)]; omega
  have w4 : IntKind.i64.wrap ((i : Int) + 4) = ((i + 4 : Nat) : Int) := by rw [wrap_id (by omega) (by omega)]; omega
  rw [w2, w3, w4]
  by_cases c0 : b < 128
  · rw [dtrue (show (b : Int) < 128 by omega), cond_true, if_pos c0]; rfl
  rw [dfalse (show ¬ (b : Int) < 128 by omega), cond_false, if_neg c0]
  by_cases c1 : 194 ≤ b ∧ b ≤ 223
  · rw [dtrue (show (b : Int) ≥ 194 by omega), cond_true, dtrue (show (b : Int) ≤ 223 by omega), cond_true, if_pos c1]
    by_cases hl : s.length - i < 2
    · rw [dtrue (show ((i + 2 : Nat) : Int) > (s.length : Int) by omega), cond_true, if_pos hl]; rfl
    · rw [dfalse (show ¬ ((i + 2 : Nat) : Int) > (s.length : Int) by omega), cond_false, if_neg hl]
      refine (L2 _ (by omega) 128 (b % 32) (by omega) (by omega) _).trans ?_
      by_cases h : (s.getD (i + 1) 0).toNat / 64 = 2
      · rw [if_pos h, if_pos h]
        exact tail_ok 128 _ 2 k
      · rw [if_neg h, if_neg h]; rfl
  rw [if_neg c1]
  have j8 : ∀ x z : Option R, (bif (decide ((b : Int) ≥ 194)) then (bif (decide ((b : Int) ≤ 223)) then x else z) else z) = z := by
    intro x z
    by_cases h : (b : Int) ≥ 194
    · rw [dtrue h, cond_true, dfalse (show ¬ (b : Int) ≤ 223 by omega), cond_false]
    · rw [dfalse h, cond_false]
  simp only [cond_false]
  rw [j8]
  by_cases c2 : 224 ≤ b ∧ b ≤ 239
  · rw [dtrue (show (b : Int) ≥ 224 by omega), cond_true, dtrue (show (b : Int) ≤ 239 by omega), cond_true, if_pos c2]
    by_cases hl : s.length - i < 3
    · rw [dtrue (show ((i + 3 : Nat) : Int) > (s.length : Int) by omega), cond_true, if_pos hl]; rfl
    · rw [dfalse (show ¬ ((i + 3 : Nat) : Int) > (s.length : Int) by omega), cond_false, if_neg hl]
      refine (L3 _ (by omega) 2048 (b % 16) (by omega) (by omega) _).trans ?_
      by_cases h : (s.getD (i + 1) 0).toNat / 64 = 2
      · rw [if_pos h, if_pos h]
        by_cases h2 : (s.getD (i + 2) 0).toNat / 64 = 2
        · rw [if_pos h2, if_pos h2]
          exact tail_ok 2048 _ 3 k
        · rw [if_neg h2, if_neg h2]; rfl
      · rw [if_neg h, if_neg h]; rfl
  rw [if_neg c2]
  by_cases c3 : 240 ≤ b ∧ b ≤ 244
  · have fin : (bif (decide (((i + 4 : Nat) : Int) > (s.length : Int))) then (k 0) else (ref02_one_23_0_L (List.length s + Int.natAbs (i : Int) + Int.natAbs 4 + Int.natAbs 65536 + Int.natAbs ((b % 8 : Nat) : Int) + Int.natAbs 1 + 64) s (i : Int) 4 65536 ((b % 8 : Nat) : Int) 1 (fun y18 y19 y20 => bif (decide (y20 < y19)) then (k 0) else (bif (decide (y20 > (1114111 : Int))) then (k 0) else (bif (decide (y20 ≥ (55296 : Int))) then (bif (decide (y20 ≤ (57343 : Int))) then (k 0) else (k y18)) else (k y18)))) (fun y21 y22 y23 y24 => k y21))) =
      k ((if s.length - i < 4 then 0 else if (s.getD (i + 1) 0).toNat / 64 = 2 then (if (s.getD (i + 2) 0).toNat / 64 = 2 then (if (s.getD (i + 3) 0).toNat / 64 = 2 then tail 65536 (((b % 8 * 64 + (s.getD (i + 1) 0).toNat % 64) * 64 + (s.getD (i + 2) 0).toNat % 64) * 64 + (s.getD (i + 3) 0).toNat % 64) 4 else 0) else 0) else 0 : Nat) : Int) := by
      by_cases hl : s.length - i < 4
      · rw [dtrue (show ((i + 4 : Nat) : Int) > (s.length : Int) by omega), cond_true, if_pos hl]; rfl
      · rw [dfalse (show ¬ ((i + 4 : Nat) : Int) > (s.length : Int) by omega), cond_false, if_neg hl]
        refine (L4 _ (by omega) 65536 (b % 8) (by omega) (by omega) _).trans ?_
        by_cases h : (s.getD (i + 1) 0).toNat / 64 = 2
        · rw [if_pos h, if_pos h]
          by_cases h2 : (s.getD (i + 2) 0).toNat / 64 = 2
          · rw [if_pos h2, if_pos h2]
            by_cases h3 : (s.getD (i + 3) 0).toNat / 64 = 2
            · rw [if_pos h3, if_pos h3]
              exact tail_ok 65536 _ 4 k
            · rw [if_neg h3, if_neg h3]; rfl
          · rw [if_neg h2, if_neg h2]; rfl
        · rw [if_neg h, if_neg h]; rfl
    rw [dtrue (show (b : Int) ≥ 224 by omega), cond_true, dfalse (show ¬ (b : Int) ≤ 239 by omega), cond_false, dtrue (show (b : Int) ≥ 240 by omega), cond_true, dtrue (show (b : Int) ≤ 244 by omega), cond_true, if_pos c3]
    exact fin
  · rw [if_neg c3]
    by_cases h1 : (b : Int) ≥ 224
    · rw [dtrue h1, cond_true, dfalse (show ¬ (b : Int) ≤ 239 by omega), cond_false]
      by_cases h2 : (b : Int) ≥ 240
      · rw [dtrue h2, cond_true, dfalse (show ¬ (b : Int) ≤ 244 by omega)]; rfl
      · rw [dfalse h2]; rfl
    · rw [dfalse h1, cond_false]
      by_cases h2 : (b : Int) ≥ 240
      · rw [dtrue h2, cond_true, dfalse (show ¬ (b : Int) ≤ 244 by omega)]; rfl
      · rw [dfalse h2]; rfl

/-! ### Whole -/
theorem oneN_zero {t : Str} : oneN t = 0 ↔ ¬ good t := by
  unfold oneN
  have h := decodeL_width t
  by_cases hg : good t
  · rw [if_pos hg]; constructor
    · intro e; omega
    · intro e; exact (e hg).elim
  · rw [if_neg hg]; exact ⟨fun _ => hg, fun _ => rfl⟩

theorem refWhole_loop {R : Type} (s : Str) (hs : s.length ≤ 9000000000000000) (e0 : Option R) (e1 : Bool → Option R) : ∀ (n i : Nat), i ≤ s.length → s.length - i < n →
    ref02_Whole_2_0_L n s (i : Int) e0 e1 = if validS (s.drop i) then e0 else e1 false := by
  intro n
  induction n with
  | zero => intro i h1 h2; omega
  | succ n ih =>
    intro i h1 h2
    have e : ref02_Whole_2_0_L (n + 1) s (i : Int) e0 e1 = ref02_Whole_2_0_B ref02_one (fun x0' x1' => ref02_Whole_2_0_L n x0' x1' e0 e1) s (i : Int) e0 e1 := rfl
    rw [e]
    unfold ref02_Whole_2_0_B
    by_cases hi : i < s.length
    · rw [dtrue (show (i : Int) < (s.length : Int) by omega), cond_true, one_ok s i hi hs]
      have hne : s.drop i ≠ [] := by
        intro e
        have := congrArg List.length e
        rw [List.length_drop, List.length_nil] at this
        omega
      rw [validS_step hne]
      by_cases hg : good (s.drop i)
      · have ho : oneN (s.drop i) = (decodeL (s.drop i)).2 := by unfold oneN; rw [if_pos hg]
        have h3 := decodeL_width (s.drop i)
        have h4 := decodeL_le _ hne
        rw [List.length_drop] at h4
        have e0' : (((oneN (s.drop i) : Nat) : Int) == 0) = false := by rw [beq_eq_false_iff_ne]; omega
        rw [e0', cond_false, if_pos hg, ho]
        have hw : IntKind.i64.wrap ((i : Int) + ((decodeL (s.drop i)).2 : Int)) = ((i + (decodeL (s.drop i)).2 : Nat) : Int) := by rw [wrap_id (by omega) (by omega)]; omega
        rw [hw]
        show ref02_Whole_2_0_L n s ((i + (decodeL (s.drop i)).2 : Nat) : Int) e0 e1 = _
        rw [ih _ (by omega) (by omega), List.drop_drop]
      · have e0' : (((oneN (s.drop i) : Nat) : Int) == 0) = true := by rw [oneN_zero.2 hg]; rfl
        rw [e0', cond_true, if_neg hg]
        rfl
    · rw [dfalse (show ¬ (i : Int) < (s.length : Int) by omega), cond_false]
      have : s.drop i = [] := List.drop_eq_nil_of_le (by omega)
      rw [this]
      rfl

theorem refWhole_ok {R : Type} (s : Str) (hs : s.length ≤ 9000000000000000) (k : Bool → Option R) : ref02_Whole s k = k (validS s) := by
  have e : ref02_Whole s k = ref02_Whole_X ref02_Whole_2_0_L s k := rfl
  rw [e]
  unfold ref02_Whole_X
  have := refWhole_loop (R := R) s hs (k true) (fun y5 => k y5) (List.length s + Int.natAbs 0 + 64) 0 (by omega) (by omega)
  refine Eq.trans this ?_
  rw [List.drop_zero]
  cases validS s <;> rfl
end Go.Proofs.YtifgegmnngfckaaDoor

/-
  The document's own answer for texts, part 3: Quote, numbers of four digits, what is laid. Own work.
-/
set_option linter.unusedVariables false
set_option maxRecDepth 100000
namespace Go.Proofs.YtifgegmnngfckaaDoor
open Go Go.Yard Go.Lib

theorem eqI (n m : Nat) : ((n : Int) == (m : Int)) = decide (n = m) := by
  by_cases h : n = m
  · subst h; simp
  · have : ¬ ((n : Int) = (m : Int)) := by omega
    simp [h, this]

/-- A byte, quoted. -/
def qb (b : UInt8) : Str :=
  if b.toNat = 34 ∨ b.toNat = 92 then [92, b] else if b.toNat = 8 then [92, 98] else if b.toNat = 9 then [92, 116] else if b.toNat = 10 then [92, 110] else if b.toNat = 12 then [92, 102] else if b.toNat = 13 then [92, 114]
  else if b.toNat < 32 then [92, 117, 48, 48, hexS.getD (b.toNat / 16) 0, hexS.getD (b.toNat % 16) 0] else [b]

theorem qb_len (b : UInt8) : (qb b).length ≤ 6 := by unfold qb; (repeat' split) <;> simp

theorem hexI : ∀ b : Fin 32, Int.tmod (IntKind.i64.wrap (Int.tdiv (IntKind.i64.wrap (b.val : Int)) 16)) 16 = ((b.val / 16 : Nat) : Int) ∧ Int.tmod (IntKind.i64.wrap (b.val : Int)) 16 = ((b.val % 16 : Nat) : Int) := by decide +kernel

theorem refQuote_loop {R : Type} (s : Str) (hs : s.length ≤ 9000000000) (e0 : List Int → Option R) : ∀ (n i : Nat) (o : Str), i ≤ s.length → s.length - i < n → o.length + 6 * (s.length - i) ≤ 90000000000 →
    ref02_Quote_6_0_L n s (zs o) (i : Int) e0 = e0 (zs (o ++ (s.drop i).flatMap qb)) := by
  intro n
  induction n with
  | zero => intro i o h1 h2; omega
  | succ n ih =>
    intro i o h1 h2 h3
    have e : ref02_Quote_6_0_L (n + 1) s (zs o) (i : Int) e0 = ref02_Quote_6_0_B ref02_hex (fun x0' x1' x2' => ref02_Quote_6_0_L n x0' x1' x2' e0) s (zs o) (i : Int) e0 := rfl
    rw [e]
    unfold ref02_Quote_6_0_B
    by_cases hi : i < s.length
    · have hw : IntKind.i64.wrap ((i : Int) + 1) = ((i + 1 : Nat) : Int) := by rw [wrap_id (by omega) (by omega)]; omega
      rw [dtrue (show (i : Int) < (s.length : Int) by omega), cond_true, chk_pos (by rw [dtrue (show (0 : Int) ≤ (i : Int) by omega)]; rfl), hw, Int.toNat_natCast]
      have hd : s.drop i = s.getD i 0 :: s.drop (i + 1) := by rw [List.drop_eq_getElem_cons hi]; simp [List.getD, hi]
      generalize s.getD i 0 = b at *
      have next : ∀ z : Str, z = qb b → ref02_Quote_6_0_L n s (zs (o ++ z)) ((i + 1 : Nat) : Int) e0 = e0 (zs (o ++ (s.drop i).flatMap qb)) := by
        intro z hz
        have := qb_len b
        rw [ih (i + 1) (o ++ z) (by omega) (by omega) (by rw [List.length_append, hz]; omega), hd, List.flatMap_cons, hz, List.append_assoc]
      have hl2 : decide (((zs o).length + 2) * 1 ≤ 140737488355328) = true := dtrue (by rw [zs_len]; omega)
      have hl6 : decide (((zs o).length + 6) * 1 ≤ 140737488355328) = true := dtrue (by rw [zs_len]; omega)
      have hl1 : decide (((zs o).length + 1) * 1 ≤ 140737488355328) = true := dtrue (by rw [zs_len]; omega)
      have hb := UInt8.toNat_lt b
      have q34 : ((b.toNat : Int) == 34) = decide (b.toNat = 34) := eqI _ 34
      have q92 : ((b.toNat : Int) == 92) = decide (b.toNat = 92) := eqI _ 92
      have q8 : ((b.toNat : Int) == 8) = decide (b.toNat = 8) := eqI _ 8
      have q9 : ((b.toNat : Int) == 9) = decide (b.toNat = 9) := eqI _ 9
      have q10 : ((b.toNat : Int) == 10) = decide (b.toNat = 10) := eqI _ 10
      have q12 : ((b.toNat : Int) == 12) = decide (b.toNat = 12) := eqI _ 12
      have q13 : ((b.toNat : Int) == 13) = decide (b.toNat = 13) := eqI _ 13
      rw [hl2, hl6, hl1, q34, q92, q8, q9, q10, q12, q13]
      simp only [chk_pos rfl]
      by_cases h34 : b.toNat = 34
      · rw [dtrue h34, cond_true]
        simp only [cond_true]
        have hq : [92, b] = qb b := by unfold qb; rw [if_pos (.inl h34)]
        have := next _ hq
        rw [zs_app] at this
        exact this
      rw [dfalse h34, cond_false]
      by_cases h92 : b.toNat = 92
      · rw [dtrue h92]
        simp only [cond_true]
        have hq : [92, b] = qb b := by unfold qb; rw [if_pos (.inr h92)]
        have := next _ hq
        rw [zs_app] at this
        exact this
      rw [dfalse h92]
      simp only [cond_false]
      by_cases h8 : b.toNat = 8
      · rw [dtrue h8, cond_true]
        have := next [92, 98] (by unfold qb; simp [h8])
        rw [zs_app] at this
        exact this
      rw [dfalse h8, cond_false]
      by_cases h9 : b.toNat = 9
      · rw [dtrue h9, cond_true]
        have := next [92, 116] (by unfold qb; simp [h9])
        rw [zs_app] at this
        exact this
      rw [dfalse h9, cond_false]
      by_cases h10 : b.toNat = 10
      · rw [dtrue h10, cond_true]
        have := next [92, 110] (by unfold qb; simp [h10])
        rw [zs_app] at this
        exact this
      rw [dfalse h10, cond_false]
      by_cases h12 : b.toNat = 12
      · rw [dtrue h12, cond_true]
        have := next [92, 102] (by unfold qb; simp [h12])
        rw [zs_app] at this
        exact this
      rw [dfalse h12, cond_false]
      by_cases h13 : b.toNat = 13
      · rw [dtrue h13, cond_true]
        have := next [92, 114] (by unfold qb; simp [h13])
        rw [zs_app] at this
        exact this
      rw [dfalse h13, cond_false]
      by_cases h32 : b.toNat < 32
      · rw [dtrue (show (b.toNat : Int) < 32 by omega), cond_true]
        obtain ⟨k1, k2⟩ := hexI ⟨b.toNat, h32⟩
        simp only at k1 k2
        have hx : ∀ (x : Int) (f : Int → Option R), ref02_hex x f = chk (decide ((0 : Int) ≤ (Int.tmod x 16)) && decide ((Int.tmod x 16) < (16 : Int))) (f ((hexS.getD ((Int.tmod x 16).toNat) 0).toNat : Int)) := fun _ _ => rfl
        rw [hx, k1, chk_pos (by rw [dtrue (by omega), dtrue (by omega)]; rfl), hx, k2, chk_pos (by rw [dtrue (by omega), dtrue (by omega)]; rfl), Int.toNat_natCast, Int.toNat_natCast]
        have := next [92, 117, 48, 48, hexS.getD (b.toNat / 16) 0, hexS.getD (b.toNat % 16) 0] (by unfold qb; simp [h34, h92, h8, h9, h10, h12, h13, h32])
        rw [zs_app] at this
        exact this
      · rw [dfalse (show ¬ (b.toNat : Int) < 32 by omega), cond_false]
        have := next [b] (by unfold qb; simp [h34, h92, h8, h9, h10, h12, h13, h32])
        rw [zs_app] at this
        exact this
    · rw [dfalse (show ¬ (i : Int) < (s.length : Int) by omega), cond_false]
      have : s.drop i = [] := List.drop_eq_nil_of_le (by omega)
      rw [this]
      simp

theorem qb_high {b : UInt8} (h : 128 ≤ b.toNat) : qb b = [b] := by
  unfold qb
  rw [if_neg (by omega), if_neg (by omega), if_neg (by omega), if_neg (by omega), if_neg (by omega), if_neg (by omega), if_neg (by omega)]

theorem qb_enc {c : Nat} (hv : vr c) : (enc c).flatMap qb = qc c := by
  have hlt := vr_lt hv
  rcases enc_cases hv with ⟨h1, e⟩ | ⟨h0, h1, e⟩ | ⟨h0, h1, e⟩ | ⟨h0, e⟩
  · rw [e]
    simp only [List.flatMap_cons, List.flatMap_nil, List.append_nil]
    have hu := u8_nat c (by omega)
    unfold qb qc shortC
    rw [hu]
    by_cases h34 : c = 34
    · subst h34; rfl
    by_cases h92 : c = 92
    · subst h92; rfl
    by_cases h8 : c = 8
    · subst h8; rfl
    by_cases h9 : c = 9
    · subst h9; rfl
    by_cases h10 : c = 10
    · subst h10; rfl
    by_cases h12 : c = 12
    · subst h12; rfl
    by_cases h13 : c = 13
    · subst h13; rfl
    simp only [h34, h92, h8, h9, h10, h12, h13, or_self, if_false, ne_eq, not_true_eq_false]
    by_cases h32 : c < 32
    · simp only [h32, if_true]
    · simp only [h32, if_false]
      rw [e]
  · have hq : qc c = enc c := qc_enc (by unfold shortC; rw [if_neg (by omega), if_neg (by omega), if_neg (by omega), if_neg (by omega), if_neg (by omega), if_neg (by omega)]) (by omega)
    rw [hq, e]
    simp only [List.flatMap_cons, List.flatMap_nil, List.append_nil]
    rw [qb_high (by rw [u8_nat _ (by omega)]; omega), qb_high (by rw [u8_nat _ (by omega)]; omega)]; rfl
  · have hq : qc c = enc c := qc_enc (by unfold shortC; rw [if_neg (by omega), if_neg (by omega), if_neg (by omega), if_neg (by omega), if_neg (by omega), if_neg (by omega)]) (by omega)
    rw [hq, e]
    simp only [List.flatMap_cons, List.flatMap_nil, List.append_nil]
    rw [qb_high (by rw [u8_nat _ (by omega)]; omega), qb_high (by rw [u8_nat _ (by omega)]; omega), qb_high (by rw [u8_nat _ (by omega)]; omega)]; rfl
  · have hq : qc c = enc c := qc_enc (by unfold shortC; rw [if_neg (by omega), if_neg (by omega), if_neg (by omega), if_neg (by omega), if_neg (by omega), if_neg (by omega)]) (by omega)
    rw [hq, e]
    simp only [List.flatMap_cons, List.flatMap_nil, List.append_nil]
    rw [qb_high (by rw [u8_nat _ (by omega)]; omega), qb_high (by rw [u8_nat _ (by omega)]; omega), qb_high (by rw [u8_nat _ (by omega)]; omega), qb_high (by rw [u8_nat _ (by omega)]; omega)]; rfl

theorem qb_encL : ∀ (rs : List Nat), (∀ c ∈ rs, vr c) → (encL rs).flatMap qb = qcL rs
  | [], _ => rfl
  | c :: rs, h => by
    have e : encL (c :: rs) = enc c ++ encL rs := by simp [encL]
    have e2 : qcL (c :: rs) = qc c ++ qcL rs := by simp [qcL]
    rw [e, e2, List.flatMap_append, qb_enc (h c (by simp)), qb_encL rs (fun x hx => h x (by simp [hx]))]

theorem unz (s : Str) : (List.map (fun n : Int => UInt8.ofNat n.toNat) (zs s) : Str) = s := bstr_zs s

theorem refQuote_ok {R : Type} (rs : List Nat) (hr : ∀ c ∈ rs, vr c) (hl : rs.length ≤ 2000000000) (k : Str → Bool → Option R) : ref02_Quote (encL rs) k = k (qt rs) true := by
  have hc := encL_count rs hr
  have hw : validS (encL rs) = true := whole_iff.2 ⟨rs, hr, rfl⟩
  have hq := qcL_count rs hr
  have e : ref02_Quote (encL rs) k = ref02_Quote_X ref02_Whole ref02_Quote_6_0_L (encL rs) k := rfl
  rw [e]
  unfold ref02_Quote_X
  rw [refWhole_ok _ (by omega), hw, Bool.not_true, cond_false]
  have e34 : ([34] : List Int) = zs [34] := rfl
  rw [e34]
  have := refQuote_loop (R := R) (encL rs) (by omega) (fun y11 => chk (decide ((y11.length + 1) * 1 ≤ 140737488355328)) (k (List.map (fun n : Int => UInt8.ofNat n.toNat) ((y11 : List Int) ++ (zs [34] : List Int)) : Str) true)) (List.length (encL rs) + List.length (zs [34]) + Int.natAbs 0 + 64) 0 [34] (by omega) (by omega) (by simp only [List.length_cons, List.length_nil]; omega)
  refine Eq.trans this ?_
  simp only [List.drop_zero, qb_encL rs hr]
  rw [chk_pos (dtrue (by rw [zs_len, List.length_append]; simp only [List.length_cons, List.length_nil]; omega)), ← zs_app, unz]
  rfl

theorem refQuote_bad {R : Type} (s : Str) (hs : s.length ≤ 9000000000000000) (h : validS s = false) (k : Str → Bool → Option R) : ref02_Quote s k = k [] false := by
  have e : ref02_Quote s k = ref02_Quote_X ref02_Whole ref02_Quote_6_0_L s k := rfl
  rw [e]
  unfold ref02_Quote_X
  rw [refWhole_ok s hs, h]
  rfl

end Go.Proofs.YtifgegmnngfckaaDoor

/-
  The document's own answer for texts, part 4: numbers of four digits, what is laid, escapes. Own work.
-/
set_option linter.unusedVariables false
set_option maxRecDepth 100000
namespace Go.Proofs.YtifgegmnngfckaaDoor
open Go Go.Yard Go.Lib

theorem wrap8m {a b : Nat} (h : b ≤ a) (ha : a < 256) : IntKind.u8.wrap ((a : Int) - (b : Int)) = ((a - b : Nat) : Int) := by
  have : (a : Int) - (b : Int) = ((a - b : Nat) : Int) := by omega
  rw [this, wrap8, Nat.mod_eq_of_lt (by omega)]

theorem four_round {R : Type} {s : Str} {p k v : Nat} (hs : s.length ≤ 9000000000000000) (hp : p ≤ s.length) (hk : k < p + 4) (hi : k < s.length) (hv : v < 4096) (rec' : Str → Int → Int → Int → Option R) (e0 : Int → Option R) (e1 : Int → Int → Option R) :
    ref02_four_5_0_B rec' s (p : Int) (v : Int) (k : Int) e0 e1 = match hexv (s.getD k 0) with | some d => rec' s (p : Int) ((16 * v + d : Nat) : Int) ((k + 1 : Nat) : Int) | none => e1 (-1) (v : Int) := by
  unfold ref02_four_5_0_B
  have hw : IntKind.i64.wrap ((p : Int) + 4) = ((p + 4 : Nat) : Int) := by rw [wrap_id (by omega) (by omega)]; omega
  have hk1 : IntKind.i64.wrap ((k : Int) + 1) = ((k + 1 : Nat) : Int) := by rw [wrap_id (by omega) (by omega)]; omega
  rw [hw, hk1, Int.toNat_natCast, dtrue (show (k : Int) < ((p + 4 : Nat) : Int) by omega), cond_true, chk_pos (by rw [dtrue (by omega), dtrue (by omega)]; rfl)]
  dsimp only
  have hb := UInt8.toNat_lt (s.getD k 0)
  unfold hexv
  simp only
  generalize (s.getD k 0).toNat = b at *
  have k1 : IntKind.i64.wrap (16 * (v : Int)) = ((16 * v : Nat) : Int) := by rw [wrap_id (by omega) (by omega)]; omega
  have fin : ∀ (z : Int) (d : Nat), z = (d : Int) → d < 16 → IntKind.i64.wrap ((IntKind.i64.wrap (16 * (v : Int))) + z) = ((16 * v + d : Nat) : Int) := by
    intro z d hz hd
    rw [k1, hz, wrap_id (by omega) (by omega)]
    omega
  by_cases h1 : 48 ≤ b ∧ b ≤ 57
  · rw [dtrue (show (b : Int) ≥ 48 by omega), cond_true, dtrue (show (b : Int) ≤ 57 by omega), cond_true, if_pos h1]
    have e : IntKind.u8.wrap ((b : Int) - 48) = ((b - 48 : Nat) : Int) := wrap8m (b := 48) h1.1 hb
    rw [fin _ (b - 48) (by rw [e, wrap_id (by omega) (by omega)]) (by omega)]
  rw [if_neg h1]
  have j12 : ∀ x z : Option R, (bif (decide ((b : Int) ≥ 48)) then (bif (decide ((b : Int) ≤ 57)) then x else z) else z) = z := by
    intro x z
    by_cases h : (b : Int) ≥ 48
    · rw [dtrue h, cond_true, dfalse (show ¬ (b : Int) ≤ 57 by omega), cond_false]
    · rw [dfalse h, cond_false]
  simp only [cond_false]
  rw [j12]
  by_cases h2 : 65 ≤ b ∧ b ≤ 70
  · rw [if_pos h2, dfalse (show ¬ (b : Int) ≥ 97 by omega), cond_false, dtrue (show (b : Int) ≥ 65 by omega), cond_true, dtrue (show (b : Int) ≤ 70 by omega), cond_true]
    have e : IntKind.u8.wrap ((b : Int) - 65) = ((b - 65 : Nat) : Int) := wrap8m (b := 65) h2.1 hb
    rw [fin _ (b - 55) (by rw [e, wrap_id (n := ((b - 65 : Nat) : Int)) (by omega) (by omega), wrap_id (by omega) (by omega)]; omega) (by omega)]
  rw [if_neg h2]
  have j65 : ∀ x z : Option R, (bif (decide ((b : Int) ≥ 65)) then (bif (decide ((b : Int) ≤ 70)) then x else z) else z) = z := by
    intro x z
    by_cases h : (b : Int) ≥ 65
    · rw [dtrue h, cond_true, dfalse (show ¬ (b : Int) ≤ 70 by omega), cond_false]
    · rw [dfalse h, cond_false]
  rw [j65]
  by_cases h3 : 97 ≤ b ∧ b ≤ 102
  · rw [if_pos h3, dtrue (show (b : Int) ≥ 97 by omega), cond_true, dtrue (show (b : Int) ≤ 102 by omega), cond_true]
    have e : IntKind.u8.wrap ((b : Int) - 97) = ((b - 97 : Nat) : Int) := wrap8m (b := 97) h3.1 hb
    rw [fin _ (b - 87) (by rw [e, wrap_id (n := ((b - 97 : Nat) : Int)) (by omega) (by omega), wrap_id (by omega) (by omega)]; omega) (by omega)]
  rw [if_neg h3]
  by_cases h4 : (b : Int) ≥ 97
  · rw [dtrue h4, cond_true, dfalse (show ¬ (b : Int) ≤ 102 by omega), cond_false]
  · rw [dfalse h4, cond_false]

theorem getD_drop_take (s : Str) (k m : Nat) (hm : 0 < m) (hk : k < s.length) : (s.drop k).take m = s.getD k 0 :: (s.drop (k + 1)).take (m - 1) := by
  obtain ⟨j, rfl⟩ : ∃ j, m = j + 1 := ⟨m - 1, by omega⟩
  rw [List.drop_eq_getElem_cons hk, List.take_succ_cons]
  simp [List.getD, hk]

theorem four_loop {R : Type} {s : Str} {p : Nat} (hs : s.length ≤ 9000000000000000) (hp : p + 4 ≤ s.length) (e0 : Int → Option R) (e1 : Int → Int → Option R) : ∀ (m n k v : Nat), k + m = p + 4 → m < n → v < 16 ^ (4 - m) → m ≤ 4 →
    (match hexN ((s.drop k).take m) v with
     | some u => ref02_four_5_0_L n s (p : Int) (v : Int) (k : Int) e0 e1 = e0 (u : Int)
     | none => ∃ w, ref02_four_5_0_L n s (p : Int) (v : Int) (k : Int) e0 e1 = e1 (-1) w) := by
  intro m
  induction m with
  | zero =>
    intro n k v hk hn hv _
    obtain ⟨n, rfl⟩ : ∃ j, n = j + 1 := ⟨n - 1, by omega⟩
    rw [List.take_zero]
    simp only [hexN]
    have e : ref02_four_5_0_L (n + 1) s (p : Int) (v : Int) (k : Int) e0 e1 = ref02_four_5_0_B (fun x0' x1' x2' x3' => ref02_four_5_0_L n x0' x1' x2' x3' e0 e1) s (p : Int) (v : Int) (k : Int) e0 e1 := rfl
    rw [e]
    unfold ref02_four_5_0_B
    have hw : IntKind.i64.wrap ((p : Int) + 4) = ((p + 4 : Nat) : Int) := by rw [wrap_id (by omega) (by omega)]; omega
    rw [hw, dfalse (show ¬ (k : Int) < ((p + 4 : Nat) : Int) by omega), cond_false]
  | succ m ih =>
    intro n k v hk hn hv hm
    obtain ⟨n, rfl⟩ : ∃ j, n = j + 1 := ⟨n - 1, by omega⟩
    have hv2 : v < 4096 := by
      have : 16 ^ (4 - (m + 1)) ≤ 16 ^ 3 := Nat.pow_le_pow_right (by omega) (by omega)
      have e : (16 : Nat) ^ 3 = 4096 := rfl
      omega
    have e : ref02_four_5_0_L (n + 1) s (p : Int) (v : Int) (k : Int) e0 e1 = ref02_four_5_0_B (fun x0' x1' x2' x3' => ref02_four_5_0_L n x0' x1' x2' x3' e0 e1) s (p : Int) (v : Int) (k : Int) e0 e1 := rfl
    rw [e, four_round hs (by omega) (by omega) (by omega) hv2, getD_drop_take s k (m + 1) (by omega) (by omega)]
    simp only [hexN, Nat.add_sub_cancel]
    cases hx : hexv (s.getD k 0) with
    | none => exact ⟨_, rfl⟩
    | some d =>
      have hd := hexv_lt hx
      have h16 : 16 ^ (4 - m) = 16 ^ (4 - (m + 1)) * 16 := by rw [← Nat.pow_succ]; congr 1; omega
      exact ih n (k + 1) (16 * v + d) (by omega) (by omega) (by omega) (by omega)

theorem four_ok {R : Type} (s : Str) (p : Nat) (hs : s.length ≤ 9000000000000000) (hp : p ≤ s.length) (f : Int → Option R) : ref02_four s (p : Int) f = match unitP (s.drop p) with | some (v, _) => f (v : Int) | none => f (-1) := by
  have e : ref02_four s (p : Int) f = ref02_four_X ref02_four_5_0_L s (p : Int) f := rfl
  rw [e]
  unfold ref02_four_X unitP
  have hw : IntKind.i64.wrap ((p : Int) + 4) = ((p + 4 : Nat) : Int) := by rw [wrap_id (by omega) (by omega)]; omega
  rw [hw, List.length_drop]
  by_cases h : s.length - p < 4
  · rw [dtrue (show ((p + 4 : Nat) : Int) > (s.length : Int) by omega), cond_true, if_pos h]
  · rw [dfalse (show ¬ ((p + 4 : Nat) : Int) > (s.length : Int) by omega), cond_false, if_neg h]
    have := four_loop (R := R) hs (show p + 4 ≤ s.length by omega) (fun y15 => f y15) (fun y16 y17 => f y16) 4 (List.length s + Int.natAbs (p : Int) + Int.natAbs 0 + Int.natAbs (p : Int) + 64) p 0 rfl (by omega) (by omega) (by omega)
    cases hx : hexN ((s.drop p).take 4) 0 with
    | some u => rw [hx] at this; exact this
    | none => rw [hx] at this; obtain ⟨w, h2⟩ := this; exact h2

/-! ### what is laid -/
theorem lor128 : ∀ x : Fin 64, IntKind.u8.wrap (IntKind.i64.wrap ((BitVec.ofInt IntKind.i64.bits 128 ||| BitVec.ofInt IntKind.i64.bits (x.val : Int)).toNat : Int)) = ((128 + x.val : Nat) : Int) := by decide +kernel
theorem lor192 : ∀ x : Fin 32, IntKind.u8.wrap (IntKind.i64.wrap ((BitVec.ofInt IntKind.i64.bits 192 ||| BitVec.ofInt IntKind.i64.bits (x.val : Int)).toNat : Int)) = ((192 + x.val : Nat) : Int) := by decide +kernel
theorem lor224 : ∀ x : Fin 16, IntKind.u8.wrap (IntKind.i64.wrap ((BitVec.ofInt IntKind.i64.bits 224 ||| BitVec.ofInt IntKind.i64.bits (x.val : Int)).toNat : Int)) = ((224 + x.val : Nat) : Int) := by decide +kernel
theorem lor240 : ∀ x : Fin 8, IntKind.u8.wrap (IntKind.i64.wrap ((BitVec.ofInt IntKind.i64.bits 240 ||| BitVec.ofInt IntKind.i64.bits (x.val : Int)).toNat : Int)) = ((240 + x.val : Nat) : Int) := by decide +kernel
theorem land63 (n : Nat) (h : n < 1114112) : IntKind.i64.wrap ((BitVec.ofInt IntKind.i64.bits (n : Int) &&& BitVec.ofInt IntKind.i64.bits 63).toNat : Int) = ((n % 64 : Nat) : Int) := by
  have h2 : (BitVec.ofInt IntKind.i64.bits 63).toNat = 63 := by decide
  rw [BitVec.toNat_and, of64 n (by omega), h2]
  have h3 : n &&& 63 = n % 64 := Nat.and_two_pow_sub_one_eq_mod n 6
  rw [h3, wrap_id (by omega) (by omega)]

theorem laid_ok {R : Type} {c : Nat} (hv : vr c) (k : List Int → Option R) : ref02_laid (c : Int) k = k (zs (enc c)) := by
  have hlt := vr_lt hv
  have e : ref02_laid (c : Int) k = ref02_laid_X (c : Int) k := rfl
  rw [e]
  unfold ref02_laid_X
  have s6 := shr64 c 6 (by omega)
  have s12 := shr64 c 12 (by omega)
  have s18 := shr64 c 18 (by omega)
  have p6 : c / 2 ^ 6 = c / 64 := rfl
  have p12 : c / 2 ^ 12 = c / 4096 := rfl
  have p18 : c / 2 ^ 18 = c / 262144 := rfl
  rw [p6] at s6; rw [p12] at s12; rw [p18] at s18
  have cn : ∀ x : Nat, x < 64 → IntKind.u8.wrap (IntKind.i64.wrap ((BitVec.ofInt IntKind.i64.bits 128 ||| BitVec.ofInt IntKind.i64.bits (x : Int)).toNat : Int)) = ((128 + x : Nat) : Int) := fun x hx => lor128 ⟨x, hx⟩
  rcases enc_cases hv with ⟨h1, e⟩ | ⟨h0, h1, e⟩ | ⟨h0, h1, e⟩ | ⟨h0, e⟩ <;> rw [e]
  · rw [dtrue (show (c : Int) < 128 by omega), cond_true, wrap8, Nat.mod_eq_of_lt (by omega), zs_enc1 c (by omega)]
  · rw [dfalse (show ¬ (c : Int) < 128 by omega), cond_false, dtrue (show (c : Int) < 2048 by omega), cond_true, s6, land63 c hlt, cn _ (by omega)]
    have l := lor192 ⟨c / 64, by omega⟩
    simp only at l
    rw [l]
    simp only [zs, List.map_cons, List.map_nil, zs_nat (192 + c / 64) (by omega), zs_nat (128 + c % 64) (by omega)]
  · rw [dfalse (show ¬ (c : Int) < 128 by omega), cond_false, dfalse (show ¬ (c : Int) < 2048 by omega), cond_false, dtrue (show (c : Int) < 65536 by omega), cond_true, s6, s12, land63 c hlt, land63 (c / 64) (by omega), cn _ (by omega), cn _ (by omega)]
    have l := lor224 ⟨c / 4096, by omega⟩
    simp only at l
    rw [l]
    simp only [zs, List.map_cons, List.map_nil, zs_nat (224 + c / 4096) (by omega), zs_nat (128 + c % 64) (by omega), zs_nat (128 + c / 64 % 64) (by omega)]
  · rw [dfalse (show ¬ (c : Int) < 128 by omega), cond_false, dfalse (show ¬ (c : Int) < 2048 by omega), cond_false, dfalse (show ¬ (c : Int) < 65536 by omega), cond_false, s6, s12, s18, land63 c hlt, land63 (c / 64) (by omega), land63 (c / 4096) (by omega), cn _ (by omega), cn _ (by omega), cn _ (by omega)]
    have l := lor240 ⟨c / 262144, by omega⟩
    simp only at l
    rw [l]
    simp only [zs, List.map_cons, List.map_nil, zs_nat (240 + c / 262144) (by omega), zs_nat (128 + c % 64) (by omega), zs_nat (128 + c / 64 % 64) (by omega), zs_nat (128 + c / 4096 % 64) (by omega)]
end Go.Proofs.YtifgegmnngfckaaDoor

