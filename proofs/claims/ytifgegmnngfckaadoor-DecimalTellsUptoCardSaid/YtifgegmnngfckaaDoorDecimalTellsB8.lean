/-
  DecimalTells: for every input whose bulk is at most 1048576 the law returns true, and each argument reads behind the call as it read before; part 8 of 9 of the proof: an interpreter of the model's code over typed data, proved sound; the functions that the law reaches, printed as Lean functions and tied; the plain law. Own texts laid one behind the other.
-/
import Derived.Test.YtifgegmnngfckaaDoorDecimalTellsB7
set_option linter.unusedSimpArgs false
set_option linter.unnecessarySimpa false
set_option linter.unusedVariables false
set_option linter.unusedSectionVars false
set_option linter.unusedVariables false
set_option maxRecDepth 100000
namespace Go.Proofs.YtifgegmnngfckaaDoor
open Go Go.Yard Go.Lib

def Made (m x : Int) (r : Dcm × Bool) : Prop := (m = 0 ∧ r = (⟨0, 0⟩, true)) ∨ ∃ (u : Int) (j : Nat), m = u * 10 ^ j ∧ Int.tmod u 10 ≠ 0 ∧ r = mkD u (x + j)

theorem add_nz {R : Type} {x y : Dcm} (hx : Fm x) (hy : Fm y) (x0 : x.mant ≠ 0) (y0 : y.mant ≠ 0) (k : Dcm → Bool → Option R) :
    decimal_Add x y k = match shiftP x.mant (x.exp - min x.exp y.exp).toNat, shiftP y.mant (y.exp - min x.exp y.exp).toNat with
      | some X, some Y => decimal_Make (IntKind.i64.wrap (X + Y)) (min x.exp y.exp) k
      | _, _ => k ⟨0, 0⟩ false := by
  have bx := hx.bounds
  have by' := hy.bounds
  have e : decimal_Add x y k = decimal_Add_X decimal_Right decimal_Make decimal_shifted x y k := rfl
  rw [e]
  unfold decimal_Add_X
  have e1 : (x.mant == 0) = false := by rw [beq_eq_false_iff_ne]; exact x0
  have e2 : (y.mant == 0) = false := by rw [beq_eq_false_iff_ne]; exact y0
  rw [right_ok hx, Bool.not_true, cond_false, right_ok hy, Bool.not_true, cond_false, e1, cond_false, e2, cond_false, shifted_ok hx (by omega) (by omega)]
  cases hX : shiftP x.mant (x.exp - min x.exp y.exp).toNat with
  | none =>
    simp only
    rw [shifted_ok hy (by omega) (by omega)]
    cases hY : shiftP y.mant (y.exp - min x.exp y.exp).toNat <;> rfl
  | some X =>
    simp only
    rw [shifted_ok hy (by omega) (by omega)]
    cases hY : shiftP y.mant (y.exp - min x.exp y.exp).toNat <;> rfl

theorem add_z {R : Type} {x y : Dcm} (hx : Fm x) (hy : Fm y) (h0 : x.mant = 0 ∨ y.mant = 0) (k : Dcm → Bool → Option R) :
    decimal_Add x y k = k ⟨x.mant + y.mant, x.exp + y.exp⟩ true := by
  have bx := hx.bounds
  have by' := hy.bounds
  have e : decimal_Add x y k = decimal_Add_X decimal_Right decimal_Make decimal_shifted x y k := rfl
  rw [e]
  unfold decimal_Add_X
  rw [right_ok hx, Bool.not_true, cond_false, right_ok hy, Bool.not_true, cond_false, wrap_id (n := x.mant + y.mant) (by omega) (by omega), wrap_id (n := x.exp + y.exp) (by omega) (by omega)]
  by_cases h : x.mant = 0
  · have e1 : (x.mant == 0) = true := by rw [h]; rfl
    rw [e1, cond_true]
  · have e1 : (x.mant == 0) = false := by rw [beq_eq_false_iff_ne]; exact h
    have e2 : (y.mant == 0) = true := by rcases h0 with h0 | h0; exact (h h0).elim; rw [h0]; rfl
    rw [e1, cond_false, e2, cond_true]

def sgn (z : Int) : Int := if z < 0 then -1 else if z > 0 then 1 else 0
theorem cmp_ok {R : Type} (a b : Int) (k : Int → Option R) : cmp_Compare_int a b k = k (sgn (a - b)) := by
  have e : cmp_Compare_int a b k = cmp_Compare_int_X cmp_isNaN_int a b k := rfl
  have n : ∀ (x : Int) (f : Bool → Option R), cmp_isNaN_int x f = f (x != x) := fun _ _ => rfl
  rw [e]
  unfold cmp_Compare_int_X
  have ne : ∀ x : Int, (x != x) = false := fun x => by simp
  rw [n, n, ne, ne]
  simp only [cond_false]
  unfold sgn
  by_cases h1 : a < b
  · rw [dtrue h1, cond_true, if_pos (by omega)]
  · rw [dfalse h1, cond_false, if_neg (by omega)]
    by_cases h2 : a > b
    · rw [dtrue h2, cond_true, if_pos (by omega)]
    · rw [dfalse h2, cond_false, if_neg (by omega)]

def val (d : Dcm) : Int := d.mant * 10 ^ (d.exp + 9).toNat

theorem pow_split (a b : Int) (h1 : 0 ≤ a) (h2 : 0 ≤ b) : (10 : Int) ^ (a + b).toNat = 10 ^ a.toNat * 10 ^ b.toNat := by
  rw [← Int.pow_add]
  congr 1
  omega

theorem val_shift {d : Dcm} (h : Fm d) {x : Int} (h1 : x ≤ d.exp) (h2 : -9 ≤ x) : val d = d.mant * 10 ^ (d.exp - x).toNat * 10 ^ (x + 9).toNat := by
  unfold val
  rw [Int.mul_assoc, ← pow_split _ _ (by omega) (by omega)]
  congr 3
  omega

theorem sgn_mul (z p : Int) (hp : 1 ≤ p) : sgn (z * p) = sgn z := by
  unfold sgn
  by_cases h1 : z < 0
  · rw [if_pos h1, if_pos (Int.mul_neg_of_neg_of_pos h1 (by omega))]
  · rw [if_neg h1]
    by_cases h2 : z > 0
    · have := Int.mul_pos h2 (show 0 < p by omega)
      rw [if_pos h2, if_neg (by omega), if_pos this]
    · have : z = 0 := by omega
      subst this
      simp

theorem pow_mono {a b : Nat} (h : a ≤ b) : (10 : Int) ^ a ≤ 10 ^ b := by
  have : (10 : Int) ^ b = 10 ^ a * 10 ^ (b - a) := by rw [← Int.pow_add]; congr 1; omega
  rw [this]
  have h1 := pow_pos10 a
  have h2 := pow_pos10 (b - a)
  calc (10 : Int) ^ a = 10 ^ a * 1 := by simp
    _ ≤ 10 ^ a * 10 ^ (b - a) := Int.mul_le_mul_of_nonneg_left h2 (by omega)

theorem nDigits_low (u : Nat) (h : 0 < u) : 10 ^ (nDigits u - 1) ≤ u := by
  induction u using Nat.strongRecOn with
  | _ u ih =>
    by_cases h1 : u < 10
    · rw [nDigits_small h1]; exact h
    · rw [nDigits_big h1, Nat.add_sub_cancel]
      have h2 := ih (u / 10) (by omega) (by omega)
      have h3 := nDigits_pos (u / 10)
      have e : nDigits (u / 10) = (nDigits (u / 10) - 1) + 1 := by omega
      rw [e, Nat.pow_succ]
      omega

theorem size_ok {R : Type} {d : Dcm} (h : Fm d) (k : Int → Option R) : decimal_size d k = k ((nDigits d.mant.natAbs : Int) + d.exp) := by
  have b := h.bounds
  have e : decimal_size d k = k (IntKind.i64.wrap (((itoaS (max d.mant (IntKind.i64.wrap (0 - d.mant)))).length : Int) + d.exp)) := rfl
  rw [e, wrap_id (n := 0 - d.mant) (by omega) (by omega)]
  have hm : max d.mant (0 - d.mant) = (d.mant.natAbs : Int) := by omega
  have hl := nDigits_le20 d.mant.natAbs (by omega)
  rw [hm]
  have : itoaS (d.mant.natAbs : Int) = decDigits d.mant.natAbs := itoa_nonneg _
  rw [this, decDigits_length, wrap_id (by omega) (by omega)]

theorem digits16 {u : Nat} (h : u ≤ 1000000000000000) : nDigits u ≤ 16 := by
  rcases Nat.eq_zero_or_pos u with rfl | h0
  · rw [nDigits_small (by omega)]; omega
  · have h1 := nDigits_low u h0
    rcases Nat.lt_or_ge (nDigits u) 17 with h2 | h2
    · omega
    · have h3 : (10 : Nat) ^ 16 ≤ 10 ^ (nDigits u - 1) := Nat.pow_le_pow_right (by omega) (by omega)
      have e : (10 : Nat) ^ 16 = 10000000000000000 := rfl
      omega

theorem val_range {d : Dcm} (h : Fm d) (h0 : d.mant ≠ 0) :
    (10 : Int) ^ (nDigits d.mant.natAbs + d.exp + 8).toNat ≤ (val d).natAbs ∧ ((val d).natAbs : Int) < 10 ^ (nDigits d.mant.natAbs + d.exp + 9).toNat := by
  have b := h.bounds
  have hp := nDigits_pos d.mant.natAbs
  have hv : ((val d).natAbs : Int) = (d.mant.natAbs : Int) * 10 ^ (d.exp + 9).toNat := by
    unfold val
    rw [Int.natAbs_mul]
    have := pow_pos10 (d.exp + 9).toNat
    push_cast
    congr 1 <;> omega
  have hq := pow_pos10 (d.exp + 9).toNat
  have l := nDigits_low d.mant.natAbs (by omega)
  have u := lt_pow_nDigits d.mant.natAbs
  have l' : (10 : Int) ^ (nDigits d.mant.natAbs - 1) ≤ (d.mant.natAbs : Int) := by exact_mod_cast l
  have u' : (d.mant.natAbs : Int) + 1 ≤ (10 : Int) ^ nDigits d.mant.natAbs := by exact_mod_cast u
  constructor
  · have e : (10 : Int) ^ (nDigits d.mant.natAbs + d.exp + 8).toNat = 10 ^ (nDigits d.mant.natAbs - 1) * 10 ^ (d.exp + 9).toNat := by
      rw [← Int.pow_add]; congr 1 <;> omega
    rw [e, hv]
    exact Int.mul_le_mul_of_nonneg_right l' (by omega)
  · have e : (10 : Int) ^ (nDigits d.mant.natAbs + d.exp + 9).toNat = 10 ^ nDigits d.mant.natAbs * 10 ^ (d.exp + 9).toNat := by
      rw [← Int.pow_add]; congr 1 <;> omega
    rw [e, hv]
    have := Int.mul_le_mul_of_nonneg_right u' (show 0 ≤ (10 : Int) ^ (d.exp + 9).toNat by omega)
    rw [Int.add_mul, Int.one_mul] at this
    omega

theorem val_sgn {d : Dcm} : sgn (val d) = sgn d.mant := sgn_mul _ _ (pow_pos10 _)

theorem shift_small {d : Dcm} (h : Fm d) {x : Int} (h1 : x ≤ d.exp) (hs : (nDigits d.mant.natAbs : Int) + (d.exp - x) ≤ 16) : shiftP d.mant (d.exp - x).toNat = some (d.mant * 10 ^ (d.exp - x).toNat) := by
  apply shiftP_fits
  rw [Int.natAbs_mul]
  have u := lt_pow_nDigits d.mant.natAbs
  have hq := pow_pos10 (d.exp - x).toNat
  have e : ((10 : Int) ^ (d.exp - x).toNat).natAbs = 10 ^ (d.exp - x).toNat := by rw [Int.natAbs_pow]; rfl
  rw [e]
  have h3 : d.mant.natAbs * 10 ^ (d.exp - x).toNat ≤ 10 ^ nDigits d.mant.natAbs * 10 ^ (d.exp - x).toNat := Nat.mul_le_mul_right _ (by omega)
  rw [← Nat.pow_add] at h3
  have h4 : (10 : Nat) ^ (nDigits d.mant.natAbs + (d.exp - x).toNat) ≤ 10 ^ 16 := Nat.pow_le_pow_right (by omega) (by omega)
  have e16 : (10 : Nat) ^ 16 = 10000000000000000 := rfl
  omega

theorem compare_ok {R : Type} {a b : Dcm} (ha : Fm a) (hb : Fm b) (k : Int → Option R) : decimal_Compare a b k = k (sgn (val a - val b)) := by
  have ba := ha.bounds
  have bb := hb.bounds
  have e : decimal_Compare a b k = decimal_Compare_X decimal_Right decimal_sign cmp_Compare_int decimal_size decimal_shifted a b k := rfl
  rw [e]
  unfold decimal_Compare_X
  have sg : ∀ (m : Int) (f : Int → Option R), decimal_sign m f = f (sgn m) := fun m f => by
    have e : decimal_sign m f = cmp_Compare_int m 0 (fun y2 => f y2) := rfl
    rw [e, cmp_ok, Int.sub_zero]
  have va := val_sgn (d := a)
  have vb := val_sgn (d := b)
  have s3 : ∀ z : Int, (z < 0 ∧ sgn z = -1) ∨ (z = 0 ∧ sgn z = 0) ∨ (0 < z ∧ sgn z = 1) := fun z => by
    unfold sgn
    by_cases h1 : z < 0
    · exact .inl ⟨h1, by rw [if_pos h1]⟩
    · by_cases h2 : z > 0
      · exact .inr (.inr ⟨h2, by rw [if_neg h1, if_pos h2]⟩)
      · exact .inr (.inl ⟨by omega, by rw [if_neg h1, if_neg h2]⟩)
  have sneg : ∀ z : Int, z < 0 → sgn z = -1 := fun z h => by unfold sgn; rw [if_pos h]
  have spos : ∀ z : Int, 0 < z → sgn z = 1 := fun z h => by unfold sgn; rw [if_neg (by omega), if_pos h]
  simp only [sg, right_ok ha, right_ok hb, Bool.not_true, cond_false, size_ok ha, size_ok hb, cmp_ok]
  by_cases hs : sgn a.mant = sgn b.mant
  · have hs' : (sgn a.mant != sgn b.mant) = false := by rw [hs]; simp
    rw [hs', cond_false]
    by_cases hz : (nDigits a.mant.natAbs : Int) + a.exp = (nDigits b.mant.natAbs : Int) + b.exp
    · have hz' : (((nDigits a.mant.natAbs : Int) + a.exp) != ((nDigits b.mant.natAbs : Int) + b.exp)) = false := by rw [hz]; simp
      rw [hz', cond_false, shifted_ok ha (by omega) (by omega)]
      have pa := nDigits_pos a.mant.natAbs
      have pb := nDigits_pos b.mant.natAbs
      have da := digits16 (u := a.mant.natAbs) (by omega)
      have db := digits16 (u := b.mant.natAbs) (by omega)
      rw [shift_small ha (by omega) (by omega)]
      simp only
      rw [shifted_ok hb (by omega) (by omega), shift_small hb (by omega) (by omega)]
      simp only
      rw [val_shift ha (x := min a.exp b.exp) (by omega) (by omega), val_shift hb (x := min a.exp b.exp) (by omega) (by omega), ← Int.sub_mul, sgn_mul _ _ (pow_pos10 _)]
    · have hz' : (((nDigits a.mant.natAbs : Int) + a.exp) != ((nDigits b.mant.natAbs : Int) + b.exp)) = true := bne_iff_ne.2 hz
      rw [hz', cond_true]
      have a0 : a.mant ≠ 0 := by
        intro h
        have h2 : b.mant = 0 := by
          rw [h] at hs
          rcases s3 b.mant with ⟨g1, g2⟩ | ⟨g1, g2⟩ | ⟨g1, g2⟩
          · rw [g2] at hs; exact absurd hs (by decide)
          · exact g1
          · rw [g2] at hs; exact absurd hs (by decide)
        rw [ha.zero h, hb.zero h2] at hz
        exact hz rfl
      have b0 : b.mant ≠ 0 := by
        intro h
        rw [h] at hs
        rcases s3 a.mant with ⟨g1, g2⟩ | ⟨g1, g2⟩ | ⟨g1, g2⟩
        · rw [g2] at hs; exact absurd hs (by decide)
        · exact a0 g1
        · rw [g2] at hs; exact absurd hs (by decide)
      obtain ⟨la, ua⟩ := val_range ha a0
      obtain ⟨lb, ub⟩ := val_range hb b0
      have pa := nDigits_pos a.mant.natAbs
      have pb := nDigits_pos b.mant.natAbs
      congr 1
      rcases s3 a.mant with ⟨g1, g2⟩ | ⟨g1, g2⟩ | ⟨g1, g2⟩
      · -- both below
        have vna : sgn (val a) = -1 := by rw [va, g2]
        have vnb : sgn (val b) = -1 := by rw [vb, ← hs, g2]
        have na : val a < 0 := by rcases s3 (val a) with h | h | h <;> first | exact h.1 | (rw [h.2] at vna; exact absurd vna (by decide))
        have nb : val b < 0 := by rcases s3 (val b) with h | h | h <;> first | exact h.1 | (rw [h.2] at vnb; exact absurd vnb (by decide))
        rw [g2]
        rcases Int.lt_or_gt_of_ne hz with h | h
        · have hp := pow_mono (show ((nDigits a.mant.natAbs : Int) + a.exp + 9).toNat ≤ ((nDigits b.mant.natAbs : Int) + b.exp + 8).toNat by omega)
          rw [sneg _ (show (nDigits a.mant.natAbs : Int) + a.exp - ((nDigits b.mant.natAbs : Int) + b.exp) < 0 by omega), spos _ (show 0 < val a - val b by omega)]
          decide
        · have hp := pow_mono (show ((nDigits b.mant.natAbs : Int) + b.exp + 9).toNat ≤ ((nDigits a.mant.natAbs : Int) + a.exp + 8).toNat by omega)
          rw [spos _ (show 0 < (nDigits a.mant.natAbs : Int) + a.exp - ((nDigits b.mant.natAbs : Int) + b.exp) by omega), sneg _ (show val a - val b < 0 by omega)]
          decide
      · exact (a0 g1).elim
      · have vna : sgn (val a) = 1 := by rw [va, g2]
        have vnb : sgn (val b) = 1 := by rw [vb, ← hs, g2]
        have na : 0 < val a := by rcases s3 (val a) with h | h | h <;> first | exact h.1 | (rw [h.2] at vna; exact absurd vna (by decide))
        have nb : 0 < val b := by rcases s3 (val b) with h | h | h <;> first | exact h.1 | (rw [h.2] at vnb; exact absurd vnb (by decide))
        rw [g2]
        rcases Int.lt_or_gt_of_ne hz with h | h
        · have hp := pow_mono (show ((nDigits a.mant.natAbs : Int) + a.exp + 9).toNat ≤ ((nDigits b.mant.natAbs : Int) + b.exp + 8).toNat by omega)
          rw [sneg _ (show (nDigits a.mant.natAbs : Int) + a.exp - ((nDigits b.mant.natAbs : Int) + b.exp) < 0 by omega), sneg _ (show val a - val b < 0 by omega)]
          decide
        · have hp := pow_mono (show ((nDigits b.mant.natAbs : Int) + b.exp + 9).toNat ≤ ((nDigits a.mant.natAbs : Int) + a.exp + 8).toNat by omega)
          rw [spos _ (show 0 < (nDigits a.mant.natAbs : Int) + a.exp - ((nDigits b.mant.natAbs : Int) + b.exp) by omega), spos _ (show 0 < val a - val b by omega)]
          decide
  · have hs' : (sgn a.mant != sgn b.mant) = true := bne_iff_ne.2 hs
    rw [hs', cond_true]
    congr 1
    rw [← va, ← vb] at hs ⊢
    rcases s3 (val a) with ⟨g1, g2⟩ | ⟨g1, g2⟩ | ⟨g1, g2⟩ <;> rcases s3 (val b) with ⟨k1, k2⟩ | ⟨k1, k2⟩ | ⟨k1, k2⟩ <;> rw [g2, k2] at hs ⊢ <;>
      first
        | exact (hs rfl).elim
        | (rw [sneg (val a - val b) (by omega)]; decide)
        | (rw [spos (val a - val b) (by omega)]; decide)

theorem arr2_i64 {N : Nat} {a : Arr2} (h : ∀ c ∈ Ty.cells .arr2 a, Small N c) : I64 a.a ∧ I64 a.b :=
  ⟨i64_has.1 (h (.int .i64 a.a) (by simp [Ty.cells])).int_inv, i64_has.1 (h (.int .i64 a.b) (by simp [Ty.cells])).int_inv⟩

end Go.Proofs.YtifgegmnngfckaaDoor

set_option linter.unusedVariables false
set_option maxRecDepth 100000
namespace Go.Proofs.YtifgegmnngfckaaDoor
open Go Go.Yard

abbrev zs (s : Str) : List Int := s.map fun b => (b.toNat : Int)
theorem zs_app (s t : Str) : zs (s ++ t) = zs s ++ zs t := List.map_append
theorem zs_bytesN (s : Str) : bytesN s = zs s := rfl
theorem zs_len (s : Str) : (zs s).length = s.length := List.length_map _
theorem bstr_zs (s : Str) : bstr (zs s) = s := by
  unfold bstr zs
  rw [List.map_map]
  conv => rhs; rw [← List.map_id s]
  exact List.map_congr_left fun b _ => by simp
def Lim (s : Str) : Prop := s.length ≤ 100000000000

theorem ws {R : Type} (x : Str) (s : Str) (hx : x.length ≤ 100000000000) (hl : Lim s) (k : Int → List Int → Option R) : strings_Builder_WriteString_df1e x (zs s) k = k (x.length : Int) (zs (s ++ x)) := by
  show chk (decide (((zs s).length + (bytesN x).length) * 1 ≤ 140737488355328)) (k (x.length : Int) (zs s ++ bytesN x)) = _
  unfold Lim at hl
  rw [zs_bytesN, chk_pos (dtrue (by rw [zs_len, zs_len]; omega)), zs_app]

theorem wrap8 (n : Nat) : IntKind.u8.wrap (n : Int) = ((n % 256 : Nat) : Int) := by
  simp only [IntKind.wrap, IntKind.bits, IntKind.signed]
  simp
end Go.Proofs.YtifgegmnngfckaaDoor

set_option linter.unusedVariables false
set_option maxRecDepth 100000
namespace Go.Proofs.YtifgegmnngfckaaDoor
open Go Go.Yard Go.Lib

def zeros (n : Nat) : Str := List.replicate n 48
theorem zeros_len (n : Nat) : (zeros n).length = n := List.length_replicate
theorem repeatL_zeros : ∀ n : Nat, repeatL [48] n = zeros n
  | 0 => rfl
  | n + 1 => by
    have := repeatL_zeros n
    simp [repeatL, zeros, List.replicate_succ] at this ⊢
    try exact this
theorem repS_zeros (z : Int) : repS [48] z = zeros z.toNat := repeatL_zeros _

def body (L : Str) (e : Int) : Str :=
  if 0 ≤ e then L ++ zeros e.toNat
  else
    let t := zeros (max 0 (1 - e - (L.length : Int))).toNat ++ L
    t.take ((t.length : Int) + e).toNat ++ [46] ++ t.drop ((t.length : Int) + e).toNat
def prt (d : Dcm) : Str := (if d.mant < 0 then [45] else []) ++ body (decDigits d.mant.natAbs) d.exp

theorem wsn {R : Type} (x : Str) (hx : x.length ≤ 100000000000) (k : Int → List Int → Option R) : strings_Builder_WriteString_fb8e x k = k (x.length : Int) (zs x) := by
  show chk (decide ((0 + (bytesN x).length) * 1 ≤ 140737488355328)) (k (x.length : Int) (bytesN x)) = _
  rw [zs_bytesN, chk_pos (dtrue (by rw [zs_len]; omega))]

theorem print_ok {R : Type} {d : Dcm} (h : Fm d) (k : Str → Option R) : decimal_Print d k = k (prt d) := by
  have b := h.bounds
  have e : decimal_Print d k = decimal_Print_X decimal_Right strings_Builder_WriteByte_b66c strings_Builder_WriteString_df1e strings_Builder_WriteString_fb8e d k := rfl
  rw [e]
  unfold decimal_Print_X
  rw [right_ok h, Bool.not_true, cond_false]
  have hL : itoaS (max d.mant (IntKind.i64.wrap (0 - d.mant))) = decDigits d.mant.natAbs := by
    rw [wrap_id (n := 0 - d.mant) (by omega) (by omega)]
    have hm : max d.mant (0 - d.mant) = (d.mant.natAbs : Int) := by omega
    rw [hm]
    exact itoa_nonneg _
  have hlen : (decDigits d.mant.natAbs).length ≤ 16 := by rw [decDigits_length]; exact digits16 (by omega)
  simp only [hL, repS_zeros]
  unfold prt
  generalize decDigits d.mant.natAbs = L at *
  have w1 : IntKind.i64.wrap (1 - d.exp) = 1 - d.exp := wrap_id (by omega) (by omega)
  have w2 : IntKind.i64.wrap (1 - d.exp - (L.length : Int)) = 1 - d.exp - (L.length : Int) := wrap_id (by omega) (by omega)
  rw [w1, w2]
  have one : (([48] : Str).length : Int) = 1 := rfl
  rw [one]
  have z0 : 0 ≤ max 0 (1 - d.exp - (L.length : Int)) := by omega
  have zl : max 0 (1 - d.exp - (L.length : Int)) ≤ 10 := by omega
  have zL : 1 - d.exp ≤ max 0 (1 - d.exp - (L.length : Int)) + L.length := by omega
  unfold body
  simp only
  generalize max 0 (1 - d.exp - (L.length : Int)) = z at *
  have tl : (zeros z.toNat ++ L).length = z.toNat + L.length := by rw [List.length_append, zeros_len]
  generalize zeros z.toNat ++ L = t at *
  have lapp : ∀ a b : Str, (a ++ b).length = a.length + b.length := fun a b => List.length_append
  have lone : ([46] : Str).length = 1 := rfl
  have e45 : ([45] : List Int) = zs [45] := rfl
  have q2 : ∀ (x : Int) (f : List Int → Option R), strings_Builder_WriteByte_b66c x f = f [x] := fun _ _ => rfl
  have lim45 : Lim [45] := by unfold Lim; simp
  by_cases he : 0 ≤ d.exp
  · rw [dtrue (show d.exp ≥ 0 from he), if_pos he]
    by_cases hm : d.mant < 0
    · rw [dtrue hm, if_pos hm]
      simp only [cond_true]
      rw [q2, chk_pos (by rw [dtrue (show 1 * d.exp ≤ 140737488355328 by omega)]; rfl), chk_pos (dtrue (by rw [zeros_len]; omega)), e45, ws _ _ (by rw [lapp, zeros_len]; omega) lim45, bstr_zs]
    · rw [dfalse hm, if_neg hm]
      simp only [cond_true, cond_false]
      rw [chk_pos (by rw [dtrue (show 1 * d.exp ≤ 140737488355328 by omega)]; rfl), chk_pos (dtrue (by rw [zeros_len]; omega)), wsn _ (by rw [lapp, zeros_len]; omega), bstr_zs]
      rfl
  · have wt : IntKind.i64.wrap ((t.length : Int) + d.exp) = (t.length : Int) + d.exp := wrap_id (by omega) (by omega)
    rw [dfalse (show ¬ d.exp ≥ 0 from he), if_neg he]
    simp only [wt, List.drop_zero, Nat.sub_zero, Int.toNat_natCast, cond_false]
    have l1 : (t.take ((t.length : Int) + d.exp).toNat).length ≤ t.length := by rw [List.length_take]; omega
    have l2 : (t.drop ((t.length : Int) + d.exp).toNat).length ≤ t.length := by rw [List.length_drop]; omega
    have c1 : (decide ((0 : Int) ≤ (t.length : Int) + d.exp) && decide ((t.length : Int) + d.exp ≤ (t.length : Int))) = true := by rw [dtrue (by omega), dtrue (by omega)]; rfl
    have c2 : (decide ((0 : Int) ≤ (t.length : Int)) && decide ((t.length : Int) ≤ (t.length : Int))) = true := by rw [dtrue (by omega), dtrue (by omega)]; rfl
    have c3 : (decide ((0 : Int) ≤ z) && decide (1 * z ≤ 140737488355328)) = true := by rw [dtrue z0, dtrue (by omega)]; rfl
    have et : (t.drop ((t.length : Int) + d.exp).toNat).take (t.length - ((t.length : Int) + d.exp).toNat) = t.drop ((t.length : Int) + d.exp).toNat := List.take_of_length_le (by rw [List.length_drop]; exact Nat.le_refl _)
    rw [et]
    by_cases hm : d.mant < 0
    · rw [dtrue hm, if_pos hm]
      simp only [cond_true]
      rw [q2, chk_pos c3, chk_pos (dtrue (by rw [zeros_len]; omega)), chk_pos c1, chk_pos (dtrue (by omega)), chk_pos (dtrue (by omega)), chk_pos c2, chk_pos c1, chk_pos (dtrue (by rw [lapp, lone]; omega)), e45, ws _ _ (by rw [lapp, lapp, lone]; omega) lim45, bstr_zs]
    · rw [dfalse hm, if_neg hm]
      simp only [cond_false]
      rw [chk_pos c3, chk_pos (dtrue (by rw [zeros_len]; omega)), chk_pos c1, chk_pos (dtrue (by omega)), chk_pos (dtrue (by omega)), chk_pos c2, chk_pos c1, chk_pos (dtrue (by rw [lapp, lone]; omega)), wsn _ (by rw [lapp, lapp, lone]; omega), bstr_zs]
      rfl
end Go.Proofs.YtifgegmnngfckaaDoor

set_option linter.unusedVariables false
set_option maxRecDepth 100000
namespace Go.Proofs.YtifgegmnngfckaaDoor
open Go Go.Yard Go.Lib

end Go.Proofs.YtifgegmnngfckaaDoor

set_option linter.unusedVariables false
set_option maxRecDepth 100000
namespace Go.Proofs.YtifgegmnngfckaaDoor
open Go Go.Yard Go.Lib

end Go.Proofs.YtifgegmnngfckaaDoor

set_option linter.unusedVariables false
set_option maxRecDepth 100000
namespace Go.Proofs.YtifgegmnngfckaaDoor
open Go Go.Yard Go.Lib

end Go.Proofs.YtifgegmnngfckaaDoor

set_option linter.unusedVariables false
set_option maxRecDepth 100000
namespace Go.Proofs.YtifgegmnngfckaaDoor
open Go Go.Yard Go.Lib

end Go.Proofs.YtifgegmnngfckaaDoor

set_option linter.unusedVariables false
set_option maxRecDepth 100000
namespace Go.Proofs.YtifgegmnngfckaaDoor
open Go Go.Yard Go.Lib

end Go.Proofs.YtifgegmnngfckaaDoor

/-
  Functions of the program as pure Lean functions, and the ties; printed by wip/tools/emit.py.
-/
set_option maxRecDepth 100000
set_option linter.unusedVariables false
namespace Go.Proofs.YtifgegmnngfckaaDoor
open Go Go.Yard

end Go.Proofs.YtifgegmnngfckaaDoor

/-
  Functions of the program as pure Lean functions, and the ties; printed by wip/tools/emit.py.
-/
set_option maxRecDepth 100000
set_option linter.unusedVariables false
namespace Go.Proofs.YtifgegmnngfckaaDoor
open Go Go.Yard

end Go.Proofs.YtifgegmnngfckaaDoor

/-
  Functions of the program as pure Lean functions, and the ties; printed by wip/tools/emit.py.
-/
set_option maxRecDepth 100000
set_option linter.unusedVariables false
namespace Go.Proofs.YtifgegmnngfckaaDoor
open Go Go.Yard

end Go.Proofs.YtifgegmnngfckaaDoor

set_option linter.unusedVariables false
set_option maxRecDepth 100000
namespace Go.Proofs.YtifgegmnngfckaaDoor
open Go Go.Yard Go.Lib

end Go.Proofs.YtifgegmnngfckaaDoor

/-
  Functions of the program as pure Lean functions, and the ties; printed by wip/tools/emit.py.
-/
set_option maxRecDepth 100000
set_option linter.unusedVariables false
namespace Go.Proofs.YtifgegmnngfckaaDoor
open Go Go.Yard

end Go.Proofs.YtifgegmnngfckaaDoor

set_option linter.unusedVariables false
set_option maxRecDepth 100000
namespace Go.Proofs.YtifgegmnngfckaaDoor
open Go Go.Yard Go.Lib

end Go.Proofs.YtifgegmnngfckaaDoor

set_option linter.unusedVariables false
set_option maxRecDepth 100000
namespace Go.Proofs.YtifgegmnngfckaaDoor
open Go Go.Yard Go.Lib

end Go.Proofs.YtifgegmnngfckaaDoor

set_option linter.unusedVariables false
set_option maxRecDepth 100000
namespace Go.Proofs.YtifgegmnngfckaaDoor
open Go Go.Yard Go.Lib

theorem getD_at' (s : Str) (i j : Nat) : (s.drop i).getD j 0 = s.getD (i + j) 0 := by simp [List.getD, List.getElem?_drop]

end Go.Proofs.YtifgegmnngfckaaDoor

set_option linter.unusedVariables false
set_option maxRecDepth 100000
namespace Go.Proofs.YtifgegmnngfckaaDoor
open Go Go.Yard Go.Lib

theorem eqI (n m : Nat) : ((n : Int) == (m : Int)) = decide (n = m) := by
  by_cases h : n = m
  · subst h; simp
  · have : ¬ ((n : Int) = (m : Int)) := by omega
    simp [h, this]

end Go.Proofs.YtifgegmnngfckaaDoor

set_option linter.unusedVariables false
set_option maxRecDepth 100000
namespace Go.Proofs.YtifgegmnngfckaaDoor
open Go Go.Yard Go.Lib

theorem wrap8m {a b : Nat} (h : b ≤ a) (ha : a < 256) : IntKind.u8.wrap ((a : Int) - (b : Int)) = ((a - b : Nat) : Int) := by
  have : (a : Int) - (b : Int) = ((a - b : Nat) : Int) := by omega
  rw [this, wrap8, Nat.mod_eq_of_lt (by omega)]

end Go.Proofs.YtifgegmnngfckaaDoor

set_option linter.unusedVariables false
set_option maxRecDepth 100000
namespace Go.Proofs.YtifgegmnngfckaaDoor
open Go Go.Yard Go.Lib

theorem drop_cons {s : Str} {p : Nat} (h : p < s.length) : s.drop p = s.getD p 0 :: s.drop (p + 1) := by
  rw [List.drop_eq_getElem_cons h]; simp [List.getD, h]

end Go.Proofs.YtifgegmnngfckaaDoor

set_option linter.unusedVariables false
set_option maxRecDepth 100000
namespace Go.Proofs.YtifgegmnngfckaaDoor
open Go Go.Yard Go.Lib

theorem dec_all (u : Nat) : ∀ b ∈ decDigits u, 48 ≤ b.toNat ∧ b.toNat ≤ 57 := by
  induction u using Nat.strongRecOn with
  | _ u ih =>
    intro b hb
    by_cases h : u < 10
    · rw [decDigits, dif_pos h] at hb
      simp only [List.mem_cons, List.not_mem_nil, or_false] at hb
      subst hb
      rw [u8_nat _ (by omega)]; omega
    · rw [decDigits, dif_neg h] at hb
      rcases List.mem_append.1 hb with hb | hb
      · exact ih (u / 10) (by omega) b hb
      · simp only [List.mem_cons, List.not_mem_nil, or_false] at hb
        subst hb
        rw [u8_nat _ (by omega)]; omega
end Go.Proofs.YtifgegmnngfckaaDoor

set_option linter.unusedVariables false
set_option maxRecDepth 100000
namespace Go.Proofs.YtifgegmnngfckaaDoor
open Go Go.Yard Go.Lib

theorem idx_neg (c : UInt8) : ∀ l : Str, Go.Lib.indexByte l c < 0 ↔ l.contains c = false
  | [] => by simp [Go.Lib.indexByte]
  | x :: l => by
    have ih := idx_neg c l
    have hg := Go.Lib.indexByte_ge l c
    unfold Go.Lib.indexByte
    rw [List.contains_cons]
    by_cases h : x = c
    · subst h; simp
    · have h2 : (c == x) = false := by rw [beq_eq_false_iff_ne]; exact fun e => h e.symm
      rw [h2, Bool.false_or, ← ih]
      split
      · rename_i h3; exact (h (beq_iff_eq.1 h3)).elim
      · split
        · rename_i h4
          have := beq_iff_eq.1 h4
          omega
        · rename_i h4
          have : ¬ Go.Lib.indexByte l c = -1 := fun e => h4 (beq_iff_eq.2 e)
          omega

def signP (signs s : Str) : Nat × Str := match s with | [] => (0, []) | b :: t => if signs.contains b then (b.toNat, t) else (0, b :: t)

theorem sign_ok {R : Type} (signs s : Str) (hs : s.length ≤ 4000000000) (k : Int → Str → Option R) : decimal_reader_sign_e74a signs s k = k ((signP signs s).1 : Int) (signP signs s).2 := by
  have e : decimal_reader_sign_e74a signs s k = decimal_reader_sign_e74a_X signs s k := rfl
  rw [e]
  unfold decimal_reader_sign_e74a_X
  cases s with
  | nil => rfl
  | cons b t =>
    simp only [List.length_cons] at hs
    have hne : ((b :: t : Str) == ([] : Str)) = false := rfl
    have hg : ((b :: t : Str).getD 0 0) = b := rfl
    have hd : ((b :: t : Str).drop 1).take (((b :: t : Str).length : Int).toNat - 1) = t := by
      rw [Int.toNat_natCast, List.drop_succ_cons, List.drop_zero, List.length_cons, Nat.add_sub_cancel, List.take_length]
    have hi : idxByte signs ((b.toNat : Nat) : Int) = Go.Lib.indexByte signs b := by
      unfold idxByte
      rw [Int.toNat_natCast]
      simp
    have hl : (b :: t : Str).length = t.length + 1 := rfl
    rw [hne, cond_false, hg, hd, hi, hl, chk_pos (dtrue (by omega))]
    unfold signP
    cases hc : signs.contains b with
    | false =>
      rw [dtrue ((idx_neg b signs).2 hc), cond_true]
      simp only [hc, Bool.false_eq_true, if_false]
      rfl
    | true =>
      have : ¬ Go.Lib.indexByte signs b < 0 := fun h => by rw [(idx_neg b signs).1 h] at hc; cases hc
      rw [dfalse this, cond_false, chk_pos (dtrue (by omega)), chk_pos (by rw [dtrue (show (0 : Int) ≤ ((t.length + 1 : Nat) : Int) by omega), dtrue (by omega)]; rfl), chk_pos (dtrue (by omega))]
      simp only [hc, if_true]

def digS : Str := [48, 49, 50, 51, 52, 53, 54, 55, 56, 57]
def isDig (b : UInt8) : Prop := 48 ≤ b.toNat ∧ b.toNat ≤ 57
theorem digS_all : ∀ n : Fin 256, digS.contains (UInt8.ofNat n.val) = decide (48 ≤ n.val ∧ n.val ≤ 57) := by decide +kernel
theorem digS_ok (b : UInt8) : digS.contains b = decide (48 ≤ b.toNat ∧ b.toNat ≤ 57) := by
  have := digS_all ⟨b.toNat, UInt8.toNat_lt b⟩
  simpa using this

theorem dropW_app (p : UInt8 → Bool) : ∀ (a r : Str), (∀ x ∈ a, p x = true) → (a ++ r).dropWhile p = r.dropWhile p
  | [], r, _ => rfl
  | x :: a, r, h => by
    rw [List.cons_append, List.dropWhile_cons, h x (by simp), if_pos rfl]
    exact dropW_app p a r fun y hy => h y (by simp [hy])
theorem dropW_head (p : UInt8 → Bool) (r : Str) (h : ∀ b t, r = b :: t → p b = false) : r.dropWhile p = r := by
  cases r with
  | nil => rfl
  | cons b t => rw [List.dropWhile_cons, h b t rfl]; rfl

theorem digits_ok {R : Type} (a r : Str) (ha : ∀ x ∈ a, isDig x) (hr : ∀ b t, r = b :: t → ¬ isDig b) (hl : (a ++ r).length ≤ 4000000000) (k : Str → Str → Option R) : decimal_reader_digits_abbd (a ++ r) k = k a r := by
  have e : decimal_reader_digits_abbd (a ++ r) k = decimal_reader_digits_abbd_X (a ++ r) k := rfl
  rw [e]
  unfold decimal_reader_digits_abbd_X
  have ht : trimL (a ++ r) ([48, 49, 50, 51, 52, 53, 54, 55, 56, 57] : Str) = r := by
    unfold trimL
    have h1 := dropW_app (fun x => digS.contains x) a r (fun x hx => by rw [digS_ok]; exact dtrue (ha x hx))
    have h2 := dropW_head (fun x => digS.contains x) r (fun b t hb => by rw [digS_ok]; exact dfalse (hr b t hb))
    exact h1.trans h2
  rw [ht]
  have hlen : (a ++ r).length = a.length + r.length := List.length_append
  have hw : IntKind.i64.wrap (((a ++ r).length : Int) - (r.length : Int)) = (a.length : Int) := by rw [hlen, wrap_id (by omega) (by omega)]; omega
  rw [hw, chk_pos (by rfl), chk_pos (by rw [dtrue (by omega), dtrue (by omega)]; rfl), chk_pos (dtrue (by omega)), List.drop_zero, Int.toNat_natCast, Nat.sub_zero, List.take_left]

end Go.Proofs.YtifgegmnngfckaaDoor

/-
  Functions of the program as pure Lean functions, and the ties; printed by wip/tools/emit.py.
-/
set_option maxRecDepth 100000
set_option linter.unusedVariables false
namespace Go.Proofs.YtifgegmnngfckaaDoor
open Go Go.Yard

end Go.Proofs.YtifgegmnngfckaaDoor

set_option linter.unusedVariables false
set_option maxRecDepth 100000
namespace Go.Proofs.YtifgegmnngfckaaDoor
open Go Go.Yard Go.Lib

theorem zeros_add (a b : Nat) : zeros a ++ zeros b = zeros (a + b) := by unfold zeros; rw [List.replicate_append_replicate]
theorem zeros_snoc (a : Nat) : zeros a ++ [48] = zeros (a + 1) := zeros_add a 1
theorem zeros_dig (n : Nat) : ∀ x ∈ zeros n, isDig x := fun x hx => by
  have := List.eq_of_mem_replicate hx
  subst this; unfold isDig; decide

end Go.Proofs.YtifgegmnngfckaaDoor

set_option linter.unusedVariables false
set_option maxRecDepth 100000
namespace Go.Proofs.YtifgegmnngfckaaDoor
open Go Go.Yard Go.Lib

abbrev isD (b : UInt8) : Bool := digS.contains b
theorem isD_ok (b : UInt8) : isD b = decide (48 ≤ b.toNat ∧ b.toNat ≤ 57) := digS_ok b
abbrev takeD (s : Str) : Str := s.takeWhile isD
abbrev dropD (s : Str) : Str := s.dropWhile isD

theorem take_dig (s : Str) : ∀ x ∈ takeD s, isDig x := fun x hx => by
  have h := List.all_takeWhile (l := s) (p := isD)
  have := List.all_eq_true.1 h x hx
  rw [isD_ok] at this
  exact of_decide_eq_true (p := 48 ≤ x.toNat ∧ x.toNat ≤ 57) this
theorem drop_dig (s : Str) : ∀ b t, dropD s = b :: t → ¬ isDig b := fun b t h hb => by
  have h2 : isD b = false := by
    have := List.head?_dropWhile_not isD s
    have e : s.dropWhile isD = b :: t := h
    rw [e] at this
    simpa using this
  rw [isD_ok, dtrue (p := 48 ≤ b.toNat ∧ b.toNat ≤ 57) hb] at h2
  cases h2
theorem take_le (s : Str) : (takeD s).length ≤ s.length := by
  have := congrArg List.length (List.takeWhile_append_dropWhile (p := isD) (l := s))
  rw [List.length_append] at this
  unfold takeD
  omega
theorem dropD_le (s : Str) : (dropD s).length ≤ s.length := drop_le _ _
theorem digits_any {R : Type} (s : Str) (hl : s.length ≤ 4000000000) (k : Str → Str → Option R) : decimal_reader_digits_abbd s k = k (takeD s) (dropD s) := by
  have e : takeD s ++ dropD s = s := List.takeWhile_append_dropWhile
  have h := digits_ok (R := R) (takeD s) (dropD s) (take_dig s) (drop_dig s) (by rw [e]; exact hl) k
  rw [e] at h
  exact h
theorem signP_le (g s : Str) : (signP g s).2.length ≤ s.length := by
  unfold signP
  cases s with
  | nil => simp
  | cons b t => simp only; split <;> simp

def valD : Str → Nat → Nat
  | [], v => v
  | b :: s, v => valD s (10 * v + (b.toNat - 48))
theorem valD_app : ∀ (a b : Str) (v : Nat), valD (a ++ b) v = valD b (valD a v)
  | [], _, _ => rfl
  | x :: a, b, v => valD_app a b _
theorem valD_ge : ∀ (s : Str) (v : Nat), v * 10 ^ s.length ≤ valD s v
  | [], v => by simp [valD]
  | b :: s, v => by
    have := valD_ge s (10 * v + (b.toNat - 48))
    have h2 : 10 * v * 10 ^ s.length ≤ (10 * v + (b.toNat - 48)) * 10 ^ s.length := Nat.mul_le_mul_right _ (by omega)
    have e : v * 10 ^ (b :: s).length = 10 * v * 10 ^ s.length := by rw [List.length_cons, Nat.pow_succ, Nat.mul_comm 10, Nat.mul_assoc, Nat.mul_comm 10]
    simp only [valD]
    omega
theorem valD_self (s : Str) (v : Nat) : v ≤ valD s v := Nat.le_trans (Nat.le_mul_of_pos_right _ (Nat.pos_of_ne_zero (by simp))) (valD_ge s v)
theorem valD_lt : ∀ (s : Str) (v : Nat), (∀ x ∈ s, isDig x) → valD s v < (v + 1) * 10 ^ s.length
  | [], v, _ => by simp [valD]
  | b :: s, v, h => by
    have hb := h b (by simp)
    unfold isDig at hb
    have := valD_lt s (10 * v + (b.toNat - 48)) fun x hx => h x (by simp [hx])
    have h2 : (10 * v + (b.toNat - 48) + 1) * 10 ^ s.length ≤ ((v + 1) * 10) * 10 ^ s.length := Nat.mul_le_mul_right _ (by omega)
    have e : (v + 1) * 10 ^ (b :: s).length = ((v + 1) * 10) * 10 ^ s.length := by rw [List.length_cons, Nat.pow_succ, Nat.mul_assoc, Nat.mul_comm 10]
    simp only [valD]
    omega

theorem uint_dig : ∀ (D : Str) (acc : Nat), (∀ x ∈ D, isDig x) →
    (valD D acc < 18446744073709551616 → parseUint10 acc D = .ok (valD D acc)) ∧ (acc < 18446744073709551616 → 18446744073709551616 ≤ valD D acc → parseUint10 acc D = .range)
  | [], acc, _ => ⟨fun _ => rfl, fun h1 h2 => by simp only [valD] at h2; omega⟩
  | b :: D, acc, h => by
    have hb := h b (by simp)
    unfold isDig at hb
    obtain ⟨i1, i2⟩ := uint_dig D (10 * acc + (b.toNat - 48)) fun x hx => h x (by simp [hx])
    have hs := valD_self D (10 * acc + (b.toNat - 48))
    have e : acc * 10 + (b.toNat - 48) = 10 * acc + (b.toNat - 48) := by omega
    simp only [valD, parseUint10]
    rw [if_pos hb, e]
    refine ⟨fun h1 => ?_, fun h1 h2 => ?_⟩
    · rw [if_neg (by omega), if_neg (by omega)]
      exact i1 h1
    · by_cases g1 : 1844674407370955162 ≤ acc
      · rw [if_pos g1]
      · rw [if_neg g1]
        by_cases g2 : 18446744073709551616 ≤ 10 * acc + (b.toNat - 48)
        · rw [if_pos g2]
        · rw [if_neg g2]
          exact i2 (by omega) h2

theorem atoi_dig (D : Str) (hD : ∀ x ∈ D, isDig x) (h0 : D ≠ []) :
    (valD D 0 < 9223372036854775808 → atoiAll D = .ok (valD D 0 : Int)) ∧ (9223372036854775808 ≤ valD D 0 → atoiAll D = .range) := by
  obtain ⟨i1, i2⟩ := uint_dig D 0 hD
  cases D with
  | nil => exact (h0 rfl).elim
  | cons b D =>
    have hb := hD b (by simp)
    unfold isDig at hb
    have e : (if b.toNat = 43 ∨ b.toNat = 45 then D else b :: D) = b :: D := if_neg (by omega)
    have m : parseMag (b :: D) = parseUint10 0 (b :: D) := by unfold parseMag; rw [if_neg (by simp)]
    unfold atoiAll
    simp only
    rw [e, m]
    refine ⟨fun h => ?_, fun h => ?_⟩
    · rw [i1 (by omega)]
      simp only
      rw [if_neg (by omega), if_neg (fun h2 => absurd h2.1 (by omega)), if_neg (by omega)]
    · by_cases h2 : valD (b :: D) 0 < 18446744073709551616
      · rw [i1 h2]
        simp only
        rw [if_pos ⟨by omega, h⟩]
      · rw [i2 (by omega) (by omega)]

def expP (X : Str) : Int × Bool × Str :=
  let q := signP [43, 45] X
  let v : Int := min (valD (takeD q.2) 0 : Int) 1000000
  (if q.1 = 45 then -v else v, !(takeD q.2 == []), dropD q.2)

theorem exp_any {R : Type} (X : Str) (hl : X.length ≤ 4000000000) (k : Int → Bool → Str → Option R) : decimal_reader_exponent_abbd X k = k (expP X).1 (expP X).2.1 (expP X).2.2 := by
  have e : decimal_reader_exponent_abbd X k = decimal_reader_exponent_abbd_X decimal_reader_sign_e74a decimal_reader_digits_abbd X k := rfl
  rw [e]
  unfold decimal_reader_exponent_abbd_X
  have h1 := signP_le [43, 45] X
  rw [sign_ok _ _ hl]
  unfold expP
  simp only
  generalize signP [43, 45] X = q at *
  rw [digits_any _ (by omega)]
  have h2 := take_le q.2
  have hD := take_dig q.2
  generalize takeD q.2 = D at *
  generalize dropD q.2 = r at *
  have q45 : ((q.1 : Int) == 45) = decide (q.1 = 45) := eqI _ 45
  rw [chk_pos (dtrue (by omega)), q45]
  by_cases h0 : D = []
  · subst h0
    have a1 : atoiOk [] = false := rfl
    have a2 : atoiVal [] = 0 := rfl
    rw [a1, a2]
    simp only [cond_false, valD]
    by_cases hq : q.1 = 45
    · rw [dtrue hq, if_pos hq]; rfl
    · rw [dfalse hq, if_neg hq]; rfl
  · have hne : (D == ([] : Str)) = false := by rw [beq_eq_false_iff_ne]; exact h0
    obtain ⟨i1, i2⟩ := atoi_dig D hD h0
    rw [hne]
    simp only [Bool.not_false, cond_true]
    by_cases hv : valD D 0 < 9223372036854775808
    · have a1 : atoiOk D = true := by unfold atoiOk; rw [i1 hv]
      have a2 : atoiVal D = (valD D 0 : Int) := by unfold atoiVal; rw [i1 hv]
      rw [a1, a2, cond_true]
      by_cases hb : (valD D 0 : Int) > 1000000
      · rw [dtrue hb, cond_true, Int.min_eq_right (by omega)]
        by_cases hq : q.1 = 45
        · rw [dtrue hq, if_pos hq]; rfl
        · rw [dfalse hq, if_neg hq]; rfl
      · rw [dfalse hb, cond_false, Int.min_eq_left (by omega), wrap_id (by omega) (by omega)]
        by_cases hq : q.1 = 45
        · rw [dtrue hq, if_pos hq, cond_true]; congr 1; omega
        · rw [dfalse hq, if_neg hq, cond_false]
    · have a1 : atoiOk D = false := by unfold atoiOk; rw [i2 (by omega)]
      rw [a1, cond_false, Int.min_eq_right (by omega)]
      by_cases hq : q.1 = 45
      · rw [dtrue hq, if_pos hq]; rfl
      · rw [dfalse hq, if_neg hq]; rfl

theorem trimL_head (a : Str) : ∀ b t, trimL a [48] = b :: t → b ≠ 48 := fun b t h hb => by
  have h2 := List.head?_dropWhile_not (([48] : Str).contains ·) a
  have e : a.dropWhile (([48] : Str).contains ·) = b :: t := h
  rw [e] at h2
  subst hb
  exact absurd (show (([48] : Str).contains 48) = false from h2) (by decide)
theorem trimL_sub (a : Str) : ∀ x ∈ trimL a [48], x ∈ a := fun x hx => (List.dropWhile_sublist _).subset hx
theorem trimR_cases (a : Str) : trimR a [48] = [] ∨ ∃ l b, trimR a [48] = l ++ [b] ∧ b ≠ 48 := by
  unfold trimR
  have h2 := List.head?_dropWhile_not (([48] : Str).contains ·) a.reverse
  cases h : a.reverse.dropWhile (([48] : Str).contains ·) with
  | nil => exact .inl rfl
  | cons b t =>
    rw [h] at h2
    refine .inr ⟨t.reverse, b, by simp, fun hb => ?_⟩
    subst hb
    exact absurd (show (([48] : Str).contains 48) = false from h2) (by decide)
theorem trimR_pre (a : Str) : ∃ n, a = trimR a [48] ++ zeros n := by
  have h := List.takeWhile_append_dropWhile (p := (([48] : Str).contains ·)) (l := a.reverse)
  have h2 := congrArg List.reverse h
  rw [List.reverse_append, List.reverse_reverse] at h2
  refine ⟨(a.reverse.takeWhile (([48] : Str).contains ·)).length, ?_⟩
  have hz : (a.reverse.takeWhile (([48] : Str).contains ·)).reverse = zeros (a.reverse.takeWhile (([48] : Str).contains ·)).length := by
    unfold zeros
    rw [List.eq_replicate_iff]
    refine ⟨List.length_reverse, fun x hx => ?_⟩
    have h3 := List.all_takeWhile (l := a.reverse) (p := (([48] : Str).contains ·))
    have := List.all_eq_true.1 h3 x (List.mem_reverse.1 hx)
    simpa using this
  rw [← hz]
  exact h2.symm

def finD (neg : Bool) (all : Str) (x : Int) : Dcm × Bool :=
  if trimR (trimL all [48]) [48] = [] then (⟨0, 0⟩, true)
  else mkD (if neg then -(valD (trimR (trimL all [48]) [48]) 0 : Int) else (valD (trimR (trimL all [48]) [48]) 0 : Int)) (x + (((trimL all [48]).length : Int) - ((trimR (trimL all [48]) [48]).length : Int)))

theorem make_min {R : Type} (m x : Int) (k : Dcm → Bool → Option R) : decimal_Make m x k = decimal_Make m (min x 1000000) k := by
  have e : ∀ x, decimal_Make m x k = decimal_Make_X decimal_within_int decimal_Make_4_0_L m x k := fun _ => rfl
  rw [e, e]
  unfold decimal_Make_X
  have : min (min x 1000000) 1000000 = min x 1000000 := by omega
  rw [this]
theorem mkD_min (u x : Int) : mkD u (min x 1000000) = mkD u x := by
  unfold mkD
  by_cases h : x ≤ 1000000
  · rw [Int.min_eq_left h]
  · rw [if_neg (by omega), if_neg (by omega)]
theorem make_unit {R : Type} (u x : Int) (hu : Int.tmod u 10 ≠ 0) (hb : I64 u) (hx : -9223372036854775808 ≤ x) (k : Dcm → Bool → Option R) : decimal_Make u x k = k (mkD u x).1 (mkD u x).2 := by
  rw [make_min, ← mkD_min u x]
  have := make_ok (R := R) u 0 (min x 1000000) hu (by simpa using hb) (by omega) (by omega) k
  simpa using this

theorem short_facts (all : Str) (h : ∀ x ∈ all, isDig x) (h0 : trimR (trimL all [48]) [48] ≠ []) :
    (∀ x ∈ trimR (trimL all [48]) [48], isDig x) ∧ valD (trimR (trimL all [48]) [48]) 0 % 10 ≠ 0 ∧ 10 ^ ((trimR (trimL all [48]) [48]).length - 1) ≤ valD (trimR (trimL all [48]) [48]) 0 := by
  obtain ⟨n, hn⟩ := trimR_pre (trimL all [48])
  have hd : ∀ x ∈ trimR (trimL all [48]) [48], isDig x := fun x hx => h x (trimL_sub _ _ (by rw [hn]; simp [hx]))
  refine ⟨hd, ?_, ?_⟩
  · rcases trimR_cases (trimL all [48]) with e | ⟨l, b, e, hb⟩
    · exact (h0 e).elim
    · have hbd := hd b (by rw [e]; simp)
      rw [e, valD_app]
      simp only [valD]
      unfold isDig at hbd
      have : b.toNat ≠ 48 := fun h => hb (UInt8.toNat_inj.1 h)
      omega
  · cases e : trimR (trimL all [48]) [48] with
    | nil => exact (h0 e).elim
    | cons b t =>
      have hb : b ≠ 48 := trimL_head all b (t ++ zeros n) (by rw [hn, e]; rfl)
      have hbd := hd b (by rw [e]; simp)
      unfold isDig at hbd
      have h48 : b.toNat ≠ 48 := fun h => hb (UInt8.toNat_inj.1 h)
      have := valD_ge t (10 * 0 + (b.toNat - 48))
      have h2 : 1 * 10 ^ t.length ≤ (10 * 0 + (b.toNat - 48)) * 10 ^ t.length := Nat.mul_le_mul_right _ (by omega)
      simp only [valD, List.length_cons, Nat.add_sub_cancel]
      omega

theorem mkD_far {u : Int} (x : Int) (h : 1000000000000000 < u.natAbs) : mkD u x = (⟨0, 0⟩, false) := by
  unfold mkD
  rw [if_neg (by omega)]

theorem fin_ok {R : Type} (y2 : Int) (z11 : Str) (z19 : Int) (z20 : Str) (h : ∀ x ∈ z11, isDig x) (hl : z11.length ≤ 1000) (hx : -2000000 ≤ z19 ∧ z19 ≤ 2000000) (k0 : Dcm → Bool → Option R) :
    (chk (isAsc ([48] : Str) && decide (([48] : Str).length < 4294967281)) (chk (isAsc ([48] : Str) && decide (([48] : Str).length < 4294967281)) (bif (!(z20 == ([] : Str))) then (k0 (⟨0, 0⟩ : Dcm) false) else (bif (decide (((trimR (trimL z11 ([48] : Str)) ([48] : Str)).length : Int) > (18 : Int))) then (k0 (⟨0, 0⟩ : Dcm) false) else (chk (decide (1 + (trimR (trimL z11 ([48] : Str)) ([48] : Str)).length ≤ 9223372036854775807)) (chk (decide ((([48] : Str) ++ (trimR (trimL z11 ([48] : Str)) ([48] : Str))).length ≤ 281474976710656)) (bif atoiOk (([48] : Str) ++ (trimR (trimL z11 ([48] : Str)) ([48] : Str))) then (bif (y2 != 0) then (decimal_Make (IntKind.i64.wrap (0 - (atoiVal (([48] : Str) ++ (trimR (trimL z11 ([48] : Str)) ([48] : Str)))))) (IntKind.i64.wrap (z19 + (IntKind.i64.wrap (((trimL z11 ([48] : Str)).length : Int) - ((trimR (trimL z11 ([48] : Str)) ([48] : Str)).length : Int))))) (fun y25 y26 => k0 y25 y26)) else (decimal_Make (atoiVal (([48] : Str) ++ (trimR (trimL z11 ([48] : Str)) ([48] : Str)))) (IntKind.i64.wrap (z19 + (IntKind.i64.wrap (((trimL z11 ([48] : Str)).length : Int) - ((trimR (trimL z11 ([48] : Str)) ([48] : Str)).length : Int))))) (fun y27 y28 => k0 y27 y28))) else (bif (y2 != 0) then (decimal_Make (IntKind.i64.wrap (0 - (atoiVal (([48] : Str) ++ (trimR (trimL z11 ([48] : Str)) ([48] : Str)))))) (IntKind.i64.wrap (z19 + (IntKind.i64.wrap (((trimL z11 ([48] : Str)).length : Int) - ((trimR (trimL z11 ([48] : Str)) ([48] : Str)).length : Int))))) (fun y25 y26 => k0 y25 y26)) else (decimal_Make (atoiVal (([48] : Str) ++ (trimR (trimL z11 ([48] : Str)) ([48] : Str)))) (IntKind.i64.wrap (z19 + (IntKind.i64.wrap (((trimL z11 ([48] : Str)).length : Int) - ((trimR (trimL z11 ([48] : Str)) ([48] : Str)).length : Int))))) (fun y27 y28 => k0 y27 y28)))))))))) =
    if z20 = [] then k0 (finD (y2 != 0) z11 z19).1 (finD (y2 != 0) z11 z19).2 else k0 ⟨0, 0⟩ false := by
  have q3 : (isAsc ([48] : Str) && decide (([48] : Str).length < 4294967281)) = true := rfl
  have htl : (trimL z11 [48]).length ≤ z11.length := drop_le _ _
  obtain ⟨n, hn⟩ := trimR_pre (trimL z11 [48])
  have htr : (trimL z11 [48]).length = (trimR (trimL z11 [48]) [48]).length + n := by have := congrArg List.length hn; rw [List.length_append, zeros_len] at this; exact this
  rw [q3, chk_pos rfl, chk_pos rfl]
  by_cases hz : z20 = []
  · subst hz
    have hbe : ((([] : Str) == ([] : Str))) = true := rfl
    rw [hbe, if_pos rfl]
    simp only [Bool.not_true, cond_false]
    have w0 : IntKind.i64.wrap (((trimL z11 [48]).length : Int) - ((trimR (trimL z11 [48]) [48]).length : Int)) = ((trimL z11 [48]).length : Int) - ((trimR (trimL z11 [48]) [48]).length : Int) := wrap_id (by omega) (by omega)
    have w1 : IntKind.i64.wrap (z19 + (((trimL z11 [48]).length : Int) - ((trimR (trimL z11 [48]) [48]).length : Int))) = z19 + (((trimL z11 [48]).length : Int) - ((trimR (trimL z11 [48]) [48]).length : Int)) := wrap_id (by omega) (by omega)
    rw [w0, w1, chk_pos (dtrue (by omega)), chk_pos (dtrue (by simp only [List.length_append, List.length_cons, List.length_nil]; omega)), Bool.cond_self]
    unfold finD
    have hc : (([48] : Str) ++ (trimR (trimL z11 ([48] : Str)) ([48] : Str))) = 48 :: trimR (trimL z11 [48]) [48] := rfl
    rw [hc]
    by_cases h0 : trimR (trimL z11 [48]) [48] = []
    · rw [h0, if_pos rfl]
      have a0 : atoiVal (48 :: ([] : Str)) = 0 := by decide +kernel
      have a1 : decide (((([] : Str)).length : Int) > 18) = false := rfl
      have a2 : IntKind.i64.wrap (0 - 0) = 0 := by decide
      rw [a0, a1, cond_false, a2, make_zero, Bool.cond_self]
    · rw [if_neg h0]
      obtain ⟨f1, f2, f3⟩ := short_facts z11 h h0
      have hX : -3000000 ≤ z19 + (((trimL z11 [48]).length : Int) - ((trimR (trimL z11 [48]) [48]).length : Int)) := by omega
      generalize trimR (trimL z11 [48]) [48] = sh at *
      generalize (z19 + (((trimL z11 [48]).length : Int) - (sh.length : Int))) = X at *
      have hpos : 1 ≤ sh.length := by cases sh with | nil => exact (h0 rfl).elim | cons _ _ => simp
      by_cases h18 : sh.length ≤ 18
      · rw [dfalse (show ¬ (sh.length : Int) > 18 by omega), cond_false]
        have hlt := valD_lt sh 0 f1
        have hp : (10 : Nat) ^ sh.length ≤ 10 ^ 18 := Nat.pow_le_pow_right (by omega) h18
        have e18 : (10 : Nat) ^ 18 = 1000000000000000000 := rfl
        have v48 : valD (48 :: sh) 0 = valD sh 0 := rfl
        have ha : atoiVal (48 :: sh) = (valD sh 0 : Int) := by
          obtain ⟨i1, _⟩ := atoi_dig (48 :: sh) (fun x hx => by rcases List.mem_cons.1 hx with rfl | hx; (unfold isDig; decide); exact f1 x hx) (by simp)
          unfold atoiVal
          rw [i1 (by rw [v48]; omega), v48]
        rw [ha]
        have hm : Int.tmod (valD sh 0 : Int) 10 ≠ 0 := by rw [Int.tmod_eq_emod_of_nonneg (by omega)]; omega
        cases hy : (y2 != 0) with
        | true =>
          rw [cond_true, if_pos rfl, wrap_id (by omega) (by omega)]
          have e0 : (0 - (valD sh 0 : Int)) = -(valD sh 0 : Int) := by omega
          rw [e0]
          exact make_unit _ _ (tmod_neg hm) (by unfold I64; omega) (by omega) _
        | false =>
          rw [cond_false, if_neg (by simp)]
          exact make_unit _ _ hm (by unfold I64; omega) (by omega) _
      · rw [dtrue (show (sh.length : Int) > 18 by omega), cond_true]
        have hp : (10 : Nat) ^ 18 ≤ 10 ^ (sh.length - 1) := Nat.pow_le_pow_right (by omega) (by omega)
        have e18 : (10 : Nat) ^ 18 = 1000000000000000000 := rfl
        rw [mkD_far _ (by split <;> omega)]
  · have hbe : (z20 == ([] : Str)) = false := by rw [beq_eq_false_iff_ne]; exact hz
    rw [hbe, if_neg hz]
    rfl

def noD : Dcm × Bool := (⟨0, 0⟩, false)
def tailD (neg : Bool) (all : Str) (x : Int) (X : Str) : Dcm × Bool :=
  if (signP [101, 69] X).1 = 0 then (if (signP [101, 69] X).2 = [] then finD neg all x else noD)
  else if (expP (signP [101, 69] X).2).2.1 = false then noD
  else if (expP (signP [101, 69] X).2).2.2 = [] then finD neg all (x + (expP (signP [101, 69] X).2).1) else noD

def parseS (s : Str) : Dcm × Bool :=
  let q := signP [45] s
  let I := takeD q.2
  let r := dropD q.2
  if 400 < s.length then noD else if I = [] then noD else if 1 < I.length ∧ (I.getD 0 0).toNat = 48 then noD
  else if (signP [46] r).1 = 0 then tailD (q.1 != 0) I 0 (signP [46] r).2
  else if takeD (signP [46] r).2 = [] then noD
  else tailD (q.1 != 0) (I ++ takeD (signP [46] r).2) (-((takeD (signP [46] r).2).length : Int)) (dropD (signP [46] r).2)

theorem expP_lim (X : Str) : -1000000 ≤ (expP X).1 ∧ (expP X).1 ≤ 1000000 := by
  unfold expP
  simp only
  split <;> omega

theorem neN (n : Nat) : (((n : Nat) : Int) != 0) = (n != 0) := by
  cases n with
  | zero => rfl
  | succ n => rw [bne_iff_ne.2 (by omega), bne_iff_ne.2 (by omega)]

theorem tailD_ok {R : Type} (q : Nat) (all : Str) (x : Int) (X : Str) (ha : ∀ c ∈ all, isDig c) (hl : all.length ≤ 900) (h1 : -1000 ≤ x) (h2 : x ≤ 0) (hX : X.length ≤ 1000) (k : Dcm → Bool → Option R) :
    decimal_reader_sign_e74a ([101, 69] : Str) X (fun y14 y15 => bif (y14 != 0) then (decimal_reader_exponent_abbd y15 (fun y16 y17 y18 => bif (!y17) then (k (⟨0, 0⟩ : Dcm) false) else (chk (isAsc ([48] : Str) && decide (([48] : Str).length < 4294967281)) (chk (isAsc ([48] : Str) && decide (([48] : Str).length < 4294967281)) (bif (!(y18 == ([] : Str))) then (k (⟨0, 0⟩ : Dcm) false) else (bif (decide (((trimR (trimL all ([48] : Str)) ([48] : Str)).length : Int) > (18 : Int))) then (k (⟨0, 0⟩ : Dcm) false) else (chk (decide (1 + (trimR (trimL all ([48] : Str)) ([48] : Str)).length ≤ 9223372036854775807)) (chk (decide ((([48] : Str) ++ (trimR (trimL all ([48] : Str)) ([48] : Str))).length ≤ 281474976710656)) (bif atoiOk (([48] : Str) ++ (trimR (trimL all ([48] : Str)) ([48] : Str))) then (bif ((q : Int) != 0) then (decimal_Make (IntKind.i64.wrap (0 - (atoiVal (([48] : Str) ++ (trimR (trimL all ([48] : Str)) ([48] : Str)))))) (IntKind.i64.wrap ((IntKind.i64.wrap (x + y16)) + (IntKind.i64.wrap (((trimL all ([48] : Str)).length : Int) - ((trimR (trimL all ([48] : Str)) ([48] : Str)).length : Int))))) (fun y25 y26 => k y25 y26)) else (decimal_Make (atoiVal (([48] : Str) ++ (trimR (trimL all ([48] : Str)) ([48] : Str)))) (IntKind.i64.wrap ((IntKind.i64.wrap (x + y16)) + (IntKind.i64.wrap (((trimL all ([48] : Str)).length : Int) - ((trimR (trimL all ([48] : Str)) ([48] : Str)).length : Int))))) (fun y27 y28 => k y27 y28))) else (bif ((q : Int) != 0) then (decimal_Make (IntKind.i64.wrap (0 - (atoiVal (([48] : Str) ++ (trimR (trimL all ([48] : Str)) ([48] : Str)))))) (IntKind.i64.wrap ((IntKind.i64.wrap (x + y16)) + (IntKind.i64.wrap (((trimL all ([48] : Str)).length : Int) - ((trimR (trimL all ([48] : Str)) ([48] : Str)).length : Int))))) (fun y25 y26 => k y25 y26)) else (decimal_Make (atoiVal (([48] : Str) ++ (trimR (trimL all ([48] : Str)) ([48] : Str)))) (IntKind.i64.wrap ((IntKind.i64.wrap (x + y16)) + (IntKind.i64.wrap (((trimL all ([48] : Str)).length : Int) - ((trimR (trimL all ([48] : Str)) ([48] : Str)).length : Int))))) (fun y27 y28 => k y27 y28)))))))))))) else (chk (isAsc ([48] : Str) && decide (([48] : Str).length < 4294967281)) (chk (isAsc ([48] : Str) && decide (([48] : Str).length < 4294967281)) (bif (!(y15 == ([] : Str))) then (k (⟨0, 0⟩ : Dcm) false) else (bif (decide (((trimR (trimL all ([48] : Str)) ([48] : Str)).length : Int) > (18 : Int))) then (k (⟨0, 0⟩ : Dcm) false) else (chk (decide (1 + (trimR (trimL all ([48] : Str)) ([48] : Str)).length ≤ 9223372036854775807)) (chk (decide ((([48] : Str) ++ (trimR (trimL all ([48] : Str)) ([48] : Str))).length ≤ 281474976710656)) (bif atoiOk (([48] : Str) ++ (trimR (trimL all ([48] : Str)) ([48] : Str))) then (bif ((q : Int) != 0) then (decimal_Make (IntKind.i64.wrap (0 - (atoiVal (([48] : Str) ++ (trimR (trimL all ([48] : Str)) ([48] : Str)))))) (IntKind.i64.wrap (x + (IntKind.i64.wrap (((trimL all ([48] : Str)).length : Int) - ((trimR (trimL all ([48] : Str)) ([48] : Str)).length : Int))))) (fun y25 y26 => k y25 y26)) else (decimal_Make (atoiVal (([48] : Str) ++ (trimR (trimL all ([48] : Str)) ([48] : Str)))) (IntKind.i64.wrap (x + (IntKind.i64.wrap (((trimL all ([48] : Str)).length : Int) - ((trimR (trimL all ([48] : Str)) ([48] : Str)).length : Int))))) (fun y27 y28 => k y27 y28))) else (bif ((q : Int) != 0) then (decimal_Make (IntKind.i64.wrap (0 - (atoiVal (([48] : Str) ++ (trimR (trimL all ([48] : Str)) ([48] : Str)))))) (IntKind.i64.wrap (x + (IntKind.i64.wrap (((trimL all ([48] : Str)).length : Int) - ((trimR (trimL all ([48] : Str)) ([48] : Str)).length : Int))))) (fun y25 y26 => k y25 y26)) else (decimal_Make (atoiVal (([48] : Str) ++ (trimR (trimL all ([48] : Str)) ([48] : Str)))) (IntKind.i64.wrap (x + (IntKind.i64.wrap (((trimL all ([48] : Str)).length : Int) - ((trimR (trimL all ([48] : Str)) ([48] : Str)).length : Int))))) (fun y27 y28 => k y27 y28))))))))))) = k (tailD (q != 0) all x X).1 (tailD (q != 0) all x X).2 := by
  rw [sign_ok _ _ (by omega)]
  unfold tailD
  have l5 := signP_le [101, 69] X
  generalize signP [101, 69] X = g at *
  rw [neN]
  by_cases hg : g.1 = 0
  · rw [if_pos hg, hg]
    simp only [bne_self_eq_false, cond_false]
    rw [fin_ok _ _ _ _ ha (by omega) (by omega), neN]
    split <;> rfl
  · rw [if_neg hg, bne_iff_ne.2 hg, cond_true, exp_any _ (by omega)]
    have hlim := expP_lim g.2
    generalize expP g.2 = z at *
    rw [wrap_id (n := x + z.1) (by omega) (by omega)]
    cases hz : z.2.1 with
    | false => rfl
    | true =>
      rw [Bool.not_true, cond_false, fin_ok _ _ _ _ ha (by omega) (by omega), neN, if_neg (show ¬ (true = false) by simp)]
      split <;> rfl

theorem parse_any {R : Type} (s : Str) (hs : s.length ≤ 4000000000) (k : Dcm → Bool → Option R) : decimal_Parse s k = k (parseS s).1 (parseS s).2 := by
  have e : decimal_Parse s k = decimal_Parse_X decimal_Make decimal_reader_sign_e74a decimal_reader_digits_abbd decimal_reader_exponent_abbd s k := rfl
  rw [e]
  unfold decimal_Parse_X
  have l1 := signP_le [45] s
  rw [sign_ok _ _ hs]
  unfold parseS
  simp only
  generalize signP [45] s = q at *
  rw [digits_any _ (by omega)]
  have l2 := take_le q.2
  have l3 := dropD_le q.2
  have dI := take_dig q.2
  generalize takeD q.2 = I at *
  generalize dropD q.2 = r at *
  by_cases h400 : 400 < s.length
  · rw [dtrue (show (s.length : Int) > 400 by omega), cond_true, if_pos h400]
    rfl
  rw [dfalse (show ¬ (s.length : Int) > 400 by omega), cond_false, if_neg h400]
  by_cases hI : I = []
  · subst hI
    rw [if_pos rfl]
    rfl
  have hne : (I == ([] : Str)) = false := by rw [beq_eq_false_iff_ne]; exact hI
  rw [hne, cond_false, if_neg hI]
  have hpos : 1 ≤ I.length := by cases I with | nil => exact (hI rfl).elim | cons _ _ => simp
  have q48 : (((I.getD 0 0).toNat : Int) == 48) = decide ((I.getD 0 0).toNat = 48) := eqI _ 48
  rw [chk_pos (dtrue (show (0 : Int) < I.length by omega)), q48]
  by_cases h48 : 1 < I.length ∧ (I.getD 0 0).toNat = 48
  · rw [if_pos h48, dtrue (show (I.length : Int) > 1 by omega), dtrue h48.2]
    rfl
  rw [if_neg h48]
  have cut : ∀ x : Option R, (bif decide ((I.length : Int) > 1) then (bif decide ((I.getD 0 0).toNat = 48) then k ⟨0, 0⟩ false else x) else x) = x := fun x => by
    by_cases h1 : 1 < I.length
    · rw [dtrue (show (I.length : Int) > 1 by omega), dfalse (fun h => h48 ⟨h1, h⟩)]; rfl
    · rw [dfalse (show ¬ (I.length : Int) > 1 by omega)]; rfl
  rw [cut]
  rw [sign_ok _ _ (by omega)]
  have l4 := signP_le [46] r
  generalize signP [46] r = p at *
  rw [neN]
  by_cases hp : p.1 = 0
  · rw [if_pos hp, hp]
    simp only [bne_self_eq_false, cond_false]
    exact tailD_ok q.1 I 0 p.2 dI (by omega) (by omega) (by omega) (by omega) k
  · rw [if_neg hp, bne_iff_ne.2 hp, cond_true, digits_any _ (by omega)]
    have l5 := take_le p.2
    have l6 := dropD_le p.2
    have dF := take_dig p.2
    generalize takeD p.2 = F at *
    generalize dropD p.2 = Y at *
    by_cases hF : F = []
    · subst hF
      rw [if_pos rfl]
      rfl
    have hne : (F == ([] : Str)) = false := by rw [beq_eq_false_iff_ne]; exact hF
    rw [hne, cond_false, if_neg hF, chk_pos (dtrue (by omega)), wrap_id (n := 0 - (F.length : Int)) (by omega) (by omega)]
    have e0 : (0 : Int) - (F.length : Int) = -(F.length : Int) := by omega
    rw [e0]
    exact tailD_ok q.1 (I ++ F) (-(F.length : Int)) Y (fun c hc => (List.mem_append.1 hc).elim (dI c) (dF c)) (by rw [List.length_append]; omega) (by omega) (by omega) (by omega) k
end Go.Proofs.YtifgegmnngfckaaDoor

/-
  Functions of the program as pure Lean functions, and the ties; printed by wip/tools/emit.py.
-/
set_option maxRecDepth 100000
set_option linter.unusedVariables false
namespace Go.Proofs.YtifgegmnngfckaaDoor
open Go Go.Yard

/-! ### humpyard/humpyardref01.Parse -/
abbrev ref01_Parse_ty (R : Type) : Type := Str → (Dcm → Bool → Option R) → Option R
abbrev ref01_Parse_p : List Pat := [.leaf (.str)]
abbrev ref01_Parse_q : List HPat := []
noncomputable def ref01_Parse_rr {R : Type} (fn : ref01_Parse_ty R) : Pat.dens ref01_Parse_p → HPat.dens ref01_Parse_q → (V → Heap → Option R) → Option R := fun x y k => fn x.1 (fun q0 q1 => k (.tuple [.agg [.int .i64 q0.mant, .int .i64 q0.exp], .bool q1]) [])
abbrev ref01_Parse_32_0_ty (R : Type) : Type := Nat → Str → Int → Int → Int → Str → Int → Bool → Int → Int → Dcm → (Str → Int → Int → Int → Str → Int → Bool → Int → Dcm → Option R) → Option R
abbrev ref01_Parse_41_0_ty (R : Type) : Type := Nat → Int → Str → Int → Dcm → (Int → Str → Int → Dcm → Option R) → Option R
abbrev ref01_Parse_43_0_ty (R : Type) : Type := Nat → Int → Str → Int → Dcm → (Int → Str → Int → Dcm → Option R) → Option R
abbrev ref01_Parse_50_0_ty (R : Type) : Type := Nat → Int → Str → Int → Int → Int → Dcm → (Int → Int → Int → Dcm → Option R) → Option R
noncomputable def ref01_Parse_E (R : Type) (ref01_Make : ref01_Make_ty R) (ref01_digits : ref01_digits_ty R) : Env R := fun i => match i with
  | 35 => some (true, (specBy ref01_Make_p ref01_Make_q (ref01_Make_rr ref01_Make) specNo))
  | 69 => some (true, (specBy ref01_digits_p ref01_digits_q (ref01_digits_rr ref01_digits) specNo))
  | _ => none
theorem ref01_Parse_EOk (R : Type) : EOk Tryd.prog (ref01_Parse_E R ref01_Make ref01_digits) := by
  intro i b sp h
  unfold ref01_Parse_E at h
  split at h
  · cases h; exact ⟨(ref01_Make_S_ok R _ (specNo_ok _)), fun h => nomatch h⟩
  · cases h; exact ⟨(ref01_digits_S_ok R _ (specNo_ok _)), fun h => nomatch h⟩
  · cases h

noncomputable def ref01_Parse_32_0_B {R : Type} (rec' : Str → Int → Int → Int → Str → Int → Bool → Int → Int → Dcm → Option R) (x18 : Str) (x19 : Int) (x20 : Int) (x21 : Int) (x22 : Str) (x23 : Int) (x24 : Bool) (x25 : Int) (x26 : Int) (x27 : Dcm) (e0 : Str → Int → Int → Int → Str → Int → Bool → Int → Dcm → Option R) : Option R :=
  bif (decide (x26 < (IntKind.i64.wrap (x19 + x21)))) then (chk (decide ((0 : Int) ≤ x26) && decide (x26 < x18.length)) (rec' x18 x19 x20 x21 x22 x23 x24 (min (IntKind.i64.wrap ((IntKind.i64.wrap (10 * x25)) + (IntKind.i64.wrap (IntKind.u8.wrap (((x18.getD x26.toNat 0).toNat : Int) - 48))))) 100000) (IntKind.i64.wrap (x26 + 1)) x27)) else (e0 x18 x19 x20 x21 x22 x23 x24 x25 x27)
noncomputable def ref01_Parse_32_0_L {R : Type} : ref01_Parse_32_0_ty R
  | 0, _, _, _, _, _, _, _, _, _, _, _ => none
  | n + 1, x0', x1', x2', x3', x4', x5', x6', x7', x8', x9', e0 => ref01_Parse_32_0_B (fun x0' x1' x2' x3' x4' x5' x6' x7' x8' x9' => ref01_Parse_32_0_L n x0' x1' x2' x3' x4' x5' x6' x7' x8' x9' e0) x0' x1' x2' x3' x4' x5' x6' x7' x8' x9' e0
noncomputable def ref01_Parse_32_0_h : Hint := { live := [0, 2, 4, 5, 6, 7, 8, 9, 10, 11], own := [], rows := [], cells := [], drop := [], out := [0, 2, 3, 4, 5, 6, 7, 8, 9, 10] }
abbrev ref01_Parse_32_0_D : Type := Str × Int × Int × Int × Str × Int × Bool × Int × Int × Dcm
noncomputable def ref01_Parse_32_0_enc : ref01_Parse_32_0_D → St := fun d => ⟨[.str d.1, .undef, .ptr 0 0, .undef, .int .i64 d.2.1, .int .i64 d.2.2.1, .int .i64 d.2.2.2.1, .str d.2.2.2.2.1, .int .i64 d.2.2.2.2.2.1, .bool d.2.2.2.2.2.2.1, .int .i64 d.2.2.2.2.2.2.2.1, .int .i64 d.2.2.2.2.2.2.2.2.1, .undef, .undef, .undef, .undef, .undef, .undef, .undef, .undef, .undef, .undef, .undef, .undef, .undef, .undef, .undef, .undef, .undef, .undef, .undef, .undef, .undef, .undef, .undef, .undef, .undef, .undef, .undef, .undef, .undef, .undef, .undef, .undef, .undef, .undef, .undef, .undef, .undef, .undef, .undef, .undef, .undef, .undef, .undef, .undef, .undef, .undef, .undef, .undef, .undef, .undef, .undef, .undef, .undef, .undef, .undef, .undef, .undef, .undef, .undef, .undef, .undef, .undef, .undef, .undef, .undef, .undef, .undef, .undef, .undef, .undef, .undef, .undef, .undef, .undef, .undef, .undef, .undef, .undef, .undef, .undef, .undef, .undef, .undef, .undef, .undef, .undef, .undef, .undef, .undef, .undef, .undef, .undef, .undef, .undef, .undef, .undef, .undef, .undef, .undef, .undef, .undef, .undef, .undef, .undef, .undef, .undef, .undef, .undef, .undef, .undef, .undef, .undef, .undef, .undef, .undef, .undef, .undef, .undef, .undef, .undef, .undef, .undef, .undef, .undef, .undef, .undef, .undef, .undef, .undef, .undef, .undef, .undef, .undef, .undef, .undef, .undef, .undef, .undef, .undef, .undef, .undef, .undef, .undef, .undef, .undef, .undef, .undef, .undef, .undef, .undef, .undef, .undef, .undef, .undef, .undef, .undef, .undef, .undef, .undef, .undef, .undef, .undef, .undef, .undef, .undef, .undef, .undef, .undef, .undef, .undef, .undef, .undef, .undef, .undef, .undef, .undef, .undef, .undef, .undef, .undef, .undef, .undef, .undef, .undef, .undef, .undef, .undef, .undef, .undef, .undef, .undef, .undef, .undef, .undef, .undef, .undef, .undef, .undef, .undef, .undef, .undef, .undef, .undef, .undef, .undef, .undef], [.cells [.int .i64 d.2.2.2.2.2.2.2.2.2.mant, .int .i64 d.2.2.2.2.2.2.2.2.2.exp]]⟩
noncomputable def ref01_Parse_32_0_x0 {R : Type} (K : Ex → St → Option R) (q0 : Str) (q1 : Int) (q2 : Int) (q3 : Int) (q4 : Str) (q5 : Int) (q6 : Bool) (q7 : Int) (q8 : Dcm) : Option R := K (.exit 0) ⟨[.str q0, .undef, .ptr 0 0, .undef, .int .i64 q1, .int .i64 q2, .int .i64 q3, .str q4, .int .i64 q5, .bool q6, .int .i64 q7, .undef, .undef, .undef, .undef, .undef, .undef, .undef, .undef, .undef, .undef, .undef, .undef, .undef, .undef, .undef, .undef, .undef, .undef, .undef, .undef, .undef, .undef, .undef, .undef, .undef, .undef, .undef, .undef, .undef, .undef, .undef, .undef, .undef, .undef, .undef, .undef, .undef, .undef, .undef, .undef, .undef, .undef, .undef, .undef, .undef, .undef, .undef, .undef, .undef, .undef, .undef, .undef, .undef, .undef, .undef, .undef, .undef, .undef, .undef, .undef, .undef, .undef, .undef, .undef, .undef, .undef, .undef, .undef, .undef, .undef, .undef, .undef, .undef, .undef, .undef, .undef, .undef, .undef, .undef, .undef, .undef, .undef, .undef, .undef, .undef, .undef, .undef, .undef, .undef, .undef, .undef, .undef, .undef, .undef, .undef, .undef, .undef, .undef, .undef, .undef, .undef, .undef, .undef, .undef, .undef, .undef, .undef, .undef, .undef, .undef, .undef, .undef, .undef, .undef, .undef, .undef, .undef, .undef, .undef, .undef, .undef, .undef, .undef, .undef, .undef, .undef, .undef, .undef, .undef, .undef, .undef, .undef, .undef, .undef, .undef, .undef, .undef, .undef, .undef, .undef, .undef, .undef, .undef, .undef, .undef, .undef, .undef, .undef, .undef, .undef, .undef, .undef, .undef, .undef, .undef, .undef, .undef, .undef, .undef, .undef, .undef, .undef, .undef, .undef, .undef, .undef, .undef, .undef, .undef, .undef, .undef, .undef, .undef, .undef, .undef, .undef, .undef, .undef, .undef, .undef, .undef, .undef, .undef, .undef, .undef, .undef, .undef, .undef, .undef, .undef, .undef, .undef, .undef, .undef, .undef, .undef, .undef, .undef, .undef, .undef, .undef, .undef, .undef, .undef, .undef, .undef, .undef], [.cells [.int .i64 q8.mant, .int .i64 q8.exp]]⟩
noncomputable def ref01_Parse_32_0_s {R : Type} (K : Ex → St → Option R) (rc : ref01_Parse_32_0_D → Option R) (d : ref01_Parse_32_0_D) : Option R := ref01_Parse_32_0_B (fun z0 z1 z2 z3 z4 z5 z6 z7 z8 z9 => rc (z0, z1, z2, z3, z4, z5, z6, z7, z8, z9)) d.1 d.2.1 d.2.2.1 d.2.2.2.1 d.2.2.2.2.1 d.2.2.2.2.2.1 d.2.2.2.2.2.2.1 d.2.2.2.2.2.2.2.1 d.2.2.2.2.2.2.2.2.1 d.2.2.2.2.2.2.2.2.2 (ref01_Parse_32_0_x0 K)
noncomputable def ref01_Parse_32_0_A {R : Type} (K : Ex → St → Option R) (n : Nat) (d : ref01_Parse_32_0_D) : Option R := ref01_Parse_32_0_L n d.1 d.2.1 d.2.2.1 d.2.2.2.1 d.2.2.2.2.1 d.2.2.2.2.2.1 d.2.2.2.2.2.2.1 d.2.2.2.2.2.2.2.1 d.2.2.2.2.2.2.2.2.1 d.2.2.2.2.2.2.2.2.2 (ref01_Parse_32_0_x0 K)
abbrev ref01_Parse_32_0_p : List Pat := [.leaf (.str), .leaf (.undef), .leaf (.ptr 0 0), .leaf (.undef), .leaf (.int .i64), .leaf (.int .i64), .leaf (.int .i64), .leaf (.str), .leaf (.int .i64), .leaf (.bool), .leaf (.int .i64), .leaf (.int .i64), .leaf (.undef), .leaf (.undef), .leaf (.undef), .leaf (.undef), .leaf (.undef), .leaf (.undef), .leaf (.undef), .leaf (.undef), .leaf (.undef), .leaf (.undef), .leaf (.undef), .leaf (.undef), .leaf (.undef), .leaf (.undef), .leaf (.undef), .leaf (.undef), .leaf (.undef), .leaf (.undef), .leaf (.undef), .leaf (.undef), .leaf (.undef), .leaf (.undef), .leaf (.undef), .leaf (.undef), .leaf (.undef), .leaf (.undef), .leaf (.undef), .leaf (.undef), .leaf (.undef), .leaf (.undef), .leaf (.undef), .leaf (.undef), .leaf (.undef), .leaf (.undef), .leaf (.undef), .leaf (.undef), .leaf (.undef), .leaf (.undef), .leaf (.undef), .leaf (.undef), .leaf (.undef), .leaf (.undef), .leaf (.undef), .leaf (.undef), .leaf (.undef), .leaf (.undef), .leaf (.undef), .leaf (.undef), .leaf (.undef), .leaf (.undef), .leaf (.undef), .leaf (.undef), .leaf (.undef), .leaf (.undef), .leaf (.undef), .leaf (.undef), .leaf (.undef), .leaf (.undef), .leaf (.undef), .leaf (.undef), .leaf (.undef), .leaf (.undef), .leaf (.undef), .leaf (.undef), .leaf (.undef), .leaf (.undef), .leaf (.undef), .leaf (.undef), .leaf (.undef), .leaf (.undef), .leaf (.undef), .leaf (.undef), .leaf (.undef), .leaf (.undef), .leaf (.undef), .leaf (.undef), .leaf (.undef), .leaf (.undef), .leaf (.undef), .leaf (.undef), .leaf (.undef), .leaf (.undef), .leaf (.undef), .leaf (.undef), .leaf (.undef), .leaf (.undef), .leaf (.undef), .leaf (.undef), .leaf (.undef), .leaf (.undef), .leaf (.undef), .leaf (.undef), .leaf (.undef), .leaf (.undef), .leaf (.undef), .leaf (.undef), .leaf (.undef), .leaf (.undef), .leaf (.undef), .leaf (.undef), .leaf (.undef), .leaf (.undef), .leaf (.undef), .leaf (.undef), .leaf (.undef), .leaf (.undef), .leaf (.undef), .leaf (.undef), .leaf (.undef), .leaf (.undef), .leaf (.undef), .leaf (.undef), .leaf (.undef), .leaf (.undef), .leaf (.undef), .leaf (.undef), .leaf (.undef), .leaf (.undef), .leaf (.undef), .leaf (.undef), .leaf (.undef), .leaf (.undef), .leaf (.undef), .leaf (.undef), .leaf (.undef), .leaf (.undef), .leaf (.undef), .leaf (.undef), .leaf (.undef), .leaf (.undef), .leaf (.undef), .leaf (.undef), .leaf (.undef), .leaf (.undef), .leaf (.undef), .leaf (.undef), .leaf (.undef), .leaf (.undef), .leaf (.undef), .leaf (.undef), .leaf (.undef), .leaf (.undef), .leaf (.undef), .leaf (.undef), .leaf (.undef), .leaf (.undef), .leaf (.undef), .leaf (.undef), .leaf (.undef), .leaf (.undef), .leaf (.undef), .leaf (.undef), .leaf (.undef), .leaf (.undef), .leaf (.undef), .leaf (.undef), .leaf (.undef), .leaf (.undef), .leaf (.undef), .leaf (.undef), .leaf (.undef), .leaf (.undef), .leaf (.undef), .leaf (.undef), .leaf (.undef), .leaf (.undef), .leaf (.undef), .leaf (.undef), .leaf (.undef), .leaf (.undef), .leaf (.undef), .leaf (.undef), .leaf (.undef), .leaf (.undef), .leaf (.undef), .leaf (.undef), .leaf (.undef), .leaf (.undef), .leaf (.undef), .leaf (.undef), .leaf (.undef), .leaf (.undef), .leaf (.undef), .leaf (.undef), .leaf (.undef), .leaf (.undef), .leaf (.undef), .leaf (.undef), .leaf (.undef), .leaf (.undef), .leaf (.undef), .leaf (.undef), .leaf (.undef), .leaf (.undef), .leaf (.undef), .leaf (.undef), .leaf (.undef), .leaf (.undef), .leaf (.undef), .leaf (.undef), .leaf (.undef), .leaf (.undef), .leaf (.undef), .leaf (.undef), .leaf (.undef), .leaf (.undef)]
abbrev ref01_Parse_32_0_q : List HPat := [.cells [.int .i64, .int .i64]]
noncomputable def ref01_Parse_32_0_f (x : Pat.dens ref01_Parse_32_0_p) (y : HPat.dens ref01_Parse_32_0_q) : Nat := (List.length x.1 + Int.natAbs x.2.2.2.2.1 + Int.natAbs x.2.2.2.2.2.1 + Int.natAbs x.2.2.2.2.2.2.1 + List.length x.2.2.2.2.2.2.2.1 + Int.natAbs x.2.2.2.2.2.2.2.2.1 + Int.natAbs x.2.2.2.2.2.2.2.2.2.2.1 + Int.natAbs x.2.2.2.2.2.2.2.2.2.2.2.1 + Dcm.fu (⟨y.1.1, y.1.2.1⟩ : Dcm) + 64)
noncomputable def ref01_Parse_32_0_d (x : Pat.dens ref01_Parse_32_0_p) (y : HPat.dens ref01_Parse_32_0_q) : ref01_Parse_32_0_D := (x.1, x.2.2.2.2.1, x.2.2.2.2.2.1, x.2.2.2.2.2.2.1, x.2.2.2.2.2.2.2.1, x.2.2.2.2.2.2.2.2.1, x.2.2.2.2.2.2.2.2.2.1, x.2.2.2.2.2.2.2.2.2.2.1, x.2.2.2.2.2.2.2.2.2.2.2.1, (⟨y.1.1, y.1.2.1⟩ : Dcm))
noncomputable def ref01_Parse_32_0_rr {R : Type} (L : ref01_Parse_32_0_ty R) : Pat.dens ref01_Parse_32_0_p → HPat.dens ref01_Parse_32_0_q → (Ex → St → Option R) → Option R := fun x y K => L (ref01_Parse_32_0_f x y) x.1 x.2.2.2.2.1 x.2.2.2.2.2.1 x.2.2.2.2.2.2.1 x.2.2.2.2.2.2.2.1 x.2.2.2.2.2.2.2.2.1 x.2.2.2.2.2.2.2.2.2.1 x.2.2.2.2.2.2.2.2.2.2.1 x.2.2.2.2.2.2.2.2.2.2.2.1 (⟨y.1.1, y.1.2.1⟩ : Dcm) (ref01_Parse_32_0_x0 K)
noncomputable def ref01_Parse_41_0_B {R : Type} (rec' : Int → Str → Int → Dcm → Option R) (x46 : Int) (x47 : Str) (x48 : Int) (x49 : Dcm) (e0 : Int → Str → Int → Dcm → Option R) : Option R :=
  bif (decide ((x47.length : Int) > (1 : Int))) then (chk (decide ((0 : Int) < x47.length)) (bif (((x47.getD 0 0).toNat : Int) == 48) then (chk (decide ((0 : Int) ≤ (x47.length : Int)) && decide ((x47.length : Int) ≤ x47.length)) (chk (decide ((1 : Int) ≤ (x47.length : Int))) (rec' x46 ((x47.drop 1).take ((x47.length : Int).toNat - 1)) x48 x49))) else (e0 x46 x47 x48 x49))) else (e0 x46 x47 x48 x49)
noncomputable def ref01_Parse_41_0_L {R : Type} : ref01_Parse_41_0_ty R
  | 0, _, _, _, _, _ => none
  | n + 1, x0', x1', x2', x3', e0 => ref01_Parse_41_0_B (fun x0' x1' x2' x3' => ref01_Parse_41_0_L n x0' x1' x2' x3' e0) x0' x1' x2' x3' e0
noncomputable def ref01_Parse_41_0_h : Hint := { live := [2, 5, 7, 8], own := [], rows := [], cells := [], drop := [], out := [2, 3, 5, 7, 8] }
abbrev ref01_Parse_41_0_D : Type := Int × Str × Int × Dcm
noncomputable def ref01_Parse_41_0_enc : ref01_Parse_41_0_D → St := fun d => ⟨[.undef, .undef, .ptr 0 0, .undef, .undef, .int .i64 d.1, .undef, .str d.2.1, .int .i64 d.2.2.1, .undef, .undef, .undef, .undef, .undef, .undef, .undef, .undef, .undef, .undef, .undef, .undef, .undef, .undef, .undef, .undef, .undef, .undef, .undef, .undef, .undef, .undef, .undef, .undef, .undef, .undef, .undef, .undef, .undef, .undef, .undef, .undef, .undef, .undef, .undef, .undef, .undef, .undef, .undef, .undef, .undef, .undef, .undef, .undef, .undef, .undef, .undef, .undef, .undef, .undef, .undef, .undef, .undef, .undef, .undef, .undef, .undef, .undef, .undef, .undef, .undef, .undef, .undef, .undef, .undef, .undef, .undef, .undef, .undef, .undef, .undef, .undef, .undef, .undef, .undef, .undef, .undef, .undef, .undef, .undef, .undef, .undef, .undef, .undef, .undef, .undef, .undef, .undef, .undef, .undef, .undef, .undef, .undef, .undef, .undef, .undef, .undef, .undef, .undef, .undef, .undef, .undef, .undef, .undef, .undef, .undef, .undef, .undef, .undef, .undef, .undef, .undef, .undef, .undef, .undef, .undef, .undef, .undef, .undef, .undef, .undef, .undef, .undef, .undef, .undef, .undef, .undef, .undef, .undef, .undef, .undef, .undef, .undef, .undef, .undef, .undef, .undef, .undef, .undef, .undef, .undef, .undef, .undef, .undef, .undef, .undef, .undef, .undef, .undef, .undef, .undef, .undef, .undef, .undef, .undef, .undef, .undef, .undef, .undef, .undef, .undef, .undef, .undef, .undef, .undef, .undef, .undef, .undef, .undef, .undef, .undef, .undef, .undef, .undef, .undef, .undef, .undef, .undef, .undef, .undef, .undef, .undef, .undef, .undef, .undef, .undef, .undef, .undef, .undef, .undef, .undef, .undef, .undef, .undef, .undef, .undef, .undef, .undef, .undef, .undef, .undef, .undef, .undef, .undef, .undef, .undef, .undef, .undef, .undef], [.cells [.int .i64 d.2.2.2.mant, .int .i64 d.2.2.2.exp]]⟩
noncomputable def ref01_Parse_41_0_x0 {R : Type} (K : Ex → St → Option R) (q0 : Int) (q1 : Str) (q2 : Int) (q3 : Dcm) : Option R := K (.exit 2) ⟨[.undef, .undef, .ptr 0 0, .undef, .undef, .int .i64 q0, .undef, .str q1, .int .i64 q2, .undef, .undef, .undef, .undef, .undef, .undef, .undef, .undef, .undef, .undef, .undef, .undef, .undef, .undef, .undef, .undef, .undef, .undef, .undef, .undef, .undef, .undef, .undef, .undef, .undef, .undef, .undef, .undef, .undef, .undef, .undef, .undef, .undef, .undef, .undef, .undef, .undef, .undef, .undef, .undef, .undef, .undef, .undef, .undef, .undef, .undef, .undef, .undef, .undef, .undef, .undef, .undef, .undef, .undef, .undef, .undef, .undef, .undef, .undef, .undef, .undef, .undef, .undef, .undef, .undef, .undef, .undef, .undef, .undef, .undef, .undef, .undef, .undef, .undef, .undef, .undef, .undef, .undef, .undef, .undef, .undef, .undef, .undef, .undef, .undef, .undef, .undef, .undef, .undef, .undef, .undef, .undef, .undef, .undef, .undef, .undef, .undef, .undef, .undef, .undef, .undef, .undef, .undef, .undef, .undef, .undef, .undef, .undef, .undef, .undef, .undef, .undef, .undef, .undef, .undef, .undef, .undef, .undef, .undef, .undef, .undef, .undef, .undef, .undef, .undef, .undef, .undef, .undef, .undef, .undef, .undef, .undef, .undef, .undef, .undef, .undef, .undef, .undef, .undef, .undef, .undef, .undef, .undef, .undef, .undef, .undef, .undef, .undef, .undef, .undef, .undef, .undef, .undef, .undef, .undef, .undef, .undef, .undef, .undef, .undef, .undef, .undef, .undef, .undef, .undef, .undef, .undef, .undef, .undef, .undef, .undef, .undef, .undef, .undef, .undef, .undef, .undef, .undef, .undef, .undef, .undef, .undef, .undef, .undef, .undef, .undef, .undef, .undef, .undef, .undef, .undef, .undef, .undef, .undef, .undef, .undef, .undef, .undef, .undef, .undef, .undef, .undef, .undef, .undef, .undef, .undef, .undef, .undef, .undef], [.cells [.int .i64 q3.mant, .int .i64 q3.exp]]⟩
noncomputable def ref01_Parse_41_0_s {R : Type} (K : Ex → St → Option R) (rc : ref01_Parse_41_0_D → Option R) (d : ref01_Parse_41_0_D) : Option R := ref01_Parse_41_0_B (fun z0 z1 z2 z3 => rc (z0, z1, z2, z3)) d.1 d.2.1 d.2.2.1 d.2.2.2 (ref01_Parse_41_0_x0 K)
noncomputable def ref01_Parse_41_0_A {R : Type} (K : Ex → St → Option R) (n : Nat) (d : ref01_Parse_41_0_D) : Option R := ref01_Parse_41_0_L n d.1 d.2.1 d.2.2.1 d.2.2.2 (ref01_Parse_41_0_x0 K)
abbrev ref01_Parse_41_0_p : List Pat := [.leaf (.undef), .leaf (.undef), .leaf (.ptr 0 0), .leaf (.undef), .leaf (.undef), .leaf (.int .i64), .leaf (.undef), .leaf (.str), .leaf (.int .i64), .leaf (.undef), .leaf (.undef), .leaf (.undef), .leaf (.undef), .leaf (.undef), .leaf (.undef), .leaf (.undef), .leaf (.undef), .leaf (.undef), .leaf (.undef), .leaf (.undef), .leaf (.undef), .leaf (.undef), .leaf (.undef), .leaf (.undef), .leaf (.undef), .leaf (.undef), .leaf (.undef), .leaf (.undef), .leaf (.undef), .leaf (.undef), .leaf (.undef), .leaf (.undef), .leaf (.undef), .leaf (.undef), .leaf (.undef), .leaf (.undef), .leaf (.undef), .leaf (.undef), .leaf (.undef), .leaf (.undef), .leaf (.undef), .leaf (.undef), .leaf (.undef), .leaf (.undef), .leaf (.undef), .leaf (.undef), .leaf (.undef), .leaf (.undef), .leaf (.undef), .leaf (.undef), .leaf (.undef), .leaf (.undef), .leaf (.undef), .leaf (.undef), .leaf (.undef), .leaf (.undef), .leaf (.undef), .leaf (.undef), .leaf (.undef), .leaf (.undef), .leaf (.undef), .leaf (.undef), .leaf (.undef), .leaf (.undef), .leaf (.undef), .leaf (.undef), .leaf (.undef), .leaf (.undef), .leaf (.undef), .leaf (.undef), .leaf (.undef), .leaf (.undef), .leaf (.undef), .leaf (.undef), .leaf (.undef), .leaf (.undef), .leaf (.undef), .leaf (.undef), .leaf (.undef), .leaf (.undef), .leaf (.undef), .leaf (.undef), .leaf (.undef), .leaf (.undef), .leaf (.undef), .leaf (.undef), .leaf (.undef), .leaf (.undef), .leaf (.undef), .leaf (.undef), .leaf (.undef), .leaf (.undef), .leaf (.undef), .leaf (.undef), .leaf (.undef), .leaf (.undef), .leaf (.undef), .leaf (.undef), .leaf (.undef), .leaf (.undef), .leaf (.undef), .leaf (.undef), .leaf (.undef), .leaf (.undef), .leaf (.undef), .leaf (.undef), .leaf (.undef), .leaf (.undef), .leaf (.undef), .leaf (.undef), .leaf (.undef), .leaf (.undef), .leaf (.undef), .leaf (.undef), .leaf (.undef), .leaf (.undef), .leaf (.undef), .leaf (.undef), .leaf (.undef), .leaf (.undef), .leaf (.undef), .leaf (.undef), .leaf (.undef), .leaf (.undef), .leaf (.undef), .leaf (.undef), .leaf (.undef), .leaf (.undef), .leaf (.undef), .leaf (.undef), .leaf (.undef), .leaf (.undef), .leaf (.undef), .leaf (.undef), .leaf (.undef), .leaf (.undef), .leaf (.undef), .leaf (.undef), .leaf (.undef), .leaf (.undef), .leaf (.undef), .leaf (.undef), .leaf (.undef), .leaf (.undef), .leaf (.undef), .leaf (.undef), .leaf (.undef), .leaf (.undef), .leaf (.undef), .leaf (.undef), .leaf (.undef), .leaf (.undef), .leaf (.undef), .leaf (.undef), .leaf (.undef), .leaf (.undef), .leaf (.undef), .leaf (.undef), .leaf (.undef), .leaf (.undef), .leaf (.undef), .leaf (.undef), .leaf (.undef), .leaf (.undef), .leaf (.undef), .leaf (.undef), .leaf (.undef), .leaf (.undef), .leaf (.undef), .leaf (.undef), .leaf (.undef), .leaf (.undef), .leaf (.undef), .leaf (.undef), .leaf (.undef), .leaf (.undef), .leaf (.undef), .leaf (.undef), .leaf (.undef), .leaf (.undef), .leaf (.undef), .leaf (.undef), .leaf (.undef), .leaf (.undef), .leaf (.undef), .leaf (.undef), .leaf (.undef), .leaf (.undef), .leaf (.undef), .leaf (.undef), .leaf (.undef), .leaf (.undef), .leaf (.undef), .leaf (.undef), .leaf (.undef), .leaf (.undef), .leaf (.undef), .leaf (.undef), .leaf (.undef), .leaf (.undef), .leaf (.undef), .leaf (.undef), .leaf (.undef), .leaf (.undef), .leaf (.undef), .leaf (.undef), .leaf (.undef), .leaf (.undef), .leaf (.undef), .leaf (.undef), .leaf (.undef), .leaf (.undef), .leaf (.undef), .leaf (.undef), .leaf (.undef), .leaf (.undef), .leaf (.undef), .leaf (.undef)]
abbrev ref01_Parse_41_0_q : List HPat := [.cells [.int .i64, .int .i64]]
noncomputable def ref01_Parse_41_0_f (x : Pat.dens ref01_Parse_41_0_p) (y : HPat.dens ref01_Parse_41_0_q) : Nat := (Int.natAbs x.2.2.2.2.2.1 + List.length x.2.2.2.2.2.2.2.1 + Int.natAbs x.2.2.2.2.2.2.2.2.1 + Dcm.fu (⟨y.1.1, y.1.2.1⟩ : Dcm) + 64)
noncomputable def ref01_Parse_41_0_d (x : Pat.dens ref01_Parse_41_0_p) (y : HPat.dens ref01_Parse_41_0_q) : ref01_Parse_41_0_D := (x.2.2.2.2.2.1, x.2.2.2.2.2.2.2.1, x.2.2.2.2.2.2.2.2.1, (⟨y.1.1, y.1.2.1⟩ : Dcm))
noncomputable def ref01_Parse_41_0_rr {R : Type} (L : ref01_Parse_41_0_ty R) : Pat.dens ref01_Parse_41_0_p → HPat.dens ref01_Parse_41_0_q → (Ex → St → Option R) → Option R := fun x y K => L (ref01_Parse_41_0_f x y) x.2.2.2.2.2.1 x.2.2.2.2.2.2.2.1 x.2.2.2.2.2.2.2.2.1 (⟨y.1.1, y.1.2.1⟩ : Dcm) (ref01_Parse_41_0_x0 K)
noncomputable def ref01_Parse_43_0_B {R : Type} (rec' : Int → Str → Int → Dcm → Option R) (x55 : Int) (x56 : Str) (x57 : Int) (x58 : Dcm) (e0 : Int → Str → Int → Dcm → Option R) : Option R :=
  bif (decide ((x56.length : Int) > (1 : Int))) then (chk (decide ((0 : Int) ≤ (IntKind.i64.wrap ((x56.length : Int) - 1))) && decide ((IntKind.i64.wrap ((x56.length : Int) - 1)) < x56.length)) (bif (((x56.getD ((IntKind.i64.wrap ((x56.length : Int) - 1)).toNat) 0).toNat : Int) == 48) then (chk (decide ((0 : Int) ≤ (IntKind.i64.wrap ((x56.length : Int) - 1))) && decide ((IntKind.i64.wrap ((x56.length : Int) - 1)) ≤ x56.length)) (chk (decide ((0 : Int) ≤ (IntKind.i64.wrap ((x56.length : Int) - 1)))) (rec' x55 ((x56.drop 0).take ((IntKind.i64.wrap ((x56.length : Int) - 1)).toNat - 0)) (IntKind.i64.wrap (x57 + 1)) x58))) else (e0 x55 x56 x57 x58))) else (e0 x55 x56 x57 x58)
noncomputable def ref01_Parse_43_0_L {R : Type} : ref01_Parse_43_0_ty R
  | 0, _, _, _, _, _ => none
  | n + 1, x0', x1', x2', x3', e0 => ref01_Parse_43_0_B (fun x0' x1' x2' x3' => ref01_Parse_43_0_L n x0' x1' x2' x3' e0) x0' x1' x2' x3' e0
noncomputable def ref01_Parse_43_0_h : Hint := { live := [2, 5, 7, 8], own := [], rows := [], cells := [], drop := [], out := [2, 3, 5, 7, 8] }
abbrev ref01_Parse_43_0_D : Type := Int × Str × Int × Dcm
noncomputable def ref01_Parse_43_0_enc : ref01_Parse_43_0_D → St := fun d => ⟨[.undef, .undef, .ptr 0 0, .undef, .undef, .int .i64 d.1, .undef, .str d.2.1, .int .i64 d.2.2.1, .undef, .undef, .undef, .undef, .undef, .undef, .undef, .undef, .undef, .undef, .undef, .undef, .undef, .undef, .undef, .undef, .undef, .undef, .undef, .undef, .undef, .undef, .undef, .undef, .undef, .undef, .undef, .undef, .undef, .undef, .undef, .undef, .undef, .undef, .undef, .undef, .undef, .undef, .undef, .undef, .undef, .undef, .undef, .undef, .undef, .undef, .undef, .undef, .undef, .undef, .undef, .undef, .undef, .undef, .undef, .undef, .undef, .undef, .undef, .undef, .undef, .undef, .undef, .undef, .undef, .undef, .undef, .undef, .undef, .undef, .undef, .undef, .undef, .undef, .undef, .undef, .undef, .undef, .undef, .undef, .undef, .undef, .undef, .undef, .undef, .undef, .undef, .undef, .undef, .undef, .undef, .undef, .undef, .undef, .undef, .undef, .undef, .undef, .undef, .undef, .undef, .undef, .undef, .undef, .undef, .undef, .undef, .undef, .undef, .undef, .undef, .undef, .undef, .undef, .undef, .undef, .undef, .undef, .undef, .undef, .undef, .undef, .undef, .undef, .undef, .undef, .undef, .undef, .undef, .undef, .undef, .undef, .undef, .undef, .undef, .undef, .undef, .undef, .undef, .undef, .undef, .undef, .undef, .undef, .undef, .undef, .undef, .undef, .undef, .undef, .undef, .undef, .undef, .undef, .undef, .undef, .undef, .undef, .undef, .undef, .undef, .undef, .undef, .undef, .undef, .undef, .undef, .undef, .undef, .undef, .undef, .undef, .undef, .undef, .undef, .undef, .undef, .undef, .undef, .undef, .undef, .undef, .undef, .undef, .undef, .undef, .undef, .undef, .undef, .undef, .undef, .undef, .undef, .undef, .undef, .undef, .undef, .undef, .undef, .undef, .undef, .undef, .undef, .undef, .undef, .undef, .undef, .undef, .undef], [.cells [.int .i64 d.2.2.2.mant, .int .i64 d.2.2.2.exp]]⟩
noncomputable def ref01_Parse_43_0_x0 {R : Type} (K : Ex → St → Option R) (q0 : Int) (q1 : Str) (q2 : Int) (q3 : Dcm) : Option R := K (.exit 4) ⟨[.undef, .undef, .ptr 0 0, .undef, .undef, .int .i64 q0, .undef, .str q1, .int .i64 q2, .undef, .undef, .undef, .undef, .undef, .undef, .undef, .undef, .undef, .undef, .undef, .undef, .undef, .undef, .undef, .undef, .undef, .undef, .undef, .undef, .undef, .undef, .undef, .undef, .undef, .undef, .undef, .undef, .undef, .undef, .undef, .undef, .undef, .undef, .undef, .undef, .undef, .undef, .undef, .undef, .undef, .undef, .undef, .undef, .undef, .undef, .undef, .undef, .undef, .undef, .undef, .undef, .undef, .undef, .undef, .undef, .undef, .undef, .undef, .undef, .undef, .undef, .undef, .undef, .undef, .undef, .undef, .undef, .undef, .undef, .undef, .undef, .undef, .undef, .undef, .undef, .undef, .undef, .undef, .undef, .undef, .undef, .undef, .undef, .undef, .undef, .undef, .undef, .undef, .undef, .undef, .undef, .undef, .undef, .undef, .undef, .undef, .undef, .undef, .undef, .undef, .undef, .undef, .undef, .undef, .undef, .undef, .undef, .undef, .undef, .undef, .undef, .undef, .undef, .undef, .undef, .undef, .undef, .undef, .undef, .undef, .undef, .undef, .undef, .undef, .undef, .undef, .undef, .undef, .undef, .undef, .undef, .undef, .undef, .undef, .undef, .undef, .undef, .undef, .undef, .undef, .undef, .undef, .undef, .undef, .undef, .undef, .undef, .undef, .undef, .undef, .undef, .undef, .undef, .undef, .undef, .undef, .undef, .undef, .undef, .undef, .undef, .undef, .undef, .undef, .undef, .undef, .undef, .undef, .undef, .undef, .undef, .undef, .undef, .undef, .undef, .undef, .undef, .undef, .undef, .undef, .undef, .undef, .undef, .undef, .undef, .undef, .undef, .undef, .undef, .undef, .undef, .undef, .undef, .undef, .undef, .undef, .undef, .undef, .undef, .undef, .undef, .undef, .undef, .undef, .undef, .undef, .undef, .undef], [.cells [.int .i64 q3.mant, .int .i64 q3.exp]]⟩
noncomputable def ref01_Parse_43_0_s {R : Type} (K : Ex → St → Option R) (rc : ref01_Parse_43_0_D → Option R) (d : ref01_Parse_43_0_D) : Option R := ref01_Parse_43_0_B (fun z0 z1 z2 z3 => rc (z0, z1, z2, z3)) d.1 d.2.1 d.2.2.1 d.2.2.2 (ref01_Parse_43_0_x0 K)
noncomputable def ref01_Parse_43_0_A {R : Type} (K : Ex → St → Option R) (n : Nat) (d : ref01_Parse_43_0_D) : Option R := ref01_Parse_43_0_L n d.1 d.2.1 d.2.2.1 d.2.2.2 (ref01_Parse_43_0_x0 K)
abbrev ref01_Parse_43_0_p : List Pat := [.leaf (.undef), .leaf (.undef), .leaf (.ptr 0 0), .leaf (.undef), .leaf (.undef), .leaf (.int .i64), .leaf (.undef), .leaf (.str), .leaf (.int .i64), .leaf (.undef), .leaf (.undef), .leaf (.undef), .leaf (.undef), .leaf (.undef), .leaf (.undef), .leaf (.undef), .leaf (.undef), .leaf (.undef), .leaf (.undef), .leaf (.undef), .leaf (.undef), .leaf (.undef), .leaf (.undef), .leaf (.undef), .leaf (.undef), .leaf (.undef), .leaf (.undef), .leaf (.undef), .leaf (.undef), .leaf (.undef), .leaf (.undef), .leaf (.undef), .leaf (.undef), .leaf (.undef), .leaf (.undef), .leaf (.undef), .leaf (.undef), .leaf (.undef), .leaf (.undef), .leaf (.undef), .leaf (.undef), .leaf (.undef), .leaf (.undef), .leaf (.undef), .leaf (.undef), .leaf (.undef), .leaf (.undef), .leaf (.undef), .leaf (.undef), .leaf (.undef), .leaf (.undef), .leaf (.undef), .leaf (.undef), .leaf (.undef), .leaf (.undef), .leaf (.undef), .leaf (.undef), .leaf (.undef), .leaf (.undef), .leaf (.undef), .leaf (.undef), .leaf (.undef), .leaf (.undef), .leaf (.undef), .leaf (.undef), .leaf (.undef), .leaf (.undef), .leaf (.undef), .leaf (.undef), .leaf (.undef), .leaf (.undef), .leaf (.undef), .leaf (.undef), .leaf (.undef), .leaf (.undef), .leaf (.undef), .leaf (.undef), .leaf (.undef), .leaf (.undef), .leaf (.undef), .leaf (.undef), .leaf (.undef), .leaf (.undef), .leaf (.undef), .leaf (.undef), .leaf (.undef), .leaf (.undef), .leaf (.undef), .leaf (.undef), .leaf (.undef), .leaf (.undef), .leaf (.undef), .leaf (.undef), .leaf (.undef), .leaf (.undef), .leaf (.undef), .leaf (.undef), .leaf (.undef), .leaf (.undef), .leaf (.undef), .leaf (.undef), .leaf (.undef), .leaf (.undef), .leaf (.undef), .leaf (.undef), .leaf (.undef), .leaf (.undef), .leaf (.undef), .leaf (.undef), .leaf (.undef), .leaf (.undef), .leaf (.undef), .leaf (.undef), .leaf (.undef), .leaf (.undef), .leaf (.undef), .leaf (.undef), .leaf (.undef), .leaf (.undef), .leaf (.undef), .leaf (.undef), .leaf (.undef), .leaf (.undef), .leaf (.undef), .leaf (.undef), .leaf (.undef), .leaf (.undef), .leaf (.undef), .leaf (.undef), .leaf (.undef), .leaf (.undef), .leaf (.undef), .leaf (.undef), .leaf (.undef), .leaf (.undef), .leaf (.undef), .leaf (.undef), .leaf (.undef), .leaf (.undef), .leaf (.undef), .leaf (.undef), .leaf (.undef), .leaf (.undef), .leaf (.undef), .leaf (.undef), .leaf (.undef), .leaf (.undef), .leaf (.undef), .leaf (.undef), .leaf (.undef), .leaf (.undef), .leaf (.undef), .leaf (.undef), .leaf (.undef), .leaf (.undef), .leaf (.undef), .leaf (.undef), .leaf (.undef), .leaf (.undef), .leaf (.undef), .leaf (.undef), .leaf (.undef), .leaf (.undef), .leaf (.undef), .leaf (.undef), .leaf (.undef), .leaf (.undef), .leaf (.undef), .leaf (.undef), .leaf (.undef), .leaf (.undef), .leaf (.undef), .leaf (.undef), .leaf (.undef), .leaf (.undef), .leaf (.undef), .leaf (.undef), .leaf (.undef), .leaf (.undef), .leaf (.undef), .leaf (.undef), .leaf (.undef), .leaf (.undef), .leaf (.undef), .leaf (.undef), .leaf (.undef), .leaf (.undef), .leaf (.undef), .leaf (.undef), .leaf (.undef), .leaf (.undef), .leaf (.undef), .leaf (.undef), .leaf (.undef), .leaf (.undef), .leaf (.undef), .leaf (.undef), .leaf (.undef), .leaf (.undef), .leaf (.undef), .leaf (.undef), .leaf (.undef), .leaf (.undef), .leaf (.undef), .leaf (.undef), .leaf (.undef), .leaf (.undef), .leaf (.undef), .leaf (.undef), .leaf (.undef), .leaf (.undef), .leaf (.undef), .leaf (.undef), .leaf (.undef), .leaf (.undef), .leaf (.undef), .leaf (.undef), .leaf (.undef)]
abbrev ref01_Parse_43_0_q : List HPat := [.cells [.int .i64, .int .i64]]
noncomputable def ref01_Parse_43_0_f (x : Pat.dens ref01_Parse_43_0_p) (y : HPat.dens ref01_Parse_43_0_q) : Nat := (Int.natAbs x.2.2.2.2.2.1 + List.length x.2.2.2.2.2.2.2.1 + Int.natAbs x.2.2.2.2.2.2.2.2.1 + Dcm.fu (⟨y.1.1, y.1.2.1⟩ : Dcm) + 64)
noncomputable def ref01_Parse_43_0_d (x : Pat.dens ref01_Parse_43_0_p) (y : HPat.dens ref01_Parse_43_0_q) : ref01_Parse_43_0_D := (x.2.2.2.2.2.1, x.2.2.2.2.2.2.2.1, x.2.2.2.2.2.2.2.2.1, (⟨y.1.1, y.1.2.1⟩ : Dcm))
noncomputable def ref01_Parse_43_0_rr {R : Type} (L : ref01_Parse_43_0_ty R) : Pat.dens ref01_Parse_43_0_p → HPat.dens ref01_Parse_43_0_q → (Ex → St → Option R) → Option R := fun x y K => L (ref01_Parse_43_0_f x y) x.2.2.2.2.2.1 x.2.2.2.2.2.2.2.1 x.2.2.2.2.2.2.2.2.1 (⟨y.1.1, y.1.2.1⟩ : Dcm) (ref01_Parse_43_0_x0 K)
noncomputable def ref01_Parse_50_0_B {R : Type} (rec' : Int → Str → Int → Int → Int → Dcm → Option R) (x64 : Int) (x65 : Str) (x66 : Int) (x67 : Int) (x68 : Int) (x69 : Dcm) (e0 : Int → Int → Int → Dcm → Option R) : Option R :=
  bif (decide (x68 < (x65.length : Int))) then (chk (decide ((0 : Int) ≤ x68) && decide (x68 < x65.length)) (rec' x64 x65 x66 (IntKind.i64.wrap ((IntKind.i64.wrap (10 * x67)) + (IntKind.i64.wrap (IntKind.u8.wrap (((x65.getD x68.toNat 0).toNat : Int) - 48))))) (IntKind.i64.wrap (x68 + 1)) x69)) else (e0 x64 x66 x67 x69)
noncomputable def ref01_Parse_50_0_L {R : Type} : ref01_Parse_50_0_ty R
  | 0, _, _, _, _, _, _, _ => none
  | n + 1, x0', x1', x2', x3', x4', x5', e0 => ref01_Parse_50_0_B (fun x0' x1' x2' x3' x4' x5' => ref01_Parse_50_0_L n x0' x1' x2' x3' x4' x5' e0) x0' x1' x2' x3' x4' x5' e0
noncomputable def ref01_Parse_50_0_h : Hint := { live := [2, 5, 7, 8, 12, 13], own := [], rows := [], cells := [], drop := [], out := [2, 3, 5, 8, 12] }
abbrev ref01_Parse_50_0_D : Type := Int × Str × Int × Int × Int × Dcm
noncomputable def ref01_Parse_50_0_enc : ref01_Parse_50_0_D → St := fun d => ⟨[.undef, .undef, .ptr 0 0, .undef, .undef, .int .i64 d.1, .undef, .str d.2.1, .int .i64 d.2.2.1, .undef, .undef, .undef, .int .i64 d.2.2.2.1, .int .i64 d.2.2.2.2.1, .undef, .undef, .undef, .undef, .undef, .undef, .undef, .undef, .undef, .undef, .undef, .undef, .undef, .undef, .undef, .undef, .undef, .undef, .undef, .undef, .undef, .undef, .undef, .undef, .undef, .undef, .undef, .undef, .undef, .undef, .undef, .undef, .undef, .undef, .undef, .undef, .undef, .undef, .undef, .undef, .undef, .undef, .undef, .undef, .undef, .undef, .undef, .undef, .undef, .undef, .undef, .undef, .undef, .undef, .undef, .undef, .undef, .undef, .undef, .undef, .undef, .undef, .undef, .undef, .undef, .undef, .undef, .undef, .undef, .undef, .undef, .undef, .undef, .undef, .undef, .undef, .undef, .undef, .undef, .undef, .undef, .undef, .undef, .undef, .undef, .undef, .undef, .undef, .undef, .undef, .undef, .undef, .undef, .undef, .undef, .undef, .undef, .undef, .undef, .undef, .undef, .undef, .undef, .undef, .undef, .undef, .undef, .undef, .undef, .undef, .undef, .undef, .undef, .undef, .undef, .undef, .undef, .undef, .undef, .undef, .undef, .undef, .undef, .undef, .undef, .undef, .undef, .undef, .undef, .undef, .undef, .undef, .undef, .undef, .undef, .undef, .undef, .undef, .undef, .undef, .undef, .undef, .undef, .undef, .undef, .undef, .undef, .undef, .undef, .undef, .undef, .undef, .undef, .undef, .undef, .undef, .undef, .undef, .undef, .undef, .undef, .undef, .undef, .undef, .undef, .undef, .undef, .undef, .undef, .undef, .undef, .undef, .undef, .undef, .undef, .undef, .undef, .undef, .undef, .undef, .undef, .undef, .undef, .undef, .undef, .undef, .undef, .undef, .undef, .undef, .undef, .undef, .undef, .undef, .undef, .undef, .undef, .undef, .undef, .undef, .undef, .undef, .undef, .undef], [.cells [.int .i64 d.2.2.2.2.2.mant, .int .i64 d.2.2.2.2.2.exp]]⟩
noncomputable def ref01_Parse_50_0_x0 {R : Type} (K : Ex → St → Option R) (q0 : Int) (q1 : Int) (q2 : Int) (q3 : Dcm) : Option R := K (.exit 6) ⟨[.undef, .undef, .ptr 0 0, .undef, .undef, .int .i64 q0, .undef, .undef, .int .i64 q1, .undef, .undef, .undef, .int .i64 q2, .undef, .undef, .undef, .undef, .undef, .undef, .undef, .undef, .undef, .undef, .undef, .undef, .undef, .undef, .undef, .undef, .undef, .undef, .undef, .undef, .undef, .undef, .undef, .undef, .undef, .undef, .undef, .undef, .undef, .undef, .undef, .undef, .undef, .undef, .undef, .undef, .undef, .undef, .undef, .undef, .undef, .undef, .undef, .undef, .undef, .undef, .undef, .undef, .undef, .undef, .undef, .undef, .undef, .undef, .undef, .undef, .undef, .undef, .undef, .undef, .undef, .undef, .undef, .undef, .undef, .undef, .undef, .undef, .undef, .undef, .undef, .undef, .undef, .undef, .undef, .undef, .undef, .undef, .undef, .undef, .undef, .undef, .undef, .undef, .undef, .undef, .undef, .undef, .undef, .undef, .undef, .undef, .undef, .undef, .undef, .undef, .undef, .undef, .undef, .undef, .undef, .undef, .undef, .undef, .undef, .undef, .undef, .undef, .undef, .undef, .undef, .undef, .undef, .undef, .undef, .undef, .undef, .undef, .undef, .undef, .undef, .undef, .undef, .undef, .undef, .undef, .undef, .undef, .undef, .undef, .undef, .undef, .undef, .undef, .undef, .undef, .undef, .undef, .undef, .undef, .undef, .undef, .undef, .undef, .undef, .undef, .undef, .undef, .undef, .undef, .undef, .undef, .undef, .undef, .undef, .undef, .undef, .undef, .undef, .undef, .undef, .undef, .undef, .undef, .undef, .undef, .undef, .undef, .undef, .undef, .undef, .undef, .undef, .undef, .undef, .undef, .undef, .undef, .undef, .undef, .undef, .undef, .undef, .undef, .undef, .undef, .undef, .undef, .undef, .undef, .undef, .undef, .undef, .undef, .undef, .undef, .undef, .undef, .undef, .undef, .undef, .undef, .undef, .undef, .undef], [.cells [.int .i64 q3.mant, .int .i64 q3.exp]]⟩
noncomputable def ref01_Parse_50_0_s {R : Type} (K : Ex → St → Option R) (rc : ref01_Parse_50_0_D → Option R) (d : ref01_Parse_50_0_D) : Option R := ref01_Parse_50_0_B (fun z0 z1 z2 z3 z4 z5 => rc (z0, z1, z2, z3, z4, z5)) d.1 d.2.1 d.2.2.1 d.2.2.2.1 d.2.2.2.2.1 d.2.2.2.2.2 (ref01_Parse_50_0_x0 K)
noncomputable def ref01_Parse_50_0_A {R : Type} (K : Ex → St → Option R) (n : Nat) (d : ref01_Parse_50_0_D) : Option R := ref01_Parse_50_0_L n d.1 d.2.1 d.2.2.1 d.2.2.2.1 d.2.2.2.2.1 d.2.2.2.2.2 (ref01_Parse_50_0_x0 K)
abbrev ref01_Parse_50_0_p : List Pat := [.leaf (.undef), .leaf (.undef), .leaf (.ptr 0 0), .leaf (.undef), .leaf (.undef), .leaf (.int .i64), .leaf (.undef), .leaf (.str), .leaf (.int .i64), .leaf (.undef), .leaf (.undef), .leaf (.undef), .leaf (.int .i64), .leaf (.int .i64), .leaf (.undef), .leaf (.undef), .leaf (.undef), .leaf (.undef), .leaf (.undef), .leaf (.undef), .leaf (.undef), .leaf (.undef), .leaf (.undef), .leaf (.undef), .leaf (.undef), .leaf (.undef), .leaf (.undef), .leaf (.undef), .leaf (.undef), .leaf (.undef), .leaf (.undef), .leaf (.undef), .leaf (.undef), .leaf (.undef), .leaf (.undef), .leaf (.undef), .leaf (.undef), .leaf (.undef), .leaf (.undef), .leaf (.undef), .leaf (.undef), .leaf (.undef), .leaf (.undef), .leaf (.undef), .leaf (.undef), .leaf (.undef), .leaf (.undef), .leaf (.undef), .leaf (.undef), .leaf (.undef), .leaf (.undef), .leaf (.undef), .leaf (.undef), .leaf (.undef), .leaf (.undef), .leaf (.undef), .leaf (.undef), .leaf (.undef), .leaf (.undef), .leaf (.undef), .leaf (.undef), .leaf (.undef), .leaf (.undef), .leaf (.undef), .leaf (.undef), .leaf (.undef), .leaf (.undef), .leaf (.undef), .leaf (.undef), .leaf (.undef), .leaf (.undef), .leaf (.undef), .leaf (.undef), .leaf (.undef), .leaf (.undef), .leaf (.undef), .leaf (.undef), .leaf (.undef), .leaf (.undef), .leaf (.undef), .leaf (.undef), .leaf (.undef), .leaf (.undef), .leaf (.undef), .leaf (.undef), .leaf (.undef), .leaf (.undef), .leaf (.undef), .leaf (.undef), .leaf (.undef), .leaf (.undef), .leaf (.undef), .leaf (.undef), .leaf (.undef), .leaf (.undef), .leaf (.undef), .leaf (.undef), .leaf (.undef), .leaf (.undef), .leaf (.undef), .leaf (.undef), .leaf (.undef), .leaf (.undef), .leaf (.undef), .leaf (.undef), .leaf (.undef), .leaf (.undef), .leaf (.undef), .leaf (.undef), .leaf (.undef), .leaf (.undef), .leaf (.undef), .leaf (.undef), .leaf (.undef), .leaf (.undef), .leaf (.undef), .leaf (.undef), .leaf (.undef), .leaf (.undef), .leaf (.undef), .leaf (.undef), .leaf (.undef), .leaf (.undef), .leaf (.undef), .leaf (.undef), .leaf (.undef), .leaf (.undef), .leaf (.undef), .leaf (.undef), .leaf (.undef), .leaf (.undef), .leaf (.undef), .leaf (.undef), .leaf (.undef), .leaf (.undef), .leaf (.undef), .leaf (.undef), .leaf (.undef), .leaf (.undef), .leaf (.undef), .leaf (.undef), .leaf (.undef), .leaf (.undef), .leaf (.undef), .leaf (.undef), .leaf (.undef), .leaf (.undef), .leaf (.undef), .leaf (.undef), .leaf (.undef), .leaf (.undef), .leaf (.undef), .leaf (.undef), .leaf (.undef), .leaf (.undef), .leaf (.undef), .leaf (.undef), .leaf (.undef), .leaf (.undef), .leaf (.undef), .leaf (.undef), .leaf (.undef), .leaf (.undef), .leaf (.undef), .leaf (.undef), .leaf (.undef), .leaf (.undef), .leaf (.undef), .leaf (.undef), .leaf (.undef), .leaf (.undef), .leaf (.undef), .leaf (.undef), .leaf (.undef), .leaf (.undef), .leaf (.undef), .leaf (.undef), .leaf (.undef), .leaf (.undef), .leaf (.undef), .leaf (.undef), .leaf (.undef), .leaf (.undef), .leaf (.undef), .leaf (.undef), .leaf (.undef), .leaf (.undef), .leaf (.undef), .leaf (.undef), .leaf (.undef), .leaf (.undef), .leaf (.undef), .leaf (.undef), .leaf (.undef), .leaf (.undef), .leaf (.undef), .leaf (.undef), .leaf (.undef), .leaf (.undef), .leaf (.undef), .leaf (.undef), .leaf (.undef), .leaf (.undef), .leaf (.undef), .leaf (.undef), .leaf (.undef), .leaf (.undef), .leaf (.undef), .leaf (.undef), .leaf (.undef), .leaf (.undef), .leaf (.undef), .leaf (.undef), .leaf (.undef), .leaf (.undef), .leaf (.undef), .leaf (.undef), .leaf (.undef)]
abbrev ref01_Parse_50_0_q : List HPat := [.cells [.int .i64, .int .i64]]
noncomputable def ref01_Parse_50_0_f (x : Pat.dens ref01_Parse_50_0_p) (y : HPat.dens ref01_Parse_50_0_q) : Nat := (Int.natAbs x.2.2.2.2.2.1 + List.length x.2.2.2.2.2.2.2.1 + Int.natAbs x.2.2.2.2.2.2.2.2.1 + Int.natAbs x.2.2.2.2.2.2.2.2.2.2.2.2.1 + Int.natAbs x.2.2.2.2.2.2.2.2.2.2.2.2.2.1 + Dcm.fu (⟨y.1.1, y.1.2.1⟩ : Dcm) + 64)
noncomputable def ref01_Parse_50_0_d (x : Pat.dens ref01_Parse_50_0_p) (y : HPat.dens ref01_Parse_50_0_q) : ref01_Parse_50_0_D := (x.2.2.2.2.2.1, x.2.2.2.2.2.2.2.1, x.2.2.2.2.2.2.2.2.1, x.2.2.2.2.2.2.2.2.2.2.2.2.1, x.2.2.2.2.2.2.2.2.2.2.2.2.2.1, (⟨y.1.1, y.1.2.1⟩ : Dcm))
noncomputable def ref01_Parse_50_0_rr {R : Type} (L : ref01_Parse_50_0_ty R) : Pat.dens ref01_Parse_50_0_p → HPat.dens ref01_Parse_50_0_q → (Ex → St → Option R) → Option R := fun x y K => L (ref01_Parse_50_0_f x y) x.2.2.2.2.2.1 x.2.2.2.2.2.2.2.1 x.2.2.2.2.2.2.2.2.1 x.2.2.2.2.2.2.2.2.2.2.2.2.1 x.2.2.2.2.2.2.2.2.2.2.2.2.2.1 (⟨y.1.1, y.1.2.1⟩ : Dcm) (ref01_Parse_50_0_x0 K)
noncomputable def ref01_Parse_T (R : Type) (ref01_Parse_32_0_L : ref01_Parse_32_0_ty R) (ref01_Parse_41_0_L : ref01_Parse_41_0_ty R) (ref01_Parse_43_0_L : ref01_Parse_43_0_ty R) (ref01_Parse_50_0_L : ref01_Parse_50_0_ty R) : Nat → Option (Hint × LSpec R) := fun i => match i with
  | 32 => some (ref01_Parse_32_0_h, (loopBy ref01_Parse_32_0_p ref01_Parse_32_0_q (ref01_Parse_32_0_rr ref01_Parse_32_0_L) loopNo))
  | 41 => some (ref01_Parse_41_0_h, (loopBy ref01_Parse_41_0_p ref01_Parse_41_0_q (ref01_Parse_41_0_rr ref01_Parse_41_0_L) loopNo))
  | 43 => some (ref01_Parse_43_0_h, (loopBy ref01_Parse_43_0_p ref01_Parse_43_0_q (ref01_Parse_43_0_rr ref01_Parse_43_0_L) loopNo))
  | 50 => some (ref01_Parse_50_0_h, (loopBy ref01_Parse_50_0_p ref01_Parse_50_0_q (ref01_Parse_50_0_rr ref01_Parse_50_0_L) loopNo))
  | _ => none

theorem ref01_Parse_32_0_B_ok {R : Type} (ref01_Make : ref01_Make_ty R) (ref01_digits : ref01_digits_ty R) (ref01_Parse_32_0_L : ref01_Parse_32_0_ty R) (ref01_Parse_41_0_L : ref01_Parse_41_0_ty R) (ref01_Parse_43_0_L : ref01_Parse_43_0_ty R) (ref01_Parse_50_0_L : ref01_Parse_50_0_ty R) (K : Ex → St → Option R) (rc : St → Option R) (d : ref01_Parse_32_0_D) : roundOf tt (ref01_Parse_E R ref01_Make ref01_digits) (ref01_Parse_T R ref01_Parse_32_0_L ref01_Parse_41_0_L ref01_Parse_43_0_L ref01_Parse_50_0_L) 0 ((loopsOf (codeOf Tryd.f36)).getD 0 .skip) ref01_Parse_32_0_h (ref01_Parse_32_0_enc d) rc K = ref01_Parse_32_0_s K (fun d => rc (ref01_Parse_32_0_enc d)) d := by kernel_rfl
theorem ref01_Parse_32_0_A_succ {R : Type} (K : Ex → St → Option R) (n : Nat) (d : ref01_Parse_32_0_D) : ref01_Parse_32_0_A K (n + 1) d = ref01_Parse_32_0_s K (ref01_Parse_32_0_A K n) d := by kernel_rfl
theorem ref01_Parse_32_0_A_zero {R : Type} (K : Ex → St → Option R) (d : ref01_Parse_32_0_D) : ref01_Parse_32_0_A K 0 d = none := by kernel_rfl
theorem ref01_Parse_32_0_e_ok (x : Pat.dens ref01_Parse_32_0_p) (y : HPat.dens ref01_Parse_32_0_q) : (⟨Pat.encL ref01_Parse_32_0_p x, HPat.encL ref01_Parse_32_0_q y⟩ : St) = ref01_Parse_32_0_enc (ref01_Parse_32_0_d x y) := by kernel_rfl
theorem ref01_Parse_32_0_r_ok {R : Type} (x : Pat.dens ref01_Parse_32_0_p) (y : HPat.dens ref01_Parse_32_0_q) (K : Ex → St → Option R) : ref01_Parse_32_0_rr (ref01_Parse_32_0_L) x y K = ref01_Parse_32_0_A K (ref01_Parse_32_0_f x y) (ref01_Parse_32_0_d x y) := by kernel_rfl
theorem ref01_Parse_32_0_ok {R : Type} (other : LSpec R) (ho : LsOk tt (ref01_Parse_E R ref01_Make ref01_digits) (ref01_Parse_T R ref01_Parse_32_0_L ref01_Parse_41_0_L ref01_Parse_43_0_L ref01_Parse_50_0_L) 0 ((loopsOf (codeOf Tryd.f36)).getD 0 .skip) ref01_Parse_32_0_h other) : LsOk tt (ref01_Parse_E R ref01_Make ref01_digits) (ref01_Parse_T R ref01_Parse_32_0_L ref01_Parse_41_0_L ref01_Parse_43_0_L ref01_Parse_50_0_L) 0 ((loopsOf (codeOf Tryd.f36)).getD 0 .skip) ref01_Parse_32_0_h (loopBy ref01_Parse_32_0_p ref01_Parse_32_0_q (ref01_Parse_32_0_rr (ref01_Parse_32_0_L)) other) :=
  loopBy_tie (A := ref01_Parse_32_0_A) ho (loop_tie ref01_Parse_32_0_enc (ref01_Parse_32_0_s) (ref01_Parse_32_0_A) (ref01_Parse_32_0_A_zero) (ref01_Parse_32_0_B_ok ref01_Make ref01_digits ref01_Parse_32_0_L ref01_Parse_41_0_L ref01_Parse_43_0_L ref01_Parse_50_0_L) (ref01_Parse_32_0_A_succ)) ref01_Parse_32_0_f ref01_Parse_32_0_d ref01_Parse_32_0_e_ok (ref01_Parse_32_0_r_ok)

theorem ref01_Parse_41_0_B_ok {R : Type} (ref01_Make : ref01_Make_ty R) (ref01_digits : ref01_digits_ty R) (ref01_Parse_32_0_L : ref01_Parse_32_0_ty R) (ref01_Parse_41_0_L : ref01_Parse_41_0_ty R) (ref01_Parse_43_0_L : ref01_Parse_43_0_ty R) (ref01_Parse_50_0_L : ref01_Parse_50_0_ty R) (K : Ex → St → Option R) (rc : St → Option R) (d : ref01_Parse_41_0_D) : roundOf tt (ref01_Parse_E R ref01_Make ref01_digits) (ref01_Parse_T R ref01_Parse_32_0_L ref01_Parse_41_0_L ref01_Parse_43_0_L ref01_Parse_50_0_L) 0 ((loopsOf (codeOf Tryd.f36)).getD 1 .skip) ref01_Parse_41_0_h (ref01_Parse_41_0_enc d) rc K = ref01_Parse_41_0_s K (fun d => rc (ref01_Parse_41_0_enc d)) d := by kernel_rfl
theorem ref01_Parse_41_0_A_succ {R : Type} (K : Ex → St → Option R) (n : Nat) (d : ref01_Parse_41_0_D) : ref01_Parse_41_0_A K (n + 1) d = ref01_Parse_41_0_s K (ref01_Parse_41_0_A K n) d := by kernel_rfl
theorem ref01_Parse_41_0_A_zero {R : Type} (K : Ex → St → Option R) (d : ref01_Parse_41_0_D) : ref01_Parse_41_0_A K 0 d = none := by kernel_rfl
theorem ref01_Parse_41_0_e_ok (x : Pat.dens ref01_Parse_41_0_p) (y : HPat.dens ref01_Parse_41_0_q) : (⟨Pat.encL ref01_Parse_41_0_p x, HPat.encL ref01_Parse_41_0_q y⟩ : St) = ref01_Parse_41_0_enc (ref01_Parse_41_0_d x y) := by kernel_rfl
theorem ref01_Parse_41_0_r_ok {R : Type} (x : Pat.dens ref01_Parse_41_0_p) (y : HPat.dens ref01_Parse_41_0_q) (K : Ex → St → Option R) : ref01_Parse_41_0_rr (ref01_Parse_41_0_L) x y K = ref01_Parse_41_0_A K (ref01_Parse_41_0_f x y) (ref01_Parse_41_0_d x y) := by kernel_rfl
theorem ref01_Parse_41_0_ok {R : Type} (other : LSpec R) (ho : LsOk tt (ref01_Parse_E R ref01_Make ref01_digits) (ref01_Parse_T R ref01_Parse_32_0_L ref01_Parse_41_0_L ref01_Parse_43_0_L ref01_Parse_50_0_L) 0 ((loopsOf (codeOf Tryd.f36)).getD 1 .skip) ref01_Parse_41_0_h other) : LsOk tt (ref01_Parse_E R ref01_Make ref01_digits) (ref01_Parse_T R ref01_Parse_32_0_L ref01_Parse_41_0_L ref01_Parse_43_0_L ref01_Parse_50_0_L) 0 ((loopsOf (codeOf Tryd.f36)).getD 1 .skip) ref01_Parse_41_0_h (loopBy ref01_Parse_41_0_p ref01_Parse_41_0_q (ref01_Parse_41_0_rr (ref01_Parse_41_0_L)) other) :=
  loopBy_tie (A := ref01_Parse_41_0_A) ho (loop_tie ref01_Parse_41_0_enc (ref01_Parse_41_0_s) (ref01_Parse_41_0_A) (ref01_Parse_41_0_A_zero) (ref01_Parse_41_0_B_ok ref01_Make ref01_digits ref01_Parse_32_0_L ref01_Parse_41_0_L ref01_Parse_43_0_L ref01_Parse_50_0_L) (ref01_Parse_41_0_A_succ)) ref01_Parse_41_0_f ref01_Parse_41_0_d ref01_Parse_41_0_e_ok (ref01_Parse_41_0_r_ok)

theorem ref01_Parse_43_0_B_ok {R : Type} (ref01_Make : ref01_Make_ty R) (ref01_digits : ref01_digits_ty R) (ref01_Parse_32_0_L : ref01_Parse_32_0_ty R) (ref01_Parse_41_0_L : ref01_Parse_41_0_ty R) (ref01_Parse_43_0_L : ref01_Parse_43_0_ty R) (ref01_Parse_50_0_L : ref01_Parse_50_0_ty R) (K : Ex → St → Option R) (rc : St → Option R) (d : ref01_Parse_43_0_D) : roundOf tt (ref01_Parse_E R ref01_Make ref01_digits) (ref01_Parse_T R ref01_Parse_32_0_L ref01_Parse_41_0_L ref01_Parse_43_0_L ref01_Parse_50_0_L) 0 ((loopsOf (codeOf Tryd.f36)).getD 2 .skip) ref01_Parse_43_0_h (ref01_Parse_43_0_enc d) rc K = ref01_Parse_43_0_s K (fun d => rc (ref01_Parse_43_0_enc d)) d := by kernel_rfl
theorem ref01_Parse_43_0_A_succ {R : Type} (K : Ex → St → Option R) (n : Nat) (d : ref01_Parse_43_0_D) : ref01_Parse_43_0_A K (n + 1) d = ref01_Parse_43_0_s K (ref01_Parse_43_0_A K n) d := by kernel_rfl
theorem ref01_Parse_43_0_A_zero {R : Type} (K : Ex → St → Option R) (d : ref01_Parse_43_0_D) : ref01_Parse_43_0_A K 0 d = none := by kernel_rfl
theorem ref01_Parse_43_0_e_ok (x : Pat.dens ref01_Parse_43_0_p) (y : HPat.dens ref01_Parse_43_0_q) : (⟨Pat.encL ref01_Parse_43_0_p x, HPat.encL ref01_Parse_43_0_q y⟩ : St) = ref01_Parse_43_0_enc (ref01_Parse_43_0_d x y) := by kernel_rfl
theorem ref01_Parse_43_0_r_ok {R : Type} (x : Pat.dens ref01_Parse_43_0_p) (y : HPat.dens ref01_Parse_43_0_q) (K : Ex → St → Option R) : ref01_Parse_43_0_rr (ref01_Parse_43_0_L) x y K = ref01_Parse_43_0_A K (ref01_Parse_43_0_f x y) (ref01_Parse_43_0_d x y) := by kernel_rfl
theorem ref01_Parse_43_0_ok {R : Type} (other : LSpec R) (ho : LsOk tt (ref01_Parse_E R ref01_Make ref01_digits) (ref01_Parse_T R ref01_Parse_32_0_L ref01_Parse_41_0_L ref01_Parse_43_0_L ref01_Parse_50_0_L) 0 ((loopsOf (codeOf Tryd.f36)).getD 2 .skip) ref01_Parse_43_0_h other) : LsOk tt (ref01_Parse_E R ref01_Make ref01_digits) (ref01_Parse_T R ref01_Parse_32_0_L ref01_Parse_41_0_L ref01_Parse_43_0_L ref01_Parse_50_0_L) 0 ((loopsOf (codeOf Tryd.f36)).getD 2 .skip) ref01_Parse_43_0_h (loopBy ref01_Parse_43_0_p ref01_Parse_43_0_q (ref01_Parse_43_0_rr (ref01_Parse_43_0_L)) other) :=
  loopBy_tie (A := ref01_Parse_43_0_A) ho (loop_tie ref01_Parse_43_0_enc (ref01_Parse_43_0_s) (ref01_Parse_43_0_A) (ref01_Parse_43_0_A_zero) (ref01_Parse_43_0_B_ok ref01_Make ref01_digits ref01_Parse_32_0_L ref01_Parse_41_0_L ref01_Parse_43_0_L ref01_Parse_50_0_L) (ref01_Parse_43_0_A_succ)) ref01_Parse_43_0_f ref01_Parse_43_0_d ref01_Parse_43_0_e_ok (ref01_Parse_43_0_r_ok)

theorem ref01_Parse_50_0_B_ok {R : Type} (ref01_Make : ref01_Make_ty R) (ref01_digits : ref01_digits_ty R) (ref01_Parse_32_0_L : ref01_Parse_32_0_ty R) (ref01_Parse_41_0_L : ref01_Parse_41_0_ty R) (ref01_Parse_43_0_L : ref01_Parse_43_0_ty R) (ref01_Parse_50_0_L : ref01_Parse_50_0_ty R) (K : Ex → St → Option R) (rc : St → Option R) (d : ref01_Parse_50_0_D) : roundOf tt (ref01_Parse_E R ref01_Make ref01_digits) (ref01_Parse_T R ref01_Parse_32_0_L ref01_Parse_41_0_L ref01_Parse_43_0_L ref01_Parse_50_0_L) 0 ((loopsOf (codeOf Tryd.f36)).getD 3 .skip) ref01_Parse_50_0_h (ref01_Parse_50_0_enc d) rc K = ref01_Parse_50_0_s K (fun d => rc (ref01_Parse_50_0_enc d)) d := by kernel_rfl
theorem ref01_Parse_50_0_A_succ {R : Type} (K : Ex → St → Option R) (n : Nat) (d : ref01_Parse_50_0_D) : ref01_Parse_50_0_A K (n + 1) d = ref01_Parse_50_0_s K (ref01_Parse_50_0_A K n) d := by kernel_rfl
theorem ref01_Parse_50_0_A_zero {R : Type} (K : Ex → St → Option R) (d : ref01_Parse_50_0_D) : ref01_Parse_50_0_A K 0 d = none := by kernel_rfl
theorem ref01_Parse_50_0_e_ok (x : Pat.dens ref01_Parse_50_0_p) (y : HPat.dens ref01_Parse_50_0_q) : (⟨Pat.encL ref01_Parse_50_0_p x, HPat.encL ref01_Parse_50_0_q y⟩ : St) = ref01_Parse_50_0_enc (ref01_Parse_50_0_d x y) := by kernel_rfl
theorem ref01_Parse_50_0_r_ok {R : Type} (x : Pat.dens ref01_Parse_50_0_p) (y : HPat.dens ref01_Parse_50_0_q) (K : Ex → St → Option R) : ref01_Parse_50_0_rr (ref01_Parse_50_0_L) x y K = ref01_Parse_50_0_A K (ref01_Parse_50_0_f x y) (ref01_Parse_50_0_d x y) := by kernel_rfl
theorem ref01_Parse_50_0_ok {R : Type} (other : LSpec R) (ho : LsOk tt (ref01_Parse_E R ref01_Make ref01_digits) (ref01_Parse_T R ref01_Parse_32_0_L ref01_Parse_41_0_L ref01_Parse_43_0_L ref01_Parse_50_0_L) 0 ((loopsOf (codeOf Tryd.f36)).getD 3 .skip) ref01_Parse_50_0_h other) : LsOk tt (ref01_Parse_E R ref01_Make ref01_digits) (ref01_Parse_T R ref01_Parse_32_0_L ref01_Parse_41_0_L ref01_Parse_43_0_L ref01_Parse_50_0_L) 0 ((loopsOf (codeOf Tryd.f36)).getD 3 .skip) ref01_Parse_50_0_h (loopBy ref01_Parse_50_0_p ref01_Parse_50_0_q (ref01_Parse_50_0_rr (ref01_Parse_50_0_L)) other) :=
  loopBy_tie (A := ref01_Parse_50_0_A) ho (loop_tie ref01_Parse_50_0_enc (ref01_Parse_50_0_s) (ref01_Parse_50_0_A) (ref01_Parse_50_0_A_zero) (ref01_Parse_50_0_B_ok ref01_Make ref01_digits ref01_Parse_32_0_L ref01_Parse_41_0_L ref01_Parse_43_0_L ref01_Parse_50_0_L) (ref01_Parse_50_0_A_succ)) ref01_Parse_50_0_f ref01_Parse_50_0_d ref01_Parse_50_0_e_ok (ref01_Parse_50_0_r_ok)

noncomputable def ref01_Parse_X {R : Type} (ref01_Make : ref01_Make_ty R) (ref01_digits : ref01_digits_ty R) (ref01_Parse_32_0_L : ref01_Parse_32_0_ty R) (ref01_Parse_41_0_L : ref01_Parse_41_0_ty R) (ref01_Parse_43_0_L : ref01_Parse_43_0_ty R) (ref01_Parse_50_0_L : ref01_Parse_50_0_ty R) (x1 : Str) (k0 : Dcm → Bool → Option R) : Option R :=
  bif (decide ((x1.length : Int) > (400 : Int))) then (k0 (⟨0, 0⟩ : Dcm) false) else (let j79 := fun (z3 : Int) (z4 : Int) => ref01_digits x1 z3 (fun y5 => let j78 := chk (decide ((0 : Int) ≤ (IntKind.i64.wrap (z3 + y5))) && decide ((IntKind.i64.wrap (z3 + y5)) ≤ x1.length)) (chk (decide ((0 : Int) ≤ z3) && decide (z3 ≤ (IntKind.i64.wrap (z3 + y5)))) (let j77 := fun (z10 : Int) (z11 : Str) (z12 : Int) => let j76 := fun (z40 : Str) (z41 : Int) (z42 : Int) (z43 : Str) (z44 : Int) (z45 : Dcm) => bif (z41 != (z40.length : Int)) then (k0 (⟨0, 0⟩ : Dcm) false) else (ref01_Parse_41_0_L (Int.natAbs z42 + List.length z43 + Int.natAbs z44 + Dcm.fu z45 + 64) z42 z43 z44 z45 (fun y51 y52 y53 y54 => ref01_Parse_43_0_L (Int.natAbs y51 + List.length y52 + Int.natAbs y53 + Dcm.fu y54 + 64) y51 y52 y53 y54 (fun y60 y61 y62 y63 => bif (decide ((y61.length : Int) > (17 : Int))) then (k0 (⟨0, 0⟩ : Dcm) false) else (ref01_Parse_50_0_L (Int.natAbs y60 + List.length y61 + Int.natAbs y62 + Int.natAbs 0 + Int.natAbs 0 + Dcm.fu y63 + 64) y60 y61 y62 0 0 y63 (fun y70 y71 y72 y73 => ref01_Make (IntKind.i64.wrap (y70 * y72)) y71 (fun y74 y75 => k0 y74 y75)))))); let j39 := fun (z13 : Bool) => bif z13 then (let j38 := fun (z15 : Int) (z16 : Bool) => ref01_digits x1 z15 (fun y17 => bif (y17 == 0) then (k0 (⟨0, 0⟩ : Dcm) false) else (ref01_Parse_32_0_L (List.length x1 + Int.natAbs z15 + Int.natAbs z4 + Int.natAbs y17 + List.length z11 + Int.natAbs z12 + Int.natAbs 0 + Int.natAbs z15 + Dcm.fu (⟨0, 0⟩ : Dcm) + 64) x1 z15 z4 y17 z11 z12 z16 0 z15 (⟨0, 0⟩ : Dcm) (fun y28 y29 y30 y31 y32 y33 y34 y35 y36 => bif y34 then (j76 y28 (IntKind.i64.wrap (y29 + y31)) y30 y32 (IntKind.i64.wrap (y33 + (IntKind.i64.wrap (0 - y35)))) y36) else (j76 y28 (IntKind.i64.wrap (y29 + y31)) y30 y32 (IntKind.i64.wrap (y33 + y35)) y36)))); bif (decide ((IntKind.i64.wrap (z10 + 1)) < (x1.length : Int))) then (chk (decide ((0 : Int) ≤ (IntKind.i64.wrap (z10 + 1))) && decide ((IntKind.i64.wrap (z10 + 1)) < x1.length)) (bif (((x1.getD ((IntKind.i64.wrap (z10 + 1)).toNat) 0).toNat : Int) == 43) then (chk (decide ((0 : Int) ≤ (IntKind.i64.wrap (z10 + 1))) && decide ((IntKind.i64.wrap (z10 + 1)) < x1.length)) (j38 (IntKind.i64.wrap ((IntKind.i64.wrap (z10 + 1)) + 1)) (((x1.getD ((IntKind.i64.wrap (z10 + 1)).toNat) 0).toNat : Int) == 45))) else (chk (decide ((0 : Int) ≤ (IntKind.i64.wrap (z10 + 1))) && decide ((IntKind.i64.wrap (z10 + 1)) < x1.length)) (bif (((x1.getD ((IntKind.i64.wrap (z10 + 1)).toNat) 0).toNat : Int) == 45) then (chk (decide ((0 : Int) ≤ (IntKind.i64.wrap (z10 + 1))) && decide ((IntKind.i64.wrap (z10 + 1)) < x1.length)) (j38 (IntKind.i64.wrap ((IntKind.i64.wrap (z10 + 1)) + 1)) (((x1.getD ((IntKind.i64.wrap (z10 + 1)).toNat) 0).toNat : Int) == 45))) else (j38 (IntKind.i64.wrap (z10 + 1)) false))))) else (j38 (IntKind.i64.wrap (z10 + 1)) false)) else (j76 x1 z10 z4 z11 z12 (⟨0, 0⟩ : Dcm)); bif (decide (z10 < (x1.length : Int))) then (chk (decide ((0 : Int) ≤ z10) && decide (z10 < x1.length)) (bif (((x1.getD z10.toNat 0).toNat : Int) == 101) then (j39 true) else (chk (decide ((0 : Int) ≤ z10) && decide (z10 < x1.length)) (j39 (((x1.getD z10.toNat 0).toNat : Int) == 69))))) else (j39 false); let j9 := fun (z7 : Bool) => bif z7 then (ref01_digits x1 (IntKind.i64.wrap ((IntKind.i64.wrap (z3 + y5)) + 1)) (fun y8 => bif (y8 == 0) then (k0 (⟨0, 0⟩ : Dcm) false) else (chk (decide ((0 : Int) ≤ (IntKind.i64.wrap ((IntKind.i64.wrap ((IntKind.i64.wrap (z3 + y5)) + 1)) + y8))) && decide ((IntKind.i64.wrap ((IntKind.i64.wrap ((IntKind.i64.wrap (z3 + y5)) + 1)) + y8)) ≤ x1.length)) (chk (decide ((0 : Int) ≤ (IntKind.i64.wrap ((IntKind.i64.wrap (z3 + y5)) + 1))) && decide ((IntKind.i64.wrap ((IntKind.i64.wrap (z3 + y5)) + 1)) ≤ (IntKind.i64.wrap ((IntKind.i64.wrap ((IntKind.i64.wrap (z3 + y5)) + 1)) + y8)))) (chk (decide (((x1.drop z3.toNat).take ((IntKind.i64.wrap (z3 + y5)).toNat - z3.toNat)).length + ((x1.drop (IntKind.i64.wrap ((IntKind.i64.wrap (z3 + y5)) + 1)).toNat).take ((IntKind.i64.wrap ((IntKind.i64.wrap ((IntKind.i64.wrap (z3 + y5)) + 1)) + y8)).toNat - (IntKind.i64.wrap ((IntKind.i64.wrap (z3 + y5)) + 1)).toNat)).length ≤ 9223372036854775807)) (j77 (IntKind.i64.wrap ((IntKind.i64.wrap ((IntKind.i64.wrap (z3 + y5)) + 1)) + y8)) (((x1.drop z3.toNat).take ((IntKind.i64.wrap (z3 + y5)).toNat - z3.toNat)) ++ ((x1.drop (IntKind.i64.wrap ((IntKind.i64.wrap (z3 + y5)) + 1)).toNat).take ((IntKind.i64.wrap ((IntKind.i64.wrap ((IntKind.i64.wrap (z3 + y5)) + 1)) + y8)).toNat - (IntKind.i64.wrap ((IntKind.i64.wrap (z3 + y5)) + 1)).toNat))) (IntKind.i64.wrap (0 - y8)))))))) else (j77 (IntKind.i64.wrap (z3 + y5)) ((x1.drop z3.toNat).take ((IntKind.i64.wrap (z3 + y5)).toNat - z3.toNat)) 0); bif (decide ((IntKind.i64.wrap (z3 + y5)) < (x1.length : Int))) then (chk (decide ((0 : Int) ≤ (IntKind.i64.wrap (z3 + y5))) && decide ((IntKind.i64.wrap (z3 + y5)) < x1.length)) (j9 (((x1.getD ((IntKind.i64.wrap (z3 + y5)).toNat) 0).toNat : Int) == 46))) else (j9 false))); bif (y5 == 0) then (k0 (⟨0, 0⟩ : Dcm) false) else (bif (decide (y5 > (1 : Int))) then (chk (decide ((0 : Int) ≤ z3) && decide (z3 < x1.length)) (bif (((x1.getD z3.toNat 0).toNat : Int) == 48) then (k0 (⟨0, 0⟩ : Dcm) false) else (j78))) else (j78))); bif (decide ((0 : Int) < (x1.length : Int))) then (chk (decide ((0 : Int) < x1.length)) (bif (((x1.getD 0 0).toNat : Int) == 45) then (j79 1 (-1)) else (j79 0 1))) else (j79 0 1))
noncomputable def ref01_Parse {R : Type} : ref01_Parse_ty R := fun x1 k0 => ref01_Parse_X ref01_Make ref01_digits ref01_Parse_32_0_L ref01_Parse_41_0_L ref01_Parse_43_0_L ref01_Parse_50_0_L x1 k0
theorem ref01_Parse_ok {R : Type} (ref01_Make : ref01_Make_ty R) (ref01_digits : ref01_digits_ty R) (ref01_Parse_32_0_L : ref01_Parse_32_0_ty R) (ref01_Parse_41_0_L : ref01_Parse_41_0_ty R) (ref01_Parse_43_0_L : ref01_Parse_43_0_ty R) (ref01_Parse_50_0_L : ref01_Parse_50_0_ty R) (x1 : Str) (k : V → Heap → Option R) : funK tt (ref01_Parse_E R ref01_Make ref01_digits) (ref01_Parse_T R ref01_Parse_32_0_L ref01_Parse_41_0_L ref01_Parse_43_0_L ref01_Parse_50_0_L) false Tryd.f36 (codeOf Tryd.f36) [.str x1] [] k =
    ref01_Parse_X ref01_Make ref01_digits ref01_Parse_32_0_L ref01_Parse_41_0_L ref01_Parse_43_0_L ref01_Parse_50_0_L x1 (fun q0 q1 => k (.tuple [.agg [.int .i64 q0.mant, .int .i64 q0.exp], .bool q1]) []) := by kernel_rfl
theorem ref01_Parse_loops (R : Type) : ∀ a ∈ loopsOf (codeOf Tryd.f36), LoopOk tt (ref01_Parse_E R ref01_Make ref01_digits) (ref01_Parse_T R ref01_Parse_32_0_L ref01_Parse_41_0_L ref01_Parse_43_0_L ref01_Parse_50_0_L) 0 a := by
  refine loops_ok 4 (by kernel_rfl) fun i hi => ?_
  match i, hi with
  | 0, _ => exact loopOk_some (by kernel_rfl) (ref01_Parse_32_0_ok _ loopNo_ok)
  | 1, _ => exact loopOk_some (by kernel_rfl) (ref01_Parse_41_0_ok _ loopNo_ok)
  | 2, _ => exact loopOk_some (by kernel_rfl) (ref01_Parse_43_0_ok _ loopNo_ok)
  | 3, _ => exact loopOk_some (by kernel_rfl) (ref01_Parse_50_0_ok _ loopNo_ok)
  | n + 4, hi => omega
theorem ref01_Parse_S_ok (R : Type) (other : Yard.Spec R) (ho : Yard.Spec.Ok Tryd.prog 36 other) : Yard.Spec.Ok Tryd.prog 36 (specBy ref01_Parse_p ref01_Parse_q (ref01_Parse_rr ref01_Parse) other) :=
  specBy_ok ho (funK_sound TT mixed (ref01_Parse_EOk R) (keep := false) rfl rfl rfl rfl 0 (ref01_Parse_loops R)) fun (x : Pat.dens ref01_Parse_p) (y : HPat.dens ref01_Parse_q) k => ref01_Parse_ok ref01_Make ref01_digits ref01_Parse_32_0_L ref01_Parse_41_0_L ref01_Parse_43_0_L ref01_Parse_50_0_L x.1 k

end Go.Proofs.YtifgegmnngfckaaDoor

set_option linter.unusedVariables false
set_option maxRecDepth 100000
namespace Go.Proofs.YtifgegmnngfckaaDoor
open Go Go.Yard Go.Lib

noncomputable def Jref01_Parse_j76 {R : Type} (k0 : Dcm → Bool → Option R) (z40 : Str) (z41 : Int) (z42 : Int) (z43 : Str) (z44 : Int) (z45 : Dcm) : Option R :=
  bif (z41 != (z40.length : Int)) then (k0 (⟨0, 0⟩ : Dcm) false) else (ref01_Parse_41_0_L (Int.natAbs z42 + List.length z43 + Int.natAbs z44 + Dcm.fu z45 + 64) z42 z43 z44 z45 (fun y51 y52 y53 y54 => ref01_Parse_43_0_L (Int.natAbs y51 + List.length y52 + Int.natAbs y53 + Dcm.fu y54 + 64) y51 y52 y53 y54 (fun y60 y61 y62 y63 => bif (decide ((y61.length : Int) > (17 : Int))) then (k0 (⟨0, 0⟩ : Dcm) false) else (ref01_Parse_50_0_L (Int.natAbs y60 + List.length y61 + Int.natAbs y62 + Int.natAbs 0 + Int.natAbs 0 + Dcm.fu y63 + 64) y60 y61 y62 0 0 y63 (fun y70 y71 y72 y73 => ref01_Make (IntKind.i64.wrap (y70 * y72)) y71 (fun y74 y75 => k0 y74 y75))))))
noncomputable def Jref01_Parse_j38 {R : Type} (k0 : Dcm → Bool → Option R) (x1 : Str) (z4 : Int) (z11 : Str) (z12 : Int) (z15 : Int) (z16 : Bool) : Option R :=
  ref01_digits x1 z15 (fun y17 => bif (y17 == 0) then (k0 (⟨0, 0⟩ : Dcm) false) else (ref01_Parse_32_0_L (List.length x1 + Int.natAbs z15 + Int.natAbs z4 + Int.natAbs y17 + List.length z11 + Int.natAbs z12 + Int.natAbs 0 + Int.natAbs z15 + Dcm.fu (⟨0, 0⟩ : Dcm) + 64) x1 z15 z4 y17 z11 z12 z16 0 z15 (⟨0, 0⟩ : Dcm) (fun y28 y29 y30 y31 y32 y33 y34 y35 y36 => bif y34 then (Jref01_Parse_j76 k0 y28 (IntKind.i64.wrap (y29 + y31)) y30 y32 (IntKind.i64.wrap (y33 + (IntKind.i64.wrap (0 - y35)))) y36) else (Jref01_Parse_j76 k0 y28 (IntKind.i64.wrap (y29 + y31)) y30 y32 (IntKind.i64.wrap (y33 + y35)) y36))))
noncomputable def Jref01_Parse_j39 {R : Type} (k0 : Dcm → Bool → Option R) (x1 : Str) (z4 : Int) (z10 : Int) (z11 : Str) (z12 : Int) (z13 : Bool) : Option R :=
  bif z13 then (bif (decide ((IntKind.i64.wrap (z10 + 1)) < (x1.length : Int))) then (chk (decide ((0 : Int) ≤ (IntKind.i64.wrap (z10 + 1))) && decide ((IntKind.i64.wrap (z10 + 1)) < x1.length)) (bif (((x1.getD ((IntKind.i64.wrap (z10 + 1)).toNat) 0).toNat : Int) == 43) then (chk (decide ((0 : Int) ≤ (IntKind.i64.wrap (z10 + 1))) && decide ((IntKind.i64.wrap (z10 + 1)) < x1.length)) (Jref01_Parse_j38 k0 x1 z4 z11 z12 (IntKind.i64.wrap ((IntKind.i64.wrap (z10 + 1)) + 1)) (((x1.getD ((IntKind.i64.wrap (z10 + 1)).toNat) 0).toNat : Int) == 45))) else (chk (decide ((0 : Int) ≤ (IntKind.i64.wrap (z10 + 1))) && decide ((IntKind.i64.wrap (z10 + 1)) < x1.length)) (bif (((x1.getD ((IntKind.i64.wrap (z10 + 1)).toNat) 0).toNat : Int) == 45) then (chk (decide ((0 : Int) ≤ (IntKind.i64.wrap (z10 + 1))) && decide ((IntKind.i64.wrap (z10 + 1)) < x1.length)) (Jref01_Parse_j38 k0 x1 z4 z11 z12 (IntKind.i64.wrap ((IntKind.i64.wrap (z10 + 1)) + 1)) (((x1.getD ((IntKind.i64.wrap (z10 + 1)).toNat) 0).toNat : Int) == 45))) else (Jref01_Parse_j38 k0 x1 z4 z11 z12 (IntKind.i64.wrap (z10 + 1)) false))))) else (Jref01_Parse_j38 k0 x1 z4 z11 z12 (IntKind.i64.wrap (z10 + 1)) false)) else (Jref01_Parse_j76 k0 x1 z10 z4 z11 z12 (⟨0, 0⟩ : Dcm))
noncomputable def Jref01_Parse_j77 {R : Type} (k0 : Dcm → Bool → Option R) (x1 : Str) (z4 : Int) (z10 : Int) (z11 : Str) (z12 : Int) : Option R :=
  bif (decide (z10 < (x1.length : Int))) then (chk (decide ((0 : Int) ≤ z10) && decide (z10 < x1.length)) (bif (((x1.getD z10.toNat 0).toNat : Int) == 101) then (Jref01_Parse_j39 k0 x1 z4 z10 z11 z12 true) else (chk (decide ((0 : Int) ≤ z10) && decide (z10 < x1.length)) (Jref01_Parse_j39 k0 x1 z4 z10 z11 z12 (((x1.getD z10.toNat 0).toNat : Int) == 69))))) else (Jref01_Parse_j39 k0 x1 z4 z10 z11 z12 false)
noncomputable def Jref01_Parse_j9 {R : Type} (k0 : Dcm → Bool → Option R) (x1 : Str) (z3 : Int) (z4 : Int) (y5 : Int) (z7 : Bool) : Option R :=
  bif z7 then (ref01_digits x1 (IntKind.i64.wrap ((IntKind.i64.wrap (z3 + y5)) + 1)) (fun y8 => bif (y8 == 0) then (k0 (⟨0, 0⟩ : Dcm) false) else (chk (decide ((0 : Int) ≤ (IntKind.i64.wrap ((IntKind.i64.wrap ((IntKind.i64.wrap (z3 + y5)) + 1)) + y8))) && decide ((IntKind.i64.wrap ((IntKind.i64.wrap ((IntKind.i64.wrap (z3 + y5)) + 1)) + y8)) ≤ x1.length)) (chk (decide ((0 : Int) ≤ (IntKind.i64.wrap ((IntKind.i64.wrap (z3 + y5)) + 1))) && decide ((IntKind.i64.wrap ((IntKind.i64.wrap (z3 + y5)) + 1)) ≤ (IntKind.i64.wrap ((IntKind.i64.wrap ((IntKind.i64.wrap (z3 + y5)) + 1)) + y8)))) (chk (decide (((x1.drop z3.toNat).take ((IntKind.i64.wrap (z3 + y5)).toNat - z3.toNat)).length + ((x1.drop (IntKind.i64.wrap ((IntKind.i64.wrap (z3 + y5)) + 1)).toNat).take ((IntKind.i64.wrap ((IntKind.i64.wrap ((IntKind.i64.wrap (z3 + y5)) + 1)) + y8)).toNat - (IntKind.i64.wrap ((IntKind.i64.wrap (z3 + y5)) + 1)).toNat)).length ≤ 9223372036854775807)) (Jref01_Parse_j77 k0 x1 z4 (IntKind.i64.wrap ((IntKind.i64.wrap ((IntKind.i64.wrap (z3 + y5)) + 1)) + y8)) (((x1.drop z3.toNat).take ((IntKind.i64.wrap (z3 + y5)).toNat - z3.toNat)) ++ ((x1.drop (IntKind.i64.wrap ((IntKind.i64.wrap (z3 + y5)) + 1)).toNat).take ((IntKind.i64.wrap ((IntKind.i64.wrap ((IntKind.i64.wrap (z3 + y5)) + 1)) + y8)).toNat - (IntKind.i64.wrap ((IntKind.i64.wrap (z3 + y5)) + 1)).toNat))) (IntKind.i64.wrap (0 - y8)))))))) else (Jref01_Parse_j77 k0 x1 z4 (IntKind.i64.wrap (z3 + y5)) ((x1.drop z3.toNat).take ((IntKind.i64.wrap (z3 + y5)).toNat - z3.toNat)) 0)
noncomputable def Jref01_Parse_j78 {R : Type} (k0 : Dcm → Bool → Option R) (x1 : Str) (z3 : Int) (z4 : Int) (y5 : Int) : Option R :=
  chk (decide ((0 : Int) ≤ (IntKind.i64.wrap (z3 + y5))) && decide ((IntKind.i64.wrap (z3 + y5)) ≤ x1.length)) (chk (decide ((0 : Int) ≤ z3) && decide (z3 ≤ (IntKind.i64.wrap (z3 + y5)))) (bif (decide ((IntKind.i64.wrap (z3 + y5)) < (x1.length : Int))) then (chk (decide ((0 : Int) ≤ (IntKind.i64.wrap (z3 + y5))) && decide ((IntKind.i64.wrap (z3 + y5)) < x1.length)) (Jref01_Parse_j9 k0 x1 z3 z4 y5 (((x1.getD ((IntKind.i64.wrap (z3 + y5)).toNat) 0).toNat : Int) == 46))) else (Jref01_Parse_j9 k0 x1 z3 z4 y5 false)))
noncomputable def Jref01_Parse_j79 {R : Type} (k0 : Dcm → Bool → Option R) (x1 : Str) (z3 : Int) (z4 : Int) : Option R :=
  ref01_digits x1 z3 (fun y5 => bif (y5 == 0) then (k0 (⟨0, 0⟩ : Dcm) false) else (bif (decide (y5 > (1 : Int))) then (chk (decide ((0 : Int) ≤ z3) && decide (z3 < x1.length)) (bif (((x1.getD z3.toNat 0).toNat : Int) == 48) then (k0 (⟨0, 0⟩ : Dcm) false) else (Jref01_Parse_j78 k0 x1 z3 z4 y5))) else (Jref01_Parse_j78 k0 x1 z3 z4 y5)))

theorem Jref01_Parse_eq {R : Type} (x1 : Str) (k0 : Dcm → Bool → Option R) : ref01_Parse_X ref01_Make ref01_digits ref01_Parse_32_0_L ref01_Parse_41_0_L ref01_Parse_43_0_L ref01_Parse_50_0_L x1 k0 =
  bif (decide ((x1.length : Int) > (400 : Int))) then (k0 (⟨0, 0⟩ : Dcm) false) else (bif (decide ((0 : Int) < (x1.length : Int))) then (chk (decide ((0 : Int) < x1.length)) (bif (((x1.getD 0 0).toNat : Int) == 45) then (Jref01_Parse_j79 k0 x1 1 (-1)) else (Jref01_Parse_j79 k0 x1 0 1))) else (Jref01_Parse_j79 k0 x1 0 1)) := rfl

theorem refMake_end {R : Type} (u x : Int) (k : Dcm → Bool → Option R) :
    (bif (decide (u > (1000000000000000 : Int))) then (k (⟨0, 0⟩ : Dcm) false) else (bif (decide (u < (-1000000000000000 : Int))) then (k (⟨0, 0⟩ : Dcm) false) else (bif (decide (x > (9 : Int))) then (k (⟨0, 0⟩ : Dcm) false) else (bif (decide (x < (-9 : Int))) then (k (⟨0, 0⟩ : Dcm) false) else (k (⟨u, x⟩ : Dcm) true))))) = k (mkD u x).1 (mkD u x).2 := by
  unfold mkD
  by_cases h1 : u > 1000000000000000
  · rw [dtrue h1, if_neg (by omega)]; rfl
  · rw [dfalse h1, cond_false]
    by_cases h2 : u < -1000000000000000
    · rw [dtrue h2, if_neg (by omega)]; rfl
    · rw [dfalse h2, cond_false]
      by_cases h3 : x > 9
      · rw [dtrue h3, if_neg (by omega)]; rfl
      · rw [dfalse h3, cond_false]
        by_cases h4 : x < -9
        · rw [dtrue h4, if_neg (by omega)]; rfl
        · rw [dfalse h4, cond_false, if_pos (by omega)]

theorem refMake_loop {R : Type} (k : Dcm → Bool → Option R) : ∀ (j n : Nat) (u x : Int) (d : Dcm), j < n → Int.tmod u 10 ≠ 0 → I64 (u * 10 ^ j) → I64 x →
    ref01_Make_3_0_L n (u * 10 ^ j) x d (fun y6 y7 y8 => bif (decide (y6 > (1000000000000000 : Int))) then (k (⟨0, 0⟩ : Dcm) false) else (bif (decide (y6 < (-1000000000000000 : Int))) then (k (⟨0, 0⟩ : Dcm) false) else (bif (decide (y7 > (9 : Int))) then (k (⟨0, 0⟩ : Dcm) false) else (bif (decide (y7 < (-9 : Int))) then (k (⟨0, 0⟩ : Dcm) false) else (k (⟨y6, y7⟩ : Dcm) true))))) (fun y9 y10 y11 y12 => k y12 y11) = k (mkD u (x + j)).1 (mkD u (x + j)).2 := by
  intro j
  induction j with
  | zero =>
    intro n u x d hn hu hb hx
    obtain ⟨m, rfl⟩ : ∃ m, n = m + 1 := ⟨n - 1, by omega⟩
    rw [ref01_Make_3_0_L]
    unfold ref01_Make_3_0_B
    have e1 : u * 10 ^ 0 = u := by simp
    have e2 : (Int.tmod u 10 == 0) = false := by rw [beq_eq_false_iff_ne]; exact hu
    have e3 : x + ((0 : Nat) : Int) = x := by omega
    rw [e1, e2, cond_false, e3]
    exact refMake_end u x k
  | succ j ih =>
    intro n u x d hn hu hb hx
    obtain ⟨m, rfl⟩ : ∃ m, n = m + 1 := ⟨n - 1, by omega⟩
    rw [ref01_Make_3_0_L]
    unfold ref01_Make_3_0_B
    have ep : u * 10 ^ (j + 1) = u * 10 ^ j * 10 := by rw [Int.pow_succ, Int.mul_assoc]
    unfold I64 at hb hx
    rw [ep] at hb ⊢
    have e1 : (Int.tmod (u * 10 ^ j * 10) 10 == 0) = true := by rw [Int.mul_tmod_left]; rfl
    have e2 : Int.tdiv (u * 10 ^ j * 10) 10 = u * 10 ^ j := Int.mul_tdiv_cancel _ (by omega)
    rw [e1, cond_true, e2, wrap_id (n := u * 10 ^ j) (by omega) (by omega)]
    by_cases hx2 : x > 1099511627776
    · rw [dtrue hx2, cond_true]
      unfold mkD
      rw [if_neg (by omega)]
    · rw [dfalse hx2, cond_false, wrap_id (n := x + 1) (by omega) (by omega)]
      refine (ih m u (x + 1) d (by omega) hu (by unfold I64; omega) (by unfold I64; omega)).trans ?_
      have : x + 1 + (j : Int) = x + ((j + 1 : Nat) : Int) := by omega
      rw [this]

theorem refMake_ok {R : Type} (u : Int) (j : Nat) (x : Int) (hu : Int.tmod u 10 ≠ 0) (hb : I64 (u * 10 ^ j)) (hx : I64 x) (k : Dcm → Bool → Option R) : ref01_Make (u * 10 ^ j) x k = k (mkD u (x + j)).1 (mkD u (x + j)).2 := by
  have e : ref01_Make (u * 10 ^ j) x k = ref01_Make_X ref01_Make_3_0_L (u * 10 ^ j) x k := rfl
  rw [e]
  unfold ref01_Make_X
  have hu0 : u ≠ 0 := by rintro rfl; exact hu rfl
  have ha := abs_le_mul u j
  have h64 := noughts_64 hu0 hb
  have h0 : (u * 10 ^ j == 0) = false := by rw [beq_eq_false_iff_ne]; omega
  rw [h0, cond_false]
  exact refMake_loop k j _ u x _ (by omega) hu hb hx
theorem refMake_zero {R : Type} (x : Int) (k : Dcm → Bool → Option R) : ref01_Make 0 x k = k ⟨0, 0⟩ true := by
  have e : ref01_Make 0 x k = ref01_Make_X ref01_Make_3_0_L 0 x k := rfl
  rw [e]
  rfl

theorem take_len (s : Str) : s.take (takeD s).length = takeD s := by
  have e : takeD s ++ dropD s = s := List.takeWhile_append_dropWhile
  have := List.take_left (l₁ := takeD s) (l₂ := dropD s)
  rw [e] at this
  exact this
theorem drop_len (s : Str) : s.drop (takeD s).length = dropD s := by
  have e : takeD s ++ dropD s = s := List.takeWhile_append_dropWhile
  have := List.drop_left (l₁ := takeD s) (l₂ := dropD s)
  rw [e] at this
  exact this
theorem dig_at (t : Str) (j : Nat) (h1 : j ≤ (takeD t).length) (h2 : j < t.length) : isDig (t.getD j 0) ↔ j < (takeD t).length := by
  constructor
  · intro h
    rcases Nat.lt_or_ge j (takeD t).length with h3 | h3
    · exact h3
    · exfalso
      have hj : j = (takeD t).length := by omega
      have hd : dropD t = t.drop j := by rw [hj, drop_len]
      exact drop_dig t _ _ (hd.trans (drop_cons h2)) h
  · intro h
    have e : takeD t ++ dropD t = t := List.takeWhile_append_dropWhile
    have e2 := getD_app_lt (s := takeD t) (t := dropD t) h
    rw [e] at e2
    rw [e2]
    apply take_dig t
    rw [getD_at h]
    exact List.getElem_mem h

theorem refDig_loop {R : Type} (s : Str) (i : Nat) (hs : s.length ≤ 4000000000) (e0 : Int → Option R) : ∀ (n j : Nat), (takeD (s.drop i)).length - j < n → j ≤ (takeD (s.drop i)).length → i ≤ s.length →
    ref01_digits_2_0_L n s (i : Int) (j : Int) e0 = e0 ((takeD (s.drop i)).length : Int) := by
  intro n
  induction n with
  | zero => intro j h; omega
  | succ n ih =>
    intro j h1 h2 h3
    rw [ref01_digits_2_0_L]
    unfold ref01_digits_2_0_B
    have hl := take_le (s.drop i)
    rw [List.length_drop] at hl
    rw [wrap_id (n := (i : Int) + (j : Int)) (by omega) (by omega)]
    by_cases hi : i + j < s.length
    · have hd := dig_at (s.drop i) j h2 (by rw [List.length_drop]; omega)
      rw [getD_at'] at hd
      have e1 : ((i : Int) + (j : Int)).toNat = i + j := by omega
      rw [dtrue (show (i : Int) + (j : Int) < (s.length : Int) by omega), cond_true, e1]
      simp only [dtrue (show (0 : Int) ≤ (i : Int) + (j : Int) by omega), Bool.and_self, chk_pos rfl]
      unfold isDig at hd
      by_cases hj : j < (takeD (s.drop i)).length
      · have := hd.2 hj
        rw [dtrue (show ((s.getD (i + j) 0).toNat : Int) ≥ 48 by omega), cond_true, dtrue (show ((s.getD (i + j) 0).toNat : Int) ≤ 57 by omega), cond_true, wrap_id (n := (j : Int) + 1) (by omega) (by omega)]
        exact ih (j + 1) (by omega) (by omega) h3
      · have hn : ¬ (48 ≤ (s.getD (i + j) 0).toNat ∧ (s.getD (i + j) 0).toNat ≤ 57) := fun h => hj (hd.1 h)
        have ej : j = (takeD (s.drop i)).length := by omega
        by_cases g : (48 : Int) ≤ ((s.getD (i + j) 0).toNat : Int)
        · rw [dtrue (show ((s.getD (i + j) 0).toNat : Int) ≥ 48 from g), cond_true, dfalse (show ¬ ((s.getD (i + j) 0).toNat : Int) ≤ 57 by omega), cond_false, ← ej]
        · rw [dfalse (show ¬ ((s.getD (i + j) 0).toNat : Int) ≥ 48 from g), cond_false, ← ej]
    · rw [dfalse (by omega), cond_false]
      have : j = (takeD (s.drop i)).length := by omega
      rw [← this]

theorem refDigits_ok {R : Type} (s : Str) (i : Nat) (hs : s.length ≤ 4000000000) (hi : i ≤ s.length) (k : Int → Option R) : ref01_digits s (i : Int) k = k ((takeD (s.drop i)).length : Int) := by
  have hl := take_le (s.drop i)
  rw [List.length_drop] at hl
  exact refDig_loop s i hs (fun y => k y) (List.length s + Int.natAbs (i : Int) + Int.natAbs 0 + 64) 0 (by omega) (by omega) hi

def strip0 : Str → Str
  | b :: c :: t => if b.toNat = 48 then strip0 (c :: t) else b :: c :: t
  | s => s
theorem strip0_eq : ∀ s : Str, s ≠ [] → (trimL s [48] = [] ∧ strip0 s = [48]) ∨ (trimL s [48] ≠ [] ∧ strip0 s = trimL s [48])
  | [], h => (h rfl).elim
  | [b], _ => by
    by_cases hb : b = 48
    · subst hb; exact .inl ⟨rfl, rfl⟩
    · have : trimL [b] [48] = [b] := by unfold trimL; simp [List.dropWhile_cons, hb]
      exact .inr ⟨by rw [this]; simp, by rw [this]; rfl⟩
  | b :: c :: t, _ => by
    by_cases hb : b = 48
    · subst hb
      have e1 : strip0 (48 :: c :: t) = strip0 (c :: t) := rfl
      have e2 : trimL (48 :: c :: t) [48] = trimL (c :: t) [48] := rfl
      rw [e1, e2]
      exact strip0_eq (c :: t) (by simp)
    · have hn : b.toNat ≠ 48 := fun h => hb (UInt8.toNat_inj.1 h)
      have : trimL (b :: c :: t) [48] = b :: c :: t := by unfold trimL; simp [List.dropWhile_cons, hb]
      refine .inr ⟨by rw [this]; simp, ?_⟩
      rw [this]
      unfold strip0
      rw [if_neg hn]

theorem ref41 {R : Type} (sg x : Int) (d : Dcm) (e0 : Int → Str → Int → Dcm → Option R) : ∀ (n : Nat) (a : Str), a.length < n → a.length ≤ 2000 →
    ref01_Parse_41_0_L n sg a x d e0 = e0 sg (strip0 a) x d := by
  intro n
  induction n with
  | zero => intro a h; omega
  | succ n ih =>
    intro a h hl
    rw [ref01_Parse_41_0_L]
    unfold ref01_Parse_41_0_B
    match a, h, hl with
    | [], _, _ => rfl
    | [b], _, _ => rfl
    | b :: c :: t, h, hl =>
      simp only [List.length_cons] at h hl
      have hlen : (b :: c :: t : Str).length = t.length + 2 := rfl
      have hg : (b :: c :: t : Str).getD 0 0 = b := rfl
      have q48 : ((b.toNat : Int) == 48) = decide (b.toNat = 48) := eqI _ 48
      rw [hlen, hg, q48, dtrue (show ((t.length + 2 : Nat) : Int) > 1 by omega), cond_true, chk_pos (dtrue (by omega))]
      unfold strip0
      by_cases hb : b.toNat = 48
      · rw [dtrue hb, cond_true, if_pos hb, chk_pos (by rw [dtrue (by omega), dtrue (by omega)]; rfl), chk_pos (dtrue (by omega))]
        have e : ((b :: c :: t : Str).drop 1).take (((t.length + 2 : Nat) : Int).toNat - 1) = c :: t := by
          rw [Int.toNat_natCast]
          show (c :: t).take (t.length + 1) = c :: t
          exact List.take_length (l := c :: t)
        rw [e]
        exact ih (c :: t) (by simp only [List.length_cons]; omega) (by simp only [List.length_cons]; omega)
      · rw [dfalse hb, cond_false, if_neg hb]

theorem getD_last (l : Str) (b : UInt8) : (l ++ [b]).getD l.length 0 = b := getD_app_at (s := l) (t := [])

theorem ref43 {R : Type} (sg : Int) (d : Dcm) (l : Str) (b : UInt8) (hb : b ≠ 48) (hl : l.length ≤ 2000) (e0 : Int → Str → Int → Dcm → Option R) : ∀ (m n : Nat) (x : Int), m < n → m ≤ 2000 → -4000000000 ≤ x → x + m ≤ 4000000000 →
    ref01_Parse_43_0_L n sg (l ++ [b] ++ zeros m) x d e0 = e0 sg (l ++ [b]) (x + m) d := by
  intro m
  induction m with
  | zero =>
    intro n x h1 h2 h3 h4
    obtain ⟨n, rfl⟩ : ∃ q, n = q + 1 := ⟨n - 1, by omega⟩
    rw [ref01_Parse_43_0_L]
    unfold ref01_Parse_43_0_B
    have e0' : l ++ [b] ++ zeros 0 = l ++ [b] := by simp [zeros]
    have ex : x + ((0 : Nat) : Int) = x := by omega
    have hlen : (l ++ [b]).length = l.length + 1 := by simp
    rw [e0', ex, hlen, wrap_id (n := ((l.length + 1 : Nat) : Int) - 1) (by omega) (by omega)]
    have en : (((l.length + 1 : Nat) : Int) - 1).toNat = l.length := by omega
    rw [en, getD_last]
    have hn : b.toNat ≠ 48 := fun h => hb (UInt8.toNat_inj.1 h)
    have q48 : ((b.toNat : Int) == 48) = false := by rw [beq_eq_false_iff_ne]; omega
    rw [q48, chk_pos (by rw [dtrue (by omega), dtrue (by omega)]; rfl)]
    simp only [cond_false, Bool.cond_self]
  | succ m ih =>
    intro n x h1 h2 h3 h4
    obtain ⟨n, rfl⟩ : ∃ q, n = q + 1 := ⟨n - 1, by omega⟩
    rw [ref01_Parse_43_0_L]
    unfold ref01_Parse_43_0_B
    have e1 : l ++ [b] ++ zeros (m + 1) = (l ++ [b] ++ zeros m) ++ [48] := by rw [List.append_assoc (l ++ [b]), zeros_snoc]
    have hlen : (l ++ [b] ++ zeros (m + 1)).length = l.length + 1 + (m + 1) := by rw [List.length_append, List.length_append, zeros_len]; rfl
    have hlen2 : (l ++ [b] ++ zeros m).length = l.length + 1 + m := by rw [List.length_append, List.length_append, zeros_len]; rfl
    rw [hlen, wrap_id (n := ((l.length + 1 + (m + 1) : Nat) : Int) - 1) (by omega) (by omega)]
    have en : (((l.length + 1 + (m + 1) : Nat) : Int) - 1).toNat = (l ++ [b] ++ zeros m).length := by omega
    rw [en, e1, getD_last]
    have q48 : (((48 : UInt8).toNat : Int) == 48) = true := rfl
    rw [q48, dtrue (show ((l.length + 1 + (m + 1) : Nat) : Int) > 1 by omega), cond_true, chk_pos (by rw [dtrue (by omega), dtrue (by omega)]; rfl), cond_true, chk_pos (by rw [dtrue (by omega), dtrue (by omega)]; rfl), chk_pos (dtrue (by omega)), wrap_id (n := x + 1) (by omega) (by omega), List.drop_zero, Nat.sub_zero, List.take_left]
    refine (ih n (x + 1) (by omega) (by omega) (by omega) (by omega)).trans ?_
    have : x + 1 + (m : Int) = x + ((m + 1 : Nat) : Int) := by omega
    rw [this]

theorem valD_take (a : Str) (j : Nat) (hj : j < a.length) : valD (a.take (j + 1)) 0 = 10 * valD (a.take j) 0 + ((a.getD j 0).toNat - 48) := by
  rw [List.take_succ_eq_append_getElem hj, valD_app, getD_at hj]
  rfl

theorem ref50 {R : Type} (sg x : Int) (a : Str) (d : Dcm) (ha : ∀ c ∈ a, isDig c) (hl : a.length ≤ 17) (e0 : Int → Int → Int → Dcm → Option R) : ∀ (n j : Nat), a.length - j < n → j ≤ a.length →
    ref01_Parse_50_0_L n sg a x (valD (a.take j) 0 : Int) (j : Int) d e0 = e0 sg x (valD a 0 : Int) d := by
  intro n
  induction n with
  | zero => intro j h; omega
  | succ n ih =>
    intro j h1 h2
    rw [ref01_Parse_50_0_L]
    unfold ref01_Parse_50_0_B
    by_cases hj : j < a.length
    · have hd := ha (a.getD j 0) (by rw [getD_at hj]; exact List.getElem_mem hj)
      unfold isDig at hd
      have hv := valD_lt (a.take j) 0 fun c hc => ha c (List.mem_of_mem_take hc)
      have hp : (10 : Nat) ^ (a.take j).length ≤ 10 ^ 16 := Nat.pow_le_pow_right (by omega) (by rw [List.length_take]; omega)
      have e16 : (10 : Nat) ^ 16 = 10000000000000000 := rfl
      have w8 := wrap8m (a := (a.getD j 0).toNat) (b := 48) hd.1 (by have := UInt8.toNat_lt (a.getD j 0); omega)
      have c48 : ((48 : Nat) : Int) = 48 := rfl
      rw [c48] at w8
      rw [dtrue (show (j : Int) < (a.length : Int) by omega), cond_true, chk_pos (by rw [dtrue (show (0 : Int) ≤ (j : Int) by omega)]; rfl), Int.toNat_natCast, w8, wrap_id (n := 10 * (valD (a.take j) 0 : Int)) (by omega) (by omega), wrap_id (n := (((a.getD j 0).toNat - 48 : Nat) : Int)) (by omega) (by omega), wrap_id (n := (j : Int) + 1) (by omega) (by omega)]
      have e := valD_take a j hj
      rw [wrap_id (n := 10 * (valD (a.take j) 0 : Int) + (((a.getD j 0).toNat - 48 : Nat) : Int)) (by omega) (by omega)]
      have e2 : 10 * (valD (a.take j) 0 : Int) + (((a.getD j 0).toNat - 48 : Nat) : Int) = (valD (a.take (j + 1)) 0 : Int) := by omega
      rw [e2]
      exact ih (j + 1) (by omega) (by omega)
    · rw [dfalse (show ¬ (j : Int) < (a.length : Int) by omega), cond_false, List.take_of_length_le (by omega)]

theorem refEnd_ok {R : Type} (k : Dcm → Bool → Option R) (s : Str) (i : Nat) (sg : Int) (hsg : sg = 1 ∨ sg = -1) (all : Str) (x : Int) (d : Dcm) (ha : ∀ c ∈ all, isDig c) (h0 : all ≠ []) (hl : all.length ≤ 900) (hx : -2000000 ≤ x ∧ x ≤ 2000000) :
    Jref01_Parse_j76 k s (i : Int) sg all x d = if i = s.length then k (finD (decide (sg = -1)) all x).1 (finD (decide (sg = -1)) all x).2 else k ⟨0, 0⟩ false := by
  unfold Jref01_Parse_j76
  by_cases hi : i = s.length
  · have e1 : ((i : Int) != (s.length : Int)) = false := by rw [hi]; simp
    rw [e1, cond_false, if_pos hi, ref41 _ _ _ _ _ _ (by omega) (by omega)]
    unfold finD
    have htl : (trimL all [48]).length ≤ all.length := drop_le _ _
    rcases strip0_eq all h0 with ⟨t1, t2⟩ | ⟨t1, t2⟩
    · rw [t2, t1]
      have r1 : ref01_Parse_43_0_L (R := R) (Int.natAbs sg + List.length ([48] : Str) + Int.natAbs x + Dcm.fu d + 64) sg [48] x d = fun e0 => e0 sg [48] x d := by
        funext e0
        rw [show Int.natAbs sg + List.length ([48] : Str) + Int.natAbs x + Dcm.fu d + 64 = (Int.natAbs sg + List.length ([48] : Str) + Int.natAbs x + Dcm.fu d + 63) + 1 by omega, ref01_Parse_43_0_L]
        rfl
      rw [r1]
      have r2 : ∀ (n : Nat) (h : 2 ≤ n) (e0 : Int → Int → Int → Dcm → Option R), ref01_Parse_50_0_L n sg [48] x 0 0 d e0 = e0 sg x 0 d := fun n h e0 => ref50 sg x [48] d (by intro c hc; simp at hc; subst hc; unfold isDig; decide) (by simp) e0 n 0 (by simp; omega) (by simp)
      have hlen : decide (((([48] : Str)).length : Int) > 17) = false := rfl
      simp only [hlen, cond_false]
      rw [r2 _ (by omega)]
      have w0 : IntKind.i64.wrap (sg * 0) = 0 := by rw [Int.mul_zero]; decide
      rw [w0, refMake_zero]
      rfl
    · rw [t2]
      obtain ⟨m, hm⟩ := trimR_pre (trimL all [48])
      have hne : trimR (trimL all [48]) [48] ≠ [] := by
        intro e
        rw [e, List.nil_append] at hm
        cases m with
        | zero => exact t1 hm
        | succ m => exact trimL_head all 48 (zeros m) (by rw [hm]; rfl) rfl
      obtain ⟨f1, f2, f3⟩ := short_facts all ha hne
      rw [if_neg hne]
      rcases trimR_cases (trimL all [48]) with e | ⟨l, b, e, hb⟩
      · exact (hne e).elim
      generalize trimR (trimL all [48]) [48] = sh at *
      have hlen : (trimL all [48]).length = sh.length + m := by have := congrArg List.length hm; rw [List.length_append, zeros_len] at this; exact this
      have hsl : sh.length = l.length + 1 := by rw [e]; simp
      rw [hm, e, ref43 _ _ l b hb (by omega) _ _ _ _ (by rw [← e, ← hm]; omega) (by omega) (by omega) (by omega), ← e]
      have hxx : x + (((sh ++ zeros m).length : Int) - (sh.length : Int)) = x + m := by rw [List.length_append, zeros_len]; omega
      rw [hxx]
      have hsn : (decide (sg = -1) = true → sg = -1) ∧ (decide (sg = -1) = false → sg = 1) := by
        rcases hsg with h | h <;> subst h <;> decide
      by_cases h17 : sh.length ≤ 17
      · rw [dfalse (show ¬ (sh.length : Int) > 17 by omega), cond_false]
        have key := ref50 (R := R) sg (x + m) sh d f1 h17 (fun y70 y71 y72 y73 => ref01_Make (IntKind.i64.wrap (y70 * y72)) y71 (fun y74 y75 => k y74 y75)) (Int.natAbs sg + List.length sh + Int.natAbs (x + m) + Int.natAbs 0 + Int.natAbs 0 + Dcm.fu d + 64) 0 (by omega) (by omega)
        have v0 : valD (sh.take 0) 0 = 0 := rfl
        rw [v0] at key
        refine key.trans ?_
        have hv := valD_lt sh 0 f1
        have hp : (10 : Nat) ^ sh.length ≤ 10 ^ 17 := Nat.pow_le_pow_right (by omega) h17
        have e17 : (10 : Nat) ^ 17 = 100000000000000000 := rfl
        have hm10 : Int.tmod (valD sh 0 : Int) 10 ≠ 0 := by rw [Int.tmod_eq_emod_of_nonneg (by omega)]; omega
        have unit : ∀ u : Int, Int.tmod u 10 ≠ 0 → I64 u → ref01_Make u (x + m) (fun y74 y75 => k y74 y75) = k (mkD u (x + m)).1 (mkD u (x + m)).2 := fun u h1 h2 => by
          have := refMake_ok (R := R) u 0 (x + m) h1 (by simpa using h2) (by unfold I64; omega) k
          simpa using this
        cases hd : decide (sg = -1) with
        | true =>
          have := hsn.1 hd
          subst this
          have en : (-1 : Int) * (valD sh 0 : Int) = -(valD sh 0 : Int) := by omega
          rw [en, wrap_id (by omega) (by omega), if_pos rfl]
          exact unit _ (tmod_neg hm10) (by unfold I64; omega)
        | false =>
          have := hsn.2 hd
          subst this
          rw [Int.one_mul, wrap_id (by omega) (by omega), if_neg (by simp)]
          exact unit _ hm10 (by unfold I64; omega)
      · rw [dtrue (show (sh.length : Int) > 17 by omega), cond_true]
        have hp : (10 : Nat) ^ 17 ≤ 10 ^ (sh.length - 1) := Nat.pow_le_pow_right (by omega) (by omega)
        have e17 : (10 : Nat) ^ 17 = 100000000000000000 := rfl
        rw [mkD_far _ (by split <;> omega)]
  · have e1 : ((i : Int) != (s.length : Int)) = true := by rw [bne_iff_ne]; omega
    rw [e1, cond_true, if_neg hi]

theorem getD_take (s : Str) (i j : Nat) (hj : j < (takeD (s.drop i)).length) : s.getD (i + j) 0 = (takeD (s.drop i)).getD j 0 := by
  have e : takeD (s.drop i) ++ dropD (s.drop i) = s.drop i := List.takeWhile_append_dropWhile
  have e2 := getD_app_lt (s := takeD (s.drop i)) (t := dropD (s.drop i)) hj
  rw [e, getD_at'] at e2
  exact e2

theorem ref32 {R : Type} (s : Str) (i : Nat) (hs : s.length ≤ 4000000000) (hi : i ≤ s.length) (sg : Int) (all : Str) (x : Int) (mi : Bool) (d : Dcm) (e0 : Str → Int → Int → Int → Str → Int → Bool → Int → Dcm → Option R) : ∀ (n j : Nat), (takeD (s.drop i)).length - j < n → j ≤ (takeD (s.drop i)).length →
    ref01_Parse_32_0_L n s (i : Int) sg ((takeD (s.drop i)).length : Int) all x mi ((min (valD ((takeD (s.drop i)).take j) 0) 100000 : Nat) : Int) ((i + j : Nat) : Int) d e0 =
      e0 s (i : Int) sg ((takeD (s.drop i)).length : Int) all x mi ((min (valD (takeD (s.drop i)) 0) 100000 : Nat) : Int) d := by
  intro n
  induction n with
  | zero => intro j h; omega
  | succ n ih =>
    intro j h1 h2
    rw [ref01_Parse_32_0_L]
    unfold ref01_Parse_32_0_B
    have hl := take_le (s.drop i)
    rw [List.length_drop] at hl
    rw [wrap_id (n := (i : Int) + ((takeD (s.drop i)).length : Int)) (by omega) (by omega)]
    by_cases hj : j < (takeD (s.drop i)).length
    · have hd := take_dig (s.drop i) ((takeD (s.drop i)).getD j 0) (by rw [getD_at hj]; exact List.getElem_mem hj)
      have hv := valD_take (takeD (s.drop i)) j hj
      have hg := getD_take s i j hj
      unfold isDig at hd
      rw [dtrue (show ((i + j : Nat) : Int) < (i : Int) + ((takeD (s.drop i)).length : Int) by omega), cond_true, chk_pos (by rw [dtrue (by omega), dtrue (by omega)]; rfl), Int.toNat_natCast, hg]
      generalize (takeD (s.drop i)).getD j 0 = b at *
      have w8 := wrap8m (a := b.toNat) (b := 48) hd.1 (by have := UInt8.toNat_lt b; omega)
      have c48 : ((48 : Nat) : Int) = 48 := rfl
      rw [c48] at w8
      generalize valD ((takeD (s.drop i)).take j) 0 = v at *
      rw [w8, wrap_id (n := 10 * ((min v 100000 : Nat) : Int)) (by omega) (by omega), wrap_id (n := ((b.toNat - 48 : Nat) : Int)) (by omega) (by omega), wrap_id (n := ((i + j : Nat) : Int) + 1) (by omega) (by omega), wrap_id (n := 10 * ((min v 100000 : Nat) : Int) + ((b.toNat - 48 : Nat) : Int)) (by omega) (by omega)]
      have e1 : min (10 * ((min v 100000 : Nat) : Int) + ((b.toNat - 48 : Nat) : Int)) 100000 = ((min (valD ((takeD (s.drop i)).take (j + 1)) 0) 100000 : Nat) : Int) := by rw [hv]; omega
      have e2 : ((i + j : Nat) : Int) + 1 = ((i + (j + 1) : Nat) : Int) := by omega
      rw [e1, e2]
      exact ih (j + 1) (by omega) (by omega)
    · rw [dfalse (show ¬ ((i + j : Nat) : Int) < (i : Int) + ((takeD (s.drop i)).length : Int) by omega), cond_false, List.take_of_length_le (by omega)]

theorem mkD_out {u x : Int} (h : x < -9 ∨ 9 < x) : mkD u x = (⟨0, 0⟩, false) := by
  unfold mkD
  rw [if_neg (by omega)]
theorem finD_clip (neg : Bool) (all : Str) (hl : all.length ≤ 900) (x : Int) (hx : -1000 ≤ x ∧ x ≤ 1000) (v : Nat) (mi : Bool) :
    finD neg all (x + (if mi then -((min v 100000 : Nat) : Int) else ((min v 100000 : Nat) : Int))) = finD neg all (x + (if mi then -(min (v : Int) 1000000) else min (v : Int) 1000000)) := by
  by_cases hv : v ≤ 100000
  · have e : ((min v 100000 : Nat) : Int) = min (v : Int) 1000000 := by omega
    rw [e]
  · unfold finD
    have h1 : (trimL all [48]).length ≤ all.length := drop_le _ _
    obtain ⟨m, hm⟩ := trimR_pre (trimL all [48])
    have hlen : (trimL all [48]).length = (trimR (trimL all [48]) [48]).length + m := by have := congrArg List.length hm; rw [List.length_append, zeros_len] at this; exact this
    split
    · rfl
    · cases mi with
      | true => rw [if_pos rfl, if_pos rfl, mkD_out (by omega), mkD_out (by omega)]
      | false => rw [if_neg (show ¬ (false = true) by simp), if_neg (show ¬ (false = true) by simp), mkD_out (by omega), mkD_out (by omega)]

theorem drop_nil {s : Str} {i : Nat} (hi : i ≤ s.length) : dropD (s.drop i) = [] ↔ i + (takeD (s.drop i)).length = s.length := by
  have e : takeD (s.drop i) ++ dropD (s.drop i) = s.drop i := List.takeWhile_append_dropWhile
  have hl := congrArg List.length e
  rw [List.length_append, List.length_drop] at hl
  constructor
  · intro h; rw [h] at hl; simp at hl; omega
  · intro h; exact List.eq_nil_of_length_eq_zero (by omega)

def outD {R : Type} (k : Dcm → Bool → Option R) (r : Dcm × Bool) : Option R := k r.1 r.2

section
variable {R : Type} (k : Dcm → Bool → Option R) (s : Str) (hs : s.length ≤ 4000000000) (sg : Int) (hsg : sg = 1 ∨ sg = -1) (all : Str) (x : Int) (ha : ∀ c ∈ all, isDig c) (h0 : all ≠ []) (hl : all.length ≤ 900) (hx : -1000 ≤ x ∧ x ≤ 0)
include hs hsg ha h0 hl hx

theorem ref38 (i : Nat) (hi : i ≤ s.length) (mi : Bool) : Jref01_Parse_j38 k s sg all x (i : Int) mi =
    if takeD (s.drop i) = [] then k ⟨0, 0⟩ false else if dropD (s.drop i) = [] then outD k (finD (decide (sg = -1)) all (x + (if mi then -(min (valD (takeD (s.drop i)) 0 : Int) 1000000) else min (valD (takeD (s.drop i)) 0 : Int) 1000000))) else k ⟨0, 0⟩ false := by
  unfold Jref01_Parse_j38
  have hdl := take_le (s.drop i)
  rw [List.length_drop] at hdl
  rw [refDigits_ok s i hs hi]
  by_cases hD : takeD (s.drop i) = []
  · rw [if_pos hD, hD]
    rfl
  · have hne : (((takeD (s.drop i)).length : Int) == 0) = false := by
      rw [beq_eq_false_iff_ne]
      intro h
      exact hD (List.eq_nil_of_length_eq_zero (by omega))
    rw [hne, cond_false, if_neg hD]
    have key := ref32 (R := R) s i hs hi sg all x mi (⟨0, 0⟩ : Dcm) (fun y28 y29 y30 y31 y32 y33 y34 y35 y36 => bif y34 then (Jref01_Parse_j76 k y28 (IntKind.i64.wrap (y29 + y31)) y30 y32 (IntKind.i64.wrap (y33 + (IntKind.i64.wrap (0 - y35)))) y36) else (Jref01_Parse_j76 k y28 (IntKind.i64.wrap (y29 + y31)) y30 y32 (IntKind.i64.wrap (y33 + y35)) y36)) (List.length s + Int.natAbs (i : Int) + Int.natAbs sg + Int.natAbs ((takeD (s.drop i)).length : Int) + List.length all + Int.natAbs x + Int.natAbs 0 + Int.natAbs (i : Int) + Dcm.fu (⟨0, 0⟩ : Dcm) + 64) 0 (by omega) (by omega)
    have v0 : ((min (valD ((takeD (s.drop i)).take 0) 0) 100000 : Nat) : Int) = 0 := rfl
    rw [v0, Nat.add_zero] at key
    refine key.trans ?_
    have w1 : IntKind.i64.wrap ((i : Int) + ((takeD (s.drop i)).length : Int)) = ((i + (takeD (s.drop i)).length : Nat) : Int) := by rw [wrap_id (by omega) (by omega)]; omega
    have hclip := finD_clip (decide (sg = -1)) all hl x (by omega) (valD (takeD (s.drop i)) 0) mi
    have hdn := drop_nil hi
    cases mi with
    | true =>
      simp only [cond_true]
      rw [w1, wrap_id (n := 0 - ((min (valD (takeD (s.drop i)) 0) 100000 : Nat) : Int)) (by omega) (by omega), wrap_id (n := x + (0 - ((min (valD (takeD (s.drop i)) 0) 100000 : Nat) : Int))) (by omega) (by omega), refEnd_ok k s _ sg hsg all _ _ ha h0 hl (by omega)]
      have e1 : x + (0 - ((min (valD (takeD (s.drop i)) 0) 100000 : Nat) : Int)) = x + (if true = true then -((min (valD (takeD (s.drop i)) 0) 100000 : Nat) : Int) else ((min (valD (takeD (s.drop i)) 0) 100000 : Nat) : Int)) := by rw [if_pos rfl]; omega
      rw [e1, hclip]
      by_cases hn : dropD (s.drop i) = []
      · rw [if_pos hn, if_pos (hdn.1 hn)]; rfl
      · rw [if_neg hn, if_neg (fun h => hn (hdn.2 h))]
    | false =>
      simp only [cond_false]
      rw [w1, wrap_id (n := x + ((min (valD (takeD (s.drop i)) 0) 100000 : Nat) : Int)) (by omega) (by omega), refEnd_ok k s _ sg hsg all _ _ ha h0 hl (by omega)]
      have e1 : x + ((min (valD (takeD (s.drop i)) 0) 100000 : Nat) : Int) = x + (if false = true then -((min (valD (takeD (s.drop i)) 0) 100000 : Nat) : Int) else ((min (valD (takeD (s.drop i)) 0) 100000 : Nat) : Int)) := by rw [if_neg (by simp)]
      rw [e1, hclip]
      by_cases hn : dropD (s.drop i) = []
      · rw [if_pos hn, if_pos (hdn.1 hn)]; rfl
      · rw [if_neg hn, if_neg (fun h => hn (hdn.2 h))]

theorem ref39 (i : Nat) (hi : i < s.length) : Jref01_Parse_j39 k s sg (i : Int) all x true =
    if (expP (s.drop (i + 1))).2.1 = false then k ⟨0, 0⟩ false else if (expP (s.drop (i + 1))).2.2 = [] then outD k (finD (decide (sg = -1)) all (x + (expP (s.drop (i + 1))).1)) else k ⟨0, 0⟩ false := by
  unfold Jref01_Parse_j39
  have w1 : IntKind.i64.wrap ((i : Int) + 1) = ((i + 1 : Nat) : Int) := by rw [wrap_id (by omega) (by omega)]; omega
  have w2 : IntKind.i64.wrap (((i + 1 : Nat) : Int) + 1) = ((i + 1 + 1 : Nat) : Int) := by rw [wrap_id (by omega) (by omega)]; omega
  rw [cond_true, w1, w2]
  -- one sign or none
  have fin : ∀ (j : Nat) (mi : Bool) (q1 : Nat), j ≤ s.length → signP [43, 45] (s.drop (i + 1)) = (q1, s.drop j) → (mi = true ↔ q1 = 45) → Jref01_Parse_j38 k s sg all x (j : Int) mi =
      if (expP (s.drop (i + 1))).2.1 = false then k ⟨0, 0⟩ false else if (expP (s.drop (i + 1))).2.2 = [] then outD k (finD (decide (sg = -1)) all (x + (expP (s.drop (i + 1))).1)) else k ⟨0, 0⟩ false := by
    intro j mi q1 hj hq hmi
    rw [ref38 k s hs sg hsg all x ha h0 hl hx j hj mi]
    unfold expP
    rw [hq]
    simp only
    by_cases hD : takeD (s.drop j) = []
    · rw [if_pos hD, hD, if_pos (by rfl)]
    · have hne : (takeD (s.drop j) == ([] : Str)) = false := by rw [beq_eq_false_iff_ne]; exact hD
      rw [if_neg hD, hne, if_neg (show ¬ ((!false) = false) by decide)]
      have : (if mi = true then -(min (valD (takeD (s.drop j)) 0 : Int) 1000000) else min (valD (takeD (s.drop j)) 0 : Int) 1000000) = (if q1 = 45 then -(min (valD (takeD (s.drop j)) 0 : Int) 1000000) else min (valD (takeD (s.drop j)) 0 : Int) 1000000) := by
        by_cases h : mi = true
        · rw [if_pos h, if_pos (hmi.1 h)]
        · rw [if_neg h, if_neg (fun g => h (hmi.2 g))]
      rw [this]
  by_cases h1 : i + 1 < s.length
  · have hd := drop_cons h1
    rw [dtrue (show ((i + 1 : Nat) : Int) < (s.length : Int) by omega), cond_true, Int.toNat_natCast]
    simp only [dtrue (show (0 : Int) ≤ ((i + 1 : Nat) : Int) by omega), Bool.and_true, chk_pos rfl]
    generalize s.getD (i + 1) 0 = b at *
    have q43 : ((b.toNat : Int) == 43) = decide (b.toNat = 43) := eqI _ 43
    have q45 : ((b.toNat : Int) == 45) = decide (b.toNat = 45) := eqI _ 45
    rw [q43, q45]
    have hg : signP [43, 45] (s.drop (i + 1)) = if ([43, 45] : Str).contains b then (b.toNat, s.drop (i + 1 + 1)) else (0, s.drop (i + 1)) := by rw [hd]; rfl
    by_cases g43 : b.toNat = 43
    · have hb : b = 43 := UInt8.toNat_inj.1 g43
      rw [dtrue g43, cond_true]
      rw [hb, if_pos (by rfl)] at hg
      exact fin _ _ _ (by omega) hg (by rw [hb]; simp)
    · rw [dfalse g43, cond_false]
      by_cases g45 : b.toNat = 45
      · have hb : b = 45 := UInt8.toNat_inj.1 g45
        rw [dtrue g45, cond_true]
        rw [hb, if_pos (by rfl)] at hg
        exact fin _ _ _ (by omega) hg (by simp)
      · rw [dfalse g45, cond_false]
        have hc : ([43, 45] : Str).contains b = false := by
          have h1 : b ≠ 43 := fun h => g43 (by rw [h]; rfl)
          have h2 : b ≠ 45 := fun h => g45 (by rw [h]; rfl)
          simp [h1, h2]
        rw [hc, if_neg (by simp)] at hg
        exact fin _ _ _ (by omega) hg (by simp)
  · rw [dfalse (show ¬ ((i + 1 : Nat) : Int) < (s.length : Int) by omega), cond_false]
    refine fin _ _ 0 (by omega) ?_ (by simp)
    rw [List.drop_of_length_le (by omega)]
    rfl

theorem ref77 (i : Nat) (hi : i ≤ s.length) : Jref01_Parse_j77 k s sg (i : Int) all x = outD k (tailD (decide (sg = -1)) all x (s.drop i)) := by
  unfold Jref01_Parse_j77
  have no : Jref01_Parse_j39 k s sg (i : Int) all x false = if i = s.length then outD k (finD (decide (sg = -1)) all x) else k ⟨0, 0⟩ false := by
    have e : Jref01_Parse_j39 k s sg (i : Int) all x false = Jref01_Parse_j76 k s (i : Int) sg all x (⟨0, 0⟩ : Dcm) := rfl
    rw [e, refEnd_ok k s i sg hsg all x _ ha h0 hl (by omega)]
    rfl
  unfold tailD
  by_cases h1 : i < s.length
  · have hd := drop_cons h1
    rw [dtrue (show (i : Int) < (s.length : Int) by omega), cond_true, Int.toNat_natCast]
    simp only [dtrue (show (0 : Int) ≤ (i : Int) by omega), Bool.and_true, chk_pos rfl]
    have hg : signP [101, 69] (s.drop i) = if ([101, 69] : Str).contains (s.getD i 0) then ((s.getD i 0).toNat, s.drop (i + 1)) else (0, s.drop i) := by rw [hd]; rfl
    generalize s.getD i 0 = b at *
    have q1 : ((b.toNat : Int) == 101) = decide (b.toNat = 101) := eqI _ 101
    have q2 : ((b.toNat : Int) == 69) = decide (b.toNat = 69) := eqI _ 69
    rw [q1, q2]
    have yes : ([101, 69] : Str).contains b = true → b.toNat ≠ 0 → Jref01_Parse_j39 k s sg (i : Int) all x true = outD k (if (signP [101, 69] (s.drop i)).1 = 0 then (if (signP [101, 69] (s.drop i)).2 = [] then finD (decide (sg = -1)) all x else noD)
        else if (expP (signP [101, 69] (s.drop i)).2).2.1 = false then noD else if (expP (signP [101, 69] (s.drop i)).2).2.2 = [] then finD (decide (sg = -1)) all (x + (expP (signP [101, 69] (s.drop i)).2).1) else noD) := by
      intro hc hb
      rw [ref39 k s hs sg hsg all x ha h0 hl hx i h1, hg, hc, if_pos rfl]
      simp only
      rw [if_neg hb]
      split
      · rfl
      · split <;> rfl
    by_cases g1 : b.toNat = 101
    · have hb : b = 101 := UInt8.toNat_inj.1 g1
      rw [dtrue g1, cond_true]
      exact yes (by rw [hb]; rfl) (by omega)
    · rw [dfalse g1, cond_false]
      by_cases g2 : b.toNat = 69
      · have hb : b = 69 := UInt8.toNat_inj.1 g2
        rw [dtrue g2]
        exact yes (by rw [hb]; rfl) (by omega)
      · rw [dfalse g2, no, if_neg (by omega)]
        have hc : ([101, 69] : Str).contains b = false := by
          have h1 : b ≠ 101 := fun h => g1 (by rw [h]; rfl)
          have h2 : b ≠ 69 := fun h => g2 (by rw [h]; rfl)
          simp [h1, h2]
        rw [hg, hc, if_neg (show ¬ (false = true) by simp), if_pos (show ((0 : Nat), s.drop i).1 = 0 from rfl), if_neg (show ¬ ((0 : Nat), s.drop i).2 = [] by rw [hd]; simp)]
        rfl
  · have hi2 : i = s.length := by omega
    rw [dfalse (show ¬ (i : Int) < (s.length : Int) by omega), cond_false, no, if_pos hi2, List.drop_of_length_le (by omega)]
    rfl
end

theorem ref79 {R : Type} (k : Dcm → Bool → Option R) (s : Str) (hs : s.length ≤ 400) (sg : Int) (hsg : sg = 1 ∨ sg = -1) (i : Nat) (hi : i ≤ s.length) : Jref01_Parse_j79 k s (i : Int) sg =
    outD k (if takeD (s.drop i) = [] then noD else if 1 < (takeD (s.drop i)).length ∧ ((takeD (s.drop i)).getD 0 0).toNat = 48 then noD
      else if (signP [46] (dropD (s.drop i))).1 = 0 then tailD (decide (sg = -1)) (takeD (s.drop i)) 0 (signP [46] (dropD (s.drop i))).2
      else if takeD (signP [46] (dropD (s.drop i))).2 = [] then noD
      else tailD (decide (sg = -1)) (takeD (s.drop i) ++ takeD (signP [46] (dropD (s.drop i))).2) (-((takeD (signP [46] (dropD (s.drop i))).2).length : Int)) (dropD (signP [46] (dropD (s.drop i))).2)) := by
  unfold Jref01_Parse_j79
  have hdl := take_le (s.drop i)
  rw [List.length_drop] at hdl
  rw [refDigits_ok s i (by omega) hi]
  have hI := take_dig (s.drop i)
  have htk := take_len (s.drop i)
  have hdr := drop_len (s.drop i)
  have hg0 : takeD (s.drop i) ≠ [] → s.getD i 0 = (takeD (s.drop i)).getD 0 0 := fun h => by
    have := getD_take s i 0 (by cases hT : takeD (s.drop i) with | nil => exact (h hT).elim | cons _ _ => simp)
    simpa using this
  rw [List.drop_drop] at hdr
  generalize hIe : takeD (s.drop i) = I at *
  by_cases h0 : I = []
  · rw [if_pos h0, h0]
    rfl
  have hpos : 1 ≤ I.length := by cases I with | nil => exact (h0 rfl).elim | cons _ _ => simp
  have hne : ((I.length : Int) == 0) = false := by rw [beq_eq_false_iff_ne]; omega
  rw [hne, cond_false, if_neg h0, Int.toNat_natCast, hg0 h0]
  have q48 : (((I.getD 0 0).toNat : Int) == 48) = decide ((I.getD 0 0).toNat = 48) := eqI _ 48
  rw [q48, chk_pos (by rw [dtrue (by omega), dtrue (by omega)]; rfl)]
  by_cases h48 : 1 < I.length ∧ (I.getD 0 0).toNat = 48
  · rw [if_pos h48, dtrue (show (I.length : Int) > 1 by omega), dtrue h48.2]
    rfl
  rw [if_neg h48]
  have cut : ∀ y : Option R, (bif decide ((I.length : Int) > 1) then (bif decide ((I.getD 0 0).toNat = 48) then k ⟨0, 0⟩ false else y) else y) = y := fun y => by
    by_cases h1 : 1 < I.length
    · rw [dtrue (show (I.length : Int) > 1 by omega), dfalse (fun h => h48 ⟨h1, h⟩)]; rfl
    · rw [dfalse (show ¬ (I.length : Int) > 1 by omega)]; rfl
  rw [cut]
  unfold Jref01_Parse_j78
  have w1 : IntKind.i64.wrap ((i : Int) + (I.length : Int)) = ((i + I.length : Nat) : Int) := by rw [wrap_id (by omega) (by omega)]; omega
  rw [w1, chk_pos (by rw [dtrue (by omega), dtrue (by omega)]; rfl), chk_pos (by rw [dtrue (by omega), dtrue (by omega)]; rfl)]
  have hsub : ((s.drop i).take (((i + I.length : Nat) : Int).toNat - i)) = I := by
    rw [Int.toNat_natCast, Nat.add_sub_cancel_left]; exact htk
  have nodot : (signP [46] (dropD (s.drop i))).1 = 0 → (signP [46] (dropD (s.drop i))).2 = s.drop (i + I.length) → Jref01_Parse_j9 k s (i : Int) sg (I.length : Int) false = outD k (tailD (decide (sg = -1)) I 0 (signP [46] (dropD (s.drop i))).2) := by
    intro g1 g2
    have e : Jref01_Parse_j9 k s (i : Int) sg (I.length : Int) false = Jref01_Parse_j77 k s sg (IntKind.i64.wrap ((i : Int) + (I.length : Int))) ((s.drop i).take ((IntKind.i64.wrap ((i : Int) + (I.length : Int))).toNat - i)) 0 := rfl
    rw [e, w1, hsub, g2]
    exact ref77 k s (by omega) sg hsg I 0 hI h0 (by omega) (by omega) _ (by omega)
  by_cases h1 : i + I.length < s.length
  · have hd := drop_cons h1
    rw [dtrue (show ((i + I.length : Nat) : Int) < (s.length : Int) by omega), cond_true, chk_pos (by rw [dtrue (show (0 : Int) ≤ ((i + I.length : Nat) : Int) by omega)]; rfl), Int.toNat_natCast]
    have q46 : (((s.getD (i + I.length) 0).toNat : Int) == 46) = decide ((s.getD (i + I.length) 0).toNat = 46) := eqI _ 46
    rw [q46]
    by_cases g : (s.getD (i + I.length) 0).toNat = 46
    · have hb : s.getD (i + I.length) 0 = 46 := UInt8.toNat_inj.1 g
      have hsp : signP [46] (dropD (s.drop i)) = (46, s.drop (i + I.length + 1)) := by rw [← hdr, hd, hb]; rfl
      rw [dtrue g, hsp]
      simp only
      rw [if_neg (by omega)]
      have w2 : IntKind.i64.wrap (((i + I.length : Nat) : Int) + 1) = ((i + I.length + 1 : Nat) : Int) := by rw [wrap_id (by omega) (by omega)]; omega
      unfold Jref01_Parse_j9
      rw [cond_true, w1, w2, refDigits_ok s _ (by omega) (by omega)]
      have hfl := take_le (s.drop (i + I.length + 1))
      rw [List.length_drop] at hfl
      have hF := take_dig (s.drop (i + I.length + 1))
      have htk2 := take_len (s.drop (i + I.length + 1))
      have hdr2 := drop_len (s.drop (i + I.length + 1))
      rw [List.drop_drop] at hdr2
      generalize takeD (s.drop (i + I.length + 1)) = F at *
      by_cases hF0 : F = []
      · rw [if_pos hF0, hF0]
        rfl
      have hne2 : ((F.length : Int) == 0) = false := by
        rw [beq_eq_false_iff_ne]
        intro h
        exact hF0 (List.eq_nil_of_length_eq_zero (by omega))
      have w3 : IntKind.i64.wrap (((i + I.length + 1 : Nat) : Int) + (F.length : Int)) = ((i + I.length + 1 + F.length : Nat) : Int) := by rw [wrap_id (by omega) (by omega)]; omega
      have hsub2 : ((s.drop (i + I.length + 1)).take (((i + I.length + 1 + F.length : Nat) : Int).toNat - (i + I.length + 1))) = F := by
        rw [Int.toNat_natCast, Nat.add_sub_cancel_left]; exact htk2
      rw [hne2, cond_false, if_neg hF0, w3, chk_pos (by rw [dtrue (by omega), dtrue (by omega)]; rfl), chk_pos (by rw [dtrue (by omega), dtrue (by omega)]; rfl)]
      rw [Int.toNat_natCast i, hsub, Int.toNat_natCast (i + I.length + 1), hsub2, chk_pos (dtrue (by omega)), wrap_id (n := 0 - (F.length : Int)) (by omega) (by omega)]
      have e0 : (0 : Int) - (F.length : Int) = -(F.length : Int) := by omega
      rw [e0, ← hdr2]
      exact ref77 k s (by omega) sg hsg (I ++ F) (-(F.length : Int)) (fun c hc => (List.mem_append.1 hc).elim (hI c) (hF c)) (by simp [h0]) (by rw [List.length_append]; omega) (by omega) _ (by omega)
    · have hb : ([46] : Str).contains (s.getD (i + I.length) 0) = false := by
        have : s.getD (i + I.length) 0 ≠ 46 := fun h => g (by rw [h]; rfl)
        simp only [List.contains_cons, List.contains_nil, Bool.or_false, beq_eq_false_iff_ne]
        exact this
      have hsp : signP [46] (dropD (s.drop i)) = (0, s.drop (i + I.length)) := by
        rw [← hdr, hd]
        show (if ([46] : Str).contains (s.getD (i + I.length) 0) then _ else _) = _
        rw [hb]; rfl
      rw [dfalse g, if_pos (by rw [hsp])]
      exact nodot (by rw [hsp]) (by rw [hsp])
  · have hsp : signP [46] (dropD (s.drop i)) = (0, s.drop (i + I.length)) := by
      rw [← hdr, List.drop_of_length_le (by omega)]
      rfl
    rw [dfalse (show ¬ ((i + I.length : Nat) : Int) < (s.length : Int) by omega), cond_false, if_pos (by rw [hsp])]
    exact nodot (by rw [hsp]) (by rw [hsp])

theorem refParse_ok {R : Type} (s : Str) (k : Dcm → Bool → Option R) : ref01_Parse s k = k (parseS s).1 (parseS s).2 := by
  have e : ref01_Parse s k = ref01_Parse_X ref01_Make ref01_digits ref01_Parse_32_0_L ref01_Parse_41_0_L ref01_Parse_43_0_L ref01_Parse_50_0_L s k := rfl
  rw [e, Jref01_Parse_eq]
  unfold parseS
  simp only
  by_cases h400 : 400 < s.length
  · rw [dtrue (show (s.length : Int) > 400 by omega), cond_true, if_pos h400]
    rfl
  rw [dfalse (show ¬ (s.length : Int) > 400 by omega), cond_false, if_neg h400]
  have plain : ∀ q : Nat × Str, q = (0, s) → Jref01_Parse_j79 k s 0 1 = k (if takeD q.2 = [] then noD else if 1 < (takeD q.2).length ∧ ((takeD q.2).getD 0 0).toNat = 48 then noD
      else if (signP [46] (dropD q.2)).1 = 0 then tailD (q.1 != 0) (takeD q.2) 0 (signP [46] (dropD q.2)).2
      else if takeD (signP [46] (dropD q.2)).2 = [] then noD
      else tailD (q.1 != 0) (takeD q.2 ++ takeD (signP [46] (dropD q.2)).2) (-((takeD (signP [46] (dropD q.2)).2).length : Int)) (dropD (signP [46] (dropD q.2)).2)).1 (if takeD q.2 = [] then noD else if 1 < (takeD q.2).length ∧ ((takeD q.2).getD 0 0).toNat = 48 then noD
      else if (signP [46] (dropD q.2)).1 = 0 then tailD (q.1 != 0) (takeD q.2) 0 (signP [46] (dropD q.2)).2
      else if takeD (signP [46] (dropD q.2)).2 = [] then noD
      else tailD (q.1 != 0) (takeD q.2 ++ takeD (signP [46] (dropD q.2)).2) (-((takeD (signP [46] (dropD q.2)).2).length : Int)) (dropD (signP [46] (dropD q.2)).2)).2 := by
    rintro q rfl
    exact ref79 k s (by omega) 1 (.inl rfl) 0 (by omega)
  by_cases h1 : 0 < s.length
  · rw [dtrue (show (0 : Int) < (s.length : Int) by omega), cond_true, chk_pos rfl]
    have hd := drop_cons h1
    rw [List.drop_zero] at hd
    have q45 : (((s.getD 0 0).toNat : Int) == 45) = decide ((s.getD 0 0).toNat = 45) := eqI _ 45
    rw [q45]
    by_cases g : (s.getD 0 0).toNat = 45
    · have hb : s.getD 0 0 = 45 := UInt8.toNat_inj.1 g
      have hq : signP [45] s = (45, s.drop 1) := by
        conv => lhs; rw [hd, hb]
        rfl
      rw [dtrue g, cond_true, hq]
      exact ref79 k s (by omega) (-1) (.inr rfl) 1 (by omega)
    · have hq : signP [45] s = (0, s) := by
        have hc : ([45] : Str).contains (s.getD 0 0) = false := by
          have : s.getD 0 0 ≠ 45 := fun h => g (by rw [h]; rfl)
          simp only [List.contains_cons, List.contains_nil, Bool.or_false, beq_eq_false_iff_ne]
          exact this
        conv => lhs; rw [hd]
        show (if ([45] : Str).contains (s.getD 0 0) then _ else (0, _)) = _
        rw [hc]
        simp only [Bool.false_eq_true, if_false]
        rw [← hd]
      rw [dfalse g, cond_false]
      exact plain _ hq
  · have hn : s = [] := List.eq_nil_of_length_eq_zero (by omega)
    subst hn
    exact plain _ rfl
end Go.Proofs.YtifgegmnngfckaaDoor

set_option linter.unusedVariables false
set_option maxRecDepth 100000
namespace Go.Proofs.YtifgegmnngfckaaDoor
open Go Go.Yard Go.Lib

theorem make_all {R : Type} (m x : Int) (hm : I64 m) (hx : I64 x) : ∃ r : Dcm × Bool, Made m x r ∧ (∀ k : Dcm → Bool → Option R, decimal_Make m x k = k r.1 r.2) ∧ ∀ k : Dcm → Bool → Option R, ref01_Make m x k = k r.1 r.2 := by
  by_cases h0 : m = 0
  · subst h0
    exact ⟨_, .inl ⟨rfl, rfl⟩, fun k => make_zero x k, fun k => refMake_zero x k⟩
  · obtain ⟨j, u, hu, hd⟩ := strip_ex (m.natAbs + 1) m h0 (by omega)
    subst hu
    unfold I64 at hx
    have h64 := noughts_64 (u := u) (by rintro rfl; exact hd rfl) hm
    refine ⟨_, .inr ⟨u, j, rfl, hd, rfl⟩, fun k => ?_, fun k => refMake_ok u j x hd hm (by unfold I64; exact hx) k⟩
    rw [make_min, make_ok u j _ hd hm (by omega) (by omega) k]
    by_cases h : x ≤ 1000000
    · rw [Int.min_eq_left h]
    · rw [Int.min_eq_right (by omega), mkD_out (by omega), mkD_out (by omega)]

def fmB (d : Dcm) : Bool := (d.mant == 0 && d.exp == 0) || (Int.tmod d.mant 10 != 0 && (decide (-1000000000000000 ≤ d.mant) && decide (d.mant ≤ 1000000000000000) && (decide (-9 ≤ d.exp) && decide (d.exp ≤ 9))))
theorem fmB_iff {d : Dcm} : fmB d = true ↔ Fm d := by
  unfold fmB Fm
  simp [and_assoc]

theorem right_any {R : Type} (d : Dcm) (k : Bool → Option R) : decimal_Right d k = k (fmB d) := by
  have e : decimal_Right d k = decimal_Right_X decimal_within_int d k := rfl
  rw [e]
  unfold decimal_Right_X fmB
  by_cases h0 : d.mant = 0
  · rw [h0]
    have t0 : ((0 : Int) == 0) = true := rfl
    have t1 : (Int.tmod 0 10 != 0) = false := rfl
    rw [t0, t1, cond_true, Bool.true_and, Bool.false_and, Bool.or_false]
  · have e0 : (d.mant == 0) = false := by rw [beq_eq_false_iff_ne]; exact h0
    rw [e0, cond_false, Bool.false_and, Bool.false_or]
    cases ht : (Int.tmod d.mant 10 != 0) with
    | false => rfl
    | true =>
      rw [cond_true, Bool.true_and, within_ok]
      cases (decide (-1000000000000000 ≤ d.mant) && decide (d.mant ≤ 1000000000000000)) with
      | false => rfl
      | true => rw [cond_true, within_ok, Bool.true_and]

theorem refRight_any {R : Type} (d : Dcm) (hm : I64 d.mant) (he : I64 d.exp) (k : Bool → Option R) : ref01_Right d k = k (fmB d) := by
  have e : ref01_Right d k = ref01_Right_X ref01_Make d k := rfl
  rw [e]
  unfold ref01_Right_X
  by_cases h0 : d.mant = 0
  · rw [h0, refMake_zero, cond_true]
    unfold fmB
    rw [h0]
    have t0 : ((0 : Int) == 0) = true := rfl
    have t1 : (Int.tmod 0 10 != 0) = false := rfl
    rw [t0, t1, Bool.true_and, Bool.false_and, Bool.or_false, Bool.true_and, Bool.and_true]
    congr 1
    rw [Bool.eq_iff_iff]
    simp only [beq_iff_eq]
    exact eq_comm
  · obtain ⟨j, u, hu, hd⟩ := strip_ex (d.mant.natAbs + 1) d.mant h0 (by omega)
    have hu0 : u ≠ 0 := by rintro rfl; exact hd rfl
    rw [hu] at hm
    have key := refMake_ok (R := R) u j d.exp hd hm he
    rw [← hu] at key
    rw [key]
    have e0 : (d.mant == 0) = false := by rw [beq_eq_false_iff_ne]; exact h0
    unfold fmB
    rw [e0, Bool.false_and, Bool.false_or]
    cases j with
    | zero =>
      have eu : d.mant = u := by rw [hu]; simp
      have ex : d.exp + ((0 : Nat) : Int) = d.exp := by omega
      have ht : (Int.tmod d.mant 10 != 0) = true := bne_iff_ne.2 (by rw [eu]; exact hd)
      rw [ex, ht, Bool.true_and, eu]
      unfold mkD
      by_cases h : -1000000000000000 ≤ u ∧ u ≤ 1000000000000000 ∧ -9 ≤ d.exp ∧ d.exp ≤ 9
      · rw [if_pos h, dtrue h.1, dtrue h.2.1, dtrue h.2.2.1, dtrue h.2.2.2]
        simp
      · rw [if_neg h, cond_false]
        congr 1
        symm
        rw [Bool.eq_false_iff]
        intro hh
        simp only [Bool.and_eq_true, decide_eq_true_eq] at hh
        exact h ⟨hh.1.1, hh.1.2, hh.2.1, hh.2.2⟩
    | succ j =>
      have ep : d.mant = u * 10 ^ j * 10 := by rw [hu, Int.pow_succ, Int.mul_assoc]
      have ht : (Int.tmod d.mant 10 != 0) = false := by rw [ep, Int.mul_tmod_left]; rfl
      rw [ht, Bool.false_and]
      unfold mkD
      split
      · have hab := abs_le_mul u j
        have hne : (u == d.mant) = false := by rw [beq_eq_false_iff_ne]; omega
        simp only [cond_true]
        rw [hne, Bool.false_and]
      · rfl
end Go.Proofs.YtifgegmnngfckaaDoor

/-
  Functions of the program as pure Lean functions, and the ties; printed by wip/tools/emit.py.
-/
set_option maxRecDepth 100000
set_option linter.unusedVariables false
namespace Go.Proofs.YtifgegmnngfckaaDoor
open Go Go.Yard

/-! ### humpyard/humpyardref01.text -/
abbrev ref01_text_ty (R : Type) : Type := Int → (Str → Option R) → Option R
abbrev ref01_text_p : List Pat := [.leaf (.int .i64)]
abbrev ref01_text_q : List HPat := []
noncomputable def ref01_text_rr {R : Type} (fn : ref01_text_ty R) : Pat.dens ref01_text_p → HPat.dens ref01_text_q → (V → Heap → Option R) → Option R := fun x y k => fn x.1 (fun q0 => k (.str q0) [])
noncomputable def ref01_text_E (R : Type) (hrec_ref01_text : ref01_text_ty R) : Env R := fun i => match i with
  | 70 => some (true, (specBy ref01_text_p ref01_text_q (ref01_text_rr hrec_ref01_text) specNo))
  | _ => none
theorem ref01_text_EOk (R : Type) (hrec_ref01_text : ref01_text_ty R) (hyp_ref01_text : Yard.Spec.Ok Tryd.prog 70 (specBy ref01_text_p ref01_text_q (ref01_text_rr hrec_ref01_text) specNo)) : EOk Tryd.prog (ref01_text_E R hrec_ref01_text) := by
  intro i b sp h
  unfold ref01_text_E at h
  split at h
  · cases h; exact ⟨hyp_ref01_text, fun h => nomatch h⟩
  · cases h

noncomputable def ref01_text_T (R : Type) : Nat → Option (Hint × LSpec R) := fun i => match i with
  | _ => none

noncomputable def ref01_text_X {R : Type} (hrec_ref01_text : ref01_text_ty R) (x1 : Int) (k0 : Str → Option R) : Option R :=
  bif (decide (x1 ≥ (10 : Int))) then (hrec_ref01_text (IntKind.i64.wrap (Int.tdiv x1 10)) (fun y2 => chk (decide (y2.length + (List.map (fun n : Int => UInt8.ofNat n.toNat) ([(IntKind.u8.wrap (IntKind.i64.wrap (48 + (Int.tmod x1 10))))] : List Int) : Str).length ≤ 9223372036854775807)) (k0 (y2 ++ (List.map (fun n : Int => UInt8.ofNat n.toNat) ([(IntKind.u8.wrap (IntKind.i64.wrap (48 + (Int.tmod x1 10))))] : List Int) : Str))))) else (k0 (List.map (fun n : Int => UInt8.ofNat n.toNat) ([(IntKind.u8.wrap (IntKind.i64.wrap (48 + (Int.tmod x1 10))))] : List Int) : Str))
noncomputable def ref01_text_B {R : Type} (hrec_ref01_text : ref01_text_ty R) : ref01_text_ty R := fun x1 k0 => ref01_text_X hrec_ref01_text x1 k0
theorem ref01_text_ok {R : Type} (hrec_ref01_text : ref01_text_ty R) (x1 : Int) (k : V → Heap → Option R) : funK tt (ref01_text_E R hrec_ref01_text) (ref01_text_T R) false Tryd.f70 (codeOf Tryd.f70) [.int .i64 x1] [] k =
    ref01_text_X hrec_ref01_text x1 (fun q0 => k (.str q0) []) := by kernel_rfl
theorem ref01_text_loops (R : Type) (hrec_ref01_text : ref01_text_ty R) : ∀ a ∈ loopsOf (codeOf Tryd.f70), LoopOk tt (ref01_text_E R hrec_ref01_text) (ref01_text_T R) 0 a := by
  refine loops_ok 0 (by kernel_rfl) fun i hi => ?_
  omega
theorem ref01_text_S_okB (R : Type) (hrec_ref01_text : ref01_text_ty R) (hyp_ref01_text : Yard.Spec.Ok Tryd.prog 70 (specBy ref01_text_p ref01_text_q (ref01_text_rr hrec_ref01_text) specNo)) (other : Yard.Spec R) (ho : Yard.Spec.Ok Tryd.prog 70 other) : Yard.Spec.Ok Tryd.prog 70 (specBy ref01_text_p ref01_text_q (ref01_text_rr (ref01_text_B hrec_ref01_text)) other) :=
  specBy_ok ho (funK_sound TT mixed (ref01_text_EOk R hrec_ref01_text hyp_ref01_text) (keep := false) rfl rfl rfl rfl 0 (ref01_text_loops R hrec_ref01_text)) fun (x : Pat.dens ref01_text_p) (y : HPat.dens ref01_text_q) k => ref01_text_ok hrec_ref01_text x.1 k
noncomputable def ref01_text_N {R : Type} : Nat → ref01_text_ty R
  | 0, _, _ => none
  | n + 1, x0', k0' => ref01_text_B (ref01_text_N n) x0' k0'
theorem ref01_text_N_succ {R : Type} (n : Nat) : ref01_text_N (R := R) (n + 1) = ref01_text_B (ref01_text_N n) := by kernel_rfl
theorem ref01_text_N_ok (R : Type) : ∀ n, Yard.Spec.Ok Tryd.prog 70 (specBy ref01_text_p ref01_text_q (ref01_text_rr (ref01_text_N (R := R) n)) specNo) :=
  specBy_fuel (run := fun n => ref01_text_rr (ref01_text_N (R := R) n)) (fun x y k => by kernel_rfl) fun n hyp => ref01_text_S_okB R (ref01_text_N n) hyp specNo (specNo_ok _)
noncomputable def ref01_text {R : Type} : ref01_text_ty R := fun x1 k0 => ref01_text_N (Int.natAbs x1 + 2) x1 k0
theorem ref01_text_r_ok (R : Type) : ref01_text_rr (R := R) ref01_text = fun x y k => ref01_text_rr (ref01_text_N (Int.natAbs x.1 + 2)) x y k := by kernel_rfl
theorem ref01_text_S_ok (R : Type) (other : Yard.Spec R) (ho : Yard.Spec.Ok Tryd.prog 70 other) : Yard.Spec.Ok Tryd.prog 70 (specBy ref01_text_p ref01_text_q (ref01_text_rr ref01_text) other) :=
  specBy_run (specBy_at (run := fun n => ref01_text_rr (ref01_text_N (R := R) n)) (fun x y => (Int.natAbs x.1 + 2)) ho (ref01_text_N_ok R)) (ref01_text_r_ok R)

/-! ### humpyard/humpyardref01.Print -/
abbrev ref01_Print_ty (R : Type) : Type := Dcm → (Str → Option R) → Option R
abbrev ref01_Print_p : List Pat := [.agg [.int .i64, .int .i64]]
abbrev ref01_Print_q : List HPat := []
noncomputable def ref01_Print_rr {R : Type} (fn : ref01_Print_ty R) : Pat.dens ref01_Print_p → HPat.dens ref01_Print_q → (V → Heap → Option R) → Option R := fun x y k => fn (⟨x.1.1, x.1.2.1⟩ : Dcm) (fun q0 => k (.str q0) [])
abbrev ref01_Print_6_0_ty (R : Type) : Type := Nat → Str → Int → Dcm → (Str → Dcm → Option R) → Option R
abbrev ref01_Print_10_0_ty (R : Type) : Type := Nat → Str → Dcm → (Str → Dcm → Option R) → Option R
noncomputable def ref01_Print_E (R : Type) (ref01_Right : ref01_Right_ty R) (ref01_text : ref01_text_ty R) : Env R := fun i => match i with
  | 41 => some (true, (specBy ref01_Right_p ref01_Right_q (ref01_Right_rr ref01_Right) specNo))
  | 70 => some (true, (specBy ref01_text_p ref01_text_q (ref01_text_rr ref01_text) specNo))
  | _ => none
theorem ref01_Print_EOk (R : Type) : EOk Tryd.prog (ref01_Print_E R ref01_Right ref01_text) := by
  intro i b sp h
  unfold ref01_Print_E at h
  split at h
  · cases h; exact ⟨(ref01_Right_S_ok R _ (specNo_ok _)), fun h => nomatch h⟩
  · cases h; exact ⟨(ref01_text_S_ok R _ (specNo_ok _)), fun h => nomatch h⟩
  · cases h

noncomputable def ref01_Print_6_0_B {R : Type} (rec' : Str → Int → Dcm → Option R) (x4 : Str) (x5 : Int) (x6 : Dcm) (e0 : Str → Dcm → Option R) : Option R :=
  bif (decide (x5 < x6.exp)) then (chk (decide (x4.length + 1 ≤ 9223372036854775807)) (rec' (x4 ++ ([48] : Str)) (IntKind.i64.wrap (x5 + 1)) x6)) else (e0 x4 x6)
noncomputable def ref01_Print_6_0_L {R : Type} : ref01_Print_6_0_ty R
  | 0, _, _, _, _ => none
  | n + 1, x0', x1', x2', e0 => ref01_Print_6_0_B (fun x0' x1' x2' => ref01_Print_6_0_L n x0' x1' x2' e0) x0' x1' x2' e0
noncomputable def ref01_Print_6_0_h : Hint := { live := [1, 4, 5], own := [], rows := [], cells := [], drop := [], out := [1, 2, 4] }
abbrev ref01_Print_6_0_D : Type := Str × Int × Dcm
noncomputable def ref01_Print_6_0_enc : ref01_Print_6_0_D → St := fun d => ⟨[.undef, .ptr 0 0, .undef, .undef, .str d.1, .int .i64 d.2.1, .undef, .undef, .undef, .undef, .undef, .undef, .undef, .undef, .undef, .undef, .undef, .undef, .undef, .undef, .undef, .undef, .undef, .undef, .undef, .undef, .undef, .undef, .undef, .undef, .undef, .undef, .undef, .undef, .undef, .undef, .undef, .undef, .undef, .undef, .undef, .undef, .undef, .undef, .undef, .undef, .undef, .undef, .undef, .undef, .undef, .undef, .undef, .undef, .undef, .undef, .undef, .undef], [.cells [.int .i64 d.2.2.mant, .int .i64 d.2.2.exp]]⟩
noncomputable def ref01_Print_6_0_x0 {R : Type} (K : Ex → St → Option R) (q0 : Str) (q1 : Dcm) : Option R := K (.exit 0) ⟨[.undef, .ptr 0 0, .undef, .undef, .str q0, .undef, .undef, .undef, .undef, .undef, .undef, .undef, .undef, .undef, .undef, .undef, .undef, .undef, .undef, .undef, .undef, .undef, .undef, .undef, .undef, .undef, .undef, .undef, .undef, .undef, .undef, .undef, .undef, .undef, .undef, .undef, .undef, .undef, .undef, .undef, .undef, .undef, .undef, .undef, .undef, .undef, .undef, .undef, .undef, .undef, .undef, .undef, .undef, .undef, .undef, .undef, .undef, .undef], [.cells [.int .i64 q1.mant, .int .i64 q1.exp]]⟩
noncomputable def ref01_Print_6_0_s {R : Type} (K : Ex → St → Option R) (rc : ref01_Print_6_0_D → Option R) (d : ref01_Print_6_0_D) : Option R := ref01_Print_6_0_B (fun z0 z1 z2 => rc (z0, z1, z2)) d.1 d.2.1 d.2.2 (ref01_Print_6_0_x0 K)
noncomputable def ref01_Print_6_0_A {R : Type} (K : Ex → St → Option R) (n : Nat) (d : ref01_Print_6_0_D) : Option R := ref01_Print_6_0_L n d.1 d.2.1 d.2.2 (ref01_Print_6_0_x0 K)
abbrev ref01_Print_6_0_p : List Pat := [.leaf (.undef), .leaf (.ptr 0 0), .leaf (.undef), .leaf (.undef), .leaf (.str), .leaf (.int .i64), .leaf (.undef), .leaf (.undef), .leaf (.undef), .leaf (.undef), .leaf (.undef), .leaf (.undef), .leaf (.undef), .leaf (.undef), .leaf (.undef), .leaf (.undef), .leaf (.undef), .leaf (.undef), .leaf (.undef), .leaf (.undef), .leaf (.undef), .leaf (.undef), .leaf (.undef), .leaf (.undef), .leaf (.undef), .leaf (.undef), .leaf (.undef), .leaf (.undef), .leaf (.undef), .leaf (.undef), .leaf (.undef), .leaf (.undef), .leaf (.undef), .leaf (.undef), .leaf (.undef), .leaf (.undef), .leaf (.undef), .leaf (.undef), .leaf (.undef), .leaf (.undef), .leaf (.undef), .leaf (.undef), .leaf (.undef), .leaf (.undef), .leaf (.undef), .leaf (.undef), .leaf (.undef), .leaf (.undef), .leaf (.undef), .leaf (.undef), .leaf (.undef), .leaf (.undef), .leaf (.undef), .leaf (.undef), .leaf (.undef), .leaf (.undef), .leaf (.undef), .leaf (.undef)]
abbrev ref01_Print_6_0_q : List HPat := [.cells [.int .i64, .int .i64]]
noncomputable def ref01_Print_6_0_f (x : Pat.dens ref01_Print_6_0_p) (y : HPat.dens ref01_Print_6_0_q) : Nat := (List.length x.2.2.2.2.1 + Int.natAbs x.2.2.2.2.2.1 + Dcm.fu (⟨y.1.1, y.1.2.1⟩ : Dcm) + 64)
noncomputable def ref01_Print_6_0_d (x : Pat.dens ref01_Print_6_0_p) (y : HPat.dens ref01_Print_6_0_q) : ref01_Print_6_0_D := (x.2.2.2.2.1, x.2.2.2.2.2.1, (⟨y.1.1, y.1.2.1⟩ : Dcm))
noncomputable def ref01_Print_6_0_rr {R : Type} (L : ref01_Print_6_0_ty R) : Pat.dens ref01_Print_6_0_p → HPat.dens ref01_Print_6_0_q → (Ex → St → Option R) → Option R := fun x y K => L (ref01_Print_6_0_f x y) x.2.2.2.2.1 x.2.2.2.2.2.1 (⟨y.1.1, y.1.2.1⟩ : Dcm) (ref01_Print_6_0_x0 K)
noncomputable def ref01_Print_10_0_B {R : Type} (rec' : Str → Dcm → Option R) (x9 : Str) (x10 : Dcm) (e0 : Str → Dcm → Option R) : Option R :=
  bif (decide ((x9.length : Int) ≤ (IntKind.i64.wrap (0 - x10.exp)))) then (chk (decide (1 + x9.length ≤ 9223372036854775807)) (rec' (([48] : Str) ++ x9) x10)) else (e0 x9 x10)
noncomputable def ref01_Print_10_0_L {R : Type} : ref01_Print_10_0_ty R
  | 0, _, _, _ => none
  | n + 1, x0', x1', e0 => ref01_Print_10_0_B (fun x0' x1' => ref01_Print_10_0_L n x0' x1' e0) x0' x1' e0
noncomputable def ref01_Print_10_0_h : Hint := { live := [1, 4], own := [], rows := [], cells := [], drop := [], out := [1, 2, 4] }
abbrev ref01_Print_10_0_D : Type := Str × Dcm
noncomputable def ref01_Print_10_0_enc : ref01_Print_10_0_D → St := fun d => ⟨[.undef, .ptr 0 0, .undef, .undef, .str d.1, .undef, .undef, .undef, .undef, .undef, .undef, .undef, .undef, .undef, .undef, .undef, .undef, .undef, .undef, .undef, .undef, .undef, .undef, .undef, .undef, .undef, .undef, .undef, .undef, .undef, .undef, .undef, .undef, .undef, .undef, .undef, .undef, .undef, .undef, .undef, .undef, .undef, .undef, .undef, .undef, .undef, .undef, .undef, .undef, .undef, .undef, .undef, .undef, .undef, .undef, .undef, .undef, .undef], [.cells [.int .i64 d.2.mant, .int .i64 d.2.exp]]⟩
noncomputable def ref01_Print_10_0_x0 {R : Type} (K : Ex → St → Option R) (q0 : Str) (q1 : Dcm) : Option R := K (.exit 2) ⟨[.undef, .ptr 0 0, .undef, .undef, .str q0, .undef, .undef, .undef, .undef, .undef, .undef, .undef, .undef, .undef, .undef, .undef, .undef, .undef, .undef, .undef, .undef, .undef, .undef, .undef, .undef, .undef, .undef, .undef, .undef, .undef, .undef, .undef, .undef, .undef, .undef, .undef, .undef, .undef, .undef, .undef, .undef, .undef, .undef, .undef, .undef, .undef, .undef, .undef, .undef, .undef, .undef, .undef, .undef, .undef, .undef, .undef, .undef, .undef], [.cells [.int .i64 q1.mant, .int .i64 q1.exp]]⟩
noncomputable def ref01_Print_10_0_s {R : Type} (K : Ex → St → Option R) (rc : ref01_Print_10_0_D → Option R) (d : ref01_Print_10_0_D) : Option R := ref01_Print_10_0_B (fun z0 z1 => rc (z0, z1)) d.1 d.2 (ref01_Print_10_0_x0 K)
noncomputable def ref01_Print_10_0_A {R : Type} (K : Ex → St → Option R) (n : Nat) (d : ref01_Print_10_0_D) : Option R := ref01_Print_10_0_L n d.1 d.2 (ref01_Print_10_0_x0 K)
abbrev ref01_Print_10_0_p : List Pat := [.leaf (.undef), .leaf (.ptr 0 0), .leaf (.undef), .leaf (.undef), .leaf (.str), .leaf (.undef), .leaf (.undef), .leaf (.undef), .leaf (.undef), .leaf (.undef), .leaf (.undef), .leaf (.undef), .leaf (.undef), .leaf (.undef), .leaf (.undef), .leaf (.undef), .leaf (.undef), .leaf (.undef), .leaf (.undef), .leaf (.undef), .leaf (.undef), .leaf (.undef), .leaf (.undef), .leaf (.undef), .leaf (.undef), .leaf (.undef), .leaf (.undef), .leaf (.undef), .leaf (.undef), .leaf (.undef), .leaf (.undef), .leaf (.undef), .leaf (.undef), .leaf (.undef), .leaf (.undef), .leaf (.undef), .leaf (.undef), .leaf (.undef), .leaf (.undef), .leaf (.undef), .leaf (.undef), .leaf (.undef), .leaf (.undef), .leaf (.undef), .leaf (.undef), .leaf (.undef), .leaf (.undef), .leaf (.undef), .leaf (.undef), .leaf (.undef), .leaf (.undef), .leaf (.undef), .leaf (.undef), .leaf (.undef), .leaf (.undef), .leaf (.undef), .leaf (.undef), .leaf (.undef)]
abbrev ref01_Print_10_0_q : List HPat := [.cells [.int .i64, .int .i64]]
noncomputable def ref01_Print_10_0_f (x : Pat.dens ref01_Print_10_0_p) (y : HPat.dens ref01_Print_10_0_q) : Nat := (List.length x.2.2.2.2.1 + Dcm.fu (⟨y.1.1, y.1.2.1⟩ : Dcm) + 64)
noncomputable def ref01_Print_10_0_d (x : Pat.dens ref01_Print_10_0_p) (y : HPat.dens ref01_Print_10_0_q) : ref01_Print_10_0_D := (x.2.2.2.2.1, (⟨y.1.1, y.1.2.1⟩ : Dcm))
noncomputable def ref01_Print_10_0_rr {R : Type} (L : ref01_Print_10_0_ty R) : Pat.dens ref01_Print_10_0_p → HPat.dens ref01_Print_10_0_q → (Ex → St → Option R) → Option R := fun x y K => L (ref01_Print_10_0_f x y) x.2.2.2.2.1 (⟨y.1.1, y.1.2.1⟩ : Dcm) (ref01_Print_10_0_x0 K)
noncomputable def ref01_Print_T (R : Type) (ref01_Print_6_0_L : ref01_Print_6_0_ty R) (ref01_Print_10_0_L : ref01_Print_10_0_ty R) : Nat → Option (Hint × LSpec R) := fun i => match i with
  | 6 => some (ref01_Print_6_0_h, (loopBy ref01_Print_6_0_p ref01_Print_6_0_q (ref01_Print_6_0_rr ref01_Print_6_0_L) loopNo))
  | 10 => some (ref01_Print_10_0_h, (loopBy ref01_Print_10_0_p ref01_Print_10_0_q (ref01_Print_10_0_rr ref01_Print_10_0_L) loopNo))
  | _ => none

theorem ref01_Print_6_0_B_ok {R : Type} (ref01_Right : ref01_Right_ty R) (ref01_text : ref01_text_ty R) (ref01_Print_6_0_L : ref01_Print_6_0_ty R) (ref01_Print_10_0_L : ref01_Print_10_0_ty R) (K : Ex → St → Option R) (rc : St → Option R) (d : ref01_Print_6_0_D) : roundOf tt (ref01_Print_E R ref01_Right ref01_text) (ref01_Print_T R ref01_Print_6_0_L ref01_Print_10_0_L) 0 ((loopsOf (codeOf Tryd.f42)).getD 0 .skip) ref01_Print_6_0_h (ref01_Print_6_0_enc d) rc K = ref01_Print_6_0_s K (fun d => rc (ref01_Print_6_0_enc d)) d := by kernel_rfl
theorem ref01_Print_6_0_A_succ {R : Type} (K : Ex → St → Option R) (n : Nat) (d : ref01_Print_6_0_D) : ref01_Print_6_0_A K (n + 1) d = ref01_Print_6_0_s K (ref01_Print_6_0_A K n) d := by kernel_rfl
theorem ref01_Print_6_0_A_zero {R : Type} (K : Ex → St → Option R) (d : ref01_Print_6_0_D) : ref01_Print_6_0_A K 0 d = none := by kernel_rfl
theorem ref01_Print_6_0_e_ok (x : Pat.dens ref01_Print_6_0_p) (y : HPat.dens ref01_Print_6_0_q) : (⟨Pat.encL ref01_Print_6_0_p x, HPat.encL ref01_Print_6_0_q y⟩ : St) = ref01_Print_6_0_enc (ref01_Print_6_0_d x y) := by kernel_rfl
theorem ref01_Print_6_0_r_ok {R : Type} (x : Pat.dens ref01_Print_6_0_p) (y : HPat.dens ref01_Print_6_0_q) (K : Ex → St → Option R) : ref01_Print_6_0_rr (ref01_Print_6_0_L) x y K = ref01_Print_6_0_A K (ref01_Print_6_0_f x y) (ref01_Print_6_0_d x y) := by kernel_rfl
theorem ref01_Print_6_0_ok {R : Type} (other : LSpec R) (ho : LsOk tt (ref01_Print_E R ref01_Right ref01_text) (ref01_Print_T R ref01_Print_6_0_L ref01_Print_10_0_L) 0 ((loopsOf (codeOf Tryd.f42)).getD 0 .skip) ref01_Print_6_0_h other) : LsOk tt (ref01_Print_E R ref01_Right ref01_text) (ref01_Print_T R ref01_Print_6_0_L ref01_Print_10_0_L) 0 ((loopsOf (codeOf Tryd.f42)).getD 0 .skip) ref01_Print_6_0_h (loopBy ref01_Print_6_0_p ref01_Print_6_0_q (ref01_Print_6_0_rr (ref01_Print_6_0_L)) other) :=
  loopBy_tie (A := ref01_Print_6_0_A) ho (loop_tie ref01_Print_6_0_enc (ref01_Print_6_0_s) (ref01_Print_6_0_A) (ref01_Print_6_0_A_zero) (ref01_Print_6_0_B_ok ref01_Right ref01_text ref01_Print_6_0_L ref01_Print_10_0_L) (ref01_Print_6_0_A_succ)) ref01_Print_6_0_f ref01_Print_6_0_d ref01_Print_6_0_e_ok (ref01_Print_6_0_r_ok)

theorem ref01_Print_10_0_B_ok {R : Type} (ref01_Right : ref01_Right_ty R) (ref01_text : ref01_text_ty R) (ref01_Print_6_0_L : ref01_Print_6_0_ty R) (ref01_Print_10_0_L : ref01_Print_10_0_ty R) (K : Ex → St → Option R) (rc : St → Option R) (d : ref01_Print_10_0_D) : roundOf tt (ref01_Print_E R ref01_Right ref01_text) (ref01_Print_T R ref01_Print_6_0_L ref01_Print_10_0_L) 0 ((loopsOf (codeOf Tryd.f42)).getD 1 .skip) ref01_Print_10_0_h (ref01_Print_10_0_enc d) rc K = ref01_Print_10_0_s K (fun d => rc (ref01_Print_10_0_enc d)) d := by kernel_rfl
theorem ref01_Print_10_0_A_succ {R : Type} (K : Ex → St → Option R) (n : Nat) (d : ref01_Print_10_0_D) : ref01_Print_10_0_A K (n + 1) d = ref01_Print_10_0_s K (ref01_Print_10_0_A K n) d := by kernel_rfl
theorem ref01_Print_10_0_A_zero {R : Type} (K : Ex → St → Option R) (d : ref01_Print_10_0_D) : ref01_Print_10_0_A K 0 d = none := by kernel_rfl
theorem ref01_Print_10_0_e_ok (x : Pat.dens ref01_Print_10_0_p) (y : HPat.dens ref01_Print_10_0_q) : (⟨Pat.encL ref01_Print_10_0_p x, HPat.encL ref01_Print_10_0_q y⟩ : St) = ref01_Print_10_0_enc (ref01_Print_10_0_d x y) := by kernel_rfl
theorem ref01_Print_10_0_r_ok {R : Type} (x : Pat.dens ref01_Print_10_0_p) (y : HPat.dens ref01_Print_10_0_q) (K : Ex → St → Option R) : ref01_Print_10_0_rr (ref01_Print_10_0_L) x y K = ref01_Print_10_0_A K (ref01_Print_10_0_f x y) (ref01_Print_10_0_d x y) := by kernel_rfl
theorem ref01_Print_10_0_ok {R : Type} (other : LSpec R) (ho : LsOk tt (ref01_Print_E R ref01_Right ref01_text) (ref01_Print_T R ref01_Print_6_0_L ref01_Print_10_0_L) 0 ((loopsOf (codeOf Tryd.f42)).getD 1 .skip) ref01_Print_10_0_h other) : LsOk tt (ref01_Print_E R ref01_Right ref01_text) (ref01_Print_T R ref01_Print_6_0_L ref01_Print_10_0_L) 0 ((loopsOf (codeOf Tryd.f42)).getD 1 .skip) ref01_Print_10_0_h (loopBy ref01_Print_10_0_p ref01_Print_10_0_q (ref01_Print_10_0_rr (ref01_Print_10_0_L)) other) :=
  loopBy_tie (A := ref01_Print_10_0_A) ho (loop_tie ref01_Print_10_0_enc (ref01_Print_10_0_s) (ref01_Print_10_0_A) (ref01_Print_10_0_A_zero) (ref01_Print_10_0_B_ok ref01_Right ref01_text ref01_Print_6_0_L ref01_Print_10_0_L) (ref01_Print_10_0_A_succ)) ref01_Print_10_0_f ref01_Print_10_0_d ref01_Print_10_0_e_ok (ref01_Print_10_0_r_ok)

noncomputable def ref01_Print_X {R : Type} (ref01_Right : ref01_Right_ty R) (ref01_text : ref01_text_ty R) (ref01_Print_6_0_L : ref01_Print_6_0_ty R) (ref01_Print_10_0_L : ref01_Print_10_0_ty R) (x1 : Dcm) (k0 : Str → Option R) : Option R :=
  ref01_Right x1 (fun y2 => bif (!y2) then (k0 ([] : Str)) else (ref01_text (max x1.mant (IntKind.i64.wrap (0 - x1.mant))) (fun y3 => ref01_Print_6_0_L (List.length y3 + Int.natAbs 0 + Dcm.fu x1 + 64) y3 0 x1 (fun y7 y8 => bif (decide (y8.exp < (0 : Int))) then (ref01_Print_10_0_L (List.length y7 + Dcm.fu y8 + 64) y7 y8 (fun y11 y12 => chk (decide ((0 : Int) ≤ (IntKind.i64.wrap ((y11.length : Int) + y12.exp))) && decide ((IntKind.i64.wrap ((y11.length : Int) + y12.exp)) ≤ y11.length)) (chk (decide ((0 : Int) ≤ (IntKind.i64.wrap ((y11.length : Int) + y12.exp)))) (chk (decide (((y11.drop 0).take ((IntKind.i64.wrap ((y11.length : Int) + y12.exp)).toNat - 0)).length + 1 ≤ 9223372036854775807)) (chk (decide ((0 : Int) ≤ (y11.length : Int)) && decide ((y11.length : Int) ≤ y11.length)) (chk (decide ((0 : Int) ≤ (IntKind.i64.wrap ((y11.length : Int) + y12.exp))) && decide ((IntKind.i64.wrap ((y11.length : Int) + y12.exp)) ≤ (y11.length : Int))) (chk (decide ((((y11.drop 0).take ((IntKind.i64.wrap ((y11.length : Int) + y12.exp)).toNat - 0)) ++ ([46] : Str)).length + ((y11.drop (IntKind.i64.wrap ((y11.length : Int) + y12.exp)).toNat).take ((y11.length : Int).toNat - (IntKind.i64.wrap ((y11.length : Int) + y12.exp)).toNat)).length ≤ 9223372036854775807)) (bif (decide (y12.mant < (0 : Int))) then (chk (decide (1 + ((((y11.drop 0).take ((IntKind.i64.wrap ((y11.length : Int) + y12.exp)).toNat - 0)) ++ ([46] : Str)) ++ ((y11.drop (IntKind.i64.wrap ((y11.length : Int) + y12.exp)).toNat).take ((y11.length : Int).toNat - (IntKind.i64.wrap ((y11.length : Int) + y12.exp)).toNat))).length ≤ 9223372036854775807)) (k0 (([45] : Str) ++ ((((y11.drop 0).take ((IntKind.i64.wrap ((y11.length : Int) + y12.exp)).toNat - 0)) ++ ([46] : Str)) ++ ((y11.drop (IntKind.i64.wrap ((y11.length : Int) + y12.exp)).toNat).take ((y11.length : Int).toNat - (IntKind.i64.wrap ((y11.length : Int) + y12.exp)).toNat)))))) else (k0 ((((y11.drop 0).take ((IntKind.i64.wrap ((y11.length : Int) + y12.exp)).toNat - 0)) ++ ([46] : Str)) ++ ((y11.drop (IntKind.i64.wrap ((y11.length : Int) + y12.exp)).toNat).take ((y11.length : Int).toNat - (IntKind.i64.wrap ((y11.length : Int) + y12.exp)).toNat)))))))))))) else (bif (decide (y8.mant < (0 : Int))) then (chk (decide (1 + y7.length ≤ 9223372036854775807)) (k0 (([45] : Str) ++ y7))) else (k0 y7))))))
noncomputable def ref01_Print {R : Type} : ref01_Print_ty R := fun x1 k0 => ref01_Print_X ref01_Right ref01_text ref01_Print_6_0_L ref01_Print_10_0_L x1 k0
theorem ref01_Print_ok {R : Type} (ref01_Right : ref01_Right_ty R) (ref01_text : ref01_text_ty R) (ref01_Print_6_0_L : ref01_Print_6_0_ty R) (ref01_Print_10_0_L : ref01_Print_10_0_ty R) (x1 : Dcm) (k : V → Heap → Option R) : funK tt (ref01_Print_E R ref01_Right ref01_text) (ref01_Print_T R ref01_Print_6_0_L ref01_Print_10_0_L) false Tryd.f42 (codeOf Tryd.f42) [.agg [.int .i64 x1.mant, .int .i64 x1.exp]] [] k =
    ref01_Print_X ref01_Right ref01_text ref01_Print_6_0_L ref01_Print_10_0_L x1 (fun q0 => k (.str q0) []) := by kernel_rfl
theorem ref01_Print_loops (R : Type) : ∀ a ∈ loopsOf (codeOf Tryd.f42), LoopOk tt (ref01_Print_E R ref01_Right ref01_text) (ref01_Print_T R ref01_Print_6_0_L ref01_Print_10_0_L) 0 a := by
  refine loops_ok 2 (by kernel_rfl) fun i hi => ?_
  match i, hi with
  | 0, _ => exact loopOk_some (by kernel_rfl) (ref01_Print_6_0_ok _ loopNo_ok)
  | 1, _ => exact loopOk_some (by kernel_rfl) (ref01_Print_10_0_ok _ loopNo_ok)
  | n + 2, hi => omega
theorem ref01_Print_S_ok (R : Type) (other : Yard.Spec R) (ho : Yard.Spec.Ok Tryd.prog 42 other) : Yard.Spec.Ok Tryd.prog 42 (specBy ref01_Print_p ref01_Print_q (ref01_Print_rr ref01_Print) other) :=
  specBy_ok ho (funK_sound TT mixed (ref01_Print_EOk R) (keep := false) rfl rfl rfl rfl 0 (ref01_Print_loops R)) fun (x : Pat.dens ref01_Print_p) (y : HPat.dens ref01_Print_q) k => ref01_Print_ok ref01_Right ref01_text ref01_Print_6_0_L ref01_Print_10_0_L (⟨x.1.1, x.1.2.1⟩ : Dcm) k

/-! ### humpyard/humpyardref01.parts -/
abbrev ref01_parts_ty (R : Type) : Type := Dcm → (Str → Option R) → Option R
abbrev ref01_parts_p : List Pat := [.agg [.int .i64, .int .i64]]
abbrev ref01_parts_q : List HPat := []
noncomputable def ref01_parts_rr {R : Type} (fn : ref01_parts_ty R) : Pat.dens ref01_parts_p → HPat.dens ref01_parts_q → (V → Heap → Option R) → Option R := fun x y k => fn (⟨x.1.1, x.1.2.1⟩ : Dcm) (fun q0 => k (.str q0) [])
abbrev ref01_parts_3_0_ty (R : Type) : Type := Nat → Str → Int → Dcm → (Str → Option R) → Option R
abbrev ref01_parts_6_0_ty (R : Type) : Type := Nat → Str → (Str → Option R) → Option R
noncomputable def ref01_parts_E (R : Type) (ref01_text : ref01_text_ty R) : Env R := fun i => match i with
  | 70 => some (true, (specBy ref01_text_p ref01_text_q (ref01_text_rr ref01_text) specNo))
  | _ => none
theorem ref01_parts_EOk (R : Type) : EOk Tryd.prog (ref01_parts_E R ref01_text) := by
  intro i b sp h
  unfold ref01_parts_E at h
  split at h
  · cases h; exact ⟨(ref01_text_S_ok R _ (specNo_ok _)), fun h => nomatch h⟩
  · cases h

noncomputable def ref01_parts_3_0_B {R : Type} (rec' : Str → Int → Dcm → Option R) (x3 : Str) (x4 : Int) (x5 : Dcm) (e0 : Str → Option R) : Option R :=
  bif (decide (x4 < (IntKind.i64.wrap (x5.exp + 9)))) then (chk (decide (x3.length + 1 ≤ 9223372036854775807)) (rec' (x3 ++ ([48] : Str)) (IntKind.i64.wrap (x4 + 1)) x5)) else (e0 x3)
noncomputable def ref01_parts_3_0_L {R : Type} : ref01_parts_3_0_ty R
  | 0, _, _, _, _ => none
  | n + 1, x0', x1', x2', e0 => ref01_parts_3_0_B (fun x0' x1' x2' => ref01_parts_3_0_L n x0' x1' x2' e0) x0' x1' x2' e0
noncomputable def ref01_parts_3_0_h : Hint := { live := [1, 3, 4], own := [], rows := [], cells := [], drop := [], out := [2, 3] }
abbrev ref01_parts_3_0_D : Type := Str × Int × Dcm
noncomputable def ref01_parts_3_0_enc : ref01_parts_3_0_D → St := fun d => ⟨[.undef, .ptr 0 0, .undef, .str d.1, .int .i64 d.2.1, .undef, .undef, .undef, .undef, .undef, .undef, .undef, .undef, .undef, .undef, .undef, .undef, .undef, .undef, .undef, .undef, .undef, .undef, .undef, .undef, .undef, .undef], [.cells [.int .i64 d.2.2.mant, .int .i64 d.2.2.exp]]⟩
noncomputable def ref01_parts_3_0_x0 {R : Type} (K : Ex → St → Option R) (q0 : Str) : Option R := K (.exit 0) ⟨[.undef, .undef, .undef, .str q0, .undef, .undef, .undef, .undef, .undef, .undef, .undef, .undef, .undef, .undef, .undef, .undef, .undef, .undef, .undef, .undef, .undef, .undef, .undef, .undef, .undef, .undef, .undef], []⟩
noncomputable def ref01_parts_3_0_s {R : Type} (K : Ex → St → Option R) (rc : ref01_parts_3_0_D → Option R) (d : ref01_parts_3_0_D) : Option R := ref01_parts_3_0_B (fun z0 z1 z2 => rc (z0, z1, z2)) d.1 d.2.1 d.2.2 (ref01_parts_3_0_x0 K)
noncomputable def ref01_parts_3_0_A {R : Type} (K : Ex → St → Option R) (n : Nat) (d : ref01_parts_3_0_D) : Option R := ref01_parts_3_0_L n d.1 d.2.1 d.2.2 (ref01_parts_3_0_x0 K)
abbrev ref01_parts_3_0_p : List Pat := [.leaf (.undef), .leaf (.ptr 0 0), .leaf (.undef), .leaf (.str), .leaf (.int .i64), .leaf (.undef), .leaf (.undef), .leaf (.undef), .leaf (.undef), .leaf (.undef), .leaf (.undef), .leaf (.undef), .leaf (.undef), .leaf (.undef), .leaf (.undef), .leaf (.undef), .leaf (.undef), .leaf (.undef), .leaf (.undef), .leaf (.undef), .leaf (.undef), .leaf (.undef), .leaf (.undef), .leaf (.undef), .leaf (.undef), .leaf (.undef), .leaf (.undef)]
abbrev ref01_parts_3_0_q : List HPat := [.cells [.int .i64, .int .i64]]
noncomputable def ref01_parts_3_0_f (x : Pat.dens ref01_parts_3_0_p) (y : HPat.dens ref01_parts_3_0_q) : Nat := (List.length x.2.2.2.1 + Int.natAbs x.2.2.2.2.1 + Dcm.fu (⟨y.1.1, y.1.2.1⟩ : Dcm) + 64)
noncomputable def ref01_parts_3_0_d (x : Pat.dens ref01_parts_3_0_p) (y : HPat.dens ref01_parts_3_0_q) : ref01_parts_3_0_D := (x.2.2.2.1, x.2.2.2.2.1, (⟨y.1.1, y.1.2.1⟩ : Dcm))
noncomputable def ref01_parts_3_0_rr {R : Type} (L : ref01_parts_3_0_ty R) : Pat.dens ref01_parts_3_0_p → HPat.dens ref01_parts_3_0_q → (Ex → St → Option R) → Option R := fun x y K => L (ref01_parts_3_0_f x y) x.2.2.2.1 x.2.2.2.2.1 (⟨y.1.1, y.1.2.1⟩ : Dcm) (ref01_parts_3_0_x0 K)
noncomputable def ref01_parts_6_0_B {R : Type} (rec' : Str → Option R) (x7 : Str) (e0 : Str → Option R) : Option R :=
  bif (decide ((x7.length : Int) < (40 : Int))) then (chk (decide (1 + x7.length ≤ 9223372036854775807)) (rec' (([48] : Str) ++ x7))) else (e0 x7)
noncomputable def ref01_parts_6_0_L {R : Type} : ref01_parts_6_0_ty R
  | 0, _, _ => none
  | n + 1, x0', e0 => ref01_parts_6_0_B (fun x0' => ref01_parts_6_0_L n x0' e0) x0' e0
noncomputable def ref01_parts_6_0_h : Hint := { live := [3], own := [], rows := [], cells := [], drop := [], out := [2, 3] }
abbrev ref01_parts_6_0_D : Type := Str
noncomputable def ref01_parts_6_0_enc : ref01_parts_6_0_D → St := fun d => ⟨[.undef, .undef, .undef, .str d, .undef, .undef, .undef, .undef, .undef, .undef, .undef, .undef, .undef, .undef, .undef, .undef, .undef, .undef, .undef, .undef, .undef, .undef, .undef, .undef, .undef, .undef, .undef], []⟩
noncomputable def ref01_parts_6_0_x0 {R : Type} (K : Ex → St → Option R) (q0 : Str) : Option R := K (.exit 2) ⟨[.undef, .undef, .undef, .str q0, .undef, .undef, .undef, .undef, .undef, .undef, .undef, .undef, .undef, .undef, .undef, .undef, .undef, .undef, .undef, .undef, .undef, .undef, .undef, .undef, .undef, .undef, .undef], []⟩
noncomputable def ref01_parts_6_0_s {R : Type} (K : Ex → St → Option R) (rc : ref01_parts_6_0_D → Option R) (d : ref01_parts_6_0_D) : Option R := ref01_parts_6_0_B (fun z0 => rc z0) d (ref01_parts_6_0_x0 K)
noncomputable def ref01_parts_6_0_A {R : Type} (K : Ex → St → Option R) (n : Nat) (d : ref01_parts_6_0_D) : Option R := ref01_parts_6_0_L n d (ref01_parts_6_0_x0 K)
abbrev ref01_parts_6_0_p : List Pat := [.leaf (.undef), .leaf (.undef), .leaf (.undef), .leaf (.str), .leaf (.undef), .leaf (.undef), .leaf (.undef), .leaf (.undef), .leaf (.undef), .leaf (.undef), .leaf (.undef), .leaf (.undef), .leaf (.undef), .leaf (.undef), .leaf (.undef), .leaf (.undef), .leaf (.undef), .leaf (.undef), .leaf (.undef), .leaf (.undef), .leaf (.undef), .leaf (.undef), .leaf (.undef), .leaf (.undef), .leaf (.undef), .leaf (.undef), .leaf (.undef)]
abbrev ref01_parts_6_0_q : List HPat := []
noncomputable def ref01_parts_6_0_f (x : Pat.dens ref01_parts_6_0_p) (y : HPat.dens ref01_parts_6_0_q) : Nat := (List.length x.2.2.2.1 + 64)
noncomputable def ref01_parts_6_0_d (x : Pat.dens ref01_parts_6_0_p) (y : HPat.dens ref01_parts_6_0_q) : ref01_parts_6_0_D := x.2.2.2.1
noncomputable def ref01_parts_6_0_rr {R : Type} (L : ref01_parts_6_0_ty R) : Pat.dens ref01_parts_6_0_p → HPat.dens ref01_parts_6_0_q → (Ex → St → Option R) → Option R := fun x y K => L (ref01_parts_6_0_f x y) x.2.2.2.1 (ref01_parts_6_0_x0 K)
noncomputable def ref01_parts_T (R : Type) (ref01_parts_3_0_L : ref01_parts_3_0_ty R) (ref01_parts_6_0_L : ref01_parts_6_0_ty R) : Nat → Option (Hint × LSpec R) := fun i => match i with
  | 3 => some (ref01_parts_3_0_h, (loopBy ref01_parts_3_0_p ref01_parts_3_0_q (ref01_parts_3_0_rr ref01_parts_3_0_L) loopNo))
  | 6 => some (ref01_parts_6_0_h, (loopBy ref01_parts_6_0_p ref01_parts_6_0_q (ref01_parts_6_0_rr ref01_parts_6_0_L) loopNo))
  | _ => none

theorem ref01_parts_3_0_B_ok {R : Type} (ref01_text : ref01_text_ty R) (ref01_parts_3_0_L : ref01_parts_3_0_ty R) (ref01_parts_6_0_L : ref01_parts_6_0_ty R) (K : Ex → St → Option R) (rc : St → Option R) (d : ref01_parts_3_0_D) : roundOf tt (ref01_parts_E R ref01_text) (ref01_parts_T R ref01_parts_3_0_L ref01_parts_6_0_L) 0 ((loopsOf (codeOf Tryd.f71)).getD 0 .skip) ref01_parts_3_0_h (ref01_parts_3_0_enc d) rc K = ref01_parts_3_0_s K (fun d => rc (ref01_parts_3_0_enc d)) d := by kernel_rfl
theorem ref01_parts_3_0_A_succ {R : Type} (K : Ex → St → Option R) (n : Nat) (d : ref01_parts_3_0_D) : ref01_parts_3_0_A K (n + 1) d = ref01_parts_3_0_s K (ref01_parts_3_0_A K n) d := by kernel_rfl
theorem ref01_parts_3_0_A_zero {R : Type} (K : Ex → St → Option R) (d : ref01_parts_3_0_D) : ref01_parts_3_0_A K 0 d = none := by kernel_rfl
theorem ref01_parts_3_0_e_ok (x : Pat.dens ref01_parts_3_0_p) (y : HPat.dens ref01_parts_3_0_q) : (⟨Pat.encL ref01_parts_3_0_p x, HPat.encL ref01_parts_3_0_q y⟩ : St) = ref01_parts_3_0_enc (ref01_parts_3_0_d x y) := by kernel_rfl
theorem ref01_parts_3_0_r_ok {R : Type} (x : Pat.dens ref01_parts_3_0_p) (y : HPat.dens ref01_parts_3_0_q) (K : Ex → St → Option R) : ref01_parts_3_0_rr (ref01_parts_3_0_L) x y K = ref01_parts_3_0_A K (ref01_parts_3_0_f x y) (ref01_parts_3_0_d x y) := by kernel_rfl
theorem ref01_parts_3_0_ok {R : Type} (other : LSpec R) (ho : LsOk tt (ref01_parts_E R ref01_text) (ref01_parts_T R ref01_parts_3_0_L ref01_parts_6_0_L) 0 ((loopsOf (codeOf Tryd.f71)).getD 0 .skip) ref01_parts_3_0_h other) : LsOk tt (ref01_parts_E R ref01_text) (ref01_parts_T R ref01_parts_3_0_L ref01_parts_6_0_L) 0 ((loopsOf (codeOf Tryd.f71)).getD 0 .skip) ref01_parts_3_0_h (loopBy ref01_parts_3_0_p ref01_parts_3_0_q (ref01_parts_3_0_rr (ref01_parts_3_0_L)) other) :=
  loopBy_tie (A := ref01_parts_3_0_A) ho (loop_tie ref01_parts_3_0_enc (ref01_parts_3_0_s) (ref01_parts_3_0_A) (ref01_parts_3_0_A_zero) (ref01_parts_3_0_B_ok ref01_text ref01_parts_3_0_L ref01_parts_6_0_L) (ref01_parts_3_0_A_succ)) ref01_parts_3_0_f ref01_parts_3_0_d ref01_parts_3_0_e_ok (ref01_parts_3_0_r_ok)

theorem ref01_parts_6_0_B_ok {R : Type} (ref01_text : ref01_text_ty R) (ref01_parts_3_0_L : ref01_parts_3_0_ty R) (ref01_parts_6_0_L : ref01_parts_6_0_ty R) (K : Ex → St → Option R) (rc : St → Option R) (d : ref01_parts_6_0_D) : roundOf tt (ref01_parts_E R ref01_text) (ref01_parts_T R ref01_parts_3_0_L ref01_parts_6_0_L) 0 ((loopsOf (codeOf Tryd.f71)).getD 1 .skip) ref01_parts_6_0_h (ref01_parts_6_0_enc d) rc K = ref01_parts_6_0_s K (fun d => rc (ref01_parts_6_0_enc d)) d := by kernel_rfl
theorem ref01_parts_6_0_A_succ {R : Type} (K : Ex → St → Option R) (n : Nat) (d : ref01_parts_6_0_D) : ref01_parts_6_0_A K (n + 1) d = ref01_parts_6_0_s K (ref01_parts_6_0_A K n) d := by kernel_rfl
theorem ref01_parts_6_0_A_zero {R : Type} (K : Ex → St → Option R) (d : ref01_parts_6_0_D) : ref01_parts_6_0_A K 0 d = none := by kernel_rfl
theorem ref01_parts_6_0_e_ok (x : Pat.dens ref01_parts_6_0_p) (y : HPat.dens ref01_parts_6_0_q) : (⟨Pat.encL ref01_parts_6_0_p x, HPat.encL ref01_parts_6_0_q y⟩ : St) = ref01_parts_6_0_enc (ref01_parts_6_0_d x y) := by kernel_rfl
theorem ref01_parts_6_0_r_ok {R : Type} (x : Pat.dens ref01_parts_6_0_p) (y : HPat.dens ref01_parts_6_0_q) (K : Ex → St → Option R) : ref01_parts_6_0_rr (ref01_parts_6_0_L) x y K = ref01_parts_6_0_A K (ref01_parts_6_0_f x y) (ref01_parts_6_0_d x y) := by kernel_rfl
theorem ref01_parts_6_0_ok {R : Type} (other : LSpec R) (ho : LsOk tt (ref01_parts_E R ref01_text) (ref01_parts_T R ref01_parts_3_0_L ref01_parts_6_0_L) 0 ((loopsOf (codeOf Tryd.f71)).getD 1 .skip) ref01_parts_6_0_h other) : LsOk tt (ref01_parts_E R ref01_text) (ref01_parts_T R ref01_parts_3_0_L ref01_parts_6_0_L) 0 ((loopsOf (codeOf Tryd.f71)).getD 1 .skip) ref01_parts_6_0_h (loopBy ref01_parts_6_0_p ref01_parts_6_0_q (ref01_parts_6_0_rr (ref01_parts_6_0_L)) other) :=
  loopBy_tie (A := ref01_parts_6_0_A) ho (loop_tie ref01_parts_6_0_enc (ref01_parts_6_0_s) (ref01_parts_6_0_A) (ref01_parts_6_0_A_zero) (ref01_parts_6_0_B_ok ref01_text ref01_parts_3_0_L ref01_parts_6_0_L) (ref01_parts_6_0_A_succ)) ref01_parts_6_0_f ref01_parts_6_0_d ref01_parts_6_0_e_ok (ref01_parts_6_0_r_ok)

noncomputable def ref01_parts_X {R : Type} (ref01_text : ref01_text_ty R) (ref01_parts_3_0_L : ref01_parts_3_0_ty R) (ref01_parts_6_0_L : ref01_parts_6_0_ty R) (x1 : Dcm) (k0 : Str → Option R) : Option R :=
  ref01_text (max x1.mant (IntKind.i64.wrap (0 - x1.mant))) (fun y2 => ref01_parts_3_0_L (List.length y2 + Int.natAbs 0 + Dcm.fu x1 + 64) y2 0 x1 (fun y6 => ref01_parts_6_0_L (List.length y6 + 64) y6 (fun y8 => k0 y8)))
noncomputable def ref01_parts {R : Type} : ref01_parts_ty R := fun x1 k0 => ref01_parts_X ref01_text ref01_parts_3_0_L ref01_parts_6_0_L x1 k0
theorem ref01_parts_ok {R : Type} (ref01_text : ref01_text_ty R) (ref01_parts_3_0_L : ref01_parts_3_0_ty R) (ref01_parts_6_0_L : ref01_parts_6_0_ty R) (x1 : Dcm) (k : V → Heap → Option R) : funK tt (ref01_parts_E R ref01_text) (ref01_parts_T R ref01_parts_3_0_L ref01_parts_6_0_L) false Tryd.f71 (codeOf Tryd.f71) [.agg [.int .i64 x1.mant, .int .i64 x1.exp]] [] k =
    ref01_parts_X ref01_text ref01_parts_3_0_L ref01_parts_6_0_L x1 (fun q0 => k (.str q0) []) := by kernel_rfl
theorem ref01_parts_loops (R : Type) : ∀ a ∈ loopsOf (codeOf Tryd.f71), LoopOk tt (ref01_parts_E R ref01_text) (ref01_parts_T R ref01_parts_3_0_L ref01_parts_6_0_L) 0 a := by
  refine loops_ok 2 (by kernel_rfl) fun i hi => ?_
  match i, hi with
  | 0, _ => exact loopOk_some (by kernel_rfl) (ref01_parts_3_0_ok _ loopNo_ok)
  | 1, _ => exact loopOk_some (by kernel_rfl) (ref01_parts_6_0_ok _ loopNo_ok)
  | n + 2, hi => omega
theorem ref01_parts_S_ok (R : Type) (other : Yard.Spec R) (ho : Yard.Spec.Ok Tryd.prog 71 other) : Yard.Spec.Ok Tryd.prog 71 (specBy ref01_parts_p ref01_parts_q (ref01_parts_rr ref01_parts) other) :=
  specBy_ok ho (funK_sound TT mixed (ref01_parts_EOk R) (keep := false) rfl rfl rfl rfl 0 (ref01_parts_loops R)) fun (x : Pat.dens ref01_parts_p) (y : HPat.dens ref01_parts_q) k => ref01_parts_ok ref01_text ref01_parts_3_0_L ref01_parts_6_0_L (⟨x.1.1, x.1.2.1⟩ : Dcm) k

/-! ### humpyard/humpyardref01.Compare -/
abbrev ref01_Compare_ty (R : Type) : Type := Dcm → Dcm → (Int → Option R) → Option R
abbrev ref01_Compare_p : List Pat := [.agg [.int .i64, .int .i64], .agg [.int .i64, .int .i64]]
abbrev ref01_Compare_q : List HPat := []
noncomputable def ref01_Compare_rr {R : Type} (fn : ref01_Compare_ty R) : Pat.dens ref01_Compare_p → HPat.dens ref01_Compare_q → (V → Heap → Option R) → Option R := fun x y k => fn (⟨x.1.1, x.1.2.1⟩ : Dcm) (⟨x.2.1.1, x.2.1.2.1⟩ : Dcm) (fun q0 => k (.int .i64 q0) [])
noncomputable def ref01_Compare_E (R : Type) (ref01_Right : ref01_Right_ty R) (ref01_parts : ref01_parts_ty R) : Env R := fun i => match i with
  | 41 => some (true, (specBy ref01_Right_p ref01_Right_q (ref01_Right_rr ref01_Right) specNo))
  | 71 => some (true, (specBy ref01_parts_p ref01_parts_q (ref01_parts_rr ref01_parts) specNo))
  | _ => none
theorem ref01_Compare_EOk (R : Type) : EOk Tryd.prog (ref01_Compare_E R ref01_Right ref01_parts) := by
  intro i b sp h
  unfold ref01_Compare_E at h
  split at h
  · cases h; exact ⟨(ref01_Right_S_ok R _ (specNo_ok _)), fun h => nomatch h⟩
  · cases h; exact ⟨(ref01_parts_S_ok R _ (specNo_ok _)), fun h => nomatch h⟩
  · cases h

noncomputable def ref01_Compare_T (R : Type) : Nat → Option (Hint × LSpec R) := fun i => match i with
  | _ => none

noncomputable def ref01_Compare_X {R : Type} (ref01_Right : ref01_Right_ty R) (ref01_parts : ref01_parts_ty R) (x1 : Dcm) (x2 : Dcm) (k0 : Int → Option R) : Option R :=
  ref01_Right x1 (fun y3 => ref01_Right x2 (fun y4 => bif (!y3) then (k0 0) else (bif (!y4) then (k0 0) else (bif (x1.mant == x2.mant && (x1.exp == x2.exp && true)) then (k0 0) else (let j17 := bif (decide (x1.mant ≥ (0 : Int))) then (bif (decide (x2.mant < (0 : Int))) then (k0 1) else (ref01_parts x1 (fun y11 => ref01_parts x2 (fun y12 => bif (decide (x1.mant < (0 : Int))) then (bif (!(bytesLt y11 y12)) then (k0 (-1)) else (k0 1)) else (bif (bytesLt y11 y12) then (k0 (-1)) else (k0 1)))))) else (ref01_parts x1 (fun y14 => ref01_parts x2 (fun y15 => bif (decide (x1.mant < (0 : Int))) then (bif (!(bytesLt y14 y15)) then (k0 (-1)) else (k0 1)) else (bif (bytesLt y14 y15) then (k0 (-1)) else (k0 1))))); bif (decide (x1.mant < (0 : Int))) then (bif (decide (x2.mant ≥ (0 : Int))) then (k0 (-1)) else (j17)) else (j17))))))
noncomputable def ref01_Compare {R : Type} : ref01_Compare_ty R := fun x1 x2 k0 => ref01_Compare_X ref01_Right ref01_parts x1 x2 k0
theorem ref01_Compare_ok {R : Type} (ref01_Right : ref01_Right_ty R) (ref01_parts : ref01_parts_ty R) (x1 : Dcm) (x2 : Dcm) (k : V → Heap → Option R) : funK tt (ref01_Compare_E R ref01_Right ref01_parts) (ref01_Compare_T R) false Tryd.f43 (codeOf Tryd.f43) [.agg [.int .i64 x1.mant, .int .i64 x1.exp], .agg [.int .i64 x2.mant, .int .i64 x2.exp]] [] k =
    ref01_Compare_X ref01_Right ref01_parts x1 x2 (fun q0 => k (.int .i64 q0) []) := by kernel_rfl
theorem ref01_Compare_loops (R : Type) : ∀ a ∈ loopsOf (codeOf Tryd.f43), LoopOk tt (ref01_Compare_E R ref01_Right ref01_parts) (ref01_Compare_T R) 0 a := by
  refine loops_ok 0 (by kernel_rfl) fun i hi => ?_
  omega
theorem ref01_Compare_S_ok (R : Type) (other : Yard.Spec R) (ho : Yard.Spec.Ok Tryd.prog 43 other) : Yard.Spec.Ok Tryd.prog 43 (specBy ref01_Compare_p ref01_Compare_q (ref01_Compare_rr ref01_Compare) other) :=
  specBy_ok ho (funK_sound TT mixed (ref01_Compare_EOk R) (keep := false) rfl rfl rfl rfl 0 (ref01_Compare_loops R)) fun (x : Pat.dens ref01_Compare_p) (y : HPat.dens ref01_Compare_q) k => ref01_Compare_ok ref01_Right ref01_parts (⟨x.1.1, x.1.2.1⟩ : Dcm) (⟨x.2.1.1, x.2.1.2.1⟩ : Dcm) k

end Go.Proofs.YtifgegmnngfckaaDoor

set_option linter.unusedVariables false
set_option maxRecDepth 100000
namespace Go.Proofs.YtifgegmnngfckaaDoor
open Go Go.Yard Go.Lib

theorem refText_N {R : Type} (k : Str → Option R) : ∀ (F n : Nat), n < F → n < 1000000000000000000 → ∀ k : Str → Option R, ref01_text_N F (n : Int) k = k (decDigits n) := by
  intro F
  induction F with
  | zero => intro n h; omega
  | succ F ih =>
    intro n h1 h2 k
    have e : ref01_text_N (F + 1) (n : Int) k = ref01_text_X (ref01_text_N F) (n : Int) k := rfl
    rw [e]
    unfold ref01_text_X
    have htm : Int.tmod (n : Int) 10 = ((n % 10 : Nat) : Int) := by rw [Int.tmod_eq_emod_of_nonneg (by omega)]; omega
    have htd : Int.tdiv (n : Int) 10 = ((n / 10 : Nat) : Int) := by rw [Int.tdiv_eq_ediv_of_nonneg (by omega)]; omega
    have w1 : IntKind.i64.wrap (48 + ((n % 10 : Nat) : Int)) = ((48 + n % 10 : Nat) : Int) := by rw [wrap_id (by omega) (by omega)]; omega
    have hb : (List.map (fun n : Int => UInt8.ofNat n.toNat) ([(IntKind.u8.wrap (IntKind.i64.wrap (48 + (Int.tmod (n : Int) 10))))] : List Int) : Str) = [UInt8.ofNat (48 + n % 10)] := by
      rw [htm, w1, wrap8, Nat.mod_eq_of_lt (by omega)]
      rfl
    rw [hb, htd, wrap_id (n := ((n / 10 : Nat) : Int)) (by omega) (by omega)]
    by_cases h : n < 10
    · rw [dfalse (show ¬ (n : Int) ≥ 10 by omega), cond_false, decDigits, dif_pos h, Nat.mod_eq_of_lt h]
    · rw [dtrue (show (n : Int) ≥ 10 by omega), cond_true, ih (n / 10) (by omega) (by omega)]
      have hl := nDigits_le20 (n / 10) (by omega)
      rw [← decDigits_length] at hl
      rw [chk_pos (dtrue (by simp only [List.length_cons, List.length_nil]; omega))]
      conv => rhs; rw [decDigits, dif_neg h]

theorem refText_ok {R : Type} (n : Nat) (h : n < 1000000000000000000) (k : Str → Option R) : ref01_text (n : Int) k = k (decDigits n) := by
  have e : ref01_text (n : Int) k = ref01_text_N (Int.natAbs (n : Int) + 2) (n : Int) k := rfl
  rw [e]
  exact refText_N k _ n (by omega) h k

theorem refPrint6 {R : Type} (d : Dcm) (hd : d.exp ≤ 1000) (e0 : Str → Dcm → Option R) : ∀ (n i : Nat) (y : Str), d.exp.toNat - i < n → y.length ≤ 100000 + i → i ≤ 2000 →
    ref01_Print_6_0_L n y (i : Int) d e0 = e0 (y ++ zeros (d.exp.toNat - i)) d := by
  intro n
  induction n with
  | zero => intro i y h; omega
  | succ n ih =>
    intro i y h hy hi
    rw [ref01_Print_6_0_L]
    unfold ref01_Print_6_0_B
    by_cases hlt : (i : Int) < d.exp
    · rw [dtrue hlt, cond_true, chk_pos (dtrue (by omega)), wrap_id (n := (i : Int) + 1) (by omega) (by omega)]
      refine (ih (i + 1) (y ++ [48]) (by omega) (by simp; omega) (by omega)).trans ?_
      have e : d.exp.toNat - i = (d.exp.toNat - (i + 1)) + 1 := by omega
      have e2 : ([48] : Str) ++ zeros (d.exp.toNat - (i + 1)) = zeros (d.exp.toNat - (i + 1) + 1) := by
        have := zeros_add 1 (d.exp.toNat - (i + 1))
        rw [Nat.add_comm 1] at this
        exact this
      rw [List.append_assoc, e2, ← e]
    · rw [dfalse hlt, cond_false]
      have e : d.exp.toNat - i = 0 := by omega
      have z0 : zeros 0 = [] := rfl
      rw [e, z0, List.append_nil]

theorem refPrint10 {R : Type} (d : Dcm) (hd : -1000 ≤ d.exp ∧ d.exp ≤ 1000) (e0 : Str → Dcm → Option R) : ∀ (n : Nat) (y : Str), (1 - d.exp - (y.length : Int)).toNat < n → y.length ≤ 100000 →
    ref01_Print_10_0_L n y d e0 = e0 (zeros (1 - d.exp - (y.length : Int)).toNat ++ y) d := by
  intro n
  induction n with
  | zero => intro y h; omega
  | succ n ih =>
    intro y h hy
    rw [ref01_Print_10_0_L]
    unfold ref01_Print_10_0_B
    rw [wrap_id (n := 0 - d.exp) (by omega) (by omega)]
    by_cases hle : (y.length : Int) ≤ 0 - d.exp
    · rw [dtrue hle, cond_true, chk_pos (dtrue (by omega))]
      have hl : (([48] : Str) ++ y).length = y.length + 1 := by simp
      refine (ih (([48] : Str) ++ y) (by rw [hl]; omega) (by rw [hl]; omega)).trans ?_
      rw [hl]
      have e : (1 - d.exp - (y.length : Int)).toNat = (1 - d.exp - ((y.length + 1 : Nat) : Int)).toNat + 1 := by omega
      rw [e, ← zeros_snoc, List.append_assoc]
    · rw [dfalse hle, cond_false]
      have e : (1 - d.exp - (y.length : Int)).toNat = 0 := by omega
      rw [e]
      rfl

theorem refPrint_ok {R : Type} {d : Dcm} (hd : Fm d) (k : Str → Option R) : ref01_Print d k = k (prt d) := by
  have bd := hd.bounds
  have e : ref01_Print d k = ref01_Print_X ref01_Right ref01_text ref01_Print_6_0_L ref01_Print_10_0_L d k := rfl
  rw [e]
  unfold ref01_Print_X
  rw [refRight_any d (by unfold I64; omega) (by unfold I64; omega), fmB_iff.2 hd, Bool.not_true, cond_false, wrap_id (n := 0 - d.mant) (by omega) (by omega)]
  have hm : max d.mant (0 - d.mant) = (d.mant.natAbs : Int) := by omega
  have hlen : (decDigits d.mant.natAbs).length ≤ 16 := by rw [decDigits_length]; exact digits16 (by omega)
  rw [hm, refText_ok _ (by omega)]
  unfold prt
  generalize decDigits d.mant.natAbs = L at *
  have key := refPrint6 (R := R) d (by omega)
  have c0 : ((0 : Nat) : Int) = 0 := rfl
  have key0 := fun (e0 : Str → Dcm → Option R) (F : Nat) (hF : 20 ≤ F) => key e0 F 0 L (by omega) (by omega) (by omega)
  rw [c0] at key0
  rw [key0 _ _ (by omega), Nat.sub_zero]
  by_cases he : d.exp < 0
  · have z0 : zeros d.exp.toNat = [] := by rw [show d.exp.toNat = 0 by omega]; rfl
    rw [dtrue he, cond_true, z0, List.append_nil, refPrint10 d (by omega) _ _ _ (by omega) (by omega)]
    unfold body
    rw [if_neg (show ¬ 0 ≤ d.exp by omega)]
    have ez : (max 0 (1 - d.exp - (L.length : Int))).toNat = (1 - d.exp - (L.length : Int)).toNat := by omega
    simp only [ez]
    have hzl : (zeros (1 - d.exp - (L.length : Int)).toNat ++ L).length = (1 - d.exp - (L.length : Int)).toNat + L.length := by rw [List.length_append, zeros_len]
    generalize zeros (1 - d.exp - (L.length : Int)).toNat ++ L = t at *
    have hb : 0 ≤ (t.length : Int) + d.exp := by omega
    rw [wrap_id (n := (t.length : Int) + d.exp) (by omega) (by omega)]
    simp only [List.drop_zero, Nat.sub_zero, Int.toNat_natCast]
    have l1 : (t.take ((t.length : Int) + d.exp).toNat).length ≤ t.length := by rw [List.length_take]; omega
    have et : (t.drop ((t.length : Int) + d.exp).toNat).take (t.length - ((t.length : Int) + d.exp).toNat) = t.drop ((t.length : Int) + d.exp).toNat := List.take_of_length_le (by rw [List.length_drop]; exact Nat.le_refl _)
    have l2 : (t.drop ((t.length : Int) + d.exp).toNat).length ≤ t.length := by rw [List.length_drop]; omega
    have lapp : ∀ a b : Str, (a ++ b).length = a.length + b.length := fun a b => List.length_append
    have lone : ([46] : Str).length = 1 := rfl
    rw [et, chk_pos (by rw [dtrue hb, dtrue (by omega)]; rfl), chk_pos (dtrue hb), chk_pos (dtrue (by omega)), chk_pos (by rw [dtrue (by omega), dtrue (by omega)]; rfl), chk_pos (by rw [dtrue hb, dtrue (by omega)]; rfl), chk_pos (dtrue (by rw [lapp, lone]; omega))]
    by_cases hn : d.mant < 0
    · rw [dtrue hn, cond_true, if_pos hn, chk_pos (dtrue (by rw [lapp, lapp, lone]; omega))]
    · rw [dfalse hn, cond_false, if_neg hn, List.nil_append]
  · rw [dfalse he, cond_false]
    unfold body
    rw [if_pos (show 0 ≤ d.exp by omega)]
    by_cases hn : d.mant < 0
    · rw [dtrue hn, cond_true, if_pos hn, chk_pos (dtrue (by rw [List.length_append, zeros_len]; omega))]
    · rw [dfalse hn, cond_false, if_neg hn, List.nil_append]

theorem print_bad {R : Type} {d : Dcm} (hd : fmB d = false) (k : Str → Option R) : decimal_Print d k = k [] := by
  have e : decimal_Print d k = decimal_Print_X decimal_Right strings_Builder_WriteByte_b66c strings_Builder_WriteString_df1e strings_Builder_WriteString_fb8e d k := rfl
  rw [e]
  unfold decimal_Print_X
  rw [right_any, hd]
  rfl
theorem refPrint_bad {R : Type} {d : Dcm} (hm : I64 d.mant) (he : I64 d.exp) (hd : fmB d = false) (k : Str → Option R) : ref01_Print d k = k [] := by
  have e : ref01_Print d k = ref01_Print_X ref01_Right ref01_text ref01_Print_6_0_L ref01_Print_10_0_L d k := rfl
  rw [e]
  unfold ref01_Print_X
  rw [refRight_any d hm he, hd]
  rfl
def prtA (d : Dcm) : Str := if fmB d then prt d else []
theorem print_any {R : Type} (d : Dcm) (k : Str → Option R) : decimal_Print d k = k (prtA d) := by
  unfold prtA
  cases h : fmB d with
  | true => rw [print_ok (fmB_iff.1 h)]; rfl
  | false => rw [print_bad h]; rfl
theorem refPrint_any {R : Type} (d : Dcm) (hm : I64 d.mant) (he : I64 d.exp) (k : Str → Option R) : ref01_Print d k = k (prtA d) := by
  unfold prtA
  cases h : fmB d with
  | true => rw [refPrint_ok (fmB_iff.1 h)]; rfl
  | false => rw [refPrint_bad hm he h]; rfl
end Go.Proofs.YtifgegmnngfckaaDoor

set_option linter.unusedVariables false
set_option maxRecDepth 100000
namespace Go.Proofs.YtifgegmnngfckaaDoor
open Go Go.Yard Go.Lib

theorem val_inj {x y : Dcm} (hx : Fm x) (hy : Fm y) (h : val x = val y) : x = y := by
  have zero : ∀ {d : Dcm}, Fm d → val d = 0 → d = ⟨0, 0⟩ := fun {d} hd h => by
    unfold val at h
    have hp := pow_pos10 (d.exp + 9).toNat
    rcases Int.mul_eq_zero.1 h with h | h
    · exact hd.zero h
    · omega
  by_cases x0 : x.mant = 0
  · have hx' := hx.zero x0
    have v0 : val x = 0 := by rw [hx']; rfl
    rw [hx', zero hy (by rw [← h, v0])]
  · by_cases y0 : y.mant = 0
    · have hy' := hy.zero y0
      have v0 : val y = 0 := by rw [hy']; rfl
      rw [hy', zero hx (by rw [h, v0])]
    · have bx := hx.bounds
      have by' := hy.bounds
      unfold val at h
      obtain ⟨h1, h2⟩ := strip_one _ _ _ _ (hx.nz x0) (hy.nz y0) h
      obtain ⟨xm, xe⟩ := x
      obtain ⟨ym, ye⟩ := y
      simp only at h1 h2 bx by'
      subst h2
      have : xe = ye := by omega
      rw [this]

theorem sgn3 (z : Int) : (z < 0 ∧ sgn z = -1) ∨ (z = 0 ∧ sgn z = 0) ∨ (0 < z ∧ sgn z = 1) := by
  unfold sgn
  by_cases h1 : z < 0
  · exact .inl ⟨h1, by rw [if_pos h1]⟩
  · by_cases h2 : z > 0
    · exact .inr (.inr ⟨h2, by rw [if_neg h1, if_pos h2]⟩)
    · exact .inr (.inl ⟨by omega, by rw [if_neg h1, if_neg h2]⟩)

end Go.Proofs.YtifgegmnngfckaaDoor

