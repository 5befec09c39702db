/-
  DecimalSame: for every input whose bulk is at most 1048576 the law returns true, and each argument reads behind the call as it read before; part 8 of 8 of the proof: an interpreter of the model's code over typed data, proved sound; the functions that the law reaches, printed as Lean functions and tied; the plain law. Own texts laid one behind the other.
-/
import Derived.Test.YtifgegmnngfckaaDoorDecimalSameB7
set_option linter.unusedSimpArgs false
set_option linter.unnecessarySimpa false
set_option linter.unusedVariables false
set_option linter.unusedSectionVars false
set_option linter.unusedVariables false
set_option maxRecDepth 100000
namespace Go.Proofs.YtifgegmnngfckaaDoor
open Go Go.Yard Go.Lib

theorem zeros_add (a b : Nat) : zeros a ++ zeros b = zeros (a + b) := by unfold zeros; rw [List.replicate_append_replicate]
theorem zeros_dig (n : Nat) : ∀ x ∈ zeros n, isDig x := fun x hx => by
  have := List.eq_of_mem_replicate hx
  subst this; unfold isDig; decide

theorem parse_noughts {R : Type} {d : Dcm} (hd : Fm d) (n : Nat) (hn : n ≤ 30) (s : Str) (hs : (46 ∈ prt d ∧ s = prt d ++ zeros n) ∨ (46 ∉ prt d ∧ s = prt d ++ [46, 48] ++ zeros n)) (k : Dcm → Bool → Option R) : decimal_Parse s k = k d true := by
  have bd := hd.bounds
  by_cases h0 : d.mant = 0
  · have hz := hd.zero h0
    subst hz
    rw [prt_zero] at hs
    rcases hs with ⟨h1, _⟩ | ⟨_, rfl⟩
    · simp at h1
    · have key := parse_ok (R := R) false [48] (zeros (n + 1)) [] true 0 (by intro x hx; simp at hx; subst hx; unfold isDig; decide) (by simp) (by simp) (zeros_dig _) (fun _ => by simp [zeros, List.replicate_succ]) (by simp) (.inl ⟨rfl, rfl⟩) (by omega) (by simp [zeros]; omega)
      have e1 : trimL ([48] ++ zeros (n + 1)) [48] = [] := by
        have := trimL_z (n + 2) [] (by simp)
        rw [List.append_nil] at this
        have e : ([48] : Str) ++ zeros (n + 1) = zeros (n + 2) := by simp [zeros, List.replicate_succ]
        rw [e, this]
      rw [e1] at key
      have e2 : trimR ([] : Str) [48] = [] := rfl
      rw [e2] at key
      have := key (by simp) k
      have e3 : ([48] ++ [46, 48] ++ zeros n : Str) = (if false = true then [45] else []) ++ ([48] ++ ((if true = true then 46 :: zeros (n + 1) else []) ++ [])) := by simp [zeros, List.replicate_succ]
      rw [e3, this]
      have e4 : atoiVal (48 :: ([] : Str)) = 0 := by decide +kernel
      rw [e4]
      exact make_zero _ k
  · obtain ⟨I, F, pt, a, b, e1, e2, i0, i1, f0, f1, fl, il, iD, fD⟩ := prt_parts d hd h0
    have hlen : (decDigits d.mant.natAbs).length ≤ 16 := by rw [decDigits_length]; exact digits16 (by omega)
    have no46 : ∀ l : Str, (∀ x ∈ l, isDig x) → 46 ∉ l := fun l hl h => by have := (hl 46 h).1; exact absurd this (by decide)
    have dotin : 46 ∈ prt d ↔ pt = true := by
      rw [e1]
      cases pt with
      | true => simp
      | false =>
        simp only [Bool.false_eq_true, if_false, List.append_nil, iff_false]
        intro h
        rcases List.mem_append.1 h with h | h
        · split at h <;> simp at h
        · exact no46 I iD h
    -- the digits behind the point, now
    have fin : ∀ (F' : Str) (m : Nat), (∀ x ∈ F', isDig x) → F' ≠ [] → I ++ F' = zeros a ++ (decDigits d.mant.natAbs ++ zeros (b + m)) → (F'.length : Int) = (b : Int) + m - d.exp → m ≤ 40 → s = (if decide (d.mant < 0) then [45] else []) ++ (I ++ (46 :: F')) → decimal_Parse s k = k d true := by
      intro F' m hF' hF0 hall hFl hm hs'
      obtain ⟨t1, t2⟩ := trims (u := d.mant.natAbs) (tmod_abs (hd.nz h0)) a (b + m)
      have hl : I.length + F'.length ≤ 100 := by omega
      have key := parse_ok (R := R) (decide (d.mant < 0)) I F' [] true 0 iD i0 i1 hF' (fun _ => hF0) (by simp) (.inl ⟨rfl, rfl⟩) (by omega) (by
        cases hd2 : decide (d.mant < 0) <;> simp <;> omega) (by rw [hall, t1, t2]; omega) k
      have e3 : s = (if decide (d.mant < 0) then [45] else []) ++ (I ++ ((if true then 46 :: F' else []) ++ [])) := by rw [hs']; simp
      rw [e3, key, hall, t1, t2, atoi_dec _ (by omega)]
      have e4 : (if decide (d.mant < 0) = true then IntKind.i64.wrap (0 - (d.mant.natAbs : Int)) else (d.mant.natAbs : Int)) = d.mant := by
        by_cases h : d.mant < 0
        · rw [if_pos (by rw [dtrue h]), wrap_id (by omega) (by omega)]; omega
        · rw [if_neg (by rw [dfalse h]; simp)]; omega
      have e5 : -(F'.length : Int) + 0 + (((decDigits d.mant.natAbs ++ zeros (b + m)).length : Int) - ((decDigits d.mant.natAbs).length : Int)) = d.exp := by
        rw [List.length_append, zeros_len]
        omega
      rw [e4, e5, make_same hd h0]
    rcases hs with ⟨h1, hs⟩ | ⟨h1, hs⟩
    · have hp := dotin.1 h1
      subst hp
      refine fin (F ++ zeros n) n (fun x hx => (List.mem_append.1 hx).elim (fD x) (zeros_dig n x)) (by simp [f0 rfl]) ?_ (by rw [List.length_append, zeros_len]; omega) (by omega) ?_
      · rw [← List.append_assoc, e2, List.append_assoc, List.append_assoc, zeros_add]
      · rw [hs, e1]; simp
    · have hp : pt = false := by
        cases pt with
        | true => exact (h1 (dotin.2 rfl)).elim
        | false => rfl
      subst hp
      have hF := f1 rfl
      subst hF
      rw [List.append_nil] at e2
      refine fin (zeros (n + 1)) (n + 1) (zeros_dig _) (by simp [zeros, List.replicate_succ]) ?_ (by rw [zeros_len]; simp at fl; omega) (by omega) ?_
      · rw [e2, List.append_assoc, List.append_assoc, zeros_add]
      · rw [hs, e1]; simp [zeros, List.replicate_succ]

theorem exp_e0 {R : Type} (f : Int → Bool → Str → Option R) : decimal_reader_exponent_abbd [48] f = f 0 true [] := by kernel_rfl
theorem exp_E00 {R : Type} (f : Int → Bool → Str → Option R) : decimal_reader_exponent_abbd [43, 48, 48] f = f 0 true [] := by kernel_rfl
theorem exp_n0 {R : Type} (f : Int → Bool → Str → Option R) : decimal_reader_exponent_abbd [45, 48] f = f 0 true [] := by kernel_rfl
theorem exp_n1 {R : Type} (f : Int → Bool → Str → Option R) : decimal_reader_exponent_abbd [45, 49] f = f (-1) true [] := by kernel_rfl
theorem exp_n2 {R : Type} (f : Int → Bool → Str → Option R) : decimal_reader_exponent_abbd [45, 50] f = f (-2) true [] := by kernel_rfl
theorem exp_n3 {R : Type} (f : Int → Bool → Str → Option R) : decimal_reader_exponent_abbd [45, 51] f = f (-3) true [] := by kernel_rfl
theorem exp_n4 {R : Type} (f : Int → Bool → Str → Option R) : decimal_reader_exponent_abbd [45, 52] f = f (-4) true [] := by kernel_rfl
theorem exp_n5 {R : Type} (f : Int → Bool → Str → Option R) : decimal_reader_exponent_abbd [45, 53] f = f (-5) true [] := by kernel_rfl
theorem exp_n6 {R : Type} (f : Int → Bool → Str → Option R) : decimal_reader_exponent_abbd [45, 54] f = f (-6) true [] := by kernel_rfl
theorem exp_n7 {R : Type} (f : Int → Bool → Str → Option R) : decimal_reader_exponent_abbd [45, 55] f = f (-7) true [] := by kernel_rfl
theorem exp_n8 {R : Type} (f : Int → Bool → Str → Option R) : decimal_reader_exponent_abbd [45, 56] f = f (-8) true [] := by kernel_rfl
theorem exp_neg {R : Type} (n : Nat) (hn : n < 9) (f : Int → Bool → Str → Option R) : decimal_reader_exponent_abbd [45, UInt8.ofNat (48 + n)] f = f (-(n : Int)) true [] := by
  match n, hn with
  | 0, _ => exact exp_n0 f
  | 1, _ => exact exp_n1 f
  | 2, _ => exact exp_n2 f
  | 3, _ => exact exp_n3 f
  | 4, _ => exact exp_n4 f
  | 5, _ => exact exp_n5 f
  | 6, _ => exact exp_n6 f
  | 7, _ => exact exp_n7 f
  | 8, _ => exact exp_n8 f
  | n + 9, h => omega

theorem parse_exp {R : Type} {d : Dcm} (hd : Fm d) (b : UInt8) (Y : Str) (ev : Int) (hb : b = 101 ∨ b = 69) (hE : ∀ f : Int → Bool → Str → Option R, decimal_reader_exponent_abbd Y f = f ev true []) (hev : -1000000 ≤ ev ∧ ev ≤ 1000000) (hY : Y.length ≤ 50) (k : Dcm → Bool → Option R) :
    decimal_Parse (prt d ++ (b :: Y)) k = decimal_Make d.mant (d.exp + ev) k := by
  by_cases h0 : d.mant = 0
  · have hz := hd.zero h0
    subst hz
    rw [prt_zero]
    have key := parse_ok (R := R) false [48] [] (b :: Y) false ev (by intro x hx; simp at hx; subst hx; unfold isDig; decide) (by simp) (by simp) (by simp) (by simp) (fun _ => rfl) (.inr ⟨b, Y, rfl, hb, hE⟩) hev (by simp; omega)
    have e1 : trimL (([48] : Str) ++ []) [48] = [] := rfl
    have e2 : trimR ([] : Str) [48] = [] := rfl
    rw [e1, e2] at key
    have := key (by simp) k
    have e3 : ([48] ++ (b :: Y) : Str) = (if false = true then [45] else []) ++ ([48] ++ ((if false = true then 46 :: [] else []) ++ (b :: Y))) := by simp
    rw [e3, this]
    have e4 : atoiVal (48 :: ([] : Str)) = 0 := by decide +kernel
    rw [e4]
    show decimal_Make 0 _ k = decimal_Make 0 _ k
    rw [make_zero, make_zero]
  · exact parse_prt hd h0 (b :: Y) ev (.inr ⟨b, Y, rfl, hb, hE⟩) hev (by simp; omega) k

theorem dot_loop {R : Type} (a b : Int) (y : Bool) (s : Str) (d : Dcm) (hs : s.length ≤ 1000) (e0 : Int → Int → Bool → Str → Bool → Dcm → Option R) : ∀ (n i : Nat) (p : Bool), s.length - i < n → i ≤ s.length →
    law01_DecimalSame_6_0_L n a b y s p (i : Int) d e0 = e0 a b y s (p || (s.drop i).contains 46) d := by
  intro n
  induction n with
  | zero => intro i p h; omega
  | succ n ih =>
    intro i p h hi
    have e : law01_DecimalSame_6_0_L (n + 1) a b y s p (i : Int) d e0 = law01_DecimalSame_6_0_B (fun x0' x1' x2' x3' x4' x5' x6' => law01_DecimalSame_6_0_L n x0' x1' x2' x3' x4' x5' x6' e0) a b y s p (i : Int) d e0 := rfl
    rw [e]
    unfold law01_DecimalSame_6_0_B
    by_cases hlt : i < s.length
    · have w1 : IntKind.i64.wrap ((i : Int) + 1) = ((i + 1 : Nat) : Int) := by rw [wrap_id (by omega) (by omega)]; omega
      rw [dtrue (show (i : Int) < (s.length : Int) by omega), cond_true, w1]
      cases p with
      | true =>
        rw [cond_true]
        refine (ih (i + 1) true (by omega) (by omega)).trans ?_
        rw [Bool.true_or, Bool.true_or]
      | false =>
        rw [cond_false, chk_pos (by rw [dtrue (show (0 : Int) ≤ (i : Int) by omega)]; rfl), Int.toNat_natCast]
        have q : (((s.getD i 0).toNat : Int) == 46) = ((46 : UInt8) == s.getD i 0) := by
          rw [show (46 : UInt8) = UInt8.ofNat 46 from rfl, beqN _ 46 (by omega)]
          exact eqI _ 46
        rw [q]
        refine (ih (i + 1) _ (by omega) (by omega)).trans ?_
        rw [drop_cons hlt, List.contains_cons, Bool.false_or]
    · rw [dfalse (show ¬ (i : Int) < (s.length : Int) by omega), cond_false]
      have : s.drop i = [] := List.drop_eq_nil_of_le (by omega)
      rw [this]
      simp

theorem nought_loop {R : Type} {nr p : Int} (p0 : 0 ≤ p) (p1 : p < 21) (hp : ∀ k : Int → Option R, law01_pick nr 21 k = k p) (b : Int) (y : Bool) (s : Str) (d : Dcm) (e0 : Int → Bool → Str → Str → Dcm → Option R) : ∀ (n i : Nat) (t : Str), p.toNat - i < n → (i : Int) ≤ p → t.length ≤ 1000 + i →
    law01_DecimalSame_13_0_L n nr b y s t (i : Int) d e0 = e0 b y s (t ++ zeros (p.toNat - i)) d := by
  intro n
  induction n with
  | zero => intro i t h; omega
  | succ n ih =>
    intro i t h hi ht
    have e : law01_DecimalSame_13_0_L (n + 1) nr b y s t (i : Int) d e0 = law01_DecimalSame_13_0_B law01_pick (fun x0' x1' x2' x3' x4' x5' x6' => law01_DecimalSame_13_0_L n x0' x1' x2' x3' x4' x5' x6' e0) nr b y s t (i : Int) d e0 := rfl
    rw [e]
    unfold law01_DecimalSame_13_0_B
    rw [hp]
    by_cases hlt : (i : Int) < p
    · have w1 : IntKind.i64.wrap ((i : Int) + 1) = ((i + 1 : Nat) : Int) := by rw [wrap_id (by omega) (by omega)]; omega
      rw [dtrue hlt, cond_true, chk_pos (dtrue (by omega)), w1]
      refine (ih (i + 1) (t ++ [48]) (by omega) (by omega) (by simp; omega)).trans ?_
      have e2 : t ++ [48] ++ zeros (p.toNat - (i + 1)) = t ++ zeros (p.toNat - i) := by
        rw [List.append_assoc]
        congr 1
        have : p.toNat - i = 1 + (p.toNat - (i + 1)) := by omega
        rw [this, ← zeros_add]
        rfl
      rw [e2]
    · have e2 : p.toNat - i = 0 := by omega
      rw [dfalse hlt, cond_false, e2]
      simp [zeros]

theorem contains_mem (s : Str) : s.contains 46 = decide (46 ∈ s) := by
  by_cases h : 46 ∈ s <;> simp [h]

theorem prt_len (d : Dcm) (hd : Fm d) : (prt d).length ≤ 40 := by
  obtain ⟨z, hz, z1, z2, _⟩ := body_ok d hd
  unfold prt
  rw [← hz, List.length_append]
  split <;> simp <;> omega

theorem decimalSame_true {R : Type} (mant ex nr en : Int) (hm : Small 1048576 (.int .i64 mant)) (he : Small 1048576 (.int .i64 ex)) (hn : Small 1048576 (.int .i64 nr)) (hen : Small 1048576 (.int .i64 en)) (k : Bool → Option R) :
    law01_DecimalSame mant ex nr en k = k true := by
  have e : law01_DecimalSame mant ex nr en k = law01_DecimalSame_X law01_awake law01_Fit decimal_Print decimal_Parse law01_pick decimal_Make law01_DecimalSame_6_0_L law01_DecimalSame_13_0_L mant ex nr en k := rfl
  rw [e]
  unfold law01_DecimalSame_X
  rw [awake01]
  obtain ⟨d, hd, hf⟩ := fit_ok (R := R) mant ex (i64_has.1 hm.int_inv) (i64_has.1 he.int_inv)
  obtain ⟨p, p0, p1, hp⟩ := pick01 (R := R) nr 21 (i64_has.1 hn.int_inv) (by omega) (by omega)
  obtain ⟨q, q0, q1, hq⟩ := pick01 (R := R) en 9 (i64_has.1 hen.int_inv) (by omega) (by omega)
  obtain ⟨c, rfl⟩ := Int.eq_ofNat_of_zero_le q0
  have bd := hd.bounds
  have hl := prt_len d hd
  rw [hf, print_ok hd]
  have dl := dot_loop (R := R) nr en true (prt d) d (by omega)
  -- behind both loops
  have tail : ∀ (z : Str), ((46 ∈ prt d ∧ z = prt d) ∨ (46 ∉ prt d ∧ z = prt d ++ [46, 48])) → ∀ F : Nat, 30 < F →
      law01_DecimalSame_13_0_L F nr en true (prt d) z 0 d (fun y31 y32 y33 y34 y35 => decimal_Parse y34 (fun y36 y37 => chk (decide (y33.length + 2 ≤ 9223372036854775807)) (decimal_Parse (y33 ++ ([101, 48] : Str)) (fun y38 y39 => chk (decide (y33.length + 4 ≤ 9223372036854775807)) (decimal_Parse (y33 ++ ([69, 43, 48, 48] : Str)) (fun y40 y41 => law01_pick y31 9 (fun y42 => chk (decide (y33.length + 2 ≤ 9223372036854775807)) (chk (decide ((y33 ++ ([101, 45] : Str)).length + (List.map (fun n : Int => UInt8.ofNat n.toNat) ([(IntKind.u8.wrap (IntKind.i64.wrap (48 + y42)))] : List Int) : Str).length ≤ 9223372036854775807)) (decimal_Parse ((y33 ++ ([101, 45] : Str)) ++ (List.map (fun n : Int => UInt8.ofNat n.toNat) ([(IntKind.u8.wrap (IntKind.i64.wrap (48 + y42)))] : List Int) : Str)) (fun y43 y44 => decimal_Make y35.mant (IntKind.i64.wrap (y35.exp - y42)) (fun y45 y46 => bif y32 then (bif y37 then (bif y39 then (bif y41 then (bif (y36.mant == y35.mant && (y36.exp == y35.exp && true)) then (bif (y38.mant == y35.mant && (y38.exp == y35.exp && true)) then (bif (y40.mant == y35.mant && (y40.exp == y35.exp && true)) then (bif (y44 == y46) then (k (y43.mant == y45.mant && (y43.exp == y45.exp && true))) else (k false)) else (k false)) else (k false)) else (k false)) else (k false)) else (k false)) else (k false)) else (k false)))))))))))) = k true := by
    intro z hz F hF
    have hzl : z.length ≤ 1000 + 0 := by rcases hz with ⟨_, rfl⟩ | ⟨_, rfl⟩ <;> simp <;> omega
    refine (nought_loop p0 p1 hp en true (prt d) d _ F 0 z (by omega) (by omega) hzl).trans ?_
    rw [Nat.sub_zero]
    have h1 : ∀ f : Dcm → Bool → Option R, decimal_Parse (z ++ zeros p.toNat) f = f d true := fun f =>
      parse_noughts hd p.toNat (by omega) _ (by rcases hz with ⟨g, rfl⟩ | ⟨g, rfl⟩; exact .inl ⟨g, rfl⟩; exact .inr ⟨g, rfl⟩) f
    have same : ∀ f : Dcm → Bool → Option R, decimal_Make d.mant (d.exp + 0) f = f d true := fun f => by
      rw [Int.add_zero]
      by_cases h0 : d.mant = 0
      · rw [hd.zero h0]; exact make_zero _ f
      · exact make_same hd h0 f
    have h2 : ∀ f : Dcm → Bool → Option R, decimal_Parse (prt d ++ ([101, 48] : Str)) f = f d true := fun f => (parse_exp hd 101 [48] 0 (.inl rfl) exp_e0 (by omega) (by simp) f).trans (same f)
    have h3 : ∀ f : Dcm → Bool → Option R, decimal_Parse (prt d ++ ([69, 43, 48, 48] : Str)) f = f d true := fun f => (parse_exp hd 69 [43, 48, 48] 0 (.inr rfl) exp_E00 (by omega) (by simp) f).trans (same f)
    have hb : (List.map (fun n : Int => UInt8.ofNat n.toNat) ([(IntKind.u8.wrap (IntKind.i64.wrap (48 + (c : Int))))] : List Int) : Str) = [UInt8.ofNat (48 + c)] := by
      have e1 : (48 : Int) + (c : Int) = ((48 + c : Nat) : Int) := by omega
      rw [e1, wrap_id (n := ((48 + c : Nat) : Int)) (by omega) (by omega), wrap8, Nat.mod_eq_of_lt (by omega)]
      simp only [List.map_cons, List.map_nil, Int.toNat_natCast]
    have h4 : ∀ f : Dcm → Bool → Option R, decimal_Parse ((prt d ++ ([101, 45] : Str)) ++ [UInt8.ofNat (48 + c)]) f = decimal_Make d.mant (d.exp - (c : Int)) f := fun f => by
      have e1 : (prt d ++ ([101, 45] : Str)) ++ [UInt8.ofNat (48 + c)] = prt d ++ (101 :: [45, UInt8.ofNat (48 + c)]) := by simp
      rw [e1, parse_exp hd 101 [45, UInt8.ofNat (48 + c)] (-(c : Int)) (.inl rfl) (exp_neg c (by omega)) (by omega) (by simp) f]
      congr 1
    have we : IntKind.i64.wrap (d.exp - (c : Int)) = d.exp - (c : Int) := wrap_id (by omega) (by omega)
    obtain ⟨r, _, hr⟩ := make_any (R := R) d.mant (d.exp - (c : Int)) (by unfold I64; omega) (by omega) (by omega)
    have hl5 : ((prt d ++ ([101, 45] : Str)).length + ([UInt8.ofNat (48 + c)] : Str).length) ≤ 9223372036854775807 := by simp; omega
    simp only [h1]
    rw [chk_pos (dtrue (by omega)), h2, chk_pos (dtrue (by omega)), h3, hq, chk_pos (dtrue (by omega)), hb, chk_pos (dtrue hl5), h4, hr, we, hr]
    simp
  refine (dl _ _ 0 false (by omega) (by omega)).trans ?_
  rw [Bool.false_or, List.drop_zero, contains_mem]
  by_cases h46 : 46 ∈ prt d
  · rw [dtrue h46]
    exact tail (prt d) (.inl ⟨h46, rfl⟩) _ (by omega)
  · rw [dfalse h46]
    refine (chk_pos (dtrue (by omega))).trans ?_
    exact tail (prt d ++ [46, 48]) (.inr ⟨h46, rfl⟩) _ (by omega)
end Go.Proofs.YtifgegmnngfckaaDoor

set_option linter.unusedVariables false
set_option maxRecDepth 100000
namespace Go.Proofs.YtifgegmnngfckaaDoor.decimalSame
open Go.ChangeShapes Go.WideShapes Go.ChangeAt Go.RowKit Go.Yard Door

theorem run (a0 : Int) (a1 : Int) (a2 : Int) (a3 : Int) : specBy law01_DecimalSame_p law01_DecimalSame_q (law01_DecimalSame_rr law01_DecimalSame) specNo [.int .i64 a0, .int .i64 a1, .int .i64 a2, .int .i64 a3] [] kOk = law01_DecimalSame a0 a1 a2 a3 (fun q0 => kOk (.bool q0) []) := by kernel_rfl

theorem contract (H : Type) (enc : TypeId × Value → H) (W : World) (base : Nat) (args : Array Value) (ds gs : List (DataW H)) (before : List MemPlace)
    (hval : ∀ (j : Nat) t v, Tryd.f11.params[j]? = some t → args[j]? = some v → Value.okWide Tryd.prog W .any base t v)
    (hW : DataW.Whole enc Tryd.prog Tryd.f11.params.toList Rows.decimalSameSpec.vars false W args.toList ds gs before) (hL : laidMetH Tryd.prog Rows.decimalSameUptoRow.laid W) (hk : Rows.uptoSmall H (ds ++ gs) = true) :
    Calls Tryd.prog 11 args W fun e W' => ∃ v, e = .returned v ∧ Rows.decimalSameSpec.post enc Tryd.prog Tryd.f11 false true false false W args v W' := by
  have hW' := hW
  obtain ⟨p, q, hA0, hV, hpq, hfz, hnd⟩ := hW
  have hA : DataW.TrodAll enc Tryd.prog W 0 (fun _ => true) true [3, 3, 3, 3] args.toList ds p := hA0
  have hval : ∀ (j : Nat) t v, (#[3, 3, 3, 3] : Array Nat)[j]? = some t → args[j]? = some v → Value.okWide Tryd.prog W .any base t v := hval
  obtain ⟨v0, vs0, d0, ds0, p0, q0, hargs, rfl, rfl, h0, r0⟩ := trodAll_cons hA
  obtain ⟨v1, vs1, d1, ds1, p1, q1, rfl, rfl, rfl, h1, r1⟩ := trodAll_cons r0
  obtain ⟨v2, vs2, d2, ds2, p2, q2, rfl, rfl, rfl, h2, r2⟩ := trodAll_cons r1
  obtain ⟨v3, vs3, d3, ds3, p3, q3, rfl, rfl, rfl, h3, r3⟩ := trodAll_cons r2
  obtain ⟨rfl, rfl, rfl⟩ := trodAll_nil r3
  obtain rfl : args = #[v0, v1, v2, v3] := by cases args; simp_all
  have hV' : DataW.TrodVars enc Tryd.prog W (fun _ => true) [] gs q := hV
  obtain ⟨rfl, rfl⟩ := trodVars_none hV'
  have hb : Rows.uptoBulkAll ([d0, d1, d2, d3] ++ []) ≤ 1048576 := of_decide_eq_true hk
  simp only [List.append_nil, Rows.uptoBulkAll] at hb
  obtain ⟨a0, q0, s0⟩ := arg_one (p := .int .i64) (N := 1048576) leaves (by kernel_rfl) (by kernel_rfl) (hval 0 3 v0 rfl rfl) h0 (by omega) (Nat.le_of_ble_eq_true rfl)
  obtain ⟨a1, q1, s1⟩ := arg_one (p := .int .i64) (N := 1048576) leaves (by kernel_rfl) (by kernel_rfl) (hval 1 3 v1 rfl rfl) h1 (by omega) (Nat.le_of_ble_eq_true rfl)
  obtain ⟨a2, q2, s2⟩ := arg_one (p := .int .i64) (N := 1048576) leaves (by kernel_rfl) (by kernel_rfl) (hval 2 3 v2 rfl rfl) h2 (by omega) (Nat.le_of_ble_eq_true rfl)
  obtain ⟨a3, q3, s3⟩ := arg_one (p := .int .i64) (N := 1048576) leaves (by kernel_rfl) (by kernel_rfl) (hval 3 3 v3 rfl rfl) h3 (by omega) (Nat.le_of_ble_eq_true rfl)
  have ra : RepL W [] cfg0 [.int .i64 a0, .int .i64 a1, .int .i64 a2, .int .i64 a3] #[v0, v1, v2, v3].toList := (.cons q0 (.cons q1 (.cons q2 (.cons q3 .nil))))
  obtain ⟨hsays, hblocks⟩ := lay_met (W := W) hL
  refine (calls_true Tryd.func11 rfl rfl (law01_DecimalSame_S_ok Unit _ (specNo_ok _)) hsays hblocks ra ((run a0 a1 a2 a3).trans (decimalSame_true a0 a1 a2 a3 s0 s1 s2 s3 (fun q0 => kOk (.bool q0) [])))).mono fun e W' ⟨he, L⟩ => ⟨_, he, ?_⟩
  exact post_true (by kernel_rfl) (params_ok (by kernel_rfl)) rfl rfl rfl (show Tryd.prog.underlying 4 = some .bool by kernel_rfl) hW' L

theorem reads (os : Os) {H : Type} (enc : TypeId × Value → H) : (DataW.whole enc Tryd.prog ((laidWorld os).forCall (fun _ _ => 0) ⟨#[], #[.int .i64 0, .int .i64 0, .int .i64 0, .int .i64 0], []⟩).memory Tryd.f11.params.toList Rows.decimalSameSpec.vars false (#[.int .i64 0, .int .i64 0, .int .i64 0, .int .i64 0] : Array Value).toList 8).map (fun x => (x.1, x.2.1)) = some ([.lit (.int .i64 0), .lit (.int .i64 0), .lit (.int .i64 0), .lit (.int .i64 0)], []) := by kernel_rfl
theorem lifted (os : Os) (started : os.Started) (H : Type) (enc : TypeId × Value → H) (F : Stop.Interp) :
    ReturnsInHanded {} Tryd.checked os 11 .any ((Rows.OpenSpec.upto Rows.decimalSameSpec).preRow enc Tryd.prog Tryd.f11 Rows.decimalSameUptoRow.domain false Rows.decimalSameUptoRow.laid) (((Rows.OpenSpec.upto Rows.decimalSameSpec).at F).post enc Tryd.prog Tryd.f11 false true false false) := by
  obtain ⟨⟨x1, x2, x3⟩, hx, hx1⟩ := Option.map_eq_some_iff.1 (reads os enc)
  simp only [Prod.mk.injEq] at hx1
  obtain ⟨rfl, rfl⟩ := hx1
  refine returnsInHanded_of_row (C := Tryd.checked) (s := Rows.OpenSpec.upto Rows.decimalSameSpec) own started (by kernel_rfl) Tryd.func11
    (witness_row_atRef (enc := enc) (C := Tryd.checked) false (laidWorld os) #[.int .i64 0, .int .i64 0, .int .i64 0, .int .i64 0] rfl (by kernel_rfl) (by kernel_rfl) (by kernel_rfl)
      (OpenSpec.preRow_of_cond 8 hx (by kernel_rfl) (fun k hk => by cases hk; kernel_rfl) (by kernel_rfl) (laid_met os _))) ?_
  intro W base args ds gs before hval hW _ hcond _ hL _ _
  exact contract H enc W base args ds gs before hval hW hL (hcond _ rfl)

theorem saidUpto : Rows.DecimalSameUptoSaid :=
  OpenClaim.holds_of_cond 11 Tryd.f11 rfl rfl rfl rfl rfl rfl rfl ⟨rfl, rfl, rfl, rfl, rfl⟩ rfl rfl rfl rfl rfl (by kernel_rfl) Tryd.func11 (by kernel_rfl)
    (of_decide_eq_true (by kernel_rfl)) (by unfold Func.isWrapper; first | (rw [if_pos (by decide +kernel)]; kernel_rfl) | (rw [if_neg (by decide +kernel)]; exact ⟨rfl, rfl⟩))
    (fun os started H enc _ F => by rw [OpenClaim.pre_eq_preRow]; exact lifted os started H enc F)

theorem plain (f : FuncId) (fn : Func) (hf : Tryd.pinned.checked.prog.funcNamed "humpyard/humpyardlaw01.DecimalSame" = some f) (hfn : Tryd.pinned.checked.prog.funcs[f]? = some fn) :
    true = Tryd.pinned.checked.prog.looks [] ∧ ∀ (j : Nat) t, fn.params[j]? = some t → Tryd.pinned.checked.prog.wantsStandIn t = false := by
  obtain rfl : f = 11 := Option.some.inj ((show Tryd.prog.funcNamed "humpyard/humpyardlaw01.DecimalSame" = some 11 by kernel_rfl).symm.trans hf) |>.symm
  obtain rfl : fn = Tryd.f11 := (Option.some.inj (Tryd.func11.symm.trans hfn)).symm
  refine ⟨by kernel_rfl, fun j t ht => ?_⟩
  have hall : Tryd.f11.params.toList.all (fun t => !Tryd.prog.wantsStandIn t) = true := by kernel_rfl
  have hm : t ∈ Tryd.f11.params.toList := Array.mem_toList_iff.2 (Array.mem_of_getElem? ht)
  have := List.all_eq_true.1 hall t hm
  exact (show Tryd.prog.wantsStandIn t = false by simpa using this)
end Go.Proofs.YtifgegmnngfckaaDoor.decimalSame
namespace Go.Proofs.YtifgegmnngfckaaDoor
open Go.RowKit
theorem decimalSame_card_upto : Rows.DecimalSameUptoCardSaid :=
  Claim7.holds_tied_plain_at .later [] _ _ _ _ decimalSame.saidUpto (fun _ h => by cases h) (by kernel_rfl) (fun _ h => by cases h) decimalSameUpto_row_tie rfl ⟨rfl, rfl⟩ (by kernel_rfl) rfl decimalSame.plain (by kernel_rfl)
end Go.Proofs.YtifgegmnngfckaaDoor

