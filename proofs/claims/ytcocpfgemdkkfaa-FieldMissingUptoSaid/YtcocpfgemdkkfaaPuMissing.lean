/-
  What FieldMissing computes: true. Plain Lean over the printed functions. Own work.
-/
import Derived.Test.YtcocpfgemdkkfaaPuBase
import Derived.Test.YtcocpfgemdkkfaaAiF1
import Derived.Test.YtcocpfgemdkkfaaAiF2
import Derived.Test.YtcocpfgemdkkfaaAiF4
import Derived.Test.YtcocpfgemdkkfaaAiF5
set_option linter.unusedVariables false
namespace Go.Proofs.Ytcocpfgemdkkfaa
open Go Go.Yard

def obj0 : Json := ⟨7, ⟨0, 0⟩, [], [], []⟩

theorem law05_awake_true {R : Type} (k : Bool → Option R) : law05_awake k = k true := by kernel_rfl
theorem make_nil {R : Type} (k : Json → Option R) : field_Make [] [] k = k obj0 := by kernel_rfl
theorem find_obj0 {R : Type} (s : Str) (k : Json → Bool → Option R) : field_find obj0 s k = k ⟨0, ⟨0, 0⟩, [], [], []⟩ false := by kernel_rfl

def need (f : Fld) : Bool := !f.free

theorem check_loop {R : Type} (l : List Fld) (hl : l.length ≤ 1048576) (e0 : Int → Option R) (e1 : Option R) : ∀ (n i : Nat), i ≤ l.length → l.length - i < n →
    field_Check_2_0_L n l (l.length : Int) (i : Int) obj0 e0 e1 = match (l.drop i).findIdx? need with | some j => e0 ((i + j : Nat) : Int) | none => e1 := by
  intro n
  induction n with
  | zero => intro i _ h; omega
  | succ n ih =>
    intro i hi hn
    show field_Check_2_0_B field_find field_fits (fun a b c d => field_Check_2_0_L n a b c d e0 e1) l (l.length : Int) (i : Int) obj0 e0 e1 = _
    unfold field_Check_2_0_B
    by_cases h : i < l.length
    · have h1 : decide ((i : Int) < (l.length : Int)) = true := by simp; omega
      have h2 : (decide (0 ≤ (i : Int)) && true) = true := by simp
      rw [h1, cond_true, chk_pos h2, Json.eta, find_obj0]
      have hw : IntKind.i64.wrap ((i : Int) + 1) = ((i + 1 : Nat) : Int) := by rw [wrap_id (by omega) (by omega)]; omega
      have hd : l.drop i = l[i] :: l.drop (i + 1) := by rw [List.drop_eq_getElem_cons h]
      have hg : l.getD (i : Int).toNat (Ty.dflt .fld) = l[i] := getD_at h _
      rw [hd, List.findIdx?_cons, hg, hw]
      have hk : (obj0.kind != 7) = false := rfl
      have hi' := ih (i + 1) (by omega) (by omega)
      rw [hk]
      simp only [cond_false, Bool.not_false, cond_true, need, hi']
      rcases Bool.eq_false_or_eq_true (l[i]).free with hf | hf
      · simp only [hf, Bool.not_true, cond_false]
        cases hq : (l.drop (i + 1)).findIdx? need with
        | none => rfl
        | some j =>
          show e0 ((i + 1 + j : Nat) : Int) = e0 ((i + (j + 1) : Nat) : Int)
          rw [show i + 1 + j = i + (j + 1) by omega]
      · simp [hf]
    · have h1 : decide ((i : Int) < (l.length : Int)) = false := by simp; omega
      rw [h1, cond_false, List.drop_eq_nil_of_le (by omega)]
      rfl

theorem check_obj0 {R : Type} (l : List Fld) (hl : l.length ≤ 1048576) (k : Int → Option R) :
    field_Check obj0 l k = k (match l.findIdx? need with | some j => (j : Int) | none => -1) := by
  show field_Check_2_0_L _ l (l.length : Int) ((0 : Nat) : Int) obj0 _ _ = _
  rw [check_loop l hl _ _ _ 0 (by omega) (by omega)]
  simp only [List.drop_zero, Nat.zero_add]
  cases l.findIdx? need <;> rfl

theorem want_loop {R : Type} (b : Bool) (l : List Fld) (hl : l.length ≤ 1048576) (e0 : Bool → Nat → Int → List Fld → Json → Option R) : ∀ (i n : Nat) (want : Int), i ≤ l.length → i < n →
    law05_FieldMissing_af93_6_0_L n b l.length want ((i : Int) - 1) l obj0 e0 = e0 b l.length (match (l.take i).findIdx? need with | some j => (j : Int) | none => want) l obj0 := by
  intro i
  induction i with
  | zero =>
    intro n want _ hn
    cases n with
    | zero => omega
    | succ n =>
      show law05_FieldMissing_af93_6_0_B _ b l.length want _ l obj0 e0 = _
      unfold law05_FieldMissing_af93_6_0_B
      rw [Json.eta]
      rfl
  | succ i ih =>
    intro n want hi hn
    cases n with
    | zero => omega
    | succ n =>
      show law05_FieldMissing_af93_6_0_B (fun a b c d f g => law05_FieldMissing_af93_6_0_L n a b c d f g e0) b l.length want _ l obj0 e0 = _
      unfold law05_FieldMissing_af93_6_0_B
      have h0 : ((i + 1 : Nat) : Int) - 1 = (i : Int) := by omega
      rw [h0]
      have h1 : decide ((i : Int) ≥ 0) = true := by simp
      have h2 : (true && decide ((i : Int) < l.length)) = true := by simp; omega
      have h3 : decide ((i : Int).toNat < l.length) = true := by simp; omega
      have hw : IntKind.i64.wrap ((i : Int) - 1) = (i : Int) - 1 := wrap_id (by omega) (by omega)
      have hg : l.getD (i : Int).toNat (Ty.dflt .fld) = l[i] := getD_at (by omega) _
      rw [h1, cond_true, chk_pos h2, chk_pos h3, hw, hg, Json.eta]
      have e1 := fun w => ih n w (by omega) (by omega)
      simp only [e1]
      have ht : l.take (i + 1) = l.take i ++ [l[i]] := by rw [List.take_add_one]; simp [show i < l.length by omega]
      rw [ht, List.findIdx?_append]
      cases hq : (l.take i).findIdx? need with
      | some j => cases (l[i]).free <;> simp
      | none =>
        cases hf : (l[i]).free with
        | true => simp [need, hf]
        | false => simp [need, hf, Nat.min_eq_left (show i ≤ l.length by omega)]

def freed (f : Fld) : Fld := ⟨f.name, f.kind, f.low, f.high, true⟩

theorem free_loop {R : Type} (b : Bool) (m : Nat) (hm : m ≤ 1048576) (e0 : Bool → Nat → List Fld → Json → Option R) : ∀ (n i : Nat) (l : List Fld), l.length = m → i ≤ m → m - i < n → (∀ f ∈ l.take i, f.free = true) →
    ∃ l' : List Fld, l'.length = m ∧ (∀ f ∈ l', f.free = true) ∧ law05_FieldMissing_af93_13_0_L n b m (i : Int) l obj0 e0 = e0 b m l' obj0 := by
  intro n
  induction n with
  | zero => intro i l _ _ h; omega
  | succ n ih =>
    intro i l hl hi hn hf
    by_cases h : i < m
    · have h1 : decide ((i : Int) < (m : Int)) = true := by simp; omega
      have h2 : (decide (0 ≤ (i : Int)) && true) = true := by simp
      have h3 : decide ((i : Int).toNat < l.length) = true := by simp; omega
      have hw : IntKind.i64.wrap ((i : Int) + 1) = ((i + 1 : Nat) : Int) := by rw [wrap_id (by omega) (by omega)]; omega
      obtain ⟨l', g1, g2, g3⟩ := ih (i + 1) (l.set i (freed (l.getD i (Ty.dflt .fld)))) (by simpa using hl) (by omega) (by omega) (by
        intro f hff
        rw [List.take_add_one] at hff
        rcases List.mem_append.1 hff with h' | h'
        · rw [List.take_set_of_le (Nat.le_refl _)] at h'
          exact hf f h'
        · simp [show i < l.length by omega] at h'
          subst h'
          rfl)
      refine ⟨l', g1, g2, ?_⟩
      show law05_FieldMissing_af93_13_0_B (fun a b c d f => law05_FieldMissing_af93_13_0_L n a b c d f e0) b m (i : Int) l obj0 e0 = _
      unfold law05_FieldMissing_af93_13_0_B
      rw [h1, cond_true, chk_pos h2, chk_pos h3, hw, Json.eta]
      exact g3
    · refine ⟨l, hl, fun f hff => hf f ?_, ?_⟩
      · rw [List.take_of_length_le (by omega)]; exact hff
      · show law05_FieldMissing_af93_13_0_B _ b m (i : Int) l obj0 e0 = _
        unfold law05_FieldMissing_af93_13_0_B
        have h1 : decide ((i : Int) < (m : Int)) = false := by simp; omega
        rw [h1, cond_false, Json.eta]

theorem law05_FieldMissing_true {R : Type} (l : List Fld) (k : Bool → Option R) : law05_FieldMissing_af93 l k = k true := by
  unfold law05_FieldMissing_af93 law05_FieldMissing_af93_X
  rw [law05_awake_true]
  have hs : ((l.drop 0).take ((min (l.length : Int) 8).toNat - 0)).length ≤ 8 := by simp; omega
  rw [chk_pos (by simp; omega), chk_pos (by simp; omega)]
  generalize (l.drop 0).take ((min (l.length : Int) 8).toNat - 0) = s at hs
  rw [chk_pos (by simp; omega), make_nil, Json.eta]
  rw [wrap_id (n := (s.length : Int) - 1) (by omega) (by omega)]
  rw [want_loop true s (by omega) _ s.length _ (-1) (Nat.le_refl _) (by omega)]
  simp only [Json.eta, List.take_length]
  rw [check_obj0 s (by omega)]
  have hne : ∀ z : Int, (z != z) = false := fun z => by simp
  rw [hne, cond_false]
  obtain ⟨s', g1, g2, g3⟩ := free_loop true s.length (by omega) (fun y21 y22 y23 y24 => bif y21 then (field_Check (⟨y24.kind, ⟨y24.num.mant, y24.num.exp⟩, y24.text, y24.names, y24.items⟩ : Json) y23 (fun y25 => k (y25 == (-1)))) else (k false)) (Int.natAbs 0 + List.length s + 3) 0 s rfl (by omega) (by omega) (by simp)
  refine Eq.trans g3 ?_
  simp only [cond_true, Json.eta]
  rw [check_obj0 s' (by omega)]
  have : s'.findIdx? need = none := by
    rw [List.findIdx?_eq_none_iff]
    intro f hf
    simp [need, g2 f hf]
  rw [this]
  rfl
end Go.Proofs.Ytcocpfgemdkkfaa
