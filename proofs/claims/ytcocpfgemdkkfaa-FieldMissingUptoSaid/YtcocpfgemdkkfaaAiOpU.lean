/-
  The abstract interpreter, part 9: operations that ask the frame alone: the theorem, ended. Own work.
-/
import Derived.Test.YtcocpfgemdkkfaaAiOpT
namespace Go.Yard
open Go.RowKit

section
variable {P : Program} {tt : TTab} {w : World} {h : Heap} {c : Cfg} {R : Type}

theorem partK_ok {t off : Nat} {cs : List V} {k : V → Option R} {r : R} (hk : partK tt t cs off k = some r) : tt.ok t = true := by
  unfold partK at hk
  split at hk
  · assumption
  · cases hk

theorem fieldAddr_sound (T : TOK P tt) {s f : Nat} {a : V} {a' : Value} (ra : Rep w h c a a') {k : V → Option R} {r : R}
    (hk : (match (generalizing := false) (tt.at s).d with
    | .struct fs =>
      (match (generalizing := false) fs[f]? with
       | some (off, t) =>
         if (tt.at t).size = 0 || !tt.ok t then none else
         (match (generalizing := false) a with
          | .ptr i o => k (.ptr i (o + off))
          | .iptr cs => k (.iptr (cs.drop off))
          | .rptr i n j o => k (.rptr i n j (o + off))
          | _ => none)
       | none => none)
    | _ => none) = some r) : Makes P w h c (Instr.fieldAt s a' f) k r := by
  split at hk
  · rename_i fs hd
    split at hk
    · rename_i off t hf
      split at hk
      · cases hk
      · rename_i hc0
        simp only [Bool.or_eq_true, decide_eq_true_eq, Bool.not_eq_true', not_or, Bool.not_eq_false] at hc0
        obtain ⟨hsz, hok⟩ := hc0
        obtain ⟨F, fd, hu, hfd, rfl, rfl⟩ := struct_field T hd hf
        have hs := T.sizeOf (w := w) hok
        have run : ∀ b o, (Instr.fieldAt s (.pointer (some ⟨b, o, none⟩)) f).run P w = .ok (.pointer (some ⟨b, o + fd.offset, none⟩)) w := by
          intro b o
          simp [Instr.fieldAt, run_underlying hu, hfd, Instr.sureAddr, fieldPlace, hs, hsz, add_off]
        have run' : ∀ a : Addr, (Instr.fieldAt s (.pointer (some a)) f).run P w = .ok (.pointer (some (a.add fd.offset))) w := by
          intro a
          simp [Instr.fieldAt, run_underlying hu, hfd, Instr.sureAddr, fieldPlace, hs, hsz]
        split at hk
        · rename_i ra
          cases ra with
          | ptr hi hv =>
            obtain ⟨b, rfl, hb⟩ := hv
            exact ⟨_, _, run _ _, .ptr hi ⟨b, rfl, hb⟩, hk⟩
        · rename_i ra
          cases ra with
          | iptr g hc hr =>
            refine ⟨_, _, run _ _, .iptr (fun j => g (fd.offset + j)) (fun j hj => ?_) (fun j v hv => ?_), hk⟩
            · simp at hj
              have := hc (fd.offset + j) (by omega)
              rw [Nat.add_assoc]; exact this
            · rw [List.getElem?_drop] at hv
              exact hr _ v hv
        · rename_i ra
          cases ra with
          | rptr hi hv =>
            obtain ⟨a, rfl, hv⟩ := hv
            refine ⟨_, _, run' a, .rptr hi ⟨_, rfl, fun T' l he hn hj => ?_⟩, hk⟩
            obtain ⟨b, hb, rfl⟩ := hv T' l he hn hj
            exact ⟨b, hb, by rw [add_off, Nat.add_assoc]⟩
        · cases hk
    · cases hk
  · cases hk

theorem field_sound (T : TOK P tt) {s f : Nat} {a : V} {a' : Value} (ra : Rep w h c a a') {k : V → Option R} {r : R}
    (hk : (match (generalizing := false) (tt.at s).d, a with
    | .struct fs, .agg cs => (match (generalizing := false) fs[f]? with | some (off, t) => partK tt t cs off k | none => none)
    | _, _ => none) = some r) : Makes P w h c (Instr.field s a' f) k r := by
  split at hk
  · have hd := ‹(tt.at s).d = .struct _›
    have ra := ‹Rep w h c (.agg _) a'›
    split at hk
    · rename_i off t hf
      obtain ⟨F, fd, hu, hfd, rfl, rfl⟩ := struct_field T hd hf
      cases ra with
      | @agg _ x hl hr =>
        obtain ⟨v, v', h1, h2, h3⟩ := partK_sound (x := x) T ⟨by rw [hl, Array.length_toList], fun j v d hv hd => hr j v d hv (by simpa using hd)⟩ hk
        exact ⟨v, v', by simp [Instr.field, run_underlying hu, hfd, asAgg, h1], h2, h3⟩
    · cases hk
  · cases hk

theorem str_index {s : ByteArray} {n : Int} (h0 : 0 ≤ n) (h1 : n < s.data.toList.length) : (if 0 ≤ n then s[n.toNat]? else none) = some (s.data.toList.getD n.toNat 0) := by
  have hlt : n.toNat < s.size := by rw [← size_data]; omega
  have e : s[n.toNat]? = some (s[n.toNat]'hlt) := getElem?_pos s n.toNat hlt
  rw [if_pos h0, e]
  have : s[n.toNat]'hlt = s.data.toList.getD n.toNat 0 := by
    have hl : n.toNat < s.data.toList.length := by omega
    simp only [List.getD, List.getElem?_eq_getElem hl, Option.getD_some]
    rfl
  rw [this]

theorem index_sound (T : TOK P tt) {t : Nat} {a i : V} {a' i' : Value} (ra : Rep w h c a a') (ri : Rep w h c i i') {k : V → Option R} {r : R}
    (hk : (idxOf i fun n =>
    match (generalizing := false) (tt.at t).d, a with
    | .string, .str s => chk (decide (0 ≤ n) && decide (n < s.length)) (k (.int .u8 (s.getD n.toNat 0).toNat))
    | .arr m e, .agg cs => chk (decide (0 ≤ n) && decide (n < m)) (partK tt e cs (n.toNat * (tt.at e).size) k)
    | _, _ => none) = some r) : Makes P w h c (Instr.index t a' i') k r := by
  obtain ⟨ik, n, rfl, hk2⟩ := idxOf_some ri hk
  clear hk
  split at hk2
  · have hd := ‹(tt.at t).d = .string›
    have ra := ‹Rep w h c (.str _) a'›
    obtain ⟨hb, hk⟩ := chk_some hk2
    simp only [Bool.and_eq_true, decide_eq_true_eq] at hb
    have hu : P.underlying t = some .string := und_of T hd
    obtain ⟨t', rfl, rfl, _⟩ := ra.str_inv
    refine ⟨_, _, ?_, .int (has_byte _ (UInt8.toNat_lt _)), hk⟩
    have := str_index hb.1 hb.2
    simp only [Instr.index, Sem.run_bind, asIntOf, Sem.run_pure, Result.andThen_ok, run_underlying hu, this]
  · have hd := ‹(tt.at t).d = .arr _ _›
    have ra := ‹Rep w h c (.agg _) a'›
    obtain ⟨hb, hk⟩ := chk_some hk2
    simp only [Bool.and_eq_true, decide_eq_true_eq] at hb
    have hu := und_of T hd
    simp only [TD.Is] at hu
    have hok := partK_ok hk
    have hs := T.sizeOf (w := w) hok
    cases ra with
    | @agg _ x hl hr =>
      obtain ⟨v, v', h1, h2, h3⟩ := partK_sound (x := x) T ⟨by rw [hl, Array.length_toList], fun j v d hv hd => hr j v d hv (by simpa using hd)⟩ hk
      exact ⟨v, v', by simp [Instr.index, asIntOf, run_underlying hu, hb.1, hb.2, hs, h1], h2, h3⟩
  · cases hk2

theorem slice_str {s : ByteArray} {l hh : Nat} : (s.extract l hh).data.toList = (s.data.toList.drop l).take (hh - l) := by
  simp [ByteArray.data_extract, List.extract]

theorem slice_sound (T : TOK P tt) {t : Nat} {a : V} {a' : Value} (ra : Rep w h c a a') {ρ : Operand → V} {ρ' : Operand → Value} (hρ : ∀ x, Rep w h c (ρ x) (ρ' x)) (lo hi : Option Operand)
    {k : V → Option R} {r : R}
    (hk : (match (generalizing := false) (tt.at t).d, a with
       | .string, .str s =>
         optI (hi.map ρ) s.length fun h => optI (lo.map ρ) 0 fun l =>
         chk (decide (0 ≤ h) && decide (h ≤ s.length)) (chk (decide (0 ≤ l) && decide (l ≤ h)) (k (.str ((s.drop l.toNat).take (h.toNat - l.toNat)))))
       | .slice e, .sl T s _ =>
         if T.sz = (tt.at e).size && tt.ok e then
         optI (lo.map ρ) 0 fun l =>
         (match (generalizing := false) hi with
          | none => chk (decide (0 ≤ l) && decide (l ≤ s.length)) (k (.sl T (s.drop l.toNat) .no))
          | some hi =>
            optI (some (ρ hi)) 0 fun h =>
            chk (decide (0 ≤ h) && decide (h ≤ s.length)) (chk (decide (0 ≤ l) && decide (l ≤ h)) (k (.sl T ((s.drop l.toNat).take (h.toNat - l.toNat)) .no))))
         else none
       | .slice e, .nilsl =>
         if !tt.ok e then none else
         optI (hi.map ρ) 0 fun h => optI (lo.map ρ) 0 fun l => chk (decide (h = 0) && decide (l = 0)) (k .nilsl)
       | _, _ => none) = some r) : Makes P w h c (Instr.sliceAt t a' (lo.map ρ') (hi.map ρ') none) k r := by
  split at hk
  · have hd := ‹(tt.at t).d = .string›
    have ra := ‹Rep w h c (.str _) a'›
    have hu : P.underlying t = some .string := und_of T hd
    obtain ⟨hh, hk, hhi⟩ := optI_some (map_opt hρ hi) hk
    obtain ⟨l, hk, hlo⟩ := optI_some (map_opt hρ lo) hk
    obtain ⟨hb, hk⟩ := chk_some hk
    obtain ⟨hb', hk⟩ := chk_some hk
    simp only [Bool.and_eq_true, decide_eq_true_eq] at hb hb'
    obtain ⟨t', rfl, rfl, hmx⟩ := ra.str_inv
    rw [size_data] at hb hhi
    have hrun := run_sliceBounds (P := P) (w := w) false t'.size t'.size (lo.map ρ') (hi.map ρ') l hh hlo hhi hb'.1 hb'.2 hb.2
    refine ⟨_, .string (t'.extract l.toNat hh.toNat), ?_, rep_str _ slice_str ?_, hk⟩
    · simp [Instr.sliceAt, Instr.slice, run_underlying hu, hrun]
    · simp; omega
  · have hd := ‹(tt.at t).d = .slice _›
    have ra := ‹Rep w h c (.sl _ _ _) a'›
    rename_i s _ _ _
    split at hk
    · rename_i hcond
      simp only [Bool.and_eq_true, decide_eq_true_eq] at hcond
      obtain ⟨hsz, hok⟩ := hcond
      have hu := und_of T hd
      simp only [TD.Is] at hu
      have hs := T.sizeOf (w := w) hok
      obtain ⟨A, cap, rfl, hcap, hmx⟩ := sl_inv ra
      obtain ⟨l, hk, hlo⟩ := optI_some (map_opt hρ lo) hk
      cases hi with
      | none =>
        obtain ⟨hb, hk⟩ := chk_some hk
        simp only [Bool.and_eq_true, decide_eq_true_eq] at hb
        have hrun := run_sliceBounds (P := P) (w := w) true s.length cap (lo.map ρ') none l s.length hlo (.inl ⟨rfl, rfl⟩) hb.1 hb.2 (by omega)
        have hc := cut_rep ra l.toNat s.length (by omega) (Nat.le_refl _)
        rw [List.take_of_length_le (by simp)] at hc
        refine ⟨_, _, ?_, hc, hk⟩
        simp [Instr.sliceAt, Instr.slice, run_underlying hu, hrun, hs, ← hsz]
      | some hi =>
        obtain ⟨hh, hk, hhi⟩ := optI_some (v' := some (ρ' hi)) (hρ hi) hk
        obtain ⟨hb, hk⟩ := chk_some hk
        obtain ⟨hb', hk⟩ := chk_some hk
        simp only [Bool.and_eq_true, decide_eq_true_eq] at hb hb'
        have hrun := run_sliceBounds (P := P) (w := w) true s.length cap (lo.map ρ') (some (ρ' hi)) l hh hlo (hhi.imp (fun x => by cases x.1) id) hb'.1 hb'.2 (by omega)
        have hc := cut_rep ra l.toNat hh.toNat (by omega) (by omega)
        refine ⟨_, _, ?_, hc, hk⟩
        simp [Instr.sliceAt, Instr.slice, run_underlying hu, hrun, hs, ← hsz]
    · cases hk
  · have hd := ‹(tt.at t).d = .slice _›
    have ra := ‹Rep w h c .nilsl a'›
    split at hk
    · cases hk
    · rename_i hok
      simp at hok
      have hu := und_of T hd
      simp only [TD.Is] at hu
      have hs := T.sizeOf (w := w) hok
      obtain ⟨hh, hk, hhi⟩ := optI_some (map_opt hρ hi) hk
      obtain ⟨l, hk, hlo⟩ := optI_some (map_opt hρ lo) hk
      obtain ⟨hb, hk⟩ := chk_some hk
      simp only [Bool.and_eq_true, decide_eq_true_eq] at hb
      obtain ⟨rfl, rfl⟩ := hb
      have hrun := run_sliceBounds (P := P) (w := w) true 0 0 (lo.map ρ') (hi.map ρ') 0 0 hlo hhi (by omega) (by omega) (by omega)
      cases ra
      refine ⟨_, .slice none 0 0, ?_, .nilsl, hk⟩
      simp [Instr.sliceAt, Instr.slice, run_underlying hu, hrun, hs]
  · cases hk
end
end Go.Yard
