/-
  The abstract interpreter, part 10: whatever asks the frame alone. Own work.
-/
import Derived.Test.YtcocpfgemdkkfaaAiOpU
namespace Go.Yard
open Go.RowKit

section
variable {P : Program} {tt : TTab} {w : World} {h : Heap} {c : Cfg} {R : Type}

theorem makes_run {s : Sem Value} {k : V → Option R} {r : R} (hm : Makes P w h c s k r) :
    ∃ v v', ((do pure (Next.value (← s))) : Sem Next).run P w = .ok (.value v') w ∧ Rep w h c v v' ∧ k v = some r := by
  obtain ⟨v, v', h1, h2, h3⟩ := hm
  exact ⟨v, v', by simp [h1], h2, h3⟩

theorem binOp_sound (T : TOK P tt) {op : BinOp} {t : Nat} (x y : Operand) {a b : V} {a' b' : Value} (ra : Rep w h c a a') (rb : Rep w h c b b') {k : V → Option R} {r : R}
    (hk : (match (generalizing := false) a, b with
    | .agg a, .agg b => if eqOk (tt.at t) a b then binK op (.agg a) (.agg b) k else none
    | .bool a, .bool b => (match (generalizing := false) (tt.at t).d with | .bool => binK op (.bool a) (.bool b) k | _ => none)
    | .int i a, .int j b => binK op (.int i a) (.int j b) k
    | .str a, .str b => binK op (.str a) (.str b) k
    | a, b => (match (generalizing := false) (tt.at t).d with | .ptr _ => ptrK op a b k | .slice _ => slK op a b k | _ => none)) = some r) :
    Makes P w h c (do eqGuard op t x y a' b'; binOp op t a' b') k r := by
  split at hk
  · have ra := ‹Rep w h c (.agg _) a'›
    have rb := ‹Rep w h c (.agg _) b'›
    split at hk
    · rename_i heq
      cases ra with
      | @agg _ u hl hr =>
        cases rb with
        | @agg _ v hl' hr' =>
          exact binK_agg T heq ⟨by rw [hl, Array.length_toList], fun j v d hv hd => hr j v d hv (by simpa using hd)⟩
            ⟨by rw [hl', Array.length_toList], fun j v d hv hd => hr' j v d hv (by simpa using hd)⟩ x y hk
    · cases hk
  · have ra := ‹Rep w h c (.bool _) a'›
    have rb := ‹Rep w h c (.bool _) b'›
    split at hk
    · rename_i hd
      rw [ra.bool_inv, rb.bool_inv]
      exact binK_bool T hd x y hk
    · cases hk
  · have ra := ‹Rep w h c (.int _ _) a'›
    have rb := ‹Rep w h c (.int _ _) b'›
    rename_i i m j n _ _
    have e1 := ra.int_inv
    have e2 := rb.int_inv
    rw [e1.1, e2.1]
    exact binK_int e2.2 t x y hk e1.2
  · have ra := ‹Rep w h c (.str _) a'›
    have rb := ‹Rep w h c (.str _) b'›
    obtain ⟨s, rfl, rfl, _⟩ := ra.str_inv
    obtain ⟨u, rfl, rfl, _⟩ := rb.str_inv
    exact binK_str t x y hk
  · split at hk
    · rename_i hd
      exact ptrK_sound T hd ra rb x y hk
    · rename_i hd
      exact slK_sound T hd ra rb x y hk
    · cases hk

theorem convert_sound (T : TOK P tt) {s d : Nat} {a : V} {a' : Value} (ra : Rep w h c a a') {k : V → Option R} {r : R}
    (hk : (match (generalizing := false) (tt.at d).d, a with
    | .int i, .int _ n => k (.int i (i.wrap n))
    | .string, .str t => (match (generalizing := false) (tt.at s).d with | .string => k (.str t) | _ => none)
    | _, _ => none) = some r)
    (hs : tt.ok s = true) : Makes P w h c (convert s d a') k r := by
  split at hk
  · have hd := ‹(tt.at d).d = .int _›
    have ra := ‹Rep w h c (.int _ _) a'›
    have hu := und_of T hd
    simp only [TD.Is] at hu
    obtain ⟨rfl, _⟩ := ra.int_inv
    have hsu := T.und s
    refine ⟨_, _, ?_, .int (has_wrap _ _), hk⟩
    unfold TTab.ok at hs
    cases hd' : (tt.at s).d <;> rw [hd'] at hsu hs <;> simp only [TD.Is] at hsu
    case struct fs => obtain ⟨F, hF, _⟩ := hsu; simp [convert, run_underlying hu, run_underlying hF, Conv.intToInt]
    case func => obtain ⟨x, y, z, hF⟩ := hsu; simp [convert, run_underlying hu, run_underlying hF, Conv.intToInt]
    case iface => obtain ⟨x, hF⟩ := hsu; simp [convert, run_underlying hu, run_underlying hF, Conv.intToInt]
    case other => cases hs
    all_goals simp [convert, run_underlying hu, run_underlying hsu, Conv.intToInt]
  · have hd := ‹(tt.at d).d = .string›
    have ra := ‹Rep w h c (.str _) a'›
    have hu := und_of T hd
    simp only [TD.Is] at hu
    split at hk
    · have hd2 := ‹(tt.at s).d = .string›
      have hu2 := und_of T hd2
      simp only [TD.Is] at hu2
      have ra' := ra
      obtain ⟨t, rfl, rfl, hl⟩ := ra.str_inv
      exact ⟨_, _, by simp [convert, run_underlying hu, run_underlying hu2], ra', hk⟩
    · cases hk
  · cases hk

theorem len_sound (T : TOK P tt) {t : Nat} {o : Nat} {a : V} {a' : Value} (ra : Rep w h c a a') {k : V → Option R} {r : R}
    (hk : (match (generalizing := false) (tt.at t).d, a with
          | .string, .str s => k (.int .i64 s.length)
          | .slice _, .sl _ l _ => k (.int .i64 l.length)
          | .slice _, .vsl n _ => k (.int .i64 n)
          | .slice _, .row _ n => k (.int .i64 n)
          | .slice _, .nilsl => k (.int .i64 0)
          | _, _ => none) = some r) : Makes P w h c (Builtin.len_ #[t] o #[a']) k r := by
  have key : ∀ (e : TypeId) (A : Option Addr) (n m : Nat), P.underlying t = some (.slice e) → (Builtin.len_ #[t] o #[.slice A n m]).run P w = .ok (.int .i64 n) w := by
    intro e A n m hu; simp [Builtin.len_, run_underlying hu, goInt]
  split at hk
  · have hu : P.underlying t = some .string := und_of T ‹(tt.at t).d = .string›
    have ra := ‹Rep w h c (.str _) a'›
    obtain ⟨s, rfl, rfl, hl⟩ := ra.str_inv
    refine ⟨_, .int .i64 s.size, by simp [Builtin.len_, run_underlying hu, goInt], ?_, hk⟩
    rw [size_data]; exact .int (has_len _ hl)
  · have hu := und_of T ‹(tt.at t).d = .slice _›
    simp only [TD.Is] at hu
    have ra := ‹Rep w h c (.sl _ _ _) a'›
    obtain ⟨A, cap, rfl, h1, h2⟩ := sl_inv ra
    exact ⟨_, _, key _ _ _ _ hu, .int (has_len _ (by omega)), hk⟩
  · have hu := und_of T ‹(tt.at t).d = .slice _›
    simp only [TD.Is] at hu
    have ra := ‹Rep w h c (.vsl _ _) a'›
    cases ra with
    | vsl hn hmx f hc hr => exact ⟨_, _, key _ _ _ _ hu, .int (has_len _ hmx), hk⟩
  · have hu := und_of T ‹(tt.at t).d = .slice _›
    simp only [TD.Is] at hu
    have ra := ‹Rep w h c (.row _ _) a'›
    cases ra with
    | row hi hn hv =>
      obtain ⟨A, cap, rfl, _, _⟩ := hv
      exact ⟨_, _, key _ _ _ _ hu, .int (has_len _ hn), hk⟩
  · have hu := und_of T ‹(tt.at t).d = .slice _›
    simp only [TD.Is] at hu
    have ra := ‹Rep w h c .nilsl a'›
    cases ra
    exact ⟨_, _, key _ _ 0 0 hu, .int (has_len 0 (by unfold mx; omega)), hk⟩
  · cases hk

theorem mapM_places (T : TOK P tt) (F : Array Field) (hok : ∀ f ∈ F.toList, tt.ok f.type = true) :
    (F.mapM (m := Sem) fun f => do pure (f.offset, ← Go.sizeOf f.type)).run P w = .ok (F.map fun f => (f.offset, (tt.at f.type).size)) w := by
  rw [Array.mapM_eq_mapM_toList]
  have key : ∀ l : List Field, (∀ f ∈ l, tt.ok f.type = true) → (l.mapM (m := Sem) fun f => do pure (f.offset, ← Go.sizeOf f.type)).run P w = .ok (l.map fun f => (f.offset, (tt.at f.type).size)) w := by
    intro l
    induction l with
    | nil => intro _; simp
    | cons f l ih =>
      intro h
      have hs := T.sizeOf (w := w) (h f (by simp))
      have := ih fun g hg => h g (by simp [hg])
      simp only [List.mapM_cons, Sem.run_bind, hs, Result.andThen_ok, Sem.run_pure, this, List.map_cons]
  simp only [Sem.run_map, key _ hok, Result.andThen_ok]
  congr 1
  apply Array.ext'
  simp

theorem mem_fs {fs : List (Nat × Nat)} {F : Array Field} (e : F.toList.map (fun f => (f.offset, f.type)) = fs) (hall : fs.all (fun f => tt.ok f.2) = true) : ∀ f ∈ F.toList, tt.ok f.type = true := by
  intro f hf
  have : (f.offset, f.type) ∈ fs := by rw [← e]; exact List.mem_map.2 ⟨f, hf, rfl⟩
  exact List.all_eq_true.1 hall _ this

theorem zeroLen (T : TOK P tt) {t : Nat} (h : tt.ok t = true) : (tt.at t).zero.length = (tt.at t).size := by
  obtain ⟨z, _, h2, h3⟩ := T.zero (w := default) h
  have := (h3 default [] ⟨fun _ => none, fun _ => 0, fun _ _ => False⟩).1
  simp at this; omega

theorem parts_map {ρ : Operand → V} {ρ' : Operand → Value} (hρ : ∀ x, Rep w h c (ρ x) (ρ' x)) (parts : List (Nat × Operand)) :
    (parts.map fun p => (p.1, ρ p.2)).map Prod.fst = (parts.map fun p => (p.1, ρ' p.2)).map Prod.fst ∧
    RepL w h c ((parts.map fun p => (p.1, ρ p.2)).map Prod.snd) ((parts.map fun p => (p.1, ρ' p.2)).map Prod.snd) := by
  refine ⟨by simp [Function.comp_def], ?_⟩
  simp only [List.map_map]
  exact RepL.map parts fun p _ => hρ p.2

theorem build_sound (T : TOK P tt) {t : Nat} {parts : Array (Nat × Operand)} {ρ : Operand → V} {ρ' : Operand → Value} (hρ : ∀ x, Rep w h c (ρ x) (ρ' x)) {k : V → Option R} {r : R}
    (hk : (match (generalizing := false) (tt.at t).d with
    | .struct fs =>
      if !fs.all (fun f => tt.ok f.2) || !tt.ok t || decide (1000000 ≤ (tt.at t).zero.length) then none else
      (match (generalizing := false) fillV (tt.at t).zero (parts.toList.map fun (i, x) => ((fs.getD i (0, 0)).1, if i < fs.length then (tt.at (fs.getD i (0, 0)).2).size else 1000000, ρ x)) with
       | some cs => k (.agg cs) | none => none)
    | .arr _ e =>
      if !tt.ok e || !tt.ok t || decide (1000000 ≤ (tt.at t).zero.length) then none else
      (match (generalizing := false) fillV (tt.at t).zero (parts.toList.map fun (i, x) => (i * (tt.at e).size, (tt.at e).size, ρ x)) with
       | some cs => k (.agg cs) | none => none)
    | _ => none) = some r) : Makes P w h c (Instr.build t (parts.map fun (i, x) => (i, ρ' x))) k r := by
  have hparts := parts_map hρ parts.toList
  split at hk
  · rename_i fs hd
    split at hk
    · cases hk
    · rename_i hc0
      simp only [Bool.or_eq_true, Bool.not_eq_true', decide_eq_true_eq, not_or, Bool.not_eq_false, Nat.not_le] at hc0
      obtain ⟨⟨hall, hok⟩, hsm⟩ := hc0
      obtain ⟨F, hu, he⟩ := und_of T hd
      obtain ⟨z, hz, hzs, hzr⟩ := T.zero (w := w) hok
      split at hk
      · rename_i cs hf
        have hplaces := mapM_places (w := w) T F (mem_fs he hall)
        have hl := zeroLen T hok
        obtain ⟨out', h1, h2, h3⟩ := fill_sound (w := w) (h := h) (c := c) (fun i => (F.map fun f => (f.offset, (tt.at f.type).size))[i]?) (parts.toList.map fun p => (p.1, ρ p.2)) (parts.toList.map fun p => (p.1, ρ' p.2))
          (tt.at t).zero z.cells cs hparts.1 hparts.2 (hzr w h c) (by
            rw [← hf, List.map_map]
            congr 1
            apply List.map_congr_left
            intro p _
            obtain ⟨i, x⟩ := p
            subst he
            simp only [Function.comp, List.length_map, Array.length_toList, Array.getElem?_map]
            by_cases hi : i < F.size
            · simp [hi, List.getD]
            · simp [hi, List.getD]) (by omega)
        have h2' : Rep w h c (.agg cs) (.agg out') := .agg (by have := h2.1; simpa using this) (fun j v d hv hd => h2.2 j v d hv (by simpa using hd))
        refine ⟨.agg cs, .agg out', ?_, h2', hk⟩
        simp only [Instr.build, Sem.run_bind, hz, Result.andThen_ok, run_underlying hu, hplaces, Array.toList_map]
        rw [h1]
        rfl
      · cases hk
  · rename_i n e hd
    split at hk
    · cases hk
    · rename_i hc0
      simp only [Bool.or_eq_true, Bool.not_eq_true', decide_eq_true_eq, not_or, Bool.not_eq_false, Nat.not_le] at hc0
      obtain ⟨⟨hoke, hok⟩, hsm⟩ := hc0
      have hu := und_of T hd
      simp only [TD.Is] at hu
      obtain ⟨z, hz, hzs, hzr⟩ := T.zero (w := w) hok
      have hse := T.sizeOf (w := w) hoke
      split at hk
      · rename_i cs hf
        have hl := zeroLen T hok
        obtain ⟨out', h1, h2, h3⟩ := fill_sound (w := w) (h := h) (c := c) (fun i => some (i * (tt.at e).size, (tt.at e).size)) (parts.toList.map fun p => (p.1, ρ p.2)) (parts.toList.map fun p => (p.1, ρ' p.2))
          (tt.at t).zero z.cells cs hparts.1 hparts.2 (hzr w h c) (by
            rw [← hf, List.map_map]
            congr 1) (by omega)
        have h2' : Rep w h c (.agg cs) (.agg out') := .agg (by have := h2.1; simpa using this) (fun j v d hv hd => h2.2 j v d hv (by simpa using hd))
        refine ⟨.agg cs, .agg out', ?_, h2', hk⟩
        simp [Instr.build, hz, run_underlying hu, hse, h1]
      · cases hk
  · cases hk
end
end Go.Yard
