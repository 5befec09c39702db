/-
  The abstract interpreter, part 8: operations that ask the frame alone: the theorem. Own work.
-/
import Derived.Test.YtcocpfgemdkkfaaAiOpS
namespace Go.Yard
open Go.RowKit

section
variable {P : Program} {tt : TTab} {w : World} {h : Heap} {c : Cfg} {R : Type}

theorem add_off (b o n : Nat) : (⟨b, o, none⟩ : Addr).add n = ⟨b, o + n, none⟩ := by unfold Addr.add; split <;> simp_all

/-- A cut of an immutable slice. -/
theorem cut_rep {T : Ty} {l : List T.den} {t : Tok} {A : Option Addr} {n cap : Nat} (r : Rep w h c (.sl T l t) (.slice A n cap)) (lo hi : Nat) (h1 : lo ≤ hi) (h2 : hi ≤ l.length) :
    Rep w h c (.sl T ((l.drop lo).take (hi - lo)) .no) (.slice (if cap = lo then A else A.map (·.add (lo * T.sz))) (hi - lo) (cap - lo)) := by
  cases r with
  | sl f hcap hmx hc hr hnil hown =>
    have hlen : ((l.drop lo).take (hi - lo)).length = hi - lo := by simp; omega
    have key := Rep.sl (w := w) (h := h) (c := c) (T := T) (l := (l.drop lo).take (hi - lo)) (t := .no) (A := if cap = lo then A else A.map (·.add (lo * T.sz))) (cap := cap - lo)
      (fun i j => f (lo + i) j) (by omega) (by omega) ?_ ?_ (by simp) (by simp)
    · rw [hlen] at key; exact key
    · intro i j hi' hj
      rw [hlen] at hi'
      obtain ⟨b, o, hA, hcell, hown'⟩ := hc (lo + i) j (by omega) hj
      rw [if_neg (by omega)]
      refine ⟨b, o + lo * T.sz, by rw [hA]; simp [add_off], ?_⟩
      have e : o + lo * T.sz + i * T.sz + j = o + (lo + i) * T.sz + j := by rw [Nat.add_mul]; omega
      rw [e]
      exact ⟨hcell, hown'⟩
    · intro i j x v hx hv
      rw [List.getElem?_take, List.getElem?_drop] at hx
      split at hx
      · exact hr _ j x v hx hv
      · cases hx

theorem sl_inv {T : Ty} {l : List T.den} {t : Tok} {v : Value} (r : Rep w h c (.sl T l t) v) : ∃ A cap, v = .slice A l.length cap ∧ l.length ≤ cap ∧ cap ≤ mx := by
  cases r with
  | sl f hcap hmx hc hr hnil hown => exact ⟨_, _, rfl, hcap, hmx⟩

theorem Ty.sz_pos (T : Ty) : 0 < T.sz := by cases T <;> simp [Ty.sz]
theorem Ty.cells_len (T : Ty) (x : T.den) : (T.cells x).length = T.sz := by cases T <;> rfl

theorem optI_some {v : Option V} {v' : Option Value} (hv : match v, v' with | none, none => True | some a, some b => Rep w h c a b | _, _ => False) {d : Int} {k : Int → Option R} {r : R}
    (hk : optI v d k = some r) : ∃ n, k n = some r ∧ ((v' = none ∧ n = d) ∨ ∃ i, v' = some (.int i n)) := by
  unfold optI at hk
  split at hk
  · split at hv <;> simp_all
  · rename_i i n
    cases v' with
    | none => exact hv.elim
    | some b => exact ⟨n, hk, .inr ⟨_, by rw [(show Rep w h c (.int i n) b from hv).int_inv.1]⟩⟩
  · cases hk

theorem map_opt {ρ : Operand → V} {ρ' : Operand → Value} (hρ : ∀ x, Rep w h c (ρ x) (ρ' x)) (o : Option Operand) :
    match o.map ρ, o.map ρ' with | none, none => True | some a, some b => Rep w h c a b | _, _ => False := by
  cases o <;> simp [hρ]

/-- The bounds of a cut. -/
theorem run_sliceBounds (isSlice : Bool) (len cap : Nat) (lo hi : Option Value) (l hh : Int) (hlo : (lo = none ∧ l = 0) ∨ ∃ k, lo = some (.int k l))
    (hhi : (hi = none ∧ hh = len) ∨ ∃ k, hi = some (.int k hh)) (h0 : 0 ≤ l) (h1 : l ≤ hh) (h2 : hh ≤ cap) :
    (Instr.sliceBounds isSlice len cap lo hi none).run P w = .ok (l.toNat, hh.toNat, cap) w := by
  have hb : ∀ (k : IntKind) (n : Int) (y : Nat) (code : BoundsCode), 0 ≤ n → n ≤ y → (Instr.sliceBound (.int k n) y code).run P w = .ok n.toNat w := by
    intro k n y code h0 h1
    simp [Instr.sliceBound, asIntOf, h0, h1]
  rcases hlo with ⟨rfl, rfl⟩ | ⟨k, rfl⟩ <;> rcases hhi with ⟨rfl, rfl⟩ | ⟨k', rfl⟩
  · simp [Instr.sliceBounds]
  · simp [Instr.sliceBounds, hb _ _ _ _ (show 0 ≤ hh by omega) h2]
  · simp [Instr.sliceBounds, hb _ _ _ _ h0 h1]
  · simp only [Instr.sliceBounds]
    have e : ((hh.toNat : Nat) : Int) = hh := by omega
    simp [hb _ _ _ _ (show 0 ≤ hh by omega) h2, hb k l hh.toNat .sliceB h0 (by omega)]

theorem makes_exec {o : Oper} {ρ' : Operand → Value} {s : Sem Value} {k : V → Option R} {r : R} (he : execOp ρ' o = (do pure (.value (← s)))) (hm : Makes P w h c s k r) :
    ∃ v v', (execOp ρ' o).run P w = .ok (.value v') w ∧ Rep w h c v v' ∧ k v = some r := by
  obtain ⟨v, v', h1, h2, h3⟩ := hm
  exact ⟨v, v', by rw [he]; simp [h1], h2, h3⟩

theorem idxOf_some {v : V} {d : Value} (r0 : Rep w h c v d) {k : Int → Option R} {r : R} (hk : idxOf v k = some r) : ∃ i n, d = .int i n ∧ k n = some r := by
  unfold idxOf at hk
  split at hk
  · exact ⟨_, _, r0.int_inv.1, hk⟩
  · cases hk

theorem bool_two {P1 P2 : Bool} (h : (P1 && P2) = true) : P1 = true ∧ P2 = true := by simpa using h

theorem indexAddr_sound (T : TOK P tt) {t : Nat} {a i : V} {a' i' : Value} (ra : Rep w h c a a') (ri : Rep w h c i i') {k : V → Option R} {r : R}
    (hk : (idxOf i fun n =>
      match (generalizing := false) (tt.at t).d, a with
      | .slice e, .sl T l _ => if T.sz = (tt.at e).size && tt.ok e then chk (decide (0 ≤ n) && decide (n < l.length)) (k (.iptr (T.cells (l.getD n.toNat T.dflt)))) else none
      | .slice e, .row id m => if tt.ok e then chk (decide (0 ≤ n) && decide (n < m)) (k (.rptr id (tt.at e).size n.toNat 0)) else none
      | _, _ => none) = some r) : Makes P w h c (Instr.indexAt t a' i') k r := by
  obtain ⟨ik, n, rfl, hk2⟩ := idxOf_some ri hk
  clear hk
  split at hk2
  · rename_i e T' l tk hd
    split at hk2
    · rename_i hcond
      simp only [Bool.and_eq_true, decide_eq_true_eq] at hcond
      obtain ⟨hsz, hok⟩ := hcond
      obtain ⟨hb, hk⟩ := chk_some hk2
      simp only [Bool.and_eq_true, decide_eq_true_eq] at hb
      have hu : P.underlying t = some (.slice e) := und_of T hd
      have hsz' := T.sizeOf (w := w) hok
      cases ra with
      | @sl _ _ _ A cap f hcap hmx hc hr hnil hown =>
        have hnl : n.toNat < l.length := by omega
        have hxd : l.getD n.toNat T'.dflt = l[n.toNat] := by simp [List.getD, List.getElem?_eq_getElem hnl]
        have hx : l[n.toNat]? = some l[n.toNat] := List.getElem?_eq_getElem hnl
        obtain ⟨b, o, rfl, _, _⟩ := hc n.toNat 0 hnl T'.sz_pos
        refine ⟨_, .pointer (some ⟨b, o + n.toNat * T'.sz, none⟩), ?_, ?_, hk⟩
        · simp [Instr.indexAt, asIntOf, run_underlying hu, hb.1, hb.2, hsz', ← hsz, add_off]
        · refine .iptr (fun j => f n.toNat j) (fun j hj => ?_) (fun j v hv => hr n.toNat j _ v hx (by rw [hxd] at hv; exact hv))
          rw [Ty.cells_len] at hj
          obtain ⟨b', o', e', h1, h2⟩ := hc n.toNat j hnl hj
          cases e'
          exact ⟨h1, h2⟩
    · cases hk2
  · rename_i e id m hd
    split at hk2
    · rename_i hok
      obtain ⟨hb, hk⟩ := chk_some hk2
      simp only [Bool.and_eq_true, decide_eq_true_eq] at hb
      have hu : P.underlying t = some (.slice e) := und_of T hd
      have hsz' := T.sizeOf (w := w) hok
      cases ra with
      | row hi _ hv =>
        obtain ⟨A, cap, rfl, hA, hv⟩ := hv
        obtain ⟨a, rfl⟩ := hA (by omega)
        refine ⟨_, .pointer (some (a.add (n.toNat * (tt.at e).size))), ?_, ?_, hk⟩
        · simp [Instr.indexAt, asIntOf, run_underlying hu, hb.1, hb.2, hsz']
        · refine .rptr hi ⟨_, rfl, fun T' l' he hsz hj => ?_⟩
          obtain ⟨_, _, _, h3⟩ := hv T' l' he
          rcases h3 with ⟨_, h3, _⟩ | ⟨b, arr, el, fz, g1, g2, _, _⟩
          · cases h3
          · cases g2
            exact ⟨b, g1, by rw [hsz, add_off]; rfl⟩
    · cases hk2
  · cases hk2
end
end Go.Yard
