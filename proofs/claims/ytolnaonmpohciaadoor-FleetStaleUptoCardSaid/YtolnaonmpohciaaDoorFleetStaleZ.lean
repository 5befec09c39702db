/-
  FleetStale: for every input whose bulk is at most 1048576 the law returns true, and each argument reads behind the call as it read before; part 9 of 9 of the proof: an interpreter of the model's code over typed data, proved sound; the functions that the law reaches, printed as Lean functions and tied; the plain law. Own texts laid one behind the other.
-/
import Derived.Test.YtolnaonmpohciaaDoorFleetStaleB8
set_option linter.unusedSimpArgs false
set_option linter.unnecessarySimpa false
set_option linter.unusedVariables false
set_option linter.unusedSectionVars false
set_option maxRecDepth 100000
namespace Go.Proofs.YtolnaonmpohciaaDoor
open Go Go.Yard Go.Lib

abbrev i64 (n : Int) : Prop := (-9223372036854775808 : Int) ≤ n ∧ n ≤ 9223372036854775807
theorem pathF_app : ∀ (l m : List Int) (i : Nat), pathF i (l ++ m) = (pathF i l && pathF (i + l.length) m)
  | [], m, i => by simp [pathF]
  | x :: l, m, i => by
    rw [List.cons_append, pathF_cons, pathF_cons, pathF_app l m (i + 1), List.length_cons, show i + 1 + l.length = i + (l.length + 1) by omega]
    simp only [Bool.and_assoc]

theorem path8_loop {R : Type} (y : Yard.Layout) (hy : LayOk y) (turns : List Int) (most n : Int) (out : List Int) (i : Int) (e0 : List Int → Int → List Int → Int → List Int → Yard.Layout → Option R) : ∀ (F j : Nat) (o : List Int), j ≤ y.edges.length → y.edges.length - j < F → o.length ≤ j → (∀ x ∈ o, ∃ z : Nat, x = z ∧ z < y.edges.length) →
    ∃ o' : List Int, o'.length ≤ 24 ∧ (∀ x ∈ o', ∃ z : Nat, x = z ∧ z < y.edges.length) ∧ law13_Path_8_0_L F turns most n out i o (j : Int) y e0 = e0 turns most out i o' y := by
  have hm := hy.many
  intro F
  induction F with
  | zero => intro j _ _ hF; omega
  | succ F ih =>
    intro j o hj hF ho hz
    show ∃ o' : List Int, o'.length ≤ 24 ∧ (∀ x ∈ o', ∃ z : Nat, x = z ∧ z < y.edges.length) ∧ law13_Path_8_0_B (fun a b c d g h k l => law13_Path_8_0_L F a b c d g h k l e0) turns most n out i o (j : Int) y e0 = _
    unfold law13_Path_8_0_B
    by_cases hlt : j < y.edges.length
    rotate_left
    · exact ⟨o, by omega, hz, by rw [dfalse (show ¬ (j : Int) < (y.edges.length : Int) by omega), cond_false]⟩
    rw [in_range hlt, chk_pos rfl, dtrue (show (j : Int) < (y.edges.length : Int) by omega), cond_true, step_i hlt (by omega)]
    cases hb : ((y.edges.getD (j : Int).toNat (Ty.dflt .edge)).src == n) with
    | false => exact ih (j + 1) o (by omega) (by omega) (by omega) hz
    | true =>
      rw [cond_true, dtrue (by omega), chk_pos rfl]
      exact ih (j + 1) (o ++ [(j : Int)]) (by omega) (by omega) (by rw [List.length_append]; simp only [List.length_cons, List.length_nil]; omega) (fun x hx => by
        rcases List.mem_append.1 hx with h | h
        · exact hz x h
        · exact ⟨j, List.mem_singleton.1 h, hlt⟩)

theorem path4_loop {R : Type} (y : Yard.Layout) (hy : LayOk y) (turns : List Int) (ht : turns.length ≤ 1048576) (hti : ∀ x ∈ turns, i64 x) (most : Nat) (hmost : most ≤ 20) (e0 : List Int → Option R) : ∀ (F i : Nat) (n : Int) (out : List Int), i ≤ turns.length → i ≤ most → turns.length - i < F → out.length ≤ 2 * i + 1 → pathB out = true →
    ∃ p : List Int, pathB p = true ∧ p.length ≤ 41 ∧ law13_Path_4_0_L F turns (most : Int) n out (i : Int) y e0 = e0 p := by
  intro F
  induction F with
  | zero => intro i _ _ _ _ hF; omega
  | succ F ih =>
    intro i n out hi hm hF ho hp
    show ∃ p : List Int, pathB p = true ∧ p.length ≤ 41 ∧ law13_Path_4_0_B law13_pick law13_Path_8_0_L (fun a b c d g h => law13_Path_4_0_L F a b c d g h e0) turns (most : Int) n out (i : Int) y e0 = _
    unfold law13_Path_4_0_B
    by_cases hlt : i < turns.length
    rotate_left
    · exact ⟨out, hp, by omega, by rw [dfalse (show ¬ (i : Int) < (turns.length : Int) by omega), cond_false]⟩
    by_cases hlm : i < most
    rotate_left
    · exact ⟨out, hp, by omega, by rw [dtrue (show (i : Int) < (turns.length : Int) by omega), cond_true, dfalse (show ¬ (i : Int) < (most : Int) by omega), cond_false]⟩
    rw [dtrue (show (i : Int) < (turns.length : Int) by omega), cond_true, dtrue (show (i : Int) < (most : Int) by omega), cond_true]
    have hfu : y.edges.length < List.length turns + Int.natAbs (most : Int) + Int.natAbs n + List.length out + Int.natAbs (i : Int) + List.length ([] : List Int) + Int.natAbs 0 + Yard.Layout.fu y + 64 := by have := hy.many; omega
    obtain ⟨o, o1, o2, o3⟩ := path8_loop (R := R) y hy turns (most : Int) n out (i : Int) (fun y21 y22 y23 y24 y25 y26 => bif ((y25.length : Int) == 0) then (e0 y23) else (chk (decide ((0 : Int) ≤ y24) && decide (y24 < (y21.length : Int))) (law13_pick (y21.getD y24.toNat (Ty.dflt (.int .i64))) (y25.length : Int) (fun y27 => chk (decide ((0 : Int) ≤ y27) && decide (y27 < (y25.length : Int))) (chk (decide ((0 : Int) ≤ (y25.getD y27.toNat (Ty.dflt (.int .i64)))) && decide ((y25.getD y27.toNat (Ty.dflt (.int .i64))) < (y26.edges.length : Int))) (chk (decide ((y23.length + 2) * 8 ≤ 140737488355328)) (law13_Path_4_0_L F y21 y22 ((y26.edges.getD (y25.getD y27.toNat (Ty.dflt (.int .i64))).toNat (Ty.dflt .edge)).dst) ((y23 : List Int) ++ (([(IntKind.i64.wrap (1000 + (y25.getD y27.toNat (Ty.dflt (.int .i64))))), (y26.edges.getD (y25.getD y27.toNat (Ty.dflt (.int .i64))).toNat (Ty.dflt .edge)).dst] : List Int) : List Int)) (IntKind.i64.wrap (y24 + 1)) y26 e0))))))) _ 0 [] (Nat.zero_le _) (by omega) (Nat.le_refl _) (fun x hx => by cases hx)
    have o3' := fun (p : List Int) (hx : pathB p = true ∧ p.length ≤ 41 ∧ _ = e0 p) => (⟨p, hx.1, hx.2.1, o3.trans hx.2.2⟩ : ∃ p : List Int, pathB p = true ∧ p.length ≤ 41 ∧ _ = e0 p)
    by_cases hz : o.length = 0
    · refine o3' out ⟨hp, by omega, ?_⟩
      rw [beq_dec, dtrue (show (o.length : Int) = 0 by omega), cond_true]
    have hg : turns.getD (i : Int).toNat (Ty.dflt (.int .i64)) = turns[i] := getD_at hlt _
    obtain ⟨r, r1, _, r2, _⟩ := pickV (R := R) turns[i] (o.length : Int) (hti _ (List.getElem_mem hlt)) (by omega) (by omega)
    have hro : r < o.length := by omega
    have hg2 : o.getD (r : Int).toNat (Ty.dflt (.int .i64)) = o[r] := getD_at hro _
    obtain ⟨z, z1, z2⟩ := o2 o[r] (List.getElem_mem hro)
    have hg3 : y.edges.getD (z : Int).toNat (Ty.dflt .edge) = y.edges[z] := getD_at z2 _
    obtain ⟨d1, d2⟩ := hy.dst y.edges[z] (List.getElem_mem z2)
    have hyn := hy.nodes
    have hm2 := hy.many
    have hw : IntKind.i64.wrap (1000 + (z : Int)) = 1000 + (z : Int) := wrap_id (by omega) (by omega)
    unfold pathB at hp
    rw [Bool.and_eq_true, decide_eq_true_eq] at hp
    have hp2 : pathB (out ++ [1000 + (z : Int), y.edges[z].dst]) = true := by
      unfold pathB
      rw [pathF_app, hp.1, Bool.true_and, List.length_append, pathF_cons, pathF_cons, Nat.zero_add]
      rw [dtrue (show (0 : Int) ≤ 1000 + (z : Int) by omega), dtrue (show (1000 : Int) ≤ 1000 + (z : Int) by omega), dtrue hp.2, dtrue d1, dfalse (show ¬ (1000 : Int) ≤ y.edges[z].dst by omega), dfalse (show ¬ (out.length + 1) % 2 = 1 by omega), dtrue (by simp only [List.length_cons, List.length_nil]; omega)]
      rfl
    obtain ⟨p, p1, p2, p3⟩ := ih (i + 1) y.edges[z].dst (out ++ [1000 + (z : Int), y.edges[z].dst]) (by omega) (by omega) (by omega) (by rw [List.length_append]; simp only [List.length_cons, List.length_nil]; omega) hp2
    refine o3' p ⟨p1, p2, ?_⟩
    rw [beq_dec, dfalse (show ¬ (o.length : Int) = 0 by omega), cond_false, in_range hlt, chk_pos rfl, hg, r2, in_range hro, chk_pos rfl, hg2, z1, in_range z2, chk_pos rfl, dtrue (by omega), chk_pos rfl, hg3, hw, step_i hlt (by omega)]
    exact p3
theorem path_made {R : Type} (y : Yard.Layout) (hy : LayOk y) (from_ : Int) (hf : i64 from_) (turns : List Int) (ht : turns.length ≤ 1048576) (hti : ∀ x ∈ turns, i64 x) (k : List Int → Option R) :
    ∃ p : List Int, pathB p = true ∧ p.length ≤ 41 ∧ law13_Path y from_ turns 20 k = k p := by
  have hyn := hy.nodes
  obtain ⟨r, r1, _, r2, _⟩ := pickV (R := R) from_ y.nodes hf (by omega) (by omega)
  have e : law13_Path y from_ turns 20 k = law13_pick from_ y.nodes (fun y5 => law13_Path_4_0_L (List.length turns + Int.natAbs 20 + Int.natAbs y5 + List.length ([y5] : List Int) + Int.natAbs 0 + Yard.Layout.fu y + 64) turns 20 y5 ([y5] : List Int) 0 y (fun y28 => k y28)) := rfl
  rw [e, r2]
  refine path4_loop y hy turns ht hti 20 (Nat.le_refl _) k (List.length turns + Int.natAbs 20 + Int.natAbs (r : Int) + List.length ([(r : Int)] : List Int) + Int.natAbs 0 + Yard.Layout.fu y + 64) 0 (r : Int) [(r : Int)] (by omega) (by omega) (by omega) (Nat.le_refl _) ?_
  unfold pathB
  rw [pathF_cons, dtrue (show (0 : Int) ≤ (r : Int) by omega), dfalse (show ¬ (1000 : Int) ≤ (r : Int) by omega)]
  rfl

structure RawK (x : Raw13) : Prop where
  header : i64 x.header
  order : i64 x.order
  update : i64 x.update
  seq : i64 x.seq
  from_ : i64 x.from_
  released : i64 x.released
  many : x.turns.length ≤ 1048576
  turns : ∀ z ∈ x.turns, i64 z
theorem vname : ([118] : Str).length ≤ 1099511627776 := by decide
theorem made13 {R : Type} (y : Yard.Layout) (hy : LayOk y) (x : Raw13) (hx : RawK x) (k : Order → List Int → Option R) :
    ∃ (p : List Int) (o : Order), pathB p = true ∧ p.length ≤ 41 ∧ ShortO o ∧ (0 ≤ o.header ∧ o.header ≤ 50) ∧ law13_Make y x k = k o p := by
  have e : ∀ k : Order → List Int → Option R, law13_Make y x k = law13_Path y x.from_ x.turns 20 (fun y3 => law13_pick x.header 50 (fun y4 => law13_pick x.order 3 (fun y5 => law13_pick x.update 4 (fun y6 => law13_pick x.seq 20 (fun y7 => law13_pick x.released (IntKind.i64.wrap (Int.tdiv (IntKind.i64.wrap ((y3.length : Int) + 1)) 2)) (fun y8 => ref13_Order (⟨y4, ([118] : Str), y5, y6, ([] : List Stop), ([] : List Yard.Way)⟩ : Order) y3 (IntKind.i64.wrap (2 * y7)) (IntKind.i64.wrap (1 + y8)) (fun y9 y10 => k y9 y3))))))) := fun _ => rfl
  rw [e]
  obtain ⟨p, p1, p2, p3⟩ := path_made (R := R) y hy x.from_ hx.from_ x.turns hx.many hx.turns (fun y3 => law13_pick x.header 50 (fun y4 => law13_pick x.order 3 (fun y5 => law13_pick x.update 4 (fun y6 => law13_pick x.seq 20 (fun y7 => law13_pick x.released (IntKind.i64.wrap (Int.tdiv (IntKind.i64.wrap ((y3.length : Int) + 1)) 2)) (fun y8 => ref13_Order (⟨y4, ([118] : Str), y5, y6, ([] : List Stop), ([] : List Yard.Way)⟩ : Order) y3 (IntKind.i64.wrap (2 * y7)) (IntKind.i64.wrap (1 + y8)) (fun y9 y10 => k y9 y3)))))))
  rw [p3]
  obtain ⟨a, a1, _, a2, _⟩ := pickV (R := R) x.header 50 hx.header (by omega) (by omega)
  obtain ⟨b, b1, _, b2, _⟩ := pickV (R := R) x.order 3 hx.order (by omega) (by omega)
  obtain ⟨c, c1, _, c2, _⟩ := pickV (R := R) x.update 4 hx.update (by omega) (by omega)
  obtain ⟨d, d1, _, d2, _⟩ := pickV (R := R) x.seq 20 hx.seq (by omega) (by omega)
  have hodd : p.length % 2 = 1 := by
    unfold pathB at p1
    rw [Bool.and_eq_true, decide_eq_true_eq] at p1
    exact p1.2
  have hn : IntKind.i64.wrap (Int.tdiv (IntKind.i64.wrap ((p.length : Int) + 1)) 2) = (((p.length + 1) / 2 : Nat) : Int) := by
    rw [wrap_id (n := (p.length : Int) + 1) (by omega) (by omega), show (p.length : Int) + 1 = ((p.length + 1 : Nat) : Int) by omega, show Int.tdiv ((p.length + 1 : Nat) : Int) 2 = (((p.length + 1) / 2 : Nat) : Int) from rfl, wrap_id (by omega) (by omega)]
  obtain ⟨g, g1, _, g2, _⟩ := pickV (R := R) x.released (((p.length + 1) / 2 : Nat) : Int) hx.released (by omega) (by omega)
  rw [a2, b2, c2, d2, hn, g2, rwalk_ok _ vname _ (by omega)]
  refine ⟨p, _, p1, p2, walkP_short _ vname _ _ _, ?_, rfl⟩
  unfold walkP
  cases pathB p && rightO (orderP ⟨(a : Int), [118], (b : Int), (c : Int), [], []⟩ p (IntKind.i64.wrap (2 * (d : Int))) (IntKind.i64.wrap (1 + (g : Int))))
  · exact ⟨Int.le_refl _, by show (0 : Int) ≤ 50; omega⟩
  · exact ⟨Int.natCast_nonneg _, Int.le_of_lt a1⟩

structure CtlOk (d : YCtl) : Prop where
  vehicle : d.vehicle = [118]
  header : 0 ≤ d.header ∧ d.header ≤ 1000000000
  order : 0 ≤ d.order ∧ d.order ≤ 8
  update : 0 ≤ d.update ∧ d.update ≤ 8
  boot : 0 ≤ d.boot ∧ d.boot ≤ 3
  seen : 0 ≤ d.seen ∧ d.seen ≤ 8
  path : pathB d.path = true ∧ d.path.length ≤ 41
  seq : ∃ q : Nat, d.seq = 2 * (q : Int) ∧ q ≤ 8
  rel : 0 ≤ d.rel ∧ d.rel ≤ 20
  pend : ShortO d.pending ∧ 0 ≤ d.pending.header ∧ d.pending.header ≤ 50
theorem CtlOk.short {d : YCtl} (h : CtlOk d) : ShortC d := ⟨by have := h.path.2; omega, by rw [h.vehicle]; decide, h.pend.1⟩
structure NumC (c : YCtl) : Prop where
  header : i64 c.header
  order : i64 c.order
  update : i64 c.update
  boot : i64 c.boot
  seen : i64 c.seen
  seq : i64 c.seq
  rel : i64 c.rel
theorem fit18 {R : Type} (y : Yard.Layout) (hy : LayOk y) (c : YCtl) (hc : NumC c) (x : Raw13) (hx : RawK x) (k : YCtl → Option R) : ∃ d : YCtl, CtlOk d ∧ law18_Fit y c x k = k d := by
  have e : ∀ k : YCtl → Option R, law18_Fit y c x k = law13_Make y x (fun y4 y5 => law18_pick c.header 1000000001 (fun y6 => law18_pick c.order 9 (fun y7 => law18_pick c.update 9 (fun y8 => law18_pick c.boot 4 (fun y9 => law18_pick c.seen 9 (fun y10 => law18_pick c.seq 9 (fun y11 => law18_pick c.rel (IntKind.i64.wrap ((IntKind.i64.wrap (Int.tdiv (y5.length : Int) 2)) + 1)) (fun y12 => bif c.wait then (k (⟨([118] : Str), y6, y7, y8, y9, y10, y5, (IntKind.i64.wrap (2 * y11)), c.open_, y12, c.wait, ⟨y4.header, y4.vehicle, y4.order, y4.update, y4.nodes, y4.edges⟩⟩ : YCtl)) else (k (⟨([118] : Str), y6, y7, y8, y9, y10, y5, (IntKind.i64.wrap (2 * y11)), c.open_, y12, c.wait, ⟨0, ([] : Str), 0, 0, ([] : List Stop), ([] : List Yard.Way)⟩⟩ : YCtl)))))))))) := fun _ => rfl
  rw [e]
  obtain ⟨p, o, p1, p2, o1, o2, h⟩ := made13 (R := R) y hy x hx (fun y4 y5 => law18_pick c.header 1000000001 (fun y6 => law18_pick c.order 9 (fun y7 => law18_pick c.update 9 (fun y8 => law18_pick c.boot 4 (fun y9 => law18_pick c.seen 9 (fun y10 => law18_pick c.seq 9 (fun y11 => law18_pick c.rel (IntKind.i64.wrap ((IntKind.i64.wrap (Int.tdiv (y5.length : Int) 2)) + 1)) (fun y12 => bif c.wait then (k (⟨([118] : Str), y6, y7, y8, y9, y10, y5, (IntKind.i64.wrap (2 * y11)), c.open_, y12, c.wait, ⟨y4.header, y4.vehicle, y4.order, y4.update, y4.nodes, y4.edges⟩⟩ : YCtl)) else (k (⟨([118] : Str), y6, y7, y8, y9, y10, y5, (IntKind.i64.wrap (2 * y11)), c.open_, y12, c.wait, ⟨0, ([] : Str), 0, 0, ([] : List Stop), ([] : List Yard.Way)⟩⟩ : YCtl))))))))))
  rw [h]
  obtain ⟨a, a1, _, _, a2⟩ := pickV (R := R) c.header 1000000001 hc.header (by omega) (by omega)
  obtain ⟨b, b1, _, _, b2⟩ := pickV (R := R) c.order 9 hc.order (by omega) (by omega)
  obtain ⟨u, u1, _, _, u2⟩ := pickV (R := R) c.update 9 hc.update (by omega) (by omega)
  obtain ⟨t, t1, _, _, t2⟩ := pickV (R := R) c.boot 4 hc.boot (by omega) (by omega)
  obtain ⟨s, s1, _, _, s2⟩ := pickV (R := R) c.seen 9 hc.seen (by omega) (by omega)
  obtain ⟨q, q1, _, _, q2⟩ := pickV (R := R) c.seq 9 hc.seq (by omega) (by omega)
  have hn : IntKind.i64.wrap ((IntKind.i64.wrap (Int.tdiv (p.length : Int) 2)) + 1) = ((p.length / 2 + 1 : Nat) : Int) := by
    rw [show Int.tdiv (p.length : Int) 2 = ((p.length / 2 : Nat) : Int) from rfl, wrap_id (n := ((p.length / 2 : Nat) : Int)) (by omega) (by omega), wrap_id (by omega) (by omega)]
    omega
  obtain ⟨g, g1, _, _, g2⟩ := pickV (R := R) c.rel ((p.length / 2 + 1 : Nat) : Int) hc.rel (by omega) (by omega)
  have hw : IntKind.i64.wrap (2 * (q : Int)) = 2 * (q : Int) := wrap_id (by omega) (by omega)
  rw [a2, b2, u2, t2, s2, q2, hn, g2, hw]
  cases c.wait with
  | true => exact ⟨_, ⟨rfl, ⟨by show (0 : Int) ≤ (a : Int); omega, by show (a : Int) ≤ _; omega⟩, ⟨by show (0 : Int) ≤ (b : Int); omega, by show (b : Int) ≤ _; omega⟩, ⟨by show (0 : Int) ≤ (u : Int); omega, by show (u : Int) ≤ _; omega⟩, ⟨by show (0 : Int) ≤ (t : Int); omega, by show (t : Int) ≤ _; omega⟩, ⟨by show (0 : Int) ≤ (s : Int); omega, by show (s : Int) ≤ _; omega⟩, ⟨p1, p2⟩, ⟨q, rfl, by omega⟩, ⟨by show (0 : Int) ≤ (g : Int); omega, by show (g : Int) ≤ _; omega⟩, ⟨⟨o1.nodes, o1.edges, o1.name⟩, o2⟩⟩, rfl⟩
  | false => exact ⟨_, ⟨rfl, ⟨by show (0 : Int) ≤ (a : Int); omega, by show (a : Int) ≤ _; omega⟩, ⟨by show (0 : Int) ≤ (b : Int); omega, by show (b : Int) ≤ _; omega⟩, ⟨by show (0 : Int) ≤ (u : Int); omega, by show (u : Int) ≤ _; omega⟩, ⟨by show (0 : Int) ≤ (t : Int); omega, by show (t : Int) ≤ _; omega⟩, ⟨by show (0 : Int) ≤ (s : Int); omega, by show (s : Int) ≤ _; omega⟩, ⟨p1, p2⟩, ⟨q, rfl, by omega⟩, ⟨by show (0 : Int) ≤ (g : Int); omega, by show (g : Int) ≤ _; omega⟩, ⟨zeroP_short, ⟨Int.le_refl _, by show (0 : Int) ≤ 50; omega⟩⟩⟩, rfl⟩

theorem indexV_loop {R : Type} (l : List Int) (hl : l.length ≤ 1099511627776) (x : Int) (X e0 : Option R) (e1 : Int → Option R) (h1 : ∀ j : Nat, e1 (j : Int) = X) : ∀ (F i : Nat), i ≤ l.length → l.length - i < F →
    slices_Index_intint_2_0_L F l x (l.length : Int) (i : Int) e0 e1 = bif (l.drop i).contains x then X else e0 := by
  intro F
  induction F with
  | zero => intro i _ hF; omega
  | succ F ih =>
    intro i hi hF
    show slices_Index_intint_2_0_B (fun a b c d => slices_Index_intint_2_0_L F a b c d e0 e1) l x (l.length : Int) (i : Int) e0 e1 = _
    unfold slices_Index_intint_2_0_B
    by_cases h : i < l.length
    · have hg : l.getD (i : Int).toNat (Ty.dflt (.int .i64)) = l[i] := getD_at h _
      rw [in_range h, chk_pos rfl, dtrue (show (i : Int) < (l.length : Int) by omega), cond_true, hg, step_i h (by omega), List.drop_eq_getElem_cons h, List.contains_cons, h1]
      dsimp only
      rw [ih (i + 1) (by omega) (by omega)]
      cases x == l[i] <;> rfl
    · rw [dfalse (show ¬ (i : Int) < (l.length : Int) by omega), cond_false, List.drop_eq_nil_of_le (by omega)]
      rfl
theorem containsV_ok {R : Type} (l : List Int) (hl : l.length ≤ 1099511627776) (x : Int) (k : Bool → Option R) : slices_Contains_intint l x k = k (l.contains x) := by
  unfold slices_Contains_intint slices_Contains_intint_X slices_Index_intint slices_Index_intint_X
  refine (indexV_loop l hl x (k true) _ _ (fun j => ?_) _ 0 (by omega) (by omega)).trans ?_
  · show k (decide ((j : Int) ≥ 0)) = k true
    rw [dtrue (show (j : Int) ≥ 0 by omega)]
  · rw [List.drop_zero]
    cases l.contains x <;> rfl
def goesL (rest : List Int) : List Int → List Int → List Int
  | left, [] => left
  | left, x :: g => bif rest.contains x then goesL rest left g else bif left.contains x then goesL rest left g else goesL rest (left ++ [x]) g
theorem goesL_cons (rest left : List Int) (x : Int) (g : List Int) : goesL rest left (x :: g) = bif rest.contains x then goesL rest left g else bif left.contains x then goesL rest left g else goesL rest (left ++ [x]) g := rfl
theorem goes1_loop {R : Type} (n : Int) (gone : List Int) (hg : gone.length ≤ 1099511627776) (c : YCtl) (hc : c.path.length ≤ 1099511627776) (e0 : Int → List Int → YCtl → Option R) : ∀ (F i : Nat) (left : List Int), i ≤ gone.length → gone.length - i < F → left.length ≤ i →
    fleet_ctl_goes_4f52_4_0_L F n left gone (gone.length : Int) (i : Int) c e0 = e0 n (goesL c.path left (gone.drop i)) c := by
  intro F
  induction F with
  | zero => intro i _ _ hF; omega
  | succ F ih =>
    intro i left hi hF hl
    show fleet_ctl_goes_4f52_4_0_B slices_Contains_intint (fun a b c d g h => fleet_ctl_goes_4f52_4_0_L F a b c d g h e0) n left gone (gone.length : Int) (i : Int) c e0 = _
    unfold fleet_ctl_goes_4f52_4_0_B
    by_cases h : i < gone.length
    · have hg : gone.getD (i : Int).toNat (Ty.dflt (.int .i64)) = gone[i] := getD_at h _
      rw [in_range h, chk_pos rfl, dtrue (show (i : Int) < (gone.length : Int) by omega), cond_true, hg, step_i h (by omega), List.drop_eq_getElem_cons h, goesL_cons, containsV_ok _ hc]
      cases c.path.contains gone[i] with
      | true => rw [Bool.not_true, cond_false, cond_true]; exact ih (i + 1) left (by omega) (by omega) (by omega)
      | false =>
        rw [Bool.not_false, cond_false, cond_true, containsV_ok _ (by omega)]
        cases left.contains gone[i] with
        | true => rw [Bool.not_true, cond_false, cond_true]; exact ih (i + 1) left (by omega) (by omega) (by omega)
        | false =>
          rw [Bool.not_false, cond_false, cond_true, dtrue (by omega), chk_pos rfl]
          exact ih (i + 1) (left ++ [gone[i]]) (by omega) (by omega) (by rw [List.length_append]; simp only [List.length_cons, List.length_nil]; omega)
    · rw [dfalse (show ¬ (i : Int) < (gone.length : Int) by omega), cond_false, List.drop_eq_nil_of_le (by omega)]
      rfl
theorem goes2_loop {R : Type} (n : Int) (gone : List Int) (hg : gone.length ≤ 1099511627776) (a1 : Str) (a2 a3 a4 a5 a6 : Int) (pa : List Int) (hc : pa.length ≤ 1099511627776) (a8 : Int) (a9 : Bool) (a10 : Int) (a11 : Bool) (a12 : Int) (a13 : Str) (a14 a15 : Int) (e0 : Int → List Int → Str → Int → Int → Int → Int → Int → List Int → Int → Bool → Int → Bool → Int → Str → Int → Int → Option R) : ∀ (F i : Nat) (left : List Int), i ≤ gone.length → gone.length - i < F → left.length ≤ i →
    fleet_ctl_goes_a984_4_0_L F n left gone (gone.length : Int) (i : Int) a1 a2 a3 a4 a5 a6 pa a8 a9 a10 a11 a12 a13 a14 a15 e0 = e0 n (goesL pa left (gone.drop i)) a1 a2 a3 a4 a5 a6 pa a8 a9 a10 a11 a12 a13 a14 a15 := by
  intro F
  induction F with
  | zero => intro i _ _ hF; omega
  | succ F ih =>
    intro i left hi hF hl
    show fleet_ctl_goes_a984_4_0_B slices_Contains_intint (fun a b c d g b1 b2 b3 b4 b5 b6 b7 b8 b9 b10 b11 b12 b13 b14 b15 => fleet_ctl_goes_a984_4_0_L F a b c d g b1 b2 b3 b4 b5 b6 b7 b8 b9 b10 b11 b12 b13 b14 b15 e0) n left gone (gone.length : Int) (i : Int) a1 a2 a3 a4 a5 a6 pa a8 a9 a10 a11 a12 a13 a14 a15 e0 = _
    unfold fleet_ctl_goes_a984_4_0_B
    by_cases h : i < gone.length
    · have hg : gone.getD (i : Int).toNat (Ty.dflt (.int .i64)) = gone[i] := getD_at h _
      rw [in_range h, chk_pos rfl, dtrue (show (i : Int) < (gone.length : Int) by omega), cond_true, hg, step_i h (by omega), List.drop_eq_getElem_cons h, goesL_cons, containsV_ok _ hc]
      cases pa.contains gone[i] with
      | true => rw [Bool.not_true, cond_false, cond_true]; exact ih (i + 1) left (by omega) (by omega) (by omega)
      | false =>
        rw [Bool.not_false, cond_false, cond_true, containsV_ok _ (by omega)]
        cases left.contains gone[i] with
        | true => rw [Bool.not_true, cond_false, cond_true]; exact ih (i + 1) left (by omega) (by omega) (by omega)
        | false =>
          rw [Bool.not_false, cond_false, cond_true, dtrue (by omega), chk_pos rfl]
          exact ih (i + 1) (left ++ [gone[i]]) (by omega) (by omega) (by rw [List.length_append]; simp only [List.length_cons, List.length_nil]; omega)
    · rw [dfalse (show ¬ (i : Int) < (gone.length : Int) by omega), cond_false, List.drop_eq_nil_of_le (by omega)]
      rfl

def zeroO : Order := ⟨0, [], 0, 0, [], []⟩
def doneC (c : YCtl) : YCtl := ⟨c.vehicle, c.header, c.order, c.update, c.boot, c.seen, c.path, c.seq, c.open_, c.rel, false, zeroO⟩
def goC (c : YCtl) (n : Int) : YCtl := ⟨c.vehicle, c.header, c.order, c.update, c.boot, c.seen, c.path.drop n.toNat, IntKind.i64.wrap (c.seq + n), c.open_, max (IntKind.i64.wrap (c.rel - IntKind.i64.wrap (Int.tdiv n 2))) 0, c.wait, c.pending⟩
theorem goes1 {R : Type} (n : Int) (c : YCtl) (hp : c.path.length ≤ 1099511627776) (h0 : 0 ≤ n) (h1 : n ≤ c.path.length) (k : List Int → YCtl → Option R) :
    fleet_ctl_goes_4f52 n c k = k (goesL (c.path.drop n.toNat) [] (c.path.take n.toNat)) (goC c n) := by
  unfold fleet_ctl_goes_4f52 fleet_ctl_goes_4f52_X
  have ct : ∀ a : Option R, chk true a = a := fun _ => rfl
  rw [dtrue h0, dtrue h1]
  simp only [Bool.and_self, ct, List.drop_zero, Nat.sub_zero]
  have hl : (c.path.take n.toNat).length ≤ 1099511627776 := by rw [List.length_take]; omega
  refine (goes1_loop n (c.path.take n.toNat) hl _ (by rw [List.length_drop]; omega) _ _ 0 [] (by omega) (by omega) (Nat.le_refl _)).trans ?_
  rfl
theorem fuel_big (u z l b0 b1 b2 b3 b4 b5 b6 b7 b8 b9 b10 b11 b12 b13 b14 : Nat) : l - 0 < u + z + l + b0 + b1 + b2 + b3 + b4 + b5 + b6 + b7 + b8 + b9 + b10 + b11 + b12 + b13 + b14 + 64 := by omega
theorem goes2 {R : Type} (n : Int) (a1 : Str) (a2 a3 a4 a5 a6 : Int) (pa : List Int) (hp : pa.length ≤ 1099511627776) (a8 : Int) (a9 : Bool) (a10 : Int) (a11 : Bool) (a12 : Int) (a13 : Str) (a14 a15 : Int) (h0 : 0 ≤ n) (h1 : n ≤ pa.length) (k : List Int → Str → Int → Int → Int → Int → Int → List Int → Int → Bool → Int → Bool → Int → Str → Int → Int → Option R) :
    fleet_ctl_goes_a984 n a1 a2 a3 a4 a5 a6 pa a8 a9 a10 a11 a12 a13 a14 a15 k = k (goesL (pa.drop n.toNat) [] (pa.take n.toNat)) a1 a2 a3 a4 a5 a6 (pa.drop n.toNat) (IntKind.i64.wrap (a8 + n)) a9 (max (IntKind.i64.wrap (a10 - IntKind.i64.wrap (Int.tdiv n 2))) 0) a11 a12 a13 a14 a15 := by
  unfold fleet_ctl_goes_a984 fleet_ctl_goes_a984_X
  have ct : ∀ a : Option R, chk true a = a := fun _ => rfl
  rw [dtrue h0, dtrue h1]
  simp only [Bool.and_self, ct, List.drop_zero, Nat.sub_zero]
  have hl : (pa.take n.toNat).length ≤ 1099511627776 := by rw [List.length_take]; omega
  have hl2 : (pa.drop n.toNat).length ≤ 1099511627776 := by rw [List.length_drop]; omega
  refine (goes2_loop n (pa.take n.toNat) hl a1 a2 a3 a4 a5 a6 (pa.drop n.toNat) hl2 a8 a9 a10 a11 a12 a13 a14 a15 _ _ 0 [] (Nat.zero_le _) (fuel_big ..) (Nat.le_refl _)).trans ?_
  rw [List.drop_zero]

def mayC (c : YCtl) (s : YState) : Bool := rightC c && (rightA s && ((s.vehicle == c.vehicle) && newerA s ⟨c.seen, c.boot, [], 0, 0, false, 0, 0, false, 0⟩))
def stepN (c : YCtl) (s : YState) : Int := IntKind.i64.wrap (s.seq - c.seq)
def goesC (c : YCtl) (s : YState) : Bool := decide (stepN c s > 0) && ((Int.tmod (stepN c s) 2 == 0) && decide (stepN c s < (c.path.length : Int)))
def oldC (c : YCtl) (s : YState) : YCtl := ⟨c.vehicle, c.header, c.order, c.update, s.boot, s.header, c.path, c.seq, c.open_, c.rel, c.wait, c.pending⟩
def waitC (c : YCtl) (s : YState) : YCtl := bif c.wait && decide (s.accepted ≥ c.pending.header) then doneC (oldC c s) else oldC c s
def shutC (c : YCtl) : YCtl := ⟨c.vehicle, c.header, c.order, c.update, c.boot, c.seen, c.path, c.seq, false, 0, false, zeroO⟩
def seenC (c : YCtl) (s : YState) : YCtl :=
  bif (s.order == 0) || (s.order != c.order) then waitC c s
  else bif c.open_ && !s.live then shutC (bif goesC c s then goC (waitC c s) (stepN c s) else waitC c s) else bif goesC c s then goC (waitC c s) (stepN c s) else waitC c s
def leftC (c : YCtl) (s : YState) : List Int :=
  bif (s.order == 0) || (s.order != c.order) then [] else bif goesC c s then goesL (c.path.drop (stepN c s).toNat) [] (c.path.take (stepN c s).toNat) else []
theorem see_ok {R : Type} (c : YCtl) (s : YState) (h : ShortC c) (k : YCtl → List Int → Bool → Option R) :
    fleet_See c s k = bif mayC c s then k (seenC c s) (leftC c s) true else k c [] false := by
  unfold fleet_See fleet_See_X mayC
  rw [own_ok c h, rightC_ok c h, rightA_walk, newerA_walk]
  cases rightC c with
  | false => rfl
  | true =>
  cases rightA s with
  | false => rfl
  | true =>
  cases s.vehicle == c.vehicle with
  | false => rfl
  | true =>
  cases newerA s ⟨c.seen, c.boot, [], 0, 0, false, 0, 0, false, 0⟩ with
  | false => rfl
  | true =>
  have hp := h.path
  obtain ⟨ve, hd, od, up, bo, se, pa, sq, op, re, wa, ⟨ph, pv, po, pu, pn, pe⟩⟩ := c
  unfold seenC leftC waitC goesC stepN
  dsimp only at hp ⊢
  generalize IntKind.i64.wrap (s.seq - sq) = n
  have hgo : decide (n > 0) = true → decide (n < (pa.length : Int)) = true → 0 ≤ n ∧ n ≤ pa.length := fun h1 h2 => by
    rw [decide_eq_true_eq] at h1 h2
    omega
  generalize decide (n > 0) = b1 at *
  generalize (Int.tmod n 2 == 0) = b2 at *
  generalize decide (n < (pa.length : Int)) = b3 at *
  generalize (s.order == 0) = b4
  generalize (s.order != od) = b5
  generalize decide (s.accepted ≥ ph) = b6
  generalize s.live = b7
  cases b4 with
  | true => cases wa <;> cases b6 <;> rfl
  | false =>
  cases b5 with
  | true => cases wa <;> cases b6 <;> rfl
  | false =>
  by_cases hb : b1 = true ∧ b2 = true ∧ b3 = true
  · obtain ⟨rfl, rfl, rfl⟩ := hb
    obtain ⟨g1, g2⟩ := hgo rfl rfl
    cases wa <;> cases b6 <;> simp only [cond_true, cond_false, Bool.not_true, Bool.not_false, Bool.or_self, Bool.and_self, Bool.and_true, Bool.and_false, Bool.true_and, Bool.false_and]
    · rw [goes1 n ⟨ve, hd, od, up, s.boot, s.header, pa, sq, op, re, false, ⟨ph, pv, po, pu, pn, pe⟩⟩ hp g1 g2]
      cases op <;> cases b7 <;> rfl
    · rw [goes1 n ⟨ve, hd, od, up, s.boot, s.header, pa, sq, op, re, false, ⟨ph, pv, po, pu, pn, pe⟩⟩ hp g1 g2]
      cases op <;> cases b7 <;> rfl
    · rw [goes1 n ⟨ve, hd, od, up, s.boot, s.header, pa, sq, op, re, true, ⟨ph, pv, po, pu, pn, pe⟩⟩ hp g1 g2]
      cases op <;> cases b7 <;> rfl
    · unfold fleet_ctl_done_dbb7 fleet_ctl_done_dbb7_X
      dsimp only
      rw [goes2 n ve hd od up s.boot s.header pa hp sq op re false 0 [] 0 0 g1 g2]
      cases op <;> cases b7 <;> rfl
  · have hb' : (b1 && (b2 && b3)) = false := by
      cases b1 <;> cases b2 <;> cases b3 <;> first | rfl | exact (hb ⟨rfl, rfl, rfl⟩).elim
    cases wa <;> cases b6 <;> cases op <;> cases b7 <;> cases b1 <;> cases b2 <;> cases b3 <;> first | rfl | cases hb'

def idleC (c : YCtl) : Bool := decide ((c.path.length : Int) = 1) && !c.wait
theorem idle_ok {R : Type} (c : YCtl) (k : Bool → Option R) : fleet_Idle c k = k (idleC c) := by
  unfold fleet_Idle fleet_Idle_X idleC
  rw [beq_dec]
  cases decide ((c.path.length : Int) = 1) <;> rfl
def planB (c : YCtl) (l : List Int) : Bool := idleC c && (pathB l && (!decide ((l.length : Int) < 3) && (l.getD 0 0 == c.path.getD 0 0)))
def planC (c : YCtl) (l : List Int) : YCtl := ⟨c.vehicle, c.header, c.order, c.update, c.boot, c.seen, l, c.seq, false, 0, c.wait, c.pending⟩
theorem plan_ok {R : Type} (c : YCtl) (h : ShortC c) (l : List Int) (hl : l.length ≤ 1099511627776) (k : YCtl → Bool → Option R) : fleet_Plan c l k = bif planB c l then k (planC c l) true else k c false := by
  unfold fleet_Plan fleet_Plan_X planB
  rw [own_ok c h, idle_ok]
  cases hi : idleC c with
  | false => rfl
  | true =>
    have h1 : c.path.length = 1 := by
      unfold idleC at hi
      rw [Bool.and_eq_true, decide_eq_true_eq] at hi
      omega
    by_cases h3 : (l.length : Int) < 3
    · rw [dtrue h3]
      cases pathB l <;> rfl
    · rw [dfalse h3, isPath_ok l hl]
      cases pathB l with
      | false => rfl
      | true =>
        rw [dtrue (show (0 : Int) < (l.length : Int) by omega), dtrue (show (0 : Int) < (c.path.length : Int) by omega), chk_pos rfl, chk_pos rfl, cloneI l hl]
        have e : (l.getD 0 (Ty.dflt (.int .i64)) != c.path.getD 0 (Ty.dflt (.int .i64))) = !(l.getD 0 0 == c.path.getD 0 0) := rfl
        rw [e]
        cases l.getD 0 0 == c.path.getD 0 0 <;> rfl
def halfC (c : YCtl) : Int := IntKind.i64.wrap (Int.tdiv (c.path.length : Int) 2)
def goalC (c : YCtl) (w : Int) : Int := bif decide (w > 0) then min w (halfC c) else halfC c
def firstW (c : YCtl) (g : Int) : Order × Bool := walkP ⟨IntKind.i64.wrap (c.header + 1), c.vehicle, IntKind.i64.wrap (c.order + 1), 0, [], []⟩ c.path 0 (IntKind.i64.wrap (min g 63 + 1))
def moreW (c : YCtl) (g : Int) : Order × Bool := walkP ⟨IntKind.i64.wrap (c.header + 1), c.vehicle, c.order, IntKind.i64.wrap (c.update + 1), [], []⟩ (c.path.drop (IntKind.i64.wrap (2 * c.rel)).toNat) (IntKind.i64.wrap (c.seq + IntKind.i64.wrap (2 * c.rel))) (IntKind.i64.wrap (IntKind.i64.wrap (min g (IntKind.i64.wrap (c.rel + 63)) - c.rel) + 1))
def firstC (c : YCtl) (g : Int) (o : Order) : YCtl := ⟨c.vehicle, IntKind.i64.wrap (c.header + 1), IntKind.i64.wrap (c.order + 1), 0, c.boot, c.seen, c.path, 0, true, min g 63, true, o⟩
def moreC (c : YCtl) (g : Int) (o : Order) : YCtl := ⟨c.vehicle, IntKind.i64.wrap (c.header + 1), c.order, IntKind.i64.wrap (c.update + 1), c.boot, c.seen, c.path, c.seq, true, min g (IntKind.i64.wrap (c.rel + 63)), true, o⟩
def nextC (c : YCtl) (w : Int) : YCtl × Order × Bool :=
  bif !rightC c then (c, zeroP, false)
  else bif c.wait then (c, c.pending, true)
  else bif !c.open_ && (decide (halfC c > 0) && (!decide (c.header ≥ 1000000000) && decide (c.order < 1000000000))) then (bif (firstW c (goalC c w)).2 then (firstC c (goalC c w) (firstW c (goalC c w)).1, (firstW c (goalC c w)).1, true) else (c, zeroP, false))
  else bif c.open_ && (decide (c.rel < goalC c w) && (!decide (c.header ≥ 1000000000) && decide (c.update < 1000000000))) then (bif (moreW c (goalC c w)).2 then (moreC c (goalC c w) (moreW c (goalC c w)).1, (moreW c (goalC c w)).1, true) else (c, zeroP, false))
  else (c, zeroP, false)
theorem goal_half {c : YCtl} {w : Int} : goalC c w ≤ halfC c := by
  unfold goalC
  cases decide (w > 0)
  · exact Int.le_refl _
  · exact Int.min_le_right _ _
theorem half_len {c : YCtl} (h : c.path.length ≤ 1099511627776) : halfC c = ((c.path.length / 2 : Nat) : Int) := by
  unfold halfC
  rw [show Int.tdiv (c.path.length : Int) 2 = ((c.path.length / 2 : Nat) : Int) from rfl, wrap_id (by omega) (by omega)]
theorem first_ok {R : Type} (c : YCtl) (h : ShortC c) (g : Int) (k : Order → Bool → YCtl → Option R) : fleet_ctl_first_4f52 g c k = k (firstW c g).1 (firstW c g).2 ⟨c.vehicle, IntKind.i64.wrap (c.header + 1), IntKind.i64.wrap (c.order + 1), 0, c.boot, c.seen, c.path, 0, c.open_, min g 63, c.wait, c.pending⟩ := by
  unfold fleet_ctl_first_4f52 fleet_ctl_first_4f52_X fleet_ctl_over_4fb2 fleet_ctl_over_4fb2_X
  have hp := h.path
  have e0 : IntKind.i64.wrap (2 * 0) = 0 := rfl
  have e1 : IntKind.i64.wrap (0 + 0) = 0 := rfl
  dsimp only
  rw [e0, dtrue (show (0 : Int) ≤ 0 by omega), dtrue (show (0 : Int) ≤ (c.path.length : Int) by omega), Bool.and_self, chk_pos rfl, e1, walkOrder_ok _ _ (by show (List.drop 0 c.path).length ≤ _; rw [List.drop_zero]; exact hp)]
  rfl
theorem more_ok {R : Type} (c : YCtl) (h : ShortC c) (g : Int) (h0 : 0 ≤ c.rel) (h1 : 2 * c.rel ≤ c.path.length) (k : Order → Bool → YCtl → Option R) : fleet_ctl_more_4f52 g c k = k (moreW c g).1 (moreW c g).2 ⟨c.vehicle, IntKind.i64.wrap (c.header + 1), c.order, IntKind.i64.wrap (c.update + 1), c.boot, c.seen, c.path, c.seq, c.open_, min g (IntKind.i64.wrap (c.rel + 63)), c.wait, c.pending⟩ := by
  unfold fleet_ctl_more_4f52 fleet_ctl_more_4f52_X fleet_ctl_over_4fb2 fleet_ctl_over_4fb2_X
  have hp := h.path
  have e0 : IntKind.i64.wrap (2 * c.rel) = 2 * c.rel := wrap_id (by omega) (by omega)
  dsimp only
  rw [e0, dtrue (show (0 : Int) ≤ 2 * c.rel by omega), dtrue h1, Bool.and_self, chk_pos rfl, walkOrder_ok _ _ (by rw [List.length_drop]; omega)]
  unfold moreW
  rw [e0]
theorem nextV_ok {R : Type} (c : YCtl) (h : ShortC c) (w : Int) (k : YCtl → Order → Bool → Option R) : fleet_Next c w k = k (nextC c w).1 (nextC c w).2.1 (nextC c w).2.2 := by
  unfold fleet_Next fleet_Next_X nextC
  rw [own_ok c h, rightC_ok c h]
  cases hr : rightC c with
  | false => rfl
  | true =>
  rw [Bool.not_true, cond_false, cond_false]
  cases hw : c.wait with
  | true => rw [cond_true, cond_true, fresh_ok _ h.pend]
  | false =>
  rw [cond_false, cond_false]
  have hrel : 0 ≤ c.rel := by
    unfold rightC at hr
    rw [Bool.and_eq_true, decide_eq_true_eq] at hr
    exact hr.2
  have hp := h.path
  have hhalf := half_len hp
  have key : ∀ g : Int, g ≤ halfC c → (bif decide (c.header ≥ 1000000000) then (fleet_own c (fun y20 => k y20 zeroP false)) else (let j29 := fun (z24 : Bool) (z25 : YCtl) (z26 : Order) => bif (!z24) then (fleet_own c (fun y27 => k y27 zeroP false)) else (fleet_fresh z26 (fun y28 => k (⟨z25.vehicle, z25.header, z25.order, z25.update, z25.boot, z25.seen, z25.path, z25.seq, true, z25.rel, true, ⟨z26.header, z26.vehicle, z26.order, z26.update, z26.nodes, z26.edges⟩⟩ : YCtl) y28 true)); let j18 := fun (z7 : Bool) => bif z7 then (fleet_ctl_first_4f52 g c (fun y8 y9 y10 => j29 y9 y10 y8)) else (bif c.open_ then (bif (decide (c.rel < g)) then (bif (decide (c.update < (1000000000 : Int))) then (fleet_ctl_more_4f52 g c (fun y15 y16 y17 => j29 y16 y17 y15)) else (fleet_own c (fun y21 => k y21 zeroP false))) else (fleet_own c (fun y22 => k y22 zeroP false))) else (fleet_own c (fun y23 => k y23 zeroP false))); bif (!c.open_) then (bif (decide (halfC c > (0 : Int))) then (j18 (decide (c.order < (1000000000 : Int)))) else (j18 false)) else (j18 false)))
      = k (bif !c.open_ && (decide (halfC c > 0) && (!decide (c.header ≥ 1000000000) && decide (c.order < 1000000000))) then (bif (firstW c g).2 then (firstC c g (firstW c g).1, (firstW c g).1, true) else (c, zeroP, false))
  else bif c.open_ && (decide (c.rel < g) && (!decide (c.header ≥ 1000000000) && decide (c.update < 1000000000))) then (bif (moreW c g).2 then (moreC c g (moreW c g).1, (moreW c g).1, true) else (c, zeroP, false))
  else (c, zeroP, false)).1 (bif !c.open_ && (decide (halfC c > 0) && (!decide (c.header ≥ 1000000000) && decide (c.order < 1000000000))) then (bif (firstW c g).2 then (firstC c g (firstW c g).1, (firstW c g).1, true) else (c, zeroP, false))
  else bif c.open_ && (decide (c.rel < g) && (!decide (c.header ≥ 1000000000) && decide (c.update < 1000000000))) then (bif (moreW c g).2 then (moreC c g (moreW c g).1, (moreW c g).1, true) else (c, zeroP, false))
  else (c, zeroP, false)).2.1 (bif !c.open_ && (decide (halfC c > 0) && (!decide (c.header ≥ 1000000000) && decide (c.order < 1000000000))) then (bif (firstW c g).2 then (firstC c g (firstW c g).1, (firstW c g).1, true) else (c, zeroP, false))
  else bif c.open_ && (decide (c.rel < g) && (!decide (c.header ≥ 1000000000) && decide (c.update < 1000000000))) then (bif (moreW c g).2 then (moreC c g (moreW c g).1, (moreW c g).1, true) else (c, zeroP, false))
  else (c, zeroP, false)).2.2 := by
    intro g hg
    have hs1 : ShortO (firstW c g).1 := walkP_short _ h.name _ _ _
    have hs2 : ShortO (moreW c g).1 := walkP_short _ h.name _ _ _
    have hmore : decide (c.rel < g) = true → 2 * c.rel ≤ c.path.length := fun hd => by
      rw [decide_eq_true_eq] at hd
      omega
    have hown : ∀ k : YCtl → Option R, fleet_own c k = k c := fun k => own_ok c h k
    generalize decide (c.header ≥ 1000000000) = b0
    generalize decide (halfC c > 0) = b1
    generalize decide (c.order < 1000000000) = b2
    generalize decide (c.rel < g) = b3 at *
    generalize decide (c.update < 1000000000) = b4
    dsimp only
    cases b0 with
    | true =>
      rw [cond_true, hown]
      cases c.open_ <;> cases b1 <;> cases b3 <;> simp only [Bool.not_false, Bool.not_true, cond_true, cond_false, Bool.and_self, Bool.false_and, Bool.true_and, Bool.and_false]
    | false =>
      rw [cond_false]
      cases c.open_ with
      | false =>
        cases b1 with
        | false => simp only [Bool.not_false, Bool.not_true, cond_true, cond_false, Bool.and_self, Bool.false_and, Bool.true_and, Bool.and_false]; rw [hown]
        | true =>
          cases b2 with
          | false => simp only [Bool.not_false, Bool.not_true, cond_true, cond_false, Bool.and_self, Bool.false_and, Bool.true_and, Bool.and_false]; rw [hown]
          | true =>
            simp only [Bool.not_false, Bool.not_true, cond_true, cond_false, Bool.and_self, Bool.false_and, Bool.true_and, Bool.and_false]
            rw [first_ok c h g]
            cases (firstW c g).2 with
            | false => simp only [Bool.not_false, Bool.not_true, cond_true, cond_false, Bool.and_self, Bool.false_and, Bool.true_and, Bool.and_false]; rw [hown]
            | true => simp only [Bool.not_false, Bool.not_true, cond_true, cond_false, Bool.and_self, Bool.false_and, Bool.true_and, Bool.and_false]; rw [fresh_ok _ hs1]; rfl
      | true =>
        cases b3 with
        | false => simp only [Bool.not_false, Bool.not_true, cond_true, cond_false, Bool.and_self, Bool.false_and, Bool.true_and, Bool.and_false]; rw [hown]
        | true =>
          cases b4 with
          | false => simp only [Bool.not_false, Bool.not_true, cond_true, cond_false, Bool.and_self, Bool.false_and, Bool.true_and, Bool.and_false]; rw [hown]
          | true =>
            simp only [Bool.not_false, Bool.not_true, cond_true, cond_false, Bool.and_self, Bool.false_and, Bool.true_and, Bool.and_false]
            rw [more_ok c h g hrel (hmore rfl)]
            cases (moreW c g).2 with
            | false => simp only [Bool.not_false, Bool.not_true, cond_true, cond_false, Bool.and_self, Bool.false_and, Bool.true_and, Bool.and_false]; rw [hown]
            | true => simp only [Bool.not_false, Bool.not_true, cond_true, cond_false, Bool.and_self, Bool.false_and, Bool.true_and, Bool.and_false]; rw [fresh_ok _ hs2]; rfl
  have := key (goalC c w) goal_half
  by_cases hw0 : w > 0
  · have eg : goalC c w = min w (halfC c) := by unfold goalC; rw [dtrue hw0, cond_true]
    rw [eg] at this ⊢
    rw [dtrue hw0, cond_true]
    exact this
  · have eg : goalC c w = halfC c := by unfold goalC; rw [dfalse hw0, cond_false]
    rw [eg] at this ⊢
    rw [dfalse hw0, cond_false]
    exact this

end Go.Proofs.YtolnaonmpohciaaDoor

/-
  Functions of the program as pure Lean functions, and the ties; printed by wip/tools/emit.py.
-/
set_option maxRecDepth 100000
namespace Go.Proofs.YtolnaonmpohciaaDoor
open Go Go.Yard
variable {R : Type}

/-! ### humpyard/humpyardlaw18.FleetStale -/
abbrev law18_FleetStale_ty (R : Type) : Type := Int → (List Arr3) → Yard.Ctl → Raw13 → Yard.State → (Bool → Option R) → Option R
abbrev law18_FleetStale_p : List Pat := [.leaf (.int .i64), .leaf (.sl .arr3), .agg [.str, .int .i64, .int .i64, .int .i64, .int .i64, .int .i64, .sl (.int .i64), .int .i64, .bool, .int .i64, .bool, .int .i64, .str, .int .i64, .int .i64, .sl .stop, .sl .way], .agg [.int .i64, .int .i64, .int .i64, .int .i64, .int .i64, .int .i64, .sl (.int .i64)], .agg [.int .i64, .int .i64, .str, .int .i64, .int .i64, .bool, .int .i64, .int .i64, .bool, .int .i64]]
abbrev law18_FleetStale_q : List HPat := []
noncomputable def law18_FleetStale_rr (fn : law18_FleetStale_ty R) : Run R law18_FleetStale_p law18_FleetStale_q := fun x y k => fn x.1 x.2.1 (⟨x.2.2.1.1, x.2.2.1.2.1, x.2.2.1.2.2.1, x.2.2.1.2.2.2.1, x.2.2.1.2.2.2.2.1, x.2.2.1.2.2.2.2.2.1, x.2.2.1.2.2.2.2.2.2.1, x.2.2.1.2.2.2.2.2.2.2.1, (t8 x.2.2.1).1, (t8 x.2.2.1).2.1, (t8 x.2.2.1).2.2.1, ⟨(t8 x.2.2.1).2.2.2.1, (t8 x.2.2.1).2.2.2.2.1, (t8 x.2.2.1).2.2.2.2.2.1, (t8 x.2.2.1).2.2.2.2.2.2.1, (t8 x.2.2.1).2.2.2.2.2.2.2.1, (t8 (t8 x.2.2.1)).1⟩⟩ : Yard.Ctl) (⟨x.2.2.2.1.1, x.2.2.2.1.2.1, x.2.2.2.1.2.2.1, x.2.2.2.1.2.2.2.1, x.2.2.2.1.2.2.2.2.1, x.2.2.2.1.2.2.2.2.2.1, x.2.2.2.1.2.2.2.2.2.2.1⟩ : Raw13) (⟨x.2.2.2.2.1.1, x.2.2.2.2.1.2.1, x.2.2.2.2.1.2.2.1, x.2.2.2.2.1.2.2.2.1, x.2.2.2.2.1.2.2.2.2.1, x.2.2.2.2.1.2.2.2.2.2.1, x.2.2.2.2.1.2.2.2.2.2.2.1, x.2.2.2.2.1.2.2.2.2.2.2.2.1, (t8 x.2.2.2.2.1).1, (t8 x.2.2.2.2.1).2.1⟩ : Yard.State) (fun q0 => k (.bool q0) [])
noncomputable def law18_FleetStale_s (fn : law18_FleetStale_ty R) := specBy law18_FleetStale_p law18_FleetStale_q (law18_FleetStale_rr fn)
section
variable (fleet_Same : fleet_Same_ty R) (fleet_See : fleet_See_ty R) (law11_Fit : law11_Fit_ty R) (law11_Ints : law11_Ints_ty R) (law18_Fit : law18_Fit_ty R) (law18_awake : law18_awake_ty R) (law18_pick : law18_pick_ty R)
noncomputable def law18_FleetStale_E : List (Ent R) := [(14, true, (fleet_Same_s fleet_Same specNo)), (18, true, (fleet_See_s fleet_See specNo)), (6, true, (law11_Fit_s law11_Fit specNo)), (20, true, (law11_Ints_s law11_Ints specNo)), (7, true, (law18_Fit_s law18_Fit specNo)), (5, true, (law18_awake_s law18_awake specNo)), (8, true, (law18_pick_s law18_pick specNo))]
noncomputable def law18_FleetStale_X (x1 : Int) (x2 : List Arr3) (x3 : Yard.Ctl) (x4 : Raw13) (x5 : Yard.State) (k0 : Bool → Option R) : Option R :=
  law18_awake (fun y6 => law11_Fit x1 x2 (fun y7 => law18_Fit y7 x3 x4 (fun y8 => law18_pick x5.header (IntKind.i64.wrap (y8.seen + 1)) (fun y9 => fleet_See y8 (⟨y9, y8.boot, ([118] : Str), y8.order, 0, true, 0, (IntKind.i64.wrap (y8.seq + 2)), false, 1000000000⟩ : Yard.State) (fun y10 y11 y12 => bif y12 then (k0 false) else (bif (decide ((y11.length : Int) > (0 : Int))) then (k0 false) else (fleet_Same y8 y10 (fun y13 => bif (!y13) then (k0 false) else (fleet_See y8 (⟨(IntKind.i64.wrap (y8.seen + 1)), y8.boot, ([119] : Str), y8.order, 0, true, 0, (IntKind.i64.wrap (y8.seq + 2)), false, 1000000000⟩ : Yard.State) (fun y15 y16 y17 => bif y17 then (k0 false) else (bif (decide ((y16.length : Int) > (0 : Int))) then (k0 false) else (fleet_Same y8 y15 (fun y18 => bif (!y18) then (k0 false) else (fleet_See y8 (⟨(IntKind.i64.wrap (y8.seen + 1)), y8.boot, ([118] : Str), y8.order, 0, true, 0, (IntKind.i64.wrap (y8.seq + 2)), false, 1000000000⟩ : Yard.State) (fun y20 y21 y22 => fleet_See y20 (⟨(IntKind.i64.wrap (y8.seen + 1)), y8.boot, ([118] : Str), y8.order, 0, true, 0, (IntKind.i64.wrap (y8.seq + 2)), false, 1000000000⟩ : Yard.State) (fun y23 y24 y25 => bif y6 then (bif y22 then (bif (!y25) then (bif (!y20.wait) then (bif (y20.seen == (IntKind.i64.wrap (y8.seen + 1))) then (bif (y8.order == 0) then (k0 true) else (bif (decide ((y8.path.length : Int) < (3 : Int))) then (k0 true) else (chk (decide ((2 : Int) ≤ y8.path.length)) (law11_Ints y20.path (y8.path.drop 2) (fun y26 => k0 y26))))) else (k0 false)) else (k0 false)) else (k0 false)) else (k0 false)) else (k0 false)))))))))))))))))
theorem law18_FleetStale_ok : Tied (R := R) tt (law18_FleetStale_E fleet_Same fleet_See law11_Fit law11_Ints law18_Fit law18_awake law18_pick) noT false Tryd.f4 law18_FleetStale_p law18_FleetStale_q (law18_FleetStale_rr (law18_FleetStale_X fleet_Same fleet_See law11_Fit law11_Ints law18_Fit law18_awake law18_pick)) := fun x y k => by kernel_rfl
end
theorem law18_FleetStale_EOk : EntOk (R := R) Tryd.prog (law18_FleetStale_E (R := R) fleet_Same fleet_See law11_Fit law11_Ints law18_Fit law18_awake law18_pick) := .c (fleet_Same_S_ok R) <| .c (fleet_See_S_ok R) <| .c (law11_Fit_S_ok R) <| .c (law11_Ints_S_ok R) <| .c (law18_Fit_S_ok R) <| .c (law18_awake_S_ok R) <| .c (law18_pick_S_ok R) <| .n
noncomputable def law18_FleetStale : law18_FleetStale_ty R := fun x1 x2 x3 x4 x5 k0 => law18_FleetStale_X fleet_Same fleet_See law11_Fit law11_Ints law18_Fit law18_awake law18_pick x1 x2 x3 x4 x5 k0
theorem law18_FleetStale_S_ok (R : Type) : OkS Tryd.prog 4 (law18_FleetStale_s (law18_FleetStale (R := R))) := tie_ok TT mixed (law18_FleetStale_EOk (R := R)) rfl rfl rfl rfl noT_ok (law18_FleetStale_ok fleet_Same fleet_See law11_Fit law11_Ints law18_Fit law18_awake law18_pick)

end Go.Proofs.YtolnaonmpohciaaDoor

set_option maxRecDepth 100000
namespace Go.Proofs.YtolnaonmpohciaaDoor
open Go Go.Yard Go.Lib

def c18 : YCtl := ⟨[118], 0, 0, 0, 0, 0, [0], 0, false, 0, false, ⟨0, [], 0, 0, [], []⟩⟩
def s18 : YState := ⟨1, 0, [118], 1, 0, true, 1, 2, false, 1⟩
def n18 : YCtl × Order × Bool := nextC (planC c18 [0, 1000, 1]) 0
theorem c18_short : ShortC c18 := ⟨by decide, by decide, ⟨by decide, by decide, by decide⟩⟩
theorem n18_is : n18 = (⟨[118], 1, 1, 0, 0, 0, [0, 1000, 1], 0, true, 1, true, ⟨1, [118], 1, 0, [⟨0, 0, true⟩, ⟨1, 2, true⟩], [⟨0, 1, true⟩]⟩⟩, ⟨1, [118], 1, 0, [⟨0, 0, true⟩, ⟨1, 2, true⟩], [⟨0, 1, true⟩]⟩, true) := by kernel_rfl
theorem awake18 {R : Type} (k : Bool → Option R) : law18_awake k = k true := by
  have e0 : law18_awake k = fleet_Plan c18 ([0, 1000, 1] : List Int) (fun y2 y3 => fleet_Next y2 0 (fun y4 y5 y6 => fleet_See y4 s18 (fun y7 y8 y9 => fleet_Idle c18 (fun y10 => bif y10 then (bif y3 then (fleet_Idle y2 (fun y11 => bif (!y11) then (bif y6 then (ref08_Same y5 (⟨1, ([118] : Str), 1, 0, ([(⟨0, 0, true⟩ : Stop), (⟨1, 2, true⟩ : Stop)] : List Stop), ([(⟨0, 1, true⟩ : Yard.Way)] : List Yard.Way)⟩ : Order) (fun y12 => bif y12 then (bif y4.wait then (bif y9 then (law11_Ints y8 ([0, 1000] : List Int) (fun y13 => bif y13 then (fleet_Idle y7 (fun y14 => bif y14 then (law11_Ints y7.path ([1] : List Int) (fun y15 => k y15)) else (k false))) else (k false))) else (k false)) else (k false)) else (k false))) else (k false)) else (k false))) else (k false)) else (k false))))) := rfl
  have hp : planB c18 [0, 1000, 1] = true := by kernel_rfl
  have h2 : ShortC (planC c18 [0, 1000, 1]) := ⟨by show (3 : Nat) ≤ _; decide, by show (1 : Nat) ≤ _; decide, ⟨by show (0 : Nat) ≤ _; decide, by show (0 : Nat) ≤ _; decide, by show (0 : Nat) ≤ _; decide⟩⟩
  have h3 : ShortC n18.1 := by
    rw [n18_is]
    exact ⟨by show (3 : Nat) ≤ _; decide, by show (1 : Nat) ≤ _; decide, ⟨by show (2 : Nat) ≤ _; decide, by show (1 : Nat) ≤ _; decide, by show (1 : Nat) ≤ _; decide⟩⟩
  rw [e0, plan_ok c18 c18_short _ (by decide), hp, cond_true, nextV_ok _ h2]
  have en : nextC (planC c18 [0, 1000, 1]) 0 = n18 := rfl
  rw [en, see_ok _ _ h3]
  have hm : mayC n18.1 s18 = true := by kernel_rfl
  rw [hm, cond_true, idle_ok, idle_ok]
  have i1 : idleC c18 = true := by kernel_rfl
  have i2 : idleC (planC c18 [0, 1000, 1]) = false := by kernel_rfl
  have i3 : n18.2.2 = true := by kernel_rfl
  have i4 : n18.1.wait = true := by kernel_rfl
  rw [i1, i2, i3, cond_true, cond_true, Bool.not_false, cond_true, cond_true, rsame_ok _ _ (by rw [n18_is]; decide) (by rw [n18_is]; decide)]
  have i5 : sameO n18.2.1 ⟨1, [118], 1, 0, [⟨0, 0, true⟩, ⟨1, 2, true⟩], [⟨0, 1, true⟩]⟩ = true := by kernel_rfl
  have i6 : leftC n18.1 s18 = [0, 1000] := by kernel_rfl
  have i7 : idleC (seenC n18.1 s18) = true := by kernel_rfl
  have i8 : (seenC n18.1 s18).path = [1] := by kernel_rfl
  rw [i5, cond_true, i4, cond_true, cond_true, i6, ints_ok _ _ (by decide)]
  have i9 : eqN [0, 1000] [0, 1000] = true := by kernel_rfl
  have i10 : eqN [1] [1] = true := by kernel_rfl
  rw [i9, cond_true, idle_ok, i7, cond_true, i8, ints_ok _ _ (by decide), i10]

theorem seenC_short {c : YCtl} (h : ShortC c) (s : YState) : ShortC (seenC c s) := by
  have hz : ShortO zeroO := ⟨Nat.zero_le _, Nat.zero_le _, Nat.zero_le _⟩
  have hw : ShortC (waitC c s) := by
    unfold waitC
    cases c.wait && decide (s.accepted ≥ c.pending.header)
    · exact ⟨h.path, h.name, h.pend⟩
    · exact ⟨h.path, h.name, hz⟩
  have hg : ∀ n, ShortC (goC (waitC c s) n) := fun n => ⟨by show ((waitC c s).path.drop n.toNat).length ≤ _; rw [List.length_drop]; have := hw.path; omega, hw.name, hw.pend⟩
  unfold seenC
  cases (s.order == 0 || s.order != c.order)
  · cases c.open_ && !s.live <;> cases goesC c s
    · exact hw
    · exact hg _
    · exact ⟨hw.path, hw.name, hz⟩
    · exact ⟨(hg _).path, hw.name, hz⟩
  · exact hw

theorem small_i {n : Int} (h : Small 1048576 (.int .i64 n)) : i64 n := by cases h with | int h => exact h
theorem small_arr {raw : List Arr3} (h : Small 1048576 (.sl .arr3 raw .no)) : raw.length ≤ 1048576 ∧ ∀ x ∈ raw, i64 x.a ∧ i64 x.b ∧ i64 x.c := by
  cases h with
  | sl h he => exact ⟨h, fun x hx => ⟨small_i (he x hx (.int .i64 x.a) (by simp [Ty.cells])), small_i (he x hx (.int .i64 x.b) (by simp [Ty.cells])), small_i (he x hx (.int .i64 x.c) (by simp [Ty.cells]))⟩⟩
theorem small_ints {l : List Int} (h : Small 1048576 (.sl (.int .i64) l .no)) : l.length ≤ 1048576 ∧ ∀ x ∈ l, i64 x := by
  cases h with
  | sl h he => exact ⟨h, fun x hx => small_i (he x hx (.int .i64 x) (by simp [Ty.cells]))⟩
theorem small_sl {T : Ty} {l : List T.den} (h : Small 1048576 (.sl T l .no)) : l.length ≤ 1048576 := by cases h with | sl h he => exact h
theorem small_s {s : Str} (h : Small 1048576 (.str s)) : s.length ≤ 1048576 := by cases h with | str h => exact h
theorem small_raw {x : Raw13} (h : ∀ v ∈ Ty.cells .raw13 x, Small 1048576 v) : RawK x := by
  simp only [Ty.cells, List.mem_cons, List.not_mem_nil, or_false, forall_eq_or_imp, forall_eq] at h
  obtain ⟨h1, h2, h3, h4, h5, h6, h7⟩ := h
  have h8 := small_ints h7
  exact ⟨small_i h1, small_i h2, small_i h3, small_i h4, small_i h5, small_i h6, h8.1, h8.2⟩
theorem small_ctl {c : YCtl} (h : ∀ v ∈ Ty.cells .ctl c, Small 1048576 v) : NumC c ∧ ShortC c := by
  simp only [Ty.cells, List.mem_cons, List.not_mem_nil, or_false, forall_eq_or_imp, forall_eq] at h
  obtain ⟨a1, a2, a3, a4, a5, a6, a7, a8, a9, a10, a11, a12, a13, a14, a15, a16, a17⟩ := h
  have b1 := small_s a1
  have b2 := (small_ints a7).1
  have b3 := small_s a13
  have b4 := small_sl a16
  have b5 := small_sl a17
  exact ⟨⟨small_i a2, small_i a3, small_i a4, small_i a5, small_i a6, small_i a8, small_i a10⟩, ⟨Nat.le_trans b2 (by decide), Nat.le_trans b1 (by decide), ⟨Nat.le_trans b4 (by decide), Nat.le_trans b5 (by decide), Nat.le_trans b3 (by decide)⟩⟩⟩
theorem layFit' {R : Type} (n : Int) (raw : List Arr3) (hn : i64 n) (hr : raw.length ≤ 1048576 ∧ ∀ x ∈ raw, i64 x.a ∧ i64 x.b ∧ i64 x.c) (K : Yard.Layout → Option R) (r : Option R) (h : ∀ y, LayOk y → K y = r) : law11_Fit n raw K = r := by
  obtain ⟨y, hy, e⟩ := layFit (R := R) n raw hn hr.1 hr.2 K
  rw [e]
  exact h y hy
theorem fit18' {R : Type} (y : Yard.Layout) (hy : LayOk y) (c : YCtl) (hc : NumC c) (x : Raw13) (hx : RawK x) (K : YCtl → Option R) (r : Option R) (h : ∀ d, CtlOk d → K d = r) : law18_Fit y c x K = r := by
  obtain ⟨d, hd, e⟩ := fit18 (R := R) y hy c hc x hx K
  rw [e]
  exact h d hd
theorem pick18' {R : Type} (c n : Int) (hc : i64 c) (h0 : 0 < n) (hn : n ≤ 9223372036854775807) (K : Int → Option R) (r : Option R) (h : ∀ z : Nat, (z : Int) < n → K (z : Int) = r) : law18_pick c n K = r := by
  obtain ⟨z, h1, _, _, h2⟩ := pickV (R := R) c n hc h0 hn
  rw [h2]
  exact h z h1

theorem name_v : nameOk [118] = true := by decide +kernel
theorem fleetStale_true {R : Type} (nodes : Int) (raw : List Arr3) (c : YCtl) (x : Raw13) (s : YState) (h1 : Small 1048576 (.int .i64 nodes)) (h2 : Small 1048576 (.sl .arr3 raw .no)) (h3 : ∀ v ∈ Ty.cells .ctl c, Small 1048576 v) (h4 : ∀ v ∈ Ty.cells .raw13 x, Small 1048576 v) (h5 : ∀ v ∈ Ty.cells .state s, Small 1048576 v) (k : Bool → Option R) : law18_FleetStale nodes raw c x s k = k true := by
  have hsh : i64 s.header := by
    have := h5 (.int .i64 s.header) (by simp [Ty.cells])
    exact small_i this
  unfold law18_FleetStale law18_FleetStale_X
  rw [awake18]
  refine layFit' nodes raw (small_i h1) (small_arr h2) _ _ fun y hy => ?_
  refine fit18' y hy c (small_ctl h3).1 x (small_raw h4) _ _ fun d hd => ?_
  have hsn := hd.seen
  have w1 : IntKind.i64.wrap (d.seen + 1) = d.seen + 1 := wrap_id (by omega) (by omega)
  obtain ⟨q, hq, hq8⟩ := hd.seq
  have w2 : IntKind.i64.wrap (d.seq + 2) = d.seq + 2 := wrap_id (by omega) (by omega)
  rw [w1]
  refine pick18' s.header (d.seen + 1) hsh (by omega) (by omega) _ _ fun z hz => ?_
  have hsC := hd.short
  rw [w2, see_ok d _ hsC]
  have m1 : mayC d ⟨(z : Int), d.boot, [118], d.order, 0, true, 0, d.seq + 2, false, 1000000000⟩ = false := by
    have : newerA ⟨(z : Int), d.boot, [118], d.order, 0, true, 0, d.seq + 2, false, 1000000000⟩ ⟨d.seen, d.boot, [], 0, 0, false, 0, 0, false, 0⟩ = false := by
      unfold newerA
      rw [dfalse (show ¬ d.boot > d.boot by omega), dfalse (show ¬ (z : Int) > d.seen by omega), Bool.and_false]; rfl
    unfold mayC
    rw [this, Bool.and_false, Bool.and_false, Bool.and_false]
  have l0 : decide ((([] : List Int).length : Int) > 0) = false := rfl
  rw [m1, cond_false, cond_false, l0, cond_false, sameC_ok _ _ hsC, sameC_self, Bool.not_true, cond_false, see_ok d _ hsC]
  have m2 : mayC d ⟨d.seen + 1, d.boot, [119], d.order, 0, true, 0, d.seq + 2, false, 1000000000⟩ = false := by
    unfold mayC
    have : (([119] : Str) == d.vehicle) = false := by rw [hd.vehicle]; decide
    rw [this, Bool.false_and, Bool.and_false, Bool.and_false]
  rw [m2, cond_false, cond_false, l0, cond_false, sameC_ok _ _ hsC, sameC_self, Bool.not_true, cond_false, see_ok d _ hsC]
  obtain ⟨f, hf⟩ : ∃ f : YState, f = ⟨d.seen + 1, d.boot, [118], d.order, 0, true, 0, d.seq + 2, false, 1000000000⟩ := ⟨_, rfl⟩
  have m3 : mayC d f = true := by
    have hb := hd.boot
    have ho := hd.order
    have e1 : newerA f ⟨d.seen, d.boot, [], 0, 0, false, 0, 0, false, 0⟩ = true := by
      subst hf
      unfold newerA
      rw [dfalse (show ¬ d.boot > d.boot by omega), dtrue (show d.boot = d.boot from rfl), dtrue (show d.seen + 1 > d.seen by omega)]; rfl
    have e2 : rightA f = true := by
      subst hf
      have ht : Int.tmod (d.seq + 2) 2 = 0 := Int.tmod_eq_zero_of_dvd ⟨(q : Int) + 1, by omega⟩
      unfold rightA
      rw [name_v, numOk_iff.2 (show 0 ≤ d.seen + 1 ∧ d.seen + 1 ≤ 1000000000 by omega), numOk_iff.2 (show 0 ≤ d.boot ∧ d.boot ≤ 1000000000 by omega), numOk_iff.2 (show 0 ≤ d.order ∧ d.order ≤ 1000000000 by omega), numOk_iff.2 (show 0 ≤ (0 : Int) ∧ (0 : Int) ≤ 1000000000 by omega), numOk_iff.2 (show 0 ≤ d.seq + 2 ∧ d.seq + 2 ≤ 1000000000 by omega), numOk_iff.2 (show 0 ≤ (1000000000 : Int) ∧ (1000000000 : Int) ≤ 1000000000 by omega), dtrue ht]
      rfl
    have e3 : rightC d = true := by
      unfold rightC
      have := hd.rel
      rw [hd.path.1, dtrue (show d.rel ≥ 0 by omega)]; rfl
    have e4 : (f.vehicle == d.vehicle) = true := by
      rw [hd.vehicle]; subst hf; show (([118] : Str) == [118]) = true; decide
    unfold mayC
    rw [e1, e2, e3, e4]; rfl
  rw [← hf, m3, cond_true, see_ok _ _ (seenC_short hsC f)]
  have hwait : (waitC d f).wait = false := by
    unfold waitC
    have : f.accepted ≥ d.pending.header := by subst hf; have := hd.pend.2.2; show (1000000000 : Int) ≥ _; omega
    rw [dtrue this, Bool.and_true]
    cases hw : d.wait
    · exact hw
    · rfl
  have hseen : (seenC d f).seen = d.seen + 1 := by
    have h0 : (waitC d f).seen = d.seen + 1 := by
      unfold waitC
      subst hf
      cases d.wait && decide (_ ≥ d.pending.header) <;> rfl
    unfold seenC
    cases (f.order == 0 || f.order != d.order)
    · cases d.open_ && !f.live <;> cases goesC d f <;> exact h0
    · exact h0
  have hboot : (seenC d f).boot = d.boot := by
    have h0 : (waitC d f).boot = d.boot := by
      unfold waitC
      subst hf
      cases d.wait && decide (_ ≥ d.pending.header) <;> rfl
    unfold seenC
    cases (f.order == 0 || f.order != d.order)
    · cases d.open_ && !f.live <;> cases goesC d f <;> exact h0
    · exact h0
  have m4 : mayC (seenC d f) f = false := by
    have : newerA f ⟨(seenC d f).seen, (seenC d f).boot, [], 0, 0, false, 0, 0, false, 0⟩ = false := by
      unfold newerA
      rw [hseen, hboot]
      subst hf
      rw [dfalse (show ¬ d.boot > d.boot by omega), dfalse (show ¬ d.seen + 1 > d.seen + 1 by omega), Bool.and_false]; rfl
    unfold mayC
    rw [this, Bool.and_false, Bool.and_false, Bool.and_false]
  have hlive : f.live = true := by subst hf; rfl
  have hord : f.order = d.order := by subst hf; rfl
  have hw2 : (seenC d f).wait = false := by
    unfold seenC
    rw [hlive, Bool.not_true, Bool.and_false, cond_false]
    cases (f.order == 0 || f.order != d.order)
    · cases goesC d f <;> exact hwait
    · exact hwait
  rw [m4, cond_false, cond_true, cond_true, Bool.not_false, cond_true, hw2, Bool.not_false, cond_true, hseen, show (d.seen + 1 == d.seen + 1) = true from by simp, cond_true]
  by_cases hz0 : d.order = 0
  · rw [hz0]; rfl
  · have e1 : (d.order == 0) = false := by simpa using hz0
    rw [e1, cond_false]
    by_cases h3l : (d.path.length : Int) < 3
    · rw [dtrue h3l, cond_true]
    · rw [dfalse h3l, cond_false, dtrue (show (2 : Int) ≤ (d.path.length : Int) by omega), chk_pos rfl]
      have hst : stepN d f = 2 := by
        unfold stepN
        subst hf
        show IntKind.i64.wrap (d.seq + 2 - d.seq) = 2
        rw [show d.seq + 2 - d.seq = 2 by omega]
        rfl
      have hgo : goesC d f = true := by
        unfold goesC
        rw [hst, dtrue (show (2 : Int) < (d.path.length : Int) by omega)]
        rfl
      have hpath : (seenC d f).path = d.path.drop 2 := by
        unfold seenC
        rw [hlive, Bool.not_true, Bool.and_false, cond_false, hord, e1, hgo, cond_true, hst]
        have : (d.order != d.order) = false := by simp
        rw [this, Bool.or_self, cond_false]
        show ((waitC d f).path).drop 2 = _
        congr 1
        unfold waitC
        cases d.wait && decide (f.accepted ≥ d.pending.header) <;> rfl
      have hpl := hd.path.2
      rw [hpath, ints_ok _ _ (by rw [List.length_drop]; omega), eqN_iff.2 rfl]
end Go.Proofs.YtolnaonmpohciaaDoor

set_option maxRecDepth 100000
namespace Go.Proofs.YtolnaonmpohciaaDoor.fleetStale
open Go.ChangeShapes Go.WideShapes Go.ChangeAt Go.RowKit Go.Yard Door

theorem run (a0 : Int) (a1 : List Arr3) (a2 : Yard.Ctl) (a3 : Raw13) (a4 : Yard.State) : specBy law18_FleetStale_p law18_FleetStale_q (law18_FleetStale_rr law18_FleetStale) specNo [.int .i64 a0, .sl .arr3 a1 .no, .agg [.str a2.vehicle, .int .i64 a2.header, .int .i64 a2.order, .int .i64 a2.update, .int .i64 a2.boot, .int .i64 a2.seen, .sl (.int .i64) a2.path .no, .int .i64 a2.seq, .bool a2.open_, .int .i64 a2.rel, .bool a2.wait, .int .i64 a2.pending.header, .str a2.pending.vehicle, .int .i64 a2.pending.order, .int .i64 a2.pending.update, .sl .stop a2.pending.nodes .no, .sl .way a2.pending.edges .no], .agg [.int .i64 a3.header, .int .i64 a3.order, .int .i64 a3.update, .int .i64 a3.seq, .int .i64 a3.from_, .int .i64 a3.released, .sl (.int .i64) a3.turns .no], .agg [.int .i64 a4.header, .int .i64 a4.boot, .str a4.vehicle, .int .i64 a4.order, .int .i64 a4.update, .bool a4.live, .int .i64 a4.node, .int .i64 a4.seq, .bool a4.driving, .int .i64 a4.accepted]] [] kOk = law18_FleetStale a0 a1 a2 a3 a4 (fun q0 => kOk (.bool q0) []) := by kernel_rfl

theorem contract (H : Type) (enc : TypeId × Value → H) (W : World) (base : Nat) (args : Array Value) (ds gs : List (DataW H)) (before : List MemPlace)
    (hval : ∀ (j : Nat) t v, Tryd.f4.params[j]? = some t → args[j]? = some v → Value.okWide Tryd.prog W .any base t v)
    (hW : DataW.Whole enc Tryd.prog Tryd.f4.params.toList Rows.fleetStaleSpec.vars false W args.toList ds gs before) (hL : laidMetH Tryd.prog Rows.fleetStaleUptoRow.laid W) (hk : Rows.uptoSmall H (ds ++ gs) = true) :
    Calls Tryd.prog 4 args W fun e W' => ∃ v, e = .returned v ∧ Rows.fleetStaleSpec.post enc Tryd.prog Tryd.f4 false true false false W args v W' := by
  have hW' := hW
  obtain ⟨p, q, hA0, hV, hpq, hfz, hnd⟩ := hW
  have hA : DataW.TrodAll enc Tryd.prog W 0 (fun _ => true) true [3, 31, 28, 33, 30] args.toList ds p := hA0
  have hval : ∀ (j : Nat) t v, (#[3, 31, 28, 33, 30] : Array Nat)[j]? = some t → args[j]? = some v → Value.okWide Tryd.prog W .any base t v := hval
  obtain ⟨v0, vs0, d0, ds0, p0, q0, hargs, rfl, rfl, h0, r0⟩ := trodAll_cons hA
  obtain ⟨v1, vs1, d1, ds1, p1, q1, rfl, rfl, rfl, h1, r1⟩ := trodAll_cons r0
  obtain ⟨v2, vs2, d2, ds2, p2, q2, rfl, rfl, rfl, h2, r2⟩ := trodAll_cons r1
  obtain ⟨v3, vs3, d3, ds3, p3, q3, rfl, rfl, rfl, h3, r3⟩ := trodAll_cons r2
  obtain ⟨v4, vs4, d4, ds4, p4, q4, rfl, rfl, rfl, h4, r4⟩ := trodAll_cons r3
  obtain ⟨rfl, rfl, rfl⟩ := trodAll_nil r4
  obtain rfl : args = #[v0, v1, v2, v3, v4] := by cases args; simp_all
  have hV' : DataW.TrodVars enc Tryd.prog W (fun _ => true) [] gs q := hV
  obtain ⟨rfl, rfl⟩ := trodVars_none hV'
  have hb : Rows.uptoBulkAll ([d0, d1, d2, d3, d4] ++ []) ≤ 1048576 := of_decide_eq_true hk
  simp only [List.append_nil, Rows.uptoBulkAll] at hb
  obtain ⟨a0, q0, s0⟩ := arg_one (p := .int .i64) (N := 1048576) leaves (by kernel_rfl) (by kernel_rfl) (hval 0 3 v0 rfl rfl) h0 (by omega) (Nat.le_of_ble_eq_true rfl)
  obtain ⟨a1, q1, s1⟩ := arg_one (p := .sl .arr3) (N := 1048576) leaves (by kernel_rfl) (by kernel_rfl) (hval 1 31 v1 rfl rfl) h1 (by omega) (Nat.le_of_ble_eq_true rfl)
  obtain ⟨a2, q2, s2⟩ := arg_agg (T := .ctl) (N := 1048576) leaves (by kernel_rfl) (by kernel_rfl) (hval 2 28 v2 rfl rfl) h2 (by omega) (Nat.le_of_ble_eq_true rfl)
  obtain ⟨a3, q3, s3⟩ := arg_agg (T := .raw13) (N := 1048576) leaves (by kernel_rfl) (by kernel_rfl) (hval 3 33 v3 rfl rfl) h3 (by omega) (Nat.le_of_ble_eq_true rfl)
  obtain ⟨a4, q4, s4⟩ := arg_agg (T := .state) (N := 1048576) leaves (by kernel_rfl) (by kernel_rfl) (hval 4 30 v4 rfl rfl) h4 (by omega) (Nat.le_of_ble_eq_true rfl)
  have ra : RepL W [] cfg0 [.int .i64 a0, .sl .arr3 a1 .no, .agg [.str a2.vehicle, .int .i64 a2.header, .int .i64 a2.order, .int .i64 a2.update, .int .i64 a2.boot, .int .i64 a2.seen, .sl (.int .i64) a2.path .no, .int .i64 a2.seq, .bool a2.open_, .int .i64 a2.rel, .bool a2.wait, .int .i64 a2.pending.header, .str a2.pending.vehicle, .int .i64 a2.pending.order, .int .i64 a2.pending.update, .sl .stop a2.pending.nodes .no, .sl .way a2.pending.edges .no], .agg [.int .i64 a3.header, .int .i64 a3.order, .int .i64 a3.update, .int .i64 a3.seq, .int .i64 a3.from_, .int .i64 a3.released, .sl (.int .i64) a3.turns .no], .agg [.int .i64 a4.header, .int .i64 a4.boot, .str a4.vehicle, .int .i64 a4.order, .int .i64 a4.update, .bool a4.live, .int .i64 a4.node, .int .i64 a4.seq, .bool a4.driving, .int .i64 a4.accepted]] #[v0, v1, v2, v3, v4].toList := (.cons q0 (.cons q1 (.cons q2 (.cons q3 (.cons q4 .nil)))))
  obtain ⟨hsays, hblocks⟩ := lay_met (W := W) hL
  refine (calls_true Tryd.func4 rfl rfl (law18_FleetStale_S_ok Unit _ (specNo_ok _)) hsays hblocks ra ((run a0 a1 a2 a3 a4).trans (fleetStale_true a0 a1 a2 a3 a4 s0 s1 s2 s3 s4 (fun q0 => kOk (.bool q0) [])))).mono fun e W' ⟨he, L⟩ => ⟨_, he, ?_⟩
  exact post_true (by kernel_rfl) (params_ok (by kernel_rfl)) rfl rfl rfl (show Tryd.prog.underlying 4 = some .bool by kernel_rfl) hW' L

theorem reads (os : Os) {H : Type} (enc : TypeId × Value → H) : (DataW.whole enc Tryd.prog ((laidWorld os).forCall (fun _ _ => 0) ⟨#[], #[.int .i64 0, .slice none 0 0, .agg #[.string .empty, .int .i64 0, .int .i64 0, .int .i64 0, .int .i64 0, .int .i64 0, .slice none 0 0, .int .i64 0, .bool false, .int .i64 0, .bool false, .int .i64 0, .string .empty, .int .i64 0, .int .i64 0, .slice none 0 0, .slice none 0 0], .agg #[.int .i64 0, .int .i64 0, .int .i64 0, .int .i64 0, .int .i64 0, .int .i64 0, .slice none 0 0], .agg #[.int .i64 0, .int .i64 0, .string .empty, .int .i64 0, .int .i64 0, .bool false, .int .i64 0, .int .i64 0, .bool false, .int .i64 0]], []⟩).memory Tryd.f4.params.toList Rows.fleetStaleSpec.vars false (#[.int .i64 0, .slice none 0 0, .agg #[.string .empty, .int .i64 0, .int .i64 0, .int .i64 0, .int .i64 0, .int .i64 0, .slice none 0 0, .int .i64 0, .bool false, .int .i64 0, .bool false, .int .i64 0, .string .empty, .int .i64 0, .int .i64 0, .slice none 0 0, .slice none 0 0], .agg #[.int .i64 0, .int .i64 0, .int .i64 0, .int .i64 0, .int .i64 0, .int .i64 0, .slice none 0 0], .agg #[.int .i64 0, .int .i64 0, .string .empty, .int .i64 0, .int .i64 0, .bool false, .int .i64 0, .int .i64 0, .bool false, .int .i64 0]] : Array Value).toList 8).map (fun x => (x.1, x.2.1)) = some ([.lit (.int .i64 0), .nil, .agg [.lit (.string []), .lit (.int .i64 0), .lit (.int .i64 0), .lit (.int .i64 0), .lit (.int .i64 0), .lit (.int .i64 0), .nil, .lit (.int .i64 0), .lit (.bool false), .lit (.int .i64 0), .lit (.bool false), .agg [.lit (.int .i64 0), .lit (.string []), .lit (.int .i64 0), .lit (.int .i64 0), .nil, .nil]], .agg [.lit (.int .i64 0), .lit (.int .i64 0), .lit (.int .i64 0), .lit (.int .i64 0), .lit (.int .i64 0), .lit (.int .i64 0), .nil], .agg [.lit (.int .i64 0), .lit (.int .i64 0), .lit (.string []), .lit (.int .i64 0), .lit (.int .i64 0), .lit (.bool false), .lit (.int .i64 0), .lit (.int .i64 0), .lit (.bool false), .lit (.int .i64 0)]], []) := by kernel_rfl
theorem lifted (os : Os) (started : os.Started) (H : Type) (enc : TypeId × Value → H) (F : Stop.Interp) :
    ReturnsInHanded {} Tryd.checked os 4 .any ((Rows.OpenSpec.upto Rows.fleetStaleSpec).preRow enc Tryd.prog Tryd.f4 Rows.fleetStaleUptoRow.domain false Rows.fleetStaleUptoRow.laid) (((Rows.OpenSpec.upto Rows.fleetStaleSpec).at F).post enc Tryd.prog Tryd.f4 false true false false) := by
  obtain ⟨⟨x1, x2, x3⟩, hx, hx1⟩ := Option.map_eq_some_iff.1 (reads os enc)
  simp only [Prod.mk.injEq] at hx1
  obtain ⟨rfl, rfl⟩ := hx1
  refine returnsInHanded_of_row (C := Tryd.checked) (s := Rows.OpenSpec.upto Rows.fleetStaleSpec) own started (by kernel_rfl) Tryd.func4
    (witness_row_atRef (enc := enc) (C := Tryd.checked) false (laidWorld os) #[.int .i64 0, .slice none 0 0, .agg #[.string .empty, .int .i64 0, .int .i64 0, .int .i64 0, .int .i64 0, .int .i64 0, .slice none 0 0, .int .i64 0, .bool false, .int .i64 0, .bool false, .int .i64 0, .string .empty, .int .i64 0, .int .i64 0, .slice none 0 0, .slice none 0 0], .agg #[.int .i64 0, .int .i64 0, .int .i64 0, .int .i64 0, .int .i64 0, .int .i64 0, .slice none 0 0], .agg #[.int .i64 0, .int .i64 0, .string .empty, .int .i64 0, .int .i64 0, .bool false, .int .i64 0, .int .i64 0, .bool false, .int .i64 0]] rfl (by kernel_rfl) (by kernel_rfl) (by kernel_rfl)
      (OpenSpec.preRow_of_cond 8 hx (by kernel_rfl) (fun k hk => by cases hk; kernel_rfl) (by kernel_rfl) (laid_met os _))) ?_
  intro W base args ds gs before hval hW _ hcond _ hL _ _
  exact contract H enc W base args ds gs before hval hW hL (hcond _ rfl)

theorem fact1 : Rows.fleetStaleUptoRow.wf (OpenSpec.ofChange (Rows.OpenSpec.upto Rows.fleetStaleSpec).bare) = true := by kernel_rfl
theorem fact2 : laidOutB Tryd.pinned.checked.prog = true := by kernel_rfl
theorem fact3 : mapsRowed Tryd.pinned.checked.prog = true := by kernel_rfl
theorem fact4 : Tryd.f4.params.all (Tryd.pinned.checked.prog.readableRec ·) = true := by kernel_rfl
theorem fact5 : namedTie Tryd.pinned.checked.prog Rows.fleetStaleUptoRow.named (Rows.OpenSpec.upto Rows.fleetStaleSpec).bare.vars = true := by kernel_rfl
theorem fact6 : (Rows.fleetStaleUptoRow.stops == []) = true := by kernel_rfl
theorem fact7 : (Tryd.pinned.checked.prog.stops == []) = true := by kernel_rfl
theorem fact8 : (Rows.fleetStaleUptoRow.knobs == []) = true := by kernel_rfl
theorem fact9 : (Tryd.pinned.checked.prog.stopKnobs == []) = true := by kernel_rfl
theorem fact10 : (Rows.fleetStaleUptoRow.inPlace == Tryd.pinned.checked.prog.inPlace 4) = true := by kernel_rfl
theorem fact11 : (Rows.fleetStaleUptoRow.unfollowed == Tryd.pinned.checked.prog.unfollowed 4) = true := by kernel_rfl
theorem fact12 : (Rows.fleetStaleUptoRow.recurses == Tryd.pinned.checked.prog.recurses 4) = true := by kernel_rfl
theorem fact13 : (Rows.fleetStaleUptoRow.named == Tryd.pinned.checked.prog.varsNamed 4) = true := by kernel_rfl
theorem fact14 : (Rows.fleetStaleUptoRow.maps == (Tryd.f4.params.toList ++ (Rows.OpenSpec.upto Rows.fleetStaleSpec).bare.plain.varTypes Tryd.pinned.checked.prog).any (Tryd.pinned.checked.prog.mapsRec ·)) = true := by kernel_rfl
theorem fact15 : (Rows.fleetStaleUptoRow.ifaces == (Tryd.f4.params.toList ++ (Rows.OpenSpec.upto Rows.fleetStaleSpec).bare.plain.varTypes Tryd.pinned.checked.prog).any (Tryd.pinned.checked.prog.ifacesRec ·)) = true := by kernel_rfl
theorem fact16 : (Rows.fleetStaleUptoRow.mapsOut == Tryd.pinned.checked.prog.mapsAmong Tryd.f4.resultTypes.toList) = true := by kernel_rfl
theorem fact17 : (Rows.fleetStaleUptoRow.loops == (Tryd.f4.params.toList ++ (Rows.OpenSpec.upto Rows.fleetStaleSpec).bare.plain.varTypes Tryd.pinned.checked.prog).any (Tryd.pinned.checked.prog.loopsFrom ·)) = true := by kernel_rfl
theorem fact18 : (Rows.fleetStaleUptoRow.wideKeys == (Tryd.f4.params.toList ++ (Rows.OpenSpec.upto Rows.fleetStaleSpec).bare.plain.varTypes Tryd.pinned.checked.prog ++ Tryd.f4.resultTypes.toList).any (Tryd.pinned.checked.prog.wideKeysFrom ·)) = true := by kernel_rfl
theorem fact19 : (Rows.OpenSpec.upto Rows.fleetStaleSpec).bare.vars.all (Tryd.pinned.checked.prog.varReadable ·) = true := by kernel_rfl
theorem fact20 : Tryd.f4.resultTypes.all (fun t => Tryd.pinned.checked.prog.readableRec t && decide (t < Tryd.pinned.checked.prog.types.size)) = true := by kernel_rfl
theorem fact21 : (Rows.fleetStaleUptoRow.ifacesOut == Tryd.f4.resultTypes.toList.any (Tryd.pinned.checked.prog.ifacesRec ·)) = true := by kernel_rfl
theorem fact22 : (Rows.fleetStaleUptoRow.loopsOut == Tryd.f4.resultTypes.toList.any (Tryd.pinned.checked.prog.loopsFrom ·)) = true := by kernel_rfl
theorem fact23 : (Rows.fleetStaleUptoRow.plainKeys == Tryd.pinned.checked.prog.plainKeys) = true := by kernel_rfl
theorem fact24 : Rows.fleetStaleUptoRow.shortTexts.isNone = true := by kernel_rfl
theorem fact25 : Tryd.pinned.checked.prog.stopsHeard = true := by kernel_rfl
theorem fact26 : Tryd.pinned.checked.prog.mayEnter = true := by kernel_rfl
theorem fact27 : (Rows.fleetStaleUptoRow.lifted == Tryd.pinned.checked.prog.liftsFinal) = true := by kernel_rfl
theorem fact28 : (Tryd.pinned.checked.prog.make == some Rows.fleetStaleUptoRow.make) = true := by kernel_rfl
theorem fact29 : (Rows.fleetStaleUptoRow.kinds == (if Rows.fleetStaleUptoRow.domain.isEmpty then [] else Tryd.f4.params.toList.map fun t => match Tryd.pinned.checked.prog.underlying t with | some (.int k) => some k | _ => none)) = true := by kernel_rfl
theorem fact30 : (Rows.fleetStaleUptoRow.pinned == Rows.fleetStaleUptoRow.pinnedBy) = true := by kernel_rfl
theorem fact31 : (Rows.fleetStaleUptoRow.veiled == (Tryd.f4.params.toList ++ (Rows.OpenSpec.upto Rows.fleetStaleSpec).bare.plain.varTypes Tryd.pinned.checked.prog ++ Tryd.f4.resultTypes.toList).any (Tryd.pinned.checked.prog.veiledRec ·)) = true := by kernel_rfl
theorem fact32 : Rows.fleetStaleUptoRow.veiledFits Tryd.pinned.checked.prog Tryd.f4.params.toList (Tryd.f4.params.toList ++ (Rows.OpenSpec.upto Rows.fleetStaleSpec).bare.plain.varTypes Tryd.pinned.checked.prog ++ Tryd.f4.resultTypes.toList) = true := by kernel_rfl
theorem closed : joinedFacts Tryd.pinned.checked.prog 4 Tryd.f4 (Rows.OpenSpec.upto Rows.fleetStaleSpec).bare Rows.fleetStaleUptoRow = true :=
  joined_of fact1 fact2 fact3 fact4 fact5 fact6 fact7 fact8 fact9 fact10 fact11 fact12 fact13 fact14 fact15 fact16 fact17 fact18 fact19 fact20 fact21 fact22 fact23 fact24 fact25 fact26 fact27 fact28 fact29 fact30 fact31 fact32

theorem saidUpto : Rows.FleetStaleUptoSaid :=
  OpenClaim.holds_of_cond 4 Tryd.f4 rfl rfl rfl rfl rfl rfl rfl ⟨rfl, rfl, rfl, rfl, rfl⟩ rfl rfl rfl rfl rfl (by kernel_rfl) Tryd.func4 closed
    (of_decide_eq_true (by kernel_rfl)) (by unfold Func.isWrapper; first | (rw [if_pos (by decide +kernel)]; kernel_rfl) | (rw [if_neg (by decide +kernel)]; exact ⟨rfl, rfl⟩))
    (fun os started H enc _ F => by rw [OpenClaim.pre_eq_preRow]; exact lifted os started H enc F)

theorem plain (f : FuncId) (fn : Func) (hf : Tryd.pinned.checked.prog.funcNamed "humpyard/humpyardlaw18.FleetStale" = some f) (hfn : Tryd.pinned.checked.prog.funcs[f]? = some fn) :
    false = Tryd.pinned.checked.prog.looks [] ∧ ∀ (j : Nat) t, fn.params[j]? = some t → Tryd.pinned.checked.prog.wantsStandIn t = false := by
  obtain rfl : f = 4 := Option.some.inj ((show Tryd.prog.funcNamed "humpyard/humpyardlaw18.FleetStale" = some 4 by kernel_rfl).symm.trans hf) |>.symm
  obtain rfl : fn = Tryd.f4 := (Option.some.inj (Tryd.func4.symm.trans hfn)).symm
  refine ⟨by kernel_rfl, fun j t ht => ?_⟩
  have hall : Tryd.f4.params.toList.all (fun t => !Tryd.prog.wantsStandIn t) = true := by kernel_rfl
  have hm : t ∈ Tryd.f4.params.toList := Array.mem_toList_iff.2 (Array.mem_of_getElem? ht)
  have := List.all_eq_true.1 hall t hm
  exact (show Tryd.prog.wantsStandIn t = false by simpa using this)
theorem card1 : Rows.fleetStaleUptoRow.wfByText (Rows.OpenSpec.upto Rows.fleetStaleSpec) = true := by kernel_rfl
theorem card2 : Tryd.pinned.checked.prog.mainIs = some (true, ("ea04d2931e2bd14512d3c7dc06761c1f186a48904e267a8ace9d222ab70efee8" : String).toList) := by kernel_rfl
theorem card3 : false = Rows.fleetStaleUptoRow.goesBy Tryd.pinned.checked.prog := by kernel_rfl
end Go.Proofs.YtolnaonmpohciaaDoor.fleetStale
namespace Go.Proofs.YtolnaonmpohciaaDoor
open Go.RowKit
theorem fleetStale_card_upto : Rows.FleetStaleUptoCardSaid :=
  Claim7.holds_tied_plain_at .later [] _ _ _ _ fleetStale.saidUpto (fun _ h => by cases h) fleetStale.card1 (fun _ h => by cases h) fleetStaleUpto_row_tie rfl ⟨rfl, rfl⟩ fleetStale.card2 rfl fleetStale.plain fleetStale.card3
end Go.Proofs.YtolnaonmpohciaaDoor

