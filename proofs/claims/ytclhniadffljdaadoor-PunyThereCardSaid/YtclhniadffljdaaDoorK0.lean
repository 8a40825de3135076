/- Contracts of functions, walked by their models; printed by a program of ours. No condition. -/
import Derived.Test.YtclhniadffljdaaDoorE
import Derived.Test.YtclhniadffljdaaDoorProg
import Derived.KernelRfl
namespace Go.Proofs.YtclhniadffljdaaDoor
open Go Go.SE
set_option linter.unusedVariables false
set_option linter.unusedSimpArgs false
set_option maxRecDepth 10000
set_option maxHeartbeats 2000000
attribute [local irreducible] Contract iter
theorem mix : pl.follows .mixedOrders = true := by kernel_rfl
theorem gOf {α : Type} {c : Prop} [Decidable c] {X : Option α} {r : α} (h : (if c then X else none) = some r) : c := by
 by_cases hc : c
 ·exact hc
 ·rw [if_neg hc] at h; cases h
theorem lits_u8 : ∀ (l : List Int) (j : Nat), j < l.length → (l.map (AV.int .u8)).getD j .unk = .int .u8 (l.getD j 0) := fun l j hj => by simp [List.getD_eq_getElem?_getD, hj]
theorem same_NoEscape : Same pl 89 := ⟨_, rfl, by kernel_rfl, by kernel_rfl, by kernel_rfl, by kernel_rfl⟩
theorem c_utf_Right (p_r : Int) (r : Bool) (h : m_utf_Right p_r = some r) : Contract pl 42 [(AV.int .i32 p_r)] [] (AV.bool r) [] := by
 refine contract_of .z Tryd.func42 rfl (by kernel_rfl) ?_
 ((conv=>whnf);repeat((first|apply TT mix|apply sE rfl|apply dG (by kernel_rfl)|fail);(conv=>whnf)))
 refine br_b rfl h (fun c1 h => ?_) (fun c1 h => ?_)
 ·((conv=>whnf);repeat((first|apply TT mix|apply sE rfl|apply dG (by kernel_rfl)|fail);(conv=>whnf)))
  refine br_b rfl h (fun c2 h => ?_) (fun c2 h => ?_)
  ·((conv=>whnf);repeat((first|apply TT mix|apply sE rfl|apply dG (by kernel_rfl)|fail);(conv=>whnf)))
   refine br_b rfl h (fun c3 h => ?_) (fun c3 h => ?_)
   ·have e := Option.some.inj h; subst e
    ((conv=>whnf);repeat((first|apply TT mix|apply sE rfl|apply dG (by kernel_rfl)|fail);(conv=>whnf)))
    exact And.intro (AV.Le.refl _) rfl
   ·have e := Option.some.inj h; subst e
    ((conv=>whnf);repeat((first|apply TT mix|apply sE rfl|apply dG (by kernel_rfl)|fail);(conv=>whnf)))
    exact And.intro (AV.Le.refl _) rfl
  ·have e := Option.some.inj h; subst e
   ((conv=>whnf);repeat((first|apply TT mix|apply sE rfl|apply dG (by kernel_rfl)|fail);(conv=>whnf)))
   exact And.intro (AV.Le.refl _) rfl
 ·have e := Option.some.inj h; subst e
  ((conv=>whnf);repeat((first|apply TT mix|apply sE rfl|apply dG (by kernel_rfl)|fail);(conv=>whnf)))
  exact And.intro (AV.Le.refl _) rfl
theorem c_puny_fault (p_at : Int) (p_e : Er) (r : Er) (h : m_puny_fault p_at p_e = some r) : Contract pl 43 [(AV.int .i64 p_at), (AV.err p_e)] [] (AV.err r) [] := by
 refine contract_of .z Tryd.func43 rfl (by kernel_rfl) ?_
 have e := Option.some.inj h; subst e
 ((conv=>whnf);repeat((first|apply TT mix|apply sE rfl|apply dG (by kernel_rfl)|fail);(conv=>whnf)))
 exact And.intro (AV.Le.err_box (AV.Le.refl _)) rfl
theorem c_strings_Builder_copyCheck_own (p_b_0 : Int) (p_b_1 : Bool) (p_b_2 : Bool) (p_b_3 : (List Int)) (p_b_4 : Int) (p_b_5 : Int) (p_b_6 : Int) (r : Int × Bool × Bool × Int × Int × Int) (h : m_strings_Builder_copyCheck_own p_b_0 p_b_1 p_b_2 p_b_3 p_b_4 p_b_5 p_b_6 = some r) : ContractM 2 pl 70 [(.mp 0 0 2)] [some ⟨7, 77, (.vals [(.agg [(.int .i64 p_b_0), (.bool p_b_1), (.mpn 0 0 2 p_b_2), (.ms 1 p_b_3.length), (.int .i32 p_b_4), (.int .i64 p_b_5), (.int .i64 p_b_6)])]), false, false⟩, some ⟨1, 5, (.ints .u8 p_b_3), false, true⟩] (.tup []) [some ⟨7, 77, (.vals [(.agg [(.int .i64 r.1), (.bool r.2.1), (.mpn 0 0 2 r.2.2.1), (.ms 1 p_b_3.length), (.int .i32 r.2.2.2.1), (.int .i64 r.2.2.2.2.1), (.int .i64 r.2.2.2.2.2)])]), false, false⟩, some ⟨1, 5, (.ints .u8 p_b_3), false, true⟩] := by
 refine contract_own 2 .z rfl Tryd.func70 rfl (by kernel_rfl) ?_
 ((conv=>whnf);repeat((first|apply TT mix|apply sE rfl|apply dG (by kernel_rfl)|fail);(conv=>whnf)))
 refine br_b rfl h (fun c1 h => ?_) (fun c1 h => ?_)
 ·((conv=>whnf);repeat((first|apply TT mix|apply sE rfl|apply dG (by kernel_rfl)|fail);(conv=>whnf)))
  refine And.intro same_NoEscape ?_
  ((conv=>whnf);repeat((first|apply TT mix|apply sE rfl|apply dG (by kernel_rfl)|fail);(conv=>whnf)))
  refine And.intro (liesQ_of (by kernel_rfl)) ?_
  have e := Option.some.inj h; subst e
  ((conv=>whnf);repeat((first|apply TT mix|apply sE rfl|apply dG (by kernel_rfl)|fail);(conv=>whnf)))
  exact Or.inr (Or.inr (weak_gen [0, 1] rfl rfl (sK rfl (rowLe_vals (valsLe.cons (cellsLe.cons (cR rfl rfl) (cellsLe.cons (cR rfl rfl) (cellsLe.cons (And.intro rfl (AV.Le.mpn_true)) (cellsLe.cons (And.intro rfl (AV.Le.of_eq (congrArg (AV.ms _) (by first | rfl | omega | (simp; omega) | (simp; done) | (simp only [List.length_set] at *; omega))))) (cellsLe.cons (cR rfl rfl) (cellsLe.cons (cR rfl rfl) (cellsLe.cons (cR rfl rfl) cellsLe.nil))))))) valsLe.nil)) (sK rfl (by first | exact rowLe_same fun _ _ _ => rfl | (simp; exact rowLe_same fun _ _ _ => rfl)) storeLe.nil)) (slotsLe.cons (cR rfl rfl) slotsLe.nil)))
 ·((conv=>whnf);repeat((first|apply TT mix|apply sE rfl|apply dG (by kernel_rfl)|fail);(conv=>whnf)))
  refine br_b rfl h (fun c2 h => ?_) (fun c2 h => ?_)
  ·cases h
  ·have e := Option.some.inj h; subst e
   ((conv=>whnf);repeat((first|apply TT mix|apply sE rfl|apply dG (by kernel_rfl)|fail);(conv=>whnf)))
   exact Or.inr (Or.inr (weak_gen [0, 1] rfl rfl (sK rfl (rowLe_vals (valsLe.cons (cellsLe.cons (cR rfl rfl) (cellsLe.cons (cR rfl rfl) (cellsLe.cons (cR rfl rfl) (cellsLe.cons (And.intro rfl (AV.Le.of_eq (congrArg (AV.ms _) (by first | rfl | omega | (simp; omega) | (simp; done) | (simp only [List.length_set] at *; omega))))) (cellsLe.cons (cR rfl rfl) (cellsLe.cons (cR rfl rfl) (cellsLe.cons (cR rfl rfl) cellsLe.nil))))))) valsLe.nil)) (sK rfl (by first | exact rowLe_same fun _ _ _ => rfl | (simp; exact rowLe_same fun _ _ _ => rfl)) storeLe.nil)) (slotsLe.cons (cR rfl rfl) slotsLe.nil)))
theorem c_strings_Builder_WriteByte_own (p_b_0 : Int) (p_b_1 : Bool) (p_b_2 : Bool) (p_b_3 : (List Int)) (p_b_4 : Int) (p_b_5 : Int) (p_b_6 : Int) (p_c : Int) (r : Int × Bool × Bool × (List Int) × Int × Int × Int × Er) (h : m_strings_Builder_WriteByte_own p_b_0 p_b_1 p_b_2 p_b_3 p_b_4 p_b_5 p_b_6 p_c = some r) : ContractM 1 pl 44 [(.mp 0 0 2), (.int .u8 p_c)] [some ⟨7, 77, (.vals [(.agg [(.int .i64 p_b_0), (.bool p_b_1), (.mpn 0 0 2 p_b_2), (.ms 1 p_b_3.length), (.int .i32 p_b_4), (.int .i64 p_b_5), (.int .i64 p_b_6)])]), false, false⟩, some ⟨1, 5, (.ints .u8 p_b_3), false, true⟩] (.err r.2.2.2.2.2.2.2) [some ⟨7, 77, (.vals [(.agg [(.int .i64 r.1), (.bool r.2.1), (.mpn 0 0 2 r.2.2.1), (.ms 1 r.2.2.2.1.length), (.int .i32 r.2.2.2.2.1), (.int .i64 r.2.2.2.2.2.1), (.int .i64 r.2.2.2.2.2.2.1)])]), false, false⟩, some ⟨1, 5, (.ints .u8 r.2.2.2.1), false, true⟩] := by
 refine contract_own 1 .z rfl Tryd.func44 rfl (by kernel_rfl) ?_
 ((conv=>whnf);repeat((first|apply TT mix|apply sE rfl|apply dG (by kernel_rfl)|fail);(conv=>whnf)))
 refine bnd h (fun y1 hy1 h => ?_)
 refine own_intro (own_call [0, 1] (c_strings_Builder_copyCheck_own _ _ _ _ _ _ _ _ hy1) rfl (sK rfl (rowLe_vals (valsLe.cons (cellsLe.cons (cR rfl rfl) (cellsLe.cons (cR rfl rfl) (cellsLe.cons (cR rfl rfl) (cellsLe.cons (And.intro rfl (AV.Le.of_eq (congrArg (AV.ms _) (by first | rfl | omega | (simp; omega) | (simp; done) | (simp only [List.length_set] at *; omega))))) (cellsLe.cons (cR rfl rfl) (cellsLe.cons (cR rfl rfl) (cellsLe.cons (cR rfl rfl) cellsLe.nil))))))) valsLe.nil)) (sK rfl (rowLe_ints (by first | rfl | (simp; done) | (rw [List.take_of_length_le (by simp <;> omega)]; first | rfl | (rw [List.take_take, Nat.min_self]; done) | (simp; done)))) storeLe.nil)) (cellsLe.cons (And.intro rfl (AV.Le.refl _)) cellsLe.nil) rfl) ?_
 ((conv=>whnf);repeat((first|apply TT mix|apply sE rfl|apply dG (by kernel_rfl)|fail);(conv=>whnf)))
 obtain ⟨p2, h⟩ := grdO h
 refine ⟨[], 1, (.ints .u8 [p_c]), ⟨by simp [Row.len] <;> omega, rfl, _, rfl, by simp [Row.len] <;> omega, fun j hj => .inl rfl⟩, trivial, fun j hj => rfl, ?_⟩
 conv => whnf
 refine ⟨by simp [Row.len]; try omega, p2, by omega, ?_⟩
 have e := Option.some.inj h; subst e
 ((conv=>whnf);repeat((first|apply TT mix|apply sE rfl|apply dG (by kernel_rfl)|fail);(conv=>whnf)))
 exact Or.inr (Or.inr (weak_gen [0, 3] rfl rfl (sK rfl (rowLe_vals (valsLe.cons (cellsLe.cons (cR rfl rfl) (cellsLe.cons (cR rfl rfl) (cellsLe.cons (cR rfl rfl) (cellsLe.cons (And.intro rfl (AV.Le.of_eq (congrArg (AV.ms _) (by first | rfl | omega | (simp; omega) | (simp; done) | (simp only [List.length_set] at *; omega))))) (cellsLe.cons (cR rfl rfl) (cellsLe.cons (cR rfl rfl) (cellsLe.cons (cR rfl rfl) cellsLe.nil))))))) valsLe.nil)) (sK rfl (rowLe_ints (by first | rfl | (simp; done) | (rw [List.take_of_length_le (by simp <;> omega)]; first | rfl | (rw [List.take_take, Nat.min_self]; done) | (simp; done)))) storeLe.nil)) (slotsLe.cons (And.intro rfl (AV.Le.err_nil)) slotsLe.nil)))
theorem c_math_bits_Len64 (p_x : Int) (r : Int) (h : m_math_bits_Len64 p_x = some r) : Contract pl 99 [(AV.int .u64 p_x)] [] (AV.int .i64 r) [] := by
 refine contract_of (.t false .z (.t true .z (.t true .z .z))) Tryd.func99 rfl (by kernel_rfl) ?_
 ((conv=>whnf);repeat((first|apply TT mix|apply sE rfl|apply dG (by kernel_rfl)|fail);(conv=>whnf)))
 refine bnd h (fun x5 h5 h => ?_)
 refine cut_at (fun s1 : Int × Int => mkF 25 [(0, (.int .u64 s1.1)), (2, (.int .i64 s1.2))] []) (fun s1 : Int × Int => m_math_bits_Len64_K2 s1 = some r) ?_ ?_
 ·intro Kn5 hn5
  ((conv=>whnf);repeat((first|apply TT mix|apply sE rfl|apply dG (by kernel_rfl)|fail);(conv=>whnf)))
  refine br_b rfl h5 (fun c6 h5 => ?_) (fun c6 h5 => ?_)
  ·((conv=>whnf);repeat((first|apply TT mix|apply sE rfl|apply dG (by kernel_rfl)|fail);(conv=>whnf)))
   refine And.intro (by decide) ?_
   have e := Option.some.inj h5; subst e
   ((conv=>whnf);repeat((first|apply TT mix|apply sE rfl|apply dG (by kernel_rfl)|fail);(conv=>whnf)))
   exact hn5 _ ((Int.fdiv p_x 4294967296), (32 : Int)) h (weak_gen [] rfl rfl storeLe.nil (sQ rfl rfl))
  ·have e := Option.some.inj h5; subst e
   ((conv=>whnf);repeat((first|apply TT mix|apply sE rfl|apply dG (by kernel_rfl)|fail);(conv=>whnf)))
   exact hn5 _ (p_x, (0 : Int)) h (weak_gen [] rfl rfl storeLe.nil (sQ rfl rfl))
 ·clear h h5
  intro s1 hc7
  ((conv=>whnf);repeat((first|apply TT mix|apply sE rfl|apply dG (by kernel_rfl)|fail);(conv=>whnf)))
  refine bnd hc7 (fun x8 h8 hc7 => ?_)
  refine cut_at (fun s3 : Int × Int => mkF 25 [(0, (.int .u64 s3.1)), (2, (.int .i64 s3.2))] []) (fun s3 : Int × Int => m_math_bits_Len64_K4 s3 = some r) ?_ ?_
  ·intro Kn8 hn8
   ((conv=>whnf);repeat((first|apply TT mix|apply sE rfl|apply dG (by kernel_rfl)|fail);(conv=>whnf)))
   refine br_b rfl h8 (fun c9 h8 => ?_) (fun c9 h8 => ?_)
   ·((conv=>whnf);repeat((first|apply TT mix|apply sE rfl|apply dG (by kernel_rfl)|fail);(conv=>whnf)))
    refine And.intro (by decide) ?_
    have e := Option.some.inj h8; subst e
    ((conv=>whnf);repeat((first|apply TT mix|apply sE rfl|apply dG (by kernel_rfl)|fail);(conv=>whnf)))
    exact hn8 _ ((Int.fdiv s1.1 65536), (IntKind.wrap .i64 (s1.2 + (16 : Int)))) hc7 (weak_gen [] rfl rfl storeLe.nil (sQ rfl rfl))
   ·have e := Option.some.inj h8; subst e
    ((conv=>whnf);repeat((first|apply TT mix|apply sE rfl|apply dG (by kernel_rfl)|fail);(conv=>whnf)))
    exact hn8 _ (s1.1, s1.2) hc7 (weak_gen [] rfl rfl storeLe.nil (sQ rfl rfl))
  ·clear hc7 h8
   intro s3 hc10
   ((conv=>whnf);repeat((first|apply TT mix|apply sE rfl|apply dG (by kernel_rfl)|fail);(conv=>whnf)))
   refine br_b rfl hc10 (fun c11 hc10 => ?_) (fun c11 hc10 => ?_)
   ·((conv=>whnf);repeat((first|apply TT mix|apply sE rfl|apply dG (by kernel_rfl)|fail);(conv=>whnf)))
    refine And.intro (by decide) ?_
    ((conv=>whnf);repeat((first|apply TT mix|apply sE rfl|apply dG (by kernel_rfl)|fail);(conv=>whnf)))
    refine grd2 rfl rfl hc10 (fun hc10 => ?_)
    have e := Option.some.inj hc10; subst e
    ((conv=>whnf);repeat((first|apply TT mix|apply sE rfl|apply dG (by kernel_rfl)|fail);(conv=>whnf)))
    exact And.intro (AV.Le.refl _) rfl
   ·((conv=>whnf);repeat((first|apply TT mix|apply sE rfl|apply dG (by kernel_rfl)|fail);(conv=>whnf)))
    refine grd2 rfl rfl hc10 (fun hc10 => ?_)
    have e := Option.some.inj hc10; subst e
    ((conv=>whnf);repeat((first|apply TT mix|apply sE rfl|apply dG (by kernel_rfl)|fail);(conv=>whnf)))
    exact And.intro (AV.Le.refl _) rfl
theorem c_math_bits_Len (p_x : Int) (r : Int) (h : m_math_bits_Len p_x = some r) : Contract pl 72 [(AV.int .u64 p_x)] [] (AV.int .i64 r) [] := by
 refine contract_of .z Tryd.func72 rfl (by kernel_rfl) ?_
 ((conv=>whnf);repeat((first|apply TT mix|apply sE rfl|apply dG (by kernel_rfl)|fail);(conv=>whnf)))
 refine bnd h (fun y1 hy1 h => ?_)
 refine Or.inl ⟨_, c_math_bits_Len64 _ _ hy1, rfl, ?_⟩
 have e := Option.some.inj h; subst e
 ((conv=>whnf);repeat((first|apply TT mix|apply sE rfl|apply dG (by kernel_rfl)|fail);(conv=>whnf)))
 exact And.intro (AV.Le.refl _) rfl
theorem c_cmp_isNaN_rune (p_x : Int) (r : Bool) (h : m_cmp_isNaN_rune p_x = some r) : Contract pl 106 [(AV.int .i32 p_x)] [] (AV.bool r) [] := by
 refine contract_of .z Tryd.func106 rfl (by kernel_rfl) ?_
 have e := Option.some.inj h; subst e
 ((conv=>whnf);repeat((first|apply TT mix|apply sE rfl|apply dG (by kernel_rfl)|fail);(conv=>whnf)))
 exact And.intro (AV.Le.refl _) rfl
theorem c_cmp_Less_rune (p_x : Int) (p_y : Int) (r : Bool) (h : m_cmp_Less_rune p_x p_y = some r) : Contract pl 82 [(AV.int .i32 p_x), (AV.int .i32 p_y)] [] (AV.bool r) [] := by
 refine contract_of .z Tryd.func82 rfl (by kernel_rfl) ?_
 ((conv=>whnf);repeat((first|apply TT mix|apply sE rfl|apply dG (by kernel_rfl)|fail);(conv=>whnf)))
 refine bnd h (fun y1 hy1 h => ?_)
 refine Or.inl ⟨_, c_cmp_isNaN_rune _ _ hy1, rfl, ?_⟩
 ((conv=>whnf);repeat((first|apply TT mix|apply sE rfl|apply dG (by kernel_rfl)|fail);(conv=>whnf)))
 refine br_b rfl h (fun c3 h => ?_) (fun c3 h => ?_)
 ·((conv=>whnf);repeat((first|apply TT mix|apply sE rfl|apply dG (by kernel_rfl)|fail);(conv=>whnf)))
  refine bnd h (fun y2 hy2 h => ?_)
  refine Or.inl ⟨_, c_cmp_isNaN_rune _ _ hy2, rfl, ?_⟩
  ((conv=>whnf);repeat((first|apply TT mix|apply sE rfl|apply dG (by kernel_rfl)|fail);(conv=>whnf)))
  refine br_b rfl h (fun c4 h => ?_) (fun c4 h => ?_)
  ·have e := Option.some.inj h; subst e
   ((conv=>whnf);repeat((first|apply TT mix|apply sE rfl|apply dG (by kernel_rfl)|fail);(conv=>whnf)))
   exact And.intro (AV.Le.refl _) rfl
  ·have e := Option.some.inj h; subst e
   ((conv=>whnf);repeat((first|apply TT mix|apply sE rfl|apply dG (by kernel_rfl)|fail);(conv=>whnf)))
   exact And.intro (AV.Le.refl _) rfl
 ·have e := Option.some.inj h; subst e
  ((conv=>whnf);repeat((first|apply TT mix|apply sE rfl|apply dG (by kernel_rfl)|fail);(conv=>whnf)))
  exact And.intro (AV.Le.refl _) rfl
theorem c_slices_insertionSortOrdered_rune_own (p_data : (List Int)) (p_a : Int) (p_b : Int) (r : (List Int)) (h : m_slices_insertionSortOrdered_rune_own p_data p_a p_b = some r) : ContractM 1 pl 90 [(.ms 0 p_data.length), (.int .i64 p_a), (.int .i64 p_b)] [some ⟨1, 21, (.ints .i32 p_data), false, true⟩] (.tup []) [some ⟨1, 21, (.ints .i32 r), false, true⟩] := by
 refine contract_own 1 (.t false .z (.t false (.t false (.t false .z (.t true (.t false (.t false .z (.t false (.t false (.t false (.t true .z .z) .z) .z) .z)) .z) .z)) .z) .z)) rfl Tryd.func90 rfl (by kernel_rfl) ?_
 ((conv=>whnf);repeat((first|apply TT mix|apply sE rfl|apply dG (by kernel_rfl)|fail);(conv=>whnf)))
 refine bnd h (fun x4 hx4 h => ?_)
 refine loop_iter (fun s2 : (List Int) × Int => mkF 49 [(0, (.ms 0 s2.1.length)), (1, (.int .i64 p_a)), (2, (.int .i64 p_b)), (6, (.int .i64 s2.2))] [some ⟨1, 21, (.ints .i32 s2.1), false, true⟩]) hx4 (weak_gen [0] rfl rfl (sK rfl (rowLe_ints (by first | rfl | (simp; done) | (rw [List.take_of_length_le (by simp <;> omega)]; first | rfl | (rw [List.take_take, Nat.min_self]; done) | (simp; done)))) storeLe.nil) (slotsLe.cons (And.intro rfl (AV.Le.of_eq (congrArg (AV.ms _) (by first | rfl | omega | (simp; omega) | (simp; done) | (simp only [List.length_set] at *; omega))))) (slotsLe.cons (cR rfl rfl) (slotsLe.cons (cR rfl rfl) (slotsLe.cons (cR rfl rfl) slotsLe.nil))))) ?_
 intro k4 s2 st4 Kn4 hn4 h4 hs4
 ((conv=>whnf);repeat((first|apply TT mix|apply sE rfl|apply dG (by kernel_rfl)|fail);(conv=>whnf)))
 refine br_b rfl h4 (fun c16 h4 => ?_) (fun c16 h4 => ?_)
 ·((conv=>whnf);repeat((first|apply TT mix|apply sE rfl|apply dG (by kernel_rfl)|fail);(conv=>whnf)))
  refine bnd h4 (fun x17 h17 h4 => ?_)
  refine cut_at (fun s5 : (List Int) => mkF 49 [(0, (.ms 0 s5.length)), (1, (.int .i64 p_a)), (2, (.int .i64 p_b)), (6, (.int .i64 s2.2))] [some ⟨1, 21, (.ints .i32 s5), false, true⟩]) (fun s5 : (List Int) => some (.next (s5, (IntKind.wrap .i64 (s2.2 + (1 : Int))))) = some st4) ?_ ?_
  ·intro Kn17 hn17
   ((conv=>whnf);repeat((first|apply TT mix|apply sE rfl|apply dG (by kernel_rfl)|fail);(conv=>whnf)))
   refine loop_iter (fun s8 : (List Int) × Int => mkF 49 [(0, (.ms 0 s8.1.length)), (1, (.int .i64 p_a)), (2, (.int .i64 p_b)), (6, (.int .i64 s2.2)), (7, (.int .i64 s8.2))] [some ⟨1, 21, (.ints .i32 s8.1), false, true⟩]) h17 (weak_gen [0] rfl rfl (sK rfl (rowLe_ints (by first | rfl | (simp; done) | (rw [List.take_of_length_le (by simp <;> omega)]; first | rfl | (rw [List.take_take, Nat.min_self]; done) | (simp; done)))) storeLe.nil) (slotsLe.cons (And.intro rfl (AV.Le.of_eq (congrArg (AV.ms _) (by first | rfl | omega | (simp; omega) | (simp; done) | (simp only [List.length_set] at *; omega))))) (slotsLe.cons (cR rfl rfl) (slotsLe.cons (cR rfl rfl) (slotsLe.cons (cR rfl rfl) (slotsLe.cons (cR rfl rfl) slotsLe.nil)))))) ?_
   intro k10 s8 st10 Kn10 hn10 h10_ hs10
   ((conv=>whnf);repeat((first|apply TT mix|apply sE rfl|apply dG (by kernel_rfl)|fail);(conv=>whnf)))
   refine bnd h10_ (fun x18 h18 h10_ => ?_)
   refine cut_at (fun s11 : Bool => mkF 49 [(0, (.ms 0 s8.1.length)), (1, (.int .i64 p_a)), (2, (.int .i64 p_b)), (6, (.int .i64 s2.2)), (7, (.int .i64 s8.2)), (30, (.bool s11))] [some ⟨1, 21, (.ints .i32 s8.1), false, true⟩]) (fun s11 : Bool => m_slices_insertionSortOrdered_rune_own_K12 s8 s11 = some st10) ?_ ?_
   ·intro Kn18 hn18
    ((conv=>whnf);repeat((first|apply TT mix|apply sE rfl|apply dG (by kernel_rfl)|fail);(conv=>whnf)))
    refine br_b rfl h18 (fun c19 h18 => ?_) (fun c19 h18 => ?_)
    ·((conv=>whnf);repeat((first|apply TT mix|apply sE rfl|apply dG (by kernel_rfl)|fail);(conv=>whnf)))
     refine grd2 rfl rfl h18 (fun h18 => ?_)
     ((conv=>whnf);repeat((first|apply TT mix|apply sE rfl|apply dG (by kernel_rfl)|fail);(conv=>whnf)))
     refine grd2 rfl rfl h18 (fun h18 => ?_)
     ((conv=>whnf);repeat((first|apply TT mix|apply sE rfl|apply dG (by kernel_rfl)|fail);(conv=>whnf)))
     refine bnd h18 (fun y13 hy13 h18 => ?_)
     refine Or.inl ⟨_, c_cmp_Less_rune _ _ _ hy13, rfl, ?_⟩
     have e := Option.some.inj h18; subst e
     ((conv=>whnf);repeat((first|apply TT mix|apply sE rfl|apply dG (by kernel_rfl)|fail);(conv=>whnf)))
     exact hn18 _ y13 h10_ (weak_gen [0] rfl rfl (sK rfl (by first | exact rowLe_same fun _ _ _ => rfl | (simp; exact rowLe_same fun _ _ _ => rfl)) storeLe.nil) (slotsLe.cons (And.intro rfl (AV.Le.of_eq (congrArg (AV.ms _) (by first | rfl | omega | (simp; omega) | (simp; done) | (simp only [List.length_set] at *; omega))))) (slotsLe.cons (cR rfl rfl) (slotsLe.cons (cR rfl rfl) (slotsLe.cons (cR rfl rfl) (slotsLe.cons (cR rfl rfl) (slotsLe.cons (cR rfl rfl) slotsLe.nil)))))))
    ·have e := Option.some.inj h18; subst e
     ((conv=>whnf);repeat((first|apply TT mix|apply sE rfl|apply dG (by kernel_rfl)|fail);(conv=>whnf)))
     exact hn18 _ false h10_ (weak_gen [0] rfl rfl (sK rfl (by first | exact rowLe_same fun _ _ _ => rfl | (simp; exact rowLe_same fun _ _ _ => rfl)) storeLe.nil) (slotsLe.cons (And.intro rfl (AV.Le.of_eq (congrArg (AV.ms _) (by first | rfl | omega | (simp; omega) | (simp; done) | (simp only [List.length_set] at *; omega))))) (slotsLe.cons (cR rfl rfl) (slotsLe.cons (cR rfl rfl) (slotsLe.cons (cR rfl rfl) (slotsLe.cons (cR rfl rfl) (slotsLe.cons (cR rfl rfl) slotsLe.nil)))))))
   ·clear h10_ h18
    intro s11 hc20
    ((conv=>whnf);repeat((first|apply TT mix|apply sE rfl|apply dG (by kernel_rfl)|fail);(conv=>whnf)))
    refine br_b rfl hc20 (fun c21 hc20 => ?_) (fun c21 hc20 => ?_)
    ·((conv=>whnf);repeat((first|apply TT mix|apply sE rfl|apply dG (by kernel_rfl)|fail);(conv=>whnf)))
     refine grd2 rfl rfl hc20 (fun hc20 => ?_)
     ((conv=>whnf);repeat((first|apply TT mix|apply sE rfl|apply dG (by kernel_rfl)|fail);(conv=>whnf)))
     refine grd2 rfl rfl hc20 (fun hc20 => ?_)
     ((conv=>whnf);repeat((first|apply TT mix|apply sE rfl|apply dG (by kernel_rfl)|fail);(conv=>whnf)))
     refine grd2 rfl rfl hc20 (fun hc20 => ?_)
     ((conv=>whnf);repeat((first|apply TT mix|apply sE rfl|apply dG (by kernel_rfl)|fail);(conv=>whnf)))
     refine grd2 rfl rfl hc20 (fun hc20 => ?_)
     have e := Option.some.inj hc20; subst e
     ((conv=>whnf);repeat((first|apply TT mix|apply sE rfl|apply dG (by kernel_rfl)|fail);(conv=>whnf)))
     exact hn10 _ (((s8.1.set (s8.2.toNat) (s8.1.getD ((IntKind.wrap .i64 (s8.2 - (1 : Int))).toNat) 0)).set ((IntKind.wrap .i64 (s8.2 - (1 : Int))).toNat) (s8.1.getD (s8.2.toNat) 0)), (IntKind.wrap .i64 (s8.2 - (1 : Int)))) hs10 (weak_gen [0] rfl rfl (sK rfl (rowLe_ints (by first | rfl | (simp; done) | (rw [List.take_of_length_le (by simp <;> omega)]; first | rfl | (rw [List.take_take, Nat.min_self]; done) | (simp; done)))) storeLe.nil) (slotsLe.cons (And.intro rfl (AV.Le.of_eq (congrArg (AV.ms _) (by first | rfl | omega | (simp; omega) | (simp; done) | (simp only [List.length_set] at *; omega))))) (slotsLe.cons (cR rfl rfl) (slotsLe.cons (cR rfl rfl) (slotsLe.cons (cR rfl rfl) (slotsLe.cons (cR rfl rfl) slotsLe.nil))))))
    ·have e := Option.some.inj hc20; subst e
     have e := done_out hs10; subst e
     ((conv=>whnf);repeat((first|apply TT mix|apply sE rfl|apply dG (by kernel_rfl)|fail);(conv=>whnf)))
     exact hn17 _ s8.1 h4 (weak_gen [0] rfl rfl (sK rfl (rowLe_ints (by first | rfl | (simp; done) | (rw [List.take_of_length_le (by simp <;> omega)]; first | rfl | (rw [List.take_take, Nat.min_self]; done) | (simp; done)))) storeLe.nil) (slotsLe.cons (And.intro rfl (AV.Le.of_eq (congrArg (AV.ms _) (by first | rfl | omega | (simp; omega) | (simp; done) | (simp only [List.length_set] at *; omega))))) (slotsLe.cons (cR rfl rfl) (slotsLe.cons (cR rfl rfl) (slotsLe.cons (cR rfl rfl) slotsLe.nil)))))
  ·clear h4 h17
   intro s5 hc22
   have e := Option.some.inj hc22; subst e
   ((conv=>whnf);repeat((first|apply TT mix|apply sE rfl|apply dG (by kernel_rfl)|fail);(conv=>whnf)))
   exact hn4 _ (s5, (IntKind.wrap .i64 (s2.2 + (1 : Int)))) hs4 (weak_gen [0] rfl rfl (sK rfl (rowLe_ints (by first | rfl | (simp; done) | (rw [List.take_of_length_le (by simp <;> omega)]; first | rfl | (rw [List.take_take, Nat.min_self]; done) | (simp; done)))) storeLe.nil) (slotsLe.cons (And.intro rfl (AV.Le.of_eq (congrArg (AV.ms _) (by first | rfl | omega | (simp; omega) | (simp; done) | (simp only [List.length_set] at *; omega))))) (slotsLe.cons (cR rfl rfl) (slotsLe.cons (cR rfl rfl) (slotsLe.cons (cR rfl rfl) slotsLe.nil)))))
 ·have e := Option.some.inj h4; subst e
  have e := done_out hs4; subst e
  have e := Option.some.inj h; subst e
  ((conv=>whnf);repeat((first|apply TT mix|apply sE rfl|apply dG (by kernel_rfl)|fail);(conv=>whnf)))
  exact Or.inr (Or.inr (weak_gen [0] rfl rfl (sK rfl (rowLe_ints (by first | rfl | (simp; done) | (rw [List.take_of_length_le (by simp <;> omega)]; first | rfl | (rw [List.take_take, Nat.min_self]; done) | (simp; done)))) storeLe.nil) (slotsLe.cons (cR rfl rfl) slotsLe.nil)))
theorem c_slices_siftDownOrdered_rune_own (p_data : (List Int)) (p_lo : Int) (p_hi : Int) (p_first : Int) (r : (List Int)) (h : m_slices_siftDownOrdered_rune_own p_data p_lo p_hi p_first = some r) : ContractM 1 pl 107 [(.ms 0 p_data.length), (.int .i64 p_lo), (.int .i64 p_hi), (.int .i64 p_first)] [some ⟨1, 21, (.ints .i32 p_data), false, true⟩] (.tup []) [some ⟨1, 21, (.ints .i32 r), false, true⟩] := by
 refine contract_own 1 (.t false .z (.t false (.t false (.t false (.t false .z (.t false .z (.t true (.t true .z .z) .z))) .z) .z) .z)) rfl Tryd.func107 rfl (by kernel_rfl) ?_
 ((conv=>whnf);repeat((first|apply TT mix|apply sE rfl|apply dG (by kernel_rfl)|fail);(conv=>whnf)))
 refine bnd h (fun x4 hx4 h => ?_)
 refine loop_iter (fun s2 : (List Int) × Int => mkF 76 [(0, (.ms 0 s2.1.length)), (2, (.int .i64 p_hi)), (3, (.int .i64 p_first)), (8, (.int .i64 s2.2))] [some ⟨1, 21, (.ints .i32 s2.1), false, true⟩]) hx4 (weak_gen [0] rfl rfl (sK rfl (rowLe_ints (by first | rfl | (simp; done) | (rw [List.take_of_length_le (by simp <;> omega)]; first | rfl | (rw [List.take_take, Nat.min_self]; done) | (simp; done)))) storeLe.nil) (slotsLe.cons (And.intro rfl (AV.Le.of_eq (congrArg (AV.ms _) (by first | rfl | omega | (simp; omega) | (simp; done) | (simp only [List.length_set] at *; omega))))) (slotsLe.cons (cR rfl rfl) (slotsLe.cons (cR rfl rfl) (slotsLe.cons (cR rfl rfl) slotsLe.nil))))) ?_
 intro k4 s2 st4 Kn4 hn4 h4 hs4
 ((conv=>whnf);repeat((first|apply TT mix|apply sE rfl|apply dG (by kernel_rfl)|fail);(conv=>whnf)))
 refine br_b rfl h4 (fun c13 h4 => ?_) (fun c13 h4 => ?_)
 ·have e := Option.some.inj h4; subst e
  have e := done_out hs4; subst e
  have e := Option.some.inj h; subst e
  ((conv=>whnf);repeat((first|apply TT mix|apply sE rfl|apply dG (by kernel_rfl)|fail);(conv=>whnf)))
  exact Or.inr (Or.inr (weak_gen [0] rfl rfl (sK rfl (rowLe_ints (by first | rfl | (simp; done) | (rw [List.take_of_length_le (by simp <;> omega)]; first | rfl | (rw [List.take_take, Nat.min_self]; done) | (simp; done)))) storeLe.nil) (slotsLe.cons (cR rfl rfl) slotsLe.nil)))
 ·((conv=>whnf);repeat((first|apply TT mix|apply sE rfl|apply dG (by kernel_rfl)|fail);(conv=>whnf)))
  refine bnd h4 (fun x14 h14 h4 => ?_)
  refine cut_at (fun s5 : Int => mkF 76 [(0, (.ms 0 s2.1.length)), (2, (.int .i64 p_hi)), (3, (.int .i64 p_first)), (8, (.int .i64 s2.2)), (9, (.int .i64 s5))] [some ⟨1, 21, (.ints .i32 s2.1), false, true⟩]) (fun s5 : Int => m_slices_siftDownOrdered_rune_own_K6 p_first s2 s5 = some st4) ?_ ?_
  ·intro Kn14 hn14
   ((conv=>whnf);repeat((first|apply TT mix|apply sE rfl|apply dG (by kernel_rfl)|fail);(conv=>whnf)))
   refine bnd h14 (fun x15 h15 h14 => ?_)
   refine cut_at (fun s8 : Bool => mkF 76 [(0, (.ms 0 s2.1.length)), (2, (.int .i64 p_hi)), (3, (.int .i64 p_first)), (8, (.int .i64 s2.2)), (9, (.int .i64 (IntKind.wrap .i64 ((IntKind.wrap .i64 ((2 : Int) * s2.2)) + (1 : Int))))), (36, (.bool s8))] [some ⟨1, 21, (.ints .i32 s2.1), false, true⟩]) (fun s8 : Bool => m_slices_siftDownOrdered_rune_own_K9 s2 s8 = some x14) ?_ ?_
   ·intro Kn15 hn15
    ((conv=>whnf);repeat((first|apply TT mix|apply sE rfl|apply dG (by kernel_rfl)|fail);(conv=>whnf)))
    refine br_b rfl h15 (fun c16 h15 => ?_) (fun c16 h15 => ?_)
    ·((conv=>whnf);repeat((first|apply TT mix|apply sE rfl|apply dG (by kernel_rfl)|fail);(conv=>whnf)))
     refine grd2 rfl rfl h15 (fun h15 => ?_)
     ((conv=>whnf);repeat((first|apply TT mix|apply sE rfl|apply dG (by kernel_rfl)|fail);(conv=>whnf)))
     refine grd2 rfl rfl h15 (fun h15 => ?_)
     ((conv=>whnf);repeat((first|apply TT mix|apply sE rfl|apply dG (by kernel_rfl)|fail);(conv=>whnf)))
     refine bnd h15 (fun y10 hy10 h15 => ?_)
     refine Or.inl ⟨_, c_cmp_Less_rune _ _ _ hy10, rfl, ?_⟩
     have e := Option.some.inj h15; subst e
     ((conv=>whnf);repeat((first|apply TT mix|apply sE rfl|apply dG (by kernel_rfl)|fail);(conv=>whnf)))
     exact hn15 _ y10 h14 (weak_gen [0] rfl rfl (sK rfl (by first | exact rowLe_same fun _ _ _ => rfl | (simp; exact rowLe_same fun _ _ _ => rfl)) storeLe.nil) (slotsLe.cons (And.intro rfl (AV.Le.of_eq (congrArg (AV.ms _) (by first | rfl | omega | (simp; omega) | (simp; done) | (simp only [List.length_set] at *; omega))))) (slotsLe.cons (cR rfl rfl) (slotsLe.cons (cR rfl rfl) (slotsLe.cons (cR rfl rfl) (slotsLe.cons (cR rfl rfl) (slotsLe.cons (cR rfl rfl) slotsLe.nil)))))))
    ·have e := Option.some.inj h15; subst e
     ((conv=>whnf);repeat((first|apply TT mix|apply sE rfl|apply dG (by kernel_rfl)|fail);(conv=>whnf)))
     exact hn15 _ false h14 (weak_gen [0] rfl rfl (sK rfl (by first | exact rowLe_same fun _ _ _ => rfl | (simp; exact rowLe_same fun _ _ _ => rfl)) storeLe.nil) (slotsLe.cons (And.intro rfl (AV.Le.of_eq (congrArg (AV.ms _) (by first | rfl | omega | (simp; omega) | (simp; done) | (simp only [List.length_set] at *; omega))))) (slotsLe.cons (cR rfl rfl) (slotsLe.cons (cR rfl rfl) (slotsLe.cons (cR rfl rfl) (slotsLe.cons (cR rfl rfl) (slotsLe.cons (cR rfl rfl) slotsLe.nil)))))))
   ·clear h14 h15
    intro s8 hc17
    ((conv=>whnf);repeat((first|apply TT mix|apply sE rfl|apply dG (by kernel_rfl)|fail);(conv=>whnf)))
    refine br_b rfl hc17 (fun c18 hc17 => ?_) (fun c18 hc17 => ?_)
    ·have e := Option.some.inj hc17; subst e
     ((conv=>whnf);repeat((first|apply TT mix|apply sE rfl|apply dG (by kernel_rfl)|fail);(conv=>whnf)))
     exact hn14 _ (IntKind.wrap .i64 ((IntKind.wrap .i64 ((IntKind.wrap .i64 ((2 : Int) * s2.2)) + (1 : Int))) + (1 : Int))) h4 (weak_gen [0] rfl rfl (sK rfl (by first | exact rowLe_same fun _ _ _ => rfl | (simp; exact rowLe_same fun _ _ _ => rfl)) storeLe.nil) (slotsLe.cons (And.intro rfl (AV.Le.of_eq (congrArg (AV.ms _) (by first | rfl | omega | (simp; omega) | (simp; done) | (simp only [List.length_set] at *; omega))))) (slotsLe.cons (cR rfl rfl) (slotsLe.cons (cR rfl rfl) (slotsLe.cons (cR rfl rfl) (slotsLe.cons (cR rfl rfl) slotsLe.nil))))))
    ·have e := Option.some.inj hc17; subst e
     ((conv=>whnf);repeat((first|apply TT mix|apply sE rfl|apply dG (by kernel_rfl)|fail);(conv=>whnf)))
     exact hn14 _ (IntKind.wrap .i64 ((IntKind.wrap .i64 ((2 : Int) * s2.2)) + (1 : Int))) h4 (weak_gen [0] rfl rfl (sK rfl (by first | exact rowLe_same fun _ _ _ => rfl | (simp; exact rowLe_same fun _ _ _ => rfl)) storeLe.nil) (slotsLe.cons (And.intro rfl (AV.Le.of_eq (congrArg (AV.ms _) (by first | rfl | omega | (simp; omega) | (simp; done) | (simp only [List.length_set] at *; omega))))) (slotsLe.cons (cR rfl rfl) (slotsLe.cons (cR rfl rfl) (slotsLe.cons (cR rfl rfl) (slotsLe.cons (cR rfl rfl) slotsLe.nil))))))
  ·clear h4 h14
   intro s5 hc19
   ((conv=>whnf);repeat((first|apply TT mix|apply sE rfl|apply dG (by kernel_rfl)|fail);(conv=>whnf)))
   refine grd2 rfl rfl hc19 (fun hc19 => ?_)
   ((conv=>whnf);repeat((first|apply TT mix|apply sE rfl|apply dG (by kernel_rfl)|fail);(conv=>whnf)))
   refine grd2 rfl rfl hc19 (fun hc19 => ?_)
   ((conv=>whnf);repeat((first|apply TT mix|apply sE rfl|apply dG (by kernel_rfl)|fail);(conv=>whnf)))
   refine bnd hc19 (fun y7 hy7 hc19 => ?_)
   refine Or.inl ⟨_, c_cmp_Less_rune _ _ _ hy7, rfl, ?_⟩
   ((conv=>whnf);repeat((first|apply TT mix|apply sE rfl|apply dG (by kernel_rfl)|fail);(conv=>whnf)))
   refine br_b rfl hc19 (fun c20 hc19 => ?_) (fun c20 hc19 => ?_)
   ·have e := Option.some.inj hc19; subst e
    have e := done_out hs4; subst e
    have e := Option.some.inj h; subst e
    ((conv=>whnf);repeat((first|apply TT mix|apply sE rfl|apply dG (by kernel_rfl)|fail);(conv=>whnf)))
    exact Or.inr (Or.inr (weak_gen [0] rfl rfl (sK rfl (rowLe_ints (by first | rfl | (simp; done) | (rw [List.take_of_length_le (by simp <;> omega)]; first | rfl | (rw [List.take_take, Nat.min_self]; done) | (simp; done)))) storeLe.nil) (slotsLe.cons (cR rfl rfl) slotsLe.nil)))
   ·((conv=>whnf);repeat((first|apply TT mix|apply sE rfl|apply dG (by kernel_rfl)|fail);(conv=>whnf)))
    refine grd2 rfl rfl hc19 (fun hc19 => ?_)
    ((conv=>whnf);repeat((first|apply TT mix|apply sE rfl|apply dG (by kernel_rfl)|fail);(conv=>whnf)))
    refine grd2 rfl rfl hc19 (fun hc19 => ?_)
    ((conv=>whnf);repeat((first|apply TT mix|apply sE rfl|apply dG (by kernel_rfl)|fail);(conv=>whnf)))
    refine grd2 rfl rfl hc19 (fun hc19 => ?_)
    ((conv=>whnf);repeat((first|apply TT mix|apply sE rfl|apply dG (by kernel_rfl)|fail);(conv=>whnf)))
    refine grd2 rfl rfl hc19 (fun hc19 => ?_)
    have e := Option.some.inj hc19; subst e
    ((conv=>whnf);repeat((first|apply TT mix|apply sE rfl|apply dG (by kernel_rfl)|fail);(conv=>whnf)))
    exact hn4 _ (((s2.1.set ((IntKind.wrap .i64 (p_first + s2.2)).toNat) (s2.1.getD ((IntKind.wrap .i64 (p_first + s5)).toNat) 0)).set ((IntKind.wrap .i64 (p_first + s5)).toNat) (s2.1.getD ((IntKind.wrap .i64 (p_first + s2.2)).toNat) 0)), s5) hs4 (weak_gen [0] rfl rfl (sK rfl (rowLe_ints (by first | rfl | (simp; done) | (rw [List.take_of_length_le (by simp <;> omega)]; first | rfl | (rw [List.take_take, Nat.min_self]; done) | (simp; done)))) storeLe.nil) (slotsLe.cons (And.intro rfl (AV.Le.of_eq (congrArg (AV.ms _) (by first | rfl | omega | (simp; omega) | (simp; done) | (simp only [List.length_set] at *; omega))))) (slotsLe.cons (cR rfl rfl) (slotsLe.cons (cR rfl rfl) (slotsLe.cons (cR rfl rfl) slotsLe.nil)))))
theorem c_slices_heapSortOrdered_rune_own (p_data : (List Int)) (p_a : Int) (p_b : Int) (r : (List Int)) (h : m_slices_heapSortOrdered_rune_own p_data p_a p_b = some r) : ContractM 1 pl 91 [(.ms 0 p_data.length), (.int .i64 p_a), (.int .i64 p_b)] [some ⟨1, 21, (.ints .i32 p_data), false, true⟩] (.tup []) [some ⟨1, 21, (.ints .i32 r), false, true⟩] := by
 refine contract_own 1 (.t false .z (.t false .z (.t false .z (.t true .z .z)))) rfl Tryd.func91 rfl (by kernel_rfl) ?_
 ((conv=>whnf);repeat((first|apply TT mix|apply sE rfl|apply dG (by kernel_rfl)|fail);(conv=>whnf)))
 refine bnd h (fun x15 h15 h => ?_)
 refine cut_at (fun s1 : (List Int) => mkF 56 [(0, (.ms 0 s1.length)), (6, (.int .i64 p_a)), (7, (.int .i64 (0 : Int))), (8, (.int .i64 (IntKind.wrap .i64 (p_b - p_a))))] [some ⟨1, 21, (.ints .i32 s1), false, true⟩]) (fun s1 : (List Int) => m_slices_heapSortOrdered_rune_own_K2 p_a p_b s1 = some r) ?_ ?_
 ·intro Kn15 hn15
  ((conv=>whnf);repeat((first|apply TT mix|apply sE rfl|apply dG (by kernel_rfl)|fail);(conv=>whnf)))
  refine And.intro (by decide) ?_
  ((conv=>whnf);repeat((first|apply TT mix|apply sE rfl|apply dG (by kernel_rfl)|fail);(conv=>whnf)))
  refine loop_iter (fun s10 : (List Int) × Int => mkF 56 [(0, (.ms 0 s10.1.length)), (6, (.int .i64 p_a)), (7, (.int .i64 (0 : Int))), (8, (.int .i64 (IntKind.wrap .i64 (p_b - p_a)))), (9, (.int .i64 s10.2))] [some ⟨1, 21, (.ints .i32 s10.1), false, true⟩]) h15 (weak_gen [0] rfl rfl (sK rfl (rowLe_ints (by first | rfl | (simp; done) | (rw [List.take_of_length_le (by simp <;> omega)]; first | rfl | (rw [List.take_take, Nat.min_self]; done) | (simp; done)))) storeLe.nil) (slotsLe.cons (And.intro rfl (AV.Le.of_eq (congrArg (AV.ms _) (by first | rfl | omega | (simp; omega) | (simp; done) | (simp only [List.length_set] at *; omega))))) (slotsLe.cons (cR rfl rfl) (slotsLe.cons (cR rfl rfl) (slotsLe.cons (cR rfl rfl) (slotsLe.cons (cR rfl rfl) slotsLe.nil)))))) ?_
  intro k12 s10 st12 Kn12 hn12 h12_ hs12
  ((conv=>whnf);repeat((first|apply TT mix|apply sE rfl|apply dG (by kernel_rfl)|fail);(conv=>whnf)))
  refine br_b rfl h12_ (fun c16 h12_ => ?_) (fun c16 h12_ => ?_)
  ·((conv=>whnf);repeat((first|apply TT mix|apply sE rfl|apply dG (by kernel_rfl)|fail);(conv=>whnf)))
   refine bnd h12_ (fun y13 hy13 h12_ => ?_)
   refine Or.inr (own_intro (own_call [0] (c_slices_siftDownOrdered_rune_own _ _ _ _ _ hy13) rfl (sK rfl (rowLe_ints (by first | rfl | (simp; done) | (rw [List.take_of_length_le (by simp <;> omega)]; first | rfl | (rw [List.take_take, Nat.min_self]; done) | (simp; done)))) storeLe.nil) (cellsLe.cons (And.intro rfl (AV.Le.of_eq (congrArg (AV.ms _) (by first | rfl | omega | (simp; omega) | (simp; done) | (simp only [List.length_set] at *; omega))))) (cellsLe.cons (And.intro rfl (AV.Le.refl _)) (cellsLe.cons (And.intro rfl (AV.Le.refl _)) (cellsLe.cons (And.intro rfl (AV.Le.refl _)) cellsLe.nil)))) rfl) ?_)
   ((conv=>whnf);repeat((first|apply TT mix|apply sE rfl|apply dG (by kernel_rfl)|fail);(conv=>whnf)))
   obtain ⟨p17, h12_⟩ := grdO h12_
   have e := Option.some.inj h12_; subst e
   ((conv=>whnf);repeat((first|apply TT mix|apply sE rfl|apply dG (by kernel_rfl)|fail);(conv=>whnf)))
   exact hn12 _ (y13, (IntKind.wrap .i64 (s10.2 - (1 : Int)))) hs12 (weak_gen [0] rfl rfl (sK rfl (rowLe_ints (by first | rfl | (simp; done) | (rw [List.take_of_length_le (by simp <;> omega)]; first | rfl | (rw [List.take_take, Nat.min_self]; done) | (simp; done)))) storeLe.nil) (slotsLe.cons (And.intro rfl (AV.Le.of_eq (congrArg (AV.ms _) (by first | rfl | omega | (simp; omega) | (simp; done) | (simp only [List.length_set] at *; omega))))) (slotsLe.cons (cR rfl rfl) (slotsLe.cons (cR rfl rfl) (slotsLe.cons (cR rfl rfl) (slotsLe.cons (cR rfl rfl) slotsLe.nil))))))
  ·have e := Option.some.inj h12_; subst e
   have e := done_out hs12; subst e
   ((conv=>whnf);repeat((first|apply TT mix|apply sE rfl|apply dG (by kernel_rfl)|fail);(conv=>whnf)))
   exact hn15 _ s10.1 h (weak_gen [0] rfl rfl (sK rfl (rowLe_ints (by first | rfl | (simp; done) | (rw [List.take_of_length_le (by simp <;> omega)]; first | rfl | (rw [List.take_take, Nat.min_self]; done) | (simp; done)))) storeLe.nil) (slotsLe.cons (And.intro rfl (AV.Le.of_eq (congrArg (AV.ms _) (by first | rfl | omega | (simp; omega) | (simp; done) | (simp only [List.length_set] at *; omega))))) (slotsLe.cons (cR rfl rfl) (slotsLe.cons (cR rfl rfl) (slotsLe.cons (cR rfl rfl) slotsLe.nil)))))
 ·clear h h15
  intro s1 hc18
  ((conv=>whnf);repeat((first|apply TT mix|apply sE rfl|apply dG (by kernel_rfl)|fail);(conv=>whnf)))
  refine bnd hc18 (fun x6 hx6 hc18 => ?_)
  refine loop_iter (fun s4 : (List Int) × Int => mkF 56 [(0, (.ms 0 s4.1.length)), (6, (.int .i64 p_a)), (7, (.int .i64 (0 : Int))), (10, (.int .i64 s4.2))] [some ⟨1, 21, (.ints .i32 s4.1), false, true⟩]) hx6 (weak_gen [0] rfl rfl (sK rfl (rowLe_ints (by first | rfl | (simp; done) | (rw [List.take_of_length_le (by simp <;> omega)]; first | rfl | (rw [List.take_take, Nat.min_self]; done) | (simp; done)))) storeLe.nil) (slotsLe.cons (And.intro rfl (AV.Le.of_eq (congrArg (AV.ms _) (by first | rfl | omega | (simp; omega) | (simp; done) | (simp only [List.length_set] at *; omega))))) (slotsLe.cons (cR rfl rfl) (slotsLe.cons (cR rfl rfl) (slotsLe.cons (cR rfl rfl) slotsLe.nil))))) ?_
  intro k6 s4 st6 Kn6 hn6 h6 hs6
  ((conv=>whnf);repeat((first|apply TT mix|apply sE rfl|apply dG (by kernel_rfl)|fail);(conv=>whnf)))
  refine br_b rfl h6 (fun c19 h6 => ?_) (fun c19 h6 => ?_)
  ·((conv=>whnf);repeat((first|apply TT mix|apply sE rfl|apply dG (by kernel_rfl)|fail);(conv=>whnf)))
   refine grd2 rfl rfl h6 (fun h6 => ?_)
   ((conv=>whnf);repeat((first|apply TT mix|apply sE rfl|apply dG (by kernel_rfl)|fail);(conv=>whnf)))
   refine grd2 rfl rfl h6 (fun h6 => ?_)
   ((conv=>whnf);repeat((first|apply TT mix|apply sE rfl|apply dG (by kernel_rfl)|fail);(conv=>whnf)))
   refine grd2 rfl rfl h6 (fun h6 => ?_)
   ((conv=>whnf);repeat((first|apply TT mix|apply sE rfl|apply dG (by kernel_rfl)|fail);(conv=>whnf)))
   refine grd2 rfl rfl h6 (fun h6 => ?_)
   ((conv=>whnf);repeat((first|apply TT mix|apply sE rfl|apply dG (by kernel_rfl)|fail);(conv=>whnf)))
   refine bnd h6 (fun y7 hy7 h6 => ?_)
   refine Or.inr (own_intro (own_call [0] (c_slices_siftDownOrdered_rune_own _ _ _ _ _ hy7) rfl (sK rfl (rowLe_ints (by first | rfl | (simp; done) | (rw [List.take_of_length_le (by simp <;> omega)]; first | rfl | (rw [List.take_take, Nat.min_self]; done) | (simp; done)))) storeLe.nil) (cellsLe.cons (And.intro rfl (AV.Le.of_eq (congrArg (AV.ms _) (by first | rfl | omega | (simp; omega) | (simp; done) | (simp only [List.length_set] at *; omega))))) (cellsLe.cons (And.intro rfl (AV.Le.refl _)) (cellsLe.cons (And.intro rfl (AV.Le.refl _)) (cellsLe.cons (And.intro rfl (AV.Le.refl _)) cellsLe.nil)))) rfl) ?_)
   ((conv=>whnf);repeat((first|apply TT mix|apply sE rfl|apply dG (by kernel_rfl)|fail);(conv=>whnf)))
   obtain ⟨p20, h6⟩ := grdO h6
   have e := Option.some.inj h6; subst e
   ((conv=>whnf);repeat((first|apply TT mix|apply sE rfl|apply dG (by kernel_rfl)|fail);(conv=>whnf)))
   exact hn6 _ (y7, (IntKind.wrap .i64 (s4.2 - (1 : Int)))) hs6 (weak_gen [0] rfl rfl (sK rfl (rowLe_ints (by first | rfl | (simp; done) | (rw [List.take_of_length_le (by simp <;> omega)]; first | rfl | (rw [List.take_take, Nat.min_self]; done) | (simp; done)))) storeLe.nil) (slotsLe.cons (And.intro rfl (AV.Le.of_eq (congrArg (AV.ms _) (by first | rfl | omega | (simp; omega) | (simp; done) | (simp only [List.length_set] at *; omega))))) (slotsLe.cons (cR rfl rfl) (slotsLe.cons (cR rfl rfl) (slotsLe.cons (cR rfl rfl) slotsLe.nil)))))
  ·have e := Option.some.inj h6; subst e
   have e := done_out hs6; subst e
   have e := Option.some.inj hc18; subst e
   ((conv=>whnf);repeat((first|apply TT mix|apply sE rfl|apply dG (by kernel_rfl)|fail);(conv=>whnf)))
   exact Or.inr (Or.inr (weak_gen [0] rfl rfl (sK rfl (rowLe_ints (by first | rfl | (simp; done) | (rw [List.take_of_length_le (by simp <;> omega)]; first | rfl | (rw [List.take_take, Nat.min_self]; done) | (simp; done)))) storeLe.nil) (slotsLe.cons (cR rfl rfl) slotsLe.nil)))
theorem c_slices_order2Ordered_rune_own (p_data : (List Int)) (p_a : Int) (p_b : Int) (p_swaps : Int) (r : Int × Int × Int) (h : m_slices_order2Ordered_rune_own p_data p_a p_b p_swaps = some r) : ContractM 1 pl 113 [(e_L_i32 p_data), (.int .i64 p_a), (.int .i64 p_b), (.mp 0 0 0)] [some ⟨1, 3, (.vals [(.int .i64 p_swaps)]), false, false⟩] (.tup [(.int .i64 r.2.1), (.int .i64 r.2.2)]) [some ⟨1, 3, (.vals [(.int .i64 r.1)]), false, false⟩] := by
 refine contract_own 1 .z rfl Tryd.func113 rfl (by kernel_rfl) ?_
 ((conv=>whnf);repeat((first|apply TT mix|apply sE rfl|apply dG (by kernel_rfl)|fail);(conv=>whnf)))
 refine grd2 rfl rfl h (fun h => ?_)
 ((conv=>whnf);repeat((first|apply TT mix|apply sE rfl|apply dG (by kernel_rfl)|fail);(conv=>whnf)))
 refine grd2 rfl rfl h (fun h => ?_)
 ((conv=>whnf);repeat((first|apply TT mix|apply sE rfl|apply dG (by kernel_rfl)|fail);(conv=>whnf)))
 refine bnd h (fun y1 hy1 h => ?_)
 refine Or.inl ⟨_, c_cmp_Less_rune _ _ _ hy1, rfl, ?_⟩
 ((conv=>whnf);repeat((first|apply TT mix|apply sE rfl|apply dG (by kernel_rfl)|fail);(conv=>whnf)))
 refine br_b rfl h (fun c2 h => ?_) (fun c2 h => ?_)
 ·have e := Option.some.inj h; subst e
  ((conv=>whnf);repeat((first|apply TT mix|apply sE rfl|apply dG (by kernel_rfl)|fail);(conv=>whnf)))
  exact Or.inr (Or.inr (weak_gen [0] rfl rfl (sK rfl (rowLe_vals (valsLe.cons (cellsLe.cons (cR rfl rfl) cellsLe.nil) valsLe.nil)) storeLe.nil) (slotsLe.cons (cR rfl rfl) slotsLe.nil)))
 ·have e := Option.some.inj h; subst e
  ((conv=>whnf);repeat((first|apply TT mix|apply sE rfl|apply dG (by kernel_rfl)|fail);(conv=>whnf)))
  exact Or.inr (Or.inr (weak_gen [0] rfl rfl (sK rfl (rowLe_vals (valsLe.cons (cellsLe.cons (cR rfl rfl) cellsLe.nil) valsLe.nil)) storeLe.nil) (slotsLe.cons (cR rfl rfl) slotsLe.nil)))
theorem c_slices_medianOrdered_rune_own (p_data : (List Int)) (p_a : Int) (p_b : Int) (p_c : Int) (p_swaps : Int) (r : Int × Int) (h : m_slices_medianOrdered_rune_own p_data p_a p_b p_c p_swaps = some r) : ContractM 1 pl 111 [(e_L_i32 p_data), (.int .i64 p_a), (.int .i64 p_b), (.int .i64 p_c), (.mp 0 0 0)] [some ⟨1, 3, (.vals [(.int .i64 p_swaps)]), false, false⟩] (.int .i64 r.2) [some ⟨1, 3, (.vals [(.int .i64 r.1)]), false, false⟩] := by
 refine contract_own 1 .z rfl Tryd.func111 rfl (by kernel_rfl) ?_
 ((conv=>whnf);repeat((first|apply TT mix|apply sE rfl|apply dG (by kernel_rfl)|fail);(conv=>whnf)))
 refine bnd h (fun y1 hy1 h => ?_)
 refine Or.inr (own_intro (own_call [0] (c_slices_order2Ordered_rune_own _ _ _ _ _ hy1) rfl (sK rfl (rowLe_vals (valsLe.cons (cellsLe.cons (cR rfl rfl) cellsLe.nil) valsLe.nil)) storeLe.nil) (cellsLe.cons (And.intro rfl (AV.Le.refl _)) (cellsLe.cons (And.intro rfl (AV.Le.refl _)) (cellsLe.cons (And.intro rfl (AV.Le.refl _)) (cellsLe.cons (And.intro rfl (AV.Le.refl _)) cellsLe.nil)))) rfl) ?_)
 ((conv=>whnf);repeat((first|apply TT mix|apply sE rfl|apply dG (by kernel_rfl)|fail);(conv=>whnf)))
 refine bnd h (fun y2 hy2 h => ?_)
 refine Or.inr (own_intro (own_call [0] (c_slices_order2Ordered_rune_own _ _ _ _ _ hy2) rfl (sK rfl (rowLe_vals (valsLe.cons (cellsLe.cons (cR rfl rfl) cellsLe.nil) valsLe.nil)) storeLe.nil) (cellsLe.cons (And.intro rfl (AV.Le.refl _)) (cellsLe.cons (And.intro rfl (AV.Le.refl _)) (cellsLe.cons (And.intro rfl (AV.Le.refl _)) (cellsLe.cons (And.intro rfl (AV.Le.refl _)) cellsLe.nil)))) rfl) ?_)
 ((conv=>whnf);repeat((first|apply TT mix|apply sE rfl|apply dG (by kernel_rfl)|fail);(conv=>whnf)))
 refine bnd h (fun y3 hy3 h => ?_)
 refine Or.inr (own_intro (own_call [0] (c_slices_order2Ordered_rune_own _ _ _ _ _ hy3) rfl (sK rfl (rowLe_vals (valsLe.cons (cellsLe.cons (cR rfl rfl) cellsLe.nil) valsLe.nil)) storeLe.nil) (cellsLe.cons (And.intro rfl (AV.Le.refl _)) (cellsLe.cons (And.intro rfl (AV.Le.refl _)) (cellsLe.cons (And.intro rfl (AV.Le.refl _)) (cellsLe.cons (And.intro rfl (AV.Le.refl _)) cellsLe.nil)))) rfl) ?_)
 have e := Option.some.inj h; subst e
 ((conv=>whnf);repeat((first|apply TT mix|apply sE rfl|apply dG (by kernel_rfl)|fail);(conv=>whnf)))
 exact Or.inr (Or.inr (weak_gen [0] rfl rfl (sK rfl (rowLe_vals (valsLe.cons (cellsLe.cons (cR rfl rfl) cellsLe.nil) valsLe.nil)) storeLe.nil) (slotsLe.cons (cR rfl rfl) slotsLe.nil)))
theorem c_slices_medianAdjacentOrdered_rune_own (p_data : (List Int)) (p_a : Int) (p_swaps : Int) (r : Int × Int) (h : m_slices_medianAdjacentOrdered_rune_own p_data p_a p_swaps = some r) : ContractM 1 pl 110 [(e_L_i32 p_data), (.int .i64 p_a), (.mp 0 0 0)] [some ⟨1, 3, (.vals [(.int .i64 p_swaps)]), false, false⟩] (.int .i64 r.2) [some ⟨1, 3, (.vals [(.int .i64 r.1)]), false, false⟩] := by
 refine contract_own 1 .z rfl Tryd.func110 rfl (by kernel_rfl) ?_
 ((conv=>whnf);repeat((first|apply TT mix|apply sE rfl|apply dG (by kernel_rfl)|fail);(conv=>whnf)))
 refine bnd h (fun y1 hy1 h => ?_)
 refine Or.inr (own_intro (own_call [0] (c_slices_medianOrdered_rune_own _ _ _ _ _ _ hy1) rfl (sK rfl (rowLe_vals (valsLe.cons (cellsLe.cons (cR rfl rfl) cellsLe.nil) valsLe.nil)) storeLe.nil) (cellsLe.cons (And.intro rfl (AV.Le.refl _)) (cellsLe.cons (And.intro rfl (AV.Le.refl _)) (cellsLe.cons (And.intro rfl (AV.Le.refl _)) (cellsLe.cons (And.intro rfl (AV.Le.refl _)) (cellsLe.cons (And.intro rfl (AV.Le.refl _)) cellsLe.nil))))) rfl) ?_)
 have e := Option.some.inj h; subst e
 ((conv=>whnf);repeat((first|apply TT mix|apply sE rfl|apply dG (by kernel_rfl)|fail);(conv=>whnf)))
 exact Or.inr (Or.inr (weak_gen [0] rfl rfl (sK rfl (rowLe_vals (valsLe.cons (cellsLe.cons (cR rfl rfl) cellsLe.nil) valsLe.nil)) storeLe.nil) (slotsLe.cons (cR rfl rfl) slotsLe.nil)))
theorem c_slices_choosePivotOrdered_rune (p_data : (List Int)) (p_a : Int) (p_b : Int) (r : Int × Int) (h : m_slices_choosePivotOrdered_rune p_data p_a p_b = some r) : Contract pl 93 [(e_L_i32 p_data), (AV.int .i64 p_a), (AV.int .i64 p_b)] [] (AV.tup [(AV.int .i64 r.1), (AV.int .i64 r.2)]) [] := by
 refine contract_of (.t false .z (.t false .z (.t false .z (.t false .z (.t false .z (.t false .z (.t true .z .z))))))) Tryd.func93 rfl (by kernel_rfl) ?_
 ((conv=>whnf);repeat((first|apply TT mix|apply sE rfl|apply dG (by kernel_rfl)|fail);(conv=>whnf)))
 refine And.intro (by decide) ?_
 ((conv=>whnf);repeat((first|apply TT mix|apply sE rfl|apply dG (by kernel_rfl)|fail);(conv=>whnf)))
 refine And.intro (by decide) ?_
 ((conv=>whnf);repeat((first|apply TT mix|apply sE rfl|apply dG (by kernel_rfl)|fail);(conv=>whnf)))
 refine And.intro (by decide) ?_
 ((conv=>whnf);repeat((first|apply TT mix|apply sE rfl|apply dG (by kernel_rfl)|fail);(conv=>whnf)))
 refine bnd h (fun x8 h8 h => ?_)
 refine cut_at (fun s1 : Int × Int => mkF 57 [(9, (.mp 0 0 0)), (11, (.int .i64 s1.2))] [some ⟨1, 3, (.vals [(.int .i64 s1.1)]), false, false⟩]) (fun s1 : Int × Int => m_slices_choosePivotOrdered_rune_K2 s1 = some r) ?_ ?_
 ·intro Kn8 hn8
  ((conv=>whnf);repeat((first|apply TT mix|apply sE rfl|apply dG (by kernel_rfl)|fail);(conv=>whnf)))
  refine br_b rfl h8 (fun c9 h8 => ?_) (fun c9 h8 => ?_)
  ·((conv=>whnf);repeat((first|apply TT mix|apply sE rfl|apply dG (by kernel_rfl)|fail);(conv=>whnf)))
   refine br_b rfl h8 (fun c10 h8 => ?_) (fun c10 h8 => ?_)
   ·((conv=>whnf);repeat((first|apply TT mix|apply sE rfl|apply dG (by kernel_rfl)|fail);(conv=>whnf)))
    refine bnd h8 (fun y3 hy3 h8 => ?_)
    refine Or.inr (own_intro (own_call [0] (c_slices_medianAdjacentOrdered_rune_own _ _ _ _ hy3) rfl (sK rfl (rowLe_vals (valsLe.cons (cellsLe.cons (cR rfl rfl) cellsLe.nil) valsLe.nil)) storeLe.nil) (cellsLe.cons (And.intro rfl (AV.Le.refl _)) (cellsLe.cons (And.intro rfl (AV.Le.refl _)) (cellsLe.cons (And.intro rfl (AV.Le.refl _)) cellsLe.nil))) rfl) ?_)
    ((conv=>whnf);repeat((first|apply TT mix|apply sE rfl|apply dG (by kernel_rfl)|fail);(conv=>whnf)))
    refine bnd h8 (fun y4 hy4 h8 => ?_)
    refine Or.inr (own_intro (own_call [0] (c_slices_medianAdjacentOrdered_rune_own _ _ _ _ hy4) rfl (sK rfl (rowLe_vals (valsLe.cons (cellsLe.cons (cR rfl rfl) cellsLe.nil) valsLe.nil)) storeLe.nil) (cellsLe.cons (And.intro rfl (AV.Le.refl _)) (cellsLe.cons (And.intro rfl (AV.Le.refl _)) (cellsLe.cons (And.intro rfl (AV.Le.refl _)) cellsLe.nil))) rfl) ?_)
    ((conv=>whnf);repeat((first|apply TT mix|apply sE rfl|apply dG (by kernel_rfl)|fail);(conv=>whnf)))
    refine bnd h8 (fun y5 hy5 h8 => ?_)
    refine Or.inr (own_intro (own_call [0] (c_slices_medianAdjacentOrdered_rune_own _ _ _ _ hy5) rfl (sK rfl (rowLe_vals (valsLe.cons (cellsLe.cons (cR rfl rfl) cellsLe.nil) valsLe.nil)) storeLe.nil) (cellsLe.cons (And.intro rfl (AV.Le.refl _)) (cellsLe.cons (And.intro rfl (AV.Le.refl _)) (cellsLe.cons (And.intro rfl (AV.Le.refl _)) cellsLe.nil))) rfl) ?_)
    ((conv=>whnf);repeat((first|apply TT mix|apply sE rfl|apply dG (by kernel_rfl)|fail);(conv=>whnf)))
    refine bnd h8 (fun y6 hy6 h8 => ?_)
    refine Or.inr (own_intro (own_call [0] (c_slices_medianOrdered_rune_own _ _ _ _ _ _ hy6) rfl (sK rfl (rowLe_vals (valsLe.cons (cellsLe.cons (cR rfl rfl) cellsLe.nil) valsLe.nil)) storeLe.nil) (cellsLe.cons (And.intro rfl (AV.Le.refl _)) (cellsLe.cons (And.intro rfl (AV.Le.refl _)) (cellsLe.cons (And.intro rfl (AV.Le.refl _)) (cellsLe.cons (And.intro rfl (AV.Le.refl _)) (cellsLe.cons (And.intro rfl (AV.Le.refl _)) cellsLe.nil))))) rfl) ?_)
    have e := Option.some.inj h8; subst e
    ((conv=>whnf);repeat((first|apply TT mix|apply sE rfl|apply dG (by kernel_rfl)|fail);(conv=>whnf)))
    exact hn8 _ (y6.1, y6.2) h (weak_gen [0] rfl rfl (sK rfl (rowLe_vals (valsLe.cons (cellsLe.cons (cR rfl rfl) cellsLe.nil) valsLe.nil)) storeLe.nil) (sQ rfl rfl))
   ·((conv=>whnf);repeat((first|apply TT mix|apply sE rfl|apply dG (by kernel_rfl)|fail);(conv=>whnf)))
    refine bnd h8 (fun y7 hy7 h8 => ?_)
    refine Or.inr (own_intro (own_call [0] (c_slices_medianOrdered_rune_own _ _ _ _ _ _ hy7) rfl (sK rfl (rowLe_vals (valsLe.cons (cellsLe.cons (cR rfl rfl) cellsLe.nil) valsLe.nil)) storeLe.nil) (cellsLe.cons (And.intro rfl (AV.Le.refl _)) (cellsLe.cons (And.intro rfl (AV.Le.refl _)) (cellsLe.cons (And.intro rfl (AV.Le.refl _)) (cellsLe.cons (And.intro rfl (AV.Le.refl _)) (cellsLe.cons (And.intro rfl (AV.Le.refl _)) cellsLe.nil))))) rfl) ?_)
    have e := Option.some.inj h8; subst e
    ((conv=>whnf);repeat((first|apply TT mix|apply sE rfl|apply dG (by kernel_rfl)|fail);(conv=>whnf)))
    exact hn8 _ (y7.1, y7.2) h (weak_gen [0] rfl rfl (sK rfl (rowLe_vals (valsLe.cons (cellsLe.cons (cR rfl rfl) cellsLe.nil) valsLe.nil)) storeLe.nil) (sQ rfl rfl))
  ·have e := Option.some.inj h8; subst e
   ((conv=>whnf);repeat((first|apply TT mix|apply sE rfl|apply dG (by kernel_rfl)|fail);(conv=>whnf)))
   exact hn8 _ ((0 : Int), (IntKind.wrap .i64 (p_a + (IntKind.wrap .i64 ((IntKind.wrap .i64 (Int.tdiv (IntKind.wrap .i64 (p_b - p_a)) (4 : Int))) * (2 : Int)))))) h (weak_gen [0] rfl rfl (sK rfl (rowLe_vals (valsLe.cons (cellsLe.cons (cR rfl rfl) cellsLe.nil) valsLe.nil)) storeLe.nil) (sQ rfl rfl))
 ·clear h h8
  intro s1 hc11
  ((conv=>whnf);repeat((first|apply TT mix|apply sE rfl|apply dG (by kernel_rfl)|fail);(conv=>whnf)))
  refine br_b rfl hc11 (fun c12 hc11 => ?_) (fun c12 hc11 => ?_)
  ·have e := Option.some.inj hc11; subst e
   ((conv=>whnf);repeat((first|apply TT mix|apply sE rfl|apply dG (by kernel_rfl)|fail);(conv=>whnf)))
   exact And.intro (AV.Le.refl _) rfl
  ·((conv=>whnf);repeat((first|apply TT mix|apply sE rfl|apply dG (by kernel_rfl)|fail);(conv=>whnf)))
   refine br_b rfl hc11 (fun c13 hc11 => ?_) (fun c13 hc11 => ?_)
   ·have e := Option.some.inj hc11; subst e
    ((conv=>whnf);repeat((first|apply TT mix|apply sE rfl|apply dG (by kernel_rfl)|fail);(conv=>whnf)))
    exact And.intro (AV.Le.refl _) rfl
   ·have e := Option.some.inj hc11; subst e
    ((conv=>whnf);repeat((first|apply TT mix|apply sE rfl|apply dG (by kernel_rfl)|fail);(conv=>whnf)))
    exact And.intro (AV.Le.refl _) rfl
theorem c_slices_reverseRangeOrdered_rune_own (p_data : (List Int)) (p_a : Int) (p_b : Int) (r : (List Int)) (h : m_slices_reverseRangeOrdered_rune_own p_data p_a p_b = some r) : ContractM 1 pl 94 [(.ms 0 p_data.length), (.int .i64 p_a), (.int .i64 p_b)] [some ⟨1, 21, (.ints .i32 p_data), false, true⟩] (.tup []) [some ⟨1, 21, (.ints .i32 r), false, true⟩] := by
 refine contract_own 1 .z rfl Tryd.func94 rfl (by kernel_rfl) ?_
 ((conv=>whnf);repeat((first|apply TT mix|apply sE rfl|apply dG (by kernel_rfl)|fail);(conv=>whnf)))
 refine bnd h (fun x4 hx4 h => ?_)
 refine loop_iter (fun s2 : (List Int) × Int × Int => mkF 32 [(0, (.ms 0 s2.1.length)), (6, (.int .i64 s2.2.1)), (7, (.int .i64 s2.2.2))] [some ⟨1, 21, (.ints .i32 s2.1), false, true⟩]) hx4 (weak_gen [0] rfl rfl (sK rfl (rowLe_ints (by first | rfl | (simp; done) | (rw [List.take_of_length_le (by simp <;> omega)]; first | rfl | (rw [List.take_take, Nat.min_self]; done) | (simp; done)))) storeLe.nil) (slotsLe.cons (And.intro rfl (AV.Le.of_eq (congrArg (AV.ms _) (by first | rfl | omega | (simp; omega) | (simp; done) | (simp only [List.length_set] at *; omega))))) (slotsLe.cons (cR rfl rfl) (slotsLe.cons (cR rfl rfl) slotsLe.nil)))) ?_
 intro k4 s2 st4 Kn4 hn4 h4 hs4
 ((conv=>whnf);repeat((first|apply TT mix|apply sE rfl|apply dG (by kernel_rfl)|fail);(conv=>whnf)))
 refine br_b rfl h4 (fun c6 h4 => ?_) (fun c6 h4 => ?_)
 ·((conv=>whnf);repeat((first|apply TT mix|apply sE rfl|apply dG (by kernel_rfl)|fail);(conv=>whnf)))
  refine grd2 rfl rfl h4 (fun h4 => ?_)
  ((conv=>whnf);repeat((first|apply TT mix|apply sE rfl|apply dG (by kernel_rfl)|fail);(conv=>whnf)))
  refine grd2 rfl rfl h4 (fun h4 => ?_)
  ((conv=>whnf);repeat((first|apply TT mix|apply sE rfl|apply dG (by kernel_rfl)|fail);(conv=>whnf)))
  refine grd2 rfl rfl h4 (fun h4 => ?_)
  ((conv=>whnf);repeat((first|apply TT mix|apply sE rfl|apply dG (by kernel_rfl)|fail);(conv=>whnf)))
  refine grd2 rfl rfl h4 (fun h4 => ?_)
  have e := Option.some.inj h4; subst e
  ((conv=>whnf);repeat((first|apply TT mix|apply sE rfl|apply dG (by kernel_rfl)|fail);(conv=>whnf)))
  exact hn4 _ (((s2.1.set (s2.2.1.toNat) (s2.1.getD (s2.2.2.toNat) 0)).set (s2.2.2.toNat) (s2.1.getD (s2.2.1.toNat) 0)), (IntKind.wrap .i64 (s2.2.1 + (1 : Int))), (IntKind.wrap .i64 (s2.2.2 - (1 : Int)))) hs4 (weak_gen [0] rfl rfl (sK rfl (rowLe_ints (by first | rfl | (simp; done) | (rw [List.take_of_length_le (by simp <;> omega)]; first | rfl | (rw [List.take_take, Nat.min_self]; done) | (simp; done)))) storeLe.nil) (slotsLe.cons (And.intro rfl (AV.Le.of_eq (congrArg (AV.ms _) (by first | rfl | omega | (simp; omega) | (simp; done) | (simp only [List.length_set] at *; omega))))) (slotsLe.cons (cR rfl rfl) (slotsLe.cons (cR rfl rfl) slotsLe.nil))))
 ·have e := Option.some.inj h4; subst e
  have e := done_out hs4; subst e
  have e := Option.some.inj h; subst e
  ((conv=>whnf);repeat((first|apply TT mix|apply sE rfl|apply dG (by kernel_rfl)|fail);(conv=>whnf)))
  exact Or.inr (Or.inr (weak_gen [0] rfl rfl (sK rfl (rowLe_ints (by first | rfl | (simp; done) | (rw [List.take_of_length_le (by simp <;> omega)]; first | rfl | (rw [List.take_take, Nat.min_self]; done) | (simp; done)))) storeLe.nil) (slotsLe.cons (cR rfl rfl) slotsLe.nil)))
theorem c_slices_partialInsertionSortOrdered_rune_own (p_data : (List Int)) (p_a : Int) (p_b : Int) (r : (List Int) × Bool) (h : m_slices_partialInsertionSortOrdered_rune_own p_data p_a p_b = some r) : ContractM 1 pl 95 [(.ms 0 p_data.length), (.int .i64 p_a), (.int .i64 p_b)] [some ⟨1, 21, (.ints .i32 p_data), false, true⟩] (.bool r.2) [some ⟨1, 21, (.ints .i32 r.1), false, true⟩] := by
 refine contract_own 1 (.t false .z (.t false .z (.t true (.t false .z (.t false (.t false (.t false .z (.t true (.t false (.t true (.t false (.t false (.t false (.t true .z .z) .z) .z) .z) (.t false .z (.t false .z (.t false .z (.t true .z .z))))) .z) .z)) .z) .z)) .z))) rfl Tryd.func95 rfl (by kernel_rfl) ?_
 ((conv=>whnf);repeat((first|apply TT mix|apply sE rfl|apply dG (by kernel_rfl)|fail);(conv=>whnf)))
 refine bnd h (fun x37 h37 h => ?_)
 refine cut_at (fun s1 : (List Int) => mkF 133 [] [some ⟨1, 21, (.ints .i32 s1), false, true⟩]) (fun s1 : (List Int) => some (s1, false) = some r) ?_ ?_
 ·intro Kn37 hn37
  ((conv=>whnf);repeat((first|apply TT mix|apply sE rfl|apply dG (by kernel_rfl)|fail);(conv=>whnf)))
  refine loop_iter (fun s4 : (List Int) × Int × Int => mkF 133 [(0, (.ms 0 s4.1.length)), (1, (.int .i64 p_a)), (2, (.int .i64 p_b)), (7, (.int .i64 s4.2.1)), (8, (.int .i64 s4.2.2))] [some ⟨1, 21, (.ints .i32 s4.1), false, true⟩]) h37 (weak_gen [0] rfl rfl (sK rfl (rowLe_ints (by first | rfl | (simp; done) | (rw [List.take_of_length_le (by simp <;> omega)]; first | rfl | (rw [List.take_take, Nat.min_self]; done) | (simp; done)))) storeLe.nil) (slotsLe.cons (And.intro rfl (AV.Le.of_eq (congrArg (AV.ms _) (by first | rfl | omega | (simp; omega) | (simp; done) | (simp only [List.length_set] at *; omega))))) (slotsLe.cons (cR rfl rfl) (slotsLe.cons (cR rfl rfl) (slotsLe.cons (cR rfl rfl) (slotsLe.cons (cR rfl rfl) slotsLe.nil)))))) ?_
  intro k6 s4 st6 Kn6 hn6 h6_ hs6
  ((conv=>whnf);repeat((first|apply TT mix|apply sE rfl|apply dG (by kernel_rfl)|fail);(conv=>whnf)))
  refine br_b rfl h6_ (fun c38 h6_ => ?_) (fun c38 h6_ => ?_)
  ·((conv=>whnf);repeat((first|apply TT mix|apply sE rfl|apply dG (by kernel_rfl)|fail);(conv=>whnf)))
   refine bnd h6_ (fun x39 h39 h6_ => ?_)
   refine cut_at (fun s7 : (List Int) × Int => mkF 133 [(0, (.ms 0 s7.1.length)), (1, (.int .i64 p_a)), (2, (.int .i64 p_b)), (7, (.int .i64 s7.2)), (8, (.int .i64 s4.2.2))] [some ⟨1, 21, (.ints .i32 s7.1), false, true⟩]) (fun s7 : (List Int) × Int => some (.next (s7.1, s7.2, (IntKind.wrap .i64 (s4.2.2 + (1 : Int))))) = some st6) ?_ ?_
   ·intro Kn39 hn39
    ((conv=>whnf);repeat((first|apply TT mix|apply sE rfl|apply dG (by kernel_rfl)|fail);(conv=>whnf)))
    refine bnd h39 (fun x40 h40 h39 => ?_)
    refine cut_at (fun s9 : Int => mkF 133 [(0, (.ms 0 s4.1.length)), (1, (.int .i64 p_a)), (2, (.int .i64 p_b)), (7, (.int .i64 s9)), (8, (.int .i64 s4.2.2))] [some ⟨1, 21, (.ints .i32 s4.1), false, true⟩]) (fun s9 : Int => m_slices_partialInsertionSortOrdered_rune_own_K10 p_a p_b s4 s9 = some x39) ?_ ?_
    ·intro Kn40 hn40
     ((conv=>whnf);repeat((first|apply TT mix|apply sE rfl|apply dG (by kernel_rfl)|fail);(conv=>whnf)))
     refine loop_iter (fun s26 : Int => mkF 133 [(0, (.ms 0 s4.1.length)), (1, (.int .i64 p_a)), (2, (.int .i64 p_b)), (7, (.int .i64 s26)), (8, (.int .i64 s4.2.2))] [some ⟨1, 21, (.ints .i32 s4.1), false, true⟩]) h40 (weak_gen [0] rfl rfl (sK rfl (by first | exact rowLe_same fun _ _ _ => rfl | (simp; exact rowLe_same fun _ _ _ => rfl)) storeLe.nil) (slotsLe.cons (And.intro rfl (AV.Le.of_eq (congrArg (AV.ms _) (by first | rfl | omega | (simp; omega) | (simp; done) | (simp only [List.length_set] at *; omega))))) (slotsLe.cons (cR rfl rfl) (slotsLe.cons (cR rfl rfl) (slotsLe.cons (cR rfl rfl) (slotsLe.cons (cR rfl rfl) slotsLe.nil)))))) ?_
     intro k28 s26 st28 Kn28 hn28 h28_ hs28
     ((conv=>whnf);repeat((first|apply TT mix|apply sE rfl|apply dG (by kernel_rfl)|fail);(conv=>whnf)))
     refine bnd h28_ (fun x41 h41 h28_ => ?_)
     refine cut_at (fun s29 : Bool => mkF 133 [(0, (.ms 0 s4.1.length)), (1, (.int .i64 p_a)), (2, (.int .i64 p_b)), (7, (.int .i64 s26)), (8, (.int .i64 s4.2.2)), (32, (.bool s29))] [some ⟨1, 21, (.ints .i32 s4.1), false, true⟩]) (fun s29 : Bool => m_slices_partialInsertionSortOrdered_rune_own_K30 s26 s29 = some st28) ?_ ?_
     ·intro Kn41 hn41
      ((conv=>whnf);repeat((first|apply TT mix|apply sE rfl|apply dG (by kernel_rfl)|fail);(conv=>whnf)))
      refine br_b rfl h41 (fun c42 h41 => ?_) (fun c42 h41 => ?_)
      ·((conv=>whnf);repeat((first|apply TT mix|apply sE rfl|apply dG (by kernel_rfl)|fail);(conv=>whnf)))
       refine grd2 rfl rfl h41 (fun h41 => ?_)
       ((conv=>whnf);repeat((first|apply TT mix|apply sE rfl|apply dG (by kernel_rfl)|fail);(conv=>whnf)))
       refine grd2 rfl rfl h41 (fun h41 => ?_)
       ((conv=>whnf);repeat((first|apply TT mix|apply sE rfl|apply dG (by kernel_rfl)|fail);(conv=>whnf)))
       refine bnd h41 (fun y31 hy31 h41 => ?_)
       refine Or.inl ⟨_, c_cmp_Less_rune _ _ _ hy31, rfl, ?_⟩
       have e := Option.some.inj h41; subst e
       ((conv=>whnf);repeat((first|apply TT mix|apply sE rfl|apply dG (by kernel_rfl)|fail);(conv=>whnf)))
       exact hn41 _ (!y31) h28_ (weak_gen [0] rfl rfl (sK rfl (by first | exact rowLe_same fun _ _ _ => rfl | (simp; exact rowLe_same fun _ _ _ => rfl)) storeLe.nil) (slotsLe.cons (And.intro rfl (AV.Le.of_eq (congrArg (AV.ms _) (by first | rfl | omega | (simp; omega) | (simp; done) | (simp only [List.length_set] at *; omega))))) (slotsLe.cons (cR rfl rfl) (slotsLe.cons (cR rfl rfl) (slotsLe.cons (cR rfl rfl) (slotsLe.cons (cR rfl rfl) (slotsLe.cons (cR rfl rfl) slotsLe.nil)))))))
      ·have e := Option.some.inj h41; subst e
       ((conv=>whnf);repeat((first|apply TT mix|apply sE rfl|apply dG (by kernel_rfl)|fail);(conv=>whnf)))
       exact hn41 _ false h28_ (weak_gen [0] rfl rfl (sK rfl (by first | exact rowLe_same fun _ _ _ => rfl | (simp; exact rowLe_same fun _ _ _ => rfl)) storeLe.nil) (slotsLe.cons (And.intro rfl (AV.Le.of_eq (congrArg (AV.ms _) (by first | rfl | omega | (simp; omega) | (simp; done) | (simp only [List.length_set] at *; omega))))) (slotsLe.cons (cR rfl rfl) (slotsLe.cons (cR rfl rfl) (slotsLe.cons (cR rfl rfl) (slotsLe.cons (cR rfl rfl) (slotsLe.cons (cR rfl rfl) slotsLe.nil)))))))
     ·clear h28_ h41
      intro s29 hc43
      ((conv=>whnf);repeat((first|apply TT mix|apply sE rfl|apply dG (by kernel_rfl)|fail);(conv=>whnf)))
      refine br_b rfl hc43 (fun c44 hc43 => ?_) (fun c44 hc43 => ?_)
      ·have e := Option.some.inj hc43; subst e
       ((conv=>whnf);repeat((first|apply TT mix|apply sE rfl|apply dG (by kernel_rfl)|fail);(conv=>whnf)))
       exact hn28 _ (IntKind.wrap .i64 (s26 + (1 : Int))) hs28 (weak_gen [0] rfl rfl (sK rfl (by first | exact rowLe_same fun _ _ _ => rfl | (simp; exact rowLe_same fun _ _ _ => rfl)) storeLe.nil) (slotsLe.cons (And.intro rfl (AV.Le.of_eq (congrArg (AV.ms _) (by first | rfl | omega | (simp; omega) | (simp; done) | (simp only [List.length_set] at *; omega))))) (slotsLe.cons (cR rfl rfl) (slotsLe.cons (cR rfl rfl) (slotsLe.cons (cR rfl rfl) (slotsLe.cons (cR rfl rfl) slotsLe.nil))))))
      ·have e := Option.some.inj hc43; subst e
       have e := done_out hs28; subst e
       ((conv=>whnf);repeat((first|apply TT mix|apply sE rfl|apply dG (by kernel_rfl)|fail);(conv=>whnf)))
       exact hn40 _ s26 h39 (weak_gen [0] rfl rfl (sK rfl (by first | exact rowLe_same fun _ _ _ => rfl | (simp; exact rowLe_same fun _ _ _ => rfl)) storeLe.nil) (slotsLe.cons (And.intro rfl (AV.Le.of_eq (congrArg (AV.ms _) (by first | rfl | omega | (simp; omega) | (simp; done) | (simp only [List.length_set] at *; omega))))) (slotsLe.cons (cR rfl rfl) (slotsLe.cons (cR rfl rfl) (slotsLe.cons (cR rfl rfl) (slotsLe.cons (cR rfl rfl) slotsLe.nil))))))
    ·clear h39 h40
     intro s9 hc45
     ((conv=>whnf);repeat((first|apply TT mix|apply sE rfl|apply dG (by kernel_rfl)|fail);(conv=>whnf)))
     refine br_b rfl hc45 (fun c46 hc45 => ?_) (fun c46 hc45 => ?_)
     ·have e := Option.some.inj hc45; subst e
      have e := Option.some.inj h6_; subst e
      have e := done_out hs6; subst e
      have e := Option.some.inj h; subst e
      ((conv=>whnf);repeat((first|apply TT mix|apply sE rfl|apply dG (by kernel_rfl)|fail);(conv=>whnf)))
      exact Or.inr (Or.inr (weak_gen [0] rfl rfl (sK rfl (rowLe_ints (by first | rfl | (simp; done) | (rw [List.take_of_length_le (by simp <;> omega)]; first | rfl | (rw [List.take_take, Nat.min_self]; done) | (simp; done)))) storeLe.nil) (slotsLe.cons (cR rfl rfl) slotsLe.nil)))
     ·((conv=>whnf);repeat((first|apply TT mix|apply sE rfl|apply dG (by kernel_rfl)|fail);(conv=>whnf)))
      refine br_b rfl hc45 (fun c47 hc45 => ?_) (fun c47 hc45 => ?_)
      ·have e := Option.some.inj hc45; subst e
       have e := Option.some.inj h6_; subst e
       have e := done_out hs6; subst e
       have e := Option.some.inj h; subst e
       ((conv=>whnf);repeat((first|apply TT mix|apply sE rfl|apply dG (by kernel_rfl)|fail);(conv=>whnf)))
       exact Or.inr (Or.inr (weak_gen [0] rfl rfl (sK rfl (rowLe_ints (by first | rfl | (simp; done) | (rw [List.take_of_length_le (by simp <;> omega)]; first | rfl | (rw [List.take_take, Nat.min_self]; done) | (simp; done)))) storeLe.nil) (slotsLe.cons (cR rfl rfl) slotsLe.nil)))
      ·((conv=>whnf);repeat((first|apply TT mix|apply sE rfl|apply dG (by kernel_rfl)|fail);(conv=>whnf)))
       refine grd2 rfl rfl hc45 (fun hc45 => ?_)
       ((conv=>whnf);repeat((first|apply TT mix|apply sE rfl|apply dG (by kernel_rfl)|fail);(conv=>whnf)))
       refine grd2 rfl rfl hc45 (fun hc45 => ?_)
       ((conv=>whnf);repeat((first|apply TT mix|apply sE rfl|apply dG (by kernel_rfl)|fail);(conv=>whnf)))
       refine grd2 rfl rfl hc45 (fun hc45 => ?_)
       ((conv=>whnf);repeat((first|apply TT mix|apply sE rfl|apply dG (by kernel_rfl)|fail);(conv=>whnf)))
       refine grd2 rfl rfl hc45 (fun hc45 => ?_)
       ((conv=>whnf);repeat((first|apply TT mix|apply sE rfl|apply dG (by kernel_rfl)|fail);(conv=>whnf)))
       refine bnd hc45 (fun x48 h48 hc45 => ?_)
       refine cut_at (fun s11 : (List Int) => mkF 133 [(0, (.ms 0 s11.length)), (1, (.int .i64 p_a)), (2, (.int .i64 p_b)), (7, (.int .i64 s9)), (8, (.int .i64 s4.2.2))] [some ⟨1, 21, (.ints .i32 s11), false, true⟩]) (fun s11 : (List Int) => m_slices_partialInsertionSortOrdered_rune_own_K12 p_b s9 s11 = some x39) ?_ ?_
       ·intro Kn48 hn48
        ((conv=>whnf);repeat((first|apply TT mix|apply sE rfl|apply dG (by kernel_rfl)|fail);(conv=>whnf)))
        refine br_b rfl h48 (fun c49 h48 => ?_) (fun c49 h48 => ?_)
        ·((conv=>whnf);repeat((first|apply TT mix|apply sE rfl|apply dG (by kernel_rfl)|fail);(conv=>whnf)))
         refine bnd h48 (fun x22 hx22 h48 => ?_)
         refine loop_iter (fun s20 : (List Int) × Int => mkF 133 [(0, (.ms 0 s20.1.length)), (1, (.int .i64 p_a)), (2, (.int .i64 p_b)), (7, (.int .i64 s9)), (8, (.int .i64 s4.2.2)), (9, (.int .i64 s20.2))] [some ⟨1, 21, (.ints .i32 s20.1), false, true⟩]) hx22 (weak_gen [0] rfl rfl (sK rfl (rowLe_ints (by first | rfl | (simp; done) | (rw [List.take_of_length_le (by simp <;> omega)]; first | rfl | (rw [List.take_take, Nat.min_self]; done) | (simp; done)))) storeLe.nil) (slotsLe.cons (And.intro rfl (AV.Le.of_eq (congrArg (AV.ms _) (by first | rfl | omega | (simp; omega) | (simp; done) | (simp only [List.length_set] at *; omega))))) (slotsLe.cons (cR rfl rfl) (slotsLe.cons (cR rfl rfl) (slotsLe.cons (cR rfl rfl) (slotsLe.cons (cR rfl rfl) (slotsLe.cons (cR rfl rfl) slotsLe.nil))))))) ?_
         intro k22 s20 st22 Kn22 hn22 h22 hs22
         ((conv=>whnf);repeat((first|apply TT mix|apply sE rfl|apply dG (by kernel_rfl)|fail);(conv=>whnf)))
         refine br_b rfl h22 (fun c50 h22 => ?_) (fun c50 h22 => ?_)
         ·((conv=>whnf);repeat((first|apply TT mix|apply sE rfl|apply dG (by kernel_rfl)|fail);(conv=>whnf)))
          refine grd2 rfl rfl h22 (fun h22 => ?_)
          ((conv=>whnf);repeat((first|apply TT mix|apply sE rfl|apply dG (by kernel_rfl)|fail);(conv=>whnf)))
          refine grd2 rfl rfl h22 (fun h22 => ?_)
          ((conv=>whnf);repeat((first|apply TT mix|apply sE rfl|apply dG (by kernel_rfl)|fail);(conv=>whnf)))
          refine bnd h22 (fun y23 hy23 h22 => ?_)
          refine Or.inl ⟨_, c_cmp_Less_rune _ _ _ hy23, rfl, ?_⟩
          ((conv=>whnf);repeat((first|apply TT mix|apply sE rfl|apply dG (by kernel_rfl)|fail);(conv=>whnf)))
          refine br_b rfl h22 (fun c51 h22 => ?_) (fun c51 h22 => ?_)
          ·have e := Option.some.inj h22; subst e
           have e := done_out hs22; subst e
           have e := Option.some.inj h48; subst e
           ((conv=>whnf);repeat((first|apply TT mix|apply sE rfl|apply dG (by kernel_rfl)|fail);(conv=>whnf)))
           exact hn48 _ s20.1 hc45 (weak_gen [0] rfl rfl (sK rfl (rowLe_ints (by first | rfl | (simp; done) | (rw [List.take_of_length_le (by simp <;> omega)]; first | rfl | (rw [List.take_take, Nat.min_self]; done) | (simp; done)))) storeLe.nil) (slotsLe.cons (And.intro rfl (AV.Le.of_eq (congrArg (AV.ms _) (by first | rfl | omega | (simp; omega) | (simp; done) | (simp only [List.length_set] at *; omega))))) (slotsLe.cons (cR rfl rfl) (slotsLe.cons (cR rfl rfl) (slotsLe.cons (cR rfl rfl) (slotsLe.cons (cR rfl rfl) slotsLe.nil))))))
          ·((conv=>whnf);repeat((first|apply TT mix|apply sE rfl|apply dG (by kernel_rfl)|fail);(conv=>whnf)))
           refine grd2 rfl rfl h22 (fun h22 => ?_)
           ((conv=>whnf);repeat((first|apply TT mix|apply sE rfl|apply dG (by kernel_rfl)|fail);(conv=>whnf)))
           refine grd2 rfl rfl h22 (fun h22 => ?_)
           ((conv=>whnf);repeat((first|apply TT mix|apply sE rfl|apply dG (by kernel_rfl)|fail);(conv=>whnf)))
           refine grd2 rfl rfl h22 (fun h22 => ?_)
           ((conv=>whnf);repeat((first|apply TT mix|apply sE rfl|apply dG (by kernel_rfl)|fail);(conv=>whnf)))
           refine grd2 rfl rfl h22 (fun h22 => ?_)
           have e := Option.some.inj h22; subst e
           ((conv=>whnf);repeat((first|apply TT mix|apply sE rfl|apply dG (by kernel_rfl)|fail);(conv=>whnf)))
           exact hn22 _ (((s20.1.set (s20.2.toNat) (s20.1.getD ((IntKind.wrap .i64 (s20.2 - (1 : Int))).toNat) 0)).set ((IntKind.wrap .i64 (s20.2 - (1 : Int))).toNat) (s20.1.getD (s20.2.toNat) 0)), (IntKind.wrap .i64 (s20.2 - (1 : Int)))) hs22 (weak_gen [0] rfl rfl (sK rfl (rowLe_ints (by first | rfl | (simp; done) | (rw [List.take_of_length_le (by simp <;> omega)]; first | rfl | (rw [List.take_take, Nat.min_self]; done) | (simp; done)))) storeLe.nil) (slotsLe.cons (And.intro rfl (AV.Le.of_eq (congrArg (AV.ms _) (by first | rfl | omega | (simp; omega) | (simp; done) | (simp only [List.length_set] at *; omega))))) (slotsLe.cons (cR rfl rfl) (slotsLe.cons (cR rfl rfl) (slotsLe.cons (cR rfl rfl) (slotsLe.cons (cR rfl rfl) (slotsLe.cons (cR rfl rfl) slotsLe.nil)))))))
         ·have e := Option.some.inj h22; subst e
          have e := done_out hs22; subst e
          have e := Option.some.inj h48; subst e
          ((conv=>whnf);repeat((first|apply TT mix|apply sE rfl|apply dG (by kernel_rfl)|fail);(conv=>whnf)))
          exact hn48 _ s20.1 hc45 (weak_gen [0] rfl rfl (sK rfl (rowLe_ints (by first | rfl | (simp; done) | (rw [List.take_of_length_le (by simp <;> omega)]; first | rfl | (rw [List.take_take, Nat.min_self]; done) | (simp; done)))) storeLe.nil) (slotsLe.cons (And.intro rfl (AV.Le.of_eq (congrArg (AV.ms _) (by first | rfl | omega | (simp; omega) | (simp; done) | (simp only [List.length_set] at *; omega))))) (slotsLe.cons (cR rfl rfl) (slotsLe.cons (cR rfl rfl) (slotsLe.cons (cR rfl rfl) (slotsLe.cons (cR rfl rfl) slotsLe.nil))))))
        ·have e := Option.some.inj h48; subst e
         ((conv=>whnf);repeat((first|apply TT mix|apply sE rfl|apply dG (by kernel_rfl)|fail);(conv=>whnf)))
         exact hn48 _ ((s4.1.set (s9.toNat) (s4.1.getD ((IntKind.wrap .i64 (s9 - (1 : Int))).toNat) 0)).set ((IntKind.wrap .i64 (s9 - (1 : Int))).toNat) (s4.1.getD (s9.toNat) 0)) hc45 (weak_gen [0] rfl rfl (sK rfl (rowLe_ints (by first | rfl | (simp; done) | (rw [List.take_of_length_le (by simp <;> omega)]; first | rfl | (rw [List.take_take, Nat.min_self]; done) | (simp; done)))) storeLe.nil) (slotsLe.cons (And.intro rfl (AV.Le.of_eq (congrArg (AV.ms _) (by first | rfl | omega | (simp; omega) | (simp; done) | (simp only [List.length_set] at *; omega))))) (slotsLe.cons (cR rfl rfl) (slotsLe.cons (cR rfl rfl) (slotsLe.cons (cR rfl rfl) (slotsLe.cons (cR rfl rfl) slotsLe.nil))))))
       ·clear hc45 h48
        intro s11 hc52
        ((conv=>whnf);repeat((first|apply TT mix|apply sE rfl|apply dG (by kernel_rfl)|fail);(conv=>whnf)))
        refine br_b rfl hc52 (fun c53 hc52 => ?_) (fun c53 hc52 => ?_)
        ·((conv=>whnf);repeat((first|apply TT mix|apply sE rfl|apply dG (by kernel_rfl)|fail);(conv=>whnf)))
         refine bnd hc52 (fun x16 hx16 hc52 => ?_)
         refine loop_iter (fun s14 : (List Int) × Int => mkF 133 [(0, (.ms 0 s14.1.length)), (1, (.int .i64 p_a)), (2, (.int .i64 p_b)), (7, (.int .i64 s9)), (8, (.int .i64 s4.2.2)), (10, (.int .i64 s14.2))] [some ⟨1, 21, (.ints .i32 s14.1), false, true⟩]) hx16 (weak_gen [0] rfl rfl (sK rfl (rowLe_ints (by first | rfl | (simp; done) | (rw [List.take_of_length_le (by simp <;> omega)]; first | rfl | (rw [List.take_take, Nat.min_self]; done) | (simp; done)))) storeLe.nil) (slotsLe.cons (And.intro rfl (AV.Le.of_eq (congrArg (AV.ms _) (by first | rfl | omega | (simp; omega) | (simp; done) | (simp only [List.length_set] at *; omega))))) (slotsLe.cons (cR rfl rfl) (slotsLe.cons (cR rfl rfl) (slotsLe.cons (cR rfl rfl) (slotsLe.cons (cR rfl rfl) (slotsLe.cons (cR rfl rfl) slotsLe.nil))))))) ?_
         intro k16 s14 st16 Kn16 hn16 h16 hs16
         ((conv=>whnf);repeat((first|apply TT mix|apply sE rfl|apply dG (by kernel_rfl)|fail);(conv=>whnf)))
         refine br_b rfl h16 (fun c54 h16 => ?_) (fun c54 h16 => ?_)
         ·((conv=>whnf);repeat((first|apply TT mix|apply sE rfl|apply dG (by kernel_rfl)|fail);(conv=>whnf)))
          refine grd2 rfl rfl h16 (fun h16 => ?_)
          ((conv=>whnf);repeat((first|apply TT mix|apply sE rfl|apply dG (by kernel_rfl)|fail);(conv=>whnf)))
          refine grd2 rfl rfl h16 (fun h16 => ?_)
          ((conv=>whnf);repeat((first|apply TT mix|apply sE rfl|apply dG (by kernel_rfl)|fail);(conv=>whnf)))
          refine bnd h16 (fun y17 hy17 h16 => ?_)
          refine Or.inl ⟨_, c_cmp_Less_rune _ _ _ hy17, rfl, ?_⟩
          ((conv=>whnf);repeat((first|apply TT mix|apply sE rfl|apply dG (by kernel_rfl)|fail);(conv=>whnf)))
          refine br_b rfl h16 (fun c55 h16 => ?_) (fun c55 h16 => ?_)
          ·have e := Option.some.inj h16; subst e
           have e := done_out hs16; subst e
           have e := Option.some.inj hc52; subst e
           ((conv=>whnf);repeat((first|apply TT mix|apply sE rfl|apply dG (by kernel_rfl)|fail);(conv=>whnf)))
           exact hn39 _ (s14.1, s9) h6_ (weak_gen [0] rfl rfl (sK rfl (rowLe_ints (by first | rfl | (simp; done) | (rw [List.take_of_length_le (by simp <;> omega)]; first | rfl | (rw [List.take_take, Nat.min_self]; done) | (simp; done)))) storeLe.nil) (slotsLe.cons (And.intro rfl (AV.Le.of_eq (congrArg (AV.ms _) (by first | rfl | omega | (simp; omega) | (simp; done) | (simp only [List.length_set] at *; omega))))) (slotsLe.cons (cR rfl rfl) (slotsLe.cons (cR rfl rfl) (slotsLe.cons (cR rfl rfl) (slotsLe.cons (cR rfl rfl) slotsLe.nil))))))
          ·((conv=>whnf);repeat((first|apply TT mix|apply sE rfl|apply dG (by kernel_rfl)|fail);(conv=>whnf)))
           refine grd2 rfl rfl h16 (fun h16 => ?_)
           ((conv=>whnf);repeat((first|apply TT mix|apply sE rfl|apply dG (by kernel_rfl)|fail);(conv=>whnf)))
           refine grd2 rfl rfl h16 (fun h16 => ?_)
           ((conv=>whnf);repeat((first|apply TT mix|apply sE rfl|apply dG (by kernel_rfl)|fail);(conv=>whnf)))
           refine grd2 rfl rfl h16 (fun h16 => ?_)
           ((conv=>whnf);repeat((first|apply TT mix|apply sE rfl|apply dG (by kernel_rfl)|fail);(conv=>whnf)))
           refine grd2 rfl rfl h16 (fun h16 => ?_)
           have e := Option.some.inj h16; subst e
           ((conv=>whnf);repeat((first|apply TT mix|apply sE rfl|apply dG (by kernel_rfl)|fail);(conv=>whnf)))
           exact hn16 _ (((s14.1.set (s14.2.toNat) (s14.1.getD ((IntKind.wrap .i64 (s14.2 - (1 : Int))).toNat) 0)).set ((IntKind.wrap .i64 (s14.2 - (1 : Int))).toNat) (s14.1.getD (s14.2.toNat) 0)), (IntKind.wrap .i64 (s14.2 + (1 : Int)))) hs16 (weak_gen [0] rfl rfl (sK rfl (rowLe_ints (by first | rfl | (simp; done) | (rw [List.take_of_length_le (by simp <;> omega)]; first | rfl | (rw [List.take_take, Nat.min_self]; done) | (simp; done)))) storeLe.nil) (slotsLe.cons (And.intro rfl (AV.Le.of_eq (congrArg (AV.ms _) (by first | rfl | omega | (simp; omega) | (simp; done) | (simp only [List.length_set] at *; omega))))) (slotsLe.cons (cR rfl rfl) (slotsLe.cons (cR rfl rfl) (slotsLe.cons (cR rfl rfl) (slotsLe.cons (cR rfl rfl) (slotsLe.cons (cR rfl rfl) slotsLe.nil)))))))
         ·have e := Option.some.inj h16; subst e
          have e := done_out hs16; subst e
          have e := Option.some.inj hc52; subst e
          ((conv=>whnf);repeat((first|apply TT mix|apply sE rfl|apply dG (by kernel_rfl)|fail);(conv=>whnf)))
          exact hn39 _ (s14.1, s9) h6_ (weak_gen [0] rfl rfl (sK rfl (rowLe_ints (by first | rfl | (simp; done) | (rw [List.take_of_length_le (by simp <;> omega)]; first | rfl | (rw [List.take_take, Nat.min_self]; done) | (simp; done)))) storeLe.nil) (slotsLe.cons (And.intro rfl (AV.Le.of_eq (congrArg (AV.ms _) (by first | rfl | omega | (simp; omega) | (simp; done) | (simp only [List.length_set] at *; omega))))) (slotsLe.cons (cR rfl rfl) (slotsLe.cons (cR rfl rfl) (slotsLe.cons (cR rfl rfl) (slotsLe.cons (cR rfl rfl) slotsLe.nil))))))
        ·have e := Option.some.inj hc52; subst e
         ((conv=>whnf);repeat((first|apply TT mix|apply sE rfl|apply dG (by kernel_rfl)|fail);(conv=>whnf)))
         exact hn39 _ (s11, s9) h6_ (weak_gen [0] rfl rfl (sK rfl (rowLe_ints (by first | rfl | (simp; done) | (rw [List.take_of_length_le (by simp <;> omega)]; first | rfl | (rw [List.take_take, Nat.min_self]; done) | (simp; done)))) storeLe.nil) (slotsLe.cons (And.intro rfl (AV.Le.of_eq (congrArg (AV.ms _) (by first | rfl | omega | (simp; omega) | (simp; done) | (simp only [List.length_set] at *; omega))))) (slotsLe.cons (cR rfl rfl) (slotsLe.cons (cR rfl rfl) (slotsLe.cons (cR rfl rfl) (slotsLe.cons (cR rfl rfl) slotsLe.nil))))))
   ·clear h6_ h39
    intro s7 hc56
    have e := Option.some.inj hc56; subst e
    ((conv=>whnf);repeat((first|apply TT mix|apply sE rfl|apply dG (by kernel_rfl)|fail);(conv=>whnf)))
    exact hn6 _ (s7.1, s7.2, (IntKind.wrap .i64 (s4.2.2 + (1 : Int)))) hs6 (weak_gen [0] rfl rfl (sK rfl (rowLe_ints (by first | rfl | (simp; done) | (rw [List.take_of_length_le (by simp <;> omega)]; first | rfl | (rw [List.take_take, Nat.min_self]; done) | (simp; done)))) storeLe.nil) (slotsLe.cons (And.intro rfl (AV.Le.of_eq (congrArg (AV.ms _) (by first | rfl | omega | (simp; omega) | (simp; done) | (simp only [List.length_set] at *; omega))))) (slotsLe.cons (cR rfl rfl) (slotsLe.cons (cR rfl rfl) (slotsLe.cons (cR rfl rfl) (slotsLe.cons (cR rfl rfl) slotsLe.nil))))))
  ·have e := Option.some.inj h6_; subst e
   have e := done_out hs6; subst e
   ((conv=>whnf);repeat((first|apply TT mix|apply sE rfl|apply dG (by kernel_rfl)|fail);(conv=>whnf)))
   exact hn37 _ s4.1 h (weak_gen [0] rfl rfl (sK rfl (rowLe_ints (by first | rfl | (simp; done) | (rw [List.take_of_length_le (by simp <;> omega)]; first | rfl | (rw [List.take_take, Nat.min_self]; done) | (simp; done)))) storeLe.nil) slotsLe.nil)
 ·clear h h37
  intro s1 hc57
  have e := Option.some.inj hc57; subst e
  ((conv=>whnf);repeat((first|apply TT mix|apply sE rfl|apply dG (by kernel_rfl)|fail);(conv=>whnf)))
  exact Or.inr (Or.inr (weak_gen [0] rfl rfl (sK rfl (rowLe_ints (by first | rfl | (simp; done) | (rw [List.take_of_length_le (by simp <;> omega)]; first | rfl | (rw [List.take_take, Nat.min_self]; done) | (simp; done)))) storeLe.nil) (slotsLe.cons (cR rfl rfl) slotsLe.nil)))
theorem c_slices_partitionEqualOrdered_rune_own (p_data : (List Int)) (p_a : Int) (p_b : Int) (p_pivot : Int) (r : (List Int) × Int) (h : m_slices_partitionEqualOrdered_rune_own p_data p_a p_b p_pivot = some r) : ContractM 1 pl 96 [(.ms 0 p_data.length), (.int .i64 p_a), (.int .i64 p_b), (.int .i64 p_pivot)] [some ⟨1, 21, (.ints .i32 p_data), false, true⟩] (.int .i64 r.2) [some ⟨1, 21, (.ints .i32 r.1), false, true⟩] := by
 refine contract_own 1 (.t false .z (.t false .z (.t false .z (.t true (.t false (.t false (.t false (.t true (.t false (.t false (.t false (.t true .z .z) .z) .z) .z) (.t true (.t false (.t false (.t false (.t true .z .z) .z) .z) .z) .z)) .z) .z) .z) .z)))) rfl Tryd.func96 rfl (by kernel_rfl) ?_
 ((conv=>whnf);repeat((first|apply TT mix|apply sE rfl|apply dG (by kernel_rfl)|fail);(conv=>whnf)))
 refine grd2 rfl rfl h (fun h => ?_)
 ((conv=>whnf);repeat((first|apply TT mix|apply sE rfl|apply dG (by kernel_rfl)|fail);(conv=>whnf)))
 refine grd2 rfl rfl h (fun h => ?_)
 ((conv=>whnf);repeat((first|apply TT mix|apply sE rfl|apply dG (by kernel_rfl)|fail);(conv=>whnf)))
 refine grd2 rfl rfl h (fun h => ?_)
 ((conv=>whnf);repeat((first|apply TT mix|apply sE rfl|apply dG (by kernel_rfl)|fail);(conv=>whnf)))
 refine grd2 rfl rfl h (fun h => ?_)
 ((conv=>whnf);repeat((first|apply TT mix|apply sE rfl|apply dG (by kernel_rfl)|fail);(conv=>whnf)))
 refine bnd h (fun x28 h28 h => ?_)
 refine cut_at (fun s1 : (List Int) × Int => mkF 84 [(9, (.int .i64 s1.2))] [some ⟨1, 21, (.ints .i32 s1.1), false, true⟩]) (fun s1 : (List Int) × Int => some (s1.1, s1.2) = some r) ?_ ?_
 ·intro Kn28 hn28
  ((conv=>whnf);repeat((first|apply TT mix|apply sE rfl|apply dG (by kernel_rfl)|fail);(conv=>whnf)))
  refine loop_iter (fun s4 : (List Int) × Int × Int => mkF 84 [(0, (.ms 0 s4.1.length)), (1, (.int .i64 p_a)), (9, (.int .i64 s4.2.1)), (10, (.int .i64 s4.2.2))] [some ⟨1, 21, (.ints .i32 s4.1), false, true⟩]) h28 (weak_gen [0] rfl rfl (sK rfl (rowLe_ints (by first | rfl | (simp; done) | (rw [List.take_of_length_le (by simp <;> omega)]; first | rfl | (rw [List.take_take, Nat.min_self]; done) | (simp; done)))) storeLe.nil) (slotsLe.cons (And.intro rfl (AV.Le.of_eq (congrArg (AV.ms _) (by first | rfl | omega | (simp; omega) | (simp; done) | (simp only [List.length_set] at *; omega))))) (slotsLe.cons (cR rfl rfl) (slotsLe.cons (cR rfl rfl) (slotsLe.cons (cR rfl rfl) slotsLe.nil))))) ?_
  intro k6 s4 st6 Kn6 hn6 h6_ hs6
  ((conv=>whnf);repeat((first|apply TT mix|apply sE rfl|apply dG (by kernel_rfl)|fail);(conv=>whnf)))
  refine bnd h6_ (fun x29 h29 h6_ => ?_)
  refine cut_at (fun s7 : Int => mkF 84 [(0, (.ms 0 s4.1.length)), (1, (.int .i64 p_a)), (9, (.int .i64 s7)), (10, (.int .i64 s4.2.2))] [some ⟨1, 21, (.ints .i32 s4.1), false, true⟩]) (fun s7 : Int => m_slices_partitionEqualOrdered_rune_own_K8 p_a s4 s7 = some st6) ?_ ?_
  ·intro Kn29 hn29
   ((conv=>whnf);repeat((first|apply TT mix|apply sE rfl|apply dG (by kernel_rfl)|fail);(conv=>whnf)))
   refine loop_iter (fun s20 : Int => mkF 84 [(0, (.ms 0 s4.1.length)), (1, (.int .i64 p_a)), (9, (.int .i64 s20)), (10, (.int .i64 s4.2.2))] [some ⟨1, 21, (.ints .i32 s4.1), false, true⟩]) h29 (weak_gen [0] rfl rfl (sK rfl (by first | exact rowLe_same fun _ _ _ => rfl | (simp; exact rowLe_same fun _ _ _ => rfl)) storeLe.nil) (slotsLe.cons (And.intro rfl (AV.Le.of_eq (congrArg (AV.ms _) (by first | rfl | omega | (simp; omega) | (simp; done) | (simp only [List.length_set] at *; omega))))) (slotsLe.cons (cR rfl rfl) (slotsLe.cons (cR rfl rfl) (slotsLe.cons (cR rfl rfl) slotsLe.nil))))) ?_
   intro k22 s20 st22 Kn22 hn22 h22_ hs22
   ((conv=>whnf);repeat((first|apply TT mix|apply sE rfl|apply dG (by kernel_rfl)|fail);(conv=>whnf)))
   refine bnd h22_ (fun x30 h30 h22_ => ?_)
   refine cut_at (fun s23 : Bool => mkF 84 [(0, (.ms 0 s4.1.length)), (1, (.int .i64 p_a)), (9, (.int .i64 s20)), (10, (.int .i64 s4.2.2)), (43, (.bool s23))] [some ⟨1, 21, (.ints .i32 s4.1), false, true⟩]) (fun s23 : Bool => m_slices_partitionEqualOrdered_rune_own_K24 s20 s23 = some st22) ?_ ?_
   ·intro Kn30 hn30
    ((conv=>whnf);repeat((first|apply TT mix|apply sE rfl|apply dG (by kernel_rfl)|fail);(conv=>whnf)))
    refine br_b rfl h30 (fun c31 h30 => ?_) (fun c31 h30 => ?_)
    ·((conv=>whnf);repeat((first|apply TT mix|apply sE rfl|apply dG (by kernel_rfl)|fail);(conv=>whnf)))
     refine grd2 rfl rfl h30 (fun h30 => ?_)
     ((conv=>whnf);repeat((first|apply TT mix|apply sE rfl|apply dG (by kernel_rfl)|fail);(conv=>whnf)))
     refine grd2 rfl rfl h30 (fun h30 => ?_)
     ((conv=>whnf);repeat((first|apply TT mix|apply sE rfl|apply dG (by kernel_rfl)|fail);(conv=>whnf)))
     refine bnd h30 (fun y25 hy25 h30 => ?_)
     refine Or.inl ⟨_, c_cmp_Less_rune _ _ _ hy25, rfl, ?_⟩
     have e := Option.some.inj h30; subst e
     ((conv=>whnf);repeat((first|apply TT mix|apply sE rfl|apply dG (by kernel_rfl)|fail);(conv=>whnf)))
     exact hn30 _ (!y25) h22_ (weak_gen [0] rfl rfl (sK rfl (by first | exact rowLe_same fun _ _ _ => rfl | (simp; exact rowLe_same fun _ _ _ => rfl)) storeLe.nil) (slotsLe.cons (And.intro rfl (AV.Le.of_eq (congrArg (AV.ms _) (by first | rfl | omega | (simp; omega) | (simp; done) | (simp only [List.length_set] at *; omega))))) (slotsLe.cons (cR rfl rfl) (slotsLe.cons (cR rfl rfl) (slotsLe.cons (cR rfl rfl) (slotsLe.cons (cR rfl rfl) slotsLe.nil))))))
    ·have e := Option.some.inj h30; subst e
     ((conv=>whnf);repeat((first|apply TT mix|apply sE rfl|apply dG (by kernel_rfl)|fail);(conv=>whnf)))
     exact hn30 _ false h22_ (weak_gen [0] rfl rfl (sK rfl (by first | exact rowLe_same fun _ _ _ => rfl | (simp; exact rowLe_same fun _ _ _ => rfl)) storeLe.nil) (slotsLe.cons (And.intro rfl (AV.Le.of_eq (congrArg (AV.ms _) (by first | rfl | omega | (simp; omega) | (simp; done) | (simp only [List.length_set] at *; omega))))) (slotsLe.cons (cR rfl rfl) (slotsLe.cons (cR rfl rfl) (slotsLe.cons (cR rfl rfl) (slotsLe.cons (cR rfl rfl) slotsLe.nil))))))
   ·clear h22_ h30
    intro s23 hc32
    ((conv=>whnf);repeat((first|apply TT mix|apply sE rfl|apply dG (by kernel_rfl)|fail);(conv=>whnf)))
    refine br_b rfl hc32 (fun c33 hc32 => ?_) (fun c33 hc32 => ?_)
    ·have e := Option.some.inj hc32; subst e
     ((conv=>whnf);repeat((first|apply TT mix|apply sE rfl|apply dG (by kernel_rfl)|fail);(conv=>whnf)))
     exact hn22 _ (IntKind.wrap .i64 (s20 + (1 : Int))) hs22 (weak_gen [0] rfl rfl (sK rfl (by first | exact rowLe_same fun _ _ _ => rfl | (simp; exact rowLe_same fun _ _ _ => rfl)) storeLe.nil) (slotsLe.cons (And.intro rfl (AV.Le.of_eq (congrArg (AV.ms _) (by first | rfl | omega | (simp; omega) | (simp; done) | (simp only [List.length_set] at *; omega))))) (slotsLe.cons (cR rfl rfl) (slotsLe.cons (cR rfl rfl) (slotsLe.cons (cR rfl rfl) slotsLe.nil)))))
    ·have e := Option.some.inj hc32; subst e
     have e := done_out hs22; subst e
     ((conv=>whnf);repeat((first|apply TT mix|apply sE rfl|apply dG (by kernel_rfl)|fail);(conv=>whnf)))
     exact hn29 _ s20 h6_ (weak_gen [0] rfl rfl (sK rfl (by first | exact rowLe_same fun _ _ _ => rfl | (simp; exact rowLe_same fun _ _ _ => rfl)) storeLe.nil) (slotsLe.cons (And.intro rfl (AV.Le.of_eq (congrArg (AV.ms _) (by first | rfl | omega | (simp; omega) | (simp; done) | (simp only [List.length_set] at *; omega))))) (slotsLe.cons (cR rfl rfl) (slotsLe.cons (cR rfl rfl) (slotsLe.cons (cR rfl rfl) slotsLe.nil)))))
  ·clear h6_ h29
   intro s7 hc34
   ((conv=>whnf);repeat((first|apply TT mix|apply sE rfl|apply dG (by kernel_rfl)|fail);(conv=>whnf)))
   refine bnd hc34 (fun x35 h35 hc34 => ?_)
   refine cut_at (fun s9 : Int => mkF 84 [(0, (.ms 0 s4.1.length)), (1, (.int .i64 p_a)), (9, (.int .i64 s7)), (10, (.int .i64 s9))] [some ⟨1, 21, (.ints .i32 s4.1), false, true⟩]) (fun s9 : Int => m_slices_partitionEqualOrdered_rune_own_K10 s4 s7 s9 = some st6) ?_ ?_
   ·intro Kn35 hn35
    ((conv=>whnf);repeat((first|apply TT mix|apply sE rfl|apply dG (by kernel_rfl)|fail);(conv=>whnf)))
    refine loop_iter (fun s12 : Int => mkF 84 [(0, (.ms 0 s4.1.length)), (1, (.int .i64 p_a)), (9, (.int .i64 s7)), (10, (.int .i64 s12))] [some ⟨1, 21, (.ints .i32 s4.1), false, true⟩]) h35 (weak_gen [0] rfl rfl (sK rfl (by first | exact rowLe_same fun _ _ _ => rfl | (simp; exact rowLe_same fun _ _ _ => rfl)) storeLe.nil) (slotsLe.cons (And.intro rfl (AV.Le.of_eq (congrArg (AV.ms _) (by first | rfl | omega | (simp; omega) | (simp; done) | (simp only [List.length_set] at *; omega))))) (slotsLe.cons (cR rfl rfl) (slotsLe.cons (cR rfl rfl) (slotsLe.cons (cR rfl rfl) slotsLe.nil))))) ?_
    intro k14 s12 st14 Kn14 hn14 h14_ hs14
    ((conv=>whnf);repeat((first|apply TT mix|apply sE rfl|apply dG (by kernel_rfl)|fail);(conv=>whnf)))
    refine bnd h14_ (fun x36 h36 h14_ => ?_)
    refine cut_at (fun s15 : Bool => mkF 84 [(0, (.ms 0 s4.1.length)), (1, (.int .i64 p_a)), (9, (.int .i64 s7)), (10, (.int .i64 s12)), (59, (.bool s15))] [some ⟨1, 21, (.ints .i32 s4.1), false, true⟩]) (fun s15 : Bool => m_slices_partitionEqualOrdered_rune_own_K16 s12 s15 = some st14) ?_ ?_
    ·intro Kn36 hn36
     ((conv=>whnf);repeat((first|apply TT mix|apply sE rfl|apply dG (by kernel_rfl)|fail);(conv=>whnf)))
     refine br_b rfl h36 (fun c37 h36 => ?_) (fun c37 h36 => ?_)
     ·((conv=>whnf);repeat((first|apply TT mix|apply sE rfl|apply dG (by kernel_rfl)|fail);(conv=>whnf)))
      refine grd2 rfl rfl h36 (fun h36 => ?_)
      ((conv=>whnf);repeat((first|apply TT mix|apply sE rfl|apply dG (by kernel_rfl)|fail);(conv=>whnf)))
      refine grd2 rfl rfl h36 (fun h36 => ?_)
      ((conv=>whnf);repeat((first|apply TT mix|apply sE rfl|apply dG (by kernel_rfl)|fail);(conv=>whnf)))
      refine bnd h36 (fun y17 hy17 h36 => ?_)
      refine Or.inl ⟨_, c_cmp_Less_rune _ _ _ hy17, rfl, ?_⟩
      have e := Option.some.inj h36; subst e
      ((conv=>whnf);repeat((first|apply TT mix|apply sE rfl|apply dG (by kernel_rfl)|fail);(conv=>whnf)))
      exact hn36 _ y17 h14_ (weak_gen [0] rfl rfl (sK rfl (by first | exact rowLe_same fun _ _ _ => rfl | (simp; exact rowLe_same fun _ _ _ => rfl)) storeLe.nil) (slotsLe.cons (And.intro rfl (AV.Le.of_eq (congrArg (AV.ms _) (by first | rfl | omega | (simp; omega) | (simp; done) | (simp only [List.length_set] at *; omega))))) (slotsLe.cons (cR rfl rfl) (slotsLe.cons (cR rfl rfl) (slotsLe.cons (cR rfl rfl) (slotsLe.cons (cR rfl rfl) slotsLe.nil))))))
     ·have e := Option.some.inj h36; subst e
      ((conv=>whnf);repeat((first|apply TT mix|apply sE rfl|apply dG (by kernel_rfl)|fail);(conv=>whnf)))
      exact hn36 _ false h14_ (weak_gen [0] rfl rfl (sK rfl (by first | exact rowLe_same fun _ _ _ => rfl | (simp; exact rowLe_same fun _ _ _ => rfl)) storeLe.nil) (slotsLe.cons (And.intro rfl (AV.Le.of_eq (congrArg (AV.ms _) (by first | rfl | omega | (simp; omega) | (simp; done) | (simp only [List.length_set] at *; omega))))) (slotsLe.cons (cR rfl rfl) (slotsLe.cons (cR rfl rfl) (slotsLe.cons (cR rfl rfl) (slotsLe.cons (cR rfl rfl) slotsLe.nil))))))
    ·clear h14_ h36
     intro s15 hc38
     ((conv=>whnf);repeat((first|apply TT mix|apply sE rfl|apply dG (by kernel_rfl)|fail);(conv=>whnf)))
     refine br_b rfl hc38 (fun c39 hc38 => ?_) (fun c39 hc38 => ?_)
     ·have e := Option.some.inj hc38; subst e
      ((conv=>whnf);repeat((first|apply TT mix|apply sE rfl|apply dG (by kernel_rfl)|fail);(conv=>whnf)))
      exact hn14 _ (IntKind.wrap .i64 (s12 - (1 : Int))) hs14 (weak_gen [0] rfl rfl (sK rfl (by first | exact rowLe_same fun _ _ _ => rfl | (simp; exact rowLe_same fun _ _ _ => rfl)) storeLe.nil) (slotsLe.cons (And.intro rfl (AV.Le.of_eq (congrArg (AV.ms _) (by first | rfl | omega | (simp; omega) | (simp; done) | (simp only [List.length_set] at *; omega))))) (slotsLe.cons (cR rfl rfl) (slotsLe.cons (cR rfl rfl) (slotsLe.cons (cR rfl rfl) slotsLe.nil)))))
     ·have e := Option.some.inj hc38; subst e
      have e := done_out hs14; subst e
      ((conv=>whnf);repeat((first|apply TT mix|apply sE rfl|apply dG (by kernel_rfl)|fail);(conv=>whnf)))
      exact hn35 _ s12 hc34 (weak_gen [0] rfl rfl (sK rfl (by first | exact rowLe_same fun _ _ _ => rfl | (simp; exact rowLe_same fun _ _ _ => rfl)) storeLe.nil) (slotsLe.cons (And.intro rfl (AV.Le.of_eq (congrArg (AV.ms _) (by first | rfl | omega | (simp; omega) | (simp; done) | (simp only [List.length_set] at *; omega))))) (slotsLe.cons (cR rfl rfl) (slotsLe.cons (cR rfl rfl) (slotsLe.cons (cR rfl rfl) slotsLe.nil)))))
   ·clear hc34 h35
    intro s9 hc40
    ((conv=>whnf);repeat((first|apply TT mix|apply sE rfl|apply dG (by kernel_rfl)|fail);(conv=>whnf)))
    refine br_b rfl hc40 (fun c41 hc40 => ?_) (fun c41 hc40 => ?_)
    ·have e := Option.some.inj hc40; subst e
     have e := done_out hs6; subst e
     ((conv=>whnf);repeat((first|apply TT mix|apply sE rfl|apply dG (by kernel_rfl)|fail);(conv=>whnf)))
     exact hn28 _ (s4.1, s7) h (weak_gen [0] rfl rfl (sK rfl (rowLe_ints (by first | rfl | (simp; done) | (rw [List.take_of_length_le (by simp <;> omega)]; first | rfl | (rw [List.take_take, Nat.min_self]; done) | (simp; done)))) storeLe.nil) (slotsLe.cons (cR rfl rfl) slotsLe.nil))
    ·((conv=>whnf);repeat((first|apply TT mix|apply sE rfl|apply dG (by kernel_rfl)|fail);(conv=>whnf)))
     refine grd2 rfl rfl hc40 (fun hc40 => ?_)
     ((conv=>whnf);repeat((first|apply TT mix|apply sE rfl|apply dG (by kernel_rfl)|fail);(conv=>whnf)))
     refine grd2 rfl rfl hc40 (fun hc40 => ?_)
     ((conv=>whnf);repeat((first|apply TT mix|apply sE rfl|apply dG (by kernel_rfl)|fail);(conv=>whnf)))
     refine grd2 rfl rfl hc40 (fun hc40 => ?_)
     ((conv=>whnf);repeat((first|apply TT mix|apply sE rfl|apply dG (by kernel_rfl)|fail);(conv=>whnf)))
     refine grd2 rfl rfl hc40 (fun hc40 => ?_)
     have e := Option.some.inj hc40; subst e
     ((conv=>whnf);repeat((first|apply TT mix|apply sE rfl|apply dG (by kernel_rfl)|fail);(conv=>whnf)))
     exact hn6 _ (((s4.1.set (s7.toNat) (s4.1.getD (s9.toNat) 0)).set (s9.toNat) (s4.1.getD (s7.toNat) 0)), (IntKind.wrap .i64 (s7 + (1 : Int))), (IntKind.wrap .i64 (s9 - (1 : Int)))) hs6 (weak_gen [0] rfl rfl (sK rfl (rowLe_ints (by first | rfl | (simp; done) | (rw [List.take_of_length_le (by simp <;> omega)]; first | rfl | (rw [List.take_take, Nat.min_self]; done) | (simp; done)))) storeLe.nil) (slotsLe.cons (And.intro rfl (AV.Le.of_eq (congrArg (AV.ms _) (by first | rfl | omega | (simp; omega) | (simp; done) | (simp only [List.length_set] at *; omega))))) (slotsLe.cons (cR rfl rfl) (slotsLe.cons (cR rfl rfl) (slotsLe.cons (cR rfl rfl) slotsLe.nil)))))
 ·clear h h28
  intro s1 hc42
  have e := Option.some.inj hc42; subst e
  ((conv=>whnf);repeat((first|apply TT mix|apply sE rfl|apply dG (by kernel_rfl)|fail);(conv=>whnf)))
  exact Or.inr (Or.inr (weak_gen [0] rfl rfl (sK rfl (rowLe_ints (by first | rfl | (simp; done) | (rw [List.take_of_length_le (by simp <;> omega)]; first | rfl | (rw [List.take_take, Nat.min_self]; done) | (simp; done)))) storeLe.nil) (slotsLe.cons (cR rfl rfl) slotsLe.nil)))
theorem c_slices_partitionOrdered_rune_own (p_data : (List Int)) (p_a : Int) (p_b : Int) (p_pivot : Int) (r : (List Int) × Int × Bool) (h : m_slices_partitionOrdered_rune_own p_data p_a p_b p_pivot = some r) : ContractM 1 pl 97 [(.ms 0 p_data.length), (.int .i64 p_a), (.int .i64 p_b), (.int .i64 p_pivot)] [some ⟨1, 21, (.ints .i32 p_data), false, true⟩] (.tup [(.int .i64 r.2.1), (.bool r.2.2)]) [some ⟨1, 21, (.ints .i32 r.1), false, true⟩] := by
 refine contract_own 1 (.t false .z (.t false .z (.t false .z (.t true (.t false (.t false (.t false (.t true .z .z) .z) .z) .z) (.t true (.t false (.t false (.t false (.t true .z .z) .z) .z) .z) (.t false .z (.t false .z (.t false .z (.t false .z (.t true (.t false (.t false (.t false (.t true (.t false (.t false (.t false (.t true .z .z) .z) .z) .z) (.t true (.t false (.t false (.t false (.t true .z .z) .z) .z) .z) .z)) .z) .z) .z) .z)))))))))) rfl Tryd.func97 rfl (by kernel_rfl) ?_
 ((conv=>whnf);repeat((first|apply TT mix|apply sE rfl|apply dG (by kernel_rfl)|fail);(conv=>whnf)))
 refine grd2 rfl rfl h (fun h => ?_)
 ((conv=>whnf);repeat((first|apply TT mix|apply sE rfl|apply dG (by kernel_rfl)|fail);(conv=>whnf)))
 refine grd2 rfl rfl h (fun h => ?_)
 ((conv=>whnf);repeat((first|apply TT mix|apply sE rfl|apply dG (by kernel_rfl)|fail);(conv=>whnf)))
 refine grd2 rfl rfl h (fun h => ?_)
 ((conv=>whnf);repeat((first|apply TT mix|apply sE rfl|apply dG (by kernel_rfl)|fail);(conv=>whnf)))
 refine grd2 rfl rfl h (fun h => ?_)
 ((conv=>whnf);repeat((first|apply TT mix|apply sE rfl|apply dG (by kernel_rfl)|fail);(conv=>whnf)))
 refine bnd h (fun x48 h48 h => ?_)
 refine cut_at (fun s1 : Int => mkF 168 [(0, (.ms 0 (((p_data.set (p_a.toNat) (p_data.getD (p_pivot.toNat) 0)).set (p_pivot.toNat) (p_data.getD (p_a.toNat) 0)).length))), (1, (.int .i64 p_a)), (10, (.int .i64 s1)), (11, (.int .i64 (IntKind.wrap .i64 (p_b - (1 : Int)))))] [some ⟨1, 21, (.ints .i32 ((p_data.set (p_a.toNat) (p_data.getD (p_pivot.toNat) 0)).set (p_pivot.toNat) (p_data.getD (p_a.toNat) 0))), false, true⟩]) (fun s1 : Int => m_slices_partitionOrdered_rune_own_K2 p_data p_a p_b p_pivot s1 = some r) ?_ ?_
 ·intro Kn48 hn48
  ((conv=>whnf);repeat((first|apply TT mix|apply sE rfl|apply dG (by kernel_rfl)|fail);(conv=>whnf)))
  refine loop_iter (fun s41 : Int => mkF 168 [(0, (.ms 0 (((p_data.set (p_a.toNat) (p_data.getD (p_pivot.toNat) 0)).set (p_pivot.toNat) (p_data.getD (p_a.toNat) 0)).length))), (1, (.int .i64 p_a)), (10, (.int .i64 s41)), (11, (.int .i64 (IntKind.wrap .i64 (p_b - (1 : Int)))))] [some ⟨1, 21, (.ints .i32 ((p_data.set (p_a.toNat) (p_data.getD (p_pivot.toNat) 0)).set (p_pivot.toNat) (p_data.getD (p_a.toNat) 0))), false, true⟩]) h48 (weak_gen [0] rfl rfl (sK rfl (by first | exact rowLe_same fun _ _ _ => rfl | (simp; exact rowLe_same fun _ _ _ => rfl)) storeLe.nil) (slotsLe.cons (And.intro rfl (AV.Le.of_eq (congrArg (AV.ms _) (by first | rfl | omega | (simp; omega) | (simp; done) | (simp only [List.length_set] at *; omega))))) (slotsLe.cons (cR rfl rfl) (slotsLe.cons (cR rfl rfl) (slotsLe.cons (cR rfl rfl) slotsLe.nil))))) ?_
  intro k43 s41 st43 Kn43 hn43 h43_ hs43
  ((conv=>whnf);repeat((first|apply TT mix|apply sE rfl|apply dG (by kernel_rfl)|fail);(conv=>whnf)))
  refine bnd h43_ (fun x49 h49 h43_ => ?_)
  refine cut_at (fun s44 : Bool => mkF 168 [(0, (.ms 0 (((p_data.set (p_a.toNat) (p_data.getD (p_pivot.toNat) 0)).set (p_pivot.toNat) (p_data.getD (p_a.toNat) 0)).length))), (1, (.int .i64 p_a)), (10, (.int .i64 s41)), (11, (.int .i64 (IntKind.wrap .i64 (p_b - (1 : Int))))), (43, (.bool s44))] [some ⟨1, 21, (.ints .i32 ((p_data.set (p_a.toNat) (p_data.getD (p_pivot.toNat) 0)).set (p_pivot.toNat) (p_data.getD (p_a.toNat) 0))), false, true⟩]) (fun s44 : Bool => m_slices_partitionOrdered_rune_own_K45 s41 s44 = some st43) ?_ ?_
  ·intro Kn49 hn49
   ((conv=>whnf);repeat((first|apply TT mix|apply sE rfl|apply dG (by kernel_rfl)|fail);(conv=>whnf)))
   refine br_b rfl h49 (fun c50 h49 => ?_) (fun c50 h49 => ?_)
   ·((conv=>whnf);repeat((first|apply TT mix|apply sE rfl|apply dG (by kernel_rfl)|fail);(conv=>whnf)))
    refine grd2 rfl rfl h49 (fun h49 => ?_)
    ((conv=>whnf);repeat((first|apply TT mix|apply sE rfl|apply dG (by kernel_rfl)|fail);(conv=>whnf)))
    refine grd2 rfl rfl h49 (fun h49 => ?_)
    ((conv=>whnf);repeat((first|apply TT mix|apply sE rfl|apply dG (by kernel_rfl)|fail);(conv=>whnf)))
    refine bnd h49 (fun y46 hy46 h49 => ?_)
    refine Or.inl ⟨_, c_cmp_Less_rune _ _ _ hy46, rfl, ?_⟩
    have e := Option.some.inj h49; subst e
    ((conv=>whnf);repeat((first|apply TT mix|apply sE rfl|apply dG (by kernel_rfl)|fail);(conv=>whnf)))
    exact hn49 _ y46 h43_ (weak_gen [0] rfl rfl (sK rfl (by first | exact rowLe_same fun _ _ _ => rfl | (simp; exact rowLe_same fun _ _ _ => rfl)) storeLe.nil) (slotsLe.cons (And.intro rfl (AV.Le.of_eq (congrArg (AV.ms _) (by first | rfl | omega | (simp; omega) | (simp; done) | (simp only [List.length_set] at *; omega))))) (slotsLe.cons (cR rfl rfl) (slotsLe.cons (cR rfl rfl) (slotsLe.cons (cR rfl rfl) (slotsLe.cons (cR rfl rfl) slotsLe.nil))))))
   ·have e := Option.some.inj h49; subst e
    ((conv=>whnf);repeat((first|apply TT mix|apply sE rfl|apply dG (by kernel_rfl)|fail);(conv=>whnf)))
    exact hn49 _ false h43_ (weak_gen [0] rfl rfl (sK rfl (by first | exact rowLe_same fun _ _ _ => rfl | (simp; exact rowLe_same fun _ _ _ => rfl)) storeLe.nil) (slotsLe.cons (And.intro rfl (AV.Le.of_eq (congrArg (AV.ms _) (by first | rfl | omega | (simp; omega) | (simp; done) | (simp only [List.length_set] at *; omega))))) (slotsLe.cons (cR rfl rfl) (slotsLe.cons (cR rfl rfl) (slotsLe.cons (cR rfl rfl) (slotsLe.cons (cR rfl rfl) slotsLe.nil))))))
  ·clear h43_ h49
   intro s44 hc51
   ((conv=>whnf);repeat((first|apply TT mix|apply sE rfl|apply dG (by kernel_rfl)|fail);(conv=>whnf)))
   refine br_b rfl hc51 (fun c52 hc51 => ?_) (fun c52 hc51 => ?_)
   ·have e := Option.some.inj hc51; subst e
    ((conv=>whnf);repeat((first|apply TT mix|apply sE rfl|apply dG (by kernel_rfl)|fail);(conv=>whnf)))
    exact hn43 _ (IntKind.wrap .i64 (s41 + (1 : Int))) hs43 (weak_gen [0] rfl rfl (sK rfl (by first | exact rowLe_same fun _ _ _ => rfl | (simp; exact rowLe_same fun _ _ _ => rfl)) storeLe.nil) (slotsLe.cons (And.intro rfl (AV.Le.of_eq (congrArg (AV.ms _) (by first | rfl | omega | (simp; omega) | (simp; done) | (simp only [List.length_set] at *; omega))))) (slotsLe.cons (cR rfl rfl) (slotsLe.cons (cR rfl rfl) (slotsLe.cons (cR rfl rfl) slotsLe.nil)))))
   ·have e := Option.some.inj hc51; subst e
    have e := done_out hs43; subst e
    ((conv=>whnf);repeat((first|apply TT mix|apply sE rfl|apply dG (by kernel_rfl)|fail);(conv=>whnf)))
    exact hn48 _ s41 h (weak_gen [0] rfl rfl (sK rfl (by first | exact rowLe_same fun _ _ _ => rfl | (simp; exact rowLe_same fun _ _ _ => rfl)) storeLe.nil) (slotsLe.cons (And.intro rfl (AV.Le.of_eq (congrArg (AV.ms _) (by first | rfl | omega | (simp; omega) | (simp; done) | (simp only [List.length_set] at *; omega))))) (slotsLe.cons (cR rfl rfl) (slotsLe.cons (cR rfl rfl) (slotsLe.cons (cR rfl rfl) slotsLe.nil)))))
 ·clear h h48
  intro s1 hc53
  ((conv=>whnf);repeat((first|apply TT mix|apply sE rfl|apply dG (by kernel_rfl)|fail);(conv=>whnf)))
  refine bnd hc53 (fun x54 h54 hc53 => ?_)
  refine cut_at (fun s3 : Int => mkF 168 [(0, (.ms 0 (((p_data.set (p_a.toNat) (p_data.getD (p_pivot.toNat) 0)).set (p_pivot.toNat) (p_data.getD (p_a.toNat) 0)).length))), (1, (.int .i64 p_a)), (10, (.int .i64 s1)), (11, (.int .i64 s3))] [some ⟨1, 21, (.ints .i32 ((p_data.set (p_a.toNat) (p_data.getD (p_pivot.toNat) 0)).set (p_pivot.toNat) (p_data.getD (p_a.toNat) 0))), false, true⟩]) (fun s3 : Int => m_slices_partitionOrdered_rune_own_K4 p_data p_a p_pivot s1 s3 = some r) ?_ ?_
  ·intro Kn54 hn54
   ((conv=>whnf);repeat((first|apply TT mix|apply sE rfl|apply dG (by kernel_rfl)|fail);(conv=>whnf)))
   refine loop_iter (fun s33 : Int => mkF 168 [(0, (.ms 0 (((p_data.set (p_a.toNat) (p_data.getD (p_pivot.toNat) 0)).set (p_pivot.toNat) (p_data.getD (p_a.toNat) 0)).length))), (1, (.int .i64 p_a)), (10, (.int .i64 s1)), (11, (.int .i64 s33))] [some ⟨1, 21, (.ints .i32 ((p_data.set (p_a.toNat) (p_data.getD (p_pivot.toNat) 0)).set (p_pivot.toNat) (p_data.getD (p_a.toNat) 0))), false, true⟩]) h54 (weak_gen [0] rfl rfl (sK rfl (by first | exact rowLe_same fun _ _ _ => rfl | (simp; exact rowLe_same fun _ _ _ => rfl)) storeLe.nil) (slotsLe.cons (And.intro rfl (AV.Le.of_eq (congrArg (AV.ms _) (by first | rfl | omega | (simp; omega) | (simp; done) | (simp only [List.length_set] at *; omega))))) (slotsLe.cons (cR rfl rfl) (slotsLe.cons (cR rfl rfl) (slotsLe.cons (cR rfl rfl) slotsLe.nil))))) ?_
   intro k35 s33 st35 Kn35 hn35 h35_ hs35
   ((conv=>whnf);repeat((first|apply TT mix|apply sE rfl|apply dG (by kernel_rfl)|fail);(conv=>whnf)))
   refine bnd h35_ (fun x55 h55 h35_ => ?_)
   refine cut_at (fun s36 : Bool => mkF 168 [(0, (.ms 0 (((p_data.set (p_a.toNat) (p_data.getD (p_pivot.toNat) 0)).set (p_pivot.toNat) (p_data.getD (p_a.toNat) 0)).length))), (1, (.int .i64 p_a)), (10, (.int .i64 s1)), (11, (.int .i64 s33)), (60, (.bool s36))] [some ⟨1, 21, (.ints .i32 ((p_data.set (p_a.toNat) (p_data.getD (p_pivot.toNat) 0)).set (p_pivot.toNat) (p_data.getD (p_a.toNat) 0))), false, true⟩]) (fun s36 : Bool => m_slices_partitionOrdered_rune_own_K37 s33 s36 = some st35) ?_ ?_
   ·intro Kn55 hn55
    ((conv=>whnf);repeat((first|apply TT mix|apply sE rfl|apply dG (by kernel_rfl)|fail);(conv=>whnf)))
    refine br_b rfl h55 (fun c56 h55 => ?_) (fun c56 h55 => ?_)
    ·((conv=>whnf);repeat((first|apply TT mix|apply sE rfl|apply dG (by kernel_rfl)|fail);(conv=>whnf)))
     refine grd2 rfl rfl h55 (fun h55 => ?_)
     ((conv=>whnf);repeat((first|apply TT mix|apply sE rfl|apply dG (by kernel_rfl)|fail);(conv=>whnf)))
     refine grd2 rfl rfl h55 (fun h55 => ?_)
     ((conv=>whnf);repeat((first|apply TT mix|apply sE rfl|apply dG (by kernel_rfl)|fail);(conv=>whnf)))
     refine bnd h55 (fun y38 hy38 h55 => ?_)
     refine Or.inl ⟨_, c_cmp_Less_rune _ _ _ hy38, rfl, ?_⟩
     have e := Option.some.inj h55; subst e
     ((conv=>whnf);repeat((first|apply TT mix|apply sE rfl|apply dG (by kernel_rfl)|fail);(conv=>whnf)))
     exact hn55 _ (!y38) h35_ (weak_gen [0] rfl rfl (sK rfl (by first | exact rowLe_same fun _ _ _ => rfl | (simp; exact rowLe_same fun _ _ _ => rfl)) storeLe.nil) (slotsLe.cons (And.intro rfl (AV.Le.of_eq (congrArg (AV.ms _) (by first | rfl | omega | (simp; omega) | (simp; done) | (simp only [List.length_set] at *; omega))))) (slotsLe.cons (cR rfl rfl) (slotsLe.cons (cR rfl rfl) (slotsLe.cons (cR rfl rfl) (slotsLe.cons (cR rfl rfl) slotsLe.nil))))))
    ·have e := Option.some.inj h55; subst e
     ((conv=>whnf);repeat((first|apply TT mix|apply sE rfl|apply dG (by kernel_rfl)|fail);(conv=>whnf)))
     exact hn55 _ false h35_ (weak_gen [0] rfl rfl (sK rfl (by first | exact rowLe_same fun _ _ _ => rfl | (simp; exact rowLe_same fun _ _ _ => rfl)) storeLe.nil) (slotsLe.cons (And.intro rfl (AV.Le.of_eq (congrArg (AV.ms _) (by first | rfl | omega | (simp; omega) | (simp; done) | (simp only [List.length_set] at *; omega))))) (slotsLe.cons (cR rfl rfl) (slotsLe.cons (cR rfl rfl) (slotsLe.cons (cR rfl rfl) (slotsLe.cons (cR rfl rfl) slotsLe.nil))))))
   ·clear h35_ h55
    intro s36 hc57
    ((conv=>whnf);repeat((first|apply TT mix|apply sE rfl|apply dG (by kernel_rfl)|fail);(conv=>whnf)))
    refine br_b rfl hc57 (fun c58 hc57 => ?_) (fun c58 hc57 => ?_)
    ·have e := Option.some.inj hc57; subst e
     ((conv=>whnf);repeat((first|apply TT mix|apply sE rfl|apply dG (by kernel_rfl)|fail);(conv=>whnf)))
     exact hn35 _ (IntKind.wrap .i64 (s33 - (1 : Int))) hs35 (weak_gen [0] rfl rfl (sK rfl (by first | exact rowLe_same fun _ _ _ => rfl | (simp; exact rowLe_same fun _ _ _ => rfl)) storeLe.nil) (slotsLe.cons (And.intro rfl (AV.Le.of_eq (congrArg (AV.ms _) (by first | rfl | omega | (simp; omega) | (simp; done) | (simp only [List.length_set] at *; omega))))) (slotsLe.cons (cR rfl rfl) (slotsLe.cons (cR rfl rfl) (slotsLe.cons (cR rfl rfl) slotsLe.nil)))))
    ·have e := Option.some.inj hc57; subst e
     have e := done_out hs35; subst e
     ((conv=>whnf);repeat((first|apply TT mix|apply sE rfl|apply dG (by kernel_rfl)|fail);(conv=>whnf)))
     exact hn54 _ s33 hc53 (weak_gen [0] rfl rfl (sK rfl (by first | exact rowLe_same fun _ _ _ => rfl | (simp; exact rowLe_same fun _ _ _ => rfl)) storeLe.nil) (slotsLe.cons (And.intro rfl (AV.Le.of_eq (congrArg (AV.ms _) (by first | rfl | omega | (simp; omega) | (simp; done) | (simp only [List.length_set] at *; omega))))) (slotsLe.cons (cR rfl rfl) (slotsLe.cons (cR rfl rfl) (slotsLe.cons (cR rfl rfl) slotsLe.nil)))))
  ·clear hc53 h54
   intro s3 hc59
   ((conv=>whnf);repeat((first|apply TT mix|apply sE rfl|apply dG (by kernel_rfl)|fail);(conv=>whnf)))
   refine br_b rfl hc59 (fun c60 hc59 => ?_) (fun c60 hc59 => ?_)
   ·((conv=>whnf);repeat((first|apply TT mix|apply sE rfl|apply dG (by kernel_rfl)|fail);(conv=>whnf)))
    refine grd2 rfl rfl hc59 (fun hc59 => ?_)
    ((conv=>whnf);repeat((first|apply TT mix|apply sE rfl|apply dG (by kernel_rfl)|fail);(conv=>whnf)))
    refine grd2 rfl rfl hc59 (fun hc59 => ?_)
    ((conv=>whnf);repeat((first|apply TT mix|apply sE rfl|apply dG (by kernel_rfl)|fail);(conv=>whnf)))
    refine grd2 rfl rfl hc59 (fun hc59 => ?_)
    ((conv=>whnf);repeat((first|apply TT mix|apply sE rfl|apply dG (by kernel_rfl)|fail);(conv=>whnf)))
    refine grd2 rfl rfl hc59 (fun hc59 => ?_)
    have e := Option.some.inj hc59; subst e
    ((conv=>whnf);repeat((first|apply TT mix|apply sE rfl|apply dG (by kernel_rfl)|fail);(conv=>whnf)))
    exact Or.inr (Or.inr (weak_gen [0] rfl rfl (sK rfl (rowLe_ints (by first | rfl | (simp; done) | (rw [List.take_of_length_le (by simp <;> omega)]; first | rfl | (rw [List.take_take, Nat.min_self]; done) | (simp; done)))) storeLe.nil) (slotsLe.cons (cR rfl rfl) slotsLe.nil)))
   ·((conv=>whnf);repeat((first|apply TT mix|apply sE rfl|apply dG (by kernel_rfl)|fail);(conv=>whnf)))
    refine grd2 rfl rfl hc59 (fun hc59 => ?_)
    ((conv=>whnf);repeat((first|apply TT mix|apply sE rfl|apply dG (by kernel_rfl)|fail);(conv=>whnf)))
    refine grd2 rfl rfl hc59 (fun hc59 => ?_)
    ((conv=>whnf);repeat((first|apply TT mix|apply sE rfl|apply dG (by kernel_rfl)|fail);(conv=>whnf)))
    refine grd2 rfl rfl hc59 (fun hc59 => ?_)
    ((conv=>whnf);repeat((first|apply TT mix|apply sE rfl|apply dG (by kernel_rfl)|fail);(conv=>whnf)))
    refine grd2 rfl rfl hc59 (fun hc59 => ?_)
    ((conv=>whnf);repeat((first|apply TT mix|apply sE rfl|apply dG (by kernel_rfl)|fail);(conv=>whnf)))
    refine bnd hc59 (fun x61 h61 hc59 => ?_)
    refine cut_at (fun s5 : (List Int) × Int => mkF 168 [(0, (.ms 0 s5.1.length)), (1, (.int .i64 p_a)), (11, (.int .i64 s5.2))] [some ⟨1, 21, (.ints .i32 s5.1), false, true⟩]) (fun s5 : (List Int) × Int => m_slices_partitionOrdered_rune_own_K6 p_a s5 = some r) ?_ ?_
    ·intro Kn61 hn61
     ((conv=>whnf);repeat((first|apply TT mix|apply sE rfl|apply dG (by kernel_rfl)|fail);(conv=>whnf)))
     refine loop_iter (fun s8 : (List Int) × Int × Int => mkF 168 [(0, (.ms 0 s8.1.length)), (1, (.int .i64 p_a)), (10, (.int .i64 s8.2.1)), (11, (.int .i64 s8.2.2))] [some ⟨1, 21, (.ints .i32 s8.1), false, true⟩]) h61 (weak_gen [0] rfl rfl (sK rfl (rowLe_ints (by first | rfl | (simp; done) | (rw [List.take_of_length_le (by simp <;> omega)]; first | rfl | (rw [List.take_take, Nat.min_self]; done) | (simp; done)))) storeLe.nil) (slotsLe.cons (And.intro rfl (AV.Le.of_eq (congrArg (AV.ms _) (by first | rfl | omega | (simp; omega) | (simp; done) | (simp only [List.length_set] at *; omega))))) (slotsLe.cons (cR rfl rfl) (slotsLe.cons (cR rfl rfl) (slotsLe.cons (cR rfl rfl) slotsLe.nil))))) ?_
     intro k10 s8 st10 Kn10 hn10 h10_ hs10
     ((conv=>whnf);repeat((first|apply TT mix|apply sE rfl|apply dG (by kernel_rfl)|fail);(conv=>whnf)))
     refine bnd h10_ (fun x62 h62 h10_ => ?_)
     refine cut_at (fun s11 : Int => mkF 168 [(0, (.ms 0 s8.1.length)), (1, (.int .i64 p_a)), (10, (.int .i64 s11)), (11, (.int .i64 s8.2.2))] [some ⟨1, 21, (.ints .i32 s8.1), false, true⟩]) (fun s11 : Int => m_slices_partitionOrdered_rune_own_K12 p_a s8 s11 = some st10) ?_ ?_
     ·intro Kn62 hn62
      ((conv=>whnf);repeat((first|apply TT mix|apply sE rfl|apply dG (by kernel_rfl)|fail);(conv=>whnf)))
      refine loop_iter (fun s24 : Int => mkF 168 [(0, (.ms 0 s8.1.length)), (1, (.int .i64 p_a)), (10, (.int .i64 s24)), (11, (.int .i64 s8.2.2))] [some ⟨1, 21, (.ints .i32 s8.1), false, true⟩]) h62 (weak_gen [0] rfl rfl (sK rfl (by first | exact rowLe_same fun _ _ _ => rfl | (simp; exact rowLe_same fun _ _ _ => rfl)) storeLe.nil) (slotsLe.cons (And.intro rfl (AV.Le.of_eq (congrArg (AV.ms _) (by first | rfl | omega | (simp; omega) | (simp; done) | (simp only [List.length_set] at *; omega))))) (slotsLe.cons (cR rfl rfl) (slotsLe.cons (cR rfl rfl) (slotsLe.cons (cR rfl rfl) slotsLe.nil))))) ?_
      intro k26 s24 st26 Kn26 hn26 h26_ hs26
      ((conv=>whnf);repeat((first|apply TT mix|apply sE rfl|apply dG (by kernel_rfl)|fail);(conv=>whnf)))
      refine bnd h26_ (fun x63 h63 h26_ => ?_)
      refine cut_at (fun s27 : Bool => mkF 168 [(0, (.ms 0 s8.1.length)), (1, (.int .i64 p_a)), (10, (.int .i64 s24)), (11, (.int .i64 s8.2.2)), (112, (.bool s27))] [some ⟨1, 21, (.ints .i32 s8.1), false, true⟩]) (fun s27 : Bool => m_slices_partitionOrdered_rune_own_K28 s24 s27 = some st26) ?_ ?_
      ·intro Kn63 hn63
       ((conv=>whnf);repeat((first|apply TT mix|apply sE rfl|apply dG (by kernel_rfl)|fail);(conv=>whnf)))
       refine br_b rfl h63 (fun c64 h63 => ?_) (fun c64 h63 => ?_)
       ·((conv=>whnf);repeat((first|apply TT mix|apply sE rfl|apply dG (by kernel_rfl)|fail);(conv=>whnf)))
        refine grd2 rfl rfl h63 (fun h63 => ?_)
        ((conv=>whnf);repeat((first|apply TT mix|apply sE rfl|apply dG (by kernel_rfl)|fail);(conv=>whnf)))
        refine grd2 rfl rfl h63 (fun h63 => ?_)
        ((conv=>whnf);repeat((first|apply TT mix|apply sE rfl|apply dG (by kernel_rfl)|fail);(conv=>whnf)))
        refine bnd h63 (fun y29 hy29 h63 => ?_)
        refine Or.inl ⟨_, c_cmp_Less_rune _ _ _ hy29, rfl, ?_⟩
        have e := Option.some.inj h63; subst e
        ((conv=>whnf);repeat((first|apply TT mix|apply sE rfl|apply dG (by kernel_rfl)|fail);(conv=>whnf)))
        exact hn63 _ y29 h26_ (weak_gen [0] rfl rfl (sK rfl (by first | exact rowLe_same fun _ _ _ => rfl | (simp; exact rowLe_same fun _ _ _ => rfl)) storeLe.nil) (slotsLe.cons (And.intro rfl (AV.Le.of_eq (congrArg (AV.ms _) (by first | rfl | omega | (simp; omega) | (simp; done) | (simp only [List.length_set] at *; omega))))) (slotsLe.cons (cR rfl rfl) (slotsLe.cons (cR rfl rfl) (slotsLe.cons (cR rfl rfl) (slotsLe.cons (cR rfl rfl) slotsLe.nil))))))
       ·have e := Option.some.inj h63; subst e
        ((conv=>whnf);repeat((first|apply TT mix|apply sE rfl|apply dG (by kernel_rfl)|fail);(conv=>whnf)))
        exact hn63 _ false h26_ (weak_gen [0] rfl rfl (sK rfl (by first | exact rowLe_same fun _ _ _ => rfl | (simp; exact rowLe_same fun _ _ _ => rfl)) storeLe.nil) (slotsLe.cons (And.intro rfl (AV.Le.of_eq (congrArg (AV.ms _) (by first | rfl | omega | (simp; omega) | (simp; done) | (simp only [List.length_set] at *; omega))))) (slotsLe.cons (cR rfl rfl) (slotsLe.cons (cR rfl rfl) (slotsLe.cons (cR rfl rfl) (slotsLe.cons (cR rfl rfl) slotsLe.nil))))))
      ·clear h26_ h63
       intro s27 hc65
       ((conv=>whnf);repeat((first|apply TT mix|apply sE rfl|apply dG (by kernel_rfl)|fail);(conv=>whnf)))
       refine br_b rfl hc65 (fun c66 hc65 => ?_) (fun c66 hc65 => ?_)
       ·have e := Option.some.inj hc65; subst e
        ((conv=>whnf);repeat((first|apply TT mix|apply sE rfl|apply dG (by kernel_rfl)|fail);(conv=>whnf)))
        exact hn26 _ (IntKind.wrap .i64 (s24 + (1 : Int))) hs26 (weak_gen [0] rfl rfl (sK rfl (by first | exact rowLe_same fun _ _ _ => rfl | (simp; exact rowLe_same fun _ _ _ => rfl)) storeLe.nil) (slotsLe.cons (And.intro rfl (AV.Le.of_eq (congrArg (AV.ms _) (by first | rfl | omega | (simp; omega) | (simp; done) | (simp only [List.length_set] at *; omega))))) (slotsLe.cons (cR rfl rfl) (slotsLe.cons (cR rfl rfl) (slotsLe.cons (cR rfl rfl) slotsLe.nil)))))
       ·have e := Option.some.inj hc65; subst e
        have e := done_out hs26; subst e
        ((conv=>whnf);repeat((first|apply TT mix|apply sE rfl|apply dG (by kernel_rfl)|fail);(conv=>whnf)))
        exact hn62 _ s24 h10_ (weak_gen [0] rfl rfl (sK rfl (by first | exact rowLe_same fun _ _ _ => rfl | (simp; exact rowLe_same fun _ _ _ => rfl)) storeLe.nil) (slotsLe.cons (And.intro rfl (AV.Le.of_eq (congrArg (AV.ms _) (by first | rfl | omega | (simp; omega) | (simp; done) | (simp only [List.length_set] at *; omega))))) (slotsLe.cons (cR rfl rfl) (slotsLe.cons (cR rfl rfl) (slotsLe.cons (cR rfl rfl) slotsLe.nil)))))
     ·clear h10_ h62
      intro s11 hc67
      ((conv=>whnf);repeat((first|apply TT mix|apply sE rfl|apply dG (by kernel_rfl)|fail);(conv=>whnf)))
      refine bnd hc67 (fun x68 h68 hc67 => ?_)
      refine cut_at (fun s13 : Int => mkF 168 [(0, (.ms 0 s8.1.length)), (1, (.int .i64 p_a)), (10, (.int .i64 s11)), (11, (.int .i64 s13))] [some ⟨1, 21, (.ints .i32 s8.1), false, true⟩]) (fun s13 : Int => m_slices_partitionOrdered_rune_own_K14 s8 s11 s13 = some st10) ?_ ?_
      ·intro Kn68 hn68
       ((conv=>whnf);repeat((first|apply TT mix|apply sE rfl|apply dG (by kernel_rfl)|fail);(conv=>whnf)))
       refine loop_iter (fun s16 : Int => mkF 168 [(0, (.ms 0 s8.1.length)), (1, (.int .i64 p_a)), (10, (.int .i64 s11)), (11, (.int .i64 s16))] [some ⟨1, 21, (.ints .i32 s8.1), false, true⟩]) h68 (weak_gen [0] rfl rfl (sK rfl (by first | exact rowLe_same fun _ _ _ => rfl | (simp; exact rowLe_same fun _ _ _ => rfl)) storeLe.nil) (slotsLe.cons (And.intro rfl (AV.Le.of_eq (congrArg (AV.ms _) (by first | rfl | omega | (simp; omega) | (simp; done) | (simp only [List.length_set] at *; omega))))) (slotsLe.cons (cR rfl rfl) (slotsLe.cons (cR rfl rfl) (slotsLe.cons (cR rfl rfl) slotsLe.nil))))) ?_
       intro k18 s16 st18 Kn18 hn18 h18_ hs18
       ((conv=>whnf);repeat((first|apply TT mix|apply sE rfl|apply dG (by kernel_rfl)|fail);(conv=>whnf)))
       refine bnd h18_ (fun x69 h69 h18_ => ?_)
       refine cut_at (fun s19 : Bool => mkF 168 [(0, (.ms 0 s8.1.length)), (1, (.int .i64 p_a)), (10, (.int .i64 s11)), (11, (.int .i64 s16)), (129, (.bool s19))] [some ⟨1, 21, (.ints .i32 s8.1), false, true⟩]) (fun s19 : Bool => m_slices_partitionOrdered_rune_own_K20 s16 s19 = some st18) ?_ ?_
       ·intro Kn69 hn69
        ((conv=>whnf);repeat((first|apply TT mix|apply sE rfl|apply dG (by kernel_rfl)|fail);(conv=>whnf)))
        refine br_b rfl h69 (fun c70 h69 => ?_) (fun c70 h69 => ?_)
        ·((conv=>whnf);repeat((first|apply TT mix|apply sE rfl|apply dG (by kernel_rfl)|fail);(conv=>whnf)))
         refine grd2 rfl rfl h69 (fun h69 => ?_)
         ((conv=>whnf);repeat((first|apply TT mix|apply sE rfl|apply dG (by kernel_rfl)|fail);(conv=>whnf)))
         refine grd2 rfl rfl h69 (fun h69 => ?_)
         ((conv=>whnf);repeat((first|apply TT mix|apply sE rfl|apply dG (by kernel_rfl)|fail);(conv=>whnf)))
         refine bnd h69 (fun y21 hy21 h69 => ?_)
         refine Or.inl ⟨_, c_cmp_Less_rune _ _ _ hy21, rfl, ?_⟩
         have e := Option.some.inj h69; subst e
         ((conv=>whnf);repeat((first|apply TT mix|apply sE rfl|apply dG (by kernel_rfl)|fail);(conv=>whnf)))
         exact hn69 _ (!y21) h18_ (weak_gen [0] rfl rfl (sK rfl (by first | exact rowLe_same fun _ _ _ => rfl | (simp; exact rowLe_same fun _ _ _ => rfl)) storeLe.nil) (slotsLe.cons (And.intro rfl (AV.Le.of_eq (congrArg (AV.ms _) (by first | rfl | omega | (simp; omega) | (simp; done) | (simp only [List.length_set] at *; omega))))) (slotsLe.cons (cR rfl rfl) (slotsLe.cons (cR rfl rfl) (slotsLe.cons (cR rfl rfl) (slotsLe.cons (cR rfl rfl) slotsLe.nil))))))
        ·have e := Option.some.inj h69; subst e
         ((conv=>whnf);repeat((first|apply TT mix|apply sE rfl|apply dG (by kernel_rfl)|fail);(conv=>whnf)))
         exact hn69 _ false h18_ (weak_gen [0] rfl rfl (sK rfl (by first | exact rowLe_same fun _ _ _ => rfl | (simp; exact rowLe_same fun _ _ _ => rfl)) storeLe.nil) (slotsLe.cons (And.intro rfl (AV.Le.of_eq (congrArg (AV.ms _) (by first | rfl | omega | (simp; omega) | (simp; done) | (simp only [List.length_set] at *; omega))))) (slotsLe.cons (cR rfl rfl) (slotsLe.cons (cR rfl rfl) (slotsLe.cons (cR rfl rfl) (slotsLe.cons (cR rfl rfl) slotsLe.nil))))))
       ·clear h18_ h69
        intro s19 hc71
        ((conv=>whnf);repeat((first|apply TT mix|apply sE rfl|apply dG (by kernel_rfl)|fail);(conv=>whnf)))
        refine br_b rfl hc71 (fun c72 hc71 => ?_) (fun c72 hc71 => ?_)
        ·have e := Option.some.inj hc71; subst e
         ((conv=>whnf);repeat((first|apply TT mix|apply sE rfl|apply dG (by kernel_rfl)|fail);(conv=>whnf)))
         exact hn18 _ (IntKind.wrap .i64 (s16 - (1 : Int))) hs18 (weak_gen [0] rfl rfl (sK rfl (by first | exact rowLe_same fun _ _ _ => rfl | (simp; exact rowLe_same fun _ _ _ => rfl)) storeLe.nil) (slotsLe.cons (And.intro rfl (AV.Le.of_eq (congrArg (AV.ms _) (by first | rfl | omega | (simp; omega) | (simp; done) | (simp only [List.length_set] at *; omega))))) (slotsLe.cons (cR rfl rfl) (slotsLe.cons (cR rfl rfl) (slotsLe.cons (cR rfl rfl) slotsLe.nil)))))
        ·have e := Option.some.inj hc71; subst e
         have e := done_out hs18; subst e
         ((conv=>whnf);repeat((first|apply TT mix|apply sE rfl|apply dG (by kernel_rfl)|fail);(conv=>whnf)))
         exact hn68 _ s16 hc67 (weak_gen [0] rfl rfl (sK rfl (by first | exact rowLe_same fun _ _ _ => rfl | (simp; exact rowLe_same fun _ _ _ => rfl)) storeLe.nil) (slotsLe.cons (And.intro rfl (AV.Le.of_eq (congrArg (AV.ms _) (by first | rfl | omega | (simp; omega) | (simp; done) | (simp only [List.length_set] at *; omega))))) (slotsLe.cons (cR rfl rfl) (slotsLe.cons (cR rfl rfl) (slotsLe.cons (cR rfl rfl) slotsLe.nil)))))
      ·clear hc67 h68
       intro s13 hc73
       ((conv=>whnf);repeat((first|apply TT mix|apply sE rfl|apply dG (by kernel_rfl)|fail);(conv=>whnf)))
       refine br_b rfl hc73 (fun c74 hc73 => ?_) (fun c74 hc73 => ?_)
       ·have e := Option.some.inj hc73; subst e
        have e := done_out hs10; subst e
        ((conv=>whnf);repeat((first|apply TT mix|apply sE rfl|apply dG (by kernel_rfl)|fail);(conv=>whnf)))
        exact hn61 _ (s8.1, s13) hc59 (weak_gen [0] rfl rfl (sK rfl (rowLe_ints (by first | rfl | (simp; done) | (rw [List.take_of_length_le (by simp <;> omega)]; first | rfl | (rw [List.take_take, Nat.min_self]; done) | (simp; done)))) storeLe.nil) (slotsLe.cons (And.intro rfl (AV.Le.of_eq (congrArg (AV.ms _) (by first | rfl | omega | (simp; omega) | (simp; done) | (simp only [List.length_set] at *; omega))))) (slotsLe.cons (cR rfl rfl) (slotsLe.cons (cR rfl rfl) slotsLe.nil))))
       ·((conv=>whnf);repeat((first|apply TT mix|apply sE rfl|apply dG (by kernel_rfl)|fail);(conv=>whnf)))
        refine grd2 rfl rfl hc73 (fun hc73 => ?_)
        ((conv=>whnf);repeat((first|apply TT mix|apply sE rfl|apply dG (by kernel_rfl)|fail);(conv=>whnf)))
        refine grd2 rfl rfl hc73 (fun hc73 => ?_)
        ((conv=>whnf);repeat((first|apply TT mix|apply sE rfl|apply dG (by kernel_rfl)|fail);(conv=>whnf)))
        refine grd2 rfl rfl hc73 (fun hc73 => ?_)
        ((conv=>whnf);repeat((first|apply TT mix|apply sE rfl|apply dG (by kernel_rfl)|fail);(conv=>whnf)))
        refine grd2 rfl rfl hc73 (fun hc73 => ?_)
        have e := Option.some.inj hc73; subst e
        ((conv=>whnf);repeat((first|apply TT mix|apply sE rfl|apply dG (by kernel_rfl)|fail);(conv=>whnf)))
        exact hn10 _ (((s8.1.set (s11.toNat) (s8.1.getD (s13.toNat) 0)).set (s13.toNat) (s8.1.getD (s11.toNat) 0)), (IntKind.wrap .i64 (s11 + (1 : Int))), (IntKind.wrap .i64 (s13 - (1 : Int)))) hs10 (weak_gen [0] rfl rfl (sK rfl (rowLe_ints (by first | rfl | (simp; done) | (rw [List.take_of_length_le (by simp <;> omega)]; first | rfl | (rw [List.take_take, Nat.min_self]; done) | (simp; done)))) storeLe.nil) (slotsLe.cons (And.intro rfl (AV.Le.of_eq (congrArg (AV.ms _) (by first | rfl | omega | (simp; omega) | (simp; done) | (simp only [List.length_set] at *; omega))))) (slotsLe.cons (cR rfl rfl) (slotsLe.cons (cR rfl rfl) (slotsLe.cons (cR rfl rfl) slotsLe.nil)))))
    ·clear hc59 h61
     intro s5 hc75
     ((conv=>whnf);repeat((first|apply TT mix|apply sE rfl|apply dG (by kernel_rfl)|fail);(conv=>whnf)))
     refine grd2 rfl rfl hc75 (fun hc75 => ?_)
     ((conv=>whnf);repeat((first|apply TT mix|apply sE rfl|apply dG (by kernel_rfl)|fail);(conv=>whnf)))
     refine grd2 rfl rfl hc75 (fun hc75 => ?_)
     ((conv=>whnf);repeat((first|apply TT mix|apply sE rfl|apply dG (by kernel_rfl)|fail);(conv=>whnf)))
     refine grd2 rfl rfl hc75 (fun hc75 => ?_)
     ((conv=>whnf);repeat((first|apply TT mix|apply sE rfl|apply dG (by kernel_rfl)|fail);(conv=>whnf)))
     refine grd2 rfl rfl hc75 (fun hc75 => ?_)
     have e := Option.some.inj hc75; subst e
     ((conv=>whnf);repeat((first|apply TT mix|apply sE rfl|apply dG (by kernel_rfl)|fail);(conv=>whnf)))
     exact Or.inr (Or.inr (weak_gen [0] rfl rfl (sK rfl (rowLe_ints (by first | rfl | (simp; done) | (rw [List.take_of_length_le (by simp <;> omega)]; first | rfl | (rw [List.take_take, Nat.min_self]; done) | (simp; done)))) storeLe.nil) (slotsLe.cons (cR rfl rfl) slotsLe.nil)))
theorem c_slices_nextPowerOfTwo (p_length : Int) (r : Int) (h : m_slices_nextPowerOfTwo p_length = some r) : Contract pl 108 [(AV.int .i64 p_length)] [] (AV.int .u64 r) [] := by
 refine contract_of .z Tryd.func108 rfl (by kernel_rfl) ?_
 ((conv=>whnf);repeat((first|apply TT mix|apply sE rfl|apply dG (by kernel_rfl)|fail);(conv=>whnf)))
 refine bnd h (fun y1 hy1 h => ?_)
 refine Or.inl ⟨_, c_math_bits_Len _ _ hy1, rfl, ?_⟩
 ((conv=>whnf);repeat((first|apply TT mix|apply sE rfl|apply dG (by kernel_rfl)|fail);(conv=>whnf)))
 refine grd1 rfl h (fun h => ?_)
 have e := Option.some.inj h; subst e
 ((conv=>whnf);repeat((first|apply TT mix|apply sE rfl|apply dG (by kernel_rfl)|fail);(conv=>whnf)))
 exact And.intro (AV.Le.refl _) rfl
theorem c_slices_xorshift_Next_own (p_r : Int) (r : Int × Int) (h : m_slices_xorshift_Next_own p_r = some r) : ContractM 1 pl 109 [(.mp 0 0 0)] [some ⟨1, 162, (.vals [(.int .u64 p_r)]), false, false⟩] (.int .u64 r.2) [some ⟨1, 162, (.vals [(.int .u64 r.1)]), false, false⟩] := by
 refine contract_own 1 .z rfl Tryd.func109 rfl (by kernel_rfl) ?_
 ((conv=>whnf);repeat((first|apply TT mix|apply sE rfl|apply dG (by kernel_rfl)|fail);(conv=>whnf)))
 refine And.intro (by decide) ?_
 ((conv=>whnf);repeat((first|apply TT mix|apply sE rfl|apply dG (by kernel_rfl)|fail);(conv=>whnf)))
 refine And.intro (by decide) ?_
 ((conv=>whnf);repeat((first|apply TT mix|apply sE rfl|apply dG (by kernel_rfl)|fail);(conv=>whnf)))
 refine And.intro (by decide) ?_
 have e := Option.some.inj h; subst e
 ((conv=>whnf);repeat((first|apply TT mix|apply sE rfl|apply dG (by kernel_rfl)|fail);(conv=>whnf)))
 exact Or.inr (Or.inr (weak_gen [0] rfl rfl (sK rfl (rowLe_vals (valsLe.cons (cellsLe.cons (cR rfl rfl) cellsLe.nil) valsLe.nil)) storeLe.nil) (slotsLe.cons (cR rfl rfl) slotsLe.nil)))
theorem c_slices_breakPatternsOrdered_rune_own (p_data : (List Int)) (p_a : Int) (p_b : Int) (r : (List Int)) (h : m_slices_breakPatternsOrdered_rune_own p_data p_a p_b = some r) : ContractM 1 pl 92 [(.ms 0 p_data.length), (.int .i64 p_a), (.int .i64 p_b)] [some ⟨1, 21, (.ints .i32 p_data), false, true⟩] (.tup []) [some ⟨1, 21, (.ints .i32 r), false, true⟩] := by
 refine contract_own 1 (.t false .z (.t false .z (.t false (.t false .z (.t false .z (.t false .z (.t false (.t false (.t false .z (.t false (.t false (.t false .z (.t true .z .z)) .z) .z)) .z) .z)))) .z))) rfl Tryd.func92 rfl (by kernel_rfl) ?_
 ((conv=>whnf);repeat((first|apply TT mix|apply sE rfl|apply dG (by kernel_rfl)|fail);(conv=>whnf)))
 refine br_b rfl h (fun c10 h => ?_) (fun c10 h => ?_)
 ·((conv=>whnf);repeat((first|apply TT mix|apply sE rfl|apply dG (by kernel_rfl)|fail);(conv=>whnf)))
  refine bnd h (fun y1 hy1 h => ?_)
  refine Or.inl ⟨_, c_slices_nextPowerOfTwo _ _ hy1, rfl, ?_⟩
  ((conv=>whnf);repeat((first|apply TT mix|apply sE rfl|apply dG (by kernel_rfl)|fail);(conv=>whnf)))
  refine And.intro (by decide) ?_
  ((conv=>whnf);repeat((first|apply TT mix|apply sE rfl|apply dG (by kernel_rfl)|fail);(conv=>whnf)))
  refine bnd h (fun x5 hx5 h => ?_)
  refine loop_iter (fun s3 : (List Int) × Int × Int => mkF 65 [(0, (.ms 0 s3.1.length)), (1, (.int .i64 p_a)), (6, (.int .i64 (IntKind.wrap .i64 (p_b - p_a)))), (7, (.mp 1 0 0)), (8, (.int .u64 y1)), (9, (.int .i64 s3.2.2))] [some ⟨1, 21, (.ints .i32 s3.1), false, true⟩, some ⟨1, 162, (.vals [(.int .u64 s3.2.1)]), false, false⟩]) hx5 (weak_gen [0, 1] rfl rfl (sK rfl (rowLe_ints (by first | rfl | (simp; done) | (rw [List.take_of_length_le (by simp <;> omega)]; first | rfl | (rw [List.take_take, Nat.min_self]; done) | (simp; done)))) (sK rfl (rowLe_vals (valsLe.cons (cellsLe.cons (cR rfl rfl) cellsLe.nil) valsLe.nil)) storeLe.nil)) (slotsLe.cons (And.intro rfl (AV.Le.of_eq (congrArg (AV.ms _) (by first | rfl | omega | (simp; omega) | (simp; done) | (simp only [List.length_set] at *; omega))))) (slotsLe.cons (cR rfl rfl) (slotsLe.cons (cR rfl rfl) (slotsLe.cons (cR rfl rfl) (slotsLe.cons (cR rfl rfl) (slotsLe.cons (cR rfl rfl) slotsLe.nil))))))) ?_
  intro k5 s3 st5 Kn5 hn5 h5 hs5
  ((conv=>whnf);repeat((first|apply TT mix|apply sE rfl|apply dG (by kernel_rfl)|fail);(conv=>whnf)))
  refine And.intro (by decide) ?_
  ((conv=>whnf);repeat((first|apply TT mix|apply sE rfl|apply dG (by kernel_rfl)|fail);(conv=>whnf)))
  refine br_b rfl h5 (fun c11 h5 => ?_) (fun c11 h5 => ?_)
  ·((conv=>whnf);repeat((first|apply TT mix|apply sE rfl|apply dG (by kernel_rfl)|fail);(conv=>whnf)))
   refine bnd h5 (fun y6 hy6 h5 => ?_)
   refine Or.inr (own_intro (own_call [1] (c_slices_xorshift_Next_own _ _ hy6) rfl (sK rfl (rowLe_vals (valsLe.cons (cellsLe.cons (cR rfl rfl) cellsLe.nil) valsLe.nil)) storeLe.nil) (cellsLe.cons (And.intro rfl (AV.Le.refl _)) cellsLe.nil) rfl) ?_)
   ((conv=>whnf);repeat((first|apply TT mix|apply sE rfl|apply dG (by kernel_rfl)|fail);(conv=>whnf)))
   refine bnd h5 (fun x12 h12 h5 => ?_)
   refine cut_at (fun s7 : Int => mkF 65 [(0, (.ms 0 s3.1.length)), (1, (.int .i64 p_a)), (6, (.int .i64 (IntKind.wrap .i64 (p_b - p_a)))), (7, (.mp 1 0 0)), (8, (.int .u64 y1)), (9, (.int .i64 s3.2.2)), (10, (.int .i64 s7))] [some ⟨1, 21, (.ints .i32 s3.1), false, true⟩, some ⟨1, 162, (.vals [(.int .u64 y6.1)]), false, false⟩]) (fun s7 : Int => m_slices_breakPatternsOrdered_rune_own_K8 p_a s3 y6 s7 = some st5) ?_ ?_
   ·intro Kn12 hn12
    ((conv=>whnf);repeat((first|apply TT mix|apply sE rfl|apply dG (by kernel_rfl)|fail);(conv=>whnf)))
    refine br_b rfl h12 (fun c13 h12 => ?_) (fun c13 h12 => ?_)
    ·have e := Option.some.inj h12; subst e
     ((conv=>whnf);repeat((first|apply TT mix|apply sE rfl|apply dG (by kernel_rfl)|fail);(conv=>whnf)))
     exact hn12 _ (IntKind.wrap .i64 ((IntKind.wrap .i64 (iand .u64 y6.2 (IntKind.wrap .u64 (y1 - (1 : Int))))) - (IntKind.wrap .i64 (p_b - p_a)))) h5 (weak_gen [0, 1] rfl rfl (sK rfl (by first | exact rowLe_same fun _ _ _ => rfl | (simp; exact rowLe_same fun _ _ _ => rfl)) (sK rfl (rowLe_vals (valsLe.cons (cellsLe.cons (cR rfl rfl) cellsLe.nil) valsLe.nil)) storeLe.nil)) (slotsLe.cons (And.intro rfl (AV.Le.of_eq (congrArg (AV.ms _) (by first | rfl | omega | (simp; omega) | (simp; done) | (simp only [List.length_set] at *; omega))))) (slotsLe.cons (cR rfl rfl) (slotsLe.cons (cR rfl rfl) (slotsLe.cons (cR rfl rfl) (slotsLe.cons (cR rfl rfl) (slotsLe.cons (cR rfl rfl) (slotsLe.cons (cR rfl rfl) slotsLe.nil))))))))
    ·have e := Option.some.inj h12; subst e
     ((conv=>whnf);repeat((first|apply TT mix|apply sE rfl|apply dG (by kernel_rfl)|fail);(conv=>whnf)))
     exact hn12 _ (IntKind.wrap .i64 (iand .u64 y6.2 (IntKind.wrap .u64 (y1 - (1 : Int))))) h5 (weak_gen [0, 1] rfl rfl (sK rfl (by first | exact rowLe_same fun _ _ _ => rfl | (simp; exact rowLe_same fun _ _ _ => rfl)) (sK rfl (rowLe_vals (valsLe.cons (cellsLe.cons (cR rfl rfl) cellsLe.nil) valsLe.nil)) storeLe.nil)) (slotsLe.cons (And.intro rfl (AV.Le.of_eq (congrArg (AV.ms _) (by first | rfl | omega | (simp; omega) | (simp; done) | (simp only [List.length_set] at *; omega))))) (slotsLe.cons (cR rfl rfl) (slotsLe.cons (cR rfl rfl) (slotsLe.cons (cR rfl rfl) (slotsLe.cons (cR rfl rfl) (slotsLe.cons (cR rfl rfl) (slotsLe.cons (cR rfl rfl) slotsLe.nil))))))))
   ·clear h5 h12
    intro s7 hc14
    ((conv=>whnf);repeat((first|apply TT mix|apply sE rfl|apply dG (by kernel_rfl)|fail);(conv=>whnf)))
    refine grd2 rfl rfl hc14 (fun hc14 => ?_)
    ((conv=>whnf);repeat((first|apply TT mix|apply sE rfl|apply dG (by kernel_rfl)|fail);(conv=>whnf)))
    refine grd2 rfl rfl hc14 (fun hc14 => ?_)
    ((conv=>whnf);repeat((first|apply TT mix|apply sE rfl|apply dG (by kernel_rfl)|fail);(conv=>whnf)))
    refine grd2 rfl rfl hc14 (fun hc14 => ?_)
    ((conv=>whnf);repeat((first|apply TT mix|apply sE rfl|apply dG (by kernel_rfl)|fail);(conv=>whnf)))
    refine grd2 rfl rfl hc14 (fun hc14 => ?_)
    have e := Option.some.inj hc14; subst e
    ((conv=>whnf);repeat((first|apply TT mix|apply sE rfl|apply dG (by kernel_rfl)|fail);(conv=>whnf)))
    exact hn5 _ (((s3.1.set (s3.2.2.toNat) (s3.1.getD ((IntKind.wrap .i64 (p_a + s7)).toNat) 0)).set ((IntKind.wrap .i64 (p_a + s7)).toNat) (s3.1.getD (s3.2.2.toNat) 0)), y6.1, (IntKind.wrap .i64 (s3.2.2 + (1 : Int)))) hs5 (weak_gen [0, 1] rfl rfl (sK rfl (rowLe_ints (by first | rfl | (simp; done) | (rw [List.take_of_length_le (by simp <;> omega)]; first | rfl | (rw [List.take_take, Nat.min_self]; done) | (simp; done)))) (sK rfl (rowLe_vals (valsLe.cons (cellsLe.cons (cR rfl rfl) cellsLe.nil) valsLe.nil)) storeLe.nil)) (slotsLe.cons (And.intro rfl (AV.Le.of_eq (congrArg (AV.ms _) (by first | rfl | omega | (simp; omega) | (simp; done) | (simp only [List.length_set] at *; omega))))) (slotsLe.cons (cR rfl rfl) (slotsLe.cons (cR rfl rfl) (slotsLe.cons (cR rfl rfl) (slotsLe.cons (cR rfl rfl) (slotsLe.cons (cR rfl rfl) slotsLe.nil)))))))
  ·have e := Option.some.inj h5; subst e
   have e := done_out hs5; subst e
   have e := Option.some.inj h; subst e
   ((conv=>whnf);repeat((first|apply TT mix|apply sE rfl|apply dG (by kernel_rfl)|fail);(conv=>whnf)))
   exact Or.inr (Or.inr (weak_gen [0] rfl rfl (sK rfl (rowLe_ints (by first | rfl | (simp; done) | (rw [List.take_of_length_le (by simp <;> omega)]; first | rfl | (rw [List.take_take, Nat.min_self]; done) | (simp; done)))) storeLe.nil) (slotsLe.cons (cR rfl rfl) slotsLe.nil)))
 ·have e := Option.some.inj h; subst e
  ((conv=>whnf);repeat((first|apply TT mix|apply sE rfl|apply dG (by kernel_rfl)|fail);(conv=>whnf)))
  exact Or.inr (Or.inr (weak_gen [0] rfl rfl (sK rfl (rowLe_ints (by first | rfl | (simp; done) | (rw [List.take_of_length_le (by simp <;> omega)]; first | rfl | (rw [List.take_take, Nat.min_self]; done) | (simp; done)))) storeLe.nil) (slotsLe.cons (cR rfl rfl) slotsLe.nil)))
theorem c_slices_pdqsortOrdered_rune_own_body (rec_ : (List Int) → Int → Int → Int → Option (List Int)) (hrec : ∀ (p_data : (List Int)) (p_a : Int) (p_b : Int) (p_limit : Int) (r : (List Int)), rec_ p_data p_a p_b p_limit = some r → ContractM 1 pl 71 [(.ms 0 p_data.length), (.int .i64 p_a), (.int .i64 p_b), (.int .i64 p_limit)] [some ⟨1, 21, (.ints .i32 p_data), false, true⟩] (.tup []) [some ⟨1, 21, (.ints .i32 r), false, true⟩]) (p_data : (List Int)) (p_a : Int) (p_b : Int) (p_limit : Int) (r : (List Int)) (h : m_slices_pdqsortOrdered_rune_own_body rec_ p_data p_a p_b p_limit = some r) : ContractM 1 pl 71 [(.ms 0 p_data.length), (.int .i64 p_a), (.int .i64 p_b), (.int .i64 p_limit)] [some ⟨1, 21, (.ints .i32 p_data), false, true⟩] (.tup []) [some ⟨1, 21, (.ints .i32 r), false, true⟩] := by
 refine contract_own 1 (.t false .z (.t false .z (.t false (.t false (.t false (.t false .z (.t false .z (.t false .z (.t true .z (.t false .z (.t true .z (.t true (.t true .z .z) (.t false (.t true .z .z) .z)))))))) .z) .z) .z))) rfl Tryd.func71 rfl (by kernel_rfl) ?_
 ((conv=>whnf);repeat((first|apply TT mix|apply sE rfl|apply dG (by kernel_rfl)|fail);(conv=>whnf)))
 refine bnd h (fun x5 hx5 h => ?_)
 refine loop_iter (fun s3 : (List Int) × Int × Int × Int × Bool × Bool => mkF 134 [(0, (.ms 0 s3.1.length)), (1, (.int .i64 s3.2.1)), (2, (.int .i64 s3.2.2.1)), (3, (.int .i64 s3.2.2.2.1)), (8, (.bool s3.2.2.2.2.1)), (9, (.bool s3.2.2.2.2.2))] [some ⟨1, 21, (.ints .i32 s3.1), false, true⟩]) hx5 (weak_gen [0] rfl rfl (sK rfl (rowLe_ints (by first | rfl | (simp; done) | (rw [List.take_of_length_le (by simp <;> omega)]; first | rfl | (rw [List.take_take, Nat.min_self]; done) | (simp; done)))) storeLe.nil) (slotsLe.cons (And.intro rfl (AV.Le.of_eq (congrArg (AV.ms _) (by first | rfl | omega | (simp; omega) | (simp; done) | (simp only [List.length_set] at *; omega))))) (slotsLe.cons (cR rfl rfl) (slotsLe.cons (cR rfl rfl) (slotsLe.cons (cR rfl rfl) (slotsLe.cons (cR rfl rfl) (slotsLe.cons (cR rfl rfl) slotsLe.nil))))))) ?_
 intro k5 s3 st5 Kn5 hn5 h5 hs5
 ((conv=>whnf);repeat((first|apply TT mix|apply sE rfl|apply dG (by kernel_rfl)|fail);(conv=>whnf)))
 refine br_b rfl h5 (fun c29 h5 => ?_) (fun c29 h5 => ?_)
 ·((conv=>whnf);repeat((first|apply TT mix|apply sE rfl|apply dG (by kernel_rfl)|fail);(conv=>whnf)))
  refine bnd h5 (fun y6 hy6 h5 => ?_)
  refine Or.inr (own_intro (own_call [0] (c_slices_insertionSortOrdered_rune_own _ _ _ _ hy6) rfl (sK rfl (rowLe_ints (by first | rfl | (simp; done) | (rw [List.take_of_length_le (by simp <;> omega)]; first | rfl | (rw [List.take_take, Nat.min_self]; done) | (simp; done)))) storeLe.nil) (cellsLe.cons (And.intro rfl (AV.Le.of_eq (congrArg (AV.ms _) (by first | rfl | omega | (simp; omega) | (simp; done) | (simp only [List.length_set] at *; omega))))) (cellsLe.cons (And.intro rfl (AV.Le.refl _)) (cellsLe.cons (And.intro rfl (AV.Le.refl _)) cellsLe.nil))) rfl) ?_)
  ((conv=>whnf);repeat((first|apply TT mix|apply sE rfl|apply dG (by kernel_rfl)|fail);(conv=>whnf)))
  obtain ⟨p30, h5⟩ := grdO h5
  have e := Option.some.inj h5; subst e
  have e := done_out hs5; subst e
  have e := Option.some.inj h; subst e
  ((conv=>whnf);repeat((first|apply TT mix|apply sE rfl|apply dG (by kernel_rfl)|fail);(conv=>whnf)))
  exact Or.inr (Or.inr (weak_gen [0] rfl rfl (sK rfl (rowLe_ints (by first | rfl | (simp; done) | (rw [List.take_of_length_le (by simp <;> omega)]; first | rfl | (rw [List.take_take, Nat.min_self]; done) | (simp; done)))) storeLe.nil) (slotsLe.cons (cR rfl rfl) slotsLe.nil)))
 ·((conv=>whnf);repeat((first|apply TT mix|apply sE rfl|apply dG (by kernel_rfl)|fail);(conv=>whnf)))
  refine br_b rfl h5 (fun c31 h5 => ?_) (fun c31 h5 => ?_)
  ·((conv=>whnf);repeat((first|apply TT mix|apply sE rfl|apply dG (by kernel_rfl)|fail);(conv=>whnf)))
   refine bnd h5 (fun y7 hy7 h5 => ?_)
   refine Or.inr (own_intro (own_call [0] (c_slices_heapSortOrdered_rune_own _ _ _ _ hy7) rfl (sK rfl (rowLe_ints (by first | rfl | (simp; done) | (rw [List.take_of_length_le (by simp <;> omega)]; first | rfl | (rw [List.take_take, Nat.min_self]; done) | (simp; done)))) storeLe.nil) (cellsLe.cons (And.intro rfl (AV.Le.of_eq (congrArg (AV.ms _) (by first | rfl | omega | (simp; omega) | (simp; done) | (simp only [List.length_set] at *; omega))))) (cellsLe.cons (And.intro rfl (AV.Le.refl _)) (cellsLe.cons (And.intro rfl (AV.Le.refl _)) cellsLe.nil))) rfl) ?_)
   ((conv=>whnf);repeat((first|apply TT mix|apply sE rfl|apply dG (by kernel_rfl)|fail);(conv=>whnf)))
   obtain ⟨p32, h5⟩ := grdO h5
   have e := Option.some.inj h5; subst e
   have e := done_out hs5; subst e
   have e := Option.some.inj h; subst e
   ((conv=>whnf);repeat((first|apply TT mix|apply sE rfl|apply dG (by kernel_rfl)|fail);(conv=>whnf)))
   exact Or.inr (Or.inr (weak_gen [0] rfl rfl (sK rfl (rowLe_ints (by first | rfl | (simp; done) | (rw [List.take_of_length_le (by simp <;> omega)]; first | rfl | (rw [List.take_take, Nat.min_self]; done) | (simp; done)))) storeLe.nil) (slotsLe.cons (cR rfl rfl) slotsLe.nil)))
  ·((conv=>whnf);repeat((first|apply TT mix|apply sE rfl|apply dG (by kernel_rfl)|fail);(conv=>whnf)))
   refine bnd h5 (fun x33 h33 h5 => ?_)
   refine cut_at (fun s8 : (List Int) × Int => mkF 134 [(0, (.ms 0 s8.1.length)), (1, (.int .i64 s3.2.1)), (2, (.int .i64 s3.2.2.1)), (3, (.int .i64 s8.2)), (8, (.bool s3.2.2.2.2.1)), (9, (.bool s3.2.2.2.2.2)), (10, (.int .i64 (IntKind.wrap .i64 (s3.2.2.1 - s3.2.1))))] [some ⟨1, 21, (.ints .i32 s8.1), false, true⟩]) (fun s8 : (List Int) × Int => m_slices_pdqsortOrdered_rune_own_K9 rec_ s3 s8 = some st5) ?_ ?_
   ·intro Kn33 hn33
    ((conv=>whnf);repeat((first|apply TT mix|apply sE rfl|apply dG (by kernel_rfl)|fail);(conv=>whnf)))
    refine br_b rfl h33 (fun c34 h33 => ?_) (fun c34 h33 => ?_)
    ·((conv=>whnf);repeat((first|apply TT mix|apply sE rfl|apply dG (by kernel_rfl)|fail);(conv=>whnf)))
     refine bnd h33 (fun y27 hy27 h33 => ?_)
     refine Or.inr (own_intro (own_call [0] (c_slices_breakPatternsOrdered_rune_own _ _ _ _ hy27) rfl (sK rfl (rowLe_ints (by first | rfl | (simp; done) | (rw [List.take_of_length_le (by simp <;> omega)]; first | rfl | (rw [List.take_take, Nat.min_self]; done) | (simp; done)))) storeLe.nil) (cellsLe.cons (And.intro rfl (AV.Le.of_eq (congrArg (AV.ms _) (by first | rfl | omega | (simp; omega) | (simp; done) | (simp only [List.length_set] at *; omega))))) (cellsLe.cons (And.intro rfl (AV.Le.refl _)) (cellsLe.cons (And.intro rfl (AV.Le.refl _)) cellsLe.nil))) rfl) ?_)
     ((conv=>whnf);repeat((first|apply TT mix|apply sE rfl|apply dG (by kernel_rfl)|fail);(conv=>whnf)))
     obtain ⟨p35, h33⟩ := grdO h33
     have e := Option.some.inj h33; subst e
     ((conv=>whnf);repeat((first|apply TT mix|apply sE rfl|apply dG (by kernel_rfl)|fail);(conv=>whnf)))
     exact hn33 _ (y27, (IntKind.wrap .i64 (s3.2.2.2.1 - (1 : Int)))) h5 (weak_gen [0] rfl rfl (sK rfl (rowLe_ints (by first | rfl | (simp; done) | (rw [List.take_of_length_le (by simp <;> omega)]; first | rfl | (rw [List.take_take, Nat.min_self]; done) | (simp; done)))) storeLe.nil) (slotsLe.cons (And.intro rfl (AV.Le.of_eq (congrArg (AV.ms _) (by first | rfl | omega | (simp; omega) | (simp; done) | (simp only [List.length_set] at *; omega))))) (slotsLe.cons (cR rfl rfl) (slotsLe.cons (cR rfl rfl) (slotsLe.cons (cR rfl rfl) (slotsLe.cons (cR rfl rfl) (slotsLe.cons (cR rfl rfl) (slotsLe.cons (cR rfl rfl) slotsLe.nil))))))))
    ·have e := Option.some.inj h33; subst e
     ((conv=>whnf);repeat((first|apply TT mix|apply sE rfl|apply dG (by kernel_rfl)|fail);(conv=>whnf)))
     exact hn33 _ (s3.1, s3.2.2.2.1) h5 (weak_gen [0] rfl rfl (sK rfl (rowLe_ints (by first | rfl | (simp; done) | (rw [List.take_of_length_le (by simp <;> omega)]; first | rfl | (rw [List.take_take, Nat.min_self]; done) | (simp; done)))) storeLe.nil) (slotsLe.cons (And.intro rfl (AV.Le.of_eq (congrArg (AV.ms _) (by first | rfl | omega | (simp; omega) | (simp; done) | (simp only [List.length_set] at *; omega))))) (slotsLe.cons (cR rfl rfl) (slotsLe.cons (cR rfl rfl) (slotsLe.cons (cR rfl rfl) (slotsLe.cons (cR rfl rfl) (slotsLe.cons (cR rfl rfl) (slotsLe.cons (cR rfl rfl) slotsLe.nil))))))))
   ·clear h5 h33
    intro s8 hc36
    ((conv=>whnf);repeat((first|apply TT mix|apply sE rfl|apply dG (by kernel_rfl)|fail);(conv=>whnf)))
    refine bnd hc36 (fun y10 hy10 hc36 => ?_)
    refine Or.inl ⟨_, c_slices_choosePivotOrdered_rune _ _ _ _ hy10, rfl, ?_⟩
    ((conv=>whnf);repeat((first|apply TT mix|apply sE rfl|apply dG (by kernel_rfl)|fail);(conv=>whnf)))
    refine bnd hc36 (fun x37 h37 hc36 => ?_)
    refine cut_at (fun s11 : (List Int) × Int × Int => mkF 134 [(0, (.ms 0 s11.1.length)), (1, (.int .i64 s3.2.1)), (2, (.int .i64 s3.2.2.1)), (3, (.int .i64 s8.2)), (8, (.bool s3.2.2.2.2.1)), (9, (.bool s3.2.2.2.2.2)), (10, (.int .i64 (IntKind.wrap .i64 (s3.2.2.1 - s3.2.1)))), (11, (.int .i64 s11.2.1)), (12, (.int .i64 s11.2.2))] [some ⟨1, 21, (.ints .i32 s11.1), false, true⟩]) (fun s11 : (List Int) × Int × Int => m_slices_pdqsortOrdered_rune_own_K12 rec_ s3 s8 s11 = some st5) ?_ ?_
    ·intro Kn37 hn37
     ((conv=>whnf);repeat((first|apply TT mix|apply sE rfl|apply dG (by kernel_rfl)|fail);(conv=>whnf)))
     refine br_b rfl h37 (fun c38 h37 => ?_) (fun c38 h37 => ?_)
     ·((conv=>whnf);repeat((first|apply TT mix|apply sE rfl|apply dG (by kernel_rfl)|fail);(conv=>whnf)))
      refine bnd h37 (fun y26 hy26 h37 => ?_)
      refine Or.inr (own_intro (own_call [0] (c_slices_reverseRangeOrdered_rune_own _ _ _ _ hy26) rfl (sK rfl (rowLe_ints (by first | rfl | (simp; done) | (rw [List.take_of_length_le (by simp <;> omega)]; first | rfl | (rw [List.take_take, Nat.min_self]; done) | (simp; done)))) storeLe.nil) (cellsLe.cons (And.intro rfl (AV.Le.of_eq (congrArg (AV.ms _) (by first | rfl | omega | (simp; omega) | (simp; done) | (simp only [List.length_set] at *; omega))))) (cellsLe.cons (And.intro rfl (AV.Le.refl _)) (cellsLe.cons (And.intro rfl (AV.Le.refl _)) cellsLe.nil))) rfl) ?_)
      ((conv=>whnf);repeat((first|apply TT mix|apply sE rfl|apply dG (by kernel_rfl)|fail);(conv=>whnf)))
      obtain ⟨p39, h37⟩ := grdO h37
      have e := Option.some.inj h37; subst e
      ((conv=>whnf);repeat((first|apply TT mix|apply sE rfl|apply dG (by kernel_rfl)|fail);(conv=>whnf)))
      exact hn37 _ (y26, (IntKind.wrap .i64 ((IntKind.wrap .i64 (s3.2.2.1 - (1 : Int))) - (IntKind.wrap .i64 (y10.1 - s3.2.1)))), (1 : Int)) hc36 (weak_gen [0] rfl rfl (sK rfl (rowLe_ints (by first | rfl | (simp; done) | (rw [List.take_of_length_le (by simp <;> omega)]; first | rfl | (rw [List.take_take, Nat.min_self]; done) | (simp; done)))) storeLe.nil) (slotsLe.cons (And.intro rfl (AV.Le.of_eq (congrArg (AV.ms _) (by first | rfl | omega | (simp; omega) | (simp; done) | (simp only [List.length_set] at *; omega))))) (slotsLe.cons (cR rfl rfl) (slotsLe.cons (cR rfl rfl) (slotsLe.cons (cR rfl rfl) (slotsLe.cons (cR rfl rfl) (slotsLe.cons (cR rfl rfl) (slotsLe.cons (cR rfl rfl) (slotsLe.cons (cR rfl rfl) (slotsLe.cons (cR rfl rfl) slotsLe.nil))))))))))
     ·have e := Option.some.inj h37; subst e
      ((conv=>whnf);repeat((first|apply TT mix|apply sE rfl|apply dG (by kernel_rfl)|fail);(conv=>whnf)))
      exact hn37 _ (s8.1, y10.1, y10.2) hc36 (weak_gen [0] rfl rfl (sK rfl (rowLe_ints (by first | rfl | (simp; done) | (rw [List.take_of_length_le (by simp <;> omega)]; first | rfl | (rw [List.take_take, Nat.min_self]; done) | (simp; done)))) storeLe.nil) (slotsLe.cons (And.intro rfl (AV.Le.of_eq (congrArg (AV.ms _) (by first | rfl | omega | (simp; omega) | (simp; done) | (simp only [List.length_set] at *; omega))))) (slotsLe.cons (cR rfl rfl) (slotsLe.cons (cR rfl rfl) (slotsLe.cons (cR rfl rfl) (slotsLe.cons (cR rfl rfl) (slotsLe.cons (cR rfl rfl) (slotsLe.cons (cR rfl rfl) (slotsLe.cons (cR rfl rfl) (slotsLe.cons (cR rfl rfl) slotsLe.nil))))))))))
    ·clear hc36 h37
     intro s11 hc40
     ((conv=>whnf);repeat((first|apply TT mix|apply sE rfl|apply dG (by kernel_rfl)|fail);(conv=>whnf)))
     refine bnd hc40 (fun x41 h41 hc40 => ?_)
     refine cut_at (fun s13 : (List Int) => mkF 134 [(0, (.ms 0 s13.length)), (1, (.int .i64 s3.2.1)), (2, (.int .i64 s3.2.2.1)), (3, (.int .i64 s8.2)), (8, (.bool s3.2.2.2.2.1)), (9, (.bool s3.2.2.2.2.2)), (10, (.int .i64 (IntKind.wrap .i64 (s3.2.2.1 - s3.2.1)))), (11, (.int .i64 s11.2.1))] [some ⟨1, 21, (.ints .i32 s13), false, true⟩]) (fun s13 : (List Int) => m_slices_pdqsortOrdered_rune_own_K14 rec_ s3 s8 s11 s13 = some st5) ?_ ?_
     ·intro Kn41 hn41
      ((conv=>whnf);repeat((first|apply TT mix|apply sE rfl|apply dG (by kernel_rfl)|fail);(conv=>whnf)))
      refine bnd h41 (fun x42 h42 h41 => ?_)
      refine cut_at (fun s22 : Bool => mkF 134 [(0, (.ms 0 s11.1.length)), (1, (.int .i64 s3.2.1)), (2, (.int .i64 s3.2.2.1)), (3, (.int .i64 s8.2)), (8, (.bool s3.2.2.2.2.1)), (9, (.bool s3.2.2.2.2.2)), (10, (.int .i64 (IntKind.wrap .i64 (s3.2.2.1 - s3.2.1)))), (11, (.int .i64 s11.2.1)), (68, (.bool s22))] [some ⟨1, 21, (.ints .i32 s11.1), false, true⟩]) (fun s22 : Bool => m_slices_pdqsortOrdered_rune_own_K23 s3 s11 s22 = some x41) ?_ ?_
      ·intro Kn42 hn42
       ((conv=>whnf);repeat((first|apply TT mix|apply sE rfl|apply dG (by kernel_rfl)|fail);(conv=>whnf)))
       refine br_b rfl h42 (fun c43 h42 => ?_) (fun c43 h42 => ?_)
       ·((conv=>whnf);repeat((first|apply TT mix|apply sE rfl|apply dG (by kernel_rfl)|fail);(conv=>whnf)))
        refine br_b rfl h42 (fun c44 h42 => ?_) (fun c44 h42 => ?_)
        ·have e := Option.some.inj h42; subst e
         ((conv=>whnf);repeat((first|apply TT mix|apply sE rfl|apply dG (by kernel_rfl)|fail);(conv=>whnf)))
         exact hn42 _ (s11.2.2 == (1 : Int)) h41 (weak_gen [0] rfl rfl (sK rfl (by first | exact rowLe_same fun _ _ _ => rfl | (simp; exact rowLe_same fun _ _ _ => rfl)) storeLe.nil) (slotsLe.cons (And.intro rfl (AV.Le.of_eq (congrArg (AV.ms _) (by first | rfl | omega | (simp; omega) | (simp; done) | (simp only [List.length_set] at *; omega))))) (slotsLe.cons (cR rfl rfl) (slotsLe.cons (cR rfl rfl) (slotsLe.cons (cR rfl rfl) (slotsLe.cons (cR rfl rfl) (slotsLe.cons (cR rfl rfl) (slotsLe.cons (cR rfl rfl) (slotsLe.cons (cR rfl rfl) (slotsLe.cons (cR rfl rfl) slotsLe.nil))))))))))
        ·have e := Option.some.inj h42; subst e
         ((conv=>whnf);repeat((first|apply TT mix|apply sE rfl|apply dG (by kernel_rfl)|fail);(conv=>whnf)))
         exact hn42 _ false h41 (weak_gen [0] rfl rfl (sK rfl (by first | exact rowLe_same fun _ _ _ => rfl | (simp; exact rowLe_same fun _ _ _ => rfl)) storeLe.nil) (slotsLe.cons (And.intro rfl (AV.Le.of_eq (congrArg (AV.ms _) (by first | rfl | omega | (simp; omega) | (simp; done) | (simp only [List.length_set] at *; omega))))) (slotsLe.cons (cR rfl rfl) (slotsLe.cons (cR rfl rfl) (slotsLe.cons (cR rfl rfl) (slotsLe.cons (cR rfl rfl) (slotsLe.cons (cR rfl rfl) (slotsLe.cons (cR rfl rfl) (slotsLe.cons (cR rfl rfl) (slotsLe.cons (cR rfl rfl) slotsLe.nil))))))))))
       ·have e := Option.some.inj h42; subst e
        ((conv=>whnf);repeat((first|apply TT mix|apply sE rfl|apply dG (by kernel_rfl)|fail);(conv=>whnf)))
        exact hn42 _ false h41 (weak_gen [0] rfl rfl (sK rfl (by first | exact rowLe_same fun _ _ _ => rfl | (simp; exact rowLe_same fun _ _ _ => rfl)) storeLe.nil) (slotsLe.cons (And.intro rfl (AV.Le.of_eq (congrArg (AV.ms _) (by first | rfl | omega | (simp; omega) | (simp; done) | (simp only [List.length_set] at *; omega))))) (slotsLe.cons (cR rfl rfl) (slotsLe.cons (cR rfl rfl) (slotsLe.cons (cR rfl rfl) (slotsLe.cons (cR rfl rfl) (slotsLe.cons (cR rfl rfl) (slotsLe.cons (cR rfl rfl) (slotsLe.cons (cR rfl rfl) (slotsLe.cons (cR rfl rfl) slotsLe.nil))))))))))
      ·clear h41 h42
       intro s22 hc45
       ((conv=>whnf);repeat((first|apply TT mix|apply sE rfl|apply dG (by kernel_rfl)|fail);(conv=>whnf)))
       refine br_b rfl hc45 (fun c46 hc45 => ?_) (fun c46 hc45 => ?_)
       ·((conv=>whnf);repeat((first|apply TT mix|apply sE rfl|apply dG (by kernel_rfl)|fail);(conv=>whnf)))
        refine bnd hc45 (fun y24 hy24 hc45 => ?_)
        refine Or.inr (own_intro (own_call [0] (c_slices_partialInsertionSortOrdered_rune_own _ _ _ _ hy24) rfl (sK rfl (rowLe_ints (by first | rfl | (simp; done) | (rw [List.take_of_length_le (by simp <;> omega)]; first | rfl | (rw [List.take_take, Nat.min_self]; done) | (simp; done)))) storeLe.nil) (cellsLe.cons (And.intro rfl (AV.Le.of_eq (congrArg (AV.ms _) (by first | rfl | omega | (simp; omega) | (simp; done) | (simp only [List.length_set] at *; omega))))) (cellsLe.cons (And.intro rfl (AV.Le.refl _)) (cellsLe.cons (And.intro rfl (AV.Le.refl _)) cellsLe.nil))) rfl) ?_)
        ((conv=>whnf);repeat((first|apply TT mix|apply sE rfl|apply dG (by kernel_rfl)|fail);(conv=>whnf)))
        obtain ⟨p47, hc45⟩ := grdO hc45
        ((conv=>whnf);repeat((first|apply TT mix|apply sE rfl|apply dG (by kernel_rfl)|fail);(conv=>whnf)))
        refine br_b rfl hc45 (fun c48 hc45 => ?_) (fun c48 hc45 => ?_)
        ·have e := Option.some.inj hc45; subst e
         have e := Option.some.inj hc40; subst e
         have e := done_out hs5; subst e
         have e := Option.some.inj h; subst e
         ((conv=>whnf);repeat((first|apply TT mix|apply sE rfl|apply dG (by kernel_rfl)|fail);(conv=>whnf)))
         exact Or.inr (Or.inr (weak_gen [0] rfl rfl (sK rfl (rowLe_ints (by first | rfl | (simp; done) | (rw [List.take_of_length_le (by simp <;> omega)]; first | rfl | (rw [List.take_take, Nat.min_self]; done) | (simp; done)))) storeLe.nil) (slotsLe.cons (cR rfl rfl) slotsLe.nil)))
        ·have e := Option.some.inj hc45; subst e
         ((conv=>whnf);repeat((first|apply TT mix|apply sE rfl|apply dG (by kernel_rfl)|fail);(conv=>whnf)))
         exact hn41 _ y24.1 hc40 (weak_gen [0] rfl rfl (sK rfl (rowLe_ints (by first | rfl | (simp; done) | (rw [List.take_of_length_le (by simp <;> omega)]; first | rfl | (rw [List.take_take, Nat.min_self]; done) | (simp; done)))) storeLe.nil) (slotsLe.cons (And.intro rfl (AV.Le.of_eq (congrArg (AV.ms _) (by first | rfl | omega | (simp; omega) | (simp; done) | (simp only [List.length_set] at *; omega))))) (slotsLe.cons (cR rfl rfl) (slotsLe.cons (cR rfl rfl) (slotsLe.cons (cR rfl rfl) (slotsLe.cons (cR rfl rfl) (slotsLe.cons (cR rfl rfl) (slotsLe.cons (cR rfl rfl) (slotsLe.cons (cR rfl rfl) slotsLe.nil)))))))))
       ·have e := Option.some.inj hc45; subst e
        ((conv=>whnf);repeat((first|apply TT mix|apply sE rfl|apply dG (by kernel_rfl)|fail);(conv=>whnf)))
        exact hn41 _ s11.1 hc40 (weak_gen [0] rfl rfl (sK rfl (rowLe_ints (by first | rfl | (simp; done) | (rw [List.take_of_length_le (by simp <;> omega)]; first | rfl | (rw [List.take_take, Nat.min_self]; done) | (simp; done)))) storeLe.nil) (slotsLe.cons (And.intro rfl (AV.Le.of_eq (congrArg (AV.ms _) (by first | rfl | omega | (simp; omega) | (simp; done) | (simp only [List.length_set] at *; omega))))) (slotsLe.cons (cR rfl rfl) (slotsLe.cons (cR rfl rfl) (slotsLe.cons (cR rfl rfl) (slotsLe.cons (cR rfl rfl) (slotsLe.cons (cR rfl rfl) (slotsLe.cons (cR rfl rfl) (slotsLe.cons (cR rfl rfl) slotsLe.nil)))))))))
     ·clear hc40 h41
      intro s13 hc49
      ((conv=>whnf);repeat((first|apply TT mix|apply sE rfl|apply dG (by kernel_rfl)|fail);(conv=>whnf)))
      refine bnd hc49 (fun x50 h50 hc49 => ?_)
      refine cut_at (fun s15 : Bool => mkF 134 [(0, (.ms 0 s13.length)), (1, (.int .i64 s3.2.1)), (2, (.int .i64 s3.2.2.1)), (3, (.int .i64 s8.2)), (8, (.bool s3.2.2.2.2.1)), (9, (.bool s3.2.2.2.2.2)), (10, (.int .i64 (IntKind.wrap .i64 (s3.2.2.1 - s3.2.1)))), (11, (.int .i64 s11.2.1)), (87, (.bool s15))] [some ⟨1, 21, (.ints .i32 s13), false, true⟩]) (fun s15 : Bool => m_slices_pdqsortOrdered_rune_own_K16 rec_ s3 s8 s11 s13 s15 = some st5) ?_ ?_
      ·intro Kn50 hn50
       ((conv=>whnf);repeat((first|apply TT mix|apply sE rfl|apply dG (by kernel_rfl)|fail);(conv=>whnf)))
       refine br_b rfl h50 (fun c51 h50 => ?_) (fun c51 h50 => ?_)
       ·((conv=>whnf);repeat((first|apply TT mix|apply sE rfl|apply dG (by kernel_rfl)|fail);(conv=>whnf)))
        refine grd2 rfl rfl h50 (fun h50 => ?_)
        ((conv=>whnf);repeat((first|apply TT mix|apply sE rfl|apply dG (by kernel_rfl)|fail);(conv=>whnf)))
        refine grd2 rfl rfl h50 (fun h50 => ?_)
        ((conv=>whnf);repeat((first|apply TT mix|apply sE rfl|apply dG (by kernel_rfl)|fail);(conv=>whnf)))
        refine bnd h50 (fun y21 hy21 h50 => ?_)
        refine Or.inl ⟨_, c_cmp_Less_rune _ _ _ hy21, rfl, ?_⟩
        have e := Option.some.inj h50; subst e
        ((conv=>whnf);repeat((first|apply TT mix|apply sE rfl|apply dG (by kernel_rfl)|fail);(conv=>whnf)))
        exact hn50 _ (!y21) hc49 (weak_gen [0] rfl rfl (sK rfl (by first | exact rowLe_same fun _ _ _ => rfl | (simp; exact rowLe_same fun _ _ _ => rfl)) storeLe.nil) (slotsLe.cons (And.intro rfl (AV.Le.of_eq (congrArg (AV.ms _) (by first | rfl | omega | (simp; omega) | (simp; done) | (simp only [List.length_set] at *; omega))))) (slotsLe.cons (cR rfl rfl) (slotsLe.cons (cR rfl rfl) (slotsLe.cons (cR rfl rfl) (slotsLe.cons (cR rfl rfl) (slotsLe.cons (cR rfl rfl) (slotsLe.cons (cR rfl rfl) (slotsLe.cons (cR rfl rfl) (slotsLe.cons (cR rfl rfl) slotsLe.nil))))))))))
       ·have e := Option.some.inj h50; subst e
        ((conv=>whnf);repeat((first|apply TT mix|apply sE rfl|apply dG (by kernel_rfl)|fail);(conv=>whnf)))
        exact hn50 _ false hc49 (weak_gen [0] rfl rfl (sK rfl (by first | exact rowLe_same fun _ _ _ => rfl | (simp; exact rowLe_same fun _ _ _ => rfl)) storeLe.nil) (slotsLe.cons (And.intro rfl (AV.Le.of_eq (congrArg (AV.ms _) (by first | rfl | omega | (simp; omega) | (simp; done) | (simp only [List.length_set] at *; omega))))) (slotsLe.cons (cR rfl rfl) (slotsLe.cons (cR rfl rfl) (slotsLe.cons (cR rfl rfl) (slotsLe.cons (cR rfl rfl) (slotsLe.cons (cR rfl rfl) (slotsLe.cons (cR rfl rfl) (slotsLe.cons (cR rfl rfl) (slotsLe.cons (cR rfl rfl) slotsLe.nil))))))))))
      ·clear hc49 h50
       intro s15 hc52
       ((conv=>whnf);repeat((first|apply TT mix|apply sE rfl|apply dG (by kernel_rfl)|fail);(conv=>whnf)))
       refine br_b rfl hc52 (fun c53 hc52 => ?_) (fun c53 hc52 => ?_)
       ·((conv=>whnf);repeat((first|apply TT mix|apply sE rfl|apply dG (by kernel_rfl)|fail);(conv=>whnf)))
        refine bnd hc52 (fun y17 hy17 hc52 => ?_)
        refine Or.inr (own_intro (own_call [0] (c_slices_partitionEqualOrdered_rune_own _ _ _ _ _ hy17) rfl (sK rfl (rowLe_ints (by first | rfl | (simp; done) | (rw [List.take_of_length_le (by simp <;> omega)]; first | rfl | (rw [List.take_take, Nat.min_self]; done) | (simp; done)))) storeLe.nil) (cellsLe.cons (And.intro rfl (AV.Le.of_eq (congrArg (AV.ms _) (by first | rfl | omega | (simp; omega) | (simp; done) | (simp only [List.length_set] at *; omega))))) (cellsLe.cons (And.intro rfl (AV.Le.refl _)) (cellsLe.cons (And.intro rfl (AV.Le.refl _)) (cellsLe.cons (And.intro rfl (AV.Le.refl _)) cellsLe.nil)))) rfl) ?_)
        ((conv=>whnf);repeat((first|apply TT mix|apply sE rfl|apply dG (by kernel_rfl)|fail);(conv=>whnf)))
        obtain ⟨p54, hc52⟩ := grdO hc52
        have e := Option.some.inj hc52; subst e
        ((conv=>whnf);repeat((first|apply TT mix|apply sE rfl|apply dG (by kernel_rfl)|fail);(conv=>whnf)))
        exact hn5 _ (y17.1, y17.2, s3.2.2.1, s8.2, s3.2.2.2.2.1, s3.2.2.2.2.2) hs5 (weak_gen [0] rfl rfl (sK rfl (rowLe_ints (by first | rfl | (simp; done) | (rw [List.take_of_length_le (by simp <;> omega)]; first | rfl | (rw [List.take_take, Nat.min_self]; done) | (simp; done)))) storeLe.nil) (slotsLe.cons (And.intro rfl (AV.Le.of_eq (congrArg (AV.ms _) (by first | rfl | omega | (simp; omega) | (simp; done) | (simp only [List.length_set] at *; omega))))) (slotsLe.cons (cR rfl rfl) (slotsLe.cons (cR rfl rfl) (slotsLe.cons (cR rfl rfl) (slotsLe.cons (cR rfl rfl) (slotsLe.cons (cR rfl rfl) slotsLe.nil)))))))
       ·((conv=>whnf);repeat((first|apply TT mix|apply sE rfl|apply dG (by kernel_rfl)|fail);(conv=>whnf)))
        refine bnd hc52 (fun y18 hy18 hc52 => ?_)
        refine Or.inr (own_intro (own_call [0] (c_slices_partitionOrdered_rune_own _ _ _ _ _ hy18) rfl (sK rfl (rowLe_ints (by first | rfl | (simp; done) | (rw [List.take_of_length_le (by simp <;> omega)]; first | rfl | (rw [List.take_take, Nat.min_self]; done) | (simp; done)))) storeLe.nil) (cellsLe.cons (And.intro rfl (AV.Le.of_eq (congrArg (AV.ms _) (by first | rfl | omega | (simp; omega) | (simp; done) | (simp only [List.length_set] at *; omega))))) (cellsLe.cons (And.intro rfl (AV.Le.refl _)) (cellsLe.cons (And.intro rfl (AV.Le.refl _)) (cellsLe.cons (And.intro rfl (AV.Le.refl _)) cellsLe.nil)))) rfl) ?_)
        ((conv=>whnf);repeat((first|apply TT mix|apply sE rfl|apply dG (by kernel_rfl)|fail);(conv=>whnf)))
        obtain ⟨p55, hc52⟩ := grdO hc52
        ((conv=>whnf);repeat((first|apply TT mix|apply sE rfl|apply dG (by kernel_rfl)|fail);(conv=>whnf)))
        refine And.intro (by decide) ?_
        ((conv=>whnf);repeat((first|apply TT mix|apply sE rfl|apply dG (by kernel_rfl)|fail);(conv=>whnf)))
        refine br_b rfl hc52 (fun c56 hc52 => ?_) (fun c56 hc52 => ?_)
        ·((conv=>whnf);repeat((first|apply TT mix|apply sE rfl|apply dG (by kernel_rfl)|fail);(conv=>whnf)))
         refine bnd hc52 (fun y19 hy19 hc52 => ?_)
         refine Or.inr (own_intro (own_call [0] (hrec _ _ _ _ _ hy19) rfl (sK rfl (rowLe_ints (by first | rfl | (simp; done) | (rw [List.take_of_length_le (by simp <;> omega)]; first | rfl | (rw [List.take_take, Nat.min_self]; done) | (simp; done)))) storeLe.nil) (cellsLe.cons (And.intro rfl (AV.Le.of_eq (congrArg (AV.ms _) (by first | rfl | omega | (simp; omega) | (simp; done) | (simp only [List.length_set] at *; omega))))) (cellsLe.cons (And.intro rfl (AV.Le.refl _)) (cellsLe.cons (And.intro rfl (AV.Le.refl _)) (cellsLe.cons (And.intro rfl (AV.Le.refl _)) cellsLe.nil)))) rfl) ?_)
         ((conv=>whnf);repeat((first|apply TT mix|apply sE rfl|apply dG (by kernel_rfl)|fail);(conv=>whnf)))
         obtain ⟨p57, hc52⟩ := grdO hc52
         have e := Option.some.inj hc52; subst e
         ((conv=>whnf);repeat((first|apply TT mix|apply sE rfl|apply dG (by kernel_rfl)|fail);(conv=>whnf)))
         exact hn5 _ (y19, (IntKind.wrap .i64 (y18.2.1 + (1 : Int))), s3.2.2.1, s8.2, (decide ((IntKind.wrap .i64 (y18.2.1 - s3.2.1)) ≥ (IntKind.wrap .i64 (Int.tdiv (IntKind.wrap .i64 (s3.2.2.1 - s3.2.1)) (8 : Int))))), y18.2.2) hs5 (weak_gen [0] rfl rfl (sK rfl (rowLe_ints (by first | rfl | (simp; done) | (rw [List.take_of_length_le (by simp <;> omega)]; first | rfl | (rw [List.take_take, Nat.min_self]; done) | (simp; done)))) storeLe.nil) (slotsLe.cons (And.intro rfl (AV.Le.of_eq (congrArg (AV.ms _) (by first | rfl | omega | (simp; omega) | (simp; done) | (simp only [List.length_set] at *; omega))))) (slotsLe.cons (cR rfl rfl) (slotsLe.cons (cR rfl rfl) (slotsLe.cons (cR rfl rfl) (slotsLe.cons (cR rfl rfl) (slotsLe.cons (cR rfl rfl) slotsLe.nil)))))))
        ·((conv=>whnf);repeat((first|apply TT mix|apply sE rfl|apply dG (by kernel_rfl)|fail);(conv=>whnf)))
         refine bnd hc52 (fun y20 hy20 hc52 => ?_)
         refine Or.inr (own_intro (own_call [0] (hrec _ _ _ _ _ hy20) rfl (sK rfl (rowLe_ints (by first | rfl | (simp; done) | (rw [List.take_of_length_le (by simp <;> omega)]; first | rfl | (rw [List.take_take, Nat.min_self]; done) | (simp; done)))) storeLe.nil) (cellsLe.cons (And.intro rfl (AV.Le.of_eq (congrArg (AV.ms _) (by first | rfl | omega | (simp; omega) | (simp; done) | (simp only [List.length_set] at *; omega))))) (cellsLe.cons (And.intro rfl (AV.Le.refl _)) (cellsLe.cons (And.intro rfl (AV.Le.refl _)) (cellsLe.cons (And.intro rfl (AV.Le.refl _)) cellsLe.nil)))) rfl) ?_)
         ((conv=>whnf);repeat((first|apply TT mix|apply sE rfl|apply dG (by kernel_rfl)|fail);(conv=>whnf)))
         obtain ⟨p58, hc52⟩ := grdO hc52
         have e := Option.some.inj hc52; subst e
         ((conv=>whnf);repeat((first|apply TT mix|apply sE rfl|apply dG (by kernel_rfl)|fail);(conv=>whnf)))
         exact hn5 _ (y20, s3.2.1, y18.2.1, s8.2, (decide ((IntKind.wrap .i64 (s3.2.2.1 - y18.2.1)) ≥ (IntKind.wrap .i64 (Int.tdiv (IntKind.wrap .i64 (s3.2.2.1 - s3.2.1)) (8 : Int))))), y18.2.2) hs5 (weak_gen [0] rfl rfl (sK rfl (rowLe_ints (by first | rfl | (simp; done) | (rw [List.take_of_length_le (by simp <;> omega)]; first | rfl | (rw [List.take_take, Nat.min_self]; done) | (simp; done)))) storeLe.nil) (slotsLe.cons (And.intro rfl (AV.Le.of_eq (congrArg (AV.ms _) (by first | rfl | omega | (simp; omega) | (simp; done) | (simp only [List.length_set] at *; omega))))) (slotsLe.cons (cR rfl rfl) (slotsLe.cons (cR rfl rfl) (slotsLe.cons (cR rfl rfl) (slotsLe.cons (cR rfl rfl) (slotsLe.cons (cR rfl rfl) slotsLe.nil)))))))
theorem c_slices_pdqsortOrdered_rune_own_n : ∀ (n : Nat) (p_data : (List Int)) (p_a : Int) (p_b : Int) (p_limit : Int) (r : (List Int)), m_slices_pdqsortOrdered_rune_own_n n p_data p_a p_b p_limit = some r → ContractM 1 pl 71 [(.ms 0 p_data.length), (.int .i64 p_a), (.int .i64 p_b), (.int .i64 p_limit)] [some ⟨1, 21, (.ints .i32 p_data), false, true⟩] (.tup []) [some ⟨1, 21, (.ints .i32 r), false, true⟩]
 | 0, _, _, _, _, _, h => by cases h
 | n + 1, p_data, p_a, p_b, p_limit, r, h => c_slices_pdqsortOrdered_rune_own_body (m_slices_pdqsortOrdered_rune_own_n n) (c_slices_pdqsortOrdered_rune_own_n n) p_data p_a p_b p_limit r h
theorem c_slices_pdqsortOrdered_rune_own (p_data : (List Int)) (p_a : Int) (p_b : Int) (p_limit : Int) (r : (List Int)) (h : m_slices_pdqsortOrdered_rune_own p_data p_a p_b p_limit = some r) : ContractM 1 pl 71 [(.ms 0 p_data.length), (.int .i64 p_a), (.int .i64 p_b), (.int .i64 p_limit)] [some ⟨1, 21, (.ints .i32 p_data), false, true⟩] (.tup []) [some ⟨1, 21, (.ints .i32 r), false, true⟩] := by
 unfold m_slices_pdqsortOrdered_rune_own at h
 split at h
 ·exact c_slices_pdqsortOrdered_rune_own_n _ p_data p_a p_b p_limit r h
 ·cases h
end Go.Proofs.YtclhniadffljdaaDoor
