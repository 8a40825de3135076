/- Contracts of functions, walked by their models; printed by a program of ours. No condition. -/
import Derived.Test.YtclhniadffljdaaDoorK0
import Derived.Test.YtclhniadffljdaaDoorProg
import Derived.KernelRfl
namespace Go.Proofs.YtclhniadffljdaaDoor
open Go Go.SE
set_option linter.unusedVariables false
set_option linter.unusedSimpArgs false
set_option maxRecDepth 10000
set_option maxHeartbeats 2000000
attribute [local irreducible] Contract iter
theorem c_slices_Sort_rune_rune_own (p_x : (List Int)) (r : (List Int)) (h : m_slices_Sort_rune_rune_own p_x = some r) : ContractM 1 pl 45 [(.ms 0 p_x.length)] [some ⟨1, 21, (.ints .i32 p_x), false, true⟩] (.tup []) [some ⟨1, 21, (.ints .i32 r), false, true⟩] := by
 refine contract_own 1 .z rfl Tryd.func45 rfl (by kernel_rfl) ?_
 ((conv=>whnf);repeat((first|apply TT mix|apply sE rfl|apply dG (by kernel_rfl)|fail);(conv=>whnf)))
 refine bnd h (fun y1 hy1 h => ?_)
 refine Or.inl ⟨_, c_math_bits_Len _ _ hy1, rfl, ?_⟩
 ((conv=>whnf);repeat((first|apply TT mix|apply sE rfl|apply dG (by kernel_rfl)|fail);(conv=>whnf)))
 refine bnd h (fun y2 hy2 h => ?_)
 refine Or.inr (own_intro (own_call [0] (c_slices_pdqsortOrdered_rune_own _ _ _ _ _ hy2) rfl (sK rfl (rowLe_ints (by first | rfl | (simp; done) | (rw [List.take_of_length_le (by simp <;> omega)]; first | rfl | (rw [List.take_take, Nat.min_self]; done) | (simp; done)))) storeLe.nil) (cellsLe.cons (And.intro rfl (AV.Le.of_eq (congrArg (AV.ms _) (by first | rfl | omega | (simp; omega) | (simp; done) | (simp only [List.length_set] at *; omega))))) (cellsLe.cons (And.intro rfl (AV.Le.refl _)) (cellsLe.cons (And.intro rfl (AV.Le.refl _)) (cellsLe.cons (And.intro rfl (AV.Le.refl _)) cellsLe.nil)))) rfl) ?_)
 ((conv=>whnf);repeat((first|apply TT mix|apply sE rfl|apply dG (by kernel_rfl)|fail);(conv=>whnf)))
 obtain ⟨p3, h⟩ := grdO h
 have e := Option.some.inj h; subst e
 ((conv=>whnf);repeat((first|apply TT mix|apply sE rfl|apply dG (by kernel_rfl)|fail);(conv=>whnf)))
 exact Or.inr (Or.inr (weak_gen [0] rfl rfl (sK rfl (rowLe_ints (by first | rfl | (simp; done) | (rw [List.take_of_length_le (by simp <;> omega)]; first | rfl | (rw [List.take_take, Nat.min_self]; done) | (simp; done)))) storeLe.nil) (slotsLe.cons (cR rfl rfl) slotsLe.nil)))
theorem c_slices_Compact_rune_rune_own (p_s : (List Int)) (r : (List Int) × Nat) (h : m_slices_Compact_rune_rune_own p_s = some r) : ContractM 1 pl 46 [(.ms 0 p_s.length)] [some ⟨1, 21, (.ints .i32 p_s), false, true⟩] (.ms 0 r.2) [some ⟨1, 21, (.ints .i32 r.1), false, true⟩] := by
 refine contract_own 1 (.t false .z (.t false .z (.t true (.t false .z (.t false (.t false (.t false .z (.t true (.t false (.t false .z (.t false (.t false .z (.t true .z .z)) .z)) .z) .z)) .z) .z)) .z))) rfl Tryd.func46 rfl (by kernel_rfl) ?_
 ((conv=>whnf);repeat((first|apply TT mix|apply sE rfl|apply dG (by kernel_rfl)|fail);(conv=>whnf)))
 refine br_b rfl h (fun c20 h => ?_) (fun c20 h => ?_)
 ·have e := Option.some.inj h; subst e
  ((conv=>whnf);repeat((first|apply TT mix|apply sE rfl|apply dG (by kernel_rfl)|fail);(conv=>whnf)))
  exact Or.inr (Or.inr (weak_gen [0] rfl rfl (sK rfl (rowLe_ints (by first | rfl | (simp; done) | (rw [List.take_of_length_le (by simp <;> omega)]; first | rfl | (rw [List.take_take, Nat.min_self]; done) | (simp; done)))) storeLe.nil) (slotsLe.cons (cR rfl rfl) slotsLe.nil)))
 ·((conv=>whnf);repeat((first|apply TT mix|apply sE rfl|apply dG (by kernel_rfl)|fail);(conv=>whnf)))
  refine bnd h (fun x21 h21 h => ?_)
  refine cut_at (fun s1 : Unit => mkF 61 [(0, (.ms 0 p_s.length))] [some ⟨1, 21, (.ints .i32 p_s), false, true⟩]) (fun s1 : Unit => some (p_s, p_s.length) = some r) ?_ ?_
  ·intro Kn21 hn21
   ((conv=>whnf);repeat((first|apply TT mix|apply sE rfl|apply dG (by kernel_rfl)|fail);(conv=>whnf)))
   refine loop_iter (fun s4 : Int => mkF 61 [(0, (.ms 0 p_s.length)), (3, (.int .i64 s4))] [some ⟨1, 21, (.ints .i32 p_s), false, true⟩]) h21 (weak_gen [0] rfl rfl (sK rfl (by first | exact rowLe_same fun _ _ _ => rfl | (simp; exact rowLe_same fun _ _ _ => rfl)) storeLe.nil) (slotsLe.cons (And.intro rfl (AV.Le.of_eq (congrArg (AV.ms _) (by first | rfl | omega | (simp; omega) | (simp; done) | (simp only [List.length_set] at *; omega))))) (slotsLe.cons (cR rfl rfl) slotsLe.nil))) ?_
   intro k6 s4 st6 Kn6 hn6 h6_ hs6
   ((conv=>whnf);repeat((first|apply TT mix|apply sE rfl|apply dG (by kernel_rfl)|fail);(conv=>whnf)))
   refine br_b rfl h6_ (fun c22 h6_ => ?_) (fun c22 h6_ => ?_)
   ·((conv=>whnf);repeat((first|apply TT mix|apply sE rfl|apply dG (by kernel_rfl)|fail);(conv=>whnf)))
    refine bnd h6_ (fun x23 h23 h6_ => ?_)
    refine cut_at (fun s7 : Unit => mkF 61 [(0, (.ms 0 p_s.length)), (3, (.int .i64 s4))] [some ⟨1, 21, (.ints .i32 p_s), false, true⟩]) (fun s7 : Unit => some (.next (IntKind.wrap .i64 (s4 + (1 : Int)))) = some st6) ?_ ?_
    ·intro Kn23 hn23
     ((conv=>whnf);repeat((first|apply TT mix|apply sE rfl|apply dG (by kernel_rfl)|fail);(conv=>whnf)))
     refine grd2 rfl rfl h23 (fun h23 => ?_)
     ((conv=>whnf);repeat((first|apply TT mix|apply sE rfl|apply dG (by kernel_rfl)|fail);(conv=>whnf)))
     refine grd2 rfl rfl h23 (fun h23 => ?_)
     ((conv=>whnf);repeat((first|apply TT mix|apply sE rfl|apply dG (by kernel_rfl)|fail);(conv=>whnf)))
     refine br_b rfl h23 (fun c24 h23 => ?_) (fun c24 h23 => ?_)
     ·((conv=>whnf);repeat((first|apply TT mix|apply sE rfl|apply dG (by kernel_rfl)|fail);(conv=>whnf)))
      have gh23 := gOf h23
      refine grd3 rfl rfl rfl h23 (fun h23 => ?_)
      ((conv=>whnf);repeat((first|apply TT mix|apply sE rfl|apply dG (by kernel_rfl)|fail);(conv=>whnf)))
      refine bnd h23 (fun x25 h25 h23 => ?_)
      refine cut_at (fun s9 : (List Int) × Int => mkF 61 [(0, (.ms 0 s9.1.length)), (3, (.int .i64 s9.2))] [some ⟨1, 21, (.ints .i32 s9.1), false, true⟩]) (fun s9 : (List Int) × Int => m_slices_Compact_rune_rune_own_K10 s9 = some x23) ?_ ?_
      ·intro Kn25 hn25
       ((conv=>whnf);repeat((first|apply TT mix|apply sE rfl|apply dG (by kernel_rfl)|fail);(conv=>whnf)))
       refine loop_iter (fun s12 : (List Int) × Int × Int => mkF 61 [(0, (.ms 0 s12.1.length)), (3, (.int .i64 s12.2.1)), (4, (.mso 0 (s4.toNat) (p_s.length - (s4.toNat)))), (5, (.int .i64 s12.2.2))] [some ⟨1, 21, (.ints .i32 s12.1), false, true⟩]) h25 (weak_gen [0] rfl rfl (sK rfl (rowLe_ints (by first | rfl | (simp; done) | (rw [List.take_of_length_le (by simp <;> omega)]; first | rfl | (rw [List.take_take, Nat.min_self]; done) | (simp; done)))) storeLe.nil) (slotsLe.cons (And.intro rfl (AV.Le.of_eq (congrArg (AV.ms _) (by first | rfl | omega | (simp; omega) | (simp; done) | (simp only [List.length_set] at *; omega))))) (slotsLe.cons (cR rfl rfl) (slotsLe.cons (cR rfl rfl) (slotsLe.cons (cR rfl rfl) slotsLe.nil))))) ?_
       intro k14 s12 st14 Kn14 hn14 h14_ hs14
       ((conv=>whnf);repeat((first|apply TT mix|apply sE rfl|apply dG (by kernel_rfl)|fail);(conv=>whnf)))
       refine br_b rfl h14_ (fun c26 h14_ => ?_) (fun c26 h14_ => ?_)
       ·((conv=>whnf);repeat((first|apply TT mix|apply sE rfl|apply dG (by kernel_rfl)|fail);(conv=>whnf)))
        refine grd2 rfl rfl h14_ (fun h14_ => ?_)
        ((conv=>whnf);repeat((first|apply TT mix|apply sE rfl|apply dG (by kernel_rfl)|fail);(conv=>whnf)))
        refine grd2 rfl rfl h14_ (fun h14_ => ?_)
        ((conv=>whnf);repeat((first|apply TT mix|apply sE rfl|apply dG (by kernel_rfl)|fail);(conv=>whnf)))
        refine br_b rfl h14_ (fun c27 h14_ => ?_) (fun c27 h14_ => ?_)
        ·((conv=>whnf);repeat((first|apply TT mix|apply sE rfl|apply dG (by kernel_rfl)|fail);(conv=>whnf)))
         refine grd2 rfl rfl h14_ (fun h14_ => ?_)
         ((conv=>whnf);repeat((first|apply TT mix|apply sE rfl|apply dG (by kernel_rfl)|fail);(conv=>whnf)))
         refine grd2 rfl rfl h14_ (fun h14_ => ?_)
         have e := Option.some.inj h14_; subst e
         ((conv=>whnf);repeat((first|apply TT mix|apply sE rfl|apply dG (by kernel_rfl)|fail);(conv=>whnf)))
         exact hn14 _ ((s12.1.set (s12.2.1.toNat) (s12.1.getD ((s4.toNat) + (s12.2.2.toNat)) 0)), (IntKind.wrap .i64 (s12.2.1 + (1 : Int))), (IntKind.wrap .i64 (s12.2.2 + (1 : Int)))) hs14 (weak_gen [0] rfl rfl (sK rfl (rowLe_ints (by first | rfl | (simp; done) | (rw [List.take_of_length_le (by simp <;> omega)]; first | rfl | (rw [List.take_take, Nat.min_self]; done) | (simp; done)))) storeLe.nil) (slotsLe.cons (And.intro rfl (AV.Le.of_eq (congrArg (AV.ms _) (by first | rfl | omega | (simp; omega) | (simp; done) | (simp only [List.length_set] at *; omega))))) (slotsLe.cons (cR rfl rfl) (slotsLe.cons (cR rfl rfl) (slotsLe.cons (cR rfl rfl) slotsLe.nil)))))
        ·have e := Option.some.inj h14_; subst e
         ((conv=>whnf);repeat((first|apply TT mix|apply sE rfl|apply dG (by kernel_rfl)|fail);(conv=>whnf)))
         exact hn14 _ (s12.1, s12.2.1, (IntKind.wrap .i64 (s12.2.2 + (1 : Int)))) hs14 (weak_gen [0] rfl rfl (sK rfl (rowLe_ints (by first | rfl | (simp; done) | (rw [List.take_of_length_le (by simp <;> omega)]; first | rfl | (rw [List.take_take, Nat.min_self]; done) | (simp; done)))) storeLe.nil) (slotsLe.cons (And.intro rfl (AV.Le.of_eq (congrArg (AV.ms _) (by first | rfl | omega | (simp; omega) | (simp; done) | (simp only [List.length_set] at *; omega))))) (slotsLe.cons (cR rfl rfl) (slotsLe.cons (cR rfl rfl) (slotsLe.cons (cR rfl rfl) slotsLe.nil)))))
       ·have e := Option.some.inj h14_; subst e
        have e := done_out hs14; subst e
        ((conv=>whnf);repeat((first|apply TT mix|apply sE rfl|apply dG (by kernel_rfl)|fail);(conv=>whnf)))
        exact hn25 _ (s12.1, s12.2.1) h23 (weak_gen [0] rfl rfl (sK rfl (rowLe_ints (by first | rfl | (simp; done) | (rw [List.take_of_length_le (by simp <;> omega)]; first | rfl | (rw [List.take_take, Nat.min_self]; done) | (simp; done)))) storeLe.nil) (slotsLe.cons (And.intro rfl (AV.Le.of_eq (congrArg (AV.ms _) (by first | rfl | omega | (simp; omega) | (simp; done) | (simp only [List.length_set] at *; omega))))) (slotsLe.cons (cR rfl rfl) slotsLe.nil)))
      ·clear h23 h25
       intro s9 hc28
       ((conv=>whnf);repeat((first|apply TT mix|apply sE rfl|apply dG (by kernel_rfl)|fail);(conv=>whnf)))
       have ghc28 := gOf hc28
       refine grd3 rfl rfl rfl hc28 (fun hc28 => ?_)
       ((conv=>whnf);repeat((first|apply TT mix|apply sE rfl|apply dG (by kernel_rfl)|fail);(conv=>whnf)))
       obtain ⟨p29, hc28⟩ := grdO hc28
       refine And.intro p29 ?_
       ((conv=>whnf);repeat((first|apply TT mix|apply sE rfl|apply dG (by kernel_rfl)|fail);(conv=>whnf)))
       have ghc28 := gOf hc28
       refine grd2 rfl rfl hc28 (fun hc28 => ?_)
       have e := Option.some.inj hc28; subst e
       have e := Option.some.inj h6_; subst e
       have e := done_out hs6; subst e
       have e := Option.some.inj h; subst e
       ((conv=>whnf);repeat((first|apply TT mix|apply sE rfl|apply dG (by kernel_rfl)|fail);(conv=>whnf)))
       exact Or.inr (Or.inr (weak_gen [0] rfl rfl (sK rfl (rowLe_ints (by first | rfl | (simp; done) | (rw [List.take_of_length_le (by simp <;> omega)]; first | rfl | (rw [List.take_take, Nat.min_self]; done) | (simp; done)))) storeLe.nil) (slotsLe.cons (cR rfl rfl) slotsLe.nil)))
     ·have e := Option.some.inj h23; subst e
      ((conv=>whnf);repeat((first|apply TT mix|apply sE rfl|apply dG (by kernel_rfl)|fail);(conv=>whnf)))
      exact hn23 _ () h6_ (weak_gen [0] rfl rfl (sK rfl (by first | exact rowLe_same fun _ _ _ => rfl | (simp; exact rowLe_same fun _ _ _ => rfl)) storeLe.nil) (slotsLe.cons (And.intro rfl (AV.Le.of_eq (congrArg (AV.ms _) (by first | rfl | omega | (simp; omega) | (simp; done) | (simp only [List.length_set] at *; omega))))) (slotsLe.cons (cR rfl rfl) slotsLe.nil)))
    ·clear h6_ h23
     intro s7 hc30
     have e := Option.some.inj hc30; subst e
     ((conv=>whnf);repeat((first|apply TT mix|apply sE rfl|apply dG (by kernel_rfl)|fail);(conv=>whnf)))
     exact hn6 _ (IntKind.wrap .i64 (s4 + (1 : Int))) hs6 (weak_gen [0] rfl rfl (sK rfl (by first | exact rowLe_same fun _ _ _ => rfl | (simp; exact rowLe_same fun _ _ _ => rfl)) storeLe.nil) (slotsLe.cons (And.intro rfl (AV.Le.of_eq (congrArg (AV.ms _) (by first | rfl | omega | (simp; omega) | (simp; done) | (simp only [List.length_set] at *; omega))))) (slotsLe.cons (cR rfl rfl) slotsLe.nil)))
   ·have e := Option.some.inj h6_; subst e
    have e := done_out hs6; subst e
    ((conv=>whnf);repeat((first|apply TT mix|apply sE rfl|apply dG (by kernel_rfl)|fail);(conv=>whnf)))
    exact hn21 _ () h (weak_gen [0] rfl rfl (sK rfl (by first | exact rowLe_same fun _ _ _ => rfl | (simp; exact rowLe_same fun _ _ _ => rfl)) storeLe.nil) (slotsLe.cons (And.intro rfl (AV.Le.of_eq (congrArg (AV.ms _) (by first | rfl | omega | (simp; omega) | (simp; done) | (simp only [List.length_set] at *; omega))))) slotsLe.nil))
  ·clear h h21
   intro s1 hc31
   have e := Option.some.inj hc31; subst e
   ((conv=>whnf);repeat((first|apply TT mix|apply sE rfl|apply dG (by kernel_rfl)|fail);(conv=>whnf)))
   exact Or.inr (Or.inr (weak_gen [0] rfl rfl (sK rfl (rowLe_ints (by first | rfl | (simp; done) | (rw [List.take_of_length_le (by simp <;> omega)]; first | rfl | (rw [List.take_take, Nat.min_self]; done) | (simp; done)))) storeLe.nil) (slotsLe.cons (cR rfl rfl) slotsLe.nil)))
theorem c_puny_within (p_n : Int) (p_low : Int) (p_high : Int) (r : Int) (h : m_puny_within p_n p_low p_high = some r) : Contract pl 55 [(AV.int .i64 p_n), (AV.int .i64 p_low), (AV.int .i64 p_high)] [] (AV.int .i64 r) [] := by
 refine contract_of .z Tryd.func55 rfl (by kernel_rfl) ?_
 have e := Option.some.inj h; subst e
 ((conv=>whnf);repeat((first|apply TT mix|apply sE rfl|apply dG (by kernel_rfl)|fail);(conv=>whnf)))
 exact And.intro (AV.Le.refl _) rfl
theorem c_puny_bias_bound_own (p_b_0 : Int) (p_b_1 : Bool) (p_b_2 : Bool) (p_b_3 : (List Int)) (p_b_4 : Int) (p_b_5 : Int) (p_b_6 : Int) (p_k : Int) (r : Int × Bool × Bool × Int × Int × Int × Int) (h : m_puny_bias_bound_own p_b_0 p_b_1 p_b_2 p_b_3 p_b_4 p_b_5 p_b_6 p_k = some r) : ContractM 2 pl 78 [(.mp 0 0 0), (.int .i64 p_k)] [some ⟨7, 77, (.vals [(.agg [(.int .i64 p_b_0), (.bool p_b_1), (.mpn 0 0 2 p_b_2), (.ms 1 p_b_3.length), (.int .i32 p_b_4), (.int .i64 p_b_5), (.int .i64 p_b_6)])]), false, false⟩, some ⟨1, 5, (.ints .u8 p_b_3), false, true⟩] (.int .i64 r.2.2.2.2.2.2) [some ⟨7, 77, (.vals [(.agg [(.int .i64 r.1), (.bool r.2.1), (.mpn 0 0 2 r.2.2.1), (.ms 1 p_b_3.length), (.int .i32 r.2.2.2.1), (.int .i64 r.2.2.2.2.1), (.int .i64 r.2.2.2.2.2.1)])]), false, false⟩, some ⟨1, 5, (.ints .u8 p_b_3), false, true⟩] := by
 refine contract_own 2 .z rfl Tryd.func78 rfl (by kernel_rfl) ?_
 ((conv=>whnf);repeat((first|apply TT mix|apply sE rfl|apply dG (by kernel_rfl)|fail);(conv=>whnf)))
 refine bnd h (fun y1 hy1 h => ?_)
 refine Or.inl ⟨_, c_puny_within _ _ _ _ hy1, rfl, ?_⟩
 have e := Option.some.inj h; subst e
 ((conv=>whnf);repeat((first|apply TT mix|apply sE rfl|apply dG (by kernel_rfl)|fail);(conv=>whnf)))
 exact Or.inr (Or.inr (weak_gen [0, 1] rfl rfl (sK rfl (rowLe_vals (valsLe.cons (cellsLe.cons (cR rfl rfl) (cellsLe.cons (cR rfl rfl) (cellsLe.cons (cR rfl rfl) (cellsLe.cons (And.intro rfl (AV.Le.of_eq (congrArg (AV.ms _) (by first | rfl | omega | (simp; omega) | (simp; done) | (simp only [List.length_set] at *; omega))))) (cellsLe.cons (cR rfl rfl) (cellsLe.cons (cR rfl rfl) (cellsLe.cons (cR rfl rfl) cellsLe.nil))))))) valsLe.nil)) (sK rfl (by first | exact rowLe_same fun _ _ _ => rfl | (simp; exact rowLe_same fun _ _ _ => rfl)) storeLe.nil)) (slotsLe.cons (cR rfl rfl) slotsLe.nil)))
theorem c_puny_sign (p_n : Int) (r : Int) (h : m_puny_sign p_n = some r) : Contract pl 79 [(AV.int .i64 p_n)] [] (AV.int .u8 r) [] := by
 refine contract_of .z Tryd.func79 rfl (by kernel_rfl) ?_
 ((conv=>whnf);repeat((first|apply TT mix|apply sE rfl|apply dG (by kernel_rfl)|fail);(conv=>whnf)))
 refine br_b rfl h (fun c1 h => ?_) (fun c1 h => ?_)
 ·have e := Option.some.inj h; subst e
  ((conv=>whnf);repeat((first|apply TT mix|apply sE rfl|apply dG (by kernel_rfl)|fail);(conv=>whnf)))
  exact And.intro (AV.Le.refl _) rfl
 ·have e := Option.some.inj h; subst e
  ((conv=>whnf);repeat((first|apply TT mix|apply sE rfl|apply dG (by kernel_rfl)|fail);(conv=>whnf)))
  exact And.intro (AV.Le.refl _) rfl
theorem c_puny_bias_digits_own (p_b_0 : Int) (p_b_1 : Bool) (p_b_2 : Bool) (p_b_3 : (List Int)) (p_b_4 : Int) (p_b_5 : Int) (p_b_6 : Int) (p_d : Int) (r : Int × Bool × Bool × Int × Int × Int × ByteArray) (h : m_puny_bias_digits_own p_b_0 p_b_1 p_b_2 p_b_3 p_b_4 p_b_5 p_b_6 p_d = some r) : ContractM 2 pl 57 [(.mp 0 0 0), (.int .i64 p_d)] [some ⟨7, 77, (.vals [(.agg [(.int .i64 p_b_0), (.bool p_b_1), (.mpn 0 0 2 p_b_2), (.ms 1 p_b_3.length), (.int .i32 p_b_4), (.int .i64 p_b_5), (.int .i64 p_b_6)])]), false, false⟩, some ⟨1, 5, (.ints .u8 p_b_3), false, true⟩] (.str r.2.2.2.2.2.2) [some ⟨7, 77, (.vals [(.agg [(.int .i64 r.1), (.bool r.2.1), (.mpn 0 0 2 r.2.2.1), (.ms 1 p_b_3.length), (.int .i32 r.2.2.2.1), (.int .i64 r.2.2.2.2.1), (.int .i64 r.2.2.2.2.2.1)])]), false, false⟩, some ⟨1, 5, (.ints .u8 p_b_3), false, true⟩] := by
 refine contract_own 2 .z rfl Tryd.func57 rfl (by kernel_rfl) ?_
 ((conv=>whnf);repeat((first|apply TT mix|apply sE rfl|apply dG (by kernel_rfl)|fail);(conv=>whnf)))
 refine bnd h (fun x4 hx4 h => ?_)
 refine loop_iter (fun s2 : Int × Bool × Bool × Int × Int × Int × Int × (List Int) × Int => mkF 40 [(0, (.mp 0 0 0)), (1, (.int .i64 s2.2.2.2.2.2.2.1)), (5, (.ms 2 s2.2.2.2.2.2.2.2.1.length)), (6, (.int .i64 s2.2.2.2.2.2.2.2.2))] [some ⟨7, 77, (.vals [(.agg [(.int .i64 s2.1), (.bool s2.2.1), (.mpn 0 0 2 s2.2.2.1), (.ms 1 p_b_3.length), (.int .i32 s2.2.2.2.1), (.int .i64 s2.2.2.2.2.1), (.int .i64 s2.2.2.2.2.2.1)])]), false, false⟩, some ⟨1, 5, (.ints .u8 p_b_3), false, true⟩, some ⟨1, 5, (.ints .u8 s2.2.2.2.2.2.2.2.1), false, true⟩]) hx4 (weak_trans (weak_nil 5 1 5 (.ints .u8 []) _ rfl rfl trivial (by first | exact Nat.zero_le _ | (simp; done) | decide)) (weak_gen [0, 1, 2] rfl rfl (sK rfl (rowLe_vals (valsLe.cons (cellsLe.cons (cR rfl rfl) (cellsLe.cons (cR rfl rfl) (cellsLe.cons (cR rfl rfl) (cellsLe.cons (And.intro rfl (AV.Le.of_eq (congrArg (AV.ms _) (by first | rfl | omega | (simp; omega) | (simp; done) | (simp only [List.length_set] at *; omega))))) (cellsLe.cons (cR rfl rfl) (cellsLe.cons (cR rfl rfl) (cellsLe.cons (cR rfl rfl) cellsLe.nil))))))) valsLe.nil)) (sK rfl (by first | exact rowLe_same fun _ _ _ => rfl | (simp; exact rowLe_same fun _ _ _ => rfl)) (sK rfl (rowLe_ints (by first | rfl | (simp; done) | (rw [List.take_of_length_le (by simp <;> omega)]; first | rfl | (rw [List.take_take, Nat.min_self]; done) | (simp; done)))) storeLe.nil))) (sQ rfl rfl))) ?_
 intro k4 s2 st4 Kn4 hn4 h4 hs4
 ((conv=>whnf);repeat((first|apply TT mix|apply sE rfl|apply dG (by kernel_rfl)|fail);(conv=>whnf)))
 refine bnd h4 (fun y5 hy5 h4 => ?_)
 refine own_intro (own_call [0, 1] (c_puny_bias_bound_own _ _ _ _ _ _ _ _ _ hy5) rfl (sK rfl (rowLe_vals (valsLe.cons (cellsLe.cons (cR rfl rfl) (cellsLe.cons (cR rfl rfl) (cellsLe.cons (cR rfl rfl) (cellsLe.cons (And.intro rfl (AV.Le.of_eq (congrArg (AV.ms _) (by first | rfl | omega | (simp; omega) | (simp; done) | (simp only [List.length_set] at *; omega))))) (cellsLe.cons (cR rfl rfl) (cellsLe.cons (cR rfl rfl) (cellsLe.cons (cR rfl rfl) cellsLe.nil))))))) valsLe.nil)) (sK rfl (rowLe_ints (by first | rfl | (simp; done) | (rw [List.take_of_length_le (by simp <;> omega)]; first | rfl | (rw [List.take_take, Nat.min_self]; done) | (simp; done)))) storeLe.nil)) (cellsLe.cons (And.intro rfl (AV.Le.refl _)) (cellsLe.cons (And.intro rfl (AV.Le.refl _)) cellsLe.nil)) rfl) ?_
 ((conv=>whnf);repeat((first|apply TT mix|apply sE rfl|apply dG (by kernel_rfl)|fail);(conv=>whnf)))
 refine br_b rfl h4 (fun c9 h4 => ?_) (fun c9 h4 => ?_)
 ·((conv=>whnf);repeat((first|apply TT mix|apply sE rfl|apply dG (by kernel_rfl)|fail);(conv=>whnf)))
  refine bnd h4 (fun y6 hy6 h4 => ?_)
  refine Or.inl ⟨_, c_puny_sign _ _ hy6, rfl, ?_⟩
  ((conv=>whnf);repeat((first|apply TT mix|apply sE rfl|apply dG (by kernel_rfl)|fail);(conv=>whnf)))
  obtain ⟨p10, h4⟩ := grdO h4
  refine ⟨[], 1, (.ints .u8 [y6]), ⟨by simp [Row.len] <;> omega, rfl, _, rfl, by simp [Row.len] <;> omega, fun j hj => .inl rfl⟩, trivial, fun j hj => rfl, ?_⟩
  conv => whnf
  refine ⟨by simp [Row.len]; try omega, p10, by omega, ?_⟩
  ((conv=>whnf);repeat((first|apply TT mix|apply sE rfl|apply dG (by kernel_rfl)|fail);(conv=>whnf)))
  refine ⟨(s2.2.2.2.2.2.2.2.1 ++ [y6]), by first | rfl | simp, fun j hj => by first | rfl | exact lits_u8 _ j hj | (show AV.int .u8 _ = _; simp; done) | (simp [Row.get]), ?_⟩
  have e := Option.some.inj h4; subst e
  have e := done_out hs4; subst e
  have e := Option.some.inj h; subst e
  ((conv=>whnf);repeat((first|apply TT mix|apply sE rfl|apply dG (by kernel_rfl)|fail);(conv=>whnf)))
  exact Or.inr (Or.inr (weak_gen [0, 1] rfl rfl (sK rfl (rowLe_vals (valsLe.cons (cellsLe.cons (cR rfl rfl) (cellsLe.cons (cR rfl rfl) (cellsLe.cons (cR rfl rfl) (cellsLe.cons (And.intro rfl (AV.Le.of_eq (congrArg (AV.ms _) (by first | rfl | omega | (simp; omega) | (simp; done) | (simp only [List.length_set] at *; omega))))) (cellsLe.cons (cR rfl rfl) (cellsLe.cons (cR rfl rfl) (cellsLe.cons (cR rfl rfl) cellsLe.nil))))))) valsLe.nil)) (sK rfl (by first | exact rowLe_same fun _ _ _ => rfl | (simp; exact rowLe_same fun _ _ _ => rfl)) storeLe.nil)) (slotsLe.cons (cR rfl rfl) slotsLe.nil)))
 ·((conv=>whnf);repeat((first|apply TT mix|apply sE rfl|apply dG (by kernel_rfl)|fail);(conv=>whnf)))
  refine grd1 rfl h4 (fun h4 => ?_)
  ((conv=>whnf);repeat((first|apply TT mix|apply sE rfl|apply dG (by kernel_rfl)|fail);(conv=>whnf)))
  refine bnd h4 (fun y7 hy7 h4 => ?_)
  refine Or.inl ⟨_, c_puny_sign _ _ hy7, rfl, ?_⟩
  ((conv=>whnf);repeat((first|apply TT mix|apply sE rfl|apply dG (by kernel_rfl)|fail);(conv=>whnf)))
  obtain ⟨p11, h4⟩ := grdO h4
  refine ⟨[], 1, (.ints .u8 [y7]), ⟨by simp [Row.len] <;> omega, rfl, _, rfl, by simp [Row.len] <;> omega, fun j hj => .inl rfl⟩, trivial, fun j hj => rfl, ?_⟩
  conv => whnf
  refine ⟨by simp [Row.len]; try omega, p11, by omega, ?_⟩
  ((conv=>whnf);repeat((first|apply TT mix|apply sE rfl|apply dG (by kernel_rfl)|fail);(conv=>whnf)))
  refine grd1 rfl h4 (fun h4 => ?_)
  have e := Option.some.inj h4; subst e
  ((conv=>whnf);repeat((first|apply TT mix|apply sE rfl|apply dG (by kernel_rfl)|fail);(conv=>whnf)))
  exact hn4 _ (y5.1, y5.2.1, y5.2.2.1, y5.2.2.2.1, y5.2.2.2.2.1, y5.2.2.2.2.2.1, (IntKind.wrap .i64 (Int.tdiv (IntKind.wrap .i64 (s2.2.2.2.2.2.2.1 - y5.2.2.2.2.2.2)) (IntKind.wrap .i64 ((36 : Int) - y5.2.2.2.2.2.2)))), (s2.2.2.2.2.2.2.2.1 ++ [y7]), (IntKind.wrap .i64 (s2.2.2.2.2.2.2.2.2 + (1 : Int)))) hs4 (weak_gen [0, 1, 4] rfl rfl (sK rfl (rowLe_vals (valsLe.cons (cellsLe.cons (cR rfl rfl) (cellsLe.cons (cR rfl rfl) (cellsLe.cons (cR rfl rfl) (cellsLe.cons (And.intro rfl (AV.Le.of_eq (congrArg (AV.ms _) (by first | rfl | omega | (simp; omega) | (simp; done) | (simp only [List.length_set] at *; omega))))) (cellsLe.cons (cR rfl rfl) (cellsLe.cons (cR rfl rfl) (cellsLe.cons (cR rfl rfl) cellsLe.nil))))))) valsLe.nil)) (sK rfl (by first | exact rowLe_same fun _ _ _ => rfl | (simp; exact rowLe_same fun _ _ _ => rfl)) (sK rfl (rowLe_ints (by first | rfl | (simp; done) | (rw [List.take_of_length_le (by simp <;> omega)]; first | rfl | (rw [List.take_take, Nat.min_self]; done) | (simp; done)))) storeLe.nil))) (slotsLe.cons (cR rfl rfl) (slotsLe.cons (cR rfl rfl) (slotsLe.cons (And.intro rfl (AV.Le.of_eq (congrArg (AV.ms _) (by first | rfl | omega | (simp; omega) | (simp; done) | (simp only [List.length_set] at *; omega))))) (slotsLe.cons (cR rfl rfl) slotsLe.nil)))))
theorem c_strings_Builder_WriteString_own (p_b_0 : Int) (p_b_1 : Bool) (p_b_2 : Bool) (p_b_3 : (List Int)) (p_b_4 : Int) (p_b_5 : Int) (p_b_6 : Int) (p_s : ByteArray) (r : Int × Bool × Bool × (List Int) × Int × Int × Int × Int) (h : m_strings_Builder_WriteString_own p_b_0 p_b_1 p_b_2 p_b_3 p_b_4 p_b_5 p_b_6 p_s = some r) : ContractM 1 pl 100 [(.mp 0 0 2), (.str p_s)] [some ⟨7, 77, (.vals [(.agg [(.int .i64 p_b_0), (.bool p_b_1), (.mpn 0 0 2 p_b_2), (.ms 1 p_b_3.length), (.int .i32 p_b_4), (.int .i64 p_b_5), (.int .i64 p_b_6)])]), false, false⟩, some ⟨1, 5, (.ints .u8 p_b_3), false, true⟩] (.tup [(.int .i64 r.2.2.2.2.2.2.2), .nili]) [some ⟨7, 77, (.vals [(.agg [(.int .i64 r.1), (.bool r.2.1), (.mpn 0 0 2 r.2.2.1), (.ms 1 r.2.2.2.1.length), (.int .i32 r.2.2.2.2.1), (.int .i64 r.2.2.2.2.2.1), (.int .i64 r.2.2.2.2.2.2.1)])]), false, false⟩, some ⟨1, 5, (.ints .u8 r.2.2.2.1), false, true⟩] := by
 refine contract_own 1 .z rfl Tryd.func100 rfl (by kernel_rfl) ?_
 ((conv=>whnf);repeat((first|apply TT mix|apply sE rfl|apply dG (by kernel_rfl)|fail);(conv=>whnf)))
 refine bnd h (fun y1 hy1 h => ?_)
 refine own_intro (own_call [0, 1] (c_strings_Builder_copyCheck_own _ _ _ _ _ _ _ _ hy1) rfl (sK rfl (rowLe_vals (valsLe.cons (cellsLe.cons (cR rfl rfl) (cellsLe.cons (cR rfl rfl) (cellsLe.cons (cR rfl rfl) (cellsLe.cons (And.intro rfl (AV.Le.of_eq (congrArg (AV.ms _) (by first | rfl | omega | (simp; omega) | (simp; done) | (simp only [List.length_set] at *; omega))))) (cellsLe.cons (cR rfl rfl) (cellsLe.cons (cR rfl rfl) (cellsLe.cons (cR rfl rfl) cellsLe.nil))))))) valsLe.nil)) (sK rfl (rowLe_ints (by first | rfl | (simp; done) | (rw [List.take_of_length_le (by simp <;> omega)]; first | rfl | (rw [List.take_take, Nat.min_self]; done) | (simp; done)))) storeLe.nil)) (cellsLe.cons (And.intro rfl (AV.Le.refl _)) cellsLe.nil) rfl) ?_
 ((conv=>whnf);repeat((first|apply TT mix|apply sE rfl|apply dG (by kernel_rfl)|fail);(conv=>whnf)))
 obtain ⟨p2, h⟩ := grdO h
 refine And.intro (by simp [Row.len]; try omega) (And.intro p2 ?_)
 have e := Option.some.inj h; subst e
 ((conv=>whnf);repeat((first|apply TT mix|apply sE rfl|apply dG (by kernel_rfl)|fail);(conv=>whnf)))
 exact Or.inr (Or.inr (weak_gen [0, 2] rfl rfl (sK rfl (rowLe_vals (valsLe.cons (cellsLe.cons (cR rfl rfl) (cellsLe.cons (cR rfl rfl) (cellsLe.cons (cR rfl rfl) (cellsLe.cons (And.intro rfl (AV.Le.of_eq (congrArg (AV.ms _) (by first | rfl | omega | (simp; omega) | (simp; done) | (simp only [List.length_set] at *; omega))))) (cellsLe.cons (cR rfl rfl) (cellsLe.cons (cR rfl rfl) (cellsLe.cons (cR rfl rfl) cellsLe.nil))))))) valsLe.nil)) (sK rfl (rowLe_ints (by first | rfl | (simp; done) | (rw [List.take_of_length_le (by simp <;> omega)]; first | rfl | (rw [List.take_take, Nat.min_self]; done) | (simp; done)))) storeLe.nil)) (slotsLe.cons (cR rfl rfl) slotsLe.nil)))
theorem c_puny_Bias (p_d : Int) (p_many : Int) (p_first : Bool) (r : Int) (h : m_puny_Bias p_d p_many p_first = some r) : Contract pl 26 [(AV.int .i64 p_d), (AV.int .i64 p_many), (AV.bool p_first)] [] (AV.int .i64 r) [] := by
 refine contract_of (.t false .z (.t false .z (.t true .z (.t false .z (.t false .z (.t true .z .z)))))) Tryd.func26 rfl (by kernel_rfl) ?_
 ((conv=>whnf);repeat((first|apply TT mix|apply sE rfl|apply dG (by kernel_rfl)|fail);(conv=>whnf)))
 refine bnd h (fun y1 hy1 h => ?_)
 refine Or.inl ⟨_, c_puny_within _ _ _ _ hy1, rfl, ?_⟩
 ((conv=>whnf);repeat((first|apply TT mix|apply sE rfl|apply dG (by kernel_rfl)|fail);(conv=>whnf)))
 refine bnd h (fun y2 hy2 h => ?_)
 refine Or.inl ⟨_, c_puny_within _ _ _ _ hy2, rfl, ?_⟩
 ((conv=>whnf);repeat((first|apply TT mix|apply sE rfl|apply dG (by kernel_rfl)|fail);(conv=>whnf)))
 refine bnd h (fun x12 h12 h => ?_)
 refine cut_at (fun s3 : Int => mkF 35 [(0, (.int .i64 s3)), (1, (.int .i64 y2))] []) (fun s3 : Int => m_puny_Bias_K4 y2 s3 = some r) ?_ ?_
 ·intro Kn12 hn12
  ((conv=>whnf);repeat((first|apply TT mix|apply sE rfl|apply dG (by kernel_rfl)|fail);(conv=>whnf)))
  refine br_b rfl h12 (fun c13 h12 => ?_) (fun c13 h12 => ?_)
  ·((conv=>whnf);repeat((first|apply TT mix|apply sE rfl|apply dG (by kernel_rfl)|fail);(conv=>whnf)))
   refine And.intro (by decide) ?_
   have e := Option.some.inj h12; subst e
   ((conv=>whnf);repeat((first|apply TT mix|apply sE rfl|apply dG (by kernel_rfl)|fail);(conv=>whnf)))
   exact hn12 _ (IntKind.wrap .i64 (Int.tdiv y1 (700 : Int))) h (weak_gen [] rfl rfl storeLe.nil (sQ rfl rfl))
  ·((conv=>whnf);repeat((first|apply TT mix|apply sE rfl|apply dG (by kernel_rfl)|fail);(conv=>whnf)))
   refine And.intro (by decide) ?_
   have e := Option.some.inj h12; subst e
   ((conv=>whnf);repeat((first|apply TT mix|apply sE rfl|apply dG (by kernel_rfl)|fail);(conv=>whnf)))
   exact hn12 _ (IntKind.wrap .i64 (Int.tdiv y1 (2 : Int))) h (weak_gen [] rfl rfl storeLe.nil (sQ rfl rfl))
 ·clear h h12
  intro s3 hc14
  ((conv=>whnf);repeat((first|apply TT mix|apply sE rfl|apply dG (by kernel_rfl)|fail);(conv=>whnf)))
  refine grd1 rfl hc14 (fun hc14 => ?_)
  ((conv=>whnf);repeat((first|apply TT mix|apply sE rfl|apply dG (by kernel_rfl)|fail);(conv=>whnf)))
  refine bnd hc14 (fun x15 h15 hc14 => ?_)
  refine cut_at (fun s5 : Int × Int => mkF 35 [(0, (.int .i64 s5.1)), (7, (.int .i64 s5.2))] []) (fun s5 : Int × Int => m_puny_Bias_K6 s5 = some r) ?_ ?_
  ·intro Kn15 hn15
   ((conv=>whnf);repeat((first|apply TT mix|apply sE rfl|apply dG (by kernel_rfl)|fail);(conv=>whnf)))
   refine loop_iter (fun s8 : Int × Int => mkF 35 [(0, (.int .i64 s8.1)), (7, (.int .i64 s8.2))] []) h15 (weak_gen [] rfl rfl storeLe.nil (sQ rfl rfl)) ?_
   intro k10 s8 st10 Kn10 hn10 h10_ hs10
   ((conv=>whnf);repeat((first|apply TT mix|apply sE rfl|apply dG (by kernel_rfl)|fail);(conv=>whnf)))
   refine br_b rfl h10_ (fun c16 h10_ => ?_) (fun c16 h10_ => ?_)
   ·((conv=>whnf);repeat((first|apply TT mix|apply sE rfl|apply dG (by kernel_rfl)|fail);(conv=>whnf)))
    refine And.intro (by decide) ?_
    have e := Option.some.inj h10_; subst e
    ((conv=>whnf);repeat((first|apply TT mix|apply sE rfl|apply dG (by kernel_rfl)|fail);(conv=>whnf)))
    exact hn10 _ ((IntKind.wrap .i64 (Int.tdiv s8.1 (35 : Int))), (IntKind.wrap .i64 (s8.2 + (36 : Int)))) hs10 (weak_gen [] rfl rfl storeLe.nil (sQ rfl rfl))
   ·have e := Option.some.inj h10_; subst e
    have e := done_out hs10; subst e
    ((conv=>whnf);repeat((first|apply TT mix|apply sE rfl|apply dG (by kernel_rfl)|fail);(conv=>whnf)))
    exact hn15 _ (s8.1, s8.2) hc14 (weak_gen [] rfl rfl storeLe.nil (sQ rfl rfl))
  ·clear hc14 h15
   intro s5 hc17
   ((conv=>whnf);repeat((first|apply TT mix|apply sE rfl|apply dG (by kernel_rfl)|fail);(conv=>whnf)))
   refine grd1 rfl hc17 (fun hc17 => ?_)
   have e := Option.some.inj hc17; subst e
   ((conv=>whnf);repeat((first|apply TT mix|apply sE rfl|apply dG (by kernel_rfl)|fail);(conv=>whnf)))
   exact And.intro (AV.Le.refl _) rfl
theorem c_puny_bias_adapt_own (p_b_0 : Int) (p_b_1 : Bool) (p_b_2 : Bool) (p_b_3 : (List Int)) (p_b_4 : Int) (p_b_5 : Int) (p_b_6 : Int) (p_d : Int) (p_many : Int) (r : Int × Bool × Bool × Int × Int × Int) (h : m_puny_bias_adapt_own p_b_0 p_b_1 p_b_2 p_b_3 p_b_4 p_b_5 p_b_6 p_d p_many = some r) : ContractM 2 pl 76 [(.mp 0 0 0), (.int .i64 p_d), (.int .i64 p_many)] [some ⟨7, 77, (.vals [(.agg [(.int .i64 p_b_0), (.bool p_b_1), (.mpn 0 0 2 p_b_2), (.ms 1 p_b_3.length), (.int .i32 p_b_4), (.int .i64 p_b_5), (.int .i64 p_b_6)])]), false, false⟩, some ⟨1, 5, (.ints .u8 p_b_3), false, true⟩] (.tup []) [some ⟨7, 77, (.vals [(.agg [(.int .i64 r.1), (.bool r.2.1), (.mpn 0 0 2 r.2.2.1), (.ms 1 p_b_3.length), (.int .i32 r.2.2.2.1), (.int .i64 r.2.2.2.2.1), (.int .i64 r.2.2.2.2.2)])]), false, false⟩, some ⟨1, 5, (.ints .u8 p_b_3), false, true⟩] := by
 refine contract_own 2 .z rfl Tryd.func76 rfl (by kernel_rfl) ?_
 ((conv=>whnf);repeat((first|apply TT mix|apply sE rfl|apply dG (by kernel_rfl)|fail);(conv=>whnf)))
 refine bnd h (fun y1 hy1 h => ?_)
 refine Or.inl ⟨_, c_puny_Bias _ _ _ _ hy1, rfl, ?_⟩
 have e := Option.some.inj h; subst e
 ((conv=>whnf);repeat((first|apply TT mix|apply sE rfl|apply dG (by kernel_rfl)|fail);(conv=>whnf)))
 exact Or.inr (Or.inr (weak_gen [0, 1] rfl rfl (sK rfl (rowLe_vals (valsLe.cons (cellsLe.cons (cR rfl rfl) (cellsLe.cons (cR rfl rfl) (cellsLe.cons (cR rfl rfl) (cellsLe.cons (And.intro rfl (AV.Le.of_eq (congrArg (AV.ms _) (by first | rfl | omega | (simp; omega) | (simp; done) | (simp only [List.length_set] at *; omega))))) (cellsLe.cons (cR rfl rfl) (cellsLe.cons (cR rfl rfl) (cellsLe.cons (cR rfl rfl) cellsLe.nil))))))) valsLe.nil)) (sK rfl (by first | exact rowLe_same fun _ _ _ => rfl | (simp; exact rowLe_same fun _ _ _ => rfl)) storeLe.nil)) (slotsLe.cons (cR rfl rfl) slotsLe.nil)))
theorem c_puny_encoder_put_own (p_w_0 : Int) (p_w_1 : Bool) (p_w_2 : Bool) (p_w_3 : (List Int)) (p_w_4 : Int) (p_w_5 : Int) (p_w_6 : Int) (p_r : Int) (p_i : Int) (r : Int × Bool × Bool × (List Int) × Int × Int × Int) (h : m_puny_encoder_put_own p_w_0 p_w_1 p_w_2 p_w_3 p_w_4 p_w_5 p_w_6 p_r p_i = some r) : ContractM 1 pl 73 [(.mp 0 0 0), (.int .i32 p_r), (.int .i64 p_i)] [some ⟨7, 77, (.vals [(.agg [(.int .i64 p_w_0), (.bool p_w_1), (.mpn 0 0 2 p_w_2), (.ms 1 p_w_3.length), (.int .i32 p_w_4), (.int .i64 p_w_5), (.int .i64 p_w_6)])]), false, false⟩, some ⟨1, 5, (.ints .u8 p_w_3), false, true⟩] (.tup []) [some ⟨7, 77, (.vals [(.agg [(.int .i64 r.1), (.bool r.2.1), (.mpn 0 0 2 r.2.2.1), (.ms 1 r.2.2.2.1.length), (.int .i32 r.2.2.2.2.1), (.int .i64 r.2.2.2.2.2.1), (.int .i64 r.2.2.2.2.2.2)])]), false, false⟩, some ⟨1, 5, (.ints .u8 r.2.2.2.1), false, true⟩] := by
 refine contract_own 1 .z rfl Tryd.func73 rfl (by kernel_rfl) ?_
 ((conv=>whnf);repeat((first|apply TT mix|apply sE rfl|apply dG (by kernel_rfl)|fail);(conv=>whnf)))
 refine bnd h (fun y1 hy1 h => ?_)
 refine own_intro (own_call [0, 1] (c_puny_bias_digits_own _ _ _ _ _ _ _ _ _ hy1) rfl (sK rfl (rowLe_vals (valsLe.cons (cellsLe.cons (cR rfl rfl) (cellsLe.cons (cR rfl rfl) (cellsLe.cons (cR rfl rfl) (cellsLe.cons (And.intro rfl (AV.Le.of_eq (congrArg (AV.ms _) (by first | rfl | omega | (simp; omega) | (simp; done) | (simp only [List.length_set] at *; omega))))) (cellsLe.cons (cR rfl rfl) (cellsLe.cons (cR rfl rfl) (cellsLe.cons (cR rfl rfl) cellsLe.nil))))))) valsLe.nil)) (sK rfl (rowLe_ints (by first | rfl | (simp; done) | (rw [List.take_of_length_le (by simp <;> omega)]; first | rfl | (rw [List.take_take, Nat.min_self]; done) | (simp; done)))) storeLe.nil)) (cellsLe.cons (And.intro rfl (AV.Le.refl _)) (cellsLe.cons (And.intro rfl (AV.Le.refl _)) cellsLe.nil)) rfl) ?_
 ((conv=>whnf);repeat((first|apply TT mix|apply sE rfl|apply dG (by kernel_rfl)|fail);(conv=>whnf)))
 refine bnd h (fun y2 hy2 h => ?_)
 refine own_intro (own_call [0, 1] (c_strings_Builder_WriteString_own _ _ _ _ _ _ _ _ _ hy2) rfl (sK rfl (rowLe_vals (valsLe.cons (cellsLe.cons (cR rfl rfl) (cellsLe.cons (cR rfl rfl) (cellsLe.cons (cR rfl rfl) (cellsLe.cons (And.intro rfl (AV.Le.of_eq (congrArg (AV.ms _) (by first | rfl | omega | (simp; omega) | (simp; done) | (simp only [List.length_set] at *; omega))))) (cellsLe.cons (cR rfl rfl) (cellsLe.cons (cR rfl rfl) (cellsLe.cons (cR rfl rfl) cellsLe.nil))))))) valsLe.nil)) (sK rfl (rowLe_ints (by first | rfl | (simp; done) | (rw [List.take_of_length_le (by simp <;> omega)]; first | rfl | (rw [List.take_take, Nat.min_self]; done) | (simp; done)))) storeLe.nil)) (cellsLe.cons (And.intro rfl (AV.Le.refl _)) (cellsLe.cons (And.intro rfl (AV.Le.refl _)) cellsLe.nil)) rfl) ?_
 ((conv=>whnf);repeat((first|apply TT mix|apply sE rfl|apply dG (by kernel_rfl)|fail);(conv=>whnf)))
 refine bnd h (fun y3 hy3 h => ?_)
 refine own_intro (own_call [0, 2] (c_puny_bias_adapt_own _ _ _ _ _ _ _ _ _ _ hy3) rfl (sK rfl (rowLe_vals (valsLe.cons (cellsLe.cons (cR rfl rfl) (cellsLe.cons (cR rfl rfl) (cellsLe.cons (cR rfl rfl) (cellsLe.cons (And.intro rfl (AV.Le.of_eq (congrArg (AV.ms _) (by first | rfl | omega | (simp; omega) | (simp; done) | (simp only [List.length_set] at *; omega))))) (cellsLe.cons (cR rfl rfl) (cellsLe.cons (cR rfl rfl) (cellsLe.cons (cR rfl rfl) cellsLe.nil))))))) valsLe.nil)) (sK rfl (rowLe_ints (by first | rfl | (simp; done) | (rw [List.take_of_length_le (by simp <;> omega)]; first | rfl | (rw [List.take_take, Nat.min_self]; done) | (simp; done)))) storeLe.nil)) (cellsLe.cons (And.intro rfl (AV.Le.refl _)) (cellsLe.cons (And.intro rfl (AV.Le.refl _)) (cellsLe.cons (And.intro rfl (AV.Le.refl _)) cellsLe.nil))) rfl) ?_
 have e := Option.some.inj h; subst e
 ((conv=>whnf);repeat((first|apply TT mix|apply sE rfl|apply dG (by kernel_rfl)|fail);(conv=>whnf)))
 exact Or.inr (Or.inr (weak_gen [0, 2] rfl rfl (sK rfl (rowLe_vals (valsLe.cons (cellsLe.cons (cR rfl rfl) (cellsLe.cons (cR rfl rfl) (cellsLe.cons (cR rfl rfl) (cellsLe.cons (And.intro rfl (AV.Le.of_eq (congrArg (AV.ms _) (by first | rfl | omega | (simp; omega) | (simp; done) | (simp only [List.length_set] at *; omega))))) (cellsLe.cons (cR rfl rfl) (cellsLe.cons (cR rfl rfl) (cellsLe.cons (cR rfl rfl) cellsLe.nil))))))) valsLe.nil)) (sK rfl (rowLe_ints (by first | rfl | (simp; done) | (rw [List.take_of_length_le (by simp <;> omega)]; first | rfl | (rw [List.take_take, Nat.min_self]; done) | (simp; done)))) storeLe.nil)) (slotsLe.cons (cR rfl rfl) slotsLe.nil)))
theorem c_puny_encoder_all_own (p_w_0 : Int) (p_w_1 : Bool) (p_w_2 : Bool) (p_w_3 : (List Int)) (p_w_4 : Int) (p_w_5 : Int) (p_w_6 : Int) (p_l : (List Int)) (p_r : Int) (r : Int × Bool × Bool × (List Int) × Int × Int × Int) (h : m_puny_encoder_all_own p_w_0 p_w_1 p_w_2 p_w_3 p_w_4 p_w_5 p_w_6 p_l p_r = some r) : ContractM 1 pl 47 [(.mp 0 0 0), (e_L_i32 p_l), (.int .i32 p_r)] [some ⟨7, 77, (.vals [(.agg [(.int .i64 p_w_0), (.bool p_w_1), (.mpn 0 0 2 p_w_2), (.ms 1 p_w_3.length), (.int .i32 p_w_4), (.int .i64 p_w_5), (.int .i64 p_w_6)])]), false, false⟩, some ⟨1, 5, (.ints .u8 p_w_3), false, true⟩] (.tup []) [some ⟨7, 77, (.vals [(.agg [(.int .i64 r.1), (.bool r.2.1), (.mpn 0 0 2 r.2.2.1), (.ms 1 r.2.2.2.1.length), (.int .i32 r.2.2.2.2.1), (.int .i64 r.2.2.2.2.2.1), (.int .i64 r.2.2.2.2.2.2)])]), false, false⟩, some ⟨1, 5, (.ints .u8 r.2.2.2.1), false, true⟩] := by
 refine contract_own 1 (.t false .z (.t false .z (.t false (.t false (.t false .z (.t false .z (.t false (.t false (.t false .z (.t true .z .z)) .z) .z))) .z) .z))) rfl Tryd.func47 rfl (by kernel_rfl) ?_
 ((conv=>whnf);repeat((first|apply TT mix|apply sE rfl|apply dG (by kernel_rfl)|fail);(conv=>whnf)))
 refine bnd h (fun x5 hx5 h => ?_)
 refine loop_iter (fun s3 : Int × Bool × Bool × (List Int) × Int × Int × Int × Int × Int => mkF 28 [(0, (.mp 0 0 0)), (2, (.int .i32 p_r)), (6, (.int .i64 s3.2.2.2.2.2.2.2.1)), (9, (e_L_i32 p_l)), (10, (.int .i64 ((p_l.length : Nat) : Int))), (11, (.int .i64 s3.2.2.2.2.2.2.2.2))] [some ⟨7, 77, (.vals [(.agg [(.int .i64 s3.1), (.bool s3.2.1), (.mpn 0 0 2 s3.2.2.1), (.ms 1 s3.2.2.2.1.length), (.int .i32 s3.2.2.2.2.1), (.int .i64 s3.2.2.2.2.2.1), (.int .i64 s3.2.2.2.2.2.2.1)])]), false, false⟩, some ⟨1, 5, (.ints .u8 s3.2.2.2.1), false, true⟩]) hx5 (weak_gen [0, 1] rfl rfl (sK rfl (rowLe_vals (valsLe.cons (cellsLe.cons (cR rfl rfl) (cellsLe.cons (cR rfl rfl) (cellsLe.cons (cR rfl rfl) (cellsLe.cons (And.intro rfl (AV.Le.of_eq (congrArg (AV.ms _) (by first | rfl | omega | (simp; omega) | (simp; done) | (simp only [List.length_set] at *; omega))))) (cellsLe.cons (cR rfl rfl) (cellsLe.cons (cR rfl rfl) (cellsLe.cons (cR rfl rfl) cellsLe.nil))))))) valsLe.nil)) (sK rfl (rowLe_ints (by first | rfl | (simp; done) | (rw [List.take_of_length_le (by simp <;> omega)]; first | rfl | (rw [List.take_take, Nat.min_self]; done) | (simp; done)))) storeLe.nil)) (sQ rfl rfl)) ?_
 intro k5 s3 st5 Kn5 hn5 h5 hs5
 ((conv=>whnf);repeat((first|apply TT mix|apply sE rfl|apply dG (by kernel_rfl)|fail);(conv=>whnf)))
 refine br_b rfl h5 (fun c10 h5 => ?_) (fun c10 h5 => ?_)
 ·((conv=>whnf);repeat((first|apply TT mix|apply sE rfl|apply dG (by kernel_rfl)|fail);(conv=>whnf)))
  refine grd2 rfl rfl h5 (fun h5 => ?_)
  ((conv=>whnf);repeat((first|apply TT mix|apply sE rfl|apply dG (by kernel_rfl)|fail);(conv=>whnf)))
  refine bnd h5 (fun x11 h11 h5 => ?_)
  refine cut_at (fun s6 : Int × Bool × Bool × (List Int) × Int × Int × Int => mkF 28 [(0, (.mp 0 0 0)), (2, (.int .i32 p_r)), (6, (.int .i64 s3.2.2.2.2.2.2.2.1)), (8, (.int .i32 (p_l.getD (s3.2.2.2.2.2.2.2.2.toNat) 0))), (9, (e_L_i32 p_l)), (10, (.int .i64 ((p_l.length : Nat) : Int))), (11, (.int .i64 s3.2.2.2.2.2.2.2.2))] [some ⟨7, 77, (.vals [(.agg [(.int .i64 s6.1), (.bool s6.2.1), (.mpn 0 0 2 s6.2.2.1), (.ms 1 s6.2.2.2.1.length), (.int .i32 s6.2.2.2.2.1), (.int .i64 s6.2.2.2.2.2.1), (.int .i64 s6.2.2.2.2.2.2)])]), false, false⟩, some ⟨1, 5, (.ints .u8 s6.2.2.2.1), false, true⟩]) (fun s6 : Int × Bool × Bool × (List Int) × Int × Int × Int => m_puny_encoder_all_own_K7 p_l p_r s3 s6 = some st5) ?_ ?_
  ·intro Kn11 hn11
   ((conv=>whnf);repeat((first|apply TT mix|apply sE rfl|apply dG (by kernel_rfl)|fail);(conv=>whnf)))
   refine br_b rfl h11 (fun c12 h11 => ?_) (fun c12 h11 => ?_)
   ·((conv=>whnf);repeat((first|apply TT mix|apply sE rfl|apply dG (by kernel_rfl)|fail);(conv=>whnf)))
    refine bnd h11 (fun y8 hy8 h11 => ?_)
    refine own_intro (own_call [0, 1] (c_puny_encoder_put_own _ _ _ _ _ _ _ _ _ _ hy8) rfl (sK rfl (rowLe_vals (valsLe.cons (cellsLe.cons (cR rfl rfl) (cellsLe.cons (cR rfl rfl) (cellsLe.cons (cR rfl rfl) (cellsLe.cons (And.intro rfl (AV.Le.of_eq (congrArg (AV.ms _) (by first | rfl | omega | (simp; omega) | (simp; done) | (simp only [List.length_set] at *; omega))))) (cellsLe.cons (cR rfl rfl) (cellsLe.cons (cR rfl rfl) (cellsLe.cons (cR rfl rfl) cellsLe.nil))))))) valsLe.nil)) (sK rfl (rowLe_ints (by first | rfl | (simp; done) | (rw [List.take_of_length_le (by simp <;> omega)]; first | rfl | (rw [List.take_take, Nat.min_self]; done) | (simp; done)))) storeLe.nil)) (cellsLe.cons (And.intro rfl (AV.Le.refl _)) (cellsLe.cons (And.intro rfl (AV.Le.refl _)) (cellsLe.cons (And.intro rfl (AV.Le.refl _)) cellsLe.nil))) rfl) ?_
    have e := Option.some.inj h11; subst e
    ((conv=>whnf);repeat((first|apply TT mix|apply sE rfl|apply dG (by kernel_rfl)|fail);(conv=>whnf)))
    exact hn11 _ (y8.1, y8.2.1, y8.2.2.1, y8.2.2.2.1, y8.2.2.2.2.1, y8.2.2.2.2.2.1, y8.2.2.2.2.2.2) h5 (weak_gen [0, 2] rfl rfl (sK rfl (rowLe_vals (valsLe.cons (cellsLe.cons (cR rfl rfl) (cellsLe.cons (cR rfl rfl) (cellsLe.cons (cR rfl rfl) (cellsLe.cons (And.intro rfl (AV.Le.of_eq (congrArg (AV.ms _) (by first | rfl | omega | (simp; omega) | (simp; done) | (simp only [List.length_set] at *; omega))))) (cellsLe.cons (cR rfl rfl) (cellsLe.cons (cR rfl rfl) (cellsLe.cons (cR rfl rfl) cellsLe.nil))))))) valsLe.nil)) (sK rfl (rowLe_ints (by first | rfl | (simp; done) | (rw [List.take_of_length_le (by simp <;> omega)]; first | rfl | (rw [List.take_take, Nat.min_self]; done) | (simp; done)))) storeLe.nil)) (sQ rfl rfl))
   ·have e := Option.some.inj h11; subst e
    ((conv=>whnf);repeat((first|apply TT mix|apply sE rfl|apply dG (by kernel_rfl)|fail);(conv=>whnf)))
    exact hn11 _ (s3.1, s3.2.1, s3.2.2.1, s3.2.2.2.1, s3.2.2.2.2.1, s3.2.2.2.2.2.1, s3.2.2.2.2.2.2.1) h5 (weak_gen [0, 1] rfl rfl (sK rfl (rowLe_vals (valsLe.cons (cellsLe.cons (cR rfl rfl) (cellsLe.cons (cR rfl rfl) (cellsLe.cons (cR rfl rfl) (cellsLe.cons (And.intro rfl (AV.Le.of_eq (congrArg (AV.ms _) (by first | rfl | omega | (simp; omega) | (simp; done) | (simp only [List.length_set] at *; omega))))) (cellsLe.cons (cR rfl rfl) (cellsLe.cons (cR rfl rfl) (cellsLe.cons (cR rfl rfl) cellsLe.nil))))))) valsLe.nil)) (sK rfl (rowLe_ints (by first | rfl | (simp; done) | (rw [List.take_of_length_le (by simp <;> omega)]; first | rfl | (rw [List.take_take, Nat.min_self]; done) | (simp; done)))) storeLe.nil)) (sQ rfl rfl))
  ·clear h5 h11
   intro s6 hc13
   ((conv=>whnf);repeat((first|apply TT mix|apply sE rfl|apply dG (by kernel_rfl)|fail);(conv=>whnf)))
   refine br_b rfl hc13 (fun c14 hc13 => ?_) (fun c14 hc13 => ?_)
   ·have e := Option.some.inj hc13; subst e
    ((conv=>whnf);repeat((first|apply TT mix|apply sE rfl|apply dG (by kernel_rfl)|fail);(conv=>whnf)))
    exact hn5 _ (s6.1, s6.2.1, s6.2.2.1, s6.2.2.2.1, s6.2.2.2.2.1, s6.2.2.2.2.2.1, s6.2.2.2.2.2.2, (IntKind.wrap .i64 (s3.2.2.2.2.2.2.2.1 + (1 : Int))), (IntKind.wrap .i64 (s3.2.2.2.2.2.2.2.2 + (1 : Int)))) hs5 (weak_gen [0, 1] rfl rfl (sK rfl (rowLe_vals (valsLe.cons (cellsLe.cons (cR rfl rfl) (cellsLe.cons (cR rfl rfl) (cellsLe.cons (cR rfl rfl) (cellsLe.cons (And.intro rfl (AV.Le.of_eq (congrArg (AV.ms _) (by first | rfl | omega | (simp; omega) | (simp; done) | (simp only [List.length_set] at *; omega))))) (cellsLe.cons (cR rfl rfl) (cellsLe.cons (cR rfl rfl) (cellsLe.cons (cR rfl rfl) cellsLe.nil))))))) valsLe.nil)) (sK rfl (rowLe_ints (by first | rfl | (simp; done) | (rw [List.take_of_length_le (by simp <;> omega)]; first | rfl | (rw [List.take_take, Nat.min_self]; done) | (simp; done)))) storeLe.nil)) (sQ rfl rfl))
   ·have e := Option.some.inj hc13; subst e
    ((conv=>whnf);repeat((first|apply TT mix|apply sE rfl|apply dG (by kernel_rfl)|fail);(conv=>whnf)))
    exact hn5 _ (s6.1, s6.2.1, s6.2.2.1, s6.2.2.2.1, s6.2.2.2.2.1, s6.2.2.2.2.2.1, s6.2.2.2.2.2.2, s3.2.2.2.2.2.2.2.1, (IntKind.wrap .i64 (s3.2.2.2.2.2.2.2.2 + (1 : Int)))) hs5 (weak_gen [0, 1] rfl rfl (sK rfl (rowLe_vals (valsLe.cons (cellsLe.cons (cR rfl rfl) (cellsLe.cons (cR rfl rfl) (cellsLe.cons (cR rfl rfl) (cellsLe.cons (And.intro rfl (AV.Le.of_eq (congrArg (AV.ms _) (by first | rfl | omega | (simp; omega) | (simp; done) | (simp only [List.length_set] at *; omega))))) (cellsLe.cons (cR rfl rfl) (cellsLe.cons (cR rfl rfl) (cellsLe.cons (cR rfl rfl) cellsLe.nil))))))) valsLe.nil)) (sK rfl (rowLe_ints (by first | rfl | (simp; done) | (rw [List.take_of_length_le (by simp <;> omega)]; first | rfl | (rw [List.take_take, Nat.min_self]; done) | (simp; done)))) storeLe.nil)) (sQ rfl rfl))
 ·have e := Option.some.inj h5; subst e
  have e := done_out hs5; subst e
  have e := Option.some.inj h; subst e
  ((conv=>whnf);repeat((first|apply TT mix|apply sE rfl|apply dG (by kernel_rfl)|fail);(conv=>whnf)))
  exact Or.inr (Or.inr (weak_gen [0, 1] rfl rfl (sK rfl (rowLe_vals (valsLe.cons (cellsLe.cons (cR rfl rfl) (cellsLe.cons (cR rfl rfl) (cellsLe.cons (cR rfl rfl) (cellsLe.cons (And.intro rfl (AV.Le.of_eq (congrArg (AV.ms _) (by first | rfl | omega | (simp; omega) | (simp; done) | (simp only [List.length_set] at *; omega))))) (cellsLe.cons (cR rfl rfl) (cellsLe.cons (cR rfl rfl) (cellsLe.cons (cR rfl rfl) cellsLe.nil))))))) valsLe.nil)) (sK rfl (rowLe_ints (by first | rfl | (simp; done) | (rw [List.take_of_length_le (by simp <;> omega)]; first | rfl | (rw [List.take_take, Nat.min_self]; done) | (simp; done)))) storeLe.nil)) (slotsLe.cons (cR rfl rfl) slotsLe.nil)))
theorem c_strings_Builder_Len_own (p_b_0 : Int) (p_b_1 : Bool) (p_b_2 : Bool) (p_b_3 : (List Int)) (p_b_4 : Int) (p_b_5 : Int) (p_b_6 : Int) (r : Int × Bool × Bool × Int × Int × Int × Int) (h : m_strings_Builder_Len_own p_b_0 p_b_1 p_b_2 p_b_3 p_b_4 p_b_5 p_b_6 = some r) : ContractM 2 pl 48 [(.mp 0 0 2)] [some ⟨7, 77, (.vals [(.agg [(.int .i64 p_b_0), (.bool p_b_1), (.mpn 0 0 2 p_b_2), (.ms 1 p_b_3.length), (.int .i32 p_b_4), (.int .i64 p_b_5), (.int .i64 p_b_6)])]), false, false⟩, some ⟨1, 5, (.ints .u8 p_b_3), false, true⟩] (.int .i64 r.2.2.2.2.2.2) [some ⟨7, 77, (.vals [(.agg [(.int .i64 r.1), (.bool r.2.1), (.mpn 0 0 2 r.2.2.1), (.ms 1 p_b_3.length), (.int .i32 r.2.2.2.1), (.int .i64 r.2.2.2.2.1), (.int .i64 r.2.2.2.2.2.1)])]), false, false⟩, some ⟨1, 5, (.ints .u8 p_b_3), false, true⟩] := by
 refine contract_own 2 .z rfl Tryd.func48 rfl (by kernel_rfl) ?_
 have e := Option.some.inj h; subst e
 ((conv=>whnf);repeat((first|apply TT mix|apply sE rfl|apply dG (by kernel_rfl)|fail);(conv=>whnf)))
 exact Or.inr (Or.inr (weak_gen [0, 1] rfl rfl (sK rfl (rowLe_vals (valsLe.cons (cellsLe.cons (cR rfl rfl) (cellsLe.cons (cR rfl rfl) (cellsLe.cons (cR rfl rfl) (cellsLe.cons (And.intro rfl (AV.Le.of_eq (congrArg (AV.ms _) (by first | rfl | omega | (simp; omega) | (simp; done) | (simp only [List.length_set] at *; omega))))) (cellsLe.cons (cR rfl rfl) (cellsLe.cons (cR rfl rfl) (cellsLe.cons (cR rfl rfl) cellsLe.nil))))))) valsLe.nil)) (sK rfl (by first | exact rowLe_same fun _ _ _ => rfl | (simp; exact rowLe_same fun _ _ _ => rfl)) storeLe.nil)) (slotsLe.cons (cR rfl rfl) slotsLe.nil)))
theorem c_strings_Builder_String_own (p_b_0 : Int) (p_b_1 : Bool) (p_b_2 : Bool) (p_b_3 : (List Int)) (p_b_4 : Int) (p_b_5 : Int) (p_b_6 : Int) (r : Int × Bool × Bool × (List Int) × Int × Int × Int × ByteArray) (h : m_strings_Builder_String_own p_b_0 p_b_1 p_b_2 p_b_3 p_b_4 p_b_5 p_b_6 = some r) : ContractM 2 pl 49 [(.mp 0 0 2)] [some ⟨7, 77, (.vals [(.agg [(.int .i64 p_b_0), (.bool p_b_1), (.mpn 0 0 2 p_b_2), (.ms 1 p_b_3.length), (.int .i32 p_b_4), (.int .i64 p_b_5), (.int .i64 p_b_6)])]), false, false⟩, some ⟨1, 5, (.ints .u8 p_b_3), false, true⟩] (.str r.2.2.2.2.2.2.2) [some ⟨7, 77, (.vals [(.agg [(.int .i64 r.1), (.bool r.2.1), (.mpn 0 0 2 r.2.2.1), (.ms 1 r.2.2.2.1.length), (.int .i32 r.2.2.2.2.1), (.int .i64 r.2.2.2.2.2.1), (.int .i64 r.2.2.2.2.2.2.1)])]), false, false⟩, some ⟨1, 5, (.ints .u8 r.2.2.2.1), true, true⟩] := by
 refine contract_own 2 .z rfl Tryd.func49 rfl (by kernel_rfl) ?_
 ((conv=>whnf);repeat((first|apply TT mix|apply sE rfl|apply dG (by kernel_rfl)|fail);(conv=>whnf)))
 refine And.intro (by first | exact Nat.le_refl _ | (simp [Row.len]; try omega)) ?_
 ((conv=>whnf);repeat((first|apply TT mix|apply sE rfl|apply dG (by kernel_rfl)|fail);(conv=>whnf)))
 obtain ⟨p1, h⟩ := grdO h
 refine And.intro (by first | rfl | simp) (And.intro (by simp) (And.intro p1 ?_))
 have e := Option.some.inj h; subst e
 ((conv=>whnf);repeat((first|apply TT mix|apply sE rfl|apply dG (by kernel_rfl)|fail);(conv=>whnf)))
 exact Or.inr (Or.inr (weak_gen [0, 1] rfl rfl (sK rfl (rowLe_vals (valsLe.cons (cellsLe.cons (cR rfl rfl) (cellsLe.cons (cR rfl rfl) (cellsLe.cons (cR rfl rfl) (cellsLe.cons (And.intro rfl (AV.Le.of_eq (congrArg (AV.ms _) (by first | rfl | omega | (simp; omega) | (simp; done) | (simp only [List.length_set] at *; omega))))) (cellsLe.cons (cR rfl rfl) (cellsLe.cons (cR rfl rfl) (cellsLe.cons (cR rfl rfl) cellsLe.nil))))))) valsLe.nil)) (sK rfl (rowLe_ints (by first | rfl | (simp; done) | (rw [List.take_of_length_le (by simp <;> omega)]; first | rfl | (rw [List.take_take, Nat.min_self]; done) | (simp; done)))) storeLe.nil)) (slotsLe.cons (cR rfl rfl) slotsLe.nil)))
theorem c_puny_Encode (p_l : (List Int)) (r : ByteArray × Er) (h : m_puny_Encode p_l = some r) : Contract pl 21 [(e_L_i32 p_l)] [] (AV.tup [(AV.str r.1), (AV.err r.2)]) [] := by
 refine contract_of (.t false .z (.t true .z (.t false .z (.t false .z (.t false .z (.t true .z (.t true .z (.t false .z (.t true .z .z))))))))) Tryd.func21 rfl (by kernel_rfl) ?_
 ((conv=>whnf);repeat((first|apply TT mix|apply sE rfl|apply dG (by kernel_rfl)|fail);(conv=>whnf)))
 refine bnd h (fun x37 h37 h => ?_)
 refine cut_at (fun s1 : Unit => mkF 94 [(0, (e_L_i32 p_l))] []) (fun s1 : Unit => m_puny_Encode_K2 p_l s1 = some r) ?_ ?_
 ·intro Kn37 hn37
  ((conv=>whnf);repeat((first|apply TT mix|apply sE rfl|apply dG (by kernel_rfl)|fail);(conv=>whnf)))
  refine loop_iter (fun s29 : Int => mkF 94 [(0, (e_L_i32 p_l)), (12, (e_L_i32 p_l)), (13, (.int .i64 ((p_l.length : Nat) : Int))), (14, (.int .i64 s29))] []) h37 (weak_gen [] rfl rfl storeLe.nil (sQ rfl rfl)) ?_
  intro k31 s29 st31 Kn31 hn31 h31_ hs31
  ((conv=>whnf);repeat((first|apply TT mix|apply sE rfl|apply dG (by kernel_rfl)|fail);(conv=>whnf)))
  refine br_b rfl h31_ (fun c38 h31_ => ?_) (fun c38 h31_ => ?_)
  ·((conv=>whnf);repeat((first|apply TT mix|apply sE rfl|apply dG (by kernel_rfl)|fail);(conv=>whnf)))
   refine grd2 rfl rfl h31_ (fun h31_ => ?_)
   ((conv=>whnf);repeat((first|apply TT mix|apply sE rfl|apply dG (by kernel_rfl)|fail);(conv=>whnf)))
   refine bnd h31_ (fun y32 hy32 h31_ => ?_)
   refine Or.inl ⟨_, c_utf_Right _ _ hy32, rfl, ?_⟩
   ((conv=>whnf);repeat((first|apply TT mix|apply sE rfl|apply dG (by kernel_rfl)|fail);(conv=>whnf)))
   refine br_b rfl h31_ (fun c39 h31_ => ?_) (fun c39 h31_ => ?_)
   ·((conv=>whnf);repeat((first|apply TT mix|apply sE rfl|apply dG (by kernel_rfl)|fail);(conv=>whnf)))
    refine bnd h31_ (fun y33 hy33 h31_ => ?_)
    refine Or.inl ⟨_, c_puny_fault _ _ _ hy33, rfl, ?_⟩
    have e := Option.some.inj h31_; subst e
    have e := done_out hs31; subst e
    have e := Option.some.inj h; subst e
    ((conv=>whnf);repeat((first|apply TT mix|apply sE rfl|apply dG (by kernel_rfl)|fail);(conv=>whnf)))
    exact And.intro (AV.Le.refl _) rfl
   ·have e := Option.some.inj h31_; subst e
    ((conv=>whnf);repeat((first|apply TT mix|apply sE rfl|apply dG (by kernel_rfl)|fail);(conv=>whnf)))
    exact hn31 _ (IntKind.wrap .i64 (s29 + (1 : Int))) hs31 (weak_gen [] rfl rfl storeLe.nil (sQ rfl rfl))
  ·have e := Option.some.inj h31_; subst e
   have e := done_out hs31; subst e
   ((conv=>whnf);repeat((first|apply TT mix|apply sE rfl|apply dG (by kernel_rfl)|fail);(conv=>whnf)))
   exact hn37 _ () h (weak_gen [] rfl rfl storeLe.nil (slotsLe.cons (cR rfl rfl) slotsLe.nil))
 ·clear h h37
  intro s1 hc40
  ((conv=>whnf);repeat((first|apply TT mix|apply sE rfl|apply dG (by kernel_rfl)|fail);(conv=>whnf)))
  refine br_b rfl hc40 (fun c41 hc40 => ?_) (fun c41 hc40 => ?_)
  ·((conv=>whnf);repeat((first|apply TT mix|apply sE rfl|apply dG (by kernel_rfl)|fail);(conv=>whnf)))
   refine bnd hc40 (fun y3 hy3 hc40 => ?_)
   refine Or.inl ⟨_, c_puny_fault _ _ _ hy3, rfl, ?_⟩
   have e := Option.some.inj hc40; subst e
   ((conv=>whnf);repeat((first|apply TT mix|apply sE rfl|apply dG (by kernel_rfl)|fail);(conv=>whnf)))
   exact And.intro (AV.Le.refl _) rfl
  ·((conv=>whnf);repeat((first|apply TT mix|apply sE rfl|apply dG (by kernel_rfl)|fail);(conv=>whnf)))
   refine bnd hc40 (fun x42 h42 hc40 => ?_)
   refine cut_at (fun s4 : Int × Bool × Bool × (List Int) × Int × Int × Int × (List Int) => mkF 94 [(0, (e_L_i32 p_l)), (6, (.mp 0 0 0)), (7, (.ms 2 s4.2.2.2.2.2.2.2.length))] [some ⟨7, 77, (.vals [(.agg [(.int .i64 s4.1), (.bool s4.2.1), (.mpn 0 0 2 s4.2.2.1), (.ms 1 s4.2.2.2.1.length), (.int .i32 s4.2.2.2.2.1), (.int .i64 s4.2.2.2.2.2.1), (.int .i64 s4.2.2.2.2.2.2.1)])]), false, false⟩, some ⟨1, 5, (.ints .u8 s4.2.2.2.1), false, true⟩, some ⟨1, 21, (.ints .i32 s4.2.2.2.2.2.2.2), false, true⟩]) (fun s4 : Int × Bool × Bool × (List Int) × Int × Int × Int × (List Int) => m_puny_Encode_K5 p_l s4 = some r) ?_ ?_
   ·intro Kn42 hn42
    ((conv=>whnf);repeat((first|apply TT mix|apply sE rfl|apply dG (by kernel_rfl)|fail);(conv=>whnf)))
    refine loop_iter (fun s23 : Int × Bool × Bool × (List Int) × Int × Int × Int × (List Int) × Int => mkF 94 [(0, (e_L_i32 p_l)), (6, (.mp 0 0 0)), (7, (.ms 2 s23.2.2.2.2.2.2.2.1.length)), (34, (e_L_i32 p_l)), (35, (.int .i64 ((p_l.length : Nat) : Int))), (36, (.int .i64 s23.2.2.2.2.2.2.2.2))] [some ⟨7, 77, (.vals [(.agg [(.int .i64 s23.1), (.bool s23.2.1), (.mpn 0 0 2 s23.2.2.1), (.ms 1 s23.2.2.2.1.length), (.int .i32 s23.2.2.2.2.1), (.int .i64 s23.2.2.2.2.2.1), (.int .i64 s23.2.2.2.2.2.2.1)])]), false, false⟩, some ⟨1, 5, (.ints .u8 s23.2.2.2.1), false, true⟩, some ⟨1, 21, (.ints .i32 s23.2.2.2.2.2.2.2.1), false, true⟩]) h42 (weak_trans (weak_nil 7 1 21 (.ints .i32 []) _ rfl rfl trivial (by first | exact Nat.zero_le _ | (simp; done) | decide)) (weak_trans (weak_nilc 0 0 3 _ [(.agg [(.int .i64 (72 : Int)), (.bool false), .nilp, (.sl (some true) 0 fun _ => .unk), (.int .i32 (128 : Int)), (.int .i64 (0 : Int)), (.int .i64 (0 : Int))])] [(.int .i64 (72 : Int)), (.bool false), .nilp, (.sl (some true) 0 fun _ => .unk), (.int .i32 (128 : Int)), (.int .i64 (0 : Int)), (.int .i64 (0 : Int))] 1 5 (.ints .u8 []) _ rfl rfl rfl rfl rfl trivial (by first | exact Nat.zero_le _ | simp)) (weak_gen [0, 2, 1] rfl rfl (sK rfl (rowLe_vals (valsLe.cons (cellsLe.cons (cR rfl rfl) (cellsLe.cons (cR rfl rfl) (cellsLe.cons (And.intro rfl (AV.Le.mpn_nil)) (cellsLe.cons (cR rfl rfl) (cellsLe.cons (cR rfl rfl) (cellsLe.cons (cR rfl rfl) (cellsLe.cons (cR rfl rfl) cellsLe.nil))))))) valsLe.nil)) (sK rfl (rowLe_ints (by first | rfl | (simp; done) | (rw [List.take_of_length_le (by simp <;> omega)]; first | rfl | (rw [List.take_take, Nat.min_self]; done) | (simp; done)))) (sK rfl (rowLe_ints (by first | rfl | (simp; done) | (rw [List.take_of_length_le (by simp <;> omega)]; first | rfl | (rw [List.take_take, Nat.min_self]; done) | (simp; done)))) storeLe.nil))) (sQ rfl rfl)))) ?_
    intro k25 s23 st25 Kn25 hn25 h25_ hs25
    ((conv=>whnf);repeat((first|apply TT mix|apply sE rfl|apply dG (by kernel_rfl)|fail);(conv=>whnf)))
    refine br_b rfl h25_ (fun c43 h25_ => ?_) (fun c43 h25_ => ?_)
    ·((conv=>whnf);repeat((first|apply TT mix|apply sE rfl|apply dG (by kernel_rfl)|fail);(conv=>whnf)))
     refine grd2 rfl rfl h25_ (fun h25_ => ?_)
     ((conv=>whnf);repeat((first|apply TT mix|apply sE rfl|apply dG (by kernel_rfl)|fail);(conv=>whnf)))
     refine br_b rfl h25_ (fun c44 h25_ => ?_) (fun c44 h25_ => ?_)
     ·((conv=>whnf);repeat((first|apply TT mix|apply sE rfl|apply dG (by kernel_rfl)|fail);(conv=>whnf)))
      refine bnd h25_ (fun y26 hy26 h25_ => ?_)
      refine own_intro (own_call [0, 1] (c_strings_Builder_WriteByte_own _ _ _ _ _ _ _ _ _ hy26) rfl (sK rfl (rowLe_vals (valsLe.cons (cellsLe.cons (cR rfl rfl) (cellsLe.cons (cR rfl rfl) (cellsLe.cons (cR rfl rfl) (cellsLe.cons (And.intro rfl (AV.Le.of_eq (congrArg (AV.ms _) (by first | rfl | omega | (simp; omega) | (simp; done) | (simp only [List.length_set] at *; omega))))) (cellsLe.cons (cR rfl rfl) (cellsLe.cons (cR rfl rfl) (cellsLe.cons (cR rfl rfl) cellsLe.nil))))))) valsLe.nil)) (sK rfl (rowLe_ints (by first | rfl | (simp; done) | (rw [List.take_of_length_le (by simp <;> omega)]; first | rfl | (rw [List.take_take, Nat.min_self]; done) | (simp; done)))) storeLe.nil)) (cellsLe.cons (And.intro rfl (AV.Le.refl _)) (cellsLe.cons (And.intro rfl (AV.Le.refl _)) cellsLe.nil)) rfl) ?_
      have e := Option.some.inj h25_; subst e
      ((conv=>whnf);repeat((first|apply TT mix|apply sE rfl|apply dG (by kernel_rfl)|fail);(conv=>whnf)))
      exact hn25 _ (y26.1, y26.2.1, y26.2.2.1, y26.2.2.2.1, y26.2.2.2.2.1, y26.2.2.2.2.2.1, (IntKind.wrap .i64 (y26.2.2.2.2.2.2.1 + (1 : Int))), s23.2.2.2.2.2.2.2.1, (IntKind.wrap .i64 (s23.2.2.2.2.2.2.2.2 + (1 : Int)))) hs25 (weak_gen [0, 3, 2] rfl rfl (sK rfl (rowLe_vals (valsLe.cons (cellsLe.cons (cR rfl rfl) (cellsLe.cons (cR rfl rfl) (cellsLe.cons (cR rfl rfl) (cellsLe.cons (And.intro rfl (AV.Le.of_eq (congrArg (AV.ms _) (by first | rfl | omega | (simp; omega) | (simp; done) | (simp only [List.length_set] at *; omega))))) (cellsLe.cons (cR rfl rfl) (cellsLe.cons (cR rfl rfl) (cellsLe.cons (cR rfl rfl) cellsLe.nil))))))) valsLe.nil)) (sK rfl (rowLe_ints (by first | rfl | (simp; done) | (rw [List.take_of_length_le (by simp <;> omega)]; first | rfl | (rw [List.take_take, Nat.min_self]; done) | (simp; done)))) (sK rfl (rowLe_ints (by first | rfl | (simp; done) | (rw [List.take_of_length_le (by simp <;> omega)]; first | rfl | (rw [List.take_take, Nat.min_self]; done) | (simp; done)))) storeLe.nil))) (slotsLe.cons (cR rfl rfl) (slotsLe.cons (cR rfl rfl) (slotsLe.cons (And.intro rfl (AV.Le.of_eq (congrArg (AV.ms _) (by first | rfl | omega | (simp; omega) | (simp; done) | (simp only [List.length_set] at *; omega))))) (slotsLe.cons (cR rfl rfl) (slotsLe.cons (cR rfl rfl) (slotsLe.cons (cR rfl rfl) slotsLe.nil)))))))
     ·((conv=>whnf);repeat((first|apply TT mix|apply sE rfl|apply dG (by kernel_rfl)|fail);(conv=>whnf)))
      obtain ⟨p45, h25_⟩ := grdO h25_
      refine ⟨[], 1, (.ints .i32 [(p_l.getD (s23.2.2.2.2.2.2.2.2.toNat) 0)]), ⟨by simp [Row.len] <;> omega, rfl, _, rfl, by simp [Row.len] <;> omega, fun j hj => .inl rfl⟩, trivial, fun j hj => rfl, ?_⟩
      conv => whnf
      refine ⟨by simp [Row.len]; try omega, p45, by omega, ?_⟩
      have e := Option.some.inj h25_; subst e
      ((conv=>whnf);repeat((first|apply TT mix|apply sE rfl|apply dG (by kernel_rfl)|fail);(conv=>whnf)))
      exact hn25 _ (s23.1, s23.2.1, s23.2.2.1, s23.2.2.2.1, s23.2.2.2.2.1, s23.2.2.2.2.2.1, s23.2.2.2.2.2.2.1, (s23.2.2.2.2.2.2.2.1 ++ [(p_l.getD (s23.2.2.2.2.2.2.2.2.toNat) 0)]), (IntKind.wrap .i64 (s23.2.2.2.2.2.2.2.2 + (1 : Int)))) hs25 (weak_gen [0, 1, 4] rfl rfl (sK rfl (rowLe_vals (valsLe.cons (cellsLe.cons (cR rfl rfl) (cellsLe.cons (cR rfl rfl) (cellsLe.cons (cR rfl rfl) (cellsLe.cons (And.intro rfl (AV.Le.of_eq (congrArg (AV.ms _) (by first | rfl | omega | (simp; omega) | (simp; done) | (simp only [List.length_set] at *; omega))))) (cellsLe.cons (cR rfl rfl) (cellsLe.cons (cR rfl rfl) (cellsLe.cons (cR rfl rfl) cellsLe.nil))))))) valsLe.nil)) (sK rfl (rowLe_ints (by first | rfl | (simp; done) | (rw [List.take_of_length_le (by simp <;> omega)]; first | rfl | (rw [List.take_take, Nat.min_self]; done) | (simp; done)))) (sK rfl (rowLe_ints (by first | rfl | (simp; done) | (rw [List.take_of_length_le (by simp <;> omega)]; first | rfl | (rw [List.take_take, Nat.min_self]; done) | (simp; done)))) storeLe.nil))) (slotsLe.cons (cR rfl rfl) (slotsLe.cons (cR rfl rfl) (slotsLe.cons (And.intro rfl (AV.Le.of_eq (congrArg (AV.ms _) (by first | rfl | omega | (simp; omega) | (simp; done) | (simp only [List.length_set] at *; omega))))) (slotsLe.cons (cR rfl rfl) (slotsLe.cons (cR rfl rfl) (slotsLe.cons (cR rfl rfl) slotsLe.nil)))))))
    ·have e := Option.some.inj h25_; subst e
     have e := done_out hs25; subst e
     ((conv=>whnf);repeat((first|apply TT mix|apply sE rfl|apply dG (by kernel_rfl)|fail);(conv=>whnf)))
     exact hn42 _ (s23.1, s23.2.1, s23.2.2.1, s23.2.2.2.1, s23.2.2.2.2.1, s23.2.2.2.2.2.1, s23.2.2.2.2.2.2.1, s23.2.2.2.2.2.2.2.1) hc40 (weak_gen [0, 1, 2] rfl rfl (sK rfl (rowLe_vals (valsLe.cons (cellsLe.cons (cR rfl rfl) (cellsLe.cons (cR rfl rfl) (cellsLe.cons (cR rfl rfl) (cellsLe.cons (And.intro rfl (AV.Le.of_eq (congrArg (AV.ms _) (by first | rfl | omega | (simp; omega) | (simp; done) | (simp only [List.length_set] at *; omega))))) (cellsLe.cons (cR rfl rfl) (cellsLe.cons (cR rfl rfl) (cellsLe.cons (cR rfl rfl) cellsLe.nil))))))) valsLe.nil)) (sK rfl (rowLe_ints (by first | rfl | (simp; done) | (rw [List.take_of_length_le (by simp <;> omega)]; first | rfl | (rw [List.take_take, Nat.min_self]; done) | (simp; done)))) (sK rfl (rowLe_ints (by first | rfl | (simp; done) | (rw [List.take_of_length_le (by simp <;> omega)]; first | rfl | (rw [List.take_take, Nat.min_self]; done) | (simp; done)))) storeLe.nil))) (slotsLe.cons (cR rfl rfl) (slotsLe.cons (cR rfl rfl) (slotsLe.cons (And.intro rfl (AV.Le.of_eq (congrArg (AV.ms _) (by first | rfl | omega | (simp; omega) | (simp; done) | (simp only [List.length_set] at *; omega))))) slotsLe.nil))))
   ·clear hc40 h42
    intro s4 hc46
    ((conv=>whnf);repeat((first|apply TT mix|apply sE rfl|apply dG (by kernel_rfl)|fail);(conv=>whnf)))
    refine bnd hc46 (fun x47 h47 hc46 => ?_)
    refine cut_at (fun s6 : Int × Bool × Bool × (List Int) × Int × Int × Int => mkF 94 [(0, (e_L_i32 p_l)), (6, (.mp 0 0 0)), (7, (.ms 2 s4.2.2.2.2.2.2.2.length))] [some ⟨7, 77, (.vals [(.agg [(.int .i64 s6.1), (.bool s6.2.1), (.mpn 0 0 2 s6.2.2.1), (.ms 1 s6.2.2.2.1.length), (.int .i32 s6.2.2.2.2.1), (.int .i64 s6.2.2.2.2.2.1), (.int .i64 s6.2.2.2.2.2.2)])]), false, false⟩, some ⟨1, 5, (.ints .u8 s6.2.2.2.1), false, true⟩, some ⟨1, 21, (.ints .i32 s4.2.2.2.2.2.2.2), false, true⟩]) (fun s6 : Int × Bool × Bool × (List Int) × Int × Int × Int => m_puny_Encode_K7 p_l s4 s6 = some r) ?_ ?_
    ·intro Kn47 hn47
     ((conv=>whnf);repeat((first|apply TT mix|apply sE rfl|apply dG (by kernel_rfl)|fail);(conv=>whnf)))
     refine br_b rfl h47 (fun c48 h47 => ?_) (fun c48 h47 => ?_)
     ·((conv=>whnf);repeat((first|apply TT mix|apply sE rfl|apply dG (by kernel_rfl)|fail);(conv=>whnf)))
      refine bnd h47 (fun y21 hy21 h47 => ?_)
      refine own_intro (own_call [0, 1] (c_strings_Builder_WriteByte_own _ _ _ _ _ _ _ _ _ hy21) rfl (sK rfl (rowLe_vals (valsLe.cons (cellsLe.cons (cR rfl rfl) (cellsLe.cons (cR rfl rfl) (cellsLe.cons (cR rfl rfl) (cellsLe.cons (And.intro rfl (AV.Le.of_eq (congrArg (AV.ms _) (by first | rfl | omega | (simp; omega) | (simp; done) | (simp only [List.length_set] at *; omega))))) (cellsLe.cons (cR rfl rfl) (cellsLe.cons (cR rfl rfl) (cellsLe.cons (cR rfl rfl) cellsLe.nil))))))) valsLe.nil)) (sK rfl (rowLe_ints (by first | rfl | (simp; done) | (rw [List.take_of_length_le (by simp <;> omega)]; first | rfl | (rw [List.take_take, Nat.min_self]; done) | (simp; done)))) storeLe.nil)) (cellsLe.cons (And.intro rfl (AV.Le.refl _)) (cellsLe.cons (And.intro rfl (AV.Le.refl _)) cellsLe.nil)) rfl) ?_
      have e := Option.some.inj h47; subst e
      ((conv=>whnf);repeat((first|apply TT mix|apply sE rfl|apply dG (by kernel_rfl)|fail);(conv=>whnf)))
      exact hn47 _ (y21.1, y21.2.1, y21.2.2.1, y21.2.2.2.1, y21.2.2.2.2.1, y21.2.2.2.2.2.1, y21.2.2.2.2.2.2.1) hc46 (weak_gen [0, 3, 2] rfl rfl (sK rfl (rowLe_vals (valsLe.cons (cellsLe.cons (cR rfl rfl) (cellsLe.cons (cR rfl rfl) (cellsLe.cons (cR rfl rfl) (cellsLe.cons (And.intro rfl (AV.Le.of_eq (congrArg (AV.ms _) (by first | rfl | omega | (simp; omega) | (simp; done) | (simp only [List.length_set] at *; omega))))) (cellsLe.cons (cR rfl rfl) (cellsLe.cons (cR rfl rfl) (cellsLe.cons (cR rfl rfl) cellsLe.nil))))))) valsLe.nil)) (sK rfl (rowLe_ints (by first | rfl | (simp; done) | (rw [List.take_of_length_le (by simp <;> omega)]; first | rfl | (rw [List.take_take, Nat.min_self]; done) | (simp; done)))) (sK rfl (by first | exact rowLe_same fun _ _ _ => rfl | (simp; exact rowLe_same fun _ _ _ => rfl)) storeLe.nil))) (slotsLe.cons (cR rfl rfl) (slotsLe.cons (cR rfl rfl) (slotsLe.cons (And.intro rfl (AV.Le.of_eq (congrArg (AV.ms _) (by first | rfl | omega | (simp; omega) | (simp; done) | (simp only [List.length_set] at *; omega))))) slotsLe.nil))))
     ·have e := Option.some.inj h47; subst e
      ((conv=>whnf);repeat((first|apply TT mix|apply sE rfl|apply dG (by kernel_rfl)|fail);(conv=>whnf)))
      exact hn47 _ (s4.1, s4.2.1, s4.2.2.1, s4.2.2.2.1, s4.2.2.2.2.1, s4.2.2.2.2.2.1, s4.2.2.2.2.2.2.1) hc46 (weak_gen [0, 1, 2] rfl rfl (sK rfl (rowLe_vals (valsLe.cons (cellsLe.cons (cR rfl rfl) (cellsLe.cons (cR rfl rfl) (cellsLe.cons (cR rfl rfl) (cellsLe.cons (And.intro rfl (AV.Le.of_eq (congrArg (AV.ms _) (by first | rfl | omega | (simp; omega) | (simp; done) | (simp only [List.length_set] at *; omega))))) (cellsLe.cons (cR rfl rfl) (cellsLe.cons (cR rfl rfl) (cellsLe.cons (cR rfl rfl) cellsLe.nil))))))) valsLe.nil)) (sK rfl (rowLe_ints (by first | rfl | (simp; done) | (rw [List.take_of_length_le (by simp <;> omega)]; first | rfl | (rw [List.take_take, Nat.min_self]; done) | (simp; done)))) (sK rfl (by first | exact rowLe_same fun _ _ _ => rfl | (simp; exact rowLe_same fun _ _ _ => rfl)) storeLe.nil))) (slotsLe.cons (cR rfl rfl) (slotsLe.cons (cR rfl rfl) (slotsLe.cons (And.intro rfl (AV.Le.of_eq (congrArg (AV.ms _) (by first | rfl | omega | (simp; omega) | (simp; done) | (simp only [List.length_set] at *; omega))))) slotsLe.nil))))
    ·clear hc46 h47
     intro s6 hc49
     ((conv=>whnf);repeat((first|apply TT mix|apply sE rfl|apply dG (by kernel_rfl)|fail);(conv=>whnf)))
     refine bnd hc49 (fun y8 hy8 hc49 => ?_)
     refine Or.inr (own_intro (own_call [2] (c_slices_Sort_rune_rune_own _ _ hy8) rfl (sK rfl (rowLe_ints (by first | rfl | (simp; done) | (rw [List.take_of_length_le (by simp <;> omega)]; first | rfl | (rw [List.take_take, Nat.min_self]; done) | (simp; done)))) storeLe.nil) (cellsLe.cons (And.intro rfl (AV.Le.of_eq (congrArg (AV.ms _) (by first | rfl | omega | (simp; omega) | (simp; done) | (simp only [List.length_set] at *; omega))))) cellsLe.nil) rfl) ?_)
     ((conv=>whnf);repeat((first|apply TT mix|apply sE rfl|apply dG (by kernel_rfl)|fail);(conv=>whnf)))
     obtain ⟨p50, hc49⟩ := grdO hc49
     ((conv=>whnf);repeat((first|apply TT mix|apply sE rfl|apply dG (by kernel_rfl)|fail);(conv=>whnf)))
     refine bnd hc49 (fun x51 h51 hc49 => ?_)
     refine cut_at (fun s9 : Int × Bool × Bool × (List Int) × Int × Int × Int => mkF 94 [(6, (.mp 0 0 0))] [some ⟨7, 77, (.vals [(.agg [(.int .i64 s9.1), (.bool s9.2.1), (.mpn 0 0 2 s9.2.2.1), (.ms 1 s9.2.2.2.1.length), (.int .i32 s9.2.2.2.2.1), (.int .i64 s9.2.2.2.2.2.1), (.int .i64 s9.2.2.2.2.2.2)])]), false, false⟩, some ⟨1, 5, (.ints .u8 s9.2.2.2.1), false, true⟩]) (fun s9 : Int × Bool × Bool × (List Int) × Int × Int × Int => m_puny_Encode_K10 s9 = some r) ?_ ?_
     ·intro Kn51 hn51
      ((conv=>whnf);repeat((first|apply TT mix|apply sE rfl|apply dG (by kernel_rfl)|fail);(conv=>whnf)))
      refine bnd h51 (fun y14 hy14 h51 => ?_)
      refine Or.inr (own_intro (own_call [2] (c_slices_Compact_rune_rune_own _ _ hy14) rfl (sK rfl (rowLe_ints (by first | rfl | (simp; done) | (rw [List.take_of_length_le (by simp <;> omega)]; first | rfl | (rw [List.take_take, Nat.min_self]; done) | (simp; done)))) storeLe.nil) (cellsLe.cons (And.intro rfl (AV.Le.of_eq (congrArg (AV.ms _) (by first | rfl | omega | (simp; omega) | (simp; done) | (simp only [List.length_set] at *; omega))))) cellsLe.nil) rfl) ?_)
      ((conv=>whnf);repeat((first|apply TT mix|apply sE rfl|apply dG (by kernel_rfl)|fail);(conv=>whnf)))
      obtain ⟨p52, h51⟩ := grdO h51
      ((conv=>whnf);repeat((first|apply TT mix|apply sE rfl|apply dG (by kernel_rfl)|fail);(conv=>whnf)))
      refine loop_iter (fun s16 : Int × Bool × Bool × (List Int) × Int × Int × Int × Int => mkF 94 [(0, (e_L_i32 p_l)), (6, (.mp 0 0 0)), (72, (.ms 2 y14.2)), (73, (.int .i64 ((y14.2 : Nat) : Int))), (74, (.int .i64 s16.2.2.2.2.2.2.2))] [some ⟨7, 77, (.vals [(.agg [(.int .i64 s16.1), (.bool s16.2.1), (.mpn 0 0 2 s16.2.2.1), (.ms 1 s16.2.2.2.1.length), (.int .i32 s16.2.2.2.2.1), (.int .i64 s16.2.2.2.2.2.1), (.int .i64 s16.2.2.2.2.2.2.1)])]), false, false⟩, some ⟨1, 5, (.ints .u8 s16.2.2.2.1), false, true⟩, some ⟨1, 21, (.ints .i32 y14.1), false, true⟩]) h51 (weak_gen [0, 1, 2] rfl rfl (sK rfl (rowLe_vals (valsLe.cons (cellsLe.cons (cR rfl rfl) (cellsLe.cons (cR rfl rfl) (cellsLe.cons (cR rfl rfl) (cellsLe.cons (And.intro rfl (AV.Le.of_eq (congrArg (AV.ms _) (by first | rfl | omega | (simp; omega) | (simp; done) | (simp only [List.length_set] at *; omega))))) (cellsLe.cons (cR rfl rfl) (cellsLe.cons (cR rfl rfl) (cellsLe.cons (cR rfl rfl) cellsLe.nil))))))) valsLe.nil)) (sK rfl (rowLe_ints (by first | rfl | (simp; done) | (rw [List.take_of_length_le (by simp <;> omega)]; first | rfl | (rw [List.take_take, Nat.min_self]; done) | (simp; done)))) (sK rfl (by first | exact rowLe_same fun _ _ _ => rfl | (simp; exact rowLe_same fun _ _ _ => rfl)) storeLe.nil))) (sQ rfl rfl)) ?_
      intro k18 s16 st18 Kn18 hn18 h18_ hs18
      ((conv=>whnf);repeat((first|apply TT mix|apply sE rfl|apply dG (by kernel_rfl)|fail);(conv=>whnf)))
      refine br_b rfl h18_ (fun c53 h18_ => ?_) (fun c53 h18_ => ?_)
      ·((conv=>whnf);repeat((first|apply TT mix|apply sE rfl|apply dG (by kernel_rfl)|fail);(conv=>whnf)))
       refine grd2 rfl rfl h18_ (fun h18_ => ?_)
       ((conv=>whnf);repeat((first|apply TT mix|apply sE rfl|apply dG (by kernel_rfl)|fail);(conv=>whnf)))
       refine bnd h18_ (fun y19 hy19 h18_ => ?_)
       refine own_intro (own_call [0, 1] (c_puny_encoder_all_own _ _ _ _ _ _ _ _ _ _ hy19) rfl (sK rfl (rowLe_vals (valsLe.cons (cellsLe.cons (cR rfl rfl) (cellsLe.cons (cR rfl rfl) (cellsLe.cons (cR rfl rfl) (cellsLe.cons (And.intro rfl (AV.Le.of_eq (congrArg (AV.ms _) (by first | rfl | omega | (simp; omega) | (simp; done) | (simp only [List.length_set] at *; omega))))) (cellsLe.cons (cR rfl rfl) (cellsLe.cons (cR rfl rfl) (cellsLe.cons (cR rfl rfl) cellsLe.nil))))))) valsLe.nil)) (sK rfl (rowLe_ints (by first | rfl | (simp; done) | (rw [List.take_of_length_le (by simp <;> omega)]; first | rfl | (rw [List.take_take, Nat.min_self]; done) | (simp; done)))) storeLe.nil)) (cellsLe.cons (And.intro rfl (AV.Le.refl _)) (cellsLe.cons (And.intro rfl (AV.Le.refl _)) (cellsLe.cons (And.intro rfl (AV.Le.refl _)) cellsLe.nil))) rfl) ?_
       have e := Option.some.inj h18_; subst e
       ((conv=>whnf);repeat((first|apply TT mix|apply sE rfl|apply dG (by kernel_rfl)|fail);(conv=>whnf)))
       exact hn18 _ (y19.1, y19.2.1, y19.2.2.1, y19.2.2.2.1, y19.2.2.2.2.1, y19.2.2.2.2.2.1, y19.2.2.2.2.2.2, (IntKind.wrap .i64 (s16.2.2.2.2.2.2.2 + (1 : Int)))) hs18 (weak_gen [0, 3, 2] rfl rfl (sK rfl (rowLe_vals (valsLe.cons (cellsLe.cons (cR rfl rfl) (cellsLe.cons (cR rfl rfl) (cellsLe.cons (cR rfl rfl) (cellsLe.cons (And.intro rfl (AV.Le.of_eq (congrArg (AV.ms _) (by first | rfl | omega | (simp; omega) | (simp; done) | (simp only [List.length_set] at *; omega))))) (cellsLe.cons (cR rfl rfl) (cellsLe.cons (cR rfl rfl) (cellsLe.cons (cR rfl rfl) cellsLe.nil))))))) valsLe.nil)) (sK rfl (rowLe_ints (by first | rfl | (simp; done) | (rw [List.take_of_length_le (by simp <;> omega)]; first | rfl | (rw [List.take_take, Nat.min_self]; done) | (simp; done)))) (sK rfl (by first | exact rowLe_same fun _ _ _ => rfl | (simp; exact rowLe_same fun _ _ _ => rfl)) storeLe.nil))) (sQ rfl rfl))
      ·have e := Option.some.inj h18_; subst e
       have e := done_out hs18; subst e
       ((conv=>whnf);repeat((first|apply TT mix|apply sE rfl|apply dG (by kernel_rfl)|fail);(conv=>whnf)))
       exact hn51 _ (s16.1, s16.2.1, s16.2.2.1, s16.2.2.2.1, s16.2.2.2.2.1, s16.2.2.2.2.2.1, s16.2.2.2.2.2.2.1) hc49 (weak_gen [0, 1] rfl rfl (sK rfl (rowLe_vals (valsLe.cons (cellsLe.cons (cR rfl rfl) (cellsLe.cons (cR rfl rfl) (cellsLe.cons (cR rfl rfl) (cellsLe.cons (And.intro rfl (AV.Le.of_eq (congrArg (AV.ms _) (by first | rfl | omega | (simp; omega) | (simp; done) | (simp only [List.length_set] at *; omega))))) (cellsLe.cons (cR rfl rfl) (cellsLe.cons (cR rfl rfl) (cellsLe.cons (cR rfl rfl) cellsLe.nil))))))) valsLe.nil)) (sK rfl (rowLe_ints (by first | rfl | (simp; done) | (rw [List.take_of_length_le (by simp <;> omega)]; first | rfl | (rw [List.take_take, Nat.min_self]; done) | (simp; done)))) storeLe.nil)) (slotsLe.cons (cR rfl rfl) slotsLe.nil))
     ·clear hc49 h51
      intro s9 hc54
      ((conv=>whnf);repeat((first|apply TT mix|apply sE rfl|apply dG (by kernel_rfl)|fail);(conv=>whnf)))
      refine bnd hc54 (fun y11 hy11 hc54 => ?_)
      refine own_intro (own_call [0, 1] (c_strings_Builder_Len_own _ _ _ _ _ _ _ _ hy11) rfl (sK rfl (rowLe_vals (valsLe.cons (cellsLe.cons (cR rfl rfl) (cellsLe.cons (cR rfl rfl) (cellsLe.cons (cR rfl rfl) (cellsLe.cons (And.intro rfl (AV.Le.of_eq (congrArg (AV.ms _) (by first | rfl | omega | (simp; omega) | (simp; done) | (simp only [List.length_set] at *; omega))))) (cellsLe.cons (cR rfl rfl) (cellsLe.cons (cR rfl rfl) (cellsLe.cons (cR rfl rfl) cellsLe.nil))))))) valsLe.nil)) (sK rfl (rowLe_ints (by first | rfl | (simp; done) | (rw [List.take_of_length_le (by simp <;> omega)]; first | rfl | (rw [List.take_take, Nat.min_self]; done) | (simp; done)))) storeLe.nil)) (cellsLe.cons (And.intro rfl (AV.Le.refl _)) cellsLe.nil) rfl) ?_
      ((conv=>whnf);repeat((first|apply TT mix|apply sE rfl|apply dG (by kernel_rfl)|fail);(conv=>whnf)))
      refine br_b rfl hc54 (fun c55 hc54 => ?_) (fun c55 hc54 => ?_)
      ·((conv=>whnf);repeat((first|apply TT mix|apply sE rfl|apply dG (by kernel_rfl)|fail);(conv=>whnf)))
       refine bnd hc54 (fun y12 hy12 hc54 => ?_)
       refine Or.inl ⟨_, c_puny_fault _ _ _ hy12, rfl, ?_⟩
       have e := Option.some.inj hc54; subst e
       ((conv=>whnf);repeat((first|apply TT mix|apply sE rfl|apply dG (by kernel_rfl)|fail);(conv=>whnf)))
       exact And.intro (AV.Le.refl _) rfl
      ·((conv=>whnf);repeat((first|apply TT mix|apply sE rfl|apply dG (by kernel_rfl)|fail);(conv=>whnf)))
       refine bnd hc54 (fun y13 hy13 hc54 => ?_)
       refine own_intro (own_call [0, 1] (c_strings_Builder_String_own _ _ _ _ _ _ _ _ hy13) rfl (sK rfl (rowLe_vals (valsLe.cons (cellsLe.cons (cR rfl rfl) (cellsLe.cons (cR rfl rfl) (cellsLe.cons (cR rfl rfl) (cellsLe.cons (And.intro rfl (AV.Le.of_eq (congrArg (AV.ms _) (by first | rfl | omega | (simp; omega) | (simp; done) | (simp only [List.length_set] at *; omega))))) (cellsLe.cons (cR rfl rfl) (cellsLe.cons (cR rfl rfl) (cellsLe.cons (cR rfl rfl) cellsLe.nil))))))) valsLe.nil)) (sK rfl (rowLe_ints (by first | rfl | (simp; done) | (rw [List.take_of_length_le (by simp <;> omega)]; first | rfl | (rw [List.take_take, Nat.min_self]; done) | (simp; done)))) storeLe.nil)) (cellsLe.cons (And.intro rfl (AV.Le.refl _)) cellsLe.nil) rfl) ?_
       ((conv=>whnf);repeat((first|apply TT mix|apply sE rfl|apply dG (by kernel_rfl)|fail);(conv=>whnf)))
       obtain ⟨p56, hc54⟩ := grdO hc54
       have e := Option.some.inj hc54; subst e
       ((conv=>whnf);repeat((first|apply TT mix|apply sE rfl|apply dG (by kernel_rfl)|fail);(conv=>whnf)))
       exact And.intro (AV.Le.tup (argsLe.cons (AV.Le.refl _) (argsLe.cons (AV.Le.err_nil) argsLe.nil))) rfl
theorem c_internal_bytealg_LastIndexByteString (p_s : ByteArray) (p_c : Int) (r : Int) (h : m_internal_bytealg_LastIndexByteString p_s p_c = some r) : Contract pl 74 [(AV.str p_s), (AV.int .u8 p_c)] [] (AV.int .i64 r) [] := by
 refine contract_of (.t false .z (.t true .z .z)) Tryd.func74 rfl (by kernel_rfl) ?_
 ((conv=>whnf);repeat((first|apply TT mix|apply sE rfl|apply dG (by kernel_rfl)|fail);(conv=>whnf)))
 refine bnd h (fun x10 h10 h => ?_)
 refine cut_at (fun s1 : Unit => mkF 19 [] []) (fun s1 : Unit => some (-1 : Int) = some r) ?_ ?_
 ·intro Kn10 hn10
  ((conv=>whnf);repeat((first|apply TT mix|apply sE rfl|apply dG (by kernel_rfl)|fail);(conv=>whnf)))
  refine loop_iter (fun s4 : Int => mkF 19 [(0, (.str p_s)), (1, (.int .u8 p_c)), (5, (.int .i64 s4))] []) h10 (weak_gen [] rfl rfl storeLe.nil (sQ rfl rfl)) ?_
  intro k6 s4 st6 Kn6 hn6 h6_ hs6
  ((conv=>whnf);repeat((first|apply TT mix|apply sE rfl|apply dG (by kernel_rfl)|fail);(conv=>whnf)))
  refine br_b rfl h6_ (fun c11 h6_ => ?_) (fun c11 h6_ => ?_)
  ·((conv=>whnf);repeat((first|apply TT mix|apply sE rfl|apply dG (by kernel_rfl)|fail);(conv=>whnf)))
   refine grd2 rfl rfl h6_ (fun h6_ => ?_)
   ((conv=>whnf);repeat((first|apply TT mix|apply sE rfl|apply dG (by kernel_rfl)|fail);(conv=>whnf)))
   refine br_b rfl h6_ (fun c12 h6_ => ?_) (fun c12 h6_ => ?_)
   ·have e := Option.some.inj h6_; subst e
    have e := done_out hs6; subst e
    have e := Option.some.inj h; subst e
    ((conv=>whnf);repeat((first|apply TT mix|apply sE rfl|apply dG (by kernel_rfl)|fail);(conv=>whnf)))
    exact And.intro (AV.Le.refl _) rfl
   ·have e := Option.some.inj h6_; subst e
    ((conv=>whnf);repeat((first|apply TT mix|apply sE rfl|apply dG (by kernel_rfl)|fail);(conv=>whnf)))
    exact hn6 _ (IntKind.wrap .i64 (s4 - (1 : Int))) hs6 (weak_gen [] rfl rfl storeLe.nil (sQ rfl rfl))
  ·have e := Option.some.inj h6_; subst e
   have e := done_out hs6; subst e
   ((conv=>whnf);repeat((first|apply TT mix|apply sE rfl|apply dG (by kernel_rfl)|fail);(conv=>whnf)))
   exact hn10 _ () h (weak_gen [] rfl rfl storeLe.nil slotsLe.nil)
 ·clear h h10
  intro s1 hc13
  have e := Option.some.inj hc13; subst e
  ((conv=>whnf);repeat((first|apply TT mix|apply sE rfl|apply dG (by kernel_rfl)|fail);(conv=>whnf)))
  exact And.intro (AV.Le.refl _) rfl
theorem c_strings_LastIndexByte (p_s : ByteArray) (p_c : Int) (r : Int) (h : m_strings_LastIndexByte p_s p_c = some r) : Contract pl 51 [(AV.str p_s), (AV.int .u8 p_c)] [] (AV.int .i64 r) [] := by
 refine contract_of .z Tryd.func51 rfl (by kernel_rfl) ?_
 ((conv=>whnf);repeat((first|apply TT mix|apply sE rfl|apply dG (by kernel_rfl)|fail);(conv=>whnf)))
 refine bnd h (fun y1 hy1 h => ?_)
 refine Or.inl ⟨_, c_internal_bytealg_LastIndexByteString _ _ _ hy1, rfl, ?_⟩
 have e := Option.some.inj h; subst e
 ((conv=>whnf);repeat((first|apply TT mix|apply sE rfl|apply dG (by kernel_rfl)|fail);(conv=>whnf)))
 exact And.intro (AV.Le.refl _) rfl
theorem c_puny_value (p_b : Int) (r : Int) (h : m_puny_value p_b = some r) : Contract pl 101 [(AV.int .u8 p_b)] [] (AV.int .i64 r) [] := by
 refine contract_of (.t false .z (.t false (.t false (.t true .z (.t false .z (.t true .z (.t false .z (.t true .z .z))))) .z) .z)) Tryd.func101 rfl (by kernel_rfl) ?_
 ((conv=>whnf);repeat((first|apply TT mix|apply sE rfl|apply dG (by kernel_rfl)|fail);(conv=>whnf)))
 refine bnd h (fun x7 h7 h => ?_)
 refine cut_at (fun s1 : Bool => mkF 34 [(0, (.int .u8 p_b)), (3, (.bool s1))] []) (fun s1 : Bool => m_puny_value_K2 p_b s1 = some r) ?_ ?_
 ·intro Kn7 hn7
  ((conv=>whnf);repeat((first|apply TT mix|apply sE rfl|apply dG (by kernel_rfl)|fail);(conv=>whnf)))
  refine br_b rfl h7 (fun c8 h7 => ?_) (fun c8 h7 => ?_)
  ·have e := Option.some.inj h7; subst e
   ((conv=>whnf);repeat((first|apply TT mix|apply sE rfl|apply dG (by kernel_rfl)|fail);(conv=>whnf)))
   exact hn7 _ (decide (p_b ≤ (122 : Int))) h (weak_gen [] rfl rfl storeLe.nil (sQ rfl rfl))
  ·have e := Option.some.inj h7; subst e
   ((conv=>whnf);repeat((first|apply TT mix|apply sE rfl|apply dG (by kernel_rfl)|fail);(conv=>whnf)))
   exact hn7 _ false h (weak_gen [] rfl rfl storeLe.nil (sQ rfl rfl))
 ·clear h h7
  intro s1 hc9
  ((conv=>whnf);repeat((first|apply TT mix|apply sE rfl|apply dG (by kernel_rfl)|fail);(conv=>whnf)))
  refine br_b rfl hc9 (fun c10 hc9 => ?_) (fun c10 hc9 => ?_)
  ·have e := Option.some.inj hc9; subst e
   ((conv=>whnf);repeat((first|apply TT mix|apply sE rfl|apply dG (by kernel_rfl)|fail);(conv=>whnf)))
   exact And.intro (AV.Le.refl _) rfl
  ·((conv=>whnf);repeat((first|apply TT mix|apply sE rfl|apply dG (by kernel_rfl)|fail);(conv=>whnf)))
   refine bnd hc9 (fun x11 h11 hc9 => ?_)
   refine cut_at (fun s3 : Bool => mkF 34 [(0, (.int .u8 p_b)), (13, (.bool s3))] []) (fun s3 : Bool => m_puny_value_K4 p_b s3 = some r) ?_ ?_
   ·intro Kn11 hn11
    ((conv=>whnf);repeat((first|apply TT mix|apply sE rfl|apply dG (by kernel_rfl)|fail);(conv=>whnf)))
    refine br_b rfl h11 (fun c12 h11 => ?_) (fun c12 h11 => ?_)
    ·have e := Option.some.inj h11; subst e
     ((conv=>whnf);repeat((first|apply TT mix|apply sE rfl|apply dG (by kernel_rfl)|fail);(conv=>whnf)))
     exact hn11 _ (decide (p_b ≤ (90 : Int))) hc9 (weak_gen [] rfl rfl storeLe.nil (sQ rfl rfl))
    ·have e := Option.some.inj h11; subst e
     ((conv=>whnf);repeat((first|apply TT mix|apply sE rfl|apply dG (by kernel_rfl)|fail);(conv=>whnf)))
     exact hn11 _ false hc9 (weak_gen [] rfl rfl storeLe.nil (sQ rfl rfl))
   ·clear hc9 h11
    intro s3 hc13
    ((conv=>whnf);repeat((first|apply TT mix|apply sE rfl|apply dG (by kernel_rfl)|fail);(conv=>whnf)))
    refine br_b rfl hc13 (fun c14 hc13 => ?_) (fun c14 hc13 => ?_)
    ·have e := Option.some.inj hc13; subst e
     ((conv=>whnf);repeat((first|apply TT mix|apply sE rfl|apply dG (by kernel_rfl)|fail);(conv=>whnf)))
     exact And.intro (AV.Le.refl _) rfl
    ·((conv=>whnf);repeat((first|apply TT mix|apply sE rfl|apply dG (by kernel_rfl)|fail);(conv=>whnf)))
     refine bnd hc13 (fun x15 h15 hc13 => ?_)
     refine cut_at (fun s5 : Bool => mkF 34 [(0, (.int .u8 p_b)), (23, (.bool s5))] []) (fun s5 : Bool => m_puny_value_K6 p_b s5 = some r) ?_ ?_
     ·intro Kn15 hn15
      ((conv=>whnf);repeat((first|apply TT mix|apply sE rfl|apply dG (by kernel_rfl)|fail);(conv=>whnf)))
      refine br_b rfl h15 (fun c16 h15 => ?_) (fun c16 h15 => ?_)
      ·have e := Option.some.inj h15; subst e
       ((conv=>whnf);repeat((first|apply TT mix|apply sE rfl|apply dG (by kernel_rfl)|fail);(conv=>whnf)))
       exact hn15 _ (decide (p_b ≤ (57 : Int))) hc13 (weak_gen [] rfl rfl storeLe.nil (sQ rfl rfl))
      ·have e := Option.some.inj h15; subst e
       ((conv=>whnf);repeat((first|apply TT mix|apply sE rfl|apply dG (by kernel_rfl)|fail);(conv=>whnf)))
       exact hn15 _ false hc13 (weak_gen [] rfl rfl storeLe.nil (sQ rfl rfl))
     ·clear hc13 h15
      intro s5 hc17
      ((conv=>whnf);repeat((first|apply TT mix|apply sE rfl|apply dG (by kernel_rfl)|fail);(conv=>whnf)))
      refine br_b rfl hc17 (fun c18 hc17 => ?_) (fun c18 hc17 => ?_)
      ·have e := Option.some.inj hc17; subst e
       ((conv=>whnf);repeat((first|apply TT mix|apply sE rfl|apply dG (by kernel_rfl)|fail);(conv=>whnf)))
       exact And.intro (AV.Le.refl _) rfl
      ·have e := Option.some.inj hc17; subst e
       ((conv=>whnf);repeat((first|apply TT mix|apply sE rfl|apply dG (by kernel_rfl)|fail);(conv=>whnf)))
       exact And.intro (AV.Le.refl _) rfl
theorem c_puny_bias_bound_own2 (p_b_0 : Int) (p_b_1 : Bool) (p_b_2 : ByteArray) (p_b_3 : Int) (p_b_4 : Int) (p_b_5 : Int) (p_b_6 : (List Int)) (p_k : Int) (r : Int × Bool × ByteArray × Int × Int × Int × Int) (h : m_puny_bias_bound_own2 p_b_0 p_b_1 p_b_2 p_b_3 p_b_4 p_b_5 p_b_6 p_k = some r) : ContractM 2 pl 78 [(.mp 0 0 0), (.int .i64 p_k)] [some ⟨7, 87, (.vals [(.agg [(.int .i64 p_b_0), (.bool p_b_1), (.str p_b_2), (.int .i64 p_b_3), (.int .i64 p_b_4), (.int .i64 p_b_5), (.ms 1 p_b_6.length)])]), false, false⟩, some ⟨1, 21, (.ints .i32 p_b_6), false, true⟩] (.int .i64 r.2.2.2.2.2.2) [some ⟨7, 87, (.vals [(.agg [(.int .i64 r.1), (.bool r.2.1), (.str r.2.2.1), (.int .i64 r.2.2.2.1), (.int .i64 r.2.2.2.2.1), (.int .i64 r.2.2.2.2.2.1), (.ms 1 p_b_6.length)])]), false, false⟩, some ⟨1, 21, (.ints .i32 p_b_6), false, true⟩] := by
 refine contract_own 2 .z rfl Tryd.func78 rfl (by kernel_rfl) ?_
 ((conv=>whnf);repeat((first|apply TT mix|apply sE rfl|apply dG (by kernel_rfl)|fail);(conv=>whnf)))
 refine bnd h (fun y1 hy1 h => ?_)
 refine Or.inl ⟨_, c_puny_within _ _ _ _ hy1, rfl, ?_⟩
 have e := Option.some.inj h; subst e
 ((conv=>whnf);repeat((first|apply TT mix|apply sE rfl|apply dG (by kernel_rfl)|fail);(conv=>whnf)))
 exact Or.inr (Or.inr (weak_gen [0, 1] rfl rfl (sK rfl (rowLe_vals (valsLe.cons (cellsLe.cons (cR rfl rfl) (cellsLe.cons (cR rfl rfl) (cellsLe.cons (cR rfl rfl) (cellsLe.cons (cR rfl rfl) (cellsLe.cons (cR rfl rfl) (cellsLe.cons (cR rfl rfl) (cellsLe.cons (And.intro rfl (AV.Le.of_eq (congrArg (AV.ms _) (by first | rfl | omega | (simp; omega) | (simp; done) | (simp only [List.length_set] at *; omega))))) cellsLe.nil))))))) valsLe.nil)) (sK rfl (by first | exact rowLe_same fun _ _ _ => rfl | (simp; exact rowLe_same fun _ _ _ => rfl)) storeLe.nil)) (slotsLe.cons (cR rfl rfl) slotsLe.nil)))
theorem c_puny_decoder_number_own (p_d_0 : Int) (p_d_1 : Bool) (p_d_2 : ByteArray) (p_d_3 : Int) (p_d_4 : Int) (p_d_5 : Int) (p_d_6 : (List Int)) (r : Int × Bool × ByteArray × Int × Int × Int × Int × Er) (h : m_puny_decoder_number_own p_d_0 p_d_1 p_d_2 p_d_3 p_d_4 p_d_5 p_d_6 = some r) : ContractM 2 pl 75 [(.mp 0 0 0)] [some ⟨7, 87, (.vals [(.agg [(.int .i64 p_d_0), (.bool p_d_1), (.str p_d_2), (.int .i64 p_d_3), (.int .i64 p_d_4), (.int .i64 p_d_5), (.ms 1 p_d_6.length)])]), false, false⟩, some ⟨1, 21, (.ints .i32 p_d_6), false, true⟩] (.tup [(.int .i64 r.2.2.2.2.2.2.1), (.err r.2.2.2.2.2.2.2)]) [some ⟨7, 87, (.vals [(.agg [(.int .i64 r.1), (.bool r.2.1), (.str r.2.2.1), (.int .i64 r.2.2.2.1), (.int .i64 r.2.2.2.2.1), (.int .i64 r.2.2.2.2.2.1), (.ms 1 p_d_6.length)])]), false, false⟩, some ⟨1, 21, (.ints .i32 p_d_6), false, true⟩] := by
 refine contract_own 2 .z rfl Tryd.func75 rfl (by kernel_rfl) ?_
 ((conv=>whnf);repeat((first|apply TT mix|apply sE rfl|apply dG (by kernel_rfl)|fail);(conv=>whnf)))
 refine bnd h (fun x4 hx4 h => ?_)
 refine loop_iter (fun s2 : Int × Bool × ByteArray × Int × Int × Int × Int × Int × Int => mkF 78 [(0, (.mp 0 0 0)), (4, (.int .i64 s2.2.2.2.2.2.2.1)), (5, (.int .i64 s2.2.2.2.2.2.2.2.1)), (6, (.int .i64 s2.2.2.2.2.2.2.2.2))] [some ⟨7, 87, (.vals [(.agg [(.int .i64 s2.1), (.bool s2.2.1), (.str s2.2.2.1), (.int .i64 s2.2.2.2.1), (.int .i64 s2.2.2.2.2.1), (.int .i64 s2.2.2.2.2.2.1), (.ms 1 p_d_6.length)])]), false, false⟩, some ⟨1, 21, (.ints .i32 p_d_6), false, true⟩]) hx4 (weak_gen [0, 1] rfl rfl (sK rfl (rowLe_vals (valsLe.cons (cellsLe.cons (cR rfl rfl) (cellsLe.cons (cR rfl rfl) (cellsLe.cons (cR rfl rfl) (cellsLe.cons (cR rfl rfl) (cellsLe.cons (cR rfl rfl) (cellsLe.cons (cR rfl rfl) (cellsLe.cons (And.intro rfl (AV.Le.of_eq (congrArg (AV.ms _) (by first | rfl | omega | (simp; omega) | (simp; done) | (simp only [List.length_set] at *; omega))))) cellsLe.nil))))))) valsLe.nil)) (sK rfl (by first | exact rowLe_same fun _ _ _ => rfl | (simp; exact rowLe_same fun _ _ _ => rfl)) storeLe.nil)) (sQ rfl rfl)) ?_
 intro k4 s2 st4 Kn4 hn4 h4 hs4
 ((conv=>whnf);repeat((first|apply TT mix|apply sE rfl|apply dG (by kernel_rfl)|fail);(conv=>whnf)))
 refine br_b rfl h4 (fun c11 h4 => ?_) (fun c11 h4 => ?_)
 ·((conv=>whnf);repeat((first|apply TT mix|apply sE rfl|apply dG (by kernel_rfl)|fail);(conv=>whnf)))
  refine bnd h4 (fun y5 hy5 h4 => ?_)
  refine Or.inl ⟨_, c_puny_fault _ _ _ hy5, rfl, ?_⟩
  have e := Option.some.inj h4; subst e
  have e := done_out hs4; subst e
  have e := Option.some.inj h; subst e
  ((conv=>whnf);repeat((first|apply TT mix|apply sE rfl|apply dG (by kernel_rfl)|fail);(conv=>whnf)))
  exact Or.inr (Or.inr (weak_gen [0, 1] rfl rfl (sK rfl (rowLe_vals (valsLe.cons (cellsLe.cons (cR rfl rfl) (cellsLe.cons (cR rfl rfl) (cellsLe.cons (cR rfl rfl) (cellsLe.cons (cR rfl rfl) (cellsLe.cons (cR rfl rfl) (cellsLe.cons (cR rfl rfl) (cellsLe.cons (And.intro rfl (AV.Le.of_eq (congrArg (AV.ms _) (by first | rfl | omega | (simp; omega) | (simp; done) | (simp only [List.length_set] at *; omega))))) cellsLe.nil))))))) valsLe.nil)) (sK rfl (by first | exact rowLe_same fun _ _ _ => rfl | (simp; exact rowLe_same fun _ _ _ => rfl)) storeLe.nil)) (slotsLe.cons (cR rfl rfl) slotsLe.nil)))
 ·((conv=>whnf);repeat((first|apply TT mix|apply sE rfl|apply dG (by kernel_rfl)|fail);(conv=>whnf)))
  refine grd2 rfl rfl h4 (fun h4 => ?_)
  ((conv=>whnf);repeat((first|apply TT mix|apply sE rfl|apply dG (by kernel_rfl)|fail);(conv=>whnf)))
  refine bnd h4 (fun y6 hy6 h4 => ?_)
  refine Or.inl ⟨_, c_puny_value _ _ hy6, rfl, ?_⟩
  ((conv=>whnf);repeat((first|apply TT mix|apply sE rfl|apply dG (by kernel_rfl)|fail);(conv=>whnf)))
  refine br_b rfl h4 (fun c12 h4 => ?_) (fun c12 h4 => ?_)
  ·((conv=>whnf);repeat((first|apply TT mix|apply sE rfl|apply dG (by kernel_rfl)|fail);(conv=>whnf)))
   refine bnd h4 (fun y7 hy7 h4 => ?_)
   refine Or.inl ⟨_, c_puny_fault _ _ _ hy7, rfl, ?_⟩
   have e := Option.some.inj h4; subst e
   have e := done_out hs4; subst e
   have e := Option.some.inj h; subst e
   ((conv=>whnf);repeat((first|apply TT mix|apply sE rfl|apply dG (by kernel_rfl)|fail);(conv=>whnf)))
   exact Or.inr (Or.inr (weak_gen [0, 1] rfl rfl (sK rfl (rowLe_vals (valsLe.cons (cellsLe.cons (cR rfl rfl) (cellsLe.cons (cR rfl rfl) (cellsLe.cons (cR rfl rfl) (cellsLe.cons (cR rfl rfl) (cellsLe.cons (cR rfl rfl) (cellsLe.cons (cR rfl rfl) (cellsLe.cons (And.intro rfl (AV.Le.of_eq (congrArg (AV.ms _) (by first | rfl | omega | (simp; omega) | (simp; done) | (simp only [List.length_set] at *; omega))))) cellsLe.nil))))))) valsLe.nil)) (sK rfl (by first | exact rowLe_same fun _ _ _ => rfl | (simp; exact rowLe_same fun _ _ _ => rfl)) storeLe.nil)) (slotsLe.cons (cR rfl rfl) slotsLe.nil)))
  ·((conv=>whnf);repeat((first|apply TT mix|apply sE rfl|apply dG (by kernel_rfl)|fail);(conv=>whnf)))
   refine br_b rfl h4 (fun c13 h4 => ?_) (fun c13 h4 => ?_)
   ·((conv=>whnf);repeat((first|apply TT mix|apply sE rfl|apply dG (by kernel_rfl)|fail);(conv=>whnf)))
    refine bnd h4 (fun y8 hy8 h4 => ?_)
    refine Or.inl ⟨_, c_puny_fault _ _ _ hy8, rfl, ?_⟩
    have e := Option.some.inj h4; subst e
    have e := done_out hs4; subst e
    have e := Option.some.inj h; subst e
    ((conv=>whnf);repeat((first|apply TT mix|apply sE rfl|apply dG (by kernel_rfl)|fail);(conv=>whnf)))
    exact Or.inr (Or.inr (weak_gen [0, 1] rfl rfl (sK rfl (rowLe_vals (valsLe.cons (cellsLe.cons (cR rfl rfl) (cellsLe.cons (cR rfl rfl) (cellsLe.cons (cR rfl rfl) (cellsLe.cons (cR rfl rfl) (cellsLe.cons (cR rfl rfl) (cellsLe.cons (cR rfl rfl) (cellsLe.cons (And.intro rfl (AV.Le.of_eq (congrArg (AV.ms _) (by first | rfl | omega | (simp; omega) | (simp; done) | (simp only [List.length_set] at *; omega))))) cellsLe.nil))))))) valsLe.nil)) (sK rfl (by first | exact rowLe_same fun _ _ _ => rfl | (simp; exact rowLe_same fun _ _ _ => rfl)) storeLe.nil)) (slotsLe.cons (cR rfl rfl) slotsLe.nil)))
   ·((conv=>whnf);repeat((first|apply TT mix|apply sE rfl|apply dG (by kernel_rfl)|fail);(conv=>whnf)))
    refine bnd h4 (fun y9 hy9 h4 => ?_)
    refine Or.inr (own_intro (own_call [0, 1] (c_puny_bias_bound_own2 _ _ _ _ _ _ _ _ _ hy9) rfl (sK rfl (rowLe_vals (valsLe.cons (cellsLe.cons (cR rfl rfl) (cellsLe.cons (cR rfl rfl) (cellsLe.cons (cR rfl rfl) (cellsLe.cons (cR rfl rfl) (cellsLe.cons (cR rfl rfl) (cellsLe.cons (cR rfl rfl) (cellsLe.cons (And.intro rfl (AV.Le.of_eq (congrArg (AV.ms _) (by first | rfl | omega | (simp; omega) | (simp; done) | (simp only [List.length_set] at *; omega))))) cellsLe.nil))))))) valsLe.nil)) (sK rfl (rowLe_ints (by first | rfl | (simp; done) | (rw [List.take_of_length_le (by simp <;> omega)]; first | rfl | (rw [List.take_take, Nat.min_self]; done) | (simp; done)))) storeLe.nil)) (cellsLe.cons (And.intro rfl (AV.Le.refl _)) (cellsLe.cons (And.intro rfl (AV.Le.refl _)) cellsLe.nil)) rfl) ?_)
    ((conv=>whnf);repeat((first|apply TT mix|apply sE rfl|apply dG (by kernel_rfl)|fail);(conv=>whnf)))
    refine br_b rfl h4 (fun c14 h4 => ?_) (fun c14 h4 => ?_)
    ·have e := Option.some.inj h4; subst e
     have e := done_out hs4; subst e
     have e := Option.some.inj h; subst e
     ((conv=>whnf);repeat((first|apply TT mix|apply sE rfl|apply dG (by kernel_rfl)|fail);(conv=>whnf)))
     exact Or.inr (Or.inr (weak_gen [0, 1] rfl rfl (sK rfl (rowLe_vals (valsLe.cons (cellsLe.cons (cR rfl rfl) (cellsLe.cons (cR rfl rfl) (cellsLe.cons (cR rfl rfl) (cellsLe.cons (cR rfl rfl) (cellsLe.cons (cR rfl rfl) (cellsLe.cons (cR rfl rfl) (cellsLe.cons (And.intro rfl (AV.Le.of_eq (congrArg (AV.ms _) (by first | rfl | omega | (simp; omega) | (simp; done) | (simp only [List.length_set] at *; omega))))) cellsLe.nil))))))) valsLe.nil)) (sK rfl (by first | exact rowLe_same fun _ _ _ => rfl | (simp; exact rowLe_same fun _ _ _ => rfl)) storeLe.nil)) (slotsLe.cons (And.intro rfl (AV.Le.tup (argsLe.cons (AV.Le.refl _) (argsLe.cons (AV.Le.err_nil) argsLe.nil)))) slotsLe.nil)))
    ·have e := Option.some.inj h4; subst e
     ((conv=>whnf);repeat((first|apply TT mix|apply sE rfl|apply dG (by kernel_rfl)|fail);(conv=>whnf)))
     exact hn4 _ (y9.1, y9.2.1, y9.2.2.1, y9.2.2.2.1, y9.2.2.2.2.1, y9.2.2.2.2.2.1, (IntKind.wrap .i64 (s2.2.2.2.2.2.2.1 + (IntKind.wrap .i64 (y6 * s2.2.2.2.2.2.2.2.1)))), (IntKind.wrap .i64 (s2.2.2.2.2.2.2.2.1 * (IntKind.wrap .i64 ((36 : Int) - y9.2.2.2.2.2.2)))), (IntKind.wrap .i64 (s2.2.2.2.2.2.2.2.2 + (1 : Int)))) hs4 (weak_gen [0, 1] rfl rfl (sK rfl (rowLe_vals (valsLe.cons (cellsLe.cons (cR rfl rfl) (cellsLe.cons (cR rfl rfl) (cellsLe.cons (cR rfl rfl) (cellsLe.cons (cR rfl rfl) (cellsLe.cons (cR rfl rfl) (cellsLe.cons (cR rfl rfl) (cellsLe.cons (And.intro rfl (AV.Le.of_eq (congrArg (AV.ms _) (by first | rfl | omega | (simp; omega) | (simp; done) | (simp only [List.length_set] at *; omega))))) cellsLe.nil))))))) valsLe.nil)) (sK rfl (by first | exact rowLe_same fun _ _ _ => rfl | (simp; exact rowLe_same fun _ _ _ => rfl)) storeLe.nil)) (sQ rfl rfl))
theorem c_puny_bias_adapt_own2 (p_b_0 : Int) (p_b_1 : Bool) (p_b_2 : ByteArray) (p_b_3 : Int) (p_b_4 : Int) (p_b_5 : Int) (p_b_6 : (List Int)) (p_d : Int) (p_many : Int) (r : Int × Bool × ByteArray × Int × Int × Int) (h : m_puny_bias_adapt_own2 p_b_0 p_b_1 p_b_2 p_b_3 p_b_4 p_b_5 p_b_6 p_d p_many = some r) : ContractM 2 pl 76 [(.mp 0 0 0), (.int .i64 p_d), (.int .i64 p_many)] [some ⟨7, 87, (.vals [(.agg [(.int .i64 p_b_0), (.bool p_b_1), (.str p_b_2), (.int .i64 p_b_3), (.int .i64 p_b_4), (.int .i64 p_b_5), (.ms 1 p_b_6.length)])]), false, false⟩, some ⟨1, 21, (.ints .i32 p_b_6), false, true⟩] (.tup []) [some ⟨7, 87, (.vals [(.agg [(.int .i64 r.1), (.bool r.2.1), (.str r.2.2.1), (.int .i64 r.2.2.2.1), (.int .i64 r.2.2.2.2.1), (.int .i64 r.2.2.2.2.2), (.ms 1 p_b_6.length)])]), false, false⟩, some ⟨1, 21, (.ints .i32 p_b_6), false, true⟩] := by
 refine contract_own 2 .z rfl Tryd.func76 rfl (by kernel_rfl) ?_
 ((conv=>whnf);repeat((first|apply TT mix|apply sE rfl|apply dG (by kernel_rfl)|fail);(conv=>whnf)))
 refine bnd h (fun y1 hy1 h => ?_)
 refine Or.inl ⟨_, c_puny_Bias _ _ _ _ hy1, rfl, ?_⟩
 have e := Option.some.inj h; subst e
 ((conv=>whnf);repeat((first|apply TT mix|apply sE rfl|apply dG (by kernel_rfl)|fail);(conv=>whnf)))
 exact Or.inr (Or.inr (weak_gen [0, 1] rfl rfl (sK rfl (rowLe_vals (valsLe.cons (cellsLe.cons (cR rfl rfl) (cellsLe.cons (cR rfl rfl) (cellsLe.cons (cR rfl rfl) (cellsLe.cons (cR rfl rfl) (cellsLe.cons (cR rfl rfl) (cellsLe.cons (cR rfl rfl) (cellsLe.cons (And.intro rfl (AV.Le.of_eq (congrArg (AV.ms _) (by first | rfl | omega | (simp; omega) | (simp; done) | (simp only [List.length_set] at *; omega))))) cellsLe.nil))))))) valsLe.nil)) (sK rfl (by first | exact rowLe_same fun _ _ _ => rfl | (simp; exact rowLe_same fun _ _ _ => rfl)) storeLe.nil)) (slotsLe.cons (cR rfl rfl) slotsLe.nil)))
end Go.Proofs.YtclhniadffljdaaDoor
