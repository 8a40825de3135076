/- Contracts of functions, walked by their models; printed by a program of ours. No condition. -/
import Derived.Test.YtclhniadffljdaaDoorK1
import Derived.Test.YtclhniadffljdaaDoorInsI
import Derived.Test.YtclhniadffljdaaDoorProg
import Derived.KernelRfl
namespace Go.Proofs.YtclhniadffljdaaDoor
open Go Go.SE
set_option linter.unusedVariables false
set_option linter.unusedSimpArgs false
set_option maxRecDepth 10000
set_option maxHeartbeats 2000000
attribute [local irreducible] Contract iter
theorem c_puny_decoder_next_own (p_d_0 : Int) (p_d_1 : Bool) (p_d_2 : ByteArray) (p_d_3 : Int) (p_d_4 : Int) (p_d_5 : Int) (p_d_6 : (List Int)) (r : Int × Bool × ByteArray × Int × Int × Int × (List Int) × Er) (h : m_puny_decoder_next_own p_d_0 p_d_1 p_d_2 p_d_3 p_d_4 p_d_5 p_d_6 = some r) : ContractM 1 pl 52 [(.mp 0 0 0)] [some ⟨7, 87, (.vals [(.agg [(.int .i64 p_d_0), (.bool p_d_1), (.str p_d_2), (.int .i64 p_d_3), (.int .i64 p_d_4), (.int .i64 p_d_5), (.ms 1 p_d_6.length)])]), false, false⟩, some ⟨1, 21, (.ints .i32 p_d_6), false, true⟩] (.err r.2.2.2.2.2.2.2) [some ⟨7, 87, (.vals [(.agg [(.int .i64 r.1), (.bool r.2.1), (.str r.2.2.1), (.int .i64 r.2.2.2.1), (.int .i64 r.2.2.2.2.1), (.int .i64 r.2.2.2.2.2.1), (.ms 1 r.2.2.2.2.2.2.1.length)])]), false, false⟩, some ⟨1, 21, (.ints .i32 r.2.2.2.2.2.2.1), false, true⟩] := by
 refine contract_own 1 (.t false .z (.t false .z (.t false .z (.t false .z (.t false .z (.t false .z (.t false .z (.t false (.t true .z .z) .z)))))))) rfl Tryd.func52 rfl (by kernel_rfl) ?_
 ((conv=>whnf);repeat((first|apply TT mix|apply sE rfl|apply dG (by kernel_rfl)|fail);(conv=>whnf)))
 refine bnd h (fun y1 hy1 h => ?_)
 refine Or.inr (own_intro (own_call [0, 1] (c_puny_decoder_number_own _ _ _ _ _ _ _ _ hy1) rfl (sK rfl (rowLe_vals (valsLe.cons (cellsLe.cons (cR rfl rfl) (cellsLe.cons (cR rfl rfl) (cellsLe.cons (cR rfl rfl) (cellsLe.cons (cR rfl rfl) (cellsLe.cons (cR rfl rfl) (cellsLe.cons (cR rfl rfl) (cellsLe.cons (And.intro rfl (AV.Le.of_eq (congrArg (AV.ms _) (by first | rfl | omega | (simp; omega) | (simp; done) | (simp only [List.length_set] at *; omega))))) cellsLe.nil))))))) valsLe.nil)) (sK rfl (rowLe_ints (by first | rfl | (simp; done) | (rw [List.take_of_length_le (by simp <;> omega)]; first | rfl | (rw [List.take_take, Nat.min_self]; done) | (simp; done)))) storeLe.nil)) (cellsLe.cons (And.intro rfl (AV.Le.refl _)) cellsLe.nil) rfl) ?_)
 ((conv=>whnf);repeat((first|apply TT mix|apply sE rfl|apply dG (by kernel_rfl)|fail);(conv=>whnf)))
 refine br_b rfl h (fun c8 h => ?_) (fun c8 h => ?_)
 ·have e := Option.some.inj h; subst e
  ((conv=>whnf);repeat((first|apply TT mix|apply sE rfl|apply dG (by kernel_rfl)|fail);(conv=>whnf)))
  exact Or.inr (Or.inr (weak_gen [0, 1] rfl rfl (sK rfl (rowLe_vals (valsLe.cons (cellsLe.cons (cR rfl rfl) (cellsLe.cons (cR rfl rfl) (cellsLe.cons (cR rfl rfl) (cellsLe.cons (cR rfl rfl) (cellsLe.cons (cR rfl rfl) (cellsLe.cons (cR rfl rfl) (cellsLe.cons (And.intro rfl (AV.Le.of_eq (congrArg (AV.ms _) (by first | rfl | omega | (simp; omega) | (simp; done) | (simp only [List.length_set] at *; omega))))) cellsLe.nil))))))) valsLe.nil)) (sK rfl (rowLe_ints (by first | rfl | (simp; done) | (rw [List.take_of_length_le (by simp <;> omega)]; first | rfl | (rw [List.take_take, Nat.min_self]; done) | (simp; done)))) storeLe.nil)) (slotsLe.cons (cR rfl rfl) slotsLe.nil)))
 ·((conv=>whnf);repeat((first|apply TT mix|apply sE rfl|apply dG (by kernel_rfl)|fail);(conv=>whnf)))
  refine bnd h (fun y2 hy2 h => ?_)
  refine Or.inr (own_intro (own_call [0, 1] (c_puny_bias_adapt_own2 _ _ _ _ _ _ _ _ _ _ hy2) rfl (sK rfl (rowLe_vals (valsLe.cons (cellsLe.cons (cR rfl rfl) (cellsLe.cons (cR rfl rfl) (cellsLe.cons (cR rfl rfl) (cellsLe.cons (cR rfl rfl) (cellsLe.cons (cR rfl rfl) (cellsLe.cons (cR rfl rfl) (cellsLe.cons (And.intro rfl (AV.Le.of_eq (congrArg (AV.ms _) (by first | rfl | omega | (simp; omega) | (simp; done) | (simp only [List.length_set] at *; omega))))) cellsLe.nil))))))) valsLe.nil)) (sK rfl (rowLe_ints (by first | rfl | (simp; done) | (rw [List.take_of_length_le (by simp <;> omega)]; first | rfl | (rw [List.take_take, Nat.min_self]; done) | (simp; done)))) storeLe.nil)) (cellsLe.cons (And.intro rfl (AV.Le.refl _)) (cellsLe.cons (And.intro rfl (AV.Le.refl _)) (cellsLe.cons (And.intro rfl (AV.Le.refl _)) cellsLe.nil))) rfl) ?_)
  ((conv=>whnf);repeat((first|apply TT mix|apply sE rfl|apply dG (by kernel_rfl)|fail);(conv=>whnf)))
  refine grd1 rfl h (fun h => ?_)
  ((conv=>whnf);repeat((first|apply TT mix|apply sE rfl|apply dG (by kernel_rfl)|fail);(conv=>whnf)))
  refine grd1 rfl h (fun h => ?_)
  ((conv=>whnf);repeat((first|apply TT mix|apply sE rfl|apply dG (by kernel_rfl)|fail);(conv=>whnf)))
  refine bnd h (fun x9 h9 h => ?_)
  refine cut_at (fun s3 : Bool => mkF 98 [(0, (.mp 0 0 0)), (65, (.bool s3))] [some ⟨7, 87, (.vals [(.agg [(.int .i64 y2.1), (.bool y2.2.1), (.str y2.2.2.1), (.int .i64 y2.2.2.2.1), (.int .i64 (IntKind.wrap .i64 (y2.2.2.2.2.1 + (IntKind.wrap .i64 (Int.tdiv (IntKind.wrap .i64 (y2.2.2.2.2.2 + y1.2.2.2.2.2.2.1)) (IntKind.wrap .i64 (((p_d_6.length : Nat) : Int) + (1 : Int)))))))), (.int .i64 (Int.tmod (IntKind.wrap .i64 (y2.2.2.2.2.2 + y1.2.2.2.2.2.2.1)) (IntKind.wrap .i64 (((p_d_6.length : Nat) : Int) + (1 : Int))))), (.ms 1 p_d_6.length)])]), false, false⟩, some ⟨1, 21, (.ints .i32 p_d_6), false, true⟩]) (fun s3 : Bool => m_puny_decoder_next_own_K4 p_d_6 y1 y2 s3 = some r) ?_ ?_
  ·intro Kn9 hn9
   ((conv=>whnf);repeat((first|apply TT mix|apply sE rfl|apply dG (by kernel_rfl)|fail);(conv=>whnf)))
   refine br_b rfl h9 (fun c10 h9 => ?_) (fun c10 h9 => ?_)
   ·have e := Option.some.inj h9; subst e
    ((conv=>whnf);repeat((first|apply TT mix|apply sE rfl|apply dG (by kernel_rfl)|fail);(conv=>whnf)))
    exact hn9 _ true h (weak_gen [0, 1] rfl rfl (sK rfl (rowLe_vals (valsLe.cons (cellsLe.cons (cR rfl rfl) (cellsLe.cons (cR rfl rfl) (cellsLe.cons (cR rfl rfl) (cellsLe.cons (cR rfl rfl) (cellsLe.cons (cR rfl rfl) (cellsLe.cons (cR rfl rfl) (cellsLe.cons (And.intro rfl (AV.Le.of_eq (congrArg (AV.ms _) (by first | rfl | omega | (simp; omega) | (simp; done) | (simp only [List.length_set] at *; omega))))) cellsLe.nil))))))) valsLe.nil)) (sK rfl (by first | exact rowLe_same fun _ _ _ => rfl | (simp; exact rowLe_same fun _ _ _ => rfl)) storeLe.nil)) (sQ rfl rfl))
   ·((conv=>whnf);repeat((first|apply TT mix|apply sE rfl|apply dG (by kernel_rfl)|fail);(conv=>whnf)))
    refine bnd h9 (fun y7 hy7 h9 => ?_)
    refine Or.inl ⟨_, c_utf_Right _ _ hy7, rfl, ?_⟩
    have e := Option.some.inj h9; subst e
    ((conv=>whnf);repeat((first|apply TT mix|apply sE rfl|apply dG (by kernel_rfl)|fail);(conv=>whnf)))
    exact hn9 _ (!y7) h (weak_gen [0, 1] rfl rfl (sK rfl (rowLe_vals (valsLe.cons (cellsLe.cons (cR rfl rfl) (cellsLe.cons (cR rfl rfl) (cellsLe.cons (cR rfl rfl) (cellsLe.cons (cR rfl rfl) (cellsLe.cons (cR rfl rfl) (cellsLe.cons (cR rfl rfl) (cellsLe.cons (And.intro rfl (AV.Le.of_eq (congrArg (AV.ms _) (by first | rfl | omega | (simp; omega) | (simp; done) | (simp only [List.length_set] at *; omega))))) cellsLe.nil))))))) valsLe.nil)) (sK rfl (by first | exact rowLe_same fun _ _ _ => rfl | (simp; exact rowLe_same fun _ _ _ => rfl)) storeLe.nil)) (sQ rfl rfl))
  ·clear h h9
   intro s3 hc11
   ((conv=>whnf);repeat((first|apply TT mix|apply sE rfl|apply dG (by kernel_rfl)|fail);(conv=>whnf)))
   refine br_b rfl hc11 (fun c12 hc11 => ?_) (fun c12 hc11 => ?_)
   ·((conv=>whnf);repeat((first|apply TT mix|apply sE rfl|apply dG (by kernel_rfl)|fail);(conv=>whnf)))
    refine bnd hc11 (fun y5 hy5 hc11 => ?_)
    refine Or.inl ⟨_, c_puny_fault _ _ _ hy5, rfl, ?_⟩
    have e := Option.some.inj hc11; subst e
    ((conv=>whnf);repeat((first|apply TT mix|apply sE rfl|apply dG (by kernel_rfl)|fail);(conv=>whnf)))
    exact Or.inr (Or.inr (weak_gen [0, 1] rfl rfl (sK rfl (rowLe_vals (valsLe.cons (cellsLe.cons (cR rfl rfl) (cellsLe.cons (cR rfl rfl) (cellsLe.cons (cR rfl rfl) (cellsLe.cons (cR rfl rfl) (cellsLe.cons (cR rfl rfl) (cellsLe.cons (cR rfl rfl) (cellsLe.cons (And.intro rfl (AV.Le.of_eq (congrArg (AV.ms _) (by first | rfl | omega | (simp; omega) | (simp; done) | (simp only [List.length_set] at *; omega))))) cellsLe.nil))))))) valsLe.nil)) (sK rfl (rowLe_ints (by first | rfl | (simp; done) | (rw [List.take_of_length_le (by simp <;> omega)]; first | rfl | (rw [List.take_take, Nat.min_self]; done) | (simp; done)))) storeLe.nil)) (slotsLe.cons (cR rfl rfl) slotsLe.nil)))
   ·((conv=>whnf);repeat((first|apply TT mix|apply sE rfl|apply dG (by kernel_rfl)|fail);(conv=>whnf)))
    refine bnd hc11 (fun y6 hy6 hc11 => ?_)
    refine Or.inr (own_intro (own_call [1] (c_slices_Insert _ _ _ _ hy6) rfl (sK rfl (rowLe_ints (by first | rfl | (simp; done) | (rw [List.take_of_length_le (by simp <;> omega)]; first | rfl | (rw [List.take_take, Nat.min_self]; done) | (simp; done)))) storeLe.nil) (cellsLe.cons (And.intro rfl (AV.Le.of_eq (congrArg (AV.ms _) (by first | rfl | omega | (simp; omega) | (simp; done) | (simp only [List.length_set] at *; omega))))) (cellsLe.cons (And.intro rfl (AV.Le.refl _)) (cellsLe.cons (And.intro rfl (AV.Le.list (by simp; try omega) (fun j hj => by first | rfl | rw [getD_sub hj] | (rw [getD_take hj]; simp) | simp))) cellsLe.nil))) rfl) ?_)
    have e := Option.some.inj hc11; subst e
    ((conv=>whnf);repeat((first|apply TT mix|apply sE rfl|apply dG (by kernel_rfl)|fail);(conv=>whnf)))
    exact Or.inr (Or.inr (weak_gen [0, 2] rfl rfl (sK rfl (rowLe_vals (valsLe.cons (cellsLe.cons (cR rfl rfl) (cellsLe.cons (cR rfl rfl) (cellsLe.cons (cR rfl rfl) (cellsLe.cons (cR rfl rfl) (cellsLe.cons (cR rfl rfl) (cellsLe.cons (cR rfl rfl) (cellsLe.cons (And.intro rfl (AV.Le.of_eq (congrArg (AV.ms _) (by first | rfl | omega | (simp; omega) | (simp; done) | (simp only [List.length_set] at *; omega))))) cellsLe.nil))))))) valsLe.nil)) (sK rfl (rowLe_ints (by first | rfl | (simp; done) | (rw [List.take_of_length_le (by simp <;> omega)]; first | rfl | (rw [List.take_take, Nat.min_self]; done) | (simp; done)))) storeLe.nil)) (slotsLe.cons (And.intro rfl (AV.Le.err_nil)) slotsLe.nil)))
theorem c_puny_Decode (p_s : ByteArray) (r : (List Int) × Er) (h : m_puny_Decode p_s = some r) : Contract pl 23 [(AV.str p_s)] [] (AV.tup [(e_L_i32 r.1), (AV.err r.2)]) [] := by
 refine contract_of (.t false .z (.t false .z (.t true .z (.t false .z (.t true .z (.t true .z .z)))))) Tryd.func23 rfl (by kernel_rfl) ?_
 ((conv=>whnf);repeat((first|apply TT mix|apply sE rfl|apply dG (by kernel_rfl)|fail);(conv=>whnf)))
 refine br_b rfl h (fun c25 h => ?_) (fun c25 h => ?_)
 ·((conv=>whnf);repeat((first|apply TT mix|apply sE rfl|apply dG (by kernel_rfl)|fail);(conv=>whnf)))
  refine bnd h (fun y1 hy1 h => ?_)
  refine Or.inl ⟨_, c_puny_fault _ _ _ hy1, rfl, ?_⟩
  have e := Option.some.inj h; subst e
  ((conv=>whnf);repeat((first|apply TT mix|apply sE rfl|apply dG (by kernel_rfl)|fail);(conv=>whnf)))
  exact And.intro (AV.Le.tup (argsLe.cons (AV.Le.list rfl (fun j hj => absurd hj (Nat.not_lt_zero _))) (argsLe.cons (AV.Le.refl _) argsLe.nil))) rfl
 ·((conv=>whnf);repeat((first|apply TT mix|apply sE rfl|apply dG (by kernel_rfl)|fail);(conv=>whnf)))
  refine bnd h (fun x26 h26 h => ?_)
  refine cut_at (fun s2 : Unit => mkF 62 [(0, (.str p_s))] []) (fun s2 : Unit => m_puny_Decode_K3 p_s s2 = some r) ?_ ?_
  ·intro Kn26 hn26
   ((conv=>whnf);repeat((first|apply TT mix|apply sE rfl|apply dG (by kernel_rfl)|fail);(conv=>whnf)))
   refine loop_iter (fun s18 : Int => mkF 62 [(0, (.str p_s)), (4, (.int .i64 s18))] []) h26 (weak_gen [] rfl rfl storeLe.nil (sQ rfl rfl)) ?_
   intro k20 s18 st20 Kn20 hn20 h20_ hs20
   ((conv=>whnf);repeat((first|apply TT mix|apply sE rfl|apply dG (by kernel_rfl)|fail);(conv=>whnf)))
   refine br_b rfl h20_ (fun c27 h20_ => ?_) (fun c27 h20_ => ?_)
   ·((conv=>whnf);repeat((first|apply TT mix|apply sE rfl|apply dG (by kernel_rfl)|fail);(conv=>whnf)))
    refine grd2 rfl rfl h20_ (fun h20_ => ?_)
    ((conv=>whnf);repeat((first|apply TT mix|apply sE rfl|apply dG (by kernel_rfl)|fail);(conv=>whnf)))
    refine br_b rfl h20_ (fun c28 h20_ => ?_) (fun c28 h20_ => ?_)
    ·((conv=>whnf);repeat((first|apply TT mix|apply sE rfl|apply dG (by kernel_rfl)|fail);(conv=>whnf)))
     refine bnd h20_ (fun y21 hy21 h20_ => ?_)
     refine Or.inl ⟨_, c_puny_fault _ _ _ hy21, rfl, ?_⟩
     have e := Option.some.inj h20_; subst e
     have e := done_out hs20; subst e
     have e := Option.some.inj h; subst e
     ((conv=>whnf);repeat((first|apply TT mix|apply sE rfl|apply dG (by kernel_rfl)|fail);(conv=>whnf)))
     exact And.intro (AV.Le.tup (argsLe.cons (AV.Le.list rfl (fun j hj => absurd hj (Nat.not_lt_zero _))) (argsLe.cons (AV.Le.refl _) argsLe.nil))) rfl
    ·have e := Option.some.inj h20_; subst e
     ((conv=>whnf);repeat((first|apply TT mix|apply sE rfl|apply dG (by kernel_rfl)|fail);(conv=>whnf)))
     exact hn20 _ (IntKind.wrap .i64 (s18 + (1 : Int))) hs20 (weak_gen [] rfl rfl storeLe.nil (sQ rfl rfl))
   ·have e := Option.some.inj h20_; subst e
    have e := done_out hs20; subst e
    ((conv=>whnf);repeat((first|apply TT mix|apply sE rfl|apply dG (by kernel_rfl)|fail);(conv=>whnf)))
    exact hn26 _ () h (weak_gen [] rfl rfl storeLe.nil (slotsLe.cons (cR rfl rfl) slotsLe.nil))
  ·clear h h26
   intro s2 hc29
   ((conv=>whnf);repeat((first|apply TT mix|apply sE rfl|apply dG (by kernel_rfl)|fail);(conv=>whnf)))
   refine bnd hc29 (fun x30 h30 hc29 => ?_)
   refine cut_at (fun s4 : Int × (List Int) => mkF 62 [(0, (.str p_s)), (5, (.mp 0 0 0))] [some ⟨7, 87, (.vals [(.agg [(.int .i64 (72 : Int)), (.bool false), (.str p_s), (.int .i64 s4.1), (.int .i64 (128 : Int)), (.int .i64 (0 : Int)), (.ms 1 s4.2.length)])]), false, false⟩, some ⟨1, 21, (.ints .i32 s4.2), false, true⟩]) (fun s4 : Int × (List Int) => m_puny_Decode_K5 p_s s4 = some r) ?_ ?_
   ·intro Kn30 hn30
    ((conv=>whnf);repeat((first|apply TT mix|apply sE rfl|apply dG (by kernel_rfl)|fail);(conv=>whnf)))
    refine bnd h30 (fun y16 hy16 h30 => ?_)
    refine Or.inl ⟨_, c_strings_LastIndexByte _ _ _ hy16, rfl, ?_⟩
    ((conv=>whnf);repeat((first|apply TT mix|apply sE rfl|apply dG (by kernel_rfl)|fail);(conv=>whnf)))
    refine br_b rfl h30 (fun c31 h30 => ?_) (fun c31 h30 => ?_)
    ·((conv=>whnf);repeat((first|apply TT mix|apply sE rfl|apply dG (by kernel_rfl)|fail);(conv=>whnf)))
     have gh30 := gOf h30
     refine grd3 rfl rfl rfl h30 (fun h30 => ?_)
     ((conv=>whnf);repeat((first|apply TT mix|apply sE rfl|apply dG (by kernel_rfl)|fail);(conv=>whnf)))
     obtain ⟨p32, h30⟩ := grdO h30
     refine And.intro p32 ?_
     have e := Option.some.inj h30; subst e
     ((conv=>whnf);repeat((first|apply TT mix|apply sE rfl|apply dG (by kernel_rfl)|fail);(conv=>whnf)))
     exact hn30 _ ((IntKind.wrap .i64 (y16 + (1 : Int))), (runesL (p_s.extract 0 (y16.toNat)))) hc29 (weak_gen [0, 1] rfl rfl (sK rfl (rowLe_vals (valsLe.cons (cellsLe.cons (cR rfl rfl) (cellsLe.cons (cR rfl rfl) (cellsLe.cons (cR rfl rfl) (cellsLe.cons (cR rfl rfl) (cellsLe.cons (cR rfl rfl) (cellsLe.cons (cR rfl rfl) (cellsLe.cons (And.intro rfl (AV.Le.of_eq (congrArg (AV.ms _) (by first | rfl | omega | (simp; omega) | (simp; done) | (simp only [List.length_set] at *; omega))))) cellsLe.nil))))))) valsLe.nil)) (storeLe.cons rfl (objLe.mk id (fun _ => rfl) (rowLe_ints (by first | rfl | (simp; done) | (rw [List.take_of_length_le (by simp <;> omega)]; first | rfl | (rw [List.take_take, Nat.min_self]; done) | (simp; done))))) storeLe.nil)) (sQ rfl rfl))
    ·have e := Option.some.inj h30; subst e
     ((conv=>whnf);repeat((first|apply TT mix|apply sE rfl|apply dG (by kernel_rfl)|fail);(conv=>whnf)))
     exact hn30 _ ((0 : Int), []) hc29 (weak_trans (weak_nilc 0 0 6 _ [(.agg [(.int .i64 (72 : Int)), (.bool false), (.str p_s), (.int .i64 (0 : Int)), (.int .i64 (128 : Int)), (.int .i64 (0 : Int)), (.sl (some true) 0 fun _ => .unk)])] [(.int .i64 (72 : Int)), (.bool false), (.str p_s), (.int .i64 (0 : Int)), (.int .i64 (128 : Int)), (.int .i64 (0 : Int)), (.sl (some true) 0 fun _ => .unk)] 1 21 (.ints .i32 []) _ rfl rfl rfl rfl rfl trivial (by first | exact Nat.zero_le _ | simp)) (weak_gen [0, 1] rfl rfl (sK rfl (rowLe_vals (valsLe.cons (cellsLe.cons (cR rfl rfl) (cellsLe.cons (cR rfl rfl) (cellsLe.cons (cR rfl rfl) (cellsLe.cons (cR rfl rfl) (cellsLe.cons (cR rfl rfl) (cellsLe.cons (cR rfl rfl) (cellsLe.cons (cR rfl rfl) cellsLe.nil))))))) valsLe.nil)) (sK rfl (rowLe_ints (by first | rfl | (simp; done) | (rw [List.take_of_length_le (by simp <;> omega)]; first | rfl | (rw [List.take_take, Nat.min_self]; done) | (simp; done)))) storeLe.nil)) (sQ rfl rfl)))
   ·clear hc29 h30
    intro s4 hc33
    ((conv=>whnf);repeat((first|apply TT mix|apply sE rfl|apply dG (by kernel_rfl)|fail);(conv=>whnf)))
    refine bnd hc33 (fun x34 h34 hc33 => ?_)
    refine cut_at (fun s6 : Int × Bool × ByteArray × Int × Int × Int × (List Int) => mkF 62 [(5, (.mp 0 0 0))] [some ⟨7, 87, (.vals [(.agg [(.int .i64 s6.1), (.bool s6.2.1), (.str s6.2.2.1), (.int .i64 s6.2.2.2.1), (.int .i64 s6.2.2.2.2.1), (.int .i64 s6.2.2.2.2.2.1), (.ms 1 s6.2.2.2.2.2.2.length)])]), false, false⟩, some ⟨1, 21, (.ints .i32 s6.2.2.2.2.2.2), false, true⟩]) (fun s6 : Int × Bool × ByteArray × Int × Int × Int × (List Int) => some (s6.2.2.2.2.2.2, Er.nil) = some r) ?_ ?_
    ·intro Kn34 hn34
     ((conv=>whnf);repeat((first|apply TT mix|apply sE rfl|apply dG (by kernel_rfl)|fail);(conv=>whnf)))
     refine loop_iter (fun s9 : Int × Bool × ByteArray × Int × Int × Int × (List Int) => mkF 62 [(0, (.str p_s)), (5, (.mp 0 0 0))] [some ⟨7, 87, (.vals [(.agg [(.int .i64 s9.1), (.bool s9.2.1), (.str s9.2.2.1), (.int .i64 s9.2.2.2.1), (.int .i64 s9.2.2.2.2.1), (.int .i64 s9.2.2.2.2.2.1), (.ms 1 s9.2.2.2.2.2.2.length)])]), false, false⟩, some ⟨1, 21, (.ints .i32 s9.2.2.2.2.2.2), false, true⟩]) h34 (weak_gen [0, 1] rfl rfl (sK rfl (rowLe_vals (valsLe.cons (cellsLe.cons (cR rfl rfl) (cellsLe.cons (cR rfl rfl) (cellsLe.cons (cR rfl rfl) (cellsLe.cons (cR rfl rfl) (cellsLe.cons (cR rfl rfl) (cellsLe.cons (cR rfl rfl) (cellsLe.cons (And.intro rfl (AV.Le.of_eq (congrArg (AV.ms _) (by first | rfl | omega | (simp; omega) | (simp; done) | (simp only [List.length_set] at *; omega))))) cellsLe.nil))))))) valsLe.nil)) (sK rfl (rowLe_ints (by first | rfl | (simp; done) | (rw [List.take_of_length_le (by simp <;> omega)]; first | rfl | (rw [List.take_take, Nat.min_self]; done) | (simp; done)))) storeLe.nil)) (sQ rfl rfl)) ?_
     intro k11 s9 st11 Kn11 hn11 h11_ hs11
     ((conv=>whnf);repeat((first|apply TT mix|apply sE rfl|apply dG (by kernel_rfl)|fail);(conv=>whnf)))
     refine br_b rfl h11_ (fun c35 h11_ => ?_) (fun c35 h11_ => ?_)
     ·((conv=>whnf);repeat((first|apply TT mix|apply sE rfl|apply dG (by kernel_rfl)|fail);(conv=>whnf)))
      refine bnd h11_ (fun y12 hy12 h11_ => ?_)
      refine Or.inr (own_intro (own_call [0, 1] (c_puny_decoder_next_own _ _ _ _ _ _ _ _ hy12) rfl (sK rfl (rowLe_vals (valsLe.cons (cellsLe.cons (cR rfl rfl) (cellsLe.cons (cR rfl rfl) (cellsLe.cons (cR rfl rfl) (cellsLe.cons (cR rfl rfl) (cellsLe.cons (cR rfl rfl) (cellsLe.cons (cR rfl rfl) (cellsLe.cons (And.intro rfl (AV.Le.of_eq (congrArg (AV.ms _) (by first | rfl | omega | (simp; omega) | (simp; done) | (simp only [List.length_set] at *; omega))))) cellsLe.nil))))))) valsLe.nil)) (sK rfl (rowLe_ints (by first | rfl | (simp; done) | (rw [List.take_of_length_le (by simp <;> omega)]; first | rfl | (rw [List.take_take, Nat.min_self]; done) | (simp; done)))) storeLe.nil)) (cellsLe.cons (And.intro rfl (AV.Le.refl _)) cellsLe.nil) rfl) ?_)
      ((conv=>whnf);repeat((first|apply TT mix|apply sE rfl|apply dG (by kernel_rfl)|fail);(conv=>whnf)))
      refine br_b rfl h11_ (fun c36 h11_ => ?_) (fun c36 h11_ => ?_)
      ·have e := Option.some.inj h11_; subst e
       have e := done_out hs11; subst e
       have e := Option.some.inj hc33; subst e
       ((conv=>whnf);repeat((first|apply TT mix|apply sE rfl|apply dG (by kernel_rfl)|fail);(conv=>whnf)))
       exact And.intro (AV.Le.tup (argsLe.cons (AV.Le.list rfl (fun j hj => absurd hj (Nat.not_lt_zero _))) (argsLe.cons (AV.Le.refl _) argsLe.nil))) rfl
      ·have e := Option.some.inj h11_; subst e
       ((conv=>whnf);repeat((first|apply TT mix|apply sE rfl|apply dG (by kernel_rfl)|fail);(conv=>whnf)))
       exact hn11 _ (y12.1, y12.2.1, y12.2.2.1, y12.2.2.2.1, y12.2.2.2.2.1, y12.2.2.2.2.2.1, y12.2.2.2.2.2.2.1) hs11 (weak_gen [0, 2] rfl rfl (sK rfl (rowLe_vals (valsLe.cons (cellsLe.cons (cR rfl rfl) (cellsLe.cons (cR rfl rfl) (cellsLe.cons (cR rfl rfl) (cellsLe.cons (cR rfl rfl) (cellsLe.cons (cR rfl rfl) (cellsLe.cons (cR rfl rfl) (cellsLe.cons (And.intro rfl (AV.Le.of_eq (congrArg (AV.ms _) (by first | rfl | omega | (simp; omega) | (simp; done) | (simp only [List.length_set] at *; omega))))) cellsLe.nil))))))) valsLe.nil)) (sK rfl (rowLe_ints (by first | rfl | (simp; done) | (rw [List.take_of_length_le (by simp <;> omega)]; first | rfl | (rw [List.take_take, Nat.min_self]; done) | (simp; done)))) storeLe.nil)) (sQ rfl rfl))
     ·have e := Option.some.inj h11_; subst e
      have e := done_out hs11; subst e
      ((conv=>whnf);repeat((first|apply TT mix|apply sE rfl|apply dG (by kernel_rfl)|fail);(conv=>whnf)))
      exact hn34 _ (s9.1, s9.2.1, s9.2.2.1, s9.2.2.2.1, s9.2.2.2.2.1, s9.2.2.2.2.2.1, s9.2.2.2.2.2.2) hc33 (weak_gen [0, 1] rfl rfl (sK rfl (rowLe_vals (valsLe.cons (cellsLe.cons (cR rfl rfl) (cellsLe.cons (cR rfl rfl) (cellsLe.cons (cR rfl rfl) (cellsLe.cons (cR rfl rfl) (cellsLe.cons (cR rfl rfl) (cellsLe.cons (cR rfl rfl) (cellsLe.cons (And.intro rfl (AV.Le.of_eq (congrArg (AV.ms _) (by first | rfl | omega | (simp; omega) | (simp; done) | (simp only [List.length_set] at *; omega))))) cellsLe.nil))))))) valsLe.nil)) (sK rfl (rowLe_ints (by first | rfl | (simp; done) | (rw [List.take_of_length_le (by simp <;> omega)]; first | rfl | (rw [List.take_take, Nat.min_self]; done) | (simp; done)))) storeLe.nil)) (slotsLe.cons (cR rfl rfl) slotsLe.nil))
    ·clear hc33 h34
     intro s6 hc37
     have e := Option.some.inj hc37; subst e
     ((conv=>whnf);repeat((first|apply TT mix|apply sE rfl|apply dG (by kernel_rfl)|fail);(conv=>whnf)))
     exact And.intro (AV.Le.tup (argsLe.cons (AV.Le.refl _) (argsLe.cons (AV.Le.err_nil) argsLe.nil))) rfl
theorem c_eponymlaw01_Named (p_code : Int) (r : Er) (h : m_eponymlaw01_Named p_code = some r) : Contract pl 41 [(AV.int .i64 p_code)] [] (AV.err r) [] := by
 refine contract_of .z Tryd.func41 rfl (by kernel_rfl) ?_
 ((conv=>whnf);repeat((first|apply TT mix|apply sE rfl|apply dG (by kernel_rfl)|fail);(conv=>whnf)))
 refine br_b rfl h (fun c1 h => ?_) (fun c1 h => ?_)
 ·have e := Option.some.inj h; subst e
  ((conv=>whnf);repeat((first|apply TT mix|apply sE rfl|apply dG (by kernel_rfl)|fail);(conv=>whnf)))
  exact And.intro (AV.Le.refl _) rfl
 ·((conv=>whnf);repeat((first|apply TT mix|apply sE rfl|apply dG (by kernel_rfl)|fail);(conv=>whnf)))
  refine br_b rfl h (fun c2 h => ?_) (fun c2 h => ?_)
  ·have e := Option.some.inj h; subst e
   ((conv=>whnf);repeat((first|apply TT mix|apply sE rfl|apply dG (by kernel_rfl)|fail);(conv=>whnf)))
   exact And.intro (AV.Le.refl _) rfl
  ·((conv=>whnf);repeat((first|apply TT mix|apply sE rfl|apply dG (by kernel_rfl)|fail);(conv=>whnf)))
   refine br_b rfl h (fun c3 h => ?_) (fun c3 h => ?_)
   ·have e := Option.some.inj h; subst e
    ((conv=>whnf);repeat((first|apply TT mix|apply sE rfl|apply dG (by kernel_rfl)|fail);(conv=>whnf)))
    exact And.intro (AV.Le.refl _) rfl
   ·((conv=>whnf);repeat((first|apply TT mix|apply sE rfl|apply dG (by kernel_rfl)|fail);(conv=>whnf)))
    refine br_b rfl h (fun c4 h => ?_) (fun c4 h => ?_)
    ·have e := Option.some.inj h; subst e
     ((conv=>whnf);repeat((first|apply TT mix|apply sE rfl|apply dG (by kernel_rfl)|fail);(conv=>whnf)))
     exact And.intro (AV.Le.refl _) rfl
    ·((conv=>whnf);repeat((first|apply TT mix|apply sE rfl|apply dG (by kernel_rfl)|fail);(conv=>whnf)))
     refine br_b rfl h (fun c5 h => ?_) (fun c5 h => ?_)
     ·have e := Option.some.inj h; subst e
      ((conv=>whnf);repeat((first|apply TT mix|apply sE rfl|apply dG (by kernel_rfl)|fail);(conv=>whnf)))
      exact And.intro (AV.Le.refl _) rfl
     ·((conv=>whnf);repeat((first|apply TT mix|apply sE rfl|apply dG (by kernel_rfl)|fail);(conv=>whnf)))
      refine br_b rfl h (fun c6 h => ?_) (fun c6 h => ?_)
      ·have e := Option.some.inj h; subst e
       ((conv=>whnf);repeat((first|apply TT mix|apply sE rfl|apply dG (by kernel_rfl)|fail);(conv=>whnf)))
       exact And.intro (AV.Le.refl _) rfl
      ·((conv=>whnf);repeat((first|apply TT mix|apply sE rfl|apply dG (by kernel_rfl)|fail);(conv=>whnf)))
       refine br_b rfl h (fun c7 h => ?_) (fun c7 h => ?_)
       ·have e := Option.some.inj h; subst e
        ((conv=>whnf);repeat((first|apply TT mix|apply sE rfl|apply dG (by kernel_rfl)|fail);(conv=>whnf)))
        exact And.intro (AV.Le.refl _) rfl
       ·((conv=>whnf);repeat((first|apply TT mix|apply sE rfl|apply dG (by kernel_rfl)|fail);(conv=>whnf)))
        refine br_b rfl h (fun c8 h => ?_) (fun c8 h => ?_)
        ·have e := Option.some.inj h; subst e
         ((conv=>whnf);repeat((first|apply TT mix|apply sE rfl|apply dG (by kernel_rfl)|fail);(conv=>whnf)))
         exact And.intro (AV.Le.refl _) rfl
        ·((conv=>whnf);repeat((first|apply TT mix|apply sE rfl|apply dG (by kernel_rfl)|fail);(conv=>whnf)))
         refine br_b rfl h (fun c9 h => ?_) (fun c9 h => ?_)
         ·have e := Option.some.inj h; subst e
          ((conv=>whnf);repeat((first|apply TT mix|apply sE rfl|apply dG (by kernel_rfl)|fail);(conv=>whnf)))
          exact And.intro (AV.Le.refl _) rfl
         ·((conv=>whnf);repeat((first|apply TT mix|apply sE rfl|apply dG (by kernel_rfl)|fail);(conv=>whnf)))
          refine br_b rfl h (fun c10 h => ?_) (fun c10 h => ?_)
          ·have e := Option.some.inj h; subst e
           ((conv=>whnf);repeat((first|apply TT mix|apply sE rfl|apply dG (by kernel_rfl)|fail);(conv=>whnf)))
           exact And.intro (AV.Le.refl _) rfl
          ·((conv=>whnf);repeat((first|apply TT mix|apply sE rfl|apply dG (by kernel_rfl)|fail);(conv=>whnf)))
           refine br_b rfl h (fun c11 h => ?_) (fun c11 h => ?_)
           ·have e := Option.some.inj h; subst e
            ((conv=>whnf);repeat((first|apply TT mix|apply sE rfl|apply dG (by kernel_rfl)|fail);(conv=>whnf)))
            exact And.intro (AV.Le.refl _) rfl
           ·((conv=>whnf);repeat((first|apply TT mix|apply sE rfl|apply dG (by kernel_rfl)|fail);(conv=>whnf)))
            refine br_b rfl h (fun c12 h => ?_) (fun c12 h => ?_)
            ·have e := Option.some.inj h; subst e
             ((conv=>whnf);repeat((first|apply TT mix|apply sE rfl|apply dG (by kernel_rfl)|fail);(conv=>whnf)))
             exact And.intro (AV.Le.refl _) rfl
            ·((conv=>whnf);repeat((first|apply TT mix|apply sE rfl|apply dG (by kernel_rfl)|fail);(conv=>whnf)))
             refine br_b rfl h (fun c13 h => ?_) (fun c13 h => ?_)
             ·have e := Option.some.inj h; subst e
              ((conv=>whnf);repeat((first|apply TT mix|apply sE rfl|apply dG (by kernel_rfl)|fail);(conv=>whnf)))
              exact And.intro (AV.Le.refl _) rfl
             ·((conv=>whnf);repeat((first|apply TT mix|apply sE rfl|apply dG (by kernel_rfl)|fail);(conv=>whnf)))
              refine br_b rfl h (fun c14 h => ?_) (fun c14 h => ?_)
              ·have e := Option.some.inj h; subst e
               ((conv=>whnf);repeat((first|apply TT mix|apply sE rfl|apply dG (by kernel_rfl)|fail);(conv=>whnf)))
               exact And.intro (AV.Le.refl _) rfl
              ·((conv=>whnf);repeat((first|apply TT mix|apply sE rfl|apply dG (by kernel_rfl)|fail);(conv=>whnf)))
               refine br_b rfl h (fun c15 h => ?_) (fun c15 h => ?_)
               ·have e := Option.some.inj h; subst e
                ((conv=>whnf);repeat((first|apply TT mix|apply sE rfl|apply dG (by kernel_rfl)|fail);(conv=>whnf)))
                exact And.intro (AV.Le.refl _) rfl
               ·((conv=>whnf);repeat((first|apply TT mix|apply sE rfl|apply dG (by kernel_rfl)|fail);(conv=>whnf)))
                refine br_b rfl h (fun c16 h => ?_) (fun c16 h => ?_)
                ·have e := Option.some.inj h; subst e
                 ((conv=>whnf);repeat((first|apply TT mix|apply sE rfl|apply dG (by kernel_rfl)|fail);(conv=>whnf)))
                 exact And.intro (AV.Le.refl _) rfl
                ·((conv=>whnf);repeat((first|apply TT mix|apply sE rfl|apply dG (by kernel_rfl)|fail);(conv=>whnf)))
                 refine br_b rfl h (fun c17 h => ?_) (fun c17 h => ?_)
                 ·have e := Option.some.inj h; subst e
                  ((conv=>whnf);repeat((first|apply TT mix|apply sE rfl|apply dG (by kernel_rfl)|fail);(conv=>whnf)))
                  exact And.intro (AV.Le.refl _) rfl
                 ·((conv=>whnf);repeat((first|apply TT mix|apply sE rfl|apply dG (by kernel_rfl)|fail);(conv=>whnf)))
                  refine br_b rfl h (fun c18 h => ?_) (fun c18 h => ?_)
                  ·have e := Option.some.inj h; subst e
                   ((conv=>whnf);repeat((first|apply TT mix|apply sE rfl|apply dG (by kernel_rfl)|fail);(conv=>whnf)))
                   exact And.intro (AV.Le.refl _) rfl
                  ·have e := Option.some.inj h; subst e
                   ((conv=>whnf);repeat((first|apply TT mix|apply sE rfl|apply dG (by kernel_rfl)|fail);(conv=>whnf)))
                   exact And.intro (AV.Le.err_nil) rfl
theorem c_eponymlaw01_Is (p_e : Er) (p_at : Int) (p_code : Int) (r : Bool) (h : m_eponymlaw01_Is p_e p_at p_code = some r) : Contract pl 19 [(AV.err p_e), (AV.int .i64 p_at), (AV.int .i64 p_code)] [] (AV.bool r) [] := by
 refine contract_of .z Tryd.func19 rfl (by kernel_rfl) ?_
 ((conv=>whnf);repeat((first|apply TT mix|apply sE rfl|apply dG (by kernel_rfl)|fail);(conv=>whnf)))
 refine br_b rfl h (fun c4 h => ?_) (fun c4 h => ?_)
 ·have e := Option.some.inj h; subst e
  ((conv=>whnf);repeat((first|apply TT mix|apply sE rfl|apply dG (by kernel_rfl)|fail);(conv=>whnf)))
  exact And.intro (AV.Le.refl _) rfl
 ·((conv=>whnf);repeat((first|apply TT mix|apply sE rfl|apply dG (by kernel_rfl)|fail);(conv=>whnf)))
  refine br_b rfl h (fun c5 h => ?_) (fun c5 h => ?_)
  ·((conv=>whnf);repeat((first|apply TT mix|apply sE rfl|apply dG (by kernel_rfl)|fail);(conv=>whnf)))
   refine br_e h (fun hx h => ?_) (fun hx h => ?_)
   ·refine Or.inr (own_intro (own_call [0] (c_errors_As_nil _ hx) rfl (storeLe.cons rfl (objLe.mk (by intro hf; first | exact hf | rfl) (by intro hf; first | exact hf | rfl) (rowLe_vals (valsLe.cons (cellsLe_refl rfl) valsLe.nil))) storeLe.nil) (cellsLe.cons (And.intro rfl (AV.Le.refl _)) (cellsLe.cons (And.intro rfl (AV.Le.refl _)) cellsLe.nil)) rfl) ?_)
    have e := Option.some.inj h; subst e
    ((conv=>whnf);repeat((first|apply TT mix|apply sE rfl|apply dG (by kernel_rfl)|fail);(conv=>whnf)))
    exact And.intro (AV.Le.refl _) rfl
   ·((conv=>whnf);repeat((first|apply TT mix|apply sE rfl|apply dG (by kernel_rfl)|fail);(conv=>whnf)))
    refine bnd h (fun y1 hy1 h => ?_)
    refine Or.inr (own_intro (own_call [0] (c_errors_As _ _ hy1) rfl (storeLe.cons rfl (objLe.mk (by intro hf; first | exact hf | rfl) (by intro hf; first | exact hf | rfl) (rowLe_vals (valsLe.cons (cellsLe_refl rfl) valsLe.nil))) storeLe.nil) (cellsLe.cons (And.intro rfl (AV.Le.refl _)) (cellsLe.cons (And.intro rfl (AV.Le.refl _)) cellsLe.nil)) rfl) ?_)
    ((conv=>whnf);repeat((first|apply TT mix|apply sE rfl|apply dG (by kernel_rfl)|fail);(conv=>whnf)))
    refine br_b rfl h (fun c6 h => ?_) (fun c6 h => ?_)
    ·((conv=>whnf);repeat((first|apply TT mix|apply sE rfl|apply dG (by kernel_rfl)|fail);(conv=>whnf)))
     refine bnd h (fun y2 hy2 h => ?_)
     refine Or.inl ⟨_, c_eponymlaw01_Named _ _ hy2, rfl, ?_⟩
     ((conv=>whnf);repeat((first|apply TT mix|apply sE rfl|apply dG (by kernel_rfl)|fail);(conv=>whnf)))
     refine bnd h (fun y3 hy3 h => ?_)
     refine Or.inl ⟨_, c_errors_Is _ _ _ hy3, rfl, ?_⟩
     have e := Option.some.inj h; subst e
     ((conv=>whnf);repeat((first|apply TT mix|apply sE rfl|apply dG (by kernel_rfl)|fail);(conv=>whnf)))
     exact And.intro (AV.Le.refl _) rfl
    ·have e := Option.some.inj h; subst e
     ((conv=>whnf);repeat((first|apply TT mix|apply sE rfl|apply dG (by kernel_rfl)|fail);(conv=>whnf)))
     exact And.intro (AV.Le.refl _) rfl
  ·have e := Option.some.inj h; subst e
   ((conv=>whnf);repeat((first|apply TT mix|apply sE rfl|apply dG (by kernel_rfl)|fail);(conv=>whnf)))
   exact And.intro (AV.Le.refl _) rfl
theorem c_eponymlaw06_awake  (r : Bool) (h : m_eponymlaw06_awake  = some r) : Contract pl 20 [] [] (AV.bool r) [] := by
 refine contract_of .z Tryd.func20 rfl (by kernel_rfl) ?_
 ((conv=>whnf);repeat((first|apply TT mix|apply sE rfl|apply dG (by kernel_rfl)|fail);(conv=>whnf)))
 refine bnd h (fun y1 hy1 h => ?_)
 refine Or.inl ⟨_, contract_le (c_puny_Encode _ _ hy1) (argsLe.cons (AV.Le.list (by simp; try omega) (fun j hj => by first | rfl | rw [getD_sub hj] | (rw [getD_take hj]; simp) | simp)) argsLe.nil), rfl, ?_⟩
 ((conv=>whnf);repeat((first|apply TT mix|apply sE rfl|apply dG (by kernel_rfl)|fail);(conv=>whnf)))
 refine bnd h (fun y2 hy2 h => ?_)
 refine Or.inl ⟨_, c_puny_Decode _ _ hy2, rfl, ?_⟩
 ((conv=>whnf);repeat((first|apply TT mix|apply sE rfl|apply dG (by kernel_rfl)|fail);(conv=>whnf)))
 refine br_b rfl h (fun c4 h => ?_) (fun c4 h => ?_)
 ·((conv=>whnf);repeat((first|apply TT mix|apply sE rfl|apply dG (by kernel_rfl)|fail);(conv=>whnf)))
  refine br_b rfl h (fun c5 h => ?_) (fun c5 h => ?_)
  ·((conv=>whnf);repeat((first|apply TT mix|apply sE rfl|apply dG (by kernel_rfl)|fail);(conv=>whnf)))
   refine bnd h (fun y3 hy3 h => ?_)
   refine Or.inl ⟨_, c_eponymlaw01_Is _ _ _ _ hy3, rfl, ?_⟩
   have e := Option.some.inj h; subst e
   ((conv=>whnf);repeat((first|apply TT mix|apply sE rfl|apply dG (by kernel_rfl)|fail);(conv=>whnf)))
   exact And.intro (AV.Le.refl _) rfl
  ·have e := Option.some.inj h; subst e
   ((conv=>whnf);repeat((first|apply TT mix|apply sE rfl|apply dG (by kernel_rfl)|fail);(conv=>whnf)))
   exact And.intro (AV.Le.refl _) rfl
 ·have e := Option.some.inj h; subst e
  ((conv=>whnf);repeat((first|apply TT mix|apply sE rfl|apply dG (by kernel_rfl)|fail);(conv=>whnf)))
  exact And.intro (AV.Le.refl _) rfl
theorem c_eponymref01_Right (p_r : Int) (r : Bool) (h : m_eponymref01_Right p_r = some r) : Contract pl 37 [(AV.int .i32 p_r)] [] (AV.bool r) [] := by
 refine contract_of .z Tryd.func37 rfl (by kernel_rfl) ?_
 ((conv=>whnf);repeat((first|apply TT mix|apply sE rfl|apply dG (by kernel_rfl)|fail);(conv=>whnf)))
 refine br_b rfl h (fun c1 h => ?_) (fun c1 h => ?_)
 ·((conv=>whnf);repeat((first|apply TT mix|apply sE rfl|apply dG (by kernel_rfl)|fail);(conv=>whnf)))
  refine br_b rfl h (fun c2 h => ?_) (fun c2 h => ?_)
  ·((conv=>whnf);repeat((first|apply TT mix|apply sE rfl|apply dG (by kernel_rfl)|fail);(conv=>whnf)))
   refine br_b rfl h (fun c3 h => ?_) (fun c3 h => ?_)
   ·have e := Option.some.inj h; subst e
    ((conv=>whnf);repeat((first|apply TT mix|apply sE rfl|apply dG (by kernel_rfl)|fail);(conv=>whnf)))
    exact And.intro (AV.Le.refl _) rfl
   ·have e := Option.some.inj h; subst e
    ((conv=>whnf);repeat((first|apply TT mix|apply sE rfl|apply dG (by kernel_rfl)|fail);(conv=>whnf)))
    exact And.intro (AV.Le.refl _) rfl
  ·have e := Option.some.inj h; subst e
   ((conv=>whnf);repeat((first|apply TT mix|apply sE rfl|apply dG (by kernel_rfl)|fail);(conv=>whnf)))
   exact And.intro (AV.Le.refl _) rfl
 ·have e := Option.some.inj h; subst e
  ((conv=>whnf);repeat((first|apply TT mix|apply sE rfl|apply dG (by kernel_rfl)|fail);(conv=>whnf)))
  exact And.intro (AV.Le.refl _) rfl
theorem c_eponymref06_least (p_l : (List Int)) (p_above : Int) (r : Int) (h : m_eponymref06_least p_l p_above = some r) : Contract pl 50 [(e_L_i32 p_l), (AV.int .i32 p_above)] [] (AV.int .i32 r) [] := by
 refine contract_of (.t false .z (.t false .z (.t true (.t false .z (.t false (.t false (.t false .z (.t false (.t false (.t true .z .z) .z) .z)) .z) .z)) .z))) Tryd.func50 rfl (by kernel_rfl) ?_
 ((conv=>whnf);repeat((first|apply TT mix|apply sE rfl|apply dG (by kernel_rfl)|fail);(conv=>whnf)))
 refine bnd h (fun x10 h10 h => ?_)
 refine cut_at (fun s1 : Int => mkF 36 [(5, (.int .i32 s1))] []) (fun s1 : Int => some s1 = some r) ?_ ?_
 ·intro Kn10 hn10
  ((conv=>whnf);repeat((first|apply TT mix|apply sE rfl|apply dG (by kernel_rfl)|fail);(conv=>whnf)))
  refine loop_iter (fun s4 : Int × Int => mkF 36 [(0, (e_L_i32 p_l)), (1, (.int .i32 p_above)), (5, (.int .i32 s4.1)), (6, (.int .i64 s4.2))] []) h10 (weak_gen [] rfl rfl storeLe.nil (sQ rfl rfl)) ?_
  intro k6 s4 st6 Kn6 hn6 h6_ hs6
  ((conv=>whnf);repeat((first|apply TT mix|apply sE rfl|apply dG (by kernel_rfl)|fail);(conv=>whnf)))
  refine br_b rfl h6_ (fun c11 h6_ => ?_) (fun c11 h6_ => ?_)
  ·((conv=>whnf);repeat((first|apply TT mix|apply sE rfl|apply dG (by kernel_rfl)|fail);(conv=>whnf)))
   refine bnd h6_ (fun x12 h12 h6_ => ?_)
   refine cut_at (fun s7 : Bool => mkF 36 [(0, (e_L_i32 p_l)), (1, (.int .i32 p_above)), (5, (.int .i32 s4.1)), (6, (.int .i64 s4.2)), (30, (.bool s7))] []) (fun s7 : Bool => m_eponymref06_least_K8 p_l s4 s7 = some st6) ?_ ?_
   ·intro Kn12 hn12
    ((conv=>whnf);repeat((first|apply TT mix|apply sE rfl|apply dG (by kernel_rfl)|fail);(conv=>whnf)))
    refine grd2 rfl rfl h12 (fun h12 => ?_)
    ((conv=>whnf);repeat((first|apply TT mix|apply sE rfl|apply dG (by kernel_rfl)|fail);(conv=>whnf)))
    refine br_b rfl h12 (fun c13 h12 => ?_) (fun c13 h12 => ?_)
    ·((conv=>whnf);repeat((first|apply TT mix|apply sE rfl|apply dG (by kernel_rfl)|fail);(conv=>whnf)))
     refine br_b rfl h12 (fun c14 h12 => ?_) (fun c14 h12 => ?_)
     ·have e := Option.some.inj h12; subst e
      ((conv=>whnf);repeat((first|apply TT mix|apply sE rfl|apply dG (by kernel_rfl)|fail);(conv=>whnf)))
      exact hn12 _ true h6_ (weak_gen [] rfl rfl storeLe.nil (sQ rfl rfl))
     ·((conv=>whnf);repeat((first|apply TT mix|apply sE rfl|apply dG (by kernel_rfl)|fail);(conv=>whnf)))
      refine grd2 rfl rfl h12 (fun h12 => ?_)
      have e := Option.some.inj h12; subst e
      ((conv=>whnf);repeat((first|apply TT mix|apply sE rfl|apply dG (by kernel_rfl)|fail);(conv=>whnf)))
      exact hn12 _ (decide ((p_l.getD (s4.2.toNat) 0) < s4.1)) h6_ (weak_gen [] rfl rfl storeLe.nil (sQ rfl rfl))
    ·have e := Option.some.inj h12; subst e
     ((conv=>whnf);repeat((first|apply TT mix|apply sE rfl|apply dG (by kernel_rfl)|fail);(conv=>whnf)))
     exact hn12 _ false h6_ (weak_gen [] rfl rfl storeLe.nil (sQ rfl rfl))
   ·clear h6_ h12
    intro s7 hc15
    ((conv=>whnf);repeat((first|apply TT mix|apply sE rfl|apply dG (by kernel_rfl)|fail);(conv=>whnf)))
    refine br_b rfl hc15 (fun c16 hc15 => ?_) (fun c16 hc15 => ?_)
    ·((conv=>whnf);repeat((first|apply TT mix|apply sE rfl|apply dG (by kernel_rfl)|fail);(conv=>whnf)))
     refine grd2 rfl rfl hc15 (fun hc15 => ?_)
     have e := Option.some.inj hc15; subst e
     ((conv=>whnf);repeat((first|apply TT mix|apply sE rfl|apply dG (by kernel_rfl)|fail);(conv=>whnf)))
     exact hn6 _ ((p_l.getD (s4.2.toNat) 0), (IntKind.wrap .i64 (s4.2 + (1 : Int)))) hs6 (weak_gen [] rfl rfl storeLe.nil (sQ rfl rfl))
    ·have e := Option.some.inj hc15; subst e
     ((conv=>whnf);repeat((first|apply TT mix|apply sE rfl|apply dG (by kernel_rfl)|fail);(conv=>whnf)))
     exact hn6 _ (s4.1, (IntKind.wrap .i64 (s4.2 + (1 : Int)))) hs6 (weak_gen [] rfl rfl storeLe.nil (sQ rfl rfl))
  ·have e := Option.some.inj h6_; subst e
   have e := done_out hs6; subst e
   ((conv=>whnf);repeat((first|apply TT mix|apply sE rfl|apply dG (by kernel_rfl)|fail);(conv=>whnf)))
   exact hn10 _ s4.1 h (weak_gen [] rfl rfl storeLe.nil (slotsLe.cons (cR rfl rfl) slotsLe.nil))
 ·clear h h10
  intro s1 hc17
  have e := Option.some.inj hc17; subst e
  ((conv=>whnf);repeat((first|apply TT mix|apply sE rfl|apply dG (by kernel_rfl)|fail);(conv=>whnf)))
  exact And.intro (AV.Le.refl _) rfl
theorem c_eponymref06_within (p_n : Int) (p_low : Int) (p_high : Int) (r : Int) (h : m_eponymref06_within p_n p_low p_high = some r) : Contract pl 56 [(AV.int .i64 p_n), (AV.int .i64 p_low), (AV.int .i64 p_high)] [] (AV.int .i64 r) [] := by
 refine contract_of .z Tryd.func56 rfl (by kernel_rfl) ?_
 ((conv=>whnf);repeat((first|apply TT mix|apply sE rfl|apply dG (by kernel_rfl)|fail);(conv=>whnf)))
 refine br_b rfl h (fun c1 h => ?_) (fun c1 h => ?_)
 ·have e := Option.some.inj h; subst e
  ((conv=>whnf);repeat((first|apply TT mix|apply sE rfl|apply dG (by kernel_rfl)|fail);(conv=>whnf)))
  exact And.intro (AV.Le.refl _) rfl
 ·((conv=>whnf);repeat((first|apply TT mix|apply sE rfl|apply dG (by kernel_rfl)|fail);(conv=>whnf)))
  refine br_b rfl h (fun c2 h => ?_) (fun c2 h => ?_)
  ·have e := Option.some.inj h; subst e
   ((conv=>whnf);repeat((first|apply TT mix|apply sE rfl|apply dG (by kernel_rfl)|fail);(conv=>whnf)))
   exact And.intro (AV.Le.refl _) rfl
  ·have e := Option.some.inj h; subst e
   ((conv=>whnf);repeat((first|apply TT mix|apply sE rfl|apply dG (by kernel_rfl)|fail);(conv=>whnf)))
   exact And.intro (AV.Le.refl _) rfl
theorem c_eponymref06_bound (p_k : Int) (p_bias : Int) (r : Int) (h : m_eponymref06_bound p_k p_bias = some r) : Contract pl 54 [(AV.int .i64 p_k), (AV.int .i64 p_bias)] [] (AV.int .i64 r) [] := by
 refine contract_of .z Tryd.func54 rfl (by kernel_rfl) ?_
 ((conv=>whnf);repeat((first|apply TT mix|apply sE rfl|apply dG (by kernel_rfl)|fail);(conv=>whnf)))
 refine bnd h (fun y1 hy1 h => ?_)
 refine Or.inl ⟨_, c_eponymref06_within _ _ _ _ hy1, rfl, ?_⟩
 have e := Option.some.inj h; subst e
 ((conv=>whnf);repeat((first|apply TT mix|apply sE rfl|apply dG (by kernel_rfl)|fail);(conv=>whnf)))
 exact And.intro (AV.Le.refl _) rfl
theorem c_eponymref06_sign (p_n : Int) (r : ByteArray) (h : m_eponymref06_sign p_n = some r) : Contract pl 58 [(AV.int .i64 p_n)] [] (AV.str r) [] := by
 refine contract_of .z Tryd.func58 rfl (by kernel_rfl) ?_
 ((conv=>whnf);repeat((first|apply TT mix|apply sE rfl|apply dG (by kernel_rfl)|fail);(conv=>whnf)))
 refine br_b rfl h (fun c1 h => ?_) (fun c1 h => ?_)
 ·((conv=>whnf);repeat((first|apply TT mix|apply sE rfl|apply dG (by kernel_rfl)|fail);(conv=>whnf)))
  refine ⟨[(IntKind.wrap .u8 (IntKind.wrap .i64 ((97 : Int) + p_n)))], by first | rfl | simp, fun j hj => by first | rfl | exact lits_u8 _ j hj | (show AV.int .u8 _ = _; simp; done) | (simp [Row.get]), ?_⟩
  have e := Option.some.inj h; subst e
  ((conv=>whnf);repeat((first|apply TT mix|apply sE rfl|apply dG (by kernel_rfl)|fail);(conv=>whnf)))
  exact And.intro (AV.Le.refl _) rfl
 ·((conv=>whnf);repeat((first|apply TT mix|apply sE rfl|apply dG (by kernel_rfl)|fail);(conv=>whnf)))
  refine ⟨[(IntKind.wrap .u8 (IntKind.wrap .i64 ((IntKind.wrap .i64 ((48 : Int) + p_n)) - (26 : Int))))], by first | rfl | simp, fun j hj => by first | rfl | exact lits_u8 _ j hj | (show AV.int .u8 _ = _; simp; done) | (simp [Row.get]), ?_⟩
  have e := Option.some.inj h; subst e
  ((conv=>whnf);repeat((first|apply TT mix|apply sE rfl|apply dG (by kernel_rfl)|fail);(conv=>whnf)))
  exact And.intro (AV.Le.refl _) rfl
theorem c_eponymref06_Digits (p_d : Int) (p_bias : Int) (r : ByteArray) (h : m_eponymref06_Digits p_d p_bias = some r) : Contract pl 29 [(AV.int .i64 p_d), (AV.int .i64 p_bias)] [] (AV.str r) [] := by
 refine contract_of .z Tryd.func29 rfl (by kernel_rfl) ?_
 ((conv=>whnf);repeat((first|apply TT mix|apply sE rfl|apply dG (by kernel_rfl)|fail);(conv=>whnf)))
 refine bnd h (fun y1 hy1 h => ?_)
 refine Or.inl ⟨_, c_eponymref06_within _ _ _ _ hy1, rfl, ?_⟩
 ((conv=>whnf);repeat((first|apply TT mix|apply sE rfl|apply dG (by kernel_rfl)|fail);(conv=>whnf)))
 refine bnd h (fun y2 hy2 h => ?_)
 refine Or.inl ⟨_, c_eponymref06_within _ _ _ _ hy2, rfl, ?_⟩
 ((conv=>whnf);repeat((first|apply TT mix|apply sE rfl|apply dG (by kernel_rfl)|fail);(conv=>whnf)))
 refine bnd h (fun x6 hx6 h => ?_)
 refine loop_iter (fun s4 : Int × ByteArray × Int => mkF 41 [(0, (.int .i64 s4.1)), (1, (.int .i64 y2)), (5, (.str s4.2.1)), (6, (.int .i64 s4.2.2))] []) hx6 (weak_gen [] rfl rfl storeLe.nil (sQ rfl rfl)) ?_
 intro k6 s4 st6 Kn6 hn6 h6 hs6
 ((conv=>whnf);repeat((first|apply TT mix|apply sE rfl|apply dG (by kernel_rfl)|fail);(conv=>whnf)))
 refine bnd h6 (fun y7 hy7 h6 => ?_)
 refine Or.inl ⟨_, c_eponymref06_bound _ _ _ hy7, rfl, ?_⟩
 ((conv=>whnf);repeat((first|apply TT mix|apply sE rfl|apply dG (by kernel_rfl)|fail);(conv=>whnf)))
 refine br_b rfl h6 (fun c11 h6 => ?_) (fun c11 h6 => ?_)
 ·((conv=>whnf);repeat((first|apply TT mix|apply sE rfl|apply dG (by kernel_rfl)|fail);(conv=>whnf)))
  refine bnd h6 (fun y8 hy8 h6 => ?_)
  refine Or.inl ⟨_, c_eponymref06_sign _ _ hy8, rfl, ?_⟩
  ((conv=>whnf);repeat((first|apply TT mix|apply sE rfl|apply dG (by kernel_rfl)|fail);(conv=>whnf)))
  refine grd1 rfl h6 (fun h6 => ?_)
  have e := Option.some.inj h6; subst e
  have e := done_out hs6; subst e
  have e := Option.some.inj h; subst e
  ((conv=>whnf);repeat((first|apply TT mix|apply sE rfl|apply dG (by kernel_rfl)|fail);(conv=>whnf)))
  exact And.intro (AV.Le.refl _) rfl
 ·((conv=>whnf);repeat((first|apply TT mix|apply sE rfl|apply dG (by kernel_rfl)|fail);(conv=>whnf)))
  refine grd1 rfl h6 (fun h6 => ?_)
  ((conv=>whnf);repeat((first|apply TT mix|apply sE rfl|apply dG (by kernel_rfl)|fail);(conv=>whnf)))
  refine bnd h6 (fun y9 hy9 h6 => ?_)
  refine Or.inl ⟨_, c_eponymref06_sign _ _ hy9, rfl, ?_⟩
  ((conv=>whnf);repeat((first|apply TT mix|apply sE rfl|apply dG (by kernel_rfl)|fail);(conv=>whnf)))
  refine grd1 rfl h6 (fun h6 => ?_)
  ((conv=>whnf);repeat((first|apply TT mix|apply sE rfl|apply dG (by kernel_rfl)|fail);(conv=>whnf)))
  refine grd1 rfl h6 (fun h6 => ?_)
  have e := Option.some.inj h6; subst e
  ((conv=>whnf);repeat((first|apply TT mix|apply sE rfl|apply dG (by kernel_rfl)|fail);(conv=>whnf)))
  exact hn6 _ ((IntKind.wrap .i64 (Int.tdiv (IntKind.wrap .i64 (s4.1 - y7)) (IntKind.wrap .i64 ((36 : Int) - y7)))), (s4.2.1 ++ y9), (IntKind.wrap .i64 (s4.2.2 + (1 : Int)))) hs6 (weak_gen [] rfl rfl storeLe.nil (sQ rfl rfl))
theorem c_eponymref06_Bias (p_d : Int) (p_many : Int) (p_first : Bool) (r : Int) (h : m_eponymref06_Bias p_d p_many p_first = some r) : Contract pl 27 [(AV.int .i64 p_d), (AV.int .i64 p_many), (AV.bool p_first)] [] (AV.int .i64 r) [] := by
 refine contract_of (.t false .z (.t false .z (.t false .z (.t false .z (.t true .z (.t false .z (.t false .z (.t false .z (.t true .z .z))))))))) Tryd.func27 rfl (by kernel_rfl) ?_
 ((conv=>whnf);repeat((first|apply TT mix|apply sE rfl|apply dG (by kernel_rfl)|fail);(conv=>whnf)))
 refine bnd h (fun y1 hy1 h => ?_)
 refine Or.inl ⟨_, c_eponymref06_within _ _ _ _ hy1, rfl, ?_⟩
 ((conv=>whnf);repeat((first|apply TT mix|apply sE rfl|apply dG (by kernel_rfl)|fail);(conv=>whnf)))
 refine bnd h (fun y2 hy2 h => ?_)
 refine Or.inl ⟨_, c_eponymref06_within _ _ _ _ hy2, rfl, ?_⟩
 ((conv=>whnf);repeat((first|apply TT mix|apply sE rfl|apply dG (by kernel_rfl)|fail);(conv=>whnf)))
 refine bnd h (fun x12 h12 h => ?_)
 refine cut_at (fun s3 : Int => mkF 35 [(0, (.int .i64 y1)), (1, (.int .i64 y2)), (7, (.int .i64 s3))] []) (fun s3 : Int => m_eponymref06_Bias_K4 y1 y2 s3 = some r) ?_ ?_
 ·intro Kn12 hn12
  ((conv=>whnf);repeat((first|apply TT mix|apply sE rfl|apply dG (by kernel_rfl)|fail);(conv=>whnf)))
  refine br_b rfl h12 (fun c13 h12 => ?_) (fun c13 h12 => ?_)
  ·have e := Option.some.inj h12; subst e
   ((conv=>whnf);repeat((first|apply TT mix|apply sE rfl|apply dG (by kernel_rfl)|fail);(conv=>whnf)))
   exact hn12 _ (700 : Int) h (weak_gen [] rfl rfl storeLe.nil (sQ rfl rfl))
  ·have e := Option.some.inj h12; subst e
   ((conv=>whnf);repeat((first|apply TT mix|apply sE rfl|apply dG (by kernel_rfl)|fail);(conv=>whnf)))
   exact hn12 _ (2 : Int) h (weak_gen [] rfl rfl storeLe.nil (sQ rfl rfl))
 ·clear h h12
  intro s3 hc14
  ((conv=>whnf);repeat((first|apply TT mix|apply sE rfl|apply dG (by kernel_rfl)|fail);(conv=>whnf)))
  refine grd1 rfl hc14 (fun hc14 => ?_)
  ((conv=>whnf);repeat((first|apply TT mix|apply sE rfl|apply dG (by kernel_rfl)|fail);(conv=>whnf)))
  refine grd1 rfl hc14 (fun hc14 => ?_)
  ((conv=>whnf);repeat((first|apply TT mix|apply sE rfl|apply dG (by kernel_rfl)|fail);(conv=>whnf)))
  refine bnd hc14 (fun x15 h15 hc14 => ?_)
  refine cut_at (fun s5 : Int × Int => mkF 35 [(0, (.int .i64 s5.1)), (8, (.int .i64 s5.2))] []) (fun s5 : Int × Int => m_eponymref06_Bias_K6 s5 = some r) ?_ ?_
  ·intro Kn15 hn15
   ((conv=>whnf);repeat((first|apply TT mix|apply sE rfl|apply dG (by kernel_rfl)|fail);(conv=>whnf)))
   refine loop_iter (fun s8 : Int × Int => mkF 35 [(0, (.int .i64 s8.1)), (8, (.int .i64 s8.2))] []) h15 (weak_gen [] rfl rfl storeLe.nil (sQ rfl rfl)) ?_
   intro k10 s8 st10 Kn10 hn10 h10_ hs10
   ((conv=>whnf);repeat((first|apply TT mix|apply sE rfl|apply dG (by kernel_rfl)|fail);(conv=>whnf)))
   refine br_b rfl h10_ (fun c16 h10_ => ?_) (fun c16 h10_ => ?_)
   ·((conv=>whnf);repeat((first|apply TT mix|apply sE rfl|apply dG (by kernel_rfl)|fail);(conv=>whnf)))
    refine And.intro (by decide) ?_
    have e := Option.some.inj h10_; subst e
    ((conv=>whnf);repeat((first|apply TT mix|apply sE rfl|apply dG (by kernel_rfl)|fail);(conv=>whnf)))
    exact hn10 _ ((IntKind.wrap .i64 (Int.tdiv s8.1 (35 : Int))), (IntKind.wrap .i64 (s8.2 + (36 : Int)))) hs10 (weak_gen [] rfl rfl storeLe.nil (sQ rfl rfl))
   ·have e := Option.some.inj h10_; subst e
    have e := done_out hs10; subst e
    ((conv=>whnf);repeat((first|apply TT mix|apply sE rfl|apply dG (by kernel_rfl)|fail);(conv=>whnf)))
    exact hn15 _ (s8.1, s8.2) hc14 (weak_gen [] rfl rfl storeLe.nil (sQ rfl rfl))
  ·clear hc14 h15
   intro s5 hc17
   ((conv=>whnf);repeat((first|apply TT mix|apply sE rfl|apply dG (by kernel_rfl)|fail);(conv=>whnf)))
   refine grd1 rfl hc17 (fun hc17 => ?_)
   have e := Option.some.inj hc17; subst e
   ((conv=>whnf);repeat((first|apply TT mix|apply sE rfl|apply dG (by kernel_rfl)|fail);(conv=>whnf)))
   exact And.intro (AV.Le.refl _) rfl
theorem c_eponymref06_Encode (p_l : (List Int)) (r : ByteArray × Int × Int) (h : m_eponymref06_Encode p_l = some r) : Contract pl 22 [(e_L_i32 p_l)] [] (AV.tup [(AV.str r.1), (AV.int .i64 r.2.1), (AV.int .i64 r.2.2)]) [] := by
 refine contract_of (.t false .z (.t true .z (.t false .z (.t false .z (.t true .z (.t false .z (.t true .z (.t false .z (.t false .z (.t false .z (.t false .z (.t true (.t false .z (.t false (.t false (.t false .z (.t true (.t false (.t false .z (.t false (.t false (.t false .z (.t true (.t false (.t false .z (.t false .z (.t true .z .z))) .z) .z)) .z) .z)) .z) .z)) .z) .z)) .z)))))))))))) Tryd.func22 rfl (by kernel_rfl) ?_
 ((conv=>whnf);repeat((first|apply TT mix|apply sE rfl|apply dG (by kernel_rfl)|fail);(conv=>whnf)))
 refine bnd h (fun x47 h47 h => ?_)
 refine cut_at (fun s1 : Unit => mkF 122 [(0, (e_L_i32 p_l))] []) (fun s1 : Unit => m_eponymref06_Encode_K2 p_l s1 = some r) ?_ ?_
 ·intro Kn47 hn47
  ((conv=>whnf);repeat((first|apply TT mix|apply sE rfl|apply dG (by kernel_rfl)|fail);(conv=>whnf)))
  refine loop_iter (fun s40 : Int => mkF 122 [(0, (e_L_i32 p_l)), (5, (.int .i64 s40))] []) h47 (weak_gen [] rfl rfl storeLe.nil (sQ rfl rfl)) ?_
  intro k42 s40 st42 Kn42 hn42 h42_ hs42
  ((conv=>whnf);repeat((first|apply TT mix|apply sE rfl|apply dG (by kernel_rfl)|fail);(conv=>whnf)))
  refine br_b rfl h42_ (fun c48 h42_ => ?_) (fun c48 h42_ => ?_)
  ·((conv=>whnf);repeat((first|apply TT mix|apply sE rfl|apply dG (by kernel_rfl)|fail);(conv=>whnf)))
   refine grd2 rfl rfl h42_ (fun h42_ => ?_)
   ((conv=>whnf);repeat((first|apply TT mix|apply sE rfl|apply dG (by kernel_rfl)|fail);(conv=>whnf)))
   refine bnd h42_ (fun y43 hy43 h42_ => ?_)
   refine Or.inl ⟨_, c_eponymref01_Right _ _ hy43, rfl, ?_⟩
   ((conv=>whnf);repeat((first|apply TT mix|apply sE rfl|apply dG (by kernel_rfl)|fail);(conv=>whnf)))
   refine br_b rfl h42_ (fun c49 h42_ => ?_) (fun c49 h42_ => ?_)
   ·have e := Option.some.inj h42_; subst e
    have e := done_out hs42; subst e
    have e := Option.some.inj h; subst e
    ((conv=>whnf);repeat((first|apply TT mix|apply sE rfl|apply dG (by kernel_rfl)|fail);(conv=>whnf)))
    exact And.intro (AV.Le.refl _) rfl
   ·have e := Option.some.inj h42_; subst e
    ((conv=>whnf);repeat((first|apply TT mix|apply sE rfl|apply dG (by kernel_rfl)|fail);(conv=>whnf)))
    exact hn42 _ (IntKind.wrap .i64 (s40 + (1 : Int))) hs42 (weak_gen [] rfl rfl storeLe.nil (sQ rfl rfl))
  ·have e := Option.some.inj h42_; subst e
   have e := done_out hs42; subst e
   ((conv=>whnf);repeat((first|apply TT mix|apply sE rfl|apply dG (by kernel_rfl)|fail);(conv=>whnf)))
   exact hn47 _ () h (weak_gen [] rfl rfl storeLe.nil (slotsLe.cons (cR rfl rfl) slotsLe.nil))
 ·clear h h47
  intro s1 hc50
  ((conv=>whnf);repeat((first|apply TT mix|apply sE rfl|apply dG (by kernel_rfl)|fail);(conv=>whnf)))
  refine br_b rfl hc50 (fun c51 hc50 => ?_) (fun c51 hc50 => ?_)
  ·have e := Option.some.inj hc50; subst e
   ((conv=>whnf);repeat((first|apply TT mix|apply sE rfl|apply dG (by kernel_rfl)|fail);(conv=>whnf)))
   exact And.intro (AV.Le.refl _) rfl
  ·((conv=>whnf);repeat((first|apply TT mix|apply sE rfl|apply dG (by kernel_rfl)|fail);(conv=>whnf)))
   refine bnd hc50 (fun x52 h52 hc50 => ?_)
   refine cut_at (fun s3 : ByteArray => mkF 122 [(0, (e_L_i32 p_l)), (6, (.str s3))] []) (fun s3 : ByteArray => m_eponymref06_Encode_K4 p_l s3 = some r) ?_ ?_
   ·intro Kn52 hn52
    ((conv=>whnf);repeat((first|apply TT mix|apply sE rfl|apply dG (by kernel_rfl)|fail);(conv=>whnf)))
    refine loop_iter (fun s35 : ByteArray × Int => mkF 122 [(0, (e_L_i32 p_l)), (6, (.str s35.1)), (7, (.int .i64 s35.2))] []) h52 (weak_gen [] rfl rfl storeLe.nil (sQ rfl rfl)) ?_
    intro k37 s35 st37 Kn37 hn37 h37_ hs37
    ((conv=>whnf);repeat((first|apply TT mix|apply sE rfl|apply dG (by kernel_rfl)|fail);(conv=>whnf)))
    refine br_b rfl h37_ (fun c53 h37_ => ?_) (fun c53 h37_ => ?_)
    ·((conv=>whnf);repeat((first|apply TT mix|apply sE rfl|apply dG (by kernel_rfl)|fail);(conv=>whnf)))
     refine grd2 rfl rfl h37_ (fun h37_ => ?_)
     ((conv=>whnf);repeat((first|apply TT mix|apply sE rfl|apply dG (by kernel_rfl)|fail);(conv=>whnf)))
     refine br_b rfl h37_ (fun c54 h37_ => ?_) (fun c54 h37_ => ?_)
     ·((conv=>whnf);repeat((first|apply TT mix|apply sE rfl|apply dG (by kernel_rfl)|fail);(conv=>whnf)))
      refine grd2 rfl rfl h37_ (fun h37_ => ?_)
      ((conv=>whnf);repeat((first|apply TT mix|apply sE rfl|apply dG (by kernel_rfl)|fail);(conv=>whnf)))
      refine ⟨[(IntKind.wrap .u8 (p_l.getD (s35.2.toNat) 0))], by first | rfl | simp, fun j hj => by first | rfl | exact lits_u8 _ j hj | (show AV.int .u8 _ = _; simp; done) | (simp [Row.get]), ?_⟩
      ((conv=>whnf);repeat((first|apply TT mix|apply sE rfl|apply dG (by kernel_rfl)|fail);(conv=>whnf)))
      refine grd1 rfl h37_ (fun h37_ => ?_)
      have e := Option.some.inj h37_; subst e
      ((conv=>whnf);repeat((first|apply TT mix|apply sE rfl|apply dG (by kernel_rfl)|fail);(conv=>whnf)))
      exact hn37 _ ((s35.1 ++ (strOfNums [(IntKind.wrap .u8 (p_l.getD (s35.2.toNat) 0))])), (IntKind.wrap .i64 (s35.2 + (1 : Int)))) hs37 (weak_gen [] rfl rfl storeLe.nil (sQ rfl rfl))
     ·have e := Option.some.inj h37_; subst e
      ((conv=>whnf);repeat((first|apply TT mix|apply sE rfl|apply dG (by kernel_rfl)|fail);(conv=>whnf)))
      exact hn37 _ (s35.1, (IntKind.wrap .i64 (s35.2 + (1 : Int)))) hs37 (weak_gen [] rfl rfl storeLe.nil (sQ rfl rfl))
    ·have e := Option.some.inj h37_; subst e
     have e := done_out hs37; subst e
     ((conv=>whnf);repeat((first|apply TT mix|apply sE rfl|apply dG (by kernel_rfl)|fail);(conv=>whnf)))
     exact hn52 _ s35.1 hc50 (weak_gen [] rfl rfl storeLe.nil (sQ rfl rfl))
   ·clear hc50 h52
    intro s3 hc55
    ((conv=>whnf);repeat((first|apply TT mix|apply sE rfl|apply dG (by kernel_rfl)|fail);(conv=>whnf)))
    refine bnd hc55 (fun x56 h56 hc55 => ?_)
    refine cut_at (fun s5 : ByteArray => mkF 122 [(0, (e_L_i32 p_l)), (6, (.str s5)), (8, (.int .i64 ((s3.size : Nat) : Int)))] []) (fun s5 : ByteArray => m_eponymref06_Encode_K6 p_l s3 s5 = some r) ?_ ?_
    ·intro Kn56 hn56
     ((conv=>whnf);repeat((first|apply TT mix|apply sE rfl|apply dG (by kernel_rfl)|fail);(conv=>whnf)))
     refine br_b rfl h56 (fun c57 h56 => ?_) (fun c57 h56 => ?_)
     ·((conv=>whnf);repeat((first|apply TT mix|apply sE rfl|apply dG (by kernel_rfl)|fail);(conv=>whnf)))
      refine grd1 rfl h56 (fun h56 => ?_)
      have e := Option.some.inj h56; subst e
      ((conv=>whnf);repeat((first|apply TT mix|apply sE rfl|apply dG (by kernel_rfl)|fail);(conv=>whnf)))
      exact hn56 _ (s3 ++ (ByteArray.mk #[45])) hc55 (weak_gen [] rfl rfl storeLe.nil (sQ rfl rfl))
     ·have e := Option.some.inj h56; subst e
      ((conv=>whnf);repeat((first|apply TT mix|apply sE rfl|apply dG (by kernel_rfl)|fail);(conv=>whnf)))
      exact hn56 _ s3 hc55 (weak_gen [] rfl rfl storeLe.nil (sQ rfl rfl))
    ·clear hc55 h56
     intro s5 hc58
     ((conv=>whnf);repeat((first|apply TT mix|apply sE rfl|apply dG (by kernel_rfl)|fail);(conv=>whnf)))
     refine bnd hc58 (fun x59 h59 hc58 => ?_)
     refine cut_at (fun s7 : ByteArray => mkF 122 [(6, (.str s7))] []) (fun s7 : ByteArray => m_eponymref06_Encode_K8 s7 = some r) ?_ ?_
     ·intro Kn59 hn59
      ((conv=>whnf);repeat((first|apply TT mix|apply sE rfl|apply dG (by kernel_rfl)|fail);(conv=>whnf)))
      refine bnd h59 (fun y9 hy9 h59 => ?_)
      refine Or.inl ⟨_, c_eponymref06_least _ _ _ hy9, rfl, ?_⟩
      ((conv=>whnf);repeat((first|apply TT mix|apply sE rfl|apply dG (by kernel_rfl)|fail);(conv=>whnf)))
      refine loop_iter (fun s11 : ByteArray × Int × Int × Bool × Int × Int × Int => mkF 122 [(0, (e_L_i32 p_l)), (6, (.str s11.1)), (8, (.int .i64 s11.2.1)), (9, (.int .i64 s11.2.2.1)), (10, (.bool s11.2.2.2.1)), (11, (.int .i64 s11.2.2.2.2.1)), (12, (.int .i64 s11.2.2.2.2.2.1)), (13, (.int .i32 s11.2.2.2.2.2.2))] []) h59 (weak_gen [] rfl rfl storeLe.nil (sQ rfl rfl)) ?_
      intro k13 s11 st13 Kn13 hn13 h13_ hs13
      ((conv=>whnf);repeat((first|apply TT mix|apply sE rfl|apply dG (by kernel_rfl)|fail);(conv=>whnf)))
      refine br_b rfl h13_ (fun c60 h13_ => ?_) (fun c60 h13_ => ?_)
      ·((conv=>whnf);repeat((first|apply TT mix|apply sE rfl|apply dG (by kernel_rfl)|fail);(conv=>whnf)))
       refine bnd h13_ (fun x61 h61 h13_ => ?_)
       refine cut_at (fun s14 : ByteArray × Int × Int × Bool × Int × Int => mkF 122 [(0, (e_L_i32 p_l)), (6, (.str s14.1)), (8, (.int .i64 s14.2.1)), (9, (.int .i64 s14.2.2.1)), (10, (.bool s14.2.2.2.1)), (11, (.int .i64 s14.2.2.2.2.1)), (12, (.int .i64 s14.2.2.2.2.2)), (13, (.int .i32 s11.2.2.2.2.2.2))] []) (fun s14 : ByteArray × Int × Int × Bool × Int × Int => m_eponymref06_Encode_K15 p_l s11 s14 = some st13) ?_ ?_
       ·intro Kn61 hn61
        ((conv=>whnf);repeat((first|apply TT mix|apply sE rfl|apply dG (by kernel_rfl)|fail);(conv=>whnf)))
        refine loop_iter (fun s18 : ByteArray × Int × Int × Bool × Int × Int × Int => mkF 122 [(0, (e_L_i32 p_l)), (6, (.str s18.1)), (8, (.int .i64 s18.2.1)), (9, (.int .i64 s18.2.2.1)), (10, (.bool s18.2.2.2.1)), (11, (.int .i64 s18.2.2.2.2.1)), (12, (.int .i64 s18.2.2.2.2.2.1)), (13, (.int .i32 s11.2.2.2.2.2.2)), (14, (.int .i64 s18.2.2.2.2.2.2))] []) h61 (weak_gen [] rfl rfl storeLe.nil (sQ rfl rfl)) ?_
        intro k20 s18 st20 Kn20 hn20 h20_ hs20
        ((conv=>whnf);repeat((first|apply TT mix|apply sE rfl|apply dG (by kernel_rfl)|fail);(conv=>whnf)))
        refine br_b rfl h20_ (fun c62 h20_ => ?_) (fun c62 h20_ => ?_)
        ·((conv=>whnf);repeat((first|apply TT mix|apply sE rfl|apply dG (by kernel_rfl)|fail);(conv=>whnf)))
         refine bnd h20_ (fun x63 h63 h20_ => ?_)
         refine cut_at (fun s21 : ByteArray × Int × Int × Bool × Int × Int => mkF 122 [(0, (e_L_i32 p_l)), (6, (.str s21.1)), (8, (.int .i64 s21.2.1)), (9, (.int .i64 s21.2.2.1)), (10, (.bool s21.2.2.2.1)), (11, (.int .i64 s21.2.2.2.2.1)), (12, (.int .i64 s21.2.2.2.2.2)), (13, (.int .i32 s11.2.2.2.2.2.2)), (14, (.int .i64 s18.2.2.2.2.2.2))] []) (fun s21 : ByteArray × Int × Int × Bool × Int × Int => some (.next (s21.1, s21.2.1, s21.2.2.1, s21.2.2.2.1, s21.2.2.2.2.1, s21.2.2.2.2.2, (IntKind.wrap .i64 (s18.2.2.2.2.2.2 + (1 : Int))))) = some st20) ?_ ?_
         ·intro Kn63 hn63
          ((conv=>whnf);repeat((first|apply TT mix|apply sE rfl|apply dG (by kernel_rfl)|fail);(conv=>whnf)))
          refine grd2 rfl rfl h63 (fun h63 => ?_)
          ((conv=>whnf);repeat((first|apply TT mix|apply sE rfl|apply dG (by kernel_rfl)|fail);(conv=>whnf)))
          refine br_b rfl h63 (fun c64 h63 => ?_) (fun c64 h63 => ?_)
          ·have e := Option.some.inj h63; subst e
           ((conv=>whnf);repeat((first|apply TT mix|apply sE rfl|apply dG (by kernel_rfl)|fail);(conv=>whnf)))
           exact hn63 _ (s18.1, s18.2.1, s18.2.2.1, s18.2.2.2.1, s18.2.2.2.2.1, s18.2.2.2.2.2.1) h20_ (weak_gen [] rfl rfl storeLe.nil (sQ rfl rfl))
          ·((conv=>whnf);repeat((first|apply TT mix|apply sE rfl|apply dG (by kernel_rfl)|fail);(conv=>whnf)))
           refine bnd h63 (fun x65 h65 h63 => ?_)
           refine cut_at (fun s23 : Int => mkF 122 [(0, (e_L_i32 p_l)), (6, (.str s18.1)), (8, (.int .i64 s18.2.1)), (9, (.int .i64 s18.2.2.1)), (10, (.bool s18.2.2.2.1)), (11, (.int .i64 s18.2.2.2.2.1)), (12, (.int .i64 s18.2.2.2.2.2.1)), (13, (.int .i32 s11.2.2.2.2.2.2)), (14, (.int .i64 s18.2.2.2.2.2.2)), (15, (.int .i64 s23))] []) (fun s23 : Int => m_eponymref06_Encode_K24 s11 s18 s23 = some x63) ?_ ?_
           ·intro Kn65 hn65
            ((conv=>whnf);repeat((first|apply TT mix|apply sE rfl|apply dG (by kernel_rfl)|fail);(conv=>whnf)))
            refine loop_iter (fun s28 : Int × Int => mkF 122 [(0, (e_L_i32 p_l)), (6, (.str s18.1)), (8, (.int .i64 s18.2.1)), (9, (.int .i64 s18.2.2.1)), (10, (.bool s18.2.2.2.1)), (11, (.int .i64 s18.2.2.2.2.1)), (12, (.int .i64 s18.2.2.2.2.2.1)), (13, (.int .i32 s11.2.2.2.2.2.2)), (14, (.int .i64 s18.2.2.2.2.2.2)), (15, (.int .i64 s28.1)), (16, (.int .i64 s28.2))] []) h65 (weak_gen [] rfl rfl storeLe.nil (sQ rfl rfl)) ?_
            intro k30 s28 st30 Kn30 hn30 h30_ hs30
            ((conv=>whnf);repeat((first|apply TT mix|apply sE rfl|apply dG (by kernel_rfl)|fail);(conv=>whnf)))
            refine br_b rfl h30_ (fun c66 h30_ => ?_) (fun c66 h30_ => ?_)
            ·((conv=>whnf);repeat((first|apply TT mix|apply sE rfl|apply dG (by kernel_rfl)|fail);(conv=>whnf)))
             refine grd2 rfl rfl h30_ (fun h30_ => ?_)
             ((conv=>whnf);repeat((first|apply TT mix|apply sE rfl|apply dG (by kernel_rfl)|fail);(conv=>whnf)))
             refine br_b rfl h30_ (fun c67 h30_ => ?_) (fun c67 h30_ => ?_)
             ·have e := Option.some.inj h30_; subst e
              ((conv=>whnf);repeat((first|apply TT mix|apply sE rfl|apply dG (by kernel_rfl)|fail);(conv=>whnf)))
              exact hn30 _ ((IntKind.wrap .i64 (s28.1 + (1 : Int))), (IntKind.wrap .i64 (s28.2 + (1 : Int)))) hs30 (weak_gen [] rfl rfl storeLe.nil (sQ rfl rfl))
             ·have e := Option.some.inj h30_; subst e
              ((conv=>whnf);repeat((first|apply TT mix|apply sE rfl|apply dG (by kernel_rfl)|fail);(conv=>whnf)))
              exact hn30 _ (s28.1, (IntKind.wrap .i64 (s28.2 + (1 : Int)))) hs30 (weak_gen [] rfl rfl storeLe.nil (sQ rfl rfl))
            ·have e := Option.some.inj h30_; subst e
             have e := done_out hs30; subst e
             ((conv=>whnf);repeat((first|apply TT mix|apply sE rfl|apply dG (by kernel_rfl)|fail);(conv=>whnf)))
             exact hn65 _ s28.1 h63 (weak_gen [] rfl rfl storeLe.nil (sQ rfl rfl))
           ·clear h63 h65
            intro s23 hc68
            ((conv=>whnf);repeat((first|apply TT mix|apply sE rfl|apply dG (by kernel_rfl)|fail);(conv=>whnf)))
            refine bnd hc68 (fun y25 hy25 hc68 => ?_)
            refine Or.inl ⟨_, c_eponymref06_Digits _ _ _ hy25, rfl, ?_⟩
            ((conv=>whnf);repeat((first|apply TT mix|apply sE rfl|apply dG (by kernel_rfl)|fail);(conv=>whnf)))
            refine grd1 rfl hc68 (fun hc68 => ?_)
            ((conv=>whnf);repeat((first|apply TT mix|apply sE rfl|apply dG (by kernel_rfl)|fail);(conv=>whnf)))
            refine bnd hc68 (fun y26 hy26 hc68 => ?_)
            refine Or.inl ⟨_, c_eponymref06_Bias _ _ _ _ hy26, rfl, ?_⟩
            have e := Option.some.inj hc68; subst e
            ((conv=>whnf);repeat((first|apply TT mix|apply sE rfl|apply dG (by kernel_rfl)|fail);(conv=>whnf)))
            exact hn63 _ ((s18.1 ++ y25), (IntKind.wrap .i64 (s18.2.1 + (1 : Int))), y26, false, (IntKind.wrap .i64 s11.2.2.2.2.2.2), (IntKind.wrap .i64 (s23 + (1 : Int)))) h20_ (weak_gen [] rfl rfl storeLe.nil (sQ rfl rfl))
         ·clear h20_ h63
          intro s21 hc69
          have e := Option.some.inj hc69; subst e
          ((conv=>whnf);repeat((first|apply TT mix|apply sE rfl|apply dG (by kernel_rfl)|fail);(conv=>whnf)))
          exact hn20 _ (s21.1, s21.2.1, s21.2.2.1, s21.2.2.2.1, s21.2.2.2.2.1, s21.2.2.2.2.2, (IntKind.wrap .i64 (s18.2.2.2.2.2.2 + (1 : Int)))) hs20 (weak_gen [] rfl rfl storeLe.nil (sQ rfl rfl))
        ·have e := Option.some.inj h20_; subst e
         have e := done_out hs20; subst e
         ((conv=>whnf);repeat((first|apply TT mix|apply sE rfl|apply dG (by kernel_rfl)|fail);(conv=>whnf)))
         exact hn61 _ (s18.1, s18.2.1, s18.2.2.1, s18.2.2.2.1, s18.2.2.2.2.1, s18.2.2.2.2.2.1) h13_ (weak_gen [] rfl rfl storeLe.nil (sQ rfl rfl))
       ·clear h13_ h61
        intro s14 hc70
        ((conv=>whnf);repeat((first|apply TT mix|apply sE rfl|apply dG (by kernel_rfl)|fail);(conv=>whnf)))
        refine bnd hc70 (fun y16 hy16 hc70 => ?_)
        refine Or.inl ⟨_, c_eponymref06_least _ _ _ hy16, rfl, ?_⟩
        have e := Option.some.inj hc70; subst e
        ((conv=>whnf);repeat((first|apply TT mix|apply sE rfl|apply dG (by kernel_rfl)|fail);(conv=>whnf)))
        exact hn13 _ (s14.1, s14.2.1, s14.2.2.1, s14.2.2.2.1, s14.2.2.2.2.1, s14.2.2.2.2.2, y16) hs13 (weak_gen [] rfl rfl storeLe.nil (sQ rfl rfl))
      ·have e := Option.some.inj h13_; subst e
       have e := done_out hs13; subst e
       ((conv=>whnf);repeat((first|apply TT mix|apply sE rfl|apply dG (by kernel_rfl)|fail);(conv=>whnf)))
       exact hn59 _ s11.1 hc58 (weak_gen [] rfl rfl storeLe.nil (slotsLe.cons (cR rfl rfl) slotsLe.nil))
     ·clear hc58 h59
      intro s7 hc71
      ((conv=>whnf);repeat((first|apply TT mix|apply sE rfl|apply dG (by kernel_rfl)|fail);(conv=>whnf)))
      refine br_b rfl hc71 (fun c72 hc71 => ?_) (fun c72 hc71 => ?_)
      ·have e := Option.some.inj hc71; subst e
       ((conv=>whnf);repeat((first|apply TT mix|apply sE rfl|apply dG (by kernel_rfl)|fail);(conv=>whnf)))
       exact And.intro (AV.Le.refl _) rfl
      ·have e := Option.some.inj hc71; subst e
       ((conv=>whnf);repeat((first|apply TT mix|apply sE rfl|apply dG (by kernel_rfl)|fail);(conv=>whnf)))
       exact And.intro (AV.Le.refl _) rfl
theorem c_eponymlaw06_PunyEncodes (p_l : (List Int)) (r : Bool) (h : m_eponymlaw06_PunyEncodes p_l = some r) : Contract pl 5 [(e_L_i32 p_l)] [] (AV.bool r) [] := by
 refine contract_of .z Tryd.func5 rfl (by kernel_rfl) ?_
 ((conv=>whnf);repeat((first|apply TT mix|apply sE rfl|apply dG (by kernel_rfl)|fail);(conv=>whnf)))
 refine bnd h (fun y1 hy1 h => ?_)
 refine Or.inl ⟨_, c_eponymlaw06_awake  _ hy1, rfl, ?_⟩
 ((conv=>whnf);repeat((first|apply TT mix|apply sE rfl|apply dG (by kernel_rfl)|fail);(conv=>whnf)))
 refine br_b rfl h (fun c5 h => ?_) (fun c5 h => ?_)
 ·have e := Option.some.inj h; subst e
  ((conv=>whnf);repeat((first|apply TT mix|apply sE rfl|apply dG (by kernel_rfl)|fail);(conv=>whnf)))
  exact And.intro (AV.Le.refl _) rfl
 ·((conv=>whnf);repeat((first|apply TT mix|apply sE rfl|apply dG (by kernel_rfl)|fail);(conv=>whnf)))
  refine br_b rfl h (fun c6 h => ?_) (fun c6 h => ?_)
  ·have e := Option.some.inj h; subst e
   ((conv=>whnf);repeat((first|apply TT mix|apply sE rfl|apply dG (by kernel_rfl)|fail);(conv=>whnf)))
   exact And.intro (AV.Le.refl _) rfl
  ·((conv=>whnf);repeat((first|apply TT mix|apply sE rfl|apply dG (by kernel_rfl)|fail);(conv=>whnf)))
   refine bnd h (fun y2 hy2 h => ?_)
   refine Or.inl ⟨_, c_puny_Encode _ _ hy2, rfl, ?_⟩
   ((conv=>whnf);repeat((first|apply TT mix|apply sE rfl|apply dG (by kernel_rfl)|fail);(conv=>whnf)))
   refine bnd h (fun y3 hy3 h => ?_)
   refine Or.inl ⟨_, c_eponymref06_Encode _ _ hy3, rfl, ?_⟩
   ((conv=>whnf);repeat((first|apply TT mix|apply sE rfl|apply dG (by kernel_rfl)|fail);(conv=>whnf)))
   refine br_b rfl h (fun c7 h => ?_) (fun c7 h => ?_)
   ·((conv=>whnf);repeat((first|apply TT mix|apply sE rfl|apply dG (by kernel_rfl)|fail);(conv=>whnf)))
    refine bnd h (fun y4 hy4 h => ?_)
    refine Or.inl ⟨_, c_eponymlaw01_Is _ _ _ _ hy4, rfl, ?_⟩
    have e := Option.some.inj h; subst e
    ((conv=>whnf);repeat((first|apply TT mix|apply sE rfl|apply dG (by kernel_rfl)|fail);(conv=>whnf)))
    exact And.intro (AV.Le.refl _) rfl
   ·have e := Option.some.inj h; subst e
    ((conv=>whnf);repeat((first|apply TT mix|apply sE rfl|apply dG (by kernel_rfl)|fail);(conv=>whnf)))
    exact And.intro (AV.Le.refl _) rfl
end Go.Proofs.YtclhniadffljdaaDoor
