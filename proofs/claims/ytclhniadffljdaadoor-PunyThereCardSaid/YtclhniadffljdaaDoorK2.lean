/- Contracts of functions, walked by their models; printed by a program of ours. No condition. -/
import Derived.Test.YtclhniadffljdaaDoorK1
import Derived.Test.YtclhniadffljdaaDoorInsI
import Derived.Test.YtclhniadffljdaaDoorProg
import Derived.KernelRfl
namespace Go.Proofs.YtclhniadffljdaaDoor
open Go Go.SE
set_option linter.unusedVariables false
set_option linter.unusedSimpArgs false
set_option maxRecDepth 10000
set_option maxHeartbeats 2000000
attribute [local irreducible] Contract iter
theorem c_puny_decoder_next_own (p_d_0 : Int) (p_d_1 : Bool) (p_d_2 : ByteArray) (p_d_3 : Int) (p_d_4 : Int) (p_d_5 : Int) (p_d_6 : (List Int)) (r : Int × Bool × ByteArray × Int × Int × Int × (List Int) × Er) (h : m_puny_decoder_next_own p_d_0 p_d_1 p_d_2 p_d_3 p_d_4 p_d_5 p_d_6 = some r) : ContractM 1 pl 52 [(.mp 0 0 0)] [some ⟨7, 87, (.vals [(.agg [(.int .i64 p_d_0), (.bool p_d_1), (.str p_d_2), (.int .i64 p_d_3), (.int .i64 p_d_4), (.int .i64 p_d_5), (.ms 1 p_d_6.length)])]), false, false⟩, some ⟨1, 21, (.ints .i32 p_d_6), false, true⟩] (.err r.2.2.2.2.2.2.2) [some ⟨7, 87, (.vals [(.agg [(.int .i64 r.1), (.bool r.2.1), (.str r.2.2.1), (.int .i64 r.2.2.2.1), (.int .i64 r.2.2.2.2.1), (.int .i64 r.2.2.2.2.2.1), (.ms 1 r.2.2.2.2.2.2.1.length)])]), false, false⟩, some ⟨1, 21, (.ints .i32 r.2.2.2.2.2.2.1), false, true⟩] := by
 refine contract_own 1 (.t false .z (.t false .z (.t false .z (.t false .z (.t false .z (.t false .z (.t false .z (.t false (.t true .z .z) .z)))))))) rfl Tryd.func52 rfl (by kernel_rfl) ?_
 ((conv=>whnf);repeat((first|apply TT mix|apply sE rfl|apply dG (by kernel_rfl)|fail);(conv=>whnf)))
 refine bnd h (fun y1 hy1 h => ?_)
 refine Or.inr (own_intro (own_call [0, 1] (c_puny_decoder_number_own _ _ _ _ _ _ _ _ hy1) rfl (sK rfl (rowLe_vals (valsLe.cons (cellsLe.cons (cR rfl rfl) (cellsLe.cons (cR rfl rfl) (cellsLe.cons (cR rfl rfl) (cellsLe.cons (cR rfl rfl) (cellsLe.cons (cR rfl rfl) (cellsLe.cons (cR rfl rfl) (cellsLe.cons (And.intro rfl (AV.Le.of_eq (congrArg (AV.ms _) (by first | rfl | omega | (simp; omega) | (simp; done) | (simp only [List.length_set] at *; omega))))) cellsLe.nil))))))) valsLe.nil)) (sK rfl (rowLe_ints (by first | rfl | (simp; done) | (rw [List.take_of_length_le (by simp <;> omega)]; first | rfl | (rw [List.take_take, Nat.min_self]; done) | (simp; done)))) storeLe.nil)) (cellsLe.cons (And.intro rfl (AV.Le.refl _)) cellsLe.nil) rfl) ?_)
 ((conv=>whnf);repeat((first|apply TT mix|apply sE rfl|apply dG (by kernel_rfl)|fail);(conv=>whnf)))
 refine br_b rfl h (fun c8 h => ?_) (fun c8 h => ?_)
 ·have e := Option.some.inj h; subst e
  ((conv=>whnf);repeat((first|apply TT mix|apply sE rfl|apply dG (by kernel_rfl)|fail);(conv=>whnf)))
  exact Or.inr (Or.inr (weak_gen [0, 1] rfl rfl (sK rfl (rowLe_vals (valsLe.cons (cellsLe.cons (cR rfl rfl) (cellsLe.cons (cR rfl rfl) (cellsLe.cons (cR rfl rfl) (cellsLe.cons (cR rfl rfl) (cellsLe.cons (cR rfl rfl) (cellsLe.cons (cR rfl rfl) (cellsLe.cons (And.intro rfl (AV.Le.of_eq (congrArg (AV.ms _) (by first | rfl | omega | (simp; omega) | (simp; done) | (simp only [List.length_set] at *; omega))))) cellsLe.nil))))))) valsLe.nil)) (sK rfl (rowLe_ints (by first | rfl | (simp; done) | (rw [List.take_of_length_le (by simp <;> omega)]; first | rfl | (rw [List.take_take, Nat.min_self]; done) | (simp; done)))) storeLe.nil)) (slotsLe.cons (cR rfl rfl) slotsLe.nil)))
 ·((conv=>whnf);repeat((first|apply TT mix|apply sE rfl|apply dG (by kernel_rfl)|fail);(conv=>whnf)))
  refine bnd h (fun y2 hy2 h => ?_)
  refine Or.inr (own_intro (own_call [0, 1] (c_puny_bias_adapt_own2 _ _ _ _ _ _ _ _ _ _ hy2) rfl (sK rfl (rowLe_vals (valsLe.cons (cellsLe.cons (cR rfl rfl) (cellsLe.cons (cR rfl rfl) (cellsLe.cons (cR rfl rfl) (cellsLe.cons (cR rfl rfl) (cellsLe.cons (cR rfl rfl) (cellsLe.cons (cR rfl rfl) (cellsLe.cons (And.intro rfl (AV.Le.of_eq (congrArg (AV.ms _) (by first | rfl | omega | (simp; omega) | (simp; done) | (simp only [List.length_set] at *; omega))))) cellsLe.nil))))))) valsLe.nil)) (sK rfl (rowLe_ints (by first | rfl | (simp; done) | (rw [List.take_of_length_le (by simp <;> omega)]; first | rfl | (rw [List.take_take, Nat.min_self]; done) | (simp; done)))) storeLe.nil)) (cellsLe.cons (And.intro rfl (AV.Le.refl _)) (cellsLe.cons (And.intro rfl (AV.Le.refl _)) (cellsLe.cons (And.intro rfl (AV.Le.refl _)) cellsLe.nil))) rfl) ?_)
  ((conv=>whnf);repeat((first|apply TT mix|apply sE rfl|apply dG (by kernel_rfl)|fail);(conv=>whnf)))
  refine grd1 rfl h (fun h => ?_)
  ((conv=>whnf);repeat((first|apply TT mix|apply sE rfl|apply dG (by kernel_rfl)|fail);(conv=>whnf)))
  refine grd1 rfl h (fun h => ?_)
  ((conv=>whnf);repeat((first|apply TT mix|apply sE rfl|apply dG (by kernel_rfl)|fail);(conv=>whnf)))
  refine bnd h (fun x9 h9 h => ?_)
  refine cut_at (fun s3 : Bool => mkF 98 [(0, (.mp 0 0 0)), (65, (.bool s3))] [some ⟨7, 87, (.vals [(.agg [(.int .i64 y2.1), (.bool y2.2.1), (.str y2.2.2.1), (.int .i64 y2.2.2.2.1), (.int .i64 (IntKind.wrap .i64 (y2.2.2.2.2.1 + (IntKind.wrap .i64 (Int.tdiv (IntKind.wrap .i64 (y2.2.2.2.2.2 + y1.2.2.2.2.2.2.1)) (IntKind.wrap .i64 (((p_d_6.length : Nat) : Int) + (1 : Int)))))))), (.int .i64 (Int.tmod (IntKind.wrap .i64 (y2.2.2.2.2.2 + y1.2.2.2.2.2.2.1)) (IntKind.wrap .i64 (((p_d_6.length : Nat) : Int) + (1 : Int))))), (.ms 1 p_d_6.length)])]), false, false⟩, some ⟨1, 21, (.ints .i32 p_d_6), false, true⟩]) (fun s3 : Bool => m_puny_decoder_next_own_K4 p_d_6 y1 y2 s3 = some r) ?_ ?_
  ·intro Kn9 hn9
   ((conv=>whnf);repeat((first|apply TT mix|apply sE rfl|apply dG (by kernel_rfl)|fail);(conv=>whnf)))
   refine br_b rfl h9 (fun c10 h9 => ?_) (fun c10 h9 => ?_)
   ·have e := Option.some.inj h9; subst e
    ((conv=>whnf);repeat((first|apply TT mix|apply sE rfl|apply dG (by kernel_rfl)|fail);(conv=>whnf)))
    exact hn9 _ true h (weak_gen [0, 1] rfl rfl (sK rfl (rowLe_vals (valsLe.cons (cellsLe.cons (cR rfl rfl) (cellsLe.cons (cR rfl rfl) (cellsLe.cons (cR rfl rfl) (cellsLe.cons (cR rfl rfl) (cellsLe.cons (cR rfl rfl) (cellsLe.cons (cR rfl rfl) (cellsLe.cons (And.intro rfl (AV.Le.of_eq (congrArg (AV.ms _) (by first | rfl | omega | (simp; omega) | (simp; done) | (simp only [List.length_set] at *; omega))))) cellsLe.nil))))))) valsLe.nil)) (sK rfl (by first | exact rowLe_same fun _ _ _ => rfl | (simp; exact rowLe_same fun _ _ _ => rfl)) storeLe.nil)) (sQ rfl rfl))
   ·((conv=>whnf);repeat((first|apply TT mix|apply sE rfl|apply dG (by kernel_rfl)|fail);(conv=>whnf)))
    refine bnd h9 (fun y7 hy7 h9 => ?_)
    refine Or.inl ⟨_, c_utf_Right _ _ hy7, rfl, ?_⟩
    have e := Option.some.inj h9; subst e
    ((conv=>whnf);repeat((first|apply TT mix|apply sE rfl|apply dG (by kernel_rfl)|fail);(conv=>whnf)))
    exact hn9 _ (!y7) h (weak_gen [0, 1] rfl rfl (sK rfl (rowLe_vals (valsLe.cons (cellsLe.cons (cR rfl rfl) (cellsLe.cons (cR rfl rfl) (cellsLe.cons (cR rfl rfl) (cellsLe.cons (cR rfl rfl) (cellsLe.cons (cR rfl rfl) (cellsLe.cons (cR rfl rfl) (cellsLe.cons (And.intro rfl (AV.Le.of_eq (congrArg (AV.ms _) (by first | rfl | omega | (simp; omega) | (simp; done) | (simp only [List.length_set] at *; omega))))) cellsLe.nil))))))) valsLe.nil)) (sK rfl (by first | exact rowLe_same fun _ _ _ => rfl | (simp; exact rowLe_same fun _ _ _ => rfl)) storeLe.nil)) (sQ rfl rfl))
  ·clear h h9
   intro s3 hc11
   ((conv=>whnf);repeat((first|apply TT mix|apply sE rfl|apply dG (by kernel_rfl)|fail);(conv=>whnf)))
   refine br_b rfl hc11 (fun c12 hc11 => ?_) (fun c12 hc11 => ?_)
   ·((conv=>whnf);repeat((first|apply TT mix|apply sE rfl|apply dG (by kernel_rfl)|fail);(conv=>whnf)))
    refine bnd hc11 (fun y5 hy5 hc11 => ?_)
    refine Or.inl ⟨_, c_puny_fault _ _ _ hy5, rfl, ?_⟩
    have e := Option.some.inj hc11; subst e
    ((conv=>whnf);repeat((first|apply TT mix|apply sE rfl|apply dG (by kernel_rfl)|fail);(conv=>whnf)))
    exact Or.inr (Or.inr (weak_gen [0, 1] rfl rfl (sK rfl (rowLe_vals (valsLe.cons (cellsLe.cons (cR rfl rfl) (cellsLe.cons (cR rfl rfl) (cellsLe.cons (cR rfl rfl) (cellsLe.cons (cR rfl rfl) (cellsLe.cons (cR rfl rfl) (cellsLe.cons (cR rfl rfl) (cellsLe.cons (And.intro rfl (AV.Le.of_eq (congrArg (AV.ms _) (by first | rfl | omega | (simp; omega) | (simp; done) | (simp only [List.length_set] at *; omega))))) cellsLe.nil))))))) valsLe.nil)) (sK rfl (rowLe_ints (by first | rfl | (simp; done) | (rw [List.take_of_length_le (by simp <;> omega)]; first | rfl | (rw [List.take_take, Nat.min_self]; done) | (simp; done)))) storeLe.nil)) (slotsLe.cons (cR rfl rfl) slotsLe.nil)))
   ·((conv=>whnf);repeat((first|apply TT mix|apply sE rfl|apply dG (by kernel_rfl)|fail);(conv=>whnf)))
    refine bnd hc11 (fun y6 hy6 hc11 => ?_)
    refine Or.inr (own_intro (own_call [1] (c_slices_Insert _ _ _ _ hy6) rfl (sK rfl (rowLe_ints (by first | rfl | (simp; done) | (rw [List.take_of_length_le (by simp <;> omega)]; first | rfl | (rw [List.take_take, Nat.min_self]; done) | (simp; done)))) storeLe.nil) (cellsLe.cons (And.intro rfl (AV.Le.of_eq (congrArg (AV.ms _) (by first | rfl | omega | (simp; omega) | (simp; done) | (simp only [List.length_set] at *; omega))))) (cellsLe.cons (And.intro rfl (AV.Le.refl _)) (cellsLe.cons (And.intro rfl (AV.Le.list (by simp; try omega) (fun j hj => by first | rfl | rw [getD_sub hj] | (rw [getD_take hj]; simp) | simp))) cellsLe.nil))) rfl) ?_)
    have e := Option.some.inj hc11; subst e
    ((conv=>whnf);repeat((first|apply TT mix|apply sE rfl|apply dG (by kernel_rfl)|fail);(conv=>whnf)))
    exact Or.inr (Or.inr (weak_gen [0, 2] rfl rfl (sK rfl (rowLe_vals (valsLe.cons (cellsLe.cons (cR rfl rfl) (cellsLe.cons (cR rfl rfl) (cellsLe.cons (cR rfl rfl) (cellsLe.cons (cR rfl rfl) (cellsLe.cons (cR rfl rfl) (cellsLe.cons (cR rfl rfl) (cellsLe.cons (And.intro rfl (AV.Le.of_eq (congrArg (AV.ms _) (by first | rfl | omega | (simp; omega) | (simp; done) | (simp only [List.length_set] at *; omega))))) cellsLe.nil))))))) valsLe.nil)) (sK rfl (rowLe_ints (by first | rfl | (simp; done) | (rw [List.take_of_length_le (by simp <;> omega)]; first | rfl | (rw [List.take_take, Nat.min_self]; done) | (simp; done)))) storeLe.nil)) (slotsLe.cons (And.intro rfl (AV.Le.err_nil)) slotsLe.nil)))
theorem c_puny_Decode (p_s : ByteArray) (r : (List Int) × Er) (h : m_puny_Decode p_s = some r) : Contract pl 23 [(AV.str p_s)] [] (AV.tup [(e_L_i32 r.1), (AV.err r.2)]) [] := by
 refine contract_of (.t false .z (.t false .z (.t true .z (.t false .z (.t true .z (.t true .z .z)))))) Tryd.func23 rfl (by kernel_rfl) ?_
 ((conv=>whnf);repeat((first|apply TT mix|apply sE rfl|apply dG (by kernel_rfl)|fail);(conv=>whnf)))
 refine br_b rfl h (fun c25 h => ?_) (fun c25 h => ?_)
 ·((conv=>whnf);repeat((first|apply TT mix|apply sE rfl|apply dG (by kernel_rfl)|fail);(conv=>whnf)))
  refine bnd h (fun y1 hy1 h => ?_)
  refine Or.inl ⟨_, c_puny_fault _ _ _ hy1, rfl, ?_⟩
  have e := Option.some.inj h; subst e
  ((conv=>whnf);repeat((first|apply TT mix|apply sE rfl|apply dG (by kernel_rfl)|fail);(conv=>whnf)))
  exact And.intro (AV.Le.tup (argsLe.cons (AV.Le.list rfl (fun j hj => absurd hj (Nat.not_lt_zero _))) (argsLe.cons (AV.Le.refl _) argsLe.nil))) rfl
 ·((conv=>whnf);repeat((first|apply TT mix|apply sE rfl|apply dG (by kernel_rfl)|fail);(conv=>whnf)))
  refine bnd h (fun x26 h26 h => ?_)
  refine cut_at (fun s2 : Unit => mkF 62 [(0, (.str p_s))] []) (fun s2 : Unit => m_puny_Decode_K3 p_s s2 = some r) ?_ ?_
  ·intro Kn26 hn26
   ((conv=>whnf);repeat((first|apply TT mix|apply sE rfl|apply dG (by kernel_rfl)|fail);(conv=>whnf)))
   refine loop_iter (fun s18 : Int => mkF 62 [(0, (.str p_s)), (4, (.int .i64 s18))] []) h26 (weak_gen [] rfl rfl storeLe.nil (sQ rfl rfl)) ?_
   intro k20 s18 st20 Kn20 hn20 h20_ hs20
   ((conv=>whnf);repeat((first|apply TT mix|apply sE rfl|apply dG (by kernel_rfl)|fail);(conv=>whnf)))
   refine br_b rfl h20_ (fun c27 h20_ => ?_) (fun c27 h20_ => ?_)
   ·((conv=>whnf);repeat((first|apply TT mix|apply sE rfl|apply dG (by kernel_rfl)|fail);(conv=>whnf)))
    refine grd2 rfl rfl h20_ (fun h20_ => ?_)
    ((conv=>whnf);repeat((first|apply TT mix|apply sE rfl|apply dG (by kernel_rfl)|fail);(conv=>whnf)))
    refine br_b rfl h20_ (fun c28 h20_ => ?_) (fun c28 h20_ => ?_)
    ·((conv=>whnf);repeat((first|apply TT mix|apply sE rfl|apply dG (by kernel_rfl)|fail);(conv=>whnf)))
     refine bnd h20_ (fun y21 hy21 h20_ => ?_)
     refine Or.inl ⟨_, c_puny_fault _ _ _ hy21, rfl, ?_⟩
     have e := Option.some.inj h20_; subst e
     have e := done_out hs20; subst e
     have e := Option.some.inj h; subst e
     ((conv=>whnf);repeat((first|apply TT mix|apply sE rfl|apply dG (by kernel_rfl)|fail);(conv=>whnf)))
     exact And.intro (AV.Le.tup (argsLe.cons (AV.Le.list rfl (fun j hj => absurd hj (Nat.not_lt_zero _))) (argsLe.cons (AV.Le.refl _) argsLe.nil))) rfl
    ·have e := Option.some.inj h20_; subst e
     ((conv=>whnf);repeat((first|apply TT mix|apply sE rfl|apply dG (by kernel_rfl)|fail);(conv=>whnf)))
     exact hn20 _ (IntKind.wrap .i64 (s18 + (1 : Int))) hs20 (weak_gen [] rfl rfl storeLe.nil (sQ rfl rfl))
   ·have e := Option.some.inj h20_; subst e
    have e := done_out hs20; subst e
    ((conv=>whnf);repeat((first|apply TT mix|apply sE rfl|apply dG (by kernel_rfl)|fail);(conv=>whnf)))
    exact hn26 _ () h (weak_gen [] rfl rfl storeLe.nil (slotsLe.cons (cR rfl rfl) slotsLe.nil))
  ·clear h h26
   intro s2 hc29
   ((conv=>whnf);repeat((first|apply TT mix|apply sE rfl|apply dG (by kernel_rfl)|fail);(conv=>whnf)))
   refine bnd hc29 (fun x30 h30 hc29 => ?_)
   refine cut_at (fun s4 : Int × (List Int) => mkF 62 [(0, (.str p_s)), (5, (.mp 0 0 0))] [some ⟨7, 87, (.vals [(.agg [(.int .i64 (72 : Int)), (.bool false), (.str p_s), (.int .i64 s4.1), (.int .i64 (128 : Int)), (.int .i64 (0 : Int)), (.ms 1 s4.2.length)])]), false, false⟩, some ⟨1, 21, (.ints .i32 s4.2), false, true⟩]) (fun s4 : Int × (List Int) => m_puny_Decode_K5 p_s s4 = some r) ?_ ?_
   ·intro Kn30 hn30
    ((conv=>whnf);repeat((first|apply TT mix|apply sE rfl|apply dG (by kernel_rfl)|fail);(conv=>whnf)))
    refine bnd h30 (fun y16 hy16 h30 => ?_)
    refine Or.inl ⟨_, c_strings_LastIndexByte _ _ _ hy16, rfl, ?_⟩
    ((conv=>whnf);repeat((first|apply TT mix|apply sE rfl|apply dG (by kernel_rfl)|fail);(conv=>whnf)))
    refine br_b rfl h30 (fun c31 h30 => ?_) (fun c31 h30 => ?_)
    ·((conv=>whnf);repeat((first|apply TT mix|apply sE rfl|apply dG (by kernel_rfl)|fail);(conv=>whnf)))
     have gh30 := gOf h30
     refine grd3 rfl rfl rfl h30 (fun h30 => ?_)
     ((conv=>whnf);repeat((first|apply TT mix|apply sE rfl|apply dG (by kernel_rfl)|fail);(conv=>whnf)))
     obtain ⟨p32, h30⟩ := grdO h30
     refine And.intro p32 ?_
     have e := Option.some.inj h30; subst e
     ((conv=>whnf);repeat((first|apply TT mix|apply sE rfl|apply dG (by kernel_rfl)|fail);(conv=>whnf)))
     exact hn30 _ ((IntKind.wrap .i64 (y16 + (1 : Int))), (runesL (p_s.extract 0 (y16.toNat)))) hc29 (weak_gen [0, 1] rfl rfl (sK rfl (rowLe_vals (valsLe.cons (cellsLe.cons (cR rfl rfl) (cellsLe.cons (cR rfl rfl) (cellsLe.cons (cR rfl rfl) (cellsLe.cons (cR rfl rfl) (cellsLe.cons (cR rfl rfl) (cellsLe.cons (cR rfl rfl) (cellsLe.cons (And.intro rfl (AV.Le.of_eq (congrArg (AV.ms _) (by first | rfl | omega | (simp; omega) | (simp; done) | (simp only [List.length_set] at *; omega))))) cellsLe.nil))))))) valsLe.nil)) (storeLe.cons rfl (objLe.mk id (fun _ => rfl) (rowLe_ints (by first | rfl | (simp; done) | (rw [List.take_of_length_le (by simp <;> omega)]; first | rfl | (rw [List.take_take, Nat.min_self]; done) | (simp; done))))) storeLe.nil)) (sQ rfl rfl))
    ·have e := Option.some.inj h30; subst e
     ((conv=>whnf);repeat((first|apply TT mix|apply sE rfl|apply dG (by kernel_rfl)|fail);(conv=>whnf)))
     exact hn30 _ ((0 : Int), []) hc29 (weak_trans (weak_nilc 0 0 6 _ [(.agg [(.int .i64 (72 : Int)), (.bool false), (.str p_s), (.int .i64 (0 : Int)), (.int .i64 (128 : Int)), (.int .i64 (0 : Int)), (.sl (some true) 0 fun _ => .unk)])] [(.int .i64 (72 : Int)), (.bool false), (.str p_s), (.int .i64 (0 : Int)), (.int .i64 (128 : Int)), (.int .i64 (0 : Int)), (.sl (some true) 0 fun _ => .unk)] 1 21 (.ints .i32 []) _ rfl rfl rfl rfl rfl trivial (by first | exact Nat.zero_le _ | simp)) (weak_gen [0, 1] rfl rfl (sK rfl (rowLe_vals (valsLe.cons (cellsLe.cons (cR rfl rfl) (cellsLe.cons (cR rfl rfl) (cellsLe.cons (cR rfl rfl) (cellsLe.cons (cR rfl rfl) (cellsLe.cons (cR rfl rfl) (cellsLe.cons (cR rfl rfl) (cellsLe.cons (cR rfl rfl) cellsLe.nil))))))) valsLe.nil)) (sK rfl (rowLe_ints (by first | rfl | (simp; done) | (rw [List.take_of_length_le (by simp <;> omega)]; first | rfl | (rw [List.take_take, Nat.min_self]; done) | (simp; done)))) storeLe.nil)) (sQ rfl rfl)))
   ·clear hc29 h30
    intro s4 hc33
    ((conv=>whnf);repeat((first|apply TT mix|apply sE rfl|apply dG (by kernel_rfl)|fail);(conv=>whnf)))
    refine bnd hc33 (fun x34 h34 hc33 => ?_)
    refine cut_at (fun s6 : Int × Bool × ByteArray × Int × Int × Int × (List Int) => mkF 62 [(5, (.mp 0 0 0))] [some ⟨7, 87, (.vals [(.agg [(.int .i64 s6.1), (.bool s6.2.1), (.str s6.2.2.1), (.int .i64 s6.2.2.2.1), (.int .i64 s6.2.2.2.2.1), (.int .i64 s6.2.2.2.2.2.1), (.ms 1 s6.2.2.2.2.2.2.length)])]), false, false⟩, some ⟨1, 21, (.ints .i32 s6.2.2.2.2.2.2), false, true⟩]) (fun s6 : Int × Bool × ByteArray × Int × Int × Int × (List Int) => some (s6.2.2.2.2.2.2, Er.nil) = some r) ?_ ?_
    ·intro Kn34 hn34
     ((conv=>whnf);repeat((first|apply TT mix|apply sE rfl|apply dG (by kernel_rfl)|fail);(conv=>whnf)))
     refine loop_iter (fun s9 : Int × Bool × ByteArray × Int × Int × Int × (List Int) => mkF 62 [(0, (.str p_s)), (5, (.mp 0 0 0))] [some ⟨7, 87, (.vals [(.agg [(.int .i64 s9.1), (.bool s9.2.1), (.str s9.2.2.1), (.int .i64 s9.2.2.2.1), (.int .i64 s9.2.2.2.2.1), (.int .i64 s9.2.2.2.2.2.1), (.ms 1 s9.2.2.2.2.2.2.length)])]), false, false⟩, some ⟨1, 21, (.ints .i32 s9.2.2.2.2.2.2), false, true⟩]) h34 (weak_gen [0, 1] rfl rfl (sK rfl (rowLe_vals (valsLe.cons (cellsLe.cons (cR rfl rfl) (cellsLe.cons (cR rfl rfl) (cellsLe.cons (cR rfl rfl) (cellsLe.cons (cR rfl rfl) (cellsLe.cons (cR rfl rfl) (cellsLe.cons (cR rfl rfl) (cellsLe.cons (And.intro rfl (AV.Le.of_eq (congrArg (AV.ms _) (by first | rfl | omega | (simp; omega) | (simp; done) | (simp only [List.length_set] at *; omega))))) cellsLe.nil))))))) valsLe.nil)) (sK rfl (rowLe_ints (by first | rfl | (simp; done) | (rw [List.take_of_length_le (by simp <;> omega)]; first | rfl | (rw [List.take_take, Nat.min_self]; done) | (simp; done)))) storeLe.nil)) (sQ rfl rfl)) ?_
     intro k11 s9 st11 Kn11 hn11 h11_ hs11
     ((conv=>whnf);repeat((first|apply TT mix|apply sE rfl|apply dG (by kernel_rfl)|fail);(conv=>whnf)))
     refine br_b rfl h11_ (fun c35 h11_ => ?_) (fun c35 h11_ => ?_)
     ·((conv=>whnf);repeat((first|apply TT mix|apply sE rfl|apply dG (by kernel_rfl)|fail);(conv=>whnf)))
      refine bnd h11_ (fun y12 hy12 h11_ => ?_)
      refine Or.inr (own_intro (own_call [0, 1] (c_puny_decoder_next_own _ _ _ _ _ _ _ _ hy12) rfl (sK rfl (rowLe_vals (valsLe.cons (cellsLe.cons (cR rfl rfl) (cellsLe.cons (cR rfl rfl) (cellsLe.cons (cR rfl rfl) (cellsLe.cons (cR rfl rfl) (cellsLe.cons (cR rfl rfl) (cellsLe.cons (cR rfl rfl) (cellsLe.cons (And.intro rfl (AV.Le.of_eq (congrArg (AV.ms _) (by first | rfl | omega | (simp; omega) | (simp; done) | (simp only [List.length_set] at *; omega))))) cellsLe.nil))))))) valsLe.nil)) (sK rfl (rowLe_ints (by first | rfl | (simp; done) | (rw [List.take_of_length_le (by simp <;> omega)]; first | rfl | (rw [List.take_take, Nat.min_self]; done) | (simp; done)))) storeLe.nil)) (cellsLe.cons (And.intro rfl (AV.Le.refl _)) cellsLe.nil) rfl) ?_)
      ((conv=>whnf);repeat((first|apply TT mix|apply sE rfl|apply dG (by kernel_rfl)|fail);(conv=>whnf)))
      refine br_b rfl h11_ (fun c36 h11_ => ?_) (fun c36 h11_ => ?_)
      ·have e := Option.some.inj h11_; subst e
       have e := done_out hs11; subst e
       have e := Option.some.inj hc33; subst e
       ((conv=>whnf);repeat((first|apply TT mix|apply sE rfl|apply dG (by kernel_rfl)|fail);(conv=>whnf)))
       exact And.intro (AV.Le.tup (argsLe.cons (AV.Le.list rfl (fun j hj => absurd hj (Nat.not_lt_zero _))) (argsLe.cons (AV.Le.refl _) argsLe.nil))) rfl
      ·have e := Option.some.inj h11_; subst e
       ((conv=>whnf);repeat((first|apply TT mix|apply sE rfl|apply dG (by kernel_rfl)|fail);(conv=>whnf)))
       exact hn11 _ (y12.1, y12.2.1, y12.2.2.1, y12.2.2.2.1, y12.2.2.2.2.1, y12.2.2.2.2.2.1, y12.2.2.2.2.2.2.1) hs11 (weak_gen [0, 2] rfl rfl (sK rfl (rowLe_vals (valsLe.cons (cellsLe.cons (cR rfl rfl) (cellsLe.cons (cR rfl rfl) (cellsLe.cons (cR rfl rfl) (cellsLe.cons (cR rfl rfl) (cellsLe.cons (cR rfl rfl) (cellsLe.cons (cR rfl rfl) (cellsLe.cons (And.intro rfl (AV.Le.of_eq (congrArg (AV.ms _) (by first | rfl | omega | (simp; omega) | (simp; done) | (simp only [List.length_set] at *; omega))))) cellsLe.nil))))))) valsLe.nil)) (sK rfl (rowLe_ints (by first | rfl | (simp; done) | (rw [List.take_of_length_le (by simp <;> omega)]; first | rfl | (rw [List.take_take, Nat.min_self]; done) | (simp; done)))) storeLe.nil)) (sQ rfl rfl))
     ·have e := Option.some.inj h11_; subst e
      have e := done_out hs11; subst e
      ((conv=>whnf);repeat((first|apply TT mix|apply sE rfl|apply dG (by kernel_rfl)|fail);(conv=>whnf)))
      exact hn34 _ (s9.1, s9.2.1, s9.2.2.1, s9.2.2.2.1, s9.2.2.2.2.1, s9.2.2.2.2.2.1, s9.2.2.2.2.2.2) hc33 (weak_gen [0, 1] rfl rfl (sK rfl (rowLe_vals (valsLe.cons (cellsLe.cons (cR rfl rfl) (cellsLe.cons (cR rfl rfl) (cellsLe.cons (cR rfl rfl) (cellsLe.cons (cR rfl rfl) (cellsLe.cons (cR rfl rfl) (cellsLe.cons (cR rfl rfl) (cellsLe.cons (And.intro rfl (AV.Le.of_eq (congrArg (AV.ms _) (by first | rfl | omega | (simp; omega) | (simp; done) | (simp only [List.length_set] at *; omega))))) cellsLe.nil))))))) valsLe.nil)) (sK rfl (rowLe_ints (by first | rfl | (simp; done) | (rw [List.take_of_length_le (by simp <;> omega)]; first | rfl | (rw [List.take_take, Nat.min_self]; done) | (simp; done)))) storeLe.nil)) (slotsLe.cons (cR rfl rfl) slotsLe.nil))
    ·clear hc33 h34
     intro s6 hc37
     have e := Option.some.inj hc37; subst e
     ((conv=>whnf);repeat((first|apply TT mix|apply sE rfl|apply dG (by kernel_rfl)|fail);(conv=>whnf)))
     exact And.intro (AV.Le.tup (argsLe.cons (AV.Le.refl _) (argsLe.cons (AV.Le.err_nil) argsLe.nil))) rfl
theorem c_eponymlaw01_Named (p_code : Int) (r : Er) (h : m_eponymlaw01_Named p_code = some r) : Contract pl 41 [(AV.int .i64 p_code)] [] (AV.err r) [] := by
 refine contract_of .z Tryd.func41 rfl (by kernel_rfl) ?_
 ((conv=>whnf);repeat((first|apply TT mix|apply sE rfl|apply dG (by kernel_rfl)|fail);(conv=>whnf)))
 refine br_b rfl h (fun c1 h => ?_) (fun c1 h => ?_)
 ·have e := Option.some.inj h; subst e
  ((conv=>whnf);repeat((first|apply TT mix|apply sE rfl|apply dG (by kernel_rfl)|fail);(conv=>whnf)))
  exact And.intro (AV.Le.refl _) rfl
 ·((conv=>whnf);repeat((first|apply TT mix|apply sE rfl|apply dG (by kernel_rfl)|fail);(conv=>whnf)))
  refine br_b rfl h (fun c2 h => ?_) (fun c2 h => ?_)
  ·have e := Option.some.inj h; subst e
   ((conv=>whnf);repeat((first|apply TT mix|apply sE rfl|apply dG (by kernel_rfl)|fail);(conv=>whnf)))
   exact And.intro (AV.Le.refl _) rfl
  ·((conv=>whnf);repeat((first|apply TT mix|apply sE rfl|apply dG (by kernel_rfl)|fail);(conv=>whnf)))
   refine br_b rfl h (fun c3 h => ?_) (fun c3 h => ?_)
   ·have e := Option.some.inj h; subst e
    ((conv=>whnf);repeat((first|apply TT mix|apply sE rfl|apply dG (by kernel_rfl)|fail);(conv=>whnf)))
    exact And.intro (AV.Le.refl _) rfl
   ·((conv=>whnf);repeat((first|apply TT mix|apply sE rfl|apply dG (by kernel_rfl)|fail);(conv=>whnf)))
    refine br_b rfl h (fun c4 h => ?_) (fun c4 h => ?_)
    ·have e := Option.some.inj h; subst e
     ((conv=>whnf);repeat((first|apply TT mix|apply sE rfl|apply dG (by kernel_rfl)|fail);(conv=>whnf)))
     exact And.intro (AV.Le.refl _) rfl
    ·((conv=>whnf);repeat((first|apply TT mix|apply sE rfl|apply dG (by kernel_rfl)|fail);(conv=>whnf)))
     refine br_b rfl h (fun c5 h => ?_) (fun c5 h => ?_)
     ·have e := Option.some.inj h; subst e
      ((conv=>whnf);repeat((first|apply TT mix|apply sE rfl|apply dG (by kernel_rfl)|fail);(conv=>whnf)))
      exact And.intro (AV.Le.refl _) rfl
     ·((conv=>whnf);repeat((first|apply TT mix|apply sE rfl|apply dG (by kernel_rfl)|fail);(conv=>whnf)))
      refine br_b rfl h (fun c6 h => ?_) (fun c6 h => ?_)
      ·have e := Option.some.inj h; subst e
       ((conv=>whnf);repeat((first|apply TT mix|apply sE rfl|apply dG (by kernel_rfl)|fail);(conv=>whnf)))
       exact And.intro (AV.Le.refl _) rfl
      ·((conv=>whnf);repeat((first|apply TT mix|apply sE rfl|apply dG (by kernel_rfl)|fail);(conv=>whnf)))
       refine br_b rfl h (fun c7 h => ?_) (fun c7 h => ?_)
       ·have e := Option.some.inj h; subst e
        ((conv=>whnf);repeat((first|apply TT mix|apply sE rfl|apply dG (by kernel_rfl)|fail);(conv=>whnf)))
        exact And.intro (AV.Le.refl _) rfl
       ·((conv=>whnf);repeat((first|apply TT mix|apply sE rfl|apply dG (by kernel_rfl)|fail);(conv=>whnf)))
        refine br_b rfl h (fun c8 h => ?_) (fun c8 h => ?_)
        ·have e := Option.some.inj h; subst e
         ((conv=>whnf);repeat((first|apply TT mix|apply sE rfl|apply dG (by kernel_rfl)|fail);(conv=>whnf)))
         exact And.intro (AV.Le.refl _) rfl
        ·((conv=>whnf);repeat((first|apply TT mix|apply sE rfl|apply dG (by kernel_rfl)|fail);(conv=>whnf)))
         refine br_b rfl h (fun c9 h => ?_) (fun c9 h => ?_)
         ·have e := Option.some.inj h; subst e
          ((conv=>whnf);repeat((first|apply TT mix|apply sE rfl|apply dG (by kernel_rfl)|fail);(conv=>whnf)))
          exact And.intro (AV.Le.refl _) rfl
         ·((conv=>whnf);repeat((first|apply TT mix|apply sE rfl|apply dG (by kernel_rfl)|fail);(conv=>whnf)))
          refine br_b rfl h (fun c10 h => ?_) (fun c10 h => ?_)
          ·have e := Option.some.inj h; subst e
           ((conv=>whnf);repeat((first|apply TT mix|apply sE rfl|apply dG (by kernel_rfl)|fail);(conv=>whnf)))
           exact And.intro (AV.Le.refl _) rfl
          ·((conv=>whnf);repeat((first|apply TT mix|apply sE rfl|apply dG (by kernel_rfl)|fail);(conv=>whnf)))
           refine br_b rfl h (fun c11 h => ?_) (fun c11 h => ?_)
           ·have e := Option.some.inj h; subst e
            ((conv=>whnf);repeat((first|apply TT mix|apply sE rfl|apply dG (by kernel_rfl)|fail);(conv=>whnf)))
            exact And.intro (AV.Le.refl _) rfl
           ·((conv=>whnf);repeat((first|apply TT mix|apply sE rfl|apply dG (by kernel_rfl)|fail);(conv=>whnf)))
            refine br_b rfl h (fun c12 h => ?_) (fun c12 h => ?_)
            ·have e := Option.some.inj h; subst e
             ((conv=>whnf);repeat((first|apply TT mix|apply sE rfl|apply dG (by kernel_rfl)|fail);(conv=>whnf)))
             exact And.intro (AV.Le.refl _) rfl
            ·((conv=>whnf);repeat((first|apply TT mix|apply sE rfl|apply dG (by kernel_rfl)|fail);(conv=>whnf)))
             refine br_b rfl h (fun c13 h => ?_) (fun c13 h => ?_)
             ·have e := Option.some.inj h; subst e
              ((conv=>whnf);repeat((first|apply TT mix|apply sE rfl|apply dG (by kernel_rfl)|fail);(conv=>whnf)))
              exact And.intro (AV.Le.refl _) rfl
             ·((conv=>whnf);repeat((first|apply TT mix|apply sE rfl|apply dG (by kernel_rfl)|fail);(conv=>whnf)))
              refine br_b rfl h (fun c14 h => ?_) (fun c14 h => ?_)
              ·have e := Option.some.inj h; subst e
               ((conv=>whnf);repeat((first|apply TT mix|apply sE rfl|apply dG (by kernel_rfl)|fail);(conv=>whnf)))
               exact And.intro (AV.Le.refl _) rfl
              ·((conv=>whnf);repeat((first|apply TT mix|apply sE rfl|apply dG (by kernel_rfl)|fail);(conv=>whnf)))
               refine br_b rfl h (fun c15 h => ?_) (fun c15 h => ?_)
               ·have e := Option.some.inj h; subst e
                ((conv=>whnf);repeat((first|apply TT mix|apply sE rfl|apply dG (by kernel_rfl)|fail);(conv=>whnf)))
                exact And.intro (AV.Le.refl _) rfl
               ·((conv=>whnf);repeat((first|apply TT mix|apply sE rfl|apply dG (by kernel_rfl)|fail);(conv=>whnf)))
                refine br_b rfl h (fun c16 h => ?_) (fun c16 h => ?_)
                ·have e := Option.some.inj h; subst e
                 ((conv=>whnf);repeat((first|apply TT mix|apply sE rfl|apply dG (by kernel_rfl)|fail);(conv=>whnf)))
                 exact And.intro (AV.Le.refl _) rfl
                ·((conv=>whnf);repeat((first|apply TT mix|apply sE rfl|apply dG (by kernel_rfl)|fail);(conv=>whnf)))
                 refine br_b rfl h (fun c17 h => ?_) (fun c17 h => ?_)
                 ·have e := Option.some.inj h; subst e
                  ((conv=>whnf);repeat((first|apply TT mix|apply sE rfl|apply dG (by kernel_rfl)|fail);(conv=>whnf)))
                  exact And.intro (AV.Le.refl _) rfl
                 ·((conv=>whnf);repeat((first|apply TT mix|apply sE rfl|apply dG (by kernel_rfl)|fail);(conv=>whnf)))
                  refine br_b rfl h (fun c18 h => ?_) (fun c18 h => ?_)
                  ·have e := Option.some.inj h; subst e
                   ((conv=>whnf);repeat((first|apply TT mix|apply sE rfl|apply dG (by kernel_rfl)|fail);(conv=>whnf)))
                   exact And.intro (AV.Le.refl _) rfl
                  ·have e := Option.some.inj h; subst e
                   ((conv=>whnf);repeat((first|apply TT mix|apply sE rfl|apply dG (by kernel_rfl)|fail);(conv=>whnf)))
                   exact And.intro (AV.Le.err_nil) rfl
theorem c_eponymlaw01_Is (p_e : Er) (p_at : Int) (p_code : Int) (r : Bool) (h : m_eponymlaw01_Is p_e p_at p_code = some r) : Contract pl 19 [(AV.err p_e), (AV.int .i64 p_at), (AV.int .i64 p_code)] [] (AV.bool r) [] := by
 refine contract_of .z Tryd.func19 rfl (by kernel_rfl) ?_
 ((conv=>whnf);repeat((first|apply TT mix|apply sE rfl|apply dG (by kernel_rfl)|fail);(conv=>whnf)))
 refine br_b rfl h (fun c4 h => ?_) (fun c4 h => ?_)
 ·have e := Option.some.inj h; subst e
  ((conv=>whnf);repeat((first|apply TT mix|apply sE rfl|apply dG (by kernel_rfl)|fail);(conv=>whnf)))
  exact And.intro (AV.Le.refl _) rfl
 ·((conv=>whnf);repeat((first|apply TT mix|apply sE rfl|apply dG (by kernel_rfl)|fail);(conv=>whnf)))
  refine br_b rfl h (fun c5 h => ?_) (fun c5 h => ?_)
  ·((conv=>whnf);repeat((first|apply TT mix|apply sE rfl|apply dG (by kernel_rfl)|fail);(conv=>whnf)))
   refine br_e h (fun hx h => ?_) (fun hx h => ?_)
   ·refine Or.inr (own_intro (own_call [0] (c_errors_As_nil _ hx) rfl (storeLe.cons rfl (objLe.mk (by intro hf; first | exact hf | rfl) (by intro hf; first | exact hf | rfl) (rowLe_vals (valsLe.cons (cellsLe_refl rfl) valsLe.nil))) storeLe.nil) (cellsLe.cons (And.intro rfl (AV.Le.refl _)) (cellsLe.cons (And.intro rfl (AV.Le.refl _)) cellsLe.nil)) rfl) ?_)
    have e := Option.some.inj h; subst e
    ((conv=>whnf);repeat((first|apply TT mix|apply sE rfl|apply dG (by kernel_rfl)|fail);(conv=>whnf)))
    exact And.intro (AV.Le.refl _) rfl
   ·((conv=>whnf);repeat((first|apply TT mix|apply sE rfl|apply dG (by kernel_rfl)|fail);(conv=>whnf)))
    refine bnd h (fun y1 hy1 h => ?_)
    refine Or.inr (own_intro (own_call [0] (c_errors_As _ _ hy1) rfl (storeLe.cons rfl (objLe.mk (by intro hf; first | exact hf | rfl) (by intro hf; first | exact hf | rfl) (rowLe_vals (valsLe.cons (cellsLe_refl rfl) valsLe.nil))) storeLe.nil) (cellsLe.cons (And.intro rfl (AV.Le.refl _)) (cellsLe.cons (And.intro rfl (AV.Le.refl _)) cellsLe.nil)) rfl) ?_)
    ((conv=>whnf);repeat((first|apply TT mix|apply sE rfl|apply dG (by kernel_rfl)|fail);(conv=>whnf)))
    refine br_b rfl h (fun c6 h => ?_) (fun c6 h => ?_)
    ·((conv=>whnf);repeat((first|apply TT mix|apply sE rfl|apply dG (by kernel_rfl)|fail);(conv=>whnf)))
     refine bnd h (fun y2 hy2 h => ?_)
     refine Or.inl ⟨_, c_eponymlaw01_Named _ _ hy2, rfl, ?_⟩
     ((conv=>whnf);repeat((first|apply TT mix|apply sE rfl|apply dG (by kernel_rfl)|fail);(conv=>whnf)))
     refine bnd h (fun y3 hy3 h => ?_)
     refine Or.inl ⟨_, c_errors_Is _ _ _ hy3, rfl, ?_⟩
     have e := Option.some.inj h; subst e
     ((conv=>whnf);repeat((first|apply TT mix|apply sE rfl|apply dG (by kernel_rfl)|fail);(conv=>whnf)))
     exact And.intro (AV.Le.refl _) rfl
    ·have e := Option.some.inj h; subst e
     ((conv=>whnf);repeat((first|apply TT mix|apply sE rfl|apply dG (by kernel_rfl)|fail);(conv=>whnf)))
     exact And.intro (AV.Le.refl _) rfl
  ·have e := Option.some.inj h; subst e
   ((conv=>whnf);repeat((first|apply TT mix|apply sE rfl|apply dG (by kernel_rfl)|fail);(conv=>whnf)))
   exact And.intro (AV.Le.refl _) rfl
theorem c_eponymlaw06_awake  (r : Bool) (h : m_eponymlaw06_awake  = some r) : Contract pl 20 [] [] (AV.bool r) [] := by
 refine contract_of .z Tryd.func20 rfl (by kernel_rfl) ?_
 ((conv=>whnf);repeat((first|apply TT mix|apply sE rfl|apply dG (by kernel_rfl)|fail);(conv=>whnf)))
 refine bnd h (fun y1 hy1 h => ?_)
 refine Or.inl ⟨_, contract_le (c_puny_Encode _ _ hy1) (argsLe.cons (AV.Le.list (by simp; try omega) (fun j hj => by first | rfl | rw [getD_sub hj] | (rw [getD_take hj]; simp) | simp)) argsLe.nil), rfl, ?_⟩
 ((conv=>whnf);repeat((first|apply TT mix|apply sE rfl|apply dG (by kernel_rfl)|fail);(conv=>whnf)))
 refine bnd h (fun y2 hy2 h => ?_)
 refine Or.inl ⟨_, c_puny_Decode _ _ hy2, rfl, ?_⟩
 ((conv=>whnf);repeat((first|apply TT mix|apply sE rfl|apply dG (by kernel_rfl)|fail);(conv=>whnf)))
 refine br_b rfl h (fun c4 h => ?_) (fun c4 h => ?_)
 ·((conv=>whnf);repeat((first|apply TT mix|apply sE rfl|apply dG (by kernel_rfl)|fail);(conv=>whnf)))
  refine br_b rfl h (fun c5 h => ?_) (fun c5 h => ?_)
  ·((conv=>whnf);repeat((first|apply TT mix|apply sE rfl|apply dG (by kernel_rfl)|fail);(conv=>whnf)))
   refine bnd h (fun y3 hy3 h => ?_)
   refine Or.inl ⟨_, c_eponymlaw01_Is _ _ _ _ hy3, rfl, ?_⟩
   have e := Option.some.inj h; subst e
   ((conv=>whnf);repeat((first|apply TT mix|apply sE rfl|apply dG (by kernel_rfl)|fail);(conv=>whnf)))
   exact And.intro (AV.Le.refl _) rfl
  ·have e := Option.some.inj h; subst e
   ((conv=>whnf);repeat((first|apply TT mix|apply sE rfl|apply dG (by kernel_rfl)|fail);(conv=>whnf)))
   exact And.intro (AV.Le.refl _) rfl
 ·have e := Option.some.inj h; subst e
  ((conv=>whnf);repeat((first|apply TT mix|apply sE rfl|apply dG (by kernel_rfl)|fail);(conv=>whnf)))
  exact And.intro (AV.Le.refl _) rfl
theorem c_eponymref06_Lower (p_s : ByteArray) (r : ByteArray) (h : m_eponymref06_Lower p_s = some r) : Contract pl 25 [(AV.str p_s)] [] (AV.str r) [] := by
 refine contract_of (.t false .z (.t false .z (.t true .z (.t false .z (.t true (.t false .z (.t false (.t false (.t false .z (.t false (.t false (.t false .z (.t false (.t true .z .z) .z)) .z) .z)) .z) .z)) .z))))) Tryd.func25 rfl (by kernel_rfl) ?_
 ((conv=>whnf);repeat((first|apply TT mix|apply sE rfl|apply dG (by kernel_rfl)|fail);(conv=>whnf)))
 refine bnd h (fun x17 h17 h => ?_)
 refine cut_at (fun s1 : Int => mkF 47 [(0, (.str p_s)), (3, (.int .i64 s1))] []) (fun s1 : Int => m_eponymref06_Lower_K2 p_s s1 = some r) ?_ ?_
 ·intro Kn17 hn17
  ((conv=>whnf);repeat((first|apply TT mix|apply sE rfl|apply dG (by kernel_rfl)|fail);(conv=>whnf)))
  refine loop_iter (fun s13 : Int × Int => mkF 47 [(0, (.str p_s)), (3, (.int .i64 s13.1)), (4, (.int .i64 s13.2))] []) h17 (weak_gen [] rfl rfl storeLe.nil (sQ rfl rfl)) ?_
  intro k15 s13 st15 Kn15 hn15 h15_ hs15
  ((conv=>whnf);repeat((first|apply TT mix|apply sE rfl|apply dG (by kernel_rfl)|fail);(conv=>whnf)))
  refine br_b rfl h15_ (fun c18 h15_ => ?_) (fun c18 h15_ => ?_)
  ·((conv=>whnf);repeat((first|apply TT mix|apply sE rfl|apply dG (by kernel_rfl)|fail);(conv=>whnf)))
   refine grd2 rfl rfl h15_ (fun h15_ => ?_)
   ((conv=>whnf);repeat((first|apply TT mix|apply sE rfl|apply dG (by kernel_rfl)|fail);(conv=>whnf)))
   refine br_b rfl h15_ (fun c19 h15_ => ?_) (fun c19 h15_ => ?_)
   ·have e := Option.some.inj h15_; subst e
    ((conv=>whnf);repeat((first|apply TT mix|apply sE rfl|apply dG (by kernel_rfl)|fail);(conv=>whnf)))
    exact hn15 _ ((IntKind.wrap .i64 (s13.2 + (1 : Int))), (IntKind.wrap .i64 (s13.2 + (1 : Int)))) hs15 (weak_gen [] rfl rfl storeLe.nil (sQ rfl rfl))
   ·have e := Option.some.inj h15_; subst e
    ((conv=>whnf);repeat((first|apply TT mix|apply sE rfl|apply dG (by kernel_rfl)|fail);(conv=>whnf)))
    exact hn15 _ (s13.1, (IntKind.wrap .i64 (s13.2 + (1 : Int)))) hs15 (weak_gen [] rfl rfl storeLe.nil (sQ rfl rfl))
  ·have e := Option.some.inj h15_; subst e
   have e := done_out hs15; subst e
   ((conv=>whnf);repeat((first|apply TT mix|apply sE rfl|apply dG (by kernel_rfl)|fail);(conv=>whnf)))
   exact hn17 _ s13.1 h (weak_gen [] rfl rfl storeLe.nil (sQ rfl rfl))
 ·clear h h17
  intro s1 hc20
  ((conv=>whnf);repeat((first|apply TT mix|apply sE rfl|apply dG (by kernel_rfl)|fail);(conv=>whnf)))
  have ghc20 := gOf hc20
  refine grd3 rfl rfl rfl hc20 (fun hc20 => ?_)
  ((conv=>whnf);repeat((first|apply TT mix|apply sE rfl|apply dG (by kernel_rfl)|fail);(conv=>whnf)))
  refine bnd hc20 (fun x21 h21 hc20 => ?_)
  refine cut_at (fun s3 : ByteArray => mkF 47 [(5, (.str s3))] []) (fun s3 : ByteArray => some s3 = some r) ?_ ?_
  ·intro Kn21 hn21
   ((conv=>whnf);repeat((first|apply TT mix|apply sE rfl|apply dG (by kernel_rfl)|fail);(conv=>whnf)))
   refine loop_iter (fun s6 : ByteArray × Int => mkF 47 [(0, (.str p_s)), (5, (.str s6.1)), (6, (.int .i64 s6.2))] []) h21 (weak_gen [] rfl rfl storeLe.nil (sQ rfl rfl)) ?_
   intro k8 s6 st8 Kn8 hn8 h8_ hs8
   ((conv=>whnf);repeat((first|apply TT mix|apply sE rfl|apply dG (by kernel_rfl)|fail);(conv=>whnf)))
   refine br_b rfl h8_ (fun c22 h8_ => ?_) (fun c22 h8_ => ?_)
   ·((conv=>whnf);repeat((first|apply TT mix|apply sE rfl|apply dG (by kernel_rfl)|fail);(conv=>whnf)))
    refine grd2 rfl rfl h8_ (fun h8_ => ?_)
    ((conv=>whnf);repeat((first|apply TT mix|apply sE rfl|apply dG (by kernel_rfl)|fail);(conv=>whnf)))
    refine bnd h8_ (fun x23 h23 h8_ => ?_)
    refine cut_at (fun s9 : Bool => mkF 47 [(0, (.str p_s)), (5, (.str s6.1)), (6, (.int .i64 s6.2)), (7, (.int .u8 (bt p_s s6.2))), (38, (.bool s9))] []) (fun s9 : Bool => m_eponymref06_Lower_K10 p_s s6 s9 = some st8) ?_ ?_
    ·intro Kn23 hn23
     ((conv=>whnf);repeat((first|apply TT mix|apply sE rfl|apply dG (by kernel_rfl)|fail);(conv=>whnf)))
     refine br_b rfl h23 (fun c24 h23 => ?_) (fun c24 h23 => ?_)
     ·have e := Option.some.inj h23; subst e
      ((conv=>whnf);repeat((first|apply TT mix|apply sE rfl|apply dG (by kernel_rfl)|fail);(conv=>whnf)))
      exact hn23 _ (decide ((bt p_s s6.2) ≤ (90 : Int))) h8_ (weak_gen [] rfl rfl storeLe.nil (sQ rfl rfl))
     ·have e := Option.some.inj h23; subst e
      ((conv=>whnf);repeat((first|apply TT mix|apply sE rfl|apply dG (by kernel_rfl)|fail);(conv=>whnf)))
      exact hn23 _ false h8_ (weak_gen [] rfl rfl storeLe.nil (sQ rfl rfl))
    ·clear h8_ h23
     intro s9 hc25
     ((conv=>whnf);repeat((first|apply TT mix|apply sE rfl|apply dG (by kernel_rfl)|fail);(conv=>whnf)))
     refine br_b rfl hc25 (fun c26 hc25 => ?_) (fun c26 hc25 => ?_)
     ·((conv=>whnf);repeat((first|apply TT mix|apply sE rfl|apply dG (by kernel_rfl)|fail);(conv=>whnf)))
      refine ⟨[(IntKind.wrap .u8 ((bt p_s s6.2) + (32 : Int)))], by first | rfl | simp, fun j hj => by first | rfl | exact lits_u8 _ j hj | (show AV.int .u8 _ = _; simp; done) | (simp [Row.get]), ?_⟩
      ((conv=>whnf);repeat((first|apply TT mix|apply sE rfl|apply dG (by kernel_rfl)|fail);(conv=>whnf)))
      refine grd1 rfl hc25 (fun hc25 => ?_)
      have e := Option.some.inj hc25; subst e
      ((conv=>whnf);repeat((first|apply TT mix|apply sE rfl|apply dG (by kernel_rfl)|fail);(conv=>whnf)))
      exact hn8 _ ((s6.1 ++ (strOfNums [(IntKind.wrap .u8 ((bt p_s s6.2) + (32 : Int)))])), (IntKind.wrap .i64 (s6.2 + (1 : Int)))) hs8 (weak_gen [] rfl rfl storeLe.nil (sQ rfl rfl))
     ·((conv=>whnf);repeat((first|apply TT mix|apply sE rfl|apply dG (by kernel_rfl)|fail);(conv=>whnf)))
      refine ⟨[(bt p_s s6.2)], by first | rfl | simp, fun j hj => by first | rfl | exact lits_u8 _ j hj | (show AV.int .u8 _ = _; simp; done) | (simp [Row.get]), ?_⟩
      ((conv=>whnf);repeat((first|apply TT mix|apply sE rfl|apply dG (by kernel_rfl)|fail);(conv=>whnf)))
      refine grd1 rfl hc25 (fun hc25 => ?_)
      have e := Option.some.inj hc25; subst e
      ((conv=>whnf);repeat((first|apply TT mix|apply sE rfl|apply dG (by kernel_rfl)|fail);(conv=>whnf)))
      exact hn8 _ ((s6.1 ++ (strOfNums [(bt p_s s6.2)])), (IntKind.wrap .i64 (s6.2 + (1 : Int)))) hs8 (weak_gen [] rfl rfl storeLe.nil (sQ rfl rfl))
   ·have e := Option.some.inj h8_; subst e
    have e := done_out hs8; subst e
    ((conv=>whnf);repeat((first|apply TT mix|apply sE rfl|apply dG (by kernel_rfl)|fail);(conv=>whnf)))
    exact hn21 _ s6.1 hc20 (weak_gen [] rfl rfl storeLe.nil (slotsLe.cons (cR rfl rfl) slotsLe.nil))
  ·clear hc20 h21
   intro s3 hc27
   have e := Option.some.inj hc27; subst e
   ((conv=>whnf);repeat((first|apply TT mix|apply sE rfl|apply dG (by kernel_rfl)|fail);(conv=>whnf)))
   exact And.intro (AV.Le.refl _) rfl
theorem c_eponymlaw06_PunyThere (p_s : ByteArray) (r : Bool) (h : m_eponymlaw06_PunyThere p_s = some r) : Contract pl 8 [(AV.str p_s)] [] (AV.bool r) [] := by
 refine contract_of .z Tryd.func8 rfl (by kernel_rfl) ?_
 ((conv=>whnf);repeat((first|apply TT mix|apply sE rfl|apply dG (by kernel_rfl)|fail);(conv=>whnf)))
 refine bnd h (fun y1 hy1 h => ?_)
 refine Or.inl ⟨_, c_eponymlaw06_awake  _ hy1, rfl, ?_⟩
 ((conv=>whnf);repeat((first|apply TT mix|apply sE rfl|apply dG (by kernel_rfl)|fail);(conv=>whnf)))
 refine br_b rfl h (fun c5 h => ?_) (fun c5 h => ?_)
 ·have e := Option.some.inj h; subst e
  ((conv=>whnf);repeat((first|apply TT mix|apply sE rfl|apply dG (by kernel_rfl)|fail);(conv=>whnf)))
  exact And.intro (AV.Le.refl _) rfl
 ·((conv=>whnf);repeat((first|apply TT mix|apply sE rfl|apply dG (by kernel_rfl)|fail);(conv=>whnf)))
  refine br_b rfl h (fun c6 h => ?_) (fun c6 h => ?_)
  ·have e := Option.some.inj h; subst e
   ((conv=>whnf);repeat((first|apply TT mix|apply sE rfl|apply dG (by kernel_rfl)|fail);(conv=>whnf)))
   exact And.intro (AV.Le.refl _) rfl
  ·((conv=>whnf);repeat((first|apply TT mix|apply sE rfl|apply dG (by kernel_rfl)|fail);(conv=>whnf)))
   refine bnd h (fun y2 hy2 h => ?_)
   refine Or.inl ⟨_, c_puny_Decode _ _ hy2, rfl, ?_⟩
   ((conv=>whnf);repeat((first|apply TT mix|apply sE rfl|apply dG (by kernel_rfl)|fail);(conv=>whnf)))
   refine br_b rfl h (fun c7 h => ?_) (fun c7 h => ?_)
   ·have e := Option.some.inj h; subst e
    ((conv=>whnf);repeat((first|apply TT mix|apply sE rfl|apply dG (by kernel_rfl)|fail);(conv=>whnf)))
    exact And.intro (AV.Le.refl _) rfl
   ·((conv=>whnf);repeat((first|apply TT mix|apply sE rfl|apply dG (by kernel_rfl)|fail);(conv=>whnf)))
    refine bnd h (fun y3 hy3 h => ?_)
    refine Or.inl ⟨_, c_puny_Encode _ _ hy3, rfl, ?_⟩
    ((conv=>whnf);repeat((first|apply TT mix|apply sE rfl|apply dG (by kernel_rfl)|fail);(conv=>whnf)))
    refine br_b rfl h (fun c8 h => ?_) (fun c8 h => ?_)
    ·((conv=>whnf);repeat((first|apply TT mix|apply sE rfl|apply dG (by kernel_rfl)|fail);(conv=>whnf)))
     refine bnd h (fun y4 hy4 h => ?_)
     refine Or.inl ⟨_, c_eponymref06_Lower _ _ hy4, rfl, ?_⟩
     have e := Option.some.inj h; subst e
     ((conv=>whnf);repeat((first|apply TT mix|apply sE rfl|apply dG (by kernel_rfl)|fail);(conv=>whnf)))
     exact And.intro (AV.Le.refl _) rfl
    ·have e := Option.some.inj h; subst e
     ((conv=>whnf);repeat((first|apply TT mix|apply sE rfl|apply dG (by kernel_rfl)|fail);(conv=>whnf)))
     exact And.intro (AV.Le.refl _) rfl
end Go.Proofs.YtclhniadffljdaaDoor
