/- decomp.korean by its contract, walked by hand. No condition. -/
import Derived.Test.YtkeokkmhhhhoiaaGreatDoorRCheck
import Derived.Shelf.Abstract
import Derived.WalkKit
import Derived.OwnWalkIn
import Derived.TacticsInMore
import Derived.LoopNIn
import Derived.LoopIn
namespace Go.Proofs.YtkeokkmhhhhoiaaGreatDoor
open Go Go.SE Go.RowKit Go.Shelf
set_option linter.unusedVariables false
theorem agg_inv {w : World} {cx : Cx} {A : Nat → Prop} {cs : List AV} {v : Value} (h : Rel w cx A (.agg cs) v) : ∃ vs : List Value, cs.length = vs.length ∧ (∀ u ∈ vs, u.oneCell' = true) ∧ v = .agg vs.toArray ∧ ∀ (c : Nat) (x : AV) (u : Value), cs[c]? = some x → vs[c]? = some u → Rel w cx A x u := by
  cases h with
  | agg _ vs hl h1 hrel => exact ⟨vs, hl, h1, rfl, hrel⟩
def koV (x : T_api_Range) : Value := .agg #[.int .i32 x.f_Lo, .int .i32 x.f_Hi, .int .i64 x.f_Value]
abbrev koA : Value := .agg #[.int .i32 4352, .int .i32 4370, .int .i32 4449, .int .i32 4469, .int .i32 4520, .int .i32 4546, .int .i32 44032, .int .i32 55203]
theorem ko0 (w : World) : (Instr.index 236 koA (.int .i64 0)).run Tryz.prog w = .ok (.agg #[.int .i32 4352, .int .i32 4370]) w := by kernel_rfl
theorem ko1 (w : World) : (Instr.index 236 koA (.int .i64 1)).run Tryz.prog w = .ok (.agg #[.int .i32 4449, .int .i32 4469]) w := by kernel_rfl
theorem ko2 (w : World) : (Instr.index 236 koA (.int .i64 2)).run Tryz.prog w = .ok (.agg #[.int .i32 4520, .int .i32 4546]) w := by kernel_rfl
theorem ko3 (w : World) : (Instr.index 236 koA (.int .i64 3)).run Tryz.prog w = .ok (.agg #[.int .i32 44032, .int .i32 55203]) w := by kernel_rfl
set_option maxRecDepth 100000 in
set_option maxHeartbeats 4000000 in
theorem korean_calls (x : T_api_Range) (w : World) : Calls Tryz.prog 181 #[koV x] w fun e w' => e = .returned (.bool (koreanF x)) ∧ Below w.heap.size w w' := by
  unfold koV koreanF
  have i0 := ko0
  have i1 := ko1
  have i2 := ko2
  have i3 := ko3
  go_enter Tryz.func181, Tryz.ntmps181
  go_wp2
  refine wp_loop_rounds 5 ?_
  iterate 5 (all_goals (try (rw [rounds_succ]; go_wp2)))
  all_goals go_ret
  all_goals refine ⟨?_, ?_⟩
  all_goals first
    | (show Ending.returned (Value.bool _) = _
       simp only [Ending.returned.injEq, Value.bool.injEq]
       rw [Bool.eq_iff_iff]
       simp only [Bool.or_eq_true, Bool.and_eq_true, decide_eq_true_eq, true_iff, Bool.false_eq_true, false_iff]
       omega)
    | (repeat (first | exact Below.refl _ _ | refine Below.alloc ?_ (by simp <;> omega) _))
theorem c_decomp_korean (p_x : T_api_Range) (r : Bool) (h : m_decomp_korean p_x = some r) : Contract pl 181 [(e_api_Range p_x)] [] (.bool r) [] := by
  cases h
  refine ⟨⟨_, Tryz.func181, by kernel_rfl, by kernel_rfl⟩, fun V w cx vs S hlen R => ?_⟩
  match vs, hlen with
  | [v0], _ =>
    have r0 := R 0 _ v0 rfl rfl
    obtain ⟨vs, hl, h1, rfl, hrel⟩ := agg_inv r0
    match vs, hl with
    | [u0, u1, u2], _ =>
      have q0 := hrel 0 _ _ rfl rfl
      have q1 := hrel 1 _ _ rfl rfl
      have q2 := hrel 2 _ _ rfl rfl
      cases q0; cases q1; cases q2
      refine (korean_calls p_x w).mono ?_
      rintro e w' ⟨rfl, hB⟩
      exact ⟨_, cx, rfl, Ext.grown hB.os hB.tape hB.output hB.size hB.block, S.grown hB.size hB.block, .bool _⟩
end Go.Proofs.YtkeokkmhhhhoiaaGreatDoor
