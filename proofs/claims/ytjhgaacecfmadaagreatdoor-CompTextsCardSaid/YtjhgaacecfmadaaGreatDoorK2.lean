/- Contracts of functions, walked by their models; printed by a program of ours. No condition. -/
import Derived.Test.YtjhgaacecfmadaaGreatDoorK1
import Derived.Test.YtjhgaacecfmadaaGreatDoorProg
import Derived.KernelRfl
namespace Go.Proofs.YtjhgaacecfmadaaGreatDoor
open Go Go.SE
set_option linter.unusedVariables false
set_option linter.unusedSimpArgs false
set_option maxRecDepth 10000
set_option maxHeartbeats 2000000
attribute [local irreducible] Contract iter
theorem c_eponymref01_Form (p_r : Int) (r : ByteArray) (h : m_eponymref01_Form p_r = some r) : Contract pl 34 [(AV.int .i32 p_r)] [] (AV.str r) [] := by
 refine contract_of .z Tryz.func34 rfl (by kernel_rfl) ?_
 ((conv=>whnf);repeat((first|apply TT mix|apply sE rfl|apply dG (by kernel_rfl)|fail);(conv=>whnf)))
 refine br_b rfl h (fun c1 h => ?_) (fun c1 h => ?_)
 ·((conv=>whnf);repeat((first|apply TT mix|apply sE rfl|apply dG (by kernel_rfl)|fail);(conv=>whnf)))
  refine ⟨[(IntKind.wrap .u8 p_r)], by first | rfl | simp, fun j hj => by first | rfl | exact lits_u8 _ j hj, ?_⟩
  have e := Option.some.inj h; subst e
  ((conv=>whnf);repeat((first|apply TT mix|apply sE rfl|apply dG (by kernel_rfl)|fail);(conv=>whnf)))
  exact And.intro (AV.Le.refl _) rfl
 ·((conv=>whnf);repeat((first|apply TT mix|apply sE rfl|apply dG (by kernel_rfl)|fail);(conv=>whnf)))
  refine br_b rfl h (fun c2 h => ?_) (fun c2 h => ?_)
  ·((conv=>whnf);repeat((first|apply TT mix|apply sE rfl|apply dG (by kernel_rfl)|fail);(conv=>whnf)))
   refine And.intro (by decide) ?_
   ((conv=>whnf);repeat((first|apply TT mix|apply sE rfl|apply dG (by kernel_rfl)|fail);(conv=>whnf)))
   refine And.intro (by decide) ?_
   ((conv=>whnf);repeat((first|apply TT mix|apply sE rfl|apply dG (by kernel_rfl)|fail);(conv=>whnf)))
   refine ⟨[(IntKind.wrap .u8 (IntKind.wrap .i32 ((192 : Int) + (IntKind.wrap .i32 (Int.tdiv p_r (64 : Int)))))), (IntKind.wrap .u8 (IntKind.wrap .i32 ((128 : Int) + (Int.tmod p_r (64 : Int)))))], by first | rfl | simp, fun j hj => by first | rfl | exact lits_u8 _ j hj, ?_⟩
   have e := Option.some.inj h; subst e
   ((conv=>whnf);repeat((first|apply TT mix|apply sE rfl|apply dG (by kernel_rfl)|fail);(conv=>whnf)))
   exact And.intro (AV.Le.refl _) rfl
  ·((conv=>whnf);repeat((first|apply TT mix|apply sE rfl|apply dG (by kernel_rfl)|fail);(conv=>whnf)))
   refine br_b rfl h (fun c3 h => ?_) (fun c3 h => ?_)
   ·((conv=>whnf);repeat((first|apply TT mix|apply sE rfl|apply dG (by kernel_rfl)|fail);(conv=>whnf)))
    refine And.intro (by decide) ?_
    ((conv=>whnf);repeat((first|apply TT mix|apply sE rfl|apply dG (by kernel_rfl)|fail);(conv=>whnf)))
    refine And.intro (by decide) ?_
    ((conv=>whnf);repeat((first|apply TT mix|apply sE rfl|apply dG (by kernel_rfl)|fail);(conv=>whnf)))
    refine And.intro (by decide) ?_
    ((conv=>whnf);repeat((first|apply TT mix|apply sE rfl|apply dG (by kernel_rfl)|fail);(conv=>whnf)))
    refine And.intro (by decide) ?_
    ((conv=>whnf);repeat((first|apply TT mix|apply sE rfl|apply dG (by kernel_rfl)|fail);(conv=>whnf)))
    refine ⟨[(IntKind.wrap .u8 (IntKind.wrap .i32 ((224 : Int) + (IntKind.wrap .i32 (Int.tdiv p_r (4096 : Int)))))), (IntKind.wrap .u8 (IntKind.wrap .i32 ((128 : Int) + (Int.tmod (IntKind.wrap .i32 (Int.tdiv p_r (64 : Int))) (64 : Int))))), (IntKind.wrap .u8 (IntKind.wrap .i32 ((128 : Int) + (Int.tmod p_r (64 : Int)))))], by first | rfl | simp, fun j hj => by first | rfl | exact lits_u8 _ j hj, ?_⟩
    have e := Option.some.inj h; subst e
    ((conv=>whnf);repeat((first|apply TT mix|apply sE rfl|apply dG (by kernel_rfl)|fail);(conv=>whnf)))
    exact And.intro (AV.Le.refl _) rfl
   ·((conv=>whnf);repeat((first|apply TT mix|apply sE rfl|apply dG (by kernel_rfl)|fail);(conv=>whnf)))
    refine And.intro (by decide) ?_
    ((conv=>whnf);repeat((first|apply TT mix|apply sE rfl|apply dG (by kernel_rfl)|fail);(conv=>whnf)))
    refine And.intro (by decide) ?_
    ((conv=>whnf);repeat((first|apply TT mix|apply sE rfl|apply dG (by kernel_rfl)|fail);(conv=>whnf)))
    refine And.intro (by decide) ?_
    ((conv=>whnf);repeat((first|apply TT mix|apply sE rfl|apply dG (by kernel_rfl)|fail);(conv=>whnf)))
    refine And.intro (by decide) ?_
    ((conv=>whnf);repeat((first|apply TT mix|apply sE rfl|apply dG (by kernel_rfl)|fail);(conv=>whnf)))
    refine And.intro (by decide) ?_
    ((conv=>whnf);repeat((first|apply TT mix|apply sE rfl|apply dG (by kernel_rfl)|fail);(conv=>whnf)))
    refine And.intro (by decide) ?_
    ((conv=>whnf);repeat((first|apply TT mix|apply sE rfl|apply dG (by kernel_rfl)|fail);(conv=>whnf)))
    refine ⟨[(IntKind.wrap .u8 (IntKind.wrap .i32 ((240 : Int) + (IntKind.wrap .i32 (Int.tdiv p_r (262144 : Int)))))), (IntKind.wrap .u8 (IntKind.wrap .i32 ((128 : Int) + (Int.tmod (IntKind.wrap .i32 (Int.tdiv p_r (4096 : Int))) (64 : Int))))), (IntKind.wrap .u8 (IntKind.wrap .i32 ((128 : Int) + (Int.tmod (IntKind.wrap .i32 (Int.tdiv p_r (64 : Int))) (64 : Int))))), (IntKind.wrap .u8 (IntKind.wrap .i32 ((128 : Int) + (Int.tmod p_r (64 : Int)))))], by first | rfl | simp, fun j hj => by first | rfl | exact lits_u8 _ j hj, ?_⟩
    have e := Option.some.inj h; subst e
    ((conv=>whnf);repeat((first|apply TT mix|apply sE rfl|apply dG (by kernel_rfl)|fail);(conv=>whnf)))
    exact And.intro (AV.Le.refl _) rfl
theorem c_eponymref01_some (p_a : Int) (p_b : Int) (p_n : Int) (r : Bool) (h : m_eponymref01_some p_a p_b p_n = some r) : Contract pl 55 [(AV.int .i32 p_a), (AV.int .i32 p_b), (AV.int .i64 p_n)] [] (AV.bool r) [] := by
 refine contract_of (.t false .z (.t false .z (.t false .z (.t true .z (.t true .z (.t true .z (.t true .z (.t false (.t true .z .z) .z)))))))) Tryz.func55 rfl (by kernel_rfl) ?_
 ((conv=>whnf);repeat((first|apply TT mix|apply sE rfl|apply dG (by kernel_rfl)|fail);(conv=>whnf)))
 refine bnd h (fun x11 h11 h => ?_)
 refine cut_at (fun s1 : Int × Int => mkF 30 [(0, (.int .i32 p_a)), (1, (.int .i32 p_b)), (2, (.int .i64 p_n)), (7, (.int .i32 s1.1)), (8, (.int .i32 s1.2))] []) (fun s1 : Int × Int => m_eponymref01_some_K2 p_a p_b p_n s1 = some r) ?_ ?_
 ·intro Kn11 hn11
  ((conv=>whnf);repeat((first|apply TT mix|apply sE rfl|apply dG (by kernel_rfl)|fail);(conv=>whnf)))
  refine br_b rfl h11 (fun c12 h11 => ?_) (fun c12 h11 => ?_)
  ·have e := Option.some.inj h11; subst e
   ((conv=>whnf);repeat((first|apply TT mix|apply sE rfl|apply dG (by kernel_rfl)|fail);(conv=>whnf)))
   exact hn11 _ ((2048 : Int), (65535 : Int)) h (weak_gen [] rfl rfl storeLe.nil (sQ rfl rfl))
  ·have e := Option.some.inj h11; subst e
   ((conv=>whnf);repeat((first|apply TT mix|apply sE rfl|apply dG (by kernel_rfl)|fail);(conv=>whnf)))
   exact hn11 _ ((128 : Int), (2047 : Int)) h (weak_gen [] rfl rfl storeLe.nil (sQ rfl rfl))
 ·clear h h11
  intro s1 hc13
  ((conv=>whnf);repeat((first|apply TT mix|apply sE rfl|apply dG (by kernel_rfl)|fail);(conv=>whnf)))
  refine bnd hc13 (fun x14 h14 hc13 => ?_)
  refine cut_at (fun s3 : Int × Int => mkF 30 [(0, (.int .i32 p_a)), (1, (.int .i32 p_b)), (7, (.int .i32 s3.1)), (8, (.int .i32 s3.2))] []) (fun s3 : Int × Int => m_eponymref01_some_K4 p_a p_b s3 = some r) ?_ ?_
  ·intro Kn14 hn14
   ((conv=>whnf);repeat((first|apply TT mix|apply sE rfl|apply dG (by kernel_rfl)|fail);(conv=>whnf)))
   refine br_b rfl h14 (fun c15 h14 => ?_) (fun c15 h14 => ?_)
   ·have e := Option.some.inj h14; subst e
    ((conv=>whnf);repeat((first|apply TT mix|apply sE rfl|apply dG (by kernel_rfl)|fail);(conv=>whnf)))
    exact hn14 _ ((65536 : Int), (1114111 : Int)) hc13 (weak_gen [] rfl rfl storeLe.nil (sQ rfl rfl))
   ·have e := Option.some.inj h14; subst e
    ((conv=>whnf);repeat((first|apply TT mix|apply sE rfl|apply dG (by kernel_rfl)|fail);(conv=>whnf)))
    exact hn14 _ (s1.1, s1.2) hc13 (weak_gen [] rfl rfl storeLe.nil (sQ rfl rfl))
  ·clear hc13 h14
   intro s3 hc16
   ((conv=>whnf);repeat((first|apply TT mix|apply sE rfl|apply dG (by kernel_rfl)|fail);(conv=>whnf)))
   refine bnd hc16 (fun x17 h17 hc16 => ?_)
   refine cut_at (fun s5 : Int => mkF 30 [(0, (.int .i32 s5)), (1, (.int .i32 p_b)), (8, (.int .i32 s3.2))] []) (fun s5 : Int => m_eponymref01_some_K6 p_b s3 s5 = some r) ?_ ?_
   ·intro Kn17 hn17
    ((conv=>whnf);repeat((first|apply TT mix|apply sE rfl|apply dG (by kernel_rfl)|fail);(conv=>whnf)))
    refine br_b rfl h17 (fun c18 h17 => ?_) (fun c18 h17 => ?_)
    ·have e := Option.some.inj h17; subst e
     ((conv=>whnf);repeat((first|apply TT mix|apply sE rfl|apply dG (by kernel_rfl)|fail);(conv=>whnf)))
     exact hn17 _ s3.1 hc16 (weak_gen [] rfl rfl storeLe.nil (sQ rfl rfl))
    ·have e := Option.some.inj h17; subst e
     ((conv=>whnf);repeat((first|apply TT mix|apply sE rfl|apply dG (by kernel_rfl)|fail);(conv=>whnf)))
     exact hn17 _ p_a hc16 (weak_gen [] rfl rfl storeLe.nil (sQ rfl rfl))
   ·clear hc16 h17
    intro s5 hc19
    ((conv=>whnf);repeat((first|apply TT mix|apply sE rfl|apply dG (by kernel_rfl)|fail);(conv=>whnf)))
    refine bnd hc19 (fun x20 h20 hc19 => ?_)
    refine cut_at (fun s7 : Int => mkF 30 [(0, (.int .i32 s5)), (1, (.int .i32 s7))] []) (fun s7 : Int => m_eponymref01_some_K8 s5 s7 = some r) ?_ ?_
    ·intro Kn20 hn20
     ((conv=>whnf);repeat((first|apply TT mix|apply sE rfl|apply dG (by kernel_rfl)|fail);(conv=>whnf)))
     refine br_b rfl h20 (fun c21 h20 => ?_) (fun c21 h20 => ?_)
     ·have e := Option.some.inj h20; subst e
      ((conv=>whnf);repeat((first|apply TT mix|apply sE rfl|apply dG (by kernel_rfl)|fail);(conv=>whnf)))
      exact hn20 _ s3.2 hc19 (weak_gen [] rfl rfl storeLe.nil (sQ rfl rfl))
     ·have e := Option.some.inj h20; subst e
      ((conv=>whnf);repeat((first|apply TT mix|apply sE rfl|apply dG (by kernel_rfl)|fail);(conv=>whnf)))
      exact hn20 _ p_b hc19 (weak_gen [] rfl rfl storeLe.nil (sQ rfl rfl))
    ·clear hc19 h20
     intro s7 hc22
     ((conv=>whnf);repeat((first|apply TT mix|apply sE rfl|apply dG (by kernel_rfl)|fail);(conv=>whnf)))
     refine bnd hc22 (fun x23 h23 hc22 => ?_)
     refine cut_at (fun s9 : Bool => mkF 30 [(0, (.int .i32 s5)), (1, (.int .i32 s7)), (26, (.bool s9))] []) (fun s9 : Bool => m_eponymref01_some_K10 s5 s7 s9 = some r) ?_ ?_
     ·intro Kn23 hn23
      ((conv=>whnf);repeat((first|apply TT mix|apply sE rfl|apply dG (by kernel_rfl)|fail);(conv=>whnf)))
      refine br_b rfl h23 (fun c24 h23 => ?_) (fun c24 h23 => ?_)
      ·have e := Option.some.inj h23; subst e
       ((conv=>whnf);repeat((first|apply TT mix|apply sE rfl|apply dG (by kernel_rfl)|fail);(conv=>whnf)))
       exact hn23 _ (decide (s5 ≤ (57343 : Int))) hc22 (weak_gen [] rfl rfl storeLe.nil (sQ rfl rfl))
      ·have e := Option.some.inj h23; subst e
       ((conv=>whnf);repeat((first|apply TT mix|apply sE rfl|apply dG (by kernel_rfl)|fail);(conv=>whnf)))
       exact hn23 _ false hc22 (weak_gen [] rfl rfl storeLe.nil (sQ rfl rfl))
     ·clear hc22 h23
      intro s9 hc25
      ((conv=>whnf);repeat((first|apply TT mix|apply sE rfl|apply dG (by kernel_rfl)|fail);(conv=>whnf)))
      refine br_b rfl hc25 (fun c26 hc25 => ?_) (fun c26 hc25 => ?_)
      ·have e := Option.some.inj hc25; subst e
       ((conv=>whnf);repeat((first|apply TT mix|apply sE rfl|apply dG (by kernel_rfl)|fail);(conv=>whnf)))
       exact And.intro (AV.Le.refl _) rfl
      ·have e := Option.some.inj hc25; subst e
       ((conv=>whnf);repeat((first|apply TT mix|apply sE rfl|apply dG (by kernel_rfl)|fail);(conv=>whnf)))
       exact And.intro (AV.Le.refl _) rfl
theorem c_eponymref01_Next (p_s : ByteArray) (p_at : Int) (r : Int × Int × Int) (h : m_eponymref01_Next p_s p_at = some r) : Contract pl 33 [(AV.str p_s), (AV.int .i64 p_at)] [] (AV.tup [(AV.int .i32 r.1), (AV.int .i64 r.2.1), (AV.int .i64 r.2.2)]) [] := by
 refine contract_of (.t false .z (.t true (.t false .z (.t false (.t false (.t false (.t true .z .z) (.t false (.t false (.t false .z (.t true .z .z)) .z) .z)) .z) .z)) (.t false .z (.t true (.t false .z (.t false (.t false (.t false .z (.t true (.t false (.t false .z (.t false .z (.t true .z (.t false .z (.t false .z (.t true .z .z)))))) .z) .z)) .z) .z)) .z)))) Tryz.func33 rfl (by kernel_rfl) ?_
 ((conv=>whnf);repeat((first|apply TT mix|apply sE rfl|apply dG (by kernel_rfl)|fail);(conv=>whnf)))
 refine bnd h (fun x41 h41 h => ?_)
 refine cut_at (fun s1 : Unit => mkF 89 [(0, (.str p_s)), (1, (.int .i64 p_at))] []) (fun s1 : Unit => m_eponymref01_Next_K2 p_s p_at s1 = some r) ?_ ?_
 ·intro Kn41 hn41
  ((conv=>whnf);repeat((first|apply TT mix|apply sE rfl|apply dG (by kernel_rfl)|fail);(conv=>whnf)))
  refine loop_iter (fun s28 : Int => mkF 89 [(0, (.str p_s)), (1, (.int .i64 p_at)), (7, (.int .i64 s28))] []) h41 (weak_gen [] rfl rfl storeLe.nil (sQ rfl rfl)) ?_
  intro k30 s28 st30 Kn30 hn30 h30_ hs30
  ((conv=>whnf);repeat((first|apply TT mix|apply sE rfl|apply dG (by kernel_rfl)|fail);(conv=>whnf)))
  refine bnd h30_ (fun x42 h42 h30_ => ?_)
  refine cut_at (fun s31 : Bool => mkF 89 [(0, (.str p_s)), (1, (.int .i64 p_at)), (7, (.int .i64 s28)), (24, (.bool s31))] []) (fun s31 : Bool => m_eponymref01_Next_K32 p_s p_at s28 s31 = some st30) ?_ ?_
  ·intro Kn42 hn42
   ((conv=>whnf);repeat((first|apply TT mix|apply sE rfl|apply dG (by kernel_rfl)|fail);(conv=>whnf)))
   refine br_b rfl h42 (fun c43 h42 => ?_) (fun c43 h42 => ?_)
   ·have e := Option.some.inj h42; subst e
    ((conv=>whnf);repeat((first|apply TT mix|apply sE rfl|apply dG (by kernel_rfl)|fail);(conv=>whnf)))
    exact hn42 _ (decide ((IntKind.wrap .i64 (p_at + s28)) ≤ ((p_s.size : Nat) : Int))) h30_ (weak_gen [] rfl rfl storeLe.nil (sQ rfl rfl))
   ·have e := Option.some.inj h42; subst e
    ((conv=>whnf);repeat((first|apply TT mix|apply sE rfl|apply dG (by kernel_rfl)|fail);(conv=>whnf)))
    exact hn42 _ false h30_ (weak_gen [] rfl rfl storeLe.nil (sQ rfl rfl))
  ·clear h30_ h42
   intro s31 hc44
   ((conv=>whnf);repeat((first|apply TT mix|apply sE rfl|apply dG (by kernel_rfl)|fail);(conv=>whnf)))
   refine br_b rfl hc44 (fun c45 hc44 => ?_) (fun c45 hc44 => ?_)
   ·((conv=>whnf);repeat((first|apply TT mix|apply sE rfl|apply dG (by kernel_rfl)|fail);(conv=>whnf)))
    have ghc44 := gOf hc44
    refine grd3 rfl rfl rfl hc44 (fun hc44 => ?_)
    ((conv=>whnf);repeat((first|apply TT mix|apply sE rfl|apply dG (by kernel_rfl)|fail);(conv=>whnf)))
    refine bnd hc44 (fun y33 hy33 hc44 => ?_)
    refine Or.inl ⟨_, c_eponymref01_value _ _ hy33, rfl, ?_⟩
    ((conv=>whnf);repeat((first|apply TT mix|apply sE rfl|apply dG (by kernel_rfl)|fail);(conv=>whnf)))
    refine bnd hc44 (fun x46 h46 hc44 => ?_)
    refine cut_at (fun s34 : Bool => mkF 89 [(0, (.str p_s)), (1, (.int .i64 p_at)), (7, (.int .i64 s28)), (8, (.int .i32 y33)), (50, (.bool s34))] []) (fun s34 : Bool => m_eponymref01_Next_K35 s28 y33 s34 = some st30) ?_ ?_
    ·intro Kn46 hn46
     ((conv=>whnf);repeat((first|apply TT mix|apply sE rfl|apply dG (by kernel_rfl)|fail);(conv=>whnf)))
     refine br_b rfl h46 (fun c47 h46 => ?_) (fun c47 h46 => ?_)
     ·((conv=>whnf);repeat((first|apply TT mix|apply sE rfl|apply dG (by kernel_rfl)|fail);(conv=>whnf)))
      refine bnd h46 (fun y36 hy36 h46 => ?_)
      refine Or.inl ⟨_, c_eponymref01_Right _ _ hy36, rfl, ?_⟩
      ((conv=>whnf);repeat((first|apply TT mix|apply sE rfl|apply dG (by kernel_rfl)|fail);(conv=>whnf)))
      refine br_b rfl h46 (fun c48 h46 => ?_) (fun c48 h46 => ?_)
      ·((conv=>whnf);repeat((first|apply TT mix|apply sE rfl|apply dG (by kernel_rfl)|fail);(conv=>whnf)))
       refine bnd h46 (fun y37 hy37 h46 => ?_)
       refine Or.inl ⟨_, c_eponymref01_Form _ _ hy37, rfl, ?_⟩
       ((conv=>whnf);repeat((first|apply TT mix|apply sE rfl|apply dG (by kernel_rfl)|fail);(conv=>whnf)))
       have gh46 := gOf h46
       refine grd3 rfl rfl rfl h46 (fun h46 => ?_)
       have e := Option.some.inj h46; subst e
       ((conv=>whnf);repeat((first|apply TT mix|apply sE rfl|apply dG (by kernel_rfl)|fail);(conv=>whnf)))
       exact hn46 _ (y37.toList == (p_s.extract (p_at.toNat) ((IntKind.wrap .i64 (p_at + s28)).toNat)).toList) hc44 (weak_gen [] rfl rfl storeLe.nil (sQ rfl rfl))
      ·have e := Option.some.inj h46; subst e
       ((conv=>whnf);repeat((first|apply TT mix|apply sE rfl|apply dG (by kernel_rfl)|fail);(conv=>whnf)))
       exact hn46 _ false hc44 (weak_gen [] rfl rfl storeLe.nil (sQ rfl rfl))
     ·have e := Option.some.inj h46; subst e
      ((conv=>whnf);repeat((first|apply TT mix|apply sE rfl|apply dG (by kernel_rfl)|fail);(conv=>whnf)))
      exact hn46 _ false hc44 (weak_gen [] rfl rfl storeLe.nil (sQ rfl rfl))
    ·clear hc44 h46
     intro s34 hc49
     ((conv=>whnf);repeat((first|apply TT mix|apply sE rfl|apply dG (by kernel_rfl)|fail);(conv=>whnf)))
     refine br_b rfl hc49 (fun c50 hc49 => ?_) (fun c50 hc49 => ?_)
     ·have e := Option.some.inj hc49; subst e
      have e := done_out hs30; subst e
      have e := Option.some.inj h; subst e
      ((conv=>whnf);repeat((first|apply TT mix|apply sE rfl|apply dG (by kernel_rfl)|fail);(conv=>whnf)))
      exact And.intro (AV.Le.refl _) rfl
     ·have e := Option.some.inj hc49; subst e
      ((conv=>whnf);repeat((first|apply TT mix|apply sE rfl|apply dG (by kernel_rfl)|fail);(conv=>whnf)))
      exact hn30 _ (IntKind.wrap .i64 (s28 + (1 : Int))) hs30 (weak_gen [] rfl rfl storeLe.nil (sQ rfl rfl))
   ·have e := Option.some.inj hc44; subst e
    have e := done_out hs30; subst e
    ((conv=>whnf);repeat((first|apply TT mix|apply sE rfl|apply dG (by kernel_rfl)|fail);(conv=>whnf)))
    exact hn41 _ () h (weak_gen [] rfl rfl storeLe.nil (sQ rfl rfl))
 ·clear h h41
  intro s1 hc51
  ((conv=>whnf);repeat((first|apply TT mix|apply sE rfl|apply dG (by kernel_rfl)|fail);(conv=>whnf)))
  have ghc51 := gOf hc51
  refine grd3 rfl rfl rfl hc51 (fun hc51 => ?_)
  ((conv=>whnf);repeat((first|apply TT mix|apply sE rfl|apply dG (by kernel_rfl)|fail);(conv=>whnf)))
  refine bnd hc51 (fun x52 h52 hc51 => ?_)
  refine cut_at (fun s3 : Unit => mkF 89 [] []) (fun s3 : Unit => some ((0 : Int), (0 : Int), (1 : Int)) = some r) ?_ ?_
  ·intro Kn52 hn52
   ((conv=>whnf);repeat((first|apply TT mix|apply sE rfl|apply dG (by kernel_rfl)|fail);(conv=>whnf)))
   refine loop_iter (fun s6 : Int => mkF 89 [(9, (.str (p_s.extract (p_at.toNat) p_s.size))), (10, (.int .i64 s6))] []) h52 (weak_gen [] rfl rfl storeLe.nil (sQ rfl rfl)) ?_
   intro k8 s6 st8 Kn8 hn8 h8_ hs8
   ((conv=>whnf);repeat((first|apply TT mix|apply sE rfl|apply dG (by kernel_rfl)|fail);(conv=>whnf)))
   refine br_b rfl h8_ (fun c53 h8_ => ?_) (fun c53 h8_ => ?_)
   ·((conv=>whnf);repeat((first|apply TT mix|apply sE rfl|apply dG (by kernel_rfl)|fail);(conv=>whnf)))
    refine bnd h8_ (fun x54 h54 h8_ => ?_)
    refine cut_at (fun s9 : Unit => mkF 89 [(9, (.str (p_s.extract (p_at.toNat) p_s.size))), (10, (.int .i64 s6))] []) (fun s9 : Unit => some (.next (IntKind.wrap .i64 (s6 + (1 : Int)))) = some st8) ?_ ?_
    ·intro Kn54 hn54
     ((conv=>whnf);repeat((first|apply TT mix|apply sE rfl|apply dG (by kernel_rfl)|fail);(conv=>whnf)))
     refine bnd h54 (fun x55 h55 h54 => ?_)
     refine cut_at (fun s11 : ByteArray × ByteArray => mkF 89 [(9, (.str (p_s.extract (p_at.toNat) p_s.size))), (10, (.int .i64 s6)), (11, (.str s11.1)), (12, (.str s11.2))] []) (fun s11 : ByteArray × ByteArray => m_eponymref01_Next_K12 s6 s11 = some x54) ?_ ?_
     ·intro Kn55 hn55
      ((conv=>whnf);repeat((first|apply TT mix|apply sE rfl|apply dG (by kernel_rfl)|fail);(conv=>whnf)))
      refine loop_iter (fun s19 : ByteArray × ByteArray => mkF 89 [(9, (.str (p_s.extract (p_at.toNat) p_s.size))), (10, (.int .i64 s6)), (11, (.str s19.1)), (12, (.str s19.2))] []) h55 (weak_gen [] rfl rfl storeLe.nil (sQ rfl rfl)) ?_
      intro k21 s19 st21 Kn21 hn21 h21_ hs21
      ((conv=>whnf);repeat((first|apply TT mix|apply sE rfl|apply dG (by kernel_rfl)|fail);(conv=>whnf)))
      refine br_b rfl h21_ (fun c56 h21_ => ?_) (fun c56 h21_ => ?_)
      ·((conv=>whnf);repeat((first|apply TT mix|apply sE rfl|apply dG (by kernel_rfl)|fail);(conv=>whnf)))
       refine grd1 rfl h21_ (fun h21_ => ?_)
       ((conv=>whnf);repeat((first|apply TT mix|apply sE rfl|apply dG (by kernel_rfl)|fail);(conv=>whnf)))
       refine grd1 rfl h21_ (fun h21_ => ?_)
       have e := Option.some.inj h21_; subst e
       ((conv=>whnf);repeat((first|apply TT mix|apply sE rfl|apply dG (by kernel_rfl)|fail);(conv=>whnf)))
       exact hn21 _ ((s19.1 ++ (ByteArray.mk #[128])), (s19.2 ++ (ByteArray.mk #[191]))) hs21 (weak_gen [] rfl rfl storeLe.nil (sQ rfl rfl))
      ·have e := Option.some.inj h21_; subst e
       have e := done_out hs21; subst e
       ((conv=>whnf);repeat((first|apply TT mix|apply sE rfl|apply dG (by kernel_rfl)|fail);(conv=>whnf)))
       exact hn55 _ (s19.1, s19.2) h54 (weak_gen [] rfl rfl storeLe.nil (sQ rfl rfl))
     ·clear h54 h55
      intro s11 hc57
      ((conv=>whnf);repeat((first|apply TT mix|apply sE rfl|apply dG (by kernel_rfl)|fail);(conv=>whnf)))
      refine bnd hc57 (fun y13 hy13 hc57 => ?_)
      refine Or.inl ⟨_, c_eponymref01_value _ _ hy13, rfl, ?_⟩
      ((conv=>whnf);repeat((first|apply TT mix|apply sE rfl|apply dG (by kernel_rfl)|fail);(conv=>whnf)))
      refine bnd hc57 (fun y14 hy14 hc57 => ?_)
      refine Or.inl ⟨_, c_eponymref01_value _ _ hy14, rfl, ?_⟩
      ((conv=>whnf);repeat((first|apply TT mix|apply sE rfl|apply dG (by kernel_rfl)|fail);(conv=>whnf)))
      refine bnd hc57 (fun x58 h58 hc57 => ?_)
      refine cut_at (fun s15 : Bool => mkF 89 [(9, (.str (p_s.extract (p_at.toNat) p_s.size))), (10, (.int .i64 s6)), (88, (.bool s15))] []) (fun s15 : Bool => m_eponymref01_Next_K16 s15 = some x54) ?_ ?_
      ·intro Kn58 hn58
       ((conv=>whnf);repeat((first|apply TT mix|apply sE rfl|apply dG (by kernel_rfl)|fail);(conv=>whnf)))
       refine br_b rfl h58 (fun c59 h58 => ?_) (fun c59 h58 => ?_)
       ·((conv=>whnf);repeat((first|apply TT mix|apply sE rfl|apply dG (by kernel_rfl)|fail);(conv=>whnf)))
        refine br_b rfl h58 (fun c60 h58 => ?_) (fun c60 h58 => ?_)
        ·((conv=>whnf);repeat((first|apply TT mix|apply sE rfl|apply dG (by kernel_rfl)|fail);(conv=>whnf)))
         refine bnd h58 (fun y17 hy17 h58 => ?_)
         refine Or.inl ⟨_, c_eponymref01_some _ _ _ _ hy17, rfl, ?_⟩
         have e := Option.some.inj h58; subst e
         ((conv=>whnf);repeat((first|apply TT mix|apply sE rfl|apply dG (by kernel_rfl)|fail);(conv=>whnf)))
         exact hn58 _ y17 hc57 (weak_gen [] rfl rfl storeLe.nil (sQ rfl rfl))
        ·have e := Option.some.inj h58; subst e
         ((conv=>whnf);repeat((first|apply TT mix|apply sE rfl|apply dG (by kernel_rfl)|fail);(conv=>whnf)))
         exact hn58 _ false hc57 (weak_gen [] rfl rfl storeLe.nil (sQ rfl rfl))
       ·have e := Option.some.inj h58; subst e
        ((conv=>whnf);repeat((first|apply TT mix|apply sE rfl|apply dG (by kernel_rfl)|fail);(conv=>whnf)))
        exact hn58 _ false hc57 (weak_gen [] rfl rfl storeLe.nil (sQ rfl rfl))
      ·clear hc57 h58
       intro s15 hc61
       ((conv=>whnf);repeat((first|apply TT mix|apply sE rfl|apply dG (by kernel_rfl)|fail);(conv=>whnf)))
       refine br_b rfl hc61 (fun c62 hc61 => ?_) (fun c62 hc61 => ?_)
       ·have e := Option.some.inj hc61; subst e
        have e := Option.some.inj h8_; subst e
        have e := done_out hs8; subst e
        have e := Option.some.inj hc51; subst e
        ((conv=>whnf);repeat((first|apply TT mix|apply sE rfl|apply dG (by kernel_rfl)|fail);(conv=>whnf)))
        exact And.intro (AV.Le.refl _) rfl
       ·have e := Option.some.inj hc61; subst e
        ((conv=>whnf);repeat((first|apply TT mix|apply sE rfl|apply dG (by kernel_rfl)|fail);(conv=>whnf)))
        exact hn54 _ () h8_ (weak_gen [] rfl rfl storeLe.nil (sQ rfl rfl))
    ·clear h8_ h54
     intro s9 hc63
     have e := Option.some.inj hc63; subst e
     ((conv=>whnf);repeat((first|apply TT mix|apply sE rfl|apply dG (by kernel_rfl)|fail);(conv=>whnf)))
     exact hn8 _ (IntKind.wrap .i64 (s6 + (1 : Int))) hs8 (weak_gen [] rfl rfl storeLe.nil (sQ rfl rfl))
   ·have e := Option.some.inj h8_; subst e
    have e := done_out hs8; subst e
    ((conv=>whnf);repeat((first|apply TT mix|apply sE rfl|apply dG (by kernel_rfl)|fail);(conv=>whnf)))
    exact hn52 _ () hc51 (weak_gen [] rfl rfl storeLe.nil slotsLe.nil)
  ·clear hc51 h52
   intro s3 hc64
   have e := Option.some.inj hc64; subst e
   ((conv=>whnf);repeat((first|apply TT mix|apply sE rfl|apply dG (by kernel_rfl)|fail);(conv=>whnf)))
   exact And.intro (AV.Le.refl _) rfl
theorem c_eponymref01_Decode (p_s : ByteArray) (r : (List Int) × Int × Int) (h : m_eponymref01_Decode p_s = some r) : Contract pl 15 [(AV.str p_s)] [] (AV.tup [(e_L_i32 r.1), (AV.int .i64 r.2.1), (AV.int .i64 r.2.2)]) [] := by
 refine contract_of (.t false .z (.t false .z (.t false .z (.t true .z .z)))) Tryz.func15 rfl (by kernel_rfl) ?_
 ((conv=>whnf);repeat((first|apply TT mix|apply sE rfl|apply dG (by kernel_rfl)|fail);(conv=>whnf)))
 refine bnd h (fun x11 h11 h => ?_)
 refine cut_at (fun s1 : (List Int) => mkF 33 [(5, (.ms 0 s1.length))] [some ⟨1, 21, (.ints .i32 s1), false, true⟩]) (fun s1 : (List Int) => some (s1, (0 : Int), (0 : Int)) = some r) ?_ ?_
 ·intro Kn11 hn11
  ((conv=>whnf);repeat((first|apply TT mix|apply sE rfl|apply dG (by kernel_rfl)|fail);(conv=>whnf)))
  refine loop_iter (fun s4 : (List Int) × Int => mkF 33 [(0, (.str p_s)), (5, (.ms 0 s4.1.length)), (6, (.int .i64 s4.2))] [some ⟨1, 21, (.ints .i32 s4.1), false, true⟩]) h11 (weak_trans (weak_nil 5 1 21 (.ints .i32 []) _ rfl rfl trivial (Nat.zero_le _)) (weak_gen [0] rfl rfl (sK rfl (rowLe_ints (by first | rfl | simp)) storeLe.nil) (sQ rfl rfl))) ?_
  intro k6 s4 st6 Kn6 hn6 h6_ hs6
  ((conv=>whnf);repeat((first|apply TT mix|apply sE rfl|apply dG (by kernel_rfl)|fail);(conv=>whnf)))
  refine br_b rfl h6_ (fun c12 h6_ => ?_) (fun c12 h6_ => ?_)
  ·((conv=>whnf);repeat((first|apply TT mix|apply sE rfl|apply dG (by kernel_rfl)|fail);(conv=>whnf)))
   refine bnd h6_ (fun y7 hy7 h6_ => ?_)
   refine Or.inl ⟨_, c_eponymref01_Next _ _ _ hy7, rfl, ?_⟩
   ((conv=>whnf);repeat((first|apply TT mix|apply sE rfl|apply dG (by kernel_rfl)|fail);(conv=>whnf)))
   refine br_b rfl h6_ (fun c13 h6_ => ?_) (fun c13 h6_ => ?_)
   ·have e := Option.some.inj h6_; subst e
    have e := done_out hs6; subst e
    have e := Option.some.inj h; subst e
    ((conv=>whnf);repeat((first|apply TT mix|apply sE rfl|apply dG (by kernel_rfl)|fail);(conv=>whnf)))
    exact And.intro (AV.Le.tup (argsLe.cons (AV.Le.list rfl (fun j hj => absurd hj (Nat.not_lt_zero _))) (argsLe.cons (AV.Le.refl _) (argsLe.cons (AV.Le.refl _) argsLe.nil)))) rfl
   ·((conv=>whnf);repeat((first|apply TT mix|apply sE rfl|apply dG (by kernel_rfl)|fail);(conv=>whnf)))
    obtain ⟨p14, h6_⟩ := grdO h6_
    refine ⟨[], 1, (.ints .i32 [y7.1]), ⟨by simp [Row.len] <;> omega, rfl, _, rfl, by simp [Row.len] <;> omega, fun j hj => .inl rfl⟩, trivial, fun j hj => rfl, ?_⟩
    conv => whnf
    refine ⟨by simp [Row.len]; try omega, p14, by omega, ?_⟩
    have e := Option.some.inj h6_; subst e
    ((conv=>whnf);repeat((first|apply TT mix|apply sE rfl|apply dG (by kernel_rfl)|fail);(conv=>whnf)))
    exact hn6 _ ((s4.1 ++ [y7.1]), (IntKind.wrap .i64 (s4.2 + y7.2.1))) hs6 (weak_gen [2] rfl rfl (sK rfl (rowLe_ints (by first | rfl | simp)) storeLe.nil) (slotsLe.cons (cR rfl rfl) (slotsLe.cons (And.intro rfl (AV.Le.of_eq (congrArg (AV.ms _) (by first | rfl | omega | (simp; omega) | simp)))) (slotsLe.cons (cR rfl rfl) slotsLe.nil))))
  ·have e := Option.some.inj h6_; subst e
   have e := done_out hs6; subst e
   ((conv=>whnf);repeat((first|apply TT mix|apply sE rfl|apply dG (by kernel_rfl)|fail);(conv=>whnf)))
   exact hn11 _ s4.1 h (weak_gen [0] rfl rfl (sK rfl (rowLe_ints (by first | rfl | simp)) storeLe.nil) (slotsLe.cons (And.intro rfl (AV.Le.of_eq (congrArg (AV.ms _) (by first | rfl | omega | (simp; omega) | simp)))) slotsLe.nil))
 ·clear h h11
  intro s1 hc15
  have e := Option.some.inj hc15; subst e
  ((conv=>whnf);repeat((first|apply TT mix|apply sE rfl|apply dG (by kernel_rfl)|fail);(conv=>whnf)))
  exact And.intro (AV.Le.refl _) rfl
end Go.Proofs.YtjhgaacecfmadaaGreatDoor
