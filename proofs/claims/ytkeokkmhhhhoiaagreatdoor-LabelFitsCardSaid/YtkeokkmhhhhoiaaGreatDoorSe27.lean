/- The shadow evaluator, part 27: loops whose rounds are told one by one. No condition. -/
import Derived.Test.YtkeokkmhhhhoiaaGreatDoorSe26
namespace Go.SE
open Go
set_option linter.unusedVariables false
set_option linter.unusedSimpArgs false
variable {P : PL} {m : Nat}
theorem W.mono {c : Code} {l : MT} {fr : Fr} {K K' : Ex → Fr → Prop} (h : W P m c l fr K) (hq : ∀ ex f, K ex f → K' ex f) : W P m c l fr K' :=
  ⟨fun V w cx a R hm => cwpx_mono (h.out V w cx a R hm) fun e a1 w1 hl => by
    obtain ⟨ex, fr', cx', h1, h2, h3, h4, h5⟩ := hl
    exact ⟨ex, fr', cx', h1, hq _ _ h2, h3, h4, h5⟩⟩
/-- At most n rounds, one behind the other. -/
def loopU (lbody : Fr → (Ex → Fr → Prop) → Prop) (K : Ex → Fr → Prop) : Nat → Fr → Prop
  | 0, _ => False
  | n + 1, fr => lbody fr (seqK (fun fr2 _ => loopU lbody K n fr2) K)
theorem loop_unroll {c : Code} {l : MT} {fr : Fr} {K : Ex → Fr → Prop} (n : Nat) (h : loopU (fun fr K => W P m c l fr K) K n fr) : loopQ m (fun fr K => W P m c l fr K) fr K := by
  refine loop_intro (fun a : Nat × Fr => a.2) (fun a => loopU (fun fr K => W P m c l fr K) K a.1 a.2) (fun a => a.1) (n, fr) h weak_refl ?_
  rintro ⟨k, f⟩ hk hM
  cases k with
  | zero => exact hk.elim
  | succ k =>
    have hk : W P m c l f (seqK (fun fr2 _ => loopU (fun fr K => W P m c l fr K) K k fr2) K) := hk
    refine hk.mono fun ex f2 h2 => ?_
    cases ex with
    | normal => exact next (F := fun a : Nat × Fr => a.2) (a := (k + 1, f)) hM (k, f2) weak_refl h2 (Nat.lt_succ_self k)
    | exit j => exact h2
    | ret => exact h2
end Go.SE
