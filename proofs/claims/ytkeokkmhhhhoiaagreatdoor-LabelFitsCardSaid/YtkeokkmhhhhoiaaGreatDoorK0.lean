/- Contracts of functions, walked by their models; printed by a program of ours. No condition. -/
import Derived.Test.YtkeokkmhhhhoiaaGreatDoorE
import Derived.Test.YtkeokkmhhhhoiaaGreatDoorProg
import Derived.KernelRfl
namespace Go.Proofs.YtkeokkmhhhhoiaaGreatDoor
open Go Go.SE
set_option linter.unusedVariables false
set_option linter.unusedSimpArgs false
set_option maxRecDepth 10000
set_option maxHeartbeats 2000000
attribute [local irreducible] Contract iter
theorem mix : pl.follows .mixedOrders = true := by kernel_rfl
theorem gOf {α : Type} {c : Prop} [Decidable c] {X : Option α} {r : α} (h : (if c then X else none) = some r) : c := by
 by_cases hc : c
 ·exact hc
 ·rw [if_neg hc] at h; cases h
theorem lits_u8 : ∀ (l : List Int) (j : Nat), j < l.length → (l.map (AV.int .u8)).getD j .unk = .int .u8 (l.getD j 0) := fun l j hj => by simp [List.getD_eq_getElem?_getD, hj]
theorem gO {P Q : Prop} (k : Q) (w : Q → P := by
 intro q
 ((conv=>whnf);repeat((first|apply TT mix|apply sE rfl|apply dG (by kernel_rfl)|fail);(conv=>whnf)))
 exact q) : P := w k
theorem cl {p : Prop} (h : p := by repeat' first
  | exact storeLe.nil
  | exact slotsLe.nil
  | exact cellsLe.nil
  | exact valsLe.nil
  | exact argsLe.nil
  | exact sQ rfl rfl
  | refine slotsLe.cons ?_ ?_
  | refine sK rfl ?_ ?_
  | refine storeLe.cons rfl (objLe.mk (by first | exact id | exact (fun _ => rfl) | (intro hf; first | exact hf | rfl)) (by first | exact id | exact (fun _ => rfl) | (intro hf; first | exact hf | rfl)) ?_) ?_
  | exact cellsLe_refl rfl
  | refine valsLe.cons ?_ ?_
  | refine cellsLe.cons ?_ ?_
  | exact cR rfl rfl
  | exact rowLe_ints (by first | rfl | (simp; done) | (rw [List.take_of_length_le (by simp <;> omega)]; first | rfl | (rw [List.take_take, Nat.min_self]; done) | (simp; done)))
  | exact rowLe_strs (by first | rfl | (simp; done) | (rw [List.take_of_length_le (by simp <;> omega)]; first | rfl | (rw [List.take_take, Nat.min_self]; done) | (simp; done)))
  | exact rowLe_bools (by first | rfl | (simp; done) | (rw [List.take_of_length_le (by simp <;> omega)]; first | rfl | (rw [List.take_take, Nat.min_self]; done) | (simp; done)))
  | refine rowLe_vals ?_
  | exact rowLe_same (fun h i hi => by rfl)
  | exact rowLe_same (fun _ _ _ => rfl)
  | exact rowLe_imms (by simp) (fun i hi => by first | (rcases j with _ | _ | _ | _ | _ | j <;> first | rfl | (exfalso; simp at hj; done) | (exfalso; simp at hj; omega)))
  | exact rowLe_imfLe (by first | rfl | simp) (fun i hi => by first | exact ⟨rfl, rfl, rfl, AV.Le.refl _⟩ | exact one_app (fun _ => ⟨rfl, rfl⟩) hi | exact one_set (fun _ => ⟨rfl, rfl⟩) rfl rfl (by first | exact AV.Le.refl _ | exact AV.Le.sl_any) hi | exact one_zero ⟨rfl, rfl, rfl, AV.Le.list rfl fun j hj => absurd hj (Nat.not_lt_zero _)⟩)
  | refine And.intro rfl ?_
  | exact AV.Le.refl _
  | exact AV.Le.sl_any
  | exact AV.Le.err_nil
  | exact AV.Le.mpn_true
  | exact AV.Le.mpn_nil
  | exact AV.Le.of_eq (congrArg (AV.ms _) (by first | rfl | omega | (simp; omega) | (simp; done) | (simp only [List.length_set] at *; omega)))
  | refine AV.Le.err_box ?_
  | refine AV.Le.tup ?_
  | refine AV.Le.agg ?_
  | refine argsLe.cons ?_ ?_
  | exact AV.Le.list rfl (fun j hj => absurd hj (Nat.not_lt_zero _))
  | exact AV.Le.list (by simp; try omega) (fun j hj => by first | rfl | rw [getD_sub hj] | (rw [getD_take hj]; simp) | simp)) : p := h
theorem wG {m n : Nat} {t : List AV} {s s' : Store} {kv : List (Nat × AV)} (ps : List Nat) (hq : (onceP ps && ps.all (fun i => Nat.blt i s.length) && firstP m ps) = true := by rfl) (hn : t.length = n := by rfl) (hs : storeLe ps s ps s' := by exact cl) (h : slotsLe ps t kv := by exact cl) : Weak m ⟨t, s⟩ (mkF n kv s') := weak_gen ps hq hn hs h
theorem oC {m : Nat} {P : PL} {f : FuncId} {args args' : List AV} {s objs objs' : Store} {r : AV} (ids : List Nat) (hC : ContractM m P f args' objs r objs') (hs : storeLe ids s ids objs := by exact cl) (ha : cellsLe ids args args' := by exact cl)
 (hq : (onceP ids && ids.all (fun i => Nat.blt i s.length)) = true := by rfl) (hle : (Nat.ble m objs'.length && Nat.ble m ids.length) = true := by rfl) :
 Contract P f args s (r.ren (outN (ids.take m) s.length)) (mergeAt (outN (ids.take m) s.length) (ids.take m) objs' (killAll s (ids.drop m))) := own_call ids hC hq hs ha hle
theorem aI {x y : AV} {a b : Store} (h : x.Le y := by exact cl) (e : a = b := by rfl) : x.Le y ∧ a = b := ⟨h, e⟩
theorem bR {α : Type} {r : α} {P A B : Prop} {c c' : Bool} {X Y : Option α} (h : (bif c' then X else Y) = some r) (h1 : c = true → X = some r → A) (h2 : c = false → Y = some r → B) (w : brP c A B → P := by
 intro q
 ((conv=>whnf);repeat((first|apply TT mix|apply sE rfl|apply dG (by kernel_rfl)|fail);(conv=>whnf)))
 exact q) (hc : c = c' := by rfl) : P := w (br_b hc h h1 h2)
theorem gD1 {α : Type} {r : α} {P A : Prop} {p p' : Prop} [Decidable p] {X : Option α} (h : (if p then X else none) = some r) (k : X = some r → A) (w : p' ∧ A → P := by
 intro q
 ((conv=>whnf);repeat((first|apply TT mix|apply sE rfl|apply dG (by kernel_rfl)|fail);(conv=>whnf)))
 exact q) (hp : p = p' := by rfl) : P := w (grd1 hp h k)
theorem gD2 {α : Type} {r : α} {P A : Prop} {p q p' q' : Prop} [Decidable (p ∧ q)] {X : Option α} (h : (if p ∧ q then X else none) = some r) (k : X = some r → A) (w : p' ∧ q' ∧ A → P := by
 intro q
 ((conv=>whnf);repeat((first|apply TT mix|apply sE rfl|apply dG (by kernel_rfl)|fail);(conv=>whnf)))
 exact q) (hp : p = p' := by rfl) (hq : q = q' := by rfl) : P := w (grd2 hp hq h k)
theorem gD3 {α : Type} {r : α} {P A : Prop} {p q s p' q' s' : Prop} [Decidable (p ∧ q ∧ s)] {X : Option α} (h : (if p ∧ q ∧ s then X else none) = some r) (k : X = some r → A) (w : p' ∧ q' ∧ s' ∧ A → P := by
 intro q
 ((conv=>whnf);repeat((first|apply TT mix|apply sE rfl|apply dG (by kernel_rfl)|fail);(conv=>whnf)))
 exact q) (hp : p = p' := by rfl) (hq : q = q' := by rfl) (hs : s = s' := by rfl) : P := w (grd3 hp hq hs h k)
theorem lB {S X α : Type} {m : Nat} {lbody : Fr → (Ex → Fr → Prop) → Prop} {fr : Fr} {K : Ex → Fr → Prop} {body : S → Option (Stp S X)} {s0 : S} {f : X → Option α} {r : α} {P : Prop} (F : S → Fr) (h : (iter body s0).bind f = some r) (hw : Weak m fr (F s0)) (step : ∀ x, f x = some r → ∀ (k : Nat) (s : S) (st : Stp S X) (Kn : Fr → Prop), (∀ fr2 s', iterN body k s' = some x → Weak m fr2 (F s') → Kn fr2) → body s = some st → stpOk body k x st → lbody (F s) (seqK (fun fr2 _ => Kn fr2) K)) (w : loopQ m lbody fr K → P := by
 intro q
 ((conv=>whnf);repeat((first|apply TT mix|apply sE rfl|apply dG (by kernel_rfl)|fail);(conv=>whnf)))
 exact q) : P :=
 w (bnd h fun x hx h => loop_iter F hx hw (step x h))
theorem cB {S α : Type} {m : Nat} {AA : (Ex → Fr → Prop) → Prop} {BB : Fr → (Ex → Fr → Prop) → Prop} {K : Ex → Fr → Prop} {x : Option S} {f : S → Option α} {r : α} {P : Prop} (F : S → Fr) (h : x.bind f = some r) (h1 : ∀ Kn : Fr → Prop, (∀ fr' s, f s = some r → Weak m fr' (F s) → Kn fr') → ∀ y, x = some y → f y = some r → AA (seqK (fun fr' _ => Kn fr') K)) (h2 : ∀ s, f s = some r → BB (F s) K) (w : cutQ m AA BB K → P := by
 intro q
 ((conv=>whnf);repeat((first|apply TT mix|apply sE rfl|apply dG (by kernel_rfl)|fail);(conv=>whnf)))
 exact q) : P :=
 w (bnd h fun y hy h => cut_at F (fun s => f s = some r) (fun Kn hn => h1 Kn hn y hy h) h2)
theorem cL {α β : Type} {x : Option β} {f : β → Option α} {r : α} {P B : Prop} {Q : AV → Prop} {PP : PL} {g : FuncId} {args : List AV} {R : β → AV} (h : x.bind f = some r) (c : ∀ y, x = some y → Contract PP g args [] (R y) []) (k : ∀ y, f y = some r → Q (R y)) (w : (∃ r, Contract PP g args [] r [] ∧ r.imm = true ∧ Q r) ∨ B → P := by
 intro q
 ((conv=>whnf);repeat((first|apply TT mix|apply sE rfl|apply dG (by kernel_rfl)|fail);(conv=>whnf)))
 exact q) (hi : ∀ y, (R y).imm = true := by intro y; rfl) : P :=
 w (bnd h fun y hy h => Or.inl ⟨_, c y hy, hi y, k y h⟩)
theorem isSm {α : Type} {x r : α} (h : some x = some r) : True := trivial
theorem isBf {α : Type} {c : Bool} {X Y : Option α} {r : α} (h : (bif c then X else Y) = some r) : True := trivial
theorem isIt {α : Type} {c : Prop} [Decidable c] {X : Option α} {r : α} (h : (if c then X else none) = some r) : True := trivial
def Pi (ps : List Nat) : Prop := True
theorem pI (ps : List Nat) : Pi ps := trivial
theorem wQ {m n : Nat} {t : List AV} {s s' : Store} {kv : List (Nat × AV)} {ps : List Nat} (i : Pi ps) (hq : (onceP ps && ps.all (fun i => Nat.blt i s.length) && firstP m ps) = true := by rfl) (hn : t.length = n := by rfl) (hs : storeLe ps s ps s' := by exact cl) (h : slotsLe ps t kv := by exact cl) : Weak m ⟨t, s⟩ (mkF n kv s') := weak_gen ps hq hn hs h
theorem AuF {α : Type} {M : Option α} {r : α} {P : Prop} (h : M = some r) (p : M = some r → P := by
 intro h
 repeat' (((conv=>whnf);repeat((first|apply TT mix|apply sE rfl|apply dG (by kernel_rfl)|fail);(conv=>whnf))); first
  | ((with_reducible have q := isSm h); have e := Option.some.inj h; subst e; ((conv=>whnf);repeat((first|apply TT mix|apply sE rfl|apply dG (by kernel_rfl)|fail);(conv=>whnf))); exact aI)
  | ((with_reducible have q := isBf h); refine br_b rfl h (fun _ h => ?_) (fun _ h => ?_))
  | ((with_reducible have q := isIt h); have gh := gOf h; first | refine grd3 rfl rfl rfl h (fun h => ?_) | refine grd2 rfl rfl h (fun h => ?_) | refine grd1 rfl h (fun h => ?_))
  | cases h)) : P := p h
theorem AuX {α : Type} {M : Option α} {r : α} {P : Prop} {ps : List Nat} (i : Pi ps) (h : M = some r) (p : Pi ps → M = some r → P := by
 intro i h
 repeat' (((conv=>whnf);repeat((first|apply TT mix|apply sE rfl|apply dG (by kernel_rfl)|fail);(conv=>whnf))); first
  | ((with_reducible have q := isSm h); have e := Option.some.inj h; subst e; ((conv=>whnf);repeat((first|apply TT mix|apply sE rfl|apply dG (by kernel_rfl)|fail);(conv=>whnf))); exact Or.inr (Or.inr (wQ i)))
  | ((with_reducible have q := isBf h); refine br_b rfl h (fun _ h => ?_) (fun _ h => ?_))
  | ((with_reducible have q := isIt h); have gh := gOf h; first | refine grd3 rfl rfl rfl h (fun h => ?_) | refine grd2 rfl rfl h (fun h => ?_) | refine grd1 rfl h (fun h => ?_))
  | cases h)) : P := p i h
theorem AuC {α : Type} {S : Type} {M : Option α} {x : α} {P : Prop} {ps : List Nat} {m : Nat} {F : S → Fr} {I : S → Prop} {J : Prop} {Kn : Fr → Prop} (i : Pi ps) (hn : ∀ fr' s, I s → Weak m fr' (F s) → Kn fr') (hj : J) (h : M = some x) (p : Pi ps → (∀ fr' s, I s → Weak m fr' (F s) → Kn fr') → J → M = some x → P := by
 intro i hn hj h
 repeat' (((conv=>whnf);repeat((first|apply TT mix|apply sE rfl|apply dG (by kernel_rfl)|fail);(conv=>whnf))); first
  | ((with_reducible have q := isSm h); have e := Option.some.inj h; subst e; ((conv=>whnf);repeat((first|apply TT mix|apply sE rfl|apply dG (by kernel_rfl)|fail);(conv=>whnf))); first | exact hn _ _ hj (wQ i) | exact hn _ () hj (wQ i))
  | ((with_reducible have q := isBf h); refine br_b rfl h (fun _ h => ?_) (fun _ h => ?_))
  | ((with_reducible have q := isIt h); have gh := gOf h; first | refine grd3 rfl rfl rfl h (fun h => ?_) | refine grd2 rfl rfl h (fun h => ?_) | refine grd1 rfl h (fun h => ?_))
  | cases h)) : P := p i hn hj h
theorem same_NoEscape : Same pl 216 := ⟨_, rfl, by kernel_rfl, by kernel_rfl, by kernel_rfl, by kernel_rfl⟩
theorem c_eponymlaw10_known  (r) (h : m_eponymlaw10_known  = some r) : Contract pl 28 [] [] (e_api_Tables r) [] := by
 refine contract_of .z Tryz.func28 rfl (by kernel_rfl) ?_
 have e := Option.some.inj h; subst e
 refine gO ?_
 exact And.intro (AV.Le.agg (argsLe.cons (AV.Le.list rfl (fun j hj => absurd hj (Nat.not_lt_zero _))) (argsLe.cons (AV.Le.list rfl (fun j hj => absurd hj (Nat.not_lt_zero _))) (argsLe.cons (AV.Le.list rfl (fun j hj => absurd hj (Nat.not_lt_zero _))) (argsLe.cons (AV.Le.list rfl (fun j hj => absurd hj (Nat.not_lt_zero _))) (argsLe.cons (AV.Le.list rfl (fun j hj => absurd hj (Nat.not_lt_zero _))) (argsLe.cons (AV.Le.list rfl (fun j hj => absurd hj (Nat.not_lt_zero _))) (argsLe.cons (AV.Le.list rfl (fun j hj => absurd hj (Nat.not_lt_zero _))) (argsLe.cons (AV.Le.list rfl (fun j hj => absurd hj (Nat.not_lt_zero _))) (argsLe.cons (AV.Le.list rfl (fun j hj => absurd hj (Nat.not_lt_zero _))) (argsLe.cons (AV.Le.lits (enc := fun x => (e_api_Range x)) d_api_Range rfl (litsLe.cons (argsLe.cons (AV.Le.refl _) (argsLe.cons (AV.Le.refl _) (argsLe.cons (AV.Le.refl _) argsLe.nil))) rfl litsLe.nil)) (argsLe.cons (AV.Le.list rfl (fun j hj => absurd hj (Nat.not_lt_zero _))) (argsLe.cons (AV.Le.list rfl (fun j hj => absurd hj (Nat.not_lt_zero _))) (argsLe.cons (AV.Le.list rfl (fun j hj => absurd hj (Nat.not_lt_zero _))) (argsLe.cons (AV.Le.list rfl (fun j hj => absurd hj (Nat.not_lt_zero _))) (argsLe.cons (AV.Le.lits (enc := fun x => (e_api_Pair x)) d_api_Pair rfl (litsLe.cons (argsLe.cons (AV.Le.refl _) (argsLe.cons (AV.Le.refl _) argsLe.nil)) rfl litsLe.nil)) argsLe.nil)))))))))))))))) rfl
theorem c_utf_fault (p_at p_e) (r) (h : m_utf_fault p_at p_e = some r) : Contract pl 117 [(AV.int .i64 p_at), (AV.err p_e)] [] (AV.err r) [] := by
 refine contract_of .z Tryz.func117 rfl (by kernel_rfl) ?_
 unfold m_utf_fault at h
 exact AuF h
theorem c_utf_first (p_b) (r) (h : m_utf_first p_b = some r) : Contract pl 167 [(AV.int .u8 p_b)] [] (AV.tup [(AV.int .i64 r.1), (AV.int .i32 r.2.1), (AV.int .u8 r.2.2.1), (AV.int .u8 r.2.2.2)]) [] := by
 refine contract_of (.t false .z (.t false .z (.t true .z .z))) Tryz.func167 rfl (by kernel_rfl) ?_
 refine gO ?_
 refine bnd h (fun x4 h4 h => ?_)
 refine cut_at (fun s1 : Int => mkF 52 [(0, (.int .u8 p_b)), (2, (.int .i64 s1)), (4, (.int .u8 (128 : Int))), (5, (.int .u8 (191 : Int)))] []) (fun s1 : Int => m_utf_first_K2 p_b s1 = some r) ?_ ?_
 ·intro Kn4 hn4
  refine bR h4 ?_ ?_
  ·intro _ h4
   have e := Option.some.inj h4; subst e
   exact AuF h
  ·intro _ h4
   refine bR h4 ?_ ?_
   ·intro _ h4
    exact AuC (pI []) hn4 h h4
   ·intro _ h4
    refine bR h4 ?_ ?_
    ·intro _ h4
     exact AuC (pI []) hn4 h h4
    ·intro _ h4
     refine bR h4 ?_ ?_
     ·intro _ h4
      exact AuC (pI []) hn4 h h4
     ·intro _ h4
      refine bR h4 ?_ ?_
      ·intro _ h4
       have e := Option.some.inj h4; subst e
       exact AuF h
      ·intro _ h4
       have e := Option.some.inj h4; subst e
       exact AuF h
 ·clear h h4
  intro s1 hc5
  unfold m_utf_first_K2 at hc5
  exact AuF hc5
theorem c_utf_Next (p_s p_at) (r) (h : m_utf_Next p_s p_at = some r) : Contract pl 115 [(AV.str p_s), (AV.int .i64 p_at)] [] (AV.tup [(AV.int .i32 r.1), (AV.int .i64 r.2.1), (AV.err r.2.2)]) [] := by
 refine contract_of (.t false .z (.t false (.t true .z .z) (.t false .z (.t false .z (.t true (.t false .z (.t false (.t false (.t false .z (.t false (.t false (.t false .z (.t false .z (.t false (.t true .z .z) .z))) .z) .z)) .z) .z)) .z))))) Tryz.func115 rfl (by kernel_rfl) ?_
 refine cB (fun s1 : Bool => mkF 76 [(0, (.str p_s)), (1, (.int .i64 p_at)), (19, (.bool s1))] []) h ?_ ?_
 ·intro Kn19 hn19 x19 h19 h
  exact AuC (pI []) hn19 h h19
 ·clear h
  intro s1 hc20
  refine bR hc20 ?_ ?_
  ·intro _ hc20
   refine cL hc20 (c_utf_fault _ _) ?_
   intro y3 hc20
   exact AuF hc20
  ·intro _ hc20
   refine gD2 hc20 fun hc20 => ?_
   refine cL hc20 (c_utf_first _) ?_
   intro y4 hc20
   refine bR hc20 ?_ ?_
   ·intro _ hc20
    refine cL hc20 (c_utf_fault _ _) ?_
    intro y5 hc20
    exact AuF hc20
   ·intro _ hc20
    refine gO ?_
    refine bnd hc20 (fun x21 h21 hc20 => ?_)
    refine cut_at (fun s6 : Int => mkF 76 [(4, (.int .i32 s6)), (7, (.int .i64 y4.1))] []) (fun s6 : Int => some (s6, (IntKind.wrap .i64 (y4.1 + (1 : Int))), Er.nil) = some r) ?_ ?_
    ·intro Kn21 hn21
     refine gO ?_
     refine loop_iter (fun s9 : Int × Int × Int × Int => mkF 76 [(0, (.str p_s)), (1, (.int .i64 p_at)), (4, (.int .i32 s9.1)), (7, (.int .i64 y4.1)), (8, (.int .u8 s9.2.1)), (9, (.int .u8 s9.2.2.1)), (10, (.int .i64 s9.2.2.2))] []) h21 (wG []) ?_
     intro k11 s9 st11 Kn11 hn11 h11_ hs11
     refine bR h11_ ?_ ?_
     ·intro _ h11_
      refine bR h11_ ?_ ?_
      ·intro _ h11_
       refine cL h11_ (c_utf_fault _ _) ?_
       intro y12 h11_
       have e := Option.some.inj h11_; subst e
       have e := done_out hs11; subst e
       exact AuF hc20
      ·intro _ h11_
       refine gD2 h11_ fun h11_ => ?_
       refine cB (fun s13 : Bool => mkF 76 [(0, (.str p_s)), (1, (.int .i64 p_at)), (4, (.int .i32 s9.1)), (7, (.int .i64 y4.1)), (10, (.int .i64 s9.2.2.2)), (11, (.int .u8 (bt p_s (IntKind.wrap .i64 (p_at + s9.2.2.2))))), (63, (.bool s13))] []) h11_ ?_ ?_
       ·intro Kn22 hn22 x22 h22 h11_
        exact AuC (pI []) hn22 h11_ h22
       ·clear h11_
        intro s13 hc23
        refine bR hc23 ?_ ?_
        ·intro _ hc23
         refine cL hc23 (c_utf_fault _ _) ?_
         intro y15 hc23
         have e := Option.some.inj hc23; subst e
         have e := done_out hs11; subst e
         exact AuF hc20
        ·intro _ hc23
         refine gO ?_
         refine And.intro (by decide) ?_
         exact AuC (pI []) hn11 hs11 hc23
     ·intro _ h11_
      have e := Option.some.inj h11_; subst e
      have e := done_out hs11; subst e
      refine gO ?_
      exact hn21 _ s9.1 hc20 (wG [])
    ·clear hc20 h21
     intro s6 hc24
     exact AuF hc24
theorem c_utf_Decode (p_s) (r) (h : m_utf_Decode p_s = some r) : Contract pl 62 [(AV.str p_s)] [] (AV.tup [(e_L_i32 r.1), (AV.err r.2)]) [] := by
 refine contract_of (.t false .z (.t false .z (.t true .z .z))) Tryz.func62 rfl (by kernel_rfl) ?_
 refine gO ?_
 refine bnd h (fun x11 h11 h => ?_)
 refine cut_at (fun s1 : (List Int) => mkF 31 [(4, (.ms 0 s1.length))] [some ⟨1, 21, (.ints .i32 s1), false, true⟩]) (fun s1 : (List Int) => some (s1, Er.nil) = some r) ?_ ?_
 ·intro Kn11 hn11
  refine gO ?_
  refine loop_iter (fun s4 : (List Int) × Int => mkF 31 [(0, (.str p_s)), (4, (.ms 0 s4.1.length)), (5, (.int .i64 s4.2))] [some ⟨1, 21, (.ints .i32 s4.1), false, true⟩]) h11 (weak_trans (weak_nil 4 1 21 (.ints .i32 []) _ rfl rfl trivial (by first | exact Nat.zero_le _ | (simp; done) | decide)) (wG [0])) ?_
  intro k6 s4 st6 Kn6 hn6 h6_ hs6
  refine bR h6_ ?_ ?_
  ·intro _ h6_
   refine cL h6_ (c_utf_Next _ _) ?_
   intro y7 h6_
   refine bR h6_ ?_ ?_
   ·intro _ h6_
    have e := Option.some.inj h6_; subst e
    have e := done_out hs6; subst e
    exact AuF h
   ·intro _ h6_
    refine gO ?_
    obtain ⟨p12, h6_⟩ := grdO h6_
    refine ⟨[], 1, (.ints .i32 [y7.1]), ⟨by simp [Row.len] <;> omega, rfl, _, rfl, by simp [Row.len] <;> omega, fun j hj => .inl rfl⟩, trivial, fun j hj => rfl, ?_⟩
    conv => whnf
    refine ⟨by simp [Row.len]; try omega, p12, by omega, ?_⟩
    exact AuC (pI [2]) hn6 hs6 h6_
  ·intro _ h6_
   have e := Option.some.inj h6_; subst e
   have e := done_out hs6; subst e
   refine gO ?_
   exact hn11 _ s4.1 h (wG [0])
 ·clear h h11
  intro s1 hc13
  exact AuF hc13
theorem c_label_capital (p_r) (r) (h : m_label_capital p_r = some r) : Contract pl 55 [(AV.int .i32 p_r)] [] (AV.bool r) [] := by
 refine contract_of .z Tryz.func55 rfl (by kernel_rfl) ?_
 unfold m_label_capital at h
 exact AuF h
theorem c_label_lower_1 (p_k p_a1 p_a2) (r) (h : m_label_lower_1 p_k p_a1 p_a2 = some r) : Contract pl 107 [(AV.int .i64 p_k), (AV.ip (e_L_api_Pair p_a1) 0), (AV.ip (AV.int .i32 p_a2) 0)] [] (AV.bool r) [] := by
 refine contract_of .z Tryz.func107 rfl (by kernel_rfl) ?_
 unfold m_label_lower_1 at h
 exact AuF h
theorem c_sort_Search_label_lower_1 (p_n p_f p_a2) (r) (h : m_sort_Search_label_lower_1 p_n p_f p_a2 = some r) : Contract pl 106 [(AV.int .i64 p_n), (AV.fn (.func 107) [] [(AV.ip (e_L_api_Pair p_f) 0), (AV.ip (AV.int .i32 p_a2) 0)])] [] (AV.int .i64 r) [] := by
 refine contract_of (.t false .z (.t false .z (.t true .z .z))) Tryz.func106 rfl (by kernel_rfl) ?_
 refine cB (fun s1 : Int => mkF 26 [(5, (.int .i64 s1))] []) h ?_ ?_
 ·intro Kn9 hn9 x9 h9 h
  refine gO ?_
  refine loop_iter (fun s4 : Int × Int => mkF 26 [(1, (.fn (.func 107) [] [(.ip (e_L_api_Pair p_f) 0), (.ip (.int .i32 p_a2) 0)])), (5, (.int .i64 s4.1)), (6, (.int .i64 s4.2))] []) h9 (wG []) ?_
  intro k6 s4 st6 Kn6 hn6 h6_ hs6
  refine bR h6_ ?_ ?_
  ·intro _ h6_
   refine gO ?_
   refine And.intro (by decide) ?_
   refine cL h6_ (c_label_lower_1 _ _ _) ?_
   intro y7 h6_
   exact AuC (pI []) hn6 hs6 h6_
  ·intro _ h6_
   have e := Option.some.inj h6_; subst e
   have e := done_out hs6; subst e
   refine gO ?_
   exact hn9 _ s4.1 h (wG [])
 ·clear h
  intro s1 hc10
  exact AuF hc10
theorem c_label_lower (p_l p_r) (r) (h : m_label_lower p_l p_r = some r) : Contract pl 56 [(e_L_api_Pair p_l), (AV.int .i32 p_r)] [] (AV.tup [(AV.int .i32 r.1), (AV.bool r.2)]) [] := by
 refine contract_of (.t false .z (.t false .z (.t false (.t true .z .z) .z))) Tryz.func56 rfl (by kernel_rfl) ?_
 refine cL h (c_sort_Search_label_lower_1 _ _ _) ?_
 intro y1 h
 refine cB (fun s2 : Bool => mkF 30 [(2, (.mp 0 0 0)), (3, (.mp 1 0 0)), (6, (.int .i64 y1)), (23, (.bool s2))] [some ⟨1, 29, (.vals [(e_L_api_Pair p_l)]), false, false⟩, some ⟨1, 21, (.vals [(.int .i32 p_r)]), false, false⟩]) h ?_ ?_
 ·intro Kn4 hn4 x4 h4 h
  exact AuC (pI [0,1]) hn4 h h4
 ·clear h
  intro s2 hc5
  unfold m_label_lower_K3 at hc5
  exact AuF hc5
theorem c_decomp_hangul (p_r) (r) (h : m_decomp_hangul p_r = some r) : Contract pl 191 [(AV.int .i32 p_r)] [] (AV.int .i64 r) [] := by
 refine contract_of (.t false .z (.t false (.t false (.t true .z (.t false .z (.t true .z (.t false .z (.t true .z (.t false .z (.t true .z .z))))))) .z) .z)) Tryz.func191 rfl (by kernel_rfl) ?_
 refine cB (fun s1 : Bool => mkF 31 [(0, (.int .i32 p_r)), (3, (.bool s1))] []) h ?_ ?_
 ·intro Kn9 hn9 x9 h9 h
  exact AuC (pI []) hn9 h h9
 ·clear h
  intro s1 hc10
  refine bR hc10 ?_ ?_
  ·intro _ hc10
   exact AuF hc10
  ·intro _ hc10
   refine cB (fun s3 : Bool => mkF 31 [(0, (.int .i32 p_r)), (10, (.bool s3))] []) hc10 ?_ ?_
   ·intro Kn11 hn11 x11 h11 hc10
    exact AuC (pI []) hn11 hc10 h11
   ·clear hc10
    intro s3 hc12
    refine bR hc12 ?_ ?_
    ·intro _ hc12
     exact AuF hc12
    ·intro _ hc12
     refine cB (fun s5 : Bool => mkF 31 [(0, (.int .i32 p_r)), (17, (.bool s5))] []) hc12 ?_ ?_
     ·intro Kn13 hn13 x13 h13 hc12
      exact AuC (pI []) hn13 hc12 h13
     ·clear hc12
      intro s5 hc14
      refine bR hc14 ?_ ?_
      ·intro _ hc14
       exact AuF hc14
      ·intro _ hc14
       refine cB (fun s7 : Bool => mkF 31 [(24, (.bool s7))] []) hc14 ?_ ?_
       ·intro Kn15 hn15 x15 h15 hc14
        exact AuC (pI []) hn15 hc14 h15
       ·clear hc14
        intro s7 hc16
        unfold m_decomp_hangul_K8 at hc16
        exact AuF hc16
theorem c_decomp_find_1 (p_k p_a1 p_a2) (r) (h : m_decomp_find_1 p_k p_a1 p_a2 = some r) : Contract pl 231 [(AV.int .i64 p_k), (AV.ip (e_api_Norm p_a1) 0), (AV.ip (AV.int .i32 p_a2) 0)] [] (AV.bool r) [] := by
 refine contract_of .z Tryz.func231 rfl (by kernel_rfl) ?_
 unfold m_decomp_find_1 at h
 exact AuF h
theorem c_sort_Search_decomp_find_1 (p_n p_f p_a2) (r) (h : m_sort_Search_decomp_find_1 p_n p_f p_a2 = some r) : Contract pl 106 [(AV.int .i64 p_n), (AV.fn (.func 231) [] [(AV.ip (e_api_Norm p_f) 0), (AV.ip (AV.int .i32 p_a2) 0)])] [] (AV.int .i64 r) [] := by
 refine contract_of (.t false .z (.t false .z (.t true .z .z))) Tryz.func106 rfl (by kernel_rfl) ?_
 refine cB (fun s1 : Int => mkF 26 [(5, (.int .i64 s1))] []) h ?_ ?_
 ·intro Kn9 hn9 x9 h9 h
  refine gO ?_
  refine loop_iter (fun s4 : Int × Int => mkF 26 [(1, (.fn (.func 231) [] [(.ip (e_api_Norm p_f) 0), (.ip (.int .i32 p_a2) 0)])), (5, (.int .i64 s4.1)), (6, (.int .i64 s4.2))] []) h9 (wG []) ?_
  intro k6 s4 st6 Kn6 hn6 h6_ hs6
  refine bR h6_ ?_ ?_
  ·intro _ h6_
   refine gO ?_
   refine And.intro (by decide) ?_
   refine cL h6_ (c_decomp_find_1 _ _ _) ?_
   intro y7 h6_
   exact AuC (pI []) hn6 hs6 h6_
  ·intro _ h6_
   have e := Option.some.inj h6_; subst e
   have e := done_out hs6; subst e
   refine gO ?_
   exact hn9 _ s4.1 h (wG [])
 ·clear h
  intro s1 hc10
  exact AuF hc10
theorem c_decomp_find (p_t p_r) (r) (h : m_decomp_find p_t p_r = some r) : Contract pl 192 [(e_api_Norm p_t), (AV.int .i32 p_r)] [] (AV.int .i64 r) [] := by
 refine contract_of (.t false .z (.t false .z (.t false (.t true .z .z) .z))) Tryz.func192 rfl (by kernel_rfl) ?_
 refine cL h (c_sort_Search_decomp_find_1 _ _ _) ?_
 intro y1 h
 refine cB (fun s2 : Bool => mkF 27 [(5, (.int .i64 y1)), (25, (.bool s2))] []) h ?_ ?_
 ·intro Kn4 hn4 x4 h4 h
  exact AuC (pI []) hn4 h h4
 ·clear h
  intro s2 hc5
  unfold m_decomp_find_K3 at hc5
  exact AuF hc5
theorem c_slices_Reverse_rune_rune_own (p_s) (r) (h : m_slices_Reverse_rune_rune_own p_s = some r) : ContractM 1 pl 193 [(.ms 0 p_s.length)] [some ⟨1, 21, (.ints .i32 p_s), false, true⟩] (.tup []) [some ⟨1, 21, (.ints .i32 r), false, true⟩] := by
 refine contract_own 1 .z rfl Tryz.func193 rfl (by kernel_rfl) ?_
 refine lB (fun s2 : (List Int) × Int × Int => mkF 28 [(0, (.ms 0 s2.1.length)), (2, (.int .i64 s2.2.1)), (3, (.int .i64 s2.2.2))] [some ⟨1, 21, (.ints .i32 s2.1), false, true⟩]) h ?_ ?_
 ·exact wG [0]
 intro x4 h k4 s2 st4 Kn4 hn4 h4 hs4
 refine bR h4 ?_ ?_
 ·intro _ h4
  exact AuC (pI [0]) hn4 hs4 h4
 ·intro _ h4
  have e := Option.some.inj h4; subst e
  have e := done_out hs4; subst e
  exact AuX (pI [0]) h
theorem c_decomp_One (p_t p_r) (r) (h : m_decomp_One p_t p_r = some r) : Contract pl 146 [(e_api_Norm p_t), (AV.int .i32 p_r)] [] (e_L_i32 r) [] := by
 refine contract_of (.t false .z (.t false .z (.t false .z (.t true (.t false .z (.t false (.t false (.t false .z (.t false (.t false (.t false .z (.t false (.t true .z .z) .z)) .z) .z)) .z) .z)) .z)))) Tryz.func146 rfl (by kernel_rfl) ?_
 refine cL h (c_decomp_hangul _) ?_
 intro y1 h
 refine bR h ?_ ?_
 ·intro _ h
  refine gO ?_
  refine And.intro (by decide) ?_
  refine gO ?_
  refine And.intro (by decide) ?_
  refine gO ?_
  refine And.intro (by decide) ?_
  refine gO ?_
  refine And.intro (by decide) ?_
  refine bR h ?_ ?_
  ·intro _ h
   refine gO ?_
   refine And.intro (by decide) ?_
   refine gO ?_
   refine ⟨[], 1, (.ints .i32 [(IntKind.wrap .i32 (IntKind.wrap .i64 ((4519 : Int) + (Int.tmod (IntKind.wrap .i64 ((IntKind.wrap .i64 p_r) - (44032 : Int))) (28 : Int)))))]), ⟨by simp [Row.len] <;> omega, rfl, _, rfl, by simp [Row.len] <;> omega, fun j hj => .inl rfl⟩, trivial, fun j hj => rfl, ?_⟩
   conv => whnf
   refine ⟨by simp [Row.len]; try omega, by decide, by decide, ?_⟩
   exact AuF h
  ·intro _ h
   exact AuF h
 ·intro _ h
  refine cB (fun s2 : Int × (List Int) => mkF 81 [(1, (.int .i32 s2.1)), (7, (.ms 0 s2.2.length))] [some ⟨1, 21, (.ints .i32 s2.2), false, true⟩]) h ?_ ?_
  ·intro Kn13 hn13 x13 h13 h
   refine gO ?_
   refine loop_iter (fun s6 : Int × (List Int) × Int => mkF 81 [(1, (.int .i32 s6.1)), (2, (.mp 0 0 0)), (7, (.ms 1 s6.2.1.length)), (8, (.int .i64 s6.2.2))] [some ⟨3, 26, (.vals [(e_api_Norm p_t)]), false, false⟩, some ⟨1, 21, (.ints .i32 s6.2.1), false, true⟩]) h13 (weak_trans (weak_nil 7 1 21 (.ints .i32 []) _ rfl rfl trivial (by first | exact Nat.zero_le _ | (simp; done) | decide)) (wG [0,1])) ?_
   intro k8 s6 st8 Kn8 hn8 h8_ hs8
   refine bR h8_ ?_ ?_
   ·intro _ h8_
    refine cL h8_ (c_decomp_find _ _) ?_
    intro y9 h8_
    refine cB (fun s10 : Bool => mkF 81 [(1, (.int .i32 s6.1)), (2, (.mp 0 0 0)), (7, (.ms 1 s6.2.1.length)), (8, (.int .i64 s6.2.2)), (9, (.int .i64 y9)), (56, (.bool s10))] [some ⟨3, 26, (.vals [(e_api_Norm p_t)]), false, false⟩, some ⟨1, 21, (.ints .i32 s6.2.1), false, true⟩]) h8_ ?_ ?_
    ·intro Kn14 hn14 x14 h14 h8_
     exact AuC (pI [0,1]) hn14 h8_ h14
    ·clear h8_
     intro s10 hc15
     refine bR hc15 ?_ ?_
     ·intro _ hc15
      have e := Option.some.inj hc15; subst e
      have e := done_out hs8; subst e
      refine gO ?_
      exact hn13 _ (s6.1, s6.2.1) h (wG [1])
     ·intro _ hc15
      refine gD2 hc15 fun hc15 => ?_
      refine bR hc15 ?_ ?_
      ·intro _ hc15
       refine gD2 hc15 fun hc15 => ?_
       refine gO ?_
       obtain ⟨p16, hc15⟩ := grdO hc15
       refine ⟨[], 1, (.ints .i32 [((p_t.f_Rows.getD (y9.toNat) d_api_Row).f_To.getD 1 0)]), ⟨by simp [Row.len] <;> omega, rfl, _, rfl, by simp [Row.len] <;> omega, fun j hj => .inl rfl⟩, trivial, fun j hj => rfl, ?_⟩
       conv => whnf
       refine ⟨by simp [Row.len]; try omega, p16, by omega, ?_⟩
       exact AuC (pI [0,3]) hn8 hs8 hc15
      ·intro _ hc15
       exact AuC (pI [0,1]) hn8 hs8 hc15
   ·intro _ h8_
    have e := Option.some.inj h8_; subst e
    have e := done_out hs8; subst e
    refine gO ?_
    exact hn13 _ (s6.1, s6.2.1) h (wG [1])
  ·clear h
   intro s2 hc17
   refine gO ?_
   refine bnd hc17 (fun y4 hy4 hc17 => ?_)
   refine Or.inr (own_intro (oC [0] (c_slices_Reverse_rune_rune_own _ _ hy4)) ?_)
   refine gO ?_
   obtain ⟨p18, hc17⟩ := grdO hc17
   refine gO ?_
   obtain ⟨p19, hc17⟩ := grdO hc17
   refine ⟨[], s2.2.length, (.ints .i32 y4), ⟨by simp [Row.len] <;> omega, rfl, _, rfl, by simp [Row.len] <;> omega, fun j hj => .inl rfl⟩, trivial, fun j hj => rfl, ?_⟩
   conv => whnf
   refine ⟨by simp [Row.len]; try omega, p19, by omega, ?_⟩
   exact AuF hc17
theorem c_slices_Clone_rune_rune_own_som (p_s) (r) (h : m_slices_Clone_rune_rune_own_som p_s = some r) : ContractM 0 pl 194 [(.sl (some false) p_s.length fun j => (AV.int .i32 (p_s.getD j 0)))] [] (.ms 0 r.length) [some ⟨1, 21, (.ints .i32 r), false, true⟩] := by
 refine contract_own 0 .z rfl Tryz.func194 rfl (by kernel_rfl) ?_
 refine gO ?_
 obtain ⟨p1, h⟩ := grdO h
 refine ⟨[], p_s.length, (.ints .i32 p_s), ⟨rfl, rfl, fun j hj => rfl⟩, trivial, fun j hj => rfl, ?_⟩
 conv => whnf
 refine ⟨by simp [Row.len]; try omega, p1, by omega, ?_⟩
 exact AuX (pI [1]) h
theorem c_slices_Clone_rune_rune_own_nil  (r) (h : m_slices_Clone_rune_rune_own_nil  = some r) : ContractM 0 pl 194 [(.sl (some true) 0 fun _ => .unk)] [] (.ms 0 r.length) [some ⟨1, 21, (.ints .i32 r), false, true⟩] := by
 refine contract_own 0 .z rfl Tryz.func194 rfl (by kernel_rfl) ?_
 have e := Option.some.inj h; subst e
 refine gO ?_
 exact Or.inr (Or.inr (weak_trans (weak_nil 0 1 21 (.ints .i32 []) _ rfl rfl trivial (by first | exact Nat.zero_le _ | (simp; done) | decide)) (wG [0])))
theorem c_slices_Clone_rune_rune_own (p_s : (List Int)) (r : (List Int)) (h : m_slices_Clone_rune_rune_own p_s = some r) : ContractM 0 pl 194 [(e_L_i32 p_s)] [] (.ms 0 r.length) [some ⟨1, 21, (.ints .i32 r), false, true⟩] := by
 refine contractM_nil (fun hn => ?_) (c_slices_Clone_rune_rune_own_som p_s r h)
 have hp : p_s = [] := List.eq_nil_of_length_eq_zero hn
 subst hp
 have e : r = [] := by simpa [m_slices_Clone_rune_rune_own, m_slices_Clone_rune_rune_own_som] using h.symm
 subst e
 exact c_slices_Clone_rune_rune_own_nil [] rfl
theorem c_ranges_Find_1 (p_k p_a1 p_a2) (r) (h : m_ranges_Find_1 p_k p_a1 p_a2 = some r) : Contract pl 199 [(AV.int .i64 p_k), (AV.ip (e_L_api_Range p_a1) 0), (AV.ip (AV.int .i32 p_a2) 0)] [] (AV.bool r) [] := by
 refine contract_of .z Tryz.func199 rfl (by kernel_rfl) ?_
 unfold m_ranges_Find_1 at h
 exact AuF h
theorem c_sort_Search_ranges_Find_1 (p_n p_f p_a2) (r) (h : m_sort_Search_ranges_Find_1 p_n p_f p_a2 = some r) : Contract pl 106 [(AV.int .i64 p_n), (AV.fn (.func 199) [] [(AV.ip (e_L_api_Range p_f) 0), (AV.ip (AV.int .i32 p_a2) 0)])] [] (AV.int .i64 r) [] := by
 refine contract_of (.t false .z (.t false .z (.t true .z .z))) Tryz.func106 rfl (by kernel_rfl) ?_
 refine cB (fun s1 : Int => mkF 26 [(5, (.int .i64 s1))] []) h ?_ ?_
 ·intro Kn9 hn9 x9 h9 h
  refine gO ?_
  refine loop_iter (fun s4 : Int × Int => mkF 26 [(1, (.fn (.func 199) [] [(.ip (e_L_api_Range p_f) 0), (.ip (.int .i32 p_a2) 0)])), (5, (.int .i64 s4.1)), (6, (.int .i64 s4.2))] []) h9 (wG []) ?_
  intro k6 s4 st6 Kn6 hn6 h6_ hs6
  refine bR h6_ ?_ ?_
  ·intro _ h6_
   refine gO ?_
   refine And.intro (by decide) ?_
   refine cL h6_ (c_ranges_Find_1 _ _ _) ?_
   intro y7 h6_
   exact AuC (pI []) hn6 hs6 h6_
  ·intro _ h6_
   have e := Option.some.inj h6_; subst e
   have e := done_out hs6; subst e
   refine gO ?_
   exact hn9 _ s4.1 h (wG [])
 ·clear h
  intro s1 hc10
  exact AuF hc10
theorem c_ranges_Find (p_l p_r) (r) (h : m_ranges_Find p_l p_r = some r) : Contract pl 150 [(e_L_api_Range p_l), (AV.int .i32 p_r)] [] (AV.tup [(AV.int .i64 r.1), (AV.bool r.2)]) [] := by
 refine contract_of (.t false .z (.t false .z (.t false (.t true .z .z) .z))) Tryz.func150 rfl (by kernel_rfl) ?_
 refine cL h (c_sort_Search_ranges_Find_1 _ _ _) ?_
 intro y1 h
 refine cB (fun s2 : Bool => mkF 29 [(2, (.mp 0 0 0)), (6, (.int .i64 y1)), (23, (.bool s2))] [some ⟨1, 23, (.vals [(e_L_api_Range p_l)]), false, false⟩]) h ?_ ?_
 ·intro Kn4 hn4 x4 h4 h
  exact AuC (pI [0]) hn4 h h4
 ·clear h
  intro s2 hc5
  unfold m_ranges_Find_K3 at hc5
  exact AuF hc5
theorem c_decomp_Class (p_t p_r) (r) (h : m_decomp_Class p_t p_r = some r) : Contract pl 158 [(e_api_Norm p_t), (AV.int .i32 p_r)] [] (AV.int .i64 r) [] := by
 refine contract_of .z Tryz.func158 rfl (by kernel_rfl) ?_
 refine cL h (c_ranges_Find _ _) ?_
 intro y1 h
 exact AuF h
theorem c_decomp_Order_1 (p_a p_b p_a2) (r) (h : m_decomp_Order_1 p_a p_b p_a2 = some r) : Contract pl 196 [(AV.int .i32 p_a), (AV.int .i32 p_b), (AV.ip (e_api_Norm p_a2) 0)] [] (AV.int .i64 r) [] := by
 refine contract_of .z Tryz.func196 rfl (by kernel_rfl) ?_
 refine cL h (c_decomp_Class _ _) ?_
 intro y1 h
 refine cL h (c_decomp_Class _ _) ?_
 intro y2 h
 exact AuF h
theorem c_slices_insertionSortCmpFunc_rune_own (p_data p_data_o p_data_n p_a p_b p_cmp_0) (r) (h : m_slices_insertionSortCmpFunc_rune_own p_data p_data_o p_data_n p_a p_b p_cmp_0 = some r) : ContractM 2 pl 248 [(.mso 0 p_data_o p_data_n), (.int .i64 p_a), (.int .i64 p_b), (.fn (.func 196) [] [(.mp 1 0 0)])] [some ⟨1, 21, (.ints .i32 p_data), false, true⟩, some ⟨3, 26, (.vals [(e_api_Norm p_cmp_0)]), false, false⟩] (.tup []) [some ⟨1, 21, (.ints .i32 r), false, true⟩, some ⟨3, 26, (.vals [(e_api_Norm p_cmp_0)]), false, false⟩] := by
 refine contract_own 2 (.t false .z (.t false (.t false (.t false .z (.t true (.t false (.t false .z (.t false (.t false (.t false (.t true .z .z) .z) .z) .z)) .z) .z)) .z) .z)) rfl Tryz.func248 rfl (by kernel_rfl) ?_
 refine lB (fun s2 : (List Int) × Int => mkF 53 [(0, (.mso 0 p_data_o p_data_n)), (1, (.int .i64 p_a)), (2, (.int .i64 p_b)), (3, (.fn (.func 196) [] [(.mp 1 0 0)])), (8, (.int .i64 s2.2))] [some ⟨1, 21, (.ints .i32 s2.1), false, true⟩, some ⟨3, 26, (.vals [(e_api_Norm p_cmp_0)]), false, false⟩]) h ?_ ?_
 ·exact wG [0,1]
 intro x4 h k4 s2 st4 Kn4 hn4 h4 hs4
 refine bR h4 ?_ ?_
 ·intro _ h4
  refine cB (fun s5 : (List Int) => mkF 53 [(0, (.mso 0 p_data_o p_data_n)), (1, (.int .i64 p_a)), (2, (.int .i64 p_b)), (3, (.fn (.func 196) [] [(.mp 1 0 0)])), (8, (.int .i64 s2.2))] [some ⟨1, 21, (.ints .i32 s5), false, true⟩, some ⟨3, 26, (.vals [(e_api_Norm p_cmp_0)]), false, false⟩]) h4 ?_ ?_
  ·intro Kn16 hn16 x16 h16 h4
   refine gO ?_
   refine loop_iter (fun s8 : (List Int) × Int => mkF 53 [(0, (.mso 0 p_data_o p_data_n)), (1, (.int .i64 p_a)), (2, (.int .i64 p_b)), (3, (.fn (.func 196) [] [(.mp 1 0 0)])), (8, (.int .i64 s2.2)), (9, (.int .i64 s8.2))] [some ⟨1, 21, (.ints .i32 s8.1), false, true⟩, some ⟨3, 26, (.vals [(e_api_Norm p_cmp_0)]), false, false⟩]) h16 (wG [0,1]) ?_
   intro k10 s8 st10 Kn10 hn10 h10_ hs10
   refine cB (fun s11 : Bool => mkF 53 [(0, (.mso 0 p_data_o p_data_n)), (1, (.int .i64 p_a)), (2, (.int .i64 p_b)), (3, (.fn (.func 196) [] [(.mp 1 0 0)])), (8, (.int .i64 s2.2)), (9, (.int .i64 s8.2)), (34, (.bool s11))] [some ⟨1, 21, (.ints .i32 s8.1), false, true⟩, some ⟨3, 26, (.vals [(e_api_Norm p_cmp_0)]), false, false⟩]) h10_ ?_ ?_
   ·intro Kn17 hn17 x17 h17 h10_
    refine bR h17 ?_ ?_
    ·intro _ h17
     refine gD2 h17 fun h17 => ?_
     refine gD2 h17 fun h17 => ?_
     refine cL h17 (c_decomp_Order_1 _ _ _) ?_
     intro y13 h17
     exact AuC (pI [0,1]) hn17 h10_ h17
    ·intro _ h17
     exact AuC (pI [0,1]) hn17 h10_ h17
   ·clear h10_
    intro s11 hc18
    refine bR hc18 ?_ ?_
    ·intro _ hc18
     exact AuC (pI [0,1]) hn10 hs10 hc18
    ·intro _ hc18
     have e := Option.some.inj hc18; subst e
     have e := done_out hs10; subst e
     refine gO ?_
     exact hn16 _ s8.1 h4 (wG [0,1])
  ·clear h4
   intro s5 hc19
   exact AuC (pI [0,1]) hn4 hs4 hc19
 ·intro _ h4
  have e := Option.some.inj h4; subst e
  have e := done_out hs4; subst e
  exact AuX (pI [0,1]) h
theorem c_slices_stableCmpFunc_rune_own (p_data p_data_o p_data_n p_n p_cmp_0) (r) (h : m_slices_stableCmpFunc_rune_own p_data p_data_o p_data_n p_n p_cmp_0 = some r) : ContractM 2 pl 232 [(.mso 0 p_data_o p_data_n), (.int .i64 p_n), (.fn (.func 196) [] [(.mp 1 0 0)])] [some ⟨1, 21, (.ints .i32 p_data), false, true⟩, some ⟨3, 26, (.vals [(e_api_Norm p_cmp_0)]), false, false⟩] (.tup []) [some ⟨1, 21, (.ints .i32 r), false, true⟩, some ⟨3, 26, (.vals [(e_api_Norm p_cmp_0)]), false, false⟩] := by
 refine contract_own 2 (.t false .z (.t false .z (.t true .z (.t false .z (.t false (.t false (.t false .z (.t false (.t false .z (.t true .z .z)) .z)) .z) .z))))) rfl Tryz.func232 rfl (by kernel_rfl) ?_
 refine cB (fun s1 : (List Int) × Int => mkF 63 [(0, (.mso 0 p_data_o p_data_n)), (1, (.int .i64 p_n)), (2, (.fn (.func 196) [] [(.mp 1 0 0)])), (6, (.int .i64 (20 : Int))), (7, (.int .i64 s1.2))] [some ⟨1, 21, (.ints .i32 s1.1), false, true⟩, some ⟨3, 26, (.vals [(e_api_Norm p_cmp_0)]), false, false⟩]) h ?_ ?_
 ·intro Kn21 hn21 x21 h21 h
  refine gO ?_
  refine loop_iter (fun s16 : (List Int) × Int × Int => mkF 63 [(0, (.mso 0 p_data_o p_data_n)), (1, (.int .i64 p_n)), (2, (.fn (.func 196) [] [(.mp 1 0 0)])), (6, (.int .i64 (20 : Int))), (7, (.int .i64 s16.2.1)), (8, (.int .i64 s16.2.2))] [some ⟨1, 21, (.ints .i32 s16.1), false, true⟩, some ⟨3, 26, (.vals [(e_api_Norm p_cmp_0)]), false, false⟩]) h21 (wG [0,1]) ?_
  intro k18 s16 st18 Kn18 hn18 h18_ hs18
  refine bR h18_ ?_ ?_
  ·intro _ h18_
   refine gO ?_
   refine bnd h18_ (fun y19 hy19 h18_ => ?_)
   refine own_intro (oC [0,1] (c_slices_insertionSortCmpFunc_rune_own _ _ _ _ _ _ _ hy19)) ?_
   refine gO ?_
   obtain ⟨p22, h18_⟩ := grdO h18_
   exact AuC (pI [0,1]) hn18 hs18 h18_
  ·intro _ h18_
   have e := Option.some.inj h18_; subst e
   have e := done_out hs18; subst e
   refine gO ?_
   exact hn21 _ (s16.1, s16.2.1) h (wG [0,1])
 ·clear h
  intro s1 hc23
  refine gO ?_
  refine bnd hc23 (fun y3 hy3 hc23 => ?_)
  refine own_intro (oC [0,1] (c_slices_insertionSortCmpFunc_rune_own _ _ _ _ _ _ _ hy3)) ?_
  refine gO ?_
  obtain ⟨p24, hc23⟩ := grdO hc23
  refine lB (fun s5 : Int => mkF 63 [(0, (.mso 0 p_data_o p_data_n)), (1, (.int .i64 p_n)), (2, (.fn (.func 196) [] [(.mp 1 0 0)])), (6, (.int .i64 s5))] [some ⟨1, 21, (.ints .i32 y3), false, true⟩, some ⟨3, 26, (.vals [(e_api_Norm p_cmp_0)]), false, false⟩]) hc23 ?_ ?_
  ·exact wG [0,1]
  intro x7 hc23 k7 s5 st7 Kn7 hn7 h7 hs7
  refine bR h7 ?_ ?_
  ·intro _ h7
   refine cB (fun s8 : Unit => mkF 63 [(0, (.mso 0 p_data_o p_data_n)), (1, (.int .i64 p_n)), (2, (.fn (.func 196) [] [(.mp 1 0 0)])), (6, (.int .i64 s5)), (7, (.int .i64 (0 : Int)))] [some ⟨1, 21, (.ints .i32 y3), false, true⟩, some ⟨3, 26, (.vals [(e_api_Norm p_cmp_0)]), false, false⟩]) h7 ?_ ?_
   ·intro Kn25 hn25 x25 h25 h7
    refine gO ?_
    refine loop_iter (fun s10 : Unit => mkF 63 [(0, (.mso 0 p_data_o p_data_n)), (1, (.int .i64 p_n)), (2, (.fn (.func 196) [] [(.mp 1 0 0)])), (6, (.int .i64 s5)), (7, (.int .i64 (0 : Int))), (8, (.int .i64 (IntKind.wrap .i64 ((2 : Int) * s5))))] [some ⟨1, 21, (.ints .i32 y3), false, true⟩, some ⟨3, 26, (.vals [(e_api_Norm p_cmp_0)]), false, false⟩]) h25 (wG [0,1]) ?_
    intro k12 s10 st12 Kn12 hn12 h12_ hs12
    refine bR h12_ ?_ ?_
    ·intro _ h12_
     cases h12_
    ·intro _ h12_
     have e := Option.some.inj h12_; subst e
     have e := done_out hs12; subst e
     refine gO ?_
     exact hn25 _ () h7 (wG [0,1])
   ·clear h7
    intro s8 hc26
    unfold m_slices_stableCmpFunc_rune_own_K9 at hc26
    exact AuC (pI [0,1]) hn7 hs7 hc26
  ·intro _ h7
   have e := Option.some.inj h7; subst e
   have e := done_out hs7; subst e
   exact AuX (pI [0,1]) hc23
theorem c_slices_SortStableFunc_rune_rune_own (p_x p_x_o p_x_n p_cmp_0) (r) (h : m_slices_SortStableFunc_rune_rune_own p_x p_x_o p_x_n p_cmp_0 = some r) : ContractM 2 pl 195 [(.mso 0 p_x_o p_x_n), (.fn (.func 196) [] [(.mp 1 0 0)])] [some ⟨1, 21, (.ints .i32 p_x), false, true⟩, some ⟨3, 26, (.vals [(e_api_Norm p_cmp_0)]), false, false⟩] (.tup []) [some ⟨1, 21, (.ints .i32 r), false, true⟩, some ⟨3, 26, (.vals [(e_api_Norm p_cmp_0)]), false, false⟩] := by
 refine contract_own 2 .z rfl Tryz.func195 rfl (by kernel_rfl) ?_
 refine gO ?_
 refine bnd h (fun y1 hy1 h => ?_)
 refine own_intro (oC [0,1] (c_slices_stableCmpFunc_rune_own _ _ _ _ _ _ hy1)) ?_
 refine gO ?_
 obtain ⟨p2, h⟩ := grdO h
 exact AuX (pI [0,1]) h
theorem c_decomp_Order (p_t p_l) (r) (h : m_decomp_Order p_t p_l = some r) : Contract pl 147 [(e_api_Norm p_t), (e_L_i32 p_l)] [] (e_L_i32 r) [] := by
 refine contract_of (.t false .z (.t false .z (.t true (.t false .z (.t false (.t false (.t false .z (.t false (.t false .z (.t true (.t false (.t false (.t false (.t true .z .z) .z) .z) .z) .z)) .z)) .z) .z)) .z))) Tryz.func147 rfl (by kernel_rfl) ?_
 refine gO ?_
 refine bnd h (fun y1 hy1 h => ?_)
 refine Or.inr (own_intro (oC [] (c_slices_Clone_rune_rune_own _ _ hy1)) ?_)
 refine cB (fun s2 : (List Int) => mkF 39 [(5, (.ms 0 s2.length))] [some ⟨1, 21, (.ints .i32 s2), false, true⟩]) h ?_ ?_
 ·intro Kn20 hn20 x20 h20 h
  refine gO ?_
  refine loop_iter (fun s5 : (List Int) × Int => mkF 39 [(2, (.mp 0 0 0)), (5, (.ms 1 s5.1.length)), (6, (.int .i64 s5.2))] [some ⟨3, 26, (.vals [(e_api_Norm p_t)]), false, false⟩, some ⟨1, 21, (.ints .i32 s5.1), false, true⟩]) h20 (wG [0,1]) ?_
  intro k7 s5 st7 Kn7 hn7 h7_ hs7
  refine bR h7_ ?_ ?_
  ·intro _ h7_
   refine cB (fun s8 : Int => mkF 39 [(2, (.mp 0 0 0)), (5, (.ms 1 s5.1.length)), (6, (.int .i64 s5.2)), (7, (.int .i64 s8))] [some ⟨3, 26, (.vals [(e_api_Norm p_t)]), false, false⟩, some ⟨1, 21, (.ints .i32 s5.1), false, true⟩]) h7_ ?_ ?_
   ·intro Kn21 hn21 x21 h21 h7_
    refine gO ?_
    refine loop_iter (fun s12 : Int => mkF 39 [(2, (.mp 0 0 0)), (5, (.ms 1 s5.1.length)), (6, (.int .i64 s5.2)), (7, (.int .i64 s12))] [some ⟨3, 26, (.vals [(e_api_Norm p_t)]), false, false⟩, some ⟨1, 21, (.ints .i32 s5.1), false, true⟩]) h21 (wG [0,1]) ?_
    intro k14 s12 st14 Kn14 hn14 h14_ hs14
    refine cB (fun s15 : Bool => mkF 39 [(2, (.mp 0 0 0)), (5, (.ms 1 s5.1.length)), (6, (.int .i64 s5.2)), (7, (.int .i64 s12)), (27, (.bool s15))] [some ⟨3, 26, (.vals [(e_api_Norm p_t)]), false, false⟩, some ⟨1, 21, (.ints .i32 s5.1), false, true⟩]) h14_ ?_ ?_
    ·intro Kn22 hn22 x22 h22 h14_
     refine bR h22 ?_ ?_
     ·intro _ h22
      refine gD2 h22 fun h22 => ?_
      refine cL h22 (c_decomp_Class _ _) ?_
      intro y17 h22
      exact AuC (pI [0,1]) hn22 h14_ h22
     ·intro _ h22
      exact AuC (pI [0,1]) hn22 h14_ h22
    ·clear h14_
     intro s15 hc23
     refine bR hc23 ?_ ?_
     ·intro _ hc23
      exact AuC (pI [0,1]) hn14 hs14 hc23
     ·intro _ hc23
      have e := Option.some.inj hc23; subst e
      have e := done_out hs14; subst e
      refine gO ?_
      exact hn21 _ s12 h7_ (wG [0,1])
   ·clear h7_
    intro s8 hc24
    have ghc24 := gOf hc24
    refine gD3 hc24 fun hc24 => ?_
    refine gO ?_
    refine bnd hc24 (fun y10 hy10 hc24 => ?_)
    refine own_intro (oC [1,0] (c_slices_SortStableFunc_rune_rune_own _ _ _ _ _ hy10)) ?_
    refine gO ?_
    obtain ⟨p25, hc24⟩ := grdO hc24
    exact AuC (pI [0,1]) hn7 hs7 hc24
  ·intro _ h7_
   have e := Option.some.inj h7_; subst e
   have e := done_out hs7; subst e
   refine gO ?_
   exact hn20 _ s5.1 h (wG [1])
 ·clear h
  intro s2 hc26
  exact AuF hc26
theorem c_decomp_All (p_t p_l) (r) (h : m_decomp_All p_t p_l = some r) : Contract pl 99 [(e_api_Norm p_t), (e_L_i32 p_l)] [] (e_L_i32 r) [] := by
 refine contract_of (.t false .z (.t false .z (.t true .z .z))) Tryz.func99 rfl (by kernel_rfl) ?_
 refine cB (fun s1 : (List Int) => mkF 23 [(2, (.mp 0 0 0)), (5, (.ms 1 s1.length))] [some ⟨3, 26, (.vals [(e_api_Norm p_t)]), false, false⟩, some ⟨1, 21, (.ints .i32 s1), false, true⟩]) h ?_ ?_
 ·intro Kn10 hn10 x10 h10 h
  refine gO ?_
  refine loop_iter (fun s5 : (List Int) × Int => mkF 23 [(2, (.mp 0 0 0)), (5, (.ms 1 s5.1.length)), (8, (e_L_i32 p_l)), (9, (.int .i64 ((p_l.length : Nat) : Int))), (10, (.int .i64 s5.2))] [some ⟨3, 26, (.vals [(e_api_Norm p_t)]), false, false⟩, some ⟨1, 21, (.ints .i32 s5.1), false, true⟩]) h10 (weak_trans (weak_nil 5 1 21 (.ints .i32 []) _ rfl rfl trivial (by first | exact Nat.zero_le _ | (simp; done) | decide)) (wG [0,1])) ?_
  intro k7 s5 st7 Kn7 hn7 h7_ hs7
  refine bR h7_ ?_ ?_
  ·intro _ h7_
   refine gD2 h7_ fun h7_ => ?_
   refine cL h7_ (c_decomp_One _ _) ?_
   intro y8 h7_
   refine gO ?_
   obtain ⟨p11, h7_⟩ := grdO h7_
   refine ⟨[], y8.length, (.ints .i32 y8), ⟨rfl, rfl, fun j hj => rfl⟩, trivial, fun j hj => rfl, ?_⟩
   conv => whnf
   refine ⟨by simp [Row.len]; try omega, p11, by omega, ?_⟩
   exact AuC (pI [0,2]) hn7 hs7 h7_
  ·intro _ h7_
   have e := Option.some.inj h7_; subst e
   have e := done_out hs7; subst e
   refine gO ?_
   exact hn10 _ s5.1 h (wG [0,1])
 ·clear h
  intro s1 hc12
  refine cL hc12 (c_decomp_Order _ _) ?_
  intro y3 hc12
  exact AuF hc12
theorem c_comp_within (p_r p_from p_many) (r) (h : m_comp_within p_r p_from p_many = some r) : Contract pl 246 [(AV.int .i32 p_r), (AV.int .i32 p_from), (AV.int .i64 p_many)] [] (AV.bool r) [] := by
 refine contract_of .z Tryz.func246 rfl (by kernel_rfl) ?_
 unfold m_comp_within at h
 exact AuF h
theorem c_comp_open (p_r) (r) (h : m_comp_open p_r = some r) : Contract pl 247 [(AV.int .i32 p_r)] [] (AV.bool r) [] := by
 refine contract_of .z Tryz.func247 rfl (by kernel_rfl) ?_
 refine cL h (c_comp_within _ _ _) ?_
 intro y1 h
 refine bR h ?_ ?_
 ·intro _ h
  refine gO ?_
  refine And.intro (by decide) ?_
  exact AuF h
 ·intro _ h
  exact AuF h
theorem c_comp_hangul (p_a p_b) (r) (h : m_comp_hangul p_a p_b = some r) : Contract pl 230 [(AV.int .i32 p_a), (AV.int .i32 p_b)] [] (AV.tup [(AV.int .i32 r.1), (AV.bool r.2)]) [] := by
 refine contract_of (.t false .z (.t false (.t false (.t true .z (.t false .z (.t true .z .z))) .z) .z)) Tryz.func230 rfl (by kernel_rfl) ?_
 refine cB (fun s1 : Bool => mkF 32 [(0, (.int .i32 p_a)), (1, (.int .i32 p_b)), (6, (.bool s1))] []) h ?_ ?_
 ·intro Kn9 hn9 x9 h9 h
  refine cL h9 (c_comp_within _ _ _) ?_
  intro y7 h9
  refine bR h9 ?_ ?_
  ·intro _ h9
   refine cL h9 (c_comp_within _ _ _) ?_
   intro y8 h9
   exact AuC (pI []) hn9 h h9
  ·intro _ h9
   exact AuC (pI []) hn9 h h9
 ·clear h
  intro s1 hc10
  refine bR hc10 ?_ ?_
  ·intro _ hc10
   exact AuF hc10
  ·intro _ hc10
   refine cB (fun s3 : Bool => mkF 32 [(0, (.int .i32 p_a)), (1, (.int .i32 p_b)), (21, (.bool s3))] []) hc10 ?_ ?_
   ·intro Kn11 hn11 x11 h11 hc10
    refine cL h11 (c_comp_open _) ?_
    intro y5 h11
    refine bR h11 ?_ ?_
    ·intro _ h11
     refine cL h11 (c_comp_within _ _ _) ?_
     intro y6 h11
     exact AuC (pI []) hn11 hc10 h11
    ·intro _ h11
     exact AuC (pI []) hn11 hc10 h11
   ·clear hc10
    intro s3 hc12
    unfold m_comp_hangul_K4 at hc12
    exact AuF hc12
theorem c_cmp_isNaN_rune (p_x) (r) (h : m_cmp_isNaN_rune p_x = some r) : Contract pl 244 [(AV.int .i32 p_x)] [] (AV.bool r) [] := by
 refine contract_of .z Tryz.func244 rfl (by kernel_rfl) ?_
 unfold m_cmp_isNaN_rune at h
 exact AuF h
theorem c_cmp_Less_rune (p_x p_y) (r) (h : m_cmp_Less_rune p_x p_y = some r) : Contract pl 223 [(AV.int .i32 p_x), (AV.int .i32 p_y)] [] (AV.bool r) [] := by
 refine contract_of .z Tryz.func223 rfl (by kernel_rfl) ?_
 refine cL h (c_cmp_isNaN_rune _) ?_
 intro y1 h
 refine bR h ?_ ?_
 ·intro _ h
  refine cL h (c_cmp_isNaN_rune _) ?_
  intro y2 h
  exact AuF h
 ·intro _ h
  exact AuF h
theorem c_slices_isNaN_rune (p_x) (r) (h : m_slices_isNaN_rune p_x = some r) : Contract pl 250 [(AV.int .i32 p_x)] [] (AV.bool r) [] := by
 refine contract_of .z Tryz.func250 rfl (by kernel_rfl) ?_
 unfold m_slices_isNaN_rune at h
 exact AuF h
theorem c_slices_BinarySearch_rune_rune (p_x p_target) (r) (h : m_slices_BinarySearch_rune_rune p_x p_target = some r) : Contract pl 238 [(e_L_i32 p_x), (AV.int .i32 p_target)] [] (AV.tup [(AV.int .i64 r.1), (AV.bool r.2)]) [] := by
 refine contract_of (.t false .z (.t false .z (.t false .z (.t true .z .z)))) Tryz.func238 rfl (by kernel_rfl) ?_
 refine cB (fun s1 : Int => mkF 54 [(0, (e_L_i32 p_x)), (1, (.int .i32 p_target)), (6, (.int .i64 ((p_x.length : Nat) : Int))), (7, (.int .i64 s1))] []) h ?_ ?_
 ·intro Kn11 hn11 x11 h11 h
  refine gO ?_
  refine loop_iter (fun s6 : Int × Int => mkF 54 [(0, (e_L_i32 p_x)), (1, (.int .i32 p_target)), (6, (.int .i64 ((p_x.length : Nat) : Int))), (7, (.int .i64 s6.1)), (8, (.int .i64 s6.2))] []) h11 (wG []) ?_
  intro k8 s6 st8 Kn8 hn8 h8_ hs8
  refine bR h8_ ?_ ?_
  ·intro _ h8_
   refine gO ?_
   refine And.intro (by decide) ?_
   refine gD2 h8_ fun h8_ => ?_
   refine cL h8_ (c_cmp_Less_rune _ _) ?_
   intro y9 h8_
   exact AuC (pI []) hn8 hs8 h8_
  ·intro _ h8_
   have e := Option.some.inj h8_; subst e
   have e := done_out hs8; subst e
   refine gO ?_
   exact hn11 _ s6.1 h (wG [])
 ·clear h
  intro s1 hc12
  refine bR hc12 ?_ ?_
  ·intro _ hc12
   refine gD2 hc12 fun hc12 => ?_
   refine bR hc12 ?_ ?_
   ·intro _ hc12
    exact AuF hc12
   ·intro _ hc12
    refine gD2 hc12 fun hc12 => ?_
    refine cL hc12 (c_slices_isNaN_rune _) ?_
    intro y3 hc12
    refine bR hc12 ?_ ?_
    ·intro _ hc12
     refine cL hc12 (c_slices_isNaN_rune _) ?_
     intro y4 hc12
     exact AuF hc12
    ·intro _ hc12
     exact AuF hc12
  ·intro _ hc12
   exact AuF hc12
theorem c_decomp_Composes (p_t p_row) (r) (h : m_decomp_Composes p_t p_row = some r) : Contract pl 215 [(e_api_Norm p_t), (AV.int .i64 p_row)] [] (AV.bool r) [] := by
 refine contract_of (.t false .z (.t false (.t true .z .z) .z)) Tryz.func215 rfl (by kernel_rfl) ?_
 refine cB (fun s1 : Bool => mkF 58 [(1, (.int .i64 p_row)), (2, (.mp 0 0 0)), (26, (.bool s1))] [some ⟨3, 26, (.vals [(e_api_Norm p_t)]), false, false⟩]) h ?_ ?_
 ·intro Kn6 hn6 x6 h6 h
  exact AuC (pI [0]) hn6 h h6
 ·clear h
  intro s1 hc7
  refine bR hc7 ?_ ?_
  ·intro _ hc7
   exact AuF hc7
  ·intro _ hc7
   refine gD2 hc7 fun hc7 => ?_
   refine cL hc7 (c_slices_BinarySearch_rune_rune _ _) ?_
   intro y3 hc7
   refine bR hc7 ?_ ?_
   ·intro _ hc7
    refine cL hc7 (c_decomp_Class _ _) ?_
    intro y4 hc7
    refine bR hc7 ?_ ?_
    ·intro _ hc7
     refine gD2 hc7 fun hc7 => ?_
     refine cL hc7 (c_decomp_Class _ _) ?_
     intro y5 hc7
     exact AuF hc7
    ·intro _ hc7
     exact AuF hc7
   ·intro _ hc7
    exact AuF hc7
theorem c_comp_Pair (p_t p_a p_b) (r) (h : m_comp_Pair p_t p_a p_b = some r) : Contract pl 190 [(e_api_Norm p_t), (AV.int .i32 p_a), (AV.int .i32 p_b)] [] (AV.tup [(AV.int .i32 r.1), (AV.bool r.2)]) [] := by
 refine contract_of (.t false .z (.t false .z (.t true (.t false .z (.t false (.t false (.t false .z (.t false .z (.t false (.t false (.t false .z (.t true .z .z)) .z) .z))) .z) .z)) .z))) Tryz.func190 rfl (by kernel_rfl) ?_
 refine cL h (c_comp_hangul _ _) ?_
 intro y1 h
 refine bR h ?_ ?_
 ·intro _ h
  exact AuF h
 ·intro _ h
  refine gO ?_
  refine bnd h (fun x14 h14 h => ?_)
  refine cut_at (fun s2 : Unit => mkF 56 [] []) (fun s2 : Unit => some ((0 : Int), false) = some r) ?_ ?_
  ·intro Kn14 hn14
   refine gO ?_
   refine loop_iter (fun s5 : Int => mkF 56 [(1, (.int .i32 p_a)), (2, (.int .i32 p_b)), (3, (.mp 0 0 0)), (21, (e_L_api_Row p_t.f_Rows)), (22, (.int .i64 ((p_t.f_Rows.length : Nat) : Int))), (23, (.int .i64 s5))] [some ⟨3, 26, (.vals [(e_api_Norm p_t)]), false, false⟩]) h14 (wG [0]) ?_
   intro k7 s5 st7 Kn7 hn7 h7_ hs7
   refine bR h7_ ?_ ?_
   ·intro _ h7_
    refine gD2 h7_ fun h7_ => ?_
    refine cB (fun s8 : Bool => mkF 56 [(1, (.int .i32 p_a)), (2, (.int .i32 p_b)), (3, (.mp 0 0 0)), (11, (.mp 1 0 0)), (21, (e_L_api_Row p_t.f_Rows)), (22, (.int .i64 ((p_t.f_Rows.length : Nat) : Int))), (23, (.int .i64 s5)), (52, (.bool s8))] [some ⟨3, 26, (.vals [(e_api_Norm p_t)]), false, false⟩, some ⟨2, 96, (.vals [(e_api_Row (p_t.f_Rows.getD (s5.toNat) d_api_Row))]), false, false⟩]) h7_ ?_ ?_
    ·intro Kn15 hn15 x15 h15 h7_
     refine bR h15 ?_ ?_
     ·intro _ h15
      refine gD2 h15 fun h15 => ?_
      refine bR h15 ?_ ?_
      ·intro _ h15
       refine gD2 h15 fun h15 => ?_
       refine bR h15 ?_ ?_
       ·intro _ h15
        refine cL h15 (c_decomp_Composes _ _) ?_
        intro y10 h15
        exact AuC (pI [0,1]) hn15 h7_ h15
       ·intro _ h15
        exact AuC (pI [0,1]) hn15 h7_ h15
      ·intro _ h15
       exact AuC (pI [0,1]) hn15 h7_ h15
     ·intro _ h15
      exact AuC (pI [0,1]) hn15 h7_ h15
    ·clear h7_
     intro s8 hc16
     refine bR hc16 ?_ ?_
     ·intro _ hc16
      have e := Option.some.inj hc16; subst e
      have e := done_out hs7; subst e
      exact AuF h
     ·intro _ hc16
      exact AuC (pI [0]) hn7 hs7 hc16
   ·intro _ h7_
    have e := Option.some.inj h7_; subst e
    have e := done_out hs7; subst e
    refine gO ?_
    exact hn14 _ () h (wG [])
  ·clear h h14
   intro s2 hc17
   exact AuF hc17
theorem c_comp_row_add_own (p_w_0 p_w_1 p_w_2 p_w_3 p_w_4 p_w_5 p_r) (r) (h : m_comp_row_add_own p_w_0 p_w_1 p_w_2 p_w_3 p_w_4 p_w_5 p_r = some r) : ContractM 1 pl 145 [(.mp 0 0 0), (.int .i32 p_r)] [some ⟨6, 193, (.vals [(.agg [(e_L_api_Row p_w_0), (e_L_api_Range p_w_1), (e_L_i32 p_w_2), (.ms 1 p_w_3.length), (.int .i64 p_w_4), (.int .i64 p_w_5)])]), false, false⟩, some ⟨1, 21, (.ints .i32 p_w_3), false, true⟩] (.tup []) [some ⟨6, 193, (.vals [(.agg [(e_L_api_Row r.1), (e_L_api_Range r.2.1), (e_L_i32 r.2.2.1), (.ms 1 r.2.2.2.1.length), (.int .i64 r.2.2.2.2.1), (.int .i64 r.2.2.2.2.2)])]), false, false⟩, some ⟨1, 21, (.ints .i32 r.2.2.2.1), false, true⟩] := by
 refine contract_own 1 (.t false .z (.t false .z (.t true (.t true .z .z) .z))) rfl Tryz.func145 rfl (by kernel_rfl) ?_
 refine cL h (c_decomp_Class _ _) ?_
 intro y1 h
 refine gO ?_
 refine bnd h (fun x8 h8 h => ?_)
 refine cut_at (fun s2 : Unit => mkF 104 [(0, (.mp 0 0 0)), (1, (.int .i32 p_r)), (4, (.int .i64 y1))] [some ⟨6, 193, (.vals [(.agg [(e_L_api_Row p_w_0), (e_L_api_Range p_w_1), (e_L_i32 p_w_2), (.ms 1 p_w_3.length), (.int .i64 p_w_4), (.int .i64 p_w_5)])]), false, false⟩, some ⟨1, 21, (.ints .i32 p_w_3), false, true⟩]) (fun s2 : Unit => m_comp_row_add_own_K3 p_w_0 p_w_1 p_w_2 p_w_3 p_w_4 p_w_5 p_r y1 s2 = some r) ?_ ?_
 ·intro Kn8 hn8
  refine cB (fun s4 : Bool => mkF 104 [(0, (.mp 0 0 0)), (1, (.int .i32 p_r)), (4, (.int .i64 y1)), (40, (.bool s4))] [some ⟨6, 193, (.vals [(.agg [(e_L_api_Row p_w_0), (e_L_api_Range p_w_1), (e_L_i32 p_w_2), (.ms 1 p_w_3.length), (.int .i64 p_w_4), (.int .i64 p_w_5)])]), false, false⟩, some ⟨1, 21, (.ints .i32 p_w_3), false, true⟩]) h8 ?_ ?_
  ·intro Kn9 hn9 x9 h9 h8
   exact AuC (pI [0,1]) hn9 h8 h9
  ·clear h8
   intro s4 hc10
   refine bR hc10 ?_ ?_
   ·intro _ hc10
    refine gD2 hc10 fun hc10 => ?_
    refine cL hc10 (c_comp_Pair _ _ _) ?_
    intro y6 hc10
    refine bR hc10 ?_ ?_
    ·intro _ hc10
     refine gD2 hc10 fun hc10 => ?_
     have e := Option.some.inj hc10; subst e
     exact AuX (pI [0,1]) h
    ·intro _ hc10
     exact AuC (pI [0,1]) hn8 h hc10
   ·intro _ hc10
    exact AuC (pI [0,1]) hn8 h hc10
 ·clear h h8
  intro s2 hc11
  refine gO ?_
  obtain ⟨p12, hc11⟩ := grdO hc11
  refine ⟨[], 1, (.ints .i32 [p_r]), ⟨by simp [Row.len] <;> omega, rfl, _, rfl, by simp [Row.len] <;> omega, fun j hj => .inl rfl⟩, trivial, fun j hj => rfl, ?_⟩
  conv => whnf
  refine ⟨by simp [Row.len]; try omega, p12, by omega, ?_⟩
  exact AuX (pI [0,3]) hc11
theorem c_comp_Put (p_t p_l) (r) (h : m_comp_Put p_t p_l = some r) : Contract pl 98 [(e_api_Norm p_t), (e_L_i32 p_l)] [] (e_L_i32 r) [] := by
 refine contract_of (.t false .z (.t false .z (.t false .z (.t true .z .z)))) Tryz.func98 rfl (by kernel_rfl) ?_
 refine cB (fun s1 : (List T_api_Row) × (List T_api_Range) × (List Int) × (List Int) × Int × Int => mkF 28 [(5, (.mp 0 0 0))] [some ⟨6, 193, (.vals [(.agg [(e_L_api_Row s1.1), (e_L_api_Range s1.2.1), (e_L_i32 s1.2.2.1), (.ms 1 s1.2.2.2.1.length), (.int .i64 s1.2.2.2.2.1), (.int .i64 s1.2.2.2.2.2)])]), false, false⟩, some ⟨1, 21, (.ints .i32 s1.2.2.2.1), false, true⟩]) h ?_ ?_
 ·intro Kn9 hn9 x9 h9 h
  refine gO ?_
  refine loop_iter (fun s4 : (List T_api_Row) × (List T_api_Range) × (List Int) × (List Int) × Int × Int × Int => mkF 28 [(5, (.mp 0 0 0)), (6, (.fn (.func 145) [(.mp 0 0 0)] [])), (14, (e_L_i32 p_l)), (15, (.int .i64 ((p_l.length : Nat) : Int))), (16, (.int .i64 s4.2.2.2.2.2.2))] [some ⟨6, 193, (.vals [(.agg [(e_L_api_Row s4.1), (e_L_api_Range s4.2.1), (e_L_i32 s4.2.2.1), (.ms 1 s4.2.2.2.1.length), (.int .i64 s4.2.2.2.2.1), (.int .i64 s4.2.2.2.2.2.1)])]), false, false⟩, some ⟨1, 21, (.ints .i32 s4.2.2.2.1), false, true⟩]) h9 (weak_trans (weak_nilc 1 0 3 _ [(.agg [(e_L_api_Row p_t.f_Rows), (e_L_api_Range p_t.f_Classes), (e_L_i32 p_t.f_Excluded), (.sl (some true) 0 fun _ => .unk), (.int .i64 (-1 : Int)), (.int .i64 (0 : Int))])] [(e_L_api_Row p_t.f_Rows), (e_L_api_Range p_t.f_Classes), (e_L_i32 p_t.f_Excluded), (.sl (some true) 0 fun _ => .unk), (.int .i64 (-1 : Int)), (.int .i64 (0 : Int))] 1 21 (.ints .i32 []) _ rfl rfl rfl rfl rfl trivial (by first | exact Nat.zero_le _ | simp)) (wG [1,2])) ?_
  intro k6 s4 st6 Kn6 hn6 h6_ hs6
  refine bR h6_ ?_ ?_
  ·intro _ h6_
   refine gD2 h6_ fun h6_ => ?_
   refine gO ?_
   refine bnd h6_ (fun y7 hy7 h6_ => ?_)
   refine Or.inr (own_intro (oC [0,1] (c_comp_row_add_own _ _ _ _ _ _ _ _ hy7)) ?_)
   exact AuC (pI [0,2]) hn6 hs6 h6_
  ·intro _ h6_
   have e := Option.some.inj h6_; subst e
   have e := done_out hs6; subst e
   refine gO ?_
   exact hn9 _ (s4.1, s4.2.1, s4.2.2.1, s4.2.2.2.1, s4.2.2.2.2.1, s4.2.2.2.2.2.1) h (wG [0,1])
 ·clear h
  intro s1 hc10
  exact AuF hc10
theorem c_comp_All (p_t p_l) (r) (h : m_comp_All p_t p_l = some r) : Contract pl 48 [(e_api_Norm p_t), (e_L_i32 p_l)] [] (e_L_i32 r) [] := by
 refine contract_of .z Tryz.func48 rfl (by kernel_rfl) ?_
 refine cL h (c_decomp_All _ _) ?_
 intro y1 h
 refine cL h (c_comp_Put _ _) ?_
 intro y2 h
 exact AuF h
theorem c_label_Small (p_t p_l) (r) (h : m_label_Small p_t p_l = some r) : Contract pl 18 [(e_api_Tables p_t), (e_L_i32 p_l)] [] (e_L_i32 r) [] := by
 refine contract_of (.t false .z (.t false .z (.t true .z .z))) Tryz.func18 rfl (by kernel_rfl) ?_
 refine gO ?_
 obtain ⟨p11, h⟩ := grdO h
 refine ⟨rfl, p11.1, p11.2.1, p11.2.2, ?_⟩
 refine cB (fun s1 : (List Int) => mkF 41 [(2, (.mp 0 0 0)), (5, (.ms 1 s1.length))] [some ⟨15, 31, (.vals [(e_api_Tables p_t)]), false, false⟩, some ⟨1, 21, (.ints .i32 s1), false, false⟩]) h ?_ ?_
 ·intro Kn12 hn12 x12 h12 h
  refine gO ?_
  refine loop_iter (fun s5 : (List Int) × Int => mkF 41 [(2, (.mp 0 0 0)), (5, (.ms 1 s5.1.length)), (11, (e_L_i32 p_l)), (12, (.int .i64 ((p_l.length : Nat) : Int))), (13, (.int .i64 s5.2))] [some ⟨15, 31, (.vals [(e_api_Tables p_t)]), false, false⟩, some ⟨1, 21, (.ints .i32 s5.1), false, false⟩]) h12 (wG [0,1]) ?_
  intro k7 s5 st7 Kn7 hn7 h7_ hs7
  refine bR h7_ ?_ ?_
  ·intro _ h7_
   refine gD2 h7_ fun h7_ => ?_
   refine cL h7_ (c_label_capital _) ?_
   intro y8 h7_
   refine bR h7_ ?_ ?_
   ·intro _ h7_
    exact AuC (pI [0,1]) hn7 hs7 h7_
   ·intro _ h7_
    refine cL h7_ (c_label_lower _ _) ?_
    intro y9 h7_
    exact AuC (pI [0,1]) hn7 hs7 h7_
  ·intro _ h7_
   have e := Option.some.inj h7_; subst e
   have e := done_out hs7; subst e
   refine gO ?_
   exact hn12 _ s5.1 h (wG [0,1])
 ·clear h
  intro s1 hc13
  refine gO ?_
  refine bnd hc13 (fun y3 hy3 hc13 => ?_)
  refine Or.inl ⟨_, contract_le (c_comp_All _ _ _ hy3) (argsLe.cons (AV.Le.refl _) (argsLe.cons (AV.Le.sl_any) argsLe.nil)), rfl, ?_⟩
  exact AuF hc13
theorem c_utf_Right (p_r) (r) (h : m_utf_Right p_r = some r) : Contract pl 116 [(AV.int .i32 p_r)] [] (AV.bool r) [] := by
 refine contract_of .z Tryz.func116 rfl (by kernel_rfl) ?_
 unfold m_utf_Right at h
 exact AuF h
theorem c_utf_Width (p_r) (r) (h : m_utf_Width p_r = some r) : Contract pl 168 [(AV.int .i32 p_r)] [] (AV.int .i64 r) [] := by
 refine contract_of .z Tryz.func168 rfl (by kernel_rfl) ?_
 refine cL h (c_utf_Right _) ?_
 intro y1 h
 exact AuF h
theorem c_strings_Builder_copyCheck_own (p_b_0 p_b_1) (r) (h : m_strings_Builder_copyCheck_own p_b_0 p_b_1 = some r) : ContractM 2 pl 186 [(.mp 0 0 0)] [some ⟨2, 151, (.vals [(.agg [(.mpn 0 0 0 p_b_0), (.ms 1 p_b_1.length)])]), false, false⟩, some ⟨1, 5, (.ints .u8 p_b_1), false, true⟩] (.tup []) [some ⟨2, 151, (.vals [(.agg [(.mpn 0 0 0 r), (.ms 1 p_b_1.length)])]), false, false⟩, some ⟨1, 5, (.ints .u8 p_b_1), false, true⟩] := by
 refine contract_own 2 .z rfl Tryz.func186 rfl (by kernel_rfl) ?_
 refine bR h ?_ ?_
 ·intro _ h
  refine gO ?_
  refine And.intro same_NoEscape ?_
  exact AuX (pI [0,1]) h
 ·intro _ h
  exact AuX (pI [0,1]) h
theorem c_strings_Builder_WriteByte_own (p_b_0 p_b_1 p_c) (r) (h : m_strings_Builder_WriteByte_own p_b_0 p_b_1 p_c = some r) : ContractM 1 pl 137 [(.mp 0 0 0), (.int .u8 p_c)] [some ⟨2, 151, (.vals [(.agg [(.mpn 0 0 0 p_b_0), (.ms 1 p_b_1.length)])]), false, false⟩, some ⟨1, 5, (.ints .u8 p_b_1), false, true⟩] (.err r.2.2) [some ⟨2, 151, (.vals [(.agg [(.mpn 0 0 0 r.1), (.ms 1 r.2.1.length)])]), false, false⟩, some ⟨1, 5, (.ints .u8 r.2.1), false, true⟩] := by
 refine contract_own 1 .z rfl Tryz.func137 rfl (by kernel_rfl) ?_
 refine gO ?_
 refine bnd h (fun y1 hy1 h => ?_)
 refine own_intro (oC [0,1] (c_strings_Builder_copyCheck_own _ _ _ hy1)) ?_
 refine gO ?_
 obtain ⟨p2, h⟩ := grdO h
 refine ⟨[], 1, (.ints .u8 [p_c]), ⟨by simp [Row.len] <;> omega, rfl, _, rfl, by simp [Row.len] <;> omega, fun j hj => .inl rfl⟩, trivial, fun j hj => rfl, ?_⟩
 conv => whnf
 refine ⟨by simp [Row.len]; try omega, p2, by omega, ?_⟩
 exact AuX (pI [0,3]) h
theorem c_utf_put_own (p_b_0 p_b_1 p_r) (r) (h : m_utf_put_own p_b_0 p_b_1 p_r = some r) : ContractM 1 pl 118 [(.mp 0 0 0), (.int .i32 p_r)] [some ⟨2, 151, (.vals [(.agg [(.mpn 0 0 0 p_b_0), (.ms 1 p_b_1.length)])]), false, false⟩, some ⟨1, 5, (.ints .u8 p_b_1), false, true⟩] (.tup []) [some ⟨2, 151, (.vals [(.agg [(.mpn 0 0 0 r.1), (.ms 1 r.2.length)])]), false, false⟩, some ⟨1, 5, (.ints .u8 r.2), false, true⟩] := by
 refine contract_own 1 .z rfl Tryz.func118 rfl (by kernel_rfl) ?_
 refine cL h (c_utf_Width _) ?_
 intro y4 h
 refine bR h ?_ ?_
 ·intro _ h
  refine gO ?_
  refine bnd h (fun y5 hy5 h => ?_)
  refine own_intro (oC [0,1] (c_strings_Builder_WriteByte_own _ _ _ _ hy5)) ?_
  exact AuX (pI [0,2]) h
 ·intro _ h
  refine gD1 h fun h => ?_
  refine gD1 h fun h => ?_
  refine gO ?_
  refine bnd h (fun y6 hy6 h => ?_)
  refine own_intro (oC [0,1] (c_strings_Builder_WriteByte_own _ _ _ _ hy6)) ?_
  refine lB (fun s8 : Bool × (List Int) × Int => mkF 41 [(0, (.mp 0 0 0)), (1, (.int .i32 p_r)), (5, (.int .i64 s8.2.2))] [some ⟨2, 151, (.vals [(.agg [(.mpn 0 0 0 s8.1), (.ms 1 s8.2.1.length)])]), false, false⟩, some ⟨1, 5, (.ints .u8 s8.2.1), false, true⟩]) h ?_ ?_
  ·exact wG [0,2]
  intro x10 h k10 s8 st10 Kn10 hn10 h10 hs10
  refine bR h10 ?_ ?_
  ·intro _ h10
   refine gD1 h10 fun h10 => ?_
   refine gO ?_
   refine bnd h10 (fun y11 hy11 h10 => ?_)
   refine own_intro (oC [0,1] (c_strings_Builder_WriteByte_own _ _ _ _ hy11)) ?_
   exact AuC (pI [0,2]) hn10 hs10 h10
  ·intro _ h10
   have e := Option.some.inj h10; subst e
   have e := done_out hs10; subst e
   exact AuX (pI [0,1]) h
theorem c_strings_Builder_String_own (p_b_0 p_b_1) (r) (h : m_strings_Builder_String_own p_b_0 p_b_1 = some r) : ContractM 2 pl 119 [(.mp 0 0 0)] [some ⟨2, 151, (.vals [(.agg [(.mpn 0 0 0 p_b_0), (.ms 1 p_b_1.length)])]), false, false⟩, some ⟨1, 5, (.ints .u8 p_b_1), false, true⟩] (.str r.2.2) [some ⟨2, 151, (.vals [(.agg [(.mpn 0 0 0 r.1), (.ms 1 r.2.1.length)])]), false, false⟩, some ⟨1, 5, (.ints .u8 r.2.1), true, true⟩] := by
 refine contract_own 2 .z rfl Tryz.func119 rfl (by kernel_rfl) ?_
 refine gO ?_
 refine And.intro (by first | exact Nat.le_refl _ | (simp [Row.len]; try omega)) ?_
 refine gO ?_
 obtain ⟨p1, h⟩ := grdO h
 refine And.intro (by first | rfl | simp) (And.intro (by simp) (And.intro p1 ?_))
 exact AuX (pI [0,1]) h
theorem c_utf_Encode (p_l) (r) (h : m_utf_Encode p_l = some r) : Contract pl 63 [(e_L_i32 p_l)] [] (AV.tup [(AV.str r.1), (AV.err r.2)]) [] := by
 refine contract_of (.t false .z (.t false .z (.t true .z .z))) Tryz.func63 rfl (by kernel_rfl) ?_
 refine gO ?_
 refine bnd h (fun x14 h14 h => ?_)
 refine cut_at (fun s1 : Bool × (List Int) => mkF 24 [(4, (.mp 0 0 0))] [some ⟨2, 151, (.vals [(.agg [(.mpn 0 0 0 s1.1), (.ms 1 s1.2.length)])]), false, false⟩, some ⟨1, 5, (.ints .u8 s1.2), false, true⟩]) (fun s1 : Bool × (List Int) => m_utf_Encode_K2 s1 = some r) ?_ ?_
 ·intro Kn14 hn14
  refine gO ?_
  refine loop_iter (fun s5 : Bool × (List Int) × Int => mkF 24 [(4, (.mp 0 0 0)), (7, (e_L_i32 p_l)), (8, (.int .i64 ((p_l.length : Nat) : Int))), (9, (.int .i64 s5.2.2))] [some ⟨2, 151, (.vals [(.agg [(.mpn 0 0 0 s5.1), (.ms 1 s5.2.1.length)])]), false, false⟩, some ⟨1, 5, (.ints .u8 s5.2.1), false, true⟩]) h14 (weak_trans (weak_nilc 0 0 1 _ [(.agg [.nilp, (.sl (some true) 0 fun _ => .unk)])] [.nilp, (.sl (some true) 0 fun _ => .unk)] 1 5 (.ints .u8 []) _ rfl rfl rfl rfl rfl trivial (by first | exact Nat.zero_le _ | simp)) (wG [0,1])) ?_
  intro k7 s5 st7 Kn7 hn7 h7_ hs7
  refine bR h7_ ?_ ?_
  ·intro _ h7_
   refine gD2 h7_ fun h7_ => ?_
   refine cL h7_ (c_utf_Right _) ?_
   intro y8 h7_
   refine bR h7_ ?_ ?_
   ·intro _ h7_
    refine cL h7_ (c_utf_fault _ _) ?_
    intro y9 h7_
    have e := Option.some.inj h7_; subst e
    have e := done_out hs7; subst e
    exact AuF h
   ·intro _ h7_
    refine gO ?_
    refine bnd h7_ (fun y10 hy10 h7_ => ?_)
    refine own_intro (oC [0,1] (c_utf_put_own _ _ _ _ hy10)) ?_
    exact AuC (pI [0,2]) hn7 hs7 h7_
  ·intro _ h7_
   have e := Option.some.inj h7_; subst e
   have e := done_out hs7; subst e
   refine gO ?_
   exact hn14 _ (s5.1, s5.2.1) h (wG [0,1])
 ·clear h h14
  intro s1 hc15
  refine gO ?_
  refine bnd hc15 (fun y3 hy3 hc15 => ?_)
  refine own_intro (oC [0,1] (c_strings_Builder_String_own _ _ _ hy3)) ?_
  refine gO ?_
  obtain ⟨p16, hc15⟩ := grdO hc15
  exact AuF hc15
theorem c_internal_stringslite_HasPrefix (p_s p_prefix) (r) (h : m_internal_stringslite_HasPrefix p_s p_prefix = some r) : Contract pl 120 [(AV.str p_s), (AV.str p_prefix)] [] (AV.bool r) [] := by
 refine contract_of .z Tryz.func120 rfl (by kernel_rfl) ?_
 unfold m_internal_stringslite_HasPrefix at h
 exact AuF h
theorem c_strings_HasPrefix (p_s p_prefix) (r) (h : m_strings_HasPrefix p_s p_prefix = some r) : Contract pl 64 [(AV.str p_s), (AV.str p_prefix)] [] (AV.bool r) [] := by
 refine contract_of .z Tryz.func64 rfl (by kernel_rfl) ?_
 refine cL h (c_internal_stringslite_HasPrefix _ _) ?_
 intro y1 h
 exact AuF h
theorem c_label_fault (p_at p_e) (r) (h : m_label_fault p_at p_e = some r) : Contract pl 42 [(AV.int .i64 p_at), (AV.err p_e)] [] (AV.err r) [] := by
 refine contract_of .z Tryz.func42 rfl (by kernel_rfl) ?_
 unfold m_label_fault at h
 exact AuF h
theorem c_label_unlike (p_a p_b) (r) (h : m_label_unlike p_a p_b = some r) : Contract pl 47 [(e_L_i32 p_a), (e_L_i32 p_b)] [] (AV.int .i64 r) [] := by
 refine contract_of (.t false .z (.t false .z (.t true (.t false (.t false (.t false (.t true .z .z) .z) .z) .z) (.t false (.t true .z .z) .z)))) Tryz.func47 rfl (by kernel_rfl) ?_
 refine cB (fun s1 : Int => mkF 40 [(0, (e_L_i32 p_a)), (1, (e_L_i32 p_b)), (5, (.int .i64 s1))] []) h ?_ ?_
 ·intro Kn12 hn12 x12 h12 h
  refine gO ?_
  refine loop_iter (fun s6 : Int => mkF 40 [(0, (e_L_i32 p_a)), (1, (e_L_i32 p_b)), (5, (.int .i64 s6))] []) h12 (wG []) ?_
  intro k8 s6 st8 Kn8 hn8 h8_ hs8
  refine cB (fun s9 : Bool => mkF 40 [(0, (e_L_i32 p_a)), (1, (e_L_i32 p_b)), (5, (.int .i64 s6)), (26, (.bool s9))] []) h8_ ?_ ?_
  ·intro Kn13 hn13 x13 h13 h8_
   exact AuC (pI []) hn13 h8_ h13
  ·clear h8_
   intro s9 hc14
   refine bR hc14 ?_ ?_
   ·intro _ hc14
    exact AuC (pI []) hn8 hs8 hc14
   ·intro _ hc14
    have e := Option.some.inj hc14; subst e
    have e := done_out hs8; subst e
    refine gO ?_
    exact hn12 _ s6 h (wG [])
 ·clear h
  intro s1 hc15
  refine cB (fun s3 : Bool => mkF 40 [(5, (.int .i64 s1)), (38, (.bool s3))] []) hc15 ?_ ?_
  ·intro Kn16 hn16 x16 h16 hc15
   exact AuC (pI []) hn16 hc15 h16
  ·clear hc15
   intro s3 hc17
   unfold m_label_unlike_K4 at hc17
   exact AuF hc17
theorem c_label_Check_2 (p_a0 p_a1) (r) (h : m_label_Check_2 p_a0 p_a1 = some r) : Contract pl 46 [(AV.ip (e_L_i32 p_a0) 0), (AV.ip (e_api_Tables p_a1) 0)] [] (AV.int .i64 r) [] := by
 refine contract_of .z Tryz.func46 rfl (by kernel_rfl) ?_
 refine cL h (c_comp_All _ _) ?_
 intro y1 h
 refine cL h (c_label_unlike _ _) ?_
 intro y2 h
 exact AuF h
theorem c_label_hyphens (p_l) (r) (h : m_label_hyphens p_l = some r) : Contract pl 50 [(e_L_i32 p_l)] [] (AV.int .i64 r) [] := by
 refine contract_of (.t false .z (.t false (.t false (.t false .z (.t false .z (.t false .z (.t false .z (.t true .z .z))))) .z) .z)) Tryz.func50 rfl (by kernel_rfl) ?_
 refine gD2 h fun h => ?_
 refine bR h ?_ ?_
 ·intro _ h
  exact AuF h
 ·intro _ h
  refine gD2 h fun h => ?_
  refine bR h ?_ ?_
  ·intro _ h
   exact AuF h
  ·intro _ h
   refine cB (fun s1 : Bool => mkF 35 [(19, (.bool s1))] []) h ?_ ?_
   ·intro Kn3 hn3 x3 h3 h
    exact AuC (pI []) hn3 h h3
   ·clear h
    intro s1 hc4
    unfold m_label_hyphens_K2 at hc4
    exact AuF hc4
theorem c_label_Check_3 (p_a0) (r) (h : m_label_Check_3 p_a0 = some r) : Contract pl 49 [(AV.ip (e_L_i32 p_a0) 0)] [] (AV.int .i64 r) [] := by
 refine contract_of .z Tryz.func49 rfl (by kernel_rfl) ?_
 refine cL h (c_label_hyphens _) ?_
 intro y1 h
 exact AuF h
theorem c_classes_in (p_l p_r) (r) (h : m_classes_in p_l p_r = some r) : Contract pl 148 [(e_L_api_Range p_l), (AV.int .i32 p_r)] [] (AV.bool r) [] := by
 refine contract_of .z Tryz.func148 rfl (by kernel_rfl) ?_
 refine cL h (c_ranges_Find _ _) ?_
 intro y1 h
 exact AuF h
theorem c_classes_Mark (p_p p_r) (r) (h : m_classes_Mark p_p p_r = some r) : Contract pl 100 [(e_api_Props p_p), (AV.int .i32 p_r)] [] (AV.bool r) [] := by
 refine contract_of .z Tryz.func100 rfl (by kernel_rfl) ?_
 refine cL h (c_classes_in _ _) ?_
 intro y1 h
 exact AuF h
theorem c_classes_Why_1 (p_l p_a1) (r) (h : m_classes_Why_1 p_l p_a1 = some r) : Contract pl 197 [(e_L_api_Range p_l), (AV.ip (AV.int .i32 p_a1) 0)] [] (AV.bool r) [] := by
 refine contract_of .z Tryz.func197 rfl (by kernel_rfl) ?_
 refine cL h (c_classes_in _ _) ?_
 intro y1 h
 exact AuF h
theorem c_classes_ldh (p_r) (r) (h : m_classes_ldh p_r = some r) : Contract pl 198 [(AV.int .i32 p_r)] [] (AV.bool r) [] := by
 refine contract_of .z Tryz.func198 rfl (by kernel_rfl) ?_
 unfold m_classes_ldh at h
 exact AuF h
theorem c_classes_Why (p_p p_r) (r) (h : m_classes_Why p_p p_r = some r) : Contract pl 149 [(e_api_Props p_p), (AV.int .i32 p_r)] [] (AV.int .i64 r) [] := by
 refine contract_of .z Tryz.func149 rfl (by kernel_rfl) ?_
 refine cL h (c_utf_Right _) ?_
 intro y1 h
 refine bR h ?_ ?_
 ·intro _ h
  exact AuF h
 ·intro _ h
  refine cL h (c_classes_Why_1 _ _) ?_
  intro y2 h
  refine bR h ?_ ?_
  ·intro _ h
   exact AuF h
  ·intro _ h
   refine cL h (c_classes_Why_1 _ _) ?_
   intro y3 h
   refine bR h ?_ ?_
   ·intro _ h
    exact AuF h
   ·intro _ h
    refine cL h (c_classes_ldh _) ?_
    intro y4 h
    refine bR h ?_ ?_
    ·intro _ h
     exact AuF h
    ·intro _ h
     refine cL h (c_classes_Why_1 _ _) ?_
     intro y5 h
     refine bR h ?_ ?_
     ·intro _ h
      exact AuF h
     ·intro _ h
      refine cL h (c_classes_Why_1 _ _) ?_
      intro y6 h
      refine bR h ?_ ?_
      ·intro _ h
       exact AuF h
      ·intro _ h
       refine cL h (c_classes_Why_1 _ _) ?_
       intro y7 h
       refine bR h ?_ ?_
       ·intro _ h
        exact AuF h
       ·intro _ h
        refine cL h (c_classes_Why_1 _ _) ?_
        intro y8 h
        refine bR h ?_ ?_
        ·intro _ h
         exact AuF h
        ·intro _ h
         refine cL h (c_classes_Why_1 _ _) ?_
         intro y9 h
         exact AuF h
theorem c_classes_Of (p_p p_r) (r) (h : m_classes_Of p_p p_r = some r) : Contract pl 103 [(e_api_Props p_p), (AV.int .i32 p_r)] [] (AV.int .i64 r) [] := by
 refine contract_of .z Tryz.func103 rfl (by kernel_rfl) ?_
 refine cL h (c_classes_Why _ _) ?_
 intro y1 h
 refine bR h ?_ ?_
 ·intro _ h
  refine cL h (c_ranges_Find _ _) ?_
  intro y2 h
  exact AuF h
 ·intro _ h
  exact AuF h
theorem c_label_plain (p_r) (r) (h : m_label_plain p_r = some r) : Contract pl 57 [(AV.int .i32 p_r)] [] (AV.bool r) [] := by
 refine contract_of .z Tryz.func57 rfl (by kernel_rfl) ?_
 unfold m_label_plain at h
 exact AuF h
theorem c_label_odd (p_r) (r) (h : m_label_odd p_r = some r) : Contract pl 104 [(AV.int .i32 p_r)] [] (AV.bool r) [] := by
 refine contract_of .z Tryz.func104 rfl (by kernel_rfl) ?_
 refine cL h (c_label_plain _) ?_
 intro y1 h
 exact AuF h
theorem c_label_bad_1 (p_r p_a1) (r) (h : m_label_bad_1 p_r p_a1 = some r) : Contract pl 102 [(AV.int .i32 p_r), (AV.ip (e_api_Tables p_a1) 0)] [] (AV.bool r) [] := by
 refine contract_of .z Tryz.func102 rfl (by kernel_rfl) ?_
 refine cL h (c_label_lower _ _) ?_
 intro y1 h
 refine cL h (c_classes_Of _ _) ?_
 intro y2 h
 refine cL h (c_label_odd _) ?_
 intro y3 h
 exact AuF h
theorem c_slices_IndexFunc_rune_rune_label_bad_1 (p_s p_f) (r) (h : m_slices_IndexFunc_rune_rune_label_bad_1 p_s p_f = some r) : Contract pl 101 [(e_L_i32 p_s), (AV.fn (.func 102) [] [(AV.ip (e_api_Tables p_f) 0)])] [] (AV.int .i64 r) [] := by
 refine contract_of (.t false .z (.t true .z .z)) Tryz.func101 rfl (by kernel_rfl) ?_
 refine gO ?_
 refine bnd h (fun x11 h11 h => ?_)
 refine cut_at (fun s1 : Unit => mkF 19 [] []) (fun s1 : Unit => some (-1 : Int) = some r) ?_ ?_
 ·intro Kn11 hn11
  refine gO ?_
  refine loop_iter (fun s4 : Int => mkF 19 [(0, (e_L_i32 p_s)), (1, (.fn (.func 102) [] [(.ip (e_api_Tables p_f) 0)])), (7, (.int .i64 ((p_s.length : Nat) : Int))), (8, (.int .i64 s4))] []) h11 (wG []) ?_
  intro k6 s4 st6 Kn6 hn6 h6_ hs6
  refine bR h6_ ?_ ?_
  ·intro _ h6_
   refine gD2 h6_ fun h6_ => ?_
   refine cL h6_ (c_label_bad_1 _ _) ?_
   intro y7 h6_
   refine bR h6_ ?_ ?_
   ·intro _ h6_
    have e := Option.some.inj h6_; subst e
    have e := done_out hs6; subst e
    exact AuF h
   ·intro _ h6_
    exact AuC (pI []) hn6 hs6 h6_
  ·intro _ h6_
   have e := Option.some.inj h6_; subst e
   have e := done_out hs6; subst e
   refine gO ?_
   exact hn11 _ () h (wG [])
 ·clear h h11
  intro s1 hc12
  exact AuF hc12
theorem c_label_bad (p_t p_l) (r) (h : m_label_bad p_t p_l = some r) : Contract pl 52 [(e_api_Tables p_t), (e_L_i32 p_l)] [] (AV.int .i64 r) [] := by
 refine contract_of .z Tryz.func52 rfl (by kernel_rfl) ?_
 refine gD2 h fun h => ?_
 refine cL h (c_classes_Mark _ _) ?_
 intro y1 h
 refine bR h ?_ ?_
 ·intro _ h
  exact AuF h
 ·intro _ h
  refine cL h (c_slices_IndexFunc_rune_rune_label_bad_1 _ _) ?_
  intro y2 h
  exact AuF h
theorem c_label_Check_4 (p_a0 p_a1) (r) (h : m_label_Check_4 p_a0 p_a1 = some r) : Contract pl 51 [(AV.ip (e_api_Tables p_a0) 0), (AV.ip (e_L_i32 p_a1) 0)] [] (AV.int .i64 r) [] := by
 refine contract_of .z Tryz.func51 rfl (by kernel_rfl) ?_
 refine cL h (c_label_bad _ _) ?_
 intro y1 h
 exact AuF h
theorem c_contexts_Rule (p_r) (r) (h : m_contexts_Rule p_r = some r) : Contract pl 154 [(AV.int .i32 p_r)] [] (AV.int .i64 r) [] := by
 refine contract_of (.t false .z (.t false (.t false (.t false .z (.t false .z (.t false .z (.t false .z (.t false .z (.t false .z (.t false .z (.t false .z (.t true .z (.t false .z (.t false .z (.t false .z (.t true .z (.t false .z (.t true .z .z))))))))))))))) .z) .z)) Tryz.func154 rfl (by kernel_rfl) ?_
 refine bR h ?_ ?_
 ·intro _ h
  exact AuF h
 ·intro _ h
  refine bR h ?_ ?_
  ·intro _ h
   exact AuF h
  ·intro _ h
   refine bR h ?_ ?_
   ·intro _ h
    exact AuF h
   ·intro _ h
    refine bR h ?_ ?_
    ·intro _ h
     exact AuF h
    ·intro _ h
     refine cB (fun s1 : Bool => mkF 37 [(0, (.int .i32 p_r)), (15, (.bool s1))] []) h ?_ ?_
     ·intro Kn7 hn7 x7 h7 h
      exact AuC (pI []) hn7 h h7
     ·clear h
      intro s1 hc8
      refine bR hc8 ?_ ?_
      ·intro _ hc8
       exact AuF hc8
      ·intro _ hc8
       refine bR hc8 ?_ ?_
       ·intro _ hc8
        exact AuF hc8
       ·intro _ hc8
        refine cB (fun s3 : Bool => mkF 37 [(0, (.int .i32 p_r)), (23, (.bool s3))] []) hc8 ?_ ?_
        ·intro Kn9 hn9 x9 h9 hc8
         exact AuC (pI []) hn9 hc8 h9
        ·clear hc8
         intro s3 hc10
         refine bR hc10 ?_ ?_
         ·intro _ hc10
          exact AuF hc10
         ·intro _ hc10
          refine cB (fun s5 : Bool => mkF 37 [(30, (.bool s5))] []) hc10 ?_ ?_
          ·intro Kn11 hn11 x11 h11 hc10
           exact AuC (pI []) hn11 hc10 h11
          ·clear hc10
           intro s5 hc12
           unfold m_contexts_Rule_K6 at hc12
           exact AuF hc12
theorem c_classes_Joins (p_p p_r) (r) (h : m_classes_Joins p_p p_r = some r) : Contract pl 201 [(e_api_Props p_p), (AV.int .i32 p_r)] [] (AV.int .i64 r) [] := by
 refine contract_of .z Tryz.func201 rfl (by kernel_rfl) ?_
 refine cL h (c_ranges_Find _ _) ?_
 intro y1 h
 exact AuF h
theorem c_contexts_joined_1 (p_at p_a1 p_a2) (r) (h : m_contexts_joined_1 p_at p_a1 p_a2 = some r) : Contract pl 200 [(AV.int .i64 p_at), (AV.ip (e_L_i32 p_a1) 0), (AV.ip (e_api_Tables p_a2) 0)] [] (AV.int .i64 r) [] := by
 refine contract_of (.t false .z (.t false (.t true .z .z) .z)) Tryz.func200 rfl (by kernel_rfl) ?_
 refine cB (fun s1 : Bool => mkF 20 [(0, (.int .i64 p_at)), (1, (.ip (e_L_i32 p_a1) 0)), (2, (.ip (e_api_Tables p_a2) 0)), (12, (.bool s1))] []) h ?_ ?_
 ·intro Kn4 hn4 x4 h4 h
  exact AuC (pI []) hn4 h h4
 ·clear h
  intro s1 hc5
  refine bR hc5 ?_ ?_
  ·intro _ hc5
   exact AuF hc5
  ·intro _ hc5
   refine gD2 hc5 fun hc5 => ?_
   refine cL hc5 (c_classes_Joins _ _) ?_
   intro y3 hc5
   exact AuF hc5
theorem c_contexts_joined_2_contexts_joined_1 (p_at p_by p_a2 p_a3) (r) (h : m_contexts_joined_2_contexts_joined_1 p_at p_by p_a2 p_a3 = some r) : Contract pl 202 [(AV.int .i64 p_at), (AV.int .i64 p_by), (AV.ip (AV.fn (.func 200) [] [(AV.ip (e_L_i32 p_a2) 0), (AV.ip (e_api_Tables p_a3) 0)]) 0)] [] (AV.int .i64 r) [] := by
 refine contract_of (.t false .z (.t true .z .z)) Tryz.func202 rfl (by kernel_rfl) ?_
 refine cB (fun s1 : Int => mkF 16 [(0, (.int .i64 s1)), (2, (.ip (.fn (.func 200) [] [(.ip (e_L_i32 p_a2) 0), (.ip (e_api_Tables p_a3) 0)]) 0))] []) h ?_ ?_
 ·intro Kn10 hn10 x10 h10 h
  refine gO ?_
  refine loop_iter (fun s5 : Int => mkF 16 [(0, (.int .i64 s5)), (1, (.int .i64 p_by)), (2, (.ip (.fn (.func 200) [] [(.ip (e_L_i32 p_a2) 0), (.ip (e_api_Tables p_a3) 0)]) 0))] []) h10 (wG []) ?_
  intro k7 s5 st7 Kn7 hn7 h7_ hs7
  refine cL h7_ (c_contexts_joined_1 _ _ _) ?_
  intro y8 h7_
  refine bR h7_ ?_ ?_
  ·intro _ h7_
   exact AuC (pI []) hn7 hs7 h7_
  ·intro _ h7_
   have e := Option.some.inj h7_; subst e
   have e := done_out hs7; subst e
   refine gO ?_
   exact hn10 _ s5 h (wG [])
 ·clear h
  intro s1 hc11
  refine cL hc11 (c_contexts_joined_1 _ _ _) ?_
  intro y3 hc11
  exact AuF hc11
theorem c_contexts_joined (p_t p_l p_i) (r) (h : m_contexts_joined p_t p_l p_i = some r) : Contract pl 155 [(e_api_Tables p_t), (e_L_i32 p_l), (AV.int .i64 p_i)] [] (AV.bool r) [] := by
 refine contract_of .z Tryz.func155 rfl (by kernel_rfl) ?_
 refine cL h (c_contexts_joined_2_contexts_joined_1 _ _ _ _) ?_
 intro y1 h
 refine cL h (c_contexts_joined_2_contexts_joined_1 _ _ _ _) ?_
 intro y2 h
 exact AuF h
theorem c_contexts_Holds_2 (p_r p_a1) (r) (h : m_contexts_Holds_2 p_r p_a1 = some r) : Contract pl 157 [(AV.int .i32 p_r), (AV.ip (e_api_Tables p_a1) 0)] [] (AV.bool r) [] := by
 refine contract_of .z Tryz.func157 rfl (by kernel_rfl) ?_
 refine cL h (c_decomp_Class _ _) ?_
 intro y1 h
 exact AuF h
theorem c_contexts_at_contexts_Holds_2 (p_l p_i p_is) (r) (h : m_contexts_at_contexts_Holds_2 p_l p_i p_is = some r) : Contract pl 156 [(e_L_i32 p_l), (AV.int .i64 p_i), (AV.fn (.func 157) [] [(AV.ip (e_api_Tables p_is) 0)])] [] (AV.bool r) [] := by
 refine contract_of .z Tryz.func156 rfl (by kernel_rfl) ?_
 refine bR h ?_ ?_
 ·intro _ h
  refine bR h ?_ ?_
  ·intro _ h
   refine gD2 h fun h => ?_
   refine cL h (c_contexts_Holds_2 _ _) ?_
   intro y1 h
   exact AuF h
  ·intro _ h
   exact AuF h
 ·intro _ h
  exact AuF h
theorem c_contexts_Holds_3 (p_r) (r) (h : m_contexts_Holds_3 p_r = some r) : Contract pl 159 [(AV.int .i32 p_r)] [] (AV.bool r) [] := by
 refine contract_of .z Tryz.func159 rfl (by kernel_rfl) ?_
 unfold m_contexts_Holds_3 at h
 exact AuF h
theorem c_contexts_at_contexts_Holds_3 (p_l p_i) (r) (h : m_contexts_at_contexts_Holds_3 p_l p_i = some r) : Contract pl 156 [(e_L_i32 p_l), (AV.int .i64 p_i), (AV.fn (.func 159) [] [])] [] (AV.bool r) [] := by
 refine contract_of .z Tryz.func156 rfl (by kernel_rfl) ?_
 refine bR h ?_ ?_
 ·intro _ h
  refine bR h ?_ ?_
  ·intro _ h
   refine gD2 h fun h => ?_
   refine cL h (c_contexts_Holds_3 _) ?_
   intro y1 h
   exact AuF h
  ·intro _ h
   exact AuF h
 ·intro _ h
  exact AuF h
theorem c_contexts_Holds_1 (p_want p_a1) (r) (h : m_contexts_Holds_1 p_want p_a1 = some r) : Contract pl 151 [(e_L_i64 p_want), (AV.ip (e_api_Tables p_a1) 0)] [] (AV.fn (.func 152) [] [(AV.ip (e_L_i64 r.1) 0), (AV.ip (e_api_Tables r.2) 0)]) [] := by
 refine contract_of .z Tryz.func151 rfl (by kernel_rfl) ?_
 unfold m_contexts_Holds_1 at h
 exact AuF h
theorem c_classes_Script (p_p p_r) (r) (h : m_classes_Script p_p p_r = some r) : Contract pl 153 [(e_api_Props p_p), (AV.int .i32 p_r)] [] (AV.int .i64 r) [] := by
 refine contract_of .z Tryz.func153 rfl (by kernel_rfl) ?_
 refine cL h (c_ranges_Find _ _) ?_
 intro y1 h
 exact AuF h
theorem c_contexts_Holds_1_1 (p_r p_a1 p_a2) (r) (h : m_contexts_Holds_1_1 p_r p_a1 p_a2 = some r) : Contract pl 152 [(AV.int .i32 p_r), (AV.ip (e_L_i64 p_a1) 0), (AV.ip (e_api_Tables p_a2) 0)] [] (AV.bool r) [] := by
 refine contract_of (.t false .z (.t true .z .z)) Tryz.func152 rfl (by kernel_rfl) ?_
 refine gO ?_
 refine bnd h (fun x11 h11 h => ?_)
 refine cut_at (fun s1 : Unit => mkF 20 [] []) (fun s1 : Unit => some false = some r) ?_ ?_
 ·intro Kn11 hn11
  refine gO ?_
  refine loop_iter (fun s4 : Int => mkF 20 [(0, (.int .i32 p_r)), (2, (.ip (e_api_Tables p_a2) 0)), (7, (e_L_i64 p_a1)), (8, (.int .i64 ((p_a1.length : Nat) : Int))), (9, (.int .i64 s4))] []) h11 (wG []) ?_
  intro k6 s4 st6 Kn6 hn6 h6_ hs6
  refine bR h6_ ?_ ?_
  ·intro _ h6_
   refine gD2 h6_ fun h6_ => ?_
   refine cL h6_ (c_classes_Script _ _) ?_
   intro y7 h6_
   refine bR h6_ ?_ ?_
   ·intro _ h6_
    have e := Option.some.inj h6_; subst e
    have e := done_out hs6; subst e
    exact AuF h
   ·intro _ h6_
    exact AuC (pI []) hn6 hs6 h6_
  ·intro _ h6_
   have e := Option.some.inj h6_; subst e
   have e := done_out hs6; subst e
   refine gO ?_
   exact hn11 _ () h (wG [])
 ·clear h h11
  intro s1 hc12
  exact AuF hc12
theorem c_contexts_at_contexts_Holds_1_1 (p_l p_i p_is p_a3) (r) (h : m_contexts_at_contexts_Holds_1_1 p_l p_i p_is p_a3 = some r) : Contract pl 156 [(e_L_i32 p_l), (AV.int .i64 p_i), (AV.fn (.func 152) [] [(AV.ip (e_L_i64 p_is) 0), (AV.ip (e_api_Tables p_a3) 0)])] [] (AV.bool r) [] := by
 refine contract_of .z Tryz.func156 rfl (by kernel_rfl) ?_
 refine bR h ?_ ?_
 ·intro _ h
  refine bR h ?_ ?_
  ·intro _ h
   refine gD2 h fun h => ?_
   refine cL h (c_contexts_Holds_1_1 _ _ _) ?_
   intro y1 h
   exact AuF h
  ·intro _ h
   exact AuF h
 ·intro _ h
  exact AuF h
theorem c_contexts_some_contexts_Holds_1_1 (p_l p_is p_a2) (r) (h : m_contexts_some_contexts_Holds_1_1 p_l p_is p_a2 = some r) : Contract pl 160 [(e_L_i32 p_l), (AV.fn (.func 152) [] [(AV.ip (e_L_i64 p_is) 0), (AV.ip (e_api_Tables p_a2) 0)])] [] (AV.bool r) [] := by
 refine contract_of (.t false .z (.t true .z .z)) Tryz.func160 rfl (by kernel_rfl) ?_
 refine gO ?_
 refine bnd h (fun x11 h11 h => ?_)
 refine cut_at (fun s1 : Unit => mkF 16 [] []) (fun s1 : Unit => some false = some r) ?_ ?_
 ·intro Kn11 hn11
  refine gO ?_
  refine loop_iter (fun s4 : Int => mkF 16 [(0, (e_L_i32 p_l)), (1, (.fn (.func 152) [] [(.ip (e_L_i64 p_is) 0), (.ip (e_api_Tables p_a2) 0)])), (7, (.int .i64 ((p_l.length : Nat) : Int))), (8, (.int .i64 s4))] []) h11 (wG []) ?_
  intro k6 s4 st6 Kn6 hn6 h6_ hs6
  refine bR h6_ ?_ ?_
  ·intro _ h6_
   refine cL h6_ (c_contexts_at_contexts_Holds_1_1 _ _ _ _) ?_
   intro y7 h6_
   refine bR h6_ ?_ ?_
   ·intro _ h6_
    have e := Option.some.inj h6_; subst e
    have e := done_out hs6; subst e
    exact AuF h
   ·intro _ h6_
    exact AuC (pI []) hn6 hs6 h6_
  ·intro _ h6_
   have e := Option.some.inj h6_; subst e
   have e := done_out hs6; subst e
   refine gO ?_
   exact hn11 _ () h (wG [])
 ·clear h h11
  intro s1 hc12
  exact AuF hc12
theorem c_contexts_Holds_4 (p_r p_a1) (r) (h : m_contexts_Holds_4 p_r p_a1 = some r) : Contract pl 161 [(AV.int .i32 p_r), (AV.ip (AV.int .i64 p_a1) 0)] [] (AV.bool r) [] := by
 refine contract_of .z Tryz.func161 rfl (by kernel_rfl) ?_
 refine cL h (c_contexts_Rule _) ?_
 intro y1 h
 exact AuF h
theorem c_contexts_at_contexts_Holds_4 (p_l p_i p_is) (r) (h : m_contexts_at_contexts_Holds_4 p_l p_i p_is = some r) : Contract pl 156 [(e_L_i32 p_l), (AV.int .i64 p_i), (AV.fn (.func 161) [] [(AV.ip (AV.int .i64 p_is) 0)])] [] (AV.bool r) [] := by
 refine contract_of .z Tryz.func156 rfl (by kernel_rfl) ?_
 refine bR h ?_ ?_
 ·intro _ h
  refine bR h ?_ ?_
  ·intro _ h
   refine gD2 h fun h => ?_
   refine cL h (c_contexts_Holds_4 _ _) ?_
   intro y1 h
   exact AuF h
  ·intro _ h
   exact AuF h
 ·intro _ h
  exact AuF h
theorem c_contexts_some_contexts_Holds_4 (p_l p_is) (r) (h : m_contexts_some_contexts_Holds_4 p_l p_is = some r) : Contract pl 160 [(e_L_i32 p_l), (AV.fn (.func 161) [] [(AV.ip (AV.int .i64 p_is) 0)])] [] (AV.bool r) [] := by
 refine contract_of (.t false .z (.t true .z .z)) Tryz.func160 rfl (by kernel_rfl) ?_
 refine gO ?_
 refine bnd h (fun x11 h11 h => ?_)
 refine cut_at (fun s1 : Unit => mkF 16 [] []) (fun s1 : Unit => some false = some r) ?_ ?_
 ·intro Kn11 hn11
  refine gO ?_
  refine loop_iter (fun s4 : Int => mkF 16 [(0, (e_L_i32 p_l)), (1, (.fn (.func 161) [] [(.ip (.int .i64 p_is) 0)])), (7, (.int .i64 ((p_l.length : Nat) : Int))), (8, (.int .i64 s4))] []) h11 (wG []) ?_
  intro k6 s4 st6 Kn6 hn6 h6_ hs6
  refine bR h6_ ?_ ?_
  ·intro _ h6_
   refine cL h6_ (c_contexts_at_contexts_Holds_4 _ _ _) ?_
   intro y7 h6_
   refine bR h6_ ?_ ?_
   ·intro _ h6_
    have e := Option.some.inj h6_; subst e
    have e := done_out hs6; subst e
    exact AuF h
   ·intro _ h6_
    exact AuC (pI []) hn6 hs6 h6_
  ·intro _ h6_
   have e := Option.some.inj h6_; subst e
   have e := done_out hs6; subst e
   refine gO ?_
   exact hn11 _ () h (wG [])
 ·clear h h11
  intro s1 hc12
  exact AuF hc12
theorem c_contexts_Holds (p_t p_l p_i) (r) (h : m_contexts_Holds p_t p_l p_i = some r) : Contract pl 105 [(e_api_Tables p_t), (e_L_i32 p_l), (AV.int .i64 p_i)] [] (AV.bool r) [] := by
 refine contract_of (.t false .z (.t false (.t true .z .z) (.t false .z (.t false .z (.t false (.t false .z (.t false (.t false (.t false (.t false (.t false (.t false (.t false (.t false (.t false (.t false (.t false (.t false (.t false (.t false (.t false (.t false (.t false .z (.t false .z (.t false .z (.t false .z (.t false .z (.t false .z (.t true .z .z))))))) .z) .z) .z) .z) .z) .z) .z) .z) .z) .z) .z) .z) .z) .z) .z) .z)) .z))))) Tryz.func105 rfl (by kernel_rfl) ?_
 refine cB (fun s1 : Bool => mkF 87 [(1, (e_L_i32 p_l)), (2, (.int .i64 p_i)), (3, (.mp 0 0 0)), (18, (.bool s1))] [some ⟨15, 31, (.vals [(e_api_Tables p_t)]), false, false⟩]) h ?_ ?_
 ·intro Kn18 hn18 x18 h18 h
  exact AuC (pI [0]) hn18 h h18
 ·clear h
  intro s1 hc19
  refine bR hc19 ?_ ?_
  ·intro _ hc19
   exact AuF hc19
  ·intro _ hc19
   refine gD2 hc19 fun hc19 => ?_
   refine cL hc19 (c_contexts_Rule _) ?_
   intro y3 hc19
   refine bR hc19 ?_ ?_
   ·intro _ hc19
    refine cL hc19 (c_contexts_joined _ _ _) ?_
    intro y4 hc19
    refine bR hc19 ?_ ?_
    ·intro _ hc19
     exact AuF hc19
    ·intro _ hc19
     refine cL hc19 (c_contexts_at_contexts_Holds_2 _ _ _) ?_
     intro y5 hc19
     exact AuF hc19
   ·intro _ hc19
    refine bR hc19 ?_ ?_
    ·intro _ hc19
     refine cL hc19 (c_contexts_at_contexts_Holds_2 _ _ _) ?_
     intro y6 hc19
     exact AuF hc19
    ·intro _ hc19
     refine bR hc19 ?_ ?_
     ·intro _ hc19
      refine cL hc19 (c_contexts_at_contexts_Holds_3 _ _) ?_
      intro y7 hc19
      refine bR hc19 ?_ ?_
      ·intro _ hc19
       refine cL hc19 (c_contexts_at_contexts_Holds_3 _ _) ?_
       intro y8 hc19
       exact AuF hc19
      ·intro _ hc19
       exact AuF hc19
     ·intro _ hc19
      refine bR hc19 ?_ ?_
      ·intro _ hc19
       refine gO ?_
       refine bnd hc19 (fun y9 hy9 hc19 => ?_)
       refine Or.inl ⟨_, contract_le (c_contexts_Holds_1 _ _ _ hy9) (argsLe.cons (AV.Le.list (by simp; try omega) (fun j hj => by first | rfl | rw [getD_sub hj] | (rw [getD_take hj]; simp) | simp)) (argsLe.cons (AV.Le.refl _) argsLe.nil)), rfl, ?_⟩
       refine cL hc19 (c_contexts_at_contexts_Holds_1_1 _ _ _ _) ?_
       intro y10 hc19
       exact AuF hc19
      ·intro _ hc19
       refine bR hc19 ?_ ?_
       ·intro _ hc19
        refine gO ?_
        refine bnd hc19 (fun y11 hy11 hc19 => ?_)
        refine Or.inl ⟨_, contract_le (c_contexts_Holds_1 _ _ _ hy11) (argsLe.cons (AV.Le.list (by simp; try omega) (fun j hj => by first | rfl | rw [getD_sub hj] | (rw [getD_take hj]; simp) | simp)) (argsLe.cons (AV.Le.refl _) argsLe.nil)), rfl, ?_⟩
        refine cL hc19 (c_contexts_at_contexts_Holds_1_1 _ _ _ _) ?_
        intro y12 hc19
        exact AuF hc19
       ·intro _ hc19
        refine bR hc19 ?_ ?_
        ·intro _ hc19
         refine gO ?_
         refine bnd hc19 (fun y13 hy13 hc19 => ?_)
         refine Or.inl ⟨_, contract_le (c_contexts_Holds_1 _ _ _ hy13) (argsLe.cons (AV.Le.list (by simp; try omega) (fun j hj => by first | rfl | rw [getD_sub hj] | (rw [getD_take hj]; simp) | simp)) (argsLe.cons (AV.Le.refl _) argsLe.nil)), rfl, ?_⟩
         refine cL hc19 (c_contexts_some_contexts_Holds_1_1 _ _ _) ?_
         intro y14 hc19
         exact AuF hc19
        ·intro _ hc19
         refine cB (fun s15 : Bool => mkF 87 [(1, (e_L_i32 p_l)), (8, (.int .i64 y3)), (38, (.bool s15))] []) hc19 ?_ ?_
         ·intro Kn20 hn20 x20 h20 hc19
          exact AuC (pI []) hn20 hc19 h20
         ·clear hc19
          intro s15 hc21
          refine bR hc21 ?_ ?_
          ·intro _ hc21
           refine cL hc21 (c_contexts_some_contexts_Holds_4 _ _) ?_
           intro y17 hc21
           exact AuF hc21
          ·intro _ hc21
           exact AuF hc21
theorem c_contexts_First (p_t p_l) (r) (h : m_contexts_First p_t p_l = some r) : Contract pl 54 [(e_api_Tables p_t), (e_L_i32 p_l)] [] (AV.int .i64 r) [] := by
 refine contract_of (.t false .z (.t true (.t false .z (.t false (.t false (.t false .z (.t false .z (.t false (.t false (.t false .z (.t false .z (.t false (.t true .z .z) .z))) .z) .z))) .z) .z)) .z)) Tryz.func54 rfl (by kernel_rfl) ?_
 refine gO ?_
 refine bnd h (fun x14 h14 h => ?_)
 refine cut_at (fun s1 : Unit => mkF 28 [] []) (fun s1 : Unit => some (-1 : Int) = some r) ?_ ?_
 ·intro Kn14 hn14
  refine gO ?_
  refine loop_iter (fun s4 : Int => mkF 28 [(1, (e_L_i32 p_l)), (2, (.mp 0 0 0)), (7, (e_L_i32 p_l)), (8, (.int .i64 ((p_l.length : Nat) : Int))), (9, (.int .i64 s4))] [some ⟨15, 31, (.vals [(e_api_Tables p_t)]), false, false⟩]) h14 (wG [0]) ?_
  intro k6 s4 st6 Kn6 hn6 h6_ hs6
  refine bR h6_ ?_ ?_
  ·intro _ h6_
   refine gD2 h6_ fun h6_ => ?_
   refine cL h6_ (c_classes_Of _ _) ?_
   intro y7 h6_
   refine cB (fun s8 : Bool => mkF 28 [(1, (e_L_i32 p_l)), (2, (.mp 0 0 0)), (5, (.int .i64 s4)), (7, (e_L_i32 p_l)), (8, (.int .i64 ((p_l.length : Nat) : Int))), (9, (.int .i64 s4)), (18, (.bool s8))] [some ⟨15, 31, (.vals [(e_api_Tables p_t)]), false, false⟩]) h6_ ?_ ?_
   ·intro Kn15 hn15 x15 h15 h6_
    exact AuC (pI [0]) hn15 h6_ h15
   ·clear h6_
    intro s8 hc16
    refine bR hc16 ?_ ?_
    ·intro _ hc16
     refine cL hc16 (c_contexts_Holds _ _ _) ?_
     intro y10 hc16
     refine bR hc16 ?_ ?_
     ·intro _ hc16
      have e := Option.some.inj hc16; subst e
      have e := done_out hs6; subst e
      exact AuF h
     ·intro _ hc16
      exact AuC (pI [0]) hn6 hs6 hc16
    ·intro _ hc16
     exact AuC (pI [0]) hn6 hs6 hc16
  ·intro _ h6_
   have e := Option.some.inj h6_; subst e
   have e := done_out hs6; subst e
   refine gO ?_
   exact hn14 _ () h (wG [])
 ·clear h h14
  intro s1 hc17
  exact AuF hc17
theorem c_label_Check_5 (p_a0 p_a1) (r) (h : m_label_Check_5 p_a0 p_a1 = some r) : Contract pl 53 [(AV.ip (e_api_Tables p_a0) 0), (AV.ip (e_L_i32 p_a1) 0)] [] (AV.int .i64 r) [] := by
 refine contract_of .z Tryz.func53 rfl (by kernel_rfl) ?_
 refine cL h (c_contexts_First _ _) ?_
 intro y1 h
 exact AuF h
theorem c_classes_Direction (p_p p_r) (r) (h : m_classes_Direction p_p p_r = some r) : Contract pl 144 [(e_api_Props p_p), (AV.int .i32 p_r)] [] (AV.int .i64 r) [] := by
 refine contract_of .z Tryz.func144 rfl (by kernel_rfl) ?_
 refine cL h (c_ranges_Find _ _) ?_
 intro y1 h
 exact AuF h
theorem c_bidi_row (p_p p_l) (r) (h : m_bidi_row p_p p_l = some r) : Contract pl 91 [(e_api_Props p_p), (e_L_i32 p_l)] [] (e_L_i64 r) [] := by
 refine contract_of (.t false .z (.t false .z (.t true .z .z))) Tryz.func91 rfl (by kernel_rfl) ?_
 refine gO ?_
 obtain ⟨p9, h⟩ := grdO h
 refine ⟨rfl, p9.1, p9.2.1, p9.2.2, ?_⟩
 refine cB (fun s1 : (List Int) => mkF 28 [(5, (.ms 0 s1.length))] [some ⟨1, 3, (.ints .i64 s1), false, false⟩]) h ?_ ?_
 ·intro Kn10 hn10 x10 h10 h
  refine gO ?_
  refine loop_iter (fun s4 : (List Int) × Int => mkF 28 [(2, (.mp 0 0 0)), (5, (.ms 1 s4.1.length)), (11, (e_L_i32 p_l)), (12, (.int .i64 ((p_l.length : Nat) : Int))), (13, (.int .i64 s4.2))] [some ⟨11, 28, (.vals [(e_api_Props p_p)]), false, false⟩, some ⟨1, 3, (.ints .i64 s4.1), false, false⟩]) h10 (wG [0,1]) ?_
  intro k6 s4 st6 Kn6 hn6 h6_ hs6
  refine bR h6_ ?_ ?_
  ·intro _ h6_
   refine gD2 h6_ fun h6_ => ?_
   refine cL h6_ (c_classes_Direction _ _) ?_
   intro y7 h6_
   exact AuC (pI [0,1]) hn6 hs6 h6_
  ·intro _ h6_
   have e := Option.some.inj h6_; subst e
   have e := done_out hs6; subst e
   refine gO ?_
   exact hn10 _ s4.1 h (wG [1])
 ·clear h
  intro s1 hc11
  exact AuF hc11
theorem c_bidi_last (p_l) (r) (h : m_bidi_last p_l = some r) : Contract pl 92 [(e_L_i64 p_l)] [] (AV.int .i64 r) [] := by
 refine contract_of (.t false .z (.t false .z (.t true (.t false (.t false (.t false (.t true .z .z) .z) .z) .z) .z))) Tryz.func92 rfl (by kernel_rfl) ?_
 refine cB (fun s1 : Int => mkF 19 [(3, (.int .i64 s1))] []) h ?_ ?_
 ·intro Kn10 hn10 x10 h10 h
  refine gO ?_
  refine loop_iter (fun s4 : Int => mkF 19 [(0, (e_L_i64 p_l)), (3, (.int .i64 s4))] []) h10 (wG []) ?_
  intro k6 s4 st6 Kn6 hn6 h6_ hs6
  refine cB (fun s7 : Bool => mkF 19 [(0, (e_L_i64 p_l)), (3, (.int .i64 s4)), (15, (.bool s7))] []) h6_ ?_ ?_
  ·intro Kn11 hn11 x11 h11 h6_
   exact AuC (pI []) hn11 h6_ h11
  ·clear h6_
   intro s7 hc12
   refine bR hc12 ?_ ?_
   ·intro _ hc12
    exact AuC (pI []) hn6 hs6 hc12
   ·intro _ hc12
    have e := Option.some.inj hc12; subst e
    have e := done_out hs6; subst e
    refine gO ?_
    exact hn10 _ s4 h (wG [])
 ·clear h
  intro s1 hc13
  exact AuF hc13
theorem c_bidi_of (p_l) (r) (h : m_bidi_of p_l = some r) : Contract pl 95 [(e_L_i64 p_l)] [] (AV.int .u64 r) [] := by
 refine contract_of (.t false .z (.t false .z (.t true .z .z))) Tryz.func95 rfl (by kernel_rfl) ?_
 refine cB (fun s1 : Int => mkF 18 [(3, (.int .u64 s1))] []) h ?_ ?_
 ·intro Kn8 hn8 x8 h8 h
  refine gO ?_
  refine loop_iter (fun s4 : Int × Int => mkF 18 [(3, (.int .u64 s4.1)), (6, (e_L_i64 p_l)), (7, (.int .i64 ((p_l.length : Nat) : Int))), (8, (.int .i64 s4.2))] []) h8 (wG []) ?_
  intro k6 s4 st6 Kn6 hn6 h6_ hs6
  refine bR h6_ ?_ ?_
  ·intro _ h6_
   exact AuC (pI []) hn6 hs6 h6_
  ·intro _ h6_
   have e := Option.some.inj h6_; subst e
   have e := done_out hs6; subst e
   refine gO ?_
   exact hn8 _ s4.1 h (wG [])
 ·clear h
  intro s1 hc9
  exact AuF hc9
theorem c_bidi_neutral  (r) (h : m_bidi_neutral  = some r) : Contract pl 94 [] [] (AV.int .u64 r) [] := by
 refine contract_of .z Tryz.func94 rfl (by kernel_rfl) ?_
 refine gO ?_
 refine bnd h (fun y1 hy1 h => ?_)
 refine Or.inl ⟨_, contract_le (c_bidi_of _ _ hy1) (argsLe.cons (AV.Le.list (by simp; try omega) (fun j hj => by first | rfl | rw [getD_sub hj] | (rw [getD_take hj]; simp) | simp)) argsLe.nil), rfl, ?_⟩
 exact AuF h
theorem c_bidi_set_has (p_s p_d) (r) (h : m_bidi_set_has p_s p_d = some r) : Contract pl 96 [(AV.int .u64 p_s), (AV.int .i64 p_d)] [] (AV.bool r) [] := by
 refine contract_of .z Tryz.func96 rfl (by kernel_rfl) ?_
 unfold m_bidi_set_has at h
 exact AuF h
theorem c_bidi_first (p_l p_s p_in) (r) (h : m_bidi_first p_l p_s p_in = some r) : Contract pl 93 [(e_L_i64 p_l), (AV.int .u64 p_s), (AV.bool p_in)] [] (AV.int .i64 r) [] := by
 refine contract_of (.t false .z (.t true .z .z)) Tryz.func93 rfl (by kernel_rfl) ?_
 refine gO ?_
 refine bnd h (fun x11 h11 h => ?_)
 refine cut_at (fun s1 : Unit => mkF 23 [] []) (fun s1 : Unit => some (-1 : Int) = some r) ?_ ?_
 ·intro Kn11 hn11
  refine gO ?_
  refine loop_iter (fun s4 : Int => mkF 23 [(1, (.int .u64 p_s)), (2, (.bool p_in)), (9, (e_L_i64 p_l)), (10, (.int .i64 ((p_l.length : Nat) : Int))), (11, (.int .i64 s4))] []) h11 (wG []) ?_
  intro k6 s4 st6 Kn6 hn6 h6_ hs6
  refine bR h6_ ?_ ?_
  ·intro _ h6_
   refine gD2 h6_ fun h6_ => ?_
   refine cL h6_ (c_bidi_set_has _ _) ?_
   intro y7 h6_
   refine bR h6_ ?_ ?_
   ·intro _ h6_
    have e := Option.some.inj h6_; subst e
    have e := done_out hs6; subst e
    exact AuF h
   ·intro _ h6_
    exact AuC (pI []) hn6 hs6 h6_
  ·intro _ h6_
   have e := Option.some.inj h6_; subst e
   have e := done_out hs6; subst e
   refine gO ?_
   exact hn11 _ () h (wG [])
 ·clear h h11
  intro s1 hc12
  exact AuF hc12
theorem c_bidi_both (p_l) (r) (h : m_bidi_both p_l = some r) : Contract pl 97 [(e_L_i64 p_l)] [] (AV.int .i64 r) [] := by
 refine contract_of (.t false .z (.t false .z (.t true (.t false .z (.t false (.t false (.t false .z (.t false .z (.t false (.t false (.t false .z (.t false .z (.t true .z .z))) .z) .z))) .z) .z)) .z))) Tryz.func97 rfl (by kernel_rfl) ?_
 refine gO ?_
 refine bnd h (fun x15 h15 h => ?_)
 refine cut_at (fun s1 : Unit => mkF 26 [] []) (fun s1 : Unit => some (-1 : Int) = some r) ?_ ?_
 ·intro Kn15 hn15
  refine gO ?_
  refine loop_iter (fun s4 : Int × Int => mkF 26 [(3, (.int .u64 s4.1)), (6, (e_L_i64 p_l)), (7, (.int .i64 ((p_l.length : Nat) : Int))), (8, (.int .i64 s4.2))] []) h15 (wG []) ?_
  intro k6 s4 st6 Kn6 hn6 h6_ hs6
  refine bR h6_ ?_ ?_
  ·intro _ h6_
   refine gD2 h6_ fun h6_ => ?_
   refine gO ?_
   refine bnd h6_ (fun y7 hy7 h6_ => ?_)
   refine Or.inl ⟨_, contract_le (c_bidi_of _ _ hy7) (argsLe.cons (AV.Le.list (by simp; try omega) (fun j hj => by first | rfl | rw [getD_sub hj] | (rw [getD_take hj]; simp) | simp)) argsLe.nil), rfl, ?_⟩
   refine cB (fun s8 : Bool => mkF 26 [(3, (.int .u64 (ior .u64 s4.1 y7))), (4, (.int .i64 s4.2)), (6, (e_L_i64 p_l)), (7, (.int .i64 ((p_l.length : Nat) : Int))), (8, (.int .i64 s4.2)), (23, (.bool s8))] []) h6_ ?_ ?_
   ·intro Kn16 hn16 x16 h16 h6_
    refine cL h16 (c_bidi_set_has _ _) ?_
    intro y10 h16
    refine bR h16 ?_ ?_
    ·intro _ h16
     refine cL h16 (c_bidi_set_has _ _) ?_
     intro y11 h16
     exact AuC (pI []) hn16 h6_ h16
    ·intro _ h16
     exact AuC (pI []) hn16 h6_ h16
   ·clear h6_
    intro s8 hc17
    refine bR hc17 ?_ ?_
    ·intro _ hc17
     have e := Option.some.inj hc17; subst e
     have e := done_out hs6; subst e
     exact AuF h
    ·intro _ hc17
     exact AuC (pI []) hn6 hs6 hc17
  ·intro _ h6_
   have e := Option.some.inj h6_; subst e
   have e := done_out hs6; subst e
   refine gO ?_
   exact hn15 _ () h (wG [])
 ·clear h h15
  intro s1 hc18
  exact AuF hc18
theorem c_bidi_Broken (p_p p_l) (r) (h : m_bidi_Broken p_p p_l = some r) : Contract pl 44 [(e_api_Props p_p), (e_L_i32 p_l)] [] (AV.tup [(AV.int .i64 r.1), (AV.int .i64 r.2)]) [] := by
 refine contract_of (.t false .z (.t false .z (.t false .z (.t false .z (.t false (.t false .z (.t false (.t false (.t false (.t true .z .z) .z) .z) .z)) .z))))) Tryz.func44 rfl (by kernel_rfl) ?_
 refine cL h (c_bidi_row _ _) ?_
 intro y1 h
 refine bR h ?_ ?_
 ·intro _ h
  exact AuF h
 ·intro _ h
  refine cL h (c_bidi_last _) ?_
  intro y2 h
  refine gD2 h fun h => ?_
  refine gO ?_
  refine bnd h (fun x19 h19 h => ?_)
  refine cut_at (fun s3 : Unit => mkF 69 [(6, (e_L_i64 y1)), (7, (.int .i64 y2))] []) (fun s3 : Unit => m_bidi_Broken_K4 y1 y2 s3 = some r) ?_ ?_
  ·intro Kn19 hn19
   refine bR h19 ?_ ?_
   ·intro _ h19
    refine gO ?_
    refine bnd h19 (fun y11 hy11 h19 => ?_)
    refine Or.inl ⟨_, c_bidi_neutral  _ hy11, rfl, ?_⟩
    refine gO ?_
    refine bnd h19 (fun y12 hy12 h19 => ?_)
    refine Or.inl ⟨_, contract_le (c_bidi_of _ _ hy12) (argsLe.cons (AV.Le.list (by simp; try omega) (fun j hj => by first | rfl | rw [getD_sub hj] | (rw [getD_take hj]; simp) | simp)) argsLe.nil), rfl, ?_⟩
    refine cL h19 (c_bidi_first _ _ _) ?_
    intro y13 h19
    refine bR h19 ?_ ?_
    ·intro _ h19
     have e := Option.some.inj h19; subst e
     exact AuF h
    ·intro _ h19
     refine gO ?_
     refine bnd h19 (fun y14 hy14 h19 => ?_)
     refine Or.inl ⟨_, contract_le (c_bidi_of _ _ hy14) (argsLe.cons (AV.Le.list (by simp; try omega) (fun j hj => by first | rfl | rw [getD_sub hj] | (rw [getD_take hj]; simp) | simp)) argsLe.nil), rfl, ?_⟩
     refine gD2 h19 fun h19 => ?_
     refine cL h19 (c_bidi_set_has _ _) ?_
     intro y15 h19
     refine bR h19 ?_ ?_
     ·intro _ h19
      have e := Option.some.inj h19; subst e
      exact AuF h
     ·intro _ h19
      have e := Option.some.inj h19; subst e
      exact AuF h
   ·intro _ h19
    refine bR h19 ?_ ?_
    ·intro _ h19
     exact AuC (pI []) hn19 h h19
    ·intro _ h19
     refine bR h19 ?_ ?_
     ·intro _ h19
      exact AuC (pI []) hn19 h h19
     ·intro _ h19
      have e := Option.some.inj h19; subst e
      exact AuF h
  ·clear h h19
   intro s3 hc20
   refine gO ?_
   refine bnd hc20 (fun y5 hy5 hc20 => ?_)
   refine Or.inl ⟨_, c_bidi_neutral  _ hy5, rfl, ?_⟩
   refine gO ?_
   refine bnd hc20 (fun y6 hy6 hc20 => ?_)
   refine Or.inl ⟨_, contract_le (c_bidi_of _ _ hy6) (argsLe.cons (AV.Le.list (by simp; try omega) (fun j hj => by first | rfl | rw [getD_sub hj] | (rw [getD_take hj]; simp) | simp)) argsLe.nil), rfl, ?_⟩
   refine cL hc20 (c_bidi_first _ _ _) ?_
   intro y7 hc20
   refine bR hc20 ?_ ?_
   ·intro _ hc20
    exact AuF hc20
   ·intro _ hc20
    refine gO ?_
    refine bnd hc20 (fun y8 hy8 hc20 => ?_)
    refine Or.inl ⟨_, contract_le (c_bidi_of _ _ hy8) (argsLe.cons (AV.Le.list (by simp; try omega) (fun j hj => by first | rfl | rw [getD_sub hj] | (rw [getD_take hj]; simp) | simp)) argsLe.nil), rfl, ?_⟩
    refine gD2 hc20 fun hc20 => ?_
    refine cL hc20 (c_bidi_set_has _ _) ?_
    intro y9 hc20
    refine bR hc20 ?_ ?_
    ·intro _ hc20
     exact AuF hc20
    ·intro _ hc20
     refine cL hc20 (c_bidi_both _) ?_
     intro y10 hc20
     exact AuF hc20
theorem c_bidi_Right (p_p p_l) (r) (h : m_bidi_Right p_p p_l = some r) : Contract pl 45 [(e_api_Props p_p), (e_L_i32 p_l)] [] (AV.bool r) [] := by
 refine contract_of .z Tryz.func45 rfl (by kernel_rfl) ?_
 refine cL h (c_bidi_row _ _) ?_
 intro y1 h
 refine gO ?_
 refine bnd h (fun y2 hy2 h => ?_)
 refine Or.inl ⟨_, contract_le (c_bidi_of _ _ hy2) (argsLe.cons (AV.Le.list (by simp; try omega) (fun j hj => by first | rfl | rw [getD_sub hj] | (rw [getD_take hj]; simp) | simp)) argsLe.nil), rfl, ?_⟩
 refine cL h (c_bidi_first _ _ _) ?_
 intro y3 h
 exact AuF h
theorem c_label_Check_1 (p_a0 p_a1) (r) (h : m_label_Check_1 p_a0 p_a1 = some r) : Contract pl 43 [(AV.ip (e_api_Tables p_a0) 0), (AV.ip (e_L_i32 p_a1) 0)] [] (AV.int .i64 r) [] := by
 refine contract_of (.t false .z (.t false .z (.t false (.t true .z .z) .z))) Tryz.func43 rfl (by kernel_rfl) ?_
 refine cL h (c_bidi_Broken _ _) ?_
 intro y1 h
 refine cB (fun s2 : Bool => mkF 22 [(4, (.int .i64 y1.2)), (20, (.bool s2))] []) h ?_ ?_
 ·intro Kn5 hn5 x5 h5 h
  refine bR h5 ?_ ?_
  ·intro _ h5
   exact AuC (pI []) hn5 h h5
  ·intro _ h5
   refine cL h5 (c_bidi_Right _ _) ?_
   intro y4 h5
   exact AuC (pI []) hn5 h h5
 ·clear h
  intro s2 hc6
  unfold m_label_Check_1_K3 at hc6
  exact AuF hc6
theorem c_label_form_1 (p_r) (r) (h : m_label_form_1 p_r = some r) : Contract pl 83 [(AV.int .i32 p_r)] [] (AV.bool r) [] := by
 refine contract_of .z Tryz.func83 rfl (by kernel_rfl) ?_
 refine cL h (c_label_plain _) ?_
 intro y1 h
 exact AuF h
theorem c_slices_IndexFunc_rune_rune_label_form_1 (p_s) (r) (h : m_slices_IndexFunc_rune_rune_label_form_1 p_s = some r) : Contract pl 101 [(e_L_i32 p_s), (AV.fn (.func 83) [] [])] [] (AV.int .i64 r) [] := by
 refine contract_of (.t false .z (.t true .z .z)) Tryz.func101 rfl (by kernel_rfl) ?_
 refine gO ?_
 refine bnd h (fun x11 h11 h => ?_)
 refine cut_at (fun s1 : Unit => mkF 19 [] []) (fun s1 : Unit => some (-1 : Int) = some r) ?_ ?_
 ·intro Kn11 hn11
  refine gO ?_
  refine loop_iter (fun s4 : Int => mkF 19 [(0, (e_L_i32 p_s)), (1, (.fn (.func 83) [] [])), (7, (.int .i64 ((p_s.length : Nat) : Int))), (8, (.int .i64 s4))] []) h11 (wG []) ?_
  intro k6 s4 st6 Kn6 hn6 h6_ hs6
  refine bR h6_ ?_ ?_
  ·intro _ h6_
   refine gD2 h6_ fun h6_ => ?_
   refine cL h6_ (c_label_form_1 _) ?_
   intro y7 h6_
   refine bR h6_ ?_ ?_
   ·intro _ h6_
    have e := Option.some.inj h6_; subst e
    have e := done_out hs6; subst e
    exact AuF h
   ·intro _ h6_
    exact AuC (pI []) hn6 hs6 h6_
  ·intro _ h6_
   have e := Option.some.inj h6_; subst e
   have e := done_out hs6; subst e
   refine gO ?_
   exact hn11 _ () h (wG [])
 ·clear h h11
  intro s1 hc12
  exact AuF hc12
theorem c_slices_ContainsFunc_rune_rune_label_form_1 (p_s) (r) (h : m_slices_ContainsFunc_rune_rune_label_form_1 p_s = some r) : Contract pl 82 [(e_L_i32 p_s), (AV.fn (.func 83) [] [])] [] (AV.bool r) [] := by
 refine contract_of .z Tryz.func82 rfl (by kernel_rfl) ?_
 refine cL h (c_slices_IndexFunc_rune_rune_label_form_1 _) ?_
 intro y1 h
 exact AuF h
theorem c_puny_fault (p_at p_e) (r) (h : m_puny_fault p_at p_e = some r) : Contract pl 109 [(AV.int .i64 p_at), (AV.err p_e)] [] (AV.err r) [] := by
 refine contract_of .z Tryz.func109 rfl (by kernel_rfl) ?_
 unfold m_puny_fault at h
 exact AuF h
theorem c_strings_Builder_copyCheck_own2 (p_b_0 p_b_1 p_b_2 p_b_3 p_b_4 p_b_5 p_b_6) (r) (h : m_strings_Builder_copyCheck_own2 p_b_0 p_b_1 p_b_2 p_b_3 p_b_4 p_b_5 p_b_6 = some r) : ContractM 2 pl 186 [(.mp 0 0 2)] [some ⟨7, 171, (.vals [(.agg [(.int .i64 p_b_0), (.bool p_b_1), (.mpn 0 0 2 p_b_2), (.ms 1 p_b_3.length), (.int .i32 p_b_4), (.int .i64 p_b_5), (.int .i64 p_b_6)])]), false, false⟩, some ⟨1, 5, (.ints .u8 p_b_3), false, true⟩] (.tup []) [some ⟨7, 171, (.vals [(.agg [(.int .i64 r.1), (.bool r.2.1), (.mpn 0 0 2 r.2.2.1), (.ms 1 p_b_3.length), (.int .i32 r.2.2.2.1), (.int .i64 r.2.2.2.2.1), (.int .i64 r.2.2.2.2.2)])]), false, false⟩, some ⟨1, 5, (.ints .u8 p_b_3), false, true⟩] := by
 refine contract_own 2 .z rfl Tryz.func186 rfl (by kernel_rfl) ?_
 refine bR h ?_ ?_
 ·intro _ h
  refine gO ?_
  refine And.intro same_NoEscape ?_
  refine gO ?_
  refine And.intro (liesQ_of (by kernel_rfl)) ?_
  exact AuX (pI [0,1]) h
 ·intro _ h
  exact AuX (pI [0,1]) h
theorem c_strings_Builder_WriteByte_own2 (p_b_0 p_b_1 p_b_2 p_b_3 p_b_4 p_b_5 p_b_6 p_c) (r) (h : m_strings_Builder_WriteByte_own2 p_b_0 p_b_1 p_b_2 p_b_3 p_b_4 p_b_5 p_b_6 p_c = some r) : ContractM 1 pl 137 [(.mp 0 0 2), (.int .u8 p_c)] [some ⟨7, 171, (.vals [(.agg [(.int .i64 p_b_0), (.bool p_b_1), (.mpn 0 0 2 p_b_2), (.ms 1 p_b_3.length), (.int .i32 p_b_4), (.int .i64 p_b_5), (.int .i64 p_b_6)])]), false, false⟩, some ⟨1, 5, (.ints .u8 p_b_3), false, true⟩] (.err r.2.2.2.2.2.2.2) [some ⟨7, 171, (.vals [(.agg [(.int .i64 r.1), (.bool r.2.1), (.mpn 0 0 2 r.2.2.1), (.ms 1 r.2.2.2.1.length), (.int .i32 r.2.2.2.2.1), (.int .i64 r.2.2.2.2.2.1), (.int .i64 r.2.2.2.2.2.2.1)])]), false, false⟩, some ⟨1, 5, (.ints .u8 r.2.2.2.1), false, true⟩] := by
 refine contract_own 1 .z rfl Tryz.func137 rfl (by kernel_rfl) ?_
 refine gO ?_
 refine bnd h (fun y1 hy1 h => ?_)
 refine own_intro (oC [0,1] (c_strings_Builder_copyCheck_own2 _ _ _ _ _ _ _ _ hy1)) ?_
 refine gO ?_
 obtain ⟨p2, h⟩ := grdO h
 refine ⟨[], 1, (.ints .u8 [p_c]), ⟨by simp [Row.len] <;> omega, rfl, _, rfl, by simp [Row.len] <;> omega, fun j hj => .inl rfl⟩, trivial, fun j hj => rfl, ?_⟩
 conv => whnf
 refine ⟨by simp [Row.len]; try omega, p2, by omega, ?_⟩
 exact AuX (pI [0,3]) h
theorem c_math_bits_Len64 (p_x) (r) (h : m_math_bits_Len64 p_x = some r) : Contract pl 227 [(AV.int .u64 p_x)] [] (AV.int .i64 r) [] := by
 refine contract_of (.t false .z (.t true .z (.t true .z .z))) Tryz.func227 rfl (by kernel_rfl) ?_
 refine cB (fun s1 : Int × Int => mkF 25 [(0, (.int .u64 s1.1)), (2, (.int .i64 s1.2))] []) h ?_ ?_
 ·intro Kn5 hn5 x5 h5 h
  refine bR h5 ?_ ?_
  ·intro _ h5
   refine gO ?_
   refine And.intro (by decide) ?_
   exact AuC (pI []) hn5 h h5
  ·intro _ h5
   exact AuC (pI []) hn5 h h5
 ·clear h
  intro s1 hc6
  refine cB (fun s3 : Int × Int => mkF 25 [(0, (.int .u64 s3.1)), (2, (.int .i64 s3.2))] []) hc6 ?_ ?_
  ·intro Kn7 hn7 x7 h7 hc6
   refine bR h7 ?_ ?_
   ·intro _ h7
    refine gO ?_
    refine And.intro (by decide) ?_
    exact AuC (pI []) hn7 hc6 h7
   ·intro _ h7
    exact AuC (pI []) hn7 hc6 h7
  ·clear hc6
   intro s3 hc8
   refine bR hc8 ?_ ?_
   ·intro _ hc8
    refine gO ?_
    refine And.intro (by decide) ?_
    exact AuF hc8
   ·intro _ hc8
    exact AuF hc8
theorem c_math_bits_Len (p_x) (r) (h : m_math_bits_Len p_x = some r) : Contract pl 188 [(AV.int .u64 p_x)] [] (AV.int .i64 r) [] := by
 refine contract_of .z Tryz.func188 rfl (by kernel_rfl) ?_
 refine cL h (c_math_bits_Len64 _) ?_
 intro y1 h
 exact AuF h
theorem c_slices_insertionSortOrdered_rune_own (p_data p_a p_b) (r) (h : m_slices_insertionSortOrdered_rune_own p_data p_a p_b = some r) : ContractM 1 pl 217 [(.ms 0 p_data.length), (.int .i64 p_a), (.int .i64 p_b)] [some ⟨1, 21, (.ints .i32 p_data), false, true⟩] (.tup []) [some ⟨1, 21, (.ints .i32 r), false, true⟩] := by
 refine contract_own 1 (.t false .z (.t false (.t false (.t false .z (.t true (.t false (.t false .z (.t false (.t false (.t false (.t true .z .z) .z) .z) .z)) .z) .z)) .z) .z)) rfl Tryz.func217 rfl (by kernel_rfl) ?_
 refine lB (fun s2 : (List Int) × Int => mkF 49 [(0, (.ms 0 s2.1.length)), (1, (.int .i64 p_a)), (2, (.int .i64 p_b)), (6, (.int .i64 s2.2))] [some ⟨1, 21, (.ints .i32 s2.1), false, true⟩]) h ?_ ?_
 ·exact wG [0]
 intro x4 h k4 s2 st4 Kn4 hn4 h4 hs4
 refine bR h4 ?_ ?_
 ·intro _ h4
  refine cB (fun s5 : (List Int) => mkF 49 [(0, (.ms 0 s5.length)), (1, (.int .i64 p_a)), (2, (.int .i64 p_b)), (6, (.int .i64 s2.2))] [some ⟨1, 21, (.ints .i32 s5), false, true⟩]) h4 ?_ ?_
  ·intro Kn16 hn16 x16 h16 h4
   refine gO ?_
   refine loop_iter (fun s8 : (List Int) × Int => mkF 49 [(0, (.ms 0 s8.1.length)), (1, (.int .i64 p_a)), (2, (.int .i64 p_b)), (6, (.int .i64 s2.2)), (7, (.int .i64 s8.2))] [some ⟨1, 21, (.ints .i32 s8.1), false, true⟩]) h16 (wG [0]) ?_
   intro k10 s8 st10 Kn10 hn10 h10_ hs10
   refine cB (fun s11 : Bool => mkF 49 [(0, (.ms 0 s8.1.length)), (1, (.int .i64 p_a)), (2, (.int .i64 p_b)), (6, (.int .i64 s2.2)), (7, (.int .i64 s8.2)), (30, (.bool s11))] [some ⟨1, 21, (.ints .i32 s8.1), false, true⟩]) h10_ ?_ ?_
   ·intro Kn17 hn17 x17 h17 h10_
    refine bR h17 ?_ ?_
    ·intro _ h17
     refine gD2 h17 fun h17 => ?_
     refine gD2 h17 fun h17 => ?_
     refine cL h17 (c_cmp_Less_rune _ _) ?_
     intro y13 h17
     exact AuC (pI [0]) hn17 h10_ h17
    ·intro _ h17
     exact AuC (pI [0]) hn17 h10_ h17
   ·clear h10_
    intro s11 hc18
    refine bR hc18 ?_ ?_
    ·intro _ hc18
     exact AuC (pI [0]) hn10 hs10 hc18
    ·intro _ hc18
     have e := Option.some.inj hc18; subst e
     have e := done_out hs10; subst e
     refine gO ?_
     exact hn16 _ s8.1 h4 (wG [0])
  ·clear h4
   intro s5 hc19
   exact AuC (pI [0]) hn4 hs4 hc19
 ·intro _ h4
  have e := Option.some.inj h4; subst e
  have e := done_out hs4; subst e
  exact AuX (pI [0]) h
theorem c_slices_pdqsortOrdered_rune_own (p_data p_a p_b p_limit) (r) (h : m_slices_pdqsortOrdered_rune_own p_data p_a p_b p_limit = some r) : ContractM 1 pl 187 [(.ms 0 p_data.length), (.int .i64 p_a), (.int .i64 p_b), (.int .i64 p_limit)] [some ⟨1, 21, (.ints .i32 p_data), false, true⟩] (.tup []) [some ⟨1, 21, (.ints .i32 r), false, true⟩] := by
 refine contract_own 1 .z rfl Tryz.func187 rfl (by kernel_rfl) ?_
 refine lB (fun s1 : Unit => mkF 134 [(0, (.ms 0 p_data.length)), (1, (.int .i64 p_a)), (2, (.int .i64 p_b)), (3, (.int .i64 p_limit)), (8, (.bool true)), (9, (.bool true))] [some ⟨1, 21, (.ints .i32 p_data), false, true⟩]) h ?_ ?_
 ·exact wG [0]
 intro x3 h k3 s1 st3 Kn3 hn3 h3 hs3
 refine bR h3 ?_ ?_
 ·intro _ h3
  refine gO ?_
  refine bnd h3 (fun y4 hy4 h3 => ?_)
  refine Or.inr (own_intro (oC [0] (c_slices_insertionSortOrdered_rune_own _ _ _ _ hy4)) ?_)
  refine gO ?_
  obtain ⟨p6, h3⟩ := grdO h3
  have e := Option.some.inj h3; subst e
  have e := done_out hs3; subst e
  exact AuX (pI [0]) h
 ·intro _ h3
  refine bR h3 ?_ ?_
  ·intro _ h3
   cases h3
  ·intro _ h3
   cases h3
theorem c_slices_Sort_rune_rune_own (p_x) (r) (h : m_slices_Sort_rune_rune_own p_x = some r) : ContractM 1 pl 138 [(.ms 0 p_x.length)] [some ⟨1, 21, (.ints .i32 p_x), false, true⟩] (.tup []) [some ⟨1, 21, (.ints .i32 r), false, true⟩] := by
 refine contract_own 1 .z rfl Tryz.func138 rfl (by kernel_rfl) ?_
 refine cL h (c_math_bits_Len _) ?_
 intro y1 h
 refine gO ?_
 refine bnd h (fun y2 hy2 h => ?_)
 refine Or.inr (own_intro (oC [0] (c_slices_pdqsortOrdered_rune_own _ _ _ _ _ hy2)) ?_)
 refine gO ?_
 obtain ⟨p3, h⟩ := grdO h
 exact AuX (pI [0]) h
theorem c_slices_Compact_rune_rune_own (p_s) (r) (h : m_slices_Compact_rune_rune_own p_s = some r) : ContractM 1 pl 139 [(.ms 0 p_s.length)] [some ⟨1, 21, (.ints .i32 p_s), false, true⟩] (.ms 0 r.2) [some ⟨1, 21, (.ints .i32 r.1), false, true⟩] := by
 refine contract_own 1 (.t false .z (.t false .z (.t true (.t false .z (.t false (.t false (.t false .z (.t true (.t false (.t false .z (.t false (.t false .z (.t true .z .z)) .z)) .z) .z)) .z) .z)) .z))) rfl Tryz.func139 rfl (by kernel_rfl) ?_
 refine bR h ?_ ?_
 ·intro _ h
  exact AuX (pI [0]) h
 ·intro _ h
  refine gO ?_
  refine bnd h (fun x20 h20 h => ?_)
  refine cut_at (fun s1 : Unit => mkF 61 [(0, (.ms 0 p_s.length))] [some ⟨1, 21, (.ints .i32 p_s), false, true⟩]) (fun s1 : Unit => some (p_s, p_s.length) = some r) ?_ ?_
  ·intro Kn20 hn20
   refine gO ?_
   refine loop_iter (fun s4 : Int => mkF 61 [(0, (.ms 0 p_s.length)), (3, (.int .i64 s4))] [some ⟨1, 21, (.ints .i32 p_s), false, true⟩]) h20 (wG [0]) ?_
   intro k6 s4 st6 Kn6 hn6 h6_ hs6
   refine bR h6_ ?_ ?_
   ·intro _ h6_
    refine gO ?_
    refine bnd h6_ (fun x21 h21 h6_ => ?_)
    refine cut_at (fun s7 : Unit => mkF 61 [(0, (.ms 0 p_s.length)), (3, (.int .i64 s4))] [some ⟨1, 21, (.ints .i32 p_s), false, true⟩]) (fun s7 : Unit => some (.next (IntKind.wrap .i64 (s4 + (1 : Int)))) = some st6) ?_ ?_
    ·intro Kn21 hn21
     refine gD2 h21 fun h21 => ?_
     refine gD2 h21 fun h21 => ?_
     refine bR h21 ?_ ?_
     ·intro _ h21
      have gh21 := gOf h21
      refine gD3 h21 fun h21 => ?_
      refine cB (fun s9 : (List Int) × Int => mkF 61 [(0, (.ms 0 s9.1.length)), (3, (.int .i64 s9.2))] [some ⟨1, 21, (.ints .i32 s9.1), false, true⟩]) h21 ?_ ?_
      ·intro Kn22 hn22 x22 h22 h21
       refine gO ?_
       refine loop_iter (fun s12 : (List Int) × Int × Int => mkF 61 [(0, (.ms 0 s12.1.length)), (3, (.int .i64 s12.2.1)), (4, (.mso 0 (s4.toNat) (p_s.length - (s4.toNat)))), (5, (.int .i64 s12.2.2))] [some ⟨1, 21, (.ints .i32 s12.1), false, true⟩]) h22 (wG [0]) ?_
       intro k14 s12 st14 Kn14 hn14 h14_ hs14
       refine bR h14_ ?_ ?_
       ·intro _ h14_
        exact AuC (pI [0]) hn14 hs14 h14_
       ·intro _ h14_
        have e := Option.some.inj h14_; subst e
        have e := done_out hs14; subst e
        refine gO ?_
        exact hn22 _ (s12.1, s12.2.1) h21 (wG [0])
      ·clear h21
       intro s9 hc23
       have ghc23 := gOf hc23
       refine gD3 hc23 fun hc23 => ?_
       refine gO ?_
       obtain ⟨p24, hc23⟩ := grdO hc23
       refine And.intro p24 ?_
       have ghc23 := gOf hc23
       refine gD2 hc23 fun hc23 => ?_
       have e := Option.some.inj hc23; subst e
       have e := Option.some.inj h6_; subst e
       have e := done_out hs6; subst e
       exact AuX (pI [0]) h
     ·intro _ h21
      exact AuC (pI [0]) hn21 h6_ h21
    ·clear h6_ h21
     intro s7 hc25
     exact AuC (pI [0]) hn6 hs6 hc25
   ·intro _ h6_
    have e := Option.some.inj h6_; subst e
    have e := done_out hs6; subst e
    refine gO ?_
    exact hn20 _ () h (wG [0])
  ·clear h h20
   intro s1 hc26
   exact AuX (pI [0]) hc26
theorem c_puny_within (p_n p_low p_high) (r) (h : m_puny_within p_n p_low p_high = some r) : Contract pl 233 [(AV.int .i64 p_n), (AV.int .i64 p_low), (AV.int .i64 p_high)] [] (AV.int .i64 r) [] := by
 refine contract_of .z Tryz.func233 rfl (by kernel_rfl) ?_
 unfold m_puny_within at h
 exact AuF h
theorem c_puny_bias_bound_own (p_b_0 p_b_1 p_b_2 p_b_3 p_b_4 p_b_5 p_b_6 p_k) (r) (h : m_puny_bias_bound_own p_b_0 p_b_1 p_b_2 p_b_3 p_b_4 p_b_5 p_b_6 p_k = some r) : ContractM 2 pl 204 [(.mp 0 0 0), (.int .i64 p_k)] [some ⟨7, 171, (.vals [(.agg [(.int .i64 p_b_0), (.bool p_b_1), (.mpn 0 0 2 p_b_2), (.ms 1 p_b_3.length), (.int .i32 p_b_4), (.int .i64 p_b_5), (.int .i64 p_b_6)])]), false, false⟩, some ⟨1, 5, (.ints .u8 p_b_3), false, true⟩] (.int .i64 r.2.2.2.2.2.2) [some ⟨7, 171, (.vals [(.agg [(.int .i64 r.1), (.bool r.2.1), (.mpn 0 0 2 r.2.2.1), (.ms 1 p_b_3.length), (.int .i32 r.2.2.2.1), (.int .i64 r.2.2.2.2.1), (.int .i64 r.2.2.2.2.2.1)])]), false, false⟩, some ⟨1, 5, (.ints .u8 p_b_3), false, true⟩] := by
 refine contract_own 2 .z rfl Tryz.func204 rfl (by kernel_rfl) ?_
 refine cL h (c_puny_within _ _ _) ?_
 intro y1 h
 exact AuX (pI [0,1]) h
theorem c_puny_sign (p_n) (r) (h : m_puny_sign p_n = some r) : Contract pl 245 [(AV.int .i64 p_n)] [] (AV.int .u8 r) [] := by
 refine contract_of .z Tryz.func245 rfl (by kernel_rfl) ?_
 unfold m_puny_sign at h
 exact AuF h
theorem c_puny_bias_digits_own (p_b_0 p_b_1 p_b_2 p_b_3 p_b_4 p_b_5 p_b_6 p_d) (r) (h : m_puny_bias_digits_own p_b_0 p_b_1 p_b_2 p_b_3 p_b_4 p_b_5 p_b_6 p_d = some r) : ContractM 2 pl 229 [(.mp 0 0 0), (.int .i64 p_d)] [some ⟨7, 171, (.vals [(.agg [(.int .i64 p_b_0), (.bool p_b_1), (.mpn 0 0 2 p_b_2), (.ms 1 p_b_3.length), (.int .i32 p_b_4), (.int .i64 p_b_5), (.int .i64 p_b_6)])]), false, false⟩, some ⟨1, 5, (.ints .u8 p_b_3), false, true⟩] (.str r.2.2.2.2.2.2) [some ⟨7, 171, (.vals [(.agg [(.int .i64 r.1), (.bool r.2.1), (.mpn 0 0 2 r.2.2.1), (.ms 1 p_b_3.length), (.int .i32 r.2.2.2.1), (.int .i64 r.2.2.2.2.1), (.int .i64 r.2.2.2.2.2.1)])]), false, false⟩, some ⟨1, 5, (.ints .u8 p_b_3), false, true⟩] := by
 refine contract_own 2 .z rfl Tryz.func229 rfl (by kernel_rfl) ?_
 refine lB (fun s2 : Int × Bool × Bool × Int × Int × Int × Int × (List Int) × Int => mkF 40 [(0, (.mp 0 0 0)), (1, (.int .i64 s2.2.2.2.2.2.2.1)), (5, (.ms 2 s2.2.2.2.2.2.2.2.1.length)), (6, (.int .i64 s2.2.2.2.2.2.2.2.2))] [some ⟨7, 171, (.vals [(.agg [(.int .i64 s2.1), (.bool s2.2.1), (.mpn 0 0 2 s2.2.2.1), (.ms 1 p_b_3.length), (.int .i32 s2.2.2.2.1), (.int .i64 s2.2.2.2.2.1), (.int .i64 s2.2.2.2.2.2.1)])]), false, false⟩, some ⟨1, 5, (.ints .u8 p_b_3), false, true⟩, some ⟨1, 5, (.ints .u8 s2.2.2.2.2.2.2.2.1), false, true⟩]) h ?_ ?_
 ·exact weak_trans (weak_nil 5 1 5 (.ints .u8 []) _ rfl rfl trivial (by first | exact Nat.zero_le _ | (simp; done) | decide)) (wG [0,1,2])
 intro x4 h k4 s2 st4 Kn4 hn4 h4 hs4
 refine gO ?_
 refine bnd h4 (fun y5 hy5 h4 => ?_)
 refine own_intro (oC [0,1] (c_puny_bias_bound_own _ _ _ _ _ _ _ _ _ hy5)) ?_
 refine bR h4 ?_ ?_
 ·intro _ h4
  refine cL h4 (c_puny_sign _) ?_
  intro y6 h4
  refine gO ?_
  obtain ⟨p9, h4⟩ := grdO h4
  refine ⟨[], 1, (.ints .u8 [y6]), ⟨by simp [Row.len] <;> omega, rfl, _, rfl, by simp [Row.len] <;> omega, fun j hj => .inl rfl⟩, trivial, fun j hj => rfl, ?_⟩
  conv => whnf
  refine ⟨by simp [Row.len]; try omega, p9, by omega, ?_⟩
  refine gO ?_
  refine ⟨(s2.2.2.2.2.2.2.2.1 ++ [y6]), by first | rfl | simp, fun j hj => by first | rfl | exact lits_u8 _ j hj | (show AV.int .u8 _ = _; simp; done) | (simp [Row.get]), ?_⟩
  have e := Option.some.inj h4; subst e
  have e := done_out hs4; subst e
  exact AuX (pI [0,1]) h
 ·intro _ h4
  refine gD1 h4 fun h4 => ?_
  refine cL h4 (c_puny_sign _) ?_
  intro y7 h4
  refine gO ?_
  obtain ⟨p10, h4⟩ := grdO h4
  refine ⟨[], 1, (.ints .u8 [y7]), ⟨by simp [Row.len] <;> omega, rfl, _, rfl, by simp [Row.len] <;> omega, fun j hj => .inl rfl⟩, trivial, fun j hj => rfl, ?_⟩
  conv => whnf
  refine ⟨by simp [Row.len]; try omega, p10, by omega, ?_⟩
  exact AuC (pI [0,1,4]) hn4 hs4 h4
theorem c_strings_Builder_WriteString_own (p_b_0 p_b_1 p_b_2 p_b_3 p_b_4 p_b_5 p_b_6 p_s) (r) (h : m_strings_Builder_WriteString_own p_b_0 p_b_1 p_b_2 p_b_3 p_b_4 p_b_5 p_b_6 p_s = some r) : ContractM 1 pl 228 [(.mp 0 0 2), (.str p_s)] [some ⟨7, 171, (.vals [(.agg [(.int .i64 p_b_0), (.bool p_b_1), (.mpn 0 0 2 p_b_2), (.ms 1 p_b_3.length), (.int .i32 p_b_4), (.int .i64 p_b_5), (.int .i64 p_b_6)])]), false, false⟩, some ⟨1, 5, (.ints .u8 p_b_3), false, true⟩] (.tup [(.int .i64 r.2.2.2.2.2.2.2), .nili]) [some ⟨7, 171, (.vals [(.agg [(.int .i64 r.1), (.bool r.2.1), (.mpn 0 0 2 r.2.2.1), (.ms 1 r.2.2.2.1.length), (.int .i32 r.2.2.2.2.1), (.int .i64 r.2.2.2.2.2.1), (.int .i64 r.2.2.2.2.2.2.1)])]), false, false⟩, some ⟨1, 5, (.ints .u8 r.2.2.2.1), false, true⟩] := by
 refine contract_own 1 .z rfl Tryz.func228 rfl (by kernel_rfl) ?_
 refine gO ?_
 refine bnd h (fun y1 hy1 h => ?_)
 refine own_intro (oC [0,1] (c_strings_Builder_copyCheck_own2 _ _ _ _ _ _ _ _ hy1)) ?_
 refine gO ?_
 obtain ⟨p2, h⟩ := grdO h
 refine And.intro (by simp [Row.len]; try omega) (And.intro p2 ?_)
 exact AuX (pI [0,2]) h
theorem c_puny_Bias (p_d p_many p_first) (r) (h : m_puny_Bias p_d p_many p_first = some r) : Contract pl 205 [(AV.int .i64 p_d), (AV.int .i64 p_many), (AV.bool p_first)] [] (AV.int .i64 r) [] := by
 refine contract_of (.t false .z (.t false .z (.t true .z (.t false .z (.t false .z (.t true .z .z)))))) Tryz.func205 rfl (by kernel_rfl) ?_
 refine cL h (c_puny_within _ _ _) ?_
 intro y1 h
 refine cL h (c_puny_within _ _ _) ?_
 intro y2 h
 refine cB (fun s3 : Int => mkF 35 [(0, (.int .i64 s3)), (1, (.int .i64 y2))] []) h ?_ ?_
 ·intro Kn12 hn12 x12 h12 h
  refine bR h12 ?_ ?_
  ·intro _ h12
   refine gO ?_
   refine And.intro (by decide) ?_
   exact AuC (pI []) hn12 h h12
  ·intro _ h12
   refine gO ?_
   refine And.intro (by decide) ?_
   exact AuC (pI []) hn12 h h12
 ·clear h
  intro s3 hc13
  refine gD1 hc13 fun hc13 => ?_
  refine cB (fun s5 : Int × Int => mkF 35 [(0, (.int .i64 s5.1)), (7, (.int .i64 s5.2))] []) hc13 ?_ ?_
  ·intro Kn14 hn14 x14 h14 hc13
   refine gO ?_
   refine loop_iter (fun s8 : Int × Int => mkF 35 [(0, (.int .i64 s8.1)), (7, (.int .i64 s8.2))] []) h14 (wG []) ?_
   intro k10 s8 st10 Kn10 hn10 h10_ hs10
   refine bR h10_ ?_ ?_
   ·intro _ h10_
    refine gO ?_
    refine And.intro (by decide) ?_
    exact AuC (pI []) hn10 hs10 h10_
   ·intro _ h10_
    have e := Option.some.inj h10_; subst e
    have e := done_out hs10; subst e
    refine gO ?_
    exact hn14 _ (s8.1, s8.2) hc13 (wG [])
  ·clear hc13
   intro s5 hc15
   unfold m_puny_Bias_K6 at hc15
   exact AuF hc15
theorem c_puny_bias_adapt_own (p_b_0 p_b_1 p_b_2 p_b_3 p_b_4 p_b_5 p_b_6 p_d p_many) (r) (h : m_puny_bias_adapt_own p_b_0 p_b_1 p_b_2 p_b_3 p_b_4 p_b_5 p_b_6 p_d p_many = some r) : ContractM 2 pl 164 [(.mp 0 0 0), (.int .i64 p_d), (.int .i64 p_many)] [some ⟨7, 171, (.vals [(.agg [(.int .i64 p_b_0), (.bool p_b_1), (.mpn 0 0 2 p_b_2), (.ms 1 p_b_3.length), (.int .i32 p_b_4), (.int .i64 p_b_5), (.int .i64 p_b_6)])]), false, false⟩, some ⟨1, 5, (.ints .u8 p_b_3), false, true⟩] (.tup []) [some ⟨7, 171, (.vals [(.agg [(.int .i64 r.1), (.bool r.2.1), (.mpn 0 0 2 r.2.2.1), (.ms 1 p_b_3.length), (.int .i32 r.2.2.2.1), (.int .i64 r.2.2.2.2.1), (.int .i64 r.2.2.2.2.2)])]), false, false⟩, some ⟨1, 5, (.ints .u8 p_b_3), false, true⟩] := by
 refine contract_own 2 .z rfl Tryz.func164 rfl (by kernel_rfl) ?_
 refine cL h (c_puny_Bias _ _ _) ?_
 intro y1 h
 exact AuX (pI [0,1]) h
theorem c_puny_encoder_put_own (p_w_0 p_w_1 p_w_2 p_w_3 p_w_4 p_w_5 p_w_6 p_r p_i) (r) (h : m_puny_encoder_put_own p_w_0 p_w_1 p_w_2 p_w_3 p_w_4 p_w_5 p_w_6 p_r p_i = some r) : ContractM 1 pl 189 [(.mp 0 0 0), (.int .i32 p_r), (.int .i64 p_i)] [some ⟨7, 171, (.vals [(.agg [(.int .i64 p_w_0), (.bool p_w_1), (.mpn 0 0 2 p_w_2), (.ms 1 p_w_3.length), (.int .i32 p_w_4), (.int .i64 p_w_5), (.int .i64 p_w_6)])]), false, false⟩, some ⟨1, 5, (.ints .u8 p_w_3), false, true⟩] (.tup []) [some ⟨7, 171, (.vals [(.agg [(.int .i64 r.1), (.bool r.2.1), (.mpn 0 0 2 r.2.2.1), (.ms 1 r.2.2.2.1.length), (.int .i32 r.2.2.2.2.1), (.int .i64 r.2.2.2.2.2.1), (.int .i64 r.2.2.2.2.2.2)])]), false, false⟩, some ⟨1, 5, (.ints .u8 r.2.2.2.1), false, true⟩] := by
 refine contract_own 1 .z rfl Tryz.func189 rfl (by kernel_rfl) ?_
 refine gO ?_
 refine bnd h (fun y1 hy1 h => ?_)
 refine own_intro (oC [0,1] (c_puny_bias_digits_own _ _ _ _ _ _ _ _ _ hy1)) ?_
 refine gO ?_
 refine bnd h (fun y2 hy2 h => ?_)
 refine own_intro (oC [0,1] (c_strings_Builder_WriteString_own _ _ _ _ _ _ _ _ _ hy2)) ?_
 refine gO ?_
 refine bnd h (fun y3 hy3 h => ?_)
 refine own_intro (oC [0,2] (c_puny_bias_adapt_own _ _ _ _ _ _ _ _ _ _ hy3)) ?_
 exact AuX (pI [0,2]) h
theorem c_puny_encoder_all_own (p_w_0 p_w_1 p_w_2 p_w_3 p_w_4 p_w_5 p_w_6 p_l p_r) (r) (h : m_puny_encoder_all_own p_w_0 p_w_1 p_w_2 p_w_3 p_w_4 p_w_5 p_w_6 p_l p_r = some r) : ContractM 1 pl 140 [(.mp 0 0 0), (e_L_i32 p_l), (.int .i32 p_r)] [some ⟨7, 171, (.vals [(.agg [(.int .i64 p_w_0), (.bool p_w_1), (.mpn 0 0 2 p_w_2), (.ms 1 p_w_3.length), (.int .i32 p_w_4), (.int .i64 p_w_5), (.int .i64 p_w_6)])]), false, false⟩, some ⟨1, 5, (.ints .u8 p_w_3), false, true⟩] (.tup []) [some ⟨7, 171, (.vals [(.agg [(.int .i64 r.1), (.bool r.2.1), (.mpn 0 0 2 r.2.2.1), (.ms 1 r.2.2.2.1.length), (.int .i32 r.2.2.2.2.1), (.int .i64 r.2.2.2.2.2.1), (.int .i64 r.2.2.2.2.2.2)])]), false, false⟩, some ⟨1, 5, (.ints .u8 r.2.2.2.1), false, true⟩] := by
 refine contract_own 1 (.t false .z (.t false .z (.t false (.t false (.t false .z (.t false .z (.t false (.t false (.t false .z (.t true .z .z)) .z) .z))) .z) .z))) rfl Tryz.func140 rfl (by kernel_rfl) ?_
 refine lB (fun s3 : Int × Bool × Bool × (List Int) × Int × Int × Int × Int × Int => mkF 28 [(0, (.mp 0 0 0)), (2, (.int .i32 p_r)), (6, (.int .i64 s3.2.2.2.2.2.2.2.1)), (9, (e_L_i32 p_l)), (10, (.int .i64 ((p_l.length : Nat) : Int))), (11, (.int .i64 s3.2.2.2.2.2.2.2.2))] [some ⟨7, 171, (.vals [(.agg [(.int .i64 s3.1), (.bool s3.2.1), (.mpn 0 0 2 s3.2.2.1), (.ms 1 s3.2.2.2.1.length), (.int .i32 s3.2.2.2.2.1), (.int .i64 s3.2.2.2.2.2.1), (.int .i64 s3.2.2.2.2.2.2.1)])]), false, false⟩, some ⟨1, 5, (.ints .u8 s3.2.2.2.1), false, true⟩]) h ?_ ?_
 ·exact wG [0,1]
 intro x5 h k5 s3 st5 Kn5 hn5 h5 hs5
 refine bR h5 ?_ ?_
 ·intro _ h5
  refine gD2 h5 fun h5 => ?_
  refine cB (fun s6 : Int × Bool × Bool × (List Int) × Int × Int × Int => mkF 28 [(0, (.mp 0 0 0)), (2, (.int .i32 p_r)), (6, (.int .i64 s3.2.2.2.2.2.2.2.1)), (8, (.int .i32 (p_l.getD (s3.2.2.2.2.2.2.2.2.toNat) 0))), (9, (e_L_i32 p_l)), (10, (.int .i64 ((p_l.length : Nat) : Int))), (11, (.int .i64 s3.2.2.2.2.2.2.2.2))] [some ⟨7, 171, (.vals [(.agg [(.int .i64 s6.1), (.bool s6.2.1), (.mpn 0 0 2 s6.2.2.1), (.ms 1 s6.2.2.2.1.length), (.int .i32 s6.2.2.2.2.1), (.int .i64 s6.2.2.2.2.2.1), (.int .i64 s6.2.2.2.2.2.2)])]), false, false⟩, some ⟨1, 5, (.ints .u8 s6.2.2.2.1), false, true⟩]) h5 ?_ ?_
  ·intro Kn10 hn10 x10 h10 h5
   refine bR h10 ?_ ?_
   ·intro _ h10
    refine gO ?_
    refine bnd h10 (fun y8 hy8 h10 => ?_)
    refine own_intro (oC [0,1] (c_puny_encoder_put_own _ _ _ _ _ _ _ _ _ _ hy8)) ?_
    exact AuC (pI [0,2]) hn10 h5 h10
   ·intro _ h10
    exact AuC (pI [0,1]) hn10 h5 h10
  ·clear h5
   intro s6 hc11
   unfold m_puny_encoder_all_own_K7 at hc11
   exact AuC (pI [0,1]) hn5 hs5 hc11
 ·intro _ h5
  have e := Option.some.inj h5; subst e
  have e := done_out hs5; subst e
  exact AuX (pI [0,1]) h
theorem c_strings_Builder_Len_own (p_b_0 p_b_1 p_b_2 p_b_3 p_b_4 p_b_5 p_b_6) (r) (h : m_strings_Builder_Len_own p_b_0 p_b_1 p_b_2 p_b_3 p_b_4 p_b_5 p_b_6 = some r) : ContractM 2 pl 141 [(.mp 0 0 2)] [some ⟨7, 171, (.vals [(.agg [(.int .i64 p_b_0), (.bool p_b_1), (.mpn 0 0 2 p_b_2), (.ms 1 p_b_3.length), (.int .i32 p_b_4), (.int .i64 p_b_5), (.int .i64 p_b_6)])]), false, false⟩, some ⟨1, 5, (.ints .u8 p_b_3), false, true⟩] (.int .i64 r.2.2.2.2.2.2) [some ⟨7, 171, (.vals [(.agg [(.int .i64 r.1), (.bool r.2.1), (.mpn 0 0 2 r.2.2.1), (.ms 1 p_b_3.length), (.int .i32 r.2.2.2.1), (.int .i64 r.2.2.2.2.1), (.int .i64 r.2.2.2.2.2.1)])]), false, false⟩, some ⟨1, 5, (.ints .u8 p_b_3), false, true⟩] := by
 refine contract_own 2 .z rfl Tryz.func141 rfl (by kernel_rfl) ?_
 unfold m_strings_Builder_Len_own at h
 exact AuX (pI [0,1]) h
theorem c_strings_Builder_String_own2 (p_b_0 p_b_1 p_b_2 p_b_3 p_b_4 p_b_5 p_b_6) (r) (h : m_strings_Builder_String_own2 p_b_0 p_b_1 p_b_2 p_b_3 p_b_4 p_b_5 p_b_6 = some r) : ContractM 2 pl 119 [(.mp 0 0 2)] [some ⟨7, 171, (.vals [(.agg [(.int .i64 p_b_0), (.bool p_b_1), (.mpn 0 0 2 p_b_2), (.ms 1 p_b_3.length), (.int .i32 p_b_4), (.int .i64 p_b_5), (.int .i64 p_b_6)])]), false, false⟩, some ⟨1, 5, (.ints .u8 p_b_3), false, true⟩] (.str r.2.2.2.2.2.2.2) [some ⟨7, 171, (.vals [(.agg [(.int .i64 r.1), (.bool r.2.1), (.mpn 0 0 2 r.2.2.1), (.ms 1 r.2.2.2.1.length), (.int .i32 r.2.2.2.2.1), (.int .i64 r.2.2.2.2.2.1), (.int .i64 r.2.2.2.2.2.2.1)])]), false, false⟩, some ⟨1, 5, (.ints .u8 r.2.2.2.1), true, true⟩] := by
 refine contract_own 2 .z rfl Tryz.func119 rfl (by kernel_rfl) ?_
 refine gO ?_
 refine And.intro (by first | exact Nat.le_refl _ | (simp [Row.len]; try omega)) ?_
 refine gO ?_
 obtain ⟨p1, h⟩ := grdO h
 refine And.intro (by first | rfl | simp) (And.intro (by simp) (And.intro p1 ?_))
 exact AuX (pI [0,1]) h
theorem c_puny_Encode (p_l) (r) (h : m_puny_Encode p_l = some r) : Contract pl 84 [(e_L_i32 p_l)] [] (AV.tup [(AV.str r.1), (AV.err r.2)]) [] := by
 refine contract_of (.t false .z (.t true .z (.t false .z (.t false .z (.t false .z (.t true .z (.t true .z (.t false .z (.t true .z .z))))))))) Tryz.func84 rfl (by kernel_rfl) ?_
 refine gO ?_
 refine bnd h (fun x37 h37 h => ?_)
 refine cut_at (fun s1 : Unit => mkF 94 [(0, (e_L_i32 p_l))] []) (fun s1 : Unit => m_puny_Encode_K2 p_l s1 = some r) ?_ ?_
 ·intro Kn37 hn37
  refine gO ?_
  refine loop_iter (fun s29 : Int => mkF 94 [(0, (e_L_i32 p_l)), (12, (e_L_i32 p_l)), (13, (.int .i64 ((p_l.length : Nat) : Int))), (14, (.int .i64 s29))] []) h37 (wG []) ?_
  intro k31 s29 st31 Kn31 hn31 h31_ hs31
  refine bR h31_ ?_ ?_
  ·intro _ h31_
   refine gD2 h31_ fun h31_ => ?_
   refine cL h31_ (c_utf_Right _) ?_
   intro y32 h31_
   refine bR h31_ ?_ ?_
   ·intro _ h31_
    refine cL h31_ (c_puny_fault _ _) ?_
    intro y33 h31_
    have e := Option.some.inj h31_; subst e
    have e := done_out hs31; subst e
    exact AuF h
   ·intro _ h31_
    exact AuC (pI []) hn31 hs31 h31_
  ·intro _ h31_
   have e := Option.some.inj h31_; subst e
   have e := done_out hs31; subst e
   refine gO ?_
   exact hn37 _ () h (wG [])
 ·clear h h37
  intro s1 hc38
  refine bR hc38 ?_ ?_
  ·intro _ hc38
   refine cL hc38 (c_puny_fault _ _) ?_
   intro y3 hc38
   exact AuF hc38
  ·intro _ hc38
   refine cB (fun s4 : Int × Bool × Bool × (List Int) × Int × Int × Int × (List Int) => mkF 94 [(0, (e_L_i32 p_l)), (6, (.mp 0 0 0)), (7, (.ms 2 s4.2.2.2.2.2.2.2.length))] [some ⟨7, 171, (.vals [(.agg [(.int .i64 s4.1), (.bool s4.2.1), (.mpn 0 0 2 s4.2.2.1), (.ms 1 s4.2.2.2.1.length), (.int .i32 s4.2.2.2.2.1), (.int .i64 s4.2.2.2.2.2.1), (.int .i64 s4.2.2.2.2.2.2.1)])]), false, false⟩, some ⟨1, 5, (.ints .u8 s4.2.2.2.1), false, true⟩, some ⟨1, 21, (.ints .i32 s4.2.2.2.2.2.2.2), false, true⟩]) hc38 ?_ ?_
   ·intro Kn39 hn39 x39 h39 hc38
    refine gO ?_
    refine loop_iter (fun s23 : Int × Bool × Bool × (List Int) × Int × Int × Int × (List Int) × Int => mkF 94 [(0, (e_L_i32 p_l)), (6, (.mp 0 0 0)), (7, (.ms 2 s23.2.2.2.2.2.2.2.1.length)), (34, (e_L_i32 p_l)), (35, (.int .i64 ((p_l.length : Nat) : Int))), (36, (.int .i64 s23.2.2.2.2.2.2.2.2))] [some ⟨7, 171, (.vals [(.agg [(.int .i64 s23.1), (.bool s23.2.1), (.mpn 0 0 2 s23.2.2.1), (.ms 1 s23.2.2.2.1.length), (.int .i32 s23.2.2.2.2.1), (.int .i64 s23.2.2.2.2.2.1), (.int .i64 s23.2.2.2.2.2.2.1)])]), false, false⟩, some ⟨1, 5, (.ints .u8 s23.2.2.2.1), false, true⟩, some ⟨1, 21, (.ints .i32 s23.2.2.2.2.2.2.2.1), false, true⟩]) h39 (weak_trans (weak_nil 7 1 21 (.ints .i32 []) _ rfl rfl trivial (by first | exact Nat.zero_le _ | (simp; done) | decide)) (weak_trans (weak_nilc 0 0 3 _ [(.agg [(.int .i64 (72 : Int)), (.bool false), .nilp, (.sl (some true) 0 fun _ => .unk), (.int .i32 (128 : Int)), (.int .i64 (0 : Int)), (.int .i64 (0 : Int))])] [(.int .i64 (72 : Int)), (.bool false), .nilp, (.sl (some true) 0 fun _ => .unk), (.int .i32 (128 : Int)), (.int .i64 (0 : Int)), (.int .i64 (0 : Int))] 1 5 (.ints .u8 []) _ rfl rfl rfl rfl rfl trivial (by first | exact Nat.zero_le _ | simp)) (wG [0,2,1]))) ?_
    intro k25 s23 st25 Kn25 hn25 h25_ hs25
    refine bR h25_ ?_ ?_
    ·intro _ h25_
     refine gD2 h25_ fun h25_ => ?_
     refine bR h25_ ?_ ?_
     ·intro _ h25_
      refine gO ?_
      refine bnd h25_ (fun y26 hy26 h25_ => ?_)
      refine own_intro (oC [0,1] (c_strings_Builder_WriteByte_own2 _ _ _ _ _ _ _ _ _ hy26)) ?_
      exact AuC (pI [0,3,2]) hn25 hs25 h25_
     ·intro _ h25_
      refine gO ?_
      obtain ⟨p40, h25_⟩ := grdO h25_
      refine ⟨[], 1, (.ints .i32 [(p_l.getD (s23.2.2.2.2.2.2.2.2.toNat) 0)]), ⟨by simp [Row.len] <;> omega, rfl, _, rfl, by simp [Row.len] <;> omega, fun j hj => .inl rfl⟩, trivial, fun j hj => rfl, ?_⟩
      conv => whnf
      refine ⟨by simp [Row.len]; try omega, p40, by omega, ?_⟩
      exact AuC (pI [0,1,4]) hn25 hs25 h25_
    ·intro _ h25_
     have e := Option.some.inj h25_; subst e
     have e := done_out hs25; subst e
     refine gO ?_
     exact hn39 _ (s23.1, s23.2.1, s23.2.2.1, s23.2.2.2.1, s23.2.2.2.2.1, s23.2.2.2.2.2.1, s23.2.2.2.2.2.2.1, s23.2.2.2.2.2.2.2.1) hc38 (wG [0,1,2])
   ·clear hc38
    intro s4 hc41
    refine cB (fun s6 : Int × Bool × Bool × (List Int) × Int × Int × Int => mkF 94 [(0, (e_L_i32 p_l)), (6, (.mp 0 0 0)), (7, (.ms 2 s4.2.2.2.2.2.2.2.length))] [some ⟨7, 171, (.vals [(.agg [(.int .i64 s6.1), (.bool s6.2.1), (.mpn 0 0 2 s6.2.2.1), (.ms 1 s6.2.2.2.1.length), (.int .i32 s6.2.2.2.2.1), (.int .i64 s6.2.2.2.2.2.1), (.int .i64 s6.2.2.2.2.2.2)])]), false, false⟩, some ⟨1, 5, (.ints .u8 s6.2.2.2.1), false, true⟩, some ⟨1, 21, (.ints .i32 s4.2.2.2.2.2.2.2), false, true⟩]) hc41 ?_ ?_
    ·intro Kn42 hn42 x42 h42 hc41
     refine bR h42 ?_ ?_
     ·intro _ h42
      refine gO ?_
      refine bnd h42 (fun y21 hy21 h42 => ?_)
      refine own_intro (oC [0,1] (c_strings_Builder_WriteByte_own2 _ _ _ _ _ _ _ _ _ hy21)) ?_
      exact AuC (pI [0,3,2]) hn42 hc41 h42
     ·intro _ h42
      exact AuC (pI [0,1,2]) hn42 hc41 h42
    ·clear hc41
     intro s6 hc43
     refine gO ?_
     refine bnd hc43 (fun y8 hy8 hc43 => ?_)
     refine Or.inr (own_intro (oC [2] (c_slices_Sort_rune_rune_own _ _ hy8)) ?_)
     refine gO ?_
     obtain ⟨p44, hc43⟩ := grdO hc43
     refine cB (fun s9 : Int × Bool × Bool × (List Int) × Int × Int × Int => mkF 94 [(6, (.mp 0 0 0))] [some ⟨7, 171, (.vals [(.agg [(.int .i64 s9.1), (.bool s9.2.1), (.mpn 0 0 2 s9.2.2.1), (.ms 1 s9.2.2.2.1.length), (.int .i32 s9.2.2.2.2.1), (.int .i64 s9.2.2.2.2.2.1), (.int .i64 s9.2.2.2.2.2.2)])]), false, false⟩, some ⟨1, 5, (.ints .u8 s9.2.2.2.1), false, true⟩]) hc43 ?_ ?_
     ·intro Kn45 hn45 x45 h45 hc43
      refine gO ?_
      refine bnd h45 (fun y14 hy14 h45 => ?_)
      refine Or.inr (own_intro (oC [2] (c_slices_Compact_rune_rune_own _ _ hy14)) ?_)
      refine gO ?_
      obtain ⟨p46, h45⟩ := grdO h45
      refine gO ?_
      refine loop_iter (fun s16 : Int × Bool × Bool × (List Int) × Int × Int × Int × Int => mkF 94 [(0, (e_L_i32 p_l)), (6, (.mp 0 0 0)), (72, (.ms 2 y14.2)), (73, (.int .i64 ((y14.2 : Nat) : Int))), (74, (.int .i64 s16.2.2.2.2.2.2.2))] [some ⟨7, 171, (.vals [(.agg [(.int .i64 s16.1), (.bool s16.2.1), (.mpn 0 0 2 s16.2.2.1), (.ms 1 s16.2.2.2.1.length), (.int .i32 s16.2.2.2.2.1), (.int .i64 s16.2.2.2.2.2.1), (.int .i64 s16.2.2.2.2.2.2.1)])]), false, false⟩, some ⟨1, 5, (.ints .u8 s16.2.2.2.1), false, true⟩, some ⟨1, 21, (.ints .i32 y14.1), false, true⟩]) h45 (wG [0,1,2]) ?_
      intro k18 s16 st18 Kn18 hn18 h18_ hs18
      refine bR h18_ ?_ ?_
      ·intro _ h18_
       refine gD2 h18_ fun h18_ => ?_
       refine gO ?_
       refine bnd h18_ (fun y19 hy19 h18_ => ?_)
       refine own_intro (oC [0,1] (c_puny_encoder_all_own _ _ _ _ _ _ _ _ _ _ hy19)) ?_
       exact AuC (pI [0,3,2]) hn18 hs18 h18_
      ·intro _ h18_
       have e := Option.some.inj h18_; subst e
       have e := done_out hs18; subst e
       refine gO ?_
       exact hn45 _ (s16.1, s16.2.1, s16.2.2.1, s16.2.2.2.1, s16.2.2.2.2.1, s16.2.2.2.2.2.1, s16.2.2.2.2.2.2.1) hc43 (wG [0,1])
     ·clear hc43
      intro s9 hc47
      refine gO ?_
      refine bnd hc47 (fun y11 hy11 hc47 => ?_)
      refine own_intro (oC [0,1] (c_strings_Builder_Len_own _ _ _ _ _ _ _ _ hy11)) ?_
      refine bR hc47 ?_ ?_
      ·intro _ hc47
       refine cL hc47 (c_puny_fault _ _) ?_
       intro y12 hc47
       exact AuF hc47
      ·intro _ hc47
       refine gO ?_
       refine bnd hc47 (fun y13 hy13 hc47 => ?_)
       refine own_intro (oC [0,1] (c_strings_Builder_String_own2 _ _ _ _ _ _ _ _ hy13)) ?_
       refine gO ?_
       obtain ⟨p48, hc47⟩ := grdO hc47
       exact AuF hc47
theorem c_label_form (p_l) (r) (h : m_label_form p_l = some r) : Contract pl 38 [(e_L_i32 p_l)] [] (AV.tup [(AV.str r.1), (AV.err r.2)]) [] := by
 refine contract_of .z Tryz.func38 rfl (by kernel_rfl) ?_
 refine cL h (c_utf_Encode _) ?_
 intro y1 h
 refine cL h (c_slices_ContainsFunc_rune_rune_label_form_1 _) ?_
 intro y2 h
 refine bR h ?_ ?_
 ·intro _ h
  exact AuF h
 ·intro _ h
  refine cL h (c_puny_Encode _) ?_
  intro y3 h
  exact AuF h
theorem c_label_Check (p_t p_l) (r) (h : m_label_Check p_t p_l = some r) : Contract pl 16 [(e_api_Tables p_t), (e_L_i32 p_l)] [] (AV.err r) [] := by
 refine contract_of (.t false .z (.t false .z (.t false .z (.t true (.t false .z (.t false (.t false .z .z) .z)) (.t false (.t false .z (.t true .z .z)) .z))))) Tryz.func16 rfl (by kernel_rfl) ?_
 refine bR h ?_ ?_
 ·intro _ h
  refine cL h (c_label_fault _ _) ?_
  intro y1 h
  exact AuF h
 ·intro _ h
  refine gO ?_
  refine bnd h (fun x20 h20 h => ?_)
  refine cut_at (fun s2 : Unit => mkF 63 [(3, (.mp 0 0 0))] [some ⟨1, 24, (.vals [(e_L_i32 p_l)]), false, false⟩]) (fun s2 : Unit => m_label_Check_K3 p_l s2 = some r) ?_ ?_
  ·intro Kn20 hn20
   refine gO ?_
   refine loop_unroll 6 ?_
   refine gO ?_
   refine And.intro (by decide) (And.intro (by decide) ?_)
   refine cL h20 (c_label_Check_2 _ _) ?_
   intro y9 h20
   refine bR h20 ?_ ?_
   ·intro _ h20
    refine cL h20 (c_label_fault _ _) ?_
    intro y10 h20
    have e := Option.some.inj h20; subst e
    exact AuF h
   ·intro _ h20
    refine gO ?_
    refine And.intro (by decide) (And.intro (by decide) ?_)
    refine cL h20 (c_label_Check_3 _) ?_
    intro y11 h20
    refine bR h20 ?_ ?_
    ·intro _ h20
     refine cL h20 (c_label_fault _ _) ?_
     intro y12 h20
     have e := Option.some.inj h20; subst e
     exact AuF h
    ·intro _ h20
     refine gO ?_
     refine And.intro (by decide) (And.intro (by decide) ?_)
     refine cL h20 (c_label_Check_4 _ _) ?_
     intro y13 h20
     refine bR h20 ?_ ?_
     ·intro _ h20
      refine cL h20 (c_label_fault _ _) ?_
      intro y14 h20
      have e := Option.some.inj h20; subst e
      exact AuF h
     ·intro _ h20
      refine gO ?_
      refine And.intro (by decide) (And.intro (by decide) ?_)
      refine cL h20 (c_label_Check_5 _ _) ?_
      intro y15 h20
      refine bR h20 ?_ ?_
      ·intro _ h20
       refine cL h20 (c_label_fault _ _) ?_
       intro y16 h20
       have e := Option.some.inj h20; subst e
       exact AuF h
      ·intro _ h20
       refine gO ?_
       refine And.intro (by decide) (And.intro (by decide) ?_)
       refine cL h20 (c_label_Check_1 _ _) ?_
       intro y17 h20
       refine bR h20 ?_ ?_
       ·intro _ h20
        refine cL h20 (c_label_fault _ _) ?_
        intro y18 h20
        have e := Option.some.inj h20; subst e
        exact AuF h
       ·intro _ h20
        exact AuC (pI [1]) hn20 h h20
  ·clear h h20
   intro s2 hc21
   refine cL hc21 (c_label_form _) ?_
   intro y4 hc21
   refine cB (fun s5 : Bool => mkF 63 [(60, (.bool s5))] []) hc21 ?_ ?_
   ·intro Kn22 hn22 x22 h22 hc21
    refine bR h22 ?_ ?_
    ·intro _ h22
     exact AuC (pI []) hn22 hc21 h22
    ·intro _ h22
     refine cL h22 (c_errors_Is _ _) ?_
     intro y8 h22
     exact AuC (pI []) hn22 hc21 h22
   ·clear hc21
    intro s5 hc23
    refine bR hc23 ?_ ?_
    ·intro _ hc23
     refine cL hc23 (c_label_fault _ _) ?_
     intro y7 hc23
     exact AuF hc23
    ·intro _ hc23
     exact AuF hc23
theorem c_label_Plain (p_t p_l) (r) (h : m_label_Plain p_t p_l = some r) : Contract pl 13 [(e_api_Tables p_t), (e_L_i32 p_l)] [] (AV.tup [(AV.str r.1), (AV.err r.2)]) [] := by
 refine contract_of .z Tryz.func13 rfl (by kernel_rfl) ?_
 refine cL h (c_label_Check _ _) ?_
 intro y1 h
 refine bR h ?_ ?_
 ·intro _ h
  exact AuF h
 ·intro _ h
  refine cL h (c_label_form _) ?_
  intro y2 h
  exact AuF h
theorem c_label_Canon (p_t p_s) (r) (h : m_label_Canon p_t p_s = some r) : Contract pl 22 [(e_api_Tables p_t), (AV.str p_s)] [] (AV.tup [(AV.str r.1), (AV.err r.2)]) [] := by
 refine contract_of (.t false .z (.t false .z (.t false .z (.t false .z (.t false .z (.t false (.t true .z .z) .z)))))) Tryz.func22 rfl (by kernel_rfl) ?_
 refine cL h (c_utf_Decode _) ?_
 intro y1 h
 refine bR h ?_ ?_
 ·intro _ h
  exact AuF h
 ·intro _ h
  refine cL h (c_label_Small _ _) ?_
  intro y2 h
  refine cL h (c_utf_Encode _) ?_
  intro y3 h
  refine cB (fun s4 : Bool => mkF 55 [(2, (.mp 0 0 0)), (6, (e_L_i32 y2)), (8, (.str y3.1)), (39, (.bool s4))] [some ⟨15, 31, (.vals [(e_api_Tables p_t)]), false, false⟩]) h ?_ ?_
  ·intro Kn8 hn8 x8 h8 h
   refine bR h8 ?_ ?_
   ·intro _ h8
    refine cL h8 (c_strings_HasPrefix _ _) ?_
    intro y7 h8
    exact AuC (pI [0]) hn8 h h8
   ·intro _ h8
    exact AuC (pI [0]) hn8 h h8
  ·clear h
   intro s4 hc9
   refine bR hc9 ?_ ?_
   ·intro _ hc9
    cases hc9
   ·intro _ hc9
    refine cL hc9 (c_label_Plain _ _) ?_
    intro y6 hc9
    exact AuF hc9
theorem c_eponymlaw01_Named (p_code) (r) (h : m_eponymlaw01_Named p_code = some r) : Contract pl 41 [(AV.int .i64 p_code)] [] (AV.err r) [] := by
 refine contract_of .z Tryz.func41 rfl (by kernel_rfl) ?_
 unfold m_eponymlaw01_Named at h
 exact AuF h
theorem c_eponymlaw01_Is (p_e p_at p_code) (r) (h : m_eponymlaw01_Is p_e p_at p_code = some r) : Contract pl 15 [(AV.err p_e), (AV.int .i64 p_at), (AV.int .i64 p_code)] [] (AV.bool r) [] := by
 refine contract_of .z Tryz.func15 rfl (by kernel_rfl) ?_
 refine bR h ?_ ?_
 ·intro _ h
  exact AuF h
 ·intro _ h
  refine bR h ?_ ?_
  ·intro _ h
   refine gO ?_
   refine br_e h (fun hx h => ?_) (fun hx h => ?_)
   ·refine Or.inr (own_intro (own_call [0] (c_errors_As_nil _ hx) rfl (storeLe.cons rfl (objLe.mk (by intro hf; first | exact hf | rfl) (by intro hf; first | exact hf | rfl) (rowLe_vals (valsLe.cons (cellsLe_refl rfl) valsLe.nil))) storeLe.nil) (cellsLe.cons (And.intro rfl (AV.Le.refl _)) (cellsLe.cons (And.intro rfl (AV.Le.refl _)) cellsLe.nil)) rfl) ?_)
    exact AuF h
   ·refine gO ?_
    refine bnd h (fun y1 hy1 h => ?_)
    refine Or.inr (own_intro (own_call [0] (c_errors_As _ _ hy1) rfl (storeLe.cons rfl (objLe.mk (by intro hf; first | exact hf | rfl) (by intro hf; first | exact hf | rfl) (rowLe_vals (valsLe.cons (cellsLe_refl rfl) valsLe.nil))) storeLe.nil) (cellsLe.cons (And.intro rfl (AV.Le.refl _)) (cellsLe.cons (And.intro rfl (AV.Le.refl _)) cellsLe.nil)) rfl) ?_)
    refine bR h ?_ ?_
    ·intro _ h
     refine cL h (c_eponymlaw01_Named _) ?_
     intro y2 h
     refine cL h (c_errors_Is _ _) ?_
     intro y3 h
     exact AuF h
    ·intro _ h
     exact AuF h
  ·intro _ h
   exact AuF h
theorem c_eponymlaw10_awake  (r) (h : m_eponymlaw10_awake  = some r) : Contract pl 9 [] [] (AV.bool r) [] := by
 refine contract_of .z Tryz.func9 rfl (by kernel_rfl) ?_
 refine gO ?_
 refine bnd h (fun y1 hy1 h => ?_)
 refine Or.inl ⟨_, c_eponymlaw10_known  _ hy1, rfl, ?_⟩
 refine cL h (c_label_Canon _ _) ?_
 intro y2 h
 refine gO ?_
 refine bnd h (fun y3 hy3 h => ?_)
 refine Or.inl ⟨_, c_eponymlaw10_known  _ hy3, rfl, ?_⟩
 refine cL h (c_label_Canon _ _) ?_
 intro y4 h
 refine bR h ?_ ?_
 ·intro _ h
  refine bR h ?_ ?_
  ·intro _ h
   refine cL h (c_eponymlaw01_Is _ _ _) ?_
   intro y5 h
   exact AuF h
  ·intro _ h
   exact AuF h
 ·intro _ h
  exact AuF h
theorem c_eponymlaw04_Great (p_t) (r) (h : m_eponymlaw04_Great p_t = some r) : Contract pl 72 [(e_api_Norm p_t)] [] (AV.bool r) [] := by
 refine contract_of (.t false .z (.t false (.t true .z .z) (.t true .z .z))) Tryz.func72 rfl (by kernel_rfl) ?_
 refine cB (fun s1 : Bool => mkF 35 [(1, (.mp 0 0 0)), (19, (.bool s1))] [some ⟨3, 26, (.vals [(e_api_Norm p_t)]), false, false⟩]) h ?_ ?_
 ·intro Kn12 hn12 x12 h12 h
  exact AuC (pI [0]) hn12 h h12
 ·clear h
  intro s1 hc13
  refine bR hc13 ?_ ?_
  ·intro _ hc13
   exact AuF hc13
  ·intro _ hc13
   refine gO ?_
   refine bnd hc13 (fun x14 h14 hc13 => ?_)
   refine cut_at (fun s3 : Unit => mkF 35 [] []) (fun s3 : Unit => some false = some r) ?_ ?_
   ·intro Kn14 hn14
    refine gO ?_
    refine loop_iter (fun s6 : Int => mkF 35 [(1, (.mp 0 0 0)), (3, (.int .i64 s6))] [some ⟨3, 26, (.vals [(e_api_Norm p_t)]), false, false⟩]) h14 (wG [0]) ?_
    intro k8 s6 st8 Kn8 hn8 h8_ hs8
    refine bR h8_ ?_ ?_
    ·intro _ h8_
     refine gD2 h8_ fun h8_ => ?_
     refine bR h8_ ?_ ?_
     ·intro _ h8_
      have e := Option.some.inj h8_; subst e
      have e := done_out hs8; subst e
      exact AuF hc13
     ·intro _ h8_
      exact AuC (pI [0]) hn8 hs8 h8_
    ·intro _ h8_
     have e := Option.some.inj h8_; subst e
     have e := done_out hs8; subst e
     refine gO ?_
     exact hn14 _ () hc13 (wG [])
   ·clear hc13 h14
    intro s3 hc15
    exact AuF hc15
theorem c_eponymref07_Tables (p_p) (r) (h : m_eponymref07_Tables p_p = some r) : Contract pl 126 [(e_api_Props p_p)] [] (e_A11_L_api_Range r) [] := by
 refine contract_of .z Tryz.func126 rfl (by kernel_rfl) ?_
 refine gO ?_
 refine natEq rfl ?_
 have e := Option.some.inj h; subst e
 refine gO ?_
 exact And.intro (AV.Le.agg (argsLe.cons (AV.Le.refl _) (argsLe.cons (AV.Le.refl _) (argsLe.cons (AV.Le.refl _) (argsLe.cons (AV.Le.refl _) (argsLe.cons (AV.Le.refl _) (argsLe.cons (AV.Le.refl _) (argsLe.cons (AV.Le.refl _) (argsLe.cons (AV.Le.refl _) (argsLe.cons (AV.Le.refl _) (argsLe.cons (AV.Le.refl _) (argsLe.cons (AV.Le.refl _) argsLe.nil)))))))))))) rfl
theorem c_eponymlaw07_Great (p_p) (r) (h : m_eponymlaw07_Great p_p = some r) : Contract pl 73 [(e_api_Props p_p)] [] (AV.bool r) [] := by
 refine contract_of (.t false .z (.t false .z (.t true .z .z))) Tryz.func73 rfl (by kernel_rfl) ?_
 refine cL h (c_eponymref07_Tables _) ?_
 intro y1 h
 refine gO ?_
 refine natEq rfl ?_
 refine gO ?_
 refine bnd h (fun x11 h11 h => ?_)
 refine cut_at (fun s2 : Unit => mkF 16 [] []) (fun s2 : Unit => some false = some r) ?_ ?_
 ·intro Kn11 hn11
  refine gO ?_
  refine loop_iter (fun s5 : Int => mkF 16 [(3, (.mp 0 0 0)), (4, (.int .i64 s5))] [some ⟨1, 160, (.imf [(y1.getD 0 []), (y1.getD 1 []), (y1.getD 2 []), (y1.getD 3 []), (y1.getD 4 []), (y1.getD 5 []), (y1.getD 6 []), (y1.getD 7 []), (y1.getD 8 []), (y1.getD 9 []), (y1.getD 10 [])].length fun j => (e_L_api_Range ([(y1.getD 0 []), (y1.getD 1 []), (y1.getD 2 []), (y1.getD 3 []), (y1.getD 4 []), (y1.getD 5 []), (y1.getD 6 []), (y1.getD 7 []), (y1.getD 8 []), (y1.getD 9 []), (y1.getD 10 [])].getD j []))), false, false⟩]) h11 (weak_gen [1] rfl rfl (sK rfl (rowLe_lit (fun x => (e_L_api_Range x)) [] [(y1.getD 0 []), (y1.getD 1 []), (y1.getD 2 []), (y1.getD 3 []), (y1.getD 4 []), (y1.getD 5 []), (y1.getD 6 []), (y1.getD 7 []), (y1.getD 8 []), (y1.getD 9 []), (y1.getD 10 [])]) storeLe.nil) (sQ rfl rfl)) ?_
  intro k7 s5 st7 Kn7 hn7 h7_ hs7
  refine bR h7_ ?_ ?_
  ·intro _ h7_
   refine gD2 h7_ fun h7_ => ?_
   refine bR h7_ ?_ ?_
   ·intro _ h7_
    have e := Option.some.inj h7_; subst e
    have e := done_out hs7; subst e
    exact AuF h
   ·intro _ h7_
    exact AuC (pI [0]) hn7 hs7 h7_
  ·intro _ h7_
   have e := Option.some.inj h7_; subst e
   have e := done_out hs7; subst e
   refine gO ?_
   exact hn11 _ () h (wG [])
 ·clear h h11
  intro s2 hc12
  exact AuF hc12
theorem c_eponymlaw08_Great (p_t) (r) (h : m_eponymlaw08_Great p_t = some r) : Contract pl 29 [(e_api_Tables p_t)] [] (AV.bool r) [] := by
 refine contract_of .z Tryz.func29 rfl (by kernel_rfl) ?_
 refine cL h (c_eponymlaw04_Great _) ?_
 intro y1 h
 refine bR h ?_ ?_
 ·intro _ h
  exact AuF h
 ·intro _ h
  refine cL h (c_eponymlaw07_Great _) ?_
  intro y2 h
  exact AuF h
theorem c_eponymlaw10_Great (p_t) (r) (h : m_eponymlaw10_Great p_t = some r) : Contract pl 10 [(e_api_Tables p_t)] [] (AV.bool r) [] := by
 refine contract_of .z Tryz.func10 rfl (by kernel_rfl) ?_
 refine cL h (c_eponymlaw08_Great _) ?_
 intro y1 h
 exact AuF h
theorem c_eponymref01_Right (p_r) (r) (h : m_eponymref01_Right p_r = some r) : Contract pl 68 [(AV.int .i32 p_r)] [] (AV.bool r) [] := by
 refine contract_of .z Tryz.func68 rfl (by kernel_rfl) ?_
 unfold m_eponymref01_Right at h
 exact AuF h
theorem c_eponymref04_hangul (p_r) (r) (h : m_eponymref04_hangul p_r = some r) : Contract pl 173 [(AV.int .i32 p_r)] [] (AV.bool r) [] := by
 refine contract_of .z Tryz.func173 rfl (by kernel_rfl) ?_
 unfold m_eponymref04_hangul at h
 exact AuF h
theorem c_eponymref04_Row (p_t p_r) (r) (h : m_eponymref04_Row p_t p_r = some r) : Contract pl 184 [(e_api_Norm p_t), (AV.int .i32 p_r)] [] (AV.int .i64 r) [] := by
 refine contract_of (.t false .z (.t true .z .z)) Tryz.func184 rfl (by kernel_rfl) ?_
 refine gO ?_
 refine bnd h (fun x10 h10 h => ?_)
 refine cut_at (fun s1 : Unit => mkF 22 [] []) (fun s1 : Unit => some (-1 : Int) = some r) ?_ ?_
 ·intro Kn10 hn10
  refine gO ?_
  refine loop_iter (fun s4 : Int => mkF 22 [(1, (.int .i32 p_r)), (2, (.mp 0 0 0)), (5, (.int .i64 s4))] [some ⟨3, 26, (.vals [(e_api_Norm p_t)]), false, false⟩]) h10 (wG [0]) ?_
  intro k6 s4 st6 Kn6 hn6 h6_ hs6
  refine bR h6_ ?_ ?_
  ·intro _ h6_
   refine gD2 h6_ fun h6_ => ?_
   refine bR h6_ ?_ ?_
   ·intro _ h6_
    have e := Option.some.inj h6_; subst e
    have e := done_out hs6; subst e
    exact AuF h
   ·intro _ h6_
    exact AuC (pI [0]) hn6 hs6 h6_
  ·intro _ h6_
   have e := Option.some.inj h6_; subst e
   have e := done_out hs6; subst e
   refine gO ?_
   exact hn10 _ () h (wG [])
 ·clear h h10
  intro s1 hc11
  exact AuF hc11
theorem c_eponymref04_ahead (p_t p_i) (r) (h : m_eponymref04_ahead p_t p_i = some r) : Contract pl 208 [(e_api_Norm p_t), (AV.int .i64 p_i)] [] (AV.int .i64 r) [] := by
 refine contract_of (.t false .z (.t true .z .z)) Tryz.func208 rfl (by kernel_rfl) ?_
 refine gO ?_
 refine bnd h (fun x10 h10 h => ?_)
 refine cut_at (fun s1 : Unit => mkF 27 [] []) (fun s1 : Unit => some (-1 : Int) = some r) ?_ ?_
 ·intro Kn10 hn10
  refine gO ?_
  refine loop_iter (fun s4 : Int => mkF 27 [(1, (.int .i64 p_i)), (2, (.mp 0 0 0)), (5, (.int .i64 s4))] [some ⟨3, 26, (.vals [(e_api_Norm p_t)]), false, false⟩]) h10 (wG [0]) ?_
  intro k6 s4 st6 Kn6 hn6 h6_ hs6
  refine bR h6_ ?_ ?_
  ·intro _ h6_
   refine gD2 h6_ fun h6_ => ?_
   refine gD2 h6_ fun h6_ => ?_
   refine gD2 h6_ fun h6_ => ?_
   refine bR h6_ ?_ ?_
   ·intro _ h6_
    have e := Option.some.inj h6_; subst e
    have e := done_out hs6; subst e
    exact AuF h
   ·intro _ h6_
    exact AuC (pI [0]) hn6 hs6 h6_
  ·intro _ h6_
   have e := Option.some.inj h6_; subst e
   have e := done_out hs6; subst e
   refine gO ?_
   exact hn10 _ () h (wG [])
 ·clear h h10
  intro s1 hc11
  exact AuF hc11
end Go.Proofs.YtkeokkmhhhhoiaaGreatDoor
