/- The shadow evaluator, part 17: arguments that stand for less, and what a called function is handed at the outermost. -/
import Derived.Test.YtkeokkmhhhhoiaaGreatDoorSe16
namespace Go.SE
open Go
set_option linter.unusedVariables false
/-- Whatever the first stands for, the second does, too. -/
def AV.Le (x y : AV) : Prop := ∀ (w : World) (cx : Cx) (A : Nat → Prop) (v : Value), Rel w cx A x v → Rel w cx A y v
theorem AV.Le.refl (x : AV) : x.Le x := fun _ _ _ _ h => h
theorem AV.Le.of_eq {x y : AV} (h : x = y) : x.Le y := h ▸ AV.Le.refl x
theorem AV.Le.sl {nl : Option Bool} {n : Nat} {get get' : Nat → AV} (h : ∀ j, j < n → get j = get' j) : (AV.sl nl n get).Le (.sl nl n get') := by
  intro w cx A v R
  cases R with
  | sl _ _ _ a cap esz vals h1 h2 h3 h4 h5 h6 h7 =>
    refine .sl nl n get' a cap esz vals h1 h2 h3 h4 (fun hn => ?_) (fun j hj => (by rw [← h j hj]; exact h6 j hj)) fun j c x hj hx => (by rw [← h j hj] at hx; exact h7 j c x hj hx)
    obtain ⟨b, off, e1, e2, e3, e4⟩ := h5 hn
    exact ⟨b, off, e1, e2, e3, fun j c x hj hx => (by rw [← h j hj] at hx; exact e4 j c x hj hx)⟩
theorem AV.Le.sl_any {nl : Option Bool} {n : Nat} {get : Nat → AV} : (AV.sl nl n get).Le (.sl none n get) := by
  intro w cx A v R
  cases R with
  | sl _ _ _ a cap esz vals h1 h2 h3 h4 h5 h6 h7 => exact .sl none n get a cap esz vals (fun b hb => by cases hb) h2 h3 h4 h5 h6 h7
def argsLe : List AV → List AV → Prop
  | [], [] => True
  | x :: xs, y :: ys => x.Le y ∧ argsLe xs ys
  | _, _ => False
theorem argsLe_get : ∀ {xs ys : List AV}, argsLe xs ys → xs.length = ys.length ∧ ∀ (i : Nat) (y : AV), ys[i]? = some y → ∃ x, xs[i]? = some x ∧ x.Le y
  | [], [], _ => ⟨rfl, fun i y h => by simp at h⟩
  | x :: xs, y :: ys, h => by
    obtain ⟨h1, h2⟩ := argsLe_get h.2
    refine ⟨by simp [h1], fun i z hz => ?_⟩
    cases i with
    | zero => simp at hz; subst hz; exact ⟨x, by simp, h.1⟩
    | succ i => exact h2 i z (by simpa using hz)
  | [], _ :: _, h => h.elim
  | _ :: _, [], h => h.elim
theorem AV.Le.agg {xs ys : List AV} (h : argsLe xs ys) : (AV.agg xs).Le (.agg ys) := by
  intro w cx A v R
  obtain ⟨h1, h2⟩ := argsLe_get h
  cases R with
  | agg _ vs hl hone hrel =>
    refine .agg ys vs (by rw [← h1]; exact hl) hone fun c y u hy hu => ?_
    obtain ⟨x, hx, hle⟩ := h2 c y hy
    exact hle w cx A u (hrel c x u hx hu)
theorem AV.Le.mpn_nil {id i off : Nat} : AV.nilp.Le (.mpn id i off false) := by
  intro w cx A v h
  cases h
  exact .mpn0 _ _ _
theorem AV.Le.mpn_true {id i off : Nat} : (AV.mp id i off).Le (.mpn id i off true) := by
  intro w cx A v h
  cases h with
  | mp _ _ _ e he hnn hi => exact .mpn1 _ _ _ e he hnn hi
theorem AV.Le.err_nil : AV.nili.Le (.err .nil) := by
  intro w cx A v R
  cases R
  exact .err0
theorem AV.Le.err_box {t : TypeId} {n : Int} {x : AV} {e : Er} (h : x.Le (.err e)) : (AV.iface t (.ip (.agg [.int .i64 n, x]) 0)).Le (.err (.box t n e)) := by
  intro w cx A v R
  cases R with
  | iface _ _ v R =>
    cases R with
    | ip _ _ b o vals himm hA hb hmem hrel =>
      have h0 := hmem 0 (.int .i64 n) rfl
      have h1 := hmem 1 x rfl
      have r0 := (hrel 0 (.int .i64 n) rfl).int_inv
      exact .errB t n e b o (vals 1) hA hb.lt (by rw [← r0]; exact h0.1) h1.1 (h _ _ _ _ (hrel 1 x rfl))
theorem contract_le {P : PL} {g : FuncId} {args args' : List AV} {objs objs' : Store} {r : AV} (h : Contract P g args' objs r objs') (hle : argsLe args args') : Contract P g args objs r objs' := by
  obtain ⟨h1, h2⟩ := h
  obtain ⟨l1, l2⟩ := argsLe_get hle
  refine ⟨h1, fun V w cx vs S hl R => h2 V w cx vs S (by rw [← l1]; exact hl) fun i y v hy hv => ?_⟩
  obtain ⟨x, hx, hxy⟩ := l2 i y hy
  exact hxy _ _ _ _ (R i x v hx hv)
end Go.SE
