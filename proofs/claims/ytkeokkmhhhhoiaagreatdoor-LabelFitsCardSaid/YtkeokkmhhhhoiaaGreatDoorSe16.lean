/- The shadow evaluator, part 16: frames made plain before a loop, and a loop by its rounds. -/
import Derived.Test.YtkeokkmhhhhoiaaGreatDoorSe15
namespace Go.SE
open Go
set_option linter.unusedVariables false

def look : List (Nat × AV) → Nat → AV
  | [], _ => .unk
  | (i, v) :: r, j => match Nat.beq i j with | true => v | false => look r j
def mkT (kv : List (Nat × AV)) : Nat → Nat → List AV
  | _, 0 => []
  | i, n + 1 => look kv i :: mkT kv (i + 1) n
/-- A frame of n slots, of which some are told. -/
def mkF (n : Nat) (kv : List (Nat × AV)) (s : Store) : Fr := ⟨mkT kv 0 n, s⟩
/-- The told slots hold just that. -/
def keepOk (t : List AV) : List (Nat × AV) → Prop
  | [] => True
  | (i, v) :: r => t.getD i .unk = v ∧ keepOk t r
theorem mkT_len (kv : List (Nat × AV)) : ∀ i n, (mkT kv i n).length = n
  | _, 0 => rfl
  | i, n + 1 => by simp only [mkT, List.length_cons, mkT_len kv (i + 1) n]
theorem mkT_get (kv : List (Nat × AV)) : ∀ (n i j : Nat) (x : AV), (mkT kv i n)[j]? = some x → x = look kv (i + j) ∧ j < n
  | 0, _, _, _, h => by simp [mkT] at h
  | n + 1, i, 0, x, h => by simp [mkT] at h; exact ⟨h.symm, by omega⟩
  | n + 1, i, j + 1, x, h => by
    simp only [mkT, List.getElem?_cons_succ] at h
    obtain ⟨h1, h2⟩ := mkT_get kv n (i + 1) j x h
    exact ⟨by rw [h1]; congr 1; omega, by omega⟩
theorem keep_look {t : List AV} : ∀ (kv : List (Nat × AV)), keepOk t kv → ∀ j, look kv j = .unk ∨ look kv j = t.getD j .unk
  | [], _, _ => .inl rfl
  | (i, v) :: r, h, j => by
    simp only [look]
    split
    · rename_i hb
      have : i = j := Nat.eq_of_beq_eq_true hb
      subst this
      exact .inr h.1.symm
    · exact keep_look r h.2 j
theorem weak_keep {m n : Nat} {t : List AV} {s : Store} {kv : List (Nat × AV)} (hn : t.length = n) (h : keepOk t kv) : Weak m ⟨t, s⟩ (mkF n kv s) := by
  intro L V w cx a R
  refine ⟨cx, Ext.refl, R.st, by rw [R.size]; simp only [mkF, mkT_len, hn], R.defers, fun i x hx => ?_⟩
  obtain ⟨h1, h2⟩ := mkT_get kv n 0 i x hx
  rw [Nat.zero_add] at h1
  rcases keep_look kv h i with h3 | h3
  · rw [h1, h3]; exact .unk _
  · have hi : i < t.length := by omega
    rw [h1, h3]
    refine R.tmps i _ ?_
    simp [List.getD_eq_getElem?_getD, hi]
theorem weak_keep2 {m n : Nat} {t : List AV} {s s' : Store} {kv : List (Nat × AV)} (hn : t.length = n) (hs : s = s') (h : keepOk t kv) : Weak m ⟨t, s⟩ (mkF n kv s') := by subst hs; exact weak_keep hn h
theorem sE {a b : Store} {p : Prop} (h : a = b) (hp : p) : a = b ∧ p := ⟨h, hp⟩
theorem nilStore : ([] : Store) = [] := rfl
theorem dG {ops : List Oper} {n : Nat} {p : Prop} (h : (regOk ops && tailOk ops n && Nat.ble n ops.length && allocsOk (ops.take n)) = true) (hp : p) : drawOk ops n ∧ p := ⟨by rw [drawOk]; exact h, hp⟩
theorem natEq {a b : Nat} {p : Prop} (h : a = b) (hp : p) : a = b ∧ p := ⟨h, hp⟩
theorem weak_trans {m : Nat} {a b c : Fr} (h : Weak m a b) (h' : Weak m b c) : Weak m a c := by
  intro L V w cx x R
  obtain ⟨cx1, E1, R1⟩ := h L V w cx x R
  obtain ⟨cx2, E2, R2⟩ := h' L V w cx1 x R1
  exact ⟨cx2, E1.trans E2, R2⟩
theorem weak_refl {m : Nat} {a : Fr} : Weak m a a := fun L V w cx x R => ⟨cx, Ext.refl, R⟩

theorem least {p : Nat → Prop} (h : ∃ n, p n) : ∃ n, p n ∧ ∀ k, p k → n ≤ k := by
  obtain ⟨n, hn⟩ := h
  induction n using Nat.strongRecOn with
  | _ n ih =>
    by_cases hk : ∃ k, p k ∧ k < n
    · obtain ⟨k, h1, h2⟩ := hk
      exact ih k h2 h1
    · exact ⟨n, hn, fun k h1 => Nat.le_of_not_lt fun h2 => hk ⟨k, h1, h2⟩⟩
/-- The frames that a state tells, and the least measure of such a state. -/
def LI {α : Type} (F : α → Fr) (inv : α → Prop) (f : Fr) : Prop := ∃ a, inv a ∧ f = F a
theorem lm_ex {α : Type} {F : α → Fr} {inv : α → Prop} (μ : α → Nat) {f : Fr} (h : LI F inv f) : ∃ n, (∃ a, inv a ∧ f = F a ∧ μ a = n) ∧ ∀ k, (∃ a, inv a ∧ f = F a ∧ μ a = k) → n ≤ k :=
  let ⟨a, h1, h2⟩ := h
  least ⟨μ a, a, h1, h2, rfl⟩
open Classical in
noncomputable def LM {α : Type} (F : α → Fr) (inv : α → Prop) (μ : α → Nat) (f : Fr) : Nat := if h : LI F inv f then Classical.choose (lm_ex μ h) else 0
theorem lm_le {α : Type} {F : α → Fr} {inv : α → Prop} {μ : α → Nat} {a : α} (h : inv a) : LM F inv μ (F a) ≤ μ a := by
  have h2 : LI F inv (F a) := ⟨a, h, rfl⟩
  rw [LM, dif_pos h2]
  exact (Classical.choose_spec (lm_ex μ h2)).2 _ ⟨a, h, rfl, rfl⟩
/-- A loop, told by a state of its own. -/
theorem loop_intro {m : Nat} {α : Type} {body : Fr → (Ex → Fr → Prop) → Prop} {fr : Fr} {K : Ex → Fr → Prop} (F : α → Fr) (inv : α → Prop) (μ : α → Nat) (a0 : α) (h0 : inv a0) (hw : Weak m fr (F a0))
    (step : ∀ a, inv a → LM F inv μ (F a) = μ a → body (F a) (seqK (fun fr2 _ => ∃ fr3, Weak m fr2 fr3 ∧ LI F inv fr3 ∧ LM F inv μ fr3 < LM F inv μ (F a)) K)) : loopQ m body fr K := by
  rw [loopQ]
  refine ⟨LI F inv, LM F inv μ, ⟨F a0, hw, a0, h0, rfl⟩, ?_⟩
  intro fr1 h1
  obtain ⟨⟨a, ha, he, hm⟩, _⟩ := Classical.choose_spec (lm_ex μ h1)
  subst he
  exact step a ha (by rw [LM, dif_pos h1]; exact hm.symm)
/-- A loop over a store that it leaves alone. -/
theorem loop_at {m : Nat} {α : Type} {body : Fr → (Ex → Fr → Prop) → Prop} {t : List AV} {s : Store} {K : Ex → Fr → Prop} (n : Nat) (kv : α → List (Nat × AV)) (inv : α → Prop) (μ : α → Nat) (a0 : α) (h0 : inv a0) (hn : t.length = n) (hw : keepOk t (kv a0))
    (step : ∀ a, inv a → LM (fun a => mkF n (kv a) s) inv μ (mkF n (kv a) s) = μ a → body (mkF n (kv a) s) (seqK (fun fr2 _ => ∃ fr3, Weak m fr2 fr3 ∧ LI (fun a => mkF n (kv a) s) inv fr3 ∧ LM (fun a => mkF n (kv a) s) inv μ fr3 < LM (fun a => mkF n (kv a) s) inv μ (mkF n (kv a) s)) K)) : loopQ m body ⟨t, s⟩ K :=
  loop_intro (fun a => mkF n (kv a) s) inv μ a0 h0 (weak_keep hn hw) step
/-- A round's end. -/
theorem next {m : Nat} {α : Type} {F : α → Fr} {inv : α → Prop} {μ : α → Nat} {a : α} {fr2 : Fr} (hM : LM F inv μ (F a) = μ a) (a' : α) (hw : Weak m fr2 (F a')) (hi : inv a') (hlt : μ a' < μ a) :
    ∃ fr3, Weak m fr2 fr3 ∧ LI F inv fr3 ∧ LM F inv μ fr3 < LM F inv μ (F a) :=
  ⟨F a', hw, ⟨a', hi, rfl⟩, by rw [hM]; exact Nat.lt_of_le_of_lt (lm_le hi) hlt⟩
end Go.SE
