/- Counting runes by their class, by a law. No condition. -/
import Derived.Test.YtjpoihfadkkneaaCn
namespace Go.Proofs.Ytjpoihfadkkneaa
open Go Go.SE
set_option linter.unusedVariables false
set_option linter.unusedSimpArgs false
set_option maxRecDepth 10000
attribute [local irreducible] Contract ofG
def stW (p : Pr) (L : List Int) : Store := [some ⟨11, 24, .vals [encP p], false, false⟩, some ⟨1, 31, .ints .i64 (six L), false, false⟩]
theorem count5 (p : Pr) (t : Ru) (c : Int) : Contract Try.prog 5 [encP p, encI t, .int .i64 c] [] (.bool true) [] := by
  have c9 := gr9 p
  have c10 := ri10 p
  cases hg : greatB p with
  | true =>
    rw [hg] at c9
    refine contract_of_awp mix Try.func5 rfl (by kernel_rfl) ?_
    repeat' ((conv => whnf); first | refine brP_intro (fun _ => ?_) (fun _ => ?_) | refine storeEq rfl ?_ | refine natEq rfl ?_ | refine drawGo (by kernel_rfl) ?_ | refine And.intro ?_ ?_ | refine ⟨_, aw8, rfl, ?_⟩ | refine ⟨_, c9, rfl, ?_⟩ | fail)
    all_goals first | exact nilStore | rfl
  | false =>
  have hb := small_fits hg
  rw [hg] at c9
  by_cases hr : (chkP p).2 = 0
  · rw [show decide ((chkP p).2 = 0) = true from decide_eq_true hr] at c10
    refine contract_of_awp mix Try.func5 rfl (by kernel_rfl) ?_
    repeat' ((conv => whnf); first | refine brP_intro (fun _ => ?_) (fun _ => ?_) | refine storeEq rfl ?_ | refine natEq rfl ?_ | refine drawGo (by kernel_rfl) ?_ | refine And.intro ?_ ?_ | refine ⟨_, aw8, rfl, ?_⟩ | refine ⟨_, c9, rfl, ?_⟩ | refine ⟨_, c10, rfl, ?_⟩ | fail)
    all_goals first | exact nilStore | rfl | skip
    rename_i hn
    have hn : t.l.length ≤ 20 := by simp at hn; omega
    have c23 := cnt23 p t hb hr hn
    rw [← six_eq (cnts_len p t.l)] at c23
    conv => whnf
    refine loop_intro (fun a : Nat × Int => match a with | (i, fi) => mkF 63 [(1, encI t), (2, .int .i64 c), (3, .mp 0 0 0), (6, .bool false), (7, .mp 1 0 0), (8, .int .i64 fi), (9, .int .i64 i)] (stW p (cnts p (t.l.take i)))) (fun a => match a with | (i, fi) => i ≤ t.l.length ∧ ((fi = -1 ∧ fstFrom p t.l c 0 t.l.length = fstFrom p t.l c i (t.l.length - i)) ∨ (0 ≤ fi ∧ fstFrom p t.l c 0 t.l.length = fi))) (fun a => match a with | (i, fi) => t.l.length - i) (0, -1) ⟨Nat.zero_le _, .inl ⟨rfl, rfl⟩⟩ (by refine weak_keep2 rfl rfl ?_; (repeat' (first | exact trivial | refine And.intro rfl ?_ | fail))) ?_
    rintro ⟨i, fi⟩ ⟨hi, hf⟩ hM
    have hc := of_range hr (t.l.getD (i : Int).toNat 0)
    have hset : i < t.l.length → (six (cnts p (t.l.take i))).set (ofG fndR p (t.l.getD (i : Int).toNat 0)).toNat (IntKind.wrap .i64 ((six (cnts p (t.l.take i))).getD (ofG fndR p (t.l.getD (i : Int).toNat 0)).toNat 0 + 1)) = six (cnts p (t.l.take (i + 1))) := fun hlt => by
      have hle := cnts_le p t.l (ofG fndR p (t.l.getD (i : Int).toNat 0)).toNat i (by omega)
      rw [six_eq (cnts_len p _), six_eq (cnts_len p _), more_eq hle.1 (by omega), cnts_next p t.l hlt]
      simp only [Int.toNat_natCast]
    repeat' ((conv => whnf); first | refine brP_intro (fun _ => ?_) (fun _ => ?_) | refine storeEq rfl ?_ | refine natEq rfl ?_ | refine drawGo (by kernel_rfl) ?_ | refine And.intro ?_ ?_ | refine ⟨_, of12 p _ hb, rfl, ?_⟩ | refine ⟨_, c23, rfl, ?_⟩ | refine ⟨_, first24 p t c hb hr hn, rfl, ?_⟩ | fail)
    all_goals try exact nilStore
    all_goals try (clear hM; omega)
    all_goals try (clear hM hset; (simp only [tt, ft, notT, eqF, Bool.and_eq_true, Bool.or_eq_true, decide_eq_true_eq, beq_iff_eq, wrap64, Int.toNat_natCast, ge_iff_le, gt_iff_lt] at *; omega))
    · rename_i a b d
      repeat' ((conv => whnf); first | refine brP_intro (fun _ => ?_) (fun _ => ?_) | refine storeEq rfl ?_ | refine natEq rfl ?_ | refine drawGo (by kernel_rfl) ?_ | refine And.intro ?_ ?_ | refine next (a := (i, fi)) hM (i + 1, (i : Int)) ?_ ?_ ?_ | fail)
      · refine weak_keep2 rfl (congrArg (fun L => ([some ⟨11, 24, .vals [encP p], false, false⟩, some ⟨1, 31, .ints .i64 L, false, false⟩] : Store)) (hset (ltI a))) ?_
        repeat' (first | exact trivial | refine And.intro rfl ?_ | refine And.intro (bump (by omega)) ?_ | fail)
      · exact ltI a
      · have hlt := ltI a
        have e : ofG fndR p (t.l.getD i 0) = c := by simpa using b
        have e2 : fstFrom p t.l c i (t.l.length - i) = (i : Int) := by rw [fst_step hlt, if_pos e]
        have hneg : fi < 0 := by simpa using d
        rcases hf with ⟨_, h⟩ | ⟨h, _⟩
        · exact .inr ⟨by omega, by rw [h, e2]⟩
        · omega
      · show t.l.length - (i + 1) < t.l.length - i
        have hlt := ltI a
        omega
    · rename_i a b d
      repeat' ((conv => whnf); first | refine brP_intro (fun _ => ?_) (fun _ => ?_) | refine storeEq rfl ?_ | refine natEq rfl ?_ | refine drawGo (by kernel_rfl) ?_ | refine And.intro ?_ ?_ | refine next (a := (i, fi)) hM (i + 1, fi) ?_ ?_ ?_ | fail)
      · refine weak_keep2 rfl (congrArg (fun L => ([some ⟨11, 24, .vals [encP p], false, false⟩, some ⟨1, 31, .ints .i64 L, false, false⟩] : Store)) (hset (ltI a))) ?_
        repeat' (first | exact trivial | refine And.intro rfl ?_ | refine And.intro (bump (by omega)) ?_ | fail)
      · exact ltI a
      · have hneg : ¬ fi < 0 := by simpa using d
        rcases hf with ⟨h, _⟩ | h
        · omega
        · exact .inr h
      · show t.l.length - (i + 1) < t.l.length - i
        have hlt := ltI a
        omega
    · rename_i a b
      repeat' ((conv => whnf); first | refine brP_intro (fun _ => ?_) (fun _ => ?_) | refine storeEq rfl ?_ | refine natEq rfl ?_ | refine drawGo (by kernel_rfl) ?_ | refine And.intro ?_ ?_ | refine next (a := (i, fi)) hM (i + 1, fi) ?_ ?_ ?_ | fail)
      · refine weak_keep2 rfl (congrArg (fun L => ([some ⟨11, 24, .vals [encP p], false, false⟩, some ⟨1, 31, .ints .i64 L, false, false⟩] : Store)) (hset (ltI a))) ?_
        repeat' (first | exact trivial | refine And.intro rfl ?_ | refine And.intro (bump (by omega)) ?_ | fail)
      · exact ltI a
      · have hlt := ltI a
        have e : ¬ ofG fndR p (t.l.getD i 0) = c := by simpa using b
        have e2 : fstFrom p t.l c i (t.l.length - i) = fstFrom p t.l c (i + 1) (t.l.length - (i + 1)) := by rw [fst_step hlt, if_neg e]
        rcases hf with ⟨h1, h⟩ | h
        · exact .inl ⟨h1, by rw [h, e2]⟩
        · exact .inr h
      · show t.l.length - (i + 1) < t.l.length - i
        have hlt := ltI a
        omega
    · rename_i a b
      have e2 : fstFrom p t.l c i (t.l.length - i) = -1 := fst_end (geI a)
      have e : fstFrom p t.l c 0 t.l.length = fi := by
        rcases hf with ⟨h1, h⟩ | ⟨_, h⟩
        · rw [h, e2, h1]
        · exact h
      rw [e]
      simp
    · rename_i a b
      rw [List.take_of_length_le (geI a)] at b
      simp at b
  · rw [show decide ((chkP p).2 = 0) = false from decide_eq_false hr] at c10
    refine contract_of_awp mix Try.func5 rfl (by kernel_rfl) ?_
    repeat' ((conv => whnf); first | refine brP_intro (fun _ => ?_) (fun _ => ?_) | refine storeEq rfl ?_ | refine natEq rfl ?_ | refine drawGo (by kernel_rfl) ?_ | refine And.intro ?_ ?_ | refine ⟨_, aw8, rfl, ?_⟩ | refine ⟨_, c9, rfl, ?_⟩ | refine ⟨_, c10, rfl, ?_⟩ | fail)
    all_goals first | exact nilStore | rfl
end Go.Proofs.Ytjpoihfadkkneaa
