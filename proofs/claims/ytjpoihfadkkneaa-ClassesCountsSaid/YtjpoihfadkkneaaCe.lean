/- Contract of the check of properties. No condition. -/
import Derived.Test.YtjpoihfadkkneaaCd
namespace Go.Proofs.Ytjpoihfadkkneaa
open Go Go.SE
set_option linter.unusedVariables false
set_option linter.unusedSimpArgs false
set_option maxRecDepth 10000
attribute [local irreducible] Contract
def badV (m : Int) (x : Rg) : Bool := decide (m > 0) && (decide (x.v < 1) || decide (x.v > m))
def badFrom (m : Int) (l : List Rg) : Nat → Nat → Int × Int
  | _, 0 => (0, 0)
  | i, k + 1 => if badV m (l.getD i dR) = true then (i, 17) else badFrom m l (i + 1) k
def chkTab (m : Int) (l : List Rg) : Int × Int := if (chkR l).2 = 0 then badFrom m l 0 l.length else chkR l
def chkTabs : List (Int × Tb) → Int × Int
  | [] => (0, 0)
  | (m, t) :: r => if (chkTab m t.l).2 = 0 then chkTabs r else chkTab m t.l
def mt (p : Pr) : List (Int × Tb) := [(5, p.ex), (0, p.un), (0, p.jo), (0, p.ol), (0, p.us), (0, p.ig), (0, p.le), (4, p.jn), (5, p.sc), (11, p.di), (0, p.ma)]
def chkP (p : Pr) : Int × Int := chkTabs (mt p)
theorem chkR_le {l : List Rg} (h : (chkR l).2 = 0) : l.length ≤ 2000 := by
  rw [chkR] at h
  split at h
  · cases h
  · omega
theorem bad_step {m : Int} {l : List Rg} {i : Nat} (h : i < l.length) : badFrom m l i (l.length - i) = if badV m (l.getD i dR) = true then ((i : Int), 17) else badFrom m l (i + 1) (l.length - (i + 1)) := by
  rw [show l.length - i = (l.length - (i + 1)) + 1 by omega, badFrom]
theorem bad_end {m : Int} {l : List Rg} {i : Nat} (h : l.length ≤ i) : badFrom m l i (l.length - i) = (0, 0) := by
  rw [show l.length - i = 0 by omega, badFrom]
theorem tabs_cons {m : Int} {t : Tb} {r : List (Int × Tb)} {x : Int × Int} (h : x = chkTabs ((m, t) :: r)) :
    ((chkR t.l).2 ≠ 0 → chkR t.l = x) ∧ ((chkR t.l).2 = 0 → (badFrom m t.l 0 t.l.length).2 ≠ 0 → badFrom m t.l 0 t.l.length = x) ∧ ((chkR t.l).2 = 0 → (badFrom m t.l 0 t.l.length).2 = 0 → x = chkTabs r) := by
  subst h
  refine ⟨fun h => ?_, fun h1 h2 => ?_, fun h1 h2 => ?_⟩
  · rw [chkTabs, chkTab, if_neg h, if_neg h]
  · rw [chkTabs, chkTab, if_pos h1, if_neg h2]
  · rw [chkTabs, chkTab, if_pos h1, if_pos h2]
theorem badRes {m : Int} {l : List Rg} {i : Nat} {x : Int × Int} (j2 : (chkR l).2 = 0 → (badFrom m l 0 l.length).2 ≠ 0 → badFrom m l 0 l.length = x) (h0 : (chkR l).2 = 0) (hb : badFrom m l 0 l.length = badFrom m l i (l.length - i)) (hlt : i < l.length) (hv : badV m (l.getD i dR) = true) :
    AV.tup [.int .i64 (i : Int), .int .i64 17] = AV.tup [.int .i64 x.1, .int .i64 x.2] := by
  have e : badFrom m l 0 l.length = ((i : Int), 17) := by rw [hb, bad_step hlt, if_pos hv]
  rw [← j2 h0 (by rw [e]; simp), e]
theorem hbS {m : Int} {l : List Rg} {i : Nat} (hb : badFrom m l 0 l.length = badFrom m l i (l.length - i)) (hlt : i < l.length) (hv : badV m (l.getD i dR) = false) : badFrom m l 0 l.length = badFrom m l (i + 1) (l.length - (i + 1)) := by
  rw [hb, bad_step hlt, if_neg (by rw [hv]; simp)]
theorem bad0 (x : Rg) : badV 0 x = false := rfl
theorem bad1 {m : Int} {x : Rg} (hm : 0 < m) (h : decide (x.v < 1) = true) : badV m x = true := by simp [badV] at *; omega
theorem bad2 {m : Int} {x : Rg} (hm : 0 < m) (h : decide (x.v > m) = true) : badV m x = true := by simp [badV] at *; omega
theorem bad3 {m : Int} {x : Rg} (h1 : decide (x.v < 1) = false) (h2 : decide (x.v > m) = false) : badV m x = false := by simp [badV] at *; omega
theorem ltI {i n : Nat} (h : decide ((i : Int) < (n : Int)) = true) : i < n := by simp at h; omega
theorem geI {i n : Nat} (h : decide ((i : Int) < (n : Int)) = false) : n ≤ i := by simp at h; omega
theorem ck40 (p : Pr) : Contract Try.prog 40 [encP p] [] (.tup [.int .i64 (chkP p).1, .int .i64 (chkP p).2]) [] := by
  refine contract_of_awp mix Try.func40 rfl (by kernel_rfl) ?_
  repeat' ((conv => whnf); first | refine brP_intro (fun _ => ?_) (fun _ => ?_) | refine storeEq rfl ?_ | refine natEq rfl ?_ | refine drawGo (by kernel_rfl) ?_ | refine And.intro ?_ ?_ | refine ⟨_, tb39 p, rfl, ?_⟩ | fail)
  conv => whnf
  refine loop_at 64 (fun k : Nat => [(2, .int .i64 0), (3, .int .i64 0), (4, .mp 1 0 0), (5, .mp 2 0 0), (6, .int .i64 k)]) (fun k => k ≤ 11 ∧ chkP p = chkTabs ((mt p).drop k)) (fun k => 11 - k) 0 ⟨Nat.zero_le _, rfl⟩ ?_ ?_ ?_
  · rfl
  · (repeat' (first | exact trivial | refine And.intro rfl ?_ | fail))
  rintro k ⟨hk, hj⟩ hM
  have : k = 0 ∨ k = 1 ∨ k = 2 ∨ k = 3 ∨ k = 4 ∨ k = 5 ∨ k = 6 ∨ k = 7 ∨ k = 8 ∨ k = 9 ∨ k = 10 ∨ k = 11 := by omega
  rcases this with rfl | rfl | rfl | rfl | rfl | rfl | rfl | rfl | rfl | rfl | rfl | rfl
  · obtain ⟨j1, j2, j3⟩ := tabs_cons hj
    repeat' ((conv => whnf); first | refine brP_intro (fun _ => ?_) (fun _ => ?_) | refine storeEq rfl ?_ | refine natEq rfl ?_ | refine drawGo (by kernel_rfl) ?_ | refine And.intro ?_ ?_ | refine ⟨_, chk54 p.ex, rfl, ?_⟩ | fail)
    all_goals first | exact nilStore | (clear hM; omega) | skip
    · rename_i hg
      rw [j1 (by simpa using hg)]
    rename_i hg
    have h0 : (chkR p.ex.l).2 = 0 := by simpa using hg
    have hle := chkR_le h0
    conv => whnf
    refine loop_at 64 (fun i : Nat => [(2, .int .i64 0), (3, .int .i64 0), (4, .mp 1 0 0), (5, .mp 2 0 0), (6, .int .i64 ((0 : Nat) : Int)), (9, .int .i64 i)]) (fun i => i ≤ p.ex.l.length ∧ badFrom 5 p.ex.l 0 p.ex.l.length = badFrom 5 p.ex.l i (p.ex.l.length - i)) (fun i => p.ex.l.length - i) 0 ⟨Nat.zero_le _, rfl⟩ ?_ ?_ ?_
    · rfl
    · (repeat' (first | exact trivial | refine And.intro rfl ?_ | fail))
    rintro i ⟨hi, hb⟩ hM2
    repeat' ((conv => whnf); first | refine brP_intro (fun _ => ?_) (fun _ => ?_) | refine storeEq rfl ?_ | refine natEq rfl ?_ | refine drawGo (by kernel_rfl) ?_ | refine And.intro ?_ ?_ | refine next (a := i) hM2 (i + 1) ?_ ?_ ?_ | refine next (a := 0) hM (0 + 1) ?_ ?_ ?_ | fail)
    all_goals try exact nilStore
    all_goals try decide
    all_goals try (refine weak_keep rfl ?_; repeat' (first | exact trivial | refine And.intro rfl ?_ | refine And.intro (bump (by omega)) ?_ | fail))
    all_goals try (clear hM hM2; (simp only [tt, ft, notT, eqF, Bool.and_eq_true, Bool.or_eq_true, decide_eq_true_eq, beq_iff_eq, wrap64, Int.toNat_natCast, ge_iff_le, gt_iff_lt] at *; omega))
    · rename_i a b
      exact badRes j2 h0 hb (ltI a) (bad1 (by decide) b)
    · rename_i a b c
      exact badRes j2 h0 hb (ltI a) (bad2 (by decide) c)
    · rename_i a b c
      exact hbS hb (ltI a) (bad3 b c)
    · rename_i a
      exact j3 h0 (by rw [hb, bad_end (geI a)])
  · obtain ⟨j1, j2, j3⟩ := tabs_cons hj
    repeat' ((conv => whnf); first | refine brP_intro (fun _ => ?_) (fun _ => ?_) | refine storeEq rfl ?_ | refine natEq rfl ?_ | refine drawGo (by kernel_rfl) ?_ | refine And.intro ?_ ?_ | refine ⟨_, chk54 p.un, rfl, ?_⟩ | fail)
    all_goals first | exact nilStore | (clear hM; omega) | skip
    · rename_i hg
      rw [j1 (by simpa using hg)]
    rename_i hg
    have h0 : (chkR p.un.l).2 = 0 := by simpa using hg
    have hle := chkR_le h0
    conv => whnf
    refine loop_at 64 (fun i : Nat => [(2, .int .i64 0), (3, .int .i64 0), (4, .mp 1 0 0), (5, .mp 2 0 0), (6, .int .i64 ((1 : Nat) : Int)), (9, .int .i64 i)]) (fun i => i ≤ p.un.l.length ∧ badFrom 0 p.un.l 0 p.un.l.length = badFrom 0 p.un.l i (p.un.l.length - i)) (fun i => p.un.l.length - i) 0 ⟨Nat.zero_le _, rfl⟩ ?_ ?_ ?_
    · rfl
    · (repeat' (first | exact trivial | refine And.intro rfl ?_ | fail))
    rintro i ⟨hi, hb⟩ hM2
    repeat' ((conv => whnf); first | refine brP_intro (fun _ => ?_) (fun _ => ?_) | refine storeEq rfl ?_ | refine natEq rfl ?_ | refine drawGo (by kernel_rfl) ?_ | refine And.intro ?_ ?_ | refine next (a := i) hM2 (i + 1) ?_ ?_ ?_ | refine next (a := 1) hM (1 + 1) ?_ ?_ ?_ | fail)
    all_goals try exact nilStore
    all_goals try decide
    all_goals try (refine weak_keep rfl ?_; repeat' (first | exact trivial | refine And.intro rfl ?_ | refine And.intro (bump (by omega)) ?_ | fail))
    all_goals try (clear hM hM2; (simp only [tt, ft, notT, eqF, Bool.and_eq_true, Bool.or_eq_true, decide_eq_true_eq, beq_iff_eq, wrap64, Int.toNat_natCast, ge_iff_le, gt_iff_lt] at *; omega))
    · rename_i a
      exact hbS hb (ltI a) (bad0 _)
    · rename_i a
      exact j3 h0 (by rw [hb, bad_end (geI a)])
  · obtain ⟨j1, j2, j3⟩ := tabs_cons hj
    repeat' ((conv => whnf); first | refine brP_intro (fun _ => ?_) (fun _ => ?_) | refine storeEq rfl ?_ | refine natEq rfl ?_ | refine drawGo (by kernel_rfl) ?_ | refine And.intro ?_ ?_ | refine ⟨_, chk54 p.jo, rfl, ?_⟩ | fail)
    all_goals first | exact nilStore | (clear hM; omega) | skip
    · rename_i hg
      rw [j1 (by simpa using hg)]
    rename_i hg
    have h0 : (chkR p.jo.l).2 = 0 := by simpa using hg
    have hle := chkR_le h0
    conv => whnf
    refine loop_at 64 (fun i : Nat => [(2, .int .i64 0), (3, .int .i64 0), (4, .mp 1 0 0), (5, .mp 2 0 0), (6, .int .i64 ((2 : Nat) : Int)), (9, .int .i64 i)]) (fun i => i ≤ p.jo.l.length ∧ badFrom 0 p.jo.l 0 p.jo.l.length = badFrom 0 p.jo.l i (p.jo.l.length - i)) (fun i => p.jo.l.length - i) 0 ⟨Nat.zero_le _, rfl⟩ ?_ ?_ ?_
    · rfl
    · (repeat' (first | exact trivial | refine And.intro rfl ?_ | fail))
    rintro i ⟨hi, hb⟩ hM2
    repeat' ((conv => whnf); first | refine brP_intro (fun _ => ?_) (fun _ => ?_) | refine storeEq rfl ?_ | refine natEq rfl ?_ | refine drawGo (by kernel_rfl) ?_ | refine And.intro ?_ ?_ | refine next (a := i) hM2 (i + 1) ?_ ?_ ?_ | refine next (a := 2) hM (2 + 1) ?_ ?_ ?_ | fail)
    all_goals try exact nilStore
    all_goals try decide
    all_goals try (refine weak_keep rfl ?_; repeat' (first | exact trivial | refine And.intro rfl ?_ | refine And.intro (bump (by omega)) ?_ | fail))
    all_goals try (clear hM hM2; (simp only [tt, ft, notT, eqF, Bool.and_eq_true, Bool.or_eq_true, decide_eq_true_eq, beq_iff_eq, wrap64, Int.toNat_natCast, ge_iff_le, gt_iff_lt] at *; omega))
    · rename_i a
      exact hbS hb (ltI a) (bad0 _)
    · rename_i a
      exact j3 h0 (by rw [hb, bad_end (geI a)])
  · obtain ⟨j1, j2, j3⟩ := tabs_cons hj
    repeat' ((conv => whnf); first | refine brP_intro (fun _ => ?_) (fun _ => ?_) | refine storeEq rfl ?_ | refine natEq rfl ?_ | refine drawGo (by kernel_rfl) ?_ | refine And.intro ?_ ?_ | refine ⟨_, chk54 p.ol, rfl, ?_⟩ | fail)
    all_goals first | exact nilStore | (clear hM; omega) | skip
    · rename_i hg
      rw [j1 (by simpa using hg)]
    rename_i hg
    have h0 : (chkR p.ol.l).2 = 0 := by simpa using hg
    have hle := chkR_le h0
    conv => whnf
    refine loop_at 64 (fun i : Nat => [(2, .int .i64 0), (3, .int .i64 0), (4, .mp 1 0 0), (5, .mp 2 0 0), (6, .int .i64 ((3 : Nat) : Int)), (9, .int .i64 i)]) (fun i => i ≤ p.ol.l.length ∧ badFrom 0 p.ol.l 0 p.ol.l.length = badFrom 0 p.ol.l i (p.ol.l.length - i)) (fun i => p.ol.l.length - i) 0 ⟨Nat.zero_le _, rfl⟩ ?_ ?_ ?_
    · rfl
    · (repeat' (first | exact trivial | refine And.intro rfl ?_ | fail))
    rintro i ⟨hi, hb⟩ hM2
    repeat' ((conv => whnf); first | refine brP_intro (fun _ => ?_) (fun _ => ?_) | refine storeEq rfl ?_ | refine natEq rfl ?_ | refine drawGo (by kernel_rfl) ?_ | refine And.intro ?_ ?_ | refine next (a := i) hM2 (i + 1) ?_ ?_ ?_ | refine next (a := 3) hM (3 + 1) ?_ ?_ ?_ | fail)
    all_goals try exact nilStore
    all_goals try decide
    all_goals try (refine weak_keep rfl ?_; repeat' (first | exact trivial | refine And.intro rfl ?_ | refine And.intro (bump (by omega)) ?_ | fail))
    all_goals try (clear hM hM2; (simp only [tt, ft, notT, eqF, Bool.and_eq_true, Bool.or_eq_true, decide_eq_true_eq, beq_iff_eq, wrap64, Int.toNat_natCast, ge_iff_le, gt_iff_lt] at *; omega))
    · rename_i a
      exact hbS hb (ltI a) (bad0 _)
    · rename_i a
      exact j3 h0 (by rw [hb, bad_end (geI a)])
  · obtain ⟨j1, j2, j3⟩ := tabs_cons hj
    repeat' ((conv => whnf); first | refine brP_intro (fun _ => ?_) (fun _ => ?_) | refine storeEq rfl ?_ | refine natEq rfl ?_ | refine drawGo (by kernel_rfl) ?_ | refine And.intro ?_ ?_ | refine ⟨_, chk54 p.us, rfl, ?_⟩ | fail)
    all_goals first | exact nilStore | (clear hM; omega) | skip
    · rename_i hg
      rw [j1 (by simpa using hg)]
    rename_i hg
    have h0 : (chkR p.us.l).2 = 0 := by simpa using hg
    have hle := chkR_le h0
    conv => whnf
    refine loop_at 64 (fun i : Nat => [(2, .int .i64 0), (3, .int .i64 0), (4, .mp 1 0 0), (5, .mp 2 0 0), (6, .int .i64 ((4 : Nat) : Int)), (9, .int .i64 i)]) (fun i => i ≤ p.us.l.length ∧ badFrom 0 p.us.l 0 p.us.l.length = badFrom 0 p.us.l i (p.us.l.length - i)) (fun i => p.us.l.length - i) 0 ⟨Nat.zero_le _, rfl⟩ ?_ ?_ ?_
    · rfl
    · (repeat' (first | exact trivial | refine And.intro rfl ?_ | fail))
    rintro i ⟨hi, hb⟩ hM2
    repeat' ((conv => whnf); first | refine brP_intro (fun _ => ?_) (fun _ => ?_) | refine storeEq rfl ?_ | refine natEq rfl ?_ | refine drawGo (by kernel_rfl) ?_ | refine And.intro ?_ ?_ | refine next (a := i) hM2 (i + 1) ?_ ?_ ?_ | refine next (a := 4) hM (4 + 1) ?_ ?_ ?_ | fail)
    all_goals try exact nilStore
    all_goals try decide
    all_goals try (refine weak_keep rfl ?_; repeat' (first | exact trivial | refine And.intro rfl ?_ | refine And.intro (bump (by omega)) ?_ | fail))
    all_goals try (clear hM hM2; (simp only [tt, ft, notT, eqF, Bool.and_eq_true, Bool.or_eq_true, decide_eq_true_eq, beq_iff_eq, wrap64, Int.toNat_natCast, ge_iff_le, gt_iff_lt] at *; omega))
    · rename_i a
      exact hbS hb (ltI a) (bad0 _)
    · rename_i a
      exact j3 h0 (by rw [hb, bad_end (geI a)])
  · obtain ⟨j1, j2, j3⟩ := tabs_cons hj
    repeat' ((conv => whnf); first | refine brP_intro (fun _ => ?_) (fun _ => ?_) | refine storeEq rfl ?_ | refine natEq rfl ?_ | refine drawGo (by kernel_rfl) ?_ | refine And.intro ?_ ?_ | refine ⟨_, chk54 p.ig, rfl, ?_⟩ | fail)
    all_goals first | exact nilStore | (clear hM; omega) | skip
    · rename_i hg
      rw [j1 (by simpa using hg)]
    rename_i hg
    have h0 : (chkR p.ig.l).2 = 0 := by simpa using hg
    have hle := chkR_le h0
    conv => whnf
    refine loop_at 64 (fun i : Nat => [(2, .int .i64 0), (3, .int .i64 0), (4, .mp 1 0 0), (5, .mp 2 0 0), (6, .int .i64 ((5 : Nat) : Int)), (9, .int .i64 i)]) (fun i => i ≤ p.ig.l.length ∧ badFrom 0 p.ig.l 0 p.ig.l.length = badFrom 0 p.ig.l i (p.ig.l.length - i)) (fun i => p.ig.l.length - i) 0 ⟨Nat.zero_le _, rfl⟩ ?_ ?_ ?_
    · rfl
    · (repeat' (first | exact trivial | refine And.intro rfl ?_ | fail))
    rintro i ⟨hi, hb⟩ hM2
    repeat' ((conv => whnf); first | refine brP_intro (fun _ => ?_) (fun _ => ?_) | refine storeEq rfl ?_ | refine natEq rfl ?_ | refine drawGo (by kernel_rfl) ?_ | refine And.intro ?_ ?_ | refine next (a := i) hM2 (i + 1) ?_ ?_ ?_ | refine next (a := 5) hM (5 + 1) ?_ ?_ ?_ | fail)
    all_goals try exact nilStore
    all_goals try decide
    all_goals try (refine weak_keep rfl ?_; repeat' (first | exact trivial | refine And.intro rfl ?_ | refine And.intro (bump (by omega)) ?_ | fail))
    all_goals try (clear hM hM2; (simp only [tt, ft, notT, eqF, Bool.and_eq_true, Bool.or_eq_true, decide_eq_true_eq, beq_iff_eq, wrap64, Int.toNat_natCast, ge_iff_le, gt_iff_lt] at *; omega))
    · rename_i a
      exact hbS hb (ltI a) (bad0 _)
    · rename_i a
      exact j3 h0 (by rw [hb, bad_end (geI a)])
  · obtain ⟨j1, j2, j3⟩ := tabs_cons hj
    repeat' ((conv => whnf); first | refine brP_intro (fun _ => ?_) (fun _ => ?_) | refine storeEq rfl ?_ | refine natEq rfl ?_ | refine drawGo (by kernel_rfl) ?_ | refine And.intro ?_ ?_ | refine ⟨_, chk54 p.le, rfl, ?_⟩ | fail)
    all_goals first | exact nilStore | (clear hM; omega) | skip
    · rename_i hg
      rw [j1 (by simpa using hg)]
    rename_i hg
    have h0 : (chkR p.le.l).2 = 0 := by simpa using hg
    have hle := chkR_le h0
    conv => whnf
    refine loop_at 64 (fun i : Nat => [(2, .int .i64 0), (3, .int .i64 0), (4, .mp 1 0 0), (5, .mp 2 0 0), (6, .int .i64 ((6 : Nat) : Int)), (9, .int .i64 i)]) (fun i => i ≤ p.le.l.length ∧ badFrom 0 p.le.l 0 p.le.l.length = badFrom 0 p.le.l i (p.le.l.length - i)) (fun i => p.le.l.length - i) 0 ⟨Nat.zero_le _, rfl⟩ ?_ ?_ ?_
    · rfl
    · (repeat' (first | exact trivial | refine And.intro rfl ?_ | fail))
    rintro i ⟨hi, hb⟩ hM2
    repeat' ((conv => whnf); first | refine brP_intro (fun _ => ?_) (fun _ => ?_) | refine storeEq rfl ?_ | refine natEq rfl ?_ | refine drawGo (by kernel_rfl) ?_ | refine And.intro ?_ ?_ | refine next (a := i) hM2 (i + 1) ?_ ?_ ?_ | refine next (a := 6) hM (6 + 1) ?_ ?_ ?_ | fail)
    all_goals try exact nilStore
    all_goals try decide
    all_goals try (refine weak_keep rfl ?_; repeat' (first | exact trivial | refine And.intro rfl ?_ | refine And.intro (bump (by omega)) ?_ | fail))
    all_goals try (clear hM hM2; (simp only [tt, ft, notT, eqF, Bool.and_eq_true, Bool.or_eq_true, decide_eq_true_eq, beq_iff_eq, wrap64, Int.toNat_natCast, ge_iff_le, gt_iff_lt] at *; omega))
    · rename_i a
      exact hbS hb (ltI a) (bad0 _)
    · rename_i a
      exact j3 h0 (by rw [hb, bad_end (geI a)])
  · obtain ⟨j1, j2, j3⟩ := tabs_cons hj
    repeat' ((conv => whnf); first | refine brP_intro (fun _ => ?_) (fun _ => ?_) | refine storeEq rfl ?_ | refine natEq rfl ?_ | refine drawGo (by kernel_rfl) ?_ | refine And.intro ?_ ?_ | refine ⟨_, chk54 p.jn, rfl, ?_⟩ | fail)
    all_goals first | exact nilStore | (clear hM; omega) | skip
    · rename_i hg
      rw [j1 (by simpa using hg)]
    rename_i hg
    have h0 : (chkR p.jn.l).2 = 0 := by simpa using hg
    have hle := chkR_le h0
    conv => whnf
    refine loop_at 64 (fun i : Nat => [(2, .int .i64 0), (3, .int .i64 0), (4, .mp 1 0 0), (5, .mp 2 0 0), (6, .int .i64 ((7 : Nat) : Int)), (9, .int .i64 i)]) (fun i => i ≤ p.jn.l.length ∧ badFrom 4 p.jn.l 0 p.jn.l.length = badFrom 4 p.jn.l i (p.jn.l.length - i)) (fun i => p.jn.l.length - i) 0 ⟨Nat.zero_le _, rfl⟩ ?_ ?_ ?_
    · rfl
    · (repeat' (first | exact trivial | refine And.intro rfl ?_ | fail))
    rintro i ⟨hi, hb⟩ hM2
    repeat' ((conv => whnf); first | refine brP_intro (fun _ => ?_) (fun _ => ?_) | refine storeEq rfl ?_ | refine natEq rfl ?_ | refine drawGo (by kernel_rfl) ?_ | refine And.intro ?_ ?_ | refine next (a := i) hM2 (i + 1) ?_ ?_ ?_ | refine next (a := 7) hM (7 + 1) ?_ ?_ ?_ | fail)
    all_goals try exact nilStore
    all_goals try decide
    all_goals try (refine weak_keep rfl ?_; repeat' (first | exact trivial | refine And.intro rfl ?_ | refine And.intro (bump (by omega)) ?_ | fail))
    all_goals try (clear hM hM2; (simp only [tt, ft, notT, eqF, Bool.and_eq_true, Bool.or_eq_true, decide_eq_true_eq, beq_iff_eq, wrap64, Int.toNat_natCast, ge_iff_le, gt_iff_lt] at *; omega))
    · rename_i a b
      exact badRes j2 h0 hb (ltI a) (bad1 (by decide) b)
    · rename_i a b c
      exact badRes j2 h0 hb (ltI a) (bad2 (by decide) c)
    · rename_i a b c
      exact hbS hb (ltI a) (bad3 b c)
    · rename_i a
      exact j3 h0 (by rw [hb, bad_end (geI a)])
  · obtain ⟨j1, j2, j3⟩ := tabs_cons hj
    repeat' ((conv => whnf); first | refine brP_intro (fun _ => ?_) (fun _ => ?_) | refine storeEq rfl ?_ | refine natEq rfl ?_ | refine drawGo (by kernel_rfl) ?_ | refine And.intro ?_ ?_ | refine ⟨_, chk54 p.sc, rfl, ?_⟩ | fail)
    all_goals first | exact nilStore | (clear hM; omega) | skip
    · rename_i hg
      rw [j1 (by simpa using hg)]
    rename_i hg
    have h0 : (chkR p.sc.l).2 = 0 := by simpa using hg
    have hle := chkR_le h0
    conv => whnf
    refine loop_at 64 (fun i : Nat => [(2, .int .i64 0), (3, .int .i64 0), (4, .mp 1 0 0), (5, .mp 2 0 0), (6, .int .i64 ((8 : Nat) : Int)), (9, .int .i64 i)]) (fun i => i ≤ p.sc.l.length ∧ badFrom 5 p.sc.l 0 p.sc.l.length = badFrom 5 p.sc.l i (p.sc.l.length - i)) (fun i => p.sc.l.length - i) 0 ⟨Nat.zero_le _, rfl⟩ ?_ ?_ ?_
    · rfl
    · (repeat' (first | exact trivial | refine And.intro rfl ?_ | fail))
    rintro i ⟨hi, hb⟩ hM2
    repeat' ((conv => whnf); first | refine brP_intro (fun _ => ?_) (fun _ => ?_) | refine storeEq rfl ?_ | refine natEq rfl ?_ | refine drawGo (by kernel_rfl) ?_ | refine And.intro ?_ ?_ | refine next (a := i) hM2 (i + 1) ?_ ?_ ?_ | refine next (a := 8) hM (8 + 1) ?_ ?_ ?_ | fail)
    all_goals try exact nilStore
    all_goals try decide
    all_goals try (refine weak_keep rfl ?_; repeat' (first | exact trivial | refine And.intro rfl ?_ | refine And.intro (bump (by omega)) ?_ | fail))
    all_goals try (clear hM hM2; (simp only [tt, ft, notT, eqF, Bool.and_eq_true, Bool.or_eq_true, decide_eq_true_eq, beq_iff_eq, wrap64, Int.toNat_natCast, ge_iff_le, gt_iff_lt] at *; omega))
    · rename_i a b
      exact badRes j2 h0 hb (ltI a) (bad1 (by decide) b)
    · rename_i a b c
      exact badRes j2 h0 hb (ltI a) (bad2 (by decide) c)
    · rename_i a b c
      exact hbS hb (ltI a) (bad3 b c)
    · rename_i a
      exact j3 h0 (by rw [hb, bad_end (geI a)])
  · obtain ⟨j1, j2, j3⟩ := tabs_cons hj
    repeat' ((conv => whnf); first | refine brP_intro (fun _ => ?_) (fun _ => ?_) | refine storeEq rfl ?_ | refine natEq rfl ?_ | refine drawGo (by kernel_rfl) ?_ | refine And.intro ?_ ?_ | refine ⟨_, chk54 p.di, rfl, ?_⟩ | fail)
    all_goals first | exact nilStore | (clear hM; omega) | skip
    · rename_i hg
      rw [j1 (by simpa using hg)]
    rename_i hg
    have h0 : (chkR p.di.l).2 = 0 := by simpa using hg
    have hle := chkR_le h0
    conv => whnf
    refine loop_at 64 (fun i : Nat => [(2, .int .i64 0), (3, .int .i64 0), (4, .mp 1 0 0), (5, .mp 2 0 0), (6, .int .i64 ((9 : Nat) : Int)), (9, .int .i64 i)]) (fun i => i ≤ p.di.l.length ∧ badFrom 11 p.di.l 0 p.di.l.length = badFrom 11 p.di.l i (p.di.l.length - i)) (fun i => p.di.l.length - i) 0 ⟨Nat.zero_le _, rfl⟩ ?_ ?_ ?_
    · rfl
    · (repeat' (first | exact trivial | refine And.intro rfl ?_ | fail))
    rintro i ⟨hi, hb⟩ hM2
    repeat' ((conv => whnf); first | refine brP_intro (fun _ => ?_) (fun _ => ?_) | refine storeEq rfl ?_ | refine natEq rfl ?_ | refine drawGo (by kernel_rfl) ?_ | refine And.intro ?_ ?_ | refine next (a := i) hM2 (i + 1) ?_ ?_ ?_ | refine next (a := 9) hM (9 + 1) ?_ ?_ ?_ | fail)
    all_goals try exact nilStore
    all_goals try decide
    all_goals try (refine weak_keep rfl ?_; repeat' (first | exact trivial | refine And.intro rfl ?_ | refine And.intro (bump (by omega)) ?_ | fail))
    all_goals try (clear hM hM2; (simp only [tt, ft, notT, eqF, Bool.and_eq_true, Bool.or_eq_true, decide_eq_true_eq, beq_iff_eq, wrap64, Int.toNat_natCast, ge_iff_le, gt_iff_lt] at *; omega))
    · rename_i a b
      exact badRes j2 h0 hb (ltI a) (bad1 (by decide) b)
    · rename_i a b c
      exact badRes j2 h0 hb (ltI a) (bad2 (by decide) c)
    · rename_i a b c
      exact hbS hb (ltI a) (bad3 b c)
    · rename_i a
      exact j3 h0 (by rw [hb, bad_end (geI a)])
  · obtain ⟨j1, j2, j3⟩ := tabs_cons hj
    repeat' ((conv => whnf); first | refine brP_intro (fun _ => ?_) (fun _ => ?_) | refine storeEq rfl ?_ | refine natEq rfl ?_ | refine drawGo (by kernel_rfl) ?_ | refine And.intro ?_ ?_ | refine ⟨_, chk54 p.ma, rfl, ?_⟩ | fail)
    all_goals first | exact nilStore | (clear hM; omega) | skip
    · rename_i hg
      rw [j1 (by simpa using hg)]
    rename_i hg
    have h0 : (chkR p.ma.l).2 = 0 := by simpa using hg
    have hle := chkR_le h0
    conv => whnf
    refine loop_at 64 (fun i : Nat => [(2, .int .i64 0), (3, .int .i64 0), (4, .mp 1 0 0), (5, .mp 2 0 0), (6, .int .i64 ((10 : Nat) : Int)), (9, .int .i64 i)]) (fun i => i ≤ p.ma.l.length ∧ badFrom 0 p.ma.l 0 p.ma.l.length = badFrom 0 p.ma.l i (p.ma.l.length - i)) (fun i => p.ma.l.length - i) 0 ⟨Nat.zero_le _, rfl⟩ ?_ ?_ ?_
    · rfl
    · (repeat' (first | exact trivial | refine And.intro rfl ?_ | fail))
    rintro i ⟨hi, hb⟩ hM2
    repeat' ((conv => whnf); first | refine brP_intro (fun _ => ?_) (fun _ => ?_) | refine storeEq rfl ?_ | refine natEq rfl ?_ | refine drawGo (by kernel_rfl) ?_ | refine And.intro ?_ ?_ | refine next (a := i) hM2 (i + 1) ?_ ?_ ?_ | refine next (a := 10) hM (10 + 1) ?_ ?_ ?_ | fail)
    all_goals try exact nilStore
    all_goals try decide
    all_goals try (refine weak_keep rfl ?_; repeat' (first | exact trivial | refine And.intro rfl ?_ | refine And.intro (bump (by omega)) ?_ | fail))
    all_goals try (clear hM hM2; (simp only [tt, ft, notT, eqF, Bool.and_eq_true, Bool.or_eq_true, decide_eq_true_eq, beq_iff_eq, wrap64, Int.toNat_natCast, ge_iff_le, gt_iff_lt] at *; omega))
    · rename_i a
      exact hbS hb (ltI a) (bad0 _)
    · rename_i a
      exact j3 h0 (by rw [hb, bad_end (geI a)])
  · repeat' ((conv => whnf); first | refine brP_intro (fun _ => ?_) (fun _ => ?_) | refine storeEq rfl ?_ | refine natEq rfl ?_ | refine drawGo (by kernel_rfl) ?_ | refine And.intro ?_ ?_ | fail)
    · rw [hj]; rfl
    · exact nilStore
theorem ri10 (p : Pr) : Contract Try.prog 10 [encP p] [] (.bool (decide ((chkP p).2 = 0))) [] := by
  refine contract_of_awp mix Try.func10 rfl (by kernel_rfl) ?_
  repeat' ((conv => whnf); first | refine brP_intro (fun _ => ?_) (fun _ => ?_) | refine storeEq rfl ?_ | refine natEq rfl ?_ | refine drawGo (by kernel_rfl) ?_ | refine And.intro ?_ ?_ | refine ⟨_, ck40 p, rfl, ?_⟩ | fail)
  all_goals first | exact nilStore | rfl | skip
  all_goals trace_state
end Go.Proofs.Ytjpoihfadkkneaa
