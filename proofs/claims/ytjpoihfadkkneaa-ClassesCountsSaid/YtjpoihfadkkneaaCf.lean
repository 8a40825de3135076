/- Right tables: both ways to find find the same. No condition. -/
import Derived.Test.YtjpoihfadkkneaaCe
namespace Go.Proofs.Ytjpoihfadkkneaa
open Go Go.SE
set_option linter.unusedVariables false
/-- A right table: ranges that may be, one behind the other. -/
def Okt (l : List Rg) : Prop := (∀ i, i < l.length → mayB (l.getD i dR) = true) ∧ ∀ i, 0 < i → i < l.length → (l.getD (i - 1) dR).hi < (l.getD i dR).lo
theorem chk_ok (l : List Rg) : ∀ (k i : Nat), i + k = l.length → (chkFrom l i k).2 = 0 → ∀ j, i ≤ j → j < l.length → mayB (l.getD j dR) = true ∧ (0 < j → (l.getD (j - 1) dR).hi < (l.getD j dR).lo)
  | 0, i, h, _, j, h1, h2 => by omega
  | k + 1, i, h, h0, j, h1, h2 => by
    rw [chkFrom] at h0
    split at h0
    · cases h0
    · rename_i hm
      split at h0
      · cases h0
      · rename_i hl
        by_cases e : j = i
        · subst e
          exact ⟨by simpa using hm, fun hj => by have : ¬ (l.getD j dR).lo ≤ (l.getD (j - 1) dR).hi := fun h => hl ⟨hj, h⟩; omega⟩
        · exact chk_ok l k (i + 1) (by omega) h0 j (by omega) h2
theorem ok_of_chk {l : List Rg} (h : (chkR l).2 = 0) : Okt l := by
  rw [chkR] at h
  split at h
  · cases h
  · have := chk_ok l l.length 0 (by omega) h
    exact ⟨fun i hi => (this i (Nat.zero_le _) hi).1, fun i h0 hi => (this i (Nat.zero_le _) hi).2 h0⟩
theorem may_le {x : Rg} (h : mayB x = true) : x.lo ≤ x.hi := by
  unfold mayB at h
  simp at h
  omega
theorem Okt.lt {l : List Rg} (h : Okt l) : ∀ (d i : Nat), i + d + 1 < l.length → (l.getD i dR).hi < (l.getD (i + d + 1) dR).lo
  | 0, i, hi => h.2 (i + 1) (by omega) hi
  | d + 1, i, hi => by
    have h1 := h.lt d i (by omega)
    have h2 := may_le (h.1 (i + d + 1) (by omega))
    have h3 := h.2 (i + (d + 1) + 1) (by omega) hi
    have e : i + (d + 1) + 1 - 1 = i + d + 1 := by omega
    rw [e] at h3
    omega
theorem Okt.lt' {l : List Rg} (h : Okt l) {i j : Nat} (hij : i < j) (hj : j < l.length) : (l.getD i dR).hi < (l.getD j dR).lo := by
  have := h.lt (j - i - 1) i (by omega)
  rwa [show i + (j - i - 1) + 1 = j by omega] at this
theorem bs_spec (p : Nat → Bool) (n : Nat) (hp : ∀ i j, i ≤ j → j < n → p i = true → p j = true) : ∀ (k i j : Nat), j - i ≤ k → i ≤ j → j ≤ n → (∀ x, i ≤ x → x < bs p k i j → p x = false) ∧ (bs p k i j < j → p (bs p k i j) = true)
  | 0, i, j, h1, h2, h3 => by
    rw [bs]
    exact ⟨fun x hx hx' => by omega, fun h => by omega⟩
  | k + 1, i, j, h1, h2, h3 => by
    rw [bs]
    split
    · rename_i hij
      split
      · rename_i hm
        obtain ⟨g1, g2⟩ := bs_spec p n hp k i ((i + j) / 2) (by omega) (by omega) (by omega)
        refine ⟨g1, fun h => ?_⟩
        by_cases hlt : bs p k i ((i + j) / 2) < (i + j) / 2
        · exact g2 hlt
        · have := (bs_le p k i ((i + j) / 2) (by omega)).2
          rw [show bs p k i ((i + j) / 2) = (i + j) / 2 by omega]
          exact hm
      · rename_i hm
        obtain ⟨g1, g2⟩ := bs_spec p n hp k ((i + j) / 2 + 1) j (by omega) (by omega) (by omega)
        refine ⟨fun x hx hx' => ?_, g2⟩
        by_cases hlt : (i + j) / 2 + 1 ≤ x
        · exact g1 x hlt hx'
        · cases hq : p x with
          | false => rfl
          | true => exact absurd (hp x ((i + j) / 2) (by omega) (by omega) hq) hm
    · exact ⟨fun x hx hx' => by omega, fun h => by omega⟩
theorem fnd_none {l : List Rg} {r : Int} : ∀ (k i : Nat), i + k = l.length → (∀ j, i ≤ j → j < l.length → ¬ ((l.getD j dR).lo ≤ r ∧ r ≤ (l.getD j dR).hi)) → fndFrom l r i k = (0, false)
  | 0, i, _, _ => rfl
  | k + 1, i, h, hn => by
    rw [fndFrom, if_neg (hn i (Nat.le_refl _) (by omega))]
    exact fnd_none k (i + 1) (by omega) fun j h1 h2 => hn j (by omega) h2
theorem fnd_at {l : List Rg} {r : Int} {m : Nat} (hm : m < l.length) (hit : (l.getD m dR).lo ≤ r ∧ r ≤ (l.getD m dR).hi) : ∀ (k i : Nat), i + k = l.length → i ≤ m → (∀ j, i ≤ j → j < m → ¬ ((l.getD j dR).lo ≤ r ∧ r ≤ (l.getD j dR).hi)) → fndFrom l r i k = ((l.getD m dR).v, true)
  | 0, i, h, h1, _ => by omega
  | k + 1, i, h, h1, hn => by
    rw [fndFrom]
    by_cases e : i = m
    · subst e
      rw [if_pos hit]
    · rw [if_neg (hn i (Nat.le_refl _) (by omega))]
      exact fnd_at hm hit k (i + 1) (by omega) (by omega) fun j h1 h2 => hn j (by omega) h2
theorem fnd_same {l : List Rg} (h : Okt l) (r : Int) : fndB l r = fndR l r := by
  have mono : ∀ i j, i ≤ j → j < l.length → hitP l r i = true → hitP l r j = true := fun i j hij hj hi => by
    by_cases e : i = j
    · rw [← e]; exact hi
    · have h1 := h.lt' (i := i) (j := j) (by omega) hj
      have h2 := may_le (h.1 j hj)
      simp only [hitP, decide_eq_true_eq] at *
      omega
  obtain ⟨g1, g2⟩ := bs_spec (hitP l r) l.length mono l.length 0 l.length (by omega) (Nat.zero_le _) (Nat.le_refl _)
  have g3 := (bs_le (hitP l r) l.length 0 l.length (Nat.zero_le _)).2
  have before : ∀ j, 0 ≤ j → j < bs (hitP l r) l.length 0 l.length → ¬ ((l.getD j dR).lo ≤ r ∧ r ≤ (l.getD j dR).hi) := fun j _ hj => by
    have := g1 j (Nat.zero_le _) hj
    simp only [hitP, decide_eq_false_iff_not] at this
    omega
  unfold fndB fndR
  split
  · rename_i he
    rw [he] at before
    exact (fnd_none l.length 0 (by omega) fun j h1 h2 => before j h1 h2).symm
  · rename_i he
    have hlt : bs (hitP l r) l.length 0 l.length < l.length := by omega
    have hk := g2 hlt
    simp only [hitP, decide_eq_true_eq] at hk
    split
    · rename_i hgt
      refine (fnd_none l.length 0 (by omega) fun j h1 h2 => ?_).symm
      by_cases hj : j < bs (hitP l r) l.length 0 l.length
      · exact before j h1 hj
      · by_cases e : j = bs (hitP l r) l.length 0 l.length
        · rw [e]; omega
        · have := h.lt' (i := bs (hitP l r) l.length 0 l.length) (j := j) (by omega) h2
          omega
    · rename_i hgt
      exact (fnd_at hlt ⟨by omega, hk⟩ l.length 0 (by omega) (Nat.zero_le _) before).symm
theorem all_ok : ∀ (L : List (Int × Tb)), (chkTabs L).2 = 0 → ∀ x ∈ L, (chkR x.2.l).2 = 0
  | [], _, x, hx => by cases hx
  | (m, t) :: r, h, x, hx => by
    rw [chkTabs] at h
    split at h
    · rename_i h0
      rcases List.mem_cons.1 hx with rfl | hx
      · rw [chkTab] at h0
        split at h0
        · assumption
        · exact h0
      · exact all_ok r h x hx
    · contradiction
theorem right_ok {p : Pr} (h : (chkP p).2 = 0) (r : Int) : fndB p.ex.l r = fndR p.ex.l r ∧ fndB p.un.l r = fndR p.un.l r ∧ fndB p.jo.l r = fndR p.jo.l r ∧ fndB p.ol.l r = fndR p.ol.l r ∧ fndB p.us.l r = fndR p.us.l r ∧ fndB p.ig.l r = fndR p.ig.l r ∧ fndB p.le.l r = fndR p.le.l r ∧ fndB p.jn.l r = fndR p.jn.l r ∧ fndB p.sc.l r = fndR p.sc.l r ∧ fndB p.di.l r = fndR p.di.l r ∧ fndB p.ma.l r = fndR p.ma.l r := by
  have h1 := all_ok (mt p) h
  have h2 : ∀ (m : Int) (t : Tb), (m, t) ∈ mt p → fndB t.l r = fndR t.l r := fun m t ht => fnd_same (ok_of_chk (h1 (m, t) ht)) r
  refine ⟨h2 5 p.ex ?_, h2 0 p.un ?_, h2 0 p.jo ?_, h2 0 p.ol ?_, h2 0 p.us ?_, h2 0 p.ig ?_, h2 0 p.le ?_, h2 4 p.jn ?_, h2 5 p.sc ?_, h2 11 p.di ?_, h2 0 p.ma ?_⟩ <;> simp [mt]
end Go.Proofs.Ytjpoihfadkkneaa
