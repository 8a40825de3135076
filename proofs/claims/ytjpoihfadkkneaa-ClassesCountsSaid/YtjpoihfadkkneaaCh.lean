/- What properties and a rune read as, as abstract values. No condition. -/
import Derived.Test.YtjpoihfadkkneaaCg
import Derived.OpenShut
import Derived.ChangeOld
namespace Go.Proofs.Ytjpoihfadkkneaa
open Go Go.SE
set_option linter.unusedVariables false
theorem cellT22 : Try.prog.cellsOf 22 = 1 := by kernel_rfl
theorem cellT51 : Try.prog.cellsOf 51 = 3 := by kernel_rfl
theorem cellT24 : Try.prog.cellsOf 24 = 11 := by kernel_rfl
theorem cellT21 : Try.prog.cellsOf 21 = 1 := by kernel_rfl
theorem cellT3 : Try.prog.cellsOf 3 = 1 := by kernel_rfl
theorem list3 {l : List Value} (h : l.length = 3) : ∃ a b c, l = [a, b, c] := by
  match l, h with
  | [a, b, c], _ => exact ⟨a, b, c, rfl⟩
theorem opensR : Opens Try.prog 51 encR fun _ => True := by
  intro H enc w base sp held fuel cs y h
  obtain ⟨h1, n, h2⟩ := trod_parts Try.underlying51 (fun i f hf => by
    match i, hf with
    | 0, hf => cases hf; exact ⟨rfl, cellT21⟩
    | 1, hf => cases hf; exact ⟨rfl, cellT21⟩
    | 2, hf => cases hf; exact ⟨rfl, cellT3⟩
    | i + 3, hf => simp at hf) h
  obtain ⟨v0, v1, v2, rfl⟩ := list3 (h1.trans cellT51)
  obtain ⟨_, g0⟩ := h2 0 _ v0 rfl rfl
  obtain ⟨_, g1⟩ := h2 1 _ v1 rfl rfl
  obtain ⟨_, g2⟩ := h2 2 _ v2 rfl rfl
  obtain ⟨a0, _, _, o0, r0⟩ := (opens_int Try.underlying21 cellT21).cell (fun _ => rfl) g0
  obtain ⟨a1, _, _, o1, r1⟩ := (opens_int Try.underlying21 cellT21).cell (fun _ => rfl) g1
  obtain ⟨a2, _, _, o2, r2⟩ := (opens_int Try.underlying3 cellT3).cell (fun _ => rfl) g2
  refine ⟨⟨a0, a1, a2⟩, trivial, rfl, rfl, h1, opens_agg rfl fun i x v hx hv => ?_⟩
  match i, hx, hv with
  | 0, hx, hv => cases hx; cases hv; exact ⟨o0, r0⟩
  | 1, hx, hv => cases hx; cases hv; exact ⟨o1, r1⟩
  | 2, hx, hv => cases hx; cases hv; exact ⟨o2, r2⟩
  | i + 3, hx, hv => simp at hx
theorem opensT : Opens Try.prog 22 encT fun t => t.l.length ≤ maxLen :=
  (opens_slice Try.underlying22 cellT22 (by rw [cellT51]; decide) opensR dR).map (fun s => (⟨s.1, s.2⟩ : Tb)) fun s h => ⟨rfl, h.1⟩
theorem list11 {l : List Value} (h : l.length = 11) : ∃ v0 v1 v2 v3 v4 v5 v6 v7 v8 v9 v10, l = [v0, v1, v2, v3, v4, v5, v6, v7, v8, v9, v10] := by
  match l, h with
  | [v0, v1, v2, v3, v4, v5, v6, v7, v8, v9, v10], _ => exact ⟨v0, v1, v2, v3, v4, v5, v6, v7, v8, v9, v10, rfl⟩
def okP (p : Pr) : Prop := p.ex.l.length ≤ maxLen ∧ p.un.l.length ≤ maxLen ∧ p.jo.l.length ≤ maxLen ∧ p.ol.l.length ≤ maxLen ∧ p.us.l.length ≤ maxLen ∧ p.ig.l.length ≤ maxLen ∧ p.le.l.length ≤ maxLen ∧ p.jn.l.length ≤ maxLen ∧ p.sc.l.length ≤ maxLen ∧ p.di.l.length ≤ maxLen ∧ p.ma.l.length ≤ maxLen
theorem opensP : Opens Try.prog 24 encP okP := by
  intro H enc w base sp held fuel cs y h
  obtain ⟨h1, n, h2⟩ := trod_parts Try.underlying24 (fun i f hf => by
    match i, hf with
    | 0, hf => cases hf; exact ⟨rfl, cellT22⟩
    | 1, hf => cases hf; exact ⟨rfl, cellT22⟩
    | 2, hf => cases hf; exact ⟨rfl, cellT22⟩
    | 3, hf => cases hf; exact ⟨rfl, cellT22⟩
    | 4, hf => cases hf; exact ⟨rfl, cellT22⟩
    | 5, hf => cases hf; exact ⟨rfl, cellT22⟩
    | 6, hf => cases hf; exact ⟨rfl, cellT22⟩
    | 7, hf => cases hf; exact ⟨rfl, cellT22⟩
    | 8, hf => cases hf; exact ⟨rfl, cellT22⟩
    | 9, hf => cases hf; exact ⟨rfl, cellT22⟩
    | 10, hf => cases hf; exact ⟨rfl, cellT22⟩
    | i + 11, hf => simp at hf) h
  obtain ⟨v0, v1, v2, v3, v4, v5, v6, v7, v8, v9, v10, rfl⟩ := list11 (h1.trans cellT24)
  obtain ⟨_, g0⟩ := h2 0 _ v0 rfl rfl
  obtain ⟨_, g1⟩ := h2 1 _ v1 rfl rfl
  obtain ⟨_, g2⟩ := h2 2 _ v2 rfl rfl
  obtain ⟨_, g3⟩ := h2 3 _ v3 rfl rfl
  obtain ⟨_, g4⟩ := h2 4 _ v4 rfl rfl
  obtain ⟨_, g5⟩ := h2 5 _ v5 rfl rfl
  obtain ⟨_, g6⟩ := h2 6 _ v6 rfl rfl
  obtain ⟨_, g7⟩ := h2 7 _ v7 rfl rfl
  obtain ⟨_, g8⟩ := h2 8 _ v8 rfl rfl
  obtain ⟨_, g9⟩ := h2 9 _ v9 rfl rfl
  obtain ⟨_, g10⟩ := h2 10 _ v10 rfl rfl
  obtain ⟨a0, k0, m0, o0, r0⟩ := opensT.cell (fun _ => rfl) g0
  obtain ⟨a1, k1, m1, o1, r1⟩ := opensT.cell (fun _ => rfl) g1
  obtain ⟨a2, k2, m2, o2, r2⟩ := opensT.cell (fun _ => rfl) g2
  obtain ⟨a3, k3, m3, o3, r3⟩ := opensT.cell (fun _ => rfl) g3
  obtain ⟨a4, k4, m4, o4, r4⟩ := opensT.cell (fun _ => rfl) g4
  obtain ⟨a5, k5, m5, o5, r5⟩ := opensT.cell (fun _ => rfl) g5
  obtain ⟨a6, k6, m6, o6, r6⟩ := opensT.cell (fun _ => rfl) g6
  obtain ⟨a7, k7, m7, o7, r7⟩ := opensT.cell (fun _ => rfl) g7
  obtain ⟨a8, k8, m8, o8, r8⟩ := opensT.cell (fun _ => rfl) g8
  obtain ⟨a9, k9, m9, o9, r9⟩ := opensT.cell (fun _ => rfl) g9
  obtain ⟨a10, k10, m10, o10, r10⟩ := opensT.cell (fun _ => rfl) g10
  refine ⟨⟨a0, a1, a2, a3, a4, a5, a6, a7, a8, a9, a10⟩, ⟨k0, k1, k2, k3, k4, k5, k6, k7, k8, k9, k10⟩, rfl, rfl, h1, opens_agg rfl fun i x v hx hv => ?_⟩
  match i, hx, hv with
  | 0, hx, hv => cases hx; cases hv; exact ⟨o0, r0⟩
  | 1, hx, hv => cases hx; cases hv; exact ⟨o1, r1⟩
  | 2, hx, hv => cases hx; cases hv; exact ⟨o2, r2⟩
  | 3, hx, hv => cases hx; cases hv; exact ⟨o3, r3⟩
  | 4, hx, hv => cases hx; cases hv; exact ⟨o4, r4⟩
  | 5, hx, hv => cases hx; cases hv; exact ⟨o5, r5⟩
  | 6, hx, hv => cases hx; cases hv; exact ⟨o6, r6⟩
  | 7, hx, hv => cases hx; cases hv; exact ⟨o7, r7⟩
  | 8, hx, hv => cases hx; cases hv; exact ⟨o8, r8⟩
  | 9, hx, hv => cases hx; cases hv; exact ⟨o9, r9⟩
  | 10, hx, hv => cases hx; cases hv; exact ⟨o10, r10⟩
  | i + 11, hx, hv => simp at hx
end Go.Proofs.Ytjpoihfadkkneaa
