/- THE STATEMENT 'CompPairs': for every input the law returns true, and each argument reads afterwards as it read before. No condition. -/
import Derived.Test.YtjhgaacecfmadaaRows
import Derived.Test.YtjhgaacecfmadaaSe22
import Derived.Test.YtjhgaacecfmadaaPPairL
import Derived.Test.YtjhgaacecfmadaaK4
import Derived.OpenShut
import Derived.WalkKit
import Derived.ProofKit
import Derived.ChangeOld
import Derived.Below
namespace Go.Proofs.Ytjhgaacecfmadaa
open Go.ChangeShapes Go.WideShapes Go.ChangeAt Go.RowKit Go.SE
set_option linter.unusedVariables false
theorem cT42 : Try.prog.cellsOf 42 = 3 := by kernel_rfl
theorem cT39 : Try.prog.cellsOf 39 = 1 := by kernel_rfl
theorem cT74 : Try.prog.cellsOf 74 = 2 := by kernel_rfl
theorem cT21 : Try.prog.cellsOf 21 = 1 := by kernel_rfl
theorem o21 : Opens Try.prog 21 (fun n : Int => AV.int .i32 n) (fun n : Int => (Lit.int .i32 n).wf = true) := opens_int Try.underlying21 cT21
theorem cT25 : Try.prog.cellsOf 25 = 1 := by kernel_rfl
def ok_L_i32 (l : (List Int)) : Prop := l.length ≤ maxLen ∧ ∀ j, j < l.length → (fun n : Int => (Lit.int .i32 n).wf = true) (l.getD j 0)
theorem o25 : Opens Try.prog 25 e_L_i32 ok_L_i32 := opens_list Try.underlying25 cT25 (by rw [cT21]; decide) o21 0
def ok_api_Row (x : T_api_Row) : Prop := (fun n : Int => (Lit.int .i32 n).wf = true) x.f_From ∧ ok_L_i32 x.f_To
theorem o74 : Opens Try.prog 74 e_api_Row ok_api_Row := by
  intro H enc w base sp held fuel cs y h
  obtain ⟨n, hl, hf⟩ := struct_fields Try.underlying74 h
  obtain ⟨a0, k0, s0⟩ := o21.seg (hf 0 _ rfl)
  obtain ⟨a1, k1, s1⟩ := o25.seg (hf 1 _ rfl)
  exact ⟨⟨a0, a1⟩, ⟨k0, k1⟩, rfl, (hl.trans cT74).symm, hl, Seg.zero (s0.app s1 rfl)⟩
def ok_L_api_Row (l : (List T_api_Row)) : Prop := l.length ≤ maxLen ∧ ∀ j, j < l.length → ok_api_Row (l.getD j d_api_Row)
theorem o39 : Opens Try.prog 39 e_L_api_Row ok_L_api_Row := opens_list Try.underlying39 cT39 (by rw [cT74]; decide) o74 d_api_Row
theorem cT40 : Try.prog.cellsOf 40 = 1 := by kernel_rfl
theorem cT76 : Try.prog.cellsOf 76 = 3 := by kernel_rfl
theorem cT3 : Try.prog.cellsOf 3 = 1 := by kernel_rfl
theorem o3 : Opens Try.prog 3 (fun n : Int => AV.int .i64 n) (fun n : Int => (Lit.int .i64 n).wf = true) := opens_int Try.underlying3 cT3
def ok_api_Range (x : T_api_Range) : Prop := (fun n : Int => (Lit.int .i32 n).wf = true) x.f_Lo ∧ (fun n : Int => (Lit.int .i32 n).wf = true) x.f_Hi ∧ (fun n : Int => (Lit.int .i64 n).wf = true) x.f_Value
theorem o76 : Opens Try.prog 76 e_api_Range ok_api_Range := by
  intro H enc w base sp held fuel cs y h
  obtain ⟨n, hl, hf⟩ := struct_fields Try.underlying76 h
  obtain ⟨a0, k0, s0⟩ := o21.seg (hf 0 _ rfl)
  obtain ⟨a1, k1, s1⟩ := o21.seg (hf 1 _ rfl)
  obtain ⟨a2, k2, s2⟩ := o3.seg (hf 2 _ rfl)
  exact ⟨⟨a0, a1, a2⟩, ⟨k0, k1, k2⟩, rfl, (hl.trans cT76).symm, hl, Seg.zero (s0.app (s1.app s2 rfl) rfl)⟩
def ok_L_api_Range (l : (List T_api_Range)) : Prop := l.length ≤ maxLen ∧ ∀ j, j < l.length → ok_api_Range (l.getD j d_api_Range)
theorem o40 : Opens Try.prog 40 e_L_api_Range ok_L_api_Range := opens_list Try.underlying40 cT40 (by rw [cT76]; decide) o76 d_api_Range
def ok_api_Norm (x : T_api_Norm) : Prop := ok_L_api_Row x.f_Rows ∧ ok_L_api_Range x.f_Classes ∧ ok_L_i32 x.f_Excluded
theorem o42 : Opens Try.prog 42 e_api_Norm ok_api_Norm := by
  intro H enc w base sp held fuel cs y h
  obtain ⟨n, hl, hf⟩ := struct_fields Try.underlying42 h
  obtain ⟨a0, k0, s0⟩ := o39.seg (hf 0 _ rfl)
  obtain ⟨a1, k1, s1⟩ := o40.seg (hf 1 _ rfl)
  obtain ⟨a2, k2, s2⟩ := o25.seg (hf 2 _ rfl)
  exact ⟨⟨a0, a1, a2⟩, ⟨k0, k1, k2⟩, rfl, (hl.trans cT42).symm, hl, Seg.zero (s0.app (s1.app s2 rfl) rfl)⟩
theorem gl0 (w : World) : Glob pl.laid w A0 := ⟨fun g h => (by simp [pl, gsL] at h), fun g g' a h => (by simp [pl, gsL] at h), fun x h => (by simp [pl, gsL] at h)⟩
theorem ownT : ownKnob Try.prog.godebug = none := by kernel_rfl
theorem laidT : laidOutB Try.prog = true := by kernel_rfl
set_option maxRecDepth 100000 in
theorem compPairs_lifted (os : Os) (started : os.Started) (H : Type) (enc : TypeId × Value → H) :
    ReturnsInHanded {} Try.checked os 6 .any (Rows.compPairsSpec.pre6 enc Try.prog Try.f6 Rows.compPairsRow.domain false) (Rows.compPairsSpec.post enc Try.prog Try.f6 false true false false) := by
  refine returnsInHanded_of_change (C := Try.checked) ownT started (by kernel_rfl) Try.func6
    (ChangeSpec.witness6 (enc := enc) (C := Try.checked) false ⟨#[], #[.agg #[.slice none 0 0, .slice none 0 0, .slice none 0 0], .int .i32 0, .int .i32 0], []⟩ 8 (by kernel_rfl) (by kernel_rfl) (by kernel_rfl) (by kernel_rfl)) ?_
  intro W base args ds gs before hval0 hW hcnd _
  have hval : ∀ (j : Nat) t v, Try.f6.params[j]? = some t → args[j]? = some v → Value.okWide Try.prog W .any base t v := hval0
  have hW' := hW
  obtain ⟨p, q, hA0, hV, rfl, hfz, hnd⟩ := hW
  have hA : DataW.TrodAll enc Try.prog W 0 (fun _ => true) true Try.f6.params.toList args.toList ds p := hA0
  rw [Try.params6] at hA hval
  obtain ⟨v0, vs0, d0, ds0, p0, q0, hargs, rfl, rfl, h0, r0⟩ := trodAll_cons hA
  obtain ⟨v1, vs1, d1, ds1, p1, q1, rfl, rfl, rfl, h1, r1⟩ := trodAll_cons r0
  obtain ⟨v2, vs2, d2, ds2, p2, q2, rfl, rfl, rfl, h2, r2⟩ := trodAll_cons r1
  obtain ⟨rfl, rfl, rfl⟩ := trodAll_nil r2
  obtain rfl : args = #[v0, v1, v2] := by cases args; simp_all
  obtain ⟨rfl, rfl⟩ := trodVars_none hV
  have k0 := h0
  have lt0 : ∀ x ∈ p0, x.block < W.heap.size := by obtain ⟨m, hm⟩ := k0; exact DataW.trod_lt m _ _ _ hm
  obtain ⟨c0, rfl, hc0⟩ := okWide_struct Try.underlying42 (hval 0 42 v0 rfl rfl)
  obtain ⟨a0, ok0, R0⟩ := o42.argAgg (fun p => ⟨_, rfl⟩) h0
  obtain ⟨a1, rfl, rfl, rfl, ok1⟩ := open_int Try.underlying21 (hval 1 21 v1 rfl rfl) h1
  obtain ⟨a2, rfl, rfl, rfl, ok2⟩ := open_int Try.underlying21 (hval 2 21 v2 rfl rfl) h2
  clear hA0 hval0
  refine ((c_eponymlaw05_CompPairs a0 a1 a2 true ((fun (a : T_api_Norm) (b c : Int) (_ : ok_api_Norm a) (hb : (Lit.int .i32 b).wf = true) (hc : (Lit.int .i32 c).wf = true) => law_compPairs a b c hb hc) a0 a1 a2 ok0 ok1 ok2)).top (gl0 W) (w := W) (vs := [.agg c0, .int .i32 a1, .int .i32 a2]) rfl (fun i x v hx hv => ?_)).mono fun e W' ⟨he, bel⟩ => ?_
  · match i, hx, hv with
    | 0, hx, hv => cases hx; cases hv; exact R0
    | 1, hx, hv => cases hx; cases hv; exact .int .i32 a1
    | 2, hx, hv => cases hx; cases hv; exact .int .i32 a2
    | i + 3, hx, hv => simp at hx
  subst he
  exact ⟨_, rfl, _, _, _, [], _, [], hW', trodAll_mk1 (shut_bool Try.underlying4 _), (trodAll_cons_mk (Below.trod laidT (by kernel_rfl) (of_decide_eq_true (by kernel_rfl)) k0 bel lt0) (trodAll_cons_mk (shut_int Try.underlying21 ok1) (trodAll_cons_mk (shut_int Try.underlying21 ok2) trodAll_mk0))), rfl, bel.frame _, fun h => by cases h⟩
theorem compPairs_over : Rows.compPairsRow.holds Try.pinned (OpenSpec.ofChange Rows.compPairsSpec) :=
  OpenClaim.holds_of_wide 6 Try.f6 rfl rfl rfl rfl rfl rfl rfl ⟨rfl, rfl, rfl, rfl, rfl⟩ rfl rfl rfl rfl rfl (by kernel_rfl) Try.func6 (by kernel_rfl)
    (of_decide_eq_true (by kernel_rfl)) (by unfold Func.isWrapper; first | (rw [if_pos (by decide +kernel)]; kernel_rfl) | (rw [if_neg (by decide +kernel)]; exact ⟨rfl, rfl⟩))
    (fun os started H enc _ => compPairs_lifted os started H enc)
/-- THE STATEMENT. -/
theorem compPairs_holds : Rows.CompPairsSaid := compPairs_over
#print axioms compPairs_holds
end Go.Proofs.Ytjhgaacecfmadaa
