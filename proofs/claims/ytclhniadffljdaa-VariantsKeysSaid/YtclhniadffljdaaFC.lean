/- THE STATEMENT 'VariantsKeys': for every input the law returns true, and each argument reads afterwards as it read before. No condition. -/
import Derived.Test.YtclhniadffljdaaRows
import Derived.Test.YtclhniadffljdaaSe22
import Derived.Test.YtclhniadffljdaaPAllL
import Derived.Test.YtclhniadffljdaaK0
import Derived.OpenShut
import Derived.WalkKit
import Derived.ProofKit
import Derived.ChangeOld
import Derived.Below
namespace Go.Proofs.Ytclhniadffljdaa
open Go.ChangeShapes Go.WideShapes Go.ChangeAt Go.RowKit Go.SE
set_option linter.unusedVariables false
theorem cT24 : Try.prog.cellsOf 24 = 2 := by kernel_rfl
theorem cT9 : Try.prog.cellsOf 9 = 1 := by kernel_rfl
theorem o9 : Opens Try.prog 9 (fun s : ByteArray => AV.str s) (fun s : ByteArray => s.size ≤ maxLen) := opens_string Try.underlying9 cT9
theorem cT22 : Try.prog.cellsOf 22 = 1 := by kernel_rfl
theorem cT25 : Try.prog.cellsOf 25 = 1 := by kernel_rfl
theorem cT21 : Try.prog.cellsOf 21 = 1 := by kernel_rfl
theorem o21 : Opens Try.prog 21 (fun n : Int => AV.int .i32 n) (fun n : Int => (Lit.int .i32 n).wf = true) := opens_int Try.underlying21 cT21
def ok_L_i32 (l : (List Int)) : Prop := l.length ≤ maxLen ∧ ∀ j, j < l.length → (fun n : Int => (Lit.int .i32 n).wf = true) (l.getD j 0)
theorem o25 : Opens Try.prog 25 e_L_i32 ok_L_i32 := opens_list Try.underlying25 cT25 (by rw [cT21]; decide) o21 0
def ok_L_L_i32 (l : (List (List Int))) : Prop := l.length ≤ maxLen ∧ ∀ j, j < l.length → ok_L_i32 (l.getD j [])
theorem o22 : Opens Try.prog 22 e_L_L_i32 ok_L_L_i32 := opens_list Try.underlying22 cT22 (by rw [cT25]; decide) o25 []
def ok_api_Family (x : T_api_Family) : Prop := (fun s : ByteArray => s.size ≤ maxLen) x.f_Name ∧ ok_L_L_i32 x.f_Sets
theorem o24 : Opens Try.prog 24 e_api_Family ok_api_Family := by
  intro H enc w base sp held fuel cs y h
  obtain ⟨n, hl, hf⟩ := struct_fields Try.underlying24 h
  obtain ⟨a0, k0, s0⟩ := o9.seg (hf 0 _ rfl)
  obtain ⟨a1, k1, s1⟩ := o22.seg (hf 1 _ rfl)
  exact ⟨⟨a0, a1⟩, ⟨k0, k1⟩, rfl, (hl.trans cT24).symm, hl, Seg.zero (s0.app s1 rfl)⟩
theorem gl0 (w : World) : Glob pl.laid w A0 := ⟨fun g h => (by simp [pl, gsL] at h), fun g g' a h => (by simp [pl, gsL] at h), fun x h => (by simp [pl, gsL] at h)⟩
theorem ownT : ownKnob Try.prog.godebug = none := by kernel_rfl
theorem laidT : laidOutB Try.prog = true := by kernel_rfl
set_option maxRecDepth 100000 in
theorem variantsKeys_lifted (os : Os) (started : os.Started) (H : Type) (enc : TypeId × Value → H) :
    ReturnsInHanded {} Try.checked os 4 .any (Rows.variantsKeysSpec.pre6 enc Try.prog Try.f4 Rows.variantsKeysRow.domain false) (Rows.variantsKeysSpec.post enc Try.prog Try.f4 false true false false) := by
  refine returnsInHanded_of_change (C := Try.checked) ownT started (by kernel_rfl) Try.func4
    (ChangeSpec.witness6 (enc := enc) (C := Try.checked) false ⟨#[], #[.agg #[.string (ByteArray.mk #[]), .slice none 0 0], .slice none 0 0, .slice none 0 0], []⟩ 8 (by kernel_rfl) (by kernel_rfl) (by kernel_rfl) (by kernel_rfl)) ?_
  intro W base args ds gs before hval0 hW hcnd _
  have hval : ∀ (j : Nat) t v, Try.f4.params[j]? = some t → args[j]? = some v → Value.okWide Try.prog W .any base t v := hval0
  have hW' := hW
  obtain ⟨p, q, hA0, hV, rfl, hfz, hnd⟩ := hW
  have hA : DataW.TrodAll enc Try.prog W 0 (fun _ => true) true Try.f4.params.toList args.toList ds p := hA0
  rw [Try.params4] at hA hval
  obtain ⟨v0, vs0, d0, ds0, p0, q0, hargs, rfl, rfl, h0, r0⟩ := trodAll_cons hA
  obtain ⟨v1, vs1, d1, ds1, p1, q1, rfl, rfl, rfl, h1, r1⟩ := trodAll_cons r0
  obtain ⟨v2, vs2, d2, ds2, p2, q2, rfl, rfl, rfl, h2, r2⟩ := trodAll_cons r1
  obtain ⟨rfl, rfl, rfl⟩ := trodAll_nil r2
  obtain rfl : args = #[v0, v1, v2] := by cases args; simp_all
  obtain ⟨rfl, rfl⟩ := trodVars_none hV
  have k0 := h0
  have lt0 : ∀ x ∈ p0, x.block < W.heap.size := by obtain ⟨m, hm⟩ := k0; exact DataW.trod_lt m _ _ _ hm
  have k1 := h1
  have lt1 : ∀ x ∈ p1, x.block < W.heap.size := by obtain ⟨m, hm⟩ := k1; exact DataW.trod_lt m _ _ _ hm
  have k2 := h2
  have lt2 : ∀ x ∈ p2, x.block < W.heap.size := by obtain ⟨m, hm⟩ := k2; exact DataW.trod_lt m _ _ _ hm
  obtain ⟨c0, rfl, hc0⟩ := okWide_struct Try.underlying24 (hval 0 24 v0 rfl rfl)
  obtain ⟨b1, n1, cap1, rfl⟩ := okWide_slice Try.underlying25 (hval 1 25 v1 rfl rfl)
  obtain ⟨b2, n2, cap2, rfl⟩ := okWide_slice Try.underlying25 (hval 2 25 v2 rfl rfl)
  obtain ⟨a0, ok0, R0⟩ := o24.argAgg (fun p => ⟨_, rfl⟩) h0
  obtain ⟨a1, ok1, R1⟩ := o25.arg (fun _ => rfl) rfl h1
  obtain ⟨a2, ok2, R2⟩ := o25.arg (fun _ => rfl) rfl h2
  clear hA0 hval0
  refine ((c_eponymlaw19_VariantsKeys a0 a1 a2 true ((fun (a : T_api_Family) (b c : List Int) _ _ _ => law_variantsKeys' a b c) a0 a1 a2 ok0 ok1 ok2)).top (gl0 W) (w := W) (vs := [.agg c0, .slice b1 n1 cap1, .slice b2 n2 cap2]) rfl (fun i x v hx hv => ?_)).mono fun e W' ⟨he, bel⟩ => ?_
  · match i, hx, hv with
    | 0, hx, hv => cases hx; cases hv; exact R0
    | 1, hx, hv => cases hx; cases hv; exact R1
    | 2, hx, hv => cases hx; cases hv; exact R2
    | i + 3, hx, hv => simp at hx
  subst he
  exact ⟨_, rfl, _, _, _, [], _, [], hW', trodAll_mk1 (shut_bool Try.underlying4 _), (trodAll_cons_mk (Below.trod laidT (by kernel_rfl) (of_decide_eq_true (by kernel_rfl)) k0 bel lt0) (trodAll_cons_mk (Below.trod laidT (by kernel_rfl) (of_decide_eq_true (by kernel_rfl)) k1 bel lt1) (trodAll_cons_mk (Below.trod laidT (by kernel_rfl) (of_decide_eq_true (by kernel_rfl)) k2 bel lt2) trodAll_mk0))), rfl, bel.frame _, fun h => by cases h⟩
theorem variantsKeys_over : Rows.variantsKeysRow.holds Try.pinned (OpenSpec.ofChange Rows.variantsKeysSpec) :=
  OpenClaim.holds_of_wide 4 Try.f4 rfl rfl rfl rfl rfl rfl rfl ⟨rfl, rfl, rfl, rfl, rfl⟩ rfl rfl rfl rfl rfl (by kernel_rfl) Try.func4 (by kernel_rfl)
    (of_decide_eq_true (by kernel_rfl)) (by unfold Func.isWrapper; first | (rw [if_pos (by decide +kernel)]; kernel_rfl) | (rw [if_neg (by decide +kernel)]; exact ⟨rfl, rfl⟩))
    (fun os started H enc _ => variantsKeys_lifted os started H enc)
/-- THE STATEMENT. -/
theorem variantsKeys_holds : Rows.VariantsKeysSaid := variantsKeys_over
#print axioms variantsKeys_holds
end Go.Proofs.Ytclhniadffljdaa
