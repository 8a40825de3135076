/- Merged of texts of ours: PErr, PUtf, PU1, PU2, PU3, PU4, PU5. No condition. -/
import Derived.Test.YtjhgaacecfmadaaGreatDoorPLaw4A
import Derived.Laws.Strings
namespace Go.Proofs.YtjhgaacecfmadaaGreatDoor
open Go Go.SE
set_option linter.unusedVariables false
set_option linter.unusedSimpArgs false
theorem is_nil (at_ : Int) : m_eponymlaw01_Is .nil at_ 0 = some true := rfl
theorem is_fault {n : Int} {g : Nat} (hn : n ≠ 0) (h : m_eponymlaw01_Named n = some (.sent g)) (hg : g ∈ gsL) (at_ : Int) : m_eponymlaw01_Is (.box 51 at_ (.sent g)) at_ n = some true := by
  unfold m_eponymlaw01_Is
  rw [beq_false_of_ne hn]
  simp only [cond_false, Er.isNil, Bool.not_false, cond_true, m_errors_As, if_true, bind_some', h, m_errors_Is, hg, and_self, beq_self_eq_true]
theorem is_range (at_ : Int) : m_eponymlaw01_Is (.box 51 at_ (.sent 0)) at_ 4 = some true := is_fault (by decide) rfl (by decide) at_
theorem is_form (at_ : Int) : m_eponymlaw01_Is (.box 51 at_ (.sent 5)) at_ 5 = some true := is_fault (by decide) rfl (by decide) at_
theorem is_order (at_ : Int) : m_eponymlaw01_Is (.box 51 at_ (.sent 6)) at_ 6 = some true := is_fault (by decide) rfl (by decide) at_
theorem is_there (at_ : Int) : m_eponymlaw01_Is (.box 51 at_ (.sent 7)) at_ 7 = some true := is_fault (by decide) rfl (by decide) at_
theorem is_deep (at_ : Int) : m_eponymlaw01_Is (.box 51 at_ (.sent 9)) at_ 9 = some true := is_fault (by decide) rfl (by decide) at_
theorem is_bidi (at_ : Int) : m_eponymlaw01_Is (.box 51 at_ (.sent 12)) at_ 12 = some true := is_fault (by decide) rfl (by decide) at_
theorem is_empty (at_ : Int) : m_eponymlaw01_Is (.box 51 at_ (.sent 16)) at_ 16 = some true := is_fault (by decide) rfl (by decide) at_
theorem is_kind (at_ : Int) : m_eponymlaw01_Is (.box 51 at_ (.sent 17)) at_ 17 = some true := is_fault (by decide) rfl (by decide) at_
theorem is_full (at_ : Int) : m_eponymlaw01_Is (.box 51 at_ (.sent 18)) at_ 18 = some true := is_fault (by decide) rfl (by decide) at_
theorem bindTot {α β : Type} {m : Option α} {f : α → Option β} (h : ∃ x, m = some x) (k : ∀ x, ∃ y, f x = some y) : ∃ y, Option.bind m f = some y := by
  obtain ⟨x, rfl⟩ := h; exact k x
theorem tot1 {α : Type} (a : Bool) (c d : α) : ∃ x, (bif a then some c else some d) = some x := by cases a <;> exact ⟨_, rfl⟩
theorem tot2 {α : Type} (a b : Bool) (c d e : α) : ∃ x, (bif a then bif b then some c else some d else some e) = some x := by cases a <;> cases b <;> exact ⟨_, rfl⟩
theorem tot2' {α : Type} (a b : Bool) (c e : α) : ∃ x, (bif a then bif b then some c else some e else some e) = some x := tot2 a b c e e
theorem condTot {α : Type} (a : Bool) {m n : Option α} (h : ∃ x, m = some x) (k : ∃ x, n = some x) : ∃ x, (bif a then m else n) = some x := by cases a <;> first | exact k | exact h
theorem value_loop (s : ByteArray) (hs : s.size ≤ 1000000) : ∀ (k i : Nat) (r : Int), i + k = s.size → ∃ z, iter (m_eponymref01_value_L13 s) (r, (i : Int)) = some z := by
  intro k
  induction k with
  | zero =>
    intro i r hi
    refine ⟨.inl r, iter_done ?_⟩
    unfold m_eponymref01_value_L13
    simp only
    rw [decide_eq_false (by omega)]; rfl
  | succ k ih =>
    intro i r hi
    have e : ∃ b : Bool, m_eponymref01_value_L13 s (r, (i : Int)) = m_eponymref01_value_K16 s (r, (i : Int)) b := by
      unfold m_eponymref01_value_L13
      simp only
      rw [decide_eq_true (by omega), cond_true, if_pos ⟨by omega, by omega⟩, if_pos ⟨by omega, by omega⟩]
      cases decide (bt s (i : Int) < 128) <;> exact ⟨_, rfl⟩
    obtain ⟨b, e⟩ := e
    cases b with
    | true => exact ⟨_, iter_done (e.trans rfl)⟩
    | false =>
      have e2 : ∃ r', m_eponymref01_value_K16 s (r, (i : Int)) false = some (.next (r', ((i + 1 : Nat) : Int))) := by
        unfold m_eponymref01_value_K16
        simp only
        rw [cond_false, if_pos ⟨by omega, by omega⟩, up (by omega)]
        exact ⟨_, rfl⟩
      obtain ⟨r', e2⟩ := e2
      obtain ⟨z, hz⟩ := ih (i + 1) r' (by omega)
      exact ⟨z, by rw [iter_next (e.trans e2)]; exact hz⟩
theorem value_total (s : ByteArray) (h0 : 0 < s.size) (hs : s.size ≤ 1000000) : ∃ y, m_eponymref01_value s = some y := by
  have k8 : ∀ r, ∃ y, m_eponymref01_value_K8 s r = some y := fun r => by
    unfold m_eponymref01_value_K8
    refine condTot _ ⟨_, rfl⟩ (bindTot (by rw [show (1 : Int) = ((1 : Nat) : Int) from rfl]; exact value_loop s hs (s.size - 1) 1 r (by omega)) fun z => ?_)
    cases z <;> exact ⟨_, rfl⟩
  have k6 : ∀ r, ∃ y, m_eponymref01_value_K6 s r = some y := fun r => by
    unfold m_eponymref01_value_K6
    exact bindTot (bindTot (tot2 _ _ _ _ _) fun b => by unfold m_eponymref01_value_K21; exact tot1 _ _ _) k8
  have k4 : ∀ r, ∃ y, m_eponymref01_value_K4 s r = some y := fun r => by
    unfold m_eponymref01_value_K4
    exact bindTot (bindTot (tot2 _ _ _ _ _) fun b => by unfold m_eponymref01_value_K23; exact tot1 _ _ _) k6
  unfold m_eponymref01_value
  rw [if_pos ⟨by omega, by omega⟩]
  refine bindTot (tot1 _ _ _) fun b => ?_
  unfold m_eponymref01_value_K2
  exact condTot _ ⟨_, rfl⟩ (bindTot (bindTot (tot2 _ _ _ _ _) fun b => by unfold m_eponymref01_value_K25; exact tot1 _ _ _) k4)
theorem some_total (a b n : Int) : ∃ y, m_eponymref01_some a b n = some y := by
  unfold m_eponymref01_some
  refine bindTot (tot1 _ _ _) fun s1 => ?_
  unfold m_eponymref01_some_K2
  refine bindTot (tot1 _ _ _) fun s3 => ?_
  unfold m_eponymref01_some_K4
  refine bindTot (tot1 _ _ _) fun s5 => ?_
  unfold m_eponymref01_some_K6
  refine bindTot (tot1 _ _ _) fun s7 => ?_
  unfold m_eponymref01_some_K8
  refine bindTot (tot1 _ _ _) fun s9 => ?_
  unfold m_eponymref01_some_K10
  exact tot1 _ _ _
theorem uRight_total (r : Int) : ∃ y, m_eponymref01_Right r = some y := by
  unfold m_eponymref01_Right
  exact condTot _ (condTot _ (tot1 _ _ _) ⟨_, rfl⟩) ⟨_, rfl⟩
theorem form_total (r : Int) : ∃ y, m_eponymref01_Form r = some y := by
  unfold m_eponymref01_Form
  exact condTot _ ⟨_, rfl⟩ (condTot _ ⟨_, rfl⟩ (tot1 _ _ _))
theorem ext_size (s : ByteArray) (a b : Nat) (h : a ≤ b) (hb : b ≤ s.size) : (s.extract a b).size = b - a := by
  rw [ByteArray.size_extract]; omega
theorem next_loop (s : ByteArray) (hs : s.size ≤ 100000) (at_ : Nat) (ha : at_ ≤ s.size) : ∀ (k n : Nat), n + k = 5 → 1 ≤ n → ∃ z, iter (m_eponymref01_Next_L29 s (at_ : Int)) (n : Int) = some z ∧ ∀ v, z = .inr v → v.2.2 = 0 ∧ 1 ≤ v.2.1 ∧ v.2.1 ≤ 4 := by
  intro k
  induction k with
  | zero =>
    intro n hn h1
    refine ⟨.inl (), iter_done ?_, fun v h => by cases h⟩
    unfold m_eponymref01_Next_L29 m_eponymref01_Next_K32
    rw [decide_eq_false (by omega)]; rfl
  | succ k ih =>
    intro n hn h1
    have hw : IntKind.wrap .i64 ((at_ : Int) + (n : Int)) = ((at_ + n : Nat) : Int) := by rw [w64 (by omega) (by omega)]; omega
    by_cases hle : at_ + n ≤ s.size
    · have e : ∃ (b : Bool) (y : Int), m_eponymref01_Next_L29 s (at_ : Int) (n : Int) = m_eponymref01_Next_K35 (n : Int) y b := by
        unfold m_eponymref01_Next_L29 m_eponymref01_Next_K32
        rw [decide_eq_true (show (n : Int) ≤ 4 by omega), cond_true, hw, decide_eq_true (by omega), bind_some', cond_true, if_pos ⟨by omega, by omega, by omega⟩]
        simp only [Int.toNat_natCast]
        obtain ⟨y, hy⟩ := value_total (s.extract at_ (at_ + n)) (by rw [ext_size _ _ _ (by omega) hle]; omega) (by rw [ext_size _ _ _ (by omega) hle]; omega)
        rw [hy, bind_some']
        obtain ⟨b, hb⟩ : ∃ b, (bif decide (y ≥ 0) then Option.bind (m_eponymref01_Right y) fun y36 => bif y36 then Option.bind (m_eponymref01_Form y) fun y37 =>
            if 0 ≤ (at_ : Int) ∧ (at_ : Int) ≤ ((at_ + n : Nat) : Int) ∧ ((at_ + n : Nat) : Int) ≤ ((s.size : Nat) : Int) then some (y37.toList == (s.extract at_ (at_ + n)).toList) else none
            else some false else some false : Option Bool) = some b := by
          refine condTot _ (bindTot (uRight_total y) fun y36 => condTot _ (bindTot (form_total y) fun y37 => ?_) ⟨_, rfl⟩) ⟨_, rfl⟩
          rw [if_pos ⟨by omega, by omega, by omega⟩]
          exact ⟨_, rfl⟩
        exact ⟨b, y, by rw [hb]; rfl⟩
      obtain ⟨b, y, e⟩ := e
      cases b with
      | true => exact ⟨_, iter_done (e.trans rfl), fun v h => by cases h; exact ⟨rfl, by simp only; omega, by simp only; omega⟩⟩
      | false =>
        obtain ⟨z, hz, hp⟩ := ih (n + 1) (by omega) (by omega)
        refine ⟨z, ?_, hp⟩
        rw [iter_next (s' := ((n + 1 : Nat) : Int)) (e.trans (by unfold m_eponymref01_Next_K35; rw [up (by omega)]; rfl))]
        exact hz
    · refine ⟨.inl (), iter_done ?_, fun v h => by cases h⟩
      unfold m_eponymref01_Next_L29 m_eponymref01_Next_K32
      rw [decide_eq_true (show (n : Int) ≤ 4 by omega), cond_true, hw, decide_eq_false (by omega)]; rfl
theorem pad_loop (n : Nat) (hn : n ≤ 4) : ∀ (k : Nat) (a b : ByteArray), n - a.size ≤ k → a.size = b.size → a.size ≤ 100000 → ∃ z : ByteArray × ByteArray, iter (m_eponymref01_Next_L20 (n : Int)) (a, b) = some z ∧ n ≤ z.1.size ∧ z.1.size = z.2.size ∧ z.1.size ≤ 100004 := by
  intro k
  induction k with
  | zero =>
    intro a b hk hab hs
    refine ⟨(a, b), iter_done ?_, by simp only; omega, hab, by simp only; omega⟩
    unfold m_eponymref01_Next_L20
    simp only
    rw [decide_eq_false (by omega)]; rfl
  | succ k ih =>
    intro a b hk hab hs
    by_cases hlt : a.size < n
    · have s1 : (a ++ ByteArray.mk #[128]).size = a.size + 1 := by rw [ByteArray.size_append]; rfl
      have s2 : (b ++ ByteArray.mk #[191]).size = b.size + 1 := by rw [ByteArray.size_append]; rfl
      obtain ⟨z, hz, h1, h2, h3⟩ := ih (a ++ ByteArray.mk #[128]) (b ++ ByteArray.mk #[191]) (by omega) (by omega) (by omega)
      refine ⟨z, ?_, h1, h2, h3⟩
      rw [iter_next (s' := (a ++ ByteArray.mk #[128], b ++ ByteArray.mk #[191]))]
      · exact hz
      · unfold m_eponymref01_Next_L20
        simp only
        have o : (ByteArray.mk #[128]).size = 1 := rfl
        have o' : (ByteArray.mk #[191]).size = 1 := rfl
        rw [decide_eq_true (by omega), cond_true, if_pos (by omega), if_pos (by omega)]
    · refine ⟨(a, b), iter_done ?_, by simp only; omega, hab, by simp only; omega⟩
      unfold m_eponymref01_Next_L20
      simp only
      rw [decide_eq_false (by omega)]; rfl
theorem rest_loop (s : ByteArray) (hs : s.size ≤ 100000) (at_ : Nat) (ha : at_ ≤ s.size) : ∀ (k n : Nat), 5 - n ≤ k → 1 ≤ n → n ≤ 200000 → ∃ z, iter (m_eponymref01_Next_L7 s (at_ : Int)) (n : Int) = some z ∧ ∀ v, z = .inr v → v.2.2 = 2 := by
  intro k
  induction k with
  | zero =>
    intro n hn h1 hb
    refine ⟨.inl (), iter_done ?_, fun v h => by cases h⟩
    unfold m_eponymref01_Next_L7
    rw [decide_eq_false (by omega)]; rfl
  | succ k ih =>
    intro n hn h1 hb
    by_cases h4 : n ≤ 4
    · have hsz : (s.extract at_ s.size).size = s.size - at_ := ext_size _ _ _ ha (Nat.le_refl _)
      obtain ⟨z, hz, z1, z2, z3⟩ := pad_loop n h4 4 (s.extract at_ s.size) (s.extract at_ s.size) (by omega) rfl (by omega)
      have e : ∃ b : Bool, m_eponymref01_Next_L7 s (at_ : Int) (n : Int) = (match (if b = true then Sum.inr (0, 0, 2) else .inl () : Sum Unit (Int × Int × Int)) with | .inl _ => some (.next ((n + 1 : Nat) : Int)) | .inr v => some (.done (.inr (v.1, v.2.1, v.2.2)))) := by
        unfold m_eponymref01_Next_L7
        rw [decide_eq_true (by omega), cond_true]
        simp only [Int.toNat_natCast]
        rw [hz, bind_some', up (by omega)]
        unfold m_eponymref01_Next_K12
        obtain ⟨y1, hy1⟩ := value_total z.1 (by omega) (by omega)
        obtain ⟨y2, hy2⟩ := value_total z.2 (by omega) (by omega)
        obtain ⟨b, hbb⟩ : ∃ b, (bif decide (y1 ≥ 0) then bif decide (y2 ≥ 0) then Option.bind (m_eponymref01_some y1 y2 (n : Int)) fun y17 => some y17 else some false else some false : Option Bool) = some b :=
          condTot _ (condTot _ (bindTot (some_total y1 y2 n) fun y => ⟨_, rfl⟩) ⟨_, rfl⟩) ⟨_, rfl⟩
        refine ⟨b, ?_⟩
        simp only [hy1, hy2, bind_some', hbb]
        cases b <;> rfl
      obtain ⟨b, e⟩ := e
      cases b with
      | true => exact ⟨.inr (0, 0, 2), iter_done (e.trans rfl), fun v h => by cases h; rfl⟩
      | false =>
        obtain ⟨z', hz', hp⟩ := ih (n + 1) (by omega) (by omega) (by omega)
        exact ⟨z', by rw [iter_next (e.trans rfl)]; exact hz', hp⟩
    · refine ⟨.inl (), iter_done ?_, fun v h => by cases h⟩
      unfold m_eponymref01_Next_L7
      rw [decide_eq_false (by omega)]; rfl
theorem next_total (s : ByteArray) (hs : s.size ≤ 100000) (at_ : Nat) (ha : at_ ≤ s.size) : ∃ y, m_eponymref01_Next s (at_ : Int) = some y ∧ (y.2.2 = 0 → 1 ≤ y.2.1 ∧ y.2.1 ≤ 4) := by
  unfold m_eponymref01_Next
  obtain ⟨z, hz, hp⟩ := next_loop s hs at_ ha 4 1 (by omega) (by omega)
  rw [show (1 : Int) = ((1 : Nat) : Int) from rfl, hz, bind_some']
  cases z with
  | inr v => exact ⟨_, rfl, fun _ => (hp v rfl).2⟩
  | inl u =>
    simp only
    unfold m_eponymref01_Next_K2
    have hsz : (s.extract at_ s.size).size = s.size - at_ := ext_size _ _ _ ha (Nat.le_refl _)
    rw [if_pos ⟨by omega, by omega, by omega⟩, Int.toNat_natCast, up (by omega)]
    obtain ⟨z', hz', hp'⟩ := rest_loop s hs at_ ha 4 ((s.extract at_ s.size).size + 1) (by omega) (by omega) (by omega)
    rw [hz', bind_some']
    cases z' with
    | inl u => exact ⟨_, rfl, fun h => by simp at h⟩
    | inr v => exact ⟨_, rfl, fun h => by have := hp' v rfl; simp only at h; omega⟩
theorem decode_total (s : ByteArray) (hs : s.size ≤ 100000) : ∃ y, m_eponymref01_Decode s = some y := by
  unfold m_eponymref01_Decode
  have key : ∀ (k at_ : Nat) (out : List Int), s.size - at_ ≤ k → at_ ≤ s.size + 4 → out.length ≤ at_ → ∃ z, iter (m_eponymref01_Decode_L5 s) (out, (at_ : Int)) = some z := by
    intro k
    induction k with
    | zero =>
      intro at_ out hk ha ho
      refine ⟨.inl out, iter_done ?_⟩
      unfold m_eponymref01_Decode_L5
      simp only
      rw [decide_eq_false (by omega)]; rfl
    | succ k ih =>
      intro at_ out hk ha ho
      by_cases hlt : at_ < s.size
      · obtain ⟨y, hy, hn⟩ := next_total s hs at_ (by omega)
        by_cases h0 : y.2.2 = 0
        · obtain ⟨n1, n2⟩ := hn h0
          obtain ⟨m, hm⟩ : ∃ m : Nat, y.2.1 = m := ⟨y.2.1.toNat, by omega⟩
          obtain ⟨z, hz⟩ := ih (at_ + m) (out ++ [y.1]) (by omega) (by omega) (by simp; omega)
          refine ⟨z, ?_⟩
          rw [iter_next (s' := (out ++ [y.1], ((at_ + m : Nat) : Int)))]
          · exact hz
          · unfold m_eponymref01_Decode_L5
            simp only
            rw [decide_eq_true (by omega), cond_true, hy, bind_some', h0, hm, show ((0 : Int) != 0) = false by decide, cond_false, if_pos (by omega), w64 (by omega) (by omega)]
            rfl
        · refine ⟨.inr ([], (at_ : Int), y.2.2), iter_done ?_⟩
          unfold m_eponymref01_Decode_L5
          simp only
          rw [decide_eq_true (by omega), cond_true, hy, bind_some', bne_iff_ne.2 h0]; rfl
      · refine ⟨.inl out, iter_done ?_⟩
        unfold m_eponymref01_Decode_L5
        simp only
        rw [decide_eq_false (by omega)]; rfl
  refine bindTot (key s.size 0 [] (by omega) (by omega) (by simp)) fun z => ?_
  cases z <;> exact ⟨_, rfl⟩
theorem bt_lo (s : ByteArray) (i : Int) : 0 ≤ bt s i := by unfold bt; omega
theorem bt_hi (s : ByteArray) (i : Int) : bt s i ≤ 255 := by
  unfold bt
  have := (s.data.toList.getD i.toNat 0).toNat_lt
  omega
theorem bt_ext (s : ByteArray) (a b i : Nat) (hi : a + i < b) (hb : b ≤ s.size) : bt (s.extract a b) (i : Int) = bt s ((a + i : Nat) : Int) := by
  unfold bt
  simp only [Int.toNat_natCast, ByteArray.data_extract, List.getD_eq_getElem?_getD, Array.getElem?_toList]
  rw [Array.getElem?_extract, if_pos]
  have : s.data.size = s.size := ByteArray.size_data
  omega
theorem bt_app_lo (a b : ByteArray) (i : Nat) (hi : i < a.size) : bt (a ++ b) (i : Int) = bt a (i : Int) := by
  unfold bt
  simp only [Int.toNat_natCast, ByteArray.data_append, List.getD_eq_getElem?_getD, Array.getElem?_toList]
  rw [Array.getElem?_append, if_pos]
  have : a.data.size = a.size := ByteArray.size_data
  omega
theorem bt_app_hi (a b : ByteArray) (i : Nat) : bt (a ++ b) ((a.size + i : Nat) : Int) = bt b (i : Int) := by
  unfold bt
  simp only [Int.toNat_natCast, ByteArray.data_append, List.getD_eq_getElem?_getD, Array.getElem?_toList]
  have : a.data.size = a.size := ByteArray.size_data
  rw [Array.getElem?_append, if_neg (by omega), this, Nat.add_sub_cancel_left]
theorem v_end {s : ByteArray} {r : Int} {i : Nat} (hi : s.size ≤ i) : iter (m_eponymref01_value_L13 s) (r, (i : Int)) = some (.inl r) := by
  refine iter_done ?_
  unfold m_eponymref01_value_L13
  simp only
  rw [decide_eq_false (by omega)]; rfl
theorem v_step {s : ByteArray} {r : Int} {i : Nat} (hi : i < s.size) (hs : s.size ≤ 1000000) (h0 : 0 ≤ r) (h1 : r ≤ 8388607) :
    iter (m_eponymref01_value_L13 s) (r, (i : Int)) = if bt s (i : Int) < 128 ∨ 191 < bt s (i : Int) then some (.inr (-1)) else iter (m_eponymref01_value_L13 s) (r * 64 + bt s (i : Int) - 128, ((i + 1 : Nat) : Int)) := by
  have b0 := bt_lo s (i : Int)
  have b1 := bt_hi s (i : Int)
  have e : m_eponymref01_value_L13 s (r, (i : Int)) = m_eponymref01_value_K16 s (r, (i : Int)) (decide (bt s (i : Int) < 128 ∨ 191 < bt s (i : Int))) := by
    unfold m_eponymref01_value_L13
    simp only
    rw [decide_eq_true (by omega), cond_true, if_pos ⟨by omega, by omega⟩, if_pos ⟨by omega, by omega⟩]
    by_cases h : bt s (i : Int) < 128
    · rw [decide_eq_true h, decide_eq_true (Or.inl h)]; rfl
    · rw [decide_eq_false h]
      by_cases h' : 191 < bt s (i : Int)
      · rw [decide_eq_true (Or.inr h'), decide_eq_true (show bt s (i : Int) > 191 from h')]; rfl
      · rw [decide_eq_false (show ¬ bt s (i : Int) > 191 from h'), decide_eq_false (by omega)]; rfl
  by_cases h : bt s (i : Int) < 128 ∨ 191 < bt s (i : Int)
  · rw [if_pos h]
    rw [decide_eq_true h] at e
    exact iter_done (e.trans rfl)
  · rw [if_neg h]
    rw [decide_eq_false h] at e
    rw [iter_next (e.trans ?_)]
    unfold m_eponymref01_value_K16
    simp only
    rw [cond_false, if_pos ⟨by omega, by omega⟩, w32 (x := r * 64) (by omega) (by omega), w32 (x := bt s (i : Int)) (by omega) (by omega), w32 (x := r * 64 + bt s (i : Int)) (by omega) (by omega), w32 (by omega) (by omega), up (by omega)]
/-- What n bytes stand for; -1: nothing. -/
def valS (n : Nat) (g : Nat → Int) : Int :=
  if n = 1 then (if g 0 < 128 then g 0 else -1)
  else if n = 2 then (if 192 ≤ g 0 ∧ g 0 < 224 ∧ 128 ≤ g 1 ∧ g 1 ≤ 191 then (g 0 - 192) * 64 + g 1 - 128 else -1)
  else if n = 3 then (if 224 ≤ g 0 ∧ g 0 < 240 ∧ (128 ≤ g 1 ∧ g 1 ≤ 191) ∧ 128 ≤ g 2 ∧ g 2 ≤ 191 then ((g 0 - 224) * 64 + g 1 - 128) * 64 + g 2 - 128 else -1)
  else (if 240 ≤ g 0 ∧ g 0 < 248 ∧ (128 ≤ g 1 ∧ g 1 ≤ 191) ∧ (128 ≤ g 2 ∧ g 2 ≤ 191) ∧ 128 ≤ g 3 ∧ g 3 ≤ 191 then (((g 0 - 240) * 64 + g 1 - 128) * 64 + g 2 - 128) * 64 + g 3 - 128 else -1)
theorem valS1 (g : Nat → Int) : valS 1 g = if g 0 < 128 then g 0 else -1 := rfl
theorem valS2 (g : Nat → Int) : valS 2 g = if 192 ≤ g 0 ∧ g 0 < 224 ∧ 128 ≤ g 1 ∧ g 1 ≤ 191 then (g 0 - 192) * 64 + g 1 - 128 else -1 := rfl
theorem valS3 (g : Nat → Int) : valS 3 g = if 224 ≤ g 0 ∧ g 0 < 240 ∧ (128 ≤ g 1 ∧ g 1 ≤ 191) ∧ 128 ≤ g 2 ∧ g 2 ≤ 191 then ((g 0 - 224) * 64 + g 1 - 128) * 64 + g 2 - 128 else -1 := rfl
theorem valS4 (g : Nat → Int) : valS 4 g = if 240 ≤ g 0 ∧ g 0 < 248 ∧ (128 ≤ g 1 ∧ g 1 ≤ 191) ∧ (128 ≤ g 2 ∧ g 2 ≤ 191) ∧ 128 ≤ g 3 ∧ g 3 ≤ 191 then (((g 0 - 240) * 64 + g 1 - 128) * 64 + g 2 - 128) * 64 + g 3 - 128 else -1 := rfl
theorem k8_end (s : ByteArray) (r : Int) (h : s.size ≤ 1) (h0 : 0 ≤ r) : m_eponymref01_value_K8 s r = some r := by
  unfold m_eponymref01_value_K8
  rw [decide_eq_false (by omega), cond_false, show (1 : Int) = ((1 : Nat) : Int) from rfl, v_end h]; rfl
theorem value_eq (s : ByteArray) (g : Nat → Int) (hg : ∀ i : Nat, g i = bt s ((i : Nat) : Int)) (h1 : 1 ≤ s.size) (h4 : s.size ≤ 4) : m_eponymref01_value s = some (valS s.size g) := by
  have b0 := bt_lo s 0
  have b1 := bt_hi s 0
  have e0 : bt s ((0 : Nat) : Int) = bt s 0 := rfl
  have e2 : g 2 = bt s ((1 + 1 : Nat) : Int) := hg 2
  have e3 : g 3 = bt s ((1 + 1 + 1 : Nat) : Int) := hg 3
  unfold m_eponymref01_value
  rw [if_pos ⟨by omega, by omega⟩, w32 (x := bt s 0) (by omega) (by omega)]
  have c : s.size = 1 ∨ s.size = 2 ∨ s.size = 3 ∨ s.size = 4 := by omega
  have neg : ∀ r, r < 0 → m_eponymref01_value_K8 s r = some (-1) := fun r h => by
    unfold m_eponymref01_value_K8
    rw [decide_eq_true h]; rfl
  have pos : ∀ r, 0 ≤ r → m_eponymref01_value_K8 s r = Option.bind (iter (m_eponymref01_value_L13 s) (r, ((1 : Nat) : Int)) : Option (Sum Int Int)) fun z => match z with | .inl s9 => some s9 | .inr v19 => some v19 := fun r h => by
    unfold m_eponymref01_value_K8
    rw [decide_eq_false (by omega), cond_false]; rfl
  rcases c with c | c | c | c
  · rw [c, show (((1 : Nat) : Int) == 1) = true from rfl, cond_true, bind_some']
    unfold m_eponymref01_value_K2
    rw [w32 (x := bt s 0) (by omega) (by omega)]
    by_cases h : bt s 0 < 128
    · rw [decide_eq_true h, cond_true]; rw [valS1, hg 0, e0, if_pos h]
    · rw [decide_eq_false h, cond_false, c, show (((1 : Nat) : Int) == 2) = false from rfl, cond_false, bind_some']
      unfold m_eponymref01_value_K25
      rw [cond_false, bind_some']
      unfold m_eponymref01_value_K4
      rw [c, show (((1 : Nat) : Int) == 3) = false from rfl, cond_false, bind_some']
      unfold m_eponymref01_value_K23
      rw [cond_false, bind_some']
      unfold m_eponymref01_value_K6
      rw [c, show (((1 : Nat) : Int) == 4) = false from rfl, cond_false, bind_some']
      unfold m_eponymref01_value_K21
      rw [cond_false, bind_some', neg _ (by omega)]
      rw [valS1, hg 0, e0, if_neg h]
  · rw [c, show (((2 : Nat) : Int) == 1) = false from rfl, cond_false, bind_some']
    unfold m_eponymref01_value_K2
    rw [cond_false, c, show (((2 : Nat) : Int) == 2) = true from rfl, cond_true, w32 (x := bt s 0) (by omega) (by omega)]
    have m0 : (bif decide (bt s 0 ≥ 192) then some (decide (bt s 0 < 224)) else some false) = some (decide (192 ≤ bt s 0 ∧ bt s 0 < 224)) := by
      by_cases h : bt s 0 ≥ 192
      · rw [decide_eq_true h, cond_true]
        by_cases h' : bt s 0 < 224
        · rw [decide_eq_true h', decide_eq_true ⟨h, h'⟩]
        · rw [decide_eq_false h', decide_eq_false (by omega)]
      · rw [decide_eq_false h, cond_false, decide_eq_false (by omega)]
    rw [m0, bind_some']
    have rest : ∀ r, m_eponymref01_value_K4 s r = m_eponymref01_value_K8 s r := fun r => by
      unfold m_eponymref01_value_K4
      rw [c, show (((2 : Nat) : Int) == 3) = false from rfl, cond_false, bind_some']
      unfold m_eponymref01_value_K23
      rw [cond_false, bind_some']
      unfold m_eponymref01_value_K6
      rw [c, show (((2 : Nat) : Int) == 4) = false from rfl, cond_false, bind_some']
      unfold m_eponymref01_value_K21
      rw [cond_false, bind_some']
    have g1 := bt_lo s ((1 : Nat) : Int)
    have g2 := bt_hi s ((1 : Nat) : Int)
    by_cases h : 192 ≤ bt s 0 ∧ bt s 0 < 224
    · rw [decide_eq_true h]
      unfold m_eponymref01_value_K25
      rw [cond_true, bind_some', w32 (x := bt s 0) (by omega) (by omega), w32 (by omega) (by omega), rest, pos _ (by omega), v_step (by omega) (by omega) (by omega) (by omega)]
      rw [valS2, hg 0, hg 1, e0]
      by_cases hc6 : bt s ((1 : Nat) : Int) < 128 ∨ 191 < bt s ((1 : Nat) : Int)
      · rw [if_pos hc6, if_neg (by omega)]; rfl
      · rw [if_neg hc6, if_pos (by omega), v_end (by omega)]; rfl
    · rw [decide_eq_false h]
      unfold m_eponymref01_value_K25
      rw [cond_false, bind_some', rest, neg _ (by omega)]
      rw [valS2, hg 0, hg 1, e0, if_neg (by omega)]
  · rw [c, show (((3 : Nat) : Int) == 1) = false from rfl, cond_false, bind_some']
    unfold m_eponymref01_value_K2
    rw [cond_false, c, show (((3 : Nat) : Int) == 2) = false from rfl, cond_false, bind_some']
    unfold m_eponymref01_value_K25
    rw [cond_false, bind_some']
    unfold m_eponymref01_value_K4
    rw [c, show (((3 : Nat) : Int) == 3) = true from rfl, cond_true, w32 (x := bt s 0) (by omega) (by omega)]
    have m0 : (bif decide (bt s 0 ≥ 224) then some (decide (bt s 0 < 240)) else some false) = some (decide (224 ≤ bt s 0 ∧ bt s 0 < 240)) := by
      by_cases h : bt s 0 ≥ 224
      · rw [decide_eq_true h, cond_true]
        by_cases h' : bt s 0 < 240
        · rw [decide_eq_true h', decide_eq_true ⟨h, h'⟩]
        · rw [decide_eq_false h', decide_eq_false (by omega)]
      · rw [decide_eq_false h, cond_false, decide_eq_false (by omega)]
    rw [m0, bind_some']
    have rest : ∀ r, m_eponymref01_value_K6 s r = m_eponymref01_value_K8 s r := fun r => by
      unfold m_eponymref01_value_K6
      rw [c, show (((3 : Nat) : Int) == 4) = false from rfl, cond_false, bind_some']
      unfold m_eponymref01_value_K21
      rw [cond_false, bind_some']
    have g1 := bt_lo s ((1 : Nat) : Int)
    have g2 := bt_hi s ((1 : Nat) : Int)
    have k1 := bt_lo s ((1 + 1 : Nat) : Int)
    have k2 := bt_hi s ((1 + 1 : Nat) : Int)
    by_cases h : 224 ≤ bt s 0 ∧ bt s 0 < 240
    · rw [decide_eq_true h]
      unfold m_eponymref01_value_K23
      rw [cond_true, bind_some', w32 (x := bt s 0) (by omega) (by omega), w32 (by omega) (by omega), rest, pos _ (by omega), v_step (by omega) (by omega) (by omega) (by omega)]
      rw [valS3, hg 0, hg 1, e2, e0]
      by_cases hc6 : bt s ((1 : Nat) : Int) < 128 ∨ 191 < bt s ((1 : Nat) : Int)
      · rw [if_pos hc6, if_neg (by omega)]; rfl
      · rw [if_neg hc6, v_step (by omega) (by omega) (by omega) (by omega)]
        by_cases hc8 : bt s ((1 + 1 : Nat) : Int) < 128 ∨ 191 < bt s ((1 + 1 : Nat) : Int)
        · rw [if_pos hc8, if_neg (by omega)]; rfl
        · rw [if_neg hc8, if_pos (by omega), v_end (by omega)]; rfl
    · rw [decide_eq_false h]
      unfold m_eponymref01_value_K23
      rw [cond_false, bind_some', rest, neg _ (by omega)]
      rw [valS3, hg 0, hg 1, e2, e0, if_neg (by omega)]
  · rw [c, show (((4 : Nat) : Int) == 1) = false from rfl, cond_false, bind_some']
    unfold m_eponymref01_value_K2
    rw [cond_false, c, show (((4 : Nat) : Int) == 2) = false from rfl, cond_false, bind_some']
    unfold m_eponymref01_value_K25
    rw [cond_false, bind_some']
    unfold m_eponymref01_value_K4
    rw [c, show (((4 : Nat) : Int) == 3) = false from rfl, cond_false, bind_some']
    unfold m_eponymref01_value_K23
    rw [cond_false, bind_some']
    unfold m_eponymref01_value_K6
    rw [c, show (((4 : Nat) : Int) == 4) = true from rfl, cond_true, w32 (x := bt s 0) (by omega) (by omega)]
    have m0 : (bif decide (bt s 0 ≥ 240) then some (decide (bt s 0 < 248)) else some false) = some (decide (240 ≤ bt s 0 ∧ bt s 0 < 248)) := by
      by_cases h : bt s 0 ≥ 240
      · rw [decide_eq_true h, cond_true]
        by_cases h' : bt s 0 < 248
        · rw [decide_eq_true h', decide_eq_true ⟨h, h'⟩]
        · rw [decide_eq_false h', decide_eq_false (by omega)]
      · rw [decide_eq_false h, cond_false, decide_eq_false (by omega)]
    rw [m0, bind_some']
    have g1 := bt_lo s ((1 : Nat) : Int)
    have g2 := bt_hi s ((1 : Nat) : Int)
    have k1 := bt_lo s ((1 + 1 : Nat) : Int)
    have k2 := bt_hi s ((1 + 1 : Nat) : Int)
    have q1 := bt_lo s ((1 + 1 + 1 : Nat) : Int)
    have q2 := bt_hi s ((1 + 1 + 1 : Nat) : Int)
    by_cases h : 240 ≤ bt s 0 ∧ bt s 0 < 248
    · rw [decide_eq_true h]
      unfold m_eponymref01_value_K21
      rw [cond_true, bind_some', w32 (x := bt s 0) (by omega) (by omega), w32 (by omega) (by omega), pos _ (by omega), v_step (by omega) (by omega) (by omega) (by omega)]
      rw [valS4, hg 0, hg 1, e2, e3, e0]
      by_cases hc6 : bt s ((1 : Nat) : Int) < 128 ∨ 191 < bt s ((1 : Nat) : Int)
      · rw [if_pos hc6, if_neg (by omega)]; rfl
      · rw [if_neg hc6, v_step (by omega) (by omega) (by omega) (by omega)]
        by_cases hc8 : bt s ((1 + 1 : Nat) : Int) < 128 ∨ 191 < bt s ((1 + 1 : Nat) : Int)
        · rw [if_pos hc8, if_neg (by omega)]; rfl
        · rw [if_neg hc8, v_step (by omega) (by omega) (by omega) (by omega)]
          by_cases hc10 : bt s ((1 + 1 + 1 : Nat) : Int) < 128 ∨ 191 < bt s ((1 + 1 + 1 : Nat) : Int)
          · rw [if_pos hc10, if_neg (by omega)]; rfl
          · rw [if_neg hc10, if_pos (by omega), v_end (by omega)]; rfl
    · rw [decide_eq_false h]
      unfold m_eponymref01_value_K21
      rw [cond_false, bind_some', neg _ (by omega)]
      rw [valS4, hg 0, hg 1, e2, e3, e0, if_neg (by omega)]
theorem wu8 {x : Int} (h : 0 ≤ x) (h' : x ≤ 255) : IntKind.wrap .u8 x = x := by
  have e1 : (IntKind.u8).bits = 8 := rfl
  have e2 : (IntKind.u8).signed = false := rfl
  simp only [IntKind.wrap, e1, e2, Bool.false_and]
  simp
  omega
theorem strNums_list (l : List Int) : (strOfNums l).toList = l.map fun n => UInt8.ofNat n.toNat := by
  rw [ByteArray.toList_eq, strOfNums_data]
theorem bt_byte (e : ByteArray) (i : Nat) (hi : i < e.size) : e.data.toList[i]? = some (UInt8.ofNat (bt e (i : Int)).toNat) := by
  have hlt : i < e.data.toList.length := by rw [Array.length_toList, ByteArray.size_data]; exact hi
  unfold bt
  simp only [Int.toNat_natCast]
  rw [List.getD_eq_getElem?_getD, List.getElem?_eq_getElem hlt]
  simp
/-- Two texts byte by byte. -/
theorem strEq (l : List Int) (h : ∀ x ∈ l, 0 ≤ x ∧ x ≤ 255) (e : ByteArray) : ((strOfNums l).toList == e.toList) = decide (l.length = e.size ∧ ∀ i, i < l.length → l.getD i 0 = bt e ((i : Nat) : Int)) := by
  rw [Bool.eq_iff_iff, beq_iff_eq, decide_eq_true_eq, strNums_list, ByteArray.toList_eq]
  constructor
  · intro he
    have hl : l.length = e.size := by
      have := congrArg List.length he
      have h2 : e.data.toList.length = e.size := by rw [Array.length_toList, ByteArray.size_data]
      rw [List.length_map, h2] at this
      exact this
    refine ⟨hl, fun i hi => ?_⟩
    have h1 := congrArg (fun q => q[i]?) he
    simp only [List.getElem?_map] at h1
    rw [bt_byte e i (by omega), List.getElem?_eq_getElem hi, Option.map_some] at h1
    have h2 := h l[i] (List.getElem_mem hi)
    have b0 := bt_lo e (i : Int)
    have b1 := bt_hi e (i : Int)
    have h3 := congrArg UInt8.toNat (Option.some.inj h1)
    rw [UInt8.toNat_ofNat', UInt8.toNat_ofNat', Nat.mod_eq_of_lt (by omega), Nat.mod_eq_of_lt (by omega)] at h3
    rw [List.getD_eq_getElem?_getD, List.getElem?_eq_getElem hi, Option.getD_some]
    omega
  · rintro ⟨hl, hg⟩
    apply List.ext_getElem?
    intro i
    by_cases hi : i < l.length
    · rw [List.getElem?_map, bt_byte e i (by omega), List.getElem?_eq_getElem hi, Option.map_some]
      have := hg i hi
      rw [List.getD_eq_getElem?_getD, List.getElem?_eq_getElem hi, Option.getD_some] at this
      rw [this]
    · rw [List.getElem?_eq_none (by simpa using hi), List.getElem?_eq_none (by rw [Array.length_toList, ByteArray.size_data]; omega)]
/-- A rune's bytes. -/
def formL (v : Int) : List Int :=
  if v < 128 then [v] else if v < 2048 then [192 + v / 64, 128 + v % 64]
  else if v < 65536 then [224 + v / 4096, 128 + v / 64 % 64, 128 + v % 64]
  else [240 + v / 262144, 128 + v / 4096 % 64, 128 + v / 64 % 64, 128 + v % 64]
theorem formL_bytes {v : Int} (h0 : 0 ≤ v) (h1 : v ≤ 1114111) : ∀ x ∈ formL v, 0 ≤ x ∧ x ≤ 255 := by
  intro x hx
  unfold formL at hx
  split at hx
  · simp at hx; omega
  · split at hx
    · simp at hx; rcases hx with rfl | rfl <;> omega
    · split at hx
      · simp at hx; rcases hx with rfl | rfl | rfl <;> omega
      · simp at hx; rcases hx with rfl | rfl | rfl | rfl <;> omega
theorem form_eq {v : Int} (h0 : 0 ≤ v) (h1 : v ≤ 1114111) : m_eponymref01_Form v = some (strOfNums (formL v)) := by
  unfold m_eponymref01_Form formL
  have d : ∀ k : Int, Int.tdiv v k = v / k := fun k => Int.tdiv_eq_ediv_of_nonneg h0
  by_cases a : v < 128
  · rw [decide_eq_true a, cond_true, if_pos a, wu8 h0 (by omega)]
  rw [decide_eq_false a, cond_false, if_neg a]
  by_cases b : v < 2048
  · rw [decide_eq_true b, cond_true, if_pos b, d, Int.tmod_eq_emod_of_nonneg h0, w32 (x := v / 64) (by omega) (by omega), w32 (by omega) (by omega), w32 (by omega) (by omega), wu8 (by omega) (by omega), wu8 (by omega) (by omega)]
  rw [decide_eq_false b, cond_false, if_neg b]
  by_cases c : v < 65536
  · rw [decide_eq_true c, cond_true, if_pos c, d, d, w32 (x := v / 64) (by omega) (by omega), w32 (x := v / 4096) (by omega) (by omega), Int.tmod_eq_emod_of_nonneg h0, Int.tmod_eq_emod_of_nonneg (by omega), w32 (by omega) (by omega), w32 (by omega) (by omega), w32 (by omega) (by omega), wu8 (by omega) (by omega), wu8 (by omega) (by omega), wu8 (by omega) (by omega)]
  rw [decide_eq_false c, cond_false, if_neg c, d, d, d, w32 (x := v / 64) (by omega) (by omega), w32 (x := v / 4096) (by omega) (by omega), w32 (x := v / 262144) (by omega) (by omega), Int.tmod_eq_emod_of_nonneg h0, Int.tmod_eq_emod_of_nonneg (a := v / 64) (by omega), Int.tmod_eq_emod_of_nonneg (a := v / 4096) (by omega), w32 (by omega) (by omega), w32 (by omega) (by omega), w32 (by omega) (by omega), w32 (by omega) (by omega), wu8 (by omega) (by omega), wu8 (by omega) (by omega), wu8 (by omega) (by omega), wu8 (by omega) (by omega)]
/-- May a number be a rune of a text? -/
def rightS (v : Int) : Bool := decide (0 ≤ v ∧ v ≤ 1114111 ∧ ¬ (55296 ≤ v ∧ v ≤ 57343))
theorem rightS_eq (v : Int) : m_eponymref01_Right v = some (rightS v) := by
  unfold m_eponymref01_Right rightS
  by_cases a : v ≥ 0
  · rw [decide_eq_true a, cond_true]
    by_cases b : v ≤ 1114111
    · rw [decide_eq_true b, cond_true]
      by_cases c : v ≥ 55296
      · rw [decide_eq_true c, cond_true]
        by_cases d : v ≤ 57343
        · rw [decide_eq_true d, decide_eq_false (by omega)]; rfl
        · rw [decide_eq_false d, decide_eq_true (by omega)]; rfl
      · rw [decide_eq_false c, cond_false, decide_eq_true (by omega)]
    · rw [decide_eq_false b, cond_false, decide_eq_false (by omega)]
  · rw [decide_eq_false a, cond_false, decide_eq_false (by omega)]
/-- Do n bytes stand for a rune? -/
def accS (n : Nat) (g : Nat → Int) : Prop :=
  if n = 1 then g 0 < 128
  else if n = 2 then 194 ≤ g 0 ∧ g 0 < 224 ∧ 128 ≤ g 1 ∧ g 1 ≤ 191
  else if n = 3 then 224 ≤ g 0 ∧ g 0 < 240 ∧ (128 ≤ g 1 ∧ g 1 ≤ 191) ∧ (128 ≤ g 2 ∧ g 2 ≤ 191) ∧ (g 0 = 224 → 160 ≤ g 1) ∧ (g 0 = 237 → g 1 ≤ 159)
  else 240 ≤ g 0 ∧ g 0 ≤ 244 ∧ (128 ≤ g 1 ∧ g 1 ≤ 191) ∧ (128 ≤ g 2 ∧ g 2 ≤ 191) ∧ (128 ≤ g 3 ∧ g 3 ≤ 191) ∧ (g 0 = 240 → 144 ≤ g 1) ∧ (g 0 = 244 → g 1 ≤ 143)
instance (n : Nat) (g : Nat → Int) : Decidable (accS n g) := by unfold accS; infer_instance
theorem acc_iff (n : Nat) (g : Nat → Int) (hn : n = 1 ∨ n = 2 ∨ n = 3 ∨ n = 4) (hb : ∀ i, 0 ≤ g i ∧ g i ≤ 255) :
    (0 ≤ valS n g ∧ rightS (valS n g) = true ∧ (formL (valS n g)).length = n ∧ ∀ i, i < (formL (valS n g)).length → (formL (valS n g)).getD i 0 = g i) ↔ accS n g := by
  have b0 := hb 0
  have b1 := hb 1
  have b2 := hb 2
  have b3 := hb 3
  rcases hn with rfl | rfl | rfl | rfl
  · rw [valS1]
    show _ ↔ g 0 < 128
    by_cases h : g 0 < 128
    · rw [if_pos h]
      refine ⟨fun _ => h, fun _ => ⟨b0.1, by unfold rightS; rw [decide_eq_true_eq]; omega, by unfold formL; rw [if_pos h]; rfl, fun i hi => ?_⟩⟩
      unfold formL at hi ⊢
      rw [if_pos h] at hi ⊢
      have : i = 0 := by simpa using hi
      subst this; rfl
    · rw [if_neg h]
      exact ⟨fun q => absurd q.1 (by omega), fun q => absurd q h⟩
  · rw [valS2]
    show _ ↔ 194 ≤ g 0 ∧ g 0 < 224 ∧ 128 ≤ g 1 ∧ g 1 ≤ 191
    by_cases h : 192 ≤ g 0 ∧ g 0 < 224 ∧ 128 ≤ g 1 ∧ g 1 ≤ 191
    · rw [if_pos h]
      generalize hv : (g 0 - 192) * 64 + g 1 - 128 = v
      constructor
      · rintro ⟨_, _, hl, _⟩
        refine ⟨?_, h.2⟩
        unfold formL at hl
        split at hl
        · simp at hl
        · omega
      · intro q
        have e : formL v = [g 0, g 1] := by
          unfold formL
          rw [if_neg (by omega), if_pos (by omega)]
          congr 1
          · omega
          · congr 1; omega
        rw [e]
        refine ⟨by omega, by unfold rightS; rw [decide_eq_true_eq]; omega, rfl, fun i hi => ?_⟩
        have hi : i < 2 := hi
        match i, hi with
        | 0, _ => rfl
        | 1, _ => rfl
    · rw [if_neg h]
      exact ⟨fun q => absurd q.1 (by omega), fun q => absurd (show 192 ≤ g 0 ∧ g 0 < 224 ∧ 128 ≤ g 1 ∧ g 1 ≤ 191 by omega) h⟩
  · rw [valS3]
    show _ ↔ 224 ≤ g 0 ∧ g 0 < 240 ∧ (128 ≤ g 1 ∧ g 1 ≤ 191) ∧ (128 ≤ g 2 ∧ g 2 ≤ 191) ∧ (g 0 = 224 → 160 ≤ g 1) ∧ (g 0 = 237 → g 1 ≤ 159)
    by_cases h : 224 ≤ g 0 ∧ g 0 < 240 ∧ (128 ≤ g 1 ∧ g 1 ≤ 191) ∧ 128 ≤ g 2 ∧ g 2 ≤ 191
    · rw [if_pos h]
      generalize hv : ((g 0 - 224) * 64 + g 1 - 128) * 64 + g 2 - 128 = v
      constructor
      · rintro ⟨_, hr, hl, _⟩
        unfold rightS at hr
        rw [decide_eq_true_eq] at hr
        unfold formL at hl
        split at hl
        · simp at hl
        · split at hl
          · simp at hl
          · omega
      · intro q
        have e : formL v = [g 0, g 1, g 2] := by
          unfold formL
          rw [if_neg (by omega), if_neg (by omega), if_pos (by omega)]
          congr 1
          · omega
          · congr 1
            · omega
            · congr 1; omega
        rw [e]
        refine ⟨by omega, by unfold rightS; rw [decide_eq_true_eq]; omega, rfl, fun i hi => ?_⟩
        have hi : i < 3 := hi
        match i, hi with
        | 0, _ => rfl
        | 1, _ => rfl
        | 2, _ => rfl
    · rw [if_neg h]
      exact ⟨fun q => absurd q.1 (by omega), fun q => absurd (show 224 ≤ g 0 ∧ g 0 < 240 ∧ (128 ≤ g 1 ∧ g 1 ≤ 191) ∧ 128 ≤ g 2 ∧ g 2 ≤ 191 by omega) h⟩
  · rw [valS4]
    show _ ↔ 240 ≤ g 0 ∧ g 0 ≤ 244 ∧ (128 ≤ g 1 ∧ g 1 ≤ 191) ∧ (128 ≤ g 2 ∧ g 2 ≤ 191) ∧ (128 ≤ g 3 ∧ g 3 ≤ 191) ∧ (g 0 = 240 → 144 ≤ g 1) ∧ (g 0 = 244 → g 1 ≤ 143)
    by_cases h : 240 ≤ g 0 ∧ g 0 < 248 ∧ (128 ≤ g 1 ∧ g 1 ≤ 191) ∧ (128 ≤ g 2 ∧ g 2 ≤ 191) ∧ 128 ≤ g 3 ∧ g 3 ≤ 191
    · rw [if_pos h]
      generalize hv : (((g 0 - 240) * 64 + g 1 - 128) * 64 + g 2 - 128) * 64 + g 3 - 128 = v
      constructor
      · rintro ⟨_, hr, hl, _⟩
        unfold rightS at hr
        rw [decide_eq_true_eq] at hr
        unfold formL at hl
        split at hl
        · simp at hl
        · split at hl
          · simp at hl
          · split at hl
            · simp at hl
            · omega
      · intro q
        have e : formL v = [g 0, g 1, g 2, g 3] := by
          unfold formL
          rw [if_neg (by omega), if_neg (by omega), if_neg (by omega)]
          congr 1
          · omega
          · congr 1
            · omega
            · congr 1
              · omega
              · congr 1; omega
        rw [e]
        refine ⟨by omega, by unfold rightS; rw [decide_eq_true_eq]; omega, rfl, fun i hi => ?_⟩
        have hi : i < 4 := hi
        match i, hi with
        | 0, _ => rfl
        | 1, _ => rfl
        | 2, _ => rfl
        | 3, _ => rfl
    · rw [if_neg h]
      exact ⟨fun q => absurd q.1 (by omega), fun q => absurd (show 240 ≤ g 0 ∧ g 0 < 248 ∧ (128 ≤ g 1 ∧ g 1 ≤ 191) ∧ (128 ≤ g 2 ∧ g 2 ≤ 191) ∧ 128 ≤ g 3 ∧ g 3 ≤ 191 by omega) h⟩
theorem val_hi (n : Nat) (g : Nat → Int) (hn : n = 1 ∨ n = 2 ∨ n = 3 ∨ n = 4) : valS n g ≤ 2097151 := by
  rcases hn with rfl | rfl | rfl | rfl
  · rw [valS1]; split <;> omega
  · rw [valS2]; split <;> omega
  · rw [valS3]; split <;> omega
  · rw [valS4]; split <;> omega
/-- One length tried. -/
theorem l29_eq (s : ByteArray) (hs : s.size ≤ 100000) (at_ n : Nat) (g : Nat → Int) (hg : ∀ i, g i = bt s ((at_ + i : Nat) : Int)) (hn : n = 1 ∨ n = 2 ∨ n = 3 ∨ n = 4) (hle : at_ + n ≤ s.size) :
    m_eponymref01_Next_L29 s (at_ : Int) (n : Int) = if accS n g then some (.done (.inr (valS n g, (n : Int), 0))) else some (.next ((n + 1 : Nat) : Int)) := by
  have hw : IntKind.wrap .i64 ((at_ : Int) + (n : Int)) = ((at_ + n : Nat) : Int) := by rw [w64 (by omega) (by omega)]; omega
  have hb : ∀ i, 0 ≤ g i ∧ g i ≤ 255 := fun i => by rw [hg i]; exact ⟨bt_lo _ _, bt_hi _ _⟩
  have hsz : (s.extract at_ (at_ + n)).size = n := by rw [ext_size _ _ _ (by omega) hle]; omega
  -- bytes of the part, made to agree with g behind it
  have hval : m_eponymref01_value (s.extract at_ (at_ + n)) = some (valS n g) := by
    have h1 := value_eq (s.extract at_ (at_ + n)) (fun i => bt (s.extract at_ (at_ + n)) ((i : Nat) : Int)) (fun _ => rfl) (by omega) (by omega)
    rw [hsz] at h1
    rw [h1]
    refine congrArg some ?_
    have e : ∀ i, i < n → bt (s.extract at_ (at_ + n)) ((i : Nat) : Int) = g i := fun i hi => by rw [bt_ext s at_ (at_ + n) i (by omega) hle, hg i]
    rcases hn with rfl | rfl | rfl | rfl
    · rw [valS1, valS1, e 0 (by omega)]
    · rw [valS2, valS2, e 0 (by omega), e 1 (by omega)]
    · rw [valS3, valS3, e 0 (by omega), e 1 (by omega), e 2 (by omega)]
    · rw [valS4, valS4, e 0 (by omega), e 1 (by omega), e 2 (by omega), e 3 (by omega)]
  have key : (bif decide (valS n g ≥ 0) then Option.bind (m_eponymref01_Right (valS n g)) fun y36 => bif y36 then Option.bind (m_eponymref01_Form (valS n g)) fun y37 =>
      if 0 ≤ (at_ : Int) ∧ (at_ : Int) ≤ ((at_ + n : Nat) : Int) ∧ ((at_ + n : Nat) : Int) ≤ ((s.size : Nat) : Int) then some (y37.toList == (s.extract at_ (at_ + n)).toList) else none
      else some false else some false : Option Bool) = some (decide (accS n g)) := by
    have hacc := acc_iff n g hn hb
    by_cases h0 : valS n g ≥ 0
    · rw [decide_eq_true h0, cond_true, rightS_eq, bind_some']
      cases hr : rightS (valS n g) with
      | false =>
        rw [cond_false]
        rw [decide_eq_false (fun h => by have := (hacc.2 h).2.1; rw [hr] at this; cases this)]
      | true =>
        have hr' := hr
        unfold rightS at hr'
        rw [decide_eq_true_eq] at hr'
        rw [cond_true, form_eq h0 hr'.2.1, bind_some', if_pos ⟨by omega, by omega, by omega⟩, strEq _ (formL_bytes h0 hr'.2.1), hsz]
        refine congrArg some ?_
        rw [decide_eq_decide, ← hacc]
        constructor
        · rintro ⟨h1, h2⟩
          exact ⟨h0, hr, h1, fun i hi => by rw [h2 i hi, bt_ext s at_ (at_ + n) i (by omega) hle, hg i]⟩
        · rintro ⟨_, _, h1, h2⟩
          exact ⟨h1, fun i hi => by rw [h2 i hi, bt_ext s at_ (at_ + n) i (by omega) hle, hg i]⟩
    · rw [decide_eq_false h0, cond_false, decide_eq_false (fun h => h0 (hacc.2 h).1)]
  unfold m_eponymref01_Next_L29 m_eponymref01_Next_K32
  rw [decide_eq_true (show (n : Int) ≤ 4 by omega), cond_true, hw, decide_eq_true (by omega), bind_some', cond_true, if_pos ⟨by omega, by omega, by omega⟩]
  simp only [Int.toNat_natCast]
  rw [hval, bind_some', key, bind_some']
  unfold m_eponymref01_Next_K35
  by_cases h : accS n g
  · rw [decide_eq_true h, cond_true, if_pos h]
  · rw [decide_eq_false h, cond_false, if_neg h, up (by omega)]
theorem l29_end (s : ByteArray) (hs : s.size ≤ 100000) (at_ n : Nat) (hn : n ≤ 5) (h : 4 < n ∨ s.size < at_ + n) (ha : at_ ≤ s.size) : m_eponymref01_Next_L29 s (at_ : Int) (n : Int) = some (.done (.inl ())) := by
  have hw : IntKind.wrap .i64 ((at_ : Int) + (n : Int)) = ((at_ + n : Nat) : Int) := by rw [w64 (by omega) (by omega)]; omega
  unfold m_eponymref01_Next_L29 m_eponymref01_Next_K32
  by_cases h4 : n ≤ 4
  · rw [decide_eq_true (show (n : Int) ≤ 4 by omega), cond_true, hw, decide_eq_false (by omega)]; rfl
  · rw [decide_eq_false (by omega)]; rfl
def padN (x : UInt8) : Nat → ByteArray → ByteArray
  | 0, a => a
  | k + 1, a => padN x k (a ++ ByteArray.mk #[x])
theorem size_push (a : ByteArray) (x : UInt8) : (a ++ ByteArray.mk #[x]).size = a.size + 1 := by rw [ByteArray.size_append]; rfl
theorem pad_size (x : UInt8) : ∀ (k : Nat) (a : ByteArray), (padN x k a).size = a.size + k
  | 0, a => rfl
  | k + 1, a => by rw [padN, pad_size x k, size_push]; omega
theorem pad_bt (x : UInt8) : ∀ (k : Nat) (a : ByteArray) (i : Nat), i < a.size + k → bt (padN x k a) (i : Int) = if i < a.size then bt a (i : Int) else (x.toNat : Int)
  | 0, a, i, h => by rw [padN, if_pos (by omega)]
  | k + 1, a, i, h => by
    rw [padN, pad_bt x k _ i (by rw [size_push]; omega), size_push]
    by_cases h1 : i < a.size
    · rw [if_pos (by omega), if_pos h1, bt_app_lo a _ i h1]
    · rw [if_neg h1]
      by_cases h2 : i < a.size + 1
      · rw [if_pos h2]
        have e : i = a.size + 0 := by omega
        rw [e, bt_app_hi a _ 0]
        rfl
      · rw [if_neg h2]
theorem pad_run (n : Nat) (hn : n ≤ 4) : ∀ (k : Nat) (a b : ByteArray), a.size + k = n → b.size = a.size → iter (m_eponymref01_Next_L20 (n : Int)) (a, b) = some (padN 128 k a, padN 191 k b)
  | 0, a, b, h, hb => by
    refine iter_done ?_
    unfold m_eponymref01_Next_L20
    simp only
    rw [decide_eq_false (by omega)]; rfl
  | k + 1, a, b, h, hb => by
    rw [iter_next (s' := (a ++ ByteArray.mk #[128], b ++ ByteArray.mk #[191]))]
    · rw [pad_run n hn k _ _ (by rw [size_push]; omega) (by rw [size_push, size_push]; omega)]; rfl
    · unfold m_eponymref01_Next_L20
      simp only
      have o : (ByteArray.mk #[128]).size = 1 := rfl
      have o' : (ByteArray.mk #[191]).size = 1 := rfl
      rw [decide_eq_true (by omega), cond_true, if_pos (by omega), if_pos (by omega)]
theorem value_of (s : ByteArray) (n : Nat) (g : Nat → Int) (hs : s.size = n) (hn : n = 1 ∨ n = 2 ∨ n = 3 ∨ n = 4) (e : ∀ i, i < n → bt s ((i : Nat) : Int) = g i) : m_eponymref01_value s = some (valS n g) := by
  have h1 := value_eq s (fun i => bt s ((i : Nat) : Int)) (fun _ => rfl) (by omega) (by omega)
  rw [hs] at h1
  rw [h1]
  refine congrArg some ?_
  rcases hn with rfl | rfl | rfl | rfl
  · rw [valS1, valS1, e 0 (by omega)]
  · rw [valS2, valS2, e 0 (by omega), e 1 (by omega)]
  · rw [valS3, valS3, e 0 (by omega), e 1 (by omega), e 2 (by omega)]
  · rw [valS4, valS4, e 0 (by omega), e 1 (by omega), e 2 (by omega), e 3 (by omega)]
/-- Is there a rune of so many bytes from a to b? -/
def someS (a b n : Int) : Prop :=
  (55296 ≤ max a (if n = 4 then 65536 else if n = 3 then 2048 else 128) ∧ max a (if n = 4 then 65536 else if n = 3 then 2048 else 128) ≤ 57343 → 57344 ≤ min b (if n = 4 then 1114111 else if n = 3 then 65535 else 2047)) ∧
  (¬ (55296 ≤ max a (if n = 4 then 65536 else if n = 3 then 2048 else 128) ∧ max a (if n = 4 then 65536 else if n = 3 then 2048 else 128) ≤ 57343) → max a (if n = 4 then 65536 else if n = 3 then 2048 else 128) ≤ min b (if n = 4 then 1114111 else if n = 3 then 65535 else 2047))
instance (a b n : Int) : Decidable (someS a b n) := by unfold someS; infer_instance
theorem some_eq (a b n : Int) : m_eponymref01_some a b n = some (decide (someS a b n)) := by
  unfold m_eponymref01_some
  have h1 : (bif (n == 3) then some (2048, 65535) else some (128, 2047) : Option (Int × Int)) = some (if n = 3 then (2048, 65535) else (128, 2047)) := by
    by_cases h : n = 3
    · subst h; rfl
    · rw [beq_false_of_ne h, if_neg h]; rfl
  rw [h1, bind_some']
  unfold m_eponymref01_some_K2
  have h2 : ∀ q : Int × Int, (bif (n == 4) then some (65536, 1114111) else some (q.1, q.2) : Option (Int × Int)) = some (if n = 4 then (65536, 1114111) else q) := fun q => by
    by_cases h : n = 4
    · subst h; rfl
    · rw [beq_false_of_ne h, if_neg h]; rfl
  rw [h2, bind_some']
  generalize hq : (if n = 4 then ((65536, 1114111) : Int × Int) else if n = 3 then (2048, 65535) else (128, 2047)) = q
  have q1 : (if n = 4 then 65536 else if n = 3 then 2048 else 128 : Int) = q.1 := by rw [← hq]; (repeat' split) <;> rfl
  have q2 : (if n = 4 then 1114111 else if n = 3 then 65535 else 2047 : Int) = q.2 := by rw [← hq]; (repeat' split) <;> rfl
  have hS : someS a b n ↔ ((55296 ≤ max a q.1 ∧ max a q.1 ≤ 57343 → 57344 ≤ min b q.2) ∧ (¬ (55296 ≤ max a q.1 ∧ max a q.1 ≤ 57343) → max a q.1 ≤ min b q.2)) := by
    unfold someS
    rw [q1, q2]
  unfold m_eponymref01_some_K4
  have h3 : (bif decide (a < q.1) then some q.1 else some a) = some (max a q.1) := by
    by_cases h : a < q.1
    · rw [decide_eq_true h, cond_true]; refine congrArg some ?_; omega
    · rw [decide_eq_false h, cond_false]; refine congrArg some ?_; omega
  rw [h3, bind_some']
  unfold m_eponymref01_some_K6
  have h4 : (bif decide (b > q.2) then some q.2 else some b) = some (min b q.2) := by
    by_cases h : b > q.2
    · rw [decide_eq_true h, cond_true]; refine congrArg some ?_; omega
    · rw [decide_eq_false h, cond_false]; refine congrArg some ?_; omega
  rw [h4, bind_some']
  unfold m_eponymref01_some_K8
  generalize max a q.1 = A at hS ⊢
  generalize min b q.2 = B at hS ⊢
  have h5 : (bif decide (A ≥ 55296) then some (decide (A ≤ 57343)) else some false) = some (decide (55296 ≤ A ∧ A ≤ 57343)) := by
    by_cases h : A ≥ 55296
    · rw [decide_eq_true h, cond_true]
      by_cases h' : A ≤ 57343
      · rw [decide_eq_true h', decide_eq_true ⟨h, h'⟩]
      · rw [decide_eq_false h', decide_eq_false (by omega)]
    · rw [decide_eq_false h, cond_false, decide_eq_false (by omega)]
  rw [h5, bind_some']
  unfold m_eponymref01_some_K10
  by_cases h : 55296 ≤ A ∧ A ≤ 57343
  · rw [decide_eq_true h, cond_true]
    refine congrArg some ?_
    rw [decide_eq_decide, hS]
    exact ⟨fun x => ⟨fun _ => x, fun y => absurd h y⟩, fun x => x.1 h⟩
  · rw [decide_eq_false h, cond_false]
    refine congrArg some ?_
    rw [decide_eq_decide, hS]
    exact ⟨fun x => ⟨fun y => absurd y h, fun _ => x⟩, fun x => x.2 h⟩
/-- May the R bytes be the beginning of a rune of n bytes? -/
def endS (n R : Nat) (g : Nat → Int) : Prop :=
  if n = 2 then 194 ≤ g 0 ∧ g 0 < 224
  else if n = 3 then 224 ≤ g 0 ∧ g 0 < 240 ∧ (2 ≤ R → 128 ≤ g 1 ∧ g 1 ≤ 191 ∧ (g 0 = 224 → 160 ≤ g 1) ∧ (g 0 = 237 → g 1 ≤ 159))
  else 240 ≤ g 0 ∧ g 0 ≤ 244 ∧ (2 ≤ R → 128 ≤ g 1 ∧ g 1 ≤ 191 ∧ (g 0 = 240 → 144 ≤ g 1) ∧ (g 0 = 244 → g 1 ≤ 143)) ∧ (3 ≤ R → 128 ≤ g 2 ∧ g 2 ≤ 191)
instance (n R : Nat) (g : Nat → Int) : Decidable (endS n R g) := by unfold endS; infer_instance
theorem end_iff (n R : Nat) (g : Nat → Int) (hR : 1 ≤ R) (hRn : R < n) (hn : n ≤ 4) (hb : ∀ i, 0 ≤ g i ∧ g i ≤ 255) :
    (0 ≤ valS n (fun i => if i < R then g i else 128) ∧ 0 ≤ valS n (fun i => if i < R then g i else 191) ∧ someS (valS n (fun i => if i < R then g i else 128)) (valS n (fun i => if i < R then g i else 191)) (n : Int)) ↔ endS n R g := by
  have b0 := hb 0
  have b1 := hb 1
  have b2 := hb 2
  have c : (n = 2 ∧ R = 1) ∨ (n = 3 ∧ R = 1) ∨ (n = 3 ∧ R = 2) ∨ (n = 4 ∧ R = 1) ∨ (n = 4 ∧ R = 2) ∨ (n = 4 ∧ R = 3) := by omega
  unfold someS
  rcases c with ⟨rfl, rfl⟩ | ⟨rfl, rfl⟩ | ⟨rfl, rfl⟩ | ⟨rfl, rfl⟩ | ⟨rfl, rfl⟩ | ⟨rfl, rfl⟩
  · rw [valS2, valS2]
    show _ ↔ 194 ≤ g 0 ∧ g 0 < 224
    simp
    (repeat' split) <;> omega
  · rw [valS3, valS3]
    show _ ↔ 224 ≤ g 0 ∧ g 0 < 240 ∧ (2 ≤ 1 → 128 ≤ g 1 ∧ g 1 ≤ 191 ∧ (g 0 = 224 → 160 ≤ g 1) ∧ (g 0 = 237 → g 1 ≤ 159))
    simp
    (repeat' split) <;> omega
  · rw [valS3, valS3]
    show _ ↔ 224 ≤ g 0 ∧ g 0 < 240 ∧ (2 ≤ 2 → 128 ≤ g 1 ∧ g 1 ≤ 191 ∧ (g 0 = 224 → 160 ≤ g 1) ∧ (g 0 = 237 → g 1 ≤ 159))
    simp
    (repeat' split) <;> omega
  · rw [valS4, valS4]
    show _ ↔ 240 ≤ g 0 ∧ g 0 ≤ 244 ∧ (2 ≤ 1 → 128 ≤ g 1 ∧ g 1 ≤ 191 ∧ (g 0 = 240 → 144 ≤ g 1) ∧ (g 0 = 244 → g 1 ≤ 143)) ∧ (3 ≤ 1 → 128 ≤ g 2 ∧ g 2 ≤ 191)
    simp
    (repeat' split) <;> omega
  · rw [valS4, valS4]
    show _ ↔ 240 ≤ g 0 ∧ g 0 ≤ 244 ∧ (2 ≤ 2 → 128 ≤ g 1 ∧ g 1 ≤ 191 ∧ (g 0 = 240 → 144 ≤ g 1) ∧ (g 0 = 244 → g 1 ≤ 143)) ∧ (3 ≤ 2 → 128 ≤ g 2 ∧ g 2 ≤ 191)
    simp
    (repeat' split) <;> omega
  · rw [valS4, valS4]
    show _ ↔ 240 ≤ g 0 ∧ g 0 ≤ 244 ∧ (2 ≤ 3 → 128 ≤ g 1 ∧ g 1 ≤ 191 ∧ (g 0 = 240 → 144 ≤ g 1) ∧ (g 0 = 244 → g 1 ≤ 143)) ∧ (3 ≤ 3 → 128 ≤ g 2 ∧ g 2 ≤ 191)
    simp
    (repeat' split) <;> omega
/-- One length of a rune that ends too early. -/
theorem l7_eq (s : ByteArray) (hs : s.size ≤ 100000) (at_ n R : Nat) (g : Nat → Int) (hg : ∀ i, g i = bt s ((at_ + i : Nat) : Int)) (hR : 1 ≤ R) (hsz : at_ + R = s.size) (hRn : R < n) (hn : n ≤ 4) :
    m_eponymref01_Next_L7 s (at_ : Int) (n : Int) = if endS n R g then some (.done (.inr (0, 0, 2))) else some (.next ((n + 1 : Nat) : Int)) := by
  have hb : ∀ i, 0 ≤ g i ∧ g i ≤ 255 := fun i => by rw [hg i]; exact ⟨bt_lo _ _, bt_hi _ _⟩
  have hes : (s.extract at_ s.size).size = R := by rw [ext_size _ _ _ (by omega) (Nat.le_refl _)]; omega
  obtain ⟨k, hk⟩ : ∃ k, R + k = n := ⟨n - R, by omega⟩
  have hpad : ∀ x : UInt8, m_eponymref01_value (padN x k (s.extract at_ s.size)) = some (valS n fun i => if i < R then g i else (x.toNat : Int)) := fun x => by
    refine value_of _ n _ (by rw [pad_size, hes, hk]) (by omega) fun i hi => ?_
    rw [pad_bt x k _ i (by rw [hes]; omega), hes]
    by_cases h : i < R
    · rw [if_pos h, if_pos h, bt_ext s at_ s.size i (by omega) (Nat.le_refl _), hg i]
    · rw [if_neg h, if_neg h]
  have hend := end_iff n R g hR hRn hn hb
  unfold m_eponymref01_Next_L7
  rw [decide_eq_true (by omega), cond_true]
  simp only [Int.toNat_natCast]
  rw [pad_run n hn k _ _ (by rw [hes]; exact hk) rfl, bind_some', up (by omega)]
  unfold m_eponymref01_Next_K12
  simp only
  rw [hpad 128, bind_some', hpad 191, bind_some']
  have t1 : (((128 : UInt8).toNat : Nat) : Int) = 128 := rfl
  have t2 : (((191 : UInt8).toNat : Nat) : Int) = 191 := rfl
  rw [t1, t2]
  generalize valS n (fun i => if i < R then g i else 128) = va at hend
  generalize valS n (fun i => if i < R then g i else 191) = vb at hend
  have key : (bif decide (va ≥ 0) then bif decide (vb ≥ 0) then Option.bind (m_eponymref01_some va vb (n : Int)) fun y17 => some y17 else some false else some false : Option Bool) = some (decide (endS n R g)) := by
    by_cases h0 : va ≥ 0
    · rw [decide_eq_true h0, cond_true]
      by_cases h1 : vb ≥ 0
      · rw [decide_eq_true h1, cond_true, some_eq, bind_some']
        refine congrArg some ?_
        rw [decide_eq_decide, ← hend]
        exact ⟨fun h => ⟨h0, h1, h⟩, fun h => h.2.2⟩
      · rw [decide_eq_false h1, cond_false, decide_eq_false (fun h => h1 (hend.2 h).2.1)]
    · rw [decide_eq_false h0, cond_false, decide_eq_false (fun h => h0 (hend.2 h).1)]
  rw [key, bind_some']
  unfold m_eponymref01_Next_K16
  by_cases h : endS n R g
  · rw [decide_eq_true h, if_pos h]; rfl
  · rw [decide_eq_false h, if_neg h]; rfl
/-- The rune that R bytes begin with, its length; or what is wrong: 1 (a byte), 2 (the end). -/
def nextS (R : Nat) (g : Nat → Int) : Int × Int × Int :=
  if g 0 < 128 then (g 0, 1, 0)
  else if g 0 < 194 ∨ 245 ≤ g 0 then (0, 0, 1)
  else if R ≤ 1 then (0, 0, 2)
  else if (g 1 < (if g 0 = 224 then 160 else if g 0 = 240 then 144 else 128)) ∨ (if g 0 = 237 then 159 else if g 0 = 244 then 143 else 191) < g 1 then (0, 0, 1)
  else if g 0 < 224 then ((g 0 - 192) * 64 + g 1 - 128, 2, 0)
  else if R ≤ 2 then (0, 0, 2)
  else if g 2 < 128 ∨ 191 < g 2 then (0, 0, 1)
  else if g 0 < 240 then (((g 0 - 224) * 64 + g 1 - 128) * 64 + g 2 - 128, 3, 0)
  else if R ≤ 3 then (0, 0, 2)
  else if g 3 < 128 ∨ 191 < g 3 then (0, 0, 1)
  else ((((g 0 - 240) * 64 + g 1 - 128) * 64 + g 2 - 128) * 64 + g 3 - 128, 4, 0)
def chainR (R : Nat) (g : Nat → Int) : Int × Int × Int :=
  if accS 1 g then (valS 1 g, 1, 0)
  else if R < 2 then (if endS 2 R g then (0, 0, 2) else if endS 3 R g then (0, 0, 2) else if endS 4 R g then (0, 0, 2) else (0, 0, 1))
  else if accS 2 g then (valS 2 g, 2, 0)
  else if R < 3 then (if endS 3 R g then (0, 0, 2) else if endS 4 R g then (0, 0, 2) else (0, 0, 1))
  else if accS 3 g then (valS 3 g, 3, 0)
  else if R < 4 then (if endS 4 R g then (0, 0, 2) else (0, 0, 1))
  else if accS 4 g then (valS 4 g, 4, 0) else (0, 0, 1)
theorem next_chain (s : ByteArray) (hs : s.size ≤ 100000) (at_ R : Nat) (g : Nat → Int) (hg : ∀ i, g i = bt s ((at_ + i : Nat) : Int)) (hR : 1 ≤ R) (hsz : at_ + R = s.size) : m_eponymref01_Next s (at_ : Int) = some (chainR R g) := by
  have hes : (s.extract at_ s.size).size = R := by rw [ext_size _ _ _ (by omega) (Nat.le_refl _)]; omega
  have e29 : ∀ n : Nat, (n = 1 ∨ n = 2 ∨ n = 3 ∨ n = 4) → n ≤ R → iter (m_eponymref01_Next_L29 s (at_ : Int)) (n : Int) = if accS n g then some (.inr (valS n g, (n : Int), 0)) else iter (m_eponymref01_Next_L29 s (at_ : Int)) ((n + 1 : Nat) : Int) := fun n hn h => by
    rw [iter_step, l29_eq s hs at_ n g hg hn (by omega)]
    split
    · split at * <;> simp_all
    · split at * <;> simp_all
    · split at * <;> simp_all
  have e29' : ∀ n : Nat, n ≤ 5 → R < n ∨ 4 < n → iter (m_eponymref01_Next_L29 s (at_ : Int)) (n : Int) = some (.inl ()) := fun n hn h => iter_done (l29_end s hs at_ n hn (by omega) (by omega))
  have e7 : ∀ n : Nat, R < n → n ≤ 4 → iter (m_eponymref01_Next_L7 s (at_ : Int)) (n : Int) = if endS n R g then some (.inr (0, 0, 2)) else iter (m_eponymref01_Next_L7 s (at_ : Int)) ((n + 1 : Nat) : Int) := fun n hn h => by
    rw [iter_step, l7_eq s hs at_ n R g hg hR hsz hn h]
    split
    · split at * <;> simp_all
    · split at * <;> simp_all
    · split at * <;> simp_all
  have e7' : ∀ n : Nat, 4 < n → n ≤ 200000 → iter (m_eponymref01_Next_L7 s (at_ : Int)) (n : Int) = some (.inl ()) := fun n hn h => iter_done (by
    unfold m_eponymref01_Next_L7
    rw [decide_eq_false (by omega)]; rfl)
  have k2 : m_eponymref01_Next_K2 s (at_ : Int) () = Option.bind (iter (m_eponymref01_Next_L7 s (at_ : Int)) ((R + 1 : Nat) : Int) : Option (Sum Unit (Int × Int × Int))) fun z => match z with | .inl s3 => some (0, 0, 1) | .inr v26 => some (v26.1, v26.2.1, v26.2.2) := by
    unfold m_eponymref01_Next_K2
    rw [if_pos ⟨by omega, by omega, by omega⟩, Int.toNat_natCast, hes, up (by omega)]
    rfl
  unfold m_eponymref01_Next chainR
  rw [show (1 : Int) = ((1 : Nat) : Int) from rfl, e29 1 (.inl rfl) hR]
  by_cases a1 : accS 1 g
  · rw [if_pos a1, if_pos a1]; rfl
  rw [if_neg a1, if_neg a1]
  by_cases r2 : R < 2
  · have : R = 1 := by omega
    subst this
    rw [if_pos r2, e29' 2 (by omega) (by omega), bind_some']
    simp only
    rw [k2, e7 2 (by omega) (by omega)]
    by_cases q2 : endS 2 1 g
    · rw [if_pos q2, if_pos q2]; rfl
    rw [if_neg q2, if_neg q2, e7 3 (by omega) (by omega)]
    by_cases q3 : endS 3 1 g
    · rw [if_pos q3, if_pos q3]; rfl
    rw [if_neg q3, if_neg q3, e7 4 (by omega) (by omega)]
    by_cases q4 : endS 4 1 g
    · rw [if_pos q4, if_pos q4]; rfl
    rw [if_neg q4, if_neg q4, e7' 5 (by omega) (by omega)]; rfl
  rw [if_neg r2, e29 2 (by omega) (by omega)]
  by_cases a2 : accS 2 g
  · rw [if_pos a2, if_pos a2]; rfl
  rw [if_neg a2, if_neg a2]
  by_cases r3 : R < 3
  · have : R = 2 := by omega
    subst this
    rw [if_pos r3, e29' 3 (by omega) (by omega), bind_some']
    simp only
    rw [k2, e7 3 (by omega) (by omega)]
    by_cases q3 : endS 3 2 g
    · rw [if_pos q3, if_pos q3]; rfl
    rw [if_neg q3, if_neg q3, e7 4 (by omega) (by omega)]
    by_cases q4 : endS 4 2 g
    · rw [if_pos q4, if_pos q4]; rfl
    rw [if_neg q4, if_neg q4, e7' 5 (by omega) (by omega)]; rfl
  rw [if_neg r3, e29 3 (by omega) (by omega)]
  by_cases a3 : accS 3 g
  · rw [if_pos a3, if_pos a3]; rfl
  rw [if_neg a3, if_neg a3]
  by_cases r4 : R < 4
  · have : R = 3 := by omega
    subst this
    rw [if_pos r4, e29' 4 (by omega) (by omega), bind_some']
    simp only
    rw [k2, e7 4 (by omega) (by omega)]
    by_cases q4 : endS 4 3 g
    · rw [if_pos q4, if_pos q4]; rfl
    rw [if_neg q4, if_neg q4, e7' 5 (by omega) (by omega)]; rfl
  rw [if_neg r4, e29 4 (by omega) (by omega)]
  by_cases a4 : accS 4 g
  · rw [if_pos a4, if_pos a4]; rfl
  rw [if_neg a4, if_neg a4, e29' 5 (by omega) (by omega), bind_some']
  simp only
  rw [k2, e7' (R + 1) (by omega) (by omega)]; rfl
theorem chain_next (R : Nat) (g : Nat → Int) (hR : 1 ≤ R) (hb : ∀ i, 0 ≤ g i ∧ g i ≤ 255) : chainR R g = nextS R g := by
  have b0 := hb 0
  have b1 := hb 1
  have b2 := hb 2
  have b3 := hb 3
  have A1 : accS 1 g ↔ g 0 < 128 := Iff.rfl
  have A2 : accS 2 g ↔ 194 ≤ g 0 ∧ g 0 < 224 ∧ 128 ≤ g 1 ∧ g 1 ≤ 191 := Iff.rfl
  have A3 : accS 3 g ↔ 224 ≤ g 0 ∧ g 0 < 240 ∧ (128 ≤ g 1 ∧ g 1 ≤ 191) ∧ (128 ≤ g 2 ∧ g 2 ≤ 191) ∧ (g 0 = 224 → 160 ≤ g 1) ∧ (g 0 = 237 → g 1 ≤ 159) := Iff.rfl
  have A4 : accS 4 g ↔ 240 ≤ g 0 ∧ g 0 ≤ 244 ∧ (128 ≤ g 1 ∧ g 1 ≤ 191) ∧ (128 ≤ g 2 ∧ g 2 ≤ 191) ∧ (128 ≤ g 3 ∧ g 3 ≤ 191) ∧ (g 0 = 240 → 144 ≤ g 1) ∧ (g 0 = 244 → g 1 ≤ 143) := Iff.rfl
  have E2 : ∀ R, endS 2 R g ↔ 194 ≤ g 0 ∧ g 0 < 224 := fun _ => Iff.rfl
  have E3 : ∀ R, endS 3 R g ↔ 224 ≤ g 0 ∧ g 0 < 240 ∧ (2 ≤ R → 128 ≤ g 1 ∧ g 1 ≤ 191 ∧ (g 0 = 224 → 160 ≤ g 1) ∧ (g 0 = 237 → g 1 ≤ 159)) := fun _ => Iff.rfl
  have E4 : ∀ R, endS 4 R g ↔ 240 ≤ g 0 ∧ g 0 ≤ 244 ∧ (2 ≤ R → 128 ≤ g 1 ∧ g 1 ≤ 191 ∧ (g 0 = 240 → 144 ≤ g 1) ∧ (g 0 = 244 → g 1 ≤ 143)) ∧ (3 ≤ R → 128 ≤ g 2 ∧ g 2 ≤ 191) := fun _ => Iff.rfl
  unfold chainR nextS
  by_cases h0 : g 0 < 128
  · rw [if_pos (A1.2 h0), if_pos h0, valS1, if_pos h0]
  rw [if_neg (fun h => h0 (A1.1 h)), if_neg h0]
  by_cases h1 : g 0 < 194 ∨ 245 ≤ g 0
  · rw [if_pos h1]
    have n2 : ¬ accS 2 g := fun h => by have := A2.1 h; omega
    have n3 : ¬ accS 3 g := fun h => by have := A3.1 h; omega
    have n4 : ¬ accS 4 g := fun h => by have := A4.1 h; omega
    have m2 : ¬ endS 2 R g := fun h => by have := (E2 R).1 h; omega
    have m3 : ¬ endS 3 R g := fun h => by have := (E3 R).1 h; omega
    have m4 : ¬ endS 4 R g := fun h => by have := (E4 R).1 h; omega
    simp only [if_neg n2, if_neg n3, if_neg n4, if_neg m2, if_neg m3, if_neg m4, ite_self]
  rw [if_neg h1]
  by_cases r1 : R ≤ 1
  · rw [if_pos r1, if_pos (by omega)]
    by_cases q2 : g 0 < 224
    · rw [if_pos ((E2 R).2 (by omega))]
    by_cases q3 : g 0 < 240
    · rw [if_neg (fun h => by have := (E2 R).1 h; omega), if_pos ((E3 R).2 ⟨by omega, q3, fun h => by omega⟩)]
    · rw [if_neg (fun h => by have := (E2 R).1 h; omega), if_neg (fun h => by have := (E3 R).1 h; omega), if_pos ((E4 R).2 ⟨by omega, by omega, fun h => by omega, fun h => by omega⟩)]
  rw [if_neg r1, if_neg (show ¬ R < 2 by omega)]
  by_cases k1 : (g 1 < (if g 0 = 224 then 160 else if g 0 = 240 then 144 else 128)) ∨ (if g 0 = 237 then 159 else if g 0 = 244 then 143 else 191) < g 1
  · rw [if_pos k1]
    have n2 : ¬ accS 2 g := fun h => by have := A2.1 h; omega
    have n3 : ¬ accS 3 g := fun h => by have := A3.1 h; omega
    have n4 : ¬ accS 4 g := fun h => by have := A4.1 h; omega
    have m3 : ¬ endS 3 R g := fun h => by have := (E3 R).1 h; omega
    have m4 : ¬ endS 4 R g := fun h => by have := (E4 R).1 h; omega
    simp only [if_neg n2, if_neg n3, if_neg n4, if_neg m3, if_neg m4, ite_self]
  rw [if_neg k1]
  by_cases q2 : g 0 < 224
  · rw [if_pos q2, if_pos (A2.2 (by omega)), valS2, if_pos (by omega)]
  rw [if_neg q2, if_neg (fun h => by have := A2.1 h; omega)]
  by_cases r2 : R ≤ 2
  · rw [if_pos r2, if_pos (by omega)]
    by_cases q3 : g 0 < 240
    · rw [if_pos ((E3 R).2 (by omega))]
    · rw [if_neg (fun h => by have := (E3 R).1 h; omega), if_pos ((E4 R).2 (by omega))]
  rw [if_neg r2, if_neg (show ¬ R < 3 by omega)]
  by_cases k2 : g 2 < 128 ∨ 191 < g 2
  · rw [if_pos k2]
    have n3 : ¬ accS 3 g := fun h => by have := A3.1 h; omega
    have n4 : ¬ accS 4 g := fun h => by have := A4.1 h; omega
    have m4 : ¬ endS 4 R g := fun h => by have := (E4 R).1 h; omega
    simp only [if_neg n3, if_neg n4, if_neg m4, ite_self]
  rw [if_neg k2]
  by_cases q3 : g 0 < 240
  · rw [if_pos q3, if_pos (A3.2 (by omega)), valS3, if_pos (by omega)]
  rw [if_neg q3, if_neg (fun h => by have := A3.1 h; omega)]
  by_cases r3 : R ≤ 3
  · rw [if_pos r3, if_pos (by omega), if_pos ((E4 R).2 (by omega))]
  rw [if_neg r3, if_neg (show ¬ R < 4 by omega)]
  by_cases k3 : g 3 < 128 ∨ 191 < g 3
  · rw [if_pos k3, if_neg (fun h => by have := A4.1 h; omega)]
  · rw [if_neg k3, if_pos (A4.2 (by omega)), valS4, if_pos (by omega)]
/-- THE REFERENCE: the rune at a place. -/
theorem refNext_eq (s : ByteArray) (hs : s.size ≤ 100000) (at_ : Nat) (ha : at_ < s.size) : m_eponymref01_Next s (at_ : Int) = some (nextS (s.size - at_) fun i => bt s ((at_ + i : Nat) : Int)) := by
  rw [next_chain s hs at_ (s.size - at_) (fun i => bt s ((at_ + i : Nat) : Int)) (fun _ => rfl) (by omega) (by omega), chain_next _ _ (by omega) fun i => ⟨bt_lo _ _, bt_hi _ _⟩]
theorem iand8 {b : Int} (h0 : 0 ≤ b) (h1 : b ≤ 255) (k : Nat) (hk : k ≤ 8) : iand .u8 b (((2 ^ k - 1 : Nat) : Nat) : Int) = b % 2 ^ k := by
  obtain ⟨n, rfl⟩ : ∃ n : Nat, b = n := ⟨b.toNat, by omega⟩
  show IntKind.wrap .u8 (((BitVec.ofInt 8 (n : Int) &&& BitVec.ofInt 8 ((2 ^ k - 1 : Nat) : Int)).toNat : Nat) : Int) = _
  have hp : 2 ^ k ≤ 2 ^ 8 := Nat.pow_le_pow_right (by omega) hk
  have hp0 : 0 < 2 ^ k := Nat.pow_pos (by omega)
  rw [BitVec.ofInt_natCast, BitVec.ofInt_natCast, BitVec.toNat_and, BitVec.toNat_ofNat, BitVec.toNat_ofNat, Nat.mod_eq_of_lt (by omega), Nat.mod_eq_of_lt (by omega), Nat.and_two_pow_sub_one_eq_mod]
  have hm : n % 2 ^ k < 2 ^ k := Nat.mod_lt _ hp0
  rw [wu8 (by omega) (by omega)]
  simp
theorem ior32 {x y : Int} (h0 : 0 ≤ x) (h1 : x ≤ 30000000) (y0 : 0 ≤ y) (y1 : y < 64) : ior .i32 (x * 64) y = x * 64 + y := by
  obtain ⟨n, rfl⟩ : ∃ n : Nat, x = n := ⟨x.toNat, by omega⟩
  obtain ⟨m, rfl⟩ : ∃ n : Nat, y = n := ⟨y.toNat, by omega⟩
  have e : (n : Int) * 64 = ((2 ^ 6 * n : Nat) : Int) := by omega
  rw [e]
  show IntKind.wrap .i32 (((BitVec.ofInt 32 ((2 ^ 6 * n : Nat) : Int) ||| BitVec.ofInt 32 (m : Int)).toNat : Nat) : Int) = _
  rw [BitVec.ofInt_natCast, BitVec.ofInt_natCast, BitVec.toNat_or, BitVec.toNat_ofNat, BitVec.toNat_ofNat, Nat.mod_eq_of_lt (by omega), Nat.mod_eq_of_lt (by omega), ← Nat.two_pow_add_eq_or_of_lt (by omega), w32 (by omega) (by omega)]
  omega
/-- A wrong byte, or the end, at a place, as an error. -/
def utfEr (c : Int) (at_ : Int) : Er := if c = 0 then .nil else .box 51 at_ (.sent (if c = 1 then 2 else 3))
/-- What a rune's first byte tells: how many follow, its bits, the bounds of the next one. -/
def firstS (b : Int) : Int × Int × Int × Int :=
  if 245 ≤ b then (-1, 0, 128, 191)
  else if 240 ≤ b then (3, b - 240, (if b = 240 then 144 else 128), (if b = 244 then 143 else 191))
  else if 224 ≤ b then (2, b - 224, (if b = 224 then 160 else 128), (if b = 237 then 159 else 191))
  else if 194 ≤ b then (1, b - 192, 128, 191)
  else if 128 ≤ b then (-1, 0, 128, 191)
  else (0, b, 128, 191)
theorem first_eq (b : Int) (h0 : 0 ≤ b) (h1 : b ≤ 255) : m_utf_first b = some (firstS b) := by
  have f1 : Int.fdiv (63 : Int) (2 ^ (min (1 : Int).toNat (IntKind.bits .u8))) = ((2 ^ 5 - 1 : Nat) : Int) := by decide
  have f2 : Int.fdiv (63 : Int) (2 ^ (min (2 : Int).toNat (IntKind.bits .u8))) = ((2 ^ 4 - 1 : Nat) : Int) := by decide
  have f3 : Int.fdiv (63 : Int) (2 ^ (min (3 : Int).toNat (IntKind.bits .u8))) = ((2 ^ 3 - 1 : Nat) : Int) := by decide
  have c1 : IntKind.wrap .i64 ((0 : Int) + 1) = 1 := by decide
  have c2 : IntKind.wrap .i64 ((1 : Int) + 1) = 2 := by decide
  have c3 : IntKind.wrap .i64 ((2 : Int) + 1) = 3 := by decide
  unfold m_utf_first firstS
  rw [c1, c2, c3]
  by_cases a1 : b ≥ 245
  · rw [decide_eq_true a1, if_pos (show 245 ≤ b from a1)]; rfl
  rw [decide_eq_false a1, cond_false, if_neg (show ¬ 245 ≤ b from a1)]
  by_cases a2 : b ≥ 240
  · rw [decide_eq_true a2, if_pos (show 240 ≤ b from a2), cond_true, bind_some']
    simp only
    unfold m_utf_first_K2
    rw [f3, iand8 h0 h1 3 (by omega), w32 (by omega) (by omega), beq_false_of_ne (show b ≠ 224 by omega), cond_false, beq_false_of_ne (show b ≠ 237 by omega), cond_false, if_pos (by omega)]
    have e : b % 2 ^ 3 = b - 240 := by omega
    rw [e]
    by_cases q : b = 240
    · subst q; rfl
    rw [beq_false_of_ne q, cond_false, if_neg q]
    by_cases q' : b = 244
    · subst q'; rfl
    rw [beq_false_of_ne q', cond_false, if_neg q']; rfl
  rw [decide_eq_false a2, cond_false, if_neg (show ¬ 240 ≤ b from a2)]
  by_cases a3 : b ≥ 224
  · rw [decide_eq_true a3, if_pos (show 224 ≤ b from a3), cond_true, bind_some']
    simp only
    unfold m_utf_first_K2
    rw [f2, iand8 h0 h1 4 (by omega), w32 (by omega) (by omega), if_pos (by omega), beq_false_of_ne (show b ≠ 240 by omega), cond_false, beq_false_of_ne (show b ≠ 244 by omega), cond_false]
    have e : b % 2 ^ 4 = b - 224 := by omega
    rw [e]
    by_cases q : b = 224
    · subst q; rfl
    rw [beq_false_of_ne q, cond_false, if_neg q]
    by_cases q' : b = 237
    · subst q'; rfl
    rw [beq_false_of_ne q', cond_false, if_neg q']; rfl
  rw [decide_eq_false a3, cond_false, if_neg (show ¬ 224 ≤ b from a3)]
  by_cases a4 : b ≥ 194
  · rw [decide_eq_true a4, if_pos (show 194 ≤ b from a4), cond_true, bind_some']
    simp only
    unfold m_utf_first_K2
    rw [f1, iand8 h0 h1 5 (by omega), w32 (by omega) (by omega), if_pos (by omega), beq_false_of_ne (show b ≠ 240 by omega), cond_false, beq_false_of_ne (show b ≠ 244 by omega), cond_false, beq_false_of_ne (show b ≠ 224 by omega), cond_false, beq_false_of_ne (show b ≠ 237 by omega), cond_false]
    have e : b % 2 ^ 5 = b - 192 := by omega
    rw [e]; rfl
  rw [decide_eq_false a4, cond_false, if_neg (show ¬ 194 ≤ b from a4)]
  by_cases a5 : b ≥ 128
  · rw [decide_eq_true a5, if_pos (show 128 ≤ b from a5)]; rfl
  rw [decide_eq_false a5, cond_false, if_neg (show ¬ 128 ≤ b from a5), bind_some', w32 (by omega) (by omega)]
theorem fault_utf (at_ : Int) (e : Er) : m_utf_fault at_ e = some (.box 51 at_ e) := rfl
theorem lu_end (s : ByteArray) (at_ : Int) (y : Int × Int × Int × Int) (r lo hi i : Int) (h : y.1 < i) : iter (m_utf_Next_L10 s at_ y) (r, lo, hi, i) = some (.inl r) := by
  refine iter_done ?_
  unfold m_utf_Next_L10
  simp only
  rw [decide_eq_false (by omega)]; rfl
theorem lu_step (s : ByteArray) (hs : s.size ≤ 100000) (at_ i : Nat) (y : Int × Int × Int × Int) (r lo hi : Int) (ha : at_ < s.size) (h : (i : Int) ≤ y.1) (hi3 : i ≤ 3) (r0 : 0 ≤ r) (r1 : r ≤ 30000000) :
    iter (m_utf_Next_L10 s (at_ : Int) y) (r, lo, hi, (i : Int)) = if s.size - at_ ≤ i then some (.inr (0, 0, utfEr 2 at_)) else if bt s ((at_ + i : Nat) : Int) < lo ∨ hi < bt s ((at_ + i : Nat) : Int) then some (.inr (0, 0, utfEr 1 at_)) else iter (m_utf_Next_L10 s (at_ : Int) y) (r * 64 + bt s ((at_ + i : Nat) : Int) % 64, 128, 191, ((i + 1 : Nat) : Int)) := by
  have hw : IntKind.wrap .i64 ((at_ : Int) + (i : Int)) = ((at_ + i : Nat) : Int) := by rw [w64 (by omega) (by omega)]; omega
  have b0 := bt_lo s ((at_ + i : Nat) : Int)
  have b1 := bt_hi s ((at_ + i : Nat) : Int)
  have i63 : (63 : Int) = ((2 ^ 6 - 1 : Nat) : Int) := rfl
  by_cases hR : s.size - at_ ≤ i
  · rw [if_pos hR]
    refine iter_done ?_
    unfold m_utf_Next_L10
    simp only
    rw [decide_eq_true h, cond_true, hw, decide_eq_true (by omega), cond_true, fault_utf]; rfl
  · rw [if_neg hR]
    have e : m_utf_Next_L10 s (at_ : Int) y (r, lo, hi, (i : Int)) = m_utf_Next_K14 s (at_ : Int) (r, lo, hi, (i : Int)) (decide (bt s ((at_ + i : Nat) : Int) < lo ∨ hi < bt s ((at_ + i : Nat) : Int))) := by
      unfold m_utf_Next_L10
      simp only
      rw [decide_eq_true h, cond_true, hw, decide_eq_false (by omega), cond_false, if_pos ⟨by omega, by omega⟩]
      by_cases q : bt s ((at_ + i : Nat) : Int) < lo
      · rw [decide_eq_true q, cond_true, bind_some', decide_eq_true (Or.inl q)]
      · rw [decide_eq_false q, cond_false, bind_some']
        congr 1
        rw [decide_eq_decide]
        constructor
        · exact fun h => .inr h
        · exact fun h => h.resolve_left q
    by_cases q : bt s ((at_ + i : Nat) : Int) < lo ∨ hi < bt s ((at_ + i : Nat) : Int)
    · rw [if_pos q]
      rw [decide_eq_true q] at e
      exact iter_done (e.trans rfl)
    · rw [if_neg q]
      rw [decide_eq_false q] at e
      refine (iter_next (e.trans ?_))
      unfold m_utf_Next_K14
      simp only
      rw [cond_false, hw, w32 (x := r * 64) (by omega) (by omega), i63, iand8 b0 b1 6 (by omega)]
      have hm : bt s ((at_ + i : Nat) : Int) % 2 ^ 6 = bt s ((at_ + i : Nat) : Int) % 64 := rfl
      rw [hm, w32 (x := bt s ((at_ + i : Nat) : Int) % 64) (by omega) (by omega), ior32 r0 r1 (by omega) (by omega), up (by omega)]
/-- THE PROGRAM: the rune at a place. -/
theorem utfNext_eq (s : ByteArray) (hs : s.size ≤ 100000) (at_ : Nat) (ha : at_ < s.size) (q : Int × Int × Int) (hq : nextS (s.size - at_) (fun i => bt s ((at_ + i : Nat) : Int)) = q) : m_utf_Next s (at_ : Int) = some (q.1, q.2.1, utfEr q.2.2 at_) := by
  have b0 := bt_lo s ((at_ + 0 : Nat) : Int)
  have b1 := bt_hi s ((at_ + 0 : Nat) : Int)
  have d1 := bt_lo s ((at_ + 1 : Nat) : Int)
  have d2 := bt_lo s ((at_ + 1 + 1 : Nat) : Int)
  have d3 := bt_lo s ((at_ + 1 + 1 + 1 : Nat) : Int)
  have hb : bt s (at_ : Int) = bt s ((at_ + 0 : Nat) : Int) := rfl
  subst hq
  obtain ⟨F, hF⟩ : ∃ F : Int × Int × Int → Option (Int × Int × Er), ∀ q, F q = some (q.1, q.2.1, utfEr q.2.2 at_) := ⟨_, fun _ => rfl⟩
  have FI : ∀ (c : Prop) [Decidable c] (a b : Int × Int × Int), F (if c then a else b) = if c then F a else F b := fun c _ a b => by
    by_cases h : c
    · rw [if_pos h, if_pos h]
    · rw [if_neg h, if_neg h]
  rw [← hF]
  unfold m_utf_Next
  rw [decide_eq_false (show ¬ (at_ : Int) < 0 by omega), cond_false, decide_eq_false (by omega), bind_some']
  unfold m_utf_Next_K2
  rw [cond_false, if_pos ⟨by omega, by omega⟩, hb, first_eq _ b0 b1, bind_some']
  have one : (1 : Int) = ((1 : Nat) : Int) := rfl
  have i2 : bt s ((at_ + 2 : Nat) : Int) = bt s ((at_ + 1 + 1 : Nat) : Int) := rfl
  have i3 : bt s ((at_ + 3 : Nat) : Int) = bt s ((at_ + 1 + 1 + 1 : Nat) : Int) := rfl
  unfold nextS
  simp only [i2, i3, FI, hF]
  obtain ⟨g0, hg0⟩ : ∃ g0, bt s ((at_ + 0 : Nat) : Int) = g0 := ⟨_, rfl⟩
  obtain ⟨R, hR⟩ : ∃ R, s.size - at_ = R := ⟨_, rfl⟩
  simp only [hg0, hR] at b0 b1 ⊢
  by_cases a1 : g0 < 128
  · have ef : firstS g0 = (0, g0, 128, 191) := by
      unfold firstS
      rw [if_neg (by omega), if_neg (by omega), if_neg (by omega), if_neg (by omega), if_neg (by omega)]
    rw [if_pos a1, ef]
    simp only
    rw [lu_end _ _ _ _ _ _ _ (by show (0 : Int) < 1; omega), bind_some']
    rfl
  rw [if_neg a1]
  by_cases a2 : g0 < 194 ∨ 245 ≤ g0
  · have ef : firstS g0 = (-1, 0, 128, 191) := by
      unfold firstS
      by_cases q : 245 ≤ g0
      · rw [if_pos q]
      · rw [if_neg q, if_neg (by omega), if_neg (by omega), if_neg (by omega), if_pos (by omega)]
    rw [if_pos a2, ef]
    rfl
  rw [if_neg a2]
  have key : ∀ (c : Nat) (r lo hi : Int), 1 ≤ c → c ≤ 3 → firstS g0 = ((c : Int), r, lo, hi) → 0 ≤ r → r ≤ 100 →
      (bif decide ((firstS g0).1 < 0) then Option.bind (m_utf_fault (at_ : Int) (Er.sent 2)) fun y5 => some (0, 0, y5)
        else Option.bind (iter (m_utf_Next_L10 s (at_ : Int) (firstS g0)) ((firstS g0).2.1, (firstS g0).2.2.1, (firstS g0).2.2.2, 1) : Option (Sum Int (Int × Int × Er))) fun z =>
          match z with
          | .inl s6 => some (s6, IntKind.wrap .i64 ((firstS g0).1 + 1), Er.nil)
          | .inr v18 => some (v18.1, v18.2.1, v18.2.2)) =
      if R ≤ 1 then some (0, 0, utfEr 2 at_) else if bt s ((at_ + 1 : Nat) : Int) < lo ∨ hi < bt s ((at_ + 1 : Nat) : Int) then some (0, 0, utfEr 1 at_)
      else if c = 1 then some (r * 64 + bt s ((at_ + 1 : Nat) : Int) % 64, 2, .nil)
      else if R ≤ 2 then some (0, 0, utfEr 2 at_) else if bt s ((at_ + 1 + 1 : Nat) : Int) < 128 ∨ 191 < bt s ((at_ + 1 + 1 : Nat) : Int) then some (0, 0, utfEr 1 at_)
      else if c = 2 then some ((r * 64 + bt s ((at_ + 1 : Nat) : Int) % 64) * 64 + bt s ((at_ + 1 + 1 : Nat) : Int) % 64, 3, .nil)
      else if R ≤ 3 then some (0, 0, utfEr 2 at_) else if bt s ((at_ + 1 + 1 + 1 : Nat) : Int) < 128 ∨ 191 < bt s ((at_ + 1 + 1 + 1 : Nat) : Int) then some (0, 0, utfEr 1 at_)
      else some (((r * 64 + bt s ((at_ + 1 : Nat) : Int) % 64) * 64 + bt s ((at_ + 1 + 1 : Nat) : Int) % 64) * 64 + bt s ((at_ + 1 + 1 + 1 : Nat) : Int) % 64, 4, .nil) := by
    intro c r lo hi c1 c3 hf r0 r1
    rw [hf]
    simp only
    have w : IntKind.wrap .i64 ((c : Int) + 1) = ((c + 1 : Nat) : Int) := up (by omega)
    rw [decide_eq_false (by omega), cond_false, w, one, lu_step s hs at_ 1 _ r lo hi ha (by show ((1 : Nat) : Int) ≤ (c : Int); omega) (by omega) r0 (by omega), hR]
    by_cases q1 : R ≤ 1
    · rw [if_pos q1, if_pos q1]; rfl
    rw [if_neg q1, if_neg q1]
    by_cases k1 : bt s ((at_ + 1 : Nat) : Int) < lo ∨ hi < bt s ((at_ + 1 : Nat) : Int)
    · rw [if_pos k1, if_pos k1]; rfl
    rw [if_neg k1, if_neg k1]
    by_cases e1 : c = 1
    · subst e1
      rw [if_pos rfl, lu_end _ _ _ _ _ _ _ (by show ((1 : Nat) : Int) < ((1 + 1 : Nat) : Int); omega)]; rfl
    rw [if_neg e1, lu_step s hs at_ (1 + 1) _ _ 128 191 ha (by show ((1 + 1 : Nat) : Int) ≤ (c : Int); omega) (by omega) (by omega) (by omega), hR]
    by_cases q2 : R ≤ 2
    · rw [if_pos q2, if_pos q2]; rfl
    rw [if_neg q2, if_neg (show ¬ R ≤ 1 + 1 from q2)]
    have i2' : bt s ((at_ + (1 + 1) : Nat) : Int) = bt s ((at_ + 1 + 1 : Nat) : Int) := rfl
    rw [i2']
    by_cases k2 : bt s ((at_ + 1 + 1 : Nat) : Int) < 128 ∨ 191 < bt s ((at_ + 1 + 1 : Nat) : Int)
    · rw [if_pos k2, if_pos k2]; rfl
    rw [if_neg k2, if_neg k2]
    by_cases e2 : c = 2
    · subst e2
      rw [if_pos rfl, lu_end _ _ _ _ _ _ _ (by show ((2 : Nat) : Int) < ((1 + 1 + 1 : Nat) : Int); omega)]; rfl
    rw [if_neg e2, lu_step s hs at_ (1 + 1 + 1) _ _ 128 191 ha (by show ((1 + 1 + 1 : Nat) : Int) ≤ (c : Int); omega) (by omega) (by omega) (by omega), hR]
    by_cases q3 : R ≤ 3
    · rw [if_pos q3, if_pos q3]; rfl
    rw [if_neg q3, if_neg (show ¬ R ≤ 1 + 1 + 1 from q3)]
    have i3' : bt s ((at_ + (1 + 1 + 1) : Nat) : Int) = bt s ((at_ + 1 + 1 + 1 : Nat) : Int) := rfl
    rw [i3']
    by_cases k3 : bt s ((at_ + 1 + 1 + 1 : Nat) : Int) < 128 ∨ 191 < bt s ((at_ + 1 + 1 + 1 : Nat) : Int)
    · rw [if_pos k3, if_pos k3]; rfl
    rw [if_neg k3, if_neg k3]
    have e3 : c = 3 := by omega
    subst e3
    rw [lu_end _ _ _ _ _ _ _ (by show ((3 : Nat) : Int) < ((1 + 1 + 1 + 1 : Nat) : Int); omega)]; rfl
  by_cases a3 : g0 < 224
  · have ef : firstS g0 = (((1 : Nat) : Int), g0 - 192, 128, 191) := by
      unfold firstS
      rw [if_neg (by omega), if_neg (by omega), if_neg (by omega), if_pos (by omega)]; rfl
    refine (key 1 _ _ _ (by omega) (by omega) ef (by omega) (by omega)).trans ?_
    simp only [if_pos a3, if_neg (show ¬ g0 = 224 by omega), if_neg (show ¬ g0 = 240 by omega), if_neg (show ¬ g0 = 237 by omega), if_neg (show ¬ g0 = 244 by omega), if_true]
    split
    · rfl
    · split
      · rfl
      · refine congrArg some (Prod.ext ?_ rfl)
        show _ = (g0 - 192) * 64 + bt s ((at_ + 1 : Nat) : Int) - 128
        omega
  by_cases a4 : g0 < 240
  · have ef : firstS g0 = (((2 : Nat) : Int), g0 - 224, (if g0 = 224 then 160 else 128), (if g0 = 237 then 159 else 191)) := by
      unfold firstS
      rw [if_neg (by omega), if_neg (by omega), if_pos (by omega)]; rfl
    refine (key 2 _ _ _ (by omega) (by omega) ef (by omega) (by omega)).trans ?_
    simp only [if_neg a3, if_pos a4, if_neg (show ¬ g0 = 240 by omega), if_neg (show ¬ g0 = 244 by omega), if_true, if_neg (show ¬ (2 : Nat) = 1 by omega)]
    by_cases q1 : R ≤ 1
    · rw [if_pos q1, if_pos q1]
    rw [if_neg q1, if_neg q1]
    by_cases k1 : bt s ((at_ + 1 : Nat) : Int) < (if g0 = 224 then 160 else 128) ∨ (if g0 = 237 then 159 else 191) < bt s ((at_ + 1 : Nat) : Int)
    · rw [if_pos k1, if_pos k1]
    rw [if_neg k1, if_neg k1]
    by_cases q2 : R ≤ 2
    · rw [if_pos q2, if_pos q2]
    rw [if_neg q2, if_neg q2]
    by_cases k2 : bt s ((at_ + 1 + 1 : Nat) : Int) < 128 ∨ 191 < bt s ((at_ + 1 + 1 : Nat) : Int)
    · rw [if_pos k2, if_pos k2]
    rw [if_neg k2, if_neg k2]
    refine congrArg some (Prod.ext ?_ rfl)
    show _ = ((g0 - 224) * 64 + bt s ((at_ + 1 : Nat) : Int) - 128) * 64 + bt s ((at_ + 1 + 1 : Nat) : Int) - 128
    omega
  · have ef : firstS g0 = (((3 : Nat) : Int), g0 - 240, (if g0 = 240 then 144 else 128), (if g0 = 244 then 143 else 191)) := by
      unfold firstS
      rw [if_neg (by omega), if_pos (by omega)]; rfl
    refine (key 3 _ _ _ (by omega) (by omega) ef (by omega) (by omega)).trans ?_
    simp only [if_neg a3, if_neg a4, if_neg (show ¬ g0 = 224 by omega), if_neg (show ¬ g0 = 237 by omega), if_neg (show ¬ (3 : Nat) = 1 by omega), if_neg (show ¬ (3 : Nat) = 2 by omega)]
    by_cases q1 : R ≤ 1
    · rw [if_pos q1, if_pos q1]
    rw [if_neg q1, if_neg q1]
    by_cases k1 : bt s ((at_ + 1 : Nat) : Int) < (if g0 = 240 then 144 else 128) ∨ (if g0 = 244 then 143 else 191) < bt s ((at_ + 1 : Nat) : Int)
    · rw [if_pos k1, if_pos k1]
    rw [if_neg k1, if_neg k1]
    by_cases q2 : R ≤ 2
    · rw [if_pos q2, if_pos q2]
    rw [if_neg q2, if_neg q2]
    by_cases k2 : bt s ((at_ + 1 + 1 : Nat) : Int) < 128 ∨ 191 < bt s ((at_ + 1 + 1 : Nat) : Int)
    · rw [if_pos k2, if_pos k2]
    rw [if_neg k2, if_neg k2]
    by_cases q3 : R ≤ 3
    · rw [if_pos q3, if_pos q3]
    rw [if_neg q3, if_neg q3]
    by_cases k3 : bt s ((at_ + 1 + 1 + 1 : Nat) : Int) < 128 ∨ 191 < bt s ((at_ + 1 + 1 + 1 : Nat) : Int)
    · rw [if_pos k3, if_pos k3]
    rw [if_neg k3, if_neg k3]
    refine congrArg some (Prod.ext ?_ rfl)
    show _ = (((g0 - 240) * 64 + bt s ((at_ + 1 : Nat) : Int) - 128) * 64 + bt s ((at_ + 1 + 1 : Nat) : Int) - 128) * 64 + bt s ((at_ + 1 + 1 + 1 : Nat) : Int) - 128
    omega
theorem next_props (R : Nat) (g : Nat → Int) (hR : 1 ≤ R) (hb : ∀ i, 0 ≤ g i ∧ g i ≤ 255) :
    ((nextS R g).2.2 = 0 ∧ rightS (nextS R g).1 = true ∧ 1 ≤ (nextS R g).2.1 ∧ (nextS R g).2.1 ≤ (R : Int) ∧ (nextS R g).2.1 ≤ 4) ∨ (nextS R g).2.2 = 1 ∨ (nextS R g).2.2 = 2 := by
  have b0 := hb 0
  have b1 := hb 1
  have b2 := hb 2
  have b3 := hb 3
  unfold nextS rightS
  by_cases h0 : g 0 < 128
  · rw [if_pos h0]; left; refine ⟨rfl, ?_, ?_, ?_, ?_⟩ <;> simp <;> omega
  rw [if_neg h0]
  by_cases h1 : g 0 < 194 ∨ 245 ≤ g 0
  · rw [if_pos h1]; right; left; rfl
  rw [if_neg h1]
  by_cases r1 : R ≤ 1
  · rw [if_pos r1]; right; right; rfl
  rw [if_neg r1]
  by_cases k1 : (g 1 < (if g 0 = 224 then 160 else if g 0 = 240 then 144 else 128)) ∨ (if g 0 = 237 then 159 else if g 0 = 244 then 143 else 191) < g 1
  · rw [if_pos k1]; right; left; rfl
  rw [if_neg k1]
  by_cases q2 : g 0 < 224
  · rw [if_pos q2]; left; refine ⟨rfl, ?_, ?_, ?_, ?_⟩ <;> simp <;> omega
  rw [if_neg q2]
  by_cases r2 : R ≤ 2
  · rw [if_pos r2]; right; right; rfl
  rw [if_neg r2]
  by_cases k2 : g 2 < 128 ∨ 191 < g 2
  · rw [if_pos k2]; right; left; rfl
  rw [if_neg k2]
  by_cases q3 : g 0 < 240
  · rw [if_pos q3]; left; refine ⟨rfl, ?_, ?_, ?_, ?_⟩ <;> simp <;> omega
  rw [if_neg q3]
  by_cases r3 : R ≤ 3
  · rw [if_pos r3]; right; right; rfl
  rw [if_neg r3]
  by_cases k3 : g 3 < 128 ∨ 191 < g 3
  · rw [if_pos k3]; right; left; rfl
  · rw [if_neg k3]; left; refine ⟨rfl, ?_, ?_, ?_, ?_⟩ <;> simp <;> omega
theorem utfEr_nil (c a : Int) : (utfEr c a).isNil = decide (c = 0) := by
  unfold utfEr
  by_cases h : c = 0
  · rw [if_pos h, decide_eq_true h]; rfl
  · rw [if_neg h, decide_eq_false h]; rfl
/-- BOTH DECODINGS. -/
theorem decode_both (s : ByteArray) (hs : s.size ≤ 100000) : ∃ y : List Int × Int × Int, m_eponymref01_Decode s = some y ∧ m_utf_Decode s = some (y.1, utfEr y.2.2 y.2.1) ∧ (y.2.2 = 0 ∨ y.2.2 = 1 ∨ y.2.2 = 2) ∧ y.1.length ≤ s.size ∧ ∀ x ∈ y.1, rightS x = true := by
  have key : ∀ (k at_ : Nat) (out : List Int), s.size - at_ ≤ k → at_ ≤ s.size → out.length ≤ at_ → (∀ x ∈ out, rightS x = true) →
      (∃ l, iter (m_eponymref01_Decode_L5 s) (out, (at_ : Int)) = some (.inl l) ∧ iter (m_utf_Decode_L5 s) (out, (at_ : Int)) = some (.inl l) ∧ l.length ≤ s.size ∧ ∀ x ∈ l, rightS x = true) ∨
      ∃ (a c : Int), iter (m_eponymref01_Decode_L5 s) (out, (at_ : Int)) = some (.inr ([], a, c)) ∧ iter (m_utf_Decode_L5 s) (out, (at_ : Int)) = some (.inr ([], utfEr c a)) ∧ (c = 1 ∨ c = 2) := by
    intro k
    induction k with
    | zero =>
      intro at_ out hk ha ho hr
      left
      refine ⟨out, iter_done ?_, iter_done ?_, by omega, hr⟩
      · unfold m_eponymref01_Decode_L5
        simp only
        rw [decide_eq_false (by omega)]; rfl
      · unfold m_utf_Decode_L5
        simp only
        rw [decide_eq_false (by omega)]; rfl
    | succ k ih =>
      intro at_ out hk ha ho hr
      by_cases hlt : at_ < s.size
      · obtain ⟨q, hq⟩ : ∃ q, nextS (s.size - at_) (fun i => bt s ((at_ + i : Nat) : Int)) = q := ⟨_, rfl⟩
        have e1 := refNext_eq s hs at_ hlt
        have e2 := utfNext_eq s hs at_ hlt q hq
        rw [hq] at e1
        have hp := next_props (s.size - at_) (fun i => bt s ((at_ + i : Nat) : Int)) (by omega) fun i => ⟨bt_lo _ _, bt_hi _ _⟩
        rw [hq] at hp
        rcases hp with ⟨h0, hright, n1, n2, n4⟩ | hc
        · obtain ⟨m, hm⟩ : ∃ m : Nat, q.2.1 = m := ⟨q.2.1.toNat, by omega⟩
          have s1 : m_eponymref01_Decode_L5 s (out, (at_ : Int)) = some (.next (out ++ [q.1], ((at_ + m : Nat) : Int))) := by
            unfold m_eponymref01_Decode_L5
            simp only
            rw [decide_eq_true (by omega), cond_true, e1, bind_some', h0, hm, show ((0 : Int) != 0) = false by decide, cond_false, if_pos (by omega), w64 (by omega) (by omega)]
            rfl
          have s2 : m_utf_Decode_L5 s (out, (at_ : Int)) = some (.next (out ++ [q.1], ((at_ + m : Nat) : Int))) := by
            unfold m_utf_Decode_L5
            simp only
            rw [decide_eq_true (by omega), cond_true, e2, bind_some']
            simp only
            rw [utfEr_nil, decide_eq_true h0, hm, if_pos (by omega), w64 (by omega) (by omega)]
            rfl
          rw [iter_next s1, iter_next s2]
          refine ih (at_ + m) (out ++ [q.1]) (by omega) (by omega) (by simp; omega) fun x hx => ?_
          rcases List.mem_append.1 hx with hx | hx
          · exact hr x hx
          · simp at hx; subst hx; exact hright
        · right
          have hne : q.2.2 ≠ 0 := by omega
          refine ⟨(at_ : Int), q.2.2, iter_done ?_, iter_done ?_, hc⟩
          · unfold m_eponymref01_Decode_L5
            simp only
            rw [decide_eq_true (by omega), cond_true, e1, bind_some', bne_iff_ne.2 hne]; rfl
          · unfold m_utf_Decode_L5
            simp only
            rw [decide_eq_true (by omega), cond_true, e2, bind_some']
            simp only
            rw [utfEr_nil, decide_eq_false hne]; rfl
      · left
        refine ⟨out, iter_done ?_, iter_done ?_, by omega, hr⟩
        · unfold m_eponymref01_Decode_L5
          simp only
          rw [decide_eq_false (by omega)]; rfl
        · unfold m_utf_Decode_L5
          simp only
          rw [decide_eq_false (by omega)]; rfl
  have z0 : (0 : Int) = ((0 : Nat) : Int) := rfl
  rcases key s.size 0 [] (by omega) (by omega) (by simp) (fun x hx => by cases hx) with ⟨l, h1, h2, h3, h4⟩ | ⟨a, c, h1, h2, h3⟩
  · refine ⟨(l, 0, 0), ?_, ?_, .inl rfl, h3, h4⟩
    · unfold m_eponymref01_Decode
      rw [z0, h1]; rfl
    · unfold m_utf_Decode
      rw [z0, h2]; rfl
  · refine ⟨([], a, c), ?_, ?_, .inr h3, by simp, fun x hx => by cases hx⟩
    · unfold m_eponymref01_Decode
      rw [z0, h1]; rfl
    · unfold m_utf_Decode
      rw [z0, h2]; rfl
/-! ### Runes as bytes -/
theorem check_b (b : Bool) (l : List Int) : m_strings_Builder_copyCheck_own b l = some true := by cases b <;> rfl
theorem write_b (b : Bool) (l : List Int) (c : Int) (h : l.length ≤ 1000000) : m_strings_Builder_WriteByte_own b l c = some (true, l ++ [c], Er.nil) := by
  unfold m_strings_Builder_WriteByte_own
  rw [check_b, bind_some', if_pos (by omega)]
theorem string_b (b : Bool) (l : List Int) (h : l.length ≤ 1000000) : m_strings_Builder_String_own b l = some (b, l, strOfNums l) := by
  unfold m_strings_Builder_String_own
  rw [if_pos (by omega), List.take_length]
theorem ior8 {k : Nat} {x y : Int} (hk : k ≤ 8) (h0 : 0 ≤ x) (h1 : x * 2 ^ k + y ≤ 255) (y0 : 0 ≤ y) (y1 : y < 2 ^ k) : ior .u8 (x * 2 ^ k) y = x * 2 ^ k + y := by
  obtain ⟨n, rfl⟩ : ∃ n : Nat, x = n := ⟨x.toNat, by omega⟩
  obtain ⟨m, rfl⟩ : ∃ n : Nat, y = n := ⟨y.toNat, by omega⟩
  have e : (n : Int) * 2 ^ k = ((2 ^ k * n : Nat) : Int) := by rw [Nat.mul_comm]; simp
  have hm : m < 2 ^ k := by
    have : ((2 ^ k : Nat) : Int) = 2 ^ k := by simp
    omega
  rw [e] at h1 ⊢
  show IntKind.wrap .u8 (((BitVec.ofInt 8 ((2 ^ k * n : Nat) : Int) ||| BitVec.ofInt 8 (m : Int)).toNat : Nat) : Int) = _
  rw [BitVec.ofInt_natCast, BitVec.ofInt_natCast, BitVec.toNat_or, BitVec.toNat_ofNat, BitVec.toNat_ofNat, Nat.mod_eq_of_lt (by omega), Nat.mod_eq_of_lt (by omega), ← Nat.two_pow_add_eq_or_of_lt hm, wu8 (by omega) (by omega)]
  omega
theorem wu8m {x : Int} (h : 0 ≤ x) : IntKind.wrap .u8 x = x % 256 := by
  have e1 : (IntKind.u8).bits = 8 := rfl
  have e2 : (IntKind.u8).signed = false := rfl
  simp only [IntKind.wrap, e1, e2, Bool.false_and]
  simp
theorem shr6 {r : Int} (h : 0 ≤ r) (k : Nat) (hk : k ≤ 3) : Int.fdiv r (2 ^ (min (IntKind.wrap .i64 ((6 : Int) * (k : Int))).toNat (IntKind.bits .i32))) = r / 2 ^ (6 * k) := by
  have e : IntKind.wrap .i64 ((6 : Int) * (k : Int)) = ((6 * k : Nat) : Int) := by rw [w64 (by omega) (by omega)]; omega
  have b : IntKind.bits .i32 = 32 := rfl
  rw [e, Int.toNat_natCast, b, Nat.min_eq_left (by omega), Int.fdiv_eq_ediv_of_nonneg _ (Int.pow_nonneg (by omega))]
theorem cont_b {r : Int} (h : 0 ≤ r) (k : Nat) (hk : k ≤ 3) : ior .u8 128 (iand .u8 (IntKind.wrap .u8 (r / 2 ^ (6 * k))) 63) = 128 + r / 2 ^ (6 * k) % 64 := by
  have hq : 0 ≤ r / 2 ^ (6 * k) := Int.ediv_nonneg h (Int.pow_nonneg (by omega))
  rw [wu8m hq]
  have i63 : (63 : Int) = ((2 ^ 6 - 1 : Nat) : Int) := rfl
  rw [i63, iand8 (by omega) (by omega) 6 (by omega)]
  generalize r / 2 ^ (6 * k) = q at hq ⊢
  have e : q % 256 % 2 ^ 6 = q % 64 := by omega
  rw [e]
  have := ior8 (k := 6) (x := 2) (y := q % 64) (by omega) (by omega) (by omega) (by omega) (by omega)
  exact this
theorem put_step {r : Int} (h : 0 ≤ r) (b : Bool) (out : List Int) (k : Nat) (hk : k ≤ 3) (ho : out.length ≤ 1000000) :
    iter (m_utf_put_own_L9 r) (b, out, (k : Int)) = iter (m_utf_put_own_L9 r) (true, out ++ [128 + r / 2 ^ (6 * k) % 64], (k : Int) - 1) := by
  refine iter_next ?_
  unfold m_utf_put_own_L9
  simp only
  have e : IntKind.wrap .i64 ((6 : Int) * (k : Int)) = ((6 * k : Nat) : Int) := by rw [w64 (by omega) (by omega)]; omega
  rw [decide_eq_true (by omega), cond_true, if_pos (by rw [e]; omega), shr6 h k hk, cont_b h k hk, write_b _ _ _ ho, bind_some', w64 (x := (k : Int) - 1) (by omega) (by omega)]
theorem put_end {r : Int} (b : Bool) (out : List Int) : iter (m_utf_put_own_L9 r) (b, out, -1) = some (b, out) := by
  refine iter_done ?_
  unfold m_utf_put_own_L9
  simp only
  rw [decide_eq_false (by omega)]; rfl
theorem width_eq {r : Int} (h : rightS r = true) : m_utf_Width r = some (if r < 128 then 1 else if r < 2048 then 2 else if r < 65536 then 3 else 4) := by
  have hr : m_utf_Right r = some true := by
    unfold rightS at h
    rw [decide_eq_true_eq] at h
    unfold m_utf_Right
    rw [decide_eq_true (show r ≥ 0 from h.1), cond_true, decide_eq_true (show r ≤ 1114111 from h.2.1), cond_true]
    by_cases q : r < 55296
    · rw [decide_eq_true q]; rfl
    · rw [decide_eq_false q, cond_false, decide_eq_true (by omega)]
  unfold m_utf_Width
  rw [hr, bind_some', Bool.not_true, cond_false]
  by_cases a : r < 128
  · rw [decide_eq_true a, if_pos a]; rfl
  rw [decide_eq_false a, if_neg a, cond_false]
  by_cases b : r < 2048
  · rw [decide_eq_true b, if_pos b]; rfl
  rw [decide_eq_false b, if_neg b, cond_false]
  by_cases c : r < 65536
  · rw [decide_eq_true c, if_pos c]; rfl
  · rw [decide_eq_false c, if_neg c]; rfl
theorem put_eq {r : Int} (h : rightS r = true) (b : Bool) (out : List Int) (ho : out.length ≤ 900000) : m_utf_put_own b out r = some (true, out ++ formL r) := by
  have hr := h
  unfold rightS at hr
  rw [decide_eq_true_eq] at hr
  unfold m_utf_put_own
  rw [width_eq h, bind_some']
  by_cases a : r < 128
  · rw [if_pos a, show ((1 : Int) == 1) = true from rfl, cond_true, wu8 hr.1 (by omega), write_b _ _ _ (by omega), bind_some']
    unfold formL
    rw [if_pos a]
  rw [if_neg a]
  by_cases b2 : r < 2048
  · have w1 : IntKind.wrap .i64 ((4 : Int) - 2) = 2 := by decide
    have w2 : IntKind.wrap .i64 ((2 : Int) - 1) = ((1 : Nat) : Int) := by decide
    have w3 : IntKind.wrap .u8 ((240 : Int) * 2 ^ (min (2 : Int).toNat (IntKind.bits .u8))) = 3 * 2 ^ 6 := by decide
    have w4 : IntKind.wrap .i64 ((2 : Int) - 2) = ((0 : Nat) : Int) := by decide
    have w5 : 0 ≤ IntKind.wrap .i64 ((6 : Int) * ((1 : Nat) : Int)) := by decide
    rw [if_pos b2, show ((2 : Int) == 1) = false from rfl, cond_false, w1, if_pos (by omega), w2, if_pos w5, shr6 hr.1 1 (by omega), w3, w4, wu8 (x := r / 2 ^ (6 * 1)) (by omega) (by omega), ior8 (k := 6) (by omega) (by omega) (by omega) (by omega) (by omega), write_b _ _ _ (by omega), bind_some']
    simp only
    rw [put_step hr.1 _ _ 0 (by omega) (by simp; omega), show ((0 : Nat) : Int) - 1 = -1 from rfl, put_end, bind_some']
    unfold formL
    rw [if_neg a, if_pos b2, List.append_assoc]
    refine congrArg some (Prod.ext rfl ?_)
    show out ++ [3 * 2 ^ 6 + r / 2 ^ (6 * 1), 128 + r / 2 ^ (6 * 0) % 64] = out ++ [192 + r / 64, 128 + r % 64]
    congr 2
    · congr 1
      omega
  rw [if_neg b2]
  by_cases b3 : r < 65536
  · have w1 : IntKind.wrap .i64 ((4 : Int) - 3) = 1 := by decide
    have w2 : IntKind.wrap .i64 ((3 : Int) - 1) = ((2 : Nat) : Int) := by decide
    have w3 : IntKind.wrap .u8 ((240 : Int) * 2 ^ (min (1 : Int).toNat (IntKind.bits .u8))) = 14 * 2 ^ 4 := by decide
    have w4 : IntKind.wrap .i64 ((3 : Int) - 2) = ((1 : Nat) : Int) := by decide
    have w5 : 0 ≤ IntKind.wrap .i64 ((6 : Int) * ((2 : Nat) : Int)) := by decide
    rw [if_pos b3, show ((3 : Int) == 1) = false from rfl, cond_false, w1, if_pos (by omega), w2, if_pos w5, shr6 hr.1 2 (by omega), w3, w4, wu8 (x := r / 2 ^ (6 * 2)) (by omega) (by omega), ior8 (k := 4) (by omega) (by omega) (by omega) (by omega) (by omega), write_b _ _ _ (by omega), bind_some']
    simp only
    rw [put_step hr.1 _ _ 1 (by omega) (by simp; omega), show ((1 : Nat) : Int) - 1 = ((0 : Nat) : Int) from rfl, put_step hr.1 _ _ 0 (by omega) (by simp; omega), show ((0 : Nat) : Int) - 1 = -1 from rfl, put_end, bind_some']
    unfold formL
    rw [if_neg a, if_neg b2, if_pos b3, List.append_assoc, List.append_assoc]
    refine congrArg some (Prod.ext rfl ?_)
    show out ++ [14 * 2 ^ 4 + r / 2 ^ (6 * 2), 128 + r / 2 ^ (6 * 1) % 64, 128 + r / 2 ^ (6 * 0) % 64] = out ++ [224 + r / 4096, 128 + r / 64 % 64, 128 + r % 64]
    have e0 : r / 2 ^ (6 * 0) = r := by omega
    have e1 : r / 2 ^ (6 * 1) = r / 64 := by omega
    have e2 : (14 : Int) * 2 ^ 4 + r / 2 ^ (6 * 2) = 224 + r / 4096 := by omega
    rw [e0, e1, e2]
  · have w1 : IntKind.wrap .i64 ((4 : Int) - 4) = 0 := by decide
    have w2 : IntKind.wrap .i64 ((4 : Int) - 1) = ((3 : Nat) : Int) := by decide
    have w3 : IntKind.wrap .u8 ((240 : Int) * 2 ^ (min (0 : Int).toNat (IntKind.bits .u8))) = 30 * 2 ^ 3 := by decide
    have w4 : IntKind.wrap .i64 ((4 : Int) - 2) = ((2 : Nat) : Int) := by decide
    have w5 : 0 ≤ IntKind.wrap .i64 ((6 : Int) * ((3 : Nat) : Int)) := by decide
    rw [if_neg b3, show ((4 : Int) == 1) = false from rfl, cond_false, w1, if_pos (by omega), w2, if_pos w5, shr6 hr.1 3 (by omega), w3, w4, wu8 (x := r / 2 ^ (6 * 3)) (by omega) (by omega), ior8 (k := 3) (by omega) (by omega) (by omega) (by omega) (by omega), write_b _ _ _ (by omega), bind_some']
    simp only
    rw [put_step hr.1 _ _ 2 (by omega) (by simp; omega), show ((2 : Nat) : Int) - 1 = ((1 : Nat) : Int) from rfl, put_step hr.1 _ _ 1 (by omega) (by simp; omega), show ((1 : Nat) : Int) - 1 = ((0 : Nat) : Int) from rfl, put_step hr.1 _ _ 0 (by omega) (by simp; omega), show ((0 : Nat) : Int) - 1 = -1 from rfl, put_end, bind_some']
    unfold formL
    rw [if_neg a, if_neg b2, if_neg b3, List.append_assoc, List.append_assoc, List.append_assoc]
    refine congrArg some (Prod.ext rfl ?_)
    show out ++ [30 * 2 ^ 3 + r / 2 ^ (6 * 3), 128 + r / 2 ^ (6 * 2) % 64, 128 + r / 2 ^ (6 * 1) % 64, 128 + r / 2 ^ (6 * 0) % 64] = out ++ [240 + r / 262144, 128 + r / 4096 % 64, 128 + r / 64 % 64, 128 + r % 64]
    have e0 : r / 2 ^ (6 * 0) = r := by omega
    have e1 : r / 2 ^ (6 * 1) = r / 64 := by omega
    have e2 : r / 2 ^ (6 * 2) = r / 4096 := by omega
    have e3 : (30 : Int) * 2 ^ 3 + r / 2 ^ (6 * 3) = 240 + r / 262144 := by omega
    rw [e0, e1, e2, e3]
/-- Runes as bytes. -/
def encS (l : List Int) : List Int := l.flatMap formL
theorem formL_len (v : Int) : (formL v).length ≤ 4 := by
  unfold formL
  split
  · simp
  · split
    · simp
    · split <;> simp
theorem encS_len (l : List Int) : (encS l).length ≤ 4 * l.length := by
  induction l with
  | nil => simp [encS]
  | cons x l ih =>
    have := formL_len x
    unfold encS at ih ⊢
    rw [List.flatMap_cons, List.length_append, List.length_cons]
    omega
theorem str_app (a b : List Int) : strOfNums a ++ strOfNums b = strOfNums (a ++ b) := by
  apply ByteArray.ext
  rw [ByteArray.data_append]
  simp [strOfNums]
theorem str_size (a : List Int) : (strOfNums a).size = a.length := by
  rw [← ByteArray.size_data, ← Array.length_toList, strOfNums_data]
  simp
/-- BOTH ENCODINGS. -/
theorem encode_both (l : List Int) (hl : l.length ≤ 200000) (hr : ∀ x ∈ l, rightS x = true) : m_utf_Encode l = some (strOfNums (encS l), Er.nil) ∧ m_eponymref01_Encode l = some (strOfNums (encS l)) := by
  have mem : ∀ i, i < l.length → rightS (l.getD i 0) = true := fun i hi => hr _ (getD_mem hi)
  have snoc : ∀ i, i < l.length → encS (l.take (i + 1)) = encS (l.take i) ++ formL (l.getD i 0) := fun i hi => by
    unfold encS
    rw [List.take_add_one, List.flatMap_append, List.getElem?_eq_getElem hi, List.getD_eq_getElem?_getD, List.getElem?_eq_getElem hi]
    simp
  have tl : ∀ i, i ≤ l.length → (encS (l.take i)).length ≤ 4 * l.length := fun i hi => by
    have := encS_len (l.take i)
    rw [List.length_take] at this
    omega
  constructor
  · have key : ∀ (k i : Nat) (b : Bool), i + k = l.length → ∃ b', iter (m_utf_Encode_L6 l) (b, encS (l.take i), (i : Int)) = some (.inl (b', encS l)) := by
      intro k
      induction k with
      | zero =>
        intro i b hi
        refine ⟨b, ?_⟩
        have : l.take i = l := List.take_of_length_le (by omega)
        rw [this]
        refine iter_done ?_
        unfold m_utf_Encode_L6
        simp only
        rw [decide_eq_false (by omega)]; rfl
      | succ k ih =>
        intro i b hi
        have hi' : i < l.length := by omega
        obtain ⟨b', hb'⟩ := ih (i + 1) true (by omega)
        refine ⟨b', ?_⟩
        rw [iter_next (s' := (true, encS (l.take (i + 1)), ((i + 1 : Nat) : Int)))]
        · exact hb'
        · have hright : m_utf_Right (l.getD i 0) = some true := by
            have h := mem i hi'
            unfold rightS at h
            rw [decide_eq_true_eq] at h
            unfold m_utf_Right
            rw [decide_eq_true (show l.getD i 0 ≥ 0 from h.1), cond_true, decide_eq_true (show l.getD i 0 ≤ 1114111 from h.2.1), cond_true]
            by_cases q : l.getD i 0 < 55296
            · rw [decide_eq_true q]; rfl
            · rw [decide_eq_false q, cond_false, decide_eq_true (by omega)]
          unfold m_utf_Encode_L6
          simp only [Int.toNat_natCast]
          rw [decide_eq_true (by omega), cond_true, if_pos ⟨by omega, by omega⟩, hright, bind_some', Bool.not_true, cond_false, put_eq (mem i hi') _ _ (by have := tl i (by omega); omega), bind_some', up (by omega), ← snoc i hi']
    obtain ⟨b', h⟩ := key l.length 0 false (by omega)
    unfold m_utf_Encode
    have e0 : encS (l.take 0) = [] := rfl
    rw [e0] at h
    rw [show (0 : Int) = ((0 : Nat) : Int) from rfl, h, bind_some']
    simp only
    unfold m_utf_Encode_K2
    have := encS_len l
    rw [string_b _ _ (by show (encS l).length ≤ _; omega), bind_some', if_pos rfl]
  · have key : ∀ (k i : Nat), i + k = l.length → iter (m_eponymref01_Encode_L5 l) (strOfNums (encS (l.take i)), (i : Int)) = some (strOfNums (encS l)) := by
      intro k
      induction k with
      | zero =>
        intro i hi
        have : l.take i = l := List.take_of_length_le (by omega)
        rw [this]
        refine iter_done ?_
        unfold m_eponymref01_Encode_L5
        simp only
        rw [decide_eq_false (by omega)]; rfl
      | succ k ih =>
        intro i hi
        have hi' : i < l.length := by omega
        rw [iter_next (s' := (strOfNums (encS (l.take (i + 1))), ((i + 1 : Nat) : Int)))]
        · exact ih (i + 1) (by omega)
        · have h := mem i hi'
          unfold rightS at h
          rw [decide_eq_true_eq] at h
          unfold m_eponymref01_Encode_L5
          simp only [Int.toNat_natCast]
          have t1 := tl i (by omega)
          have t2 := formL_len (l.getD i 0)
          rw [decide_eq_true (by omega), cond_true, if_pos ⟨by omega, by omega⟩, form_eq h.1 h.2.1, bind_some', str_size, str_size, if_pos (by omega), up (by omega), str_app, ← snoc i hi']
    unfold m_eponymref01_Encode
    have e0 : ByteArray.mk #[] = strOfNums (encS (l.take 0)) := rfl
    rw [e0, show (0 : Int) = ((0 : Nat) : Int) from rfl, key l.length 0 (by omega)]; rfl
end Go.Proofs.YtjhgaacecfmadaaGreatDoor
