/- The reference's decoding of a text ends, whatever the text. No condition. -/
import Derived.Test.YtclhniadffljdaaP0
namespace Go.Proofs.Ytclhniadffljdaa
open Go Go.SE
set_option linter.unusedVariables false
set_option linter.unusedSimpArgs false
theorem bindTot {α β : Type} {m : Option α} {f : α → Option β} (h : ∃ x, m = some x) (k : ∀ x, ∃ y, f x = some y) : ∃ y, Option.bind m f = some y := by
  obtain ⟨x, rfl⟩ := h; exact k x
theorem tot1 {α : Type} (a : Bool) (c d : α) : ∃ x, (bif a then some c else some d) = some x := by cases a <;> exact ⟨_, rfl⟩
theorem tot2 {α : Type} (a b : Bool) (c d e : α) : ∃ x, (bif a then bif b then some c else some d else some e) = some x := by cases a <;> cases b <;> exact ⟨_, rfl⟩
theorem tot2' {α : Type} (a b : Bool) (c e : α) : ∃ x, (bif a then bif b then some c else some e else some e) = some x := tot2 a b c e e
theorem condTot {α : Type} (a : Bool) {m n : Option α} (h : ∃ x, m = some x) (k : ∃ x, n = some x) : ∃ x, (bif a then m else n) = some x := by cases a <;> first | exact k | exact h
theorem value_loop (s : ByteArray) (hs : s.size ≤ 1000000) : ∀ (k i : Nat) (r : Int), i + k = s.size → ∃ z, iter (m_eponymref01_value_L13 s) (r, (i : Int)) = some z := by
  intro k
  induction k with
  | zero =>
    intro i r hi
    refine ⟨.inl r, iter_done ?_⟩
    unfold m_eponymref01_value_L13
    simp only
    rw [decide_eq_false (by omega)]; rfl
  | succ k ih =>
    intro i r hi
    have e : ∃ b : Bool, m_eponymref01_value_L13 s (r, (i : Int)) = m_eponymref01_value_K16 s (r, (i : Int)) b := by
      unfold m_eponymref01_value_L13
      simp only
      rw [decide_eq_true (by omega), cond_true, if_pos ⟨by omega, by omega⟩, if_pos ⟨by omega, by omega⟩]
      cases decide (bt s (i : Int) < 128) <;> exact ⟨_, rfl⟩
    obtain ⟨b, e⟩ := e
    cases b with
    | true => exact ⟨_, iter_done (e.trans rfl)⟩
    | false =>
      have e2 : ∃ r', m_eponymref01_value_K16 s (r, (i : Int)) false = some (.next (r', ((i + 1 : Nat) : Int))) := by
        unfold m_eponymref01_value_K16
        simp only
        rw [cond_false, if_pos ⟨by omega, by omega⟩, up (by omega)]
        exact ⟨_, rfl⟩
      obtain ⟨r', e2⟩ := e2
      obtain ⟨z, hz⟩ := ih (i + 1) r' (by omega)
      exact ⟨z, by rw [iter_next (e.trans e2)]; exact hz⟩
theorem value_total (s : ByteArray) (h0 : 0 < s.size) (hs : s.size ≤ 1000000) : ∃ y, m_eponymref01_value s = some y := by
  have k8 : ∀ r, ∃ y, m_eponymref01_value_K8 s r = some y := fun r => by
    unfold m_eponymref01_value_K8
    refine condTot _ ⟨_, rfl⟩ (bindTot (by rw [show (1 : Int) = ((1 : Nat) : Int) from rfl]; exact value_loop s hs (s.size - 1) 1 r (by omega)) fun z => ?_)
    cases z <;> exact ⟨_, rfl⟩
  have k6 : ∀ r, ∃ y, m_eponymref01_value_K6 s r = some y := fun r => by
    unfold m_eponymref01_value_K6
    exact bindTot (bindTot (tot2 _ _ _ _ _) fun b => by unfold m_eponymref01_value_K21; exact tot1 _ _ _) k8
  have k4 : ∀ r, ∃ y, m_eponymref01_value_K4 s r = some y := fun r => by
    unfold m_eponymref01_value_K4
    exact bindTot (bindTot (tot2 _ _ _ _ _) fun b => by unfold m_eponymref01_value_K23; exact tot1 _ _ _) k6
  unfold m_eponymref01_value
  rw [if_pos ⟨by omega, by omega⟩]
  refine bindTot (tot1 _ _ _) fun b => ?_
  unfold m_eponymref01_value_K2
  exact condTot _ ⟨_, rfl⟩ (bindTot (bindTot (tot2 _ _ _ _ _) fun b => by unfold m_eponymref01_value_K25; exact tot1 _ _ _) k4)
theorem some_total (a b n : Int) : ∃ y, m_eponymref01_some a b n = some y := by
  unfold m_eponymref01_some
  refine bindTot (tot1 _ _ _) fun s1 => ?_
  unfold m_eponymref01_some_K2
  refine bindTot (tot1 _ _ _) fun s3 => ?_
  unfold m_eponymref01_some_K4
  refine bindTot (tot1 _ _ _) fun s5 => ?_
  unfold m_eponymref01_some_K6
  refine bindTot (tot1 _ _ _) fun s7 => ?_
  unfold m_eponymref01_some_K8
  refine bindTot (tot1 _ _ _) fun s9 => ?_
  unfold m_eponymref01_some_K10
  exact tot1 _ _ _
theorem uRight_total (r : Int) : ∃ y, m_eponymref01_Right r = some y := by
  unfold m_eponymref01_Right
  exact condTot _ (condTot _ (tot1 _ _ _) ⟨_, rfl⟩) ⟨_, rfl⟩
theorem form_total (r : Int) : ∃ y, m_eponymref01_Form r = some y := by
  unfold m_eponymref01_Form
  exact condTot _ ⟨_, rfl⟩ (condTot _ ⟨_, rfl⟩ (tot1 _ _ _))
theorem ext_size (s : ByteArray) (a b : Nat) (h : a ≤ b) (hb : b ≤ s.size) : (s.extract a b).size = b - a := by
  rw [ByteArray.size_extract]; omega
theorem next_loop (s : ByteArray) (hs : s.size ≤ 100000) (at_ : Nat) (ha : at_ ≤ s.size) : ∀ (k n : Nat), n + k = 5 → 1 ≤ n → ∃ z, iter (m_eponymref01_Next_L29 s (at_ : Int)) (n : Int) = some z ∧ ∀ v, z = .inr v → v.2.2 = 0 ∧ 1 ≤ v.2.1 ∧ v.2.1 ≤ 4 := by
  intro k
  induction k with
  | zero =>
    intro n hn h1
    refine ⟨.inl (), iter_done ?_, fun v h => by cases h⟩
    unfold m_eponymref01_Next_L29 m_eponymref01_Next_K32
    rw [decide_eq_false (by omega)]; rfl
  | succ k ih =>
    intro n hn h1
    have hw : IntKind.wrap .i64 ((at_ : Int) + (n : Int)) = ((at_ + n : Nat) : Int) := by rw [w64 (by omega) (by omega)]; omega
    by_cases hle : at_ + n ≤ s.size
    · have e : ∃ (b : Bool) (y : Int), m_eponymref01_Next_L29 s (at_ : Int) (n : Int) = m_eponymref01_Next_K35 (n : Int) y b := by
        unfold m_eponymref01_Next_L29 m_eponymref01_Next_K32
        rw [decide_eq_true (show (n : Int) ≤ 4 by omega), cond_true, hw, decide_eq_true (by omega), bind_some', cond_true, if_pos ⟨by omega, by omega, by omega⟩]
        simp only [Int.toNat_natCast]
        obtain ⟨y, hy⟩ := value_total (s.extract at_ (at_ + n)) (by rw [ext_size _ _ _ (by omega) hle]; omega) (by rw [ext_size _ _ _ (by omega) hle]; omega)
        rw [hy, bind_some']
        obtain ⟨b, hb⟩ : ∃ b, (bif decide (y ≥ 0) then Option.bind (m_eponymref01_Right y) fun y36 => bif y36 then Option.bind (m_eponymref01_Form y) fun y37 =>
            if 0 ≤ (at_ : Int) ∧ (at_ : Int) ≤ ((at_ + n : Nat) : Int) ∧ ((at_ + n : Nat) : Int) ≤ ((s.size : Nat) : Int) then some (y37.toList == (s.extract at_ (at_ + n)).toList) else none
            else some false else some false : Option Bool) = some b := by
          refine condTot _ (bindTot (uRight_total y) fun y36 => condTot _ (bindTot (form_total y) fun y37 => ?_) ⟨_, rfl⟩) ⟨_, rfl⟩
          rw [if_pos ⟨by omega, by omega, by omega⟩]
          exact ⟨_, rfl⟩
        exact ⟨b, y, by rw [hb]; rfl⟩
      obtain ⟨b, y, e⟩ := e
      cases b with
      | true => exact ⟨_, iter_done (e.trans rfl), fun v h => by cases h; exact ⟨rfl, by simp only; omega, by simp only; omega⟩⟩
      | false =>
        obtain ⟨z, hz, hp⟩ := ih (n + 1) (by omega) (by omega)
        refine ⟨z, ?_, hp⟩
        rw [iter_next (s' := ((n + 1 : Nat) : Int)) (e.trans (by unfold m_eponymref01_Next_K35; rw [up (by omega)]; rfl))]
        exact hz
    · refine ⟨.inl (), iter_done ?_, fun v h => by cases h⟩
      unfold m_eponymref01_Next_L29 m_eponymref01_Next_K32
      rw [decide_eq_true (show (n : Int) ≤ 4 by omega), cond_true, hw, decide_eq_false (by omega)]; rfl
theorem pad_loop (n : Nat) (hn : n ≤ 4) : ∀ (k : Nat) (a b : ByteArray), n - a.size ≤ k → a.size = b.size → a.size ≤ 100000 → ∃ z : ByteArray × ByteArray, iter (m_eponymref01_Next_L20 (n : Int)) (a, b) = some z ∧ n ≤ z.1.size ∧ z.1.size = z.2.size ∧ z.1.size ≤ 100004 := by
  intro k
  induction k with
  | zero =>
    intro a b hk hab hs
    refine ⟨(a, b), iter_done ?_, by simp only; omega, hab, by simp only; omega⟩
    unfold m_eponymref01_Next_L20
    simp only
    rw [decide_eq_false (by omega)]; rfl
  | succ k ih =>
    intro a b hk hab hs
    by_cases hlt : a.size < n
    · have s1 : (a ++ ByteArray.mk #[128]).size = a.size + 1 := by rw [ByteArray.size_append]; rfl
      have s2 : (b ++ ByteArray.mk #[191]).size = b.size + 1 := by rw [ByteArray.size_append]; rfl
      obtain ⟨z, hz, h1, h2, h3⟩ := ih (a ++ ByteArray.mk #[128]) (b ++ ByteArray.mk #[191]) (by omega) (by omega) (by omega)
      refine ⟨z, ?_, h1, h2, h3⟩
      rw [iter_next (s' := (a ++ ByteArray.mk #[128], b ++ ByteArray.mk #[191]))]
      · exact hz
      · unfold m_eponymref01_Next_L20
        simp only
        have o : (ByteArray.mk #[128]).size = 1 := rfl
        have o' : (ByteArray.mk #[191]).size = 1 := rfl
        rw [decide_eq_true (by omega), cond_true, if_pos (by omega), if_pos (by omega)]
    · refine ⟨(a, b), iter_done ?_, by simp only; omega, hab, by simp only; omega⟩
      unfold m_eponymref01_Next_L20
      simp only
      rw [decide_eq_false (by omega)]; rfl
theorem rest_loop (s : ByteArray) (hs : s.size ≤ 100000) (at_ : Nat) (ha : at_ ≤ s.size) : ∀ (k n : Nat), 5 - n ≤ k → 1 ≤ n → n ≤ 200000 → ∃ z, iter (m_eponymref01_Next_L7 s (at_ : Int)) (n : Int) = some z ∧ ∀ v, z = .inr v → v.2.2 = 2 := by
  intro k
  induction k with
  | zero =>
    intro n hn h1 hb
    refine ⟨.inl (), iter_done ?_, fun v h => by cases h⟩
    unfold m_eponymref01_Next_L7
    rw [decide_eq_false (by omega)]; rfl
  | succ k ih =>
    intro n hn h1 hb
    by_cases h4 : n ≤ 4
    · have hsz : (s.extract at_ s.size).size = s.size - at_ := ext_size _ _ _ ha (Nat.le_refl _)
      obtain ⟨z, hz, z1, z2, z3⟩ := pad_loop n h4 4 (s.extract at_ s.size) (s.extract at_ s.size) (by omega) rfl (by omega)
      have e : ∃ b : Bool, m_eponymref01_Next_L7 s (at_ : Int) (n : Int) = (match (if b = true then Sum.inr (0, 0, 2) else .inl () : Sum Unit (Int × Int × Int)) with | .inl _ => some (.next ((n + 1 : Nat) : Int)) | .inr v => some (.done (.inr (v.1, v.2.1, v.2.2)))) := by
        unfold m_eponymref01_Next_L7
        rw [decide_eq_true (by omega), cond_true]
        simp only [Int.toNat_natCast]
        rw [hz, bind_some', up (by omega)]
        unfold m_eponymref01_Next_K12
        obtain ⟨y1, hy1⟩ := value_total z.1 (by omega) (by omega)
        obtain ⟨y2, hy2⟩ := value_total z.2 (by omega) (by omega)
        obtain ⟨b, hbb⟩ : ∃ b, (bif decide (y1 ≥ 0) then bif decide (y2 ≥ 0) then Option.bind (m_eponymref01_some y1 y2 (n : Int)) fun y17 => some y17 else some false else some false : Option Bool) = some b :=
          condTot _ (condTot _ (bindTot (some_total y1 y2 n) fun y => ⟨_, rfl⟩) ⟨_, rfl⟩) ⟨_, rfl⟩
        refine ⟨b, ?_⟩
        simp only [hy1, hy2, bind_some', hbb]
        cases b <;> rfl
      obtain ⟨b, e⟩ := e
      cases b with
      | true => exact ⟨.inr (0, 0, 2), iter_done (e.trans rfl), fun v h => by cases h; rfl⟩
      | false =>
        obtain ⟨z', hz', hp⟩ := ih (n + 1) (by omega) (by omega) (by omega)
        exact ⟨z', by rw [iter_next (e.trans rfl)]; exact hz', hp⟩
    · refine ⟨.inl (), iter_done ?_, fun v h => by cases h⟩
      unfold m_eponymref01_Next_L7
      rw [decide_eq_false (by omega)]; rfl
theorem next_total (s : ByteArray) (hs : s.size ≤ 100000) (at_ : Nat) (ha : at_ ≤ s.size) : ∃ y, m_eponymref01_Next s (at_ : Int) = some y ∧ (y.2.2 = 0 → 1 ≤ y.2.1 ∧ y.2.1 ≤ 4) := by
  unfold m_eponymref01_Next
  obtain ⟨z, hz, hp⟩ := next_loop s hs at_ ha 4 1 (by omega) (by omega)
  rw [show (1 : Int) = ((1 : Nat) : Int) from rfl, hz, bind_some']
  cases z with
  | inr v => exact ⟨_, rfl, fun _ => (hp v rfl).2⟩
  | inl u =>
    simp only
    unfold m_eponymref01_Next_K2
    have hsz : (s.extract at_ s.size).size = s.size - at_ := ext_size _ _ _ ha (Nat.le_refl _)
    rw [if_pos ⟨by omega, by omega, by omega⟩, Int.toNat_natCast, up (by omega)]
    obtain ⟨z', hz', hp'⟩ := rest_loop s hs at_ ha 4 ((s.extract at_ s.size).size + 1) (by omega) (by omega) (by omega)
    rw [hz', bind_some']
    cases z' with
    | inl u => exact ⟨_, rfl, fun h => by simp at h⟩
    | inr v => exact ⟨_, rfl, fun h => by have := hp' v rfl; simp only at h; omega⟩
theorem decode_total (s : ByteArray) (hs : s.size ≤ 100000) : ∃ y, m_eponymref01_Decode s = some y := by
  unfold m_eponymref01_Decode
  have key : ∀ (k at_ : Nat) (out : List Int), s.size - at_ ≤ k → at_ ≤ s.size + 4 → out.length ≤ at_ → ∃ z, iter (m_eponymref01_Decode_L5 s) (out, (at_ : Int)) = some z := by
    intro k
    induction k with
    | zero =>
      intro at_ out hk ha ho
      refine ⟨.inl out, iter_done ?_⟩
      unfold m_eponymref01_Decode_L5
      simp only
      rw [decide_eq_false (by omega)]; rfl
    | succ k ih =>
      intro at_ out hk ha ho
      by_cases hlt : at_ < s.size
      · obtain ⟨y, hy, hn⟩ := next_total s hs at_ (by omega)
        by_cases h0 : y.2.2 = 0
        · obtain ⟨n1, n2⟩ := hn h0
          obtain ⟨m, hm⟩ : ∃ m : Nat, y.2.1 = m := ⟨y.2.1.toNat, by omega⟩
          obtain ⟨z, hz⟩ := ih (at_ + m) (out ++ [y.1]) (by omega) (by omega) (by simp; omega)
          refine ⟨z, ?_⟩
          rw [iter_next (s' := (out ++ [y.1], ((at_ + m : Nat) : Int)))]
          · exact hz
          · unfold m_eponymref01_Decode_L5
            simp only
            rw [decide_eq_true (by omega), cond_true, hy, bind_some', h0, hm, show ((0 : Int) != 0) = false by decide, cond_false, if_pos (by omega), w64 (by omega) (by omega)]
            rfl
        · refine ⟨.inr ([], (at_ : Int), y.2.2), iter_done ?_⟩
          unfold m_eponymref01_Decode_L5
          simp only
          rw [decide_eq_true (by omega), cond_true, hy, bind_some', bne_iff_ne.2 h0]; rfl
      · refine ⟨.inl out, iter_done ?_⟩
        unfold m_eponymref01_Decode_L5
        simp only
        rw [decide_eq_false (by omega)]; rfl
  refine bindTot (key s.size 0 [] (by omega) (by omega) (by simp)) fun z => ?_
  cases z <;> exact ⟨_, rfl⟩
end Go.Proofs.Ytclhniadffljdaa
