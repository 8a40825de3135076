/- The law of Punycode read, with the document's example as a premise of the lemma. No other condition. -/
import Derived.Test.YtclhniadffljdaaDoorPPnI
import Derived.Test.YtclhniadffljdaaDoorPErr
namespace Go.Proofs.YtclhniadffljdaaDoor
open Go Go.SE
set_option linter.unusedVariables false
set_option linter.unusedSimpArgs false
theorem same_self (a : List Int) (ha : a.length < 4611686018427387904) : m_eponymlaw01_Same a a = some true := by
  unfold m_eponymlaw01_Same
  rw [show (((a.length : Nat) : Int) != ((a.length : Nat) : Int)) = false by simp, cond_false]
  rw [iter_scan a.length (fun _ => none) (fun i hi _ => by
    unfold m_eponymlaw01_Same_L5
    rw [show decide ((i : Int) < ((a.length : Nat) : Int)) = true by simp; omega, cond_true, if_pos (by omega), if_pos (by omega), show (a.getD (i : Int).toNat 0 != a.getD (i : Int).toNat 0) = false by simp, cond_false, up (by omega)]) (fun _ => by
    unfold m_eponymlaw01_Same_L5
    simp)]
  rw [firstSome_none.2 (fun _ _ _ => rfl)]
  rfl
theorem is_of {c a : Int} {g : Nat} (h : ErrAs c g) : m_eponymlaw01_Is (.box 62 a (.sent g)) a c = some true := by
  rcases h with ⟨rfl, rfl⟩ | ⟨rfl, rfl⟩ | ⟨rfl, rfl⟩
  · exact is_fault (by decide) rfl (by decide) a
  · exact is_fault (by decide) rfl (by decide) a
  · exact is_range a
theorem law_end {s : ByteArray} {l : List Int} {e : Er} {a c : Int} (haw : m_eponymlaw06_awake = some true) (hs : s.size ≤ 130) (hl : l.length < 4611686018427387904) (h1 : m_puny_Decode s = some (l, e)) (h2 : m_eponymref06_Decode s = some (l, a, c)) (h3 : m_eponymlaw01_Is e a c = some true) :
    m_eponymlaw06_PunyDecodes s = some true := by
  unfold m_eponymlaw06_PunyDecodes
  rw [haw, bind_some', show decide (((s.size : Nat) : Int) > 130) = false by simp; omega, h1, h2]
  simp only [Bool.not_true, cond_false, bind_some', same_self l hl, cond_true, h3]
theorem loops (s : ByteArray) (hs : s.size ≤ 120) (at_ : Nat) (out : List Int) (ha : at_ ≤ s.size) (ho : out.length ≤ at_) : ∃ l e a c, m_puny_Decode_K5 s ((at_ : Int), out) = some (l, e) ∧ m_eponymref06_Decode_K4 s (at_ : Int) out = some (l, a, c) ∧ l.length < 4611686018427387904 ∧ m_eponymlaw01_Is e a c = some true := by
  unfold m_puny_Decode_K5 m_eponymref06_Decode_K4
  simp only
  by_cases hl : at_ = s.size
  · subst hl
    have h3 : m_puny_Decode_L10 s (72, false, s, ((s.size : Nat) : Int), 128, 0, out) = some (.done (.inl (72, false, s, ((s.size : Nat) : Int), 128, 0, out))) := by
      unfold m_puny_Decode_L10
      simp
    have h4 : m_eponymref06_Decode_L9 s (out, 72, true, 128, 0, 0, 1, 0, ((s.size : Nat) : Int)) = some (.done (.inl (out, 0))) := by
      unfold m_eponymref06_Decode_L9
      simp
    rw [iter_done h3, iter_done h4]
    exact ⟨out, .nil, 0, 0, rfl, rfl, by omega, rfl⟩
  · obtain ⟨x, y, g1, g2, g3⟩ := dec_both s (by omega) (s.size - at_) at_ 72 false 128 0 out 0 1 0 (by omega) (.inl (by omega)) ho (by omega) (by omega) (by omega) (by omega) (by omega) (by omega) (by omega) (by omega) (by omega) (by omega)
    rw [← group s 72 false at_ 128 0 out (by omega)] at g1
    simp only [Bool.not_false] at g2
    rw [g1, g2]
    rcases g3 with ⟨b, f, t, a, n, i, o, rfl, rfl, hol⟩ | ⟨o, k, hk, rfl, rfl⟩ | ⟨a, c, g, hg, rfl, rfl⟩
    · exact ⟨o, .nil, 0, 0, rfl, rfl, by omega, rfl⟩
    · refine ⟨[], _, ((s.size : Nat) : Int), 2, rfl, ?_, by simp, is_fault (n := 2) (by decide) rfl (by decide) _⟩
      rw [bind_some']
      simp only
      unfold m_eponymref06_Decode_K6
      rw [show decide (k > 0) = true by simp; omega, cond_true]
    · exact ⟨[], _, a, c, rfl, rfl, by simp, is_of hg⟩
theorem decodes (haw : m_eponymlaw06_awake = some true) (s : ByteArray) : m_eponymlaw06_PunyDecodes s = some true := by
  by_cases h130 : s.size > 130
  · unfold m_eponymlaw06_PunyDecodes
    rw [haw, bind_some', show decide (((s.size : Nat) : Int) > 130) = true by simp; omega]
    rfl
  by_cases h120 : s.size > 120
  · refine law_end haw (by omega) (l := []) (e := .box 62 0 (.sent 4)) (a := 0) (c := 3) (by simp) ?_ ?_ (is_of (.inr (.inl ⟨rfl, rfl⟩)))
    · unfold m_puny_Decode
      rw [show decide (((s.size : Nat) : Int) > 120) = true by simp; omega, cond_true]
      rfl
    · unfold m_eponymref06_Decode
      rw [show decide (((s.size : Nat) : Int) > 120) = true by simp; omega, cond_true]
  have hd : decide (((s.size : Nat) : Int) > 120) = false := by simp; omega
  rcases check_ref s (by omega) s.size 0 (by omega) (fun j hj => absurd hj (Nat.not_lt_zero _)) with ⟨ha, hr⟩ | ⟨j, hj, ha, hb, hr⟩
  · have hr : iter (m_eponymref06_Decode_L27 s) (0, 0) = some (.inl (fromH s s.size)) := hr
    have hc : iter (m_puny_Decode_L19 s) 0 = some (.inl ()) := chk_ok s (by omega) ha s.size 0 (by omega)
    have hy := lastH_in s s.size
    by_cases hp : lastH s s.size > 0
    · obtain ⟨y, hyy⟩ : ∃ y : Nat, lastH s s.size = (y : Int) := ⟨(lastH s s.size).toNat, by omega⟩
      have hfr : fromH s s.size = ((y + 1 : Nat) : Int) := by rw [fromH_eq, if_pos hp, hyy]; rfl
      have hex : (s.extract 0 y).size = y := by simp [ByteArray.size_extract]; omega
      have hbx : ∀ j : Nat, j < y → bt (s.extract 0 y) (j : Int) = bt s (j : Int) := fun j hj => by
        unfold bt
        simp only [Int.toNat_natCast, List.getD_eq_getElem?_getD, Array.getElem?_toList, ByteArray.data_extract]
        rw [Array.getElem?_extract, if_pos (by have := hy.2; have : s.data.size = s.size := rfl; omega), Nat.zero_add]
      have hru : runesL (s.extract 0 y) = (List.range y).map fun j => bt s ((j : Nat) : Int) := by
        rw [runesL_asc _ (fun j hj => by rw [hbx j (by omega)]; exact ha j (by omega)), hex]
        exact List.map_congr_left fun j hj => hbx j (List.mem_range.1 hj)
      obtain ⟨l, e, a, c, g1, g2, g3, g4⟩ := loops s (by omega) (y + 1) ((List.range y).map fun j => bt s ((j : Nat) : Int)) (by omega) (by simp)
      refine law_end haw (by omega) g3 ?_ ?_ g4
      · unfold m_puny_Decode
        rw [hd, cond_false, hc, bind_some']
        simp only
        unfold m_puny_Decode_K3
        rw [lastI_eq s (by omega), bind_some', show decide (lastH s s.size > 0) = true by simp; omega, cond_true, if_pos (by omega), hyy, Int.toNat_natCast, if_pos (by omega), hru, up (by omega), bind_some']
        exact g1
      · unfold m_eponymref06_Decode
        rw [hd, cond_false, hr, bind_some']
        simp only
        unfold m_eponymref06_Decode_K2
        rw [hfr, show iter (m_eponymref06_Decode_L22 s ((y + 1 : Nat) : Int)) ([], 0) = _ from pre_ref s (by omega) y (by omega) y 0 (by omega), bind_some']
        exact g2
    · have hfr : fromH s s.size = 0 := by rw [fromH_eq, if_neg hp]
      obtain ⟨l, e, a, c, g1, g2, g3, g4⟩ := loops s (by omega) 0 [] (by omega) (by simp)
      refine law_end haw (by omega) g3 ?_ ?_ g4
      · unfold m_puny_Decode
        rw [hd, cond_false, hc, bind_some']
        simp only
        unfold m_puny_Decode_K3
        rw [lastI_eq s (by omega), bind_some', show decide (lastH s s.size > 0) = false by simp; omega, cond_false, bind_some']
        exact g1
      · unfold m_eponymref06_Decode
        rw [hd, cond_false, hr, bind_some']
        simp only
        unfold m_eponymref06_Decode_K2
        rw [hfr, pre_none, bind_some']
        exact g2
  · refine law_end haw (by omega) (l := []) (e := .box 62 (j : Int) (.sent 5)) (a := (j : Int)) (c := 1) (by simp) ?_ ?_ (is_fault (by decide) rfl (by decide) _)
    · unfold m_puny_Decode
      rw [hd, cond_false, show iter (m_puny_Decode_L19 s) 0 = _ from chk_bad s (by omega) j hj ha hb j 0 (by omega), bind_some']
    · unfold m_eponymref06_Decode
      rw [hd, cond_false, show iter (m_eponymref06_Decode_L27 s) (0, 0) = _ from hr, bind_some']
end Go.Proofs.YtclhniadffljdaaDoor
