/- eponymref04.One by its contract: it calls itself and appends to its own result; walked by hand. No condition. -/
import Derived.Test.YtjhgaacecfmadaaGreatDoorK2
import Derived.Laws.AppendOwn
import Derived.Maps.AppendAt
import Derived.Shelf.Abstract
import Derived.WalkKit
import Derived.OwnWalkIn
import Derived.RegionTactic
import Derived.Deep.RegionWith
namespace Go.Proofs.YtjhgaacecfmadaaGreatDoor
open Go Go.SE Go.RowKit Go.Shelf
set_option linter.unusedVariables false
def OnePost (xs : List Int) (w : World) (e : Ending) (w' : World) : Prop := ∃ v, e = .returned v ∧ Below w.heap.size w w' ∧ w'.ownsRow w.heap.size 21 1 v xs.length (xs.map (Value.int .i32))
/-- How a norm lies in memory. -/
structure NormAt (t : T_api_Norm) (w : World) (a : Option Addr) (b off : Nat) (sa : Nat → Option Addr) (sc : Nat → Nat) : Prop where
  base : 0 < t.f_Rows.length → a = some ⟨b, off, none⟩
  row : ∀ j, j < t.f_Rows.length → b < w.heap.size ∧ w.cell? ⟨b, off + j * 2, none⟩ = some (.int .i32 (t.f_Rows.getD j d_api_Row).f_From) ∧ w.cell? ⟨b, off + j * 2 + 1, none⟩ = some (.slice (sa j) (t.f_Rows.getD j d_api_Row).f_To.length (sc j))
  to : ∀ j, j < t.f_Rows.length → 0 < (t.f_Rows.getD j d_api_Row).f_To.length → ∃ b' o', sa j = some ⟨b', o', none⟩ ∧ b' < w.heap.size ∧ ∀ c, c < (t.f_Rows.getD j d_api_Row).f_To.length → w.cell? ⟨b', o' + c, none⟩ = some (.int .i32 ((t.f_Rows.getD j d_api_Row).f_To.getD c 0))
theorem NormAt.below {t : T_api_Norm} {w w' : World} {a : Option Addr} {b off : Nat} {sa : Nat → Option Addr} {sc : Nat → Nat} (h : NormAt t w a b off sa sc) (hB : Below w.heap.size w w') : NormAt t w' a b off sa sc where
  base := h.base
  row j hj := by
    obtain ⟨h1, h2, h3⟩ := h.row j hj
    exact ⟨Nat.lt_of_lt_of_le h1 hB.size, (hB.cell (p := ⟨b, _, none⟩) h1).trans h2, (hB.cell (p := ⟨b, _, none⟩) h1).trans h3⟩
  to j hj h0 := by
    obtain ⟨b', o', h1, h2, h3⟩ := h.to j hj h0
    exact ⟨b', o', h1, Nat.lt_of_lt_of_le h2 hB.size, fun c hc => (hB.cell (p := ⟨b', _, none⟩) h2).trans (h3 c hc)⟩
theorem cell_newR (W : World) (vs : Array Value) (t : TypeId) (i : Nat) (v : Value) (n : Nat) (hn : n = W.heap.size) (h : vs[i]? = some v) : (W.alloc (.cells vs t)).cell? ⟨n, i, none⟩ = some v := by
  subst hn
  simp [h]
theorem agg_invR {w : World} {cx : Cx} {A : Nat → Prop} {cs : List AV} {v : Value} (h : Rel w cx A (.agg cs) v) : ∃ vs : List Value, cs.length = vs.length ∧ (∀ u ∈ vs, u.oneCell' = true) ∧ v = .agg vs.toArray ∧ ∀ (c : Nat) (x : AV) (u : Value), cs[c]? = some x → vs[c]? = some u → Rel w cx A x u := by
  cases h with
  | agg _ vs hl h1 hrel => exact ⟨vs, hl, h1, rfl, hrel⟩
theorem wr_nilR {cx : Cx} {b : Nat} : ¬ Wr cx [] b := by rintro ⟨i, e, o, _, h, _⟩; simp at h
theorem sl_invR {w : World} {cx : Cx} {A : Nat → Prop} {n : Nat} {get : Nat → AV} {v : Value} (h : Rel w cx A (.sl none n get) v) : ∃ (a : Option Addr) (cap esz : Nat) (vals : Nat → Nat → Value), v = .slice a n cap ∧
    (0 < n → ∃ b off, a = some ⟨b, off, none⟩ ∧ ¬ A b ∧ b < w.heap.size ∧ ∀ (j c : Nat) (x : AV), j < n → (get j).cells[c]? = some x → w.cell? ⟨b, off + (j * esz + c), none⟩ = some (vals j c) ∧ (vals j c).oneCell' = true) ∧
    (∀ j, j < n → (get j).ncells = esz) ∧ (∀ (j c : Nat) (x : AV), j < n → (get j).cells[c]? = some x → Rel w cx A x (vals j c)) := by
  cases h with
  | sl _ _ _ a cap esz vals hnil hcap hmax hz hmem himm hrel => exact ⟨a, cap, esz, vals, rfl, hmem, fun j hj => (himm j hj).2, hrel⟩
def slAR : Value → Option Addr
  | .slice a _ _ => a
  | _ => none
def slCR : Value → Nat
  | .slice _ _ c => c
  | _ => 0
theorem info21 : (Tryz.prog.info? 21).map (fun i => (i.zero, i.size, i.bytes)) = some (some (.int .i32 0), 1, 4) := by kernel_rfl
theorem own_new (W : World) (base : Nat) (hb : base ≤ W.heap.size) (xs : List Value) (hm : xs.length ≤ maxLen) : (W.alloc (.cells xs.toArray 21)).ownsRow base 21 1 (.slice (some ⟨W.heap.size, 0, none⟩) xs.length xs.length) xs.length xs :=
  ⟨by simp, .inr ⟨W.heap.size, xs.length, xs.toArray, rfl, hb, by show (W.heap.push _)[W.heap.size]? = _; simp, Nat.le_refl _, hm, by simp, by simp⟩⟩
theorem own_grown {W W' : World} {base n : Nat} {v : Value} {xs : List Value} (h : W.ownsRow base 21 1 v n xs) (hk : ∀ k, k < W.heap.size → W'.heap[k]? = W.heap[k]?) : W'.ownsRow base 21 1 v n xs := by
  obtain ⟨h1, h2 | ⟨g, cap, cur, e1, e2, e3, e4⟩⟩ := h
  · exact ⟨h1, .inl h2⟩
  · exact ⟨h1, .inr ⟨g, cap, cur, e1, e2, (hk g (Array.getElem?_eq_some_iff.1 e3).1).trans e3, e4⟩⟩
theorem own_base {W : World} {base base' n : Nat} {v : Value} {xs : List Value} (h : W.ownsRow base 21 1 v n xs) (hb : base' ≤ base) : W.ownsRow base' 21 1 v n xs := by
  obtain ⟨h1, h2 | ⟨g, cap, cur, e1, e2, e3⟩⟩ := h
  · exact ⟨h1, .inl h2⟩
  · exact ⟨h1, .inr ⟨g, cap, cur, e1, Nat.le_trans hb e2, e3⟩⟩
theorem own_ge {W : World} {base n : Nat} {v : Value} {xs : List Value} (h : W.ownsRow base 21 1 v n xs) {k : Nat} (hk : v.ownBlock = some k) : base ≤ k := by
  obtain ⟨h1, ⟨h2, _⟩ | ⟨g, cap, cur, e1, e2, e3⟩⟩ := h
  · subst h2; cases hk
  · subst e1; cases hk; exact e2
set_option maxRecDepth 100000 in
set_option maxHeartbeats 4000000 in
theorem one_calls (t : T_api_Norm) (a : Option Addr) (b off cap : Nat) (sC sE : Value) (sa : Nat → Option Addr) (sc : Nat → Nat) (h1 : (Value.slice a t.f_Rows.length cap).oneCell' = true ∧ sC.oneCell' = true ∧ sE.oneCell' = true) (w0 : World)
    (hRow : ∀ (r y : Int) (w' : World), Below w0.heap.size w0 w' → m_eponymref04_Row t r = some y → Calls Tryz.prog 46 #[.agg #[.slice a t.f_Rows.length cap, sC, sE], .int .i32 r] w' fun e w'' => e = .returned (.int .i64 y) ∧ Below w'.heap.size w' w'') :
    ∀ (k : Nat) (r : Int) (xs : List Int), m_eponymref04_One_n t k r = some xs → ∀ w : World, Below w0.heap.size w0 w → NormAt t w a b off sa sc → Calls Tryz.prog 57 #[.agg #[.slice a t.f_Rows.length cap, sC, sE], .int .i32 r] w (OnePost xs w) := by
  intro k
  induction k with
  | zero => intro r xs h; cases h
  | succ k ih =>
    intro r xs h w hB0 hN
    rw [m_eponymref04_One_n] at h
    go_enter Tryz.func57, Tryz.ntmps57
    by_cases hs : 44032 ≤ r ∧ r ≤ 55203
    · rw [if_pos hs] at h
      have h := Option.some.inj h
      obtain ⟨hs1, hs2⟩ := hs
      have hbox := (Below.refl w.heap.size w).alloc (Nat.le_refl _) (.cells #[.slice a t.f_Rows.length cap, sC, sE] 26)
      by_cases hm : (r - 44032) % 28 > 0
      · rw [if_pos hm] at h
        subst h
        obtain ⟨i0, hi, hz0, hz1, hz2⟩ := info_parts info21
        have hown := own_grown (own_new (w.alloc (.cells #[.slice a t.f_Rows.length cap, sC, sE] 26)) w.heap.size (by simp) [.int .i32 (4352 + (r - 44032) / 588), .int .i32 (4449 + (r - 44032) / 28 % 21)] (show 2 ≤ maxLen by decide)) (W' := ((w.alloc (.cells #[.slice a t.f_Rows.length cap, sC, sE] 26)).alloc (.cells #[.int .i32 (4352 + (r - 44032) / 588), .int .i32 (4449 + (r - 44032) / 28 % 21)] 21)).alloc (.cells #[.int .i32 (4519 + (r - 44032) % 28)] 21)) (fun k hk => Below.heap_alloc _ _ k hk)
        have hB2 := (hbox.alloc (by simp) (.cells #[.int .i32 (4352 + (r - 44032) / 588), .int .i32 (4449 + (r - 44032) / 28 % 21)] 21)).alloc (by simp; omega) (.cells #[.int .i32 (4519 + (r - 44032) % 28)] 21)
        go_wp2_with (first
          | (at_builtin; go_loud (refine wpList_append_own _ rfl _ _ 24 rfl w.heap.size 21 i0 (.int .i32 0) 1 4 Tryz.underlying24 hi hz0 hz1 hz2 rfl (by decide) (.slice (some ⟨w.heap.size + 1, 0, none⟩) 2 2) 2 _ rfl (by simpa using hown) ⟨w.heap.size + 2, 0, none⟩ 1 1 [.int .i32 (4519 + (r - 44032) % 28)] rfl rfl (fun j u hj => by
              match j, hj with
              | 0, hj => cases hj; exact cell_newR _ _ _ _ _ _ (by simp) rfl
              | j + 1, hj => simp at hj) (by simp [Value.oneCell']) (by decide) (by decide) (by simp <;> omega) ?_); intro v' w1 hown' hgrow hnil)
          | go_in)
        go_ret
        exact ⟨v', rfl, hB2.grown hgrow (by simp <;> omega) (fun k e => by have e : some (w.heap.size + 1) = some k := e; cases e; omega), hown'⟩
      · rw [if_neg hm] at h
        subst h
        go_wp2
        go_ret
        exact ⟨_, rfl, hbox.alloc (by simp) _, by simpa using own_new (w.alloc (.cells #[.slice a t.f_Rows.length cap, sC, sE] 26)) w.heap.size (by simp) [.int .i32 (4352 + (r - 44032) / 588), .int .i32 (4449 + (r - 44032) / 28 % 21)] (show 2 ≤ maxLen by decide)⟩
    · rw [if_neg hs] at h
      have hs' : ¬ (44032 ≤ r ∧ r ≤ 55203) := hs
      cases hy : m_eponymref04_Row t r with
      | none => rw [hy] at h; cases h
      | some y =>
        rw [hy] at h
        simp only [Option.bind_some] at h
        have hbox := (Below.refl w.heap.size w).alloc (Nat.le_refl _) (.cells #[.slice a t.f_Rows.length cap, sC, sE] 26)
        have hB1 : Below w0.heap.size w0 (w.alloc (.cells #[.slice a t.f_Rows.length cap, sC, sE] 26)) := hB0.alloc (hB0.size) _
        have hR := hRow r y _ hB1 hy
        have wk : ∀ {w' : World}, Below (w.alloc (.cells #[.slice a t.f_Rows.length cap, sC, sE] 26)).heap.size (w.alloc (.cells #[.slice a t.f_Rows.length cap, sC, sE] 26)) w' → Below w.heap.size w w' ∧ w.heap.size < w'.heap.size ∧ ∀ i v, #[.slice a t.f_Rows.length cap, sC, sE][i]? = some v → w'.cell? ⟨w.heap.size, i, none⟩ = some v := fun {w'} hB' => by
          have hs := hB'.size
          simp at hs
          refine ⟨hbox.trans ⟨hB'.os, hB'.tape, hB'.output, hB'.size, fun k hk => hB'.block k (by simp; omega)⟩, by omega, fun i v hv => ?_⟩
          rw [hB'.cell (p := ⟨w.heap.size, i, none⟩) (by simp)]
          simp [hv]
        have fin0 : ∀ {w' : World}, Below (w.alloc (.cells #[.slice a t.f_Rows.length cap, sC, sE] 26)).heap.size (w.alloc (.cells #[.slice a t.f_Rows.length cap, sC, sE] 26)) w' → OnePost [r] w (.returned (.slice (some ⟨w'.heap.size, 0, none⟩) 1 1)) (w'.alloc (.cells #[.int .i32 r] 21)) := fun {w'} hB' => by
          obtain ⟨g1, g2, _⟩ := wk hB'
          exact ⟨_, rfl, g1.alloc (by omega) _, own_new w' w.heap.size (by omega) [.int .i32 r] (show 1 ≤ maxLen by decide)⟩
        by_cases hy0 : y < 0
        · rw [if_pos hy0] at h
          have h := Option.some.inj h
          subst h
          by_cases hg : 44032 ≤ r
          · have hg2 : ¬ r ≤ 55203 := fun h => hs ⟨hg, h⟩
            go_wp2_with (first | (go_at_call 46; refine hR.mono ?_; rintro e w' ⟨rfl, hB'⟩) | go_in)
            go_ret
            exact fin0 hB'
          · go_wp2_with (first | (go_at_call 46; refine hR.mono ?_; rintro e w' ⟨rfl, hB'⟩) | go_in)
            go_ret
            exact fin0 hB'
        · rw [if_neg hy0] at h
          obtain ⟨j, rfl⟩ : ∃ j : Nat, y = (j : Int) := ⟨y.toNat, by omega⟩
          by_cases hj : (j : Int) < (t.f_Rows.length : Int)
          case neg => rw [if_neg hj] at h; cases h
          rw [if_pos hj, Int.toNat_natCast] at h
          have hjn : j < t.f_Rows.length := by omega
          by_cases ht : 0 < (t.f_Rows.getD j d_api_Row).f_To.length
          case neg => rw [if_neg ht] at h; cases h
          rw [if_pos ht] at h
          cases hout : m_eponymref04_One_n t k ((t.f_Rows.getD j d_api_Row).f_To.getD 0 0) with
          | none => rw [hout] at h; cases h
          | some out =>
            rw [hout] at h
            simp only [Option.bind_some] at h
            have ha := hN.base (by omega)
            subst ha
            -- what lies there behind the question
            have mem : ∀ {w' : World}, Below (w.alloc (.cells #[.slice (some ⟨b, off, none⟩) t.f_Rows.length cap, sC, sE] 26)).heap.size (w.alloc (.cells #[.slice (some ⟨b, off, none⟩) t.f_Rows.length cap, sC, sE] 26)) w' → NormAt t w' (some ⟨b, off, none⟩) b off sa sc := fun hB' => hN.below (wk hB').1
            obtain ⟨x, hx⟩ : ∃ x, t.f_Rows.getD j d_api_Row = x := ⟨_, rfl⟩
            rw [hx] at ht hout h
            obtain ⟨p0, hp0⟩ : ∃ p0, x.f_To.getD 0 0 = p0 := ⟨_, rfl⟩
            obtain ⟨p1, hp1⟩ : ∃ p1, x.f_To.getD 1 0 = p1 := ⟨_, rfl⟩
            obtain ⟨nT, hnT⟩ : ∃ nT, x.f_To.length = nT := ⟨_, rfl⟩
            obtain ⟨sA, hsA⟩ : ∃ sA, sa j = sA := ⟨_, rfl⟩
            obtain ⟨sCp, hsC⟩ : ∃ sCp, sc j = sCp := ⟨_, rfl⟩
            have lies : ∀ {w' : World}, NormAt t w' (some ⟨b, off, none⟩) b off sa sc → w'.cell? ⟨b, off + j * 2 + 1, none⟩ = some (.slice sA nT sCp) ∧ ∃ b' o', sA = some ⟨b', o', none⟩ ∧ w'.cell? ⟨b', o', none⟩ = some (.int .i32 p0) ∧ (1 < nT → w'.cell? ⟨b', o' + 1, none⟩ = some (.int .i32 p1)) := fun hN' => by
              have q1 := (hN'.row j hjn).2.2
              obtain ⟨b', o', q2, _, q3⟩ := hN'.to j hjn (by rw [hx]; exact ht)
              rw [hx, hsA, hsC, hnT] at q1
              rw [hsA] at q2
              rw [hx] at q3
              exact ⟨q1, b', o', q2, by rw [← hp0]; exact q3 0 (by omega), fun h1 => by rw [← hp1]; exact q3 1 (by omega)⟩
            rw [hnT] at ht h
            rw [hp0] at hout
            rw [hp1] at h
            clear hx hp0 hp1 hnT hsA hsC
            have ihr := ih p0 out hout
            by_cases hg : 44032 ≤ r
            · have hg2 : ¬ r ≤ 55203 := fun h => hs ⟨hg, h⟩
              go_wp2_with (first | (go_at_call 46; refine hR.mono ?_; rintro e w' ⟨rfl, hB'⟩; obtain ⟨g1, g2, g3⟩ := wk hB'; have z0 := g3 0 _ rfl; have z1 := g3 1 _ rfl; have z2 := g3 2 _ rfl; obtain ⟨c1, b', o', rfl, c2, c3⟩ := lies (mem hB')) | go_in)
              have hN6 : NormAt t w'.drew (some ⟨b, off, none⟩) b off sa sc := (mem hB').below (Below.refl _ w').drew
              have hB6 : Below w0.heap.size w0 w'.drew := (hB1.trans ⟨hB'.os, hB'.tape, hB'.output, hB'.size, fun k hk => hB'.block k (Nat.lt_of_lt_of_le hk hB1.size)⟩).drew
              have hi := ihr w'.drew hB6 hN6
              go_region_with (go_at_call 57; refine hi.mono ?_; rintro e w'' ⟨v, rfl, hB'', hown''⟩; have y0 := (hB''.cell (p := ⟨w.heap.size, 0, none⟩) g2).trans z0; have y1 := (hB''.cell (p := ⟨w.heap.size, 1, none⟩) g2).trans z1; have y2 := (hB''.cell (p := ⟨w.heap.size, 2, none⟩) g2).trans z2; obtain ⟨d1, b2, o2, e2, d2, d3⟩ := lies (hN6.below hB''); cases e2)
              all_goals
                have b1 : Below w.heap.size w w'' := g1.drew.trans ⟨hB''.os, hB''.tape, hB''.output, hB''.size, fun k hk => hB''.block k (Nat.lt_of_lt_of_le hk g1.size)⟩
                have b2 : w''.ownsRow w.heap.size 21 1 v out.length (out.map (Value.int .i32)) := own_base hown'' g1.size
                by_cases h2 : nT = 2
                · subst h2
                  have d4 := d3 (by omega)
                  rw [if_pos rfl] at h
                  by_cases hlen : out.length ≤ 1000000
                  case neg => rw [if_neg hlen] at h; cases h
                  rw [if_pos hlen] at h
                  have h := Option.some.inj h
                  subst h
                  obtain ⟨i0, hi0, hz0, hz1, hz2⟩ := info_parts info21
                  have hm : out.length + 1 ≤ maxLen := Nat.le_trans (Nat.add_le_add_right hlen 1) (by decide)
                  go_wp2_with (first
                    | (at_builtin; refine wpList_append_own _ rfl _ _ 24 rfl w.heap.size 21 i0 (.int .i32 0) 1 4 Tryz.underlying24 hi0 hz0 hz1 hz2 rfl (by decide) v out.length _ rfl (own_grown b2 (fun k hk => Below.heap_alloc _ _ k hk)) ⟨w''.heap.size, 0, none⟩ 1 1 [.int .i32 p1] rfl rfl (fun j u hj => by
                        match j, hj with
                        | 0, hj => cases hj; exact cell_newR _ _ _ _ _ _ rfl rfl
                        | j + 1, hj => simp at hj) (by simp [Value.oneCell']) hm (by omega) (Nat.le_trans b1.size (by simp)) ?_; intro v' w1 hown' hgrow hnil)
                    | go_in)
                  go_ret
                  exact ⟨v', rfl, (b1.alloc b1.size _).grown hgrow (Nat.le_trans b1.size (by simp)) (fun k e => own_ge b2 e), by simpa using hown'⟩
                · rw [if_neg h2] at h
                  have h := Option.some.inj h
                  subst h
                  go_wp2
                  go_ret
                  exact ⟨v, rfl, b1, b2⟩
            · go_wp2_with (first | (go_at_call 46; refine hR.mono ?_; rintro e w' ⟨rfl, hB'⟩; obtain ⟨g1, g2, g3⟩ := wk hB'; have z0 := g3 0 _ rfl; have z1 := g3 1 _ rfl; have z2 := g3 2 _ rfl; obtain ⟨c1, b', o', rfl, c2, c3⟩ := lies (mem hB')) | go_in)
              have hN6 : NormAt t w'.drew (some ⟨b, off, none⟩) b off sa sc := (mem hB').below (Below.refl _ w').drew
              have hB6 : Below w0.heap.size w0 w'.drew := (hB1.trans ⟨hB'.os, hB'.tape, hB'.output, hB'.size, fun k hk => hB'.block k (Nat.lt_of_lt_of_le hk hB1.size)⟩).drew
              have hi := ihr w'.drew hB6 hN6
              go_region_with (go_at_call 57; refine hi.mono ?_; rintro e w'' ⟨v, rfl, hB'', hown''⟩; have y0 := (hB''.cell (p := ⟨w.heap.size, 0, none⟩) g2).trans z0; have y1 := (hB''.cell (p := ⟨w.heap.size, 1, none⟩) g2).trans z1; have y2 := (hB''.cell (p := ⟨w.heap.size, 2, none⟩) g2).trans z2; obtain ⟨d1, b2, o2, e2, d2, d3⟩ := lies (hN6.below hB''); cases e2)
              all_goals
                have b1 : Below w.heap.size w w'' := g1.drew.trans ⟨hB''.os, hB''.tape, hB''.output, hB''.size, fun k hk => hB''.block k (Nat.lt_of_lt_of_le hk g1.size)⟩
                have b2 : w''.ownsRow w.heap.size 21 1 v out.length (out.map (Value.int .i32)) := own_base hown'' g1.size
                by_cases h2 : nT = 2
                · subst h2
                  have d4 := d3 (by omega)
                  rw [if_pos rfl] at h
                  by_cases hlen : out.length ≤ 1000000
                  case neg => rw [if_neg hlen] at h; cases h
                  rw [if_pos hlen] at h
                  have h := Option.some.inj h
                  subst h
                  obtain ⟨i0, hi0, hz0, hz1, hz2⟩ := info_parts info21
                  have hm : out.length + 1 ≤ maxLen := Nat.le_trans (Nat.add_le_add_right hlen 1) (by decide)
                  go_wp2_with (first
                    | (at_builtin; refine wpList_append_own _ rfl _ _ 24 rfl w.heap.size 21 i0 (.int .i32 0) 1 4 Tryz.underlying24 hi0 hz0 hz1 hz2 rfl (by decide) v out.length _ rfl (own_grown b2 (fun k hk => Below.heap_alloc _ _ k hk)) ⟨w''.heap.size, 0, none⟩ 1 1 [.int .i32 p1] rfl rfl (fun j u hj => by
                        match j, hj with
                        | 0, hj => cases hj; exact cell_newR _ _ _ _ _ _ rfl rfl
                        | j + 1, hj => simp at hj) (by simp [Value.oneCell']) hm (by omega) (Nat.le_trans b1.size (by simp)) ?_; intro v' w1 hown' hgrow hnil)
                    | go_in)
                  go_ret
                  exact ⟨v', rfl, (b1.alloc b1.size _).grown hgrow (Nat.le_trans b1.size (by simp)) (fun k e => own_ge b2 e), by simpa using hown'⟩
                · rw [if_neg h2] at h
                  have h := Option.some.inj h
                  subst h
                  go_wp2
                  go_ret
                  exact ⟨v, rfl, b1, b2⟩
theorem rel_own {w : World} {cx : Cx} {A : Nat → Prop} {xs : List Int} {v : Value} {base : Nat} (h : w.ownsRow base 21 1 v xs.length (xs.map (Value.int .i32))) (hA : ∀ b, base ≤ b → ¬ A b) : Rel w cx A (e_L_i32 xs) v := by
  obtain ⟨_, ⟨h2, h3⟩ | ⟨g, cap, cur, rfl, e2, e3, e4, e5, e6, e7⟩⟩ := h
  · subst h2
    have : xs = [] := List.eq_nil_of_length_eq_zero h3
    subst this
    exact .sl none 0 _ none 0 1 (fun _ _ => .int .i32 0) (fun b h => by cases h) (Nat.le_refl _) (Nat.zero_le _) (fun _ => rfl) (fun h => absurd h (Nat.lt_irrefl _)) (fun j hj => absurd hj (Nat.not_lt_zero _)) (fun j c x hj => absurd hj (Nat.not_lt_zero _))
  · refine .sl none xs.length _ (some ⟨g, 0, none⟩) cap 1 (fun j _ => .int .i32 (xs.getD j 0)) (fun b h => by cases h) e4 e5 (fun h => by cases h) (fun h0 => ⟨g, 0, rfl, hA g e2, (Array.getElem?_eq_some_iff.1 e3).1, fun j c x hj hx => ⟨?_, rfl⟩⟩) (fun j hj => ⟨rfl, rfl⟩) (fun j c x hj hx => ?_)
    · match c, hx with
      | 0, hx =>
        have hc : cur[j]? = some (.int .i32 (xs.getD j 0)) := by
          have q : (cur.toList.take (xs.length * 1))[j]? = (xs.map (Value.int .i32))[j]? := by rw [e7]
          rw [List.getElem?_take, if_pos (by omega)] at q
          simp only [Array.getElem?_toList] at q
          rw [q]
          simp [List.getD_eq_getElem?_getD, hj]
        simp [World.cell?, e3, hc]
      | c + 1, hx => simp [AV.cells] at hx
    · match c, hx with
      | 0, hx => simp only [AV.cells, List.getElem?_cons_zero, Option.some.injEq] at hx; subst hx; exact .int _ _
      | c + 1, hx => simp [AV.cells] at hx
theorem c_eponymref04_One (p_t : T_api_Norm) (p_r : Int) (r : List Int) (h : m_eponymref04_One p_t p_r = some r) : Contract pl 57 [(e_api_Norm p_t), (AV.int .i32 p_r)] [] (e_L_i32 r) [] := by
  refine ⟨⟨_, Tryz.func57, by kernel_rfl, by kernel_rfl⟩, fun V w cx vs S hlen R => ?_⟩
  match vs, hlen with
  | [v0, v1], _ =>
    have r0 := R 0 _ v0 rfl rfl
    have r1 := R 1 _ v1 rfl rfl
    cases r1
    have hcx : cx.length = ([] : Store).length := S.len
    obtain ⟨us, hl, hone, hv0, hrel⟩ := agg_invR r0
    match us, hl with
    | [uR, uC, uE], _ =>
      have qR := hrel 0 _ _ rfl rfl
      have o0 := hone uR (by simp)
      have o1 := hone uC (by simp)
      have o2 := hone uE (by simp)
      obtain ⟨a, cap, esz, vals, rfl, hmem, hesz, hrelR⟩ := sl_invR qR
      have hA : ∀ b, w.heap.size ≤ b → ¬ Av V cx [] b := fun b hb h => h.elim (fun h => absurd (S.low b h) (by omega)) fun h => absurd h wr_nilR
      have fin : ∀ {w' : World}, Below w.heap.size w w' → Ext 0 V w w' cx cx [] [] ∧ RelSt pl.laid V w' cx [] := fun hB => ⟨Ext.grown hB.os hB.tape hB.output hB.size hB.block, S.grown hB.size hB.block⟩
      have hRow : ∀ (q y : Int) (w' : World), Below w.heap.size w w' → m_eponymref04_Row p_t q = some y → Calls Tryz.prog 46 #[.agg #[.slice a p_t.f_Rows.length cap, uC, uE], .int .i32 q] w' fun e w'' => e = .returned (.int .i64 y) ∧ Below w'.heap.size w' w'' := fun q y w' hB hy => by
        obtain ⟨E, S'⟩ := fin hB
        refine ((c_eponymref04_Row p_t q y hy).2 V w' cx [v0, .int .i32 q] S' rfl fun k x v hx hv => ?_).mono ?_ |> fun hh => by rw [hv0] at hh; exact hh
        · match k, hx, hv with
          | 0, hx, hv => cases hx; cases hv; exact Rel.ext (s := []) (s' := []) E hcx r0
          | 1, hx, hv => cases hx; cases hv; exact .int _ _
          | k + 2, hx, hv => simp at hx
        · rintro e w'' ⟨v, cx', rfl, E', S'', R'⟩
          cases R'
          exact ⟨rfl, E'.os, E'.tape, E'.output, E'.size, fun k hk => E'.keep k hk wr_nilR⟩
      obtain ⟨b, off, hN⟩ : ∃ b off, NormAt p_t w a b off (fun j => slAR (vals j 1)) (fun j => slCR (vals j 1)) := by
        by_cases h0 : 0 < p_t.f_Rows.length
        · obtain ⟨b, off, ha, _, hb, hm⟩ := hmem h0
          have he : esz = 2 := (hesz 0 h0).symm
          subst he
          refine ⟨b, off, fun _ => ha, fun j hj => ?_, fun j hj ht => ?_⟩
          · have m0 := (hm j 0 _ hj rfl).1
            have m1 := (hm j 1 _ hj rfl).1
            have p0 := hrelR j 0 _ hj rfl
            have p1 := hrelR j 1 _ hj rfl
            generalize vals j 0 = u0 at m0 p0
            generalize vals j 1 = u1 at m1 p1
            cases p0
            obtain ⟨a', cap', esz', vals', rfl, _⟩ := sl_invR p1
            exact ⟨hb, m0, m1⟩
          · have p1 := hrelR j 1 _ hj rfl
            generalize vals j 1 = u1 at p1
            obtain ⟨a', cap', esz', vals', rfl, hmem', hesz', hrel'⟩ := sl_invR p1
            obtain ⟨b', o', ha', _, hb', hm'⟩ := hmem' ht
            have he' : esz' = 1 := (hesz' 0 ht).symm
            subst he'
            refine ⟨b', o', ha', hb', fun c hc => ?_⟩
            have n0 := (hm' c 0 _ hc rfl).1
            have s0 := hrel' c 0 _ hc rfl
            generalize vals' c 0 = t0 at n0 s0
            cases s0
            simpa using n0
        · exact ⟨0, 0, fun h => absurd h h0, fun j hj => absurd hj (by omega), fun j hj => absurd hj (by omega)⟩
      rw [hv0]
      refine (one_calls p_t a b off cap uC uE _ _ ⟨o0, o1, o2⟩ w hRow 50 p_r r h w (Below.refl _ _) hN).mono ?_
      rintro e w' ⟨v, rfl, hB, hown⟩
      obtain ⟨E, S'⟩ := fin hB
      exact ⟨v, cx, rfl, E, S', rel_own hown hA⟩
end Go.Proofs.YtjhgaacecfmadaaGreatDoor
