/- The shadow evaluator, part 8: values as they now read; stores into objects. No condition. -/
import Derived.Test.YtkeokkmhhhhoiaaGreatDoorSe7
import Derived.Maps.AppendAt
namespace Go.SE
open Go
set_option linter.unusedVariables false
variable {L : Laid}
set_option linter.unusedSimpArgs false

theorem optMap_get {f : AV → Option AV} : ∀ {l l' : List AV}, optMap f l = some l' → l'.length = l.length ∧ ∀ (c : Nat) (x' : AV), l'[c]? = some x' → ∃ x, l[c]? = some x ∧ f x = some x'
  | [], l', h => by cases h; exact ⟨rfl, fun c x' hx => by simp at hx⟩
  | v :: vs, l', h => by
    unfold optMap at h
    split at h
    · rename_i v' vs' hv hvs
      cases h
      obtain ⟨h1, h2⟩ := optMap_get hvs
      refine ⟨by simp [h1], fun c x' hx => ?_⟩
      cases c with
      | zero => simp at hx; subst hx; exact ⟨v, rfl, hv⟩
      | succ c => simpa using h2 c x' (by simpa using hx)
    · cases h
theorem snapRow_get {mb : Bool} {row : Row} {n : Nat} {x : AV} (h : snapRow mb row n = some x) (hok : row.ok) :
    ∃ get, x = .sl (bif mb then none else some false) n get ∧ (∀ j, get j = row.get j) ∧ ∀ j, j < row.len → (row.get j).imm = true := by
  cases row with
  | ints k l => cases h; exact ⟨_, rfl, fun j => rfl, fun j _ => rfl⟩
  | strs l => cases h; exact ⟨_, rfl, fun j => rfl, fun j _ => rfl⟩
  | bools l => cases h; exact ⟨_, rfl, fun j => rfl, fun j _ => rfl⟩
  | imms l =>
    cases h
    refine ⟨_, rfl, fun j => rfl, fun j hj => hok _ ?_⟩
    simp only [Row.len] at hj
    simp only [Row.get, List.getD, List.getElem?_eq_getElem hj, Option.getD_some]
    exact List.getElem_mem hj
  | imf n' g => cases h; exact ⟨_, rfl, fun j => rfl, fun j hj => hok j hj⟩
  | vals l =>
    simp only [snapRow] at h
    cases hq : immL l with
    | false => rw [hq] at h; cases h
    | true =>
      rw [hq] at h
      cases h
      refine ⟨_, rfl, fun j => rfl, fun j hj => immL_mem hq _ ?_⟩
      simp only [Row.len] at hj
      simp only [Row.get, List.getD, List.getElem?_eq_getElem hj, Option.getD_some]
      exact List.getElem_mem hj
theorem snap_ms {d : Nat} {s : Store} {id n : Nat} {x' : AV} (h : snap (d + 1) s (.ms id n) = some x') : ∃ nl get, x' = .sl nl n get := by
  simp only [snap] at h
  split at h
  · rename_i o ho
    cases hr : o.row with
    | vals l =>
      rw [hr] at h
      obtain ⟨l', _, rfl⟩ := Option.map_eq_some_iff.1 h
      exact ⟨_, _, rfl⟩
    | ints k l => rw [hr] at h; cases h; exact ⟨_, _, rfl⟩
    | strs l => rw [hr] at h; cases h; exact ⟨_, _, rfl⟩
    | bools l => rw [hr] at h; cases h; exact ⟨_, _, rfl⟩
    | imms l => rw [hr] at h; cases h; exact ⟨_, _, rfl⟩
    | imf n' g => rw [hr] at h; cases h; exact ⟨_, _, rfl⟩
  · cases h
theorem snap_agg_cells {d : Nat} {s : Store} {x x' : AV} (h : snap (d + 1) s x = some x') (hn : ∀ cs, x ≠ .agg cs) : ∀ cs, x' ≠ .agg cs := by
  intro cs hc
  subst hc
  cases x with
  | ms id n => obtain ⟨_, _, h⟩ := snap_ms h; cases h
  | mso id off n => simp only [snap] at h; cases h
  | mpn id i off b => simp only [snap] at h; cases h
  | sd id n => simp only [snap] at h; cases h
  | agg cs => exact hn _ rfl
  | mp id i off =>
    simp only [snap] at h
    split at h
    · simp at h
    · cases h
  | tup vs => simp [snap] at h
  | iface t v => simp [snap] at h
  | fn f a b => simp only [snap] at h; split at h <;> cases h
  | _ => simp only [snap] at h; cases h
/-- A snapshot of one cell is one cell. -/
theorem snap_one {d : Nat} {s : Store} {x x' : AV} (h : snap (d + 1) s x = some x') (h1 : ∀ cs, x ≠ .agg cs) (h2 : ∀ k l, x ≠ .aggi k l) : x'.cells = [x'] := by
  cases x with
  | ms id n => obtain ⟨_, _, rfl⟩ := snap_ms h; rfl
  | mso id off n => simp only [snap] at h; cases h
  | mpn id i off b => simp only [snap] at h; cases h
  | sd id n => simp only [snap] at h; cases h
  | agg cs => exact absurd rfl (h1 _)
  | aggi k l => exact absurd rfl (h2 _ _)
  | mp id i off =>
    simp only [snap] at h
    split at h
    · obtain ⟨_, _, rfl⟩ := Option.map_eq_some_iff.1 h; rfl
    · cases h
  | tup vs => simp only [snap] at h; obtain ⟨_, _, rfl⟩ := Option.map_eq_some_iff.1 h; rfl
  | iface t v => simp only [snap] at h; obtain ⟨_, _, rfl⟩ := Option.map_eq_some_iff.1 h; rfl
  | fn f a b => simp only [snap] at h; split at h <;> cases h; rfl
  | _ => simp only [snap] at h; cases h; rfl
theorem snap_aggi {d : Nat} {s : Store} {x : AV} {k : IntKind} {l : List Int} (h : snap (d + 1) s x = some (.aggi k l)) : x = .aggi k l := by
  cases x with
  | ms id n => obtain ⟨_, _, h⟩ := snap_ms h; cases h
  | mso id off n => simp only [snap] at h; cases h
  | mpn id i off b => simp only [snap] at h; cases h
  | sd id n => simp only [snap] at h; cases h
  | mp id i off =>
    simp only [snap] at h
    split at h
    · simp at h
    · cases h
  | agg cs => simp [snap] at h
  | tup vs => simp [snap] at h
  | iface t v => simp [snap] at h
  | fn f a b => simp only [snap] at h; split at h <;> cases h
  | _ => simp only [snap] at h; cases h <;> rfl
/-- A snapshot has as many cells. -/
theorem snap_ncells {d : Nat} {s : Store} {x x' : AV} (h : snap d s x = some x') : x'.ncells = x.ncells := by
  cases d with
  | zero => cases h
  | succ d =>
    by_cases hagg : ∃ cs, x = .agg cs
    · obtain ⟨cs, rfl⟩ := hagg
      simp only [snap] at h
      obtain ⟨cs', hcs, rfl⟩ := Option.map_eq_some_iff.1 h
      exact (optMap_get hcs).1
    · by_cases hai : ∃ k l, x = .aggi k l
      · obtain ⟨k, l, rfl⟩ := hai
        simp only [snap] at h
        cases h
        rfl
      · have hsc : x.cells = [x] := by cases x <;> first | rfl | exact absurd ⟨_, rfl⟩ hagg | exact absurd ⟨_, _, rfl⟩ hai
        rw [← AV.cells_length, ← AV.cells_length, hsc, snap_one h (fun cs hc => hagg ⟨cs, hc⟩) fun k l hc => hai ⟨k, l, hc⟩]
        rfl
/-- A snapshot stands for the same value, wherever what it leads to is written no more. -/
theorem Rel.snapped {V : Nat → Prop} {w : World} {cx : Cx} {s : Store} (S : RelSt L V w cx s) {A' : Nat → Prop} (hA : ∀ b, A' b → Av V cx s b) : ∀ (d : Nat) (x x' : AV) (v : Value), snap d s x = some x' → Rel w cx (Av V cx s) x v →
    (∀ id ∈ snapIds d s x, ∀ e o, cx[id]? = some e → s[id]? = some (some o) → e.isnil = false → ¬ A' e.b) → Rel w [] A' x' v ∧ x'.imm = true := by
  intro d
  induction d with
  | zero => intro x x' v h; cases h
  | succ d ih =>
    intro x x' v h R hro
    have mv : ∀ {y : AV} {u : Value}, Rel w cx (Av V cx s) y u → y.imm = true → Rel w [] A' y u := fun r hi =>
      r.imm_move (Nat.le_refl _) (fun _ _ _ => rfl) (fun b _ hb hb' => hb (hA b hb')) hi
    have cellsOf : ∀ (y y1 : AV) (b o : Nat), snap d s y = some y1 → Lies w cx (Av V cx s) y b o → (∀ id ∈ snapIds d s y, ∀ e o, cx[id]? = some e → s[id]? = some (some o) → e.isnil = false → ¬ A' e.b) →
        ∀ (c : Nat) (y' : AV), y1.cells[c]? = some y' → ∃ u, w.cell? ⟨b, o + c, none⟩ = some u ∧ u.oneCell' = true ∧ Rel w [] A' y' u ∧ y'.imm = true := by
      intro y y1 b o he' hlies hro'
      cases d with
      | zero => cases he'
      | succ d =>
        intro c y' hy'
        by_cases hagg : ∃ cs, y = .agg cs
        · obtain ⟨cs, rfl⟩ := hagg
          simp only [snap] at he'
          obtain ⟨cs', hcs, rfl⟩ := Option.map_eq_some_iff.1 he'
          obtain ⟨_, h2⟩ := optMap_get hcs
          obtain ⟨z, hz, hsz⟩ := h2 c y' hy'
          obtain ⟨u, g1, g2, g3⟩ := hlies c z hz
          have hone : Rel w cx (Av V cx s) (.agg [z]) (.agg #[u]) := .agg [z] [u] rfl (fun v hv => by simp at hv; subst hv; exact g2) (fun c x v hx hv => by
            cases c with
            | zero => simp at hx hv; subst hx; subst hv; exact g3
            | succ c => simp at hx)
          have := ih (.agg [z]) (.agg [y']) _ (by simp [snap, optMap, hsz]) hone (fun id' hid => hro' id' (by
            simp only [snapIds, List.flatMap_cons, List.flatMap_nil, List.append_nil] at hid ⊢
            exact List.mem_flatMap.2 ⟨z, List.mem_of_getElem? hz, hid⟩))
          obtain ⟨r1, r2⟩ := this
          refine ⟨u, g1, g2, ?_, ?_⟩
          · cases r1 with
            | agg _ vs hl h1 hrel =>
              rename_i hvs
              exact hrel 0 y' u rfl (by simp)
          · simpa [AV.imm, immL] using r2
        · by_cases hai : ∃ k l, y = .aggi k l
          · obtain ⟨k, l, rfl⟩ := hai
            cases he'
            obtain ⟨u, g1, g2, g3⟩ := hlies c y' hy'
            exact ⟨u, g1, g2, mv g3 (AV.imm_cells (v := .aggi k l) rfl hy'), AV.imm_cells (v := .aggi k l) rfl hy'⟩
          · have hsc : ∀ (z : AV), (∀ cs, z ≠ .agg cs) → (∀ k l, z ≠ .aggi k l) → z.cells = [z] := fun z h1 h2 => by cases z <;> first | rfl | exact absurd rfl (h1 _) | exact absurd rfl (h2 _ _)
            rw [snap_one he' (fun cs hc => hagg ⟨cs, hc⟩) fun k l hc => hai ⟨k, l, hc⟩] at hy'
            cases c with
            | succ c => simp at hy'
            | zero =>
              simp at hy'
              subst hy'
              obtain ⟨u, g1, g2, g3⟩ := hlies 0 y (by rw [hsc y (fun cs hc => hagg ⟨cs, hc⟩) fun k l hc => hai ⟨k, l, hc⟩]; rfl)
              obtain ⟨r1, r2⟩ := ih _ _ _ he' g3 hro'
              exact ⟨u, g1, g2, r1, r2⟩
    have immOf : ∀ (y y1 : AV), (∀ (c : Nat) (y' : AV), y1.cells[c]? = some y' → y'.imm = true) → y1.imm = true := by
      intro y y1 hc
      cases he2 : y1 with
      | agg cs =>
        refine immL_of fun z hz => ?_
        obtain ⟨c, hcl, rfl⟩ := List.getElem_of_mem hz
        exact hc c _ (by rw [he2]; simp [AV.cells, hcl])
      | aggi k l => rfl
      | _ => rw [← he2]; exact hc 0 y1 (by rw [he2]; rfl)
    cases R with
    | ms id n cap e he hnn hn hcap htot hmax =>
      simp only [snap] at h
      split at h
      · rename_i o ho
        obtain ⟨cur, RO⟩ := S.obj id e o he ho hnn
        have hble : n ≤ o.row.len := by rw [← RO.len]; exact hn
        -- a reading of each element by its cells
        have core : ∀ get : Nat → AV, (∀ j, j < n → (get j).ncells = e.esz ∧ ∀ (c : Nat) (y' : AV), (get j).cells[c]? = some y' → ∃ u, w.cell? ⟨e.b, j * e.esz + c, none⟩ = some u ∧ u.oneCell' = true ∧ Rel w [] A' y' u ∧ y'.imm = true) →
            Rel w [] A' (.sl (bif o.mb then none else some false) n get) (.slice (some ⟨e.b, 0, none⟩) n cap) ∧ (AV.sl (bif o.mb then none else some false) n get).imm = true := fun get hg => by
          refine ⟨.sl _ n get (some ⟨e.b, 0, none⟩) cap e.esz (fun j c => (w.cell? ⟨e.b, 0 + (j * e.esz + c), none⟩).getD undef) (fun b hb => ?_) hcap hmax (fun h0 => by cases h0) (fun h0 => ?_) (fun j hj => ?_) (fun j c y hj hy => ?_), rfl⟩
          · cases hm : o.mb <;> rw [hm] at hb <;> cases hb
            rfl
          · refine ⟨e.b, 0, rfl, hro id (by simp [snapIds]) e o he ho hnn, RO.cel, fun j c y hj hy => ?_⟩
            obtain ⟨u, h1, h2, _⟩ := (hg j hj).2 c y hy
            rw [Nat.zero_add, h1]
            exact ⟨rfl, h2⟩
          · exact ⟨immOf .unk _ fun c y hy => by obtain ⟨_, _, _, _, h⟩ := (hg j hj).2 c y hy; exact h, (hg j hj).1⟩
          · obtain ⟨u, h1, h2, h3, _⟩ := (hg j hj).2 c y hy
            rw [Nat.zero_add, h1]
            exact h3
        have plain : snapRow o.mb o.row n = some x' → Rel w [] A' x' (.slice (some ⟨e.b, 0, none⟩) n cap) ∧ x'.imm = true := fun h => by
          obtain ⟨get, rfl, hg, himm⟩ := snapRow_get h RO.ok
          refine core get fun j hj => ⟨by rw [hg]; exact (RO.size j (by omega)).trans RO.esz.symm, fun c y hy => ?_⟩
          rw [hg] at hy
          obtain ⟨u, h1, h2, h3⟩ := RO.lies (i := j) (by omega) c y hy
          have hi := AV.imm_cells (himm j (by omega)) hy
          exact ⟨u, h1, h2, mv h3 hi, hi⟩
        cases hr : o.row with
        | vals l =>
          rw [hr] at h
          obtain ⟨l', hl', rfl⟩ := Option.map_eq_some_iff.1 h
          obtain ⟨g1, g2⟩ := optMap_get hl'
          refine core _ fun j hj => ?_
          have hjl : j < l'.length := by rw [g1]; rw [hr] at hble; exact Nat.lt_of_lt_of_le hj hble
          obtain ⟨y, hy, hsy⟩ := g2 j l'[j] (List.getElem?_eq_getElem hjl)
          have hyl : o.row.get j = y := by rw [hr]; simp [Row.get, List.getD, hy]
          have hgd : l'.getD j .unk = l'[j] := by simp [List.getD, List.getElem?_eq_getElem hjl]
          rw [hgd]
          have hL := RO.lies (i := j) (by omega)
          rw [hyl] at hL
          have hC := cellsOf y l'[j] e.b (j * e.esz) hsy hL fun id' hid => hro id' (by
            simp only [snapIds, ho, hr, List.mem_cons]
            exact .inr (List.mem_flatMap.2 ⟨y, List.mem_of_getElem? hy, hid⟩))
          refine ⟨?_, hC⟩
          rw [snap_ncells hsy, ← hyl, RO.size j (by omega), RO.esz]
        | ints k l => rw [hr] at h; exact plain (by rw [hr]; exact h)
        | strs l => rw [hr] at h; exact plain (by rw [hr]; exact h)
        | bools l => rw [hr] at h; exact plain (by rw [hr]; exact h)
        | imms l => rw [hr] at h; exact plain (by rw [hr]; exact h)
        | imf n' g => rw [hr] at h; exact plain (by rw [hr]; exact h)
      · cases h
    | ms0 id e he hnn =>
      have hmb : ∀ o, s[id]? = some (some o) → o.mb = true := fun o ho => (S.vir id e o he ho hnn).2.2.1
      have fin : ∀ get, Rel w [] A' (.sl none 0 get) (.slice none 0 0) ∧ (AV.sl none 0 get).imm = true := fun get =>
        ⟨.sl none 0 get none 0 0 (fun _ _ => undef) (fun b hb => by cases hb) (Nat.le_refl _) (Nat.zero_le _) (fun _ => rfl) (fun h => absurd h (Nat.lt_irrefl _)) (fun j hj => absurd hj (Nat.not_lt_zero _)) (fun j c x hj => absurd hj (Nat.not_lt_zero _)), rfl⟩
      simp only [snap] at h
      split at h
      · rename_i o ho
        rw [hmb o ho] at h
        cases hr : o.row with
        | vals l =>
          rw [hr] at h
          obtain ⟨l', hl', rfl⟩ := Option.map_eq_some_iff.1 h
          exact fin _
        | ints k l => rw [hr] at h; cases h; exact fin _
        | strs l => rw [hr] at h; cases h; exact fin _
        | bools l => rw [hr] at h; cases h; exact fin _
        | imms l => rw [hr] at h; cases h; exact fin _
        | imf n' g => rw [hr] at h; cases h; exact fin _
      · cases h
    | mso id off n cap o e he hnn hn hcap hoff hmax => simp only [snap] at h; cases h
    | mso0 id e he hnn => simp only [snap] at h; cases h
    | mpn0 id i off => simp only [snap] at h; cases h
    | mpn1 id i off e he hnn hi => simp only [snap] at h; cases h
    | sd id n a ha => simp only [snap] at h; cases h
    | mp id i off e he hnn hi =>
      simp only [snap] at h
      split at h
      · rename_i o ho
        obtain ⟨cur, RO⟩ := S.obj id e o he ho hnn
        obtain ⟨e', he', rfl⟩ := Option.map_eq_some_iff.1 h
        have hro' : ∀ id' ∈ snapIds d s (o.row.get i), ∀ e o, cx[id']? = some e → s[id']? = some (some o) → e.isnil = false → ¬ A' e.b := fun id' hid => hro id' (by simp [snapIds, ho]; exact .inr hid)
        have hlies := RO.lies hi
        have hcell := cellsOf (o.row.get i) e' e.b (i * e.esz) he' hlies hro'
        have himm : e'.imm = true := immOf .unk e' fun c y hy => by obtain ⟨_, _, _, _, h⟩ := hcell c y hy; exact h
        refine ⟨.ip e' off e.b (i * e.esz) (fun c => (w.cell? ⟨e.b, i * e.esz + c, none⟩).getD undef) himm (hro id (by simp [snapIds]) e o he ho hnn) RO.cel (fun c y hy => ?_) (fun c y hy => ?_), rfl⟩
        · obtain ⟨u, g1, g2, _⟩ := hcell c y hy
          rw [g1]; exact ⟨rfl, g2⟩
        · obtain ⟨u, g1, _, g3, _⟩ := hcell c y hy
          rw [g1]; exact g3
      · cases h
    | agg cs vs hl h1 hrel =>
      simp only [snap] at h
      obtain ⟨cs', hcs, rfl⟩ := Option.map_eq_some_iff.1 h
      obtain ⟨g1, g2⟩ := optMap_get hcs
      have key : ∀ c x', cs'[c]? = some x' → ∀ u, vs[c]? = some u → Rel w [] A' x' u ∧ x'.imm = true := fun c x' hx u hu => by
        obtain ⟨y, hy, hsy⟩ := g2 c x' hx
        exact ih y x' u hsy (hrel c y u hy hu) fun id hid => hro id (by simp only [snapIds]; exact List.mem_flatMap.2 ⟨y, List.mem_of_getElem? hy, hid⟩)
      refine ⟨.agg cs' vs (by omega) h1 fun c x' u hx hu => (key c x' hx u hu).1, immL_of fun y hy => ?_⟩
      obtain ⟨c, hc, rfl⟩ := List.getElem_of_mem hy
      have hlt : c < vs.length := by omega
      exact (key c _ (by simp [hc]) vs[c] (by simp [hlt])).2
    | tup cs vs hl hrel =>
      simp only [snap] at h
      obtain ⟨cs', hcs, rfl⟩ := Option.map_eq_some_iff.1 h
      obtain ⟨g1, g2⟩ := optMap_get hcs
      have key : ∀ c x', cs'[c]? = some x' → ∀ u, vs[c]? = some u → Rel w [] A' x' u ∧ x'.imm = true := fun c x' hx u hu => by
        obtain ⟨y, hy, hsy⟩ := g2 c x' hx
        exact ih y x' u hsy (hrel c y u hy hu) fun id hid => hro id (by simp only [snapIds]; exact List.mem_flatMap.2 ⟨y, List.mem_of_getElem? hy, hid⟩)
      refine ⟨.tup cs' vs (by omega) fun c x' u hx hu => (key c x' hx u hu).1, immL_of fun y hy => ?_⟩
      obtain ⟨c, hc, rfl⟩ := List.getElem_of_mem hy
      have hlt : c < vs.length := by omega
      exact (key c _ (by simp [hc]) vs[c] (by simp [hlt])).2
    | iface t x v hrel =>
      simp only [snap] at h
      obtain ⟨x1, hx1, rfl⟩ := Option.map_eq_some_iff.1 h
      obtain ⟨r1, r2⟩ := ih x x1 v hx1 hrel fun id hid => hro id (by simpa [snapIds] using hid)
      exact ⟨.iface t x1 v r1, r2⟩
    | fn f a b a' b' hl hl' hrel hrel' =>
      simp only [snap] at h
      split at h
      · rename_i a1 b1 ha1 hb1
        cases h
        obtain ⟨p1, p2⟩ := optMap_get ha1
        obtain ⟨q1, q2⟩ := optMap_get hb1
        have keyA : ∀ c x', a1[c]? = some x' → ∀ u, a'[c]? = some u → Rel w [] A' x' u ∧ x'.imm = true := fun c x' hx u hu => by
          obtain ⟨y, hy, hsy⟩ := p2 c x' hx
          exact ih y x' u hsy (hrel c y u hy hu) fun id hid => hro id (by simp only [snapIds]; exact List.mem_append.2 (.inl (List.mem_flatMap.2 ⟨y, List.mem_of_getElem? hy, hid⟩)))
        have keyB : ∀ c x', b1[c]? = some x' → ∀ u, b'[c]? = some u → Rel w [] A' x' u ∧ x'.imm = true := fun c x' hx u hu => by
          obtain ⟨y, hy, hsy⟩ := q2 c x' hx
          exact ih y x' u hsy (hrel' c y u hy hu) fun id hid => hro id (by simp only [snapIds]; exact List.mem_append.2 (.inr (List.mem_flatMap.2 ⟨y, List.mem_of_getElem? hy, hid⟩)))
        refine ⟨.fn f a1 b1 a' b' (by omega) (by omega) (fun c x' u hx hu => (keyA c x' hx u hu).1) (fun c x' u hx hu => (keyB c x' hx u hu).1), ?_⟩
        simp only [AV.imm, Bool.and_eq_true]
        refine ⟨immL_of fun y hy => ?_, immL_of fun y hy => ?_⟩
        · obtain ⟨c, hc, rfl⟩ := List.getElem_of_mem hy
          have hlt : c < a'.length := by omega
          exact (keyA c _ (by simp [hc]) a'[c] (by simp [hlt])).2
        · obtain ⟨c, hc, rfl⟩ := List.getElem_of_mem hy
          have hlt : c < b'.length := by omega
          exact (keyB c _ (by simp [hc]) b'[c] (by simp [hlt])).2
      · cases h
    | unk v => cases h; exact ⟨.unk v, rfl⟩
    | bool b => cases h; exact ⟨.bool b, rfl⟩
    | int k n => cases h; exact ⟨.int k n, rfl⟩
    | str b => cases h; exact ⟨.str b, rfl⟩
    | nilp => cases h; exact ⟨.nilp, rfl⟩
    | nilf => cases h; exact ⟨.nilf, rfl⟩
    | nili => cases h; exact ⟨.nili, rfl⟩
    | mapr b => cases h; exact ⟨.mapr b, rfl⟩
    | adr a => cases h; exact ⟨.adr a, rfl⟩
    | sl nl n get a cap esz vals hnil hcap hmax hz hmem himm hrel =>
      cases h
      exact ⟨mv (.sl nl n get a cap esz vals hnil hcap hmax hz hmem himm hrel) rfl, rfl⟩
    | ip e off b o vals himm hA' hb hmem hrel =>
      cases h
      exact ⟨mv (.ip e off b o vals himm hA' hb hmem hrel) rfl, rfl⟩
    | aggi k l => cases h; exact ⟨.aggi k l, rfl⟩
    | err0 => cases h; exact ⟨.err0, rfl⟩
    | errS g t a hA1 hb hm => cases h; exact ⟨mv (.errS g t a hA1 hb hm) rfl, rfl⟩
    | errB t n e b o v hA1 hb h0 h1 hrel => cases h; exact ⟨mv (.errB t n e b o v hA1 hb h0 h1 hrel) rfl, rfl⟩
end Go.SE
