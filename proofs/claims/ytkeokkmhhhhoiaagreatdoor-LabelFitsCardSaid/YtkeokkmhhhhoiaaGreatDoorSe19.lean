/- The shadow evaluator, part 19: frames made plain in general: objects dropped and named anew, values told less. No condition. -/
import Derived.Test.YtkeokkmhhhhoiaaGreatDoorSe17
namespace Go.SE
open Go
set_option linter.unusedVariables false
variable {L : Laid}
set_option linter.unusedSimpArgs false

/-- The place of a number in a list. -/
def idx : List Nat → Nat → Nat
  | [], _ => 0
  | x :: xs, i => bif Nat.beq x i then 0 else idx xs i + 1
def inP : List Nat → Nat → Bool
  | [], _ => false
  | x :: xs, i => Nat.beq x i || inP xs i
/-- Each number once. -/
def onceP : List Nat → Bool
  | [] => true
  | x :: xs => !inP xs x && onceP xs
theorem inP_mem : ∀ {l : List Nat} {i : Nat}, inP l i = true ↔ i ∈ l
  | [], i => by simp [inP]
  | x :: xs, i => by
    have hb : Nat.beq x i = true ↔ i = x := by simp; exact eq_comm
    simp only [inP, Bool.or_eq_true, List.mem_cons, inP_mem (l := xs), hb]
theorem idx_get : ∀ {l : List Nat} {i : Nat}, i ∈ l → l[idx l i]? = some i
  | [], i, h => by cases h
  | x :: xs, i, h => by
    unfold idx
    cases hb : Nat.beq x i with
    | true =>
      have : x = i := by simpa using hb
      simp [this]
    | false =>
      have hne : x ≠ i := fun h => by simp [h] at hb
      simp only [cond_false, List.getElem?_cons_succ]
      exact idx_get ((List.mem_cons.1 h).resolve_left fun h => hne h.symm)
theorem get_idx : ∀ {l : List Nat} {j i : Nat}, onceP l = true → l[j]? = some i → idx l i = j
  | [], j, i, _, h => by simp at h
  | x :: xs, j, i, ho, h => by
    simp only [onceP, Bool.and_eq_true, Bool.not_eq_true'] at ho
    unfold idx
    cases j with
    | zero => simp at h; subst h; simp
    | succ j =>
      simp at h
      have hmem : i ∈ xs := List.mem_of_getElem? h
      have hne : x ≠ i := fun e => by subst e; have := inP_mem.2 hmem; rw [ho.1] at this; cases this
      have hb : Nat.beq x i = false := by
        cases hb : Nat.beq x i with
        | true => exact absurd (by simpa using hb) hne
        | false => rfl
      rw [hb, cond_false, get_idx ho.2 h]
mutual
theorem ren_imm (f : Nat → Nat) : ∀ (x : AV), x.imm = true → x.ren f = x
  | .ms _ _, h => by cases h
  | .mso _ _ _, h => by cases h
  | .mp _ _ _, h => by cases h
  | .mpn _ _ _ _, h => by cases h
  | .sd _ _, h => by cases h
  | .agg cs, h => by simp only [AV.imm] at h; simp only [AV.ren, renL_imm f cs h]
  | .tup vs, h => by simp only [AV.imm] at h; simp only [AV.ren, renL_imm f vs h]
  | .fn g a b, h => by simp only [AV.imm, Bool.and_eq_true] at h; simp only [AV.ren, renL_imm f a h.1, renL_imm f b h.2]
  | .iface t v, h => by simp only [AV.imm] at h; simp only [AV.ren, ren_imm f v h]
  | .unk, _ => rfl
  | .bool _, _ => rfl
  | .int _ _, _ => rfl
  | .str _, _ => rfl
  | .nilp, _ => rfl
  | .nilf, _ => rfl
  | .nili, _ => rfl
  | .mapr _, _ => rfl
  | .adr _, _ => rfl
  | .sl _ _ _, _ => rfl
  | .ip _ _, _ => rfl
  | .aggi _ _, _ => rfl
  | .err _, _ => rfl
theorem renL_imm (f : Nat → Nat) : ∀ (l : List AV), immL l = true → renL f l = l
  | [], _ => rfl
  | v :: vs, h => by simp only [immL, Bool.and_eq_true] at h; simp only [renL, ren_imm f v h.1, renL_imm f vs h.2]
end
theorem renL_get (f : Nat → Nat) : ∀ (l : List AV) (c : Nat), (renL f l)[c]? = (l[c]?).map (AV.ren f)
  | [], c => by simp [renL]
  | v :: vs, 0 => by simp [renL]
  | v :: vs, c + 1 => by simp only [renL, List.getElem?_cons_succ]; exact renL_get f vs c
theorem renL_len (f : Nat → Nat) : ∀ (l : List AV), (renL f l).length = l.length
  | [] => rfl
  | v :: vs => by simp [renL, renL_len f vs]
/-- A value under other names. -/
theorem Rel.rename {w : World} {cx cx' : Cx} {A A' : Nat → Prop} {f : Nat → Nat} {p : Nat → Bool} (hn : ∀ b, b < w.heap.size → ¬ A b → ¬ A' b) (hmap : ∀ (i : Nat) (e : CxE), p i = true → cx[i]? = some e → cx'[f i]? = some e) {x : AV} {v : Value} (h : Rel w cx A x v) (hr : x.refs p = true) : Rel w cx' A' (x.ren f) v := by
  induction h with
  | ms id n cap e he hnn hn' hcap htot hmax => exact .ms _ n cap e (hmap _ _ hr he) hnn hn' hcap htot hmax
  | ms0 id e he hnn => exact .ms0 _ e (hmap _ _ hr he) hnn
  | mso id off n cap o e he hnn hn' hcap hoff hmax => exact .mso _ off n cap o e (hmap _ _ hr he) hnn hn' hcap hoff hmax
  | mso0 id e he hnn => exact .mso0 _ e (hmap _ _ hr he) hnn
  | mp id i off e he hnn hi' => exact .mp _ i off e (hmap _ _ hr he) hnn hi'
  | mpn0 id i off => exact .mpn0 _ i off
  | mpn1 id i off e he hnn hi' => exact .mpn1 _ i off e (hmap _ _ hr he) hnn hi'
  | sd id n a h => exact .sd _ n a fun h0 => (h h0).imp fun e h => ⟨hmap _ _ hr h.1, h.2⟩
  | sl isnil n get a cap esz vals hnil hcap hmax hz hmem himm hrel ih =>
    exact (Rel.sl isnil n get a cap esz vals hnil hcap hmax hz hmem himm hrel).imm_move (Nat.le_refl _) (fun _ _ _ => rfl) hn rfl
  | ip e off b o vals himm hA hb hmem hrel ih =>
    exact (Rel.ip e off b o vals himm hA hb hmem hrel).imm_move (Nat.le_refl _) (fun _ _ _ => rfl) hn rfl
  | agg cs vs hl h1 hrel ih =>
    refine .agg _ vs (by rw [renL_len]; exact hl) h1 fun c x v hx hv => ?_
    rw [renL_get] at hx
    obtain ⟨y, hy, rfl⟩ := Option.map_eq_some_iff.1 hx
    exact ih c y v hy hv (refsL_mem (by simpa [AV.refs] using hr) y (List.mem_of_getElem? hy))
  | tup cs vs hl hrel ih =>
    refine .tup _ vs (by rw [renL_len]; exact hl) fun c x v hx hv => ?_
    rw [renL_get] at hx
    obtain ⟨y, hy, rfl⟩ := Option.map_eq_some_iff.1 hx
    exact ih c y v hy hv (refsL_mem (by simpa [AV.refs] using hr) y (List.mem_of_getElem? hy))
  | fn g a b a' b' hl hl' hrel hrel' ih ih' =>
    simp only [AV.refs, Bool.and_eq_true] at hr
    refine .fn g _ _ a' b' (by rw [renL_len]; exact hl) (by rw [renL_len]; exact hl') (fun c x v hx hv => ?_) fun c x v hx hv => ?_
    · rw [renL_get] at hx
      obtain ⟨y, hy, rfl⟩ := Option.map_eq_some_iff.1 hx
      exact ih c y v hy hv (refsL_mem hr.1 y (List.mem_of_getElem? hy))
    · rw [renL_get] at hx
      obtain ⟨y, hy, rfl⟩ := Option.map_eq_some_iff.1 hx
      exact ih' c y v hy hv (refsL_mem hr.2 y (List.mem_of_getElem? hy))
  | iface t x v hrel ih => exact .iface t _ v (ih (by simpa [AV.refs] using hr))
  | unk v => exact .unk v
  | bool b => exact .bool b
  | int k n => exact .int k n
  | str s => exact .str s
  | nilp => exact .nilp
  | nilf => exact .nilf
  | nili => exact .nili
  | mapr b => exact .mapr b
  | adr a => exact .adr a
  | aggi k l => exact .aggi k l
  | err0 => exact .err0
  | errS g t a hA hb hm => exact .errS g t a (hn g hb hA) hb hm
  | errB t n e b o v hA hb h0 h1 hrel ih => exact .errB t n e b o v (hn b hb hA) hb h0 h1 (ih rfl)
/-- A cell told less, under other names. -/
def cellLe (ps : List Nat) (x y : AV) : Prop := x.refs (inP ps) = true ∧ (x.ren (idx ps)).Le y
def cellsLe (ps : List Nat) : List AV → List AV → Prop
  | [], [] => True
  | x :: xs, y :: ys => cellLe ps x y ∧ cellsLe ps xs ys
  | _, _ => False
theorem cellsLe_out {ps : List Nat} : ∀ {xs ys : List AV}, cellsLe ps xs ys → xs.length = ys.length ∧ ∀ (c : Nat) (y : AV), ys[c]? = some y → ∃ x, xs[c]? = some x ∧ cellLe ps x y
  | [], [], _ => ⟨rfl, fun c y h => by simp at h⟩
  | x :: xs, y :: ys, h => by
    obtain ⟨h1, h2⟩ := cellsLe_out h.2
    refine ⟨by simp [h1], fun c z hz => ?_⟩
    cases c with
    | zero => simp at hz; subst hz; exact ⟨x, by simp, h.1⟩
    | succ c => exact h2 c z (by simpa using hz)
  | [], _ :: _, h => h.elim
  | _ :: _, [], h => h.elim
/-- A row's elements told less. -/
def rowLe (ps : List Nat) (r r' : Row) : Prop :=
  r'.len = r.len ∧ (r.ok → r'.ok) ∧ ∀ i, i < r.len → (r'.get i).ncells = (r.get i).ncells ∧ ∀ (c : Nat) (y : AV), (r'.get i).cells[c]? = some y → ∃ x, (r.get i).cells[c]? = some x ∧ (r.ok → cellLe ps x y)
theorem cellLe_imm {ps : List Nat} {x : AV} (h : x.imm = true) : cellLe ps x x := by
  refine ⟨?_, ?_⟩
  · exact go.1 x h
  · rw [ren_imm _ x h]; exact AV.Le.refl x
where
  go : (∀ x : AV, x.imm = true → x.refs (inP ps) = true) ∧ (∀ l : List AV, immL l = true → refsL (inP ps) l = true) := by
    refine ⟨fun x => ?_, fun l => ?_⟩
    · refine AV.rec (motive_1 := fun x => x.imm = true → x.refs (inP ps) = true) (motive_2 := fun l => immL l = true → refsL (inP ps) l = true) ?_ ?_ ?_ ?_ ?_ ?_ ?_ ?_ ?_ ?_ ?_ ?_ ?_ ?_ ?_ ?_ ?_ ?_ ?_ ?_ ?_ ?_ ?_ ?_ x <;> intros <;> simp_all [AV.imm, AV.refs, immL, refsL]
    · refine AV.rec_1 (motive_1 := fun x => x.imm = true → x.refs (inP ps) = true) (motive_2 := fun l => immL l = true → refsL (inP ps) l = true) ?_ ?_ ?_ ?_ ?_ ?_ ?_ ?_ ?_ ?_ ?_ ?_ ?_ ?_ ?_ ?_ ?_ ?_ ?_ ?_ ?_ ?_ ?_ ?_ l <;> intros <;> simp_all [AV.imm, AV.refs, immL, refsL]
theorem rowLe_imm {ps : List Nat} {r r' : Row} (hl : r'.len = r.len) (hok : r.ok → r'.ok) (himm : r.ok → ∀ i, i < r.len → (r.get i).imm = true) (h : ∀ i, i < r.len → r'.get i = r.get i) : rowLe ps r r' := by
  refine ⟨hl, hok, fun i hi => ⟨by rw [h i hi], fun c y hy => ?_⟩⟩
  rw [h i hi] at hy
  exact ⟨y, hy, fun ho => cellLe_imm (AV.imm_cells (himm ho i hi) hy)⟩
theorem rowLe_same {ps : List Nat} {r : Row} (himm : r.ok → ∀ i, i < r.len → (r.get i).imm = true) : rowLe ps r r := rowLe_imm rfl id himm fun _ _ => rfl
theorem rowLe_ints {ps : List Nat} {k : IntKind} {l l' : List Int} (h : l = l') : rowLe ps (.ints k l) (.ints k l') := by subst h; exact rowLe_same fun _ _ _ => rfl
theorem rowLe_strs {ps : List Nat} {l l' : List ByteArray} (h : l = l') : rowLe ps (.strs l) (.strs l') := by subst h; exact rowLe_same fun _ _ _ => rfl
theorem rowLe_bools {ps : List Nat} {l l' : List Bool} (h : l = l') : rowLe ps (.bools l) (.bools l') := by subst h; exact rowLe_same fun _ _ _ => rfl
theorem rowLe_imf {ps : List Nat} {n n' : Nat} {g g' : Nat → AV} (hn : n' = n) (h : ∀ i, i < n → g' i = g i) : rowLe ps (.imf n g) (.imf n' g') := by
  subst hn
  exact rowLe_imm rfl (fun ho j hj => by rw [h j hj]; exact ho j hj) (fun ho i hi => ho i hi) h
theorem rowLe_imms {ps : List Nat} {l : List AV} {n' : Nat} {g' : Nat → AV} (hn : n' = l.length) (h : ∀ i, i < l.length → g' i = l.getD i .unk) : rowLe ps (.imms l) (.imf n' g') := by
  subst hn
  have hm : ∀ i, i < l.length → l.getD i .unk ∈ l := fun i hi => by
    simp only [List.getD, List.getElem?_eq_getElem hi, Option.getD_some]
    exact List.getElem_mem hi
  exact rowLe_imm rfl (fun ho j hj => by rw [h j hj]; exact ho _ (hm j hj)) (fun ho i hi => ho _ (hm i hi)) h
/-- Elements one by one. -/
def valsLe (ps : List Nat) : List AV → List AV → Prop
  | [], [] => True
  | x :: xs, y :: ys => cellsLe ps x.cells y.cells ∧ valsLe ps xs ys
  | _, _ => False
theorem valsLe_out {ps : List Nat} : ∀ {xs ys : List AV}, valsLe ps xs ys → xs.length = ys.length ∧ ∀ i, i < xs.length → cellsLe ps (xs.getD i .unk).cells (ys.getD i .unk).cells
  | [], [], _ => ⟨rfl, fun i h => absurd h (Nat.not_lt_zero _)⟩
  | x :: xs, y :: ys, h => by
    obtain ⟨h1, h2⟩ := valsLe_out h.2
    refine ⟨by simp [h1], fun i hi => ?_⟩
    cases i with
    | zero => exact h.1
    | succ i => exact h2 i (by simpa using hi)
  | [], _ :: _, h => h.elim
  | _ :: _, [], h => h.elim
theorem rowLe_vals {ps : List Nat} {l l' : List AV} (h : valsLe ps l l') : rowLe ps (.vals l) (.vals l') := by
  obtain ⟨h1, h2⟩ := valsLe_out h
  refine ⟨h1.symm, fun _ => trivial, fun i hi => ?_⟩
  obtain ⟨g1, g2⟩ := cellsLe_out (h2 i hi)
  refine ⟨by show (l'.getD i .unk).ncells = (l.getD i .unk).ncells; rw [← AV.cells_length, ← AV.cells_length, g1], fun c y hy => ?_⟩
  obtain ⟨x, hx, hxy⟩ := g2 c y hy
  exact ⟨x, hx, fun _ => hxy⟩
def objLe (ps : List Nat) (o o' : MObj) : Prop := o'.esz = o.esz ∧ o'.ety = o.ety ∧ (o.ro = true → o'.ro = true) ∧ (o.mb = true → o'.mb = true) ∧ rowLe ps o.row o'.row
def storeLe (ps : List Nat) (s : Store) : List Nat → Store → Prop
  | [], [] => True
  | _ :: is, none :: os => storeLe ps s is os
  | i :: is, some o' :: os => (match s[i]? with | some (some o) => objLe ps o o' | _ => False) ∧ storeLe ps s is os
  | _, _ => False
theorem storeLe_out {ps : List Nat} {s : Store} : ∀ {is : List Nat} {os : Store}, storeLe ps s is os → is.length = os.length ∧ ∀ (j : Nat) (o' : MObj), os[j]? = some (some o') → ∃ i o, is[j]? = some i ∧ s[i]? = some (some o) ∧ objLe ps o o'
  | [], [], _ => ⟨rfl, fun j o' h => by simp at h⟩
  | i :: is, none :: os, h => by
    obtain ⟨h1, h2⟩ := storeLe_out (is := is) (os := os) h
    refine ⟨by simp [h1], fun j o' hj => ?_⟩
    cases j with
    | zero => simp at hj
    | succ j => exact h2 j o' (by simpa using hj)
  | i :: is, some o1 :: os, h => by
    obtain ⟨hq, h⟩ := h
    obtain ⟨h1, h2⟩ := storeLe_out (is := is) (os := os) h
    refine ⟨by simp [h1], fun j o' hj => ?_⟩
    cases j with
    | zero =>
      simp at hj
      subst hj
      split at hq
      · rename_i o ho; exact ⟨i, o, rfl, ho, hq⟩
      · exact hq.elim
    | succ j => exact h2 j o' (by simpa using hj)
  | [], _ :: _, h => by cases ‹Option MObj› <;> exact h.elim
  | _ :: _, [], h => h.elim
/-- The told slots stand for no more than what is there. -/
def slotsLe (ps : List Nat) (t : List AV) : List (Nat × AV) → Prop
  | [] => True
  | (i, v) :: r => cellLe ps (t.getD i .unk) v ∧ slotsLe ps t r
theorem slots_look {ps : List Nat} {t : List AV} : ∀ (kv : List (Nat × AV)), slotsLe ps t kv → ∀ j, look kv j = .unk ∨ cellLe ps (t.getD j .unk) (look kv j)
  | [], _, _ => .inl rfl
  | (i, v) :: r, h, j => by
    simp only [look]
    split
    · rename_i hb
      have : i = j := Nat.eq_of_beq_eq_true hb
      subst this
      exact .inr h.1
    · exact slots_look r h.2 j
def firstP : Nat → List Nat → Bool
  | 0, _ => true
  | m + 1, ps => firstP m ps && (match ps[m]? with | some i => Nat.beq i m | none => false)
theorem firstP_out : ∀ {m : Nat} {ps : List Nat}, firstP m ps = true → ∀ i, i < m → ps[i]? = some i
  | 0, ps, _, i, hi => absurd hi (Nat.not_lt_zero _)
  | m + 1, ps, h, i, hi => by
    simp only [firstP, Bool.and_eq_true] at h
    by_cases e : i = m
    · subst e
      have h2 := h.2
      split at h2
      · rename_i k hk
        have : k = i := by simpa using h2
        subst this
        exact hk
      · cases h2
    · exact firstP_out h.1 i (by omega)
/-- A FRAME MADE PLAIN, IN GENERAL. ps: which objects stay, in their new order. -/
theorem weak_gen {m n : Nat} {t : List AV} {s s' : Store} {kv : List (Nat × AV)} (ps : List Nat) (hq : (onceP ps && ps.all (fun i => Nat.blt i s.length) && firstP m ps) = true) (hn : t.length = n) (hs : storeLe ps s ps s') (h : slotsLe ps t kv) : Weak m ⟨t, s⟩ (mkF n kv s') := by
  intro L V w cx a R
  simp only [Bool.and_eq_true, List.all_eq_true] at hq
  obtain ⟨⟨honce, hlt⟩, hfirst⟩ := hq
  have hfirst := firstP_out hfirst
  have hlt : ∀ i ∈ ps, i < s.length := fun i hi => by simpa using hlt i hi
  obtain ⟨hlen, hobj⟩ := storeLe_out hs
  have S := R.st
  have S : RelSt L V w cx s := S
  let cx' : Cx := ps.map fun i => cx.getD i ⟨0, 0, 0, 0, true⟩
  have hcx : ∀ (j : Nat) (e : CxE), cx'[j]? = some e → ∃ i, ps[j]? = some i ∧ cx[i]? = some e := fun j e h => by
    simp only [cx', List.getElem?_map, Option.map_eq_some_iff] at h
    obtain ⟨i, hi, he⟩ := h
    refine ⟨i, hi, ?_⟩
    have : i < cx.length := by rw [S.len]; exact hlt i (List.mem_of_getElem? hi)
    rw [List.getElem?_eq_getElem this]
    simp only [List.getD, List.getElem?_eq_getElem this, Option.getD_some] at he
    rw [he]
  have hmap : ∀ (i : Nat) (e : CxE), inP ps i = true → cx[i]? = some e → cx'[idx ps i]? = some e := fun i e hp he => by
    have := idx_get (inP_mem.1 hp)
    simp only [cx', List.getElem?_map, this, Option.map_some, List.getD, he, Option.getD_some]
  have hinj : ∀ (j j' i : Nat), ps[j]? = some i → ps[j']? = some i → j = j' := fun j j' i h1 h2 => by rw [← get_idx honce h1, ← get_idx honce h2]
  have hwr : ∀ b, Wr cx' s' b → Wr cx s b := fun b ⟨j, e, o', he, ho', hr, hnn, hb⟩ => by
    obtain ⟨i, hi, he⟩ := hcx j e he
    obtain ⟨i', o, hi', ho, l1, l2, l3, l4, l5⟩ := hobj j o' ho'
    rw [hi] at hi'
    cases hi'
    refine ⟨i, e, o, he, ho, ?_, hnn, hb⟩
    cases hor : o.ro with
    | false => rfl
    | true => rw [l3 hor] at hr; cases hr
  have hav : ∀ b, b < w.heap.size → ¬ Av V cx s b → ¬ Av V cx' s' b := fun b _ hA hA' => hA (hA'.imp (fun h => h) (hwr b))
  refine ⟨cx', ⟨rfl, rfl, rfl, Nat.le_refl _, fun _ _ _ => rfl, hav, fun b _ hA hA' => hA (hwr b hA'), fun i e hi he => ?_⟩, ⟨S.low, by simp [cx', hlen, mkF], fun j e o' he ho' hnn => ?_, fun j e o' he ho' hnn => ?_, fun j e o' he ho' hmb => ?_, fun j e o' he ho' hnn => ?_, fun j j' ej ej' oj oj' hej hej' hoj hoj' hnj hnj' hne hio => ?_, S.glob.move (Nat.le_refl _) (fun _ _ _ => rfl) hav⟩, by rw [R.size]; simp only [mkF, mkT_len, hn], R.defers, fun i x hx => ?_⟩
  · simp only [cx', List.getElem?_map, hfirst i hi, Option.map_some, List.getD, he, Option.getD_some]
  · obtain ⟨i, hi, he⟩ := hcx j e he
    obtain ⟨i', o, hi', ho, l1, l2, l3, l4, l5, l6, l7⟩ := hobj j o' ho'
    rw [hi] at hi'
    cases hi'
    obtain ⟨cur, RO⟩ := S.obj i e o he ho hnn
    refine ⟨cur, by rw [l2]; obtain ⟨fz, p, q⟩ := RO.hp; exact ⟨fz, p, fun h => q (by cases hr : o.ro with | false => rfl | true => (rw [l3 hr] at h; cases h))⟩, RO.tot, by rw [l1]; exact RO.esz, by rw [l5]; exact RO.len, l6 RO.ok, RO.fits, fun k hk => ?_, fun k c y hk hy => ?_⟩
    · rw [(l7 k (by rw [← RO.len]; exact hk)).1, l1]; exact RO.size k hk
    · obtain ⟨x, hx, hxy⟩ := (l7 k (by rw [← RO.len]; exact hk)).2 c y hy
      obtain ⟨u, h1, h2, h3⟩ := RO.cells k c x hk hx
      obtain ⟨g1, g2⟩ := hxy RO.ok
      exact ⟨u, h1, h2, g2 _ _ _ _ (h3.rename hav hmap g1)⟩
  · obtain ⟨i, hi, he⟩ := hcx j e he
    obtain ⟨i', o, hi', ho, l1, l2, l3, l4, l5, l6, l7⟩ := hobj j o' ho'
    rw [hi] at hi'
    cases hi'
    obtain ⟨v1, v2, v3, v4⟩ := S.vir i e o he ho hnn
    exact ⟨by rw [l5]; exact v1, l6 v2, l4 v3, by rw [l1]; exact v4⟩
  · obtain ⟨i, hi, he⟩ := hcx j e he
    obtain ⟨i', o, hi', ho, l1, l2, l3, l4, l5⟩ := hobj j o' ho'
    rw [hi] at hi'
    cases hi'
    refine S.may i e o he ho ?_
    cases hm : o.mb with
    | false => rfl
    | true => rw [l4 hm] at hmb; cases hmb
  · obtain ⟨i, hi, he⟩ := hcx j e he
    obtain ⟨i', o, hi', ho, _⟩ := hobj j o' ho'
    rw [hi] at hi'
    cases hi'
    exact S.apart i e o he ho hnn
  · obtain ⟨i, hi, he⟩ := hcx j ej hej
    obtain ⟨i1, o1, hi1, ho1, _, _, r1, _⟩ := hobj j oj hoj
    rw [hi] at hi1
    cases hi1
    obtain ⟨i', hi', he'⟩ := hcx j' ej' hej'
    obtain ⟨i2, o2, hi2, ho2, _, _, r2, _⟩ := hobj j' oj' hoj'
    rw [hi'] at hi2
    cases hi2
    refine S.inj i i' ej ej' o1 o2 he he' ho1 ho2 hnj hnj' (fun e => by subst e; exact hne (hinj j j' i hi hi')) (hio.imp (fun h => ?_) fun h => ?_)
    · cases hr : o1.ro with
      | false => rfl
      | true => rw [r1 hr] at h; cases h
    · cases hr : o2.ro with
      | false => rfl
      | true => rw [r2 hr] at h; cases h
  · obtain ⟨h1, h2⟩ := mkT_get kv n 0 i x hx
    rw [Nat.zero_add] at h1
    rcases slots_look kv h i with h3 | h3
    · rw [h1, h3]; exact .unk _
    · have hi : i < t.length := by omega
      have hr := R.tmps i (t.getD i .unk) (by simp [List.getD_eq_getElem?_getD, hi])
      rw [h1]
      exact h3.2 _ _ _ _ (hr.rename hav hmap h3.1)
end Go.SE
