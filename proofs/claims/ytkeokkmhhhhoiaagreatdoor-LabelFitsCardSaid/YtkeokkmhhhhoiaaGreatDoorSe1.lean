/- The shadow evaluator, part 1: how relations, stores and worlds move. No condition. -/
import Derived.Test.YtkeokkmhhhhoiaaGreatDoorSe0
import Derived.Laws.AppendOwn
import Derived.Laws.MakeOwn
import Derived.Below
namespace Go.SE
open Go
set_option linter.unusedVariables false
variable {L : Laid}
set_option linter.unusedSimpArgs false

theorem AV.cells_length (v : AV) : v.cells.length = v.ncells := by cases v <;> simp [AV.cells, AV.ncells]
theorem AV.cell_get (v : AV) (c : Nat) (h : c < v.ncells) : v.cells[c]? = some (v.cellAt c) := by
  cases v <;> simp_all [AV.cells, AV.ncells, AV.cellAt, List.getD]
theorem AV.cell_lt {v x : AV} {c : Nat} (h : v.cells[c]? = some x) : c < v.ncells := by
  rw [← v.cells_length]; exact (List.getElem?_eq_some_iff.1 h).1
theorem AV.cell_eq {v x : AV} {c : Nat} (h : v.cells[c]? = some x) : x = v.cellAt c := by
  have := v.cell_get c (AV.cell_lt h)
  rw [h] at this
  exact Option.some.inj this
theorem immL_mem : ∀ {l : List AV}, immL l = true → ∀ x ∈ l, x.imm = true
  | [], _, x, hx => by cases hx
  | v :: vs, h, x, hx => by
    simp only [immL, Bool.and_eq_true] at h
    rcases List.mem_cons.1 hx with rfl | hx
    · exact h.1
    · exact immL_mem h.2 x hx
theorem immL_of : ∀ {l : List AV}, (∀ x ∈ l, x.imm = true) → immL l = true
  | [], _ => rfl
  | v :: vs, h => by
    simp only [immL, Bool.and_eq_true]
    exact ⟨h v (by simp), immL_of fun x hx => h x (by simp [hx])⟩
theorem scalarL_mem : ∀ {l : List AV}, scalarL l = true → ∀ x ∈ l, x.scalar = true
  | [], _, x, hx => by cases hx
  | v :: vs, h, x, hx => by
    simp only [scalarL, Bool.and_eq_true] at h
    rcases List.mem_cons.1 hx with rfl | hx
    · exact h.1
    · exact scalarL_mem h.2 x hx
theorem AV.imm_cells {v x : AV} {c : Nat} (h : v.imm = true) (hx : v.cells[c]? = some x) : x.imm = true := by
  cases v with
  | agg cs => exact immL_mem (l := cs) (by simpa [AV.imm] using h) x (List.mem_of_getElem? hx)
  | aggi k l =>
    simp only [AV.cells, List.getElem?_map, Option.map_eq_some_iff] at hx
    obtain ⟨n, _, rfl⟩ := hx
    rfl
  | _ =>
    simp only [AV.cells, List.getElem?_singleton] at hx
    split at hx <;> simp_all

/-! ### Relations move with the world -/
section
variable {w w' : World} {cx cx' : Cx} {A A' : Nat → Prop}
theorem cell_keep (hk : ∀ b, b < w.heap.size → ¬ A b → w'.heap[b]? = w.heap[b]?) {b o : Nat} (hb : b < w.heap.size) (hA : ¬ A b) : w'.cell? ⟨b, o, none⟩ = w.cell? ⟨b, o, none⟩ :=
  World.cell?_of_block (a := ⟨b, o, none⟩) (hk b hb hA)
theorem Rel.move (hs : w.heap.size ≤ w'.heap.size) (hk : ∀ b, b < w.heap.size → ¬ A b → w'.heap[b]? = w.heap[b]?) (hn : ∀ b, b < w.heap.size → ¬ A b → ¬ A' b)
    (hc : ∀ (i : Nat) (e : CxE), cx[i]? = some e → cx'[i]? = some e) {x : AV} {v : Value} (h : Rel w cx A x v) : Rel w' cx' A' x v := by
  induction h with
  | unk v => exact .unk v
  | bool b => exact .bool b
  | int k n => exact .int k n
  | str s => exact .str s
  | nilp => exact .nilp
  | nilf => exact .nilf
  | nili => exact .nili
  | mapr b => exact .mapr b
  | adr a => exact .adr a
  | sl isnil n get a cap esz vals hnil hcap hmax hz hmem himm hrel ih =>
    refine .sl isnil n get a cap esz vals hnil hcap hmax hz (fun h0 => ?_) himm ih
    obtain ⟨b, off, ha, hA, hb, hm⟩ := hmem h0
    exact ⟨b, off, ha, hn b hb.lt hA, hb.keep (hk b hb.lt hA), fun j c x hj hx => ⟨(cell_keep hk hb.lt hA).trans (hm j c x hj hx).1, (hm j c x hj hx).2⟩⟩
  | ip e off b o vals himm hA hb hmem hrel ih =>
    exact .ip e off b o vals himm (hn b hb.lt hA) (hb.keep (hk b hb.lt hA)) (fun c x hx => ⟨(cell_keep hk hb.lt hA).trans (hmem c x hx).1, (hmem c x hx).2⟩) ih
  | ms id n cap e he hnn hn' hcap htot hmax => exact .ms id n cap e (hc _ _ he) hnn hn' hcap htot hmax
  | ms0 id e he hnn => exact .ms0 id e (hc _ _ he) hnn
  | mso id off n cap o e he hnn hn' hcap hoff hmax => exact .mso id off n cap o e (hc _ _ he) hnn hn' hcap hoff hmax
  | mso0 id e he hnn => exact .mso0 id e (hc _ _ he) hnn
  | mp id i off e he hnn hi => exact .mp id i off e (hc _ _ he) hnn hi
  | mpn0 id i off => exact .mpn0 id i off
  | mpn1 id i off e he hnn hi => exact .mpn1 id i off e (hc _ _ he) hnn hi
  | sd id n a h => exact .sd id n a fun h0 => (h h0).imp fun e h => ⟨hc _ _ h.1, h.2⟩
  | agg cs vs hl h1 hrel ih => exact .agg cs vs hl h1 ih
  | aggi k l => exact .aggi k l
  | tup cs vs hl hrel ih => exact .tup cs vs hl ih
  | fn f a b a' b' hl hl' hrel hrel' ih ih' => exact .fn f a b a' b' hl hl' ih ih'
  | iface t x v hrel ih => exact .iface t x v ih
  | err0 => exact .err0
  | errS g t a hA hb hm => exact .errS g t a (hn g hb hA) (Nat.lt_of_lt_of_le hb hs) ((cell_keep hk hb hA).trans hm)
  | errB t n e b o v hA hb h0 h1 hrel ih => exact .errB t n e b o v (hn b hb hA) (Nat.lt_of_lt_of_le hb hs) ((cell_keep hk hb hA).trans h0) ((cell_keep hk hb hA).trans h1) ih
/-- What has no references needs no places. -/
theorem Rel.imm_move (hs : w.heap.size ≤ w'.heap.size) (hk : ∀ b, b < w.heap.size → ¬ A b → w'.heap[b]? = w.heap[b]?) (hn : ∀ b, b < w.heap.size → ¬ A b → ¬ A' b)
    {x : AV} {v : Value} (h : Rel w cx A x v) (hi : x.imm = true) : Rel w' cx' A' x v := by
  induction h with
  | unk v => exact .unk v
  | bool b => exact .bool b
  | int k n => exact .int k n
  | str s => exact .str s
  | nilp => exact .nilp
  | nilf => exact .nilf
  | nili => exact .nili
  | mapr b => exact .mapr b
  | adr a => exact .adr a
  | sl isnil n get a cap esz vals hnil hcap hmax hz hmem himm hrel ih =>
    refine .sl isnil n get a cap esz vals hnil hcap hmax hz (fun h0 => ?_) himm (fun j c x hj hx => ih j c x hj hx (AV.imm_cells (himm j hj).1 hx))
    obtain ⟨b, off, ha, hA, hb, hm⟩ := hmem h0
    exact ⟨b, off, ha, hn b hb.lt hA, hb.keep (hk b hb.lt hA), fun j c x hj hx => ⟨(cell_keep hk hb.lt hA).trans (hm j c x hj hx).1, (hm j c x hj hx).2⟩⟩
  | ip e off b o vals himm hA hb hmem hrel ih =>
    exact .ip e off b o vals himm (hn b hb.lt hA) (hb.keep (hk b hb.lt hA)) (fun c x hx => ⟨(cell_keep hk hb.lt hA).trans (hmem c x hx).1, (hmem c x hx).2⟩)
      (fun c x hx => ih c x hx (AV.imm_cells himm hx))
  | ms id n cap e he hnn hn' hcap htot hmax => cases hi
  | ms0 id e he hnn => cases hi
  | mso id off n cap o e he hnn hn' hcap hoff hmax => cases hi
  | mso0 id e he hnn => cases hi
  | mp id i off e he hnn hi' => cases hi
  | mpn0 id i off => cases hi
  | mpn1 id i off e he hnn hi' => cases hi
  | sd id n a h => cases hi
  | agg cs vs hl h1 hrel ih => exact .agg cs vs hl h1 (fun c x v hx hv => ih c x v hx hv (immL_mem (by simpa [AV.imm] using hi) x (List.mem_of_getElem? hx)))
  | aggi k l => exact .aggi k l
  | tup cs vs hl hrel ih => exact .tup cs vs hl (fun c x v hx hv => ih c x v hx hv (immL_mem (by simpa [AV.imm] using hi) x (List.mem_of_getElem? hx)))
  | fn f a b a' b' hl hl' hrel hrel' ih ih' =>
    simp only [AV.imm, Bool.and_eq_true] at hi
    exact .fn f a b a' b' hl hl' (fun c x v hx hv => ih c x v hx hv (immL_mem hi.1 x (List.mem_of_getElem? hx))) (fun c x v hx hv => ih' c x v hx hv (immL_mem hi.2 x (List.mem_of_getElem? hx)))
  | iface t x v hrel ih => exact .iface t x v (ih (by simpa [AV.imm] using hi))
  | err0 => exact .err0
  | errS g t a hA hb hm => exact .errS g t a (hn g hb hA) (Nat.lt_of_lt_of_le hb hs) ((cell_keep hk hb hA).trans hm)
  | errB t n e b o v hA hb h0 h1 hrel ih => exact .errB t n e b o v (hn b hb hA) (Nat.lt_of_lt_of_le hb hs) ((cell_keep hk hb hA).trans h0) ((cell_keep hk hb hA).trans h1) (ih rfl)
/-- What is laid stays. -/
theorem Glob.move (G : Glob L w A) (hs : w.heap.size ≤ w'.heap.size) (hk : ∀ b, b < w.heap.size → ¬ A b → w'.heap[b]? = w.heap[b]?) (hn : ∀ b, b < w.heap.size → ¬ A b → ¬ A' b) : Glob L w' A' where
  sent g hg := by
    obtain ⟨h1, h2, a, h3, h5, cur, t, h6⟩ := G.sent g hg
    have hb : a.block < w.heap.size := (Array.getElem?_eq_some_iff.1 h6).1
    exact ⟨hn g h2 h1, Nat.lt_of_lt_of_le h2 hs, a, (cell_keep hk h2 h1).trans h3, hn _ hb h5, cur, t, (hk _ hb h5).trans h6⟩
  apart g g' a hg hg' h h' := by
    obtain ⟨h1, h2, _⟩ := G.sent g hg
    obtain ⟨h1', h2', _⟩ := G.sent g' hg'
    exact G.apart g g' a hg hg' ((cell_keep hk h2 h1).symm.trans h) ((cell_keep hk h2' h1').symm.trans h')
  cst x hx := by
    obtain ⟨h1, h2, h3⟩ := G.cst x hx
    exact ⟨hn _ h2 h1, Nat.lt_of_lt_of_le h2 hs, (cell_keep hk h2 h1).trans h3⟩
/-- The blocks of cells lie as they lay. -/
theorem Rel.cel_move (hs : w.heap.size ≤ w'.heap.size) (hk : ∀ b, Cel w b → ¬ A b → w'.heap[b]? = w.heap[b]?) (hn : ∀ b, Cel w b → ¬ A b → ¬ A' b) {x : AV} {v : Value} (h : Rel w cx A x v) : Rel w' cx A' x v := by
  have ck : ∀ {b o : Nat}, Cel w b → ¬ A b → w'.cell? ⟨b, o, none⟩ = w.cell? ⟨b, o, none⟩ := fun hb hA => World.cell?_of_block (hk _ hb hA)
  induction h with
  | unk v => exact .unk v
  | bool b => exact .bool b
  | int k n => exact .int k n
  | str s => exact .str s
  | nilp => exact .nilp
  | nilf => exact .nilf
  | nili => exact .nili
  | mapr b => exact .mapr b
  | adr a => exact .adr a
  | sl isnil n get a cap esz vals hnil hcap hmax hz hmem himm hrel ih =>
    refine .sl isnil n get a cap esz vals hnil hcap hmax hz (fun h0 => ?_) himm ih
    obtain ⟨b, off, ha, hA, hb, hm⟩ := hmem h0
    exact ⟨b, off, ha, hn b hb hA, hb.keep (hk b hb hA), fun j c x hj hx => ⟨(ck hb hA).trans (hm j c x hj hx).1, (hm j c x hj hx).2⟩⟩
  | ip e off b o vals himm hA hb hmem hrel ih =>
    exact .ip e off b o vals himm (hn b hb hA) (hb.keep (hk b hb hA)) (fun c x hx => ⟨(ck hb hA).trans (hmem c x hx).1, (hmem c x hx).2⟩) ih
  | ms id n cap e he hnn hn' hcap htot hmax => exact .ms id n cap e he hnn hn' hcap htot hmax
  | ms0 id e he hnn => exact .ms0 id e he hnn
  | mso id off n cap o e he hnn hn' hcap hoff hmax => exact .mso id off n cap o e he hnn hn' hcap hoff hmax
  | mso0 id e he hnn => exact .mso0 id e he hnn
  | mp id i off e he hnn hi => exact .mp id i off e he hnn hi
  | mpn0 id i off => exact .mpn0 id i off
  | mpn1 id i off e he hnn hi => exact .mpn1 id i off e he hnn hi
  | sd id n a h => exact .sd id n a h
  | agg cs vs hl h1 hrel ih => exact .agg cs vs hl h1 ih
  | aggi k l => exact .aggi k l
  | tup cs vs hl hrel ih => exact .tup cs vs hl ih
  | fn f a b a' b' hl hl' hrel hrel' ih ih' => exact .fn f a b a' b' hl hl' ih ih'
  | iface t x v hrel ih => exact .iface t x v ih
  | err0 => exact .err0
  | errS g t a hA hb hm => exact .errS g t a (hn g (Cel.of_cell hm) hA) (Nat.lt_of_lt_of_le hb hs) ((ck (Cel.of_cell hm) hA).trans hm)
  | errB t n e b o v hA hb h0 h1 hrel ih => exact .errB t n e b o v (hn b (Cel.of_cell h0) hA) (Nat.lt_of_lt_of_le hb hs) ((ck (Cel.of_cell h0) hA).trans h0) ((ck (Cel.of_cell h0) hA).trans h1) ih
theorem Glob.cel_move (G : Glob L w A) (hs : w.heap.size ≤ w'.heap.size) (hk : ∀ b, Cel w b → ¬ A b → w'.heap[b]? = w.heap[b]?) (hn : ∀ b, Cel w b → ¬ A b → ¬ A' b) : Glob L w' A' := by
  have ck : ∀ {b o : Nat}, Cel w b → ¬ A b → w'.cell? ⟨b, o, none⟩ = w.cell? ⟨b, o, none⟩ := fun hb hA => World.cell?_of_block (hk _ hb hA)
  refine ⟨fun g hg => ?_, fun g g' a hg hg' h h' => ?_, fun x hx => ?_⟩
  · obtain ⟨h1, h2, a, h3, h5, cur, t, h6⟩ := G.sent g hg
    exact ⟨hn g (Cel.of_cell h3) h1, Nat.lt_of_lt_of_le h2 hs, a, (ck (Cel.of_cell h3) h1).trans h3, hn _ ⟨_, _, _, h6⟩ h5, cur, t, (hk _ ⟨_, _, _, h6⟩ h5).trans h6⟩
  · obtain ⟨z, _, b, q, _⟩ := G.sent g hg
    obtain ⟨z', _, b', q', _⟩ := G.sent g' hg'
    exact G.apart g g' a hg hg' ((ck (Cel.of_cell q) z).symm.trans h) ((ck (Cel.of_cell q') z').symm.trans h')
  · obtain ⟨h1, h2, h3⟩ := G.cst x hx
    exact ⟨hn _ (Cel.of_cell h3) h1, Nat.lt_of_lt_of_le h2 hs, (ck (Cel.of_cell h3) h1).trans h3⟩
theorem Rel.scalar_move {x : AV} {v : Value} (h : Rel w cx A x v) (hi : x.scalar = true) : Rel w' cx' A' x v := by
  induction h with
  | unk v => exact .unk v
  | bool b => exact .bool b
  | int k n => exact .int k n
  | str s => exact .str s
  | nilp => exact .nilp
  | nilf => exact .nilf
  | nili => exact .nili
  | mapr b => exact .mapr b
  | agg cs vs hl h1 hrel ih => exact .agg cs vs hl h1 (fun c x v hx hv => ih c x v hx hv (scalarL_mem (by simpa [AV.scalar] using hi) x (List.mem_of_getElem? hx)))
  | aggi k l => exact .aggi k l
  | tup cs vs hl hrel ih => exact .tup cs vs hl (fun c x v hx hv => ih c x v hx hv (scalarL_mem (by simpa [AV.scalar] using hi) x (List.mem_of_getElem? hx)))
  | _ => cases hi
end

/-! ### Cells of a value -/
section
variable {w : World} {cx : Cx} {A : Nat → Prop}
/-- The cells of a known value, one by one. -/
theorem Rel.cells {x : AV} {v : Value} (h : Rel w cx A x v) (hk : x.storable = true) :
    v.cells.size = x.ncells ∧ (∀ u ∈ v.cells.toList, u.oneCell' = true) ∧ ∀ (c : Nat) (y : AV), x.cells[c]? = some y → ∃ u, v.cells[c]? = some u ∧ Rel w cx A y u := by
  cases h with
  | unk v => cases hk
  | tup => cases hk
  | agg cs vs hl h1 hrel =>
    refine ⟨by simp [Value.cells, AV.ncells, hl], fun u hu => h1 u (by simpa [Value.cells] using hu), fun c y hy => ?_⟩
    simp only [AV.cells] at hy
    have hlt : c < vs.length := by rw [← hl]; exact (List.getElem?_eq_some_iff.1 hy).1
    exact ⟨vs[c], by simp [Value.cells, hlt], hrel c y _ hy (by simp [hlt])⟩
  | aggi k l =>
    refine ⟨by simp [Value.cells, AV.ncells], fun u hu => ?_, fun c y hy => ?_⟩
    · simp only [Value.cells] at hu
      obtain ⟨n, _, rfl⟩ := List.mem_map.1 hu
      rfl
    · simp only [AV.cells, List.getElem?_map, Option.map_eq_some_iff] at hy
      obtain ⟨n, hn, rfl⟩ := hy
      exact ⟨.int k n, by simp [Value.cells, hn], .int k n⟩
  | _ =>
    refine ⟨by simp [Value.cells, AV.ncells], fun u hu => by simp [Value.cells] at hu; subst hu; rfl, fun c y hy => ?_⟩
    simp only [AV.cells, List.getElem?_singleton] at hy
    split at hy
    · rename_i hc
      cases hy
      subst hc
      refine ⟨_, by simp [Value.cells]; rfl, ?_⟩
      first
        | exact .bool _
        | exact .int _ _
        | exact .str _
        | exact .nilp
        | exact .nilf
        | exact .nili
        | exact .mapr _
        | exact .adr _
        | (constructor <;> assumption)
    · cases hy
/-- A value out of its cells. -/
theorem Rel.of_cells {cs : List AV} {vs : List Value} (hl : cs.length = vs.length) (h1 : ∀ v ∈ vs, v.oneCell' = true) (h : ∀ (c : Nat) (x : AV), cs[c]? = some x → ∃ v, vs[c]? = some v ∧ Rel w cx A x v) : Rel w cx A (.agg cs) (.agg vs.toArray) :=
  .agg cs vs hl h1 fun c x v hx hv => by
    obtain ⟨u, hu, hr⟩ := h c x hx
    rw [hu] at hv
    exact Option.some.inj hv ▸ hr
end

/-! ### Steps -/
theorem Wr.lt {V : Nat → Prop} {w : World} {cx : Cx} {s : Store} (S : RelSt L V w cx s) {b : Nat} (h : Wr cx s b) : b < w.heap.size := by
  obtain ⟨i, e, o, he, ho, _, hn, rfl⟩ := h
  obtain ⟨cur, R⟩ := S.obj i e o he ho hn
  exact R.lt
theorem Av.lt {V : Nat → Prop} {w : World} {cx : Cx} {s : Store} (S : RelSt L V w cx s) {b : Nat} (h : Av V cx s b) : b < w.heap.size := h.elim (S.low b) (Wr.lt S)
section
variable {m : Nat} {V : Nat → Prop} {w w' w'' : World} {cx cx' cx'' : Cx} {s s' s'' : Store}
theorem Ext.refl : Ext m V w w cx cx s s := ⟨rfl, rfl, rfl, Nat.le_refl _, fun _ _ _ => rfl, fun _ _ h => h, fun _ _ h => h, fun _ _ _ h => h⟩
theorem Ext.trans (h : Ext m V w w' cx cx' s s') (h' : Ext m V w' w'' cx' cx'' s' s'') : Ext m V w w'' cx cx'' s s'' where
  os := h'.os.trans h.os
  tape := h'.tape.trans h.tape
  output := h'.output.trans h.output
  size := Nat.le_trans h.size h'.size
  keep b hb hA := (h'.keep b (Nat.lt_of_lt_of_le hb h.size) (h.grow b hb hA)).trans (h.keep b hb hA)
  now b hb hA := h'.now b (Nat.lt_of_lt_of_le hb h.size) (h.now b hb hA)
  grow b hb hA := h'.grow b (Nat.lt_of_lt_of_le hb h.size) (h.grow b hb hA)
  cx i e hi he := h'.cx i e hi (h.cx i e hi he)
theorem Ext.less {k : Nat} (h : Ext m V w w' cx cx' s s') (hk : k ≤ m) : Ext k V w w' cx cx' s s' :=
  ⟨h.os, h.tape, h.output, h.size, h.keep, h.now, h.grow, fun i e hi he => h.cx i e (Nat.lt_of_lt_of_le hi hk) he⟩
theorem Marks.keep {V V' : Nat → Prop} {w w' : World} (hk : ∀ k, k < w.heap.size → w.heap[k]? = some (.deferred (some [])) → ¬ V k → w'.heap[k]? = w.heap[k]?) (hV : ∀ k, k < w.heap.size → ¬ V k → ¬ V' k) : ∀ {ds : List Deferred}, Marks V w ds → Marks V' w' ds
  | [], _ => trivial
  | d :: ds, h => by
    obtain ⟨⟨k, h1, h2, h5, h3⟩, h4⟩ := h
    have hlt := (Array.getElem?_eq_some_iff.1 h2).1
    exact ⟨⟨k, h1, (hk k hlt h2 h5).trans h2, hV k hlt h5, h3⟩, Marks.keep hk hV h4⟩
theorem Wr.cells {V : Nat → Prop} {w : World} {cx : Cx} {s : Store} (S : RelSt L V w cx s) {b : Nat} (h : Wr cx s b) : ∃ cur t fz, w.heap[b]? = some (.cells cur t fz) := by
  obtain ⟨i, e, o, he, ho, _, hn, rfl⟩ := h
  obtain ⟨cur, R⟩ := S.obj i e o he ho hn
  obtain ⟨fz, h, _⟩ := R.hp
  exact ⟨cur, _, fz, h⟩
theorem Marks.ext (S : RelSt L V w cx s) (h : Ext m V w w' cx cx' s s') {ds : List Deferred} (M : Marks V w ds) : Marks V w' ds :=
  M.keep (fun k hk hd _ => h.keep k hk fun hw => by
    obtain ⟨cur, t, fz, hc⟩ := Wr.cells S hw
    rw [hd] at hc
    cases hc) fun _ _ h => h
theorem Rel.ext (h : Ext s.length V w w' cx cx' s s') (hl : cx.length = s.length) {x : AV} {v : Value} (r : Rel w cx (Av V cx s) x v) : Rel w' cx' (Av V cx' s') x v :=
  r.move h.size (fun b hb hA => h.keep b hb fun hw => hA (.inr hw)) h.now fun i e he => h.cx i e (by rw [← hl]; exact (List.getElem?_eq_some_iff.1 he).1) he
theorem Rel.ext_imm (h : Ext m V w w' cx cx' s s') {x : AV} {v : Value} (r : Rel w cx (Av V cx s) x v) (hi : x.imm = true) : Rel w' cx' (Av V cx' s') x v :=
  r.imm_move h.size (fun b hb hA => h.keep b hb fun hw => hA (.inr hw)) h.now hi
/-- The world has at most new blocks; the objects are the same ones. -/
theorem RelSt.grown (S : RelSt L V w cx s) (hs : w.heap.size ≤ w'.heap.size) (hk : ∀ b, b < w.heap.size → w'.heap[b]? = w.heap[b]?) : RelSt L V w' cx s where
  low b hb := Nat.lt_of_lt_of_le (S.low b hb) hs
  len := S.len
  obj i e o he ho hn := by
    obtain ⟨cur, R⟩ := S.obj i e o he ho hn
    refine ⟨cur, ?_, R.tot, R.esz, R.len, R.ok, R.fits, R.size, fun j c x hj hx => ?_⟩
    · rw [hk _ R.lt]; exact R.hp
    · obtain ⟨v, h1, h2, h3⟩ := R.cells j c x hj hx
      exact ⟨v, h1, h2, h3.move hs (fun b hb _ => hk b hb) (fun _ _ h => h) fun _ _ h => h⟩
  vir := S.vir
  may := S.may
  apart := S.apart
  inj := S.inj
  glob := S.glob.move hs (fun b hb _ => hk b hb) fun _ _ h => h
theorem Ext.grown (os : w'.os = w.os) (tape : w'.tape = w.tape) (output : w'.output = w.output) (hs : w.heap.size ≤ w'.heap.size) (hk : ∀ b, b < w.heap.size → w'.heap[b]? = w.heap[b]?) : Ext m V w w' cx cx s s :=
  ⟨os, tape, output, hs, fun b hb _ => hk b hb, fun _ _ h => h, fun _ _ h => h, fun _ _ _ h => h⟩
end
end Go.SE
