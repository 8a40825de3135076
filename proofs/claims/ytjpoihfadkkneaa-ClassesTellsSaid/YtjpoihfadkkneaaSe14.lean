/- The shadow evaluator, part 14: a region whose order is open. No condition. -/
import Derived.Test.YtjpoihfadkkneaaSe13
namespace Go.SE
open Go
set_option linter.unusedVariables false
set_option linter.unusedSimpArgs false

section
variable {P : Program} {ops : Array Oper}
theorem regOk_out (h : regOk ops.toList = true) {i : Nat} {o : Oper} (ho : ops[i]? = some o) : (∀ j ∈ predsOf o, j < i) ∧
    ∀ (k : Nat) (o' : Oper) (d : Nat), ops[k]? = some o' → k ≠ i → o'.dst = some d → o.dst ≠ some d ∧ (d ∈ readsOf ops.toList o → k ∈ predsOf o ∨ i ∈ predsOf o') := by
  unfold regOk at h
  rw [List.all_eq_true] at h
  have hi := h (o, i) (List.mem_zipIdx_iff_getElem?.2 (by simpa using ho))
  simp only [Bool.and_eq_true, List.all_eq_true] at hi
  obtain ⟨⟨h1, _⟩, h3⟩ := hi
  refine ⟨fun j hj => by simpa using h1 j hj, fun k o' d ho' hk hd => ?_⟩
  have := h3 (o', k) (List.mem_zipIdx_iff_getElem?.2 (by simpa using ho'))
  simp only [Bool.or_eq_true, beq_iff_eq, hd, Bool.and_eq_true, bne_iff_ne, Bool.not_eq_true', List.contains_iff_mem] at this
  rcases this with h | ⟨h4, h5⟩
  · exact absurd h hk
  · refine ⟨h4, fun hr => ?_⟩
    rcases h5 with (h5 | h5) | h5
    · rw [← Bool.not_eq_true, List.contains_iff_mem] at h5; exact absurd hr h5
    · exact .inl h5
    · exact .inr h5
theorem tailOk_out {n : Nat} (h : tailOk ops.toList n = true) {j : Nat} {o : Oper} (ho : ops[j]? = some o) (hj : n ≤ j) : ∀ i, i < j → i ∈ predsOf o := by
  unfold tailOk at h
  rw [List.all_eq_true] at h
  have := h (o, j) (List.mem_zipIdx_iff_getElem?.2 (by simpa using ho))
  simp only [Bool.or_eq_true, Nat.blt_eq, List.all_eq_true, List.mem_range, List.contains_iff_mem] at this
  intro i hi
  rcases this with h | h
  · omega
  · exact h i hi
theorem ready_preds {listed : Array Bool} {i : Nat} (h : i ∈ Region.ready .any ops listed) : listed.getD i true = false ∧ ∃ o, ops[i]? = some o ∧ ∀ j ∈ predsOf o, listed.getD j false = true := by
  obtain ⟨h0, o, ho, hall⟩ := mem_ready.1 h
  refine ⟨h0, o, ho, fun j hj => ?_⟩
  obtain ⟨e, he, rfl⟩ := List.mem_map.1 hj
  rw [List.mem_filter] at he
  exact hall e (by simpa using he.1) he.2
theorem ready_of {listed : Array Bool} {i : Nat} {o : Oper} (h0 : listed.getD i true = false) (ho : ops[i]? = some o) (h : ∀ j ∈ predsOf o, listed.getD j false = true) : i ∈ Region.ready .any ops listed :=
  mem_ready.2 ⟨h0, o, ho, fun e he hb => h e.on (List.mem_map.2 ⟨e, List.mem_filter.2 ⟨by simpa using he, hb⟩, rfl⟩)⟩
theorem unlisted {listed : Array Bool} {i : Nat} (h : listed.getD i true = false) : listed.getD i false = false := by
  have hlt : i < listed.size := by
    rcases Nat.lt_or_ge i listed.size with h' | h'
    · exact h'
    · simp [Array.getD, Nat.not_lt.2 h'] at h
  simp [Array.getD, hlt] at h ⊢
  exact h
theorem unlisted' {listed : Array Bool} {i : Nat} (hlt : i < listed.size) (h : listed.getD i false = false) : listed.getD i true = false := by
  simp [Array.getD, hlt] at h ⊢
  exact h
theorem getD_set_same {listed : Array Bool} {i : Nat} (hlt : i < listed.size) (d : Bool) : (listed.setIfInBounds i true).getD i d = true := by simp [Array.getD, hlt]
/-- The tail: in the text's order alone. -/
theorem tail_any {Q : Exit → Act → World → Prop} {m n : Nat} (hreg : regOk ops.toList = true) (htail : tailOk ops.toList n = true) : ∀ (l : List Oper) (k fuel : Nat) (listed : Array Bool) (fr : Fr) (K : Fr → Prop), n ≤ k → (∀ j, l[j]? = ops[k + j]?) → k ≤ ops.size → listed.size = ops.size →
    (∀ i, listed.getD i false = true ↔ i < k) → l.length ≤ fuel → awpOps P ops.toList l fr K →
    ∀ V w cx a, RelFr V w cx fr a → m ≤ fr.s.length → (∀ fr' w' cx' a', K fr' → m ≤ fr'.s.length → Ext m V w w' cx cx' fr.s fr'.s → RelFr V w' cx' fr' a' → Q .normal a' w') →
    wpAny P .any ops Q fuel listed a w
  | [], k, fuel, listed, fr, K, hnk, hl, hk, hsz, hlisted, hf, h, V, w, cx, a, R, hm, hK => by
    have hend : k = ops.size := by
      have := hl 0
      rw [Nat.add_zero, List.getElem?_nil] at this
      have := Array.getElem?_eq_none_iff.1 this.symm
      omega
    have hr : Region.ready .any ops listed = [] := by
      rw [List.eq_nil_iff_forall_not_mem]
      intro i hi
      obtain ⟨h0, o, ho, _⟩ := ready_preds hi
      have hlt := (Array.getElem?_eq_some_iff.1 ho).1
      have := (hlisted i).2 (by omega)
      rw [unlisted h0] at this
      cases this
    have hQ := hK fr w cx a h hm Ext.refl R
    cases fuel with
    | zero => exact ⟨hr, hQ⟩
    | succ fuel => exact ⟨fun _ => hQ, fun i hi => by rw [hr] at hi; cases hi⟩
  | o :: l, k, fuel, listed, fr, K, hnk, hl, hk, hsz, hlisted, hf, h, V, w, cx, a, R, hm, hK => by
    have ho : ops[k]? = some o := by have := hl 0; simpa using this.symm
    have hl' : ∀ j, l[j]? = ops[k + 1 + j]? := fun j => by have := hl (j + 1); simpa [Nat.add_assoc, Nat.add_comm 1] using this
    have hklt := (Array.getElem?_eq_some_iff.1 ho).1
    obtain ⟨fuel, rfl⟩ : ∃ f, fuel = f + 1 := ⟨fuel - 1, by simp at hf; omega⟩
    have hkun : listed.getD k false = false := by
      cases hq : listed.getD k false with
      | false => rfl
      | true => have := (hlisted k).1 hq; omega
    have hready : k ∈ Region.ready .any ops listed := ready_of (unlisted' (by omega) hkun) ho fun j hj => (hlisted j).2 ((regOk_out hreg ho).1 j hj)
    have only : ∀ i, i ∈ Region.ready .any ops listed → i = k := fun i hi => by
      obtain ⟨h0, o', ho', hp⟩ := ready_preds hi
      have hge : ¬ i < k := fun h => by have := (hlisted i).2 h; rw [unlisted h0] at this; cases this
      rcases Nat.lt_or_ge k i with h | h
      · have := hp k (tailOk_out htail ho' (by omega) k h)
        rw [hkun] at this
        cases this
      · omega
    have hlisted' : ∀ i, (listed.setIfInBounds k true).getD i false = true ↔ i < k + 1 := fun i => by
      by_cases hik : k = i
      · subst hik
        rw [getD_set_same (by omega)]
        simp
      · rw [getD_set_ne false hik, hlisted i]
        omega
    refine ⟨fun hnil => (by rw [hnil] at hready; cases hready), fun i hi => ?_⟩
    obtain rfl := only i hi
    have run : ∀ (t' : List AV), t' = fr.t → Region.wanted o (yielded ops a.tmps) = true → aop P fr.s (evalT t') o (fun v s' => awpOps P ops.toList l { fr with t := putT t' o.dst v, s := s' } K) → wpOp P ops Q i (wpAny P .any ops Q fuel (listed.setIfInBounds i true)) a w := fun t' ht hw h => by
      subst ht
      obtain ⟨v, s', hK', hE⟩ := aop_sound h
      simp only [wpOp, ho, hw, if_true]
      refine .inl (oper_wp (hE V w cx a.eval R.st fun x _ => R.eval x) fun u w' ⟨cx', E, S', hv⟩ => ?_)
      have hlen : fr.s.length ≤ s'.length := E.length R.st.len S'.len
      exact tail_any hreg htail l (i + 1) fuel _ _ K (by omega) hl' (by omega) (by simpa using hsz) hlisted' (by simp at hf; omega) hK' V w' cx' _ (R.put E S' hv) (by show m ≤ s'.length; omega)
        fun fr' w2 cx2 a2 h1 h2 h3 h4 => hK fr' w2 cx2 a2 h1 h2 ((E.less hm).trans h3) h4
    have skip : ∀ (t' : List AV), t' = fr.t → Region.wanted o (yielded ops a.tmps) = false → awpOps P ops.toList l { fr with t := putT t' o.dst (.tup []) } K → wpOp P ops Q i (wpAny P .any ops Q fuel (listed.setIfInBounds i true)) a w := fun t' ht hw h => by
      subst ht
      simp only [wpOp, ho, hw, Bool.false_eq_true, if_false]
      exact tail_any hreg htail l (i + 1) fuel _ _ K (by omega) hl' (by omega) (by simpa using hsz) hlisted' (by simp at hf; omega) h V w cx _ (R.put Ext.refl R.st .undef) hm fun fr' w2 cx2 a2 h1 h2 h3 h4 => hK fr' w2 cx2 a2 h1 h2 h3 h4
    unfold awpOps at h
    simp only [after_eq, setK_eq, putK_eq] at h
    split at h
    · rename_i hg
      exact run fr.t rfl (by simp [Region.wanted, hg]) h
    · rename_i j want hg
      split at h
      · exact h.elim
      · rename_i d hd
        split at h
        · rename_i c hc
          have hy := R.yielded hd hc
          have hlit := R.lit hc
          cases c with
          | true =>
            simp only [brP] at h
            cases want with
            | true => exact run _ hlit (by simp [Region.wanted, hg, hy]) h
            | false => exact skip _ hlit (by simp [Region.wanted, hg, hy]) h
          | false =>
            simp only [brP] at h
            cases want with
            | true => exact skip _ hlit (by simp [Region.wanted, hg, hy]) h
            | false => exact run _ hlit (by simp [Region.wanted, hg, hy]) h
        · rename_i hc
          exact skip _ rfl (by simp [Region.wanted, hg, R.yields_none hd hc]) h
        · exact h.elim
/-- What holds while the quiet operations are carried out, in whatever order. -/
structure Inv (P : Program) (ops : Array Oper) (V : Nat → Prop) (w0 : World) (cx : Cx) (s : Store) (n : Nat) (t0 tn : List AV) (listed : Array Bool) (a : Act) (w : World) : Prop where
  size : listed.size = ops.size
  quiet : ∀ i, listed.getD i false = true → i < n
  closed : ∀ (i : Nat) (o : Oper), ops[i]? = some o → listed.getD i false = true → ∀ j ∈ predsOf o, listed.getD j false = true
  ext : Ext s.length V w0 w cx cx s s
  st : RelSt V w cx s
  tsize : a.tmps.size = t0.length
  defers : a.defers = []
  old : ∀ (u : Nat) (x : AV), (∀ (k : Nat) (o : Oper), k < n → ops[k]? = some o → o.dst ≠ some u) → t0[u]? = some x → Rel w cx (Av V cx s) x (a.tmps.getD u undef)
  fresh : ∀ (k : Nat) (o : Oper) (u : Nat) (x : AV), k < n → ops[k]? = some o → o.dst = some u → listed.getD k false = true → tn[u]? = some x → Rel w cx (Av V cx s) x (a.tmps.getD u undef)
  stale : ∀ (k : Nat) (o : Oper) (u : Nat) (x : AV), k < n → ops[k]? = some o → o.dst = some u → listed.getD k false = false → t0[u]? = some x → Rel w cx (Av V cx s) x (a.tmps.getD u undef)
theorem put_other {t : List AV} {dst : Option Tmp} {v : AV} {u : Nat} (h : dst ≠ some u) : (putT t dst v)[u]? = t[u]? := by
  cases dst with
  | none => rfl
  | some d =>
    have : d ≠ u := fun e => h (by rw [e])
    simp [putT, List.getElem?_set, this]
theorem put_len {t : List AV} {dst : Option Tmp} {v : AV} : (putT t dst v).length = t.length := by cases dst <;> simp [putT]
theorem act_put_other {a : Act} {dst : Option Tmp} {v : Value} {u : Nat} (h : dst ≠ some u) : (a.put dst v).tmps.getD u undef = a.tmps.getD u undef := by
  cases dst with
  | none => rfl
  | some d =>
    have : d ≠ u := fun e => h (by rw [e])
    simp only [Act.put, Array.getD_eq_getD_getElem?, Array.getElem?_setIfInBounds, if_neg this]
section
variable {ts : Nat → List AV} {s : Store} {n : Nat}
/-- Who writes which slot. -/
theorem once {L : List Oper} (hstep : ∀ i o, i < n → ops[i]? = some o → Step P L s o (ts i) (ts (i + 1))) (hn : n ≤ ops.size) :
    (∀ i, i ≤ n → (ts i).length = (ts 0).length) ∧ (∀ (i u : Nat), i ≤ n → (∀ (k : Nat) (o : Oper), k < i → ops[k]? = some o → o.dst ≠ some u) → (ts i)[u]? = (ts 0)[u]?) ∧
    ∀ (d i u : Nat), i + d = n → (∀ (k : Nat) (o : Oper), i ≤ k → k < n → ops[k]? = some o → o.dst ≠ some u) → (ts i)[u]? = (ts n)[u]? := by
  have one : ∀ i, i < n → ∃ o v, ops[i]? = some o ∧ ts (i + 1) = putT (ts i) o.dst v := fun i hi => by
    have hlt : i < ops.size := by omega
    refine ⟨ops[i], ?_⟩
    rcases hstep i ops[i] hi (by simp [hlt]) with ⟨v, _, h, _⟩ | ⟨h, _⟩
    · exact ⟨v, by simp [hlt], h⟩
    · exact ⟨.tup [], by simp [hlt], h⟩
  refine ⟨fun i => ?_, fun i => ?_, fun d => ?_⟩
  · induction i with
    | zero => exact fun _ => rfl
    | succ i ih =>
      intro hi
      obtain ⟨o, v, _, h⟩ := one i hi
      rw [h, put_len]
      exact ih (by omega)
  · induction i with
    | zero => exact fun _ _ _ => rfl
    | succ i ih =>
      intro u hi h
      obtain ⟨o, v, ho, he⟩ := one i hi
      rw [he, put_other (h i o (by omega) ho)]
      exact ih u (by omega) fun k o hk ho => h k o (by omega) ho
  · induction d with
    | zero => intro i u hi _; rw [show i = n by omega]
    | succ d ih =>
      intro i u hi h
      obtain ⟨o, v, ho, he⟩ := one i (by omega)
      rw [← ih (i + 1) u (by omega) fun k o hk hk' ho => h k o (by omega) hk' ho, he, put_other (h i o (Nat.le_refl _) (by omega) ho)]
variable {V : Nat → Prop} {w0 w : World} {cx : Cx} {listed : Array Bool} {a : Act}
/-- What a ready operation reads. -/
theorem Inv.reads (I : Inv P ops V w0 cx s n (ts 0) (ts n) listed a w) (hreg : regOk ops.toList = true) (hstep : ∀ i o, i < n → ops[i]? = some o → Step P ops.toList s o (ts i) (ts (i + 1))) (hn : n ≤ ops.size)
    {i : Nat} {o : Oper} (hi : i < n) (ho : ops[i]? = some o) (hun : listed.getD i false = false) (hp : ∀ j ∈ predsOf o, listed.getD j false = true) {u : Nat} (hu : u ∈ readsOf ops.toList o) {x : AV} (hx : (ts i)[u]? = some x) :
    Rel w cx (Av V cx s) x (a.tmps.getD u undef) := by
  obtain ⟨_, w1, w2⟩ := once hstep hn
  by_cases hw : ∃ k o', k < n ∧ ops[k]? = some o' ∧ o'.dst = some u ∧ k ≠ i
  · obtain ⟨k, o', hk, ho', hd, hne⟩ := hw
    have uniq : ∀ (k' : Nat) (o2 : Oper), ops[k']? = some o2 → o2.dst = some u → k' = k := fun k' o2 ho2 hd2 => by
      by_cases h : k' = k
      · exact h
      · exact absurd hd ((regOk_out hreg ho').2 k' o2 u ho2 h hd2).1
    rcases (regOk_out hreg ho).2 k o' u ho' hne hd |>.2 hu with h | h
    · have hki := (regOk_out hreg ho).1 k h
      rw [w2 (n - i) i u (by omega) fun k' o2 h1 h2 ho2 hd2 => by have := uniq k' o2 ho2 hd2; omega] at hx
      exact I.fresh k o' u x hk ho' hd (hp k h) hx
    · have hik := (regOk_out hreg ho').1 i h
      rw [w1 i u (by omega) fun k' o2 h1 ho2 hd2 => by have := uniq k' o2 ho2 hd2; omega] at hx
      refine I.stale k o' u x hk ho' hd ?_ hx
      cases hq : listed.getD k false with
      | false => rfl
      | true => have := I.closed k o' ho' hq i h; rw [hun] at this; cases this
  · rw [w1 i u (by omega) fun k' o2 h1 ho2 hd2 => hw ⟨k', o2, by omega, ho2, hd2, by omega⟩] at hx
    by_cases hd : o.dst = some u
    · exact I.stale i o u x hi ho hd hun hx
    · refine I.old u x (fun k o2 hk ho2 hd2 => ?_) hx
      by_cases hki : k = i
      · subst hki
        rw [ho] at ho2
        cases ho2
        exact hd hd2
      · exact hw ⟨k, o2, hk, ho2, hd2, hki⟩
/-- One more operation is carried out. -/
theorem Inv.next {w' : World} (I : Inv P ops V w0 cx s n (ts 0) (ts n) listed a w) (hreg : regOk ops.toList = true) (hstep : ∀ i o, i < n → ops[i]? = some o → Step P ops.toList s o (ts i) (ts (i + 1))) (hn : n ≤ ops.size)
    {i : Nat} {o : Oper} (hi : i < n) (ho : ops[i]? = some o) (hp : ∀ j ∈ predsOf o, listed.getD j false = true) (E : Ext s.length V w w' cx cx s s) (S' : RelSt V w' cx s) {v : AV} {u : Value} (ht : ts (i + 1) = putT (ts i) o.dst v) (hv : Rel w' cx (Av V cx s) v u) :
    Inv P ops V w0 cx s n (ts 0) (ts n) (listed.setIfInBounds i true) (a.put o.dst u) w' := by
  obtain ⟨wl, w1, w2⟩ := once hstep hn
  have hlt : i < listed.size := by rw [I.size]; omega
  have mv : ∀ {x : AV} {z : Value}, Rel w cx (Av V cx s) x z → Rel w' cx (Av V cx s) x z := fun r => r.ext E I.st.len
  have uniq : ∀ (k : Nat) (o2 : Oper) (d : Nat), ops[k]? = some o2 → o2.dst = some d → k ≠ i → o.dst ≠ some d := fun k o2 d ho2 hd2 hne => ((regOk_out hreg ho).2 k o2 d ho2 hne hd2).1
  refine ⟨by simpa using I.size, fun j hj => ?_, fun j oj hoj hj k hk => ?_, I.ext.trans E, S', ?_, ?_, fun d x hd hx => ?_, fun k ok d x hk hok hd hl hx => ?_, fun k ok d x hk hok hd hl hx => ?_⟩
  · by_cases hij : i = j
    · omega
    · rw [getD_set_ne false hij] at hj; exact I.quiet j hj
  · by_cases hij : i = j
    · subst hij
      rw [ho] at hoj
      cases hoj
      exact getD_set_true (hp k hk)
    · rw [getD_set_ne false hij] at hj
      exact getD_set_true (I.closed j oj hoj hj k hk)
  · cases o.dst <;> simp [Act.put, I.tsize]
  · cases o.dst <;> simp [Act.put, I.defers]
  · rw [act_put_other (hd i o hi ho)]
    exact mv (I.old d x hd hx)
  · by_cases hik : i = k
    · subst hik
      rw [ho] at hok
      cases hok
      have e1 : (ts (i + 1))[d]? = (ts n)[d]? := w2 (n - (i + 1)) (i + 1) d (by omega) fun k' o2 h1 h2 ho2 hd2 => uniq k' o2 d ho2 hd2 (by omega) hd
      rw [← e1, ht, hd] at hx
      simp only [putT, List.getElem?_set, if_true] at hx
      split at hx
      · rename_i hlt'
        cases hx
        have hsz : d < a.tmps.size := by rw [I.tsize, ← wl i (by omega)]; exact hlt'
        have : (a.put o.dst u).tmps.getD d undef = u := by
          rw [hd]
          simp [Act.put, Array.getD, hsz]
        rw [this]
        exact hv
      · cases hx
    · rw [getD_set_ne false hik] at hl
      rw [act_put_other (uniq k ok d hok hd (fun h => hik h.symm))]
      exact mv (I.fresh k ok d x hk hok hd hl hx)
  · by_cases hik : i = k
    · subst hik
      rw [getD_set_same hlt] at hl
      cases hl
    · rw [getD_set_ne false hik] at hl
      rw [act_put_other (uniq k ok d hok hd (fun h => hik h.symm))]
      exact mv (I.stale k ok d x hk hok hd hl hx)
end
theorem count_drop : ∀ (l : List Nat) (p q : Nat → Bool), (∀ i, q i = true → p i = true) → (∃ i ∈ l, p i = true ∧ q i = false) → (l.filter q).length < (l.filter p).length
  | [], p, q, _, h => by obtain ⟨i, hi, _⟩ := h; cases hi
  | x :: l, p, q, hpq, h => by
    have hle : ∀ l : List Nat, (l.filter q).length ≤ (l.filter p).length := by
      intro l
      induction l with
      | nil => exact Nat.le_refl _
      | cons y l ih =>
        by_cases hq : q y = true
        · rw [List.filter_cons_of_pos hq, List.filter_cons_of_pos (hpq y hq)]
          simpa using ih
        · rw [List.filter_cons_of_neg hq]
          by_cases hp : p y = true
          · rw [List.filter_cons_of_pos hp]; simp; omega
          · rw [List.filter_cons_of_neg hp]; exact ih
    obtain ⟨i, hi, h1, h2⟩ := h
    by_cases hx : p x = true ∧ q x = false
    · rw [List.filter_cons_of_pos hx.1, List.filter_cons_of_neg (by simp [hx.2])]
      have := hle l
      simp; omega
    · have hi' : i ∈ l := by
        rcases List.mem_cons.1 hi with rfl | h
        · exact absurd ⟨h1, h2⟩ hx
        · exact h
      have ih := count_drop l p q hpq ⟨i, hi', h1, h2⟩
      by_cases hq : q x = true
      · rw [List.filter_cons_of_pos hq, List.filter_cons_of_pos (hpq x hq)]
        simpa using ih
      · rw [List.filter_cons_of_neg hq]
        by_cases hp : p x = true
        · rw [List.filter_cons_of_pos hp]; simp; omega
        · rw [List.filter_cons_of_neg hp]; exact ih
theorem quiet_any {Q : Exit → Act → World → Prop} {m n : Nat} {ts : Nat → List AV} {s : Store} {K : Fr → Prop} {V : Nat → Prop} {w0 : World} {cx : Cx} (hreg : regOk ops.toList = true) (htail : tailOk ops.toList n = true)
    (hstep : ∀ i o, i < n → ops[i]? = some o → Step P ops.toList s o (ts i) (ts (i + 1))) (hn : n ≤ ops.size) (hrest : awpOps P ops.toList (ops.toList.drop n) ⟨ts n, s⟩ K) (hm : m ≤ s.length)
    (hK : ∀ fr' w' cx' a', K fr' → m ≤ fr'.s.length → Ext m V w0 w' cx cx' s fr'.s → RelFr V w' cx' fr' a' → Q .normal a' w') :
    ∀ (fuel : Nat) (listed : Array Bool) (a : Act) (w : World), Inv P ops V w0 cx s n (ts 0) (ts n) listed a w → ((List.range n).filter fun i => !listed.getD i false).length + (ops.size - n) ≤ fuel → wpAny P .any ops Q fuel listed a w := by
  intro fuel
  induction fuel with
  | zero =>
    intro listed a w I hf
    -- nothing is left
    by_cases hall : ∀ i, i < n → listed.getD i false = true
    · have hR : RelFr V w cx ⟨ts n, s⟩ a := ?_
      · exact tail_any hreg htail (ops.toList.drop n) n 0 listed ⟨ts n, s⟩ K (Nat.le_refl _) (fun j => by rw [List.getElem?_drop]; simp) hn I.size (fun i => ⟨I.quiet i, hall i⟩) (by simp; omega) hrest V w cx a hR hm
          fun fr' w2 cx2 a2 h1 h2 h3 h4 => hK fr' w2 cx2 a2 h1 h2 ((I.ext.less hm).trans h3) h4
      · obtain ⟨wl, w1, w2⟩ := once hstep hn
        refine ⟨I.st, by rw [I.tsize, wl n (Nat.le_refl _)], I.defers, fun u x hx => ?_⟩
        by_cases hw : ∃ k o', k < n ∧ ops[k]? = some o' ∧ o'.dst = some u
        · obtain ⟨k, o', hk, ho', hd⟩ := hw
          exact I.fresh k o' u x hk ho' hd (hall k hk) hx
        · rw [w1 n u (Nat.le_refl _) fun k o2 hk ho2 hd2 => hw ⟨k, o2, hk, ho2, hd2⟩] at hx
          exact I.old u x (fun k o2 hk ho2 hd2 => hw ⟨k, o2, hk, ho2, hd2⟩) hx
    · exfalso
      obtain ⟨i, hi⟩ := Classical.not_forall.1 hall
      obtain ⟨hlt, hi⟩ := Classical.not_imp.1 hi
      have : 0 < ((List.range n).filter fun i => !listed.getD i false).length := List.length_pos_of_mem (List.mem_filter.2 ⟨List.mem_range.2 hlt, by simpa using hi⟩)
      omega
  | succ fuel ih =>
    intro listed a w I hf
    by_cases hall : ∀ i, i < n → listed.getD i false = true
    · have hR : RelFr V w cx ⟨ts n, s⟩ a := ?_
      · exact tail_any hreg htail (ops.toList.drop n) n (fuel + 1) listed ⟨ts n, s⟩ K (Nat.le_refl _) (fun j => by rw [List.getElem?_drop]; simp) hn I.size (fun i => ⟨I.quiet i, hall i⟩) (by simp; omega) hrest V w cx a hR hm
          fun fr' w2 cx2 a2 h1 h2 h3 h4 => hK fr' w2 cx2 a2 h1 h2 ((I.ext.less hm).trans h3) h4
      · obtain ⟨wl, w1, w2⟩ := once hstep hn
        refine ⟨I.st, by rw [I.tsize, wl n (Nat.le_refl _)], I.defers, fun u x hx => ?_⟩
        by_cases hw : ∃ k o', k < n ∧ ops[k]? = some o' ∧ o'.dst = some u
        · obtain ⟨k, o', hk, ho', hd⟩ := hw
          exact I.fresh k o' u x hk ho' hd (hall k hk) hx
        · rw [w1 n u (Nat.le_refl _) fun k o2 hk ho2 hd2 => hw ⟨k, o2, hk, ho2, hd2⟩] at hx
          exact I.old u x (fun k o2 hk ho2 hd2 => hw ⟨k, o2, hk, ho2, hd2⟩) hx
    · -- the least that is not yet carried out is ready
      have hex : ∃ i, i < n ∧ listed.getD i false = false := by
        obtain ⟨i, hi⟩ := Classical.not_forall.1 hall
        obtain ⟨hlt, hi⟩ := Classical.not_imp.1 hi
        exact ⟨i, hlt, by simpa using hi⟩
      have least : ∃ i, i < n ∧ listed.getD i false = false ∧ ∀ j, j < i → listed.getD j false = true := by
        have key : ∀ k, (∃ i, i ≤ k ∧ i < n ∧ listed.getD i false = false) → ∃ i, i < n ∧ listed.getD i false = false ∧ ∀ j, j < i → listed.getD j false = true := by
          intro k
          induction k with
          | zero =>
            rintro ⟨i, h1, h2, h3⟩
            exact ⟨i, h2, h3, fun j hj => by omega⟩
          | succ k ihk =>
            rintro ⟨i, h1, h2, h3⟩
            by_cases hlow : ∃ j, j ≤ k ∧ j < n ∧ listed.getD j false = false
            · exact ihk hlow
            · refine ⟨i, h2, h3, fun j hj => ?_⟩
              cases hq : listed.getD j false with
              | true => rfl
              | false => exact absurd ⟨j, by omega, by omega, hq⟩ hlow
        obtain ⟨i, h1, h2⟩ := hex
        exact key i ⟨i, Nat.le_refl _, h1, h2⟩
      obtain ⟨i0, hi0, hun0, hlow0⟩ := least
      have ho0 : ops[i0]? = some ops[i0] := by simp [show i0 < ops.size by omega]
      have hready0 : i0 ∈ Region.ready .any ops listed := ready_of (unlisted' (by rw [I.size]; omega) hun0) ho0 fun j hj => hlow0 j ((regOk_out hreg ho0).1 j hj)
      refine ⟨fun hnil => (by rw [hnil] at hready0; cases hready0), fun i hi => ?_⟩
      obtain ⟨h0, o, ho, hp⟩ := ready_preds hi
      have hun := unlisted h0
      have hin : i < n := by
        rcases Nat.lt_or_ge i n with h | h
        · exact h
        · have := hp i0 (tailOk_out htail ho h i0 (by omega))
          rw [hun0] at this
          cases this
      have hcount : ((List.range n).filter fun j => !(listed.setIfInBounds i true).getD j false).length + (ops.size - n) ≤ fuel := by
        have := count_drop (List.range n) (fun j => !listed.getD j false) (fun j => !(listed.setIfInBounds i true).getD j false) (fun j hj => by
          by_cases hij : i = j
          · subst hij
            rw [hun]; rfl
          · rw [getD_set_ne false hij] at hj; exact hj) ⟨i, List.mem_range.2 hin, by simp [hun], by rw [getD_set_same (by rw [I.size]; omega)]; rfl⟩
        omega
      have reads := fun (u : Nat) (hu : u ∈ readsOf ops.toList o) (x : AV) (hx : (ts i)[u]? = some x) => I.reads hreg hstep hn hin ho hun hp hu hx
      have guardv : ∀ (j d : Nat) (want c : Bool), o.guard = some (j, want) → dstOf ops.toList j = some d → (ts i).getD d .unk = .bool c → yielded ops a.tmps j = some c := fun j d want c hg hd hc => by
        cases hx : (ts i)[d]? with
        | none => rw [List.getD, hx] at hc; cases hc
        | some x =>
          rw [List.getD, hx] at hc
          have hxc : x = .bool c := hc
          have hr := reads d (by simp [readsOf, hg, hd]) x hx
          rw [hxc] at hr
          have hb := hr.bool_inv
          have hlt : d < a.tmps.size := by rw [I.tsize, ← (once hstep hn).1 i (by omega)]; exact (List.getElem?_eq_some_iff.1 hx).1
          unfold Go.yielded
          simp only [dstOf, Array.getElem?_toList] at hd
          rw [hd]
          simp only [Option.bind_some, getElem?_pos a.tmps d hlt]
          simp only [Array.getD, hlt, dif_pos, Array.getInternal_eq_getElem] at hb
          rw [hb]
      have guardn : ∀ (j d : Nat) (want : Bool), o.guard = some (j, want) → dstOf ops.toList j = some d → (ts i).getD d .unk = .tup [] → yielded ops a.tmps j = none := fun j d want hg hd hc => by
        cases hx : (ts i)[d]? with
        | none => rw [List.getD, hx] at hc; cases hc
        | some x =>
          rw [List.getD, hx] at hc
          have hxc : x = .tup [] := hc
          have hr := reads d (by simp [readsOf, hg, hd]) x hx
          rw [hxc] at hr
          have hb := hr.undef_inv
          have hlt : d < a.tmps.size := by rw [I.tsize, ← (once hstep hn).1 i (by omega)]; exact (List.getElem?_eq_some_iff.1 hx).1
          unfold Go.yielded
          simp only [dstOf, Array.getElem?_toList] at hd
          rw [hd]
          simp only [Option.bind_some, getElem?_pos a.tmps d hlt]
          simp only [Array.getD, hlt, dif_pos, Array.getInternal_eq_getElem] at hb
          rw [hb]
          rfl
      rcases hstep i o hin ho with ⟨v, hE, ht, hg⟩ | ⟨ht, j, want, d, hg, hd, hc⟩
      · have hw : Region.wanted o (yielded ops a.tmps) = true := by
          rcases hg with hg | ⟨j, want, d, hg, hd, hc⟩
          · simp [Region.wanted, hg]
          · simp [Region.wanted, hg, guardv j d want want hg hd hc]
        simp only [wpOp, ho, hw, if_true]
        have hops : ∀ x ∈ o.op.operands.toList, Rel w cx (Av V cx s) (evalT (ts i) x) (a.eval x) := fun x hx => by
          cases x with
          | tmp u =>
            simp only [evalT, Act.eval]
            cases hu : (ts i)[u]? with
            | none => rw [List.getD, hu]; exact .unk _
            | some y =>
              rw [List.getD, hu]
              exact reads u (by simp only [readsOf]; exact List.mem_append.2 (.inl (List.mem_filterMap.2 ⟨.tmp u, hx, rfl⟩))) y hu
          | const c => exact .ofConst c
          | global g => exact .adr _
          | func f => exact .fn (.func f) [] [] [] [] rfl rfl (fun c x v hx => by simp at hx) (fun c x v hx => by simp at hx)
        refine .inl (oper_wp (hE V w cx a.eval I.st hops) fun u w' ⟨cx', E, S', hv⟩ => ?_)
        have hcx : cx' = cx := by
          apply List.ext_getElem?
          intro k
          by_cases hk : k < cx.length
          · rw [E.cx k cx[k] (by rw [← I.st.len]; exact hk) (by simp [hk])]
            simp [hk]
          · rw [List.getElem?_eq_none (by rw [S'.len, ← I.st.len]; omega), List.getElem?_eq_none (by omega)]
        subst hcx
        exact ih _ _ _ (I.next hreg hstep hn hin ho hp E S' ht hv) hcount
      · have hw : Region.wanted o (yielded ops a.tmps) = false := by
          rcases hc with hc | hc
          · simp [Region.wanted, hg, guardv j d want _ hg hd hc]
          · simp [Region.wanted, hg, guardn j d want hg hd hc]
        simp only [wpOp, ho, hw, Bool.false_eq_true, if_false]
        exact ih _ _ _ (I.next hreg hstep hn hin ho hp Ext.refl I.st ht .undef) hcount
end
end Go.SE
