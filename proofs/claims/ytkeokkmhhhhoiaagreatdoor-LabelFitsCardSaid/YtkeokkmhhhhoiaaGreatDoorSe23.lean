/- The shadow evaluator, part 23: a call that is given objects of ours; the callee's contract speaks of these alone, in its own order. No condition. -/
import Derived.Test.YtkeokkmhhhhoiaaGreatDoorSe22
namespace Go.SE
open Go
set_option linter.unusedVariables false
variable {L : Laid}
set_option linter.unusedSimpArgs false

mutual
theorem refs_all : ∀ (x : AV), x.refs (fun _ => true) = true
  | .ms _ _ => rfl
  | .mso _ _ _ => rfl
  | .mp _ _ _ => rfl
  | .mpn _ _ _ _ => rfl
  | .sd _ _ => rfl
  | .agg cs => refsL_all cs
  | .tup cs => refsL_all cs
  | .fn g a b => by simp only [AV.refs, refsL_all a, refsL_all b, Bool.and_self]
  | .iface t v => refs_all v
  | .unk => rfl
  | .bool _ => rfl
  | .int _ _ => rfl
  | .str _ => rfl
  | .nilp => rfl
  | .nilf => rfl
  | .nili => rfl
  | .mapr _ => rfl
  | .adr _ => rfl
  | .sl _ _ _ => rfl
  | .ip _ _ => rfl
  | .aggi _ _ => rfl
  | .err _ => rfl
theorem refsL_all : ∀ (l : List AV), refsL (fun _ => true) l = true
  | [] => rfl
  | x :: xs => by simp only [refsL, refs_all x, refsL_all xs, Bool.and_self]
end
/-- The callee's number k in our numbering. -/
def outN (ids : List Nat) (n : Nat) (k : Nat) : Nat := bif Nat.blt k ids.length then ids.getD k 0 else n + (k - ids.length)
/-- These objects are there no more. -/
def killAll (s : Store) : List Nat → Store
  | [] => s
  | i :: is => killAll (s.set i none) is
theorem killAll_len : ∀ (is : List Nat) (s : Store), (killAll s is).length = s.length
  | [], s => rfl
  | i :: is, s => by rw [killAll, killAll_len is, List.length_set]
theorem killAll_get : ∀ (is : List Nat) (s : Store) (i : Nat) (o : MObj), (killAll s is)[i]? = some (some o) → s[i]? = some (some o) ∧ i ∉ is
  | [], s, i, o, h => ⟨h, by simp⟩
  | j :: is, s, i, o, h => by
    obtain ⟨h1, h2⟩ := killAll_get is _ i o h
    rw [List.getElem?_set] at h1
    split at h1
    · split at h1 <;> cases h1
    · rename_i hne
      exact ⟨h1, by simp only [List.mem_cons, not_or]; exact ⟨fun e => hne e.symm, h2⟩⟩
def renO (f : Nat → Nat) : Option MObj → Option MObj
  | some o => some { o with row := o.row.ren f }
  | none => none
def renS (f : Nat → Nat) : Store → Store
  | [] => []
  | o :: os => renO f o :: renS f os
/-- What the callee leaves, put into our store. -/
def mergeAt (f : Nat → Nat) : List Nat → Store → Store → Store
  | [], os, s => s ++ renS f os
  | i :: is, o :: os, s => mergeAt f is os (s.set i (renO f o))
  | _ :: _, [], s => s
theorem renS_len (f : Nat → Nat) : ∀ (os : Store), (renS f os).length = os.length
  | [] => rfl
  | _ :: os => by simp only [renS, List.length_cons, renS_len f os]
theorem renS_get (f : Nat → Nat) : ∀ (os : Store) (k : Nat), (renS f os)[k]? = (os[k]?).map (renO f)
  | [], k => by simp [renS]
  | o :: os, 0 => by simp [renS]
  | o :: os, k + 1 => by simp only [renS, List.getElem?_cons_succ, renS_get f os k]
theorem mergeAt_len (f : Nat → Nat) : ∀ (ids : List Nat) (os s : Store), ids.length ≤ os.length → (mergeAt f ids os s).length = s.length + (os.length - ids.length)
  | [], os, s, _ => by simp [mergeAt, renS_len]
  | i :: is, o :: os, s, h => by
    simp only [List.length_cons] at h
    rw [mergeAt, mergeAt_len f is os _ (by omega)]
    simp
  | _ :: _, [], s, h => by simp at h
theorem mergeAt_other (f : Nat → Nat) : ∀ (ids : List Nat) (os s : Store) (i : Nat), ids.length ≤ os.length → i < s.length → i ∉ ids → (mergeAt f ids os s)[i]? = s[i]?
  | [], os, s, i, _, hi, _ => by rw [mergeAt, List.getElem?_append_left hi]
  | j :: is, o :: os, s, i, h, hi, hm => by
    simp only [List.length_cons] at h
    have hne : j ≠ i := fun e => hm (by simp [e])
    rw [mergeAt, mergeAt_other f is os _ i (by omega) (by simpa using hi) (fun e => hm (by simp [e])), List.getElem?_set, if_neg hne]
  | _ :: _, [], s, i, h, _, _ => by simp at h
theorem mergeAt_mine (f : Nat → Nat) : ∀ (ids : List Nat) (os s : Store) (k i : Nat), onceP ids = true → ids.length ≤ os.length → (∀ i ∈ ids, i < s.length) → ids[k]? = some i → (mergeAt f ids os s)[i]? = (os[k]?).map (renO f)
  | [], os, s, k, i, _, _, _, hk => by simp at hk
  | j :: is, o :: os, s, k, i, ho, h, hl, hk => by
    simp only [List.length_cons] at h
    simp only [onceP, Bool.and_eq_true, Bool.not_eq_true'] at ho
    cases k with
    | zero =>
      simp at hk
      subst hk
      have hni : j ∉ is := fun hm => by have := inP_mem.2 hm; rw [ho.1] at this; cases this
      have hj : j < s.length := hl j (by simp)
      rw [mergeAt, mergeAt_other f is os _ j (by omega) (by simpa using hj) hni, List.getElem?_set, if_pos rfl, if_pos hj]
      simp
    | succ k =>
      simp at hk
      rw [mergeAt, mergeAt_mine f is os _ k i ho.2 (by omega) (fun x hx => by simpa using hl x (by simp [hx])) hk]
      simp
  | _ :: _, [], s, k, i, _, h, _, _ => by simp at h
theorem mergeAt_new (f : Nat → Nat) : ∀ (ids : List Nat) (os s : Store) (k : Nat), ids.length ≤ os.length → (mergeAt f ids os s)[s.length + k]? = (os[ids.length + k]?).map (renO f)
  | [], os, s, k, _ => by
    rw [mergeAt, List.getElem?_append_right (by omega), renS_get]
    simp
  | j :: is, o :: os, s, k, h => by
    simp only [List.length_cons] at h
    have := mergeAt_new f is os (s.set j (renO f o)) k (by omega)
    simp only [List.length_set] at this
    rw [mergeAt, this]
    rw [show (j :: is).length + k = (is.length + k) + 1 from by simp; omega, List.getElem?_cons_succ]
  | _ :: _, [], s, k, h => by simp at h
theorem row_ren {f : Nat → Nat} {r : Row} : (r.ren f).len = r.len ∧ (r.ok → (r.ren f).ok) := by
  cases r with
  | vals l => exact ⟨by simp [Row.ren, Row.len, renL_len], fun _ => trivial⟩
  | _ => exact ⟨rfl, id⟩
theorem row_ren_get {f : Nat → Nat} {r : Row} (hok : r.ok) {i : Nat} (hi : i < r.len) : (r.ren f).get i = (r.get i).ren f := by
  cases r with
  | vals l =>
    simp only [Row.len] at hi
    simp only [Row.ren, Row.get, List.getD, renL_get, List.getElem?_eq_getElem hi, Option.map_some, Option.getD_some]
  | imms l =>
    simp only [Row.len] at hi
    simp only [Row.ren, Row.get]
    refine (ren_imm f _ (hok _ ?_)).symm
    simp only [List.getD, List.getElem?_eq_getElem hi, Option.getD_some]
    exact List.getElem_mem hi
  | imf n g => simp only [Row.ren, Row.get]; exact (ren_imm f _ (hok i hi)).symm
  | ints k l => rfl
  | strs l => rfl
  | bools l => rfl
theorem ren_cells (f : Nat → Nat) (x : AV) (c : Nat) : (x.ren f).ncells = x.ncells ∧ ((x.ren f).cells)[c]? = (x.cells[c]?).map (AV.ren f) := by
  cases x with
  | agg cs => exact ⟨by simp [AV.ren, AV.ncells, renL_len], by simp only [AV.ren, AV.cells, renL_get]⟩
  | tup cs => exact ⟨rfl, by cases c <;> simp [AV.ren, AV.cells]⟩
  | aggi k l =>
    refine ⟨rfl, ?_⟩
    simp only [AV.ren, AV.cells, List.getElem?_map, Option.map_map]
    rfl
  | _ => exact ⟨rfl, by cases c <;> simp [AV.ren, AV.cells]⟩
theorem once_take : ∀ (l : List Nat) (m : Nat), onceP l = true → onceP (l.take m) = true
  | [], m, _ => by simp [onceP]
  | x :: xs, 0, _ => rfl
  | x :: xs, m + 1, h => by
    simp only [onceP, Bool.and_eq_true, Bool.not_eq_true'] at h
    simp only [List.take_succ_cons, onceP, Bool.and_eq_true, Bool.not_eq_true', once_take xs m h.2, and_true]
    cases hb : inP (xs.take m) x with
    | false => rfl
    | true =>
      have := List.mem_of_mem_take (inP_mem.1 hb)
      rw [inP_mem.2 this] at h
      cases h.1
/-- A CALL THAT IS GIVEN OBJECTS OF OURS. ids: which ones, in the callee's order. -/
theorem own_call {m : Nat} {P : PL} {g : FuncId} {args args' : List AV} {s objs objs' : Store} {r : AV} (ids : List Nat) (hC : ContractM m P g args' objs r objs') (hq : (onceP ids && ids.all (fun i => Nat.blt i s.length)) = true)
    (hs : storeLe ids s ids objs) (ha : cellsLe ids args args') (hle : (Nat.ble m objs'.length && Nat.ble m ids.length) = true) :
    Contract P g args s (r.ren (outN (ids.take m) s.length)) (mergeAt (outN (ids.take m) s.length) (ids.take m) objs' (killAll s (ids.drop m))) := by
  obtain ⟨hfn, hC⟩ := hC
  refine ⟨hfn, fun V w cx vs S hlen R => ?_⟩
  simp only [Bool.and_eq_true, List.all_eq_true] at hq
  obtain ⟨honce, hlt⟩ := hq
  have hlt : ∀ i ∈ ids, i < s.length := fun i hi => by simpa using hlt i hi
  simp only [Bool.and_eq_true] at hle
  have hmi : m ≤ ids.length := by simpa using hle.2
  have hle : m ≤ objs'.length := by simpa using hle.1
  have hlm : (ids.take m).length = m := by rw [List.length_take]; omega
  have htd : ∀ i, i ∈ ids → i ∈ ids.take m ∨ i ∈ ids.drop m := fun i hi => by rw [← List.take_append_drop m ids] at hi; exact List.mem_append.1 hi
  have hsub : ∀ i, i ∈ ids.take m → i ∈ ids := fun i hi => List.mem_of_mem_take hi
  obtain ⟨hlo, hobj⟩ := storeLe_out hs
  obtain ⟨hla, hargs⟩ := cellsLe_out ha
  let cx1 : Cx := ids.map fun i => cx.getD i ⟨0, 0, 0, 0, true⟩
  have hcx : ∀ (j : Nat) (e : CxE), cx1[j]? = some e → ∃ i, ids[j]? = some i ∧ cx[i]? = some e := fun j e h => by
    simp only [cx1, List.getElem?_map, Option.map_eq_some_iff] at h
    obtain ⟨i, hi, he⟩ := h
    refine ⟨i, hi, ?_⟩
    have : i < cx.length := by rw [S.len]; exact hlt i (List.mem_of_getElem? hi)
    rw [List.getElem?_eq_getElem this]
    simp only [List.getD, List.getElem?_eq_getElem this, Option.getD_some] at he
    rw [he]
  have hmap : ∀ (i : Nat) (e : CxE), inP ids i = true → cx[i]? = some e → cx1[idx ids i]? = some e := fun i e hp he => by
    have := idx_get (inP_mem.1 hp)
    simp only [cx1, List.getElem?_map, this, Option.map_some, List.getD, he, Option.getD_some]
  have hinj : ∀ (j j' i : Nat), ids[j]? = some i → ids[j']? = some i → j = j' := fun j j' i h1 h2 => by rw [← get_idx honce h1, ← get_idx honce h2]
  have hl1 : cx1.length = objs.length := by simp [cx1, hlo]
  -- the others' blocks that may be written
  let V1 : Nat → Prop := fun b => V b ∨ ∃ (i : Nat) (e : CxE) (o : MObj), i ∉ ids ∧ cx[i]? = some e ∧ s[i]? = some (some o) ∧ o.ro = false ∧ e.isnil = false ∧ e.b = b
  have ro_back : ∀ {o o' : MObj}, objLe ids o o' → o'.ro = false → o.ro = false := fun {o o'} h hr => by
    cases hor : o.ro with
    | false => rfl
    | true => rw [h.2.2.1 hor] at hr; cases hr
  have hwr : ∀ b, Wr cx1 objs b → Wr cx s b := fun b ⟨j, e, o', he, ho', hr, hnn, hb⟩ => by
    obtain ⟨i, hi, he⟩ := hcx j e he
    obtain ⟨i', o, hi', ho, hL⟩ := hobj j o' ho'
    rw [hi] at hi'
    cases hi'
    exact ⟨i, e, o, he, ho, ro_back hL hr, hnn, hb⟩
  have hav1 : ∀ b, Av V1 cx1 objs b → Av V cx s b := fun b hb => by
    rcases hb with (hb | ⟨i, e, o, _, he, ho, hr, hn, hb⟩) | hb
    · exact .inl hb
    · exact .inr ⟨i, e, o, he, ho, hr, hn, hb⟩
    · exact .inr (hwr b hb)
  have hav : ∀ b, b < w.heap.size → ¬ Av V cx s b → ¬ Av V1 cx1 objs b := fun b _ hA hA' => hA (hav1 b hA')
  have S1 : RelSt P.laid V1 w cx1 objs := by
    refine ⟨fun b hb => ?_, hl1, fun j e o' he ho' hnn => ?_, fun j e o' he ho' hnn => ?_, fun j e o' he ho' hmb => ?_, fun j e o' he ho' hnn => ?_, fun j j' ej ej' oj oj' hej hej' hoj hoj' hnj hnj' hne hio => ?_, S.glob.move (Nat.le_refl _) (fun _ _ _ => rfl) hav⟩
    · rcases hb with hb | ⟨i, e, o, _, he, ho, hr, hn, hb⟩
      · exact S.low b hb
      · exact Wr.lt S ⟨i, e, o, he, ho, hr, hn, hb⟩
    · obtain ⟨i, hi, he⟩ := hcx j e he
      obtain ⟨i', o, hi', ho, l1, l2, l3, l4, l5, l6, l7⟩ := hobj j o' ho'
      rw [hi] at hi'
      cases hi'
      obtain ⟨cur, RO⟩ := S.obj i e o he ho hnn
      refine ⟨cur, by rw [l2]; obtain ⟨fz, p, q⟩ := RO.hp; exact ⟨fz, p, fun h => q (by cases hr : o.ro with | false => rfl | true => (rw [l3 hr] at h; cases h))⟩, RO.tot, by rw [l1]; exact RO.esz, by rw [l5]; exact RO.len, l6 RO.ok, RO.fits, fun k hk => ?_, fun k c y hk hy => ?_⟩
      · rw [(l7 k (by rw [← RO.len]; exact hk)).1, l1]; exact RO.size k hk
      · obtain ⟨x, hx, hxy⟩ := (l7 k (by rw [← RO.len]; exact hk)).2 c y hy
        obtain ⟨u, h1, h2, h3⟩ := RO.cells k c x hk hx
        obtain ⟨g1, g2⟩ := hxy RO.ok
        exact ⟨u, h1, h2, g2 _ _ _ _ (h3.rename hav hmap g1)⟩
    · obtain ⟨i, hi, he⟩ := hcx j e he
      obtain ⟨i', o, hi', ho, l1, l2, l3, l4, l5, l6, l7⟩ := hobj j o' ho'
      rw [hi] at hi'
      cases hi'
      obtain ⟨v1, v2, v3, v4⟩ := S.vir i e o he ho hnn
      exact ⟨by rw [l5]; exact v1, l6 v2, l4 v3, by rw [l1]; exact v4⟩
    · obtain ⟨i, hi, he⟩ := hcx j e he
      obtain ⟨i', o, hi', ho, l1, l2, l3, l4, l5⟩ := hobj j o' ho'
      rw [hi] at hi'
      cases hi'
      refine S.may i e o he ho ?_
      cases hm : o.mb with
      | false => rfl
      | true => rw [l4 hm] at hmb; cases hmb
    · obtain ⟨i, hi, he⟩ := hcx j e he
      obtain ⟨i', o, hi', ho, hL⟩ := hobj j o' ho'
      rw [hi] at hi'
      cases hi'
      rintro (hb | ⟨i2, e2, o2, hn2, he2, ho2, hr2, hn2', hb⟩)
      · exact S.apart i e o he ho hnn hb
      · exact S.inj i2 i e2 e o2 o he2 he ho2 ho hn2' hnn (fun h => hn2 (h ▸ List.mem_of_getElem? hi)) (.inl hr2) hb
    · obtain ⟨i, hi, he⟩ := hcx j ej hej
      obtain ⟨i1, o1, hi1, ho1, L1⟩ := hobj j oj hoj
      rw [hi] at hi1
      cases hi1
      obtain ⟨i', hi', he'⟩ := hcx j' ej' hej'
      obtain ⟨i2, o2, hi2, ho2, L2⟩ := hobj j' oj' hoj'
      rw [hi'] at hi2
      cases hi2
      exact S.inj i i' ej ej' o1 o2 he he' ho1 ho2 hnj hnj' (fun e => by subst e; exact hne (hinj j j' i hi hi')) (hio.imp (ro_back L1) (ro_back L2))
  refine (hC V1 w cx1 vs S1 (by omega) fun i y v hy hv => ?_).mono ?_
  · obtain ⟨x, hx, g1, g2⟩ := hargs i y hy
    exact g2 _ _ _ _ ((R i x v hx hv).rename hav hmap g1)
  rintro e0 w' ⟨v, cx1', he0, E1, S1', R1⟩
  have hl2 : cx1'.length = objs'.length := S1'.len
  let f := outN (ids.take m) s.length
  let s0 := killAll s (ids.drop m)
  have hs0 : s0.length = s.length := killAll_len _ _
  let s' := mergeAt f (ids.take m) objs' s0
  let cx' : Cx := cx ++ cx1'.drop m
  have hf1 : ∀ (k i : Nat), (ids.take m)[k]? = some i → f k = i := fun k i h => by
    have hk : k < (ids.take m).length := (List.getElem?_eq_some_iff.1 h).1
    have hb : Nat.blt k (ids.take m).length = true := by simpa using hk
    simp only [f, outN, hb, cond_true, List.getD, h, Option.getD_some]
  have hf2 : ∀ (k : Nat), m ≤ k → f k = s.length + (k - m) := fun k h => by
    have hb : Nat.blt k (ids.take m).length = false := by
      cases hb : Nat.blt k (ids.take m).length with
      | false => rfl
      | true => have : k < (ids.take m).length := by simpa using hb
                omega
    rw [hlm] at hb
    simp only [f, outN, hlm, hb, cond_false]
  have hlen' : cx'.length = s'.length := by
    simp only [cx', s', List.length_append, List.length_drop, mergeAt_len f (ids.take m) objs' s0 (by omega), hl2, S.len, hlm, hs0]
  have hcx_old : ∀ (i : Nat) (e : CxE), cx[i]? = some e → cx'[i]? = some e := fun i e h => by
    have : i < cx.length := (List.getElem?_eq_some_iff.1 h).1
    simp only [cx', List.getElem?_append_left this, h]
  have hmap' : ∀ (k : Nat) (e : CxE), (fun _ => true) k = true → cx1'[k]? = some e → cx'[f k]? = some e := fun k e _ he => by
    by_cases hk : k < m
    · have hi : ids[k]? = some (ids[k]'(by omega)) := List.getElem?_eq_getElem (by omega)
      rw [hf1 k (ids[k]'(by omega)) (by rw [List.getElem?_take, if_pos hk]; exact hi)]
      have hk1 : k < cx1.length := by rw [hl1, ← hlo]; omega
      obtain ⟨i, hi2, he2⟩ := hcx k cx1[k] (List.getElem?_eq_getElem hk1)
      rw [hi] at hi2
      cases hi2
      have := E1.cx k cx1[k] hk (List.getElem?_eq_getElem hk1)
      rw [he] at this
      cases this
      exact hcx_old _ _ he2
    · rw [hf2 k (by omega)]
      simp only [cx', ← S.len, List.getElem?_append_right (Nat.le_add_right _ _), Nat.add_sub_cancel_left, List.getElem?_drop]
      rw [show m + (k - m) = k from by omega]
      exact he
  -- each object there is an other one of ours, as it was, or one of the callee's
  have hback : ∀ (i : Nat) (e : CxE) (o : MObj), cx'[i]? = some e → s'[i]? = some (some o) → (i ∉ ids ∧ i < s.length ∧ cx[i]? = some e ∧ s[i]? = some (some o)) ∨ ∃ k o', i = f k ∧ cx1'[k]? = some e ∧ objs'[k]? = some (some o') ∧ o = { o' with row := o'.row.ren f } := fun i e o he ho => by
    by_cases hi : i < s.length
    · have hi0 : i < s0.length := by rw [hs0]; exact hi
      have hic : i < cx.length := by rw [S.len]; exact hi
      have he2 : cx[i]? = some e := by simpa only [cx', List.getElem?_append_left hic] using he
      by_cases hm : i ∈ ids.take m
      · right
        have hmem := hsub i hm
        have hk : (ids.take m)[idx ids i]? = some i := by
          obtain ⟨k2, hk2⟩ := List.getElem?_of_mem hm
          have hk3 : ids[k2]? = some i := by 
            rw [List.getElem?_take] at hk2
            split at hk2
            · exact hk2
            · cases hk2
          rw [get_idx honce hk3]; exact hk2
        have hot : onceP (ids.take m) = true := once_take ids m honce
        have hm1 := mergeAt_mine f (ids.take m) objs' s0 (idx ids i) i hot (by omega) (fun x hx => by rw [hs0]; exact hlt x (hsub x hx)) hk
        have ho2 : s'[i]? = (objs'[idx ids i]?).map (renO f) := hm1
        rw [ho] at ho2
        have hkl : idx ids i < m := by have := (List.getElem?_eq_some_iff.1 hk).1; omega
        rw [List.getElem?_eq_getElem (by omega)] at ho2
        simp only [Option.map_some, Option.some.injEq] at ho2
        refine ⟨idx ids i, ?_⟩
        cases hq : objs'[idx ids i]'(by omega) with
        | none => rw [hq] at ho2; cases ho2
        | some o' =>
          rw [hq] at ho2
          simp only [renO, Option.some.injEq] at ho2
          refine ⟨o', (hf1 _ _ hk).symm, ?_, by rw [List.getElem?_eq_getElem (by omega), hq], ho2⟩
          have := hmap i e (inP_mem.2 hmem) he2
          exact E1.cx _ _ hkl this
      · left
        have ho3 : s0[i]? = some (some o) := by rw [← ho]; exact (mergeAt_other f (ids.take m) objs' s0 i (by omega) hi0 hm).symm
        obtain ⟨ho4, hnd⟩ := killAll_get _ _ i o ho3
        exact ⟨fun h => (htd i h).elim hm hnd, hi, he2, ho4⟩
    · right
      have hs2 : s'[s.length + (i - s.length)]? = (objs'[m + (i - s.length)]?).map (renO f) := by
        have := mergeAt_new f (ids.take m) objs' s0 (i - s.length) (by omega)
        rw [hs0, hlm] at this
        exact this
      rw [show s.length + (i - s.length) = i from by omega, ho] at hs2
      have he2 : cx1'[m + (i - s.length)]? = some e := by
        have hic : cx.length ≤ i := by rw [S.len]; omega
        simp only [cx', List.getElem?_append_right hic, List.getElem?_drop, S.len] at he
        exact he
      have hkl : m + (i - s.length) < objs'.length := by rw [← hl2]; exact (List.getElem?_eq_some_iff.1 he2).1
      rw [List.getElem?_eq_getElem hkl] at hs2
      simp only [Option.map_some, Option.some.injEq] at hs2
      refine ⟨m + (i - s.length), ?_⟩
      cases hq : objs'[m + (i - s.length)] with
      | none => rw [hq] at hs2; cases hs2
      | some o' =>
        rw [hq] at hs2
        simp only [renO, Option.some.injEq] at hs2
        refine ⟨o', ?_, he2, by rw [List.getElem?_eq_getElem hkl, hq], hs2⟩
        rw [hf2 _ (by omega)]
        omega
  have hwr' : ∀ b, Wr cx' s' b → (∃ (i : Nat) (e : CxE) (o : MObj), i ∉ ids ∧ cx[i]? = some e ∧ s[i]? = some (some o) ∧ o.ro = false ∧ e.isnil = false ∧ e.b = b) ∨ Wr cx1' objs' b := fun b ⟨i, e, o, he, ho, hr, hn, hb⟩ => by
    rcases hback i e o he ho with ⟨hm, _, he2, ho2⟩ | ⟨k, o', hk, he2, ho2, rfl⟩
    · exact .inl ⟨i, e, o, hm, he2, ho2, hr, hn, hb⟩
    · exact .inr ⟨k, e, o', he2, ho2, hr, hn, hb⟩
  have hav2 : ∀ b, Av V cx' s' b → Av V1 cx1' objs' b := fun b hb => by
    rcases hb with hb | hb
    · exact .inl (.inl hb)
    · rcases hwr' b hb with hb | hb
      · exact .inl (.inr hb)
      · exact .inr hb
  have E : Ext s.length V w w' cx cx' s s' := by
    refine ⟨E1.os, E1.tape, E1.output, E1.size, fun b hb hA => E1.keep b hb fun h => hA (hwr b h), fun b hb hA hA' => ?_, fun b hb hA hA' => ?_, fun i e _ he => hcx_old i e he⟩
    · exact E1.now b hb (hav b hb hA) (hav2 b hA')
    · rcases hwr' b hA' with ⟨i, e, o, _, he, ho, hr, hn, hb'⟩ | h
      · exact hA ⟨i, e, o, he, ho, hr, hn, hb'⟩
      · exact E1.grow b hb (fun h => hA (hwr b h)) h
  have hren : ∀ {x : AV} {u : Value}, Rel w' cx1' (Av V1 cx1' objs') x u → Rel w' cx' (Av V cx' s') (x.ren f) u := fun {x u} h =>
    h.rename (fun b _ hA hA' => hA (hav2 b hA')) hmap' (refs_all x)
  have lies : ∀ (i : Nat) (e : CxE) (o : MObj), i ∉ ids → cx[i]? = some e → s[i]? = some (some o) → e.isnil = false → e.b < w.heap.size ∧ ¬ Wr cx1 objs e.b := fun i e o hm he ho hn => by
    obtain ⟨cur, RO⟩ := S.obj i e o he ho hn
    refine ⟨RO.lt, fun ⟨j, e2, o2', he2, ho2', hr2, hn2, hb2⟩ => ?_⟩
    obtain ⟨i2, hi2, he2⟩ := hcx j e2 he2
    obtain ⟨i3, o2, hi3, ho2, L2⟩ := hobj j o2' ho2'
    rw [hi2] at hi3
    cases hi3
    exact S.inj i2 i e2 e o2 o he2 he ho2 ho hn2 hn (fun h => hm (h ▸ List.mem_of_getElem? hi2)) (.inl (ro_back L2 hr2)) hb2
  refine ⟨v, cx', he0, E, ?_, hren R1⟩
  refine ⟨fun b hb => Nat.lt_of_lt_of_le (S.low b hb) E1.size, hlen', fun i e o he ho hn => ?_, fun i e o he ho hn => ?_, fun i e o he ho hm => ?_, fun i e o he ho hn => ?_, fun i j ei ej oi oj hei hej hoi hoj hni hnj hne hio => ?_, S.glob.move E.size (fun b hb hA => E.keep b hb fun h => hA (.inr h)) E.now⟩
  · rcases hback i e o he ho with ⟨hm, _, he2, ho2⟩ | ⟨k, o', hk, he2, ho2, rfl⟩
    · obtain ⟨cur, RO⟩ := S.obj i e o he2 ho2 hn
      obtain ⟨hb1, hb2⟩ := lies i e o hm he2 ho2 hn
      refine ⟨cur, by rw [E1.keep e.b hb1 hb2]; exact RO.hp, RO.tot, RO.esz, RO.len, RO.ok, RO.fits, RO.size, fun j c x hj hx => ?_⟩
      obtain ⟨u, h1, h2, h3⟩ := RO.cells j c x hj hx
      exact ⟨u, h1, h2, h3.ext E S.len⟩
    · obtain ⟨cur, RO⟩ := S1'.obj k e o' he2 ho2 hn
      obtain ⟨q1, q2⟩ := row_ren (f := f) (r := o'.row)
      refine ⟨cur, RO.hp, RO.tot, RO.esz, by rw [q1]; exact RO.len, q2 RO.ok, RO.fits, fun j hj => ?_, fun j c y hj hy => ?_⟩
      · show (((o'.row.ren f).get j).ncells = _)
        rw [row_ren_get RO.ok (by rw [← RO.len]; exact hj), (ren_cells f _ 0).1]
        exact RO.size j hj
      · replace hy : ((o'.row.ren f).get j).cells[c]? = some y := hy
        rw [row_ren_get RO.ok (by rw [← RO.len]; exact hj), (ren_cells f _ c).2] at hy
        cases hx : ((o'.row.get j).cells)[c]? with
        | none => rw [hx] at hy; cases hy
        | some x =>
          rw [hx] at hy
          simp only [Option.map_some, Option.some.injEq] at hy
          obtain ⟨u, h1, h2, h3⟩ := RO.cells j c x hj hx
          exact ⟨u, h1, h2, hy ▸ hren h3⟩
  · rcases hback i e o he ho with ⟨hm, _, he2, ho2⟩ | ⟨k, o', hk, he2, ho2, rfl⟩
    · exact S.vir i e o he2 ho2 hn
    · obtain ⟨v1, v2, v3, v4⟩ := S1'.vir k e o' he2 ho2 hn
      obtain ⟨q1, q2⟩ := row_ren (f := f) (r := o'.row)
      exact ⟨by rw [q1]; exact v1, q2 v2, v3, v4⟩
  · rcases hback i e o he ho with ⟨hm', _, he2, ho2⟩ | ⟨k, o', hk, he2, ho2, rfl⟩
    · exact S.may i e o he2 ho2 hm
    · exact S1'.may k e o' he2 ho2 hm
  · rcases hback i e o he ho with ⟨hm', _, he2, ho2⟩ | ⟨k, o', hk, he2, ho2, rfl⟩
    · exact S.apart i e o he2 ho2 hn
    · exact fun h => S1'.apart k e o' he2 ho2 hn (.inl h)
  · have mixed : ∀ (i : Nat) (ei : CxE) (oi : MObj) (k : Nat) (ek : CxE) (ok : MObj), i ∉ ids → cx[i]? = some ei → s[i]? = some (some oi) → ei.isnil = false → cx1'[k]? = some ek → objs'[k]? = some (some ok) → ek.isnil = false → (oi.ro = false ∨ ok.ro = false) → ei.b ≠ ek.b := fun i ei oi k ek ok hm he ho hn hek hok hnk hio hb => by
      rcases hio with hr | hr
      · exact S1'.apart k ek ok hek hok hnk (.inr ⟨i, ei, oi, hm, he, ho, hr, hn, hb⟩)
      · obtain ⟨hb1, hb2⟩ := lies i ei oi hm he ho hn
        exact E1.grow ei.b hb1 hb2 ⟨k, ek, ok, hek, hok, hr, hnk, hb.symm⟩
    rcases hback i ei oi hei hoi with ⟨hm, _, he2, ho2⟩ | ⟨k, o', hk, he2, ho2, rfl⟩ <;> rcases hback j ej oj hej hoj with ⟨hm', _, he2', ho2'⟩ | ⟨k', o'', hk', he2', ho2', rfl⟩
    · exact S.inj i j ei ej oi oj he2 he2' ho2 ho2' hni hnj hne hio
    · exact mixed i ei oi k' ej o'' hm he2 ho2 hni he2' ho2' hnj hio
    · exact fun h => mixed j ej oj k ei o' hm' he2' ho2' hnj he2 ho2 hni hio.symm h.symm
    · exact S1'.inj k k' ei ej o' o'' he2 he2' ho2 ho2' hni hnj (fun h => hne (by rw [hk, hk', h])) hio
theorem own_intro {P : PL} {g : FuncId} {args : List AV} {s s' : Store} {r : AV} {K : AV → Store → Prop} (h : Contract P g args s r s') (k : K r s') : callOwn P g args s K := ⟨r, s', h, k⟩
section
variable {P : PL}
/-- A contract out of the shadow of a body that is given objects; its end told less. -/
theorem contract_own {f : FuncId} {fn : Func} {c : Code} (m : Nat) (mt : MT) {args : List AV} {objs objs' : Store} {r : AV} (hle : Nat.ble m objs.length = true) (hf : P.funcs[f]? = some fn) (hb : fn.body = some c) (hname : (fn.name == "runtime.NumGoroutine") = false)
    (h : W P m c mt (frame0 fn args objs) (retQM P fn m fun r' s' => Weak m ⟨[r'], s'⟩ (mkF 1 [(0, r)] objs'))) : ContractM m P f args objs r objs' :=
  contractX_of_wp _ (by simpa using hle) (fun r' s' hw V w cx v S R => by
    have R1 : RelFr P.laid V w cx ⟨[r'], s'⟩ { tmps := #[v], defers := [] } := ⟨S, rfl, trivial, fun i x hx => by
      cases i with
      | zero => simp at hx; subst hx; exact R
      | succ i => simp at hx⟩
    obtain ⟨cx', E, R2⟩ := hw P.laid V w cx _ R1
    exact ⟨cx', E, R2.st, R2.tmps 0 r (by rfl)⟩) hf hb hname fun V w cx a R hm => (h.out V w cx a R hm).wp
end
/-- A slice that came in is nil, or it isn't. -/
theorem contract_nil {P : PL} {f : FuncId} {rest : List AV} {objs objs' : Store} {r : AV} {n : Nat} {get : Nat → AV} (h1 : n = 0 → Contract P f (.sl (some true) 0 (fun _ => .unk) :: rest) objs r objs') (h2 : Contract P f (.sl (some false) n get :: rest) objs r objs') :
    Contract P f (.sl none n get :: rest) objs r objs' := by
  refine ⟨h2.1, fun V w cx vs S hl R => ?_⟩
  cases vs with
  | nil => simp at hl
  | cons v vs =>
    have R0 := R 0 _ v rfl rfl
    cases R0 with
    | sl _ _ _ a cap esz vals hnil hcap hmax hz hmem himm hrel =>
      cases a with
      | none =>
        have hc := hz rfl
        have hn : n = 0 := by omega
        refine (h1 hn).2 V w cx _ S (by simpa using hl) fun i x u hx hu => ?_
        cases i with
        | zero =>
          simp at hx hu
          subst hx; subst hu; subst hn
          exact .sl (some true) 0 _ none cap esz vals (fun b hb => by cases hb; rfl) hcap hmax hz (fun h => absurd h (Nat.lt_irrefl _)) (fun j hj => absurd hj (Nat.not_lt_zero _)) (fun j c x hj => absurd hj (Nat.not_lt_zero _))
        | succ i => exact R (i + 1) x u (by simpa using hx) (by simpa using hu)
      | some a =>
        refine h2.2 V w cx _ S (by simpa using hl) fun i x u hx hu => ?_
        cases i with
        | zero =>
          simp at hx hu
          subst hx; subst hu
          exact .sl (some false) n get (some a) cap esz vals (fun b hb => by cases hb; rfl) hcap hmax (fun h => by cases h) hmem himm hrel
        | succ i => exact R (i + 1) x u (by simpa using hx) (by simpa using hu)
/-- A slice that came in is nil, or it isn't. -/
theorem contractM_nil {m : Nat} {P : PL} {f : FuncId} {rest : List AV} {objs objs' : Store} {r : AV} {n : Nat} {get : Nat → AV} (h1 : n = 0 → ContractM m P f (.sl (some true) 0 (fun _ => .unk) :: rest) objs r objs') (h2 : ContractM m P f (.sl (some false) n get :: rest) objs r objs') :
    ContractM m P f (.sl none n get :: rest) objs r objs' := by
  refine ⟨h2.1, fun V w cx vs S hl R => ?_⟩
  cases vs with
  | nil => simp at hl
  | cons v vs =>
    have R0 := R 0 _ v rfl rfl
    cases R0 with
    | sl _ _ _ a cap esz vals hnil hcap hmax hz hmem himm hrel =>
      cases a with
      | none =>
        have hc := hz rfl
        have hn : n = 0 := by omega
        refine (h1 hn).2 V w cx _ S (by simpa using hl) fun i x u hx hu => ?_
        cases i with
        | zero =>
          simp at hx hu
          subst hx; subst hu; subst hn
          exact .sl (some true) 0 _ none cap esz vals (fun b hb => by cases hb; rfl) hcap hmax hz (fun h => absurd h (Nat.lt_irrefl _)) (fun j hj => absurd hj (Nat.not_lt_zero _)) (fun j c x hj => absurd hj (Nat.not_lt_zero _))
        | succ i => exact R (i + 1) x u (by simpa using hx) (by simpa using hu)
      | some a =>
        refine h2.2 V w cx _ S (by simpa using hl) fun i x u hx hu => ?_
        cases i with
        | zero =>
          simp at hx hu
          subst hx; subst hu
          exact .sl (some false) n get (some a) cap esz vals (fun b hb => by cases hb; rfl) hcap hmax (fun h => by cases h) hmem himm hrel
        | succ i => exact R (i + 1) x u (by simpa using hx) (by simpa using hu)
end Go.SE
