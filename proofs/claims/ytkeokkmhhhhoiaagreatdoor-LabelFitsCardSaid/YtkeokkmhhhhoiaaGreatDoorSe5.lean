/- The shadow evaluator, part 5: slices of slices, lengths; new objects. No condition. -/
import Derived.Test.YtkeokkmhhhhoiaaGreatDoorSe4
namespace Go.SE
open Go
set_option linter.unusedVariables false
variable {L : Laid}
set_option linter.unusedSimpArgs false

section
variable {P : PL} {o : Oper} {s : Store} {ev : Operand → AV}
theorem boundOf_out {lo : Option Operand} {d : Int} {K : Int → Prop} (h : boundOf (lo.map ev) d K) : ∃ l, K l ∧ ((lo = none ∧ l = d) ∨ ∃ a k, lo = some a ∧ ev a = .int k l) := by
  cases lo with
  | none => exact ⟨d, h, .inl ⟨rfl, rfl⟩⟩
  | some a =>
    simp only [Option.map_some, boundOf] at h
    split at h
    · cases ‹some _ = none›
    · rename_i k i hi
      exact ⟨i, h, .inr ⟨a, k, rfl, Option.some.inj hi⟩⟩
    · exact h.elim
theorem run_sliceBound {k : IntKind} {i : Int} {y : Nat} {c : BoundsCode} (w : World) (h0 : 0 ≤ i) (h1 : i ≤ y) : (Instr.sliceBound (.int k i) y c).run P w = .ok i.toNat w := by
  simp [Instr.sliceBound, asIntOf, h0, h1]
theorem run_sliceBounds {b : Bool} {len cap : Nat} {lo hi : Option Value} {l h : Int} (w : World) (hl : (lo = none ∧ l = 0) ∨ ∃ k, lo = some (.int k l)) (hh : (hi = none ∧ h = len) ∨ ∃ k, hi = some (.int k h))
    (h0 : 0 ≤ l) (h1 : l ≤ h) (h2 : h ≤ cap) : (Instr.sliceBounds b len cap lo hi none).run P w = .ok (l.toNat, h.toNat, cap) w := by
  have e : (h.toNat : Int) = h := by omega
  rcases hl with ⟨rfl, rfl⟩ | ⟨k, rfl⟩ <;> rcases hh with ⟨rfl, rfl⟩ | ⟨k', rfl⟩
  · simp [Instr.sliceBounds]
  · simp [Instr.sliceBounds, run_sliceBound (P := P) w (by omega) h2]
  · simp [Instr.sliceBounds, run_sliceBound (P := P) w h0 h1]
  · have := run_sliceBound (P := P) (k := k) (i := l) (y := h.toNat) (c := .sliceB) w h0 (by omega)
    simp [Instr.sliceBounds, run_sliceBound (P := P) w (show 0 ≤ h by omega) h2, this]
theorem bound_val {lo : Option Operand} {d l : Int} {w : World} {cx : Cx} {A : Nat → Prop} {ρ : Operand → Value} (h : (lo = none ∧ l = d) ∨ ∃ a k, lo = some a ∧ ev a = .int k l) (R : ∀ a, lo = some a → Rel w cx A (ev a) (ρ a)) :
    (lo.map ρ = none ∧ l = d) ∨ ∃ k, lo.map ρ = some (.int k l) := by
  rcases h with ⟨rfl, rfl⟩ | ⟨a, k, rfl, hk⟩
  · exact .inl ⟨rfl, rfl⟩
  · have := R a rfl
    rw [hk] at this
    exact .inr ⟨k, by rw [Option.map_some, this.int_inv]⟩
theorem sub_bound {L U n j : Nat} (a2 : U ≤ n) (h : j < U - L) : L + j < n := by omega
theorem pos_bound {L U n cap : Nat} (a2 : U ≤ n) (hc : n ≤ cap) (h : 0 < U - L) : 0 < n ∧ L < n ∧ ¬ cap = L := by omega
/-- A part of own memory from an offset on. -/
theorem part_mso {P : PL} {t e : TypeId} {w : World} {cx : Cx} {A : Nat → Prop} {lo hi : Option Value} {id off o n cap l u off' : Nat} {en : CxE} (ht : P.underlying t = some (.slice e)) (hp : 0 < P.cellsOf e) (hes : en.esz = P.cellsOf e) (hen : cx[id]? = some en) (hnn : en.isnil = false)
    (hb : (Instr.sliceBounds true n cap lo hi none).run P w = .ok (l, u, cap) w) (hlu : l ≤ u) (hu : u ≤ cap) (hlen : off + u ≤ en.len) (hmax : cap ≤ maxLen) (hoff : 0 < cap → o = off * en.esz) (he : off' = off + l) :
    ∃ v, (Instr.sliceAt t (.slice (some ⟨en.b, o, none⟩) n cap) lo hi none).run P w = .ok v w ∧ Rel w cx A (.mso id off' (u - l)) v := by
  subst he
  by_cases hc : cap = l
  · subst hc
    exact ⟨.slice (some ⟨en.b, o, none⟩) (u - cap) (cap - cap), by simp [Instr.sliceAt, Instr.slice, run_underlying ht, hb, run_sizeOf_pos hp], .mso id (off + cap) (u - cap) (cap - cap) o en hen hnn (by omega) (by omega) (fun h => by omega) (by omega)⟩
  · refine ⟨.slice (some ⟨en.b, o + l * en.esz, none⟩) (u - l) (cap - l), by simp [Instr.sliceAt, Instr.slice, run_underlying ht, hb, run_sizeOf_pos hp, hc, Addr.add_lit, hes], .mso id (off + l) (u - l) (cap - l) _ en hen hnn (by omega) (by omega) (fun h => by rw [hoff (by omega), Nat.add_mul]) (by omega)⟩
theorem sound_sliceQ {t : TypeId} {x : Operand} {lo hi mx : Option Operand} {K : AV → Prop} (ho : o.op = .slice t x lo hi mx) (h : sliceQ P s t (ev x) (lo.map ev) (hi.map ev) (mx.map ev) K) : ∃ r, K r ∧ EY P o s ev r s := by
  have hx : x ∈ o.op.operands.toList := by simp [ho, Op.operands]
  have hlo : ∀ a, lo = some a → a ∈ o.op.operands.toList := fun a ha => by simp [ho, Op.operands, ha]
  have hhi : ∀ a, hi = some a → a ∈ o.op.operands.toList := fun a ha => by simp [ho, Op.operands, ha]
  unfold sliceQ at h
  replace h := need_out h
  obtain ⟨hmx, h⟩ := h
  have hmx : mx = none := by cases mx <;> simp_all
  subst hmx
  have he : ∀ ρ, execOp ρ o = (do pure (.value (← Instr.sliceAt t (ρ x) (lo.map ρ) (hi.map ρ) none))) := fun ρ => by simp [execOp, ho]
  split at h
  · rename_i b ht hev
    obtain ⟨l, h, hl⟩ := boundOf_out h
    obtain ⟨u, ⟨h0, h1, h2, h⟩, hu⟩ := boundOf_out h
    refine ⟨_, h, EY.value he fun V w cx ρ S R => ?_⟩
    have hrx := R x hx
    rw [hev] at hrx
    rw [hrx.str_inv]
    have := run_sliceBounds (P := P) (b := false) (len := b.size) (cap := b.size) w (bound_val hl fun a ha => R a (hlo a ha)) (bound_val hu fun a ha => R a (hhi a ha)) h0 h1 h2
    exact ⟨conc _, by simp [Instr.sliceAt, Instr.slice, run_underlying ht, this, conc], .conc_str _⟩
  · rename_i e nl n get ht hev
    obtain ⟨l, h, hl⟩ := boundOf_out h
    obtain ⟨u, ⟨h0, h1, h2, h⟩, hu⟩ := boundOf_out h
    obtain ⟨hq, h⟩ := need_out h
    simp only [Bool.and_eq_true, beq_iff_eq] at hq
    obtain ⟨hsz, hp⟩ := hq
    have hp : 0 < P.cellsOf e := by simpa using hp
    refine ⟨_, h, EY.value he fun V w cx ρ S R => ?_⟩
    have hrx := R x hx
    rw [hev] at hrx
    generalize ρ x = p at hrx
    cases hrx with
    | sl _ _ _ a cap esz vals hnil hcap hmax hz hmem himm hrel =>
      have := run_sliceBounds (P := P) (b := true) (len := n) (cap := cap) w (bound_val hl fun a ha => R a (hlo a ha)) (bound_val hu fun a ha => R a (hhi a ha)) h0 h1 (by omega)
      have a1 : l.toNat ≤ u.toNat := by omega
      have a2 : u.toNat ≤ n := by omega
      have a3 : u.toNat - l.toNat ≤ cap - l.toNat := by omega
      have a4 : cap - l.toNat ≤ maxLen := by omega
      have a5 : cap = 0 → cap - l.toNat = 0 := by omega
      refine ⟨_, by simp [Instr.sliceAt, Instr.slice, run_underlying ht, this, run_sizeOf_pos hp]; rfl, ?_⟩
      clear h0 h1 h2 this hl hu
      refine .sl nl (u.toNat - l.toNat) _ _ (cap - l.toNat) esz (fun j c => vals (l.toNat + j) c) (fun b hb => ?_) a3 a4 (fun hn => ?_) (fun hpos => ?_) (fun j hj => himm _ (sub_bound a2 hj)) (fun j c y hj hy => hrel _ c y (sub_bound a2 hj) hy)
      · split
        · exact hnil b hb
        · rw [Option.isNone_map]; exact hnil b hb
      · split at hn
        · exact a5 (hz hn)
        · rw [Option.map_eq_none_iff] at hn; exact a5 (hz hn)
      · obtain ⟨p1, p2, hne⟩ := pos_bound a2 hcap hpos
        obtain ⟨b, off, rfl, hA, hb, hm⟩ := hmem p1
        have hes : esz = P.cellsOf e := by rw [← hsz]; exact (himm l.toNat p2).2.symm
        refine ⟨b, off + l.toNat * esz, ?_, hA, hb, fun j c y hj hy => ?_⟩
        · rw [if_neg hne, Option.map_some, Addr.add_lit, hes]
        · have := hm (l.toNat + j) c y (sub_bound a2 hj) hy
          rw [Nat.add_mul, Nat.add_assoc, ← Nat.add_assoc off] at this
          exact this
  · rename_i e id n ht hev
    split at h
    · rename_i hlo0
      have hl0 : lo = none := by simpa using hlo0
      obtain ⟨u, h2', hu⟩ := boundOf_out h
      obtain ⟨hp, h0, h1, hK⟩ := need_out h2'
      have hp : 0 < P.cellsOf e := by simpa using hp
      have hl : (lo = none ∧ (0 : Int) = 0) ∨ ∃ a k, lo = some a ∧ ev a = .int k 0 := .inl ⟨hl0, rfl⟩
      refine ⟨_, hK, EY.value he fun V w cx ρ S R => ?_⟩
      have hrx := R x hx
      rw [hev] at hrx
      generalize ρ x = p at hrx
      cases hrx with
      | ms _ _ cap en hen hnn hn hcap htot hmax =>
        have := run_sliceBounds (P := P) (b := true) (len := n) (cap := cap) w (bound_val hl fun a ha => R a (hlo a ha)) (bound_val hu fun a ha => R a (hhi a ha)) (Int.le_refl _) h0 (by omega)
        refine ⟨.slice (some ⟨en.b, 0, none⟩) u.toNat cap, by simp [Instr.sliceAt, Instr.slice, run_underlying ht, this, run_sizeOf_pos hp, Addr.add_zero'], .ms id u.toNat cap en hen hnn (by omega) (by omega) htot hmax⟩
      | ms0 _ en hen hnn =>
        have := run_sliceBounds (P := P) (b := true) (len := 0) (cap := 0) w (bound_val hl fun a ha => R a (hlo a ha)) (bound_val hu fun a ha => R a (hhi a ha)) (Int.le_refl _) h0 (by simpa using h1)
        have hu0 : u.toNat = 0 := by omega
        rw [hu0] at this
        exact ⟨.slice none 0 0, by simp [Instr.sliceAt, Instr.slice, run_underlying ht, this, run_sizeOf_pos hp], by rw [hu0]; exact .ms0 id en hen hnn⟩
    · obtain ⟨l, h1', hl⟩ := boundOf_out h
      obtain ⟨u, h2', hu⟩ := boundOf_out h1'
      obtain ⟨hp, h⟩ := need_out h2'
      have hp : 0 < P.cellsOf e := by simpa using hp
      split at h
      · rename_i ob hob
        obtain ⟨hsz, h0, h1, h2, hK⟩ := need_out h
        have hsz : ob.esz = P.cellsOf e := by simpa using hsz
        refine ⟨_, hK, EY.value he fun V w cx ρ S R => ?_⟩
        have hrx := R x hx
        rw [hev] at hrx
        generalize ρ x = p at hrx
        cases hrx with
        | ms _ _ cap en hen hnn hn hcap htot hmax =>
          have := run_sliceBounds (P := P) (b := true) (len := n) (cap := cap) w (bound_val hl fun a ha => R a (hlo a ha)) (bound_val hu fun a ha => R a (hhi a ha)) h0 h1 (by omega)
          obtain ⟨cur, RO⟩ := S.obj id en ob hen hob hnn
          refine part_mso (P := P) (t := t) (e := e) (l := l.toNat) (u := u.toNat) ht hp (by rw [← hsz, ← RO.esz]) hen hnn this (by omega) (by omega) (by omega) hmax (fun _ => by rw [Nat.zero_mul]) (off := 0) ?_
          simp
        | ms0 _ en hen hnn =>
          have := run_sliceBounds (P := P) (b := true) (len := 0) (cap := 0) w (bound_val hl fun a ha => R a (hlo a ha)) (bound_val hu fun a ha => R a (hhi a ha)) h0 h1 (by simpa using h2)
          have hu0 : u.toNat = 0 := by omega
          have hl0 : l.toNat = 0 := by omega
          rw [hu0, hl0] at this
          exact ⟨.slice none 0 0, by simp [Instr.sliceAt, Instr.slice, run_underlying ht, this, run_sizeOf_pos hp], by rw [hu0, hl0]; exact .mso0 id en hen hnn⟩
      · exact h.elim
  · rename_i e id off n ht hev
    obtain ⟨l, h1', hl⟩ := boundOf_out h
    obtain ⟨u, h2', hu⟩ := boundOf_out h1'
    obtain ⟨hp, h⟩ := need_out h2'
    have hp : 0 < P.cellsOf e := by simpa using hp
    split at h
    · rename_i ob hob
      obtain ⟨hsz, h0, h1, h2, hK⟩ := need_out h
      have hsz : ob.esz = P.cellsOf e := by simpa using hsz
      refine ⟨_, hK, EY.value he fun V w cx ρ S R => ?_⟩
      have hrx := R x hx
      rw [hev] at hrx
      generalize ρ x = p at hrx
      cases hrx with
      | mso _ _ _ cap o' en hen hnn hn hcap hoff hmax =>
        have := run_sliceBounds (P := P) (b := true) (len := n) (cap := cap) w (bound_val hl fun a ha => R a (hlo a ha)) (bound_val hu fun a ha => R a (hhi a ha)) h0 h1 (by omega)
        obtain ⟨cur, RO⟩ := S.obj id en ob hen hob hnn
        exact part_mso (P := P) (t := t) (e := e) (l := l.toNat) (u := u.toNat) ht hp (by rw [← hsz, ← RO.esz]) hen hnn this (by omega) (by omega) (by omega) hmax hoff rfl
      | mso0 _ en hen hnn =>
        have := run_sliceBounds (P := P) (b := true) (len := 0) (cap := 0) w (bound_val hl fun a ha => R a (hlo a ha)) (bound_val hu fun a ha => R a (hhi a ha)) h0 h1 (by simpa using h2)
        have hu0 : u.toNat = 0 := by omega
        have hl0 : l.toNat = 0 := by omega
        rw [hu0, hl0] at this
        exact ⟨.slice none 0 0, by simp [Instr.sliceAt, Instr.slice, run_underlying ht, this, run_sizeOf_pos hp], by rw [hu0, hl0]; exact .mso0 id en hen hnn⟩
    · exact h.elim
  · exact h.elim
theorem exec_builtin {c : Call} {b : Builtin} (ho : o.op = .call c) (hc : c.callee = .builtin b) (ρ : Operand → Value) :
    execOp ρ o = builtin b c.argTypes o.type (c.args.map fun | .const _ => true | _ => false) (c.args.map ρ) := by
  simp only [execOp, ho, resolve, hc]
  rfl
theorem map1 {f : Operand → AV} {l : Array Operand} {x : AV} (h : l.toList.map f = [x]) : ∃ a, l = #[a] ∧ f a = x := by
  obtain ⟨l⟩ := l
  match l, h with
  | [a], h => exact ⟨a, rfl, by simpa using h⟩
theorem map2 {f : Operand → AV} {l : Array Operand} {x y : AV} (h : l.toList.map f = [x, y]) : ∃ a b, l = #[a, b] ∧ f a = x ∧ f b = y := by
  obtain ⟨l⟩ := l
  match l, h with
  | [a, b], h => exact ⟨a, b, rfl, by simpa using h⟩
theorem arr1 {l : Array TypeId} {x : TypeId} (h : l.toList = [x]) : l = #[x] := by obtain ⟨l⟩ := l; simpa using h
theorem arr2 {l : Array TypeId} {x y : TypeId} (h : l.toList = [x, y]) : l = #[x, y] := by obtain ⟨l⟩ := l; simpa using h
theorem Rel.len {w : World} {cx : Cx} {A : Nat → Prop} {x : AV} {v : Value} (h : Rel w cx A x v) {n : Nat} (hx : (∃ nl get, x = .sl nl n get) ∨ (∃ id, x = .ms id n) ∨ ∃ id off, x = .mso id off n) : ∃ a c, v = .slice a n c := by
  rcases hx with ⟨nl, get, rfl⟩ | ⟨id, rfl⟩ | ⟨id, off, rfl⟩ <;> cases h <;> exact ⟨_, _, rfl⟩
theorem sound_lenQ {c : Call} {x : AV} {K : AV → Prop} (ho : o.op = .call c) (hc : c.callee = .builtin .len) (hx : c.args.toList.map ev = [x]) (h : lenQ P s c.argTypes.toList x K) : ∃ r, K r ∧ EY P o s ev r s := by
  obtain ⟨a, ha, rfl⟩ := map1 hx
  have hmem : a ∈ o.op.operands.toList := by simp [ho, Op.operands, Call.operands, hc, ha]
  unfold lenQ at h
  split at h
  · rename_i t hts
    have hts := arr1 hts
    have he : ∀ ρ, execOp ρ o = (do pure (.value (← Builtin.len_ #[t] o.type #[ρ a]))) := fun ρ => by rw [exec_builtin ho hc, hts, ha]; simp [builtin]
    split at h
    · rename_i b ht hev
      refine ⟨_, h, EY.value he fun V w cx ρ S R => ?_⟩
      have hrx := R a hmem
      rw [hev] at hrx
      rw [hrx.str_inv]
      exact ⟨conc _, by simp [Builtin.len_, run_underlying ht, goInt, conc], .conc_int _ _⟩
    · rename_i e nl n get ht hev
      refine ⟨_, h, EY.value he fun V w cx ρ S R => ?_⟩
      have hrx := R a hmem
      rw [hev] at hrx
      obtain ⟨ad, cp, hv⟩ := hrx.len (.inl ⟨_, _, rfl⟩)
      rw [hv]
      exact ⟨conc _, by simp [Builtin.len_, run_underlying ht, goInt, conc], .conc_int _ _⟩
    · rename_i e id n ht hev
      refine ⟨_, h, EY.value he fun V w cx ρ S R => ?_⟩
      have hrx := R a hmem
      rw [hev] at hrx
      obtain ⟨ad, cp, hv⟩ := hrx.len (.inr (.inl ⟨_, rfl⟩))
      rw [hv]
      exact ⟨conc _, by simp [Builtin.len_, run_underlying ht, goInt, conc], .conc_int _ _⟩
    · rename_i e id off n ht hev
      refine ⟨_, h, EY.value he fun V w cx ρ S R => ?_⟩
      have hrx := R a hmem
      rw [hev] at hrx
      obtain ⟨ad, cp, hv⟩ := hrx.len (.inr (.inr ⟨_, _, rfl⟩))
      rw [hv]
      exact ⟨conc _, by simp [Builtin.len_, run_underlying ht, goInt, conc], .conc_int _ _⟩
    · rename_i n e hev
      refine ⟨_, h, EY.value he fun V w cx ρ S R => ⟨conc _, ?_, .conc_int _ _⟩⟩
      simp only [Builtin.len_, Sem.run_bind]
      simp [run_underlying hev, goInt, conc]
    · exact h.elim
  · exact h.elim
end

/-! ### New objects -/
section
variable {V : Nat → Prop} {w w' : World} {cx : Cx} {s s1 : Store}
theorem Av.push {e : CxE} {ob : MObj} (hl : cx.length = s1.length) (hs : ∀ (i : Nat) (o : MObj), s1[i]? = some (some o) → s[i]? = some (some o)) {b : Nat} (h : Av V (cx ++ [e]) (s1 ++ [some ob]) b) : Av V cx s b ∨ b = e.b := by
  rcases h with h | ⟨i, e', o', he, ho, hr, hn, hb⟩
  · exact .inl (.inl h)
  · rw [List.getElem?_append] at he ho
    split at he
    · rename_i hi
      rw [if_pos (by omega)] at ho
      exact .inl (.inr ⟨i, e', o', he, hs i o' ho, hr, hn, hb⟩)
    · have : i - cx.length = 0 := by
        cases hq : i - cx.length with
        | zero => rfl
        | succ k => rw [hq] at he; simp at he
      rw [this] at he
      simp at he
      exact .inr (by rw [← hb, he])
theorem Wr.push {e : CxE} {ob : MObj} (hl : cx.length = s1.length) (hs : ∀ (i : Nat) (o : MObj), s1[i]? = some (some o) → s[i]? = some (some o)) {b : Nat} (h : Wr (cx ++ [e]) (s1 ++ [some ob]) b) : Wr cx s b ∨ b = e.b := by
  obtain ⟨i, e', o', he, ho, hr, hn, hb⟩ := h
  rw [List.getElem?_append] at he ho
  split at he
  · rename_i hi
    rw [if_pos (by omega)] at ho
    exact .inl ⟨i, e', o', he, hs i o' ho, hr, hn, hb⟩
  · have : i - cx.length = 0 := by
      cases hq : i - cx.length with
      | zero => rfl
      | succ k => rw [hq] at he; simp at he
    rw [this] at he
    simp at he
    exact .inr (by rw [← hb, he])
theorem get_push {α : Type} {l : List α} {x y : α} {i : Nat} (h : (l ++ [x])[i]? = some y) : l[i]? = some y ∨ (i = l.length ∧ y = x) := by
  rw [List.getElem?_append] at h
  split at h
  · exact .inl h
  · rename_i hi
    cases hq : i - l.length with
    | zero => rw [hq] at h; simp at h; exact .inr ⟨by omega, h.symm⟩
    | succ k => rw [hq] at h; simp at h
/-- A new object stands behind the others (of which some may be given up). -/
theorem RelSt.add (S : RelSt L V w cx s) (hl1 : s1.length = s.length) (hs : ∀ (i : Nat) (o : MObj), s1[i]? = some (some o) → s[i]? = some (some o)) (e : CxE) (ob : MObj) (cur : Array Value)
    (hos : w'.os = w.os) (htape : w'.tape = w.tape) (hout : w'.output = w.output) (hsz : w.heap.size ≤ w'.heap.size)
    (hkeep : ∀ b, b < w.heap.size → ¬ Wr cx s b → w'.heap[b]? = w.heap[b]?)
    (hother : ∀ (i : Nat) (e' : CxE) (o' : MObj), cx[i]? = some e' → s1[i]? = some (some o') → e'.isnil = false → e'.b ≠ e.b ∧ w'.heap[e'.b]? = w.heap[e'.b]?)
    (hnew : w.heap.size ≤ e.b ∨ Wr cx s e.b) (hnn : e.isnil = false)
    (hheap : w'.heap[e.b]? = some (.cells cur ob.ety (0, 0))) (htot : cur.size = e.tot) (hesz : e.esz = ob.esz) (hlen : e.len = ob.row.len) (hok : ob.row.ok) (hfits : e.len * e.esz ≤ e.tot)
    (hsize : ∀ i, i < e.len → (ob.row.get i).ncells = ob.esz)
    (hcells : ∀ (i c : Nat) (x : AV), i < e.len → (ob.row.get i).cells[c]? = some x → ∃ v, cur[i * e.esz + c]? = some v ∧ v.oneCell' = true ∧ Rel w cx (Av V cx s) x v) :
    RelSt L V w' (cx ++ [e]) (s1 ++ [some ob]) ∧ Ext s.length V w w' cx (cx ++ [e]) s (s1 ++ [some ob]) := by
  have hl : cx.length = s1.length := S.len.trans hl1.symm
  have hnow : ∀ b, b < w.heap.size → ¬ Av V cx s b → ¬ Av V (cx ++ [e]) (s1 ++ [some ob]) b := fun b hb hA hA' => by
    rcases Av.push hl hs hA' with h | h
    · exact hA h
    · rcases hnew with h' | h'
      · omega
      · exact hA (.inr (h ▸ h'))
  have hmove : ∀ {x : AV} {v : Value}, Rel w cx (Av V cx s) x v → Rel w' (cx ++ [e]) (Av V (cx ++ [e]) (s1 ++ [some ob])) x v := fun r =>
    r.move hsz (fun b hb hA => hkeep b hb fun h => hA (.inr h)) hnow fun i e' he => by rw [List.getElem?_append_left (List.getElem?_eq_some_iff.1 he).1]; exact he
  refine ⟨⟨fun b hb => Nat.lt_of_lt_of_le (S.low b hb) hsz, by simp [hl], fun i e' o' he ho hn => ?_, fun i e' o' he ho hn => ?_, fun i e' o' he ho hm => ?_, fun i e' o' he ho hn => ?_, fun i j ei ej oi oj hei hej hoi hoj hni hnj hne hio => ?_, S.glob.move hsz (fun b hb hA => hkeep b hb fun h => hA (.inr h)) hnow⟩,
    hos, htape, hout, hsz, hkeep, hnow, fun b hb hw hw' => ?_, fun i e' hi he => by rw [List.getElem?_append_left (List.getElem?_eq_some_iff.1 he).1]; exact he⟩
  · rcases get_push he with he | ⟨hi, rfl⟩
    · rcases get_push ho with ho | ⟨hi, _⟩
      · obtain ⟨cur', R⟩ := S.obj i e' o' he (hs i o' ho) hn
        refine ⟨cur', by rw [(hother i e' o' he ho hn).2]; exact R.hp, R.tot, R.esz, R.len, R.ok, R.fits, R.size, fun j c x hj hx => ?_⟩
        obtain ⟨v, h1, h2, h3⟩ := R.cells j c x hj hx
        exact ⟨v, h1, h2, hmove h3⟩
      · have := (List.getElem?_eq_some_iff.1 he).1; omega
    · rcases get_push ho with ho | ⟨_, ho⟩
      · have := (List.getElem?_eq_some_iff.1 ho).1; omega
      · cases ho
        refine ⟨cur, ⟨_, hheap, fun _ => rfl⟩, htot, hesz, hlen, hok, hfits, hsize, fun j c x hj hx => ?_⟩
        obtain ⟨v, h1, h2, h3⟩ := hcells j c x hj hx
        exact ⟨v, h1, h2, hmove h3⟩
  · rcases get_push he with he | ⟨hi, rfl⟩
    · rcases get_push ho with ho | ⟨hi, _⟩
      · exact S.vir i e' o' he (hs i o' ho) hn
      · have := (List.getElem?_eq_some_iff.1 he).1; omega
    · rw [hnn] at hn; cases hn
  · rcases get_push he with he | ⟨hi, rfl⟩
    · rcases get_push ho with ho | ⟨hi, _⟩
      · exact S.may i e' o' he (hs i o' ho) hm
      · have := (List.getElem?_eq_some_iff.1 he).1; omega
    · exact hnn
  · rcases get_push he with he | ⟨hi, rfl⟩
    · rcases get_push ho with ho | ⟨hi, _⟩
      · exact S.apart i e' o' he (hs i o' ho) hn
      · have := (List.getElem?_eq_some_iff.1 he).1; omega
    · rcases hnew with h | ⟨i', e1, o1, he1, ho1, _, hn1, hb1⟩
      · exact fun hv => by have := S.low _ hv; omega
      · rw [← hb1]; exact S.apart i' e1 o1 he1 ho1 hn1
  · rcases get_push hei with hei1 | ⟨hi1, hi2⟩ <;> rcases get_push hej with hej1 | ⟨hj1, hj2⟩
    · rcases get_push hoi with hoi1 | ⟨hi, _⟩
      · rcases get_push hoj with hoj1 | ⟨hj, _⟩
        · exact S.inj i j ei ej oi oj hei1 hej1 (hs i oi hoi1) (hs j oj hoj1) hni hnj hne hio
        · have := (List.getElem?_eq_some_iff.1 hej1).1; omega
      · have := (List.getElem?_eq_some_iff.1 hei1).1; omega
    · rcases get_push hoi with hoi1 | ⟨hi, _⟩
      · rw [hj2]; exact (hother i ei oi hei1 hoi1 hni).1
      · have := (List.getElem?_eq_some_iff.1 hei1).1; omega
    · rcases get_push hoj with hoj1 | ⟨hj, _⟩
      · rw [hi2]; exact fun h => (hother j ej oj hej1 hoj1 hnj).1 h.symm
      · have := (List.getElem?_eq_some_iff.1 hej1).1; omega
    · omega
  · rcases Wr.push hl hs hw' with h | h
    · exact hw h
    · rcases hnew with h' | h'
      · omega
      · exact hw (h ▸ h')
/-- A new block. -/
theorem RelSt.alloc (S : RelSt L V w cx s) (ob : MObj) (cur : Array Value) (hok : ob.row.ok) (hfits : ob.row.len * ob.esz ≤ cur.size)
    (hsize : ∀ i, i < ob.row.len → (ob.row.get i).ncells = ob.esz)
    (hcells : ∀ (i c : Nat) (x : AV), i < ob.row.len → (ob.row.get i).cells[c]? = some x → ∃ v, cur[i * ob.esz + c]? = some v ∧ v.oneCell' = true ∧ Rel w cx (Av V cx s) x v) :
    RelSt L V (w.alloc (.cells cur ob.ety)) (cx ++ [⟨w.heap.size, ob.esz, ob.row.len, cur.size, false⟩]) (s ++ [some ob]) ∧
    Ext s.length V w (w.alloc (.cells cur ob.ety)) cx (cx ++ [⟨w.heap.size, ob.esz, ob.row.len, cur.size, false⟩]) s (s ++ [some ob]) :=
  S.add rfl (fun _ _ h => h) _ ob cur rfl rfl rfl (by simp) (fun b hb _ => heap_alloc_old w _ b hb)
    (fun i e' o' he ho hn => by
      obtain ⟨cur', R⟩ := S.obj i e' o' he ho hn
      have hlt := R.lt
      exact ⟨fun h => by simp at h; omega, heap_alloc_old w _ _ hlt⟩)
    (.inl (Nat.le_refl _)) rfl (heap_alloc_new w _) rfl rfl rfl hok hfits hsize hcells
theorem mp_new {A : Nat → Prop} {e : CxE} (hl : cx.length = s.length) (hn : e.isnil = false) (h0 : 0 < e.len) : Rel w' (cx ++ [e]) A (.mp s.length 0 0) (.pointer (some ⟨e.b, 0, none⟩)) := by
  have := Rel.mp (w := w') (A := A) (cx := cx ++ [e]) s.length 0 0 e (by rw [← hl]; simp) hn h0
  simpa using this
end
end Go.SE
