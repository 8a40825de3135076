/- The shadow evaluator, part 26: a function that keeps numbers in a map of its own (each with one). No condition. -/
import Derived.Test.YtkeokkmhhhhoiaaGreatDoorSe25
import Derived.Maps.OwnIn
import Derived.Maps.OwnSet
namespace Go.SE
open Go Go.Maps
set_option linter.unusedVariables false
set_option linter.unusedSimpArgs false
/-- A rune is a key. -/
theorem wfR (a : Int) (h : -2147483648 ≤ a ∧ a ≤ 2147483647) : (Lit.int .i32 a).wf = true := by
  have : IntKind.i32.min = -2147483648 := by decide
  have : IntKind.i32.max = 2147483647 := by decide
  simp [Lit.wf, *]
/-- Has number a come? -/
def memT (tr : List AV) (a : Int) : Bool := tr.any fun x => match x with | .int _ n => n == a | _ => false
theorem memT_map (q : IntKind) (l : List Int) (a : Int) : memT (l.map (.int q)) a = l.any fun n => n == a := by
  unfold memT; rw [List.any_map]; rfl
/-- The map's datum tells just the numbers that have come. -/
def ToldI (q : IntKind) (D : DataW Unit) (tr : List AV) : Prop := IsMap D ∧ ∀ a, (Lit.int q a).wf = true → D.atKey (.int q a) (.lit (.int .i64 0)) = .lit (.int .i64 (bif memT tr a then 1 else 0))
theorem ToldI.nil {q : IntKind} : ToldI q (.map []) [] := ⟨⟨[], rfl⟩, fun a _ => by simp [WideAt.atKey_none, memT]⟩
theorem ToldI.put {q : IntKind} {D : DataW Unit} {tr : List AV} (h : ToldI q D tr) (a : Int) (hk : WideAt.IsKeyLit (.int q a)) : ToldI q (D.put (.int q a) (.lit (.int .i64 1))) (tr ++ [.int q a]) := by
  refine ⟨IsMap.put h.1 _ _, fun b hb => ?_⟩
  by_cases e : b = a
  · subst e
    rw [atKey_put_same h.1 hk]
    simp [memT]
  · have hne : Lit.int q b ≠ Lit.int q a := fun e' => by injection e' with _ e'; exact e e'
    rw [atKey_put_other hne, h.2 b hb]
    have : (a == b) = false := by simpa using fun e' : a = b => e e'.symm
    simp [memT, this]
/-- A map of numbers beside what held. -/
def mgh (P : PL) (G : Gho P) (tr0 : List AV) (g0 : Bool) (k e : TypeId) (q : IntKind) (b : Nat) : Gho P where
  S tr g V N w := tr.length ≤ maxLen ∧ ∃ V0 D, V = (fun x => V0 x ∨ x = b) ∧ G.S tr0 g0 V0 (fun x => N x ∨ x = b) w ∧ (∀ x, N x → x ≠ b) ∧ w.ownsMap P.toProgram k (plainElem P.toProgram e) b tr.length D ∧ ToldI q D tr
  B := maxLen
  good _ := True
  short tr g V N w h := h.1
  gd _ _ _ _ _ := trivial
  stay tr g V N N' w w' h os tape out size keep grow low := by
    obtain ⟨hl, V0, D, hV, hG, hN, hown, ht⟩ := h
    have hlt := hown.lt
    obtain ⟨es, clock, hb, rest⟩ := hown
    have hNb : ¬ N b := fun h => hN b h rfl
    refine ⟨hl, V0, D, hV, G.stay _ _ _ _ _ _ _ hG os tape out size (fun x hx hn => keep x hx fun h => hn (.inl h)) (fun x hx => ?_) (fun x hx => ?_), fun x hx => ?_, ⟨es, clock, (keep b hlt hNb).trans hb, rest⟩, ht⟩
    · rcases hx with h | h
      · exact (grow x h).imp .inl id
      · exact .inl (.inr h)
    · rcases hx with h | h
      · exact low x h
      · subst h; omega
    · rcases grow x hx with h | h
      · exact hN x h
      · omega
/-- An operation on the map. -/
def mapQ (q : IntKind) (b : Nat) (mt : TypeId) (o : Oper) (ev : Operand → AV) (tr : List AV) (K : AV → List AV → Prop) : Prop :=
  match o.op with
  | .lookup t m x false => (match ev m, ev x with | .mapr b', .int q' a => b' = b ∧ q' = q ∧ t = mt ∧ (Lit.int q a).wf = true ∧ K (.int .i64 (bif memT tr a then 1 else 0)) tr | _, _ => False)
  | .mapUpdate t m x v => (match ev m, ev x, ev v with | .mapr b', .int q' a, .int .i64 1 => b' = b ∧ q' = q ∧ t = mt ∧ (Lit.int q a).wf = true ∧ tr.length < maxLen ∧ K (.tup []) (tr ++ [.int q a]) | _, _, _ => False)
  | _ => False
def isMapOp (o : Oper) : Bool := match o.op with | .lookup _ _ _ _ => true | .mapUpdate _ _ _ _ => true | _ => false
/-- Operations in their order, those on the map among them. -/
def gops (P : PL) (q : IntKind) (b : Nat) (mt : TypeId) : List Oper → Fr → List AV → (Fr → List AV → Prop) → Prop
  | [], fr, tr, K => K fr tr
  | o :: l, fr, tr, K =>
    need o.guard.isNone
    (match isMapOp o with
    | true => mapQ q b mt o (evalT fr.t) tr fun v tr' => after fr.t o.dst v fr.s fun t s => gops P q b mt l ⟨t, s⟩ tr' K
    | false => aop P fr.s (evalT fr.t) o fun v s' => after fr.t o.dst v s' fun t s => gops P q b mt l ⟨t, s⟩ tr K)
section
variable {P : PL} {G : Gho P} {tr0 : List AV} {g0 : Bool} {k e mt : TypeId} {q : IntKind} {b : Nat}
theorem gops_sound (hk : Keyed P.toProgram k) (hkt : P.underlying k = some (.int q)) (hmt : P.underlying mt = some (.map k e)) (he : P.underlying e = some (.int .i64)) (hz : ∀ w, (zeroValue e).run P.toProgram w = .ok (.int .i64 0) w) {ops : Array Oper} {Q : Exit → Act → World → Prop} {g : Bool} :
    ∀ (l : List Oper) (j : Nat) (fr : Fr) (tr : List AV) (K : Fr → List AV → Prop), (∀ i, l[i]? = ops[j + i]?) → gops P q b mt l fr tr K → ∀ V w cx a, RelFr P.laid V w cx fr a → (mgh P G tr0 g0 k e q b).S tr g V (Wr cx fr.s) w →
      (∀ fr' tr' V' w' cx' a', K fr' tr' → RelFr P.laid V' w' cx' fr' a' → (mgh P G tr0 g0 k e q b).S tr' g V' (Wr cx' fr'.s) w' → Q .normal a' w') → wpOps P.toProgram ops Q ((List.range l.length).map (j + ·)) a w
  | [], j, fr, tr, K, hl, h, V, w, cx, a, R, hS, hK => hK fr tr V w cx a h R hS
  | o :: l, j, fr, tr, K, hl, h, V, w, cx, a, R, hS, hK => by
    have ho : ops[j]? = some o := by have := hl 0; simpa using this.symm
    have hl' : ∀ i, l[i]? = ops[j + 1 + i]? := fun i => by have := hl (i + 1); simpa [Nat.add_assoc, Nat.add_comm 1] using this
    have hlist : (List.range (o :: l).length).map (j + ·) = j :: (List.range l.length).map (j + 1 + ·) := by
      rw [List.length_cons, List.range_succ_eq_map, List.map_cons, List.map_map, Nat.add_zero]
      congr 1
      apply List.map_congr_left
      intro j _
      simp; omega
    rw [hlist]
    unfold gops at h
    obtain ⟨hg, h⟩ := need_out h
    have hg : o.guard = none := by simpa using hg
    have hw : Region.wanted o (yielded ops a.tmps) = true := by simp [Region.wanted, hg]
    simp only [wpOps, ho, hw, if_true]
    cases hm : isMapOp o with
    | false =>
      rw [hm] at h
      simp only [after_eq] at h
      obtain ⟨v, s', hK', hE⟩ := aop_sound h
      refine .inl (oper_wp (hE V w cx a.eval R.st fun x _ => R.eval x) fun u w' ⟨cx', E, S', hv⟩ => ?_)
      exact gops_sound hk hkt hmt he hz l (j + 1) _ tr K hl' hK' V w' cx' _ (R.put E S' hv) (host_ext hS E S') hK
    | true =>
      rw [hm] at h
      simp only [after_eq] at h
      obtain ⟨hlen, V0, D, hV, hG, hN, hown, ht⟩ := hS
      unfold mapQ at h
      split at h
      · rename_i t m x hop
        split at h
        · rename_i b' q' n hem hex
          obtain ⟨e1, e2, e3, hwf, hK'⟩ := h
          replace e1 := e1.symm; replace e2 := e2.symm; replace e3 := e3.symm
          subst e1; subst e2; subst e3
          have rm := R.eval m; rw [hem] at rm
          have rx := R.eval x; rw [hex] at rx
          have vm : a.eval m = .map (some b) := by generalize a.eval m = y at rm; cases rm; rfl
          have vx : a.eval x = .int q n := by generalize a.eval x = y at rx; cases rx; rfl
          obtain ⟨c, hrun, hat, _⟩ := hown.lookup_int hk hmt he (hz w) (keyOf_int_mk hkt hwf)
          rw [ht.2 n hwf] at hat
          have hc : c = (bif memT tr n then 1 else 0) := by injection hat with h; injection h with _ h; exact h.symm
          subst hc
          refine .inl (oper_wp (R := fun u w' => u = .int .i64 (bif memT tr n then 1 else 0) ∧ w' = w) ?_ fun u w' ⟨hu, hw'⟩ => ?_)
          · unfold Gives
            simp [execOp, hop, vm, vx, hrun, Result.andThen]
          · subst hu; subst hw'
            exact gops_sound hk hkt hmt he hz l (j + 1) _ tr K hl' hK' V w' cx _ (R.put (dst := o.dst) Ext.refl R.st (Rel.int .i64 (bif memT tr n then 1 else 0))) ⟨hlen, V0, D, hV, hG, hN, hown, ht⟩ hK
        · exact h.elim
      · rename_i t m x v hop
        split at h
        · rename_i b' q' n hem hex hev
          obtain ⟨e1, e2, e3, hwf, hlt, hK'⟩ := h
          replace e1 := e1.symm; replace e2 := e2.symm; replace e3 := e3.symm
          subst e1; subst e2; subst e3
          have rm := R.eval m; rw [hem] at rm
          have rx := R.eval x; rw [hex] at rx
          have rv := R.eval v; rw [hev] at rv
          have vm : a.eval m = .map (some b) := by generalize a.eval m = y at rm; cases rm; rfl
          have vx : a.eval x = .int q n := by generalize a.eval x = y at rx; cases rx; rfl
          have vv : a.eval v = .int .i64 1 := by generalize a.eval v = y at rv; cases rv; rfl
          obtain ⟨w1, hrun, hown1, hgr⟩ := hown.update hk hmt hlt (keyOf_int_mk hkt hwf) (plainElem_int (H := Unit) he (a := 1) (by decide))
          have hbl := hown.lt
          refine .inl (oper_wp (R := fun u w' => u = undef ∧ w' = w1) ?_ fun u w' ⟨hu, hw'⟩ => ?_)
          · unfold Gives
            simp [execOp, hop, vm, vx, vv, hrun, Result.andThen]
          · subst hu; subst hw'
            have hnc : ¬ Cel w b := fun ⟨c, t, f, hc⟩ => by
              obtain ⟨es, clock, hb, _⟩ := hown
              rw [hb] at hc; cases hc
            have hkeep : ∀ x, x < w.heap.size → x ≠ b → w'.heap[x]? = w.heap[x]? := fun x hx hne => hgr.block x hx (by simpa using hne)
            have hcel : ∀ x, Cel w x → w'.heap[x]? = w.heap[x]? := fun x hx => hkeep x hx.lt fun e => hnc (e ▸ hx)
            have S' : RelSt P.laid V w' cx fr.s := R.st.cel_move hgr.size (fun x hx _ => hcel x hx) (fun _ _ h => h) fun x hx => Nat.lt_of_lt_of_le (R.st.low x hx) hgr.size
            have R' : RelFr P.laid V w' cx fr a := ⟨S', R.size, R.defers.keep (fun x hx hd hv => hkeep x hx fun e => hv (by rw [hV, e]; exact .inr rfl)) fun _ _ h => h, fun i y hy => (R.tmps i y hy).cel_move hgr.size (fun x hx _ => hcel x hx) fun _ _ h => h⟩
            refine gops_sound hk hkt hmt he hz l (j + 1) _ (tr ++ [.int q n]) K hl' hK' V w' cx _ (R'.put (dst := o.dst) Ext.refl S' Rel.undef) ⟨by rw [List.length_append]; exact hlt, V0, _, hV, ?_, hN, by rw [List.length_append]; exact hown1, ht.put n (hk.key (keyOf_int_mk hkt hwf))⟩ hK
            refine G.stay _ _ _ _ _ _ _ hG hgr.os hgr.tape hgr.output hgr.size (fun x hx hn => hkeep x hx fun e => hn (.inr e)) (fun x hx => .inl hx) fun x hx => ?_
            rcases hx with h | h
            · exact Nat.lt_of_lt_of_le (Wr.lt R.st h) hgr.size
            · subst h; exact Nat.lt_of_lt_of_le hbl hgr.size
        · exact h.elim
      · exact h.elim
variable {fr : Fr} {tr : List AV} {g : Bool} {K : Ex → Fr → List AV → Bool → Prop}
@[irreducible] def mregQ (P : PL) (q : IntKind) (b : Nat) (k e mt : TypeId) (ops : Array Oper) (fr : Fr) (tr : List AV) (g : Bool) (K : Ex → Fr → List AV → Bool → Prop) : Prop :=
  (P.underlying k = some (.int q) ∧ P.underlying mt = some (.map k e) ∧ P.underlying e = some (.int .i64) ∧ (∀ w, (zeroValue e).run P.toProgram w = .ok (.int .i64 0) w) ∧ plainOps ops.toList = true) ∧ gops P q b mt ops.toList fr tr fun fr' tr' => K .normal fr' tr' g
theorem mregQ_of {ops : Array Oper} (h1 : P.underlying k = some (.int q) ∧ P.underlying mt = some (.map k e) ∧ P.underlying e = some (.int .i64) ∧ (∀ w, (zeroValue e).run P.toProgram w = .ok (.int .i64 0) w) ∧ plainOps ops.toList = true) (h : gops P q b mt ops.toList fr tr fun fr' tr' => K .normal fr' tr' g) : mregQ P q b k e mt ops fr tr g K := by
  rw [mregQ]; exact ⟨h1, h⟩
theorem Ymap {id : Nat} {ops : Array Oper} {t : MT} (h : mregQ P q b k e mt ops fr tr g K) : WY P (mgh P G tr0 g0 k e q b) (.region id ops false) t fr tr g K := by
  rw [mregQ] at h
  obtain ⟨⟨h1, h2, h3, h4, h5⟩, h⟩ := h
  refine ⟨fun V w cx a R hS => (cwp_region (fun j o c ho hc => ?_) ?_ ?_).wp⟩
  · unfold plainOps at h5
    have := List.all_eq_true.1 h5 o (by simpa using Array.mem_of_getElem? ho)
    rw [hc] at this; cases this
  · rintro ⟨a, w, ex, fr', cx', tr', g', V', he, _⟩
    cases ex <;> cases he
  · have := gops_sound (G := G) (tr0 := tr0) (g0 := g0) (int_keyed h1) h1 h2 h3 h4 (ops := ops) (Q := LeftY P (mgh P G tr0 g0 k e q b) K) (g := g) ops.toList 0 fr tr _ (fun i => by simp) h V w cx a R hS fun fr' tr' V' w' cx' a' hK R' hS' => ⟨.normal, fr', cx', tr', g, V', rfl, hK, R', hS'⟩
    simpa using this
theorem opsIn_valueW {ops : Array Oper} {Q : Exit → Act → World → Prop} {o : Oper} {i : Nat} {rest : List Nat} {a : Act} {w w' : World} {v : Value} (ho : ops[i]? = some o) (hg : o.guard = none) (hrun : (execOp a.eval o).run P.toProgram w = .ok (.value v) w')
    (h : wpOpsIn Fence.wide 0 P.toProgram ops Q rest (a.put o.dst v) w') : wpOpsIn Fence.wide 0 P.toProgram ops Q (i :: rest) a w := by
  simp only [wpOpsIn, ho]
  rw [if_pos (by simp [Region.wanted, hg])]
  refine ⟨fun _ _ => trivial, ?_⟩
  rw [show Fence.wide.round = none from rfl, Oper.semAt_none, hrun]
  exact h
def mkShape (ops : Array Oper) : Option (TypeId × Tmp × Tmp) :=
  match ops.toList with
  | [o0, o1] =>
    match o0.op, o0.dst, o1.op, o1.dst with
    | .makeMap t none, some d0, .assign (.tmp d0'), some d1 => bif o0.guard.isNone && (o1.guard.isNone && Nat.beq d0 d0') then some (t, d0, d1) else none
    | _, _, _, _ => none
  | _ => none
/-- The map is made. -/
theorem Ymk {id : Nat} {ops : Array Oper} {c : Code} {r : MT} {mt : TypeId} {d0 d1 : Tmp} (k e : TypeId) (q : IntKind) (hs : mkShape ops = some (mt, d0, d1)) (hlt : Nat.blt d0 fr.t.length = true)
    (h : ∀ b, WY P (mgh P G tr g k e q b) c r ⟨(fr.t.set d0 (.mapr b)).set d1 (.mapr b), fr.s⟩ [] true fun ex fr' _ _ => K ex fr' tr g) : WY P G (.seq (.region id ops false) c) (.m r) fr tr g K := by
  have hlt : d0 < fr.t.length := by simpa using hlt
  unfold mkShape at hs
  split at hs
  · rename_i o0 o1 hops
    split at hs
    · rename_i t' d0a d0b d1a e0 e1 e2 e3
      cases hb : (o0.guard.isNone && (o1.guard.isNone && Nat.beq d0a d0b)) with
      | false => rw [hb] at hs; cases hs
      | true =>
        rw [hb] at hs
        simp only [cond_true, Option.some.injEq, Prod.mk.injEq] at hs
        obtain ⟨rfl, rfl, rfl⟩ := hs
        simp only [Bool.and_eq_true, Option.isNone_iff_eq_none] at hb
        obtain ⟨g0', g1', q0⟩ := hb
        have q0 := Nat.eq_of_beq_eq_true q0
        subst q0
        obtain rfl : ops = #[o0, o1] := Array.ext' (by simpa using hops)
        refine ⟨fun V w cx a R hS => wp_seq ((wpIn_wide (n := 0)).1 (wpIn_region ?_))⟩
        show wpOpsIn Fence.wide 0 P.toProgram #[o0, o1] _ [0, 1] a w
        have E1 : ∀ m, Ext m V w (w.alloc (.map #[] 0)) cx cx fr.s fr.s := fun m => Ext.grown rfl rfl rfl (by simp) fun x hx => RowKit.Below.heap_alloc w _ x hx
        have S1 : RelSt P.laid V (w.alloc (.map #[] 0)) cx fr.s := R.st.grown (by simp) fun x hx => RowKit.Below.heap_alloc w _ x hx
        have R1 := R.put (dst := some d0a) (E1 _) S1 (Rel.mapr w.heap.size)
        have R2 := R1.put (dst := some d1a) Ext.refl R1.st (Rel.mapr w.heap.size)
        have hr0 : (execOp a.eval o0).run P.toProgram w = .ok (.value (.map (some w.heap.size))) (w.alloc (.map #[] 0)) := by simp [execOp, e0, Instr.makeMap]
        refine opsIn_valueW (o := o0) rfl g0' hr0 ?_
        refine opsIn_value (o := o1) rfl g1' (v := .map (some w.heap.size)) ?_ ?_
        · have : (a.put o0.dst (.map (some w.heap.size))).eval (.tmp d0a) = .map (some w.heap.size) := by
            rw [e1]
            simp only [Act.eval, Act.put]
            rw [Array.getD_eq_getD_getElem?, Array.getElem?_setIfInBounds, if_pos rfl, if_pos (by rw [R.size]; exact hlt)]
            rfl
          simp [execOp, e2, this]
        rw [e1, e3]
        have hnc : ¬ Cel (w.alloc (.map #[] 0)) w.heap.size := not_cel (World.alloc_heap_new w _) fun _ _ _ h => by cases h
        have R3 : RelFr P.laid (fun x => V x ∨ x = w.heap.size) (w.alloc (.map #[] 0)) cx ⟨(fr.t.set d0a (.mapr w.heap.size)).set d1a (.mapr w.heap.size), fr.s⟩ ((a.put (some d0a) (.map (some w.heap.size))).put (some d1a) (.map (some w.heap.size))) := by
          refine ⟨R2.st.cel_move (Nat.le_refl _) (fun _ _ _ => rfl) (fun x hx hv h => h.elim hv fun h => hnc (h ▸ hx)) (fun x h => h.elim (R2.st.low x) fun h => by subst h; simp), R2.size, R.defers.keep (fun x hx _ _ => RowKit.Below.heap_alloc w _ x hx) fun x hx hv h => ?_, fun i y hy => (R2.tmps i y hy).cel_move (Nat.le_refl _) (fun _ _ _ => rfl) fun x hx hA h => ?_⟩
          · exact h.elim hv fun h => by omega
          · exact h.elim (fun h => h.elim (fun h => hA (.inl h)) fun h => hnc (h ▸ hx)) fun h => hA (.inr h)
        have hN : ∀ x, Wr cx fr.s x → x < w.heap.size := fun x hx => Wr.lt R.st hx
        refine wp_mono ((h w.heap.size).out _ _ cx _ R3 ⟨Nat.zero_le _, V, .map [], rfl, ?_, fun x hx e => by have := hN x hx; omega, World.ownsMap_made w P.toProgram k _, ToldI.nil⟩) ?_
        · exact G.stay _ _ _ _ _ _ _ hS rfl rfl rfl (by simp) (fun x hx _ => RowKit.Below.heap_alloc w _ x hx) (fun x hx => hx.imp (fun h => h) fun h => by omega) fun x hx => hx.elim (fun h => by have := hN x h; simp; omega) fun h => by subst h; simp
        · rintro e a' w' ⟨ex, fr', cx', tr', g', V', rfl, hK, R', _, V0, D, rfl, hG, hNb, _, _⟩
          refine ⟨ex, fr', cx', tr, g, V0, rfl, hK, ⟨R'.st.cel_move (Nat.le_refl _) (fun _ _ _ => rfl) (fun x _ hv h => hv (.inl h)) (fun x h => R'.st.low x (.inl h)), R'.size, R'.defers.keep (fun _ _ _ _ => rfl) (fun x _ hv h => hv (.inl h)), fun i y hy => (R'.tmps i y hy).cel_move (Nat.le_refl _) (fun _ _ _ => rfl) fun x _ hA h => hA (h.imp .inl (fun h => h))⟩, ?_⟩
          exact G.stay _ _ _ _ _ _ _ hG rfl rfl rfl (Nat.le_refl _) (fun _ _ _ => rfl) (fun x hx => .inl (.inl hx)) fun x hx => Wr.lt R'.st hx
    · cases hs
  · cases hs
/-- One step of a walk over the map. -/
def stepM (P : PL) (G : Gho P) (tr0 : List AV) (g0 : Bool) (k e mt : TypeId) (q : IntKind) (b : Nat) (c : Code) (t : MT) (fr : Fr) (tr : List AV) (g : Bool) (K : Ex → Fr → List AV → Bool → Prop) : Prop :=
  stepG P (mgh P G tr0 g0 k e q b) (fun ops => mregQ P q b k e mt ops fr tr g K) c t fr tr g K
theorem MM {c : Code} {t : MT} (mt : TypeId) (hm : t.noM = true) (h : stepM P G tr0 g0 k e mt q b c t fr tr g K) : WY P (mgh P G tr0 g0 k e q b) c t fr tr g K := stepG_out (fun _ _ _ h => Ymap h) h
/-- One step of a walk with whatever else holds. -/
theorem GG {c : Code} {t : MT} (hm : t.noM = true) (h : stepG P G (fun _ => False) c t fr tr g K) : WY P G c t fr tr g K := stepG_out (fun _ _ _ h => h.elim) h
/-- A loop beside whose frame the world's state is told. -/
theorem gloop_iter {S X : Type} {H : Gho P} {lbody : Fr → List AV → Bool → (Ex → Fr → List AV → Bool → Prop) → Prop} (F : S → Fr) (T : S → List AV) {body : S → Option (Stp S X)} {s0 : S} {x : X} (h : iter body s0 = some x) (hw : Weak 0 fr (F s0)) (hT : tr = T s0)
    (step : ∀ (n : Nat) (s : S) (st : Stp S X) (Kn : Fr → List AV → Bool → Prop), (∀ fr2 s' tr2, iterN body n s' = some x → Weak 0 fr2 (F s') → tr2 = T s' → Kn fr2 tr2 g) → body s = some st → stpOk body n x st → lbody (F s) (T s) g (seqKY (fun fr2 tr2 g2 _ => Kn fr2 tr2 g2) K)) : yloopQ P H lbody fr tr g K := by
  rw [yloopQ]
  obtain ⟨n0, hn0⟩ := iter_out h
  subst hT
  refine ⟨fun fr1 tr1 g1 => g1 = g ∧ ∃ n s, fr1 = F s ∧ tr1 = T s ∧ iterN body n s = some x, fun fr1 tr1 => leastOf fun n => ∃ s, fr1 = F s ∧ tr1 = T s ∧ iterN body n s = some x, F s0, hw, ⟨rfl, n0, s0, rfl, rfl, hn0⟩, ?_⟩
  rintro fr1 tr1 _ ⟨rfl, hex⟩ _
  have hsp := (leastOf_spec hex).1
  generalize hμ : leastOf (fun n => ∃ s, fr1 = F s ∧ tr1 = T s ∧ iterN body n s = some x) = n at hsp
  obtain ⟨s, rfl, rfl, hs⟩ := hsp
  cases n with
  | zero => cases hs
  | succ n =>
    rw [iterN] at hs
    cases hb : body s with
    | none => rw [hb] at hs; cases hs
    | some st =>
      rw [hb] at hs
      refine step n s st _ (fun fr2 s' tr2 hs' hw2 ht2 _ => ?_) hb ?_
      · subst ht2
        have hx : ∃ n s, F s' = F s ∧ T s' = T s ∧ iterN body n s = some x := ⟨n, s', rfl, rfl, hs'⟩
        exact ⟨F s', hw2, ⟨rfl, hx⟩, Nat.lt_of_le_of_lt ((leastOf_spec hx).2 n ⟨s', rfl, rfl, hs'⟩) (by show n < leastOf (fun n => ∃ s1, F s = F s1 ∧ T s = T s1 ∧ iterN body n s1 = some x); rw [hμ]; exact Nat.lt_succ_self n)⟩
      · cases st with
        | next s' => exact hs
        | done y => exact Option.some.inj hs
/-- A contract out of a walk with whatever else holds. -/
theorem contract_of_gho {f : FuncId} {fn : Func} {c : Code} (mt : MT) {args : List AV} {r : AV} (hf : P.funcs[f]? = some fn) (hb : fn.body = some c) (hname : (fn.name == "runtime.NumGoroutine") = false)
    (h : ∀ G : Gho P, WY P G c mt (frame0 fn args []) [] true fun ex fr _ _ => retQ P fn 0 (fun r' s' => r'.Le r ∧ s' = []) ex fr) : Contract P f args [] r [] := by
  refine contract_of_wp (fun r' s' => r'.Le r ∧ s' = []) (fun r' s' ⟨h1, h2⟩ => ⟨h2, h1⟩) hf hb hname fun V w cx a R _ => ?_
  let G : Gho P := {
    S := fun tr g V' N w' => tr = [] ∧ V' = V ∧ w'.os = w.os ∧ w'.tape = w.tape ∧ w'.output = w.output ∧ w.heap.size ≤ w'.heap.size ∧ (∀ b, b < w.heap.size → w'.heap[b]? = w.heap[b]?) ∧ ∀ b, N b → w.heap.size ≤ b
    B := 0
    good := fun _ => True
    short := fun tr g V N w h => by rw [h.1]; exact Nat.le_refl _
    gd := fun _ _ _ _ _ => trivial
    stay := fun tr g V1 N N' w1 w2 h os tape out size keep grow low => by
      obtain ⟨h1, h2, h3, h4, h5, h6, h7, h8⟩ := h
      exact ⟨h1, h2, os.trans h3, tape.trans h4, out.trans h5, Nat.le_trans h6 size, fun b hb => (keep b (Nat.lt_of_lt_of_le hb h6) fun hn => absurd (h8 b hn) (by omega)).trans (h7 b hb), fun b hb => (grow b hb).elim (h8 b) fun h => by omega⟩ }
  refine wp_mono ((h G).out V w cx a R ⟨rfl, rfl, rfl, rfl, rfl, Nat.le_refl _, fun _ _ => rfl, fun b hb => ?_⟩) ?_
  · obtain ⟨i, e, o, _, ho, _⟩ := hb
    simp [frame0] at ho
  · rintro e a' w' ⟨ex, fr', cx', tr', g', V', rfl, hK, R', h1, rfl, h3, h4, h5, h6, h7, h8⟩
    exact ⟨ex, fr', cx', rfl, hK, Nat.zero_le _, ⟨h3, h4, h5, h6, fun b hb _ => h7 b hb, fun b hb hA hA' => hA'.elim (fun h => hA (.inl h)) fun h => by have := h8 b h; omega, fun b hb _ h => by have := h8 b h; omega, fun i e hi => absurd hi (Nat.not_lt_zero _)⟩, R'⟩
end
end Go.SE
