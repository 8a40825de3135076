/- The shadow evaluator, part 25: functions that are ranged over: their code walked with yields; models of such functions, and of loops over them. No condition. -/
import Derived.Test.YtkeokkmhhhhoiaaGreatDoorSe24
namespace Go.SE
open Go
set_option linter.unusedVariables false
set_option linter.unusedSimpArgs false
section
variable {P : PL} {lp : Nat}
def LeftY (P : PL) (H : Gho P) (K : Ex → Fr → List AV → Bool → Prop) (e : Exit) (a' : Act) (w' : World) : Prop :=
  ∃ ex fr' cx' tr' g' V', e = ex.to ∧ K ex fr' tr' g' ∧ RelFr P.laid V' w' cx' fr' a' ∧ H.S tr' g' V' (Wr cx' fr'.s) w'
/-- The weakest precondition with yields. -/
structure WY (P : PL) (H : Gho P) (c : Code) (mt : MT) (fr : Fr) (tr : List AV) (g : Bool) (K : Ex → Fr → List AV → Bool → Prop) : Prop where
  out : ∀ V w cx a, RelFr P.laid V w cx fr a → H.S tr g V (Wr cx fr.s) w → c.wp P (LeftY P H K) a w
variable {H : Gho P} {fr : Fr} {tr : List AV} {g : Bool} {K : Ex → Fr → List AV → Bool → Prop}
theorem host_ext {V : Nat → Prop} {w w' : World} {cx cx' : Cx} {s s' : Store} {m : Nat} (hS : H.S tr g V (Wr cx s) w) (E : Ext m V w w' cx cx' s s') (S' : RelSt P.laid V w' cx' s') : H.S tr g V (Wr cx' s') w' :=
  H.stay _ _ _ _ _ _ _ hS E.os E.tape E.output E.size E.keep (fun b hb => by
    by_cases h : b < w.heap.size
    · exact .inl (Classical.byContradiction fun hn => E.grow b h hn hb)
    · exact .inr (by omega)) fun b hb => Wr.lt S' hb
/-- A piece without yields. -/
theorem Ylift {c : Code} {mt mt' : MT} (h : W P 0 c mt fr fun ex fr' => K ex fr' tr g) : WY P H c mt' fr tr g K :=
  ⟨fun V w cx a R hS => wp_mono (h.out V w cx a R (Nat.zero_le _)).wp fun e a' w' hl => by
    obtain ⟨ex, fr', cx', he, hK, _, E, R'⟩ := hl
    exact ⟨ex, fr', cx', tr, g, V, he, hK, R', host_ext hS E R'.st⟩⟩
def seqKY (b : Fr → List AV → Bool → (Ex → Fr → List AV → Bool → Prop) → Prop) (K : Ex → Fr → List AV → Bool → Prop) : Ex → Fr → List AV → Bool → Prop
  | .normal, fr, tr, g => b fr tr g K
  | .exit id, fr, tr, g => K (.exit id) fr tr g
  | .ret, fr, tr, g => K .ret fr tr g
theorem Yseq {a b : Code} {l r mt : MT} (h : WY P H a l fr tr g (seqKY (fun fr tr g K => WY P H b r fr tr g K) K)) : WY P H (.seq a b) mt fr tr g K :=
  ⟨fun V w cx ac R hS => wp_seq (wp_mono (h.out V w cx ac R hS) fun e a1 w1 hl => by
    obtain ⟨ex, fr1, cx1, tr1, g1, V1, rfl, h2, h3, h4⟩ := hl
    cases ex with
    | normal => exact h2.out V1 w1 cx1 a1 h3 h4
    | exit id => exact ⟨.exit id, fr1, cx1, tr1, g1, V1, rfl, h2, h3, h4⟩
    | ret => exact ⟨.ret, fr1, cx1, tr1, g1, V1, rfl, h2, h3, h4⟩)⟩
/-- A piece without yields, its outcome made plain, and the next. -/
theorem Ycut {a b : Code} {l r mt : MT} (h : cutQ 0 (fun K' => W P 0 a l fr K') (fun F _ => WY P H b r F tr g K) (fun ex fr' => K ex fr' tr g)) : WY P H (.seq a b) mt fr tr g K := by
  rw [cutQ] at h
  obtain ⟨G, hA, hB⟩ := h
  refine ⟨fun V w cx ac R hS => wp_seq (wp_mono (hA.out V w cx ac R (Nat.zero_le _)).wp fun e a1 w1 hl => ?_)⟩
  obtain ⟨ex, fr1, cx1, rfl, h2, h3, h4, h5⟩ := hl
  cases ex with
  | normal =>
    obtain ⟨F, hW, hG⟩ := h2
    obtain ⟨cx2, E2, R2⟩ := hW P.laid V w1 cx1 a1 h5
    exact (hB F hG).out V w1 cx2 a1 R2 (host_ext (host_ext hS h4 h5.st) E2 R2.st)
  | exit id => exact ⟨.exit id, fr1, cx1, tr, g, V, rfl, h2, h5, host_ext hS h4 h5.st⟩
  | ret => exact ⟨.ret, fr1, cx1, tr, g, V, rfl, h2, h5, host_ext hS h4 h5.st⟩
def blockKY (id : Nat) (K : Ex → Fr → List AV → Bool → Prop) : Ex → Fr → List AV → Bool → Prop
  | .normal, fr, tr, g => K .normal fr tr g
  | .exit j, fr, tr, g => (match j == id with | true => K .normal fr tr g | false => K (.exit j) fr tr g)
  | .ret, fr, tr, g => K .ret fr tr g
theorem Yblock {id : Nat} {c : Code} {l mt : MT} (h : WY P H c l fr tr g (blockKY id K)) : WY P H (.block id c) mt fr tr g K := by
  refine ⟨fun V w cx a R hS => wp_block (wp_mono (h.out V w cx a R hS) fun e a1 w1 hl => ?_)⟩
  obtain ⟨ex, fr1, cx1, tr1, g1, V1, rfl, h2, h3, h4⟩ := hl
  simp only [blockKY] at h2
  cases ex with
  | normal => exact ⟨.normal, fr1, cx1, tr1, g1, V1, rfl, h2, h3, h4⟩
  | exit j =>
    simp only [Ex.to, Exit.inBlock]
    by_cases hj : j = id
    · subst hj
      rw [if_pos rfl]
      simp only [beq_self_eq_true] at h2
      exact ⟨.normal, fr1, cx1, tr1, g1, V1, rfl, h2, h3, h4⟩
    · rw [if_neg hj]
      have : (j == id) = false := by simpa using hj
      simp only [this] at h2
      exact ⟨.exit j, fr1, cx1, tr1, g1, V1, rfl, h2, h3, h4⟩
  | ret => exact ⟨.ret, fr1, cx1, tr1, g1, V1, rfl, h2, h3, h4⟩
theorem Ycond {c : Operand} {x y : Code} {b : Bool} {l r mt : MT} (hc : evalT fr.t c = .bool b) (h : brP b (WY P H x l fr tr g K) (WY P H y r fr tr g K)) : WY P H (.cond c x y) mt fr tr g K := by
  refine ⟨fun V w cx a R hS => ?_⟩
  have he := R.eval c
  rw [hc] at he
  refine wp_cond he.bool_inv ?_
  cases b with
  | true => exact h.out V w cx a R hS
  | false => exact h.out V w cx a R hS
/-- A loop with yields: an invariant of frames and yields; each round that goes on makes the measure less. -/
@[irreducible] def yloopQ (P : PL) (H : Gho P) (body : Fr → List AV → Bool → (Ex → Fr → List AV → Bool → Prop) → Prop) (fr : Fr) (tr : List AV) (g : Bool) (K : Ex → Fr → List AV → Bool → Prop) : Prop :=
  ∃ (I : Fr → List AV → Bool → Prop) (μ : Fr → List AV → Nat) (fr0 : Fr), Weak 0 fr fr0 ∧ I fr0 tr g ∧
    ∀ fr1 tr1 g1, I fr1 tr1 g1 → (g1 = true → H.good tr1) → body fr1 tr1 g1 (seqKY (fun fr2 tr2 g2 _ => (tr2.length ≤ H.B → ∃ fr3, Weak 0 fr2 fr3 ∧ I fr3 tr2 g2 ∧ μ fr3 tr2 < μ fr1 tr1)) K)
theorem Yloop {c : Code} {l mt : MT} (h : yloopQ P H (fun fr tr g K => WY P H c l fr tr g K) fr tr g K) : WY P H (.loop c) mt fr tr g K := by
  rw [yloopQ] at h
  obtain ⟨I, μ, fr0, h0, hI, hround⟩ := h
  refine ⟨fun V w cx a R hS => ?_⟩
  obtain ⟨cx0, E0, R0⟩ := h0 P.laid V w cx a R
  refine wp_loop_ghost (fun n a1 w1 => ∃ fr1 cx1 tr1 g1 V1, I fr1 tr1 g1 ∧ μ fr1 tr1 = n ∧ RelFr P.laid V1 w1 cx1 fr1 a1 ∧ H.S tr1 g1 V1 (Wr cx1 fr1.s) w1) (μ fr0 tr) ⟨fr0, cx0, tr, g, V, hI, rfl, R0, host_ext hS E0 R0.st⟩ ?_
  rintro n a1 w1 ⟨fr1, cx1, tr1, g1, V1, hI1, rfl, R1, hS1⟩
  refine wp_mono ((hround fr1 tr1 g1 hI1 fun hg => H.gd _ _ _ _ (hg ▸ hS1)).out V1 w1 cx1 a1 R1 hS1) fun e a2 w2 hl => ?_
  obtain ⟨ex, fr2, cx2, tr2, g2, V2, rfl, h2, h3, h4⟩ := hl
  cases ex with
  | normal =>
    obtain ⟨fr3, hw3, hI3, hlt⟩ := h2 (H.short _ _ _ _ _ h4)
    obtain ⟨cx3, E3, R3⟩ := hw3 P.laid V2 w2 cx2 a2 h3
    exact ⟨μ fr3 tr2, hlt, fr3, cx3, tr2, g2, V2, hI3, rfl, R3, host_ext h4 E3 R3.st⟩
  | exit j => exact ⟨.exit j, fr2, cx2, tr2, g2, V2, rfl, h2, h3, h4⟩
  | ret => exact ⟨.ret, fr2, cx2, tr2, g2, V2, rfl, h2, h3, h4⟩
/-- A frame behind what a round of the caller did. -/
theorem RelFr.env {L : Laid} {V V' : Nat → Prop} {w w' : World} {cx : Cx} {fr : Fr} {a : Act} (R : RelFr L V w cx fr a) (E : Env V w V' w') : RelFr L V' w' cx fr a where
  st := R.st.cel_move E.size (fun b hb hV => E.cel hb hV) (fun b hb hV hV' => (E.grow b hV').elim hV fun h => by have := hb.lt; omega) E.low
  size := R.size
  defers := R.defers.keep (fun k hk hd hV => (E.keep k hk hV).elim id fun ⟨r, h⟩ => by rw [hd] at h; cases h) fun k hk hV hV' => (E.grow k hV').elim hV fun h => by omega
  tmps i x hx := (R.tmps i x hx).cel_move E.size (fun b hb hA => E.cel hb fun h => hA (.inl h)) fun b hb hA hA' => hA'.elim (fun h => (E.grow b h).elim (fun h => hA (.inl h)) fun h => by have := hb.lt; omega) fun h => hA (.inr h)
theorem opsIn_value {ops : Array Oper} {Q : Exit → Act → World → Prop} {o : Oper} {i : Nat} {rest : List Nat} {a : Act} {w : World} {v : Value} (ho : ops[i]? = some o) (hg : o.guard = none) (hrun : (execOp a.eval o).run P.toProgram w = .ok (.value v) w)
    (h : wpOpsIn Fence.wide 0 P.toProgram ops Q rest (a.put o.dst v) w) : wpOpsIn Fence.wide 0 P.toProgram ops Q (i :: rest) a w := by
  simp only [wpOpsIn, ho]
  rw [if_pos (by simp [Region.wanted, hg])]
  refine ⟨fun _ _ => trivial, ?_⟩
  rw [show Fence.wide.round = none from rfl, Oper.semAt_none, hrun]
  exact h
theorem opsIn_yield {ops : Array Oper} {Q : Exit → Act → World → Prop} {o : Oper} {i : Nat} {rest : List Nat} {a : Act} {w : World} {v : Value} {c : Call} {f x : Operand} {R : Ending → World → Prop} (ho : ops[i]? = some o) (hg : o.guard = none) (hop : o.op = .call c) (hc : c.callee = .value f) (ha : c.args = #[x])
    (hf : a.eval f = .func (.yield lp) #[] #[]) (hx : a.eval x = v) (hy : YieldAt Fence.wide 0 P.toProgram lp #[v] w R)
    (h : ∀ e w', R e w' → ∃ u, e = .returned u ∧ wpOpsIn Fence.wide 0 P.toProgram ops Q rest (a.put o.dst u) w') : wpOpsIn Fence.wide 0 P.toProgram ops Q (i :: rest) a w := by
  obtain ⟨fn, tmps, assign, body, hrun, hround⟩ := hy
  simp only [wpOpsIn, ho]
  rw [if_pos (by simp [Region.wanted, hg])]
  refine ⟨fun _ _ => trivial, ?_⟩
  have he : (execOp a.eval o).run P.toProgram w = .ok (.round lp fn tmps assign body) w := by
    simp [execOp, hop, resolve, hc, ha, hf, hx, Deferred.ofValue, invoke, hrun]
  rw [show Fence.wide.round = none from rfl, Oper.semAt_none, he]
  rw [Oper.uponIn_round]
  refine ⟨fun h => by simp [Fence.wide] at h, hround.mono fun e w' hR => ?_⟩
  obtain ⟨u, rfl, hu⟩ := h e w' hR
  exact hu
/-- The region of a yield: the function, what is handed over, the call, its answer turned. -/
def yieldShape (ops : Array Oper) : Option (Operand × Operand × Tmp × Tmp × Tmp × Tmp) :=
  match ops.toList with
  | [o0, o1, o2, o3] =>
    match o0.op, o0.dst, o1.op, o1.dst, o2.op, o2.dst, o3.op, o3.dst with
    | .move f, some d0, .move x, some d1, .call c, some d2, .unOp .not _ (.tmp d2'), some d3 =>
      match c.callee, c.args.toList with
      | .value (.tmp d0'), [.tmp d1'] => bif (o0.guard.isNone && (o1.guard.isNone && (o2.guard.isNone && o3.guard.isNone))) && (Nat.beq d0 d0' && (Nat.beq d1 d1' && (Nat.beq d2 d2' && !Nat.beq d1 d0))) then some (f, x, d0, d1, d2, d3) else none
      | _, _ => none
    | _, _, _, _, _, _, _, _ => none
  | _ => none
theorem yieldShape_out {ops : Array Oper} {f x : Operand} {d0 d1 d2 d3 : Tmp} (h : yieldShape ops = some (f, x, d0, d1, d2, d3)) : ∃ o0 o1 o2 o3 c t, ops = #[o0, o1, o2, o3] ∧ o0.op = .move f ∧ o0.dst = some d0 ∧ o0.guard = none ∧ o1.op = .move x ∧ o1.dst = some d1 ∧ o1.guard = none ∧
    o2.op = .call c ∧ o2.dst = some d2 ∧ o2.guard = none ∧ c.callee = .value (.tmp d0) ∧ c.args = #[.tmp d1] ∧ o3.op = .unOp .not t (.tmp d2) ∧ o3.dst = some d3 ∧ o3.guard = none ∧ d1 ≠ d0 := by
  unfold yieldShape at h
  split at h
  · rename_i o0 o1 o2 o3 hops
    split at h
    · rename_i f' d0a x' d1a c d2a t d2b d3a e0 e1 e2 e3 e4 e5 e6 e7
      split at h
      · rename_i d0b d1b e8 e9
        cases hb : ((o0.guard.isNone && (o1.guard.isNone && (o2.guard.isNone && o3.guard.isNone))) && (Nat.beq d0a d0b && (Nat.beq d1a d1b && (Nat.beq d2a d2b && !Nat.beq d1a d0a)))) with
        | false => rw [hb] at h; cases h
        | true =>
          rw [hb] at h
          simp only [cond_true, Option.some.injEq, Prod.mk.injEq] at h
          obtain ⟨rfl, rfl, rfl, rfl, rfl, rfl⟩ := h
          simp only [Bool.and_eq_true, Option.isNone_iff_eq_none, Bool.not_eq_true'] at hb
          obtain ⟨⟨g0, g1, g2, g3⟩, q0, q1, q2, q3⟩ := hb
          have q0 := Nat.eq_of_beq_eq_true q0
          have q1 := Nat.eq_of_beq_eq_true q1
          have q2 := Nat.eq_of_beq_eq_true q2
          subst q0; subst q1; subst q2
          refine ⟨o0, o1, o2, o3, c, t, ?_, e0, e1, g0, e2, e3, g1, e4, e5, g2, e8, ?_, e6, e7, g3, fun e => ?_⟩
          · exact Array.ext' (by simpa using hops)
          · exact Array.ext' (by simpa using e9)
          · subst e; simp at q3
      · cases h
    · cases h
  · cases h
@[irreducible] def yieldQ (P : PL) (lp : Nat) (H : Host P lp) (ops : Array Oper) (fr : Fr) (tr : List AV) (g : Bool) (K : Ex → Fr → List AV → Bool → Prop) : Prop :=
  ∃ f x d0 d1 d2 d3 x' x'', g = true ∧ yieldShape ops = some (f, x, d0, d1, d2, d3) ∧ (Nat.blt d0 fr.t.length && (Nat.blt d1 fr.t.length && Nat.blt d2 fr.t.length)) = true ∧ evalT fr.t f = .fn (.yield lp) [] [] ∧
    snap 6 fr.s (evalT (fr.t.set d0 (.fn (.yield lp) [] [])) x) = some x' ∧ x'.Le x'' ∧ H.ok tr x'' ∧
    ∀ g, (g = true → H.good (tr ++ [x''])) → K .normal ⟨(((fr.t.set d0 (.fn (.yield lp) [] [])).set d1 (evalT (fr.t.set d0 (.fn (.yield lp) [] [])) x)).set d2 (.bool g)).set d3 (.bool !g), roAll fr.s (snapIds 6 fr.s (evalT (fr.t.set d0 (.fn (.yield lp) [] [])) x))⟩ (tr ++ [x'']) g
/-- A yield: what is handed over, told as it now reads; its objects are written no more. -/
theorem Yyield {H : Host P lp} {rid : Nat} {ops : Array Oper} {mt : MT} (h : yieldQ P lp H ops fr tr g K) : WY P H.toGho (.region rid ops false) mt fr tr g K := by
  rw [yieldQ] at h
  obtain ⟨f, x, d0, d1, d2, d3, x', x'', rfl, hsh, hlt, hf, hx, hle, hok, hK⟩ := h
  obtain ⟨o0, o1, o2, o3, c, t, rfl, p0, q0, g0, p1, q1, g1, p2, q2, g2, hc, ha, p3, q3, g3, ne⟩ := yieldShape_out hsh
  simp only [Bool.and_eq_true] at hlt
  obtain ⟨l0, l1, l2⟩ := hlt
  have l0 : d0 < fr.t.length := by simpa using l0
  have l1 : d1 < fr.t.length := by simpa using l1
  have l2 : d2 < fr.t.length := by simpa using l2
  refine ⟨fun V w cx a R hS => (wpIn_wide (n := 0)).1 (wpIn_region ?_)⟩
  show wpOpsIn Fence.wide 0 P.toProgram #[o0, o1, o2, o3] _ [0, 1, 2, 3] a w
  -- the two moves
  have R1 := R.put (dst := some d0) Ext.refl R.st (by have := R.eval f; rw [hf] at this; exact this)
  have hfv : a.eval f = .func (.yield lp) #[] #[] := by
    have := R.eval f
    rw [hf] at this
    generalize a.eval f = y at this
    cases this with
    | fn _ _ _ a1 b1 h1 h2 =>
      have e1 : a1 = [] := List.eq_nil_of_length_eq_zero (by simpa using h1.symm)
      have e2 : b1 = [] := List.eq_nil_of_length_eq_zero (by simpa using h2.symm)
      subst e1; subst e2; rfl
  refine opsIn_value (o := o0) rfl g0 (v := a.eval f) (by simp [execOp, p0]) ?_
  rw [q0]
  have R2 := R1.put (dst := some d1) Ext.refl R1.st (R1.eval x)
  refine opsIn_value (o := o1) rfl g1 (v := (a.put (some d0) (a.eval f)).eval x) (by simp [execOp, p1]) ?_
  rw [q1]
  generalize hv : (a.put (some d0) (a.eval f)).eval x = v at R2 ⊢
  -- what is handed over
  have hxv : Rel w cx (Av V cx fr.s) (evalT (fr.t.set d0 (.fn (.yield lp) [] [])) x) v := by rw [← hv]; exact R1.eval x
  have F := Fewer.roAll (snapIds 6 fr.s (evalT (fr.t.set d0 (.fn (.yield lp) [] [])) x)) fr.s
  have E1 : Ext fr.s.length V w w cx cx fr.s (roAll fr.s (snapIds 6 fr.s (evalT (fr.t.set d0 (.fn (.yield lp) [] [])) x))) := Ext.fewer F
  have S1 := R.st.fewer F
  have hx1 := hxv.snapped R.st (A' := Av V cx (roAll fr.s (snapIds 6 fr.s (evalT (fr.t.set d0 (.fn (.yield lp) [] [])) x)))) (fun b hb => hb.imp id F.back) 6 _ x' _ hx (fun id hid e q he hq hn hb => by
    obtain ⟨o', h1, h2⟩ := roAll_ro (snapIds 6 fr.s (evalT (fr.t.set d0 (.fn (.yield lp) [] [])) x)) fr.s id q hid hq
    exact ro_notAv S1 he h1 hn h2 hb)
  have hS1 := host_ext hS E1 S1
  have sz : (a.put (some d0) (a.eval f)).tmps.size = fr.t.length := by rw [R1.size]; simp [putT]
  refine opsIn_yield (o := o2) (v := v) rfl g2 p2 hc ha ?_ ?_ (H.yield tr x'' v V _ w hS1 hok (hle _ _ _ _ hx1.1)) fun e w' hR => ?_
  · rw [hfv]
    simp only [Act.eval, Act.put]
    rw [Array.getD_eq_getD_getElem?, Array.getElem?_setIfInBounds, if_neg ne, Array.getElem?_setIfInBounds, if_pos rfl, if_pos (by rw [R.size]; exact l0)]
    rfl
  · simp only [Act.eval, Act.put]
    rw [Array.getD_eq_getD_getElem?, Array.getElem?_setIfInBounds, if_pos rfl, if_pos (by simpa [R.size] using l1)]
    rfl
  obtain ⟨g, V', rfl, hS2, En⟩ := hR
  refine ⟨_, rfl, ?_⟩
  have R3 : RelFr P.laid V w cx ⟨(fr.t.set d0 (.fn (.yield lp) [] [])).set d1 (evalT (fr.t.set d0 (.fn (.yield lp) [] [])) x), roAll fr.s (snapIds 6 fr.s (evalT (fr.t.set d0 (.fn (.yield lp) [] [])) x))⟩ ((a.put (some d0) (a.eval f)).put (some d1) v) :=
    ⟨S1, by have := R2.size; simpa [putT] using this, R2.defers, fun i y hy => (R2.tmps i y (by simpa [putT, hf] using hy)).ext E1 R.st.len⟩
  have R4 := (R3.env En).put (dst := some d2) Ext.refl (R3.env En).st (Rel.bool g)
  rw [q2]
  refine opsIn_value (o := o3) rfl g3 (v := .bool !g) ?_ ?_
  · have : (((a.put (some d0) (a.eval f)).put (some d1) v).put (some d2) (.bool g)).eval (.tmp d2) = .bool g := by
      have hsz : ((a.put (some d0) (a.eval f)).put (some d1) v).tmps.size = fr.t.length := by have := R2.size; simpa [putT] using this
      simp only [Act.eval, Act.put] at hsz ⊢
      rw [Array.getD_eq_getD_getElem?, Array.getElem?_setIfInBounds, if_pos rfl, if_pos (by rw [hsz]; exact l2)]
      rfl
    simp [execOp, p3, this, Op.unary]
  rw [q3]
  have R5 := R4.put (dst := some d3) Ext.refl R4.st (Rel.bool !g)
  exact ⟨.normal, _, cx, tr ++ [x''], g, V', rfl, hK g (fun hg => H.gd _ _ _ _ (hg ▸ hS2)), R5, hS2⟩
/-- One step of a walk with a state of the world beside the frame, by the code; RQ: a region's. -/
def stepG (P : PL) (H : Gho P) (RQ : Array Oper → Prop) (c : Code) (t : MT) (fr : Fr) (tr : List AV) (g : Bool) (K : Ex → Fr → List AV → Bool → Prop) : Prop :=
  match t with
  | .z => W P 0 c .z fr fun ex fr' => K ex fr' tr g
  | .w t => W P 0 c t fr fun ex fr' => K ex fr' tr g
  | .m _ => False
  | .t cut l r =>
    match c with
    | .seq a b =>
      (match cut with
      | false => WY P H a l fr tr g (seqKY (fun fr tr g K => WY P H b r fr tr g K) K)
      | true => cutQ 0 (fun K' => W P 0 a l fr K') (fun F _ => WY P H b r F tr g K) (fun ex fr' => K ex fr' tr g))
    | .block id c => WY P H c l fr tr g (blockKY id K)
    | .loop c => yloopQ P H (fun fr tr g K => WY P H c l fr tr g K) fr tr g K
    | .cond c x y => (match evalT fr.t c with | .bool b => brP b (WY P H x l fr tr g K) (WY P H y r fr tr g K) | _ => False)
    | .region _ ops false => RQ ops
    | _ => False
theorem stepG_out {RQ : Array Oper → Prop} {c : Code} {t : MT} (hR : ∀ id ops mt, RQ ops → WY P H (.region id ops false) mt fr tr g K) (h : stepG P H RQ c t fr tr g K) : WY P H c t fr tr g K := by
  cases t with
  | z => exact Ylift h
  | w l => exact Ylift h
  | m l => exact h.elim
  | t cut l r =>
    cases c with
    | seq a b =>
      cases cut with
      | false => exact Yseq h
      | true => exact Ycut h
    | block id c => exact Yblock h
    | loop c => exact Yloop h
    | cond c x y =>
      simp only [stepG] at h
      split at h
      · rename_i b hb
        exact Ycond hb h
      · exact h.elim
    | region id ops draw =>
      cases draw with
      | false => exact hR _ _ _ h
      | true => exact h.elim
    | _ => exact h.elim
/-- .. with yields. -/
def stepWY (P : PL) (lp : Nat) (H : Host P lp) (c : Code) (t : MT) (fr : Fr) (tr : List AV) (g : Bool) (K : Ex → Fr → List AV → Bool → Prop) : Prop := stepG P H.toGho (fun ops => yieldQ P lp H ops fr tr g K) c t fr tr g K
theorem YY {H : Host P lp} {c : Code} {t : MT} (h : stepWY P lp H c t fr tr g K) : WY P H.toGho c t fr tr g K := stepG_out (fun _ _ _ h => Yyield h) h
/-- What is asked at the end of a function that is ranged over. -/
def retY (fin : List AV → Prop) : Ex → Fr → List AV → Bool → Prop
  | .exit _, _, _, _ => False
  | _, _, tr, g => g = true → fin tr
theorem av_none {V : Nat → Prop} {b : Nat} : Av V [] [] b ↔ V b := ⟨fun h => h.elim id fun h => absurd h Wr.none, .inl⟩
theorem ycontract_of {f : FuncId} {fn : Func} {c : Code} (mt : MT) {caps : List AV} {ok : List AV → AV → Prop} {fin good : List AV → Prop} (hf : P.funcs[f]? = some fn) (hb : fn.body = some c) (hres : fn.results = #[])
    (h : ∀ (lp : Nat) (H : Host P lp), (∀ tr x, ok tr x → H.ok tr x) → (∀ tr, H.good tr → good tr) → WY P H.toGho c mt (frame0 fn (AV.fn (.yield lp) [] [] :: caps) []) [] true (retY fin)) : YContract P f caps ok fin good := by
  intro lp H hok hgd V w us S hl R hS
  have hA : Av V [] [] = V := funext fun b => propext av_none
  have all : ∀ (i : Nat) (x : AV) (v : Value), (AV.fn (.yield lp) [] [] :: caps)[i]? = some x → ([Value.func (.yield lp) #[] #[]] ++ us)[i]? = some v → Rel w [] V x v := by
    intro i x v hx hv
    cases i with
    | zero => simp at hx hv; subst hx; subst hv; exact .fn (.yield lp) [] [] [] [] rfl rfl (fun c x v h => by simp at h) fun c x v h => by simp at h
    | succ j => exact R j x v (by simpa using hx) (by simpa using hv)
  have hfr : RelFr P.laid V w [] (frame0 fn (AV.fn (.yield lp) [] [] :: caps) []) { tmps := ([Value.func (.yield lp) #[] #[]] ++ us).toArray ++ Array.replicate (fn.ntmps - ([Value.func (.yield lp) #[] #[]] ++ us).toArray.size) undef, defers := [] } := by
    have hlen : (AV.fn (.yield lp) [] [] :: caps).length = ([Value.func (.yield lp) #[] #[]] ++ us).length := by simp [hl]
    generalize hp : AV.fn (.yield lp) [] [] :: caps = args at all hlen ⊢
    generalize hq : [Value.func (.yield lp) #[] #[]] ++ us = vals at all hlen ⊢
    refine ⟨S, by simp [frame0, hlen], trivial, fun i x hx => ?_⟩
    simp only [frame0] at hx ⊢
    rw [hA]
    rw [List.getElem?_append] at hx
    split at hx
    · rename_i hi
      have hv : i < vals.length := by omega
      have hg : (vals.toArray ++ Array.replicate (fn.ntmps - vals.toArray.size) undef).getD i undef = vals[i] := by
        simp only [Array.getD_eq_getD_getElem?]
        rw [Array.getElem?_append_left (by simpa using hv)]
        simp [hv]
      rw [hg]
      exact all i x vals[i] hx (by simp [hv])
    · rw [List.getElem?_replicate] at hx
      split at hx
      · cases hx; exact .unk _
      · cases hx
  have hN : H.S [] true V (Wr [] []) w := H.stay _ _ _ _ _ _ _ hS rfl rfl rfl (Nat.le_refl _) (fun _ _ _ => rfl) (fun b hb => absurd hb Wr.none) fun b hb => absurd hb Wr.none
  refine calls_marks_wp hf hb (wp_mono ((h lp H hok hgd).out V w [] _ hfr hN) fun e a' w' hl => ?_)
  obtain ⟨ex, fr', cx', tr, g, V', rfl, hK, R1, hS1⟩ := hl
  have fin' : (g = true → fin tr) → ∃ V, Marks V w' a'.defers ∧ ∀ w'', Shut V w' w'' → ∃ v, (results fn a'.tmps).run P.toProgram w'' = .ok v w'' ∧ ∃ r tr g V' N', Ending.returned v = .returned r ∧ H.S tr g V' N' w'' ∧ (g = true → fin tr) := fun hg => by
    refine ⟨V', R1.defers, fun w'' Sh => ⟨.tuple #[], ?_, _, tr, g, V', _, rfl, H.shut _ _ _ _ _ _ hS1 Sh, hg⟩⟩
    simp [results, hres]
  cases ex with
  | normal => exact ⟨.inl rfl, fin' hK⟩
  | ret => exact ⟨.inr rfl, fin' hK⟩
  | exit id => exact hK.elim
end
/-! ### Models of functions that are ranged over -/
/-- A round of a function that is ranged over: it ends, or it yields, and goes on, if it may. -/
inductive YS (S X : Type) where
  | fin
  | yld (x : X) (post : Option (Stp S Unit))
section
variable {S X C R : Type}
/-- Where it stands after so many yields. -/
def nthY (it : S → Option (YS S X)) (s0 : S) : Nat → Option (Stp S Unit)
  | 0 => some (.next s0)
  | n + 1 =>
    match nthY it s0 n with
    | some (.next s) => (match it s with | some (.yld _ post) => post | _ => none)
    | _ => none
def okY (it : S → Option (YS S X)) (enc : X → AV) (s0 : S) (tr : List AV) (x : AV) : Prop := ∃ s v post, nthY it s0 tr.length = some (.next s) ∧ it s = some (.yld v post) ∧ x = enc v
def finY (it : S → Option (YS S X)) (s0 : S) (tr : List AV) : Prop := nthY it s0 tr.length = some (.done ()) ∨ ∃ s, nthY it s0 tr.length = some (.next s) ∧ it s = some .fin
def goodY (it : S → Option (YS S X)) (s0 : S) (tr : List AV) : Prop := ∃ p, nthY it s0 tr.length = some p ∧ ∀ s, p = .next s → ∃ y, it s = some y
/-- A loop over such a function, by both models. -/
def rangeB (it : S → Option (YS S X)) (cb : X → C → Option (Stp C R)) (sc : S × C) : Option (Stp (S × C) (Sum C R)) :=
  match it sc.1 with
  | none => none
  | some .fin => some (.done (.inl sc.2))
  | some (.yld x post) =>
    match cb x sc.2 with
    | none => none
    | some (.done r) => some (.done (.inr r))
    | some (.next c') =>
      match post with
      | none => none
      | some (.next s') => some (.next (s', c'))
      | some (.done _) => some (.done (.inl c'))
variable {P : PL} {lp : Nat} {H : Host P lp}
def YP (Rn : List AV → S → Prop) (fin : List AV → Prop) (tr : List AV) : Stp S Unit → Prop
  | .next s => Rn tr s
  | .done _ => fin tr
def YN (H : Host P lp) (enc : X → AV) (Rn : List AV → S → Prop) (fin : List AV → Prop) (tr : List AV) : YS S X → Prop
  | .fin => fin tr
  | .yld v post => H.ok tr (enc v) ∧ (H.good (tr ++ [enc v]) → ∃ p, post = some p ∧ YP Rn fin (tr ++ [enc v]) p)
theorem yloop_iter {lbody : Fr → List AV → Bool → (Ex → Fr → List AV → Bool → Prop) → Prop} {fr : Fr} {K : Ex → Fr → List AV → Bool → Prop} (F : S → Fr) (enc : X → AV) {it : S → Option (YS S X)} {s0 : S} (hok : ∀ tr x, okY it enc s0 tr x → H.ok tr x) (hgd : ∀ tr, H.good tr → goodY it s0 tr) (hw : Weak 0 fr (F s0))
    (step : ∀ (s : S) (tr : List AV) (y : YS S X) (Kn : Fr → List AV → Bool → Prop), it s = some y → YN H enc (fun tr' s' => ∀ fr2, Weak 0 fr2 (F s') → Kn fr2 tr' true) (finY it s0) tr y → lbody (F s) tr true (seqKY (fun fr2 tr2 g2 _ => Kn fr2 tr2 g2) K)) : yloopQ P H.toGho lbody fr [] true K := by
  rw [yloopQ]
  refine ⟨fun fr1 tr1 g1 => g1 = true ∧ ∃ s, fr1 = F s ∧ nthY it s0 tr1.length = some (.next s), fun _ tr => H.B + 1 - tr.length, F s0, hw, ⟨rfl, s0, rfl, rfl⟩, ?_⟩
  rintro _ tr _ ⟨rfl, s, rfl, hn⟩ hg
  obtain ⟨p, hp, hy⟩ := hgd tr (hg rfl)
  rw [hn] at hp
  obtain ⟨y, hy⟩ := hy s (Option.some.inj hp).symm
  refine step s tr y (fun fr2 tr2 g2 => tr2.length ≤ H.B → ∃ fr3, Weak 0 fr2 fr3 ∧ (g2 = true ∧ ∃ s, fr3 = F s ∧ nthY it s0 tr2.length = some (.next s)) ∧ H.B + 1 - tr2.length < H.B + 1 - tr.length) hy ?_
  cases y with
  | fin => exact .inr ⟨s, hn, hy⟩
  | yld v post =>
    refine ⟨hok _ _ ⟨s, v, post, hn, hy, rfl⟩, fun hgd' => ?_⟩
    have hn' : nthY it s0 (tr ++ [enc v]).length = post := by rw [List.length_append]; show nthY it s0 (tr.length + 1) = post; rw [nthY, hn]; simp only [hy]
    obtain ⟨p, hp, _⟩ := hgd _ hgd'
    rw [hn'] at hp
    refine ⟨p, hp, ?_⟩
    cases p with
    | next s' => exact fun fr2 hw2 hlen => ⟨F s', hw2, ⟨rfl, s', rfl, hn'.trans hp⟩, by rw [List.length_append] at hlen ⊢; simp at hlen ⊢; omega⟩
    | done u => exact .inl (hn'.trans hp)
theorem yield_iter {enc : X → AV} {Rn : List AV → S → Prop} {fin : List AV → Prop} {tr : List AV} {v : X} {post : Option (Stp S Unit)} {ops : Array Oper} {fr : Fr} {K : Ex → Fr → List AV → Bool → Prop} {f x : Operand} {d0 d1 d2 d3 : Tmp} {x' : AV} (hn : YN H enc Rn fin tr (.yld v post))
    (hs : yieldShape ops = some (f, x, d0, d1, d2, d3)) (hlt : (Nat.blt d0 fr.t.length && (Nat.blt d1 fr.t.length && Nat.blt d2 fr.t.length)) = true) (hf : evalT fr.t f = .fn (.yield lp) [] []) (hx : snap 6 fr.s (evalT (fr.t.set d0 (.fn (.yield lp) [] [])) x) = some x') (hle : x'.Le (enc v))
    (h0 : putK fr.t (some d0) (.fn (.yield lp) [] []) fun t => forceV (evalT t x) fun xv => putK t (some d1) xv fun t => putK t (some d2) (.bool false) fun t => putK t (some d3) (.bool true) fun t => forceS (roAll fr.s (snapIds 6 fr.s xv)) fun s => K .normal ⟨t, s⟩ (tr ++ [enc v]) false)
    (h1 : ∀ p, post = some p → YP Rn fin (tr ++ [enc v]) p → putK fr.t (some d0) (.fn (.yield lp) [] []) fun t => forceV (evalT t x) fun xv => putK t (some d1) xv fun t => putK t (some d2) (.bool true) fun t => putK t (some d3) (.bool false) fun t => forceS (roAll fr.s (snapIds 6 fr.s xv)) fun s => K .normal ⟨t, s⟩ (tr ++ [enc v]) true) : yieldQ P lp H ops fr tr true K := by
  rw [yieldQ]
  refine ⟨f, x, d0, d1, d2, d3, x', enc v, rfl, hs, hlt, hf, hx, hle, hn.1, fun g hg => ?_⟩
  cases g with
  | false => simp only [putK_eq, forceV_eq, forceS_eq, putT] at h0; exact h0
  | true =>
    obtain ⟨p, hp, hq⟩ := hn.2 (hg rfl)
    have h2 := h1 p hp hq
    simp only [putK_eq, forceV_eq, forceS_eq, putT] at h2
    exact h2
/-- A round's end in a loop over a function. -/
def RN (k n : Nat) (kv : List (Nat × AV)) (F : C → Store) (x : Sum C R) (K : Ex → Fr → Prop) (Kn : Ex → Fr → Prop) : Stp C R → Prop
  | .next c' => ∀ fr2, Weak k fr2 (mkF n [] (F c')) → Kn .normal fr2
  | .done r => .inr r = x ∧ ∀ ex fr2 s', exNormal ex = false → Weak k fr2 (mkF n [] s') → K ex (mkF n kv s') → Kn ex fr2
theorem look_set {kv : List (Nat × AV)} {p : Nat} {v : AV} : ∀ (n i : Nat), (mkT kv i n).set (p - i) v = (if p < i then (mkT kv i n).set (p - i) v else mkT ((p, v) :: kv) i n)
  | n, i => by
    split
    · rfl
    · rename_i h
      apply List.ext_getElem?
      intro j
      rw [List.getElem?_set]
      have hg : ∀ (kv : List (Nat × AV)) (n i j : Nat), (mkT kv i n)[j]? = if j < n then some (look kv (i + j)) else none := by
        intro kv n
        induction n with
        | zero => intro i j; simp [mkT]
        | succ n ih =>
          intro i j
          cases j with
          | zero => simp [mkT]
          | succ j => simp only [mkT, List.getElem?_cons_succ, ih, Nat.add_lt_add_iff_right]; congr 2; rw [show i + 1 + j = i + (j + 1) by omega]
      rw [hg, hg]
      simp only [mkT_len]
      by_cases hj : p - i = j
      · rw [if_pos hj]
        have : i + j = p := by omega
        by_cases hn : j < n
        · rw [if_pos (by omega), if_pos hn]; simp [look, this]
        · rw [if_neg (by omega), if_neg hn]
      · rw [if_neg hj]
        have : Nat.beq p (i + j) = false := by
          cases hb : Nat.beq p (i + j) with
          | false => rfl
          | true => have := Nat.eq_of_beq_eq_true hb; omega
        by_cases hn : j < n
        · rw [if_pos hn, if_pos hn]; simp [look, this]
        · rw [if_neg hn, if_neg hn]
theorem range_iter {m n : Nat} {g : Operand} {ps : Array Tmp} {assign body : Code} {l r : MT} {fr : Fr} {K : Ex → Fr → Prop} (k p : Nat) (kv : List (Nat × AV)) (F : C → Store) {gf : FuncId} {caps : List AV} {it : S → Option (YS S X)} {enc : X → AV} {s0 : S} {c0 : C} {cb : X → C → Option (Stp C R)} {x : Sum C R}
    (h : iter (rangeB it cb) (s0, c0) = some x) (hY : YContract P gf caps (okY it enc s0) (finY it s0) (goodY it s0)) (hps : ps = #[p]) (hr : (!rngC assign && (!rngC body && (Nat.ble m k && (refsL (fun i => Nat.blt i k) (mkT kv 0 n) && immL caps)))) = true) (hk : ∀ c, k ≤ (F c).length) (hg : evalT (mkT kv 0 n) g = .fn (.func gf) [] caps)
    (hcall : ∃ fn, P.funcs[gf]? = some fn ∧ fn.body.isNone = false ∧ (fn.name == "runtime.NumGoroutine") = false) (hw : Weak m fr (mkF n kv (F c0)))
    (round : ∀ (v : X) (c : C) (st : Stp C R) (Kn : Ex → Fr → Prop), cb v c = some st → RN k n kv F x K Kn st → W P k assign l (mkF n ((p, enc v) :: kv) (F c)) (asgK fun fr1 => W P k body r fr1 Kn))
    (done : ∀ c, x = .inl c → K .normal (mkF n kv (F c))) : rangeQ P m g ps assign body l r fr K := by
  rw [rangeQ]
  simp only [Bool.and_eq_true, Bool.not_eq_true'] at hr
  obtain ⟨r1, r2, r3, r4, r5⟩ := hr
  obtain ⟨B, hB⟩ := iter_out h
  have hmkF : ∀ s, mkF n kv s = ⟨mkT kv 0 n, s⟩ := fun s => rfl
  refine ⟨k, p, gf, caps, okY it enc s0, finY it s0, goodY it s0, B,
    fun tr ex st => tr.length ≤ B ∧ (match ex with
      | .normal => ∃ c, st = F c ∧ ((∃ s q, nthY it s0 tr.length = some (.next s) ∧ iterN (rangeB it cb) q (s, c) = some x ∧ tr.length + q ≤ B) ∨ (nthY it s0 tr.length = some (.done ()) ∧ x = .inl c))
      | ex => K ex (mkF n kv st)),
    mkF n kv (F c0), ⟨hps, r1, r2, Nat.le_of_ble_eq_true r3, hk c0, r4, hg, r5⟩, hw, hcall, hY, fun tr ex s h => h.1, ?_, ⟨Nat.zero_le _, c0, rfl, .inl ⟨s0, B, rfl, hB, by simp⟩⟩, ?_, ?_⟩
  · rintro tr st ⟨_, c, rfl, ⟨s, q, hn, hq, _⟩ | ⟨hn, _⟩⟩
    · refine ⟨_, hn, fun s' hs' => ?_⟩
      cases hs'
      cases q with
      | zero => cases hq
      | succ q =>
        rw [iterN] at hq
        simp only [rangeB] at hq
        cases hi : it s with
        | none => rw [hi] at hq; cases hq
        | some y => exact ⟨y, rfl⟩
    · exact ⟨_, hn, fun s hs => by cases hs⟩
  · rintro tr _ st ⟨hlen, c, rfl, hc⟩ ⟨s', v, post, hn', hit, rfl⟩
    rcases hc with ⟨s, q, hn, hq, hqB⟩ | ⟨hn, _⟩
    · rw [hn] at hn'
      cases hn'
      cases q with
      | zero => cases hq
      | succ q =>
        rw [iterN] at hq
        simp only [rangeB, hit] at hq
        have hpost : nthY it s0 (tr ++ [enc v]).length = post := by rw [List.length_append]; show nthY it s0 (tr.length + 1) = post; rw [nthY, hn]; simp only [hit]
        have hl1 : (tr ++ [enc v]).length ≤ B := by rw [List.length_append]; simp; omega
        have hset : ∀ s, (⟨(mkF n kv (F c0)).t.set p (enc v), s⟩ : Fr) = mkF n ((p, enc v) :: kv) s := fun s => by
          have := look_set (kv := kv) (p := p) (v := enc v) n 0
          rw [Nat.sub_zero, if_neg (Nat.not_lt_zero _)] at this
          show (⟨(mkT kv 0 n).set p (enc v), s⟩ : Fr) = ⟨mkT ((p, enc v) :: kv) 0 n, s⟩
          rw [this]
        rw [hset]
        have hlenF : (mkF n kv (F c0)).t.length = n := mkT_len _ _ _
        rw [hlenF]
        cases hcb : cb v c with
        | none => rw [hcb] at hq; cases hq
        | some st =>
          rw [hcb] at hq
          refine round v c st _ hcb ?_
          cases st with
          | next c' =>
            refine fun fr2 hw2 => ⟨F c', hw2, hl1, c', rfl, ?_⟩
            cases post with
            | none => cases hq
            | some pp =>
              cases pp with
              | next s'' => exact .inl ⟨s'', q, hpost, hq, by rw [List.length_append]; simp; omega⟩
              | done u => exact .inr ⟨hpost, by simpa using hq.symm⟩
          | done r =>
            refine ⟨by simpa using hq, fun ex fr2 s' hex hw2 hK => ⟨s', hw2, hl1, ?_⟩⟩
            cases ex with
            | normal => cases hex
            | _ => exact hK
    · rw [hn] at hn'; cases hn'
  · rintro tr ex st ⟨hlen, hJ⟩ hfin
    cases ex with
    | normal =>
      obtain ⟨c, rfl, hc⟩ := hJ
      refine done c ?_
      rcases hc with ⟨s, q, hn, hq, _⟩ | ⟨hn, hx⟩
      · rcases hfin rfl with h | ⟨s', h, hi⟩
        · rw [hn] at h; cases h
        · rw [hn] at h
          cases h
          cases q with
          | zero => cases hq
          | succ q =>
            rw [iterN] at hq
            simp only [rangeB, hi] at hq
            simpa using hq.symm
      · exact hx
    | _ => exact hJ
end
end Go.SE
