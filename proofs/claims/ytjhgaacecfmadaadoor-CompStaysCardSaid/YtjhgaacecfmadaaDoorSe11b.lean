/- The shadow evaluator, part 11b: copy, min, max. No condition. -/
import Derived.Test.YtjhgaacecfmadaaDoorSe11
import Derived.Laws.CopyRow
import Derived.Laws.IdiomCopy
namespace Go.SE
open Go
set_option linter.unusedVariables false
set_option linter.unusedSimpArgs false
section
variable {P : PL} {s : Store} {o : Oper} {ev : Operand → AV}
theorem rowOver_out {k : Nat} {r r2 : Row} {K : Row → Prop} (h : rowOver k r r2 K) (hk : k ≤ r.len) (hk2 : k ≤ r2.len) : ∃ row, K row ∧ row.len = r.len ∧ (r.ok → r2.ok → row.ok) ∧ (∀ j, j < k → row.get j = r2.get j) ∧ ∀ j, k ≤ j → row.get j = r.get j := by
  have hget : ∀ {α : Type} (l l2 : List α) (d : α), k ≤ l.length → k ≤ l2.length → (l2.take k ++ l.drop k).length = l.length ∧ (∀ j, j < k → (l2.take k ++ l.drop k).getD j d = l2.getD j d) ∧ ∀ j, k ≤ j → (l2.take k ++ l.drop k).getD j d = l.getD j d := fun l l2 d hl hl2 => by
    have ht : (l2.take k).length = k := by rw [List.length_take]; omega
    refine ⟨by simp; omega, fun j hj => ?_, fun j hj => ?_⟩
    · simp only [List.getD]
      rw [List.getElem?_append_left (by omega), List.getElem?_take, if_pos hj]
    · simp only [List.getD]
      rw [List.getElem?_append_right (by omega), ht, List.getElem?_drop, show k + (j - k) = j by omega]
  unfold rowOver at h
  split at h
  · replace h := need_out h
    obtain ⟨hkk, h⟩ := h
    obtain rfl := of_decide_eq_true hkk
    have g := hget _ _ 0 hk hk2
    exact ⟨_, h, g.1, fun _ _ => trivial, fun j hj => by simp only [Row.get]; rw [g.2.1 j hj], fun j hj => by simp only [Row.get]; rw [g.2.2 j hj]⟩
  · have g := hget _ _ ByteArray.empty hk hk2
    exact ⟨_, h, g.1, fun _ _ => trivial, fun j hj => by simp only [Row.get]; rw [g.2.1 j hj], fun j hj => by simp only [Row.get]; rw [g.2.2 j hj]⟩
  · have g := hget _ _ false hk hk2
    exact ⟨_, h, g.1, fun _ _ => trivial, fun j hj => by simp only [Row.get]; rw [g.2.1 j hj], fun j hj => by simp only [Row.get]; rw [g.2.2 j hj]⟩
  · rename_i n1 g1 n2 g2
    have hb : ∀ j, Nat.blt j k = decide (j < k) := fun j => by rw [Bool.eq_iff_iff]; simp [Nat.blt_eq]
    simp only [Row.len] at hk hk2
    refine ⟨_, h, rfl, fun h1 h2 j hj => ?_, fun j hj => ?_, fun j hj => ?_⟩
    · show AV.imm (bif Nat.blt j k then g2 j else g1 j) = true
      rw [hb]
      by_cases e : j < k
      · simp only [e, decide_true, cond_true]; exact h2 j (by omega)
      · simp only [e, decide_false, cond_false]; exact h1 j hj
    · show (bif Nat.blt j k then g2 j else g1 j) = g2 j
      rw [hb]; simp [hj]
    · show (bif Nat.blt j k then g2 j else g1 j) = g1 j
      rw [hb, decide_eq_false (by omega)]; rfl
  · exact h.elim
theorem run_copy_any {w : World} {t t' ty e : TypeId} {b dLen dCap n c : Nat} {a : Option Addr} {cur : Array Value} {ety : TypeId} {news : List Value} (ht : P.underlying t = some (.slice e)) (hp : 0 < P.cellsOf e)
    (hh : w.heap[b]? = some (.cells cur ety (0, 0))) (ha : a = none → n = 0) (hl : news.length = n * P.cellsOf e) (hc : ∀ ad, a = some ad → ∀ (j : Nat) (u : Value), news[j]? = some u → w.cell? (ad.add j) = some u)
    (h1 : ∀ u ∈ news, u.oneCell' = true) (hfit : dLen * P.cellsOf e ≤ cur.size) :
    (Builtin.copy_ #[t, t'] ty #[.slice (some ⟨b, 0, none⟩) dLen dCap, .slice a n c]).run P w = .ok (.int .i64 ((min n dLen : Nat) : Int)) (w.setRow b ((news.take (min n dLen * P.cellsOf e)) ++ cur.toList.drop (min n dLen * P.cellsOf e)).toArray) := by
  have hmin : Nat.min n dLen = min n dLen := rfl
  have hle : min n dLen * P.cellsOf e ≤ news.length := by rw [hl]; exact Nat.mul_le_mul_right _ (Nat.min_le_left _ _)
  have hlen : (news.take (min n dLen * P.cellsOf e)).length = min n dLen * P.cellsOf e := by rw [List.length_take]; omega
  have hfit' : min n dLen * P.cellsOf e ≤ cur.size := Nat.le_trans (Nat.mul_le_mul_right _ (Nat.min_le_right _ _)) hfit
  have hfc : (Builtin.firstCells (P.cellsOf e) (min n dLen) (.slice a n c)).run P w = .ok (news.take (min n dLen * P.cellsOf e)).toArray w := by
    cases a with
    | none =>
      have := ha rfl
      subst this
      have hn : news = [] := List.eq_nil_of_length_eq_zero (by simpa using hl)
      subst hn
      simp [Builtin.firstCells]
    | some ad =>
      refine run_firstCells_some (P := P) (w := w) _ _ ad n c _ hlen fun j u hu => hc ad rfl j u ?_
      rw [List.getElem?_take] at hu
      split at hu
      · exact hu
      · cases hu
  have hst := run_storeCells_at (P := P) b 0 ety (news.take (min n dLen * P.cellsOf e)) 0 cur w hh (by rw [hlen]; omega) fun u hu => h1 u (List.mem_of_mem_take hu)
  simp only [Nat.zero_add, List.take_zero, List.nil_append, hlen] at hst
  simp only [Builtin.copy_, Builtin.lenOf]
  simp [run_underlying ht, hmin, run_sizeOf_pos hp, hfc, hst, goInt]
theorem sound_copyQ {c : Call} {x0 x1 : AV} {K : AV → Store → Prop} (ho : o.op = .call c) (hc : c.callee = .builtin .copy) (hx : c.args.toList.map ev = [x0, x1]) (h : copyQ P s c.argTypes.toList x0 x1 K) : ∃ r s', K r s' ∧ EY P o s ev r s' := by
  obtain ⟨a, b, hab, rfl, rfl⟩ := map2 hx
  have hma : a ∈ o.op.operands.toList := by simp [ho, Op.operands, Call.operands, hc, hab]
  have hmb : b ∈ o.op.operands.toList := by simp [ho, Op.operands, Call.operands, hc, hab]
  unfold copyQ at h
  split at h
  · rename_i t t' hts
    have hts := arr2 hts
    split at h
    · rename_i e ht
      split at h
      · rename_i id n0 hev
        split at h
        · rename_i ob hob
          replace h := need_out h
          obtain ⟨hq, hn0, n, r2, hrow, hok2, hsz, h⟩ := h
          simp only [Bool.and_eq_true, beq_iff_eq] at hq
          obtain ⟨⟨⟨hro, hesz⟩, hp⟩, hmbf⟩ := hq
          have hmbf : ob.mb = false := by simpa using hmbf
          have hro : ob.ro = false := by simpa using hro
          have hp : 0 < P.cellsOf e := by simpa using hp
          have he : ∀ ρ, execOp ρ o = (do pure (.value (← Builtin.copy_ #[t, t'] o.type #[ρ a, ρ b]))) := fun ρ => by rw [exec_builtin ho hc, hts, hab]; simp [builtin]
          have core : n0 ≤ ob.row.len → ∃ r s', K r s' ∧ EY P o s ev r s' := fun hn0 => by
            obtain ⟨row, hK, hlen, hok, hlow, hhigh⟩ := rowOver_out h (Nat.le_trans (Nat.min_le_right _ _) hn0) (by rw [hrow.1]; exact Nat.min_le_left _ _)
            refine ⟨_, _, hK, EY.made he fun V w cx ρ S R => ?_⟩
            have hra := R a hma
            rw [hev] at hra
            generalize ρ a = va at hra
            obtain ⟨sa, sc, news, q1, q2, q3, q4, q5, q6⟩ := source S hrow (R b hmb) hsz hp
            rw [q1]
            cases hra with
            | ms _ _ cap en hen hnn hn hcap htot hmax =>
              obtain ⟨cur, RO⟩ := S.obj id en ob hen hob hnn
              have hes : en.esz = P.cellsOf e := by rw [RO.esz, hesz]
              have hfit : n0 * P.cellsOf e ≤ cur.size := by
                rw [RO.tot]
                have h1 := RO.fits
                rw [hes] at h1
                exact Nat.le_trans (Nat.mul_le_mul_right _ hn) h1
              have hrun := run_copy_any (P := P) (w := w) (t := t) (t' := t') (ty := o.type) (dCap := cap) (c := sc) ht hp RO.heap q2 q3 q4 q5 hfit
              have hle : min n n0 * P.cellsOf e ≤ news.length := by rw [q3]; exact Nat.mul_le_mul_right _ (Nat.min_le_left _ _)
              have hfit' : min n n0 * P.cellsOf e ≤ cur.size := Nat.le_trans (Nat.mul_le_mul_right _ (Nat.min_le_right _ _)) hfit
              obtain ⟨S', E⟩ := S.update hen hob hnn hro RO row ((news.take (min n n0 * P.cellsOf e)) ++ cur.toList.drop (min n n0 * P.cellsOf e)).toArray hlen (hok RO.ok hok2)
                (by simp; omega)
                (fun j hj => by
                  by_cases hjk : j < min n n0
                  · rw [hlow j hjk, hsz j (by omega), hesz]
                  · rw [hhigh j (by omega)]; exact RO.size j hj)
                (fun j c x hj hx => by
                  rw [List.getElem?_toArray]
                  have htk : (news.take (min n n0 * P.cellsOf e)).length = min n n0 * P.cellsOf e := by rw [List.length_take]; omega
                  by_cases hjk : j < min n n0
                  · rw [hlow j hjk] at hx
                    obtain ⟨u, hu, h1, h2⟩ := q6 j c x (by omega) hx
                    have hcs : c < P.cellsOf e := by have := AV.cell_lt hx; rw [hsz j (by omega)] at this; exact this
                    have hlt : j * P.cellsOf e + c < min n n0 * P.cellsOf e := by
                      have := Nat.mul_le_mul_right (P.cellsOf e) (show j + 1 ≤ min n n0 from hjk)
                      rw [Nat.add_mul, Nat.one_mul] at this
                      omega
                    refine ⟨u, ?_, h1, h2⟩
                    rw [hes, List.getElem?_append_left (by omega), List.getElem?_take, if_pos hlt]
                    exact hu
                  · rw [hhigh j (by omega)] at hx
                    obtain ⟨u, hu, h1, h2⟩ := RO.cells j c x hj hx
                    have hge : min n n0 * P.cellsOf e ≤ j * P.cellsOf e := Nat.mul_le_mul_right _ (by omega)
                    refine ⟨u, ?_, h1, h2⟩
                    rw [hes] at hu ⊢
                    rw [List.getElem?_append_right (by omega), htk, List.getElem?_drop, show min n n0 * P.cellsOf e + (j * P.cellsOf e + c - min n n0 * P.cellsOf e) = j * P.cellsOf e + c by omega]
                    simpa using hu)
              exact ⟨_, _, hrun, cx, E _, S', .int .i64 _⟩
            | ms0 _ en hen hnn => rw [S.may id en ob hen hob hmbf] at hnn; cases hnn
          exact core hn0
        · exact h.elim
      · exact h.elim
    · exact h.elim
  · exact h.elim
theorem sound_min {c : Call} {k : IntKind} {x y : Int} (ho : o.op = .call c) (hc : c.callee = .builtin .min) (hx : c.args.toList.map ev = [.int k x, .int k y]) : EY P o s ev (.int k (min x y)) s := by
  obtain ⟨a1, a2, hab, h1, h2⟩ := map2 hx
  have hma : a1 ∈ o.op.operands.toList := by simp [ho, Op.operands, Call.operands, hc, hab]
  have hmb : a2 ∈ o.op.operands.toList := by simp [ho, Op.operands, Call.operands, hc, hab]
  have he : ∀ ρ, execOp ρ o = (do pure (.value (← Builtin.min_ c.argTypes o.type #[ρ a1, ρ a2]))) := fun ρ => by rw [exec_builtin ho hc, hab]; simp [builtin]
  refine EY.value he fun V w cx ρ S R => ?_
  have e1 := (h1 ▸ R a1 hma).int_inv
  have e2 := (h2 ▸ R a2 hmb).int_inv
  refine ⟨.int k (min x y), ?_, .int k _⟩
  simp only [Builtin.min_, Builtin.min2, e1, e2]
  simp [Builtin.min2]
  split <;> congr 1 <;> omega
theorem sound_max {c : Call} {k : IntKind} {x y : Int} (ho : o.op = .call c) (hc : c.callee = .builtin .max) (hx : c.args.toList.map ev = [.int k x, .int k y]) : EY P o s ev (.int k (max x y)) s := by
  obtain ⟨a1, a2, hab, h1, h2⟩ := map2 hx
  have hma : a1 ∈ o.op.operands.toList := by simp [ho, Op.operands, Call.operands, hc, hab]
  have hmb : a2 ∈ o.op.operands.toList := by simp [ho, Op.operands, Call.operands, hc, hab]
  have he : ∀ ρ, execOp ρ o = (do pure (.value (← Builtin.max_ c.argTypes o.type #[ρ a1, ρ a2]))) := fun ρ => by rw [exec_builtin ho hc, hab]; simp [builtin]
  refine EY.value he fun V w cx ρ S R => ?_
  have e1 := (h1 ▸ R a1 hma).int_inv
  have e2 := (h2 ▸ R a2 hmb).int_inv
  refine ⟨.int k (max x y), ?_, .int k _⟩
  simp only [Builtin.max_, Builtin.max2, e1, e2]
  simp [Builtin.max2]
  split <;> congr 1 <;> omega
end
end Go.SE
