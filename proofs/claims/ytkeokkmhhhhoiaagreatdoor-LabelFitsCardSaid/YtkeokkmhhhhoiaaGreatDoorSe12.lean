/- The shadow evaluator, part 12: calls; every operation. No condition. -/
import Derived.Test.YtkeokkmhhhhoiaaGreatDoorSe11b
import Derived.Laws.IdiomStrings
namespace Go.SE
open Go
set_option linter.unusedVariables false
variable {L : Laid}
set_option linter.unusedSimpArgs false

section
variable {P : PL} {s : Store}
theorem roAll_keeps : ∀ (ids : List Nat) (s : Store) (i : Nat) (o : MObj), s[i]? = some (some o) → ∃ o', (roAll s ids)[i]? = some (some o') ∧ (o.ro = true → o'.ro = true)
  | [], s, i, o, h => ⟨o, h, fun h => h⟩
  | k :: ks, s, i, o, h => by
    unfold roAll
    split
    · rename_i ok hk
      by_cases hki : k = i
      · subst hki
        have hlt := (List.getElem?_eq_some_iff.1 hk).1
        obtain ⟨o', h1, h2⟩ := roAll_keeps ks (s.set k (some { ok with ro := true })) k { ok with ro := true } (by rw [List.getElem?_set, if_pos rfl, if_pos hlt])
        exact ⟨o', h1, fun _ => h2 rfl⟩
      · exact roAll_keeps ks _ i o (by rw [List.getElem?_set, if_neg hki]; exact h)
    · exact roAll_keeps ks s i o h
theorem roAll_ro : ∀ (ids : List Nat) (s : Store) (i : Nat) (o : MObj), i ∈ ids → s[i]? = some (some o) → ∃ o', (roAll s ids)[i]? = some (some o') ∧ o'.ro = true
  | [], s, i, o, hi, h => by cases hi
  | k :: ks, s, i, o, hi, h => by
    unfold roAll
    by_cases hki : i = k
    · subst hki
      have hlt := (List.getElem?_eq_some_iff.1 h).1
      split
      · rename_i ok hk
        obtain ⟨o', h1, h2⟩ := roAll_keeps ks (s.set i (some { ok with ro := true })) i { ok with ro := true } (by rw [List.getElem?_set, if_pos rfl, if_pos hlt])
        exact ⟨o', h1, h2 rfl⟩
      · rename_i hno
        exact absurd h (hno o)
    · have hi' : i ∈ ks := (List.mem_cons.1 hi).resolve_left hki
      split
      · rename_i ok hk
        exact roAll_ro ks _ i o hi' (by rw [List.getElem?_set, if_neg (fun h => hki h.symm)]; exact h)
      · exact roAll_ro ks s i o hi' h
theorem Wr.none {b : Nat} : ¬ Wr [] [] b := by rintro ⟨i, e, o, h, _⟩; simp at h
theorem RelSt.none {V : Nat → Prop} {w : World} (G : Glob L w V) (hV : ∀ b, V b → b < w.heap.size) : RelSt L V w [] [] where
  low := hV
  len := rfl
  obj i e o h := by simp at h
  vir i e o h := by simp at h
  may i e o h := by simp at h
  apart i e o h := by simp at h
  inj i j ei ej oi oj h := by simp at h
  glob := G.move (Nat.le_refl _) (fun _ _ _ => rfl) fun b _ hA hA' => hA (hA'.elim id fun h => absurd h Wr.none)
/-- A call by values: what the machine does. -/
theorem callAny_cases {g : FuncId} {avs : List AV} {K : AV → Store → Prop} (h : callAny P g avs s K) : callPure P g avs s K ∨ callOwn P g avs s K := by
  unfold callAny at h
  unfold callPure
  split at h
  · exact h
  · exact .inr h
theorem call_own {g : FuncId} {avs : List AV} {K : AV → Store → Prop} (h : callOwn P g avs s K) : ∃ r s', K r s' ∧ (∃ fn, P.funcs[g]? = some fn ∧ fn.body.isNone = false ∧ (fn.name == "runtime.NumGoroutine") = false) ∧
    ∀ V w cx (vs : List Value), RelSt P.laid V w cx s → avs.length = vs.length → (∀ (i : Nat) (x : AV) (v : Value), avs[i]? = some x → vs[i]? = some v → Rel w cx (Av V cx s) x v) →
      Calls P g vs.toArray w fun e w' => ∃ u, e = .returned u ∧ ∃ cx', Ext s.length V w w' cx cx' s s' ∧ RelSt P.laid V w' cx' s' ∧ Rel w' cx' (Av V cx' s') r u := by
  obtain ⟨r, s', ⟨hfn, hC⟩, hK⟩ := h
  refine ⟨r, s', hK, hfn, fun V w cx vs S hlen R => (hC V w cx vs S hlen R).mono ?_⟩
  rintro e w' ⟨v, cx', he, E, S', R'⟩
  exact ⟨v, he, cx', E, S', R'⟩
theorem call_pure {g : FuncId} {avs : List AV} {K : AV → Store → Prop} (h : callPure P g avs s K) : ∃ r s', K r s' ∧ (∃ fn, P.funcs[g]? = some fn ∧ fn.body.isNone = false ∧ (fn.name == "runtime.NumGoroutine") = false) ∧
    ∀ V w cx (vs : List Value), RelSt P.laid V w cx s → avs.length = vs.length → (∀ (i : Nat) (x : AV) (v : Value), avs[i]? = some x → vs[i]? = some v → Rel w cx (Av V cx s) x v) →
      Calls P g vs.toArray w fun e w' => ∃ u, e = .returned u ∧ ∃ cx', Ext s.length V w w' cx cx' s s' ∧ RelSt P.laid V w' cx' s' ∧ Rel w' cx' (Av V cx' s') r u := by
  unfold callPure at h
  split at h
  · rename_i args' hargs
    obtain ⟨r, ⟨hfn, hC⟩, himm, hK⟩ := h
    obtain ⟨hl, hget⟩ := optMap_get hargs
    refine ⟨r, _, hK, hfn, fun V w cx vs S hlen R => ?_⟩
    cases hsc : r.scalar with
    | true =>
      have hargsR : ∀ (i : Nat) (x : AV) (v : Value), args'[i]? = some x → vs[i]? = some v → Rel w [] (Av (fun _ => False) [] []) x v := fun i x v hx hv => by
        obtain ⟨y, hy, hsy⟩ := hget i x hx
        exact ((R i y v hy hv).snapped S (A' := Av (fun _ => False) [] []) (fun b hb => hb.elim False.elim fun h => absurd h Wr.none) 6 y x v hsy (fun _ _ _ _ _ _ _ hb => hb.elim False.elim fun h => absurd h Wr.none)).1
      refine (hC (fun _ => False) w [] vs (RelSt.none (S.glob.move (Nat.le_refl _) (fun _ _ _ => rfl) fun _ _ _ h => h) fun _ h => h.elim) (by omega) hargsR).mono ?_
      rintro e w' ⟨v, cx', he, E, S', R'⟩
      have hk : ∀ b, b < w.heap.size → w'.heap[b]? = w.heap[b]? := fun b hb => E.keep b hb Wr.none
      exact ⟨v, he, cx, Ext.grown E.os E.tape E.output E.size hk, S.grown E.size hk, R'.scalar_move hsc⟩
    | false =>
      have F := Fewer.roAll (avs.flatMap (snapIds 6 s)) s
      have S1 := S.fewer F
      have hargsR : ∀ (i : Nat) (x : AV) (v : Value), args'[i]? = some x → vs[i]? = some v → Rel w [] (Av (Av V cx (roAll s (avs.flatMap (snapIds 6 s)))) [] []) x v := fun i x v hx hv => by
        obtain ⟨y, hy, hsy⟩ := hget i x hx
        refine ((R i y v hy hv).snapped S (A' := Av (Av V cx (roAll s (avs.flatMap (snapIds 6 s)))) [] []) (fun b hb => ?_) 6 y x v hsy fun id hid e o he ho hn hb => ?_).1
        · rcases hb with hb | hb
          · exact hb.imp (fun h => h) F.back
          · exact absurd hb Wr.none
        · rcases hb with hb | hb
          · obtain ⟨o', h1, h2⟩ := roAll_ro (avs.flatMap (snapIds 6 s)) s id o (List.mem_flatMap.2 ⟨y, List.mem_of_getElem? hy, hid⟩) ho
            exact ro_notAv S1 he h1 hn h2 hb
          · exact absurd hb Wr.none
      refine (hC (Av V cx (roAll s (avs.flatMap (snapIds 6 s)))) w [] vs (RelSt.none S1.glob fun b h => Av.lt S1 h) (by omega) hargsR).mono ?_
      rintro e w' ⟨v, cx', he, E, S', R'⟩
      have hk : ∀ b, b < w.heap.size → w'.heap[b]? = w.heap[b]? := fun b hb => E.keep b hb Wr.none
      exact ⟨v, he, cx, (Ext.fewer (w := w) (cx := cx) F).trans (Ext.grown E.os E.tape E.output E.size hk), S1.grown E.size hk,
        R'.imm_move (Nat.le_refl _) (fun _ _ _ => rfl) (fun b _ hA hA' => hA (.inl hA')) himm⟩
  · exact h.elim
section
variable {o : Oper} {ev : Operand → AV}
theorem bytes_run {w : World} {A : Nat → Prop} {nl : Option Bool} {n : Nat} {get : Nat → AV} {v : Value} {src dst e : TypeId} (hs : P.underlying src = some (.slice e)) (he : P.underlying e = some (.int .u8)) (hd : P.underlying dst = some .string) (R : Rel w [] A (.sl nl n get) v)
    (l : List Int) (hl : l.length = n) (hg : ∀ j, j < n → get j = .int .u8 (l.getD j 0)) : (convert src dst v).run P w = .ok (.string (strOfNums l)) w := by
  cases R with
  | sl _ _ _ a cap esz vals hnil hcap hmax hz hmem himm hrel =>
    by_cases h0 : 0 < n
    · obtain ⟨b, off, rfl, _, _, hm⟩ := hmem h0
      have hesz : esz = 1 := by have := (himm 0 h0).2; rw [hg 0 h0] at this; exact this.symm
      subst hesz
      refine run_convert_bytes_arg w src e hs he b off n cap l hl (fun i hi => ?_) dst hd
      have hc : (get i).cells[0]? = some (.int .u8 (l.getD i 0)) := by rw [hg i hi]; rfl
      have m := (hm i 0 _ hi hc).1
      have r := hrel i 0 _ hi hc
      rw [r.int_inv] at m
      simpa using m
    · have hn : n = 0 := by omega
      subst hn
      have hl0 : l = [] := List.eq_nil_of_length_eq_zero hl
      subst hl0
      cases a with
      | none => exact run_convert_bytes_nil w src e hs he 0 cap dst hd
      | some ad =>
        have h := run_loadCells_list (P := P.toProgram) w ad [] (fun j v h => by simp at h)
        rw [run_convert_bytes_string w src dst e (some ad) 0 cap hs he hd, run_bytesToString w ad 0 cap [] (by simpa using h)]
        rfl
theorem lies_one {u : TypeId} {count : Nat} (hc : 0 < P.cellsOf u) (h : 1 ≤ count) : liesAt P.toProgram P.toProgram.depth u count 0 u 1 = true := by
  have hd : P.toProgram.depth = (2 * (P.toProgram.types.size + Made.depth) + 1) + 1 := rfl
  rw [hd]
  simp only [liesAt, Bool.or_eq_true]
  left
  rw [hd]
  have hne : P.cellsOf u ≠ 0 := by omega
  simp [rowAt, hne, h, sameLayout]
theorem row_mono {fits : TypeId → Bool} {d : Nat} {e : TypeId} {off n count : Nat} (hc : 0 < P.cellsOf e) (h : 1 ≤ count) (hr : rowAt P.toProgram fits d e 1 off n = true) : rowAt P.toProgram fits d e count off n = true := by
  cases d with
  | zero => cases hr
  | succ d =>
    have hne : P.cellsOf e ≠ 0 := by omega
    simp only [rowAt, hne, if_false, Bool.or_eq_true, Bool.and_eq_true, decide_eq_true_eq] at hr ⊢
    rcases hr with ⟨⟨h1, h2⟩, h3⟩ | ⟨h1, h2⟩
    · exact .inl ⟨⟨h1, by omega⟩, h3⟩
    · exact .inr ⟨by omega, h2⟩
theorem lies_mono {e : TypeId} {off count : Nat} (hc : 0 < P.cellsOf e) (h : 1 ≤ count) : ∀ {d : Nat} {u : TypeId} {n : Nat}, liesAt P.toProgram d e 1 off u n = true → liesAt P.toProgram d e count off u n = true
  | 0, _, _, hr => hr
  | d + 1, u, n, hr => by
    simp only [liesAt, Bool.or_eq_true] at hr ⊢
    rcases hr with hr | hr
    · exact .inl (row_mono hc h hr)
    · refine .inr ?_
      split at hr
      · exact lies_mono hc h hr
      · cases hr
theorem sound_convertQ {a b : TypeId} {x : Operand} {K : AV → Prop} (ho : o.op = .convert a b x) (h : convertQ P s a b (ev x) K) : ∃ r, K r ∧ EY P o s ev r s := by
  have hx : x ∈ o.op.operands.toList := by simp [ho, Op.operands]
  unfold convertQ at h
  split at h
  · rename_i d k k' n ha hb he
    refine ⟨_, h, EY.value (sem := fun ρ => convert a b (ρ x)) (fun ρ => by simp [execOp, ho]) fun V w cx ρ S R => ⟨conc _, ?_, .conc_int _ _⟩⟩
    have e := R x hx; rw [he] at e; rw [e.int_inv]; simp [convert, run_underlying ha, run_underlying hb, Conv.intToInt, conc]
  · rename_i d st ha hb he
    refine ⟨_, h, EY.value (sem := fun ρ => convert a b (ρ x)) (fun ρ => by simp [execOp, ho]) fun V w cx ρ S R => ⟨conc _, ?_, .conc_str _⟩⟩
    have e := R x hx; rw [he] at e; rw [e.str_inv]; simp [convert, run_underlying ha, run_underlying hb, conc]
  · rename_i e y ha hb _
    unfold bytesQ at h
    split at h
    · rename_i nl n get he hsn
      obtain ⟨l, hl, hg, hK⟩ := h
      refine ⟨_, hK, EY.value (sem := fun ρ => convert a b (ρ x)) (fun ρ => by simp [execOp, ho]) fun V w cx ρ S R => ⟨conc _, ?_, .conc_str _⟩⟩
      have R1 := (Rel.snapped S (A' := fun _ => False) (fun b h => h.elim) 6 _ _ _ hsn (R x hx) (fun _ _ _ _ _ _ _ h => h)).1
      exact bytes_run ha he hb R1 l hl hg
    · exact h.elim
  · rename_i t id i off ha hb hev
    split at h
    · rename_i ob hob
      obtain ⟨hq, hK⟩ := need_out h
      simp only [Bool.and_eq_true] at hq
      obtain ⟨hi, hc, hoff⟩ := hq
      refine ⟨_, hK, EY.value (sem := fun ρ => convert a b (ρ x)) (fun ρ => by simp [execOp, ho]) fun V w cx ρ S R => ?_⟩
      have hrx := R x hx
      rw [hev] at hrx
      obtain ⟨e, cur, he, hnn, hlt, hv, RO⟩ := hrx.mp_inv S hob
      obtain ⟨j, hj⟩ := Option.isSome_iff_exists.1 hi
      obtain ⟨j', hj', hsz, _⟩ := info_of_pos hj
      refine ⟨ρ x, ?_, hrx⟩
      rw [hv]
      have hc' : 0 < P.cellsOf t := by simpa using hc
      have hoff' : off < ob.esz := by simpa using hoff
      refine Lib.run_to_unsafe w _ ha hb hj (by omega) (e := ob.ety) (cells := cur.size) RO.shape ?_
      show i * e.esz + off < cur.size
      have h1 := RO.fits
      have h2 := RO.tot
      have h3 := RO.esz
      have h4 : (i + 1) * e.esz ≤ e.len * e.esz := Nat.mul_le_mul_right _ hlt
      rw [Nat.add_mul, Nat.one_mul] at h4
      omega
    · exact h.elim
  · rename_i u id i off ha hb hev
    split at h
    · rename_i ob hob
      obtain ⟨hq, hK⟩ := need_out h
      simp only [Bool.and_eq_true, beq_iff_eq] at hq
      obtain ⟨hi0, hesz, hc, hi⟩ := hq
      obtain rfl := Nat.eq_of_beq_eq_true hi0
      have hc' : 0 < P.cellsOf ob.ety := by simpa using hc
      have hK' : K (.mp id 0 off) ∧ ∀ count, 1 ≤ count → liesAt P.toProgram P.toProgram.depth ob.ety count off u 1 = true := by
        split at hK
        · rename_i hq
          simp only [Bool.and_eq_true, beq_iff_eq] at hq
          obtain ⟨h0, hety⟩ := hq
          obtain rfl := Nat.eq_of_beq_eq_true h0
          subst hety
          exact ⟨hK, fun count hcount => lies_one hc' hcount⟩
        · exact ⟨hK.2, fun count hcount => lies_mono hc' hcount (liesQ_out hK.1)⟩
      obtain ⟨hK, hlies⟩ := hK'
      refine ⟨_, hK, EY.value (sem := fun ρ => convert a b (ρ x)) (fun ρ => by simp [execOp, ho]) fun V w cx ρ S R => ?_⟩
      have hrx := R x hx
      rw [hev] at hrx
      obtain ⟨e, cur, he, hnn, hlt, hv, RO⟩ := hrx.mp_inv S hob
      obtain ⟨j, hj⟩ := Option.isSome_iff_exists.1 hi
      refine ⟨ρ x, ?_, hrx⟩
      rw [hv]
      have hcount : 1 ≤ cur.size / P.cellsOf ob.ety := by
        rw [Nat.le_div_iff_mul_le hc', Nat.one_mul]
        have h1 := RO.fits
        have h2 := RO.tot
        have h3 := RO.esz
        have h4 : 1 * e.esz ≤ e.len * e.esz := Nat.mul_le_mul_right _ hlt
        omega
      refine Lib.run_from_unsafe w _ ha hb hj (e := ob.ety) (cells := cur.size) RO.shape ?_
      show liesAt P.toProgram P.toProgram.depth ob.ety (cur.size / P.cellsOf ob.ety) (0 * e.esz + off) u 1 = true
      rw [Nat.zero_mul, Nat.zero_add]
      exact hlies _ hcount
    · exact h.elim
  · exact h.elim
theorem runes_cells (t : ByteArray) : ∀ (n i : Nat) (acc : Array Value) (l : List Int), acc.toList = l.map (Value.int .i32) → ∃ l' : List Int, (Conv.runesFrom t n i acc).toList = l'.map (Value.int .i32)
  | 0, i, acc, l, h => ⟨l, h⟩
  | n + 1, i, acc, l, h => by
    unfold Conv.runesFrom
    split
    · exact runes_cells t n _ _ (l ++ [Int.ofNat (Utf8.decode t i).1]) (by rw [Array.toList_push, h, List.map_append]; rfl)
    · exact ⟨l, h⟩
theorem runesL_cells (t : ByteArray) : (Conv.runesFrom t t.size 0 #[]).toList = (runesL t).map (Value.int .i32) := by
  obtain ⟨l, h⟩ := runes_cells t t.size 0 #[] [] rfl
  unfold runesL
  rw [h]
  simp
theorem sound_runesQ {a b e : TypeId} {x : Operand} {t : ByteArray} {K : AV → Store → Prop} (ho : o.op = .convert a b x) (ha : P.underlying a = some .string) (hb : P.underlying b = some (.slice e)) (hev : ev x = .str t) (h : runesQ P s e t K) : ∃ r s', K r s' ∧ EY P o s ev r s' := by
  have hx : x ∈ o.op.operands.toList := by simp [ho, Op.operands]
  unfold runesQ at h
  split at h
  · rename_i he
    replace h := need_out h
    obtain ⟨hc, hsz, hK⟩ := h
    refine ⟨_, _, hK, EY.made (sem := fun ρ => convert a b (ρ x)) (fun ρ => by simp [execOp, ho]) fun V w cx ρ S R => ?_⟩
    have e0 := R x hx
    rw [hev] at e0
    rw [e0.str_inv]
    have hn := size_runesFrom t t.size 0 #[]
    have hl : (Conv.runesFrom t t.size 0 #[]).size = (runesL t).length := by rw [← Array.length_toList, runesL_cells, List.length_map]
    have hr := run_runes_of_string (P := P.toProgram) w a b e t ha hb he (by simp at hn; omega)
    rw [hl] at hr
    refine ⟨_, _, hr, ?_⟩
    have hge := grownCap_ge w (runesL t).length 0 e
    have hg : w.grownBy (w.drew.alloc (.cells (Conv.runesFrom t t.size 0 #[] ++ Array.replicate (grownCap w (runesL t).length 0 e - (runesL t).length) (.int .i32 0)) e)) none := ⟨rfl, rfl, rfl, by simp, fun k hk _ => heap_alloc_old w.drew _ k hk⟩
    have hk : ∀ b, b < w.heap.size → (w.drew.alloc (.cells (Conv.runesFrom t t.size 0 #[] ++ Array.replicate (grownCap w (runesL t).length 0 e - (runesL t).length) (.int .i32 0)) e)).heap[b]? = w.heap[b]? := fun b hb => hg.block b hb (by simp)
    have hcs : (Conv.runesFrom t t.size 0 #[] ++ Array.replicate (grownCap w (runesL t).length 0 e - (runesL t).length) (Value.int .i32 0)).size = grownCap w (runesL t).length 0 e := by
      rw [Array.size_append, hl, Array.size_replicate]; omega
    obtain ⟨S3, E3⟩ := S.add (s1 := s) rfl (fun i o ho => ho) ⟨w.heap.size, 1, (runesL t).length, grownCap w (runesL t).length 0 e, false⟩ ⟨1, e, .ints .i32 (runesL t), false, false⟩ _ hg.os hg.tape hg.output hg.size (fun b hb _ => hk b hb)
      (fun i e' o' he' ho' hn' => by
        obtain ⟨cur', R⟩ := S.obj i e' o' he' ho' hn'
        have hlt := R.lt
        exact ⟨fun h => by simp at h; omega, hk _ hlt⟩)
      (.inl (Nat.le_refl _)) rfl (heap_alloc_new w.drew _) hcs rfl rfl trivial (by show (runesL t).length * 1 ≤ grownCap w (runesL t).length 0 e; omega) (fun j hj => rfl)
      (fun j c x' hj hx => by
        have hj : j < (runesL t).length := hj
        have hx' : (AV.int .i32 ((runesL t).getD j 0)).cells[c]? = some x' := hx
        match c, hx' with
        | c + 1, hx' => cases hx'
        | 0, hx' =>
          cases hx'
          refine ⟨.int .i32 ((runesL t).getD j 0), ?_, rfl, .int _ _⟩
          rw [Nat.mul_one, Nat.add_zero, Array.getElem?_append_left (by rw [hl]; exact hj), ← Array.getElem?_toList, runesL_cells, List.getElem?_map, List.getD_eq_getElem?_getD, List.getElem?_eq_getElem hj]
          rfl)
    exact ⟨_, E3, S3, .ms _ (runesL t).length (grownCap w (runesL t).length 0 e) ⟨w.heap.size, 1, (runesL t).length, grownCap w (runesL t).length 0 e, false⟩ (by rw [← S.len]; simp) rfl (Nat.le_refl _) hge (Nat.mul_one _) (grownCap_le_maxLen w _ 0 e (by simp at hn; simp only [maxLen]; omega))⟩
  · exact h.elim
theorem sound_convQ {a b : TypeId} {x : Operand} {K : AV → Store → Prop} (ho : o.op = .convert a b x) (h : convQ P s a b (ev x) K) : ∃ r s', K r s' ∧ EY P o s ev r s' := by
  unfold convQ at h
  split at h
  · rename_i e t ha hb hev
    exact sound_runesQ ho ha hb hev h
  · obtain ⟨r, hr, hE⟩ := sound_convertQ ho h; exact ⟨r, s, hr, hE⟩
theorem sound_callQ {c : Call} {f : Operand} {K : AV → Store → Prop} (ho : o.op = .call c) (hc : c.callee = .value f) (h : callQ P s (ev f) (c.args.toList.map ev) K) : ∃ r s', K r s' ∧ EY P o s ev r s' := by
  unfold callQ at h
  split at h
  · rename_i g first cap hev
    split at h
    rotate_left
    · split at h
      · rename_i x hxs
        obtain ⟨⟨fn, hfn, hname, hbody, hnext, hfind⟩, hK⟩ := h
        refine ⟨x, s, hK, fun V w cx ρ S R => ?_⟩
        have hmf : f ∈ o.op.operands.toList := by simp [ho, Op.operands, Call.operands, hc]
        have hma : ∀ a ∈ c.args.toList, a ∈ o.op.operands.toList := fun a ha => by simp [ho, Op.operands, Call.operands, hc]; exact .inr (by simpa using ha)
        have hrf := R f hmf
        rw [hev] at hrf
        generalize hpf : ρ f = pf at hrf
        cases hrf with
        | fn _ _ _ first' cap' hl hl' hrel hrel' =>
          have hrel0 : ∀ (l : List Operand), (∀ a ∈ l, a ∈ o.op.operands.toList) → ∀ (as bs : List AV) (as' bs' : List Value), as.length = as'.length → bs.length = bs'.length →
              (∀ (i : Nat) (x : AV) (v : Value), as[i]? = some x → as'[i]? = some v → Rel w cx (Av V cx s) x v) → (∀ (i : Nat) (x : AV) (v : Value), bs[i]? = some x → bs'[i]? = some v → Rel w cx (Av V cx s) x v) →
              as ++ l.map ev ++ bs = [x] → ∃ v, as' ++ l.map ρ ++ bs' = [v] ∧ Rel w cx (Av V cx s) x v := fun l hl as bs as' bs' e1 e2 r1 r2 h => by
            match as, as', l, bs, bs', e1, e2, h with
            | [a], [a'], [], [], [], _, _, h => cases h; exact ⟨a', rfl, r1 0 _ _ rfl rfl⟩
            | [], [], [a], [], [], _, _, h => simp at h; subst h; exact ⟨ρ a, rfl, R a (hl a (by simp))⟩
            | [], [], [], [b], [b'], _, _, h => simp at h; subst h; exact ⟨b', rfl, r2 0 _ _ rfl rfl⟩
          obtain ⟨v, hvs, hv⟩ := hrel0 c.args.toList hma first cap first' cap' hl hl' hrel hrel' hxs
          have hrun : (execOp ρ o).run P w = .ok (.value v) w := by
            have harr : (first'.toArray ++ c.args.map ρ ++ cap'.toArray) = #[v] := by
              apply Array.ext'
              simpa using hvs
            have hcall := run_callFunc_extern (P := P.toProgram) hfn hname hbody hnext hfind #[v] w
            rw [show (Extern.AbiNoEscape.same #[v]).run P.toProgram w = .ok v w from rfl] at hcall
            simp only [execOp, ho, resolve, hc, hpf, Deferred.ofValue, Sem.run_bind, Sem.run_pure, Result.andThen_ok, invoke]
            rw [harr]
            exact hcall
          unfold Gives
          rw [hrun]
          exact ⟨cx, Ext.refl, S, hv⟩
      · exact h.elim
    obtain ⟨r, s', hK, ⟨fn, hfn, hbody, hname⟩, hC⟩ := (callAny_cases h).elim call_pure call_own
    refine ⟨r, s', hK, fun V w cx ρ S R => ?_⟩
    have hmf : f ∈ o.op.operands.toList := by simp [ho, Op.operands, Call.operands, hc]
    have hma : ∀ a ∈ c.args.toList, a ∈ o.op.operands.toList := fun a ha => by simp [ho, Op.operands, Call.operands, hc]; exact .inr (by simpa using ha)
    have hrf := R f hmf
    rw [hev] at hrf
    generalize hpf : ρ f = pf at hrf
    cases hrf with
    | fn _ _ _ first' cap' hl hl' hrel hrel' =>
      have hrun : (execOp ρ o).run P w = .ok (.enter g (first' ++ c.args.toList.map ρ ++ cap').toArray) w := by
        simp only [execOp, ho, resolve, hc, hpf, Deferred.ofValue, Sem.run_bind, Sem.run_pure, Result.andThen_ok, invoke, callFunc, run_program]
        rw [hfn]
        simp only [hname, Bool.false_eq_true, if_false, hbody, Sem.run_pure]
        congr 2
        apply Array.ext'
        simp
      unfold Gives
      rw [hrun]
      refine hC V w cx _ S (by simp [hl, hl']) fun i x v hx hv => ?_
      rw [List.append_assoc, List.getElem?_append] at hx hv
      rw [← hl] at hv
      split at hx
      · rw [if_pos ‹_›] at hv
        exact hrel i x v hx hv
      · rw [if_neg ‹_›] at hv
        rw [List.getElem?_append] at hx hv
        have hlm : (c.args.toList.map ev).length = (c.args.toList.map ρ).length := by simp
        rw [← hlm] at hv
        split at hx
        · rw [if_pos ‹_›] at hv
          rw [List.getElem?_map] at hx hv
          cases hg : c.args.toList[i - first.length]? with
          | none => rw [hg] at hx; cases hx
          | some a =>
            rw [hg] at hx hv
            cases hx; cases hv
            exact R a (hma a (List.mem_of_getElem? hg))
        · rw [if_neg ‹_›] at hv
          exact hrel' _ x v hx hv
  · exact h.elim
theorem sound_storeAny {t : TypeId} {a x : Operand} {K : Store → Prop} (ho : o.op = .store t a x) (h : storeAny P s t (ev a) (ev x) K) : ∃ s', K s' ∧ EY P o s ev .unk s' := by
  unfold storeAny at h
  split at h
  · exact sound_storeQ ho h
  · split at h
    · rename_i v' hv'
      obtain ⟨s', hK, hE⟩ := sound_storeQ (P := P) (o := { o with op := .store t (.tmp 0) (.tmp 1) }) (s := roAll s (snapIds 6 s (ev x))) (t := t) (a := .tmp 0) (x := .tmp 1) (ev := fun y => match y with | .tmp 0 => ev a | _ => v') rfl h
      refine ⟨s', hK, fun V w cx ρ S R => ?_⟩
      have hra := R a (by simp [ho, Op.operands])
      have hrx := R x (by simp [ho, Op.operands])
      have F := Fewer.roAll (snapIds 6 s (ev x)) s
      have S1 := S.fewer F
      have E1 : Ext s.length V w w cx cx s (roAll s (snapIds 6 s (ev x))) := Ext.fewer F
      have hx1 : Rel w cx (Av V cx (roAll s (snapIds 6 s (ev x)))) v' (ρ x) := by
        have q := hrx.snapped S (A' := Av V cx (roAll s (snapIds 6 s (ev x)))) (fun b hb => hb.imp id F.back) 6 _ v' _ hv' (fun id hid e q he hq hn hb => by
          obtain ⟨o', h1, h2⟩ := roAll_ro (snapIds 6 s (ev x)) s id q hid hq
          exact ro_notAv S1 he h1 hn h2 hb)
        exact q.1.imm_move (Nat.le_refl _) (fun _ _ _ => rfl) (fun b _ hA => hA) q.2
      have ha1 := hra.ext E1 S.len
      have G := hE V w cx (fun y => match y with | .tmp 0 => ρ a | _ => ρ x) S1 (fun y hy => by
        simp [Op.operands] at hy
        rcases hy with rfl | rfl
        · exact ha1
        · exact hx1)
      have he : execOp (fun y => match y with | .tmp 0 => ρ a | _ => ρ x) { o with op := .store t (.tmp 0) (.tmp 1) } = execOp ρ o := by simp [execOp, ho]
      unfold Gives at G ⊢
      rw [he] at G
      have fin : ∀ {u : Value} {w' : World}, (∃ cx', Ext (roAll s (snapIds 6 s (ev x))).length V w w' cx cx' (roAll s (snapIds 6 s (ev x))) s' ∧ RelSt P.laid V w' cx' s' ∧ Rel w' cx' (Av V cx' s') .unk u) → ∃ cx', Ext s.length V w w' cx cx' s s' ∧ RelSt P.laid V w' cx' s' ∧ Rel w' cx' (Av V cx' s') .unk u := fun ⟨cx', E, S', r⟩ =>
        ⟨cx', E1.trans (by rw [F.len] at E; exact E), S', r⟩
      split at G
      · exact fin G
      · exact fin G
      · exact G.mono fun e w' ⟨u, hu, g⟩ => ⟨u, hu, fin g⟩
      · exact G.elim
    · exact h.elim
/-- EVERY OPERATION. -/
theorem aop_sound {K : AV → Store → Prop} (h : aop P s ev o K) : ∃ v s', K v s' ∧ EY P o s ev v s' := by
  unfold aop at h
  split at h
  · rename_i x ho; exact ⟨_, _, h, sound_move (.inl ho)⟩
  · rename_i x ho; exact ⟨_, _, h, sound_move (.inr ho)⟩
  · rename_i c a b ho; exact sound_pick ho h
  · rename_i t ho
    split at h
    · rename_i z hz
      split at h
      · rename_i ob hob; exact ⟨_, _, h, sound_alloc ho hz hob⟩
      · exact h.elim
    · exact h.elim
  · rename_i t x ho
    replace h := need_out h
    obtain ⟨hq, h⟩ := h
    simp only [Bool.and_eq_true, beq_iff_eq] at hq
    split at h
    · rename_i ob hob; exact ⟨_, _, h, sound_box ho hq.1 hob⟩
    · exact h.elim
  · rename_i t parts ho
    split at h
    · rename_i v hv; exact ⟨_, _, h, sound_buildQ ho hv⟩
    · exact h.elim
  · rename_i t len parts ho
    split at h
    · rename_i e ht
      split at h
      · rename_i vs hv
        replace h := need_out h
        obtain ⟨hq, h⟩ := h
        simp only [Bool.and_eq_true, beq_iff_eq] at hq
        obtain ⟨⟨⟨h1, h2⟩, h3⟩, h4⟩ := hq
        split at h
        · rename_i row hrow; exact ⟨_, _, h, sound_buildSlice ho ht hv h1 (by simpa using h2) (by simpa using h3) h4 hrow⟩
        · exact h.elim
      · exact h.elim
    · exact h.elim
  · rename_i t a ho
    obtain ⟨r, hr, hE⟩ := sound_loadQ ho h; exact ⟨r, s, hr, hE⟩
  · rename_i t a x ho
    obtain ⟨s', hr, hE⟩ := sound_storeAny ho h; exact ⟨_, s', hr, hE⟩
  · rename_i x ho
    split at h
    · rename_i a he; exact ⟨_, _, h, by have := sound_nilCheck (P := P) (s := s) (ev := ev) ho (.inl ⟨_, he⟩); rwa [he] at this⟩
    · rename_i e off he; exact ⟨_, _, h, by have := sound_nilCheck (P := P) (s := s) (ev := ev) ho (.inr (.inl ⟨_, _, he⟩)); rwa [he] at this⟩
    · rename_i id i off he; exact ⟨_, _, h, by have := sound_nilCheck (P := P) (s := s) (ev := ev) ho (.inr (.inr ⟨_, _, _, he⟩)); rwa [he] at this⟩
    · exact h.elim
  · rename_i op t x y t' ho
    obtain ⟨r, hr, hE⟩ := sound_binQ ho h; exact ⟨r, s, hr, hE⟩
  · rename_i op t x ho
    obtain ⟨r, hr, hE⟩ := sound_unQ ho h; exact ⟨r, s, hr, hE⟩
  · rename_i a b x ho
    exact sound_convQ ho h
  · rename_i t x ho
    split at h
    · exact h.elim
    · rename_i d hne hd
      exact ⟨_, _, h, sound_makeInterface ho hd (fun ms hm => hne ms (by rw [← hm]))⟩
    · exact h.elim
  · rename_i f first cap ho; exact ⟨_, _, h, sound_makeFunc ho⟩
  · rename_i t l c ho
    split at h
    · rename_i e k n k' m ht hl hc
      obtain ⟨rfl, h0, hb, h63, h⟩ := h
      replace h := need_out h
      obtain ⟨hp, h⟩ := h
      split at h
      · rename_i row hrow; exact ⟨_, _, h, sound_makeSlice ho ht hl hc h0 hb h63 (by simpa using hp) hrow⟩
      · exact h.elim
    · exact h.elim
  · rename_i t x lo hi mx ho
    obtain ⟨r, hr, hE⟩ := sound_sliceQ ho h; exact ⟨r, s, hr, hE⟩
  · rename_i t x f ho
    obtain ⟨r, hr, hE⟩ := sound_fieldAddrQ (s := s) ho h; exact ⟨r, s, hr, hE⟩
  · rename_i t x f ho
    obtain ⟨r, hr, hE⟩ := sound_fieldQ (s := s) ho h; exact ⟨r, s, hr, hE⟩
  · rename_i t x i ho
    obtain ⟨r, hr, hE⟩ := sound_indexAddrQ ho h; exact ⟨r, s, hr, hE⟩
  · rename_i t x i ho
    obtain ⟨r, hr, hE⟩ := sound_indexQ (s := s) ho h; exact ⟨r, s, hr, hE⟩
  · rename_i x i ho
    split at h
    · rename_i vs hv
      obtain ⟨hi, h⟩ := need_out h
      exact ⟨_, _, h, sound_extract ho hv (by simpa using hi)⟩
    · exact h.elim
  · rename_i c ho
    split at h
    · rename_i b hc
      unfold builtinQ at h
      split at h
      · rename_i x hx
        obtain ⟨r, hr, hE⟩ := sound_lenQ (s := s) ho hc hx h; exact ⟨r, s, hr, hE⟩
      · rename_i x0 b hx
        exact sound_appendStrQ ho hc hx h
      · rename_i x0 x1 _ hx
        exact sound_appendQ ho hc hx h
      · rename_i x0 x1 hx
        exact sound_copyQ ho hc hx h
      · rename_i x hx
        exact sound_clearQ ho hc hx h
      · rename_i k a k' b hx
        replace h := need_out h
        obtain ⟨hk, h⟩ := h
        obtain rfl := of_decide_eq_true hk
        exact ⟨_, _, h, sound_min ho hc hx⟩
      · rename_i k a k' b hx
        replace h := need_out h
        obtain ⟨hk, h⟩ := h
        obtain rfl := of_decide_eq_true hk
        exact ⟨_, _, h, sound_max ho hc hx⟩
      · rename_i x hx
        obtain ⟨r, hr, hE⟩ := sound_dataQ (s := s) ho hc hx h; exact ⟨r, s, hr, hE⟩
      · rename_i x n hx
        exact sound_textQ ho hc hx h
      · exact h.elim
    · rename_i f hc
      exact sound_callQ ho hc h
    · exact h.elim
  · exact h.elim
theorem sound_buildSliceQ {t e : TypeId} {len : Nat} {parts : Array (Nat × Operand)} {vs : List AV} {row : Row} (ho : o.op = .buildSlice t len parts) (ht : P.underlying t = some (.slice e)) (hv : litElems ev (P.cellsOf e) 0 parts.toList = some vs)
    (hlen : vs.length = len) (hsmall : len * P.cellsOf e ≤ 16777216) (hpos : 0 < P.cellsOf e) (hz : (zeroAV P e).isSome = true) (hrow : mkRow P e vs = some row) {v : AV} (hsn : snapRow false row len = some v) : EY P o s ev v s := by
  refine EY.made (sem := fun ρ => Instr.buildSlice t len (parts.map fun (i, x) => (i, ρ x))) (fun ρ => by simp [execOp, ho]) fun V w cx ρ S R => ?_
  have R' : ∀ p ∈ parts.toList, Rel w cx (Av V cx s) (ev p.2) (ρ p.2) := fun p hp => R p.2 (by simp [ho, Op.operands]; exact ⟨p.1, by simpa using hp⟩)
  have hparts : (parts.map fun (x : Nat × Operand) => (x.1, ρ x.2)).toList = parts.toList.map fun p => (p.1, ρ p.2) := by simp
  obtain ⟨z, hz⟩ := Option.isSome_iff_exists.1 hz
  obtain ⟨i, zv, hi, hzv, hzr, hst⟩ := zeroAV_rel hz w cx (Av V cx s)
  let zs : Array Value := if len * P.cellsOf e = 0 then #[] else zv.cells
  let arr : Array Value := (Array.range (len * P.cellsOf e)).map (zs[· % zs.size]!)
  have hpl : parts.toList.length = len := by
    have key : ∀ (l : List (Nat × Operand)) (i : Nat) (us : List AV), litElems ev (P.cellsOf e) i l = some us → us.length = l.length := by
      intro l
      induction l with
      | nil => intro i us h; cases h; rfl
      | cons p l ih =>
        intro i us h
        unfold litElems at h
        cases hq : (p.1 == i && ((ev p.2).storable && (ev p.2).ncells == P.cellsOf e)) with
        | false => simp only [hq, cond_false] at h; cases h
        | true =>
          simp only [hq, cond_true] at h
          split at h
          · rename_i l' hl'
            cases h
            simp [ih _ _ hl']
          · cases h
    rw [← key _ _ _ hv, hlen]
  obtain ⟨arr', g1, g2, g3, _, g5⟩ := litElems_fill (arr := arr) hv (fun p hp h1 h2 => by rw [((R' p hp).cells h1).1, h2]) (by simp [arr]; rw [← Array.length_toList, hpl]; exact Nat.le_refl _)
  obtain ⟨r1, r2, r3⟩ := mkRow_get hrow
  have elem : ∀ j, j < len → ∃ p, parts.toList[j]? = some p ∧ vs[j]? = some (ev p.2) ∧ row.get j = ev p.2 ∧ (ev p.2).storable = true ∧ (ev p.2).ncells = P.cellsOf e ∧ ∀ c, c < P.cellsOf e → arr'[j * P.cellsOf e + c]? = (ρ p.2).cells[c]? := fun j hj => by
    have hlt : j < parts.toList.length := by omega
    obtain ⟨q1, q2, q3, q4⟩ := g5 j _ (List.getElem?_eq_getElem hlt)
    refine ⟨_, List.getElem?_eq_getElem hlt, q1, ?_, q2, q3, fun c hc => by have := q4 c hc; rwa [Nat.zero_add] at this⟩
    rw [r3 j (by omega), List.getD, q1]
    rfl
  have hsize : arr'.size = len * P.cellsOf e := by rw [g2]; simp [arr]
  obtain ⟨get, rfl, hget, himm⟩ := snapRow_get hsn r2
  have hk : ∀ k, k < w.heap.size → (w.alloc (.cells arr' e)).heap[k]? = w.heap[k]? := fun k hk => heap_alloc_old w _ k hk
  have hsz : w.heap.size ≤ (w.alloc (.cells arr' e)).heap.size := by simp
  have cellAt : ∀ j c x, j < len → (get j).cells[c]? = some x → ∃ u, arr'[j * P.cellsOf e + c]? = some u ∧ u.oneCell' = true ∧ Rel (w.alloc (.cells arr' e)) cx (Av V cx s) x u := fun j c x hj hx => by
    obtain ⟨p, h1, _, h3, h4, h5, h6⟩ := elem j hj
    have hx' : (ev p.2).cells[c]? = some x := by rw [← h3, ← hget]; exact hx
    have hp : p ∈ parts.toList := List.mem_of_getElem? h1
    obtain ⟨_, k2, k3⟩ := (R' p hp).cells h4
    obtain ⟨u, hu, hr⟩ := k3 c x hx'
    exact ⟨u, by rw [h6 c (by rw [← h5]; exact AV.cell_lt hx')]; exact hu, k2 u (by rw [Array.mem_toList_iff]; exact Array.mem_of_getElem? hu), hr.move hsz (fun k hk' _ => hk k hk') (fun _ _ h => h) fun _ _ h => h⟩
  refine ⟨_, w.alloc (.cells arr' e), ?_, cx, Ext.grown rfl rfl rfl hsz hk, S.grown hsz hk, Rel.sl _ len get (some ⟨w.heap.size, 0, none⟩) len (P.cellsOf e) (fun j c => arr'.getD (j * P.cellsOf e + c) undef) (fun b hb => by cases hb; rfl) (Nat.le_refl _) (by have : len ≤ len * P.cellsOf e := Nat.le_mul_of_pos_right _ hpos; simp only [maxLen]; omega) (fun h => by cases h) (fun _ => ?_) (fun j hj => ?_) fun j c x hj hx => ?_⟩
  rotate_left
  · refine ⟨w.heap.size, 0, rfl, fun h => Nat.lt_irrefl _ (Av.lt S h), ⟨_, _, _, heap_alloc_new w _⟩, fun j c x hj hx => ?_⟩
    obtain ⟨u, h1, h2, _⟩ := cellAt j c x hj hx
    have hd : arr'.getD (j * P.cellsOf e + c) undef = u := by simp [Array.getD_eq_getD_getElem?, h1]
    rw [hd]
    refine ⟨?_, h2⟩
    rw [Nat.zero_add, cell_of_row _ w.heap.size _ arr' e (0, 0) (heap_alloc_new w _), h1]
  · obtain ⟨p, _, _, h3, _, h5, _⟩ := elem j hj
    exact ⟨by rw [hget]; exact himm j (by omega), by rw [hget, h3, h5]⟩
  · obtain ⟨u, h1, _, h3⟩ := cellAt j c x hj hx
    have hd : arr'.getD (j * P.cellsOf e + c) undef = u := by simp [Array.getD_eq_getD_getElem?, h1]
    rw [hd]
    exact h3
  have g1' : Instr.fill (fun i => some (i * P.cellsOf e, P.cellsOf e)) arr (parts.toList.map fun p => (p.1, ρ p.2)) = some arr' := g1
  have hns : ¬ len * P.cellsOf e > 2 ^ 24 := by omega
  by_cases h0 : len * P.cellsOf e = 0
  · have hze : zs = #[] := by simp [zs, h0]
    simp only [Instr.buildSlice, Sem.run_bind, run_underlying ht, Result.andThen_ok, run_sizeOf_pos hpos, Sem.run_ite, if_neg hns, Sem.run_pure, if_pos h0, hparts]
    have : (Array.range (len * P.cellsOf e)).map (fun x => (#[] : Array Value)[x % (#[] : Array Value).size]!) = arr := by simp only [arr, hze]
    rw [this, g1']
    simp [newRow]
  · have hze : zs = zv.cells := by simp only [zs, if_neg h0]
    simp only [Instr.buildSlice, Sem.run_bind, run_underlying ht, Result.andThen_ok, run_sizeOf_pos hpos, Sem.run_ite, if_neg hns, Sem.run_pure, if_neg h0, hparts, zeroValue, typeInfo, run_program, hi, hzv]
    have : (Array.range (len * P.cellsOf e)).map (fun x => zv.cells[x % zv.cells.size]!) = arr := by simp only [arr, hze]
    rw [this, g1']
    simp [newRow]
/-- EVERY OPERATION of a region of open order. -/
theorem aopQ_sound {K : AV → Store → Prop} (h : aopQ P s ev o K) : ∃ v s', K v s' ∧ EY P o s ev v s' := by
  unfold aopQ at h
  split at h
  · rename_i t len parts ho
    split at h
    · rename_i e ht
      split at h
      · rename_i vs hv
        replace h := need_out h
        obtain ⟨hq, h⟩ := h
        simp only [Bool.and_eq_true, beq_iff_eq] at hq
        obtain ⟨⟨⟨h1, h2⟩, h3⟩, h4⟩ := hq
        split at h
        · rename_i row hrow
          split at h
          · rename_i v hsn
            exact ⟨_, _, h, sound_buildSliceQ ho ht hv h1 (by simpa using h2) (by simpa using h3) h4 hrow hsn⟩
          · exact h.elim
        · exact h.elim
      · exact h.elim
    · exact h.elim
  · exact aop_sound h
end
end
end Go.SE
