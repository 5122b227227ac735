/- Structs and arrays of many cells: taken out of a block, put into one, indexed, compared. -/
import Derived.Test.YteoicpbfjkjogaaSep
import Derived.WalkSpells
import Derived.KernelRfl
namespace Go.Proofs.Yteoicpbfjkjogaa
open Go Go.RowKit
set_option linter.unusedVariables false
set_option linter.unusedSimpArgs false

section
variable {P : Program} {ops : Array Oper} {o : Oper} {a : Act} {Q : Exit → Act → World → Prop} {rest : List Oper} {W0 w w' : World} {L L1 L2 : List Ent}

/-- One operation whose run is known. -/
theorem wpList_run {v : Value} (hw : Region.wanted o (yielded ops a.tmps) = true) (hrun : (execOp a.eval o).run P w = .ok (.value v) w') (h : wpList P ops Q rest (a.put o.dst v) w') : wpList P ops Q (o :: rest) a w := by
  refine wpList_step fun K hK => ?_
  rw [if_pos hw]
  unfold Oper.wp
  rw [hrun]
  exact hK _ _ h
theorem wpList_skip_run (hw : Region.wanted o (yielded ops a.tmps) = true) (hrun : (execOp a.eval o).run P w = .ok .skip w') (h : wpList P ops Q rest (a.put o.dst undef) w') : wpList P ops Q (o :: rest) a w := by
  refine wpList_step fun K hK => ?_
  rw [if_pos hw]
  unfold Oper.wp
  rw [hrun]
  exact hK _ _ h

def isAggD (d : TypeDesc) : Bool := match d with | .struct _ | .array _ _ => true | _ => false
/-- A struct or an array of n cells. -/
def AggOf (P : Program) (ty : TypeId) (n : Nat) : Prop := (∃ d, P.underlying ty = some d ∧ isAggD d = true) ∧ (P.info? ty).map (·.size) = some n
theorem AggOf.mk' {ty : TypeId} {n : Nat} {d : TypeDesc} (h1 : P.underlying ty = some d) (h2 : isAggD d = true) (h3 : (P.info? ty).map (·.size) = some n) : AggOf P ty n := ⟨⟨d, h1, h2⟩, h3⟩

theorem addr_add (g off j : Nat) : (⟨g, off, none⟩ : Addr).add j = ⟨g, off + j, none⟩ := by
  unfold Addr.add
  split
  · simp_all
  · rfl
theorem run_isAgg {ty n : Nat} (h : AggOf P ty n) (w : World) : (isAgg ty).run P w = .ok true w := by
  obtain ⟨⟨d, hu, hd⟩, _⟩ := h
  unfold isAgg
  rw [Sem.run_bind, run_underlying hu w]
  cases d <;> simp_all [isAggD]
theorem run_load_agg {ty n : Nat} (h : AggOf P ty n) {g off : Nat} {t : TypeId} {cs : Array Value} {fr : Nat × Nat} {vs : List Value} (hg : w.heap[g]? = some (.cells cs t fr)) (hv : (cs.toList.drop off).take n = vs) (hn : vs.length = n) :
    (loadVar ty ⟨g, off, none⟩).run P w = .ok (.agg vs.toArray) w := by
  have hl : (loadCells ⟨g, off, none⟩ vs.length).run P w = .ok vs.toArray w :=
    run_loadCells_list (P := P) w ⟨g, off, none⟩ vs (fun j v hv' => by
      rw [addr_add, cell_of_row w g _ cs t fr hg]
      rw [← hv] at hv'
      rw [List.getElem?_take] at hv'
      split at hv'
      · rw [List.getElem?_drop] at hv'; simpa using hv'
      · cases hv')
  obtain ⟨_, hi⟩ := id h
  cases hq : P.info? ty with
  | none => simp [hq] at hi
  | some i =>
    have hs : i.size = n := by simpa [hq] using hi
    rw [hn] at hl
    simp [loadVar, Sem.run_bind, run_isAgg h w, sizeOf, typeInfo, hq, hs, hl]
theorem exec_load_agg {ty n : Nat} (h : AggOf P ty n) {x : Operand} (ho : o.op = .load ty x) {g off : Nat} (hx : a.eval x = .pointer (some ⟨g, off, none⟩)) {t : TypeId} {cs : Array Value} {vs : List Value} (M : Own W0 w L) (hm : .blk g t cs ∈ L) (hv : (cs.toList.drop off).take n = vs) (hn : vs.length = n) :
    (execOp a.eval o).run P w = .ok (.value (.agg vs.toArray)) w := by
  unfold execOp
  simp only [ho, hx, Instr.loadAt, Instr.sureAddr, Sem.run_bind, Sem.run_pure, Result.andThen_ok, run_load_agg h (M.heap hm) hv hn]

theorem storeCells_own : ∀ (vs : List Value) (off i : Nat) (w : World) (g : Nat) (t : TypeId) (pre mid post : List Value), mid.length = vs.length → off + i = pre.length → (∀ v ∈ vs, v.oneCell' = true) → Own W0 w (L1 ++ (.blk g t (pre ++ (mid ++ post)).toArray :: L2)) →
    ∃ w', (storeCells ⟨g, off, none⟩ vs i).run P w = .ok () w' ∧ Own W0 w' (L1 ++ (.blk g t (pre ++ (vs ++ post)).toArray :: L2)) := by
  intro vs
  induction vs with
  | nil =>
    intro off i w g t pre mid post hm _ _ M
    obtain rfl : mid = [] := List.eq_nil_of_length_eq_zero (by simpa using hm)
    exact ⟨w, by simp [storeCells], M⟩
  | cons v vs ih =>
    intro off i w g t pre mid post hm hi h1 M
    match mid, hm with
    | m :: mid, hm =>
      have M2 := M.set (off + i) v
      have e : ((pre ++ (m :: mid ++ post)).toArray.setIfInBounds (off + i) v) = ((pre ++ [v]) ++ (mid ++ post)).toArray := by
        rw [hi]
        simp
      rw [e] at M2
      obtain ⟨w', hr, M3⟩ := ih off (i + 1) _ g t (pre ++ [v]) mid post (by simpa using hm) (by simp; omega) (fun u hu => h1 u (by simp [hu])) M2
      refine ⟨w', ?_, by simpa using M3⟩
      have hc : w.cell? ⟨g, off + i, none⟩ = some m := by
        have := M.cell (g := g) (t := t) (cs := (pre ++ (m :: mid ++ post)).toArray) (by simp) (off + i)
        rw [this, hi]
        simp
      have hf := M.free (g := g) (t := t) (cs := (pre ++ (m :: mid ++ post)).toArray) (by simp) (off + i)
      unfold storeCells
      rw [Sem.run_bind, addr_add, run_store P w _ v .plain (h1 v (by simp))]
      simp only [stored, hc, hf]
      exact hr
theorem exec_store_agg {ty n : Nat} (h : (P.info? ty).map (·.size) = some n) {x y : Operand} (ho : o.op = .store ty x y) {g off : Nat} (hx : a.eval x = .pointer (some ⟨g, off, none⟩)) {t : TypeId} {pre mid post vs : List Value} (hy : a.eval y = .agg vs.toArray)
    (hn : vs.length = n) (hmid : mid.length = n) (hpre : pre.length = off) (h1 : ∀ v ∈ vs, v.oneCell' = true) (M : Own W0 w (L1 ++ (.blk g t (pre ++ (mid ++ post)).toArray :: L2))) :
    ∃ w', (execOp a.eval o).run P w = .ok .skip w' ∧ Own W0 w' (L1 ++ (.blk g t (pre ++ (vs ++ post)).toArray :: L2)) := by
  obtain ⟨w', hr, M'⟩ := storeCells_own (P := P) vs off 0 w g t pre mid post (by omega) (by omega) h1 M
  refine ⟨w', ?_, M'⟩
  cases hq : P.info? ty with
  | none => simp [hq] at h
  | some i =>
    have hs : i.size = n := by simpa [hq] using h
    unfold execOp
    simp only [ho, hx, hy, Instr.storeAt, Instr.sureAddr, Sem.run_bind, Sem.run_pure, Result.andThen_ok, storeVar, sizeOf, typeInfo]
    simp [hq, hs, Value.cells, hn, hr]

theorem run_index_ints {t e n : Nat} {k : IntKind} (ht : P.underlying t = some (.array n e)) (he : P.underlying e = some (.int k)) (hi : (P.info? e).map (·.size) = some 1) (zs : List Int) (i : Nat) (hz : zs.length = n) (hlt : i < n) (w : World) :
    (Instr.index t (.agg (ints k zs).toArray) (.int .i64 (i : Int))).run P w = .ok (.int k (zs.getD i 0)) w := by
  cases hq : P.info? e with
  | none => simp [hq] at hi
  | some j =>
    have hs : j.size = 1 := by simpa [hq] using hi
    have hagg : (isAgg e).run P w = .ok false w := by
      unfold isAgg
      rw [Sem.run_bind, run_underlying he w]
      rfl
    have hg := ints_get k zs i (by omega)
    simp only [Instr.index, asIntOf, Sem.run_bind, run_underlying ht w, Result.andThen_ok, Sem.run_pure]
    rw [if_pos ⟨by omega, by omega⟩]
    simp [part, hagg, sizeOf, typeInfo, hq, hs, Sem.run_bind, hg]
theorem gateSt {t : TypeId} {p : Tmp} {y : Operand} (_ho : o.op = .store t (.tmp p) y) (h : wpList P ops Q (o :: rest) a w) : wpList P ops Q (o :: rest) a w := h
theorem wpList_store_agg {ty n : Nat} (hw : Region.wanted o (yielded ops a.tmps) = true) (hd : o.dst = none) (h : (P.info? ty).map (·.size) = some n) {x y : Operand} (ho : o.op = .store ty x y) {g off : Nat} (hx : a.eval x = .pointer (some ⟨g, off, none⟩)) {t : TypeId} {pre mid post vs : List Value} (hy : a.eval y = .agg vs.toArray)
    (hn : vs.length = n) (hmid : mid.length = n) (hpre : pre.length = off) (h1 : ∀ v ∈ vs, v.oneCell' = true) (M : Own W0 w (L1 ++ (.blk g t (pre ++ (mid ++ post)).toArray :: L2)))
    (K : ∀ w', Own W0 w' (L1 ++ (.blk g t (pre ++ (vs ++ post)).toArray :: L2)) → wpList P ops Q rest a w') : wpList P ops Q (o :: rest) a w := by
  obtain ⟨w', hr, M'⟩ := exec_store_agg h ho hx hy hn hmid hpre h1 M
  refine wpList_skip_run hw hr ?_
  rw [hd]
  exact K w' M'
/-- A whole block is put anew. -/
theorem wpList_store_all {ty n : Nat} (hw : Region.wanted o (yielded ops a.tmps) = true) (hd : o.dst = none) (h : (P.info? ty).map (·.size) = some n) {x y : Operand} (ho : o.op = .store ty x y) {g : Nat} (hx : a.eval x = .pointer (some ⟨g, 0, none⟩)) {t : TypeId} {mid vs : List Value} (hy : a.eval y = .agg vs.toArray)
    (hn : vs.length = n) (hmid : mid.length = n) (h1 : ∀ v ∈ vs, v.oneCell' = true) (M : Own W0 w (L1 ++ (.blk g t mid.toArray :: L2)))
    (K : ∀ w', Own W0 w' (L1 ++ (.blk g t vs.toArray :: L2)) → wpList P ops Q rest a w') : wpList P ops Q (o :: rest) a w :=
  wpList_store_agg (pre := []) (post := []) (mid := mid) hw hd h ho hx hy hn hmid rfl h1 (by simpa using M) fun w' M' => K w' (by simpa using M')
theorem results_agg {fn : Func} {p : Tmp} {ty n : Nat} (h : fn.results = #[.cell p ty]) (hT : AggOf P ty n) (tmps : Array Value) {g : Nat} (hp : tmps.getD p undef = .pointer (some ⟨g, 0, none⟩)) {t : TypeId} {vs : List Value} (hg : w.heap[g]? = some (.cells vs.toArray t (0, 0))) (hn : vs.length = n) :
    (results fn tmps).run P w = .ok (.agg vs.toArray) w := by
  have hp' : tmps[p]?.getD undef = .pointer (some ⟨g, 0, none⟩) := by simpa using hp
  simp [results, h, hp', asAddr, run_load_agg hT hg (off := 0) (vs := vs) (by rw [← hn]; simp) hn]
theorem results_agg_tmp {fn : Func} {p q : Tmp} {ty n : Nat} (h : fn.results = #[.cell p ty, .tmp q]) (hT : AggOf P ty n) (tmps : Array Value) {g : Nat} (hp : tmps.getD p undef = .pointer (some ⟨g, 0, none⟩)) {t : TypeId} {vs : List Value} (hg : w.heap[g]? = some (.cells vs.toArray t (0, 0))) (hn : vs.length = n) :
    (results fn tmps).run P w = .ok (.tuple #[.agg vs.toArray, tmps.getD q undef]) w := by
  have hp' : tmps[p]?.getD undef = .pointer (some ⟨g, 0, none⟩) := by simpa using hp
  simp [results, h, hp', asAddr, run_load_agg hT hg (off := 0) (vs := vs) (by rw [← hn]; simp) hn]
end
end Go.Proofs.Yteoicpbfjkjogaa
