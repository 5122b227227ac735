/- What is shared by the readers of glyphs: a glyph's box, a reader beside blocks that are written. -/
import Derived.Test.YtiedbfaehndooaaDoorCompG
namespace Go.Proofs.YtiedbfaehndooaaDoor
open Go Go.RowKit
set_option linter.unusedVariables false
set_option linter.unusedSimpArgs false
set_option maxRecDepth 100000

section
variable {P : Program} {w : World}
theorem results_agg_tmps2C {fn : Func} {p q s : Tmp} {ty n : Nat} (h : fn.results = #[.cell p ty, .tmp q, .tmp s]) (hT : AggOf P ty n) (tmps : Array Value) {g : Nat} (hp : tmps.getD p undef = .pointer (some ⟨g, 0, none⟩)) {t : TypeId} {vs : List Value} (hg : w.heap[g]? = some (.cells vs.toArray t (0, 0))) (hn : vs.length = n) :
    (results fn tmps).run P w = .ok (.tuple #[.agg vs.toArray, tmps.getD q undef, tmps.getD s undef]) w := by
  have hp' : tmps[p]?.getD undef = .pointer (some ⟨g, 0, none⟩) := by simpa using hp
  simp [results, h, hp', asAddr, run_load_agg hT hg (off := 0) (vs := vs) (by rw [← hn]; simp) hn]
end
section
variable {P : Program} {ops : Array Oper} {o : Oper} {a : Act} {Q : Exit → Act → World → Prop} {K : Act → World → Prop} {E : Prop} {W0 w : World} {L1 L2 : List Ent}
theorem step_store_allC {ty n : Nat} (hgd : o.guard = none) (hd : o.dst = none) (h : (P.info? ty).map (·.size) = some n) {x y : Operand} (ho : o.op = .store ty x y) {g : Nat} (hx : a.eval x = .pointer (some ⟨g, 0, none⟩)) {t : TypeId} {mid vs : List Value} (hy : a.eval y = .agg vs.toArray)
    (hn : vs.length = n) (hmid : mid.length = n) (h1 : ∀ v ∈ vs, v.oneCell' = true) (M : Own W0 w (L1 ++ (.blk g t mid.toArray :: L2)))
    (hK : ∀ w', Own W0 w' (L1 ++ (.blk g t vs.toArray :: L2)) → K a w') : if Region.wanted o (yielded ops a.tmps) = true then Oper.wp P o a w K Q else E := by
  have hw : Region.wanted o (yielded ops a.tmps) = true := by simp [Region.wanted, hgd]
  rw [if_pos hw]
  obtain ⟨w', hr, M'⟩ := exec_store_agg (pre := []) (post := []) (mid := mid) h ho hx hy hn hmid rfl h1 (by simpa using M)
  unfold Oper.wp
  rw [hr]
  have := hK w' (by simpa using M')
  simpa [Oper.upon, hd, Act.put] using this
end
/-- The box, so far read. -/
def boxKC (l : List Int) (j : Nat) : List Int := (List.range j).map (fun i => sgn (n2 l (2 + 2 * i))) ++ List.replicate (4 - j) 0
theorem boxK_lengthC (l : List Int) {j : Nat} (h : j ≤ 4) : (boxKC l j).length = 4 := by simp [boxKC]; omega
theorem boxK_setC (l : List Int) {j : Nat} (h : j < 4) : (boxKC l j).set j (sgn (n2 l (2 + 2 * j))) = boxKC l (j + 1) := by
  unfold boxKC
  rw [List.set_append_right _ _ (by simp), show 4 - j = (4 - (j + 1)) + 1 by omega, List.replicate_succ]
  simp [List.range_succ]
section
variable {W0 w : World} {L : List Ent} {m : Nat} {zs : List Int} {R : List Value}
theorem gb_cellC (M : Own W0 w (.blk m 40 (ints .i16 zs ++ R).toArray :: L)) {i : Nat} (h : i < zs.length) : w.cell? ⟨m, i, none⟩ = some (.int .i16 (zs.getD i 0)) ∧ w.frozen? ⟨m, i, none⟩ = false := by
  refine ⟨?_, M.free (.head _) i⟩
  rw [M.cell (.head _)]
  rw [List.getElem?_toArray, List.getElem?_append_left (by rw [ints_length]; exact h)]
  exact ints_get .i16 zs i h
theorem gb_setC (M : Own W0 w (.blk m 40 (ints .i16 zs ++ R).toArray :: L)) {i : Nat} (h : i < zs.length) (x : Int) : Own W0 (w.setCell ⟨m, i, none⟩ (.int .i16 x)) (.blk m 40 (ints .i16 (zs.set i x) ++ R).toArray :: L) := by
  have := M.set (L1 := []) i (.int .i16 x)
  rw [List.nil_append, List.setIfInBounds_toArray, List.set_append_left _ _ (by rw [ints_length]; exact h)] at this
  have e : (ints .i16 zs).set i (.int .i16 x) = ints .i16 (zs.set i x) := by unfold ints; rw [List.map_set]
  rwa [e] at this
end
section
variable {W0 w : World} {L L1 L2 : List Ent} {b k : Nat} {l : List Int} {g : Nat} {t : TypeId} {cs : Array Value}
theorem RS.setC (h : RS W0 w b l k (L1 ++ (.blk g t cs :: L2))) (i : Nat) (u : Value) : RS W0 (w.setCell ⟨g, i, none⟩ u) b l k (L1 ++ (.blk g t (cs.setIfInBounds i u) :: L2)) := by
  obtain ⟨v, a, bad, M, h1, h2, h3⟩ := h.opened
  rw [List.append_assoc] at M
  have := M.set i u
  exact RS.shut (by rw [List.append_assoc]; exact this) h1 h2 h3
theorem RS.cellfC (h : RS W0 w b l k L) (hm : .blk g t cs ∈ L) (i : Nat) : w.cell? ⟨g, i, none⟩ = cs[i]? ∧ w.frozen? ⟨g, i, none⟩ = false := ⟨h.beside.cell hm i, h.beside.free hm i⟩
end
end Go.Proofs.YtiedbfaehndooaaDoor
