/- A value is itself: structs and arrays are compared. -/
import Derived.Test.YteoicpbfjkjogaaAgg
import Derived.ChangeKeysEq
import Derived.Laws.StructEq
namespace Go.Proofs.Yteoicpbfjkjogaa
open Go Go.RowKit
set_option linter.unusedVariables false
set_option linter.unusedSimpArgs false
section
variable {P : Program}
theorem run_part_one {e : TypeId} {k : IntKind} (he : P.underlying e = some (.int k)) (hi : (P.info? e).map (·.size) = some 1) {xs : Array Value} {off : Nat} {v : Value} (hv : xs[off]? = some v) (w : World) : (part e xs off).run P w = .ok v w := by
  have hagg : (isAgg e).run P w = .ok false w := by
    unfold isAgg
    rw [Sem.run_bind, run_underlying he w]
    rfl
  simp [part, hagg, Sem.run_bind, hv]
theorem run_part_agg {e n : Nat} (he : AggOf P e n) {xs : Array Value} {off : Nat} {vs : List Value} (hv : (xs.toList.drop off).take n = vs) (hn : off + n ≤ xs.size) (w : World) : (part e xs off).run P w = .ok (.agg vs.toArray) w := by
  obtain ⟨_, hi⟩ := id he
  cases hq : P.info? e with
  | none => simp [hq] at hi
  | some j =>
    have hs : j.size = n := by simpa [hq] using hi
    have e1 : xs.extract off (off + n) = vs.toArray := by
      apply Array.ext'
      rw [← hv]
      simp [Array.toList_extract, List.extract]
    simp [part, run_isAgg he w, sizeOf, typeInfo, hq, hs, Sem.run_bind, e1]
theorem int_self {e : TypeId} {k : IntKind} (he : P.underlying e = some (.int k)) (d : Nat) (a : Int) (w : World) : (Op.equalIn (d + 1) e (.int k a) (.int k a)).run P w = .ok true w := by
  simp [Op.equalIn, run_underlying he, Sem.run_bind]
theorem arr_self {t e n : Nat} {k : IntKind} (hu : P.underlying t = some (.array n e)) (he : P.underlying e = some (.int k)) (hi : (P.info? e).map (·.size) = some 1) {zs : List Int} (hz : zs.length = n) (d : Nat) (w : World) :
    (Op.equalIn (d + 2) t (.agg (ints k zs).toArray) (.agg (ints k zs).toArray)).run P w = .ok true w := by
  cases hq : P.info? e with
  | none => simp [hq] at hi
  | some j =>
    have hs : P.cellsOf e = 1 := by simpa [hq, Program.cellsOf] using hi
    rw [run_equalIn_array w (d + 1) _ _ hu hq, hs]
    have : ∀ is : List Nat, (∀ i ∈ is, i < n) → (Op.eqItems (d + 1) e 1 (ints k zs).toArray (ints k zs).toArray is).run P w = .ok true w := by
      intro is
      induction is with
      | nil => intro _; simp [Op.eqItems]
      | cons i is ih =>
        intro h
        have hg := ints_get k zs i (by have := h i (by simp); omega)
        have h1 : (part e (ints k zs).toArray (i * 1)).run P w = .ok (.int k (zs.getD i 0)) w := run_part_one he hi (by simpa using hg) w
        simp only [Op.eqItems, Sem.run_bind, h1, Result.andThen_ok, int_self he d, Bool.not_true, Bool.false_eq_true, if_false]
        exact ih fun j hj => h j (by simp [hj])
    exact this _ (by simp)
end
end Go.Proofs.Yteoicpbfjkjogaa
