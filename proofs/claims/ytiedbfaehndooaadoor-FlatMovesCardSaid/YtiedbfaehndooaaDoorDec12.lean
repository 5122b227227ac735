/- Layer 12: points as an argument. -/
import Derived.Test.YtiedbfaehndooaaDoorBaseM
import Derived.Test.YtiedbfaehndooaaDoorSimpA
namespace Go.Proofs.YtiedbfaehndooaaDoor
open Go Go.RowKit
set_option linter.unusedVariables false
set_option linter.unusedSimpArgs false

abbrev shSpots : Sh := .slice 3 (.agg 3 (.cons 0 1 (.int .i16) (.cons 1 1 (.int .i16) (.cons 2 1 .bool .nil))))
theorem list3 {α : Type} {l : List α} (h : l.length = 3) : ∃ a b c, l = [a, b, c] := by
  match l, h with
  | [a, b, c], _ => exact ⟨a, b, c, rfl⟩
theorem dec_spots {w : World} {V : Value} (h : Dec w shSpots [V]) : ∃ ps : List (Int × Int × Bool), SliceAt w w.heap.size 3 V ps.length (spC ps) ∧ ∀ p ∈ ps, I16 p.1 ∧ I16 p.2.1 := by
  obtain ⟨v, n, xs, e, hs, hd⟩ := h
  simp only [List.cons.injEq, and_true] at e
  subst e
  obtain ⟨bs, h1, h2, h3⟩ := chunks (fun m : Int × Int × Bool => [Value.int .i16 m.1, Value.int .i16 m.2.1, Value.bool m.2.2]) (fun m => I16 m.1 ∧ I16 m.2.1) 3 n xs hs.len fun i hi => by
    obtain ⟨hl, ⟨a, e0, wa⟩, ⟨b, e1, wb⟩, ⟨c, e2⟩, -⟩ := hd i hi
    obtain ⟨p, q, r, e⟩ := list3 hl
    rw [e] at e0 e1 e2
    simp only [List.drop_zero, List.drop_succ_cons, List.take_succ_cons, List.take_zero, List.cons.injEq, and_true] at e0 e1 e2
    subst e0 e1 e2
    exact ⟨(a, b, c), e, wf_i16 wa, wf_i16 wb⟩
  subst h1
  exact ⟨bs, by unfold spC; rw [← h2]; exact hs, h3⟩
end Go.Proofs.YtiedbfaehndooaaDoor
