/- Layer 7: metrics as an argument. -/
import Derived.Test.YtpfgcadlgabaeaaOpen
import Derived.Test.YtpfgcadlgabaeaaHmtxB
namespace Go.Proofs.Ytpfgcadlgabaeaa
open Go Go.RowKit
set_option linter.unusedVariables false
set_option linter.unusedSimpArgs false

abbrev shMets : Sh := .slice 2 (.agg 2 (.cons 0 1 (.int .u16) (.cons 1 1 (.int .i16) .nil)))
theorem list2 {α : Type} {l : List α} (h : l.length = 2) : ∃ a b, l = [a, b] := by
  match l, h with
  | [a, b], _ => exact ⟨a, b, rfl⟩
theorem dec_mets {w : World} {V : Value} (h : Dec w shMets [V]) : ∃ ms : List (Int × Int), SliceAt w w.heap.size 2 V ms.length (mtC ms) ∧ Mets ms := by
  obtain ⟨v, n, xs, e, hs, hd⟩ := h
  simp only [List.cons.injEq, and_true] at e
  subst e
  obtain ⟨bs, h1, h2, h3⟩ := chunks (fun m : Int × Int => [Value.int .u16 m.1, Value.int .i16 m.2]) (fun m => (0 ≤ m.1 ∧ m.1 < 65536) ∧ (-32768 ≤ m.2 ∧ m.2 < 32768)) 2 n xs hs.len fun i hi => by
    obtain ⟨hl, ⟨a, e0, wa⟩, ⟨b, e1, wb⟩, -⟩ := hd i hi
    obtain ⟨p, q, e⟩ := list2 hl
    rw [e] at e0 e1
    simp only [List.drop_zero, List.drop_succ_cons, List.take_succ_cons, List.take_zero, List.cons.injEq, and_true] at e0 e1
    subst e0 e1
    exact ⟨(a, b), e, wf_u16 wa, wf_i16 wb⟩
  subst h1
  have hm : ∀ i, i < bs.length → bs.getD i (0, 0) ∈ bs := fun i hi => by
    have : bs.getD i (0, 0) = bs[i] := by simp [List.getD, hi]
    rw [this]; exact List.getElem_mem hi
  exact ⟨bs, by unfold mtC; rw [← h2]; exact hs, ⟨fun i hi => (h3 _ (hm i hi)).1, fun i hi => (h3 _ (hm i hi)).2⟩⟩
end Go.Proofs.Ytpfgcadlgabaeaa
