/- A cell of a row of the call's own is written. -/
import Derived.Test.YteoicpbfjkjogaaAgg
import Derived.Test.YteoicpbfjkjogaaRefA
namespace Go.Proofs.Yteoicpbfjkjogaa
open Go Go.RowKit
set_option linter.unusedVariables false
set_option linter.unusedSimpArgs false
section
variable {W0 w : World} {L L1 L2 : List Ent}
/-- Where a row of something begins. -/
theorem Own.row_at {e : TypeId} {sz n c : Nat} {A : Option Addr} {xs : List Value} (M : Own W0 w L) (h : .row e sz (.slice A n c) n xs ∈ L) (hn : 0 < n) : ∃ g, A = some ⟨g, 0, none⟩ := by
  obtain ⟨_, h0 | ⟨g, cap, cs, hv, -⟩⟩ := M.ok _ h
  · obtain ⟨-, h0, -⟩ := h0; omega
  · injection hv with h1 _ _
    exact ⟨g, h1⟩
theorem Own.row_set {e : TypeId} {sz n c g : Nat} {xs : List Value} (M : Own W0 w (L1 ++ (.row e sz (.slice (some ⟨g, 0, none⟩) n c) n xs :: L2))) (i : Nat) (hi : i < n * sz) (u : Value) :
    Own W0 (w.setCell ⟨g, i, none⟩ u) (L1 ++ (.row e sz (.slice (some ⟨g, 0, none⟩) n c) n (xs.set i u) :: L2)) ∧ w.cell? ⟨g, i, none⟩ = xs[i]? ∧ w.frozen? ⟨g, i, none⟩ = false := by
  obtain ⟨hl, h0 | ⟨g', cap, cs, hv, h1, h2, h3, h4, h5, h6⟩⟩ := M.ok (.row e sz (.slice (some ⟨g, 0, none⟩) n c) n xs) (by simp)
  · obtain ⟨h0, -⟩ := h0; cases h0
  injection hv with e1 e2 e3
  injection e1 with e1
  injection e1 with e1
  subst e1 e3
  have hc : i < cs.size := by rw [h5]; exact Nat.lt_of_lt_of_le hi (Nat.mul_le_mul_right _ h3)
  refine ⟨?_, ?_, ?_⟩
  · refine Own.step (As := [.row e sz (.slice (some ⟨g, 0, none⟩) n c) n xs]) (Bs := [.row e sz (.slice (some ⟨g, 0, none⟩) n c) n (xs.set i u)]) M (by simp [Ent.mine]) rfl rfl rfl (by simp [World.setCell]) (fun k hk hx => Below.heap_setCell _ _ _ _ (fun e => ?_)) ?_ (by simp) ?_
    · simp only [List.mem_singleton, forall_eq] at hx
      exact hx (by simp [Ent.foot, Value.ownBlock]; exact e.symm)
    · simp only [List.mem_singleton, forall_eq]
      refine ⟨by simpa using hl, .inr ⟨g, c, cs.setIfInBounds i u, rfl, h1, ?_, h3, h4, by simpa using h5, ?_⟩⟩
      · simp [World.setCell, Array.getElem?_modify, h2]
      · rw [← h6, Array.toList_setIfInBounds, List.take_set]
    · simp only [List.mem_singleton, forall_eq, exists_eq_left]
      exact fun k hk => .inl hk
  · rw [cell_of_row w g i cs e (0, 0) h2, ← h6, List.getElem?_take]
    simp [hi]
  · simp [World.frozen?, h2]
theorem Own.bytes {e : TypeId} {n : Nat} {v : Value} {l : List Int} (M : Own W0 w L) (h : .row e 1 v n (ints .u8 l) ∈ L) (hn : l.length = n) : BytesAt w v l := by
  subst hn; exact M.slice h
end
end Go.Proofs.Yteoicpbfjkjogaa
