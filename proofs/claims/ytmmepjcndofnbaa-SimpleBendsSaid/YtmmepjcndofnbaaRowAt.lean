/- A cell of a row that is owned. -/
import Derived.Test.YtmmepjcndofnbaaRowSet
import Derived.Test.YtmmepjcndofnbaaSimpR
namespace Go.Proofs.Ytmmepjcndofnbaa
open Go Go.RowKit
section
variable {W0 w : World} {L : List Ent}
theorem Own.row_ad {e : TypeId} {n c : Nat} {A : Option Addr} {vs : List Value} (M : Own W0 w L) (h : .row e 1 (.slice A n c) n vs ∈ L) (hn : 0 < n) : ∃ ad, A = some ad := by
  obtain ⟨g, e⟩ := M.row_at h hn
  exact ⟨_, e⟩
theorem Own.at {e : TypeId} {n c j : Nat} {ad : Addr} {k : IntKind} {xs : List Int} {x : Int} (M : Own W0 w L) (h : .row e 1 (.slice (some ad) n c) n (ints k xs) ∈ L) (hl : xs.length = n) (hj : j < n) (hx : xs.getD j 0 = x) : w.cell? (ad.add j) = some (.int k x) := by
  obtain ⟨A, c', he, -, -, -, hr⟩ := M.slice h
  injection he with e1 e2 e3
  subst e1
  obtain ⟨ad', h1, h2⟩ := hr.cell (ints_get k xs j (by omega))
  injection h1 with h1
  subst h1
  rw [h2, hx]
end
end Go.Proofs.Ytmmepjcndofnbaa
